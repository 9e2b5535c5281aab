/- Walks, as printed. -/
import Derived.Test.YtdeglnbioiicaaaWlk29
import Derived.Test.YtdeglnbioiicaaaProg
set_option linter.unusedVariables false
namespace Go.Proofs.Ytdeglnbioiicaaa.Al
open Go.Proofs
set_option maxHeartbeats 4000000 in
set_option maxRecDepth 20000 in
theorem w_delta_writer_flush {w1 : Delta_Writer} {r : Delta_Writer} {gb1000 : Nat} {ga1001 : Nat} {ga1002 : Nat} (h : delta_writer_flush w1 = some r) : AHC Try.prog 122 3 [.ptr 1000 gb1000 0 0] [(1000, some (.box gb1000 121 [.own 1001 ga1001, .own 1002 ga1002, .r (.int .i64 w1.cut)])), (1001, some (.arr ga1001 49 4 (w1.out.map GStep.row))), (1002, some (.arr ga1002 113 3 (w1.add.map GElem.row)))] (fun rr h' => ∃ (i : Nat → Nat), rr = .tup [] ∧ h' = [(1000, some (.box gb1000 121 [.own 1001 (i 0), .cst (.slice none 0 0), .r (.int .i64 r.cut)])), (1001, some (.arr (i 0) 49 4 (r.out.map GStep.row)))]) := by
  unfold delta_writer_flush at h
  refine AHC.mkw Try.func122 rfl rfl Try.ntmps122 (Nat.le_of_ble_eq_true rfl) fun n0 => ?_
  refine AW.seq_w fun K1 hK1 wK1 => ?_
  refine AW.seq_w fun K2 hK2 wK2 => ?_
  refine AW.region ?_
  refine AOps.step rfl rfl rfl (OpQ.spec (sp_move rfl (.inl rfl)) _) ?_
  refine AOps.step rfl rfl rfl (OpQ.spec (sp_nilCheck_own (ob := .box _ _ _) rfl (.inl rfl) (fun _ => rfl) rfl) _) ?_
  refine AOps.step rfl rfl rfl (OpQ.spec (sp_fieldAddr_own (ob := .box _ _ _) rfl tf_121_1 (.inl rfl) (fun _ => rfl) rfl) _) ?_
  refine AOps.step rfl rfl rfl (OpQ.spec (ms_load_box (a := .own 1002 ga1002) rfl ts_39 (.inl rfl) rfl rfl) _) ?_
  refine AOps.step rfl rfl rfl (OpQ.spec (ms_len_own rfl tg_39.slice (.inl rfl) rfl) _) ?_
  refine AOps.step rfl rfl rfl (OpQ.spec (sp_gtr rfl (.inl rfl) (.inl rfl)) _) ?_
  refine AOps.nil ?_
  refine hK2 _ ?_
  refine jb1k h fun p1 hp1 hk1 => ?_
  have J1 : ∀ (w2 : Delta_Writer) (i1 : Nat → Nat), p1 = w2 → K1 ⟨[(0, .ptr 1000 gb1000 0 0)], [(1000, some (.box gb1000 121 [.own 1001 (i1 0), .r (.sl (w2.add.map GElem.row)), .r (.int .i64 w2.cut)])), (1001, some (.arr (i1 0) 49 4 (w2.out.map GStep.row)))], (i1 1), 47⟩ := by
    intro w2 i1 e
    have h1 := hk1 _ e
    refine hK1 _ ?_
    refine AW.seq_w fun K3 hK3 wK3 => ?_
    refine AW.seq_w fun K4 hK4 wK4 => ?_
    refine AW.region ?_
    refine AOps.step rfl rfl rfl (OpQ.spec (sp_move rfl (.inl rfl)) _) ?_
    refine AOps.step rfl rfl rfl (OpQ.spec (sp_nilCheck_own (ob := .box _ _ _) rfl (.inl rfl) (fun _ => rfl) rfl) _) ?_
    refine AOps.step rfl rfl rfl (OpQ.spec (sp_fieldAddr_own (ob := .box _ _ _) rfl tf_121_2 (.inl rfl) (fun _ => rfl) rfl) _) ?_
    refine AOps.step rfl rfl rfl (OpQ.spec (ms_load_box (a := .r (.int .i64 w2.cut)) rfl ts_3 (.inl rfl) rfl rfl) _) ?_
    refine AOps.step rfl rfl rfl (OpQ.spec (sp_gtr rfl (.inl rfl) (.inl rfl)) _) ?_
    refine AOps.nil ?_
    refine hK4 _ ?_
    refine jb1k h1 fun p2 hp2 hk2 => ?_
    have J2 : ∀ (w3 : Delta_Writer) (i2 : Nat → Nat), p2 = w3 → K3 ⟨[(0, .ptr 1000 gb1000 0 0)], [(1000, some (.box gb1000 121 [.own 1001 (i2 0), .r (.sl (w3.add.map GElem.row)), .r (.int .i64 w3.cut)])), (1001, some (.arr (i2 0) 49 4 (w3.out.map GStep.row)))], (i2 1), 47⟩ := by
      intro w3 i2 e
      have h2 := hk2 _ e
      refine hK3 _ ?_
      refine AW.region ?_
      refine AOps.step rfl rfl rfl (OpQ.spec (sp_move rfl (.inl rfl)) _) ?_
      refine AOps.step rfl rfl rfl (OpQ.spec (sp_move rfl (.inl rfl)) _) ?_
      refine AOps.step rfl rfl rfl (OpQ.spec (sp_nilCheck_own (ob := .box _ _ _) rfl (.inl rfl) (fun _ => rfl) rfl) _) ?_
      refine AOps.step rfl rfl rfl (OpQ.spec (sp_fieldAddr_own (ob := .box _ _ _) rfl tf_121_1 (.inl rfl) (fun _ => rfl) rfl) _) ?_
      refine AOps.step0 rfl rfl (ms_store_box (ds := [.own 1001 (i2 0), .cst (.slice none 0 0), .r (.int .i64 w3.cut)]) rfl tz_39 (.inl rfl) rfl (.inl rfl) rfl rfl rfl rfl) ?_
      refine AOps.step rfl rfl rfl (OpQ.spec (sp_nilCheck_own (ob := .box _ _ _) rfl (.inl rfl) (fun _ => rfl) rfl) _) ?_
      refine AOps.step rfl rfl rfl (OpQ.spec (sp_fieldAddr_own (ob := .box _ _ _) rfl tf_121_2 (.inl rfl) (fun _ => rfl) rfl) _) ?_
      refine AOps.step0 rfl rfl (ms_store_box (ds := [.own 1001 (i2 0), .cst (.slice none 0 0), .r (.int .i64 0)]) rfl tz_3 (.inl rfl) rfl (.inl rfl) rfl rfl rfl rfl) ?_
      refine AOps.nil ?_
      exact RetW.mk (s' := ⟨[], [(1000, some (.box gb1000 121 [.own 1001 (i2 0), .cst (.slice none 0 0), .r (.int .i64 0)])), (1001, some (.arr (i2 0) 49 4 (w3.out.map GStep.row)))], (i2 1), 47⟩) ((by exact Weak.cv trivial ⟨.inl rfl, .inl rfl, trivial⟩ (Nat.le_refl _))) (reth_cast (fun (r : Delta_Writer) rr h' => ∃ (i : Nat → Nat), rr = .tup [] ∧ h' = [(1000, some (.box gb1000 121 [.own 1001 (i 0), .cst (.slice none 0 0), .r (.int .i64 r.cut)])), (1001, some (.arr (i 0) 49 4 (r.out.map GStep.row)))]) h2 (by exact ⟨.tup [], [(1000, some (.box gb1000 121 [.own 1001 (i2 0), .cst (.slice none 0 0), .r (.int .i64 0)])), (1001, some (.arr (i2 0) 49 4 (w3.out.map GStep.row)))], ⟨_, rfl, trivial⟩, ⟨.inr rfl, .inr rfl, trivial⟩, rfl, rfl, vec [(i2 0)], rfl, rfl⟩))
    refine AW.cond rfl (fun hc1 => ?_) (fun hc1 => ?_)
    · have h3 := ite_t hc1 hp2
      refine AW.regionF' [0] [1, 2, 3, 4, 5, 6, 7, 8, 9] [10] 11 hmix (by kernel_rfl) rfl rfl rfl rfl rfl ?_
      refine AFl.move rfl rfl rfl rfl ?_
      refine AFl.nil ?_
      refine AF.step rfl rfl rfl (sp_move rfl (.inl rfl)) ?_
      refine AF.step rfl rfl rfl (sp_nilCheck_own (ob := .box _ _ _) rfl (.inl rfl) (fun _ => rfl) rfl) ?_
      refine AF.step rfl rfl rfl (sp_fieldAddr_own (ob := .box _ _ _) rfl tf_121_0 (.inl rfl) (fun _ => rfl) rfl) ?_
      refine AF.step rfl rfl rfl (ms_load_box (a := .own 1001 (i1 0)) rfl ts_42 (.inl rfl) rfl rfl) ?_
      refine AF.step rfl rfl rfl (sp_move rfl (.inl rfl)) ?_
      refine AF.step rfl rfl rfl (sp_nilCheck_own (ob := .box _ _ _) rfl (.inl rfl) (fun _ => rfl) rfl) ?_
      refine AF.step rfl rfl rfl (sp_fieldAddr_own (ob := .box _ _ _) rfl tf_121_2 (.inl rfl) (fun _ => rfl) rfl) ?_
      refine AF.step rfl rfl rfl (ms_load_box (a := .r (.int .i64 w2.cut)) rfl ts_3 (.inl rfl) rfl rfl) ?_
      refine AF.step rfl rfl rfl (sp_build rfl tb_49 (q := [(0, _), (1, _)]) (by exact ⟨rfl, rfl, rfl, (.inl rfl), rfl, rfl, rfl, (.inl rfl), trivial⟩) (cs := [.r (.int .i64 2), .r (.int .i64 w2.cut), .cst (.slice none 0 0), .cst (.slice none 0 0)]) (by rfl)) ?_
      refine AF.nil ?_
      refine AA.step rfl rfl rfl (msA_lit 37 rfl tg_42 (f := GStep.row) (l := ([(GStep.mk 2 w2.cut [] [])] : List GStep)) ⟨rfl, ⟨_, (.inl rfl), rfl⟩, trivial⟩ rfl (fun _ => rfl) rfl) ?_
      refine AA.nil ?_
      refine ob1k h3 fun l1 el1 h4 => ?_
      refine AOps.step rfl rfl rfl (ms_app rfl tg_42 (.inl rfl) rfl (.inr (.inl ⟨_, _, (.inl rfl), rfl⟩)) el1) ?_
      refine AOps.step rfl rfl rfl (OpQ.spec (sp_nilCheck_own (ob := .box _ _ _) rfl (.inl rfl) (fun _ => rfl) rfl) _) ?_
      refine AOps.step rfl rfl rfl (OpQ.spec (sp_fieldAddr_own (ob := .box _ _ _) rfl tf_121_0 (.inl rfl) (fun _ => rfl) rfl) _) ?_
      refine AOps.step0 rfl rfl (ms_store_box (ds := [.own 1001 ((i1 1) + 1), .r (.sl (w2.add.map GElem.row)), .r (.int .i64 w2.cut)]) rfl tz_42 (.inl rfl) rfl (.inl rfl) rfl rfl rfl rfl) ?_
      refine AOps.nil ?_
      exact wK3 _ _ ((by exact Weak.cv ⟨.inl (.inl rfl), trivial⟩ ⟨.inl rfl, .inl rfl, trivial⟩ (Nat.le_refl _))) (J2 _ (vec [((i1 1) + 1), ((i1 1) + 2)]) (Option.some.inj h4).symm)
    · have h3 := ite_f hc1 hp2
      refine AW.skip ?_
      exact wK3 _ _ ((by exact Weak.cv ⟨.inl (.inl rfl), trivial⟩ ⟨.inl rfl, .inl rfl, trivial⟩ (Nat.le_refl _))) (J2 _ (vec [(i1 0), (i1 1)]) (Option.some.inj h3).symm)
  refine AW.cond rfl (fun hc2 => ?_) (fun hc2 => ?_)
  · have h5 := ite_t hc2 hp1
    refine AW.weak (by exact Weak.frz (e' := [(0, .ptr 1000 gb1000 0 0), (2, .ptr 1000 gb1000 0 0), (3, .ptr 1000 gb1000 0 0), (4, .ptr 1000 gb1000 0 1), (5, .r (.sl (w1.add.map GElem.row))), (6, .r (.int .i64 (w1.add.length : Int))), (7, .r (.bool (decide (0 < (w1.add.length : Int)))))]) (h' := [(1000, some (.box gb1000 121 [.own 1001 ga1001, .r (.sl (w1.add.map GElem.row)), .r (.int .i64 w1.cut)])), (1001, some (.arr ga1001 49 4 (w1.out.map GStep.row)))]) 1002 rfl ⟨.inl (.inl rfl), .inl (.inl rfl), .inl (.inl rfl), .inl (.inl rfl), .inl (.inr (.inr ⟨rfl, rfl⟩)), .inl (.inl rfl), .inl (.inl rfl), trivial⟩ ⟨rfl, .inr (.inr (.inl ⟨_, _, _, _, rfl, rfl, ⟨.inl rfl, .inr (.inr ⟨rfl, rfl⟩), .inl rfl, trivial⟩⟩)), rfl, .inl rfl, trivial⟩) ?_
    refine AW.regionF' [0] [1, 2, 3, 4, 5, 6, 7, 8, 9] [10] 11 hmix (by kernel_rfl) rfl rfl rfl rfl rfl ?_
    refine AFl.move rfl rfl rfl rfl ?_
    refine AFl.nil ?_
    refine AF.step rfl rfl rfl (sp_move rfl (.inl rfl)) ?_
    refine AF.step rfl rfl rfl (sp_nilCheck_own (ob := .box _ _ _) rfl (.inl rfl) (fun _ => rfl) rfl) ?_
    refine AF.step rfl rfl rfl (sp_fieldAddr_own (ob := .box _ _ _) rfl tf_121_0 (.inl rfl) (fun _ => rfl) rfl) ?_
    refine AF.step rfl rfl rfl (ms_load_box (a := .own 1001 ga1001) rfl ts_42 (.inl rfl) rfl rfl) ?_
    refine AF.step rfl rfl rfl (sp_move rfl (.inl rfl)) ?_
    refine AF.step rfl rfl rfl (sp_nilCheck_own (ob := .box _ _ _) rfl (.inl rfl) (fun _ => rfl) rfl) ?_
    refine AF.step rfl rfl rfl (sp_fieldAddr_own (ob := .box _ _ _) rfl tf_121_1 (.inl rfl) (fun _ => rfl) rfl) ?_
    refine AF.step rfl rfl rfl (ms_load_box (a := .r (.sl (w1.add.map GElem.row))) rfl ts_39 (.inl rfl) rfl rfl) ?_
    refine AF.step rfl rfl rfl (sp_build rfl tb_49 (q := [(0, _), (3, _)]) (by exact ⟨rfl, rfl, rfl, (.inl rfl), rfl, rfl, rfl, (.inl rfl), trivial⟩) (cs := [.r (.int .i64 1), .r (.int .i64 0), .cst (.slice none 0 0), .r (.sl (w1.add.map GElem.row))]) (by rfl)) ?_
    refine AF.nil ?_
    refine AA.step rfl rfl rfl (msA_lit 18 rfl tg_42 (f := GStep.row) (l := ([(GStep.mk 1 0 [] w1.add)] : List GStep)) ⟨rfl, ⟨_, (.inl rfl), rfl⟩, trivial⟩ rfl (fun _ => rfl) rfl) ?_
    refine AA.nil ?_
    refine ob1k h5 fun l2 el2 h6 => ?_
    refine AOps.step rfl rfl rfl (ms_app rfl tg_42 (.inl rfl) rfl (.inr (.inl ⟨_, _, (.inl rfl), rfl⟩)) el2) ?_
    refine AOps.step rfl rfl rfl (OpQ.spec (sp_nilCheck_own (ob := .box _ _ _) rfl (.inl rfl) (fun _ => rfl) rfl) _) ?_
    refine AOps.step rfl rfl rfl (OpQ.spec (sp_fieldAddr_own (ob := .box _ _ _) rfl tf_121_0 (.inl rfl) (fun _ => rfl) rfl) _) ?_
    refine AOps.step0 rfl rfl (ms_store_box (ds := [.own 1001 (n0 + 1), .r (.sl (w1.add.map GElem.row)), .r (.int .i64 w1.cut)]) rfl tz_42 (.inl rfl) rfl (.inl rfl) rfl rfl rfl rfl) ?_
    refine AOps.nil ?_
    exact wK1 _ _ ((by exact Weak.cv ⟨.inl (.inl rfl), trivial⟩ ⟨.inl rfl, .inl rfl, trivial⟩ (Nat.le_refl _))) (J1 _ (vec [(n0 + 1), (n0 + 2)]) (Option.some.inj h6).symm)
  · have h5 := ite_f hc2 hp1
    refine AW.skip ?_
    exact wK1 _ _ (Weak.trans (by exact Weak.frz (e' := [(0, .ptr 1000 gb1000 0 0), (2, .ptr 1000 gb1000 0 0), (3, .ptr 1000 gb1000 0 0), (4, .ptr 1000 gb1000 0 1), (5, .r (.sl (w1.add.map GElem.row))), (6, .r (.int .i64 (w1.add.length : Int))), (7, .r (.bool (decide (0 < (w1.add.length : Int)))))]) (h' := [(1000, some (.box gb1000 121 [.own 1001 ga1001, .r (.sl (w1.add.map GElem.row)), .r (.int .i64 w1.cut)])), (1001, some (.arr ga1001 49 4 (w1.out.map GStep.row)))]) 1002 rfl ⟨.inl (.inl rfl), .inl (.inl rfl), .inl (.inl rfl), .inl (.inl rfl), .inl (.inr (.inr ⟨rfl, rfl⟩)), .inl (.inl rfl), .inl (.inl rfl), trivial⟩ ⟨rfl, .inr (.inr (.inl ⟨_, _, _, _, rfl, rfl, ⟨.inl rfl, .inr (.inr ⟨rfl, rfl⟩), .inl rfl, trivial⟩⟩)), rfl, .inl rfl, trivial⟩) (by exact Weak.cv ⟨.inl (.inl rfl), trivial⟩ ⟨.inl rfl, .inl rfl, trivial⟩ (Nat.le_refl _))) (J1 _ (vec [ga1001, n0]) (Option.some.inj h5).symm)
set_option maxHeartbeats 4000000 in
set_option maxRecDepth 20000 in
theorem w_delta_writer_keep {w1 : Delta_Writer} {n1 : Int} {attrs1 : List GAttr} {r : Delta_Writer} {gb1000 : Nat} {ga1001 : Nat} {ga1002 : Nat} (h : delta_writer_keep w1 n1 attrs1 = some r) : AHC Try.prog 84 3 [.ptr 1000 gb1000 0 0, .r (.int .i64 n1), .r (.sl (attrs1.map GAttr.row))] [(1000, some (.box gb1000 121 [.own 1001 ga1001, .own 1002 ga1002, .r (.int .i64 w1.cut)])), (1001, some (.arr ga1001 49 4 (w1.out.map GStep.row))), (1002, some (.arr ga1002 113 3 (w1.add.map GElem.row)))] (fun rr h' => ∃ (i : Nat → Nat), rr = .tup [] ∧ h' = [(1000, some (.box gb1000 121 [.own 1001 (i 0), .own 1002 (i 1), .r (.int .i64 r.cut)])), (1001, some (.arr (i 0) 49 4 (r.out.map GStep.row))), (1002, some (.arr (i 1) 113 3 (r.add.map GElem.row)))]) := by
  unfold delta_writer_keep at h
  refine AHC.mkw Try.func84 rfl rfl Try.ntmps84 (Nat.le_of_ble_eq_true rfl) fun n0 => ?_
  refine AW.seq_w fun K1 hK1 wK1 => ?_
  refine AW.seq_w fun K2 hK2 wK2 => ?_
  refine AW.region ?_
  refine AOps.step rfl rfl rfl (OpQ.spec (sp_move rfl (.inl rfl)) _) ?_
  refine AOps.step rfl rfl rfl (OpQ.spec (sp_eql rfl (.inl rfl) (.inl rfl)) _) ?_
  refine AOps.nil ?_
  refine hK2 _ ?_
  refine AW.cond rfl (fun hc1 => ?_) (fun hc1 => ?_)
  · have h1 := ite_t hc1 h
    refine AW.ret ?_
    exact RetW.mk (s' := ⟨[], [(1000, some (.box gb1000 121 [.own 1001 ga1001, .own 1002 ga1002, .r (.int .i64 w1.cut)])), (1001, some (.arr ga1001 49 4 (w1.out.map GStep.row))), (1002, some (.arr ga1002 113 3 (w1.add.map GElem.row)))], n0, 67⟩) ((by exact Weak.cv trivial ⟨.inl rfl, .inl rfl, .inl rfl, trivial⟩ (Nat.le_refl _))) (reth_cast (fun (r : Delta_Writer) rr h' => ∃ (i : Nat → Nat), rr = .tup [] ∧ h' = [(1000, some (.box gb1000 121 [.own 1001 (i 0), .own 1002 (i 1), .r (.int .i64 r.cut)])), (1001, some (.arr (i 0) 49 4 (r.out.map GStep.row))), (1002, some (.arr (i 1) 113 3 (r.add.map GElem.row)))]) h1 (by exact ⟨.tup [], [(1000, some (.box gb1000 121 [.own 1001 ga1001, .own 1002 ga1002, .r (.int .i64 w1.cut)])), (1001, some (.arr ga1001 49 4 (w1.out.map GStep.row))), (1002, some (.arr ga1002 113 3 (w1.add.map GElem.row)))], ⟨_, rfl, trivial⟩, ⟨.inr rfl, .inr rfl, .inr rfl, trivial⟩, rfl, rfl, vec [ga1001, ga1002], rfl, rfl⟩))
  · have h1 := ite_f hc1 h
    refine AW.skip ?_
    refine hK1 _ ?_
    refine AW.seq_w fun K3 hK3 wK3 => ?_
    refine AW.region ?_
    refine AOps.step rfl rfl rfl (OpQ.spec (sp_move rfl (.inl rfl)) _) ?_
    refine ob1k h1 fun w2 ew2 h2 => ?_
    refine AOps.stepHI [1000, 1001, 1002] (hc := [(1000, some (.box gb1000 121 [.own 1001 ga1001, .own 1002 ga1002, .r (.int .i64 w1.cut)])), (1001, some (.arr ga1001 49 4 (w1.out.map GStep.row))), (1002, some (.arr ga1002 113 3 (w1.add.map GElem.row)))]) (bs := [.ptr 1000 gb1000 0 0]) (caps := []) rfl rfl rfl rfl (.inl rfl) rfl ⟨.inl ⟨(.inl rfl), rfl⟩, trivial⟩ ⟨rfl, rfl, rfl, rfl, rfl, rfl, rfl, rfl, rfl, trivial⟩ (by decide) (w_delta_writer_flush ew2) ?_
    intro i1 n2
    refine AOps.weak (s' := ⟨[(0, .ptr 1000 gb1000 0 0), (1, .r (.int .i64 n1)), (2, .r (.sl (attrs1.map GAttr.row))), (7, .r (.int .i64 n1)), (8, .r (.bool (decide (n1 = 0)))), (9, .ptr 1000 gb1000 0 0), (10, .tup [])], [(1000, some (.box gb1000 121 [.own 1001 (i1 0), .cst (.slice none 0 0), .r (.int .i64 w2.cut)])), (1001, some (.arr (i1 0) 49 4 (w2.out.map GStep.row)))], n2, 67⟩) (by exact Weak.cv ⟨.inl (.inl rfl), .inl (.inl rfl), .inl (.inl rfl), .inl (.inl rfl), .inl (.inl rfl), .inl (.inl rfl), .inl (.inl rfl), trivial⟩ ⟨.inl rfl, .inl rfl, trivial⟩ (Nat.le_refl _)) ?_
    refine AOps.nil ?_
    refine hK3 _ ?_
    refine AW.seq_w fun K4 hK4 wK4 => ?_
    refine AW.seq_w fun K5 hK5 wK5 => ?_
    refine AW.region ?_
    refine AOps.step rfl rfl rfl (OpQ.spec (sp_move rfl (.inl rfl)) _) ?_
    refine AOps.step rfl rfl rfl (OpQ.spec (sp_nilCheck_own (ob := .box _ _ _) rfl (.inl rfl) (fun _ => rfl) rfl) _) ?_
    refine AOps.step rfl rfl rfl (OpQ.spec (sp_fieldAddr_own (ob := .box _ _ _) rfl tf_121_0 (.inl rfl) (fun _ => rfl) rfl) _) ?_
    refine AOps.step rfl rfl rfl (OpQ.spec (ms_load_box (a := .own 1001 (i1 0)) rfl ts_42 (.inl rfl) rfl rfl) _) ?_
    refine AOps.step rfl rfl rfl (OpQ.spec (ms_len_own rfl tg_42.slice (.inl rfl) rfl) _) ?_
    refine ob1k h2 fun k1 ek1 h3 => ?_
    refine AOps.step rfl rfl rfl (OpQ.spec (ms_sub rfl (.inl rfl) (.inl rfl) (fun _ => ek1)) _) ?_
    refine AOps.step rfl rfl rfl (OpQ.spec (sp_assign rfl (.inl rfl)) _) ?_
    refine AOps.nil ?_
    refine hK5 _ ?_
    refine AW.seq_w fun K6 hK6 wK6 => ?_
    refine AW.weak (s' := ⟨[(0, .ptr 1000 gb1000 0 0), (1, .r (.int .i64 n1)), (2, .r (.sl (attrs1.map GAttr.row))), (6, .r (.int .i64 k1))], [(1000, some (.box gb1000 121 [.own 1001 (i1 0), .cst (.slice none 0 0), .r (.int .i64 w2.cut)])), (1001, some (.arr (i1 0) 49 4 (w2.out.map GStep.row)))], n2, 67⟩) (by exact Weak.cv ⟨.inl (.inl rfl), .inl (.inl rfl), .inl (.inl rfl), .inl (.inl rfl), trivial⟩ ⟨.inl rfl, .inl rfl, trivial⟩ (Nat.le_refl _)) ?_
    refine AW.region ?_
    refine AOps.step rfl rfl rfl (OpQ.spec (sp_move rfl (.inl rfl)) _) ?_
    refine AOps.step rfl rfl rfl (OpQ.spec (sp_geq rfl (.inl rfl) (.inl rfl)) _) ?_
    refine AOps.step rfl rfl rfl (OpQ.spec (sp_move rfl (.inl rfl)) _) ?_
    refine AOps.stepW (.one rfl rfl rfl) rfl rfl (OpQ.spec (sp_move rfl (.inl rfl)) _) ?_
    refine AOps.stepW (.one rfl rfl rfl) rfl rfl (OpQ.spec (sp_nilCheck_own (ob := .box _ _ _) rfl (.inr ⟨_, (by exact id), rfl⟩) (fun _ => rfl) rfl) _) ?_
    refine AOps.stepW (.one rfl rfl rfl) rfl rfl (OpQ.spec (sp_fieldAddr_own (ob := .box _ _ _) rfl tf_121_0 (.inr ⟨_, (by exact id), rfl⟩) (fun _ => rfl) rfl) _) ?_
    refine AOps.stepW (.one rfl rfl rfl) rfl rfl (OpQ.spec (ms_load_box (a := .own 1001 (i1 0)) rfl ts_42 (.inr ⟨_, (by exact id), rfl⟩) rfl rfl) _) ?_
    refine AOps.stepW (.one rfl rfl rfl) rfl rfl (OpQ.spec (sp_move rfl (.inl rfl)) _) ?_
    refine ob1k h3 fun x1 ex1 h4 => ?_
    refine AOps.stepW (.one rfl rfl rfl) rfl rfl (OpQ.spec (ms_idx_own rfl tg_42.slice (.inr ⟨_, (by exact id), rfl⟩) rfl (.inr ⟨_, (by exact id), rfl⟩) (gdt ex1)) _) ?_
    refine AOps.stepW (.one rfl rfl rfl) rfl rfl (OpQ.spec (sp_fieldAddr_own (ob := .arr _ _ _ _) rfl tf_49_0 (.inr ⟨_, (by exact id), rfl⟩) (fun _ => rfl) rfl) _) ?_
    refine AOps.stepW (.one rfl rfl rfl) rfl rfl (OpQ.spec (ms_load_own (d := .int .i64 x1.Kind) rfl ts_3 (.inr ⟨_, (by exact id), rfl⟩) (fun _ => rfl) (gdt ex1) rfl) _) ?_
    refine AOps.stepW (.one rfl rfl rfl) rfl rfl (OpQ.spec (sp_eql rfl (.inr ⟨_, (by exact id), rfl⟩) (.inl rfl)) _) ?_
    refine AOps.step rfl rfl rfl (OpQ.spec (sp_and rfl (.inl rfl) (.inr ⟨_, (by exact id), rfl⟩)) _) ?_
    refine AOps.step rfl rfl rfl (OpQ.spec (sp_move rfl (.inl rfl)) _) ?_
    refine AOps.stepW (.one rfl rfl rfl) rfl rfl (OpQ.spec (sp_move rfl (.inl rfl)) _) ?_
    refine AOps.stepW (.one rfl rfl rfl) rfl rfl (OpQ.spec (sp_nilCheck_own (ob := .box _ _ _) rfl (.inr ⟨_, (by exact id), rfl⟩) (fun _ => rfl) rfl) _) ?_
    refine AOps.stepW (.one rfl rfl rfl) rfl rfl (OpQ.spec (sp_fieldAddr_own (ob := .box _ _ _) rfl tf_121_0 (.inr ⟨_, (by exact id), rfl⟩) (fun _ => rfl) rfl) _) ?_
    refine AOps.stepW (.one rfl rfl rfl) rfl rfl (OpQ.spec (ms_load_box (a := .own 1001 (i1 0)) rfl ts_42 (.inr ⟨_, (by exact id), rfl⟩) rfl rfl) _) ?_
    refine AOps.stepW (.one rfl rfl rfl) rfl rfl (OpQ.spec (sp_move rfl (.inl rfl)) _) ?_
    refine ob1k h4 fun x2 ex2 h5 => ?_
    refine AOps.stepW (.one rfl rfl rfl) rfl rfl (OpQ.spec (ms_idx_own rfl tg_42.slice (.inr ⟨_, (by exact id), rfl⟩) rfl (.inr ⟨_, (by exact id), rfl⟩) (gdt ex2)) _) ?_
    refine AOps.stepW (.one rfl rfl rfl) rfl rfl (OpQ.spec (sp_fieldAddr_own (ob := .arr _ _ _ _) rfl tf_49_2 (.inr ⟨_, (by exact id), rfl⟩) (fun _ => rfl) rfl) _) ?_
    refine AOps.stepW (.one rfl rfl rfl) rfl rfl (OpQ.spec (ms_load_own (d := .sl (x2.Attrs.map GAttr.row)) rfl ts_47 (.inr ⟨_, (by exact id), rfl⟩) (fun _ => rfl) (gdt ex2) rfl) _) ?_
    refine AOps.stepW (.one rfl rfl rfl) rfl rfl (OpQ.spec (sp_move rfl (.inl rfl)) _) ?_
    refine ob1k h5 fun r1 er1 h6 => ?_
    refine AOps.stepW (.one rfl rfl rfl) rfl rfl (sp_call (r := .r (.bool r1)) (caps := []) (bs := [.r (.sl (x2.Attrs.map GAttr.row)), .r (.sl (attrs1.map GAttr.row))]) rfl (.inl rfl) rfl ⟨⟨_, (.inr ⟨_, (by exact id), rfl⟩), .d rfl⟩, ⟨_, (.inr ⟨_, (by exact id), rfl⟩), .d rfl⟩, trivial⟩ (fun hg => w_attr_Same (gdt er1 hg)) rfl) ?_
    refine AOps.step rfl rfl rfl (OpQ.spec (sp_and rfl (.inl rfl) (.inr ⟨_, (by exact id), rfl⟩)) _) ?_
    refine AOps.nil ?_
    refine hK6 _ ?_
    refine AW.cond rfl (fun hc2 => ?_) (fun hc2 => ?_)
    · have h7 := ite_t hc2 h6
      refine AW.seq_w fun K7 hK7 wK7 => ?_
      refine AW.weak (s' := ⟨[(0, .ptr 1000 gb1000 0 0), (1, .r (.int .i64 n1)), (6, .r (.int .i64 k1))], [(1000, some (.box gb1000 121 [.own 1001 (i1 0), .cst (.slice none 0 0), .r (.int .i64 w2.cut)])), (1001, some (.arr (i1 0) 49 4 (w2.out.map GStep.row)))], n2, 67⟩) (by exact Weak.cv ⟨.inl (.inl rfl), .inl (.inl rfl), .inl (.inl rfl), trivial⟩ ⟨.inl rfl, .inl rfl, trivial⟩ (Nat.le_refl _)) ?_
      refine AW.region ?_
      refine AOps.step rfl rfl rfl (OpQ.spec (sp_move rfl (.inl rfl)) _) ?_
      refine AOps.step rfl rfl rfl (OpQ.spec (sp_nilCheck_own (ob := .box _ _ _) rfl (.inl rfl) (fun _ => rfl) rfl) _) ?_
      refine AOps.step rfl rfl rfl (OpQ.spec (sp_fieldAddr_own (ob := .box _ _ _) rfl tf_121_0 (.inl rfl) (fun _ => rfl) rfl) _) ?_
      refine AOps.step rfl rfl rfl (OpQ.spec (ms_load_box (a := .own 1001 (i1 0)) rfl ts_42 (.inl rfl) rfl rfl) _) ?_
      refine AOps.step rfl rfl rfl (OpQ.spec (sp_move rfl (.inl rfl)) _) ?_
      refine ob1k h7 fun x3 ex3 h8 => ?_
      refine AOps.step rfl rfl rfl (OpQ.spec (ms_idx_own rfl tg_42.slice (.inl rfl) rfl (.inl rfl) (fun _ => ex3)) _) ?_
      refine AOps.step rfl rfl rfl (OpQ.spec (sp_fieldAddr_own (ob := .arr _ _ _ _) rfl tf_49_1 (.inl rfl) (fun _ => rfl) rfl) _) ?_
      refine AOps.step rfl rfl rfl (OpQ.spec (ms_load_own (d := .int .i64 x3.N) rfl ts_3 (.inl rfl) (fun _ => rfl) (fun _ => ex3) rfl) _) ?_
      refine AOps.step rfl rfl rfl (OpQ.spec (sp_move rfl (.inl rfl)) _) ?_
      refine ob1k h8 fun x4 ex4 h9 => ?_
      refine AOps.step rfl rfl rfl (OpQ.spec (ms_add rfl (.inl rfl) (.inl rfl) (fun _ => ex4)) _) ?_
      refine AOps.step rfl rfl rfl (OpQ.spec (ms_idx_own rfl tg_42.slice (.inl rfl) rfl (.inl rfl) (fun _ => ex3)) _) ?_
      refine AOps.step rfl rfl rfl (OpQ.spec (sp_fieldAddr_own (ob := .arr _ _ _ _) rfl tf_49_1 (.inl rfl) (fun _ => rfl) rfl) _) ?_
      refine AOps.step0 rfl rfl (ms_store (v := (GStep.mk x3.Kind x4 x3.Attrs x3.Elems)) rfl tz_3 (.inl rfl) rfl ex3 (.inl rfl) rfl rfl rfl rfl) ?_
      refine AOps.nil ?_
      refine hK7 _ ?_
      refine AW.ret ?_
      exact RetW.mk (s' := ⟨[], [(1000, some (.box gb1000 121 [.own 1001 (i1 0), .own 1002 n2, .r (.int .i64 w2.cut)])), (1001, some (.arr (i1 0) 49 4 ((w2.out.set k1.toNat (GStep.mk x3.Kind x4 x3.Attrs x3.Elems)).map GStep.row))), (1002, some (.arr n2 113 3 (([] : List GElem).map GElem.row)))], (n2 + 1), 67⟩) (Weak.trans (Weak.trans (Weak.adoptBox 1000 1 1002 113 3 (by decide) rfl rfl (by decide)) (by exact Weak.cv (e' := [(0, .ptr 1000 gb1000 0 0), (1, .r (.int .i64 n1)), (6, .r (.int .i64 k1)), (42, .ptr 1000 gb1000 0 0), (43, .ptr 1000 gb1000 0 0), (44, .ptr 1000 gb1000 0 0), (45, .own 1001 (i1 0)), (46, .r (.int .i64 k1)), (47, .ptr 1001 (i1 0) k1.toNat 0), (48, .ptr 1001 (i1 0) k1.toNat 1), (49, .r (.int .i64 x3.N)), (50, .r (.int .i64 n1)), (51, .r (.int .i64 x4)), (52, .ptr 1001 (i1 0) k1.toNat 0), (53, .ptr 1001 (i1 0) k1.toNat 1)]) (h' := [(1000, some (.box gb1000 121 [.own 1001 (i1 0), .own 1002 n2, .r (.int .i64 w2.cut)])), (1001, some (.arr (i1 0) 49 4 ((w2.out.set k1.toNat (GStep.mk x3.Kind x4 x3.Attrs x3.Elems)).map GStep.row))), (1002, some (.arr n2 113 3 (([] : List GElem).map GElem.row)))]) ⟨.inl (.inl rfl), .inl (.inl rfl), .inl (.inl rfl), .inl (.inl rfl), .inl (.inl rfl), .inl (.inl rfl), .inl (.inl rfl), .inl (.inl rfl), .inl (.inl rfl), .inl (.inl rfl), .inl (.inl rfl), .inl (.inl rfl), .inl (.inl rfl), .inl (.inl rfl), .inl (.inl rfl), trivial⟩ ⟨.inl rfl, .inl rfl, .inl rfl, trivial⟩ (Nat.le_refl _))) (by exact Weak.cv trivial ⟨.inl rfl, .inl rfl, .inl rfl, trivial⟩ (Nat.le_refl _))) (reth_cast (fun (r : Delta_Writer) rr h' => ∃ (i : Nat → Nat), rr = .tup [] ∧ h' = [(1000, some (.box gb1000 121 [.own 1001 (i 0), .own 1002 (i 1), .r (.int .i64 r.cut)])), (1001, some (.arr (i 0) 49 4 (r.out.map GStep.row))), (1002, some (.arr (i 1) 113 3 (r.add.map GElem.row)))]) h9 (by exact ⟨.tup [], [(1000, some (.box gb1000 121 [.own 1001 (i1 0), .own 1002 n2, .r (.int .i64 w2.cut)])), (1001, some (.arr (i1 0) 49 4 ((w2.out.set k1.toNat (GStep.mk x3.Kind x4 x3.Attrs x3.Elems)).map GStep.row))), (1002, some (.arr n2 113 3 (([] : List GElem).map GElem.row)))], ⟨_, rfl, trivial⟩, ⟨.inr rfl, .inr rfl, .inr rfl, trivial⟩, rfl, rfl, vec [(i1 0), n2], rfl, rfl⟩))
    · have h7 := ite_f hc2 h6
      refine AW.skip ?_
      refine hK4 _ ?_
      refine AW.weak (s' := ⟨[(0, .ptr 1000 gb1000 0 0), (1, .r (.int .i64 n1)), (2, .r (.sl (attrs1.map GAttr.row)))], [(1000, some (.box gb1000 121 [.own 1001 (i1 0), .cst (.slice none 0 0), .r (.int .i64 w2.cut)])), (1001, some (.arr (i1 0) 49 4 (w2.out.map GStep.row)))], n2, 67⟩) (by exact Weak.cv ⟨.inl (.inl rfl), .inl (.inl rfl), .inl (.inl rfl), trivial⟩ ⟨.inl rfl, .inl rfl, trivial⟩ (Nat.le_refl _)) ?_
      refine ob1k h7 fun l1 el1 h10 => ?_
      refine ob1k h10 fun l2 el2 h11 => ?_
      refine AW.regionP 11 [⟨some 54, (fun _ => .ptr 1000 gb1000 0 0), none, []⟩, ⟨some 55, (fun _ => .ptr 1000 gb1000 0 0), none, []⟩, ⟨some 56, (fun _ => .ptr 1000 gb1000 0 0), none, []⟩, ⟨some 57, (fun _ => .ptr 1000 gb1000 0 0), none, []⟩, ⟨some 58, (fun _ => .own 1001 (i1 0)), none, []⟩, ⟨some 59, (fun _ => .r (.int .i64 n1)), none, []⟩, ⟨some 60, (fun _ => .r (.sl (attrs1.map GAttr.row))), none, []⟩, ⟨some 61, (fun _ => .r (.sl (l1.map GAttr.row))), some (61, (fun _ => none)), []⟩, ⟨some 62, (fun _ => .agg [.r (.int .i64 0), .r (.int .i64 n1), .r (.sl (l1.map GAttr.row)), .cst (.slice none 0 0)]), none, []⟩, ⟨some 63, (fun G1 => .own 63 (G1 9)), some (63, (fun G1 => some (.arr (G1 9) 49 4 ([(GStep.mk 0 n1 l1 [])].map GStep.row)))), [9]⟩, ⟨some 64, (fun G1 => .own 1001 (G1 10)), some (1001, (fun G1 => some (.arr (G1 10) 49 4 (l2.map GStep.row)))), [10]⟩] hmix (by kernel_rfl) (by exact ⟨fun _ _ h => ⟨rfl, fun _ _ e => by cases e⟩, fun _ _ h => ⟨rfl, fun _ _ e => by cases e⟩, fun _ _ h => ⟨rfl, fun _ _ e => by cases e⟩, fun _ _ h => ⟨rfl, fun _ _ e => by cases e⟩, fun _ _ h => ⟨rfl, fun _ _ e => by cases e⟩, fun _ _ h => ⟨rfl, fun _ _ e => by cases e⟩, fun _ _ h => ⟨rfl, fun _ _ e => by cases e⟩, fun _ _ h => ⟨rfl, fun _ _ e => by cases e; rfl⟩, fun _ _ h => ⟨rfl, fun _ _ e => by cases e⟩, fun _ _ h => ⟨by simp only [h 9 rfl], fun _ _ e => by cases e; simp only [h 9 rfl]⟩, fun _ _ h => ⟨by simp only [h 10 rfl], fun _ _ e => by cases e; simp only [h 10 rfl]⟩, trivial⟩) rfl (by exact ⟨Ob.quiet (n1 := fun n => n) rfl rfl (by intro d h; cases h; rfl) rfl (fun _ => [(0, .ptr 1000 gb1000 0 0)]) (fun _ => [(1000, some (.box gb1000 121 [.own 1001 (i1 0), .cst (.slice none 0 0), .r (.int .i64 w2.cut)]))]) (fun D G1 hr => ⟨inE_base rfl rfl, trivial⟩) (fun D G1 hr => ⟨inH_base rfl rfl, trivial⟩) (fun _ _ => rfl) (fun G1 e h' n => OpQ.spec (v := .ptr 1000 gb1000 0 0) (sp_move rfl (.inl rfl)) _),
          Ob.quiet (n1 := fun n => n) rfl rfl (by intro d h; cases h; rfl) rfl (fun _ => [(0, .ptr 1000 gb1000 0 0)]) (fun _ => [(1000, some (.box gb1000 121 [.own 1001 (i1 0), .cst (.slice none 0 0), .r (.int .i64 w2.cut)]))]) (fun D G1 hr => ⟨inE_base rfl rfl, trivial⟩) (fun D G1 hr => ⟨inH_base rfl rfl, trivial⟩) (fun _ _ => rfl) (fun G1 e h' n => OpQ.spec (v := .ptr 1000 gb1000 0 0) (sp_move rfl (.inl rfl)) _),
          Ob.quiet (n1 := fun n => n) rfl rfl (by intro d h; cases h; rfl) rfl (fun _ => [(55, .ptr 1000 gb1000 0 0)]) (fun _ => [(1000, some (.box gb1000 121 [.own 1001 (i1 0), .cst (.slice none 0 0), .r (.int .i64 w2.cut)]))]) (fun D G1 hr => ⟨inE_op hr 1 rfl rfl (by kernel_rfl) rfl rfl, trivial⟩) (fun D G1 hr => ⟨inH_base rfl rfl, trivial⟩) (fun _ _ => rfl) (fun G1 e h' n => OpQ.spec (v := .ptr 1000 gb1000 0 0) (sp_nilCheck_own (ob := .box _ _ _) rfl (.inl rfl) (fun _ => rfl) rfl) _),
          Ob.quiet (n1 := fun n => n) rfl rfl (by intro d h; cases h; rfl) rfl (fun _ => [(56, .ptr 1000 gb1000 0 0)]) (fun _ => [(1000, some (.box gb1000 121 [.own 1001 (i1 0), .cst (.slice none 0 0), .r (.int .i64 w2.cut)]))]) (fun D G1 hr => ⟨inE_op hr 2 rfl rfl (by kernel_rfl) rfl rfl, trivial⟩) (fun D G1 hr => ⟨inH_base rfl rfl, trivial⟩) (fun _ _ => rfl) (fun G1 e h' n => OpQ.spec (v := .ptr 1000 gb1000 0 0) (sp_fieldAddr_own (ob := .box _ _ _) rfl tf_121_0 (.inl rfl) (fun _ => rfl) rfl) _),
          Ob.quiet (n1 := fun n => n) rfl rfl (by intro d h; cases h; rfl) rfl (fun _ => [(57, .ptr 1000 gb1000 0 0)]) (fun _ => [(1000, some (.box gb1000 121 [.own 1001 (i1 0), .cst (.slice none 0 0), .r (.int .i64 w2.cut)]))]) (fun D G1 hr => ⟨inE_op hr 3 rfl rfl (by kernel_rfl) rfl rfl, trivial⟩) (fun D G1 hr => ⟨inH_base rfl rfl, trivial⟩) (fun _ _ => rfl) (fun G1 e h' n => OpQ.spec (v := .own 1001 (i1 0)) (ms_load_box (a := .own 1001 (i1 0)) rfl ts_42 (.inl rfl) rfl rfl) _),
          Ob.quiet (n1 := fun n => n) rfl rfl (by intro d h; cases h; rfl) rfl (fun _ => [(1, .r (.int .i64 n1))]) (fun _ => []) (fun D G1 hr => ⟨inE_base rfl rfl, trivial⟩) (fun D G1 hr => trivial) (fun _ _ => rfl) (fun G1 e h' n => OpQ.spec (v := .r (.int .i64 n1)) (sp_move rfl (.inl rfl)) _),
          Ob.quiet (n1 := fun n => n) rfl rfl (by intro d h; cases h; rfl) rfl (fun _ => [(2, .r (.sl (attrs1.map GAttr.row)))]) (fun _ => []) (fun D G1 hr => ⟨inE_base rfl rfl, trivial⟩) (fun D G1 hr => trivial) (fun _ _ => rfl) (fun G1 e h' n => OpQ.spec (v := .r (.sl (attrs1.map GAttr.row))) (sp_move rfl (.inl rfl)) _),
          Ob.makeN rfl rfl (by intro d h; cases h; rfl) rfl (fun _ => [(60, .r (.sl (attrs1.map GAttr.row)))]) (fun _ => []) (fun D G1 hr => ⟨inE_op hr 6 rfl rfl (by kernel_rfl) rfl rfl, trivial⟩) (fun D G1 hr => trivial) (fun G1 e h' n => (OpSpec.toN (ms_app_nil 61 (f := GAttr.row) rfl tg_47 (.inl rfl) (.inl ⟨(.inl rfl), fun _ => rfl⟩) el1)).frz),
          Ob.quiet (n1 := fun n => n) rfl rfl (by intro d h; cases h; rfl) rfl (fun _ => [(59, .r (.int .i64 n1)), (61, .r (.sl (l1.map GAttr.row)))]) (fun _ => []) (fun D G1 hr => ⟨inE_op hr 5 rfl rfl (by kernel_rfl) rfl rfl, inE_op hr 7 rfl rfl (by kernel_rfl) rfl rfl, trivial⟩) (fun D G1 hr => trivial) (fun _ _ => rfl) (fun G1 e h' n => OpQ.spec (v := .agg [.r (.int .i64 0), .r (.int .i64 n1), .r (.sl (l1.map GAttr.row)), .cst (.slice none 0 0)]) (sp_build rfl tb_49 (q := [(0, _), (1, _), (2, _)]) (by exact ⟨rfl, rfl, rfl, (.inl rfl), rfl, rfl, rfl, (.inl rfl), rfl, rfl, rfl, (.inl rfl), trivial⟩) (cs := [.r (.int .i64 0), .r (.int .i64 n1), .r (.sl (l1.map GAttr.row)), .cst (.slice none 0 0)]) (by rfl)) _),
          Ob.make (n1 := fun n => n + 1) rfl rfl (by intro d h; cases h; rfl) rfl (fun _ => [(62, .agg [.r (.int .i64 0), .r (.int .i64 n1), .r (.sl (l1.map GAttr.row)), .cst (.slice none 0 0)])]) (fun _ => []) (fun D G1 hr => ⟨inE_op hr 8 rfl rfl (by kernel_rfl) rfl rfl, trivial⟩) (fun D G1 hr => trivial) (fun G1 e h' n => ms_lit 63 rfl tg_42 (f := GStep.row) (l := ([(GStep.mk 0 n1 l1 [])] : List GStep)) ⟨rfl, ⟨_, (.inl rfl), rfl⟩, trivial⟩ rfl (fun _ => rfl) rfl),
          Ob.make (n1 := fun n => n + 1) rfl rfl (by intro d h; cases h; rfl) rfl (fun G1 => [(58, .own 1001 (i1 0)), (63, .own 63 (G1 9))]) (fun G1 => [(63, some (.arr (G1 9) 49 4 ([(GStep.mk 0 n1 l1 [])].map GStep.row))), (1001, some (.arr (i1 0) 49 4 (w2.out.map GStep.row)))]) (fun D G1 hr => ⟨inE_op hr 4 rfl rfl (by kernel_rfl) rfl rfl, inE_op hr 9 rfl rfl (by kernel_rfl) rfl rfl, trivial⟩) (fun D G1 hr => ⟨inH_op hr 9 rfl rfl (by kernel_rfl) (by kernel_rfl) rfl, inH_baseL hr (by kernel_rfl) rfl, trivial⟩) (fun G1 e h' n => ms_app rfl tg_42 (.inl rfl) rfl (.inr (.inl ⟨_, _, (.inl rfl), rfl⟩)) el2),
          trivial⟩) fun G1 n3 => ?_
      refine AOps.weak (s' := ⟨[(0, .ptr 1000 gb1000 0 0), (1, .r (.int .i64 n1)), (2, .r (.sl (attrs1.map GAttr.row))), (54, .ptr 1000 gb1000 0 0), (55, .ptr 1000 gb1000 0 0), (56, .ptr 1000 gb1000 0 0), (57, .ptr 1000 gb1000 0 0), (59, .r (.int .i64 n1)), (60, .r (.sl (attrs1.map GAttr.row))), (61, .r (.sl (l1.map GAttr.row))), (62, .agg [.r (.int .i64 0), .r (.int .i64 n1), .r (.sl (l1.map GAttr.row)), .cst (.slice none 0 0)]), (63, .own 63 (G1 9)), (64, .own 1001 (G1 10))], [(63, some (.arr (G1 9) 49 4 ([(GStep.mk 0 n1 l1 [])].map GStep.row))), (1000, some (.box gb1000 121 [.own 1001 (i1 0), .cst (.slice none 0 0), .r (.int .i64 w2.cut)])), (1001, some (.arr (G1 10) 49 4 (l2.map GStep.row)))], n3, 67⟩) (by exact Weak.cv ⟨.inl (.inl rfl), .inl (.inl rfl), .inl (.inl rfl), .inl (.inl rfl), .inl (.inl rfl), .inl (.inl rfl), .inl (.inl rfl), .inl (.inl rfl), .inl (.inl rfl), .inl (.inl rfl), .inl (.inl rfl), .inl (.inl rfl), .inl (.inl rfl), trivial⟩ ⟨.inl rfl, .inl rfl, .inl rfl, trivial⟩ (Nat.le_refl _)) ?_
      refine AOps.step rfl rfl rfl (OpQ.spec (sp_nilCheck_own (ob := .box _ _ _) rfl (.inl rfl) (fun _ => rfl) rfl) _) ?_
      refine AOps.step rfl rfl rfl (OpQ.spec (sp_fieldAddr_own (ob := .box _ _ _) rfl tf_121_0 (.inl rfl) (fun _ => rfl) rfl) _) ?_
      refine AOps.step0 rfl rfl (ms_store_box (ds := [.own 1001 (G1 10), .cst (.slice none 0 0), .r (.int .i64 w2.cut)]) rfl tz_42 (.inl rfl) rfl (.inl rfl) rfl rfl rfl rfl) ?_
      refine AOps.nil ?_
      exact RetW.mk (s' := ⟨[], [(1000, some (.box gb1000 121 [.own 1001 (G1 10), .own 1002 n3, .r (.int .i64 w2.cut)])), (1001, some (.arr (G1 10) 49 4 (l2.map GStep.row))), (1002, some (.arr n3 113 3 (([] : List GElem).map GElem.row)))], (n3 + 1), 67⟩) (Weak.trans (Weak.trans (Weak.adoptBox 1000 1 1002 113 3 (by decide) rfl rfl (by decide)) (by exact Weak.cv (e' := [(0, .ptr 1000 gb1000 0 0), (1, .r (.int .i64 n1)), (2, .r (.sl (attrs1.map GAttr.row))), (54, .ptr 1000 gb1000 0 0), (55, .ptr 1000 gb1000 0 0), (56, .ptr 1000 gb1000 0 0), (57, .ptr 1000 gb1000 0 0), (59, .r (.int .i64 n1)), (60, .r (.sl (attrs1.map GAttr.row))), (61, .r (.sl (l1.map GAttr.row))), (62, .agg [.r (.int .i64 0), .r (.int .i64 n1), .r (.sl (l1.map GAttr.row)), .cst (.slice none 0 0)]), (63, .own 63 (G1 9)), (64, .own 1001 (G1 10)), (65, .ptr 1000 gb1000 0 0), (66, .ptr 1000 gb1000 0 0)]) (h' := [(63, some (.arr (G1 9) 49 4 ([(GStep.mk 0 n1 l1 [])].map GStep.row))), (1000, some (.box gb1000 121 [.own 1001 (G1 10), .own 1002 n3, .r (.int .i64 w2.cut)])), (1001, some (.arr (G1 10) 49 4 (l2.map GStep.row))), (1002, some (.arr n3 113 3 (([] : List GElem).map GElem.row)))]) ⟨.inl (.inl rfl), .inl (.inl rfl), .inl (.inl rfl), .inl (.inl rfl), .inl (.inl rfl), .inl (.inl rfl), .inl (.inl rfl), .inl (.inl rfl), .inl (.inl rfl), .inl (.inl rfl), .inl (.inl rfl), .inl (.inl rfl), .inl (.inl rfl), .inl (.inl rfl), .inl (.inl rfl), trivial⟩ ⟨.inl rfl, .inl rfl, .inl rfl, .inl rfl, trivial⟩ (Nat.le_refl _))) (by exact Weak.cv trivial ⟨.inl rfl, .inl rfl, .inl rfl, trivial⟩ (Nat.le_refl _))) (reth_cast (fun (r : Delta_Writer) rr h' => ∃ (i : Nat → Nat), rr = .tup [] ∧ h' = [(1000, some (.box gb1000 121 [.own 1001 (i 0), .own 1002 (i 1), .r (.int .i64 r.cut)])), (1001, some (.arr (i 0) 49 4 (r.out.map GStep.row))), (1002, some (.arr (i 1) 113 3 (r.add.map GElem.row)))]) h11 (by exact ⟨.tup [], [(1000, some (.box gb1000 121 [.own 1001 (G1 10), .own 1002 n3, .r (.int .i64 w2.cut)])), (1001, some (.arr (G1 10) 49 4 (l2.map GStep.row))), (1002, some (.arr n3 113 3 (([] : List GElem).map GElem.row)))], ⟨_, rfl, trivial⟩, ⟨.inr rfl, .inr rfl, .inr rfl, trivial⟩, rfl, rfl, vec [(G1 10), n3], rfl, rfl⟩))
set_option maxHeartbeats 4000000 in
set_option maxRecDepth 20000 in
theorem w_delta_writer_done {w1 : Delta_Writer} {r : (List GStep) × Int × Delta_Writer} {gb1000 : Nat} {ga1001 : Nat} {ga1002 : Nat} (h : delta_writer_done w1 = some r) : AHC Try.prog 86 3 [.ptr 1000 gb1000 0 0] [(1000, some (.box gb1000 121 [.own 1001 ga1001, .own 1002 ga1002, .r (.int .i64 w1.cut)])), (1001, some (.arr ga1001 49 4 (w1.out.map GStep.row))), (1002, some (.arr ga1002 113 3 (w1.add.map GElem.row)))] (fun rr h' => ∃ (i : Nat → Nat), rr = .tup [.r (.sl (r.1.map GStep.row)), .r (.int .i64 r.2.1)] ∧ h' = [(1000, some (.box gb1000 121 [.r (.sl (r.2.2.out.map GStep.row)), .cst (.slice none 0 0), .r (.int .i64 r.2.2.cut)]))]) := by
  unfold delta_writer_done at h
  refine AHC.mkw Try.func86 rfl rfl Try.ntmps86 (Nat.le_of_ble_eq_true rfl) fun n0 => ?_
  refine AW.seq_w fun K1 hK1 wK1 => ?_
  refine AW.region ?_
  refine AOps.step rfl rfl rfl (OpQ.spec (sp_assign rfl (.inl rfl)) _) ?_
  refine AOps.step rfl rfl rfl (OpQ.spec (sp_assign rfl (.inl rfl)) _) ?_
  refine AOps.nil ?_
  refine hK1 _ ?_
  refine AW.seq_w fun K2 hK2 wK2 => ?_
  refine AW.region ?_
  refine AOps.step rfl rfl rfl (OpQ.spec (sp_move rfl (.inl rfl)) _) ?_
  refine ob1k h fun w2 ew2 h1 => ?_
  refine AOps.stepHI [1000, 1001, 1002] (hc := [(1000, some (.box gb1000 121 [.own 1001 ga1001, .own 1002 ga1002, .r (.int .i64 w1.cut)])), (1001, some (.arr ga1001 49 4 (w1.out.map GStep.row))), (1002, some (.arr ga1002 113 3 (w1.add.map GElem.row)))]) (bs := [.ptr 1000 gb1000 0 0]) (caps := []) rfl rfl rfl rfl (.inl rfl) rfl ⟨.inl ⟨(.inl rfl), rfl⟩, trivial⟩ ⟨rfl, rfl, rfl, rfl, rfl, rfl, rfl, rfl, rfl, trivial⟩ (by decide) (w_delta_writer_flush ew2) ?_
  intro i1 n1
  refine AOps.weak (s' := ⟨[(0, .ptr 1000 gb1000 0 0), (2, .cst (.slice none 0 0)), (3, .r (.int .i64 0)), (4, .ptr 1000 gb1000 0 0), (5, .tup [])], [(1000, some (.box gb1000 121 [.own 1001 (i1 0), .cst (.slice none 0 0), .r (.int .i64 w2.cut)])), (1001, some (.arr (i1 0) 49 4 (w2.out.map GStep.row)))], n1, 16⟩) (by exact Weak.cv ⟨.inl (.inl rfl), .inl (.inl rfl), .inl (.inl rfl), .inl (.inl rfl), .inl (.inl rfl), trivial⟩ ⟨.inl rfl, .inl rfl, trivial⟩ (Nat.le_refl _)) ?_
  refine AOps.nil ?_
  refine hK2 _ ?_
  refine AW.seq_w fun K3 hK3 wK3 => ?_
  refine AW.seq_w fun K4 hK4 wK4 => ?_
  refine AW.region ?_
  refine AOps.step rfl rfl rfl (OpQ.spec (sp_move rfl (.inl rfl)) _) ?_
  refine AOps.step rfl rfl rfl (OpQ.spec (sp_nilCheck_own (ob := .box _ _ _) rfl (.inl rfl) (fun _ => rfl) rfl) _) ?_
  refine AOps.step rfl rfl rfl (OpQ.spec (sp_fieldAddr_own (ob := .box _ _ _) rfl tf_121_0 (.inl rfl) (fun _ => rfl) rfl) _) ?_
  refine AOps.step rfl rfl rfl (OpQ.spec (ms_load_box (a := .own 1001 (i1 0)) rfl ts_42 (.inl rfl) rfl rfl) _) ?_
  refine ob1k h1 fun r1 er1 h2 => ?_
  refine AOps.step rfl rfl rfl (sp_call (r := .r (.int .i64 r1)) (caps := []) (bs := [.r (.sl (w2.out.map GStep.row))]) rfl (.inl rfl) rfl ⟨⟨_, (.inl rfl), .one (.own rfl)⟩, trivial⟩ (fun _ => w_delta_Check (er1)) rfl) ?_
  refine AOps.step rfl rfl rfl (OpQ.spec (sp_neq rfl (.inl rfl) (.inl rfl)) _) ?_
  refine AOps.nil ?_
  refine hK4 _ ?_
  refine AW.cond rfl (fun hc1 => ?_) (fun hc1 => ?_)
  · have h3 := ite_t hc1 h2
    refine AW.seq_w fun K5 hK5 wK5 => ?_
    refine AW.weak (s' := ⟨[], [(1000, some (.box gb1000 121 [.own 1001 (i1 0), .cst (.slice none 0 0), .r (.int .i64 w2.cut)])), (1001, some (.arr (i1 0) 49 4 (w2.out.map GStep.row)))], n1, 16⟩) (by exact Weak.cv trivial ⟨.inl rfl, .inl rfl, trivial⟩ (Nat.le_refl _)) ?_
    refine AW.region ?_
    refine AOps.step rfl rfl rfl (OpQ.spec (sp_assign rfl (.inl rfl)) _) ?_
    refine AOps.step rfl rfl rfl (OpQ.spec (sp_assign rfl (.inl rfl)) _) ?_
    refine AOps.nil ?_
    refine hK5 _ ?_
    refine AW.ret ?_
    exact RetW.mk (s' := ⟨[(2, .r (.sl [])), (3, .r (.int .i64 3))], [(1000, some (.box gb1000 121 [.r (.sl (w2.out.map GStep.row)), .cst (.slice none 0 0), .r (.int .i64 w2.cut)]))], n1, 16⟩) (Weak.trans (by exact Weak.frz (e' := [(2, .cst (.slice none 0 0)), (3, .r (.int .i64 3))]) (h' := [(1000, some (.box gb1000 121 [.r (.sl (w2.out.map GStep.row)), .cst (.slice none 0 0), .r (.int .i64 w2.cut)]))]) 1001 rfl ⟨.inl (.inl rfl), .inl (.inl rfl), trivial⟩ ⟨rfl, .inr (.inr (.inl ⟨_, _, _, _, rfl, rfl, ⟨.inr (.inr ⟨rfl, rfl⟩), .inl rfl, .inl rfl, trivial⟩⟩)), trivial⟩) (by exact Weak.cv ⟨.inl (.inr (.inr ⟨rfl, rfl⟩)), .inl (.inl rfl), trivial⟩ ⟨.inl rfl, trivial⟩ (Nat.le_refl _))) (reth_cast (fun (r : (List GStep) × Int × Delta_Writer) rr h' => ∃ (i : Nat → Nat), rr = .tup [.r (.sl (r.1.map GStep.row)), .r (.int .i64 r.2.1)] ∧ h' = [(1000, some (.box gb1000 121 [.r (.sl (r.2.2.out.map GStep.row)), .cst (.slice none 0 0), .r (.int .i64 r.2.2.cut)]))]) h3 (by exact ⟨.tup [.r (.sl []), .r (.int .i64 3)], [(1000, some (.box gb1000 121 [.r (.sl (w2.out.map GStep.row)), .cst (.slice none 0 0), .r (.int .i64 w2.cut)]))], ⟨_, rfl, ⟨rfl, rfl, trivial⟩⟩, ⟨.inr rfl, trivial⟩, rfl, rfl, vec [], rfl, rfl⟩))
  · have h3 := ite_f hc1 h2
    refine AW.skip ?_
    refine hK3 _ ?_
    refine AW.seq_w fun K6 hK6 wK6 => ?_
    refine AW.weak (s' := ⟨[(0, .ptr 1000 gb1000 0 0)], [(1000, some (.box gb1000 121 [.own 1001 (i1 0), .cst (.slice none 0 0), .r (.int .i64 w2.cut)])), (1001, some (.arr (i1 0) 49 4 (w2.out.map GStep.row)))], n1, 16⟩) (by exact Weak.cv ⟨.inl (.inl rfl), trivial⟩ ⟨.inl rfl, .inl rfl, trivial⟩ (Nat.le_refl _)) ?_
    refine AW.region ?_
    refine AOps.step rfl rfl rfl (OpQ.spec (sp_move rfl (.inl rfl)) _) ?_
    refine AOps.step rfl rfl rfl (OpQ.spec (sp_nilCheck_own (ob := .box _ _ _) rfl (.inl rfl) (fun _ => rfl) rfl) _) ?_
    refine AOps.step rfl rfl rfl (OpQ.spec (sp_fieldAddr_own (ob := .box _ _ _) rfl tf_121_0 (.inl rfl) (fun _ => rfl) rfl) _) ?_
    refine AOps.step rfl rfl rfl (OpQ.spec (ms_load_box (a := .own 1001 (i1 0)) rfl ts_42 (.inl rfl) rfl rfl) _) ?_
    refine AOps.step rfl rfl rfl (OpQ.spec (sp_assign rfl (.inl rfl)) _) ?_
    refine AOps.step rfl rfl rfl (OpQ.spec (sp_assign rfl (.inl rfl)) _) ?_
    refine AOps.nil ?_
    refine hK6 _ ?_
    refine AW.ret ?_
    exact RetW.mk (s' := ⟨[(2, .r (.sl (w2.out.map GStep.row))), (3, .r (.int .i64 0))], [(1000, some (.box gb1000 121 [.r (.sl (w2.out.map GStep.row)), .cst (.slice none 0 0), .r (.int .i64 w2.cut)]))], n1, 16⟩) (Weak.trans (by exact Weak.frz (e' := [(0, .ptr 1000 gb1000 0 0), (2, .r (.sl (w2.out.map GStep.row))), (3, .r (.int .i64 0)), (12, .ptr 1000 gb1000 0 0), (13, .ptr 1000 gb1000 0 0), (14, .ptr 1000 gb1000 0 0), (15, .r (.sl (w2.out.map GStep.row)))]) (h' := [(1000, some (.box gb1000 121 [.r (.sl (w2.out.map GStep.row)), .cst (.slice none 0 0), .r (.int .i64 w2.cut)]))]) 1001 rfl ⟨.inl (.inl rfl), .inl (.inr (.inr ⟨rfl, rfl⟩)), .inl (.inl rfl), .inl (.inl rfl), .inl (.inl rfl), .inl (.inl rfl), .inl (.inr (.inr ⟨rfl, rfl⟩)), trivial⟩ ⟨rfl, .inr (.inr (.inl ⟨_, _, _, _, rfl, rfl, ⟨.inr (.inr ⟨rfl, rfl⟩), .inl rfl, .inl rfl, trivial⟩⟩)), trivial⟩) (by exact Weak.cv ⟨.inl (.inl rfl), .inl (.inl rfl), trivial⟩ ⟨.inl rfl, trivial⟩ (Nat.le_refl _))) (reth_cast (fun (r : (List GStep) × Int × Delta_Writer) rr h' => ∃ (i : Nat → Nat), rr = .tup [.r (.sl (r.1.map GStep.row)), .r (.int .i64 r.2.1)] ∧ h' = [(1000, some (.box gb1000 121 [.r (.sl (r.2.2.out.map GStep.row)), .cst (.slice none 0 0), .r (.int .i64 r.2.2.cut)]))]) h3 (by exact ⟨.tup [.r (.sl (w2.out.map GStep.row)), .r (.int .i64 0)], [(1000, some (.box gb1000 121 [.r (.sl (w2.out.map GStep.row)), .cst (.slice none 0 0), .r (.int .i64 w2.cut)]))], ⟨_, rfl, ⟨rfl, rfl, trivial⟩⟩, ⟨.inr rfl, trivial⟩, rfl, rfl, vec [], rfl, rfl⟩))
set_option maxHeartbeats 4000000 in
set_option maxRecDepth 20000 in
theorem w_delta_Join {a1 : List GStep} {b1 : List GStep} {r : (List GStep) × Int} (h : delta_Join a1 b1 = some r) : ARO Try.prog 45 [.r (.sl (a1.map GStep.row)), .r (.sl (b1.map GStep.row))] (.tup [.r (.sl (r.1.map GStep.row)), .r (.int .i64 r.2)]) := by
  unfold delta_Join at h
  refine ARO.mkF Try.func45 rfl rfl Try.ntmps45 rfl (Nat.le_of_ble_eq_true rfl) fun n0 => ?_
  refine AW.seq_w fun K1 hK1 wK1 => ?_
  refine AW.region ?_
  refine AOps.step rfl rfl rfl (OpQ.spec (sp_assign rfl (.inl rfl)) _) ?_
  refine AOps.step rfl rfl rfl (OpQ.spec (sp_assign rfl (.inl rfl)) _) ?_
  refine AOps.nil ?_
  refine hK1 _ ?_
  refine AW.seq_w fun K2 hK2 wK2 => ?_
  refine AW.seq_w fun K3 hK3 wK3 => ?_
  refine AW.region ?_
  refine AOps.step rfl rfl rfl (OpQ.spec (sp_move rfl (.inl rfl)) _) ?_
  refine ob1k h fun e1 ee1 h1 => ?_
  refine AOps.step rfl rfl rfl (sp_call (r := .r (.int .i64 e1)) (caps := []) (bs := [.r (.sl (a1.map GStep.row))]) rfl (.inl rfl) rfl ⟨⟨_, (.inl rfl), .d rfl⟩, trivial⟩ (fun _ => w_delta_Check (ee1)) rfl) ?_
  refine AOps.step rfl rfl rfl (OpQ.spec (sp_assign rfl (.inl rfl)) _) ?_
  refine AOps.nil ?_
  refine hK3 _ ?_
  refine AW.seq_w fun K4 hK4 wK4 => ?_
  refine AW.region ?_
  refine AOps.step rfl rfl rfl (OpQ.spec (sp_move rfl (.inl rfl)) _) ?_
  refine AOps.step rfl rfl rfl (OpQ.spec (sp_neq rfl (.inl rfl) (.inl rfl)) _) ?_
  refine AOps.nil ?_
  refine hK4 _ ?_
  refine AW.cond rfl (fun hc1 => ?_) (fun hc1 => ?_)
  · have h2 := ite_t hc1 h1
    refine AW.seq_w fun K5 hK5 wK5 => ?_
    refine AW.region ?_
    refine AOps.step rfl rfl rfl (OpQ.spec (sp_move rfl (.inl rfl)) _) ?_
    refine AOps.step rfl rfl rfl (OpQ.spec (sp_assign rfl (.inl rfl)) _) ?_
    refine AOps.step rfl rfl rfl (OpQ.spec (sp_assign rfl (.inl rfl)) _) ?_
    refine AOps.nil ?_
    refine hK5 _ ?_
    refine AW.ret ?_
    exact retf2 (P := Try.prog) (fun (r : (List GStep) × Int) => .r (.sl (r.1.map GStep.row))) (fun (r : (List GStep) × Int) => .r (.int .i64 r.2)) h2 (.inl rfl) (.t (.one (.nil))) (.t (.d rfl))
  · have h2 := ite_f hc1 h1
    refine AW.skip ?_
    refine hK2 _ ?_
    refine AW.seq_w fun K6 hK6 wK6 => ?_
    refine AW.seq_w fun K7 hK7 wK7 => ?_
    refine AW.region ?_
    refine AOps.step rfl rfl rfl (OpQ.spec (sp_move rfl (.inl rfl)) _) ?_
    refine ob1k h2 fun e2 ee2 h3 => ?_
    refine AOps.step rfl rfl rfl (sp_call (r := .r (.int .i64 e2)) (caps := []) (bs := [.r (.sl (b1.map GStep.row))]) rfl (.inl rfl) rfl ⟨⟨_, (.inl rfl), .d rfl⟩, trivial⟩ (fun _ => w_delta_Check (ee2)) rfl) ?_
    refine AOps.step rfl rfl rfl (OpQ.spec (sp_assign rfl (.inl rfl)) _) ?_
    refine AOps.nil ?_
    refine hK7 _ ?_
    refine AW.seq_w fun K8 hK8 wK8 => ?_
    refine AW.weak (s' := ⟨[(0, .r (.sl (a1.map GStep.row))), (1, .r (.sl (b1.map GStep.row))), (7, .r (.int .i64 e2))], [], n0, 127⟩) (by exact Weak.cv ⟨.inl (.inl rfl), .inl (.inl rfl), .inl (.inl rfl), trivial⟩ trivial (Nat.le_refl _)) ?_
    refine AW.region ?_
    refine AOps.step rfl rfl rfl (OpQ.spec (sp_move rfl (.inl rfl)) _) ?_
    refine AOps.step rfl rfl rfl (OpQ.spec (sp_neq rfl (.inl rfl) (.inl rfl)) _) ?_
    refine AOps.nil ?_
    refine hK8 _ ?_
    refine AW.cond rfl (fun hc2 => ?_) (fun hc2 => ?_)
    · have h4 := ite_t hc2 h3
      refine AW.seq_w fun K9 hK9 wK9 => ?_
      refine AW.region ?_
      refine AOps.step rfl rfl rfl (OpQ.spec (sp_move rfl (.inl rfl)) _) ?_
      refine AOps.step rfl rfl rfl (OpQ.spec (sp_assign rfl (.inl rfl)) _) ?_
      refine AOps.step rfl rfl rfl (OpQ.spec (sp_assign rfl (.inl rfl)) _) ?_
      refine AOps.nil ?_
      refine hK9 _ ?_
      refine AW.ret ?_
      exact retf2 (P := Try.prog) (fun (r : (List GStep) × Int) => .r (.sl (r.1.map GStep.row))) (fun (r : (List GStep) × Int) => .r (.int .i64 r.2)) h4 (.inl rfl) (.t (.one (.nil))) (.t (.d rfl))
    · have h4 := ite_f hc2 h3
      refine AW.skip ?_
      refine hK6 _ ?_
      refine AW.seq_w fun K10 hK10 wK10 => ?_
      refine AW.region ?_
      refine AOps.step rfl rfl rfl (OpQ.spec (sp_move rfl (.inl rfl)) _) ?_
      refine ob2k h4 fun r1 r2 er1 h5 => ?_
      refine AOps.step rfl rfl rfl (sp_call (r := .tup [.r (.int .i64 r1), .r (.int .i64 r2)]) (caps := []) (bs := [.r (.sl (a1.map GStep.row))]) rfl (.inl rfl) rfl ⟨⟨_, (.inl rfl), .d rfl⟩, trivial⟩ (fun _ => w_delta_lengths (er1)) rfl) ?_
      refine AOps.step rfl rfl rfl (OpQ.spec (sp_move rfl (.inl rfl)) _) ?_
      refine AOps.step rfl rfl rfl (OpQ.spec (sp_extract (a := .r (.int .i64 r1)) rfl (.inl rfl) rfl) _) ?_
      refine AOps.step rfl rfl rfl (OpQ.spec (sp_extract (a := .r (.int .i64 r2)) rfl (.inl rfl) rfl) _) ?_
      refine AOps.step rfl rfl rfl (OpQ.spec (sp_assign rfl (.inl rfl)) _) ?_
      refine AOps.step rfl rfl rfl (OpQ.spec (sp_assign rfl (.inl rfl)) _) ?_
      refine AOps.nil ?_
      refine hK10 _ ?_
      refine AW.seq_w fun K11 hK11 wK11 => ?_
      refine AW.seq_w fun K12 hK12 wK12 => ?_
      refine AW.weak (s' := ⟨[(0, .r (.sl (a1.map GStep.row))), (1, .r (.sl (b1.map GStep.row))), (9, .r (.int .i64 r2))], [], n0, 127⟩) (by exact Weak.cv ⟨.inl (.inl rfl), .inl (.inl rfl), .inl (.inl rfl), trivial⟩ trivial (Nat.le_refl _)) ?_
      refine AW.region ?_
      refine AOps.step rfl rfl rfl (OpQ.spec (sp_move rfl (.inl rfl)) _) ?_
      refine ob2k h5 fun r3 r4 er3 h6 => ?_
      refine AOps.step rfl rfl rfl (sp_call (r := .tup [.r (.int .i64 r3), .r (.int .i64 r4)]) (caps := []) (bs := [.r (.sl (b1.map GStep.row))]) rfl (.inl rfl) rfl ⟨⟨_, (.inl rfl), .d rfl⟩, trivial⟩ (fun _ => w_delta_lengths (er3)) rfl) ?_
      refine AOps.step rfl rfl rfl (OpQ.spec (sp_move rfl (.inl rfl)) _) ?_
      refine AOps.step rfl rfl rfl (OpQ.spec (sp_extract (a := .r (.int .i64 r3)) rfl (.inl rfl) rfl) _) ?_
      refine AOps.step rfl rfl rfl (OpQ.spec (sp_extract (a := .r (.int .i64 r4)) rfl (.inl rfl) rfl) _) ?_
      refine AOps.step rfl rfl rfl (OpQ.spec (sp_assign rfl (.inl rfl)) _) ?_
      refine AOps.step rfl rfl rfl (OpQ.spec (sp_assign rfl (.inl rfl)) _) ?_
      refine AOps.nil ?_
      refine hK12 _ ?_
      refine AW.seq_w fun K13 hK13 wK13 => ?_
      refine AW.region ?_
      refine AOps.step rfl rfl rfl (OpQ.spec (sp_move rfl (.inl rfl)) _) ?_
      refine AOps.step rfl rfl rfl (OpQ.spec (sp_move rfl (.inl rfl)) _) ?_
      refine AOps.step rfl rfl rfl (OpQ.spec (sp_neq rfl (.inl rfl) (.inl rfl)) _) ?_
      refine AOps.nil ?_
      refine hK13 _ ?_
      refine AW.cond rfl (fun hc3 => ?_) (fun hc3 => ?_)
      · have h7 := ite_t hc3 h6
        refine AW.seq_w fun K14 hK14 wK14 => ?_
        refine AW.weak (s' := ⟨[], [], n0, 127⟩) (by exact Weak.cv trivial trivial (Nat.le_refl _)) ?_
        refine AW.region ?_
        refine AOps.step rfl rfl rfl (OpQ.spec (sp_assign rfl (.inl rfl)) _) ?_
        refine AOps.step rfl rfl rfl (OpQ.spec (sp_assign rfl (.inl rfl)) _) ?_
        refine AOps.nil ?_
        refine hK14 _ ?_
        refine AW.ret ?_
        exact retf2 (P := Try.prog) (fun (r : (List GStep) × Int) => .r (.sl (r.1.map GStep.row))) (fun (r : (List GStep) × Int) => .r (.int .i64 r.2)) h7 (.inl rfl) (.t (.one (.nil))) (.t (.d rfl))
      · have h7 := ite_f hc3 h6
        refine AW.skip ?_
        refine hK11 _ ?_
        refine AW.seq_w fun K15 hK15 wK15 => ?_
        refine AW.weak (s' := ⟨[(0, .r (.sl (a1.map GStep.row))), (1, .r (.sl (b1.map GStep.row)))], [], n0, 127⟩) (by exact Weak.cv ⟨.inl (.inl rfl), .inl (.inl rfl), trivial⟩ trivial (Nat.le_refl _)) ?_
        refine AW.region ?_
        refine AOps.step rfl rfl rfl (ms_alloc (cs := [.cst (.slice none 0 0), .cst (.slice none 0 0), .r (.int .i64 0)]) 12 rfl t0_121 rfl rfl) ?_
        refine AOps.nil ?_
        refine hK15 _ ?_
        refine AW.seq_w fun K16 hK16 wK16 => ?_
        refine AW.region ?_
        refine AOps.step rfl rfl rfl (OpQ.spec (sp_move rfl (.inl rfl)) _) ?_
        refine AOps.step rfl rfl rfl (OpQ.spec (sp_build rfl tb_135 (q := [(0, _)]) (by exact ⟨rfl, rfl, rfl, (.inl rfl), trivial⟩) (cs := [.r (.sl (a1.map GStep.row)), .r (.int .i64 0)]) (by rfl)) _) ?_
        refine AOps.step rfl rfl rfl (ms_box (cs := [.r (.sl (a1.map GStep.row)), .r (.int .i64 0)]) 43 rfl (.inl rfl) rfl rfl) ?_
        refine AOps.step rfl rfl rfl (OpQ.spec (sp_move rfl (.inl rfl)) _) ?_
        refine AOps.step rfl rfl rfl (OpQ.spec (sp_build rfl tb_135 (q := [(0, _)]) (by exact ⟨rfl, rfl, rfl, (.inl rfl), trivial⟩) (cs := [.r (.sl (b1.map GStep.row)), .r (.int .i64 0)]) (by rfl)) _) ?_
        refine AOps.step rfl rfl rfl (ms_box (cs := [.r (.sl (b1.map GStep.row)), .r (.int .i64 0)]) 46 rfl (.inl rfl) rfl rfl) ?_
        refine AOps.step rfl rfl rfl (OpQ.spec (sp_assign rfl (.inl rfl)) _) ?_
        refine AOps.step rfl rfl rfl (OpQ.spec (sp_assign rfl (.inl rfl)) _) ?_
        refine AOps.nil ?_
        refine hK16 _ ?_
        refine AW.seq_w fun K17 hK17 wK17 => ?_
        refine AW.block ?_
        refine jb1k h7 fun o1 hit1 hk1 => ?_
        have J1 : ∀ (w4 : Delta_Writer) (i5 : Nat → Nat), o1 = w4 → K17 ⟨[(12, .ptr 12 n0 0 0)], [(12, some (.box n0 121 [.own 3120 (i5 0), .own 3121 (i5 1), .r (.int .i64 w4.cut)])), (3120, some (.arr (i5 0) 49 4 (w4.out.map GStep.row))), (3121, some (.arr (i5 1) 113 3 (w4.add.map GElem.row)))], (i5 2), 127⟩ := by
          intro w4 i5 e
          have h8 := hk1 _ e
          refine hK17 _ ?_
          refine AW.seq_w fun K18 hK18 wK18 => ?_
          refine AW.region ?_
          refine ob3k h8 fun r5 r6 w5 er5 h9 => ?_
          refine AOps.stepHI [12, 3120, 3121] (hc := [(1000, some (.box n0 121 [.own 1001 (i5 0), .own 1002 (i5 1), .r (.int .i64 w4.cut)])), (1001, some (.arr (i5 0) 49 4 (w4.out.map GStep.row))), (1002, some (.arr (i5 1) 113 3 (w4.add.map GElem.row)))]) (bs := [.ptr 1000 n0 0 0]) (caps := []) rfl rfl rfl rfl (.inl rfl) rfl ⟨.inl ⟨(.inl rfl), rfl⟩, trivial⟩ ⟨rfl, rfl, rfl, rfl, rfl, rfl, rfl, rfl, rfl, trivial⟩ (by decide) (w_delta_writer_done er5) ?_
          intro i6 n1
          refine AOps.weak (s' := ⟨[(12, .ptr 12 n0 0 0), (124, .tup [.r (.sl (r5.map GStep.row)), .r (.int .i64 r6)])], [(12, some (.box n0 121 [.r (.sl (w5.out.map GStep.row)), .cst (.slice none 0 0), .r (.int .i64 w5.cut)]))], n1, 127⟩) (by exact Weak.cv ⟨.inl (.inl rfl), .inl (.inl rfl), trivial⟩ ⟨.inl rfl, trivial⟩ (Nat.le_refl _)) ?_
          refine AOps.step rfl rfl rfl (OpQ.spec (sp_extract (a := .r (.sl (r5.map GStep.row))) rfl (.inl rfl) rfl) _) ?_
          refine AOps.step rfl rfl rfl (OpQ.spec (sp_extract (a := .r (.int .i64 r6)) rfl (.inl rfl) rfl) _) ?_
          refine AOps.step rfl rfl rfl (OpQ.spec (sp_assign rfl (.inl rfl)) _) ?_
          refine AOps.step rfl rfl rfl (OpQ.spec (sp_assign rfl (.inl rfl)) _) ?_
          refine AOps.nil ?_
          refine hK18 _ ?_
          refine AW.ret ?_
          exact retf2 (P := Try.prog) (fun (r : (List GStep) × Int) => .r (.sl (r.1.map GStep.row))) (fun (r : (List GStep) × Int) => .r (.int .i64 r.2)) h9 (.inl rfl) (.t (.d rfl)) (.t (.d rfl))
        refine AW.iter3 (fun (w2 : Delta_Writer) (p2 : Delta_Reader) (q2 : Delta_Reader) i3 => ⟨[(12, .ptr 12 n0 0 0), (13, .ptr 43 (n0 + 1) 0 0), (14, .ptr 46 (n0 + 2) 0 0)], [(12, some (.box n0 121 [.own 3120 (i3 0), .own 3121 (i3 1), .r (.int .i64 w2.cut)])), (43, some (.box (n0 + 1) 135 [.r (.sl (p2.steps.map GStep.row)), .r (.int .i64 p2.used)])), (46, some (.box (n0 + 2) 135 [.r (.sl (q2.steps.map GStep.row)), .r (.int .i64 q2.used)])), (3120, some (.arr (i3 0) 49 4 (w2.out.map GStep.row))), (3121, some (.arr (i3 1) 113 3 (w2.add.map GElem.row)))], (i3 2), 127⟩) (vec [(n0 + 3), (n0 + 4), (n0 + 5)]) hit1 (Weak.trans (Weak.trans (Weak.adoptBox 12 0 3120 49 4 (by decide) rfl rfl (by decide)) (by exact Weak.cv (e' := [(0, .r (.sl (a1.map GStep.row))), (1, .r (.sl (b1.map GStep.row))), (12, .ptr 12 n0 0 0), (13, .ptr 43 (n0 + 1) 0 0), (14, .ptr 46 (n0 + 2) 0 0), (41, .r (.sl (a1.map GStep.row))), (42, .agg [.r (.sl (a1.map GStep.row)), .r (.int .i64 0)]), (43, .ptr 43 (n0 + 1) 0 0), (44, .r (.sl (b1.map GStep.row))), (45, .agg [.r (.sl (b1.map GStep.row)), .r (.int .i64 0)]), (46, .ptr 46 (n0 + 2) 0 0)]) (h' := [(12, some (.box n0 121 [.own 3120 (n0 + 3), .cst (.slice none 0 0), .r (.int .i64 0)])), (43, some (.box (n0 + 1) 135 [.r (.sl (a1.map GStep.row)), .r (.int .i64 0)])), (46, some (.box (n0 + 2) 135 [.r (.sl (b1.map GStep.row)), .r (.int .i64 0)])), (3120, some (.arr (n0 + 3) 49 4 (([] : List GStep).map GStep.row)))]) ⟨.inl (.inl rfl), .inl (.inl rfl), .inl (.inl rfl), .inl (.inl rfl), .inl (.inl rfl), .inl (.inl rfl), .inl (.inl rfl), .inl (.inl rfl), .inl (.inl rfl), .inl (.inl rfl), .inl (.inl rfl), trivial⟩ ⟨.inl rfl, .inl rfl, .inl rfl, .inl rfl, trivial⟩ (Nat.le_refl _))) (Weak.trans (Weak.trans (Weak.adoptBox 12 1 3121 113 3 (by decide) rfl rfl (by decide)) (by exact Weak.cv (e' := [(0, .r (.sl (a1.map GStep.row))), (1, .r (.sl (b1.map GStep.row))), (12, .ptr 12 n0 0 0), (13, .ptr 43 (n0 + 1) 0 0), (14, .ptr 46 (n0 + 2) 0 0), (41, .r (.sl (a1.map GStep.row))), (42, .agg [.r (.sl (a1.map GStep.row)), .r (.int .i64 0)]), (43, .ptr 43 (n0 + 1) 0 0), (44, .r (.sl (b1.map GStep.row))), (45, .agg [.r (.sl (b1.map GStep.row)), .r (.int .i64 0)]), (46, .ptr 46 (n0 + 2) 0 0)]) (h' := [(12, some (.box n0 121 [.own 3120 (n0 + 3), .own 3121 (n0 + 4), .r (.int .i64 0)])), (43, some (.box (n0 + 1) 135 [.r (.sl (a1.map GStep.row)), .r (.int .i64 0)])), (46, some (.box (n0 + 2) 135 [.r (.sl (b1.map GStep.row)), .r (.int .i64 0)])), (3120, some (.arr (n0 + 3) 49 4 (([] : List GStep).map GStep.row))), (3121, some (.arr (n0 + 4) 113 3 (([] : List GElem).map GElem.row)))]) ⟨.inl (.inl rfl), .inl (.inl rfl), .inl (.inl rfl), .inl (.inl rfl), .inl (.inl rfl), .inl (.inl rfl), .inl (.inl rfl), .inl (.inl rfl), .inl (.inl rfl), .inl (.inl rfl), .inl (.inl rfl), trivial⟩ ⟨.inl rfl, .inl rfl, .inl rfl, .inl rfl, .inl rfl, trivial⟩ (Nat.le_refl _))) (by exact Weak.cv ⟨.inl (.inl rfl), .inl (.inl rfl), .inl (.inl rfl), trivial⟩ ⟨.inl rfl, .inl rfl, .inl rfl, .inl rfl, .inl rfl, trivial⟩ (Nat.le_refl _)))) ?_
        intro w2 p2 q2 i3 v1 hv1 hx1
        have h10 : delta_Join_L1 w2 p2 q2 = some v1 := hv1; unfold delta_Join_L1 at h10
        refine AW.seq_w fun K19 hK19 wK19 => ?_
        refine AW.seq_w fun K20 hK20 wK20 => ?_
        refine AW.region ?_
        refine AOps.step rfl rfl rfl (OpQ.spec (sp_move rfl (.inl rfl)) _) ?_
        refine ob1k h10 fun r7 er7 h11 => ?_
        refine AOps.stepHI [43] (hc := [(1000, some (.box (n0 + 1) 135 [.r (.sl (p2.steps.map GStep.row)), .r (.int .i64 p2.used)]))]) (bs := [.ptr 1000 (n0 + 1) 0 0]) (caps := []) rfl rfl rfl rfl (.inl rfl) rfl ⟨.inl ⟨(.inl rfl), rfl⟩, trivial⟩ ⟨rfl, rfl, rfl, trivial⟩ (by decide) (w_delta_reader_kind er7) ?_
        intro i7 n2
        refine AOps.weak (s' := ⟨[(12, .ptr 12 n0 0 0), (13, .ptr 43 (n0 + 1) 0 0), (14, .ptr 46 (n0 + 2) 0 0), (47, .ptr 43 (n0 + 1) 0 0), (48, .r (.int .i64 r7))], [(12, some (.box n0 121 [.own 3120 (i3 0), .own 3121 (i3 1), .r (.int .i64 w2.cut)])), (43, some (.box (n0 + 1) 135 [.r (.sl (p2.steps.map GStep.row)), .r (.int .i64 p2.used)])), (46, some (.box (n0 + 2) 135 [.r (.sl (q2.steps.map GStep.row)), .r (.int .i64 q2.used)])), (3120, some (.arr (i3 0) 49 4 (w2.out.map GStep.row))), (3121, some (.arr (i3 1) 113 3 (w2.add.map GElem.row)))], n2, 127⟩) (by exact Weak.cv ⟨.inl (.inl rfl), .inl (.inl rfl), .inl (.inl rfl), .inl (.inl rfl), .inl (.inl rfl), trivial⟩ ⟨.inl rfl, .inl rfl, .inl rfl, .inl rfl, .inl rfl, trivial⟩ (Nat.le_refl _)) ?_
        refine AOps.step rfl rfl rfl (OpQ.spec (sp_geq rfl (.inl rfl) (.inl rfl)) _) ?_
        refine AOps.step rfl rfl rfl (OpQ.spec (sp_move rfl (.inl rfl)) _) ?_
        refine AOps.stepW (.one rfl rfl rfl) rfl rfl (OpQ.spec (sp_move rfl (.inl rfl)) _) ?_
        refine jb1k h11 fun p4 hp1 hk2 => ?_
        have J2 : ∀ (x1 : Bool) (i8 : Nat → Nat), p4 = x1 → K20 ⟨[(12, .ptr 12 n0 0 0), (13, .ptr 43 (n0 + 1) 0 0), (14, .ptr 46 (n0 + 2) 0 0), (54, .r (.bool x1))], [(12, some (.box n0 121 [.own 3120 (i3 0), .own 3121 (i3 1), .r (.int .i64 w2.cut)])), (43, some (.box (n0 + 1) 135 [.r (.sl (p2.steps.map GStep.row)), .r (.int .i64 p2.used)])), (46, some (.box (n0 + 2) 135 [.r (.sl (q2.steps.map GStep.row)), .r (.int .i64 q2.used)])), (3120, some (.arr (i3 0) 49 4 (w2.out.map GStep.row))), (3121, some (.arr (i3 1) 113 3 (w2.add.map GElem.row)))], (i8 0), 127⟩ := by
          intro x1 i8 e
          have h12 := hk2 _ e
          refine hK20 _ ?_
          refine AW.cond rfl (fun hc4 => ?_) (fun hc4 => ?_)
          · have h13 := ite_t hc4 h12
            refine AW.skip ?_
            refine hK19 _ ?_
            refine AW.block ?_
            refine AW.seq_w fun K21 hK21 wK21 => ?_
            refine AW.block ?_
            refine AW.seq_w fun K22 hK22 wK22 => ?_
            refine AW.region ?_
            refine AOps.step rfl rfl rfl (OpQ.spec (sp_move rfl (.inl rfl)) _) ?_
            refine AOps.stepHI [43] (hc := [(1000, some (.box (n0 + 1) 135 [.r (.sl (p2.steps.map GStep.row)), .r (.int .i64 p2.used)]))]) (bs := [.ptr 1000 (n0 + 1) 0 0]) (caps := []) rfl rfl rfl rfl (.inl rfl) rfl ⟨.inl ⟨(.inl rfl), rfl⟩, trivial⟩ ⟨rfl, rfl, rfl, trivial⟩ (by decide) (w_delta_reader_kind er7) ?_
            intro i9 n3
            refine AOps.weak (s' := ⟨[(12, .ptr 12 n0 0 0), (13, .ptr 43 (n0 + 1) 0 0), (14, .ptr 46 (n0 + 2) 0 0), (54, .r (.bool x1)), (56, .ptr 43 (n0 + 1) 0 0), (57, .r (.int .i64 r7))], [(12, some (.box n0 121 [.own 3120 (i3 0), .own 3121 (i3 1), .r (.int .i64 w2.cut)])), (43, some (.box (n0 + 1) 135 [.r (.sl (p2.steps.map GStep.row)), .r (.int .i64 p2.used)])), (46, some (.box (n0 + 2) 135 [.r (.sl (q2.steps.map GStep.row)), .r (.int .i64 q2.used)])), (3120, some (.arr (i3 0) 49 4 (w2.out.map GStep.row))), (3121, some (.arr (i3 1) 113 3 (w2.add.map GElem.row)))], n3, 127⟩) (by exact Weak.cv ⟨.inl (.inl rfl), .inl (.inl rfl), .inl (.inl rfl), .inl (.inl rfl), .inl (.inl rfl), .inl (.inl rfl), trivial⟩ ⟨.inl rfl, .inl rfl, .inl rfl, .inl rfl, .inl rfl, trivial⟩ (Nat.le_refl _)) ?_
            refine AOps.step rfl rfl rfl (OpQ.spec (sp_eql rfl (.inl rfl) (.inl rfl)) _) ?_
            refine AOps.step rfl rfl rfl (OpQ.spec (sp_assign rfl (.inl rfl)) _) ?_
            refine AOps.nil ?_
            refine hK22 _ ?_
            refine AW.cond rfl (fun hc5 => ?_) (fun hc5 => ?_)
            · have h14 := ite_t hc5 h13
              refine AW.seq_w fun K23 hK23 wK23 => ?_
              refine ob1k h14 fun r9 er9 h15 => ?_
              refine ob2k h15 fun r10 w6 er10 h16 => ?_
              refine AW.regionP 7 [⟨some 59, (fun _ => .ptr 12 n0 0 2), none, []⟩, ⟨some 60, (fun _ => .r (.int .i64 w2.cut)), none, []⟩, ⟨some 61, (fun _ => .ptr 43 (n0 + 1) 0 0), none, []⟩, ⟨some 62, (fun _ => .ptr 43 (n0 + 1) 0 0), none, []⟩, ⟨some 63, (fun _ => .r (.int .i64 r9)), none, []⟩, ⟨some 64, (fun _ => .agg [.r (.int .i64 r10.Kind), .r (.int .i64 r10.N), .r (.sl (r10.Attrs.map GAttr.row)), .r (.sl (r10.Elems.map GElem.row))]), some (43, (fun _ => some (.box (n0 + 1) 135 [.r (.sl (w6.steps.map GStep.row)), .r (.int .i64 w6.used)]))), []⟩, ⟨some 65, (fun _ => .r (.int .i64 r10.N)), none, []⟩] hmix (by kernel_rfl) (by exact ⟨fun _ _ h => ⟨rfl, fun _ _ e => by cases e⟩, fun _ _ h => ⟨rfl, fun _ _ e => by cases e⟩, fun _ _ h => ⟨rfl, fun _ _ e => by cases e⟩, fun _ _ h => ⟨rfl, fun _ _ e => by cases e⟩, fun _ _ h => ⟨rfl, fun _ _ e => by cases e⟩, fun _ _ h => ⟨rfl, fun _ _ e => by cases e; rfl⟩, fun _ _ h => ⟨rfl, fun _ _ e => by cases e⟩, trivial⟩) rfl (by exact ⟨Ob.quiet (n1 := fun n => n) rfl rfl (by intro d h; cases h; rfl) rfl (fun _ => [(12, .ptr 12 n0 0 0)]) (fun _ => [(12, some (.box n0 121 [.own 3120 (i3 0), .own 3121 (i3 1), .r (.int .i64 w2.cut)]))]) (fun D G1 hr => ⟨inE_base rfl rfl, trivial⟩) (fun D G1 hr => ⟨inH_base rfl rfl, trivial⟩) (fun _ _ => rfl) (fun G1 e h' n => OpQ.spec (v := .ptr 12 n0 0 2) (sp_fieldAddr_own (ob := .box _ _ _) rfl tf_121_2 (.inl rfl) (fun _ => rfl) rfl) _),
                  Ob.quiet (n1 := fun n => n) rfl rfl (by intro d h; cases h; rfl) rfl (fun _ => [(59, .ptr 12 n0 0 2)]) (fun _ => [(12, some (.box n0 121 [.own 3120 (i3 0), .own 3121 (i3 1), .r (.int .i64 w2.cut)]))]) (fun D G1 hr => ⟨inE_op hr 0 rfl rfl (by kernel_rfl) rfl rfl, trivial⟩) (fun D G1 hr => ⟨inH_base rfl rfl, trivial⟩) (fun _ _ => rfl) (fun G1 e h' n => OpQ.spec (v := .r (.int .i64 w2.cut)) (ms_load_box (a := .r (.int .i64 w2.cut)) rfl ts_3 (.inl rfl) rfl rfl) _),
                  Ob.quiet (n1 := fun n => n) rfl rfl (by intro d h; cases h; rfl) rfl (fun _ => [(13, .ptr 43 (n0 + 1) 0 0)]) (fun _ => [(43, some (.box (n0 + 1) 135 [.r (.sl (p2.steps.map GStep.row)), .r (.int .i64 p2.used)]))]) (fun D G1 hr => ⟨inE_base rfl rfl, trivial⟩) (fun D G1 hr => ⟨inH_baseL hr (by kernel_rfl) rfl, trivial⟩) (fun _ _ => rfl) (fun G1 e h' n => OpQ.spec (v := .ptr 43 (n0 + 1) 0 0) (sp_move rfl (.inl rfl)) _),
                  Ob.quiet (n1 := fun n => n) rfl rfl (by intro d h; cases h; rfl) rfl (fun _ => [(13, .ptr 43 (n0 + 1) 0 0)]) (fun _ => [(43, some (.box (n0 + 1) 135 [.r (.sl (p2.steps.map GStep.row)), .r (.int .i64 p2.used)]))]) (fun D G1 hr => ⟨inE_base rfl rfl, trivial⟩) (fun D G1 hr => ⟨inH_baseL hr (by kernel_rfl) rfl, trivial⟩) (fun _ _ => rfl) (fun G1 e h' n => OpQ.spec (v := .ptr 43 (n0 + 1) 0 0) (sp_move rfl (.inl rfl)) _),
                  Ob.quietN rfl rfl (by intro d h; cases h; rfl) rfl (fun _ => [(62, .ptr 43 (n0 + 1) 0 0)]) (fun _ => [(43, some (.box (n0 + 1) 135 [.r (.sl (p2.steps.map GStep.row)), .r (.int .i64 p2.used)]))]) (fun D G1 hr => ⟨inE_op hr 3 rfl rfl (by kernel_rfl) rfl rfl, trivial⟩) (fun D G1 hr => ⟨inH_baseL hr (by kernel_rfl) rfl, trivial⟩) (fun _ _ => rfl) (fun G1 e h' n => ⟨_, spn_callH [43] (hc := [(1000, some (.box (n0 + 1) 135 [.r (.sl (p2.steps.map GStep.row)), .r (.int .i64 p2.used)]))]) (bs := [.ptr 1000 (n0 + 1) 0 0]) (caps := []) rfl (.inl rfl) rfl (by exact ⟨.inl ⟨(.inl rfl), rfl⟩, trivial⟩) (by exact ⟨rfl, rfl, rfl, trivial⟩) (by decide) (w_delta_reader_left er9), same_cons rfl⟩),
                  Ob.makeN rfl rfl (by intro d h; cases h; rfl) rfl (fun _ => [(61, .ptr 43 (n0 + 1) 0 0), (63, .r (.int .i64 r9))]) (fun _ => [(43, some (.box (n0 + 1) 135 [.r (.sl (p2.steps.map GStep.row)), .r (.int .i64 p2.used)]))]) (fun D G1 hr => ⟨inE_op hr 2 rfl rfl (by kernel_rfl) rfl rfl, inE_op hr 4 rfl rfl (by kernel_rfl) rfl rfl, trivial⟩) (fun D G1 hr => ⟨inH_baseL hr (by kernel_rfl) rfl, trivial⟩) (fun G1 e h' n => spn_callH [43] (hc := [(1000, some (.box (n0 + 1) 135 [.r (.sl (p2.steps.map GStep.row)), .r (.int .i64 p2.used)]))]) (bs := [.ptr 1000 (n0 + 1) 0 0, .r (.int .i64 r9)]) (caps := []) rfl (.inl rfl) rfl (by exact ⟨.inl ⟨(.inl rfl), rfl⟩, .inl ⟨(.inl rfl), rfl⟩, trivial⟩) (by exact ⟨rfl, rfl, rfl, trivial⟩) (by decide) (w_delta_reader_take er10)),
                  Ob.quiet (n1 := fun n => n) rfl rfl (by intro d h; cases h; rfl) rfl (fun _ => [(64, .agg [.r (.int .i64 r10.Kind), .r (.int .i64 r10.N), .r (.sl (r10.Attrs.map GAttr.row)), .r (.sl (r10.Elems.map GElem.row))])]) (fun _ => []) (fun D G1 hr => ⟨inE_op hr 5 rfl rfl (by kernel_rfl) rfl rfl, trivial⟩) (fun D G1 hr => trivial) (fun _ _ => rfl) (fun G1 e h' n => OpQ.spec (v := .r (.int .i64 r10.N)) (sp_field (a := .r (.int .i64 r10.N)) rfl tc_49_1 (.inl rfl) rfl) _),
                  trivial⟩) fun G1 n4 => ?_
              refine AOps.weak (s' := ⟨[(12, .ptr 12 n0 0 0), (13, .ptr 43 (n0 + 1) 0 0), (14, .ptr 46 (n0 + 2) 0 0), (54, .r (.bool x1)), (55, .r (.bool (decide (r7 = 2)))), (56, .ptr 43 (n0 + 1) 0 0), (57, .r (.int .i64 r7)), (58, .r (.bool (decide (r7 = 2)))), (59, .ptr 12 n0 0 2), (60, .r (.int .i64 w2.cut)), (61, .ptr 43 (n0 + 1) 0 0), (62, .ptr 43 (n0 + 1) 0 0), (63, .r (.int .i64 r9)), (64, .agg [.r (.int .i64 r10.Kind), .r (.int .i64 r10.N), .r (.sl (r10.Attrs.map GAttr.row)), .r (.sl (r10.Elems.map GElem.row))]), (65, .r (.int .i64 r10.N))], [(12, some (.box n0 121 [.own 3120 (i3 0), .own 3121 (i3 1), .r (.int .i64 w2.cut)])), (43, some (.box (n0 + 1) 135 [.r (.sl (w6.steps.map GStep.row)), .r (.int .i64 w6.used)])), (46, some (.box (n0 + 2) 135 [.r (.sl (q2.steps.map GStep.row)), .r (.int .i64 q2.used)])), (3120, some (.arr (i3 0) 49 4 (w2.out.map GStep.row))), (3121, some (.arr (i3 1) 113 3 (w2.add.map GElem.row)))], n4, 127⟩) (by exact Weak.cv ⟨.inl (.inl rfl), .inl (.inl rfl), .inl (.inl rfl), .inl (.inl rfl), .inl (.inl rfl), .inl (.inl rfl), .inl (.inl rfl), .inl (.inl rfl), .inl (.inl rfl), .inl (.inl rfl), .inl (.inl rfl), .inl (.inl rfl), .inl (.inl rfl), .inl (.inl rfl), .inl (.inl rfl), trivial⟩ ⟨.inl rfl, .inl rfl, .inl rfl, .inl rfl, .inl rfl, trivial⟩ (Nat.le_refl _)) ?_
              refine ob1k h16 fun x2 ex2 h17 => ?_
              refine AOps.step rfl rfl rfl (OpQ.spec (ms_add rfl (.inl rfl) (.inl rfl) (fun _ => ex2)) _) ?_
              refine AOps.step rfl rfl rfl (OpQ.spec (sp_fieldAddr_own (ob := .box _ _ _) rfl tf_121_2 (.inl rfl) (fun _ => rfl) rfl) _) ?_
              refine AOps.step0 rfl rfl (ms_store_box (ds := [.own 3120 (i3 0), .own 3121 (i3 1), .r (.int .i64 x2)]) rfl tz_3 (.inl rfl) rfl (.inl rfl) rfl rfl rfl rfl) ?_
              refine AOps.nil ?_
              refine hK23 _ ?_
              refine AW.exit ?_
              exact NextQ3.mk h17 (vec [(i3 0), (i3 1), n4]) ((by exact Weak.cv ⟨.inl (.inl rfl), .inl (.inl rfl), .inl (.inl rfl), trivial⟩ ⟨.inl rfl, .inl rfl, .inl rfl, .inl rfl, .inl rfl, trivial⟩ (Nat.le_refl _)))
            · have h14 := ite_f hc5 h13
              refine AW.seq_w fun K24 hK24 wK24 => ?_
              refine AW.region ?_
              refine AOps.step rfl rfl rfl (OpQ.spec (sp_move rfl (.inl rfl)) _) ?_
              refine ob1k h14 fun r11 er11 h18 => ?_
              refine AOps.stepHI [46] (hc := [(1000, some (.box (n0 + 2) 135 [.r (.sl (q2.steps.map GStep.row)), .r (.int .i64 q2.used)]))]) (bs := [.ptr 1000 (n0 + 2) 0 0]) (caps := []) rfl rfl rfl rfl (.inl rfl) rfl ⟨.inl ⟨(.inl rfl), rfl⟩, trivial⟩ ⟨rfl, rfl, rfl, trivial⟩ (by decide) (w_delta_reader_kind er11) ?_
              intro i10 n5
              refine AOps.weak (s' := ⟨[(12, .ptr 12 n0 0 0), (13, .ptr 43 (n0 + 1) 0 0), (14, .ptr 46 (n0 + 2) 0 0), (54, .r (.bool x1)), (55, .r (.bool (decide (r7 = 2)))), (56, .ptr 43 (n0 + 1) 0 0), (57, .r (.int .i64 r7)), (58, .r (.bool (decide (r7 = 2)))), (69, .ptr 46 (n0 + 2) 0 0), (70, .r (.int .i64 r11))], [(12, some (.box n0 121 [.own 3120 (i3 0), .own 3121 (i3 1), .r (.int .i64 w2.cut)])), (43, some (.box (n0 + 1) 135 [.r (.sl (p2.steps.map GStep.row)), .r (.int .i64 p2.used)])), (46, some (.box (n0 + 2) 135 [.r (.sl (q2.steps.map GStep.row)), .r (.int .i64 q2.used)])), (3120, some (.arr (i3 0) 49 4 (w2.out.map GStep.row))), (3121, some (.arr (i3 1) 113 3 (w2.add.map GElem.row)))], n5, 127⟩) (by exact Weak.cv ⟨.inl (.inl rfl), .inl (.inl rfl), .inl (.inl rfl), .inl (.inl rfl), .inl (.inl rfl), .inl (.inl rfl), .inl (.inl rfl), .inl (.inl rfl), .inl (.inl rfl), .inl (.inl rfl), trivial⟩ ⟨.inl rfl, .inl rfl, .inl rfl, .inl rfl, .inl rfl, trivial⟩ (Nat.le_refl _)) ?_
              refine AOps.step rfl rfl rfl (OpQ.spec (sp_eql rfl (.inl rfl) (.inl rfl)) _) ?_
              refine AOps.step rfl rfl rfl (OpQ.spec (sp_assign rfl (.inl rfl)) _) ?_
              refine AOps.nil ?_
              refine hK24 _ ?_
              refine AW.cond rfl (fun hc6 => ?_) (fun hc6 => ?_)
              · have h19 := ite_t hc6 h18
                refine AW.seq_w fun K25 hK25 wK25 => ?_
                refine AW.weak (s' := ⟨[(12, .ptr 12 n0 0 0), (13, .ptr 43 (n0 + 1) 0 0), (14, .ptr 46 (n0 + 2) 0 0)], [(12, some (.box n0 121 [.own 3120 (i3 0), .own 3121 (i3 1), .r (.int .i64 w2.cut)])), (43, some (.box (n0 + 1) 135 [.r (.sl (p2.steps.map GStep.row)), .r (.int .i64 p2.used)])), (46, some (.box (n0 + 2) 135 [.r (.sl (q2.steps.map GStep.row)), .r (.int .i64 q2.used)])), (3120, some (.arr (i3 0) 49 4 (w2.out.map GStep.row))), (3121, some (.arr (i3 1) 113 3 (w2.add.map GElem.row)))], n5, 127⟩) (by exact Weak.cv ⟨.inl (.inl rfl), .inl (.inl rfl), .inl (.inl rfl), trivial⟩ ⟨.inl rfl, .inl rfl, .inl rfl, .inl rfl, .inl rfl, trivial⟩ (Nat.le_refl _)) ?_
                refine AW.region ?_
                refine AOps.step rfl rfl rfl (OpQ.spec (sp_move rfl (.inl rfl)) _) ?_
                refine AOps.step rfl rfl rfl (OpQ.spec (sp_move rfl (.inl rfl)) _) ?_
                refine ob1k h19 fun r12 er12 h20 => ?_
                refine AOps.stepHI [46] (hc := [(1000, some (.box (n0 + 2) 135 [.r (.sl (q2.steps.map GStep.row)), .r (.int .i64 q2.used)]))]) (bs := [.ptr 1000 (n0 + 2) 0 0]) (caps := []) rfl rfl rfl rfl (.inl rfl) rfl ⟨.inl ⟨(.inl rfl), rfl⟩, trivial⟩ ⟨rfl, rfl, rfl, trivial⟩ (by decide) (w_delta_reader_left er12) ?_
                intro i11 n6
                refine AOps.weak (s' := ⟨[(12, .ptr 12 n0 0 0), (13, .ptr 43 (n0 + 1) 0 0), (14, .ptr 46 (n0 + 2) 0 0), (72, .ptr 46 (n0 + 2) 0 0), (73, .ptr 46 (n0 + 2) 0 0), (74, .r (.int .i64 r12))], [(12, some (.box n0 121 [.own 3120 (i3 0), .own 3121 (i3 1), .r (.int .i64 w2.cut)])), (43, some (.box (n0 + 1) 135 [.r (.sl (p2.steps.map GStep.row)), .r (.int .i64 p2.used)])), (46, some (.box (n0 + 2) 135 [.r (.sl (q2.steps.map GStep.row)), .r (.int .i64 q2.used)])), (3120, some (.arr (i3 0) 49 4 (w2.out.map GStep.row))), (3121, some (.arr (i3 1) 113 3 (w2.add.map GElem.row)))], n6, 127⟩) (by exact Weak.cv ⟨.inl (.inl rfl), .inl (.inl rfl), .inl (.inl rfl), .inl (.inl rfl), .inl (.inl rfl), .inl (.inl rfl), trivial⟩ ⟨.inl rfl, .inl rfl, .inl rfl, .inl rfl, .inl rfl, trivial⟩ (Nat.le_refl _)) ?_
                refine ob2k h20 fun r13 w7 er13 h21 => ?_
                refine AOps.stepHI [46] (hc := [(1000, some (.box (n0 + 2) 135 [.r (.sl (q2.steps.map GStep.row)), .r (.int .i64 q2.used)]))]) (bs := [.ptr 1000 (n0 + 2) 0 0, .r (.int .i64 r12)]) (caps := []) rfl rfl rfl rfl (.inl rfl) rfl ⟨.inl ⟨(.inl rfl), rfl⟩, .inl ⟨(.inl rfl), rfl⟩, trivial⟩ ⟨rfl, rfl, rfl, trivial⟩ (by decide) (w_delta_reader_take er13) ?_
                intro i12 n7
                refine AOps.weak (s' := ⟨[(12, .ptr 12 n0 0 0), (13, .ptr 43 (n0 + 1) 0 0), (14, .ptr 46 (n0 + 2) 0 0), (72, .ptr 46 (n0 + 2) 0 0), (73, .ptr 46 (n0 + 2) 0 0), (74, .r (.int .i64 r12)), (75, .agg [.r (.int .i64 r13.Kind), .r (.int .i64 r13.N), .r (.sl (r13.Attrs.map GAttr.row)), .r (.sl (r13.Elems.map GElem.row))])], [(12, some (.box n0 121 [.own 3120 (i3 0), .own 3121 (i3 1), .r (.int .i64 w2.cut)])), (43, some (.box (n0 + 1) 135 [.r (.sl (p2.steps.map GStep.row)), .r (.int .i64 p2.used)])), (46, some (.box (n0 + 2) 135 [.r (.sl (w7.steps.map GStep.row)), .r (.int .i64 w7.used)])), (3120, some (.arr (i3 0) 49 4 (w2.out.map GStep.row))), (3121, some (.arr (i3 1) 113 3 (w2.add.map GElem.row)))], n7, 127⟩) (by exact Weak.cv ⟨.inl (.inl rfl), .inl (.inl rfl), .inl (.inl rfl), .inl (.inl rfl), .inl (.inl rfl), .inl (.inl rfl), .inl (.inl rfl), trivial⟩ ⟨.inl rfl, .inl rfl, .inl rfl, .inl rfl, .inl rfl, trivial⟩ (Nat.le_refl _)) ?_
                refine AOps.step rfl rfl rfl (OpQ.spec (sp_field (a := .r (.sl (r13.Elems.map GElem.row))) rfl tc_49_3 (.inl rfl) rfl) _) ?_
                refine ob1k h21 fun w8 ew8 h22 => ?_
                refine AOps.stepHI [12, 3120, 3121] (hc := [(1000, some (.box n0 121 [.own 1001 (i3 0), .own 1002 (i3 1), .r (.int .i64 w2.cut)])), (1001, some (.arr (i3 0) 49 4 (w2.out.map GStep.row))), (1002, some (.arr (i3 1) 113 3 (w2.add.map GElem.row)))]) (bs := [.ptr 1000 n0 0 0, .r (.sl (r13.Elems.map GElem.row))]) (caps := []) rfl rfl rfl rfl (.inl rfl) rfl ⟨.inl ⟨(.inl rfl), rfl⟩, .inl ⟨(.inl rfl), rfl⟩, trivial⟩ ⟨rfl, rfl, rfl, rfl, rfl, rfl, rfl, rfl, rfl, trivial⟩ (by decide) (w_delta_writer_elems ew8) ?_
                intro i13 n8
                refine AOps.weak (s' := ⟨[(12, .ptr 12 n0 0 0), (13, .ptr 43 (n0 + 1) 0 0), (14, .ptr 46 (n0 + 2) 0 0), (72, .ptr 46 (n0 + 2) 0 0), (73, .ptr 46 (n0 + 2) 0 0), (74, .r (.int .i64 r12)), (75, .agg [.r (.int .i64 r13.Kind), .r (.int .i64 r13.N), .r (.sl (r13.Attrs.map GAttr.row)), .r (.sl (r13.Elems.map GElem.row))]), (76, .r (.sl (r13.Elems.map GElem.row))), (77, .tup [])], [(12, some (.box n0 121 [.own 3120 (i13 0), .own 3121 (i13 1), .r (.int .i64 w8.cut)])), (43, some (.box (n0 + 1) 135 [.r (.sl (p2.steps.map GStep.row)), .r (.int .i64 p2.used)])), (46, some (.box (n0 + 2) 135 [.r (.sl (w7.steps.map GStep.row)), .r (.int .i64 w7.used)])), (3120, some (.arr (i13 0) 49 4 (w8.out.map GStep.row))), (3121, some (.arr (i13 1) 113 3 (w8.add.map GElem.row)))], n8, 127⟩) (by exact Weak.cv ⟨.inl (.inl rfl), .inl (.inl rfl), .inl (.inl rfl), .inl (.inl rfl), .inl (.inl rfl), .inl (.inl rfl), .inl (.inl rfl), .inl (.inl rfl), .inl (.inl rfl), trivial⟩ ⟨.inl rfl, .inl rfl, .inl rfl, .inl rfl, .inl rfl, trivial⟩ (Nat.le_refl _)) ?_
                refine AOps.nil ?_
                refine hK25 _ ?_
                refine AW.exit ?_
                exact NextQ3.mk h22 (vec [(i13 0), (i13 1), n8]) ((by exact Weak.cv ⟨.inl (.inl rfl), .inl (.inl rfl), .inl (.inl rfl), trivial⟩ ⟨.inl rfl, .inl rfl, .inl rfl, .inl rfl, .inl rfl, trivial⟩ (Nat.le_refl _)))
              · have h19 := ite_f hc6 h18
                refine AW.skip ?_
                refine hK21 _ ?_
                refine AW.seq_w fun K26 hK26 wK26 => ?_
                refine AW.weak (s' := ⟨[(12, .ptr 12 n0 0 0), (13, .ptr 43 (n0 + 1) 0 0), (14, .ptr 46 (n0 + 2) 0 0)], [(12, some (.box n0 121 [.own 3120 (i3 0), .own 3121 (i3 1), .r (.int .i64 w2.cut)])), (43, some (.box (n0 + 1) 135 [.r (.sl (p2.steps.map GStep.row)), .r (.int .i64 p2.used)])), (46, some (.box (n0 + 2) 135 [.r (.sl (q2.steps.map GStep.row)), .r (.int .i64 q2.used)])), (3120, some (.arr (i3 0) 49 4 (w2.out.map GStep.row))), (3121, some (.arr (i3 1) 113 3 (w2.add.map GElem.row)))], n5, 127⟩) (by exact Weak.cv ⟨.inl (.inl rfl), .inl (.inl rfl), .inl (.inl rfl), trivial⟩ ⟨.inl rfl, .inl rfl, .inl rfl, .inl rfl, .inl rfl, trivial⟩ (Nat.le_refl _)) ?_
                refine AW.region ?_
                refine AOps.step rfl rfl rfl (OpQ.spec (sp_move rfl (.inl rfl)) _) ?_
                refine ob1k h19 fun r14 er14 h23 => ?_
                refine AOps.stepHI [43] (hc := [(1000, some (.box (n0 + 1) 135 [.r (.sl (p2.steps.map GStep.row)), .r (.int .i64 p2.used)]))]) (bs := [.ptr 1000 (n0 + 1) 0 0]) (caps := []) rfl rfl rfl rfl (.inl rfl) rfl ⟨.inl ⟨(.inl rfl), rfl⟩, trivial⟩ ⟨rfl, rfl, rfl, trivial⟩ (by decide) (w_delta_reader_left er14) ?_
                intro i14 n9
                refine AOps.weak (s' := ⟨[(12, .ptr 12 n0 0 0), (13, .ptr 43 (n0 + 1) 0 0), (14, .ptr 46 (n0 + 2) 0 0), (78, .ptr 43 (n0 + 1) 0 0), (79, .r (.int .i64 r14))], [(12, some (.box n0 121 [.own 3120 (i3 0), .own 3121 (i3 1), .r (.int .i64 w2.cut)])), (43, some (.box (n0 + 1) 135 [.r (.sl (p2.steps.map GStep.row)), .r (.int .i64 p2.used)])), (46, some (.box (n0 + 2) 135 [.r (.sl (q2.steps.map GStep.row)), .r (.int .i64 q2.used)])), (3120, some (.arr (i3 0) 49 4 (w2.out.map GStep.row))), (3121, some (.arr (i3 1) 113 3 (w2.add.map GElem.row)))], n9, 127⟩) (by exact Weak.cv ⟨.inl (.inl rfl), .inl (.inl rfl), .inl (.inl rfl), .inl (.inl rfl), .inl (.inl rfl), trivial⟩ ⟨.inl rfl, .inl rfl, .inl rfl, .inl rfl, .inl rfl, trivial⟩ (Nat.le_refl _)) ?_
                refine AOps.step rfl rfl rfl (OpQ.spec (sp_move rfl (.inl rfl)) _) ?_
                refine ob1k h23 fun r15 er15 h24 => ?_
                refine AOps.stepHI [46] (hc := [(1000, some (.box (n0 + 2) 135 [.r (.sl (q2.steps.map GStep.row)), .r (.int .i64 q2.used)]))]) (bs := [.ptr 1000 (n0 + 2) 0 0]) (caps := []) rfl rfl rfl rfl (.inl rfl) rfl ⟨.inl ⟨(.inl rfl), rfl⟩, trivial⟩ ⟨rfl, rfl, rfl, trivial⟩ (by decide) (w_delta_reader_left er15) ?_
                intro i15 n10
                refine AOps.weak (s' := ⟨[(12, .ptr 12 n0 0 0), (13, .ptr 43 (n0 + 1) 0 0), (14, .ptr 46 (n0 + 2) 0 0), (78, .ptr 43 (n0 + 1) 0 0), (79, .r (.int .i64 r14)), (80, .ptr 46 (n0 + 2) 0 0), (81, .r (.int .i64 r15))], [(12, some (.box n0 121 [.own 3120 (i3 0), .own 3121 (i3 1), .r (.int .i64 w2.cut)])), (43, some (.box (n0 + 1) 135 [.r (.sl (p2.steps.map GStep.row)), .r (.int .i64 p2.used)])), (46, some (.box (n0 + 2) 135 [.r (.sl (q2.steps.map GStep.row)), .r (.int .i64 q2.used)])), (3120, some (.arr (i3 0) 49 4 (w2.out.map GStep.row))), (3121, some (.arr (i3 1) 113 3 (w2.add.map GElem.row)))], n10, 127⟩) (by exact Weak.cv ⟨.inl (.inl rfl), .inl (.inl rfl), .inl (.inl rfl), .inl (.inl rfl), .inl (.inl rfl), .inl (.inl rfl), .inl (.inl rfl), trivial⟩ ⟨.inl rfl, .inl rfl, .inl rfl, .inl rfl, .inl rfl, trivial⟩ (Nat.le_refl _)) ?_
                refine AOps.step rfl rfl rfl (OpQ.spec (sp_min rfl (.inl rfl) (.inl rfl)) _) ?_
                refine AOps.step rfl rfl rfl (OpQ.spec (sp_assign rfl (.inl rfl)) _) ?_
                refine AOps.nil ?_
                refine hK26 _ ?_
                refine AW.seq_w fun K27 hK27 wK27 => ?_
                refine AW.region ?_
                refine AOps.step rfl rfl rfl (OpQ.spec (sp_move rfl (.inl rfl)) _) ?_
                refine AOps.step rfl rfl rfl (OpQ.spec (sp_move rfl (.inl rfl)) _) ?_
                refine ob2k h24 fun r16 w9 er16 h25 => ?_
                refine AOps.stepHI [43] (hc := [(1000, some (.box (n0 + 1) 135 [.r (.sl (p2.steps.map GStep.row)), .r (.int .i64 p2.used)]))]) (bs := [.ptr 1000 (n0 + 1) 0 0, .r (.int .i64 (min r14 r15))]) (caps := []) rfl rfl rfl rfl (.inl rfl) rfl ⟨.inl ⟨(.inl rfl), rfl⟩, .inl ⟨(.inl rfl), rfl⟩, trivial⟩ ⟨rfl, rfl, rfl, trivial⟩ (by decide) (w_delta_reader_take er16) ?_
                intro i16 n11
                refine AOps.weak (s' := ⟨[(12, .ptr 12 n0 0 0), (13, .ptr 43 (n0 + 1) 0 0), (14, .ptr 46 (n0 + 2) 0 0), (15, .r (.int .i64 (min r14 r15))), (78, .ptr 43 (n0 + 1) 0 0), (79, .r (.int .i64 r14)), (80, .ptr 46 (n0 + 2) 0 0), (81, .r (.int .i64 r15)), (82, .r (.int .i64 (min r14 r15))), (83, .ptr 43 (n0 + 1) 0 0), (84, .r (.int .i64 (min r14 r15))), (85, .agg [.r (.int .i64 r16.Kind), .r (.int .i64 r16.N), .r (.sl (r16.Attrs.map GAttr.row)), .r (.sl (r16.Elems.map GElem.row))])], [(12, some (.box n0 121 [.own 3120 (i3 0), .own 3121 (i3 1), .r (.int .i64 w2.cut)])), (43, some (.box (n0 + 1) 135 [.r (.sl (w9.steps.map GStep.row)), .r (.int .i64 w9.used)])), (46, some (.box (n0 + 2) 135 [.r (.sl (q2.steps.map GStep.row)), .r (.int .i64 q2.used)])), (3120, some (.arr (i3 0) 49 4 (w2.out.map GStep.row))), (3121, some (.arr (i3 1) 113 3 (w2.add.map GElem.row)))], n11, 127⟩) (by exact Weak.cv ⟨.inl (.inl rfl), .inl (.inl rfl), .inl (.inl rfl), .inl (.inl rfl), .inl (.inl rfl), .inl (.inl rfl), .inl (.inl rfl), .inl (.inl rfl), .inl (.inl rfl), .inl (.inl rfl), .inl (.inl rfl), .inl (.inl rfl), trivial⟩ ⟨.inl rfl, .inl rfl, .inl rfl, .inl rfl, .inl rfl, trivial⟩ (Nat.le_refl _)) ?_
                refine AOps.step rfl rfl rfl (OpQ.spec (sp_move rfl (.inl rfl)) _) ?_
                refine AOps.step rfl rfl rfl (OpQ.spec (sp_move rfl (.inl rfl)) _) ?_
                refine ob2k h25 fun r17 w10 er17 h26 => ?_
                refine AOps.stepHI [46] (hc := [(1000, some (.box (n0 + 2) 135 [.r (.sl (q2.steps.map GStep.row)), .r (.int .i64 q2.used)]))]) (bs := [.ptr 1000 (n0 + 2) 0 0, .r (.int .i64 (min r14 r15))]) (caps := []) rfl rfl rfl rfl (.inl rfl) rfl ⟨.inl ⟨(.inl rfl), rfl⟩, .inl ⟨(.inl rfl), rfl⟩, trivial⟩ ⟨rfl, rfl, rfl, trivial⟩ (by decide) (w_delta_reader_take er17) ?_
                intro i17 n12
                refine AOps.weak (s' := ⟨[(12, .ptr 12 n0 0 0), (13, .ptr 43 (n0 + 1) 0 0), (14, .ptr 46 (n0 + 2) 0 0), (15, .r (.int .i64 (min r14 r15))), (78, .ptr 43 (n0 + 1) 0 0), (79, .r (.int .i64 r14)), (80, .ptr 46 (n0 + 2) 0 0), (81, .r (.int .i64 r15)), (82, .r (.int .i64 (min r14 r15))), (83, .ptr 43 (n0 + 1) 0 0), (84, .r (.int .i64 (min r14 r15))), (85, .agg [.r (.int .i64 r16.Kind), .r (.int .i64 r16.N), .r (.sl (r16.Attrs.map GAttr.row)), .r (.sl (r16.Elems.map GElem.row))]), (86, .ptr 46 (n0 + 2) 0 0), (87, .r (.int .i64 (min r14 r15))), (88, .agg [.r (.int .i64 r17.Kind), .r (.int .i64 r17.N), .r (.sl (r17.Attrs.map GAttr.row)), .r (.sl (r17.Elems.map GElem.row))])], [(12, some (.box n0 121 [.own 3120 (i3 0), .own 3121 (i3 1), .r (.int .i64 w2.cut)])), (43, some (.box (n0 + 1) 135 [.r (.sl (w9.steps.map GStep.row)), .r (.int .i64 w9.used)])), (46, some (.box (n0 + 2) 135 [.r (.sl (w10.steps.map GStep.row)), .r (.int .i64 w10.used)])), (3120, some (.arr (i3 0) 49 4 (w2.out.map GStep.row))), (3121, some (.arr (i3 1) 113 3 (w2.add.map GElem.row)))], n12, 127⟩) (by exact Weak.cv ⟨.inl (.inl rfl), .inl (.inl rfl), .inl (.inl rfl), .inl (.inl rfl), .inl (.inl rfl), .inl (.inl rfl), .inl (.inl rfl), .inl (.inl rfl), .inl (.inl rfl), .inl (.inl rfl), .inl (.inl rfl), .inl (.inl rfl), .inl (.inl rfl), .inl (.inl rfl), .inl (.inl rfl), trivial⟩ ⟨.inl rfl, .inl rfl, .inl rfl, .inl rfl, .inl rfl, trivial⟩ (Nat.le_refl _)) ?_
                refine AOps.step rfl rfl rfl (ms_alloc (cs := [.r (.int .i64 0), .r (.int .i64 0), .cst (.slice none 0 0), .cst (.slice none 0 0)]) 16 rfl t0_49 rfl rfl) ?_
                refine AOps.step rfl rfl rfl (ms_alloc (cs := [.r (.int .i64 0), .r (.int .i64 0), .cst (.slice none 0 0), .cst (.slice none 0 0)]) 17 rfl t0_49 rfl rfl) ?_
                refine AOps.step0 rfl rfl (ms_store_box (ds := [.r (.int .i64 r16.Kind), .r (.int .i64 r16.N), .r (.sl (r16.Attrs.map GAttr.row)), .r (.sl (r16.Elems.map GElem.row))]) rfl tz_49 (.inl rfl) rfl (.inl rfl) rfl rfl rfl rfl) ?_
                refine AOps.step0 rfl rfl (ms_store_box (ds := [.r (.int .i64 r17.Kind), .r (.int .i64 r17.N), .r (.sl (r17.Attrs.map GAttr.row)), .r (.sl (r17.Elems.map GElem.row))]) rfl tz_49 (.inl rfl) rfl (.inl rfl) rfl rfl rfl rfl) ?_
                refine AOps.nil ?_
                refine hK27 _ ?_
                refine AW.block ?_
                refine AW.seq_w fun K28 hK28 wK28 => ?_
                refine AW.weak (s' := ⟨[(12, .ptr 12 n0 0 0), (13, .ptr 43 (n0 + 1) 0 0), (14, .ptr 46 (n0 + 2) 0 0), (15, .r (.int .i64 (min r14 r15))), (16, .ptr 16 n12 0 0), (17, .ptr 17 (n12 + 1) 0 0)], [(12, some (.box n0 121 [.own 3120 (i3 0), .own 3121 (i3 1), .r (.int .i64 w2.cut)])), (16, some (.box n12 49 [.r (.int .i64 r16.Kind), .r (.int .i64 r16.N), .r (.sl (r16.Attrs.map GAttr.row)), .r (.sl (r16.Elems.map GElem.row))])), (17, some (.box (n12 + 1) 49 [.r (.int .i64 r17.Kind), .r (.int .i64 r17.N), .r (.sl (r17.Attrs.map GAttr.row)), .r (.sl (r17.Elems.map GElem.row))])), (43, some (.box (n0 + 1) 135 [.r (.sl (w9.steps.map GStep.row)), .r (.int .i64 w9.used)])), (46, some (.box (n0 + 2) 135 [.r (.sl (w10.steps.map GStep.row)), .r (.int .i64 w10.used)])), (3120, some (.arr (i3 0) 49 4 (w2.out.map GStep.row))), (3121, some (.arr (i3 1) 113 3 (w2.add.map GElem.row)))], (n12 + 2), 127⟩) (by exact Weak.cv ⟨.inl (.inl rfl), .inl (.inl rfl), .inl (.inl rfl), .inl (.inl rfl), .inl (.inl rfl), .inl (.inl rfl), trivial⟩ ⟨.inl rfl, .inl rfl, .inl rfl, .inl rfl, .inl rfl, .inl rfl, .inl rfl, trivial⟩ (Nat.le_refl _)) ?_
                refine AW.region ?_
                refine AOps.step rfl rfl rfl (OpQ.spec (sp_fieldAddr_own (ob := .box _ _ _) rfl tf_49_0 (.inl rfl) (fun _ => rfl) rfl) _) ?_
                refine AOps.step rfl rfl rfl (OpQ.spec (ms_load_box (a := .r (.int .i64 r16.Kind)) rfl ts_3 (.inl rfl) rfl rfl) _) ?_
                refine AOps.step rfl rfl rfl (OpQ.spec (sp_eql rfl (.inl rfl) (.inl rfl)) _) ?_
                refine AOps.step rfl rfl rfl (OpQ.spec (sp_move rfl (.inl rfl)) _) ?_
                refine AOps.stepW (.one rfl rfl rfl) rfl rfl (OpQ.spec (sp_fieldAddr_own (ob := .box _ _ _) rfl tf_49_0 (.inl rfl) (fun _ => rfl) rfl) _) ?_
                refine AOps.stepW (.one rfl rfl rfl) rfl rfl (OpQ.spec (ms_load_box (a := .r (.int .i64 r17.Kind)) rfl ts_3 (.inr ⟨_, (by exact id), rfl⟩) rfl rfl) _) ?_
                refine AOps.stepW (.one rfl rfl rfl) rfl rfl (OpQ.spec (sp_eql rfl (.inr ⟨_, (by exact id), rfl⟩) (.inl rfl)) _) ?_
                refine AOps.step rfl rfl rfl (OpQ.spec (sp_and rfl (.inl rfl) (.inr ⟨_, (by exact id), rfl⟩)) _) ?_
                refine AOps.step rfl rfl rfl (OpQ.spec (sp_assign rfl (.inl rfl)) _) ?_
                refine AOps.nil ?_
                refine hK28 _ ?_
                refine AW.cond rfl (fun hc7 => ?_) (fun hc7 => ?_)
                · have h27 := ite_t hc7 h26
                  refine AW.region ?_
                  refine AOps.step rfl rfl rfl (OpQ.spec (sp_move rfl (.inl rfl)) _) ?_
                  refine AOps.step rfl rfl rfl (OpQ.spec (sp_fieldAddr_own (ob := .box _ _ _) rfl tf_49_2 (.inl rfl) (fun _ => rfl) rfl) _) ?_
                  refine AOps.step rfl rfl rfl (OpQ.spec (ms_load_box (a := .r (.sl (r16.Attrs.map GAttr.row))) rfl ts_47 (.inl rfl) rfl rfl) _) ?_
                  refine AOps.step rfl rfl rfl (OpQ.spec (sp_fieldAddr_own (ob := .box _ _ _) rfl tf_49_2 (.inl rfl) (fun _ => rfl) rfl) _) ?_
                  refine AOps.step rfl rfl rfl (OpQ.spec (ms_load_box (a := .r (.sl (r17.Attrs.map GAttr.row))) rfl ts_47 (.inl rfl) rfl rfl) _) ?_
                  refine ob1k h27 fun r18 er18 h28 => ?_
                  refine AOps.step rfl rfl rfl (sp_callS (r := .r (.sl (r18.map GAttr.row))) (caps := []) (bs := [.r (.sl (r16.Attrs.map GAttr.row)), .r (.sl (r17.Attrs.map GAttr.row))]) rfl (.inl rfl) rfl ⟨.inl ⟨(.inl rfl), rfl⟩, .inl ⟨(.inl rfl), rfl⟩, trivial⟩ (fun _ => w_attr_Both (er18))) ?_
                  refine ob1k h28 fun w11 ew11 h29 => ?_
                  refine AOps.stepHI [12, 3120, 3121] (hc := [(1000, some (.box n0 121 [.own 1001 (i3 0), .own 1002 (i3 1), .r (.int .i64 w2.cut)])), (1001, some (.arr (i3 0) 49 4 (w2.out.map GStep.row))), (1002, some (.arr (i3 1) 113 3 (w2.add.map GElem.row)))]) (bs := [.ptr 1000 n0 0 0, .r (.int .i64 (min r14 r15)), .r (.sl (r18.map GAttr.row))]) (caps := []) rfl rfl rfl rfl (.inl rfl) rfl ⟨.inl ⟨(.inl rfl), rfl⟩, .inl ⟨(.inl rfl), rfl⟩, .inl ⟨(.inl rfl), rfl⟩, trivial⟩ ⟨rfl, rfl, rfl, rfl, rfl, rfl, rfl, rfl, rfl, trivial⟩ (by decide) (w_delta_writer_keep ew11) ?_
                  intro i18 n13
                  refine AOps.weak (s' := ⟨[(12, .ptr 12 n0 0 0), (13, .ptr 43 (n0 + 1) 0 0), (14, .ptr 46 (n0 + 2) 0 0), (15, .r (.int .i64 (min r14 r15))), (16, .ptr 16 n12 0 0), (17, .ptr 17 (n12 + 1) 0 0), (89, .r (.bool ((decide (r16.Kind = 0)) && (decide (r17.Kind = 0))))), (90, .ptr 16 n12 0 0), (91, .r (.int .i64 r16.Kind)), (92, .r (.bool (decide (r16.Kind = 0)))), (93, .r (.bool (decide (r16.Kind = 0)))), (97, .r (.bool ((decide (r16.Kind = 0)) && (decide (r17.Kind = 0))))), (98, .r (.int .i64 (min r14 r15))), (99, .ptr 16 n12 0 2), (100, .r (.sl (r16.Attrs.map GAttr.row))), (101, .ptr 17 (n12 + 1) 0 2), (102, .r (.sl (r17.Attrs.map GAttr.row))), (103, .r (.sl (r18.map GAttr.row))), (104, .tup [])], [(12, some (.box n0 121 [.own 3120 (i18 0), .own 3121 (i18 1), .r (.int .i64 w11.cut)])), (16, some (.box n12 49 [.r (.int .i64 r16.Kind), .r (.int .i64 r16.N), .r (.sl (r16.Attrs.map GAttr.row)), .r (.sl (r16.Elems.map GElem.row))])), (17, some (.box (n12 + 1) 49 [.r (.int .i64 r17.Kind), .r (.int .i64 r17.N), .r (.sl (r17.Attrs.map GAttr.row)), .r (.sl (r17.Elems.map GElem.row))])), (43, some (.box (n0 + 1) 135 [.r (.sl (w9.steps.map GStep.row)), .r (.int .i64 w9.used)])), (46, some (.box (n0 + 2) 135 [.r (.sl (w10.steps.map GStep.row)), .r (.int .i64 w10.used)])), (3120, some (.arr (i18 0) 49 4 (w11.out.map GStep.row))), (3121, some (.arr (i18 1) 113 3 (w11.add.map GElem.row)))], n13, 127⟩) (by exact Weak.cv ⟨.inl (.inl rfl), .inl (.inl rfl), .inl (.inl rfl), .inl (.inl rfl), .inl (.inl rfl), .inl (.inl rfl), .inl (.inl rfl), .inl (.inl rfl), .inl (.inl rfl), .inl (.inl rfl), .inl (.inl rfl), .inl (.inl rfl), .inl (.inl rfl), .inl (.inl rfl), .inl (.inl rfl), .inl (.inl rfl), .inl (.inl rfl), .inl (.inl rfl), .inl (.inl rfl), trivial⟩ ⟨.inl rfl, .inl rfl, .inl rfl, .inl rfl, .inl rfl, .inl rfl, .inl rfl, trivial⟩ (Nat.le_refl _)) ?_
                  refine AOps.nil ?_
                  exact NextQ3.mk h29 (vec [(i18 0), (i18 1), n13]) ((by exact Weak.cv ⟨.inl (.inl rfl), .inl (.inl rfl), .inl (.inl rfl), trivial⟩ ⟨.inl rfl, .inl rfl, .inl rfl, .inl rfl, .inl rfl, trivial⟩ (Nat.le_refl _)))
                · have h27 := ite_f hc7 h26
                  refine AW.seq_w fun K29 hK29 wK29 => ?_
                  refine AW.region ?_
                  refine AOps.step rfl rfl rfl (OpQ.spec (sp_fieldAddr_own (ob := .box _ _ _) rfl tf_49_0 (.inl rfl) (fun _ => rfl) rfl) _) ?_
                  refine AOps.step rfl rfl rfl (OpQ.spec (ms_load_box (a := .r (.int .i64 r16.Kind)) rfl ts_3 (.inl rfl) rfl rfl) _) ?_
                  refine AOps.step rfl rfl rfl (OpQ.spec (sp_eql rfl (.inl rfl) (.inl rfl)) _) ?_
                  refine AOps.step rfl rfl rfl (OpQ.spec (sp_assign rfl (.inl rfl)) _) ?_
                  refine AOps.nil ?_
                  refine hK29 _ ?_
                  refine AW.cond rfl (fun hc8 => ?_) (fun hc8 => ?_)
                  · have h30 := ite_t hc8 h27
                    refine AW.weak (s' := ⟨[(12, .ptr 12 n0 0 0), (13, .ptr 43 (n0 + 1) 0 0), (14, .ptr 46 (n0 + 2) 0 0), (15, .r (.int .i64 (min r14 r15)))], [(12, some (.box n0 121 [.own 3120 (i3 0), .own 3121 (i3 1), .r (.int .i64 w2.cut)])), (43, some (.box (n0 + 1) 135 [.r (.sl (w9.steps.map GStep.row)), .r (.int .i64 w9.used)])), (46, some (.box (n0 + 2) 135 [.r (.sl (w10.steps.map GStep.row)), .r (.int .i64 w10.used)])), (3120, some (.arr (i3 0) 49 4 (w2.out.map GStep.row))), (3121, some (.arr (i3 1) 113 3 (w2.add.map GElem.row)))], (n12 + 2), 127⟩) (by exact Weak.cv ⟨.inl (.inl rfl), .inl (.inl rfl), .inl (.inl rfl), .inl (.inl rfl), trivial⟩ ⟨.inl rfl, .inl rfl, .inl rfl, .inl rfl, .inl rfl, trivial⟩ (Nat.le_refl _)) ?_
                    refine AW.region ?_
                    refine AOps.step rfl rfl rfl (OpQ.spec (sp_fieldAddr_own (ob := .box _ _ _) rfl tf_121_2 (.inl rfl) (fun _ => rfl) rfl) _) ?_
                    refine AOps.step rfl rfl rfl (OpQ.spec (ms_load_box (a := .r (.int .i64 w2.cut)) rfl ts_3 (.inl rfl) rfl rfl) _) ?_
                    refine AOps.step rfl rfl rfl (OpQ.spec (sp_move rfl (.inl rfl)) _) ?_
                    refine ob1k h30 fun x3 ex3 h31 => ?_
                    refine AOps.step rfl rfl rfl (OpQ.spec (ms_add rfl (.inl rfl) (.inl rfl) (fun _ => ex3)) _) ?_
                    refine AOps.step rfl rfl rfl (OpQ.spec (sp_fieldAddr_own (ob := .box _ _ _) rfl tf_121_2 (.inl rfl) (fun _ => rfl) rfl) _) ?_
                    refine AOps.step0 rfl rfl (ms_store_box (ds := [.own 3120 (i3 0), .own 3121 (i3 1), .r (.int .i64 x3)]) rfl tz_3 (.inl rfl) rfl (.inl rfl) rfl rfl rfl rfl) ?_
                    refine AOps.nil ?_
                    exact NextQ3.mk h31 (vec [(i3 0), (i3 1), (n12 + 2)]) ((by exact Weak.cv ⟨.inl (.inl rfl), .inl (.inl rfl), .inl (.inl rfl), trivial⟩ ⟨.inl rfl, .inl rfl, .inl rfl, .inl rfl, .inl rfl, trivial⟩ (Nat.le_refl _)))
                  · have h30 := ite_f hc8 h27
                    refine AW.seq_w fun K30 hK30 wK30 => ?_
                    refine AW.weak (s' := ⟨[(12, .ptr 12 n0 0 0), (13, .ptr 43 (n0 + 1) 0 0), (14, .ptr 46 (n0 + 2) 0 0), (16, .ptr 16 n12 0 0), (17, .ptr 17 (n12 + 1) 0 0)], [(12, some (.box n0 121 [.own 3120 (i3 0), .own 3121 (i3 1), .r (.int .i64 w2.cut)])), (16, some (.box n12 49 [.r (.int .i64 r16.Kind), .r (.int .i64 r16.N), .r (.sl (r16.Attrs.map GAttr.row)), .r (.sl (r16.Elems.map GElem.row))])), (17, some (.box (n12 + 1) 49 [.r (.int .i64 r17.Kind), .r (.int .i64 r17.N), .r (.sl (r17.Attrs.map GAttr.row)), .r (.sl (r17.Elems.map GElem.row))])), (43, some (.box (n0 + 1) 135 [.r (.sl (w9.steps.map GStep.row)), .r (.int .i64 w9.used)])), (46, some (.box (n0 + 2) 135 [.r (.sl (w10.steps.map GStep.row)), .r (.int .i64 w10.used)])), (3120, some (.arr (i3 0) 49 4 (w2.out.map GStep.row))), (3121, some (.arr (i3 1) 113 3 (w2.add.map GElem.row)))], (n12 + 2), 127⟩) (by exact Weak.cv ⟨.inl (.inl rfl), .inl (.inl rfl), .inl (.inl rfl), .inl (.inl rfl), .inl (.inl rfl), trivial⟩ ⟨.inl rfl, .inl rfl, .inl rfl, .inl rfl, .inl rfl, .inl rfl, .inl rfl, trivial⟩ (Nat.le_refl _)) ?_
                    refine AW.region ?_
                    refine AOps.step rfl rfl rfl (OpQ.spec (sp_fieldAddr_own (ob := .box _ _ _) rfl tf_49_0 (.inl rfl) (fun _ => rfl) rfl) _) ?_
                    refine AOps.step rfl rfl rfl (OpQ.spec (ms_load_box (a := .r (.int .i64 r17.Kind)) rfl ts_3 (.inl rfl) rfl rfl) _) ?_
                    refine AOps.step rfl rfl rfl (OpQ.spec (sp_eql rfl (.inl rfl) (.inl rfl)) _) ?_
                    refine AOps.step rfl rfl rfl (OpQ.spec (sp_assign rfl (.inl rfl)) _) ?_
                    refine AOps.nil ?_
                    refine hK30 _ ?_
                    refine AW.cond rfl (fun hc9 => ?_) (fun hc9 => ?_)
                    · have h32 := ite_t hc9 h30
                      refine AW.region ?_
                      refine AOps.step rfl rfl rfl (OpQ.spec (sp_fieldAddr_own (ob := .box _ _ _) rfl tf_49_3 (.inl rfl) (fun _ => rfl) rfl) _) ?_
                      refine AOps.step rfl rfl rfl (OpQ.spec (ms_load_box (a := .r (.sl (r16.Elems.map GElem.row))) rfl ts_39 (.inl rfl) rfl rfl) _) ?_
                      refine AOps.step rfl rfl rfl (OpQ.spec (sp_fieldAddr_own (ob := .box _ _ _) rfl tf_49_2 (.inl rfl) (fun _ => rfl) rfl) _) ?_
                      refine AOps.step rfl rfl rfl (OpQ.spec (ms_load_box (a := .r (.sl (r17.Attrs.map GAttr.row))) rfl ts_47 (.inl rfl) rfl rfl) _) ?_
                      refine ob1k h32 fun r19 er19 h33 => ?_
                      refine AOps.step rfl rfl rfl (sp_callS (r := .r (.sl (r19.map GElem.row))) (caps := []) (bs := [.r (.sl (r16.Elems.map GElem.row)), .r (.sl (r17.Attrs.map GAttr.row))]) rfl (.inl rfl) rfl ⟨.inl ⟨(.inl rfl), rfl⟩, .inl ⟨(.inl rfl), rfl⟩, trivial⟩ (fun _ => w_delta_changed (er19))) ?_
                      refine ob1k h33 fun w12 ew12 h34 => ?_
                      refine AOps.stepHI [12, 3120, 3121] (hc := [(1000, some (.box n0 121 [.own 1001 (i3 0), .own 1002 (i3 1), .r (.int .i64 w2.cut)])), (1001, some (.arr (i3 0) 49 4 (w2.out.map GStep.row))), (1002, some (.arr (i3 1) 113 3 (w2.add.map GElem.row)))]) (bs := [.ptr 1000 n0 0 0, .r (.sl (r19.map GElem.row))]) (caps := []) rfl rfl rfl rfl (.inl rfl) rfl ⟨.inl ⟨(.inl rfl), rfl⟩, .inl ⟨(.inl rfl), rfl⟩, trivial⟩ ⟨rfl, rfl, rfl, rfl, rfl, rfl, rfl, rfl, rfl, trivial⟩ (by decide) (w_delta_writer_elems ew12) ?_
                      intro i19 n14
                      refine AOps.weak (s' := ⟨[(12, .ptr 12 n0 0 0), (13, .ptr 43 (n0 + 1) 0 0), (14, .ptr 46 (n0 + 2) 0 0), (16, .ptr 16 n12 0 0), (17, .ptr 17 (n12 + 1) 0 0), (114, .r (.bool (decide (r17.Kind = 0)))), (115, .ptr 17 (n12 + 1) 0 0), (116, .r (.int .i64 r17.Kind)), (117, .r (.bool (decide (r17.Kind = 0)))), (118, .ptr 16 n12 0 3), (119, .r (.sl (r16.Elems.map GElem.row))), (120, .ptr 17 (n12 + 1) 0 2), (121, .r (.sl (r17.Attrs.map GAttr.row))), (122, .r (.sl (r19.map GElem.row))), (123, .tup [])], [(12, some (.box n0 121 [.own 3120 (i19 0), .own 3121 (i19 1), .r (.int .i64 w12.cut)])), (16, some (.box n12 49 [.r (.int .i64 r16.Kind), .r (.int .i64 r16.N), .r (.sl (r16.Attrs.map GAttr.row)), .r (.sl (r16.Elems.map GElem.row))])), (17, some (.box (n12 + 1) 49 [.r (.int .i64 r17.Kind), .r (.int .i64 r17.N), .r (.sl (r17.Attrs.map GAttr.row)), .r (.sl (r17.Elems.map GElem.row))])), (43, some (.box (n0 + 1) 135 [.r (.sl (w9.steps.map GStep.row)), .r (.int .i64 w9.used)])), (46, some (.box (n0 + 2) 135 [.r (.sl (w10.steps.map GStep.row)), .r (.int .i64 w10.used)])), (3120, some (.arr (i19 0) 49 4 (w12.out.map GStep.row))), (3121, some (.arr (i19 1) 113 3 (w12.add.map GElem.row)))], n14, 127⟩) (by exact Weak.cv ⟨.inl (.inl rfl), .inl (.inl rfl), .inl (.inl rfl), .inl (.inl rfl), .inl (.inl rfl), .inl (.inl rfl), .inl (.inl rfl), .inl (.inl rfl), .inl (.inl rfl), .inl (.inl rfl), .inl (.inl rfl), .inl (.inl rfl), .inl (.inl rfl), .inl (.inl rfl), .inl (.inl rfl), trivial⟩ ⟨.inl rfl, .inl rfl, .inl rfl, .inl rfl, .inl rfl, .inl rfl, .inl rfl, trivial⟩ (Nat.le_refl _)) ?_
                      refine AOps.nil ?_
                      exact NextQ3.mk h34 (vec [(i19 0), (i19 1), n14]) ((by exact Weak.cv ⟨.inl (.inl rfl), .inl (.inl rfl), .inl (.inl rfl), trivial⟩ ⟨.inl rfl, .inl rfl, .inl rfl, .inl rfl, .inl rfl, trivial⟩ (Nat.le_refl _)))
                    · have h32 := ite_f hc9 h30
                      refine AW.skip ?_
                      exact NextQ3.mk h32 (vec [(i3 0), (i3 1), (n12 + 2)]) ((by exact Weak.cv ⟨.inl (.inl rfl), .inl (.inl rfl), .inl (.inl rfl), trivial⟩ ⟨.inl rfl, .inl rfl, .inl rfl, .inl rfl, .inl rfl, trivial⟩ (Nat.le_refl _)))
          · have h13 := ite_f hc4 h12
            refine AW.exit ?_
            exact wK17 _ _ ((by exact Weak.cv ⟨.inl (.inl rfl), trivial⟩ ⟨.inl rfl, .inl rfl, .inl rfl, trivial⟩ (Nat.le_refl _))) (J1 _ (vec [(i3 0), (i3 1), (i8 0)]) (hx1 _ (Option.some.inj h13).symm))
        refine AOps.split ((decide (0 ≤ r7)) == false) (fun hg1 => ?_) (fun hg1 => ?_)
        · have h35 := ite_t hg1 hp1
          refine AOps.weak (by exact Weak.unw2 (e' := [(12, .ptr 12 n0 0 0), (13, .ptr 43 (n0 + 1) 0 0), (14, .ptr 46 (n0 + 2) 0 0), (47, .ptr 43 (n0 + 1) 0 0), (48, .r (.int .i64 r7)), (49, .r (.bool (decide (0 ≤ r7)))), (50, .r (.bool (decide (0 ≤ r7)))), (51, .ptr 46 (n0 + 2) 0 0)]) hg1 ⟨.inl rfl, .inl rfl, .inl rfl, .inl rfl, .inl rfl, .inl rfl, .inl rfl, .inr (.inl rfl), trivial⟩) ?_
          refine ob1k h35 fun r20 er20 h36 => ?_
          refine AOps.stepHG (.one rfl rfl rfl) hg1 [46] (hc := [(1000, some (.box (n0 + 2) 135 [.r (.sl (q2.steps.map GStep.row)), .r (.int .i64 q2.used)]))]) (bs := [.ptr 1000 (n0 + 2) 0 0]) (caps := []) rfl rfl rfl (.inl rfl) rfl ⟨.inl ⟨(.inl rfl), rfl⟩, trivial⟩ ⟨rfl, rfl, rfl, trivial⟩ (by decide) (w_delta_reader_kind er20) ?_
          intro i20 n15
          refine AOps.weak (s' := ⟨[(12, .ptr 12 n0 0 0), (13, .ptr 43 (n0 + 1) 0 0), (14, .ptr 46 (n0 + 2) 0 0), (47, .ptr 43 (n0 + 1) 0 0), (48, .r (.int .i64 r7)), (49, .r (.bool (decide (0 ≤ r7)))), (50, .r (.bool (decide (0 ≤ r7)))), (51, .ptr 46 (n0 + 2) 0 0), (52, .r (.int .i64 r20))], [(12, some (.box n0 121 [.own 3120 (i3 0), .own 3121 (i3 1), .r (.int .i64 w2.cut)])), (43, some (.box (n0 + 1) 135 [.r (.sl (p2.steps.map GStep.row)), .r (.int .i64 p2.used)])), (46, some (.box (n0 + 2) 135 [.r (.sl (q2.steps.map GStep.row)), .r (.int .i64 q2.used)])), (3120, some (.arr (i3 0) 49 4 (w2.out.map GStep.row))), (3121, some (.arr (i3 1) 113 3 (w2.add.map GElem.row)))], n15, 127⟩) (by exact Weak.cv ⟨.inl (.inl rfl), .inl (.inl rfl), .inl (.inl rfl), .inl (.inl rfl), .inl (.inl rfl), .inl (.inl rfl), .inl (.inl rfl), .inl (.inl rfl), .inl (.inl rfl), trivial⟩ ⟨.inl rfl, .inl rfl, .inl rfl, .inl rfl, .inl rfl, trivial⟩ (Nat.le_refl _)) ?_
          refine AOps.stepGT (.one rfl rfl rfl) hg1 rfl rfl (OpQ.spec (sp_geq rfl (.inl rfl) (.inl rfl)) _) ?_
          refine AOps.step rfl rfl rfl (OpQ.spec (sp_or rfl (.inl rfl) (.inl rfl)) _) ?_
          refine AOps.nil ?_
          exact wK20 _ _ ((by exact Weak.cv ⟨.inl (.inl rfl), .inl (.inl rfl), .inl (.inl rfl), .inl (.inl rfl), trivial⟩ ⟨.inl rfl, .inl rfl, .inl rfl, .inl rfl, .inl rfl, trivial⟩ (Nat.le_refl _))) (J2 _ (vec [n15]) (Option.some.inj h36).symm)
        · have h35 := ite_f hg1 hp1
          refine AOps.stepGF2 (.one rfl rfl rfl) hg1 rfl rfl ?_
          refine AOps.stepGF2 (.one rfl rfl rfl) hg1 rfl rfl ?_
          refine AOps.step rfl rfl rfl (OpQ.spec (sp_or rfl (.inl rfl) (.inr ⟨_, (by exact id), rfl⟩)) _) ?_
          refine AOps.nil ?_
          exact wK20 _ _ ((by exact Weak.cv ⟨.inl (.inl rfl), .inl (.inl rfl), .inl (.inl rfl), .inl (.inl rfl), trivial⟩ ⟨.inl rfl, .inl rfl, .inl rfl, .inl rfl, .inl rfl, trivial⟩ (Nat.le_refl _))) (J2 _ (vec [n2]) (Option.some.inj h35).symm)
set_option maxHeartbeats 4000000 in
set_option maxRecDepth 20000 in
theorem w_ref_In {x1 : Int} {low1 : Int} {high1 : Int} {r : Bool} (h : ref_In x1 low1 high1 = some r) : ARO Try.prog 43 [.r (.int .i64 x1), .r (.int .i64 low1), .r (.int .i64 high1)] (.r (.bool r)) := by
  unfold ref_In at h
  refine ARO.mkF Try.func43 rfl rfl Try.ntmps43 rfl (Nat.le_of_ble_eq_true rfl) fun n0 => ?_
  refine AW.seq_w fun K1 hK1 wK1 => ?_
  refine AW.region ?_
  refine AOps.step rfl rfl rfl (OpQ.spec (sp_assign rfl (.inl rfl)) _) ?_
  refine AOps.nil ?_
  refine hK1 _ ?_
  refine AW.seq_w fun K2 hK2 wK2 => ?_
  refine AW.region ?_
  refine AOps.step rfl rfl rfl (OpQ.spec (sp_move rfl (.inl rfl)) _) ?_
  refine AOps.step rfl rfl rfl (OpQ.spec (sp_move rfl (.inl rfl)) _) ?_
  refine AOps.step rfl rfl rfl (OpQ.spec (sp_geq rfl (.inl rfl) (.inl rfl)) _) ?_
  refine AOps.step rfl rfl rfl (OpQ.spec (sp_move rfl (.inl rfl)) _) ?_
  refine AOps.stepW (.one rfl rfl rfl) rfl rfl (OpQ.spec (sp_move rfl (.inl rfl)) _) ?_
  refine AOps.stepW (.one rfl rfl rfl) rfl rfl (OpQ.spec (sp_move rfl (.inl rfl)) _) ?_
  refine AOps.stepW (.one rfl rfl rfl) rfl rfl (OpQ.spec (sp_leq rfl (.inr ⟨_, (by exact id), rfl⟩) (.inr ⟨_, (by exact id), rfl⟩)) _) ?_
  refine AOps.step rfl rfl rfl (OpQ.spec (sp_and rfl (.inl rfl) (.inr ⟨_, (by exact id), rfl⟩)) _) ?_
  refine AOps.step rfl rfl rfl (OpQ.spec (sp_assign rfl (.inl rfl)) _) ?_
  refine AOps.nil ?_
  refine hK2 _ ?_
  refine AW.ret ?_
  exact retf1 (P := Try.prog) (fun (r : Bool) => .r (.bool r)) h (.inl rfl) (.t (.d rfl))
set_option maxHeartbeats 4000000 in
set_option maxRecDepth 20000 in
theorem w_ref_Char {c1 : Int} {r : Bool} (h : ref_Char c1 = some r) : ARO Try.prog 128 [.r (.int .i64 c1)] (.r (.bool r)) := by
  unfold ref_Char at h
  refine ARO.mkF Try.func128 rfl rfl Try.ntmps128 rfl (Nat.le_of_ble_eq_true rfl) fun n0 => ?_
  refine AW.seq_w fun K1 hK1 wK1 => ?_
  refine AW.region ?_
  refine AOps.step rfl rfl rfl (OpQ.spec (sp_assign rfl (.inl rfl)) _) ?_
  refine AOps.nil ?_
  refine hK1 _ ?_
  refine AW.seq_w fun K2 hK2 wK2 => ?_
  refine AW.region ?_
  refine AOps.step rfl rfl rfl (OpQ.spec (sp_move rfl (.inl rfl)) _) ?_
  refine AOps.step rfl rfl rfl (OpQ.spec (sp_eql rfl (.inl rfl) (.inl rfl)) _) ?_
  refine AOps.step rfl rfl rfl (OpQ.spec (sp_move rfl (.inl rfl)) _) ?_
  refine AOps.stepW (.one rfl rfl rfl) rfl rfl (OpQ.spec (sp_move rfl (.inl rfl)) _) ?_
  refine AOps.stepW (.one rfl rfl rfl) rfl rfl (OpQ.spec (sp_eql rfl (.inr ⟨_, (by exact id), rfl⟩) (.inl rfl)) _) ?_
  refine AOps.step rfl rfl rfl (OpQ.spec (sp_or rfl (.inl rfl) (.inr ⟨_, (by exact id), rfl⟩)) _) ?_
  refine AOps.step rfl rfl rfl (OpQ.spec (sp_move rfl (.inl rfl)) _) ?_
  refine AOps.stepW (.one rfl rfl rfl) rfl rfl (OpQ.spec (sp_move rfl (.inl rfl)) _) ?_
  refine ob1k h fun r1 er1 h1 => ?_
  refine AOps.stepW (.one rfl rfl rfl) rfl rfl (sp_call (r := .r (.bool r1)) (caps := []) (bs := [.r (.int .i64 c1), .r (.int .i64 32), .r (.int .i64 126)]) rfl (.inl rfl) rfl ⟨⟨_, (.inr ⟨_, (by exact id), rfl⟩), .d rfl⟩, ⟨_, (.inl rfl), .d rfl⟩, ⟨_, (.inl rfl), .d rfl⟩, trivial⟩ (fun hg => w_ref_In (gdt er1 hg)) rfl) ?_
  refine AOps.step rfl rfl rfl (OpQ.spec (sp_or rfl (.inl rfl) (.inr ⟨_, (by exact id), rfl⟩)) _) ?_
  refine AOps.step rfl rfl rfl (OpQ.spec (sp_move rfl (.inl rfl)) _) ?_
  refine AOps.stepW (.one rfl rfl rfl) rfl rfl (OpQ.spec (sp_move rfl (.inl rfl)) _) ?_
  refine ob1k h1 fun r2 er2 h2 => ?_
  refine AOps.stepW (.one rfl rfl rfl) rfl rfl (sp_call (r := .r (.bool r2)) (caps := []) (bs := [.r (.int .i64 c1), .r (.int .i64 160), .r (.int .i64 55295)]) rfl (.inl rfl) rfl ⟨⟨_, (.inr ⟨_, (by exact id), rfl⟩), .d rfl⟩, ⟨_, (.inl rfl), .d rfl⟩, ⟨_, (.inl rfl), .d rfl⟩, trivial⟩ (fun hg => w_ref_In (gdt er2 hg)) rfl) ?_
  refine AOps.step rfl rfl rfl (OpQ.spec (sp_or rfl (.inl rfl) (.inr ⟨_, (by exact id), rfl⟩)) _) ?_
  refine AOps.step rfl rfl rfl (OpQ.spec (sp_move rfl (.inl rfl)) _) ?_
  refine AOps.stepW (.one rfl rfl rfl) rfl rfl (OpQ.spec (sp_move rfl (.inl rfl)) _) ?_
  refine ob1k h2 fun r3 er3 h3 => ?_
  refine AOps.stepW (.one rfl rfl rfl) rfl rfl (sp_call (r := .r (.bool r3)) (caps := []) (bs := [.r (.int .i64 c1), .r (.int .i64 57344), .r (.int .i64 1114111)]) rfl (.inl rfl) rfl ⟨⟨_, (.inr ⟨_, (by exact id), rfl⟩), .d rfl⟩, ⟨_, (.inl rfl), .d rfl⟩, ⟨_, (.inl rfl), .d rfl⟩, trivial⟩ (fun hg => w_ref_In (gdt er3 hg)) rfl) ?_
  refine AOps.step rfl rfl rfl (OpQ.spec (sp_or rfl (.inl rfl) (.inr ⟨_, (by exact id), rfl⟩)) _) ?_
  refine AOps.step rfl rfl rfl (OpQ.spec (sp_assign rfl (.inl rfl)) _) ?_
  refine AOps.nil ?_
  refine hK2 _ ?_
  refine AW.ret ?_
  exact retf1 (P := Try.prog) (fun (r : Bool) => .r (.bool r)) h3 (.inl rfl) (.t (.d rfl))
set_option maxHeartbeats 4000000 in
set_option maxRecDepth 20000 in
theorem w_ref_Name {s1 : List UInt8} {r : Bool} (h : ref_Name s1 = some r) : ARO Try.prog 87 [.r (.str s1)] (.r (.bool r)) := by
  unfold ref_Name at h
  refine ARO.mkF Try.func87 rfl rfl Try.ntmps87 rfl (Nat.le_of_ble_eq_true rfl) fun n0 => ?_
  refine AW.seq_w fun K1 hK1 wK1 => ?_
  refine AW.region ?_
  refine AOps.step rfl rfl rfl (OpQ.spec (sp_assign rfl (.inl rfl)) _) ?_
  refine AOps.nil ?_
  refine hK1 _ ?_
  refine AW.seq_w fun K2 hK2 wK2 => ?_
  refine AW.seq_w fun K3 hK3 wK3 => ?_
  refine AW.region ?_
  refine AOps.step rfl rfl rfl (OpQ.spec (sp_move rfl (.inl rfl)) _) ?_
  refine AOps.step rfl rfl rfl (OpQ.spec (sp_len_str rfl Try.underlying9 (.inl rfl)) _) ?_
  refine AOps.step rfl rfl rfl (OpQ.spec (sp_move rfl (.inl rfl)) _) ?_
  refine AOps.nil ?_
  refine hK3 _ ?_
  refine AW.block ?_
  refine jc1k h fun o1 hit1 hk1 he1 => ?_
  have J1 : ∀ (u2 : Unit) (i5 : Nat → Nat), o1 = .nrm u2 → K2 ⟨[(0, .r (.str s1))], [], (i5 0), 59⟩ := by
    intro u2 i5 e
    have h1 := hk1 _ e
    refine hK2 _ ?_
    refine AW.seq_w fun K4 hK4 wK4 => ?_
    refine AW.region ?_
    refine AOps.step rfl rfl rfl (OpQ.spec (sp_move rfl (.inl rfl)) _) ?_
    refine AOps.step rfl rfl rfl (OpQ.spec (sp_len_str rfl Try.underlying9 (.inl rfl)) _) ?_
    refine AOps.step rfl rfl rfl (OpQ.spec (sp_geq rfl (.inl rfl) (.inl rfl)) _) ?_
    refine AOps.step rfl rfl rfl (OpQ.spec (sp_move rfl (.inl rfl)) _) ?_
    refine AOps.stepW (.one rfl rfl rfl) rfl rfl (OpQ.spec (sp_move rfl (.inl rfl)) _) ?_
    refine AOps.stepW (.one rfl rfl rfl) rfl rfl (OpQ.spec (sp_len_str rfl Try.underlying9 (.inr ⟨_, (by exact id), rfl⟩)) _) ?_
    refine AOps.stepW (.one rfl rfl rfl) rfl rfl (OpQ.spec (sp_leq rfl (.inr ⟨_, (by exact id), rfl⟩) (.inl rfl)) _) ?_
    refine AOps.step rfl rfl rfl (OpQ.spec (sp_and rfl (.inl rfl) (.inr ⟨_, (by exact id), rfl⟩)) _) ?_
    refine AOps.step rfl rfl rfl (OpQ.spec (sp_assign rfl (.inl rfl)) _) ?_
    refine AOps.nil ?_
    refine hK4 _ ?_
    refine AW.ret ?_
    exact retf1 (P := Try.prog) (fun (r : Bool) => .r (.bool r)) h1 (.inl rfl) (.t (.d rfl))
  refine AW.iter1 (fun (x2 : Int) i3 => ⟨[(0, .r (.str s1)), (6, .r (.int .i64 (s1.length : Int))), (7, .r (.int .i64 x2))], [], (i3 0), 59⟩) (vec [n0]) hit1 ((by exact Weak.cv ⟨.inl (.inl rfl), .inl (.inl rfl), .inl (.inl rfl), trivial⟩ trivial (Nat.le_refl _))) ?_
  intro x2 i3 v1 hv1 hx1
  have h2 : ref_Name_L1 s1 x2 = some v1 := hv1; unfold ref_Name_L1 at h2
  refine AW.seq_w fun K5 hK5 wK5 => ?_
  refine AW.region ?_
  refine AOps.step rfl rfl rfl (OpQ.spec (sp_lss rfl (.inl rfl) (.inl rfl)) _) ?_
  refine AOps.nil ?_
  refine hK5 _ ?_
  refine AW.seq_w fun K6 hK6 wK6 => ?_
  refine AW.cond rfl (fun hc1 => ?_) (fun hc1 => ?_)
  · have h3 := ite_t hc1 h2
    refine AW.skip ?_
    refine hK6 _ ?_
    refine AW.seq_w fun K7 hK7 wK7 => ?_
    refine AW.block ?_
    refine AW.seq_w fun K8 hK8 wK8 => ?_
    refine AW.region ?_
    refine AOps.step rfl rfl rfl (OpQ.spec (sp_move rfl (.inl rfl)) _) ?_
    refine AOps.step rfl rfl rfl (OpQ.spec (sp_assign rfl (.inl rfl)) _) ?_
    refine AOps.nil ?_
    refine hK8 _ ?_
    refine AW.seq_w fun K9 hK9 wK9 => ?_
    refine AW.region ?_
    refine AOps.step rfl rfl rfl (OpQ.spec (sp_move rfl (.inl rfl)) _) ?_
    refine AOps.step rfl rfl rfl (OpQ.spec (sp_move rfl (.inl rfl)) _) ?_
    refine ob1k h3 fun ch1 ech1 h4 => ?_
    refine AOps.step rfl rfl rfl (OpQ.spec (ms_idx_str rfl Try.underlying9 (.inl rfl) (.inl rfl) (fun _ => ech1)) _) ?_
    refine AOps.step rfl rfl rfl (OpQ.spec (sp_geq rfl (.inl rfl) (.inl rfl)) _) ?_
    refine AOps.step rfl rfl rfl (OpQ.spec (sp_move rfl (.inl rfl)) _) ?_
    refine AOps.stepW (.one rfl rfl rfl) rfl rfl (OpQ.spec (sp_move rfl (.inl rfl)) _) ?_
    refine AOps.stepW (.one rfl rfl rfl) rfl rfl (OpQ.spec (sp_move rfl (.inl rfl)) _) ?_
    refine AOps.stepW (.one rfl rfl rfl) rfl rfl (OpQ.spec (ms_idx_str rfl Try.underlying9 (.inr ⟨_, (by exact id), rfl⟩) (.inr ⟨_, (by exact id), rfl⟩) (fun _ => ech1)) _) ?_
    refine AOps.stepW (.one rfl rfl rfl) rfl rfl (OpQ.spec (sp_leq rfl (.inr ⟨_, (by exact id), rfl⟩) (.inl rfl)) _) ?_
    refine AOps.step rfl rfl rfl (OpQ.spec (sp_and rfl (.inl rfl) (.inr ⟨_, (by exact id), rfl⟩)) _) ?_
    refine AOps.step rfl rfl rfl (OpQ.spec (sp_assign rfl (.inl rfl)) _) ?_
    refine AOps.nil ?_
    refine hK9 _ ?_
    refine AW.seq_w fun K10 hK10 wK10 => ?_
    refine AW.region ?_
    refine AOps.step rfl rfl rfl (OpQ.spec (sp_move rfl (.inl rfl)) _) ?_
    refine AOps.step rfl rfl rfl (OpQ.spec (sp_not rfl (.inl rfl)) _) ?_
    refine AOps.step rfl rfl rfl (OpQ.spec (sp_move rfl (.inl rfl)) _) ?_
    refine AOps.stepW (.one rfl rfl rfl) rfl rfl (OpQ.spec (sp_move rfl (.inl rfl)) _) ?_
    refine AOps.stepW (.one rfl rfl rfl) rfl rfl (OpQ.spec (sp_eql rfl (.inr ⟨_, (by exact id), rfl⟩) (.inl rfl)) _) ?_
    refine AOps.stepW (.one rfl rfl rfl) rfl rfl (OpQ.spec (sp_move rfl (.inr ⟨_, (by exact id), rfl⟩)) _) ?_
    refine AOps.stepW (.two rfl rfl rfl) rfl rfl (OpQ.spec (sp_move rfl (.inl rfl)) _) ?_
    refine AOps.stepW (.two rfl rfl rfl) rfl rfl (OpQ.spec (sp_move rfl (.inl rfl)) _) ?_
    refine AOps.stepW (.two rfl rfl rfl) rfl rfl (OpQ.spec (ms_idx_str rfl Try.underlying9 (.inr ⟨_, (by exact id), rfl⟩) (.inr ⟨_, (by exact id), rfl⟩) (fun _ => ech1)) _) ?_
    refine AOps.stepW (.two rfl rfl rfl) rfl rfl (OpQ.spec (sp_neq rfl (.inr ⟨_, (by exact id), rfl⟩) (.inl rfl)) _) ?_
    refine AOps.stepW (.two rfl rfl rfl) rfl rfl (OpQ.spec (sp_move rfl (.inr ⟨_, (by exact id), rfl⟩)) _) ?_
    refine AOps.stepW (.two rfl rfl rfl) rfl rfl (OpQ.spec (sp_move rfl (.inl rfl)) _) ?_
    refine AOps.stepW (.two rfl rfl rfl) rfl rfl (OpQ.spec (sp_move rfl (.inl rfl)) _) ?_
    refine AOps.stepW (.two rfl rfl rfl) rfl rfl (OpQ.spec (ms_idx_str rfl Try.underlying9 (.inr ⟨_, (by exact id), rfl⟩) (.inr ⟨_, (by exact id), rfl⟩) (fun _ => ech1)) _) ?_
    refine AOps.stepW (.two rfl rfl rfl) rfl rfl (OpQ.spec (sp_neq rfl (.inr ⟨_, (by exact id), rfl⟩) (.inl rfl)) _) ?_
    refine AOps.stepW (.two rfl rfl rfl) rfl rfl (OpQ.spec (sp_and rfl (.inr ⟨_, (by exact id), rfl⟩) (.inr ⟨_, (by exact id), rfl⟩)) _) ?_
    refine AOps.stepW (.two rfl rfl rfl) rfl rfl (OpQ.spec (sp_move rfl (.inr ⟨_, (by exact id), rfl⟩)) _) ?_
    refine AOps.stepW (.two rfl rfl rfl) rfl rfl (OpQ.spec (sp_move rfl (.inl rfl)) _) ?_
    refine AOps.stepW (.two rfl rfl rfl) rfl rfl (OpQ.spec (sp_move rfl (.inl rfl)) _) ?_
    refine AOps.stepW (.two rfl rfl rfl) rfl rfl (OpQ.spec (ms_idx_str rfl Try.underlying9 (.inr ⟨_, (by exact id), rfl⟩) (.inr ⟨_, (by exact id), rfl⟩) (fun _ => ech1)) _) ?_
    refine AOps.stepW (.two rfl rfl rfl) rfl rfl (OpQ.spec (sp_lss rfl (.inr ⟨_, (by exact id), rfl⟩) (.inl rfl)) _) ?_
    refine AOps.stepW (.two rfl rfl rfl) rfl rfl (OpQ.spec (sp_move rfl (.inr ⟨_, (by exact id), rfl⟩)) _) ?_
    refine AOps.stepW (.two rfl rfl rfl) rfl rfl (OpQ.spec (sp_move rfl (.inl rfl)) _) ?_
    refine AOps.stepW (.two rfl rfl rfl) rfl rfl (OpQ.spec (sp_move rfl (.inl rfl)) _) ?_
    refine AOps.stepW (.two rfl rfl rfl) rfl rfl (OpQ.spec (ms_idx_str rfl Try.underlying9 (.inr ⟨_, (by exact id), rfl⟩) (.inr ⟨_, (by exact id), rfl⟩) (fun _ => ech1)) _) ?_
    refine AOps.stepW (.two rfl rfl rfl) rfl rfl (OpQ.spec (sp_gtr rfl (.inr ⟨_, (by exact id), rfl⟩) (.inl rfl)) _) ?_
    refine AOps.stepW (.two rfl rfl rfl) rfl rfl (OpQ.spec (sp_or rfl (.inr ⟨_, (by exact id), rfl⟩) (.inr ⟨_, (by exact id), rfl⟩)) _) ?_
    refine AOps.stepW (.two rfl rfl rfl) rfl rfl (OpQ.spec (sp_and rfl (.inr ⟨_, (by exact id), rfl⟩) (.inr ⟨_, (by exact id), rfl⟩)) _) ?_
    refine AOps.stepW (.one rfl rfl rfl) rfl rfl (OpQ.spec (sp_or rfl (.inr ⟨_, (by exact id), rfl⟩) (.inr ⟨_, (by exact id), rfl⟩)) _) ?_
    refine AOps.step rfl rfl rfl (OpQ.spec (sp_and rfl (.inl rfl) (.inr ⟨_, (by exact id), rfl⟩)) _) ?_
    refine AOps.nil ?_
    refine hK10 _ ?_
    refine AW.cond rfl (fun hc2 => ?_) (fun hc2 => ?_)
    · have h5 := ite_t hc2 h4
      refine AW.seq_w fun K11 hK11 wK11 => ?_
      refine AW.weak (s' := ⟨[], [], (i3 0), 59⟩) (by exact Weak.cv trivial trivial (Nat.le_refl _)) ?_
      refine AW.region ?_
      refine AOps.step rfl rfl rfl (OpQ.spec (sp_assign rfl (.inl rfl)) _) ?_
      refine AOps.nil ?_
      refine hK11 _ ?_
      refine AW.ret ?_
      exact retf1 (P := Try.prog) (fun (r : Bool) => .r (.bool r)) (he1 _ (hx1 _ (Option.some.inj h5).symm)) (.inl rfl) (.t (.d rfl))
    · have h5 := ite_f hc2 h4
      refine AW.skip ?_
      refine hK7 _ ?_
      refine AW.weak (s' := ⟨[(0, .r (.str s1)), (6, .r (.int .i64 (s1.length : Int))), (7, .r (.int .i64 x2))], [], (i3 0), 59⟩) (by exact Weak.cv ⟨.inl (.inl rfl), .inl (.inl rfl), .inl (.inl rfl), trivial⟩ trivial (Nat.le_refl _)) ?_
      refine AW.region ?_
      refine ob1k h5 fun x4 ex4 h6 => ?_
      refine AOps.step rfl rfl rfl (OpQ.spec (ms_add rfl (.inl rfl) (.inl rfl) (fun _ => ex4)) _) ?_
      refine AOps.step rfl rfl rfl (OpQ.spec (sp_move rfl (.inl rfl)) _) ?_
      refine AOps.nil ?_
      exact NextQ1.mk h6 (vec [(i3 0)]) ((by exact Weak.cv ⟨.inl (.inl rfl), .inl (.inl rfl), .inl (.inl rfl), trivial⟩ trivial (Nat.le_refl _)))
  · have h3 := ite_f hc1 h2
    refine AW.exit ?_
    exact wK2 _ _ ((by exact Weak.cv ⟨.inl (.inl rfl), trivial⟩ trivial (Nat.le_refl _))) (J1 _ (vec [(i3 0)]) (hx1 _ (Option.some.inj h3).symm))
set_option maxHeartbeats 4000000 in
set_option maxRecDepth 20000 in
theorem w_ref_Value {s1 : List UInt8} {r : Bool} (h : ref_Value s1 = some r) : ARO Try.prog 88 [.r (.str s1)] (.r (.bool r)) := by
  unfold ref_Value at h
  refine ARO.mkF Try.func88 rfl rfl Try.ntmps88 rfl (Nat.le_of_ble_eq_true rfl) fun n0 => ?_
  refine AW.seq_w fun K1 hK1 wK1 => ?_
  refine AW.region ?_
  refine AOps.step rfl rfl rfl (OpQ.spec (sp_assign rfl (.inl rfl)) _) ?_
  refine AOps.nil ?_
  refine hK1 _ ?_
  refine AW.seq_w fun K2 hK2 wK2 => ?_
  refine AW.seq_w fun K3 hK3 wK3 => ?_
  refine AW.region ?_
  refine AOps.step rfl rfl rfl (OpQ.spec (sp_move rfl (.inl rfl)) _) ?_
  refine AOps.step rfl rfl rfl (OpQ.spec (sp_len_str rfl Try.underlying9 (.inl rfl)) _) ?_
  refine AOps.step rfl rfl rfl (OpQ.spec (sp_move rfl (.inl rfl)) _) ?_
  refine AOps.nil ?_
  refine hK3 _ ?_
  refine AW.block ?_
  refine jc1k h fun o1 hit1 hk1 he1 => ?_
  have J1 : ∀ (u2 : Unit) (i5 : Nat → Nat), o1 = .nrm u2 → K2 ⟨[(0, .r (.str s1))], [], (i5 0), 28⟩ := by
    intro u2 i5 e
    have h1 := hk1 _ e
    refine hK2 _ ?_
    refine AW.seq_w fun K4 hK4 wK4 => ?_
    refine AW.region ?_
    refine AOps.step rfl rfl rfl (OpQ.spec (sp_move rfl (.inl rfl)) _) ?_
    refine AOps.step rfl rfl rfl (OpQ.spec (sp_len_str rfl Try.underlying9 (.inl rfl)) _) ?_
    refine AOps.step rfl rfl rfl (OpQ.spec (sp_geq rfl (.inl rfl) (.inl rfl)) _) ?_
    refine AOps.step rfl rfl rfl (OpQ.spec (sp_move rfl (.inl rfl)) _) ?_
    refine AOps.stepW (.one rfl rfl rfl) rfl rfl (OpQ.spec (sp_move rfl (.inl rfl)) _) ?_
    refine AOps.stepW (.one rfl rfl rfl) rfl rfl (OpQ.spec (sp_len_str rfl Try.underlying9 (.inr ⟨_, (by exact id), rfl⟩)) _) ?_
    refine AOps.stepW (.one rfl rfl rfl) rfl rfl (OpQ.spec (sp_leq rfl (.inr ⟨_, (by exact id), rfl⟩) (.inl rfl)) _) ?_
    refine AOps.step rfl rfl rfl (OpQ.spec (sp_and rfl (.inl rfl) (.inr ⟨_, (by exact id), rfl⟩)) _) ?_
    refine AOps.step rfl rfl rfl (OpQ.spec (sp_assign rfl (.inl rfl)) _) ?_
    refine AOps.nil ?_
    refine hK4 _ ?_
    refine AW.ret ?_
    exact retf1 (P := Try.prog) (fun (r : Bool) => .r (.bool r)) h1 (.inl rfl) (.t (.d rfl))
  refine AW.iter1 (fun (x2 : Int) i3 => ⟨[(0, .r (.str s1)), (5, .r (.int .i64 (s1.length : Int))), (6, .r (.int .i64 x2))], [], (i3 0), 28⟩) (vec [n0]) hit1 ((by exact Weak.cv ⟨.inl (.inl rfl), .inl (.inl rfl), .inl (.inl rfl), trivial⟩ trivial (Nat.le_refl _))) ?_
  intro x2 i3 v1 hv1 hx1
  have h2 : ref_Value_L1 s1 x2 = some v1 := hv1; unfold ref_Value_L1 at h2
  refine AW.seq_w fun K5 hK5 wK5 => ?_
  refine AW.region ?_
  refine AOps.step rfl rfl rfl (OpQ.spec (sp_lss rfl (.inl rfl) (.inl rfl)) _) ?_
  refine AOps.nil ?_
  refine hK5 _ ?_
  refine AW.seq_w fun K6 hK6 wK6 => ?_
  refine AW.cond rfl (fun hc1 => ?_) (fun hc1 => ?_)
  · have h3 := ite_t hc1 h2
    refine AW.skip ?_
    refine hK6 _ ?_
    refine AW.seq_w fun K7 hK7 wK7 => ?_
    refine AW.block ?_
    refine AW.seq_w fun K8 hK8 wK8 => ?_
    refine AW.region ?_
    refine AOps.step rfl rfl rfl (OpQ.spec (sp_move rfl (.inl rfl)) _) ?_
    refine AOps.step rfl rfl rfl (OpQ.spec (sp_assign rfl (.inl rfl)) _) ?_
    refine AOps.nil ?_
    refine hK8 _ ?_
    refine AW.seq_w fun K9 hK9 wK9 => ?_
    refine AW.region ?_
    refine AOps.step rfl rfl rfl (OpQ.spec (sp_move rfl (.inl rfl)) _) ?_
    refine AOps.step rfl rfl rfl (OpQ.spec (sp_move rfl (.inl rfl)) _) ?_
    refine ob1k h3 fun ch1 ech1 h4 => ?_
    refine AOps.step rfl rfl rfl (OpQ.spec (ms_idx_str rfl Try.underlying9 (.inl rfl) (.inl rfl) (fun _ => ech1)) _) ?_
    refine AOps.step rfl rfl rfl (OpQ.spec (sp_lss rfl (.inl rfl) (.inl rfl)) _) ?_
    refine AOps.step rfl rfl rfl (OpQ.spec (sp_move rfl (.inl rfl)) _) ?_
    refine AOps.stepW (.one rfl rfl rfl) rfl rfl (OpQ.spec (sp_move rfl (.inl rfl)) _) ?_
    refine AOps.stepW (.one rfl rfl rfl) rfl rfl (OpQ.spec (sp_move rfl (.inl rfl)) _) ?_
    refine AOps.stepW (.one rfl rfl rfl) rfl rfl (OpQ.spec (ms_idx_str rfl Try.underlying9 (.inr ⟨_, (by exact id), rfl⟩) (.inr ⟨_, (by exact id), rfl⟩) (fun _ => ech1)) _) ?_
    refine AOps.stepW (.one rfl rfl rfl) rfl rfl (OpQ.spec (sp_gtr rfl (.inr ⟨_, (by exact id), rfl⟩) (.inl rfl)) _) ?_
    refine AOps.step rfl rfl rfl (OpQ.spec (sp_or rfl (.inl rfl) (.inr ⟨_, (by exact id), rfl⟩)) _) ?_
    refine AOps.nil ?_
    refine hK9 _ ?_
    refine AW.cond rfl (fun hc2 => ?_) (fun hc2 => ?_)
    · have h5 := ite_t hc2 h4
      refine AW.seq_w fun K10 hK10 wK10 => ?_
      refine AW.weak (s' := ⟨[], [], (i3 0), 28⟩) (by exact Weak.cv trivial trivial (Nat.le_refl _)) ?_
      refine AW.region ?_
      refine AOps.step rfl rfl rfl (OpQ.spec (sp_assign rfl (.inl rfl)) _) ?_
      refine AOps.nil ?_
      refine hK10 _ ?_
      refine AW.ret ?_
      exact retf1 (P := Try.prog) (fun (r : Bool) => .r (.bool r)) (he1 _ (hx1 _ (Option.some.inj h5).symm)) (.inl rfl) (.t (.d rfl))
    · have h5 := ite_f hc2 h4
      refine AW.skip ?_
      refine hK7 _ ?_
      refine AW.weak (s' := ⟨[(0, .r (.str s1)), (5, .r (.int .i64 (s1.length : Int))), (6, .r (.int .i64 x2))], [], (i3 0), 28⟩) (by exact Weak.cv ⟨.inl (.inl rfl), .inl (.inl rfl), .inl (.inl rfl), trivial⟩ trivial (Nat.le_refl _)) ?_
      refine AW.region ?_
      refine ob1k h5 fun x4 ex4 h6 => ?_
      refine AOps.step rfl rfl rfl (OpQ.spec (ms_add rfl (.inl rfl) (.inl rfl) (fun _ => ex4)) _) ?_
      refine AOps.step rfl rfl rfl (OpQ.spec (sp_move rfl (.inl rfl)) _) ?_
      refine AOps.nil ?_
      exact NextQ1.mk h6 (vec [(i3 0)]) ((by exact Weak.cv ⟨.inl (.inl rfl), .inl (.inl rfl), .inl (.inl rfl), trivial⟩ trivial (Nat.le_refl _)))
  · have h3 := ite_f hc1 h2
    refine AW.exit ?_
    exact wK2 _ _ ((by exact Weak.cv ⟨.inl (.inl rfl), trivial⟩ trivial (Nat.le_refl _))) (J1 _ (vec [(i3 0)]) (hx1 _ (Option.some.inj h3).symm))
set_option maxHeartbeats 4000000 in
set_option maxRecDepth 20000 in
theorem w_ref_AttrsError {l1 : List GAttr} {change1 : Bool} {r : Int} (h : ref_AttrsError l1 change1 = some r) : ARO Try.prog 30 [.r (.sl (l1.map GAttr.row)), .r (.bool change1)] (.r (.int .i64 r)) := by
  unfold ref_AttrsError at h
  refine ARO.mkF Try.func30 rfl rfl Try.ntmps30 rfl (Nat.le_of_ble_eq_true rfl) fun n0 => ?_
  refine AW.seq_w fun K1 hK1 wK1 => ?_
  refine AW.region ?_
  refine AOps.step rfl rfl rfl (OpQ.spec (sp_assign rfl (.inl rfl)) _) ?_
  refine AOps.nil ?_
  refine hK1 _ ?_
  refine AW.seq_w fun K2 hK2 wK2 => ?_
  refine AW.seq_w fun K3 hK3 wK3 => ?_
  refine AW.region ?_
  refine AOps.step rfl rfl rfl (OpQ.spec (sp_move rfl (.inl rfl)) _) ?_
  refine AOps.step rfl rfl rfl (OpQ.spec (ms_len rfl tg_47.slice (.inl rfl)) _) ?_
  refine AOps.step rfl rfl rfl (OpQ.spec (sp_move rfl (.inl rfl)) _) ?_
  refine AOps.nil ?_
  refine hK3 _ ?_
  refine AW.block ?_
  refine jc1k h fun o1 hit1 hk1 he1 => ?_
  have J1 : ∀ (u2 : Unit) (i5 : Nat → Nat), o1 = .nrm u2 → K2 ⟨[], [], (i5 0), 54⟩ := by
    intro u2 i5 e
    have h1 := hk1 _ e
    refine hK2 _ ?_
    refine AW.seq_w fun K4 hK4 wK4 => ?_
    refine AW.region ?_
    refine AOps.step rfl rfl rfl (OpQ.spec (sp_assign rfl (.inl rfl)) _) ?_
    refine AOps.nil ?_
    refine hK4 _ ?_
    refine AW.ret ?_
    exact retf1 (P := Try.prog) (fun (r : Int) => .r (.int .i64 r)) h1 (.inl rfl) (.t (.d rfl))
  refine AW.iter1 (fun (x2 : Int) i3 => ⟨[(0, .r (.sl (l1.map GAttr.row))), (1, .r (.bool change1)), (7, .r (.int .i64 (l1.length : Int))), (8, .r (.int .i64 x2))], [], (i3 0), 54⟩) (vec [n0]) hit1 ((by exact Weak.cv ⟨.inl (.inl rfl), .inl (.inl rfl), .inl (.inl rfl), .inl (.inl rfl), trivial⟩ trivial (Nat.le_refl _))) ?_
  intro x2 i3 v1 hv1 hx1
  have h2 : ref_AttrsError_L1 l1 change1 x2 = some v1 := hv1; unfold ref_AttrsError_L1 at h2
  refine AW.seq_w fun K5 hK5 wK5 => ?_
  refine AW.region ?_
  refine AOps.step rfl rfl rfl (OpQ.spec (sp_lss rfl (.inl rfl) (.inl rfl)) _) ?_
  refine AOps.nil ?_
  refine hK5 _ ?_
  refine AW.seq_w fun K6 hK6 wK6 => ?_
  refine AW.cond rfl (fun hc1 => ?_) (fun hc1 => ?_)
  · have h3 := ite_t hc1 h2
    refine AW.skip ?_
    refine hK6 _ ?_
    refine AW.seq_w fun K7 hK7 wK7 => ?_
    refine AW.block ?_
    refine AW.seq_w fun K8 hK8 wK8 => ?_
    refine AW.region ?_
    refine AOps.step rfl rfl rfl (OpQ.spec (sp_move rfl (.inl rfl)) _) ?_
    refine AOps.step rfl rfl rfl (OpQ.spec (sp_assign rfl (.inl rfl)) _) ?_
    refine AOps.nil ?_
    refine hK8 _ ?_
    refine AW.seq_w fun K9 hK9 wK9 => ?_
    refine AW.seq_w fun K10 hK10 wK10 => ?_
    refine AW.region ?_
    refine AOps.step rfl rfl rfl (OpQ.spec (sp_move rfl (.inl rfl)) _) ?_
    refine AOps.step rfl rfl rfl (OpQ.spec (sp_move rfl (.inl rfl)) _) ?_
    refine ob1k h3 fun x4 ex4 h4 => ?_
    refine AOps.step rfl rfl rfl (OpQ.spec (ms_idx rfl tg_47.slice (.inl rfl) (.inl rfl) (fun _ => rfl) (fun _ => ex4)) _) ?_
    refine AOps.step rfl rfl rfl (OpQ.spec (sp_fieldAddr_ro rfl tf_128_0 (.inl rfl)) _) ?_
    refine AOps.step rfl rfl rfl (OpQ.spec (ms_load (d := .str x4.Name) rfl ts_9 (.inl rfl) rfl) _) ?_
    refine ob1k h4 fun r1 er1 h5 => ?_
    refine AOps.step rfl rfl rfl (sp_call (r := .r (.bool r1)) (caps := []) (bs := [.r (.str x4.Name)]) rfl (.inl rfl) rfl ⟨⟨_, (.inl rfl), .d rfl⟩, trivial⟩ (fun _ => w_ref_Name (er1)) rfl) ?_
    refine AOps.step rfl rfl rfl (OpQ.spec (sp_not rfl (.inl rfl)) _) ?_
    refine AOps.nil ?_
    refine hK10 _ ?_
    refine AW.cond rfl (fun hc2 => ?_) (fun hc2 => ?_)
    · have h6 := ite_t hc2 h5
      refine AW.seq_w fun K11 hK11 wK11 => ?_
      refine AW.weak (s' := ⟨[], [], (i3 0), 54⟩) (by exact Weak.cv trivial trivial (Nat.le_refl _)) ?_
      refine AW.region ?_
      refine AOps.step rfl rfl rfl (OpQ.spec (sp_assign rfl (.inl rfl)) _) ?_
      refine AOps.nil ?_
      refine hK11 _ ?_
      refine AW.ret ?_
      exact retf1 (P := Try.prog) (fun (r : Int) => .r (.int .i64 r)) (he1 _ (hx1 _ (Option.some.inj h6).symm)) (.inl rfl) (.t (.d rfl))
    · have h6 := ite_f hc2 h5
      refine AW.skip ?_
      refine hK9 _ ?_
      refine AW.seq_w fun K12 hK12 wK12 => ?_
      refine AW.seq_w fun K13 hK13 wK13 => ?_
      refine AW.weak (s' := ⟨[(0, .r (.sl (l1.map GAttr.row))), (1, .r (.bool change1)), (5, .r (.int .i64 x2)), (7, .r (.int .i64 (l1.length : Int))), (8, .r (.int .i64 x2))], [], (i3 0), 54⟩) (by exact Weak.cv ⟨.inl (.inl rfl), .inl (.inl rfl), .inl (.inl rfl), .inl (.inl rfl), .inl (.inl rfl), trivial⟩ trivial (Nat.le_refl _)) ?_
      refine AW.region ?_
      refine AOps.step rfl rfl rfl (OpQ.spec (sp_move rfl (.inl rfl)) _) ?_
      refine AOps.step rfl rfl rfl (OpQ.spec (sp_move rfl (.inl rfl)) _) ?_
      refine AOps.step rfl rfl rfl (OpQ.spec (ms_idx rfl tg_47.slice (.inl rfl) (.inl rfl) (fun _ => rfl) (fun _ => ex4)) _) ?_
      refine AOps.step rfl rfl rfl (OpQ.spec (sp_fieldAddr_ro rfl tf_128_1 (.inl rfl)) _) ?_
      refine AOps.step rfl rfl rfl (OpQ.spec (ms_load (d := .str x4.Value) rfl ts_9 (.inl rfl) rfl) _) ?_
      refine ob1k h6 fun r2 er2 h7 => ?_
      refine AOps.step rfl rfl rfl (sp_call (r := .r (.bool r2)) (caps := []) (bs := [.r (.str x4.Value)]) rfl (.inl rfl) rfl ⟨⟨_, (.inl rfl), .d rfl⟩, trivial⟩ (fun _ => w_ref_Value (er2)) rfl) ?_
      refine AOps.step rfl rfl rfl (OpQ.spec (sp_not rfl (.inl rfl)) _) ?_
      refine AOps.step rfl rfl rfl (OpQ.spec (sp_move rfl (.inl rfl)) _) ?_
      refine AOps.stepW (.one rfl rfl rfl) rfl rfl (OpQ.spec (sp_move rfl (.inl rfl)) _) ?_
      refine AOps.stepW (.one rfl rfl rfl) rfl rfl (OpQ.spec (sp_move rfl (.inl rfl)) _) ?_
      refine AOps.stepW (.one rfl rfl rfl) rfl rfl (OpQ.spec (ms_idx rfl tg_47.slice (.inr ⟨_, (by exact id), rfl⟩) (.inr ⟨_, (by exact id), rfl⟩) (fun _ => rfl) (fun _ => ex4)) _) ?_
      refine AOps.stepW (.one rfl rfl rfl) rfl rfl (OpQ.spec (sp_fieldAddr_ro rfl tf_128_1 (.inr ⟨_, (by exact id), rfl⟩)) _) ?_
      refine AOps.stepW (.one rfl rfl rfl) rfl rfl (OpQ.spec (ms_load (d := .str x4.Value) rfl ts_9 (.inr ⟨_, (by exact id), rfl⟩) rfl) _) ?_
      refine AOps.stepW (.one rfl rfl rfl) rfl rfl (OpQ.spec (sp_sneq rfl (.inr ⟨_, (by exact id), rfl⟩) (.inl rfl)) _) ?_
      refine AOps.stepW (.one rfl rfl rfl) rfl rfl (OpQ.spec (sp_move rfl (.inr ⟨_, (by exact id), rfl⟩)) _) ?_
      refine AOps.stepW (.two rfl rfl rfl) rfl rfl (OpQ.spec (sp_move rfl (.inl rfl)) _) ?_
      refine AOps.stepW (.two rfl rfl rfl) rfl rfl (OpQ.spec (sp_not rfl (.inr ⟨_, (by exact id), rfl⟩)) _) ?_
      refine AOps.stepW (.one rfl rfl rfl) rfl rfl (OpQ.spec (sp_or rfl (.inr ⟨_, (by exact id), rfl⟩) (.inr ⟨_, (by exact id), rfl⟩)) _) ?_
      refine AOps.step rfl rfl rfl (OpQ.spec (sp_and rfl (.inl rfl) (.inr ⟨_, (by exact id), rfl⟩)) _) ?_
      refine AOps.nil ?_
      refine hK13 _ ?_
      refine AW.cond rfl (fun hc3 => ?_) (fun hc3 => ?_)
      · have h8 := ite_t hc3 h7
        refine AW.seq_w fun K14 hK14 wK14 => ?_
        refine AW.weak (s' := ⟨[], [], (i3 0), 54⟩) (by exact Weak.cv trivial trivial (Nat.le_refl _)) ?_
        refine AW.region ?_
        refine AOps.step rfl rfl rfl (OpQ.spec (sp_assign rfl (.inl rfl)) _) ?_
        refine AOps.nil ?_
        refine hK14 _ ?_
        refine AW.ret ?_
        exact retf1 (P := Try.prog) (fun (r : Int) => .r (.int .i64 r)) (he1 _ (hx1 _ (Option.some.inj h8).symm)) (.inl rfl) (.t (.d rfl))
      · have h8 := ite_f hc3 h7
        refine AW.skip ?_
        refine hK12 _ ?_
        refine AW.seq_w fun K15 hK15 wK15 => ?_
        refine AW.weak (s' := ⟨[(0, .r (.sl (l1.map GAttr.row))), (1, .r (.bool change1)), (5, .r (.int .i64 x2)), (7, .r (.int .i64 (l1.length : Int))), (8, .r (.int .i64 x2))], [], (i3 0), 54⟩) (by exact Weak.cv ⟨.inl (.inl rfl), .inl (.inl rfl), .inl (.inl rfl), .inl (.inl rfl), .inl (.inl rfl), trivial⟩ trivial (Nat.le_refl _)) ?_
        refine AW.regionQ hmix (by kernel_rfl) ?_
        refine AQ.step rfl rfl rfl (sp_move rfl (.inl rfl)) ?_
        refine AQ.step rfl rfl rfl (sp_gtr rfl (.inl rfl) (.inl rfl)) ?_
        refine AQ.step rfl rfl rfl (sp_move rfl (.inl rfl)) ?_
        refine AQ.stepW (.one rfl rfl rfl) rfl rfl (sp_move rfl (.inl rfl)) ?_
        refine AQ.stepW (.one rfl rfl rfl) rfl rfl (sp_move rfl (.inl rfl)) ?_
        refine ob1k h8 fun x5 ex5 h9 => ?_
        refine AQ.stepW (.one rfl rfl rfl) rfl rfl (ms_sub rfl (.inr ⟨_, (by exact id), rfl⟩) (.inl rfl) (gdt ex5)) ?_
        refine ob1k h9 fun x6 ex6 h10 => ?_
        refine AQ.stepW (.one rfl rfl rfl) rfl rfl (ms_idx rfl tg_47.slice (.inr ⟨_, (by exact id), rfl⟩) (.inr ⟨_, (by exact id), rfl⟩) (fun _ => rfl) (gdt ex6)) ?_
        refine AQ.stepW (.one rfl rfl rfl) rfl rfl (sp_fieldAddr_ro rfl tf_128_0 (.inr ⟨_, (by exact id), rfl⟩)) ?_
        refine AQ.stepW (.one rfl rfl rfl) rfl rfl (ms_load (d := .str x6.Name) rfl ts_9 (.inr ⟨_, (by exact id), rfl⟩) rfl) ?_
        refine AQ.stepW (.one rfl rfl rfl) rfl rfl (sp_move rfl (.inl rfl)) ?_
        refine AQ.stepW (.one rfl rfl rfl) rfl rfl (sp_move rfl (.inl rfl)) ?_
        refine AQ.stepW (.one rfl rfl rfl) rfl rfl (ms_idx rfl tg_47.slice (.inr ⟨_, (by exact id), rfl⟩) (.inr ⟨_, (by exact id), rfl⟩) (fun _ => rfl) (fun _ => ex4)) ?_
        refine AQ.stepW (.one rfl rfl rfl) rfl rfl (sp_fieldAddr_ro rfl tf_128_0 (.inr ⟨_, (by exact id), rfl⟩)) ?_
        refine AQ.stepW (.one rfl rfl rfl) rfl rfl (ms_load (d := .str x4.Name) rfl ts_9 (.inr ⟨_, (by exact id), rfl⟩) rfl) ?_
        refine AQ.stepW (.one rfl rfl rfl) rfl rfl (sp_sgeq rfl (.inr ⟨_, (by exact id), rfl⟩) (.inr ⟨_, (by exact id), rfl⟩)) ?_
        refine AQ.step rfl rfl rfl (sp_and rfl (.inl rfl) (.inr ⟨_, (by exact id), rfl⟩)) ?_
        refine AQ.nil ?_
        refine hK15 _ ?_
        refine AW.cond rfl (fun hc4 => ?_) (fun hc4 => ?_)
        · have h11 := ite_t hc4 h10
          refine AW.seq_w fun K16 hK16 wK16 => ?_
          refine AW.weak (s' := ⟨[], [], (i3 0), 54⟩) (by exact Weak.cv trivial trivial (Nat.le_refl _)) ?_
          refine AW.region ?_
          refine AOps.step rfl rfl rfl (OpQ.spec (sp_assign rfl (.inl rfl)) _) ?_
          refine AOps.nil ?_
          refine hK16 _ ?_
          refine AW.ret ?_
          exact retf1 (P := Try.prog) (fun (r : Int) => .r (.int .i64 r)) (he1 _ (hx1 _ (Option.some.inj h11).symm)) (.inl rfl) (.t (.d rfl))
        · have h11 := ite_f hc4 h10
          refine AW.skip ?_
          refine hK7 _ ?_
          refine AW.region ?_
          refine ob1k h11 fun x7 ex7 h12 => ?_
          refine AOps.step rfl rfl rfl (OpQ.spec (ms_add rfl (.inl rfl) (.inl rfl) (fun _ => ex7)) _) ?_
          refine AOps.step rfl rfl rfl (OpQ.spec (sp_move rfl (.inl rfl)) _) ?_
          refine AOps.nil ?_
          exact NextQ1.mk h12 (vec [(i3 0)]) ((by exact Weak.cv ⟨.inl (.inl rfl), .inl (.inl rfl), .inl (.inl rfl), .inl (.inl rfl), trivial⟩ trivial (Nat.le_refl _)))
  · have h3 := ite_f hc1 h2
    refine AW.exit ?_
    exact wK2 _ _ ((by exact Weak.cv trivial trivial (Nat.le_refl _))) (J1 _ (vec [(i3 0)]) (hx1 _ (Option.some.inj h3).symm))
set_option maxHeartbeats 4000000 in
set_option maxRecDepth 20000 in
theorem w_ref_ElemError {x1 : GElem} {r : Int} (h : ref_ElemError x1 = some r) : ARO Try.prog 96 [.agg [.r (.int .i64 x1.Char), .r (.int .i64 x1.Ref), .r (.sl (x1.Attrs.map GAttr.row))]] (.r (.int .i64 r)) := by
  unfold ref_ElemError at h
  refine ARO.mkF Try.func96 rfl rfl Try.ntmps96 rfl (Nat.le_of_ble_eq_true rfl) fun n0 => ?_
  refine AW.seq_w fun K1 hK1 wK1 => ?_
  refine AW.region ?_
  refine AOps.step rfl rfl rfl (ms_box (cs := [.r (.int .i64 x1.Char), .r (.int .i64 x1.Ref), .r (.sl (x1.Attrs.map GAttr.row))]) 1 rfl (.inl rfl) rfl rfl) ?_
  refine AOps.step rfl rfl rfl (OpQ.spec (sp_assign rfl (.inl rfl)) _) ?_
  refine AOps.nil ?_
  refine hK1 _ ?_
  refine AW.seq_w fun K2 hK2 wK2 => ?_
  refine AW.seq_w fun K3 hK3 wK3 => ?_
  refine AW.region ?_
  refine AOps.step rfl rfl rfl (OpQ.spec (sp_fieldAddr_own (ob := .box _ _ _) rfl tf_113_0 (.inl rfl) (fun _ => rfl) rfl) _) ?_
  refine AOps.step rfl rfl rfl (OpQ.spec (ms_load_box (a := .r (.int .i64 x1.Char)) rfl ts_3 (.inl rfl) rfl rfl) _) ?_
  refine AOps.step rfl rfl rfl (OpQ.spec (sp_eql rfl (.inl rfl) (.inl rfl)) _) ?_
  refine AOps.step rfl rfl rfl (OpQ.spec (sp_move rfl (.inl rfl)) _) ?_
  refine AOps.stepW (.one rfl rfl rfl) rfl rfl (OpQ.spec (sp_fieldAddr_own (ob := .box _ _ _) rfl tf_113_1 (.inl rfl) (fun _ => rfl) rfl) _) ?_
  refine AOps.stepW (.one rfl rfl rfl) rfl rfl (OpQ.spec (ms_load_box (a := .r (.int .i64 x1.Ref)) rfl ts_3 (.inr ⟨_, (by exact id), rfl⟩) rfl rfl) _) ?_
  refine AOps.stepW (.one rfl rfl rfl) rfl rfl (OpQ.spec (sp_eql rfl (.inr ⟨_, (by exact id), rfl⟩) (.inl rfl)) _) ?_
  refine AOps.step rfl rfl rfl (OpQ.spec (sp_and rfl (.inl rfl) (.inr ⟨_, (by exact id), rfl⟩)) _) ?_
  refine AOps.step rfl rfl rfl (OpQ.spec (sp_move rfl (.inl rfl)) _) ?_
  refine AOps.stepW (.one rfl rfl rfl) rfl rfl (OpQ.spec (sp_fieldAddr_own (ob := .box _ _ _) rfl tf_113_0 (.inl rfl) (fun _ => rfl) rfl) _) ?_
  refine AOps.stepW (.one rfl rfl rfl) rfl rfl (OpQ.spec (ms_load_box (a := .r (.int .i64 x1.Char)) rfl ts_3 (.inr ⟨_, (by exact id), rfl⟩) rfl rfl) _) ?_
  refine AOps.stepW (.one rfl rfl rfl) rfl rfl (OpQ.spec (sp_neq rfl (.inr ⟨_, (by exact id), rfl⟩) (.inl rfl)) _) ?_
  refine AOps.stepW (.one rfl rfl rfl) rfl rfl (OpQ.spec (sp_move rfl (.inr ⟨_, (by exact id), rfl⟩)) _) ?_
  refine AOps.stepW (.two rfl rfl rfl) rfl rfl (OpQ.spec (sp_fieldAddr_own (ob := .box _ _ _) rfl tf_113_1 (.inl rfl) (fun _ => rfl) rfl) _) ?_
  refine AOps.stepW (.two rfl rfl rfl) rfl rfl (OpQ.spec (ms_load_box (a := .r (.int .i64 x1.Ref)) rfl ts_3 (.inr ⟨_, (by exact id), rfl⟩) rfl rfl) _) ?_
  refine AOps.stepW (.two rfl rfl rfl) rfl rfl (OpQ.spec (sp_neq rfl (.inr ⟨_, (by exact id), rfl⟩) (.inl rfl)) _) ?_
  refine AOps.stepW (.one rfl rfl rfl) rfl rfl (OpQ.spec (sp_and rfl (.inr ⟨_, (by exact id), rfl⟩) (.inr ⟨_, (by exact id), rfl⟩)) _) ?_
  refine AOps.step rfl rfl rfl (OpQ.spec (sp_or rfl (.inl rfl) (.inr ⟨_, (by exact id), rfl⟩)) _) ?_
  refine AOps.nil ?_
  refine hK3 _ ?_
  refine AW.cond rfl (fun hc1 => ?_) (fun hc1 => ?_)
  · have h1 := ite_t hc1 h
    refine AW.seq_w fun K4 hK4 wK4 => ?_
    refine AW.weak (s' := ⟨[], [], (n0 + 1), 44⟩) (by exact Weak.cv trivial trivial (Nat.le_refl _)) ?_
    refine AW.region ?_
    refine AOps.step rfl rfl rfl (OpQ.spec (sp_assign rfl (.inl rfl)) _) ?_
    refine AOps.nil ?_
    refine hK4 _ ?_
    refine AW.ret ?_
    exact retf1 (P := Try.prog) (fun (r : Int) => .r (.int .i64 r)) h1 (.inl rfl) (.t (.d rfl))
  · have h1 := ite_f hc1 h
    refine AW.skip ?_
    refine hK2 _ ?_
    refine AW.seq_w fun K5 hK5 wK5 => ?_
    refine AW.seq_w fun K6 hK6 wK6 => ?_
    refine AW.weak (s' := ⟨[(1, .ptr 1 n0 0 0)], [(1, some (.box n0 113 [.r (.int .i64 x1.Char), .r (.int .i64 x1.Ref), .r (.sl (x1.Attrs.map GAttr.row))]))], (n0 + 1), 44⟩) (by exact Weak.cv ⟨.inl (.inl rfl), trivial⟩ ⟨.inl rfl, trivial⟩ (Nat.le_refl _)) ?_
    refine AW.region ?_
    refine AOps.step rfl rfl rfl (OpQ.spec (sp_fieldAddr_own (ob := .box _ _ _) rfl tf_113_0 (.inl rfl) (fun _ => rfl) rfl) _) ?_
    refine AOps.step rfl rfl rfl (OpQ.spec (ms_load_box (a := .r (.int .i64 x1.Char)) rfl ts_3 (.inl rfl) rfl rfl) _) ?_
    refine AOps.step rfl rfl rfl (OpQ.spec (sp_neq rfl (.inl rfl) (.inl rfl)) _) ?_
    refine AOps.step rfl rfl rfl (OpQ.spec (sp_move rfl (.inl rfl)) _) ?_
    refine AOps.stepW (.one rfl rfl rfl) rfl rfl (OpQ.spec (sp_fieldAddr_own (ob := .box _ _ _) rfl tf_113_0 (.inl rfl) (fun _ => rfl) rfl) _) ?_
    refine AOps.stepW (.one rfl rfl rfl) rfl rfl (OpQ.spec (ms_load_box (a := .r (.int .i64 x1.Char)) rfl ts_3 (.inr ⟨_, (by exact id), rfl⟩) rfl rfl) _) ?_
    refine ob1k h1 fun r1 er1 h2 => ?_
    refine AOps.stepW (.one rfl rfl rfl) rfl rfl (sp_call (r := .r (.bool r1)) (caps := []) (bs := [.r (.int .i64 x1.Char)]) rfl (.inl rfl) rfl ⟨⟨_, (.inr ⟨_, (by exact id), rfl⟩), .d rfl⟩, trivial⟩ (fun hg => w_ref_Char (gdt er1 hg)) rfl) ?_
    refine AOps.stepW (.one rfl rfl rfl) rfl rfl (OpQ.spec (sp_not rfl (.inr ⟨_, (by exact id), rfl⟩)) _) ?_
    refine AOps.step rfl rfl rfl (OpQ.spec (sp_and rfl (.inl rfl) (.inr ⟨_, (by exact id), rfl⟩)) _) ?_
    refine AOps.step rfl rfl rfl (OpQ.spec (sp_move rfl (.inl rfl)) _) ?_
    refine AOps.stepW (.one rfl rfl rfl) rfl rfl (OpQ.spec (sp_fieldAddr_own (ob := .box _ _ _) rfl tf_113_1 (.inl rfl) (fun _ => rfl) rfl) _) ?_
    refine AOps.stepW (.one rfl rfl rfl) rfl rfl (OpQ.spec (ms_load_box (a := .r (.int .i64 x1.Ref)) rfl ts_3 (.inr ⟨_, (by exact id), rfl⟩) rfl rfl) _) ?_
    refine AOps.stepW (.one rfl rfl rfl) rfl rfl (OpQ.spec (sp_neq rfl (.inr ⟨_, (by exact id), rfl⟩) (.inl rfl)) _) ?_
    refine AOps.stepW (.one rfl rfl rfl) rfl rfl (OpQ.spec (sp_move rfl (.inr ⟨_, (by exact id), rfl⟩)) _) ?_
    refine AOps.stepW (.two rfl rfl rfl) rfl rfl (OpQ.spec (sp_fieldAddr_own (ob := .box _ _ _) rfl tf_113_1 (.inl rfl) (fun _ => rfl) rfl) _) ?_
    refine AOps.stepW (.two rfl rfl rfl) rfl rfl (OpQ.spec (ms_load_box (a := .r (.int .i64 x1.Ref)) rfl ts_3 (.inr ⟨_, (by exact id), rfl⟩) rfl rfl) _) ?_
    refine ob1k h2 fun r2 er2 h3 => ?_
    refine AOps.stepW (.two rfl rfl rfl) rfl rfl (sp_call (r := .r (.bool r2)) (caps := []) (bs := [.r (.int .i64 x1.Ref), .r (.int .i64 1), .r (.int .i64 1073741824)]) rfl (.inl rfl) rfl ⟨⟨_, (.inr ⟨_, (by exact id), rfl⟩), .d rfl⟩, ⟨_, (.inl rfl), .d rfl⟩, ⟨_, (.inl rfl), .d rfl⟩, trivial⟩ (fun hg => w_ref_In (gdt er2 hg)) rfl) ?_
    refine AOps.stepW (.two rfl rfl rfl) rfl rfl (OpQ.spec (sp_not rfl (.inr ⟨_, (by exact id), rfl⟩)) _) ?_
    refine AOps.stepW (.one rfl rfl rfl) rfl rfl (OpQ.spec (sp_and rfl (.inr ⟨_, (by exact id), rfl⟩) (.inr ⟨_, (by exact id), rfl⟩)) _) ?_
    refine AOps.step rfl rfl rfl (OpQ.spec (sp_or rfl (.inl rfl) (.inr ⟨_, (by exact id), rfl⟩)) _) ?_
    refine AOps.nil ?_
    refine hK6 _ ?_
    refine AW.cond rfl (fun hc2 => ?_) (fun hc2 => ?_)
    · have h4 := ite_t hc2 h3
      refine AW.seq_w fun K7 hK7 wK7 => ?_
      refine AW.weak (s' := ⟨[], [], (n0 + 1), 44⟩) (by exact Weak.cv trivial trivial (Nat.le_refl _)) ?_
      refine AW.region ?_
      refine AOps.step rfl rfl rfl (OpQ.spec (sp_assign rfl (.inl rfl)) _) ?_
      refine AOps.nil ?_
      refine hK7 _ ?_
      refine AW.ret ?_
      exact retf1 (P := Try.prog) (fun (r : Int) => .r (.int .i64 r)) h4 (.inl rfl) (.t (.d rfl))
    · have h4 := ite_f hc2 h3
      refine AW.skip ?_
      refine hK5 _ ?_
      refine AW.seq_w fun K8 hK8 wK8 => ?_
      refine AW.weak (s' := ⟨[(1, .ptr 1 n0 0 0)], [(1, some (.box n0 113 [.r (.int .i64 x1.Char), .r (.int .i64 x1.Ref), .r (.sl (x1.Attrs.map GAttr.row))]))], (n0 + 1), 44⟩) (by exact Weak.cv ⟨.inl (.inl rfl), trivial⟩ ⟨.inl rfl, trivial⟩ (Nat.le_refl _)) ?_
      refine AW.region ?_
      refine AOps.step rfl rfl rfl (OpQ.spec (sp_fieldAddr_own (ob := .box _ _ _) rfl tf_113_2 (.inl rfl) (fun _ => rfl) rfl) _) ?_
      refine AOps.step rfl rfl rfl (OpQ.spec (ms_load_box (a := .r (.sl (x1.Attrs.map GAttr.row))) rfl ts_47 (.inl rfl) rfl rfl) _) ?_
      refine ob1k h4 fun r3 er3 h5 => ?_
      refine AOps.step rfl rfl rfl (sp_call (r := .r (.int .i64 r3)) (caps := []) (bs := [.r (.sl (x1.Attrs.map GAttr.row)), .r (.bool false)]) rfl (.inl rfl) rfl ⟨⟨_, (.inl rfl), .d rfl⟩, ⟨_, (.inl rfl), .d rfl⟩, trivial⟩ (fun _ => w_ref_AttrsError (er3)) rfl) ?_
      refine AOps.step rfl rfl rfl (OpQ.spec (sp_assign rfl (.inl rfl)) _) ?_
      refine AOps.nil ?_
      refine hK8 _ ?_
      refine AW.ret ?_
      exact retf1 (P := Try.prog) (fun (r : Int) => .r (.int .i64 r)) h5 (.inl rfl) (.t (.d rfl))
set_option maxHeartbeats 4000000 in
set_option maxRecDepth 20000 in
theorem w_ref_PartError {f1 : List GElem} {r : Int} (h : ref_PartError f1 = some r) : ARO Try.prog 44 [.r (.sl (f1.map GElem.row))] (.r (.int .i64 r)) := by
  unfold ref_PartError at h
  refine ARO.mkF Try.func44 rfl rfl Try.ntmps44 rfl (Nat.le_of_ble_eq_true rfl) fun n0 => ?_
  refine AW.seq_w fun K1 hK1 wK1 => ?_
  refine AW.region ?_
  refine AOps.step rfl rfl rfl (OpQ.spec (sp_assign rfl (.inl rfl)) _) ?_
  refine AOps.nil ?_
  refine hK1 _ ?_
  refine AW.seq_w fun K2 hK2 wK2 => ?_
  refine AW.seq_w fun K3 hK3 wK3 => ?_
  refine AW.region ?_
  refine AOps.step rfl rfl rfl (OpQ.spec (sp_move rfl (.inl rfl)) _) ?_
  refine AOps.step rfl rfl rfl (OpQ.spec (ms_len rfl tg_39.slice (.inl rfl)) _) ?_
  refine AOps.step rfl rfl rfl (OpQ.spec (sp_move rfl (.inl rfl)) _) ?_
  refine AOps.nil ?_
  refine hK3 _ ?_
  refine AW.block ?_
  refine jc1k h fun o1 hit1 hk1 he1 => ?_
  have J1 : ∀ (u2 : Unit) (i5 : Nat → Nat), o1 = .nrm u2 → K2 ⟨[], [], (i5 0), 19⟩ := by
    intro u2 i5 e
    have h1 := hk1 _ e
    refine hK2 _ ?_
    refine AW.seq_w fun K4 hK4 wK4 => ?_
    refine AW.region ?_
    refine AOps.step rfl rfl rfl (OpQ.spec (sp_assign rfl (.inl rfl)) _) ?_
    refine AOps.nil ?_
    refine hK4 _ ?_
    refine AW.ret ?_
    exact retf1 (P := Try.prog) (fun (r : Int) => .r (.int .i64 r)) h1 (.inl rfl) (.t (.d rfl))
  refine AW.iter1 (fun (x2 : Int) i3 => ⟨[(0, .r (.sl (f1.map GElem.row))), (6, .r (.int .i64 (f1.length : Int))), (7, .r (.int .i64 x2))], [], (i3 0), 19⟩) (vec [n0]) hit1 ((by exact Weak.cv ⟨.inl (.inl rfl), .inl (.inl rfl), .inl (.inl rfl), trivial⟩ trivial (Nat.le_refl _))) ?_
  intro x2 i3 v1 hv1 hx1
  have h2 : ref_PartError_L1 f1 x2 = some v1 := hv1; unfold ref_PartError_L1 at h2
  refine AW.seq_w fun K5 hK5 wK5 => ?_
  refine AW.region ?_
  refine AOps.step rfl rfl rfl (OpQ.spec (sp_lss rfl (.inl rfl) (.inl rfl)) _) ?_
  refine AOps.nil ?_
  refine hK5 _ ?_
  refine AW.seq_w fun K6 hK6 wK6 => ?_
  refine AW.cond rfl (fun hc1 => ?_) (fun hc1 => ?_)
  · have h3 := ite_t hc1 h2
    refine AW.skip ?_
    refine hK6 _ ?_
    refine AW.seq_w fun K7 hK7 wK7 => ?_
    refine AW.block ?_
    refine AW.seq_w fun K8 hK8 wK8 => ?_
    refine AW.region ?_
    refine AOps.step rfl rfl rfl (OpQ.spec (sp_move rfl (.inl rfl)) _) ?_
    refine AOps.step rfl rfl rfl (OpQ.spec (sp_assign rfl (.inl rfl)) _) ?_
    refine AOps.nil ?_
    refine hK8 _ ?_
    refine AW.seq_w fun K9 hK9 wK9 => ?_
    refine AW.region ?_
    refine AOps.step rfl rfl rfl (OpQ.spec (sp_move rfl (.inl rfl)) _) ?_
    refine AOps.step rfl rfl rfl (OpQ.spec (sp_move rfl (.inl rfl)) _) ?_
    refine ob1k h3 fun x4 ex4 h4 => ?_
    refine AOps.step rfl rfl rfl (OpQ.spec (ms_idx rfl tg_39.slice (.inl rfl) (.inl rfl) (fun _ => rfl) (fun _ => ex4)) _) ?_
    refine AOps.step rfl rfl rfl (OpQ.spec (ms_loadA (cs := [.r (.int .i64 x4.Char), .r (.int .i64 x4.Ref), .r (.sl (x4.Attrs.map GAttr.row))]) rfl ta_113 (.inl rfl) rfl rfl) _) ?_
    refine ob1k h4 fun e1 ee1 h5 => ?_
    refine AOps.step rfl rfl rfl (sp_call (r := .r (.int .i64 e1)) (caps := []) (bs := [.agg [.r (.int .i64 x4.Char), .r (.int .i64 x4.Ref), .r (.sl (x4.Attrs.map GAttr.row))]]) rfl (.inl rfl) rfl ⟨⟨_, (.inl rfl), .g (cs := [.int .i64 x4.Char, .int .i64 x4.Ref, .sl (x4.Attrs.map GAttr.row)]) rfl rfl⟩, trivial⟩ (fun _ => w_ref_ElemError (ee1)) rfl) ?_
    refine AOps.step rfl rfl rfl (OpQ.spec (sp_assign rfl (.inl rfl)) _) ?_
    refine AOps.nil ?_
    refine hK9 _ ?_
    refine AW.seq_w fun K10 hK10 wK10 => ?_
    refine AW.region ?_
    refine AOps.step rfl rfl rfl (OpQ.spec (sp_move rfl (.inl rfl)) _) ?_
    refine AOps.step rfl rfl rfl (OpQ.spec (sp_neq rfl (.inl rfl) (.inl rfl)) _) ?_
    refine AOps.nil ?_
    refine hK10 _ ?_
    refine AW.cond rfl (fun hc2 => ?_) (fun hc2 => ?_)
    · have h6 := ite_t hc2 h5
      refine AW.seq_w fun K11 hK11 wK11 => ?_
      refine AW.weak (s' := ⟨[(4, .r (.int .i64 e1))], [], (i3 0), 19⟩) (by exact Weak.cv ⟨.inl (.inl rfl), trivial⟩ trivial (Nat.le_refl _)) ?_
      refine AW.region ?_
      refine AOps.step rfl rfl rfl (OpQ.spec (sp_move rfl (.inl rfl)) _) ?_
      refine AOps.step rfl rfl rfl (OpQ.spec (sp_assign rfl (.inl rfl)) _) ?_
      refine AOps.nil ?_
      refine hK11 _ ?_
      refine AW.ret ?_
      exact retf1 (P := Try.prog) (fun (r : Int) => .r (.int .i64 r)) (he1 _ (hx1 _ (Option.some.inj h6).symm)) (.inl rfl) (.t (.d rfl))
    · have h6 := ite_f hc2 h5
      refine AW.skip ?_
      refine hK7 _ ?_
      refine AW.weak (s' := ⟨[(0, .r (.sl (f1.map GElem.row))), (6, .r (.int .i64 (f1.length : Int))), (7, .r (.int .i64 x2))], [], (i3 0), 19⟩) (by exact Weak.cv ⟨.inl (.inl rfl), .inl (.inl rfl), .inl (.inl rfl), trivial⟩ trivial (Nat.le_refl _)) ?_
      refine AW.region ?_
      refine ob1k h6 fun x5 ex5 h7 => ?_
      refine AOps.step rfl rfl rfl (OpQ.spec (ms_add rfl (.inl rfl) (.inl rfl) (fun _ => ex5)) _) ?_
      refine AOps.step rfl rfl rfl (OpQ.spec (sp_move rfl (.inl rfl)) _) ?_
      refine AOps.nil ?_
      exact NextQ1.mk h7 (vec [(i3 0)]) ((by exact Weak.cv ⟨.inl (.inl rfl), .inl (.inl rfl), .inl (.inl rfl), trivial⟩ trivial (Nat.le_refl _)))
  · have h3 := ite_f hc1 h2
    refine AW.exit ?_
    exact wK2 _ _ ((by exact Weak.cv trivial trivial (Nat.le_refl _))) (J1 _ (vec [(i3 0)]) (hx1 _ (Option.some.inj h3).symm))
set_option maxHeartbeats 4000000 in
set_option maxRecDepth 20000 in
theorem w_ref_StepError {s1 : GStep} {r : Int} (h : ref_StepError s1 = some r) : ARO Try.prog 29 [.agg [.r (.int .i64 s1.Kind), .r (.int .i64 s1.N), .r (.sl (s1.Attrs.map GAttr.row)), .r (.sl (s1.Elems.map GElem.row))]] (.r (.int .i64 r)) := by
  unfold ref_StepError at h
  refine ARO.mkF Try.func29 rfl rfl Try.ntmps29 rfl (Nat.le_of_ble_eq_true rfl) fun n0 => ?_
  refine AW.seq_w fun K1 hK1 wK1 => ?_
  refine AW.region ?_
  refine AOps.step rfl rfl rfl (ms_box (cs := [.r (.int .i64 s1.Kind), .r (.int .i64 s1.N), .r (.sl (s1.Attrs.map GAttr.row)), .r (.sl (s1.Elems.map GElem.row))]) 1 rfl (.inl rfl) rfl rfl) ?_
  refine AOps.step rfl rfl rfl (OpQ.spec (sp_assign rfl (.inl rfl)) _) ?_
  refine AOps.nil ?_
  refine hK1 _ ?_
  refine AW.seq_w fun K2 hK2 wK2 => ?_
  refine AW.seq_w fun K3 hK3 wK3 => ?_
  refine AW.region ?_
  refine AOps.step rfl rfl rfl (OpQ.spec (sp_fieldAddr_own (ob := .box _ _ _) rfl tf_49_0 (.inl rfl) (fun _ => rfl) rfl) _) ?_
  refine AOps.step rfl rfl rfl (OpQ.spec (ms_load_box (a := .r (.int .i64 s1.Kind)) rfl ts_3 (.inl rfl) rfl rfl) _) ?_
  refine ob1k h fun r1 er1 h1 => ?_
  refine AOps.step rfl rfl rfl (sp_call (r := .r (.bool r1)) (caps := []) (bs := [.r (.int .i64 s1.Kind), .r (.int .i64 0), .r (.int .i64 2)]) rfl (.inl rfl) rfl ⟨⟨_, (.inl rfl), .d rfl⟩, ⟨_, (.inl rfl), .d rfl⟩, ⟨_, (.inl rfl), .d rfl⟩, trivial⟩ (fun _ => w_ref_In (er1)) rfl) ?_
  refine AOps.step rfl rfl rfl (OpQ.spec (sp_not rfl (.inl rfl)) _) ?_
  refine AOps.nil ?_
  refine hK3 _ ?_
  refine AW.cond rfl (fun hc1 => ?_) (fun hc1 => ?_)
  · have h2 := ite_t hc1 h1
    refine AW.seq_w fun K4 hK4 wK4 => ?_
    refine AW.region ?_
    refine AOps.step rfl rfl rfl (OpQ.spec (sp_assign rfl (.inl rfl)) _) ?_
    refine AOps.nil ?_
    refine hK4 _ ?_
    refine AW.ret ?_
    exact retf1 (P := Try.prog) (fun (r : Int) => .r (.int .i64 r)) h2 (.inl rfl) (.t (.d rfl))
  · have h2 := ite_f hc1 h1
    refine AW.skip ?_
    refine hK2 _ ?_
    refine AW.seq_w fun K5 hK5 wK5 => ?_
    refine AW.seq_w fun K6 hK6 wK6 => ?_
    refine AW.region ?_
    refine AOps.step rfl rfl rfl (OpQ.spec (sp_fieldAddr_own (ob := .box _ _ _) rfl tf_49_0 (.inl rfl) (fun _ => rfl) rfl) _) ?_
    refine AOps.step rfl rfl rfl (OpQ.spec (ms_load_box (a := .r (.int .i64 s1.Kind)) rfl ts_3 (.inl rfl) rfl rfl) _) ?_
    refine AOps.step rfl rfl rfl (OpQ.spec (sp_eql rfl (.inl rfl) (.inl rfl)) _) ?_
    refine AOps.nil ?_
    refine hK6 _ ?_
    refine AW.cond rfl (fun hc2 => ?_) (fun hc2 => ?_)
    · have h3 := ite_t hc2 h2
      refine AW.seq_w fun K7 hK7 wK7 => ?_
      refine AW.seq_w fun K8 hK8 wK8 => ?_
      refine AW.weak (s' := ⟨[(1, .ptr 1 n0 0 0)], [(1, some (.box n0 49 [.r (.int .i64 s1.Kind), .r (.int .i64 s1.N), .r (.sl (s1.Attrs.map GAttr.row)), .r (.sl (s1.Elems.map GElem.row))]))], (n0 + 1), 48⟩) (by exact Weak.cv ⟨.inl (.inl rfl), trivial⟩ ⟨.inl rfl, trivial⟩ (Nat.le_refl _)) ?_
      refine AW.region ?_
      refine AOps.step rfl rfl rfl (OpQ.spec (sp_fieldAddr_own (ob := .box _ _ _) rfl tf_49_1 (.inl rfl) (fun _ => rfl) rfl) _) ?_
      refine AOps.step rfl rfl rfl (OpQ.spec (ms_load_box (a := .r (.int .i64 s1.N)) rfl ts_3 (.inl rfl) rfl rfl) _) ?_
      refine AOps.step rfl rfl rfl (OpQ.spec (sp_neq rfl (.inl rfl) (.inl rfl)) _) ?_
      refine AOps.step rfl rfl rfl (OpQ.spec (sp_move rfl (.inl rfl)) _) ?_
      refine AOps.stepW (.one rfl rfl rfl) rfl rfl (OpQ.spec (sp_fieldAddr_own (ob := .box _ _ _) rfl tf_49_2 (.inl rfl) (fun _ => rfl) rfl) _) ?_
      refine AOps.stepW (.one rfl rfl rfl) rfl rfl (OpQ.spec (ms_load_box (a := .r (.sl (s1.Attrs.map GAttr.row))) rfl ts_47 (.inr ⟨_, (by exact id), rfl⟩) rfl rfl) _) ?_
      refine AOps.stepW (.one rfl rfl rfl) rfl rfl (OpQ.spec (ms_len rfl tg_47.slice (.inr ⟨_, (by exact id), rfl⟩)) _) ?_
      refine AOps.stepW (.one rfl rfl rfl) rfl rfl (OpQ.spec (sp_gtr rfl (.inr ⟨_, (by exact id), rfl⟩) (.inl rfl)) _) ?_
      refine AOps.step rfl rfl rfl (OpQ.spec (sp_or rfl (.inl rfl) (.inr ⟨_, (by exact id), rfl⟩)) _) ?_
      refine AOps.nil ?_
      refine hK8 _ ?_
      refine AW.cond rfl (fun hc3 => ?_) (fun hc3 => ?_)
      · have h4 := ite_t hc3 h3
        refine AW.seq_w fun K9 hK9 wK9 => ?_
        refine AW.weak (s' := ⟨[], [], (n0 + 1), 48⟩) (by exact Weak.cv trivial trivial (Nat.le_refl _)) ?_
        refine AW.region ?_
        refine AOps.step rfl rfl rfl (OpQ.spec (sp_assign rfl (.inl rfl)) _) ?_
        refine AOps.nil ?_
        refine hK9 _ ?_
        refine AW.ret ?_
        exact retf1 (P := Try.prog) (fun (r : Int) => .r (.int .i64 r)) h4 (.inl rfl) (.t (.d rfl))
      · have h4 := ite_f hc3 h3
        refine AW.skip ?_
        refine hK7 _ ?_
        refine AW.seq_w fun K10 hK10 wK10 => ?_
        refine AW.seq_w fun K11 hK11 wK11 => ?_
        refine AW.weak (s' := ⟨[(1, .ptr 1 n0 0 0)], [(1, some (.box n0 49 [.r (.int .i64 s1.Kind), .r (.int .i64 s1.N), .r (.sl (s1.Attrs.map GAttr.row)), .r (.sl (s1.Elems.map GElem.row))]))], (n0 + 1), 48⟩) (by exact Weak.cv ⟨.inl (.inl rfl), trivial⟩ ⟨.inl rfl, trivial⟩ (Nat.le_refl _)) ?_
        refine AW.region ?_
        refine AOps.step rfl rfl rfl (OpQ.spec (sp_fieldAddr_own (ob := .box _ _ _) rfl tf_49_3 (.inl rfl) (fun _ => rfl) rfl) _) ?_
        refine AOps.step rfl rfl rfl (OpQ.spec (ms_load_box (a := .r (.sl (s1.Elems.map GElem.row))) rfl ts_39 (.inl rfl) rfl rfl) _) ?_
        refine AOps.step rfl rfl rfl (OpQ.spec (ms_len rfl tg_39.slice (.inl rfl)) _) ?_
        refine AOps.step rfl rfl rfl (OpQ.spec (sp_eql rfl (.inl rfl) (.inl rfl)) _) ?_
        refine AOps.nil ?_
        refine hK11 _ ?_
        refine AW.cond rfl (fun hc4 => ?_) (fun hc4 => ?_)
        · have h5 := ite_t hc4 h4
          refine AW.seq_w fun K12 hK12 wK12 => ?_
          refine AW.region ?_
          refine AOps.step rfl rfl rfl (OpQ.spec (sp_assign rfl (.inl rfl)) _) ?_
          refine AOps.nil ?_
          refine hK12 _ ?_
          refine AW.ret ?_
          exact retf1 (P := Try.prog) (fun (r : Int) => .r (.int .i64 r)) h5 (.inl rfl) (.t (.d rfl))
        · have h5 := ite_f hc4 h4
          refine AW.skip ?_
          refine hK10 _ ?_
          refine AW.seq_w fun K13 hK13 wK13 => ?_
          refine AW.region ?_
          refine AOps.step rfl rfl rfl (OpQ.spec (sp_fieldAddr_own (ob := .box _ _ _) rfl tf_49_3 (.inl rfl) (fun _ => rfl) rfl) _) ?_
          refine AOps.step rfl rfl rfl (OpQ.spec (ms_load_box (a := .r (.sl (s1.Elems.map GElem.row))) rfl ts_39 (.inl rfl) rfl rfl) _) ?_
          refine ob1k h5 fun r2 er2 h6 => ?_
          refine AOps.step rfl rfl rfl (sp_call (r := .r (.int .i64 r2)) (caps := []) (bs := [.r (.sl (s1.Elems.map GElem.row))]) rfl (.inl rfl) rfl ⟨⟨_, (.inl rfl), .d rfl⟩, trivial⟩ (fun _ => w_ref_PartError (er2)) rfl) ?_
          refine AOps.step rfl rfl rfl (OpQ.spec (sp_assign rfl (.inl rfl)) _) ?_
          refine AOps.nil ?_
          refine hK13 _ ?_
          refine AW.ret ?_
          exact retf1 (P := Try.prog) (fun (r : Int) => .r (.int .i64 r)) h6 (.inl rfl) (.t (.d rfl))
    · have h3 := ite_f hc2 h2
      refine AW.skip ?_
      refine hK5 _ ?_
      refine AW.seq_w fun K14 hK14 wK14 => ?_
      refine AW.seq_w fun K15 hK15 wK15 => ?_
      refine AW.weak (s' := ⟨[(1, .ptr 1 n0 0 0)], [(1, some (.box n0 49 [.r (.int .i64 s1.Kind), .r (.int .i64 s1.N), .r (.sl (s1.Attrs.map GAttr.row)), .r (.sl (s1.Elems.map GElem.row))]))], (n0 + 1), 48⟩) (by exact Weak.cv ⟨.inl (.inl rfl), trivial⟩ ⟨.inl rfl, trivial⟩ (Nat.le_refl _)) ?_
      refine AW.region ?_
      refine AOps.step rfl rfl rfl (OpQ.spec (sp_fieldAddr_own (ob := .box _ _ _) rfl tf_49_3 (.inl rfl) (fun _ => rfl) rfl) _) ?_
      refine AOps.step rfl rfl rfl (OpQ.spec (ms_load_box (a := .r (.sl (s1.Elems.map GElem.row))) rfl ts_39 (.inl rfl) rfl rfl) _) ?_
      refine AOps.step rfl rfl rfl (OpQ.spec (ms_len rfl tg_39.slice (.inl rfl)) _) ?_
      refine AOps.step rfl rfl rfl (OpQ.spec (sp_gtr rfl (.inl rfl) (.inl rfl)) _) ?_
      refine AOps.step rfl rfl rfl (OpQ.spec (sp_move rfl (.inl rfl)) _) ?_
      refine AOps.stepW (.one rfl rfl rfl) rfl rfl (OpQ.spec (sp_fieldAddr_own (ob := .box _ _ _) rfl tf_49_0 (.inl rfl) (fun _ => rfl) rfl) _) ?_
      refine AOps.stepW (.one rfl rfl rfl) rfl rfl (OpQ.spec (ms_load_box (a := .r (.int .i64 s1.Kind)) rfl ts_3 (.inr ⟨_, (by exact id), rfl⟩) rfl rfl) _) ?_
      refine AOps.stepW (.one rfl rfl rfl) rfl rfl (OpQ.spec (sp_eql rfl (.inr ⟨_, (by exact id), rfl⟩) (.inl rfl)) _) ?_
      refine AOps.stepW (.one rfl rfl rfl) rfl rfl (OpQ.spec (sp_move rfl (.inr ⟨_, (by exact id), rfl⟩)) _) ?_
      refine AOps.stepW (.two rfl rfl rfl) rfl rfl (OpQ.spec (sp_fieldAddr_own (ob := .box _ _ _) rfl tf_49_2 (.inl rfl) (fun _ => rfl) rfl) _) ?_
      refine AOps.stepW (.two rfl rfl rfl) rfl rfl (OpQ.spec (ms_load_box (a := .r (.sl (s1.Attrs.map GAttr.row))) rfl ts_47 (.inr ⟨_, (by exact id), rfl⟩) rfl rfl) _) ?_
      refine AOps.stepW (.two rfl rfl rfl) rfl rfl (OpQ.spec (ms_len rfl tg_47.slice (.inr ⟨_, (by exact id), rfl⟩)) _) ?_
      refine AOps.stepW (.two rfl rfl rfl) rfl rfl (OpQ.spec (sp_gtr rfl (.inr ⟨_, (by exact id), rfl⟩) (.inl rfl)) _) ?_
      refine AOps.stepW (.one rfl rfl rfl) rfl rfl (OpQ.spec (sp_and rfl (.inr ⟨_, (by exact id), rfl⟩) (.inr ⟨_, (by exact id), rfl⟩)) _) ?_
      refine AOps.step rfl rfl rfl (OpQ.spec (sp_or rfl (.inl rfl) (.inr ⟨_, (by exact id), rfl⟩)) _) ?_
      refine AOps.nil ?_
      refine hK15 _ ?_
      refine AW.cond rfl (fun hc5 => ?_) (fun hc5 => ?_)
      · have h7 := ite_t hc5 h3
        refine AW.seq_w fun K16 hK16 wK16 => ?_
        refine AW.weak (s' := ⟨[], [], (n0 + 1), 48⟩) (by exact Weak.cv trivial trivial (Nat.le_refl _)) ?_
        refine AW.region ?_
        refine AOps.step rfl rfl rfl (OpQ.spec (sp_assign rfl (.inl rfl)) _) ?_
        refine AOps.nil ?_
        refine hK16 _ ?_
        refine AW.ret ?_
        exact retf1 (P := Try.prog) (fun (r : Int) => .r (.int .i64 r)) h7 (.inl rfl) (.t (.d rfl))
      · have h7 := ite_f hc5 h3
        refine AW.skip ?_
        refine hK14 _ ?_
        refine AW.seq_w fun K17 hK17 wK17 => ?_
        refine AW.seq_w fun K18 hK18 wK18 => ?_
        refine AW.weak (s' := ⟨[(1, .ptr 1 n0 0 0)], [(1, some (.box n0 49 [.r (.int .i64 s1.Kind), .r (.int .i64 s1.N), .r (.sl (s1.Attrs.map GAttr.row)), .r (.sl (s1.Elems.map GElem.row))]))], (n0 + 1), 48⟩) (by exact Weak.cv ⟨.inl (.inl rfl), trivial⟩ ⟨.inl rfl, trivial⟩ (Nat.le_refl _)) ?_
        refine AW.region ?_
        refine AOps.step rfl rfl rfl (OpQ.spec (sp_fieldAddr_own (ob := .box _ _ _) rfl tf_49_1 (.inl rfl) (fun _ => rfl) rfl) _) ?_
        refine AOps.step rfl rfl rfl (OpQ.spec (ms_load_box (a := .r (.int .i64 s1.N)) rfl ts_3 (.inl rfl) rfl rfl) _) ?_
        refine ob1k h7 fun r3 er3 h8 => ?_
        refine AOps.step rfl rfl rfl (sp_call (r := .r (.bool r3)) (caps := []) (bs := [.r (.int .i64 s1.N), .r (.int .i64 1), .r (.int .i64 2147483647)]) rfl (.inl rfl) rfl ⟨⟨_, (.inl rfl), .d rfl⟩, ⟨_, (.inl rfl), .d rfl⟩, ⟨_, (.inl rfl), .d rfl⟩, trivial⟩ (fun _ => w_ref_In (er3)) rfl) ?_
        refine AOps.step rfl rfl rfl (OpQ.spec (sp_not rfl (.inl rfl)) _) ?_
        refine AOps.nil ?_
        refine hK18 _ ?_
        refine AW.cond rfl (fun hc6 => ?_) (fun hc6 => ?_)
        · have h9 := ite_t hc6 h8
          refine AW.seq_w fun K19 hK19 wK19 => ?_
          refine AW.region ?_
          refine AOps.step rfl rfl rfl (OpQ.spec (sp_assign rfl (.inl rfl)) _) ?_
          refine AOps.nil ?_
          refine hK19 _ ?_
          refine AW.ret ?_
          exact retf1 (P := Try.prog) (fun (r : Int) => .r (.int .i64 r)) h9 (.inl rfl) (.t (.d rfl))
        · have h9 := ite_f hc6 h8
          refine AW.skip ?_
          refine hK17 _ ?_
          refine AW.seq_w fun K20 hK20 wK20 => ?_
          refine AW.region ?_
          refine AOps.step rfl rfl rfl (OpQ.spec (sp_fieldAddr_own (ob := .box _ _ _) rfl tf_49_2 (.inl rfl) (fun _ => rfl) rfl) _) ?_
          refine AOps.step rfl rfl rfl (OpQ.spec (ms_load_box (a := .r (.sl (s1.Attrs.map GAttr.row))) rfl ts_47 (.inl rfl) rfl rfl) _) ?_
          refine ob1k h9 fun r4 er4 h10 => ?_
          refine AOps.step rfl rfl rfl (sp_call (r := .r (.int .i64 r4)) (caps := []) (bs := [.r (.sl (s1.Attrs.map GAttr.row)), .r (.bool true)]) rfl (.inl rfl) rfl ⟨⟨_, (.inl rfl), .d rfl⟩, ⟨_, (.inl rfl), .d rfl⟩, trivial⟩ (fun _ => w_ref_AttrsError (er4)) rfl) ?_
          refine AOps.step rfl rfl rfl (OpQ.spec (sp_assign rfl (.inl rfl)) _) ?_
          refine AOps.nil ?_
          refine hK20 _ ?_
          refine AW.ret ?_
          exact retf1 (P := Try.prog) (fun (r : Int) => .r (.int .i64 r)) h10 (.inl rfl) (.t (.d rfl))
set_option maxHeartbeats 4000000 in
set_option maxRecDepth 20000 in
theorem w_ref_DeltaError {d1 : List GStep} {r : Int} (h : ref_DeltaError d1 = some r) : ARO Try.prog 25 [.r (.sl (d1.map GStep.row))] (.r (.int .i64 r)) := by
  unfold ref_DeltaError at h
  refine ARO.mkF Try.func25 rfl rfl Try.ntmps25 rfl (Nat.le_of_ble_eq_true rfl) fun n0 => ?_
  refine AW.seq_w fun K1 hK1 wK1 => ?_
  refine AW.region ?_
  refine AOps.step rfl rfl rfl (OpQ.spec (sp_assign rfl (.inl rfl)) _) ?_
  refine AOps.nil ?_
  refine hK1 _ ?_
  refine AW.seq_w fun K2 hK2 wK2 => ?_
  refine AW.region ?_
  refine AOps.step rfl rfl rfl (OpQ.spec (sp_assign rfl (.inl rfl)) _) ?_
  refine AOps.step rfl rfl rfl (OpQ.spec (sp_assign rfl (.inl rfl)) _) ?_
  refine AOps.nil ?_
  refine hK2 _ ?_
  refine AW.seq_w fun K3 hK3 wK3 => ?_
  refine AW.seq_w fun K4 hK4 wK4 => ?_
  refine AW.region ?_
  refine AOps.step rfl rfl rfl (OpQ.spec (sp_move rfl (.inl rfl)) _) ?_
  refine AOps.step rfl rfl rfl (OpQ.spec (ms_len rfl tg_42.slice (.inl rfl)) _) ?_
  refine AOps.step rfl rfl rfl (OpQ.spec (sp_move rfl (.inl rfl)) _) ?_
  refine AOps.nil ?_
  refine hK4 _ ?_
  refine AW.block ?_
  refine jc2k h fun o1 hit1 hk1 he1 => ?_
  have J1 : ∀ (old4 : Int) (now4 : Int) (i5 : Nat → Nat), o1 = .nrm (old4, now4) → K3 ⟨[(3, .r (.int .i64 old4)), (4, .r (.int .i64 now4))], [], (i5 0), 85⟩ := by
    intro old4 now4 i5 e
    have h1 := hk1 _ _ e
    refine hK3 _ ?_
    refine AW.seq_w fun K5 hK5 wK5 => ?_
    refine AW.seq_w fun K6 hK6 wK6 => ?_
    refine AW.region ?_
    refine AOps.step rfl rfl rfl (OpQ.spec (sp_move rfl (.inl rfl)) _) ?_
    refine AOps.step rfl rfl rfl (OpQ.spec (sp_gtr rfl (.inl rfl) (.inl rfl)) _) ?_
    refine AOps.step rfl rfl rfl (OpQ.spec (sp_move rfl (.inl rfl)) _) ?_
    refine AOps.stepW (.one rfl rfl rfl) rfl rfl (OpQ.spec (sp_move rfl (.inl rfl)) _) ?_
    refine AOps.stepW (.one rfl rfl rfl) rfl rfl (OpQ.spec (sp_gtr rfl (.inr ⟨_, (by exact id), rfl⟩) (.inl rfl)) _) ?_
    refine AOps.step rfl rfl rfl (OpQ.spec (sp_or rfl (.inl rfl) (.inr ⟨_, (by exact id), rfl⟩)) _) ?_
    refine AOps.nil ?_
    refine hK6 _ ?_
    refine AW.cond rfl (fun hc1 => ?_) (fun hc1 => ?_)
    · have h2 := ite_t hc1 h1
      refine AW.seq_w fun K7 hK7 wK7 => ?_
      refine AW.region ?_
      refine AOps.step rfl rfl rfl (OpQ.spec (sp_assign rfl (.inl rfl)) _) ?_
      refine AOps.nil ?_
      refine hK7 _ ?_
      refine AW.ret ?_
      exact retf1 (P := Try.prog) (fun (r : Int) => .r (.int .i64 r)) h2 (.inl rfl) (.t (.d rfl))
    · have h2 := ite_f hc1 h1
      refine AW.skip ?_
      refine hK5 _ ?_
      refine AW.seq_w fun K8 hK8 wK8 => ?_
      refine AW.region ?_
      refine AOps.step rfl rfl rfl (OpQ.spec (sp_assign rfl (.inl rfl)) _) ?_
      refine AOps.nil ?_
      refine hK8 _ ?_
      refine AW.ret ?_
      exact retf1 (P := Try.prog) (fun (r : Int) => .r (.int .i64 r)) h2 (.inl rfl) (.t (.d rfl))
  refine AW.iter3 (fun (old2 : Int) (now2 : Int) (x2 : Int) i3 => ⟨[(0, .r (.sl (d1.map GStep.row))), (3, .r (.int .i64 old2)), (4, .r (.int .i64 now2)), (10, .r (.int .i64 (d1.length : Int))), (11, .r (.int .i64 x2))], [], (i3 0), 85⟩) (vec [n0]) hit1 ((by exact Weak.cv ⟨.inl (.inl rfl), .inl (.inl rfl), .inl (.inl rfl), .inl (.inl rfl), .inl (.inl rfl), trivial⟩ trivial (Nat.le_refl _))) ?_
  intro old2 now2 x2 i3 v1 hv1 hx1
  have h3 : ref_DeltaError_L1 d1 old2 now2 x2 = some v1 := hv1; unfold ref_DeltaError_L1 at h3
  refine AW.seq_w fun K9 hK9 wK9 => ?_
  refine AW.region ?_
  refine AOps.step rfl rfl rfl (OpQ.spec (sp_lss rfl (.inl rfl) (.inl rfl)) _) ?_
  refine AOps.nil ?_
  refine hK9 _ ?_
  refine AW.seq_w fun K10 hK10 wK10 => ?_
  refine AW.cond rfl (fun hc2 => ?_) (fun hc2 => ?_)
  · have h4 := ite_t hc2 h3
    refine AW.skip ?_
    refine hK10 _ ?_
    refine AW.seq_w fun K11 hK11 wK11 => ?_
    refine AW.block ?_
    refine jc2k h4 fun p1 hp1 hk2 he2 => ?_
    have J2 : ∀ (old5 : Int) (now5 : Int) (i6 : Nat → Nat), p1 = .nrm (old5, now5) → K11 ⟨[(0, .r (.sl (d1.map GStep.row))), (3, .r (.int .i64 old5)), (4, .r (.int .i64 now5)), (10, .r (.int .i64 (d1.length : Int))), (11, .r (.int .i64 x2))], [], (i6 0), 85⟩ := by
      intro old5 now5 i6 e
      have h5 := hk2 _ _ e
      refine hK11 _ ?_
      refine AW.region ?_
      refine ob1k h5 fun x4 ex4 h6 => ?_
      refine AOps.step rfl rfl rfl (OpQ.spec (ms_add rfl (.inl rfl) (.inl rfl) (fun _ => ex4)) _) ?_
      refine AOps.step rfl rfl rfl (OpQ.spec (sp_move rfl (.inl rfl)) _) ?_
      refine AOps.nil ?_
      exact NextQ3.mk h6 (vec [(i6 0)]) ((by exact Weak.cv ⟨.inl (.inl rfl), .inl (.inl rfl), .inl (.inl rfl), .inl (.inl rfl), .inl (.inl rfl), trivial⟩ trivial (Nat.le_refl _)))
    refine AW.seq_w fun K12 hK12 wK12 => ?_
    refine AW.region ?_
    refine AOps.step rfl rfl rfl (OpQ.spec (sp_move rfl (.inl rfl)) _) ?_
    refine AOps.step rfl rfl rfl (OpQ.spec (sp_assign rfl (.inl rfl)) _) ?_
    refine AOps.nil ?_
    refine hK12 _ ?_
    refine AW.seq_w fun K13 hK13 wK13 => ?_
    refine AW.region ?_
    refine AOps.step rfl rfl rfl (OpQ.spec (sp_move rfl (.inl rfl)) _) ?_
    refine AOps.step rfl rfl rfl (OpQ.spec (sp_move rfl (.inl rfl)) _) ?_
    refine ob1k hp1 fun x5 ex5 h7 => ?_
    refine AOps.step rfl rfl rfl (OpQ.spec (ms_idx rfl tg_42.slice (.inl rfl) (.inl rfl) (fun _ => rfl) (fun _ => ex5)) _) ?_
    refine AOps.step rfl rfl rfl (OpQ.spec (ms_loadA (cs := [.r (.int .i64 x5.Kind), .r (.int .i64 x5.N), .r (.sl (x5.Attrs.map GAttr.row)), .r (.sl (x5.Elems.map GElem.row))]) rfl ta_49 (.inl rfl) rfl rfl) _) ?_
    refine AOps.step rfl rfl rfl (ms_alloc (cs := [.r (.int .i64 0), .r (.int .i64 0), .cst (.slice none 0 0), .cst (.slice none 0 0)]) 6 rfl t0_49 rfl rfl) ?_
    refine AOps.step0 rfl rfl (ms_store_box (ds := [.r (.int .i64 x5.Kind), .r (.int .i64 x5.N), .r (.sl (x5.Attrs.map GAttr.row)), .r (.sl (x5.Elems.map GElem.row))]) rfl tz_49 (.inl rfl) rfl (.inl rfl) rfl rfl rfl rfl) ?_
    refine AOps.nil ?_
    refine hK13 _ ?_
    refine AW.seq_w fun K14 hK14 wK14 => ?_
    refine AW.seq_w fun K15 hK15 wK15 => ?_
    refine AW.region ?_
    refine AOps.step rfl rfl rfl (OpQ.spec (ms_loadA_box rfl ta_49 (.inl rfl) rfl rfl) _) ?_
    refine ob1k h7 fun e1 ee1 h8 => ?_
    refine AOps.step rfl rfl rfl (sp_call (r := .r (.int .i64 e1)) (caps := []) (bs := [.agg [.r (.int .i64 x5.Kind), .r (.int .i64 x5.N), .r (.sl (x5.Attrs.map GAttr.row)), .r (.sl (x5.Elems.map GElem.row))]]) rfl (.inl rfl) rfl ⟨⟨_, (.inl rfl), .g (cs := [.int .i64 x5.Kind, .int .i64 x5.N, .sl (x5.Attrs.map GAttr.row), .sl (x5.Elems.map GElem.row)]) rfl rfl⟩, trivial⟩ (fun _ => w_ref_StepError (ee1)) rfl) ?_
    refine AOps.step rfl rfl rfl (OpQ.spec (sp_assign rfl (.inl rfl)) _) ?_
    refine AOps.nil ?_
    refine hK15 _ ?_
    refine AW.seq_w fun K16 hK16 wK16 => ?_
    refine AW.region ?_
    refine AOps.step rfl rfl rfl (OpQ.spec (sp_move rfl (.inl rfl)) _) ?_
    refine AOps.step rfl rfl rfl (OpQ.spec (sp_neq rfl (.inl rfl) (.inl rfl)) _) ?_
    refine AOps.nil ?_
    refine hK16 _ ?_
    refine AW.cond rfl (fun hc3 => ?_) (fun hc3 => ?_)
    · have h9 := ite_t hc3 h8
      refine AW.seq_w fun K17 hK17 wK17 => ?_
      refine AW.weak (s' := ⟨[(7, .r (.int .i64 e1))], [], ((i3 0) + 1), 85⟩) (by exact Weak.cv ⟨.inl (.inl rfl), trivial⟩ trivial (Nat.le_refl _)) ?_
      refine AW.region ?_
      refine AOps.step rfl rfl rfl (OpQ.spec (sp_move rfl (.inl rfl)) _) ?_
      refine AOps.step rfl rfl rfl (OpQ.spec (sp_assign rfl (.inl rfl)) _) ?_
      refine AOps.nil ?_
      refine hK17 _ ?_
      refine AW.ret ?_
      exact retf1 (P := Try.prog) (fun (r : Int) => .r (.int .i64 r)) (he1 _ (hx1 _ (Option.some.inj (he2 _ (Option.some.inj h9).symm)).symm)) (.inl rfl) (.t (.d rfl))
    · have h9 := ite_f hc3 h8
      refine AW.skip ?_
      refine hK14 _ ?_
      refine AW.seq_w fun K18 hK18 wK18 => ?_
      refine AW.seq_w fun K19 hK19 wK19 => ?_
      refine AW.weak (s' := ⟨[(0, .r (.sl (d1.map GStep.row))), (3, .r (.int .i64 old2)), (4, .r (.int .i64 now2)), (5, .r (.int .i64 x2)), (6, .ptr 6 (i3 0) 0 0), (10, .r (.int .i64 (d1.length : Int))), (11, .r (.int .i64 x2))], [(6, some (.box (i3 0) 49 [.r (.int .i64 x5.Kind), .r (.int .i64 x5.N), .r (.sl (x5.Attrs.map GAttr.row)), .r (.sl (x5.Elems.map GElem.row))]))], ((i3 0) + 1), 85⟩) (by exact Weak.cv ⟨.inl (.inl rfl), .inl (.inl rfl), .inl (.inl rfl), .inl (.inl rfl), .inl (.inl rfl), .inl (.inl rfl), .inl (.inl rfl), trivial⟩ ⟨.inl rfl, trivial⟩ (Nat.le_refl _)) ?_
      refine AW.region ?_
      refine AOps.step rfl rfl rfl (OpQ.spec (sp_move rfl (.inl rfl)) _) ?_
      refine AOps.step rfl rfl rfl (OpQ.spec (sp_gtr rfl (.inl rfl) (.inl rfl)) _) ?_
      refine AOps.nil ?_
      refine hK19 _ ?_
      refine jc1k h9 fun p2 hp2 hk3 he3 => ?_
      have J3 : ∀ (u2 : Unit) (i7 : Nat → Nat), p2 = .nrm u2 → K18 ⟨[(0, .r (.sl (d1.map GStep.row))), (3, .r (.int .i64 old2)), (4, .r (.int .i64 now2)), (6, .ptr 6 (i3 0) 0 0), (10, .r (.int .i64 (d1.length : Int))), (11, .r (.int .i64 x2))], [(6, some (.box (i3 0) 49 [.r (.int .i64 x5.Kind), .r (.int .i64 x5.N), .r (.sl (x5.Attrs.map GAttr.row)), .r (.sl (x5.Elems.map GElem.row))]))], (i7 0), 85⟩ := by
        intro u2 i7 e
        have h10 := hk3 _ e
        refine hK18 _ ?_
        refine AW.seq_w fun K20 hK20 wK20 => ?_
        refine AW.seq_w fun K21 hK21 wK21 => ?_
        refine AW.region ?_
        refine AOps.step rfl rfl rfl (OpQ.spec (sp_fieldAddr_own (ob := .box _ _ _) rfl tf_49_0 (.inl rfl) (fun _ => rfl) rfl) _) ?_
        refine AOps.step rfl rfl rfl (OpQ.spec (ms_load_box (a := .r (.int .i64 x5.Kind)) rfl ts_3 (.inl rfl) rfl rfl) _) ?_
        refine AOps.step rfl rfl rfl (OpQ.spec (sp_neq rfl (.inl rfl) (.inl rfl)) _) ?_
        refine AOps.step rfl rfl rfl (OpQ.spec (sp_move rfl (.inl rfl)) _) ?_
        refine AOps.stepW (.one rfl rfl rfl) rfl rfl (OpQ.spec (sp_move rfl (.inl rfl)) _) ?_
        refine AOps.stepW (.one rfl rfl rfl) rfl rfl (OpQ.spec (sp_lss rfl (.inr ⟨_, (by exact id), rfl⟩) (.inl rfl)) _) ?_
        refine AOps.step rfl rfl rfl (OpQ.spec (sp_and rfl (.inl rfl) (.inr ⟨_, (by exact id), rfl⟩)) _) ?_
        refine AOps.nil ?_
        refine hK21 _ ?_
        refine jb1k h10 fun p3 hp3 hk4 => ?_
        have J4 : ∀ (old6 : Int) (i8 : Nat → Nat), p3 = old6 → K20 ⟨[(0, .r (.sl (d1.map GStep.row))), (3, .r (.int .i64 old6)), (4, .r (.int .i64 now2)), (6, .ptr 6 (i3 0) 0 0), (10, .r (.int .i64 (d1.length : Int))), (11, .r (.int .i64 x2))], [(6, some (.box (i3 0) 49 [.r (.int .i64 x5.Kind), .r (.int .i64 x5.N), .r (.sl (x5.Attrs.map GAttr.row)), .r (.sl (x5.Elems.map GElem.row))]))], (i8 0), 85⟩ := by
          intro old6 i8 e
          have h11 := hk4 _ e
          refine hK20 _ ?_
          refine AW.seq_w fun K22 hK22 wK22 => ?_
          refine AW.region ?_
          refine AOps.step rfl rfl rfl (OpQ.spec (sp_fieldAddr_own (ob := .box _ _ _) rfl tf_49_0 (.inl rfl) (fun _ => rfl) rfl) _) ?_
          refine AOps.step rfl rfl rfl (OpQ.spec (ms_load_box (a := .r (.int .i64 x5.Kind)) rfl ts_3 (.inl rfl) rfl rfl) _) ?_
          refine AOps.step rfl rfl rfl (OpQ.spec (sp_neq rfl (.inl rfl) (.inl rfl)) _) ?_
          refine AOps.step rfl rfl rfl (OpQ.spec (sp_move rfl (.inl rfl)) _) ?_
          refine AOps.stepW (.one rfl rfl rfl) rfl rfl (OpQ.spec (sp_move rfl (.inl rfl)) _) ?_
          refine AOps.stepW (.one rfl rfl rfl) rfl rfl (OpQ.spec (sp_lss rfl (.inr ⟨_, (by exact id), rfl⟩) (.inl rfl)) _) ?_
          refine AOps.step rfl rfl rfl (OpQ.spec (sp_and rfl (.inl rfl) (.inr ⟨_, (by exact id), rfl⟩)) _) ?_
          refine AOps.nil ?_
          refine hK22 _ ?_
          refine AW.cond rfl (fun hc4 => ?_) (fun hc4 => ?_)
          · have h12 := ite_t hc4 h11
            refine AW.region ?_
            refine AOps.step rfl rfl rfl (OpQ.spec (sp_move rfl (.inl rfl)) _) ?_
            refine AOps.step rfl rfl rfl (OpQ.spec (sp_fieldAddr_own (ob := .box _ _ _) rfl tf_49_1 (.inl rfl) (fun _ => rfl) rfl) _) ?_
            refine AOps.step rfl rfl rfl (OpQ.spec (ms_load_box (a := .r (.int .i64 x5.N)) rfl ts_3 (.inl rfl) rfl rfl) _) ?_
            refine AOps.step rfl rfl rfl (OpQ.spec (sp_fieldAddr_own (ob := .box _ _ _) rfl tf_49_3 (.inl rfl) (fun _ => rfl) rfl) _) ?_
            refine AOps.step rfl rfl rfl (OpQ.spec (ms_load_box (a := .r (.sl (x5.Elems.map GElem.row))) rfl ts_39 (.inl rfl) rfl rfl) _) ?_
            refine AOps.step rfl rfl rfl (OpQ.spec (ms_len rfl tg_39.slice (.inl rfl)) _) ?_
            refine ob1k h12 fun x6 ex6 h13 => ?_
            refine AOps.step rfl rfl rfl (OpQ.spec (ms_add rfl (.inl rfl) (.inl rfl) (fun _ => ex6)) _) ?_
            refine ob1k h13 fun now6 enow6 h14 => ?_
            refine AOps.step rfl rfl rfl (OpQ.spec (ms_add rfl (.inl rfl) (.inl rfl) (fun _ => enow6)) _) ?_
            refine AOps.step rfl rfl rfl (OpQ.spec (sp_assign rfl (.inl rfl)) _) ?_
            refine AOps.nil ?_
            exact wK11 _ _ ((by exact Weak.cv ⟨.inl (.inl rfl), .inl (.inl rfl), .inl (.inl rfl), .inl (.inl rfl), .inl (.inl rfl), trivial⟩ trivial (Nat.le_refl _))) (J2 _ _ (vec [(i8 0)]) (Option.some.inj h14).symm)
          · have h12 := ite_f hc4 h11
            refine AW.skip ?_
            exact wK11 _ _ ((by exact Weak.cv ⟨.inl (.inl rfl), .inl (.inl rfl), .inl (.inl rfl), .inl (.inl rfl), .inl (.inl rfl), trivial⟩ trivial (Nat.le_refl _))) (J2 _ _ (vec [(i8 0)]) (Option.some.inj h12).symm)
        refine AW.cond rfl (fun hc5 => ?_) (fun hc5 => ?_)
        · have h15 := ite_t hc5 hp3
          refine AW.region ?_
          refine AOps.step rfl rfl rfl (OpQ.spec (sp_move rfl (.inl rfl)) _) ?_
          refine AOps.step rfl rfl rfl (OpQ.spec (sp_fieldAddr_own (ob := .box _ _ _) rfl tf_49_1 (.inl rfl) (fun _ => rfl) rfl) _) ?_
          refine AOps.step rfl rfl rfl (OpQ.spec (ms_load_box (a := .r (.int .i64 x5.N)) rfl ts_3 (.inl rfl) rfl rfl) _) ?_
          refine ob1k h15 fun old7 eold7 h16 => ?_
          refine AOps.step rfl rfl rfl (OpQ.spec (ms_add rfl (.inl rfl) (.inl rfl) (fun _ => eold7)) _) ?_
          refine AOps.step rfl rfl rfl (OpQ.spec (sp_assign rfl (.inl rfl)) _) ?_
          refine AOps.nil ?_
          exact wK20 _ _ ((by exact Weak.cv ⟨.inl (.inl rfl), .inl (.inl rfl), .inl (.inl rfl), .inl (.inl rfl), .inl (.inl rfl), .inl (.inl rfl), trivial⟩ ⟨.inl rfl, trivial⟩ (Nat.le_refl _))) (J4 _ (vec [(i7 0)]) (Option.some.inj h16).symm)
        · have h15 := ite_f hc5 hp3
          refine AW.skip ?_
          exact wK20 _ _ ((by exact Weak.cv ⟨.inl (.inl rfl), .inl (.inl rfl), .inl (.inl rfl), .inl (.inl rfl), .inl (.inl rfl), .inl (.inl rfl), trivial⟩ ⟨.inl rfl, trivial⟩ (Nat.le_refl _))) (J4 _ (vec [(i7 0)]) (Option.some.inj h15).symm)
      refine AW.cond rfl (fun hc6 => ?_) (fun hc6 => ?_)
      · have h17 := ite_t hc6 hp2
        refine AW.seq_w fun K23 hK23 wK23 => ?_
        refine AW.region ?_
        refine AOps.step rfl rfl rfl (OpQ.spec (sp_move rfl (.inl rfl)) _) ?_
        refine AOps.step rfl rfl rfl (OpQ.spec (sp_move rfl (.inl rfl)) _) ?_
        refine ob1k h17 fun x7 ex7 h18 => ?_
        refine AOps.step rfl rfl rfl (OpQ.spec (ms_sub rfl (.inl rfl) (.inl rfl) (fun _ => ex7)) _) ?_
        refine ob1k h18 fun x8 ex8 h19 => ?_
        refine AOps.step rfl rfl rfl (OpQ.spec (ms_idx rfl tg_42.slice (.inl rfl) (.inl rfl) (fun _ => rfl) (fun _ => ex8)) _) ?_
        refine AOps.step rfl rfl rfl (OpQ.spec (ms_loadA (cs := [.r (.int .i64 x8.Kind), .r (.int .i64 x8.N), .r (.sl (x8.Attrs.map GAttr.row)), .r (.sl (x8.Elems.map GElem.row))]) rfl ta_49 (.inl rfl) rfl rfl) _) ?_
        refine AOps.step rfl rfl rfl (ms_alloc (cs := [.r (.int .i64 0), .r (.int .i64 0), .cst (.slice none 0 0), .cst (.slice none 0 0)]) 8 rfl t0_49 rfl rfl) ?_
        refine AOps.step0 rfl rfl (ms_store_box (ds := [.r (.int .i64 x8.Kind), .r (.int .i64 x8.N), .r (.sl (x8.Attrs.map GAttr.row)), .r (.sl (x8.Elems.map GElem.row))]) rfl tz_49 (.inl rfl) rfl (.inl rfl) rfl rfl rfl rfl) ?_
        refine AOps.nil ?_
        refine hK23 _ ?_
        refine AW.seq_w fun K24 hK24 wK24 => ?_
        refine AW.region ?_
        refine AOps.step rfl rfl rfl (OpQ.spec (sp_fieldAddr_own (ob := .box _ _ _) rfl tf_49_0 (.inl rfl) (fun _ => rfl) rfl) _) ?_
        refine AOps.step rfl rfl rfl (OpQ.spec (ms_load_box (a := .r (.int .i64 x5.Kind)) rfl ts_3 (.inl rfl) rfl rfl) _) ?_
        refine AOps.nil ?_
        refine hK24 _ ?_
        refine AW.block ?_
        refine AW.seq_w fun K25 hK25 wK25 => ?_
        refine AW.weak (s' := ⟨[(0, .r (.sl (d1.map GStep.row))), (3, .r (.int .i64 old2)), (4, .r (.int .i64 now2)), (6, .ptr 6 (i3 0) 0 0), (8, .ptr 8 ((i3 0) + 1) 0 0), (10, .r (.int .i64 (d1.length : Int))), (11, .r (.int .i64 x2)), (31, .r (.int .i64 x5.Kind))], [(6, some (.box (i3 0) 49 [.r (.int .i64 x5.Kind), .r (.int .i64 x5.N), .r (.sl (x5.Attrs.map GAttr.row)), .r (.sl (x5.Elems.map GElem.row))])), (8, some (.box ((i3 0) + 1) 49 [.r (.int .i64 x8.Kind), .r (.int .i64 x8.N), .r (.sl (x8.Attrs.map GAttr.row)), .r (.sl (x8.Elems.map GElem.row))]))], ((i3 0) + 2), 85⟩) (by exact Weak.cv ⟨.inl (.inl rfl), .inl (.inl rfl), .inl (.inl rfl), .inl (.inl rfl), .inl (.inl rfl), .inl (.inl rfl), .inl (.inl rfl), .inl (.inl rfl), trivial⟩ ⟨.inl rfl, .inl rfl, trivial⟩ (Nat.le_refl _)) ?_
        refine AW.region ?_
        refine AOps.step rfl rfl rfl (OpQ.spec (sp_eql rfl (.inl rfl) (.inl rfl)) _) ?_
        refine AOps.step rfl rfl rfl (OpQ.spec (sp_assign rfl (.inl rfl)) _) ?_
        refine AOps.nil ?_
        refine hK25 _ ?_
        refine AW.cond rfl (fun hc7 => ?_) (fun hc7 => ?_)
        · have h20 := ite_t hc7 h19
          refine AW.seq_w fun K26 hK26 wK26 => ?_
          refine AW.region ?_
          refine AOps.step rfl rfl rfl (OpQ.spec (sp_fieldAddr_own (ob := .box _ _ _) rfl tf_49_0 (.inl rfl) (fun _ => rfl) rfl) _) ?_
          refine AOps.step rfl rfl rfl (OpQ.spec (ms_load_box (a := .r (.int .i64 x8.Kind)) rfl ts_3 (.inl rfl) rfl rfl) _) ?_
          refine AOps.step rfl rfl rfl (OpQ.spec (sp_neq rfl (.inl rfl) (.inl rfl)) _) ?_
          refine AOps.nil ?_
          refine hK26 _ ?_
          refine AW.cond rfl (fun hc8 => ?_) (fun hc8 => ?_)
          · have h21 := ite_t hc8 h20
            refine AW.seq_w fun K27 hK27 wK27 => ?_
            refine AW.weak (s' := ⟨[], [], ((i3 0) + 2), 85⟩) (by exact Weak.cv trivial trivial (Nat.le_refl _)) ?_
            refine AW.region ?_
            refine AOps.step rfl rfl rfl (OpQ.spec (sp_assign rfl (.inl rfl)) _) ?_
            refine AOps.nil ?_
            refine hK27 _ ?_
            refine AW.ret ?_
            exact retf1 (P := Try.prog) (fun (r : Int) => .r (.int .i64 r)) (he1 _ (hx1 _ (Option.some.inj (he2 _ (Option.some.inj (he3 _ (Option.some.inj h21).symm)).symm)).symm)) (.inl rfl) (.t (.d rfl))
          · have h21 := ite_f hc8 h20
            refine AW.skip ?_
            exact wK18 _ _ ((by exact Weak.cv ⟨.inl (.inl rfl), .inl (.inl rfl), .inl (.inl rfl), .inl (.inl rfl), .inl (.inl rfl), .inl (.inl rfl), trivial⟩ ⟨.inl rfl, trivial⟩ (Nat.le_refl _))) (J3 _ (vec [((i3 0) + 2)]) (Option.some.inj h21).symm)
        · have h20 := ite_f hc7 h19
          refine AW.seq_w fun K28 hK28 wK28 => ?_
          refine AW.region ?_
          refine AOps.step rfl rfl rfl (OpQ.spec (sp_eql rfl (.inl rfl) (.inl rfl)) _) ?_
          refine AOps.step rfl rfl rfl (OpQ.spec (sp_assign rfl (.inl rfl)) _) ?_
          refine AOps.nil ?_
          refine hK28 _ ?_
          refine AW.cond rfl (fun hc9 => ?_) (fun hc9 => ?_)
          · have h22 := ite_t hc9 h20
            refine AW.seq_w fun K29 hK29 wK29 => ?_
            refine AW.region ?_
            refine AOps.step rfl rfl rfl (OpQ.spec (sp_fieldAddr_own (ob := .box _ _ _) rfl tf_49_0 (.inl rfl) (fun _ => rfl) rfl) _) ?_
            refine AOps.step rfl rfl rfl (OpQ.spec (ms_load_box (a := .r (.int .i64 x8.Kind)) rfl ts_3 (.inl rfl) rfl rfl) _) ?_
            refine AOps.step rfl rfl rfl (OpQ.spec (sp_eql rfl (.inl rfl) (.inl rfl)) _) ?_
            refine AOps.nil ?_
            refine hK29 _ ?_
            refine AW.cond rfl (fun hc10 => ?_) (fun hc10 => ?_)
            · have h23 := ite_t hc10 h22
              refine AW.seq_w fun K30 hK30 wK30 => ?_
              refine AW.weak (s' := ⟨[], [], ((i3 0) + 2), 85⟩) (by exact Weak.cv trivial trivial (Nat.le_refl _)) ?_
              refine AW.region ?_
              refine AOps.step rfl rfl rfl (OpQ.spec (sp_assign rfl (.inl rfl)) _) ?_
              refine AOps.nil ?_
              refine hK30 _ ?_
              refine AW.ret ?_
              exact retf1 (P := Try.prog) (fun (r : Int) => .r (.int .i64 r)) (he1 _ (hx1 _ (Option.some.inj (he2 _ (Option.some.inj (he3 _ (Option.some.inj h23).symm)).symm)).symm)) (.inl rfl) (.t (.d rfl))
            · have h23 := ite_f hc10 h22
              refine AW.skip ?_
              exact wK18 _ _ ((by exact Weak.cv ⟨.inl (.inl rfl), .inl (.inl rfl), .inl (.inl rfl), .inl (.inl rfl), .inl (.inl rfl), .inl (.inl rfl), trivial⟩ ⟨.inl rfl, trivial⟩ (Nat.le_refl _))) (J3 _ (vec [((i3 0) + 2)]) (Option.some.inj h23).symm)
          · have h22 := ite_f hc9 h20
            refine AW.seq_w fun K31 hK31 wK31 => ?_
            refine AW.region ?_
            refine AOps.step rfl rfl rfl (OpQ.spec (sp_fieldAddr_own (ob := .box _ _ _) rfl tf_49_0 (.inl rfl) (fun _ => rfl) rfl) _) ?_
            refine AOps.step rfl rfl rfl (OpQ.spec (ms_load_box (a := .r (.int .i64 x8.Kind)) rfl ts_3 (.inl rfl) rfl rfl) _) ?_
            refine AOps.step rfl rfl rfl (OpQ.spec (sp_eql rfl (.inl rfl) (.inl rfl)) _) ?_
            refine AOps.step rfl rfl rfl (OpQ.spec (sp_move rfl (.inl rfl)) _) ?_
            refine AOps.stepW (.one rfl rfl rfl) rfl rfl (OpQ.spec (sp_fieldAddr_own (ob := .box _ _ _) rfl tf_49_2 (.inl rfl) (fun _ => rfl) rfl) _) ?_
            refine AOps.stepW (.one rfl rfl rfl) rfl rfl (OpQ.spec (ms_load_box (a := .r (.sl (x8.Attrs.map GAttr.row))) rfl ts_47 (.inr ⟨_, (by exact id), rfl⟩) rfl rfl) _) ?_
            refine AOps.stepW (.one rfl rfl rfl) rfl rfl (OpQ.spec (sp_fieldAddr_own (ob := .box _ _ _) rfl tf_49_2 (.inl rfl) (fun _ => rfl) rfl) _) ?_
            refine AOps.stepW (.one rfl rfl rfl) rfl rfl (OpQ.spec (ms_load_box (a := .r (.sl (x5.Attrs.map GAttr.row))) rfl ts_47 (.inr ⟨_, (by exact id), rfl⟩) rfl rfl) _) ?_
            refine ob1k h22 fun r1 er1 h24 => ?_
            refine AOps.stepW (.one rfl rfl rfl) rfl rfl (sp_call (r := .r (.bool r1)) (caps := []) (bs := [.r (.sl (x8.Attrs.map GAttr.row)), .r (.sl (x5.Attrs.map GAttr.row))]) rfl (.inl rfl) rfl ⟨⟨_, (.inr ⟨_, (by exact id), rfl⟩), .d rfl⟩, ⟨_, (.inr ⟨_, (by exact id), rfl⟩), .d rfl⟩, trivial⟩ (fun hg => w_ref_SameAttrs (gdt er1 hg)) rfl) ?_
            refine AOps.step rfl rfl rfl (OpQ.spec (sp_and rfl (.inl rfl) (.inr ⟨_, (by exact id), rfl⟩)) _) ?_
            refine AOps.nil ?_
            refine hK31 _ ?_
            refine AW.cond rfl (fun hc11 => ?_) (fun hc11 => ?_)
            · have h25 := ite_t hc11 h24
              refine AW.seq_w fun K32 hK32 wK32 => ?_
              refine AW.weak (s' := ⟨[], [], ((i3 0) + 2), 85⟩) (by exact Weak.cv trivial trivial (Nat.le_refl _)) ?_
              refine AW.region ?_
              refine AOps.step rfl rfl rfl (OpQ.spec (sp_assign rfl (.inl rfl)) _) ?_
              refine AOps.nil ?_
              refine hK32 _ ?_
              refine AW.ret ?_
              exact retf1 (P := Try.prog) (fun (r : Int) => .r (.int .i64 r)) (he1 _ (hx1 _ (Option.some.inj (he2 _ (Option.some.inj (he3 _ (Option.some.inj h25).symm)).symm)).symm)) (.inl rfl) (.t (.d rfl))
            · have h25 := ite_f hc11 h24
              refine AW.skip ?_
              exact wK18 _ _ ((by exact Weak.cv ⟨.inl (.inl rfl), .inl (.inl rfl), .inl (.inl rfl), .inl (.inl rfl), .inl (.inl rfl), .inl (.inl rfl), trivial⟩ ⟨.inl rfl, trivial⟩ (Nat.le_refl _))) (J3 _ (vec [((i3 0) + 2)]) (Option.some.inj h25).symm)
      · have h17 := ite_f hc6 hp2
        refine AW.skip ?_
        exact wK18 _ _ ((by exact Weak.cv ⟨.inl (.inl rfl), .inl (.inl rfl), .inl (.inl rfl), .inl (.inl rfl), .inl (.inl rfl), .inl (.inl rfl), trivial⟩ ⟨.inl rfl, trivial⟩ (Nat.le_refl _))) (J3 _ (vec [((i3 0) + 1)]) (Option.some.inj h17).symm)
  · have h4 := ite_f hc2 h3
    refine AW.exit ?_
    exact wK3 _ _ ((by exact Weak.cv ⟨.inl (.inl rfl), .inl (.inl rfl), trivial⟩ trivial (Nat.le_refl _))) (J1 _ _ (vec [(i3 0)]) (hx1 _ (Option.some.inj h4).symm))
set_option maxHeartbeats 4000000 in
set_option maxRecDepth 20000 in
theorem w_ref_DeltaSize {d1 : List GStep} {r : Int} (h : ref_DeltaSize d1 = some r) : ARO Try.prog 58 [.r (.sl (d1.map GStep.row))] (.r (.int .i64 r)) := by
  unfold ref_DeltaSize at h
  refine ARO.mkF Try.func58 rfl rfl Try.ntmps58 rfl (Nat.le_of_ble_eq_true rfl) fun n0 => ?_
  refine AW.seq_w fun K1 hK1 wK1 => ?_
  refine AW.region ?_
  refine AOps.step rfl rfl rfl (OpQ.spec (sp_assign rfl (.inl rfl)) _) ?_
  refine AOps.nil ?_
  refine hK1 _ ?_
  refine AW.seq_w fun K2 hK2 wK2 => ?_
  refine AW.region ?_
  refine AOps.step rfl rfl rfl (OpQ.spec (sp_assign rfl (.inl rfl)) _) ?_
  refine AOps.nil ?_
  refine hK2 _ ?_
  refine AW.seq_w fun K3 hK3 wK3 => ?_
  refine AW.seq_w fun K4 hK4 wK4 => ?_
  refine AW.region ?_
  refine AOps.step rfl rfl rfl (OpQ.spec (sp_move rfl (.inl rfl)) _) ?_
  refine AOps.step rfl rfl rfl (OpQ.spec (ms_len rfl tg_42.slice (.inl rfl)) _) ?_
  refine AOps.step rfl rfl rfl (OpQ.spec (sp_move rfl (.inl rfl)) _) ?_
  refine AOps.nil ?_
  refine hK4 _ ?_
  refine AW.block ?_
  refine jb1k h fun o1 hit1 hk1 => ?_
  have J1 : ∀ (n4 : Int) (i5 : Nat → Nat), o1 = n4 → K3 ⟨[(3, .r (.int .i64 n4))], [], (i5 0), 19⟩ := by
    intro n4 i5 e
    have h1 := hk1 _ e
    refine hK3 _ ?_
    refine AW.seq_w fun K5 hK5 wK5 => ?_
    refine AW.region ?_
    refine AOps.step rfl rfl rfl (OpQ.spec (sp_move rfl (.inl rfl)) _) ?_
    refine AOps.step rfl rfl rfl (OpQ.spec (sp_assign rfl (.inl rfl)) _) ?_
    refine AOps.nil ?_
    refine hK5 _ ?_
    refine AW.ret ?_
    exact retf1 (P := Try.prog) (fun (r : Int) => .r (.int .i64 r)) h1 (.inl rfl) (.t (.d rfl))
  refine AW.iter2 (fun (n2 : Int) (x2 : Int) i3 => ⟨[(0, .r (.sl (d1.map GStep.row))), (3, .r (.int .i64 n2)), (6, .r (.int .i64 (d1.length : Int))), (7, .r (.int .i64 x2))], [], (i3 0), 19⟩) (vec [n0]) hit1 ((by exact Weak.cv ⟨.inl (.inl rfl), .inl (.inl rfl), .inl (.inl rfl), .inl (.inl rfl), trivial⟩ trivial (Nat.le_refl _))) ?_
  intro n2 x2 i3 v1 hv1 hx1
  have h2 : ref_DeltaSize_L1 d1 n2 x2 = some v1 := hv1; unfold ref_DeltaSize_L1 at h2
  refine AW.seq_w fun K6 hK6 wK6 => ?_
  refine AW.region ?_
  refine AOps.step rfl rfl rfl (OpQ.spec (sp_lss rfl (.inl rfl) (.inl rfl)) _) ?_
  refine AOps.nil ?_
  refine hK6 _ ?_
  refine AW.seq_w fun K7 hK7 wK7 => ?_
  refine AW.cond rfl (fun hc1 => ?_) (fun hc1 => ?_)
  · have h3 := ite_t hc1 h2
    refine AW.skip ?_
    refine hK7 _ ?_
    refine AW.seq_w fun K8 hK8 wK8 => ?_
    refine AW.block ?_
    refine AW.seq_w fun K9 hK9 wK9 => ?_
    refine AW.region ?_
    refine AOps.step rfl rfl rfl (OpQ.spec (sp_move rfl (.inl rfl)) _) ?_
    refine AOps.step rfl rfl rfl (OpQ.spec (sp_assign rfl (.inl rfl)) _) ?_
    refine AOps.nil ?_
    refine hK9 _ ?_
    refine AW.region ?_
    refine AOps.step rfl rfl rfl (OpQ.spec (sp_move rfl (.inl rfl)) _) ?_
    refine AOps.step rfl rfl rfl (OpQ.spec (sp_move rfl (.inl rfl)) _) ?_
    refine AOps.step rfl rfl rfl (OpQ.spec (sp_move rfl (.inl rfl)) _) ?_
    refine ob1k h3 fun x4 ex4 h4 => ?_
    refine AOps.step rfl rfl rfl (OpQ.spec (ms_idx rfl tg_42.slice (.inl rfl) (.inl rfl) (fun _ => rfl) (fun _ => ex4)) _) ?_
    refine AOps.step rfl rfl rfl (OpQ.spec (sp_fieldAddr_ro rfl tf_49_1 (.inl rfl)) _) ?_
    refine AOps.step rfl rfl rfl (OpQ.spec (ms_load (d := .int .i64 x4.N) rfl ts_3 (.inl rfl) rfl) _) ?_
    refine ob1k h4 fun n5 en5 h5 => ?_
    refine AOps.step rfl rfl rfl (OpQ.spec (ms_add rfl (.inl rfl) (.inl rfl) (fun _ => en5)) _) ?_
    refine AOps.step rfl rfl rfl (OpQ.spec (sp_assign rfl (.inl rfl)) _) ?_
    refine AOps.nil ?_
    refine hK8 _ ?_
    refine AW.weak (s' := ⟨[(0, .r (.sl (d1.map GStep.row))), (3, .r (.int .i64 n5)), (6, .r (.int .i64 (d1.length : Int))), (7, .r (.int .i64 x2))], [], (i3 0), 19⟩) (by exact Weak.cv ⟨.inl (.inl rfl), .inl (.inl rfl), .inl (.inl rfl), .inl (.inl rfl), trivial⟩ trivial (Nat.le_refl _)) ?_
    refine AW.region ?_
    refine ob1k h5 fun x5 ex5 h6 => ?_
    refine AOps.step rfl rfl rfl (OpQ.spec (ms_add rfl (.inl rfl) (.inl rfl) (fun _ => ex5)) _) ?_
    refine AOps.step rfl rfl rfl (OpQ.spec (sp_move rfl (.inl rfl)) _) ?_
    refine AOps.nil ?_
    exact NextQ2.mk h6 (vec [(i3 0)]) ((by exact Weak.cv ⟨.inl (.inl rfl), .inl (.inl rfl), .inl (.inl rfl), .inl (.inl rfl), trivial⟩ trivial (Nat.le_refl _)))
  · have h3 := ite_f hc1 h2
    refine AW.exit ?_
    exact wK3 _ _ ((by exact Weak.cv ⟨.inl (.inl rfl), trivial⟩ trivial (Nat.le_refl _))) (J1 _ (vec [(i3 0)]) (hx1 _ (Option.some.inj h3).symm))
set_option maxHeartbeats 4000000 in
set_option maxRecDepth 20000 in
theorem w_law_short {d1 : List GStep} {r : Bool} (h : law_short d1 = some r) : ARO Try.prog 41 [.r (.sl (d1.map GStep.row))] (.r (.bool r)) := by
  unfold law_short at h
  refine ARO.mkF Try.func41 rfl rfl Try.ntmps41 rfl (Nat.le_of_ble_eq_true rfl) fun n0 => ?_
  refine AW.seq_w fun K1 hK1 wK1 => ?_
  refine AW.region ?_
  refine AOps.step rfl rfl rfl (OpQ.spec (sp_assign rfl (.inl rfl)) _) ?_
  refine AOps.nil ?_
  refine hK1 _ ?_
  refine AW.seq_w fun K2 hK2 wK2 => ?_
  refine AW.region ?_
  refine AOps.step rfl rfl rfl (OpQ.spec (sp_move rfl (.inl rfl)) _) ?_
  refine ob1k h fun r1 er1 h1 => ?_
  refine AOps.step rfl rfl rfl (sp_call (r := .r (.int .i64 r1)) (caps := []) (bs := [.r (.sl (d1.map GStep.row))]) rfl (.inl rfl) rfl ⟨⟨_, (.inl rfl), .d rfl⟩, trivial⟩ (fun _ => w_ref_DeltaSize (er1)) rfl) ?_
  refine AOps.step rfl rfl rfl (OpQ.spec (sp_leq rfl (.inl rfl) (.inl rfl)) _) ?_
  refine AOps.step rfl rfl rfl (OpQ.spec (sp_assign rfl (.inl rfl)) _) ?_
  refine AOps.nil ?_
  refine hK2 _ ?_
  refine AW.ret ?_
  exact retf1 (P := Try.prog) (fun (r : Bool) => .r (.bool r)) h1 (.inl rfl) (.t (.d rfl))
set_option maxHeartbeats 4000000 in
set_option maxRecDepth 20000 in
theorem w_ref_ActOf {d1 : List GStep} {r : Ref_Act} (h : ref_ActOf d1 = some r) : ARO Try.prog 33 [.r (.sl (d1.map GStep.row))] (.agg [.r (.sl (r.Adds.map (rSl GElem.row))), .r (.sl (r.Cuts.map rBool)), .r (.sl (r.Attrs.map (rSl GAttr.row)))]) := by
  unfold ref_ActOf at h
  refine ARO.mkF Try.func33 rfl rfl Try.ntmps33 rfl (Nat.le_of_ble_eq_true rfl) fun n0 => ?_
  refine AW.seq_w fun K1 hK1 wK1 => ?_
  refine AW.region ?_
  refine AOps.step rfl rfl rfl (ms_alloc (cs := [.cst (.slice none 0 0), .cst (.slice none 0 0), .cst (.slice none 0 0)]) 2 rfl t0_34 rfl rfl) ?_
  refine AOps.nil ?_
  refine hK1 _ ?_
  refine AW.seq_w fun K2 hK2 wK2 => ?_
  refine AW.region ?_
  refine AOps.step rfl rfl rfl (ms_lit 7 rfl tg_30 (f := (rSl GElem.row)) (l := ([[]] : List (List GElem))) ⟨rfl, ⟨_, (.inl rfl), rfl⟩, trivial⟩ rfl (fun _ => rfl) rfl) ?_
  refine AOps.step rfl rfl rfl (OpQ.spec (sp_build rfl tb_34 (q := [(0, _)]) (by exact ⟨rfl, rfl, rfl, (.inl rfl), trivial⟩) (cs := [.own 7 (n0 + 1), .cst (.slice none 0 0), .cst (.slice none 0 0)]) (by rfl)) _) ?_
  refine AOps.step rfl rfl rfl (ms_alloc (cs := [.cst (.slice none 0 0), .cst (.slice none 0 0), .cst (.slice none 0 0)]) 3 rfl t0_34 rfl rfl) ?_
  refine AOps.step0 rfl rfl (ms_store_box (ds := [.own 7 (n0 + 1), .cst (.slice none 0 0), .cst (.slice none 0 0)]) rfl tz_34 (.inl rfl) rfl (.inl rfl) rfl rfl rfl rfl) ?_
  refine AOps.nil ?_
  refine hK2 _ ?_
  refine AW.seq_w fun K3 hK3 wK3 => ?_
  refine AW.seq_w fun K4 hK4 wK4 => ?_
  refine AW.region ?_
  refine AOps.step rfl rfl rfl (OpQ.spec (sp_move rfl (.inl rfl)) _) ?_
  refine AOps.step rfl rfl rfl (OpQ.spec (ms_len rfl tg_42.slice (.inl rfl)) _) ?_
  refine AOps.step rfl rfl rfl (OpQ.spec (sp_move rfl (.inl rfl)) _) ?_
  refine AOps.nil ?_
  refine hK4 _ ?_
  refine AW.block ?_
  refine jb1k h fun o1 hit1 hk1 => ?_
  have J1 : ∀ (a4 : Ref_Act) (i5 : Nat → Nat), o1 = a4 → K3 ⟨[(2, .ptr 2 n0 0 0), (3, .ptr 3 (n0 + 2) 0 0)], [(2, some (.box n0 34 [.cst (.slice none 0 0), .cst (.slice none 0 0), .cst (.slice none 0 0)])), (3, some (.box (n0 + 2) 34 [.own 7 (i5 0), .own 54 (i5 1), .own 61 (i5 2)])), (7, some (.arr (i5 0) 39 1 (a4.Adds.map (rSl GElem.row)))), (54, some (.arr (i5 1) 4 1 (a4.Cuts.map rBool))), (61, some (.arr (i5 2) 47 1 (a4.Attrs.map (rSl GAttr.row))))], (i5 3), 66⟩ := by
    intro a4 i5 e
    have h1 := hk1 _ e
    refine hK3 _ ?_
    refine AW.seq_w fun K5 hK5 wK5 => ?_
    refine AW.region ?_
    refine AOps.step rfl rfl rfl (OpQ.spec (ms_loadA_box rfl ta_34 (.inl rfl) rfl rfl) _) ?_
    refine AOps.step0 rfl rfl (ms_store_box (ds := [.own 7 (i5 0), .own 54 (i5 1), .own 61 (i5 2)]) rfl tz_34 (.inl rfl) rfl (.inl rfl) rfl rfl rfl rfl) ?_
    refine AOps.nil ?_
    refine hK5 _ ?_
    refine AW.ret ?_
    exact retf1 (P := Try.prog) (fun (r : Ref_Act) => .agg [.r (.sl (r.Adds.map (rSl GElem.row))), .r (.sl (r.Cuts.map rBool)), .r (.sl (r.Attrs.map (rSl GAttr.row)))]) h1 (.inl rfl) (.a ta_34 rfl rfl rfl (.agg ⟨.own rfl, .own rfl, .own rfl, trivial⟩))
  refine AW.iter2 (fun (x2 : Int) (a2 : Ref_Act) i3 => ⟨[(0, .r (.sl (d1.map GStep.row))), (2, .ptr 2 n0 0 0), (3, .ptr 3 (n0 + 2) 0 0), (10, .r (.int .i64 (d1.length : Int))), (11, .r (.int .i64 x2))], [(2, some (.box n0 34 [.cst (.slice none 0 0), .cst (.slice none 0 0), .cst (.slice none 0 0)])), (3, some (.box (n0 + 2) 34 [.own 7 (i3 0), .own 54 (i3 1), .own 61 (i3 2)])), (7, some (.arr (i3 0) 39 1 (a2.Adds.map (rSl GElem.row)))), (54, some (.arr (i3 1) 4 1 (a2.Cuts.map rBool))), (61, some (.arr (i3 2) 47 1 (a2.Attrs.map (rSl GAttr.row))))], (i3 3), 66⟩) (vec [(n0 + 1), (n0 + 3), (n0 + 4), (n0 + 5)]) hit1 (Weak.trans (Weak.trans (Weak.adoptBox 3 1 54 4 1 (by decide) rfl rfl (by decide)) (by exact Weak.cv (e' := [(0, .r (.sl (d1.map GStep.row))), (2, .ptr 2 n0 0 0), (3, .ptr 3 (n0 + 2) 0 0), (7, .own 7 (n0 + 1)), (8, .agg [.own 7 (n0 + 1), .cst (.slice none 0 0), .cst (.slice none 0 0)]), (9, .r (.sl (d1.map GStep.row))), (10, .r (.int .i64 (d1.length : Int))), (11, .r (.int .i64 0))]) (h' := [(2, some (.box n0 34 [.cst (.slice none 0 0), .cst (.slice none 0 0), .cst (.slice none 0 0)])), (3, some (.box (n0 + 2) 34 [.own 7 (n0 + 1), .own 54 (n0 + 3), .cst (.slice none 0 0)])), (7, some (.arr (n0 + 1) 39 1 ([[]].map (rSl GElem.row)))), (54, some (.arr (n0 + 3) 4 1 (([] : List Bool).map rBool)))]) ⟨.inl (.inl rfl), .inl (.inl rfl), .inl (.inl rfl), .inl (.inl rfl), .inl (.inl rfl), .inl (.inl rfl), .inl (.inl rfl), .inl (.inl rfl), trivial⟩ ⟨.inl rfl, .inl rfl, .inl rfl, .inl rfl, trivial⟩ (Nat.le_refl _))) (Weak.trans (Weak.trans (Weak.adoptBox 3 2 61 47 1 (by decide) rfl rfl (by decide)) (by exact Weak.cv (e' := [(0, .r (.sl (d1.map GStep.row))), (2, .ptr 2 n0 0 0), (3, .ptr 3 (n0 + 2) 0 0), (7, .own 7 (n0 + 1)), (8, .agg [.own 7 (n0 + 1), .cst (.slice none 0 0), .cst (.slice none 0 0)]), (9, .r (.sl (d1.map GStep.row))), (10, .r (.int .i64 (d1.length : Int))), (11, .r (.int .i64 0))]) (h' := [(2, some (.box n0 34 [.cst (.slice none 0 0), .cst (.slice none 0 0), .cst (.slice none 0 0)])), (3, some (.box (n0 + 2) 34 [.own 7 (n0 + 1), .own 54 (n0 + 3), .own 61 (n0 + 4)])), (7, some (.arr (n0 + 1) 39 1 ([[]].map (rSl GElem.row)))), (54, some (.arr (n0 + 3) 4 1 (([] : List Bool).map rBool))), (61, some (.arr (n0 + 4) 47 1 (([] : List (List GAttr)).map (rSl GAttr.row))))]) ⟨.inl (.inl rfl), .inl (.inl rfl), .inl (.inl rfl), .inl (.inl rfl), .inl (.inl rfl), .inl (.inl rfl), .inl (.inl rfl), .inl (.inl rfl), trivial⟩ ⟨.inl rfl, .inl rfl, .inl rfl, .inl rfl, .inl rfl, trivial⟩ (Nat.le_refl _))) (by exact Weak.cv ⟨.inl (.inl rfl), .inl (.inl rfl), .inl (.inl rfl), .inl (.inl rfl), .inl (.inl rfl), trivial⟩ ⟨.inl rfl, .inl rfl, .inl rfl, .inl rfl, .inl rfl, trivial⟩ (Nat.le_refl _)))) ?_
  intro x2 a2 i3 v1 hv1 hx1
  have h2 : ref_ActOf_L1 d1 x2 a2 = some v1 := hv1; unfold ref_ActOf_L1 at h2
  refine AW.seq_w fun K6 hK6 wK6 => ?_
  refine AW.region ?_
  refine AOps.step rfl rfl rfl (OpQ.spec (sp_lss rfl (.inl rfl) (.inl rfl)) _) ?_
  refine AOps.nil ?_
  refine hK6 _ ?_
  refine AW.seq_w fun K7 hK7 wK7 => ?_
  refine AW.cond rfl (fun hc1 => ?_) (fun hc1 => ?_)
  · have h3 := ite_t hc1 h2
    refine AW.skip ?_
    refine hK7 _ ?_
    refine AW.seq_w fun K8 hK8 wK8 => ?_
    refine AW.block ?_
    refine jb1k h3 fun p1 hp1 hk2 => ?_
    have J2 : ∀ (a5 : Ref_Act) (i6 : Nat → Nat), p1 = a5 → K8 ⟨[(0, .r (.sl (d1.map GStep.row))), (2, .ptr 2 n0 0 0), (3, .ptr 3 (n0 + 2) 0 0), (10, .r (.int .i64 (d1.length : Int))), (11, .r (.int .i64 x2))], [(2, some (.box n0 34 [.cst (.slice none 0 0), .cst (.slice none 0 0), .cst (.slice none 0 0)])), (3, some (.box (n0 + 2) 34 [.own 7 (i6 0), .own 54 (i6 1), .own 61 (i6 2)])), (7, some (.arr (i6 0) 39 1 (a5.Adds.map (rSl GElem.row)))), (54, some (.arr (i6 1) 4 1 (a5.Cuts.map rBool))), (61, some (.arr (i6 2) 47 1 (a5.Attrs.map (rSl GAttr.row))))], (i6 3), 66⟩ := by
      intro a5 i6 e
      have h4 := hk2 _ e
      refine hK8 _ ?_
      refine AW.region ?_
      refine ob1k h4 fun x4 ex4 h5 => ?_
      refine AOps.step rfl rfl rfl (OpQ.spec (ms_add rfl (.inl rfl) (.inl rfl) (fun _ => ex4)) _) ?_
      refine AOps.step rfl rfl rfl (OpQ.spec (sp_move rfl (.inl rfl)) _) ?_
      refine AOps.nil ?_
      exact NextQ2.mk h5 (vec [(i6 0), (i6 1), (i6 2), (i6 3)]) ((by exact Weak.cv ⟨.inl (.inl rfl), .inl (.inl rfl), .inl (.inl rfl), .inl (.inl rfl), .inl (.inl rfl), trivial⟩ ⟨.inl rfl, .inl rfl, .inl rfl, .inl rfl, .inl rfl, trivial⟩ (Nat.le_refl _)))
    refine AW.seq_w fun K9 hK9 wK9 => ?_
    refine AW.region ?_
    refine AOps.step rfl rfl rfl (OpQ.spec (sp_move rfl (.inl rfl)) _) ?_
    refine AOps.step rfl rfl rfl (OpQ.spec (sp_assign rfl (.inl rfl)) _) ?_
    refine AOps.nil ?_
    refine hK9 _ ?_
    refine AW.seq_w fun K10 hK10 wK10 => ?_
    refine AW.region ?_
    refine AOps.step rfl rfl rfl (OpQ.spec (sp_move rfl (.inl rfl)) _) ?_
    refine AOps.step rfl rfl rfl (OpQ.spec (sp_move rfl (.inl rfl)) _) ?_
    refine ob1k hp1 fun x5 ex5 h6 => ?_
    refine AOps.step rfl rfl rfl (OpQ.spec (ms_idx rfl tg_42.slice (.inl rfl) (.inl rfl) (fun _ => rfl) (fun _ => ex5)) _) ?_
    refine AOps.step rfl rfl rfl (OpQ.spec (ms_loadA (cs := [.r (.int .i64 x5.Kind), .r (.int .i64 x5.N), .r (.sl (x5.Attrs.map GAttr.row)), .r (.sl (x5.Elems.map GElem.row))]) rfl ta_49 (.inl rfl) rfl rfl) _) ?_
    refine AOps.step rfl rfl rfl (ms_alloc (cs := [.r (.int .i64 0), .r (.int .i64 0), .cst (.slice none 0 0), .cst (.slice none 0 0)]) 5 rfl t0_49 rfl rfl) ?_
    refine AOps.step0 rfl rfl (ms_store_box (ds := [.r (.int .i64 x5.Kind), .r (.int .i64 x5.N), .r (.sl (x5.Attrs.map GAttr.row)), .r (.sl (x5.Elems.map GElem.row))]) rfl tz_49 (.inl rfl) rfl (.inl rfl) rfl rfl rfl rfl) ?_
    refine AOps.nil ?_
    refine hK10 _ ?_
    refine AW.seq_w fun K11 hK11 wK11 => ?_
    refine AW.seq_w fun K12 hK12 wK12 => ?_
    refine AW.region ?_
    refine AOps.step rfl rfl rfl (OpQ.spec (sp_fieldAddr_own (ob := .box _ _ _) rfl tf_49_0 (.inl rfl) (fun _ => rfl) rfl) _) ?_
    refine AOps.step rfl rfl rfl (OpQ.spec (ms_load_box (a := .r (.int .i64 x5.Kind)) rfl ts_3 (.inl rfl) rfl rfl) _) ?_
    refine AOps.step rfl rfl rfl (OpQ.spec (sp_eql rfl (.inl rfl) (.inl rfl)) _) ?_
    refine AOps.nil ?_
    refine hK12 _ ?_
    refine AW.cond rfl (fun hc2 => ?_) (fun hc2 => ?_)
    · have h7 := ite_t hc2 h6
      refine AW.seq_w fun K13 hK13 wK13 => ?_
      refine AW.weak (s' := ⟨[(0, .r (.sl (d1.map GStep.row))), (2, .ptr 2 n0 0 0), (3, .ptr 3 (n0 + 2) 0 0), (5, .ptr 5 (i3 3) 0 0), (10, .r (.int .i64 (d1.length : Int))), (11, .r (.int .i64 x2))], [(2, some (.box n0 34 [.cst (.slice none 0 0), .cst (.slice none 0 0), .cst (.slice none 0 0)])), (3, some (.box (n0 + 2) 34 [.own 7 (i3 0), .own 54 (i3 1), .own 61 (i3 2)])), (5, some (.box (i3 3) 49 [.r (.int .i64 x5.Kind), .r (.int .i64 x5.N), .r (.sl (x5.Attrs.map GAttr.row)), .r (.sl (x5.Elems.map GElem.row))])), (7, some (.arr (i3 0) 39 1 (a2.Adds.map (rSl GElem.row)))), (54, some (.arr (i3 1) 4 1 (a2.Cuts.map rBool))), (61, some (.arr (i3 2) 47 1 (a2.Attrs.map (rSl GAttr.row))))], ((i3 3) + 1), 66⟩) (by exact Weak.cv ⟨.inl (.inl rfl), .inl (.inl rfl), .inl (.inl rfl), .inl (.inl rfl), .inl (.inl rfl), .inl (.inl rfl), trivial⟩ ⟨.inl rfl, .inl rfl, .inl rfl, .inl rfl, .inl rfl, .inl rfl, trivial⟩ (Nat.le_refl _)) ?_
      refine AW.region ?_
      refine AOps.step rfl rfl rfl (OpQ.spec (sp_fieldAddr_own (ob := .box _ _ _) rfl tf_34_0 (.inl rfl) (fun _ => rfl) rfl) _) ?_
      refine AOps.step rfl rfl rfl (OpQ.spec (ms_load_box (a := .own 7 (i3 0)) rfl ts_30 (.inl rfl) rfl rfl) _) ?_
      refine AOps.step rfl rfl rfl (OpQ.spec (ms_len_own rfl tg_30.slice (.inl rfl) rfl) _) ?_
      refine ob1k h7 fun k1 ek1 h8 => ?_
      refine AOps.step rfl rfl rfl (OpQ.spec (ms_sub rfl (.inl rfl) (.inl rfl) (fun _ => ek1)) _) ?_
      refine AOps.step rfl rfl rfl (OpQ.spec (sp_assign rfl (.inl rfl)) _) ?_
      refine AOps.nil ?_
      refine hK13 _ ?_
      refine AW.seq_w fun K14 hK14 wK14 => ?_
      refine ob1k h8 fun x6 ex6 h9 => ?_
      refine ob1k h9 fun l1 el1 h10 => ?_
      refine ob1k h10 fun l2 el2 h11 => ?_
      refine AW.regionP 13 [⟨some 25, (fun _ => .ptr 3 (n0 + 2) 0 0), none, []⟩, ⟨some 26, (fun _ => .own 7 (i3 0)), none, []⟩, ⟨some 27, (fun _ => .r (.int .i64 k1)), none, []⟩, ⟨some 28, (fun G1 => .own 28 (G1 3)), some (28, (fun G1 => some (.arr (G1 3) 113 3 (([] : List GElem).map GElem.row)))), [3]⟩, ⟨some 29, (fun _ => .ptr 3 (n0 + 2) 0 0), none, []⟩, ⟨some 30, (fun _ => .own 7 (i3 0)), none, []⟩, ⟨some 31, (fun _ => .r (.int .i64 k1)), none, []⟩, ⟨some 32, (fun _ => .ptr 7 (i3 0) k1.toNat 0), none, []⟩, ⟨some 33, (fun _ => .r (.sl (x6.map GElem.row))), none, []⟩, ⟨some 34, (fun G1 => .own 28 (G1 9)), some (28, (fun G1 => some (.arr (G1 9) 113 3 (l1.map GElem.row)))), [9]⟩, ⟨some 35, (fun _ => .ptr 5 (i3 3) 0 3), none, []⟩, ⟨some 36, (fun _ => .r (.sl (x5.Elems.map GElem.row))), none, []⟩, ⟨some 37, (fun G1 => .own 28 (G1 12)), some (28, (fun G1 => some (.arr (G1 12) 113 3 (l2.map GElem.row)))), [12]⟩] hmix (by kernel_rfl) (by exact ⟨fun _ _ h => ⟨rfl, fun _ _ e => by cases e⟩, fun _ _ h => ⟨rfl, fun _ _ e => by cases e⟩, fun _ _ h => ⟨rfl, fun _ _ e => by cases e⟩, fun _ _ h => ⟨by simp only [h 3 rfl], fun _ _ e => by cases e; simp only [h 3 rfl]⟩, fun _ _ h => ⟨rfl, fun _ _ e => by cases e⟩, fun _ _ h => ⟨rfl, fun _ _ e => by cases e⟩, fun _ _ h => ⟨rfl, fun _ _ e => by cases e⟩, fun _ _ h => ⟨rfl, fun _ _ e => by cases e⟩, fun _ _ h => ⟨rfl, fun _ _ e => by cases e⟩, fun _ _ h => ⟨by simp only [h 9 rfl], fun _ _ e => by cases e; simp only [h 9 rfl]⟩, fun _ _ h => ⟨rfl, fun _ _ e => by cases e⟩, fun _ _ h => ⟨rfl, fun _ _ e => by cases e⟩, fun _ _ h => ⟨by simp only [h 12 rfl], fun _ _ e => by cases e; simp only [h 12 rfl]⟩, trivial⟩) rfl (by exact ⟨Ob.quiet (n1 := fun n => n) rfl rfl (by intro d h; cases h; rfl) rfl (fun _ => [(3, .ptr 3 (n0 + 2) 0 0)]) (fun _ => [(3, some (.box (n0 + 2) 34 [.own 7 (i3 0), .own 54 (i3 1), .own 61 (i3 2)]))]) (fun D G1 hr => ⟨inE_base rfl rfl, trivial⟩) (fun D G1 hr => ⟨inH_base rfl rfl, trivial⟩) (fun _ _ => rfl) (fun G1 e h' n => OpQ.spec (v := .ptr 3 (n0 + 2) 0 0) (sp_fieldAddr_own (ob := .box _ _ _) rfl tf_34_0 (.inl rfl) (fun _ => rfl) rfl) _),
          Ob.quiet (n1 := fun n => n) rfl rfl (by intro d h; cases h; rfl) rfl (fun _ => [(25, .ptr 3 (n0 + 2) 0 0)]) (fun _ => [(3, some (.box (n0 + 2) 34 [.own 7 (i3 0), .own 54 (i3 1), .own 61 (i3 2)]))]) (fun D G1 hr => ⟨inE_op hr 0 rfl rfl (by kernel_rfl) rfl rfl, trivial⟩) (fun D G1 hr => ⟨inH_base rfl rfl, trivial⟩) (fun _ _ => rfl) (fun G1 e h' n => OpQ.spec (v := .own 7 (i3 0)) (ms_load_box (a := .own 7 (i3 0)) rfl ts_30 (.inl rfl) rfl rfl) _),
          Ob.quiet (n1 := fun n => n) rfl rfl (by intro d h; cases h; rfl) rfl (fun _ => [(6, .r (.int .i64 k1))]) (fun _ => []) (fun D G1 hr => ⟨inE_base rfl rfl, trivial⟩) (fun D G1 hr => trivial) (fun _ _ => rfl) (fun G1 e h' n => OpQ.spec (v := .r (.int .i64 k1)) (sp_move rfl (.inl rfl)) _),
          Ob.make (n1 := fun n => n + 1) rfl rfl (by intro d h; cases h; rfl) rfl (fun _ => []) (fun _ => []) (fun D G1 hr => trivial) (fun D G1 hr => trivial) (fun G1 e h' n => ms_lit 28 rfl tg_39 (f := GElem.row) (l := ([] : List GElem)) trivial rfl (fun _ => rfl) rfl),
          Ob.quiet (n1 := fun n => n) rfl rfl (by intro d h; cases h; rfl) rfl (fun _ => [(3, .ptr 3 (n0 + 2) 0 0)]) (fun _ => [(3, some (.box (n0 + 2) 34 [.own 7 (i3 0), .own 54 (i3 1), .own 61 (i3 2)]))]) (fun D G1 hr => ⟨inE_base rfl rfl, trivial⟩) (fun D G1 hr => ⟨inH_base rfl rfl, trivial⟩) (fun _ _ => rfl) (fun G1 e h' n => OpQ.spec (v := .ptr 3 (n0 + 2) 0 0) (sp_fieldAddr_own (ob := .box _ _ _) rfl tf_34_0 (.inl rfl) (fun _ => rfl) rfl) _),
          Ob.quiet (n1 := fun n => n) rfl rfl (by intro d h; cases h; rfl) rfl (fun _ => [(29, .ptr 3 (n0 + 2) 0 0)]) (fun _ => [(3, some (.box (n0 + 2) 34 [.own 7 (i3 0), .own 54 (i3 1), .own 61 (i3 2)]))]) (fun D G1 hr => ⟨inE_op hr 4 rfl rfl (by kernel_rfl) rfl rfl, trivial⟩) (fun D G1 hr => ⟨inH_base rfl rfl, trivial⟩) (fun _ _ => rfl) (fun G1 e h' n => OpQ.spec (v := .own 7 (i3 0)) (ms_load_box (a := .own 7 (i3 0)) rfl ts_30 (.inl rfl) rfl rfl) _),
          Ob.quiet (n1 := fun n => n) rfl rfl (by intro d h; cases h; rfl) rfl (fun _ => [(6, .r (.int .i64 k1))]) (fun _ => []) (fun D G1 hr => ⟨inE_base rfl rfl, trivial⟩) (fun D G1 hr => trivial) (fun _ _ => rfl) (fun G1 e h' n => OpQ.spec (v := .r (.int .i64 k1)) (sp_move rfl (.inl rfl)) _),
          Ob.quiet (n1 := fun n => n) rfl rfl (by intro d h; cases h; rfl) rfl (fun _ => [(30, .own 7 (i3 0)), (31, .r (.int .i64 k1))]) (fun _ => [(7, some (.arr (i3 0) 39 1 (a2.Adds.map (rSl GElem.row))))]) (fun D G1 hr => ⟨inE_op hr 5 rfl rfl (by kernel_rfl) rfl rfl, inE_op hr 6 rfl rfl (by kernel_rfl) rfl rfl, trivial⟩) (fun D G1 hr => ⟨inH_base rfl rfl, trivial⟩) (fun _ _ => rfl) (fun G1 e h' n => OpQ.spec (v := .ptr 7 (i3 0) k1.toNat 0) (ms_idx_own rfl tg_30.slice (.inl rfl) rfl (.inl rfl) (fun _ => ex6)) _),
          Ob.quiet (n1 := fun n => n) rfl rfl (by intro d h; cases h; rfl) rfl (fun _ => [(32, .ptr 7 (i3 0) k1.toNat 0)]) (fun _ => [(7, some (.arr (i3 0) 39 1 (a2.Adds.map (rSl GElem.row))))]) (fun D G1 hr => ⟨inE_op hr 7 rfl rfl (by kernel_rfl) rfl rfl, trivial⟩) (fun D G1 hr => ⟨inH_base rfl rfl, trivial⟩) (fun _ _ => rfl) (fun G1 e h' n => OpQ.spec (v := .r (.sl (x6.map GElem.row))) (ms_load_own (d := .sl (x6.map GElem.row)) rfl ts_39 (.inl rfl) (fun _ => rfl) (fun _ => ex6) rfl) _),
          Ob.make (n1 := fun n => n + 1) rfl rfl (by intro d h; cases h; rfl) rfl (fun G1 => [(28, .own 28 (G1 3)), (33, .r (.sl (x6.map GElem.row)))]) (fun G1 => [(28, some (.arr (G1 3) 113 3 (([] : List GElem).map GElem.row)))]) (fun D G1 hr => ⟨inE_op hr 3 rfl rfl (by kernel_rfl) rfl rfl, inE_op hr 8 rfl rfl (by kernel_rfl) rfl rfl, trivial⟩) (fun D G1 hr => ⟨inH_op hr 3 rfl rfl (by kernel_rfl) (by kernel_rfl) rfl, trivial⟩) (fun G1 e h' n => ms_app rfl tg_39 (.inl rfl) rfl (.inl ⟨(.inl rfl), fun _ => rfl⟩) el1),
          Ob.quiet (n1 := fun n => n) rfl rfl (by intro d h; cases h; rfl) rfl (fun _ => [(5, .ptr 5 (i3 3) 0 0)]) (fun _ => [(5, some (.box (i3 3) 49 [.r (.int .i64 x5.Kind), .r (.int .i64 x5.N), .r (.sl (x5.Attrs.map GAttr.row)), .r (.sl (x5.Elems.map GElem.row))]))]) (fun D G1 hr => ⟨inE_base rfl rfl, trivial⟩) (fun D G1 hr => ⟨inH_base rfl rfl, trivial⟩) (fun _ _ => rfl) (fun G1 e h' n => OpQ.spec (v := .ptr 5 (i3 3) 0 3) (sp_fieldAddr_own (ob := .box _ _ _) rfl tf_49_3 (.inl rfl) (fun _ => rfl) rfl) _),
          Ob.quiet (n1 := fun n => n) rfl rfl (by intro d h; cases h; rfl) rfl (fun _ => [(35, .ptr 5 (i3 3) 0 3)]) (fun _ => [(5, some (.box (i3 3) 49 [.r (.int .i64 x5.Kind), .r (.int .i64 x5.N), .r (.sl (x5.Attrs.map GAttr.row)), .r (.sl (x5.Elems.map GElem.row))]))]) (fun D G1 hr => ⟨inE_op hr 10 rfl rfl (by kernel_rfl) rfl rfl, trivial⟩) (fun D G1 hr => ⟨inH_base rfl rfl, trivial⟩) (fun _ _ => rfl) (fun G1 e h' n => OpQ.spec (v := .r (.sl (x5.Elems.map GElem.row))) (ms_load_box (a := .r (.sl (x5.Elems.map GElem.row))) rfl ts_39 (.inl rfl) rfl rfl) _),
          Ob.make (n1 := fun n => n + 1) rfl rfl (by intro d h; cases h; rfl) rfl (fun G1 => [(34, .own 28 (G1 9)), (36, .r (.sl (x5.Elems.map GElem.row)))]) (fun G1 => [(28, some (.arr (G1 9) 113 3 (l1.map GElem.row)))]) (fun D G1 hr => ⟨inE_op hr 9 rfl rfl (by kernel_rfl) rfl rfl, inE_op hr 11 rfl rfl (by kernel_rfl) rfl rfl, trivial⟩) (fun D G1 hr => ⟨inH_op hr 9 rfl rfl (by kernel_rfl) (by kernel_rfl) rfl, trivial⟩) (fun G1 e h' n => ms_app rfl tg_39 (.inl rfl) rfl (.inl ⟨(.inl rfl), fun _ => rfl⟩) el2),
          trivial⟩) fun G1 n1 => ?_
      refine AOps.weak (s' := ⟨[(0, .r (.sl (d1.map GStep.row))), (2, .ptr 2 n0 0 0), (3, .ptr 3 (n0 + 2) 0 0), (5, .ptr 5 (i3 3) 0 0), (6, .r (.int .i64 k1)), (10, .r (.int .i64 (d1.length : Int))), (11, .r (.int .i64 x2)), (21, .ptr 3 (n0 + 2) 0 0), (22, .own 7 (i3 0)), (23, .r (.int .i64 (a2.Adds.length : Int))), (24, .r (.int .i64 k1)), (25, .ptr 3 (n0 + 2) 0 0), (26, .own 7 (i3 0)), (27, .r (.int .i64 k1)), (29, .ptr 3 (n0 + 2) 0 0), (30, .own 7 (i3 0)), (31, .r (.int .i64 k1)), (32, .ptr 7 (i3 0) k1.toNat 0), (33, .r (.sl (x6.map GElem.row))), (35, .ptr 5 (i3 3) 0 3), (36, .r (.sl (x5.Elems.map GElem.row))), (37, .own 28 (G1 12))], [(2, some (.box n0 34 [.cst (.slice none 0 0), .cst (.slice none 0 0), .cst (.slice none 0 0)])), (3, some (.box (n0 + 2) 34 [.own 7 (i3 0), .own 54 (i3 1), .own 61 (i3 2)])), (5, some (.box (i3 3) 49 [.r (.int .i64 x5.Kind), .r (.int .i64 x5.N), .r (.sl (x5.Attrs.map GAttr.row)), .r (.sl (x5.Elems.map GElem.row))])), (7, some (.arr (i3 0) 39 1 (a2.Adds.map (rSl GElem.row)))), (28, some (.arr (G1 12) 113 3 (l2.map GElem.row))), (54, some (.arr (i3 1) 4 1 (a2.Cuts.map rBool))), (61, some (.arr (i3 2) 47 1 (a2.Attrs.map (rSl GAttr.row))))], n1, 66⟩) (by exact Weak.cv ⟨.inl (.inl rfl), .inl (.inl rfl), .inl (.inl rfl), .inl (.inl rfl), .inl (.inl rfl), .inl (.inl rfl), .inl (.inl rfl), .inl (.inl rfl), .inl (.inl rfl), .inl (.inl rfl), .inl (.inl rfl), .inl (.inl rfl), .inl (.inl rfl), .inl (.inl rfl), .inl (.inl rfl), .inl (.inl rfl), .inl (.inl rfl), .inl (.inl rfl), .inl (.inl rfl), .inl (.inl rfl), .inl (.inl rfl), .inl (.inl rfl), trivial⟩ ⟨.inl rfl, .inl rfl, .inl rfl, .inl rfl, .inl rfl, .inl rfl, .inl rfl, trivial⟩ (Nat.le_refl _)) ?_
      refine AOps.step rfl rfl rfl (OpQ.spec (ms_idx_own rfl tg_30.slice (.inl rfl) rfl (.inl rfl) (fun _ => ex6)) _) ?_
      refine AOps.weak (by exact Weak.frz (e' := [(0, .r (.sl (d1.map GStep.row))), (2, .ptr 2 n0 0 0), (3, .ptr 3 (n0 + 2) 0 0), (5, .ptr 5 (i3 3) 0 0), (6, .r (.int .i64 k1)), (10, .r (.int .i64 (d1.length : Int))), (11, .r (.int .i64 x2)), (21, .ptr 3 (n0 + 2) 0 0), (22, .own 7 (i3 0)), (23, .r (.int .i64 (a2.Adds.length : Int))), (24, .r (.int .i64 k1)), (25, .ptr 3 (n0 + 2) 0 0), (26, .own 7 (i3 0)), (27, .r (.int .i64 k1)), (29, .ptr 3 (n0 + 2) 0 0), (30, .own 7 (i3 0)), (31, .r (.int .i64 k1)), (32, .ptr 7 (i3 0) k1.toNat 0), (33, .r (.sl (x6.map GElem.row))), (35, .ptr 5 (i3 3) 0 3), (36, .r (.sl (x5.Elems.map GElem.row))), (37, .r (.sl (l2.map GElem.row))), (38, .ptr 7 (i3 0) k1.toNat 0)]) (h' := [(2, some (.box n0 34 [.cst (.slice none 0 0), .cst (.slice none 0 0), .cst (.slice none 0 0)])), (3, some (.box (n0 + 2) 34 [.own 7 (i3 0), .own 54 (i3 1), .own 61 (i3 2)])), (5, some (.box (i3 3) 49 [.r (.int .i64 x5.Kind), .r (.int .i64 x5.N), .r (.sl (x5.Attrs.map GAttr.row)), .r (.sl (x5.Elems.map GElem.row))])), (7, some (.arr (i3 0) 39 1 (a2.Adds.map (rSl GElem.row)))), (54, some (.arr (i3 1) 4 1 (a2.Cuts.map rBool))), (61, some (.arr (i3 2) 47 1 (a2.Attrs.map (rSl GAttr.row))))]) 28 rfl ⟨.inl (.inl rfl), .inl (.inl rfl), .inl (.inl rfl), .inl (.inl rfl), .inl (.inl rfl), .inl (.inl rfl), .inl (.inl rfl), .inl (.inl rfl), .inl (.inl rfl), .inl (.inl rfl), .inl (.inl rfl), .inl (.inl rfl), .inl (.inl rfl), .inl (.inl rfl), .inl (.inl rfl), .inl (.inl rfl), .inl (.inl rfl), .inl (.inl rfl), .inl (.inl rfl), .inl (.inl rfl), .inl (.inl rfl), .inl (.inr (.inr ⟨rfl, rfl⟩)), .inl (.inl rfl), trivial⟩ ⟨rfl, .inl rfl, rfl, .inl rfl, rfl, .inl rfl, rfl, .inl rfl, rfl, .inl rfl, rfl, .inl rfl, trivial⟩) ?_
      refine AOps.step0 rfl rfl (ms_store (v := l2) rfl tz_39 (.inl rfl) rfl ex6 (.inl rfl) rfl rfl rfl rfl) ?_
      refine AOps.nil ?_
      refine hK14 _ ?_
      refine AW.exit ?_
      exact wK8 _ _ ((by exact Weak.cv ⟨.inl (.inl rfl), .inl (.inl rfl), .inl (.inl rfl), .inl (.inl rfl), .inl (.inl rfl), trivial⟩ ⟨.inl rfl, .inl rfl, .inl rfl, .inl rfl, .inl rfl, trivial⟩ (Nat.le_refl _))) (J2 _ (vec [(i3 0), (i3 1), (i3 2), n1]) (Option.some.inj h11).symm)
    · have h7 := ite_f hc2 h6
      refine AW.skip ?_
      refine hK11 _ ?_
      refine AW.seq_w fun K15 hK15 wK15 => ?_
      refine AW.weak (s' := ⟨[(0, .r (.sl (d1.map GStep.row))), (2, .ptr 2 n0 0 0), (3, .ptr 3 (n0 + 2) 0 0), (5, .ptr 5 (i3 3) 0 0), (10, .r (.int .i64 (d1.length : Int))), (11, .r (.int .i64 x2))], [(2, some (.box n0 34 [.cst (.slice none 0 0), .cst (.slice none 0 0), .cst (.slice none 0 0)])), (3, some (.box (n0 + 2) 34 [.own 7 (i3 0), .own 54 (i3 1), .own 61 (i3 2)])), (5, some (.box (i3 3) 49 [.r (.int .i64 x5.Kind), .r (.int .i64 x5.N), .r (.sl (x5.Attrs.map GAttr.row)), .r (.sl (x5.Elems.map GElem.row))])), (7, some (.arr (i3 0) 39 1 (a2.Adds.map (rSl GElem.row)))), (54, some (.arr (i3 1) 4 1 (a2.Cuts.map rBool))), (61, some (.arr (i3 2) 47 1 (a2.Attrs.map (rSl GAttr.row))))], ((i3 3) + 1), 66⟩) (by exact Weak.cv ⟨.inl (.inl rfl), .inl (.inl rfl), .inl (.inl rfl), .inl (.inl rfl), .inl (.inl rfl), .inl (.inl rfl), trivial⟩ ⟨.inl rfl, .inl rfl, .inl rfl, .inl rfl, .inl rfl, .inl rfl, trivial⟩ (Nat.le_refl _)) ?_
      refine AW.region ?_
      refine AOps.step rfl rfl rfl (OpQ.spec (sp_fieldAddr_own (ob := .box _ _ _) rfl tf_49_1 (.inl rfl) (fun _ => rfl) rfl) _) ?_
      refine AOps.step rfl rfl rfl (OpQ.spec (ms_load_box (a := .r (.int .i64 x5.N)) rfl ts_3 (.inl rfl) rfl rfl) _) ?_
      refine AOps.step rfl rfl rfl (OpQ.spec (sp_move rfl (.inl rfl)) _) ?_
      refine AOps.nil ?_
      refine hK15 _ ?_
      refine AW.block ?_
      refine jc1k h7 fun o2 hit2 hk3 he3 => ?_
      refine AW.iter2 (fun (x8 : Int) (a7 : Ref_Act) i9 => ⟨[(0, .r (.sl (d1.map GStep.row))), (2, .ptr 2 n0 0 0), (3, .ptr 3 (n0 + 2) 0 0), (5, .ptr 5 (i3 3) 0 0), (10, .r (.int .i64 (d1.length : Int))), (11, .r (.int .i64 x2)), (40, .r (.int .i64 x5.N)), (41, .r (.int .i64 x8))], [(2, some (.box n0 34 [.cst (.slice none 0 0), .cst (.slice none 0 0), .cst (.slice none 0 0)])), (3, some (.box (n0 + 2) 34 [.own 7 (i9 0), .own 54 (i9 1), .own 61 (i9 2)])), (5, some (.box (i3 3) 49 [.r (.int .i64 x5.Kind), .r (.int .i64 x5.N), .r (.sl (x5.Attrs.map GAttr.row)), .r (.sl (x5.Elems.map GElem.row))])), (7, some (.arr (i9 0) 39 1 (a7.Adds.map (rSl GElem.row)))), (54, some (.arr (i9 1) 4 1 (a7.Cuts.map rBool))), (61, some (.arr (i9 2) 47 1 (a7.Attrs.map (rSl GAttr.row))))], (i9 3), 66⟩) (vec [(i3 0), (i3 1), (i3 2), ((i3 3) + 1)]) hit2 ((by exact Weak.cv ⟨.inl (.inl rfl), .inl (.inl rfl), .inl (.inl rfl), .inl (.inl rfl), .inl (.inl rfl), .inl (.inl rfl), .inl (.inl rfl), .inl (.inl rfl), trivial⟩ ⟨.inl rfl, .inl rfl, .inl rfl, .inl rfl, .inl rfl, .inl rfl, trivial⟩ (Nat.le_refl _))) ?_
      intro x8 a7 i9 v2 hv2 hx2
      have h12 : ref_ActOf_L2 x5 x8 a7 = some v2 := hv2; unfold ref_ActOf_L2 at h12
      refine AW.seq_w fun K16 hK16 wK16 => ?_
      refine AW.region ?_
      refine AOps.step rfl rfl rfl (OpQ.spec (sp_lss rfl (.inl rfl) (.inl rfl)) _) ?_
      refine AOps.nil ?_
      refine hK16 _ ?_
      refine AW.seq_w fun K17 hK17 wK17 => ?_
      refine AW.cond rfl (fun hc3 => ?_) (fun hc3 => ?_)
      · have h13 := ite_t hc3 h12
        refine AW.skip ?_
        refine hK17 _ ?_
        refine AW.seq_w fun K18 hK18 wK18 => ?_
        refine AW.block ?_
        refine AW.seq_w fun K19 hK19 wK19 => ?_
        refine AW.region ?_
        refine AOps.step rfl rfl rfl (OpQ.spec (sp_fieldAddr_own (ob := .box _ _ _) rfl tf_34_0 (.inl rfl) (fun _ => rfl) rfl) _) ?_
        refine AOps.step rfl rfl rfl (OpQ.spec (ms_load_box (a := .own 7 (i9 0)) rfl ts_30 (.inl rfl) rfl rfl) _) ?_
        refine AOps.step rfl rfl rfl (ms_lit 45 rfl tg_30 (f := (rSl GElem.row)) (l := ([[]] : List (List GElem))) ⟨rfl, ⟨_, (.inl rfl), rfl⟩, trivial⟩ rfl (fun _ => rfl) rfl) ?_
        refine ob1k h13 fun l3 el3 h14 => ?_
        refine AOps.step rfl rfl rfl (ms_app rfl tg_30 (.inl rfl) rfl (.inr (.inl ⟨_, _, (.inl rfl), rfl⟩)) el3) ?_
        refine AOps.step rfl rfl rfl (OpQ.spec (sp_fieldAddr_own (ob := .box _ _ _) rfl tf_34_0 (.inl rfl) (fun _ => rfl) rfl) _) ?_
        refine AOps.step0 rfl rfl (ms_store_box (ds := [.own 7 ((i9 3) + 1), .own 54 (i9 1), .own 61 (i9 2)]) rfl tz_30 (.inl rfl) rfl (.inl rfl) rfl rfl rfl rfl) ?_
        refine AOps.nil ?_
        refine hK19 _ ?_
        refine AW.seq_w fun K20 hK20 wK20 => ?_
        refine AW.region ?_
        refine AOps.step rfl rfl rfl (OpQ.spec (sp_fieldAddr_own (ob := .box _ _ _) rfl tf_34_1 (.inl rfl) (fun _ => rfl) rfl) _) ?_
        refine AOps.step rfl rfl rfl (OpQ.spec (ms_load_box (a := .own 54 (i9 1)) rfl ts_31 (.inl rfl) rfl rfl) _) ?_
        refine AOps.step rfl rfl rfl (OpQ.spec (sp_fieldAddr_own (ob := .box _ _ _) rfl tf_49_0 (.inl rfl) (fun _ => rfl) rfl) _) ?_
        refine AOps.step rfl rfl rfl (OpQ.spec (ms_load_box (a := .r (.int .i64 x5.Kind)) rfl ts_3 (.inl rfl) rfl rfl) _) ?_
        refine AOps.step rfl rfl rfl (OpQ.spec (sp_eql rfl (.inl rfl) (.inl rfl)) _) ?_
        refine AOps.step rfl rfl rfl (ms_lit 53 rfl tg_31 (f := rBool) (l := ([(decide (x5.Kind = 2))] : List Bool)) ⟨rfl, ⟨_, (.inl rfl), rfl⟩, trivial⟩ rfl (fun _ => rfl) rfl) ?_
        refine ob1k h14 fun l4 el4 h15 => ?_
        refine AOps.step rfl rfl rfl (ms_app rfl tg_31 (.inl rfl) rfl (.inr (.inl ⟨_, _, (.inl rfl), rfl⟩)) el4) ?_
        refine AOps.step rfl rfl rfl (OpQ.spec (sp_fieldAddr_own (ob := .box _ _ _) rfl tf_34_1 (.inl rfl) (fun _ => rfl) rfl) _) ?_
        refine AOps.step0 rfl rfl (ms_store_box (ds := [.own 7 ((i9 3) + 1), .own 54 ((i9 3) + 3), .own 61 (i9 2)]) rfl tz_31 (.inl rfl) rfl (.inl rfl) rfl rfl rfl rfl) ?_
        refine AOps.nil ?_
        refine hK20 _ ?_
        refine AW.weak (s' := ⟨[(0, .r (.sl (d1.map GStep.row))), (2, .ptr 2 n0 0 0), (3, .ptr 3 (n0 + 2) 0 0), (5, .ptr 5 (i3 3) 0 0), (10, .r (.int .i64 (d1.length : Int))), (11, .r (.int .i64 x2)), (40, .r (.int .i64 x5.N)), (41, .r (.int .i64 x8))], [(2, some (.box n0 34 [.cst (.slice none 0 0), .cst (.slice none 0 0), .cst (.slice none 0 0)])), (3, some (.box (n0 + 2) 34 [.own 7 ((i9 3) + 1), .own 54 ((i9 3) + 3), .own 61 (i9 2)])), (5, some (.box (i3 3) 49 [.r (.int .i64 x5.Kind), .r (.int .i64 x5.N), .r (.sl (x5.Attrs.map GAttr.row)), .r (.sl (x5.Elems.map GElem.row))])), (7, some (.arr ((i9 3) + 1) 39 1 (l3.map (rSl GElem.row)))), (54, some (.arr ((i9 3) + 3) 4 1 (l4.map rBool))), (61, some (.arr (i9 2) 47 1 (a7.Attrs.map (rSl GAttr.row))))], ((i9 3) + 4), 66⟩) (by exact Weak.cv ⟨.inl (.inl rfl), .inl (.inl rfl), .inl (.inl rfl), .inl (.inl rfl), .inl (.inl rfl), .inl (.inl rfl), .inl (.inl rfl), .inl (.inl rfl), trivial⟩ ⟨.inl rfl, .inl rfl, .inl rfl, .inl rfl, .inl rfl, .inl rfl, trivial⟩ (Nat.le_refl _)) ?_
        refine AW.region ?_
        refine AOps.step rfl rfl rfl (OpQ.spec (sp_fieldAddr_own (ob := .box _ _ _) rfl tf_34_2 (.inl rfl) (fun _ => rfl) rfl) _) ?_
        refine AOps.step rfl rfl rfl (OpQ.spec (ms_load_box (a := .own 61 (i9 2)) rfl ts_32 (.inl rfl) rfl rfl) _) ?_
        refine AOps.step rfl rfl rfl (OpQ.spec (sp_fieldAddr_own (ob := .box _ _ _) rfl tf_49_2 (.inl rfl) (fun _ => rfl) rfl) _) ?_
        refine AOps.step rfl rfl rfl (OpQ.spec (ms_load_box (a := .r (.sl (x5.Attrs.map GAttr.row))) rfl ts_47 (.inl rfl) rfl rfl) _) ?_
        refine AOps.step rfl rfl rfl (ms_lit 60 rfl tg_32 (f := (rSl GAttr.row)) (l := ([x5.Attrs] : List (List GAttr))) ⟨rfl, ⟨_, (.inl rfl), rfl⟩, trivial⟩ rfl (fun _ => rfl) rfl) ?_
        refine ob1k h15 fun l5 el5 h16 => ?_
        refine AOps.step rfl rfl rfl (ms_app rfl tg_32 (.inl rfl) rfl (.inr (.inl ⟨_, _, (.inl rfl), rfl⟩)) el5) ?_
        refine AOps.step rfl rfl rfl (OpQ.spec (sp_fieldAddr_own (ob := .box _ _ _) rfl tf_34_2 (.inl rfl) (fun _ => rfl) rfl) _) ?_
        refine AOps.step0 rfl rfl (ms_store_box (ds := [.own 7 ((i9 3) + 1), .own 54 ((i9 3) + 3), .own 61 ((i9 3) + 5)]) rfl tz_32 (.inl rfl) rfl (.inl rfl) rfl rfl rfl rfl) ?_
        refine AOps.nil ?_
        refine hK18 _ ?_
        refine AW.region ?_
        refine ob1k h16 fun x10 ex10 h17 => ?_
        refine AOps.step rfl rfl rfl (OpQ.spec (ms_add rfl (.inl rfl) (.inl rfl) (fun _ => ex10)) _) ?_
        refine AOps.step rfl rfl rfl (OpQ.spec (sp_move rfl (.inl rfl)) _) ?_
        refine AOps.nil ?_
        exact NextQ2.mk h17 (vec [((i9 3) + 1), ((i9 3) + 3), ((i9 3) + 5), ((i9 3) + 6)]) ((by exact Weak.cv ⟨.inl (.inl rfl), .inl (.inl rfl), .inl (.inl rfl), .inl (.inl rfl), .inl (.inl rfl), .inl (.inl rfl), .inl (.inl rfl), .inl (.inl rfl), trivial⟩ ⟨.inl rfl, .inl rfl, .inl rfl, .inl rfl, .inl rfl, .inl rfl, trivial⟩ (Nat.le_refl _)))
      · have h13 := ite_f hc3 h12
        refine AW.exit ?_
        exact wK8 _ _ ((by exact Weak.cv ⟨.inl (.inl rfl), .inl (.inl rfl), .inl (.inl rfl), .inl (.inl rfl), .inl (.inl rfl), trivial⟩ ⟨.inl rfl, .inl rfl, .inl rfl, .inl rfl, .inl rfl, trivial⟩ (Nat.le_refl _))) (J2 _ (vec [(i9 0), (i9 1), (i9 2), (i9 3)]) (Option.some.inj (he3 _ (hx2 _ (Option.some.inj h13).symm))).symm)
  · have h3 := ite_f hc1 h2
    refine AW.exit ?_
    exact wK3 _ _ ((by exact Weak.cv ⟨.inl (.inl rfl), .inl (.inl rfl), trivial⟩ ⟨.inl rfl, .inl rfl, .inl rfl, .inl rfl, .inl rfl, trivial⟩ (Nat.le_refl _))) (J1 _ (vec [(i3 0), (i3 1), (i3 2), (i3 3)]) (hx1 _ (Option.some.inj h3).symm))
set_option maxHeartbeats 4000000 in
set_option maxRecDepth 20000 in
theorem w_ref_put {l1 : List GAttr} {a1 : GAttr} {r : (List GAttr)} (h : ref_put l1 a1 = some r) : ARO Try.prog 120 [.r (.sl (l1.map GAttr.row)), .agg [.r (.str a1.Name), .r (.str a1.Value)]] (.r (.sl (r.map GAttr.row))) := by
  unfold ref_put at h
  refine ARO.mkF Try.func120 rfl rfl Try.ntmps120 rfl (Nat.le_of_ble_eq_true rfl) fun n0 => ?_
  refine AW.seq_w fun K1 hK1 wK1 => ?_
  refine AW.region ?_
  refine AOps.step rfl rfl rfl (ms_box (cs := [.r (.str a1.Name), .r (.str a1.Value)]) 3 rfl (.inl rfl) rfl rfl) ?_
  refine AOps.step rfl rfl rfl (OpQ.spec (sp_assign rfl (.inl rfl)) _) ?_
  refine AOps.nil ?_
  refine hK1 _ ?_
  refine AW.seq_w fun K2 hK2 wK2 => ?_
  refine AW.region ?_
  refine AOps.step rfl rfl rfl (OpQ.spec (sp_assign rfl (.inl rfl)) _) ?_
  refine AOps.nil ?_
  refine hK2 _ ?_
  refine AW.seq_w fun K3 hK3 wK3 => ?_
  refine AW.region ?_
  refine AOps.step rfl rfl rfl (OpQ.spec (sp_assign rfl (.inl rfl)) _) ?_
  refine AOps.nil ?_
  refine hK3 _ ?_
  refine AW.seq_w fun K4 hK4 wK4 => ?_
  refine AW.seq_w fun K5 hK5 wK5 => ?_
  refine AW.region ?_
  refine AOps.step rfl rfl rfl (OpQ.spec (sp_move rfl (.inl rfl)) _) ?_
  refine AOps.step rfl rfl rfl (OpQ.spec (ms_len rfl tg_47.slice (.inl rfl)) _) ?_
  refine AOps.step rfl rfl rfl (OpQ.spec (sp_move rfl (.inl rfl)) _) ?_
  refine AOps.nil ?_
  refine hK5 _ ?_
  refine AW.block ?_
  refine jb2k h fun o1 hit1 hk1 => ?_
  have J1 : ∀ (done4 : Bool) (out4 : List GAttr) (i5 : Nat → Nat), o1 = (done4, out4) → K4 ⟨[(3, .ptr 3 n0 0 0), (5, .own 5005 (i5 0)), (6, .r (.bool done4))], [(3, some (.box n0 128 [.r (.str a1.Name), .r (.str a1.Value)])), (5005, some (.arr (i5 0) 128 2 (out4.map GAttr.row)))], (i5 1), 52⟩ := by
    intro done4 out4 i5 e
    have h1 := hk1 _ _ e
    refine hK4 _ ?_
    refine AW.seq_w fun K6 hK6 wK6 => ?_
    refine AW.seq_w fun K7 hK7 wK7 => ?_
    refine AW.region ?_
    refine AOps.step rfl rfl rfl (OpQ.spec (sp_move rfl (.inl rfl)) _) ?_
    refine AOps.step rfl rfl rfl (OpQ.spec (sp_not rfl (.inl rfl)) _) ?_
    refine AOps.nil ?_
    refine hK7 _ ?_
    refine jb1k h1 fun p1 hp1 hk2 => ?_
    have J2 : ∀ (out5 : List GAttr) (i6 : Nat → Nat), p1 = out5 → K6 ⟨[(5, .own 5005 (i6 0))], [(5005, some (.arr (i6 0) 128 2 (out5.map GAttr.row)))], (i6 1), 52⟩ := by
      intro out5 i6 e
      have h2 := hk2 _ e
      refine hK6 _ ?_
      refine AW.seq_w fun K8 hK8 wK8 => ?_
      refine AW.region ?_
      refine AOps.step rfl rfl rfl (OpQ.spec (sp_move rfl (.inl rfl)) _) ?_
      refine AOps.step rfl rfl rfl (OpQ.spec (sp_assign rfl (.inl rfl)) _) ?_
      refine AOps.nil ?_
      refine hK8 _ ?_
      refine AW.ret ?_
      exact retf1 (P := Try.prog) (fun (r : (List GAttr)) => .r (.sl (r.map GAttr.row))) h2 (.inl rfl) (.t (.one (.own rfl)))
    refine AW.cond rfl (fun hc1 => ?_) (fun hc1 => ?_)
    · have h3 := ite_t hc1 hp1
      refine AW.region ?_
      refine AOps.step rfl rfl rfl (OpQ.spec (sp_move rfl (.inl rfl)) _) ?_
      refine AOps.step rfl rfl rfl (OpQ.spec (ms_loadA_box rfl ta_128 (.inl rfl) rfl rfl) _) ?_
      refine AOps.step rfl rfl rfl (ms_lit 49 rfl tg_47 (f := GAttr.row) (l := ([a1] : List GAttr)) ⟨rfl, ⟨_, (.inl rfl), rfl⟩, trivial⟩ rfl (fun _ => rfl) rfl) ?_
      refine ob1k h3 fun out6 eout6 h4 => ?_
      refine AOps.step rfl rfl rfl (ms_app rfl tg_47 (.inl rfl) rfl (.inr (.inl ⟨_, _, (.inl rfl), rfl⟩)) eout6) ?_
      refine AOps.step rfl rfl rfl (OpQ.spec (sp_assign rfl (.inl rfl)) _) ?_
      refine AOps.nil ?_
      exact wK6 _ _ ((by exact Weak.cv ⟨.inl (.inl rfl), trivial⟩ ⟨.inl rfl, trivial⟩ (Nat.le_refl _))) (J2 _ (vec [((i5 1) + 1), ((i5 1) + 2)]) (Option.some.inj h4).symm)
    · have h3 := ite_f hc1 hp1
      refine AW.skip ?_
      exact wK6 _ _ ((by exact Weak.cv ⟨.inl (.inl rfl), trivial⟩ ⟨.inl rfl, trivial⟩ (Nat.le_refl _))) (J2 _ (vec [(i5 0), (i5 1)]) (Option.some.inj h3).symm)
  refine AW.iter3 (fun (done2 : Bool) (x2 : Int) (out2 : List GAttr) i3 => ⟨[(0, .r (.sl (l1.map GAttr.row))), (3, .ptr 3 n0 0 0), (5, .own 5005 (i3 0)), (6, .r (.bool done2)), (9, .r (.int .i64 (l1.length : Int))), (10, .r (.int .i64 x2))], [(3, some (.box n0 128 [.r (.str a1.Name), .r (.str a1.Value)])), (5005, some (.arr (i3 0) 128 2 (out2.map GAttr.row)))], (i3 1), 52⟩) (vec [(n0 + 1), (n0 + 2)]) hit1 (Weak.trans (Weak.trans (Weak.adopt 5 5005 128 2 (by decide) rfl) (by exact Weak.cv (e' := [(0, .r (.sl (l1.map GAttr.row))), (1, .agg [.r (.str a1.Name), .r (.str a1.Value)]), (3, .ptr 3 n0 0 0), (4, .cst (.slice none 0 0)), (5, .own 5005 (n0 + 1)), (6, .r (.bool false)), (8, .r (.sl (l1.map GAttr.row))), (9, .r (.int .i64 (l1.length : Int))), (10, .r (.int .i64 0))]) (h' := [(3, some (.box n0 128 [.r (.str a1.Name), .r (.str a1.Value)])), (5005, some (.arr (n0 + 1) 128 2 (([] : List GAttr).map GAttr.row)))]) ⟨.inl (.inl rfl), .inl (.inl rfl), .inl (.inl rfl), .inl (.inl rfl), .inl (.inl rfl), .inl (.inl rfl), .inl (.inl rfl), .inl (.inl rfl), .inl (.inl rfl), trivial⟩ ⟨.inl rfl, .inl rfl, trivial⟩ (Nat.le_refl _))) (by exact Weak.cv ⟨.inl (.inl rfl), .inl (.inl rfl), .inl (.inl rfl), .inl (.inl rfl), .inl (.inl rfl), .inl (.inl rfl), trivial⟩ ⟨.inl rfl, .inl rfl, trivial⟩ (Nat.le_refl _))) ?_
  intro done2 x2 out2 i3 v1 hv1 hx1
  have h5 : ref_put_L1 l1 a1 done2 x2 out2 = some v1 := hv1; unfold ref_put_L1 at h5
  refine AW.seq_w fun K9 hK9 wK9 => ?_
  refine AW.region ?_
  refine AOps.step rfl rfl rfl (OpQ.spec (sp_lss rfl (.inl rfl) (.inl rfl)) _) ?_
  refine AOps.nil ?_
  refine hK9 _ ?_
  refine AW.seq_w fun K10 hK10 wK10 => ?_
  refine AW.cond rfl (fun hc2 => ?_) (fun hc2 => ?_)
  · have h6 := ite_t hc2 h5
    refine AW.skip ?_
    refine hK10 _ ?_
    refine AW.seq_w fun K11 hK11 wK11 => ?_
    refine AW.block ?_
    refine jb2k h6 fun p2 hp2 hk3 => ?_
    have J3 : ∀ (done5 : Bool) (out7 : List GAttr) (i7 : Nat → Nat), p2 = (done5, out7) → K11 ⟨[(0, .r (.sl (l1.map GAttr.row))), (3, .ptr 3 n0 0 0), (5, .own 5005 (i7 0)), (6, .r (.bool done5)), (9, .r (.int .i64 (l1.length : Int))), (10, .r (.int .i64 x2))], [(3, some (.box n0 128 [.r (.str a1.Name), .r (.str a1.Value)])), (5005, some (.arr (i7 0) 128 2 (out7.map GAttr.row)))], (i7 1), 52⟩ := by
      intro done5 out7 i7 e
      have h7 := hk3 _ _ e
      refine hK11 _ ?_
      refine AW.region ?_
      refine ob1k h7 fun x4 ex4 h8 => ?_
      refine AOps.step rfl rfl rfl (OpQ.spec (ms_add rfl (.inl rfl) (.inl rfl) (fun _ => ex4)) _) ?_
      refine AOps.step rfl rfl rfl (OpQ.spec (sp_move rfl (.inl rfl)) _) ?_
      refine AOps.nil ?_
      exact NextQ3.mk h8 (vec [(i7 0), (i7 1)]) ((by exact Weak.cv ⟨.inl (.inl rfl), .inl (.inl rfl), .inl (.inl rfl), .inl (.inl rfl), .inl (.inl rfl), .inl (.inl rfl), trivial⟩ ⟨.inl rfl, .inl rfl, trivial⟩ (Nat.le_refl _)))
    refine AW.seq_w fun K12 hK12 wK12 => ?_
    refine AW.region ?_
    refine AOps.step rfl rfl rfl (OpQ.spec (sp_move rfl (.inl rfl)) _) ?_
    refine AOps.step rfl rfl rfl (OpQ.spec (sp_assign rfl (.inl rfl)) _) ?_
    refine AOps.nil ?_
    refine hK12 _ ?_
    refine AW.seq_w fun K13 hK13 wK13 => ?_
    refine AW.seq_w fun K14 hK14 wK14 => ?_
    refine AW.regionQ hmix (by kernel_rfl) ?_
    refine AQ.step rfl rfl rfl (sp_move rfl (.inl rfl)) ?_
    refine AQ.step rfl rfl rfl (sp_not rfl (.inl rfl)) ?_
    refine AQ.step rfl rfl rfl (sp_move rfl (.inl rfl)) ?_
    refine AQ.stepW (.one rfl rfl rfl) rfl rfl (sp_move rfl (.inl rfl)) ?_
    refine AQ.stepW (.one rfl rfl rfl) rfl rfl (sp_move rfl (.inl rfl)) ?_
    refine ob1k hp2 fun x5 ex5 h9 => ?_
    refine AQ.stepW (.one rfl rfl rfl) rfl rfl (ms_idx rfl tg_47.slice (.inr ⟨_, (by exact id), rfl⟩) (.inr ⟨_, (by exact id), rfl⟩) (fun _ => rfl) (gdt ex5)) ?_
    refine AQ.stepW (.one rfl rfl rfl) rfl rfl (sp_fieldAddr_ro rfl tf_128_0 (.inr ⟨_, (by exact id), rfl⟩)) ?_
    refine AQ.stepW (.one rfl rfl rfl) rfl rfl (ms_load (d := .str x5.Name) rfl ts_9 (.inr ⟨_, (by exact id), rfl⟩) rfl) ?_
    refine AQ.stepW (.one rfl rfl rfl) rfl rfl (sp_fieldAddr_own (ob := .box _ _ _) rfl tf_128_0 (.inl rfl) (fun _ => rfl) rfl) ?_
    refine AQ.stepW (.one rfl rfl rfl) rfl rfl (ms_load_box (a := .r (.str a1.Name)) rfl ts_9 (.inr ⟨_, (by exact id), rfl⟩) rfl rfl) ?_
    refine AQ.stepW (.one rfl rfl rfl) rfl rfl (sp_sgeq rfl (.inr ⟨_, (by exact id), rfl⟩) (.inr ⟨_, (by exact id), rfl⟩)) ?_
    refine AQ.step rfl rfl rfl (sp_and rfl (.inl rfl) (.inr ⟨_, (by exact id), rfl⟩)) ?_
    refine AQ.nil ?_
    refine hK14 _ ?_
    refine jb2k h9 fun p3 hp3 hk4 => ?_
    have J4 : ∀ (done6 : Bool) (out8 : List GAttr) (i8 : Nat → Nat), p3 = (done6, out8) → K13 ⟨[(0, .r (.sl (l1.map GAttr.row))), (3, .ptr 3 n0 0 0), (5, .own 5005 (i8 0)), (6, .r (.bool done6)), (7, .r (.int .i64 x2)), (9, .r (.int .i64 (l1.length : Int))), (10, .r (.int .i64 x2))], [(3, some (.box n0 128 [.r (.str a1.Name), .r (.str a1.Value)])), (5005, some (.arr (i8 0) 128 2 (out8.map GAttr.row)))], (i8 1), 52⟩ := by
      intro done6 out8 i8 e
      have h10 := hk4 _ _ e
      refine hK13 _ ?_
      refine AW.seq_w fun K15 hK15 wK15 => ?_
      refine AW.regionQ hmix (by kernel_rfl) ?_
      refine AQ.step rfl rfl rfl (sp_move rfl (.inl rfl)) ?_
      refine AQ.step rfl rfl rfl (sp_move rfl (.inl rfl)) ?_
      refine ob1k h10 fun x6 ex6 h11 => ?_
      refine AQ.step rfl rfl rfl (ms_idx rfl tg_47.slice (.inl rfl) (.inl rfl) (fun _ => rfl) (fun _ => ex6)) ?_
      refine AQ.step rfl rfl rfl (sp_fieldAddr_ro rfl tf_128_0 (.inl rfl)) ?_
      refine AQ.step rfl rfl rfl (ms_load (d := .str x6.Name) rfl ts_9 (.inl rfl) rfl) ?_
      refine AQ.step rfl rfl rfl (sp_fieldAddr_own (ob := .box _ _ _) rfl tf_128_0 (.inl rfl) (fun _ => rfl) rfl) ?_
      refine AQ.step rfl rfl rfl (ms_load_box (a := .r (.str a1.Name)) rfl ts_9 (.inl rfl) rfl rfl) ?_
      refine AQ.step rfl rfl rfl (sp_sneq rfl (.inl rfl) (.inl rfl)) ?_
      refine AQ.nil ?_
      refine hK15 _ ?_
      refine AW.cond rfl (fun hc3 => ?_) (fun hc3 => ?_)
      · have h12 := ite_t hc3 h11
        refine AW.region ?_
        refine AOps.step rfl rfl rfl (OpQ.spec (sp_move rfl (.inl rfl)) _) ?_
        refine AOps.step rfl rfl rfl (OpQ.spec (sp_move rfl (.inl rfl)) _) ?_
        refine AOps.step rfl rfl rfl (OpQ.spec (sp_move rfl (.inl rfl)) _) ?_
        refine AOps.step rfl rfl rfl (OpQ.spec (ms_idx rfl tg_47.slice (.inl rfl) (.inl rfl) (fun _ => rfl) (fun _ => ex6)) _) ?_
        refine AOps.step rfl rfl rfl (OpQ.spec (ms_loadA (cs := [.r (.str x6.Name), .r (.str x6.Value)]) rfl ta_128 (.inl rfl) rfl rfl) _) ?_
        refine AOps.step rfl rfl rfl (ms_lit 42 rfl tg_47 (f := GAttr.row) (l := ([x6] : List GAttr)) ⟨rfl, ⟨_, (.inl rfl), rfl⟩, trivial⟩ rfl (fun _ => rfl) rfl) ?_
        refine ob1k h12 fun out9 eout9 h13 => ?_
        refine AOps.step rfl rfl rfl (ms_app rfl tg_47 (.inl rfl) rfl (.inr (.inl ⟨_, _, (.inl rfl), rfl⟩)) eout9) ?_
        refine AOps.step rfl rfl rfl (OpQ.spec (sp_assign rfl (.inl rfl)) _) ?_
        refine AOps.nil ?_
        exact wK11 _ _ ((by exact Weak.cv ⟨.inl (.inl rfl), .inl (.inl rfl), .inl (.inl rfl), .inl (.inl rfl), .inl (.inl rfl), .inl (.inl rfl), trivial⟩ ⟨.inl rfl, .inl rfl, trivial⟩ (Nat.le_refl _))) (J3 _ _ (vec [((i8 1) + 1), ((i8 1) + 2)]) (Option.some.inj h13).symm)
      · have h12 := ite_f hc3 h11
        refine AW.skip ?_
        exact wK11 _ _ ((by exact Weak.cv ⟨.inl (.inl rfl), .inl (.inl rfl), .inl (.inl rfl), .inl (.inl rfl), .inl (.inl rfl), .inl (.inl rfl), trivial⟩ ⟨.inl rfl, .inl rfl, trivial⟩ (Nat.le_refl _))) (J3 _ _ (vec [(i8 0), (i8 1)]) (Option.some.inj h12).symm)
    refine AW.cond rfl (fun hc4 => ?_) (fun hc4 => ?_)
    · have h14 := ite_t hc4 hp3
      refine AW.seq_w fun K16 hK16 wK16 => ?_
      refine AW.region ?_
      refine AOps.step rfl rfl rfl (OpQ.spec (sp_move rfl (.inl rfl)) _) ?_
      refine AOps.step rfl rfl rfl (OpQ.spec (ms_loadA_box rfl ta_128 (.inl rfl) rfl rfl) _) ?_
      refine AOps.step rfl rfl rfl (ms_lit 27 rfl tg_47 (f := GAttr.row) (l := ([a1] : List GAttr)) ⟨rfl, ⟨_, (.inl rfl), rfl⟩, trivial⟩ rfl (fun _ => rfl) rfl) ?_
      refine ob1k h14 fun out10 eout10 h15 => ?_
      refine AOps.step rfl rfl rfl (ms_app rfl tg_47 (.inl rfl) rfl (.inr (.inl ⟨_, _, (.inl rfl), rfl⟩)) eout10) ?_
      refine AOps.step rfl rfl rfl (OpQ.spec (sp_assign rfl (.inl rfl)) _) ?_
      refine AOps.nil ?_
      refine hK16 _ ?_
      refine AW.weak (s' := ⟨[(0, .r (.sl (l1.map GAttr.row))), (3, .ptr 3 n0 0 0), (5, .own 5005 ((i3 1) + 1)), (7, .r (.int .i64 x2)), (9, .r (.int .i64 (l1.length : Int))), (10, .r (.int .i64 x2))], [(3, some (.box n0 128 [.r (.str a1.Name), .r (.str a1.Value)])), (5005, some (.arr ((i3 1) + 1) 128 2 (out10.map GAttr.row)))], ((i3 1) + 2), 52⟩) (by exact Weak.cv ⟨.inl (.inl rfl), .inl (.inl rfl), .inl (.inl rfl), .inl (.inl rfl), .inl (.inl rfl), .inl (.inl rfl), trivial⟩ ⟨.inl rfl, .inl rfl, trivial⟩ (Nat.le_refl _)) ?_
      refine AW.region ?_
      refine AOps.step rfl rfl rfl (OpQ.spec (sp_assign rfl (.inl rfl)) _) ?_
      refine AOps.nil ?_
      exact wK13 _ _ ((by exact Weak.cv ⟨.inl (.inl rfl), .inl (.inl rfl), .inl (.inl rfl), .inl (.inl rfl), .inl (.inl rfl), .inl (.inl rfl), .inl (.inl rfl), trivial⟩ ⟨.inl rfl, .inl rfl, trivial⟩ (Nat.le_refl _))) (J4 _ _ (vec [((i3 1) + 1), ((i3 1) + 2)]) (Option.some.inj h15).symm)
    · have h14 := ite_f hc4 hp3
      refine AW.skip ?_
      exact wK13 _ _ ((by exact Weak.cv ⟨.inl (.inl rfl), .inl (.inl rfl), .inl (.inl rfl), .inl (.inl rfl), .inl (.inl rfl), .inl (.inl rfl), .inl (.inl rfl), trivial⟩ ⟨.inl rfl, .inl rfl, trivial⟩ (Nat.le_refl _))) (J4 _ _ (vec [(i3 0), (i3 1)]) (Option.some.inj h14).symm)
  · have h6 := ite_f hc2 h5
    refine AW.exit ?_
    exact wK4 _ _ ((by exact Weak.cv ⟨.inl (.inl rfl), .inl (.inl rfl), .inl (.inl rfl), trivial⟩ ⟨.inl rfl, .inl rfl, trivial⟩ (Nat.le_refl _))) (J1 _ _ (vec [(i3 0), (i3 1)]) (hx1 _ (Option.some.inj h6).symm))
set_option maxHeartbeats 4000000 in
set_option maxRecDepth 20000 in
theorem w_ref_Changed {l1 : List GAttr} {change1 : List GAttr} {r : (List GAttr)} (h : ref_Changed l1 change1 = some r) : ARO Try.prog 74 [.r (.sl (l1.map GAttr.row)), .r (.sl (change1.map GAttr.row))] (.r (.sl (r.map GAttr.row))) := by
  unfold ref_Changed at h
  refine ARO.mkF Try.func74 rfl rfl Try.ntmps74 rfl (Nat.le_of_ble_eq_true rfl) fun n0 => ?_
  refine AW.seq_w fun K1 hK1 wK1 => ?_
  refine AW.region ?_
  refine AOps.step rfl rfl rfl (OpQ.spec (sp_assign rfl (.inl rfl)) _) ?_
  refine AOps.nil ?_
  refine hK1 _ ?_
  refine AW.seq_w fun K2 hK2 wK2 => ?_
  refine AW.region ?_
  refine AOps.step rfl rfl rfl (OpQ.spec (sp_assign rfl (.inl rfl)) _) ?_
  refine AOps.nil ?_
  refine hK2 _ ?_
  refine AW.seq_w fun K3 hK3 wK3 => ?_
  refine AW.seq_w fun K4 hK4 wK4 => ?_
  refine AW.region ?_
  refine AOps.step rfl rfl rfl (OpQ.spec (sp_move rfl (.inl rfl)) _) ?_
  refine AOps.step rfl rfl rfl (OpQ.spec (ms_len rfl tg_47.slice (.inl rfl)) _) ?_
  refine AOps.step rfl rfl rfl (OpQ.spec (sp_move rfl (.inl rfl)) _) ?_
  refine AOps.nil ?_
  refine hK4 _ ?_
  refine AW.block ?_
  refine jb1k h fun o1 hit1 hk1 => ?_
  have J1 : ∀ (out4 : List GAttr) (i5 : Nat → Nat), o1 = out4 → K3 ⟨[(1, .r (.sl (change1.map GAttr.row))), (5, .r (.sl (out4.map GAttr.row)))], [], (i5 0), 54⟩ := by
    intro out4 i5 e
    have h1 := hk1 _ e
    refine hK3 _ ?_
    refine AW.seq_w fun K5 hK5 wK5 => ?_
    refine AW.seq_w fun K6 hK6 wK6 => ?_
    refine AW.region ?_
    refine AOps.step rfl rfl rfl (OpQ.spec (sp_move rfl (.inl rfl)) _) ?_
    refine AOps.step rfl rfl rfl (OpQ.spec (ms_len rfl tg_47.slice (.inl rfl)) _) ?_
    refine AOps.step rfl rfl rfl (OpQ.spec (sp_move rfl (.inl rfl)) _) ?_
    refine AOps.nil ?_
    refine hK6 _ ?_
    refine AW.block ?_
    refine jb1k h1 fun o2 hit2 hk2 => ?_
    have J2 : ∀ (out8 : List GAttr) (i10 : Nat → Nat), o2 = out8 → K5 ⟨[(5, .r (.sl (out8.map GAttr.row)))], [], (i10 0), 54⟩ := by
      intro out8 i10 e
      have h2 := hk2 _ e
      refine hK5 _ ?_
      refine AW.seq_w fun K7 hK7 wK7 => ?_
      refine AW.region ?_
      refine AOps.step rfl rfl rfl (OpQ.spec (sp_assign rfl (.inl rfl)) _) ?_
      refine AOps.nil ?_
      refine hK7 _ ?_
      refine AW.seq_w fun K8 hK8 wK8 => ?_
      refine AW.seq_w fun K9 hK9 wK9 => ?_
      refine AW.region ?_
      refine AOps.step rfl rfl rfl (OpQ.spec (sp_move rfl (.inl rfl)) _) ?_
      refine AOps.step rfl rfl rfl (OpQ.spec (ms_len rfl tg_47.slice (.inl rfl)) _) ?_
      refine AOps.step rfl rfl rfl (OpQ.spec (sp_move rfl (.inl rfl)) _) ?_
      refine AOps.nil ?_
      refine hK9 _ ?_
      refine AW.block ?_
      refine jb1k h2 fun o3 hit3 hk3 => ?_
      have J3 : ∀ (rest4 : List GAttr) (i15 : Nat → Nat), o3 = rest4 → K8 ⟨[(8, .own 5008 (i15 0))], [(5008, some (.arr (i15 0) 128 2 (rest4.map GAttr.row)))], (i15 1), 54⟩ := by
        intro rest4 i15 e
        have h3 := hk3 _ e
        refine hK8 _ ?_
        refine AW.seq_w fun K10 hK10 wK10 => ?_
        refine AW.region ?_
        refine AOps.step rfl rfl rfl (OpQ.spec (sp_move rfl (.inl rfl)) _) ?_
        refine AOps.step rfl rfl rfl (OpQ.spec (sp_assign rfl (.inl rfl)) _) ?_
        refine AOps.nil ?_
        refine hK10 _ ?_
        refine AW.ret ?_
        exact retf1 (P := Try.prog) (fun (r : (List GAttr)) => .r (.sl (r.map GAttr.row))) h3 (.inl rfl) (.t (.one (.own rfl)))
      refine AW.iter2 (fun (x8 : Int) (rest2 : List GAttr) i13 => ⟨[(5, .r (.sl (out8.map GAttr.row))), (8, .own 5008 (i13 0)), (35, .r (.int .i64 (out8.length : Int))), (36, .r (.int .i64 x8))], [(5008, some (.arr (i13 0) 128 2 (rest2.map GAttr.row)))], (i13 1), 54⟩) (vec [(i10 0), ((i10 0) + 1)]) hit3 (Weak.trans (Weak.trans (Weak.adopt 8 5008 128 2 (by decide) rfl) (by exact Weak.cv (e' := [(5, .r (.sl (out8.map GAttr.row))), (8, .own 5008 (i10 0)), (34, .r (.sl (out8.map GAttr.row))), (35, .r (.int .i64 (out8.length : Int))), (36, .r (.int .i64 0))]) (h' := [(5008, some (.arr (i10 0) 128 2 (([] : List GAttr).map GAttr.row)))]) ⟨.inl (.inl rfl), .inl (.inl rfl), .inl (.inl rfl), .inl (.inl rfl), .inl (.inl rfl), trivial⟩ ⟨.inl rfl, trivial⟩ (Nat.le_refl _))) (by exact Weak.cv ⟨.inl (.inl rfl), .inl (.inl rfl), .inl (.inl rfl), .inl (.inl rfl), trivial⟩ ⟨.inl rfl, trivial⟩ (Nat.le_refl _))) ?_
      intro x8 rest2 i13 v1 hv1 hx3
      have h4 : ref_Changed_L3 out8 x8 rest2 = some v1 := hv1; unfold ref_Changed_L3 at h4
      refine AW.seq_w fun K11 hK11 wK11 => ?_
      refine AW.region ?_
      refine AOps.step rfl rfl rfl (OpQ.spec (sp_lss rfl (.inl rfl) (.inl rfl)) _) ?_
      refine AOps.nil ?_
      refine hK11 _ ?_
      refine AW.seq_w fun K12 hK12 wK12 => ?_
      refine AW.cond rfl (fun hc1 => ?_) (fun hc1 => ?_)
      · have h5 := ite_t hc1 h4
        refine AW.skip ?_
        refine hK12 _ ?_
        refine AW.seq_w fun K13 hK13 wK13 => ?_
        refine AW.block ?_
        refine jb1k h5 fun p1 hp1 hk4 => ?_
        have J4 : ∀ (rest5 : List GAttr) (i16 : Nat → Nat), p1 = rest5 → K13 ⟨[(5, .r (.sl (out8.map GAttr.row))), (8, .own 5008 (i16 0)), (35, .r (.int .i64 (out8.length : Int))), (36, .r (.int .i64 x8))], [(5008, some (.arr (i16 0) 128 2 (rest5.map GAttr.row)))], (i16 1), 54⟩ := by
          intro rest5 i16 e
          have h6 := hk4 _ e
          refine hK13 _ ?_
          refine AW.region ?_
          refine ob1k h6 fun x10 ex10 h7 => ?_
          refine AOps.step rfl rfl rfl (OpQ.spec (ms_add rfl (.inl rfl) (.inl rfl) (fun _ => ex10)) _) ?_
          refine AOps.step rfl rfl rfl (OpQ.spec (sp_move rfl (.inl rfl)) _) ?_
          refine AOps.nil ?_
          exact NextQ2.mk h7 (vec [(i16 0), (i16 1)]) ((by exact Weak.cv ⟨.inl (.inl rfl), .inl (.inl rfl), .inl (.inl rfl), .inl (.inl rfl), trivial⟩ ⟨.inl rfl, trivial⟩ (Nat.le_refl _)))
        refine AW.seq_w fun K14 hK14 wK14 => ?_
        refine AW.region ?_
        refine AOps.step rfl rfl rfl (OpQ.spec (sp_move rfl (.inl rfl)) _) ?_
        refine AOps.step rfl rfl rfl (OpQ.spec (sp_assign rfl (.inl rfl)) _) ?_
        refine AOps.nil ?_
        refine hK14 _ ?_
        refine AW.seq_w fun K15 hK15 wK15 => ?_
        refine AW.region ?_
        refine AOps.step rfl rfl rfl (OpQ.spec (sp_move rfl (.inl rfl)) _) ?_
        refine AOps.step rfl rfl rfl (OpQ.spec (sp_move rfl (.inl rfl)) _) ?_
        refine ob1k hp1 fun x11 ex11 h8 => ?_
        refine AOps.step rfl rfl rfl (OpQ.spec (ms_idx rfl tg_47.slice (.inl rfl) (.inl rfl) (fun _ => rfl) (fun _ => ex11)) _) ?_
        refine AOps.step rfl rfl rfl (OpQ.spec (sp_fieldAddr_ro rfl tf_128_1 (.inl rfl)) _) ?_
        refine AOps.step rfl rfl rfl (OpQ.spec (ms_load (d := .str x11.Value) rfl ts_9 (.inl rfl) rfl) _) ?_
        refine AOps.step rfl rfl rfl (OpQ.spec (sp_sneq rfl (.inl rfl) (.inl rfl)) _) ?_
        refine AOps.nil ?_
        refine hK15 _ ?_
        refine AW.cond rfl (fun hc2 => ?_) (fun hc2 => ?_)
        · have h9 := ite_t hc2 h8
          refine AW.region ?_
          refine AOps.step rfl rfl rfl (OpQ.spec (sp_move rfl (.inl rfl)) _) ?_
          refine AOps.step rfl rfl rfl (OpQ.spec (sp_move rfl (.inl rfl)) _) ?_
          refine AOps.step rfl rfl rfl (OpQ.spec (sp_move rfl (.inl rfl)) _) ?_
          refine AOps.step rfl rfl rfl (OpQ.spec (ms_idx rfl tg_47.slice (.inl rfl) (.inl rfl) (fun _ => rfl) (fun _ => ex11)) _) ?_
          refine AOps.step rfl rfl rfl (OpQ.spec (ms_loadA (cs := [.r (.str x11.Name), .r (.str x11.Value)]) rfl ta_128 (.inl rfl) rfl rfl) _) ?_
          refine AOps.step rfl rfl rfl (ms_lit 50 rfl tg_47 (f := GAttr.row) (l := ([x11] : List GAttr)) ⟨rfl, ⟨_, (.inl rfl), rfl⟩, trivial⟩ rfl (fun _ => rfl) rfl) ?_
          refine ob1k h9 fun rest6 erest6 h10 => ?_
          refine AOps.step rfl rfl rfl (ms_app rfl tg_47 (.inl rfl) rfl (.inr (.inl ⟨_, _, (.inl rfl), rfl⟩)) erest6) ?_
          refine AOps.step rfl rfl rfl (OpQ.spec (sp_assign rfl (.inl rfl)) _) ?_
          refine AOps.nil ?_
          exact wK13 _ _ ((by exact Weak.cv ⟨.inl (.inl rfl), .inl (.inl rfl), .inl (.inl rfl), .inl (.inl rfl), trivial⟩ ⟨.inl rfl, trivial⟩ (Nat.le_refl _))) (J4 _ (vec [((i13 1) + 1), ((i13 1) + 2)]) (Option.some.inj h10).symm)
        · have h9 := ite_f hc2 h8
          refine AW.skip ?_
          exact wK13 _ _ ((by exact Weak.cv ⟨.inl (.inl rfl), .inl (.inl rfl), .inl (.inl rfl), .inl (.inl rfl), trivial⟩ ⟨.inl rfl, trivial⟩ (Nat.le_refl _))) (J4 _ (vec [(i13 0), (i13 1)]) (Option.some.inj h9).symm)
      · have h5 := ite_f hc1 h4
        refine AW.exit ?_
        exact wK8 _ _ ((by exact Weak.cv ⟨.inl (.inl rfl), trivial⟩ ⟨.inl rfl, trivial⟩ (Nat.le_refl _))) (J3 _ (vec [(i13 0), (i13 1)]) (hx3 _ (Option.some.inj h5).symm))
    refine AW.iter2 (fun (out6 : List GAttr) (x5 : Int) i8 => ⟨[(1, .r (.sl (change1.map GAttr.row))), (5, .r (.sl (out6.map GAttr.row))), (23, .r (.int .i64 (change1.length : Int))), (24, .r (.int .i64 x5))], [], (i8 0), 54⟩) (vec [(i5 0)]) hit2 ((by exact Weak.cv ⟨.inl (.inl rfl), .inl (.inl rfl), .inl (.inl rfl), .inl (.inl rfl), trivial⟩ trivial (Nat.le_refl _))) ?_
    intro out6 x5 i8 v2 hv2 hx2
    have h11 : ref_Changed_L2 change1 out6 x5 = some v2 := hv2; unfold ref_Changed_L2 at h11
    refine AW.seq_w fun K16 hK16 wK16 => ?_
    refine AW.region ?_
    refine AOps.step rfl rfl rfl (OpQ.spec (sp_lss rfl (.inl rfl) (.inl rfl)) _) ?_
    refine AOps.nil ?_
    refine hK16 _ ?_
    refine AW.seq_w fun K17 hK17 wK17 => ?_
    refine AW.cond rfl (fun hc3 => ?_) (fun hc3 => ?_)
    · have h12 := ite_t hc3 h11
      refine AW.skip ?_
      refine hK17 _ ?_
      refine AW.seq_w fun K18 hK18 wK18 => ?_
      refine AW.block ?_
      refine AW.seq_w fun K19 hK19 wK19 => ?_
      refine AW.region ?_
      refine AOps.step rfl rfl rfl (OpQ.spec (sp_move rfl (.inl rfl)) _) ?_
      refine AOps.step rfl rfl rfl (OpQ.spec (sp_assign rfl (.inl rfl)) _) ?_
      refine AOps.nil ?_
      refine hK19 _ ?_
      refine AW.region ?_
      refine AOps.step rfl rfl rfl (OpQ.spec (sp_move rfl (.inl rfl)) _) ?_
      refine AOps.step rfl rfl rfl (OpQ.spec (sp_move rfl (.inl rfl)) _) ?_
      refine AOps.step rfl rfl rfl (OpQ.spec (sp_move rfl (.inl rfl)) _) ?_
      refine ob1k h12 fun x12 ex12 h13 => ?_
      refine AOps.step rfl rfl rfl (OpQ.spec (ms_idx rfl tg_47.slice (.inl rfl) (.inl rfl) (fun _ => rfl) (fun _ => ex12)) _) ?_
      refine AOps.step rfl rfl rfl (OpQ.spec (ms_loadA (cs := [.r (.str x12.Name), .r (.str x12.Value)]) rfl ta_128 (.inl rfl) rfl rfl) _) ?_
      refine ob1k h13 fun out9 eout9 h14 => ?_
      refine AOps.step rfl rfl rfl (sp_callS (r := .r (.sl (out9.map GAttr.row))) (caps := []) (bs := [.r (.sl (out6.map GAttr.row)), .agg [.r (.str x12.Name), .r (.str x12.Value)]]) rfl (.inl rfl) rfl ⟨.inl ⟨(.inl rfl), rfl⟩, .inl ⟨(.inl rfl), rfl⟩, trivial⟩ (fun _ => w_ref_put (eout9))) ?_
      refine AOps.step rfl rfl rfl (OpQ.spec (sp_assign rfl (.inl rfl)) _) ?_
      refine AOps.nil ?_
      refine hK18 _ ?_
      refine AW.weak (s' := ⟨[(1, .r (.sl (change1.map GAttr.row))), (5, .r (.sl (out9.map GAttr.row))), (23, .r (.int .i64 (change1.length : Int))), (24, .r (.int .i64 x5))], [], (i8 0), 54⟩) (by exact Weak.cv ⟨.inl (.inl rfl), .inl (.inl rfl), .inl (.inl rfl), .inl (.inl rfl), trivial⟩ trivial (Nat.le_refl _)) ?_
      refine AW.region ?_
      refine ob1k h14 fun x13 ex13 h15 => ?_
      refine AOps.step rfl rfl rfl (OpQ.spec (ms_add rfl (.inl rfl) (.inl rfl) (fun _ => ex13)) _) ?_
      refine AOps.step rfl rfl rfl (OpQ.spec (sp_move rfl (.inl rfl)) _) ?_
      refine AOps.nil ?_
      exact NextQ2.mk h15 (vec [(i8 0)]) ((by exact Weak.cv ⟨.inl (.inl rfl), .inl (.inl rfl), .inl (.inl rfl), .inl (.inl rfl), trivial⟩ trivial (Nat.le_refl _)))
    · have h12 := ite_f hc3 h11
      refine AW.exit ?_
      exact wK5 _ _ ((by exact Weak.cv ⟨.inl (.inl rfl), trivial⟩ trivial (Nat.le_refl _))) (J2 _ (vec [(i8 0)]) (hx2 _ (Option.some.inj h12).symm))
  refine AW.iter2 (fun (out2 : List GAttr) (x2 : Int) i3 => ⟨[(0, .r (.sl (l1.map GAttr.row))), (1, .r (.sl (change1.map GAttr.row))), (5, .r (.sl (out2.map GAttr.row))), (11, .r (.int .i64 (l1.length : Int))), (12, .r (.int .i64 x2))], [], (i3 0), 54⟩) (vec [n0]) hit1 ((by exact Weak.cv ⟨.inl (.inl rfl), .inl (.inl rfl), .inl (.inr (.inr ⟨rfl, rfl⟩)), .inl (.inl rfl), .inl (.inl rfl), trivial⟩ trivial (Nat.le_refl _))) ?_
  intro out2 x2 i3 v3 hv3 hx1
  have h16 : ref_Changed_L1 l1 out2 x2 = some v3 := hv3; unfold ref_Changed_L1 at h16
  refine AW.seq_w fun K20 hK20 wK20 => ?_
  refine AW.region ?_
  refine AOps.step rfl rfl rfl (OpQ.spec (sp_lss rfl (.inl rfl) (.inl rfl)) _) ?_
  refine AOps.nil ?_
  refine hK20 _ ?_
  refine AW.seq_w fun K21 hK21 wK21 => ?_
  refine AW.cond rfl (fun hc4 => ?_) (fun hc4 => ?_)
  · have h17 := ite_t hc4 h16
    refine AW.skip ?_
    refine hK21 _ ?_
    refine AW.seq_w fun K22 hK22 wK22 => ?_
    refine AW.block ?_
    refine AW.seq_w fun K23 hK23 wK23 => ?_
    refine AW.region ?_
    refine AOps.step rfl rfl rfl (OpQ.spec (sp_move rfl (.inl rfl)) _) ?_
    refine AOps.step rfl rfl rfl (OpQ.spec (sp_assign rfl (.inl rfl)) _) ?_
    refine AOps.nil ?_
    refine hK23 _ ?_
    refine AW.region ?_
    refine AOps.step rfl rfl rfl (OpQ.spec (sp_move rfl (.inl rfl)) _) ?_
    refine AOps.step rfl rfl rfl (OpQ.spec (sp_move rfl (.inl rfl)) _) ?_
    refine AOps.step rfl rfl rfl (OpQ.spec (sp_move rfl (.inl rfl)) _) ?_
    refine ob1k h17 fun x14 ex14 h18 => ?_
    refine AOps.step rfl rfl rfl (OpQ.spec (ms_idx rfl tg_47.slice (.inl rfl) (.inl rfl) (fun _ => rfl) (fun _ => ex14)) _) ?_
    refine AOps.step rfl rfl rfl (OpQ.spec (ms_loadA (cs := [.r (.str x14.Name), .r (.str x14.Value)]) rfl ta_128 (.inl rfl) rfl rfl) _) ?_
    refine ob1k h18 fun out10 eout10 h19 => ?_
    refine AOps.step rfl rfl rfl (sp_callS (r := .r (.sl (out10.map GAttr.row))) (caps := []) (bs := [.r (.sl (out2.map GAttr.row)), .agg [.r (.str x14.Name), .r (.str x14.Value)]]) rfl (.inl rfl) rfl ⟨.inl ⟨(.inl rfl), rfl⟩, .inl ⟨(.inl rfl), rfl⟩, trivial⟩ (fun _ => w_ref_put (eout10))) ?_
    refine AOps.step rfl rfl rfl (OpQ.spec (sp_assign rfl (.inl rfl)) _) ?_
    refine AOps.nil ?_
    refine hK22 _ ?_
    refine AW.weak (s' := ⟨[(0, .r (.sl (l1.map GAttr.row))), (1, .r (.sl (change1.map GAttr.row))), (5, .r (.sl (out10.map GAttr.row))), (11, .r (.int .i64 (l1.length : Int))), (12, .r (.int .i64 x2))], [], (i3 0), 54⟩) (by exact Weak.cv ⟨.inl (.inl rfl), .inl (.inl rfl), .inl (.inl rfl), .inl (.inl rfl), .inl (.inl rfl), trivial⟩ trivial (Nat.le_refl _)) ?_
    refine AW.region ?_
    refine ob1k h19 fun x15 ex15 h20 => ?_
    refine AOps.step rfl rfl rfl (OpQ.spec (ms_add rfl (.inl rfl) (.inl rfl) (fun _ => ex15)) _) ?_
    refine AOps.step rfl rfl rfl (OpQ.spec (sp_move rfl (.inl rfl)) _) ?_
    refine AOps.nil ?_
    exact NextQ2.mk h20 (vec [(i3 0)]) ((by exact Weak.cv ⟨.inl (.inl rfl), .inl (.inl rfl), .inl (.inl rfl), .inl (.inl rfl), .inl (.inl rfl), trivial⟩ trivial (Nat.le_refl _)))
  · have h17 := ite_f hc4 h16
    refine AW.exit ?_
    exact wK3 _ _ ((by exact Weak.cv ⟨.inl (.inl rfl), .inl (.inl rfl), trivial⟩ trivial (Nat.le_refl _))) (J1 _ (vec [(i3 0)]) (hx1 _ (Option.some.inj h17).symm))
set_option maxHeartbeats 4000000 in
set_option maxRecDepth 20000 in
theorem w_ref_Joined {a1 : List GAttr} {b1 : List GAttr} {r : (List GAttr)} (h : ref_Joined a1 b1 = some r) : ARO Try.prog 75 [.r (.sl (a1.map GAttr.row)), .r (.sl (b1.map GAttr.row))] (.r (.sl (r.map GAttr.row))) := by
  unfold ref_Joined at h
  refine ARO.mkF Try.func75 rfl rfl Try.ntmps75 rfl (Nat.le_of_ble_eq_true rfl) fun n0 => ?_
  refine AW.seq_w fun K1 hK1 wK1 => ?_
  refine AW.region ?_
  refine AOps.step rfl rfl rfl (OpQ.spec (sp_assign rfl (.inl rfl)) _) ?_
  refine AOps.nil ?_
  refine hK1 _ ?_
  refine AW.seq_w fun K2 hK2 wK2 => ?_
  refine AW.region ?_
  refine AOps.step rfl rfl rfl (OpQ.spec (sp_assign rfl (.inl rfl)) _) ?_
  refine AOps.nil ?_
  refine hK2 _ ?_
  refine AW.seq_w fun K3 hK3 wK3 => ?_
  refine AW.seq_w fun K4 hK4 wK4 => ?_
  refine AW.region ?_
  refine AOps.step rfl rfl rfl (OpQ.spec (sp_move rfl (.inl rfl)) _) ?_
  refine AOps.step rfl rfl rfl (OpQ.spec (ms_len rfl tg_47.slice (.inl rfl)) _) ?_
  refine AOps.step rfl rfl rfl (OpQ.spec (sp_move rfl (.inl rfl)) _) ?_
  refine AOps.nil ?_
  refine hK4 _ ?_
  refine AW.block ?_
  refine jb1k h fun o1 hit1 hk1 => ?_
  have J1 : ∀ (out4 : List GAttr) (i5 : Nat → Nat), o1 = out4 → K3 ⟨[(1, .r (.sl (b1.map GAttr.row))), (5, .r (.sl (out4.map GAttr.row)))], [], (i5 0), 33⟩ := by
    intro out4 i5 e
    have h1 := hk1 _ e
    refine hK3 _ ?_
    refine AW.seq_w fun K5 hK5 wK5 => ?_
    refine AW.seq_w fun K6 hK6 wK6 => ?_
    refine AW.region ?_
    refine AOps.step rfl rfl rfl (OpQ.spec (sp_move rfl (.inl rfl)) _) ?_
    refine AOps.step rfl rfl rfl (OpQ.spec (ms_len rfl tg_47.slice (.inl rfl)) _) ?_
    refine AOps.step rfl rfl rfl (OpQ.spec (sp_move rfl (.inl rfl)) _) ?_
    refine AOps.nil ?_
    refine hK6 _ ?_
    refine AW.block ?_
    refine jb1k h1 fun o2 hit2 hk2 => ?_
    have J2 : ∀ (out8 : List GAttr) (i10 : Nat → Nat), o2 = out8 → K5 ⟨[(5, .r (.sl (out8.map GAttr.row)))], [], (i10 0), 33⟩ := by
      intro out8 i10 e
      have h2 := hk2 _ e
      refine hK5 _ ?_
      refine AW.seq_w fun K7 hK7 wK7 => ?_
      refine AW.region ?_
      refine AOps.step rfl rfl rfl (OpQ.spec (sp_move rfl (.inl rfl)) _) ?_
      refine AOps.step rfl rfl rfl (OpQ.spec (sp_assign rfl (.inl rfl)) _) ?_
      refine AOps.nil ?_
      refine hK7 _ ?_
      refine AW.ret ?_
      exact retf1 (P := Try.prog) (fun (r : (List GAttr)) => .r (.sl (r.map GAttr.row))) h2 (.inl rfl) (.t (.d rfl))
    refine AW.iter2 (fun (out6 : List GAttr) (x5 : Int) i8 => ⟨[(1, .r (.sl (b1.map GAttr.row))), (5, .r (.sl (out6.map GAttr.row))), (21, .r (.int .i64 (b1.length : Int))), (22, .r (.int .i64 x5))], [], (i8 0), 33⟩) (vec [(i5 0)]) hit2 ((by exact Weak.cv ⟨.inl (.inl rfl), .inl (.inl rfl), .inl (.inl rfl), .inl (.inl rfl), trivial⟩ trivial (Nat.le_refl _))) ?_
    intro out6 x5 i8 v1 hv1 hx2
    have h3 : ref_Joined_L2 b1 out6 x5 = some v1 := hv1; unfold ref_Joined_L2 at h3
    refine AW.seq_w fun K8 hK8 wK8 => ?_
    refine AW.region ?_
    refine AOps.step rfl rfl rfl (OpQ.spec (sp_lss rfl (.inl rfl) (.inl rfl)) _) ?_
    refine AOps.nil ?_
    refine hK8 _ ?_
    refine AW.seq_w fun K9 hK9 wK9 => ?_
    refine AW.cond rfl (fun hc1 => ?_) (fun hc1 => ?_)
    · have h4 := ite_t hc1 h3
      refine AW.skip ?_
      refine hK9 _ ?_
      refine AW.seq_w fun K10 hK10 wK10 => ?_
      refine AW.block ?_
      refine AW.seq_w fun K11 hK11 wK11 => ?_
      refine AW.region ?_
      refine AOps.step rfl rfl rfl (OpQ.spec (sp_move rfl (.inl rfl)) _) ?_
      refine AOps.step rfl rfl rfl (OpQ.spec (sp_assign rfl (.inl rfl)) _) ?_
      refine AOps.nil ?_
      refine hK11 _ ?_
      refine AW.region ?_
      refine AOps.step rfl rfl rfl (OpQ.spec (sp_move rfl (.inl rfl)) _) ?_
      refine AOps.step rfl rfl rfl (OpQ.spec (sp_move rfl (.inl rfl)) _) ?_
      refine AOps.step rfl rfl rfl (OpQ.spec (sp_move rfl (.inl rfl)) _) ?_
      refine ob1k h4 fun x7 ex7 h5 => ?_
      refine AOps.step rfl rfl rfl (OpQ.spec (ms_idx rfl tg_47.slice (.inl rfl) (.inl rfl) (fun _ => rfl) (fun _ => ex7)) _) ?_
      refine AOps.step rfl rfl rfl (OpQ.spec (ms_loadA (cs := [.r (.str x7.Name), .r (.str x7.Value)]) rfl ta_128 (.inl rfl) rfl rfl) _) ?_
      refine ob1k h5 fun out9 eout9 h6 => ?_
      refine AOps.step rfl rfl rfl (sp_callS (r := .r (.sl (out9.map GAttr.row))) (caps := []) (bs := [.r (.sl (out6.map GAttr.row)), .agg [.r (.str x7.Name), .r (.str x7.Value)]]) rfl (.inl rfl) rfl ⟨.inl ⟨(.inl rfl), rfl⟩, .inl ⟨(.inl rfl), rfl⟩, trivial⟩ (fun _ => w_ref_put (eout9))) ?_
      refine AOps.step rfl rfl rfl (OpQ.spec (sp_assign rfl (.inl rfl)) _) ?_
      refine AOps.nil ?_
      refine hK10 _ ?_
      refine AW.weak (s' := ⟨[(1, .r (.sl (b1.map GAttr.row))), (5, .r (.sl (out9.map GAttr.row))), (21, .r (.int .i64 (b1.length : Int))), (22, .r (.int .i64 x5))], [], (i8 0), 33⟩) (by exact Weak.cv ⟨.inl (.inl rfl), .inl (.inl rfl), .inl (.inl rfl), .inl (.inl rfl), trivial⟩ trivial (Nat.le_refl _)) ?_
      refine AW.region ?_
      refine ob1k h6 fun x8 ex8 h7 => ?_
      refine AOps.step rfl rfl rfl (OpQ.spec (ms_add rfl (.inl rfl) (.inl rfl) (fun _ => ex8)) _) ?_
      refine AOps.step rfl rfl rfl (OpQ.spec (sp_move rfl (.inl rfl)) _) ?_
      refine AOps.nil ?_
      exact NextQ2.mk h7 (vec [(i8 0)]) ((by exact Weak.cv ⟨.inl (.inl rfl), .inl (.inl rfl), .inl (.inl rfl), .inl (.inl rfl), trivial⟩ trivial (Nat.le_refl _)))
    · have h4 := ite_f hc1 h3
      refine AW.exit ?_
      exact wK5 _ _ ((by exact Weak.cv ⟨.inl (.inl rfl), trivial⟩ trivial (Nat.le_refl _))) (J2 _ (vec [(i8 0)]) (hx2 _ (Option.some.inj h4).symm))
  refine AW.iter2 (fun (out2 : List GAttr) (x2 : Int) i3 => ⟨[(0, .r (.sl (a1.map GAttr.row))), (1, .r (.sl (b1.map GAttr.row))), (5, .r (.sl (out2.map GAttr.row))), (9, .r (.int .i64 (a1.length : Int))), (10, .r (.int .i64 x2))], [], (i3 0), 33⟩) (vec [n0]) hit1 ((by exact Weak.cv ⟨.inl (.inl rfl), .inl (.inl rfl), .inl (.inr (.inr ⟨rfl, rfl⟩)), .inl (.inl rfl), .inl (.inl rfl), trivial⟩ trivial (Nat.le_refl _))) ?_
  intro out2 x2 i3 v2 hv2 hx1
  have h8 : ref_Joined_L1 a1 out2 x2 = some v2 := hv2; unfold ref_Joined_L1 at h8
  refine AW.seq_w fun K12 hK12 wK12 => ?_
  refine AW.region ?_
  refine AOps.step rfl rfl rfl (OpQ.spec (sp_lss rfl (.inl rfl) (.inl rfl)) _) ?_
  refine AOps.nil ?_
  refine hK12 _ ?_
  refine AW.seq_w fun K13 hK13 wK13 => ?_
  refine AW.cond rfl (fun hc2 => ?_) (fun hc2 => ?_)
  · have h9 := ite_t hc2 h8
    refine AW.skip ?_
    refine hK13 _ ?_
    refine AW.seq_w fun K14 hK14 wK14 => ?_
    refine AW.block ?_
    refine AW.seq_w fun K15 hK15 wK15 => ?_
    refine AW.region ?_
    refine AOps.step rfl rfl rfl (OpQ.spec (sp_move rfl (.inl rfl)) _) ?_
    refine AOps.step rfl rfl rfl (OpQ.spec (sp_assign rfl (.inl rfl)) _) ?_
    refine AOps.nil ?_
    refine hK15 _ ?_
    refine AW.region ?_
    refine AOps.step rfl rfl rfl (OpQ.spec (sp_move rfl (.inl rfl)) _) ?_
    refine AOps.step rfl rfl rfl (OpQ.spec (sp_move rfl (.inl rfl)) _) ?_
    refine AOps.step rfl rfl rfl (OpQ.spec (sp_move rfl (.inl rfl)) _) ?_
    refine ob1k h9 fun x9 ex9 h10 => ?_
    refine AOps.step rfl rfl rfl (OpQ.spec (ms_idx rfl tg_47.slice (.inl rfl) (.inl rfl) (fun _ => rfl) (fun _ => ex9)) _) ?_
    refine AOps.step rfl rfl rfl (OpQ.spec (ms_loadA (cs := [.r (.str x9.Name), .r (.str x9.Value)]) rfl ta_128 (.inl rfl) rfl rfl) _) ?_
    refine ob1k h10 fun out10 eout10 h11 => ?_
    refine AOps.step rfl rfl rfl (sp_callS (r := .r (.sl (out10.map GAttr.row))) (caps := []) (bs := [.r (.sl (out2.map GAttr.row)), .agg [.r (.str x9.Name), .r (.str x9.Value)]]) rfl (.inl rfl) rfl ⟨.inl ⟨(.inl rfl), rfl⟩, .inl ⟨(.inl rfl), rfl⟩, trivial⟩ (fun _ => w_ref_put (eout10))) ?_
    refine AOps.step rfl rfl rfl (OpQ.spec (sp_assign rfl (.inl rfl)) _) ?_
    refine AOps.nil ?_
    refine hK14 _ ?_
    refine AW.weak (s' := ⟨[(0, .r (.sl (a1.map GAttr.row))), (1, .r (.sl (b1.map GAttr.row))), (5, .r (.sl (out10.map GAttr.row))), (9, .r (.int .i64 (a1.length : Int))), (10, .r (.int .i64 x2))], [], (i3 0), 33⟩) (by exact Weak.cv ⟨.inl (.inl rfl), .inl (.inl rfl), .inl (.inl rfl), .inl (.inl rfl), .inl (.inl rfl), trivial⟩ trivial (Nat.le_refl _)) ?_
    refine AW.region ?_
    refine ob1k h11 fun x10 ex10 h12 => ?_
    refine AOps.step rfl rfl rfl (OpQ.spec (ms_add rfl (.inl rfl) (.inl rfl) (fun _ => ex10)) _) ?_
    refine AOps.step rfl rfl rfl (OpQ.spec (sp_move rfl (.inl rfl)) _) ?_
    refine AOps.nil ?_
    exact NextQ2.mk h12 (vec [(i3 0)]) ((by exact Weak.cv ⟨.inl (.inl rfl), .inl (.inl rfl), .inl (.inl rfl), .inl (.inl rfl), .inl (.inl rfl), trivial⟩ trivial (Nat.le_refl _)))
  · have h9 := ite_f hc2 h8
    refine AW.exit ?_
    exact wK3 _ _ ((by exact Weak.cv ⟨.inl (.inl rfl), .inl (.inl rfl), trivial⟩ trivial (Nat.le_refl _))) (J1 _ (vec [(i3 0)]) (hx1 _ (Option.some.inj h9).symm))
end Go.Proofs.Ytdeglnbioiicaaa.Al
