/- Walks, as printed. -/
import Derived.Test.YtfkolgjapajekaaDoorWlkGC
import Derived.Test.YtfkolgjapajekaaDoorProg
set_option linter.unusedVariables false
namespace Go.Proofs.YtfkolgjapajekaaDoor.Al
open Go.Proofs
set_option maxHeartbeats 4000000 in
set_option maxRecDepth 20000 in
theorem w_grid_through {r1 : GRect} {rows1 : List GAxisStep} {cols1 : List GAxisStep} {r : GRect × Bool} (h : grid_through r1 rows1 cols1 = some r) : ARO Tryd.prog 121 [.agg [.r (.int .i64 r1.Row), .r (.int .i64 r1.Col), .r (.int .i64 r1.H), .r (.int .i64 r1.W)], .r (.sl (rows1.map GAxisStep.row)), .r (.sl (cols1.map GAxisStep.row))] (.tup [.agg [.r (.int .i64 r.1.Row), .r (.int .i64 r.1.Col), .r (.int .i64 r.1.H), .r (.int .i64 r.1.W)], .r (.bool r.2)]) := by
 unfold grid_through at h
 refine ARO.mkF Tryd.func121 rfl rfl Tryd.ntmps121 rfl (Nat.le_of_ble_eq_true rfl) fun n0 => ?_
 refine AW.seq_w fun K1 hK1 wK1 => ?_
 refine AW.region ?_
 refine AOps.step rfl rfl rfl (ms_box (cs := [.r (.int .i64 r1.Row), .r (.int .i64 r1.Col), .r (.int .i64 r1.H), .r (.int .i64 r1.W)]) 3 rfl iL rfl rfl) ?_
 refine AOps.step rfl rfl rfl (ms_alloc (cs := [.r (.int .i64 0), .r (.int .i64 0), .r (.int .i64 0), .r (.int .i64 0)]) 6 rfl t0_64 rfl rfl) ?_
 refine sQ rfl (sp_assign rfl iL) ?_
 refine AOps.nil (hK1 _ ?_)
 refine AW.seq_w fun K2 hK2 wK2 => ?_
 refine AW.seq_w fun K3 hK3 wK3 => ?_
 refine AW.region ?_
 refine sM rfl rfl ?_
 refine sQ rfl (ms_len rfl tg_47.slice iL) ?_
 refine sQ rfl (sp_gtr rfl iL iL) ?_
 refine AOps.nil (hK3 _ ?_)
 refine jb1k h fun p1 hp1 hk1 => ?_
 have J1 : ∀ (r2 : GRect) (i1 : Nat → Nat), p1 = r2 → K2 ⟨[(2, .r (.sl (cols1.map GAxisStep.row))), (3, .ptr 3 n0 0 0), (6, .ptr 6 (n0 + 1) 0 0)], [(3, some (.box n0 64 [.r (.int .i64 r2.Row), .r (.int .i64 r2.Col), .r (.int .i64 r2.H), .r (.int .i64 r2.W)])), (6, some (.box (n0 + 1) 64 [.r (.int .i64 0), .r (.int .i64 0), .r (.int .i64 0), .r (.int .i64 0)]))], (i1 0), 71⟩ := by
  intro r2 i1 e
  have h1 := hk1 _ e
  refine hK2 _ ?_
  refine AW.seq_w fun K4 hK4 wK4 => ?_
  refine AW.seq_w fun K5 hK5 wK5 => ?_
  refine AW.region ?_
  refine sM rfl rfl ?_
  refine sQ rfl (ms_len rfl tg_47.slice iL) ?_
  refine sQ rfl (sp_gtr rfl iL iL) ?_
  refine AOps.nil (hK5 _ ?_)
  refine jb1k h1 fun p2 hp2 hk2 => ?_
  have J2 : ∀ (r3 : GRect) (i2 : Nat → Nat), p2 = r3 → K4 ⟨[(3, .ptr 3 n0 0 0), (6, .ptr 6 (n0 + 1) 0 0)], [(3, some (.box n0 64 [.r (.int .i64 r3.Row), .r (.int .i64 r3.Col), .r (.int .i64 r3.H), .r (.int .i64 r3.W)])), (6, some (.box (n0 + 1) 64 [.r (.int .i64 0), .r (.int .i64 0), .r (.int .i64 0), .r (.int .i64 0)]))], (i2 0), 71⟩ := by
   intro r3 i2 e
   have h2 := hk2 _ e
   refine hK4 _ ?_
   refine AW.seq_w fun K6 hK6 wK6 => ?_
   refine ob1k h2 fun x1 ex1 h3 => ?_
   refine AW.regionP 18 [⟨some 54, (fun _ => .agg [.r (.int .i64 r3.Row), .r (.int .i64 r3.Col), .r (.int .i64 r3.H), .r (.int .i64 r3.W)]), none, []⟩, ⟨some 55, (fun _ => .ptr 3 n0 0 2), none, []⟩, ⟨some 56, (fun _ => .r (.int .i64 r3.H)), none, []⟩, ⟨some 57, (fun _ => .r (.bool (decide (0 < r3.H)))), none, []⟩, ⟨some 58, (fun _ => .r (.bool (decide (0 < r3.H)))), none, []⟩, ⟨some 59, (fun _ => .whn ((decide (0 < r3.H)) == true) (.ptr 3 n0 0 3)), none, []⟩, ⟨some 60, (fun _ => .whn ((decide (0 < r3.H)) == true) (.r (.int .i64 r3.W))), none, []⟩, ⟨some 61, (fun _ => .whn ((decide (0 < r3.H)) == true) (.r (.bool (decide (0 < r3.W))))), none, []⟩, ⟨some 62, (fun _ => .r (.bool ((decide (0 < r3.H)) && (decide (0 < r3.W))))), none, []⟩, ⟨some 63, (fun _ => .r (.bool ((decide (0 < r3.H)) && (decide (0 < r3.W))))), none, []⟩, ⟨some 64, (fun _ => .whn (((decide (0 < r3.H)) && (decide (0 < r3.W))) == true) (.ptr 3 n0 0 2)), none, []⟩, ⟨some 65, (fun _ => .whn (((decide (0 < r3.H)) && (decide (0 < r3.W))) == true) (.r (.int .i64 r3.H))), none, []⟩, ⟨some 66, (fun _ => .whn (((decide (0 < r3.H)) && (decide (0 < r3.W))) == true) (.ptr 3 n0 0 3)), none, []⟩, ⟨some 67, (fun _ => .whn (((decide (0 < r3.H)) && (decide (0 < r3.W))) == true) (.r (.int .i64 r3.W))), none, []⟩, ⟨some 68, (fun _ => .whn (((decide (0 < r3.H)) && (decide (0 < r3.W))) == true) (.r (.int .i64 x1))), none, []⟩, ⟨some 69, (fun _ => .whn (((decide (0 < r3.H)) && (decide (0 < r3.W))) == true) (.r (.bool (decide (2 < x1))))), none, []⟩, ⟨some 70, (fun _ => .r (.bool (((decide (0 < r3.H)) && (decide (0 < r3.W))) && (decide (2 < x1))))), none, []⟩, ⟨none, (fun _ => .any), some (6, (fun _ => some (.box (n0 + 1) 64 [.r (.int .i64 r3.Row), .r (.int .i64 r3.Col), .r (.int .i64 r3.H), .r (.int .i64 r3.W)]))), []⟩] hmix (by kernel_rfl) (by exact ⟨fun _ _ h => ⟨rfl, fun _ _ e => by cases e⟩, fun _ _ h => ⟨rfl, fun _ _ e => by cases e⟩, fun _ _ h => ⟨rfl, fun _ _ e => by cases e⟩, fun _ _ h => ⟨rfl, fun _ _ e => by cases e⟩, fun _ _ h => ⟨rfl, fun _ _ e => by cases e⟩, fun _ _ h => ⟨rfl, fun _ _ e => by cases e⟩, fun _ _ h => ⟨rfl, fun _ _ e => by cases e⟩, fun _ _ h => ⟨rfl, fun _ _ e => by cases e⟩, fun _ _ h => ⟨rfl, fun _ _ e => by cases e⟩, fun _ _ h => ⟨rfl, fun _ _ e => by cases e⟩, fun _ _ h => ⟨rfl, fun _ _ e => by cases e⟩, fun _ _ h => ⟨rfl, fun _ _ e => by cases e⟩, fun _ _ h => ⟨rfl, fun _ _ e => by cases e⟩, fun _ _ h => ⟨rfl, fun _ _ e => by cases e⟩, fun _ _ h => ⟨rfl, fun _ _ e => by cases e⟩, fun _ _ h => ⟨rfl, fun _ _ e => by cases e⟩, fun _ _ h => ⟨rfl, fun _ _ e => by cases e⟩, fun _ _ h => ⟨rfl, fun _ _ e => by cases e; rfl⟩, trivial⟩) rfl (by exact ⟨Ob.quiet (n1 := fun n => n) rfl rfl (by intro d h; cases h; rfl) rfl (fun _ => [(3, .ptr 3 n0 0 0)]) (fun _ => [(3, some (.box n0 64 [.r (.int .i64 r3.Row), .r (.int .i64 r3.Col), .r (.int .i64 r3.H), .r (.int .i64 r3.W)]))]) (fun D G1 hr => ⟨inE_base rfl rfl, trivial⟩) (fun D G1 hr => ⟨inH_base rfl rfl, trivial⟩) (fun _ _ => rfl) (fun G1 e h' n => OpQ.spec (v := .agg [.r (.int .i64 r3.Row), .r (.int .i64 r3.Col), .r (.int .i64 r3.H), .r (.int .i64 r3.W)]) (ms_loadA_box rfl ta_64 (.inl rfl) rfl rfl) _),
     Ob.quiet (n1 := fun n => n) rfl rfl (by intro d h; cases h; rfl) rfl (fun _ => [(3, .ptr 3 n0 0 0)]) (fun _ => [(3, some (.box n0 64 [.r (.int .i64 r3.Row), .r (.int .i64 r3.Col), .r (.int .i64 r3.H), .r (.int .i64 r3.W)]))]) (fun D G1 hr => ⟨inE_base rfl rfl, trivial⟩) (fun D G1 hr => ⟨inH_base rfl rfl, trivial⟩) (fun _ _ => rfl) (fun G1 e h' n => OpQ.spec (v := .ptr 3 n0 0 2) (sp_fieldAddr_own (ob := .box _ _ _) rfl tf_64_2 (.inl rfl) (fun _ => rfl) rfl) _),
     Ob.quiet (n1 := fun n => n) rfl rfl (by intro d h; cases h; rfl) rfl (fun _ => [(55, .ptr 3 n0 0 2)]) (fun _ => [(3, some (.box n0 64 [.r (.int .i64 r3.Row), .r (.int .i64 r3.Col), .r (.int .i64 r3.H), .r (.int .i64 r3.W)]))]) (fun D G1 hr => ⟨inE_op hr 1 rfl rfl (by kernel_rfl) rfl rfl, trivial⟩) (fun D G1 hr => ⟨inH_base rfl rfl, trivial⟩) (fun _ _ => rfl) (fun G1 e h' n => OpQ.spec (v := .r (.int .i64 r3.H)) (ms_load_box (a := .r (.int .i64 r3.H)) rfl ts_3 (.inl rfl) rfl rfl) _),
     Ob.quiet (n1 := fun n => n) rfl rfl (by intro d h; cases h; rfl) rfl (fun _ => [(56, .r (.int .i64 r3.H))]) (fun _ => []) (fun D G1 hr => ⟨inE_op hr 2 rfl rfl (by kernel_rfl) rfl rfl, trivial⟩) (fun D G1 hr => trivial) (fun _ _ => rfl) (fun G1 e h' n => OpQ.spec (v := .r (.bool (decide (0 < r3.H)))) (sp_gtr rfl (.inl rfl) (.inl rfl)) _),
     Ob.quiet (n1 := fun n => n) rfl rfl (by intro d h; cases h; rfl) rfl (fun _ => [(57, .r (.bool (decide (0 < r3.H))))]) (fun _ => []) (fun D G1 hr => ⟨inE_op hr 3 rfl rfl (by kernel_rfl) rfl rfl, trivial⟩) (fun D G1 hr => trivial) (fun _ _ => rfl) (fun G1 e h' n => OpQ.spec (v := .r (.bool (decide (0 < r3.H)))) (sp_move rfl (.inl rfl)) _),
     Ob.quietG (n1 := fun n => n) (c := ((decide (0 < r3.H)) == true)) (v0 := fun _ => .ptr 3 n0 0 3) rfl (by intro d h; cases h; rfl) rfl (fun _ => [(3, .ptr 3 n0 0 0), (58, .r (.bool (decide (0 < r3.H))))]) (fun _ => [(3, some (.box n0 64 [.r (.int .i64 r3.Row), .r (.int .i64 r3.Col), .r (.int .i64 r3.H), .r (.int .i64 r3.W)]))]) (fun D G1 hr => ⟨inE_base rfl rfl, inE_op hr 4 rfl rfl (by kernel_rfl) rfl rfl, trivial⟩) (fun D G1 hr => ⟨inH_base rfl rfl, trivial⟩) (fun _ _ => rfl) (fun _ _ => (.one rfl rfl rfl)) (fun G1 e h' n => OpQ.spec (v := .ptr 3 n0 0 3) (sp_fieldAddr_own (ob := .box _ _ _) rfl tf_64_3 (.inl rfl) (fun _ => rfl) rfl) _),
     Ob.quietG (n1 := fun n => n) (c := ((decide (0 < r3.H)) == true)) (v0 := fun _ => .r (.int .i64 r3.W)) rfl (by intro d h; cases h; rfl) rfl (fun _ => [(58, .r (.bool (decide (0 < r3.H)))), (59, .whn ((decide (0 < r3.H)) == true) (.ptr 3 n0 0 3))]) (fun _ => [(3, some (.box n0 64 [.r (.int .i64 r3.Row), .r (.int .i64 r3.Col), .r (.int .i64 r3.H), .r (.int .i64 r3.W)]))]) (fun D G1 hr => ⟨inE_op hr 4 rfl rfl (by kernel_rfl) rfl rfl, inE_op hr 5 rfl rfl (by kernel_rfl) rfl rfl, trivial⟩) (fun D G1 hr => ⟨inH_base rfl rfl, trivial⟩) (fun _ _ => rfl) (fun _ _ => (.one rfl rfl rfl)) (fun G1 e h' n => OpQ.spec (v := .r (.int .i64 r3.W)) (ms_load_box (a := .r (.int .i64 r3.W)) rfl ts_3 (.inr ⟨_, (by exact id), rfl⟩) rfl rfl) _),
     Ob.quietG (n1 := fun n => n) (c := ((decide (0 < r3.H)) == true)) (v0 := fun _ => .r (.bool (decide (0 < r3.W)))) rfl (by intro d h; cases h; rfl) rfl (fun _ => [(58, .r (.bool (decide (0 < r3.H)))), (60, .whn ((decide (0 < r3.H)) == true) (.r (.int .i64 r3.W)))]) (fun _ => []) (fun D G1 hr => ⟨inE_op hr 4 rfl rfl (by kernel_rfl) rfl rfl, inE_op hr 6 rfl rfl (by kernel_rfl) rfl rfl, trivial⟩) (fun D G1 hr => trivial) (fun _ _ => rfl) (fun _ _ => (.one rfl rfl rfl)) (fun G1 e h' n => OpQ.spec (v := .r (.bool (decide (0 < r3.W)))) (sp_gtr rfl (.inr ⟨_, (by exact id), rfl⟩) (.inl rfl)) _),
     Ob.quiet (n1 := fun n => n) rfl rfl (by intro d h; cases h; rfl) rfl (fun _ => [(58, .r (.bool (decide (0 < r3.H)))), (61, .whn ((decide (0 < r3.H)) == true) (.r (.bool (decide (0 < r3.W)))))]) (fun _ => []) (fun D G1 hr => ⟨inE_op hr 4 rfl rfl (by kernel_rfl) rfl rfl, inE_op hr 7 rfl rfl (by kernel_rfl) rfl rfl, trivial⟩) (fun D G1 hr => trivial) (fun _ _ => rfl) (fun G1 e h' n => OpQ.spec (v := .r (.bool ((decide (0 < r3.H)) && (decide (0 < r3.W))))) (sp_and rfl (.inl rfl) (.inr ⟨_, (by exact id), rfl⟩)) _),
     Ob.quiet (n1 := fun n => n) rfl rfl (by intro d h; cases h; rfl) rfl (fun _ => [(62, .r (.bool ((decide (0 < r3.H)) && (decide (0 < r3.W)))))]) (fun _ => []) (fun D G1 hr => ⟨inE_op hr 8 rfl rfl (by kernel_rfl) rfl rfl, trivial⟩) (fun D G1 hr => trivial) (fun _ _ => rfl) (fun G1 e h' n => OpQ.spec (v := .r (.bool ((decide (0 < r3.H)) && (decide (0 < r3.W))))) (sp_move rfl (.inl rfl)) _),
     Ob.quietG (n1 := fun n => n) (c := (((decide (0 < r3.H)) && (decide (0 < r3.W))) == true)) (v0 := fun _ => .ptr 3 n0 0 2) rfl (by intro d h; cases h; rfl) rfl (fun _ => [(3, .ptr 3 n0 0 0), (63, .r (.bool ((decide (0 < r3.H)) && (decide (0 < r3.W)))))]) (fun _ => [(3, some (.box n0 64 [.r (.int .i64 r3.Row), .r (.int .i64 r3.Col), .r (.int .i64 r3.H), .r (.int .i64 r3.W)]))]) (fun D G1 hr => ⟨inE_base rfl rfl, inE_op hr 9 rfl rfl (by kernel_rfl) rfl rfl, trivial⟩) (fun D G1 hr => ⟨inH_base rfl rfl, trivial⟩) (fun _ _ => rfl) (fun _ _ => (.one rfl rfl rfl)) (fun G1 e h' n => OpQ.spec (v := .ptr 3 n0 0 2) (sp_fieldAddr_own (ob := .box _ _ _) rfl tf_64_2 (.inl rfl) (fun _ => rfl) rfl) _),
     Ob.quietG (n1 := fun n => n) (c := (((decide (0 < r3.H)) && (decide (0 < r3.W))) == true)) (v0 := fun _ => .r (.int .i64 r3.H)) rfl (by intro d h; cases h; rfl) rfl (fun _ => [(63, .r (.bool ((decide (0 < r3.H)) && (decide (0 < r3.W))))), (64, .whn (((decide (0 < r3.H)) && (decide (0 < r3.W))) == true) (.ptr 3 n0 0 2))]) (fun _ => [(3, some (.box n0 64 [.r (.int .i64 r3.Row), .r (.int .i64 r3.Col), .r (.int .i64 r3.H), .r (.int .i64 r3.W)]))]) (fun D G1 hr => ⟨inE_op hr 9 rfl rfl (by kernel_rfl) rfl rfl, inE_op hr 10 rfl rfl (by kernel_rfl) rfl rfl, trivial⟩) (fun D G1 hr => ⟨inH_base rfl rfl, trivial⟩) (fun _ _ => rfl) (fun _ _ => (.one rfl rfl rfl)) (fun G1 e h' n => OpQ.spec (v := .r (.int .i64 r3.H)) (ms_load_box (a := .r (.int .i64 r3.H)) rfl ts_3 (.inr ⟨_, (by exact id), rfl⟩) rfl rfl) _),
     Ob.quietG (n1 := fun n => n) (c := (((decide (0 < r3.H)) && (decide (0 < r3.W))) == true)) (v0 := fun _ => .ptr 3 n0 0 3) rfl (by intro d h; cases h; rfl) rfl (fun _ => [(3, .ptr 3 n0 0 0), (63, .r (.bool ((decide (0 < r3.H)) && (decide (0 < r3.W)))))]) (fun _ => [(3, some (.box n0 64 [.r (.int .i64 r3.Row), .r (.int .i64 r3.Col), .r (.int .i64 r3.H), .r (.int .i64 r3.W)]))]) (fun D G1 hr => ⟨inE_base rfl rfl, inE_op hr 9 rfl rfl (by kernel_rfl) rfl rfl, trivial⟩) (fun D G1 hr => ⟨inH_base rfl rfl, trivial⟩) (fun _ _ => rfl) (fun _ _ => (.one rfl rfl rfl)) (fun G1 e h' n => OpQ.spec (v := .ptr 3 n0 0 3) (sp_fieldAddr_own (ob := .box _ _ _) rfl tf_64_3 (.inl rfl) (fun _ => rfl) rfl) _),
     Ob.quietG (n1 := fun n => n) (c := (((decide (0 < r3.H)) && (decide (0 < r3.W))) == true)) (v0 := fun _ => .r (.int .i64 r3.W)) rfl (by intro d h; cases h; rfl) rfl (fun _ => [(63, .r (.bool ((decide (0 < r3.H)) && (decide (0 < r3.W))))), (66, .whn (((decide (0 < r3.H)) && (decide (0 < r3.W))) == true) (.ptr 3 n0 0 3))]) (fun _ => [(3, some (.box n0 64 [.r (.int .i64 r3.Row), .r (.int .i64 r3.Col), .r (.int .i64 r3.H), .r (.int .i64 r3.W)]))]) (fun D G1 hr => ⟨inE_op hr 9 rfl rfl (by kernel_rfl) rfl rfl, inE_op hr 12 rfl rfl (by kernel_rfl) rfl rfl, trivial⟩) (fun D G1 hr => ⟨inH_base rfl rfl, trivial⟩) (fun _ _ => rfl) (fun _ _ => (.one rfl rfl rfl)) (fun G1 e h' n => OpQ.spec (v := .r (.int .i64 r3.W)) (ms_load_box (a := .r (.int .i64 r3.W)) rfl ts_3 (.inr ⟨_, (by exact id), rfl⟩) rfl rfl) _),
     Ob.quietG (n1 := fun n => n) (c := (((decide (0 < r3.H)) && (decide (0 < r3.W))) == true)) (v0 := fun _ => .r (.int .i64 x1)) rfl (by intro d h; cases h; rfl) rfl (fun _ => [(63, .r (.bool ((decide (0 < r3.H)) && (decide (0 < r3.W))))), (65, .whn (((decide (0 < r3.H)) && (decide (0 < r3.W))) == true) (.r (.int .i64 r3.H))), (67, .whn (((decide (0 < r3.H)) && (decide (0 < r3.W))) == true) (.r (.int .i64 r3.W)))]) (fun _ => []) (fun D G1 hr => ⟨inE_op hr 9 rfl rfl (by kernel_rfl) rfl rfl, inE_op hr 11 rfl rfl (by kernel_rfl) rfl rfl, inE_op hr 13 rfl rfl (by kernel_rfl) rfl rfl, trivial⟩) (fun D G1 hr => trivial) (fun _ _ => rfl) (fun _ _ => (.one rfl rfl rfl)) (fun G1 e h' n => OpQ.spec (v := .r (.int .i64 x1)) (ms_add rfl (.inr ⟨_, (by exact id), rfl⟩) (.inr ⟨_, (by exact id), rfl⟩) (gdt ex1)) _),
     Ob.quietG (n1 := fun n => n) (c := (((decide (0 < r3.H)) && (decide (0 < r3.W))) == true)) (v0 := fun _ => .r (.bool (decide (2 < x1)))) rfl (by intro d h; cases h; rfl) rfl (fun _ => [(63, .r (.bool ((decide (0 < r3.H)) && (decide (0 < r3.W))))), (68, .whn (((decide (0 < r3.H)) && (decide (0 < r3.W))) == true) (.r (.int .i64 x1)))]) (fun _ => []) (fun D G1 hr => ⟨inE_op hr 9 rfl rfl (by kernel_rfl) rfl rfl, inE_op hr 14 rfl rfl (by kernel_rfl) rfl rfl, trivial⟩) (fun D G1 hr => trivial) (fun _ _ => rfl) (fun _ _ => (.one rfl rfl rfl)) (fun G1 e h' n => OpQ.spec (v := .r (.bool (decide (2 < x1)))) (sp_gtr rfl (.inr ⟨_, (by exact id), rfl⟩) (.inl rfl)) _),
     Ob.quiet (n1 := fun n => n) rfl rfl (by intro d h; cases h; rfl) rfl (fun _ => [(63, .r (.bool ((decide (0 < r3.H)) && (decide (0 < r3.W))))), (69, .whn (((decide (0 < r3.H)) && (decide (0 < r3.W))) == true) (.r (.bool (decide (2 < x1)))))]) (fun _ => []) (fun D G1 hr => ⟨inE_op hr 9 rfl rfl (by kernel_rfl) rfl rfl, inE_op hr 15 rfl rfl (by kernel_rfl) rfl rfl, trivial⟩) (fun D G1 hr => trivial) (fun _ _ => rfl) (fun G1 e h' n => OpQ.spec (v := .r (.bool (((decide (0 < r3.H)) && (decide (0 < r3.W))) && (decide (2 < x1))))) (sp_and rfl (.inl rfl) (.inr ⟨_, (by exact id), rfl⟩)) _),
     Ob.make (n1 := fun n => n) rfl rfl (by intro d h; cases h) rfl (fun _ => [(6, .ptr 6 (n0 + 1) 0 0), (54, .agg [.r (.int .i64 r3.Row), .r (.int .i64 r3.Col), .r (.int .i64 r3.H), .r (.int .i64 r3.W)])]) (fun _ => [(6, some (.box (n0 + 1) 64 [.r (.int .i64 0), .r (.int .i64 0), .r (.int .i64 0), .r (.int .i64 0)]))]) (fun D G1 hr => ⟨inE_base rfl rfl, inE_op hr 0 rfl rfl (by kernel_rfl) rfl rfl, trivial⟩) (fun D G1 hr => ⟨inH_baseL hr (by kernel_rfl) rfl, trivial⟩) (fun G1 e h' n => ms_store_box (ds := [.r (.int .i64 r3.Row), .r (.int .i64 r3.Col), .r (.int .i64 r3.H), .r (.int .i64 r3.W)]) rfl tz_64 (.inl rfl) rfl (.inl rfl) rfl rfl rfl rfl),
     trivial⟩) fun G1 n1 => ?_
   refine AOps.weak (s' := ⟨[(3, .ptr 3 n0 0 0), (6, .ptr 6 (n0 + 1) 0 0), (54, .agg [.r (.int .i64 r3.Row), .r (.int .i64 r3.Col), .r (.int .i64 r3.H), .r (.int .i64 r3.W)]), (55, .ptr 3 n0 0 2), (56, .r (.int .i64 r3.H)), (57, .r (.bool (decide (0 < r3.H)))), (58, .r (.bool (decide (0 < r3.H)))), (59, .whn ((decide (0 < r3.H)) == true) (.ptr 3 n0 0 3)), (60, .whn ((decide (0 < r3.H)) == true) (.r (.int .i64 r3.W))), (61, .whn ((decide (0 < r3.H)) == true) (.r (.bool (decide (0 < r3.W))))), (62, .r (.bool ((decide (0 < r3.H)) && (decide (0 < r3.W))))), (63, .r (.bool ((decide (0 < r3.H)) && (decide (0 < r3.W))))), (64, .whn (((decide (0 < r3.H)) && (decide (0 < r3.W))) == true) (.ptr 3 n0 0 2)), (65, .whn (((decide (0 < r3.H)) && (decide (0 < r3.W))) == true) (.r (.int .i64 r3.H))), (66, .whn (((decide (0 < r3.H)) && (decide (0 < r3.W))) == true) (.ptr 3 n0 0 3)), (67, .whn (((decide (0 < r3.H)) && (decide (0 < r3.W))) == true) (.r (.int .i64 r3.W))), (68, .whn (((decide (0 < r3.H)) && (decide (0 < r3.W))) == true) (.r (.int .i64 x1))), (69, .whn (((decide (0 < r3.H)) && (decide (0 < r3.W))) == true) (.r (.bool (decide (2 < x1))))), (70, .r (.bool (((decide (0 < r3.H)) && (decide (0 < r3.W))) && (decide (2 < x1)))))], [(3, some (.box n0 64 [.r (.int .i64 r3.Row), .r (.int .i64 r3.Col), .r (.int .i64 r3.H), .r (.int .i64 r3.W)])), (6, some (.box (n0 + 1) 64 [.r (.int .i64 r3.Row), .r (.int .i64 r3.Col), .r (.int .i64 r3.H), .r (.int .i64 r3.W)]))], n1, 71⟩) (by exact Weak.cv ⟨jL, jL, jL, jL, jL, jL, jL, jL, jL, jL, jL, jL, jL, jL, jL, jL, jL, jL, jL, trivial⟩ ⟨.inl rfl, .inl rfl, trivial⟩ nL) ?_
   refine sQ rfl (sp_assign rfl iL) ?_
   refine AOps.nil (hK6 _ ?_)
   refine AW.ret ?_
   exact retf2 (P := Tryd.prog) (fun (r : GRect × Bool) => .agg [.r (.int .i64 r.1.Row), .r (.int .i64 r.1.Col), .r (.int .i64 r.1.H), .r (.int .i64 r.1.W)]) (fun (r : GRect × Bool) => .r (.bool r.2)) h3 iL (.a ta_64 rfl rfl rfl (.g (cs := [.int .i64 r3.Row, .int .i64 r3.Col, .int .i64 r3.H, .int .i64 r3.W]) rfl rfl)) (.t (.d rfl))
  refine AW.cond rfl (fun hc1 => ?_) (fun hc1 => ?_)
  ·have h4 := ite_t hc1 hp2
   refine AW.seq_w fun K7 hK7 wK7 => ?_
   refine AW.region ?_
   refine sM rfl rfl ?_
   refine sQ rfl (sp_fieldAddr_own (ob := .box _ _ _) rfl tf_64_1 iL fR rfl) ?_
   refine sQ rfl (ms_load_box (a := .r (.int .i64 r2.Col)) rfl ts_3 iL rfl rfl) ?_
   refine sQ rfl (sp_fieldAddr_own (ob := .box _ _ _) rfl tf_64_1 iL fR rfl) ?_
   refine sQ rfl (ms_load_box (a := .r (.int .i64 r2.Col)) rfl ts_3 iL rfl rfl) ?_
   refine sQ rfl (sp_fieldAddr_own (ob := .box _ _ _) rfl tf_64_3 iL fR rfl) ?_
   refine sQ rfl (ms_load_box (a := .r (.int .i64 r2.W)) rfl ts_3 iL rfl rfl) ?_
   refine ob1k h4 fun x2 ex2 h5 => ?_
   refine sQ rfl (ms_add rfl iL iL (fun _ => ex2)) ?_
   refine ob2k h5 fun r4 r5 er4 h6 => ?_
   refine AOps.step rfl rfl rfl (sp_call (r := .tup [.r (.int .i64 r4), .r (.int .i64 r5)]) (caps := []) (bs := [.r (.sl (cols1.map GAxisStep.row)), .r (.int .i64 r2.Col), .r (.int .i64 x2)]) rfl iL rfl ⟨⟨_, iL, .d rfl⟩, ⟨_, iL, .d rfl⟩, ⟨_, iL, .d rfl⟩, trivial⟩ (fun _ => w_axis_Hull (er4)) rfl) ?_
   refine sM rfl rfl ?_
   refine sQ rfl (sp_extract (a := .r (.int .i64 r4)) rfl iL rfl) ?_
   refine sQ rfl (sp_extract (a := .r (.int .i64 r5)) rfl iL rfl) ?_
   refine sQ rfl (sp_assign rfl iL) ?_
   refine sQ rfl (sp_assign rfl iL) ?_
   refine AOps.nil (hK7 _ ?_)
   refine AW.weak (s' := ⟨[(3, .ptr 3 n0 0 0), (6, .ptr 6 (n0 + 1) 0 0), (10, .r (.int .i64 r4)), (11, .r (.int .i64 r5))], [(3, some (.box n0 64 [.r (.int .i64 r2.Row), .r (.int .i64 r2.Col), .r (.int .i64 r2.H), .r (.int .i64 r2.W)])), (6, some (.box (n0 + 1) 64 [.r (.int .i64 0), .r (.int .i64 0), .r (.int .i64 0), .r (.int .i64 0)]))], (i1 0), 71⟩) (by exact Weak.cv ⟨jL, jL, jL, jL, trivial⟩ ⟨.inl rfl, .inl rfl, trivial⟩ nL) ?_
   refine AW.region ?_
   refine sM rfl rfl ?_
   refine sM rfl rfl ?_
   refine sM rfl rfl ?_
   refine ob1k h6 fun x3 ex3 h7 => ?_
   refine sQ rfl (ms_sub rfl iL iL (fun _ => ex3)) ?_
   refine sQ rfl (sp_fieldAddr_own (ob := .box _ _ _) rfl tf_64_1 iL fR rfl) ?_
   refine AOps.step0 rfl rfl (ms_store_box (ds := [.r (.int .i64 r2.Row), .r (.int .i64 r4), .r (.int .i64 r2.H), .r (.int .i64 r2.W)]) rfl tz_3 iL rfl iL rfl rfl rfl rfl) ?_
   refine sQ rfl (sp_fieldAddr_own (ob := .box _ _ _) rfl tf_64_3 iL fR rfl) ?_
   refine AOps.step0 rfl rfl (ms_store_box (ds := [.r (.int .i64 r2.Row), .r (.int .i64 r4), .r (.int .i64 r2.H), .r (.int .i64 x3)]) rfl tz_3 iL rfl iL rfl rfl rfl rfl) ?_
   refine AOps.nil ?_
   exact wK4 _ _ ((by exact Weak.cv ⟨jL, jL, trivial⟩ ⟨.inl rfl, .inl rfl, trivial⟩ nL)) (J2 _ (vec [(i1 0)]) (Option.some.inj h7).symm)
  ·have h4 := ite_f hc1 hp2
   refine AW.skip ?_
   exact wK4 _ _ ((by exact Weak.cv ⟨jL, jL, trivial⟩ ⟨.inl rfl, .inl rfl, trivial⟩ nL)) (J2 _ (vec [(i1 0)]) (Option.some.inj h4).symm)
 refine AW.cond rfl (fun hc2 => ?_) (fun hc2 => ?_)
 ·have h8 := ite_t hc2 hp1
  refine AW.seq_w fun K8 hK8 wK8 => ?_
  refine AW.region ?_
  refine sM rfl rfl ?_
  refine sQ rfl (sp_fieldAddr_own (ob := .box _ _ _) rfl tf_64_0 iL fR rfl) ?_
  refine sQ rfl (ms_load_box (a := .r (.int .i64 r1.Row)) rfl ts_3 iL rfl rfl) ?_
  refine sQ rfl (sp_fieldAddr_own (ob := .box _ _ _) rfl tf_64_0 iL fR rfl) ?_
  refine sQ rfl (ms_load_box (a := .r (.int .i64 r1.Row)) rfl ts_3 iL rfl rfl) ?_
  refine sQ rfl (sp_fieldAddr_own (ob := .box _ _ _) rfl tf_64_2 iL fR rfl) ?_
  refine sQ rfl (ms_load_box (a := .r (.int .i64 r1.H)) rfl ts_3 iL rfl rfl) ?_
  refine ob1k h8 fun x4 ex4 h9 => ?_
  refine sQ rfl (ms_add rfl iL iL (fun _ => ex4)) ?_
  refine ob2k h9 fun r6 r7 er6 h10 => ?_
  refine AOps.step rfl rfl rfl (sp_call (r := .tup [.r (.int .i64 r6), .r (.int .i64 r7)]) (caps := []) (bs := [.r (.sl (rows1.map GAxisStep.row)), .r (.int .i64 r1.Row), .r (.int .i64 x4)]) rfl iL rfl ⟨⟨_, iL, .d rfl⟩, ⟨_, iL, .d rfl⟩, ⟨_, iL, .d rfl⟩, trivial⟩ (fun _ => w_axis_Hull (er6)) rfl) ?_
  refine sM rfl rfl ?_
  refine sQ rfl (sp_extract (a := .r (.int .i64 r6)) rfl iL rfl) ?_
  refine sQ rfl (sp_extract (a := .r (.int .i64 r7)) rfl iL rfl) ?_
  refine sQ rfl (sp_assign rfl iL) ?_
  refine sQ rfl (sp_assign rfl iL) ?_
  refine AOps.nil (hK8 _ ?_)
  refine AW.weak (s' := ⟨[(2, .r (.sl (cols1.map GAxisStep.row))), (3, .ptr 3 n0 0 0), (6, .ptr 6 (n0 + 1) 0 0), (8, .r (.int .i64 r6)), (9, .r (.int .i64 r7))], [(3, some (.box n0 64 [.r (.int .i64 r1.Row), .r (.int .i64 r1.Col), .r (.int .i64 r1.H), .r (.int .i64 r1.W)])), (6, some (.box (n0 + 1) 64 [.r (.int .i64 0), .r (.int .i64 0), .r (.int .i64 0), .r (.int .i64 0)]))], (n0 + 2), 71⟩) (by exact Weak.cv ⟨jL, jL, jL, jL, jL, trivial⟩ ⟨.inl rfl, .inl rfl, trivial⟩ nL) ?_
  refine AW.region ?_
  refine sM rfl rfl ?_
  refine sM rfl rfl ?_
  refine sM rfl rfl ?_
  refine ob1k h10 fun x5 ex5 h11 => ?_
  refine sQ rfl (ms_sub rfl iL iL (fun _ => ex5)) ?_
  refine sQ rfl (sp_fieldAddr_own (ob := .box _ _ _) rfl tf_64_0 iL fR rfl) ?_
  refine AOps.step0 rfl rfl (ms_store_box (ds := [.r (.int .i64 r6), .r (.int .i64 r1.Col), .r (.int .i64 r1.H), .r (.int .i64 r1.W)]) rfl tz_3 iL rfl iL rfl rfl rfl rfl) ?_
  refine sQ rfl (sp_fieldAddr_own (ob := .box _ _ _) rfl tf_64_2 iL fR rfl) ?_
  refine AOps.step0 rfl rfl (ms_store_box (ds := [.r (.int .i64 r6), .r (.int .i64 r1.Col), .r (.int .i64 x5), .r (.int .i64 r1.W)]) rfl tz_3 iL rfl iL rfl rfl rfl rfl) ?_
  refine AOps.nil ?_
  exact wK2 _ _ ((by exact Weak.cv ⟨jL, jL, jL, trivial⟩ ⟨.inl rfl, .inl rfl, trivial⟩ nL)) (J1 _ (vec [(n0 + 2)]) (Option.some.inj h11).symm)
 ·have h8 := ite_f hc2 hp1
  refine AW.skip ?_
  exact wK2 _ _ ((by exact Weak.cv ⟨jL, jL, jL, trivial⟩ ⟨.inl rfl, .inl rfl, trivial⟩ nL)) (J1 _ (vec [(n0 + 2)]) (Option.some.inj h8).symm)
set_option maxHeartbeats 4000000 in
set_option maxRecDepth 20000 in
theorem w_slices_Index_api_Rect_api_Rect {s1 : List GRect} {v1 : GRect} {r : Int} (h : slices_Index_api_Rect_api_Rect s1 v1 = some r) : ARO Tryd.prog 145 [.r (.sl (s1.map GRect.row)), .agg [.r (.int .i64 v1.Row), .r (.int .i64 v1.Col), .r (.int .i64 v1.H), .r (.int .i64 v1.W)]] (.r (.int .i64 r)) := by
 unfold slices_Index_api_Rect_api_Rect at h
 refine ARO.mkF Tryd.func145 rfl rfl Tryd.ntmps145 rfl (Nat.le_of_ble_eq_true rfl) fun n0 => ?_
 refine AW.seq_w fun K1 hK1 wK1 => ?_
 refine AW.region ?_
 refine AOps.step rfl rfl rfl (ms_box (cs := [.r (.int .i64 v1.Row), .r (.int .i64 v1.Col), .r (.int .i64 v1.H), .r (.int .i64 v1.W)]) 3 rfl iL rfl rfl) ?_
 refine sQ rfl (sp_assign rfl iL) ?_
 refine AOps.nil (hK1 _ ?_)
 refine AW.seq_w fun K2 hK2 wK2 => ?_
 refine AW.seq_w fun K3 hK3 wK3 => ?_
 refine AW.region ?_
 refine sM rfl rfl ?_
 refine sQ rfl (ms_len rfl tg_30.slice iL) ?_
 refine sM rfl rfl ?_
 refine AOps.nil (hK3 _ ?_)
 refine AW.block ?_
 refine jc1k h fun o1 hit1 hk1 he1 => ?_
 have J1 : ∀ (u2 : Unit) (i5 : Nat → Nat), o1 = .nrm u2 → K2 ⟨[], [], (i5 0), 19⟩ := by
  intro u2 i5 e
  have h1 := hk1 _ e
  refine hK2 _ ?_
  refine AW.seq_w fun K4 hK4 wK4 => ?_
  refine AW.region ?_
  refine sQ rfl (sp_assign rfl iL) ?_
  refine AOps.nil (hK4 _ ?_)
  refine AW.ret ?_
  exact retf1 (P := Tryd.prog) (fun (r : Int) => .r (.int .i64 r)) h1 iL (.t (.d rfl))
 refine AW.iter1 (fun (x2 : Int) i3 => ⟨[(0, .r (.sl (s1.map GRect.row))), (3, .ptr 3 n0 0 0), (7, .r (.int .i64 (s1.length : Int))), (8, .r (.int .i64 x2))], [(3, some (.box n0 64 [.r (.int .i64 v1.Row), .r (.int .i64 v1.Col), .r (.int .i64 v1.H), .r (.int .i64 v1.W)]))], (i3 0), 19⟩) (vec [(n0 + 1)]) hit1 ((by exact Weak.cv ⟨jL, jL, jL, jL, trivial⟩ ⟨.inl rfl, trivial⟩ nL)) ?_
 intro x2 i3 v2 hv1 hx1
 have h2 : slices_Index_api_Rect_api_Rect_L1 s1 v1 x2 = some v2 := hv1; unfold slices_Index_api_Rect_api_Rect_L1 at h2
 refine AW.seq_w fun K5 hK5 wK5 => ?_
 refine AW.region ?_
 refine sQ rfl (sp_lss rfl iL iL) ?_
 refine AOps.nil (hK5 _ ?_)
 refine AW.seq_w fun K6 hK6 wK6 => ?_
 refine AW.cond rfl (fun hc1 => ?_) (fun hc1 => ?_)
 ·have h3 := ite_t hc1 h2
  refine AW.skip ?_
  refine hK6 _ ?_
  refine AW.seq_w fun K7 hK7 wK7 => ?_
  refine AW.block ?_
  refine AW.seq_w fun K8 hK8 wK8 => ?_
  refine AW.region ?_
  refine sM rfl rfl ?_
  refine sQ rfl (sp_assign rfl iL) ?_
  refine AOps.nil (hK8 _ ?_)
  refine AW.seq_w fun K9 hK9 wK9 => ?_
  refine AW.regionQ hmix (by kernel_rfl) ?_
  refine AQ.step rfl rfl rfl (ms_loadA_box rfl ta_64 iL rfl rfl) ?_
  refine AQ.step rfl rfl rfl (sp_move rfl iL) ?_
  refine AQ.step rfl rfl rfl (sp_move rfl iL) ?_
  refine ob1k h3 fun x4 ex4 h4 => ?_
  refine AQ.step rfl rfl rfl (ms_idx rfl tg_30.slice iL iL (fun _ => rfl) (fun _ => ex4)) ?_
  refine AQ.step rfl rfl rfl (ms_loadA (cs := [.r (.int .i64 x4.Row), .r (.int .i64 x4.Col), .r (.int .i64 x4.H), .r (.int .i64 x4.W)]) rfl ta_64 iL rfl rfl) ?_
  refine AQ.step rfl rfl rfl (sp_aggeql rfl te_64 (.inl rfl) (.inl rfl) rfl) ?_
  refine AQ.nil ?_
  refine hK9 _ ?_
  refine AW.cond rfl (fun hc2 => ?_) (fun hc2 => ?_)
  ·have h5 := ite_t hc2 h4
   refine AW.seq_w fun K10 hK10 wK10 => ?_
   refine AW.weak (s' := ⟨[(5, .r (.int .i64 x2))], [], (i3 0), 19⟩) (by exact Weak.cv ⟨jL, trivial⟩ trivial nL) ?_
   refine AW.region ?_
   refine sM rfl rfl ?_
   refine sQ rfl (sp_assign rfl iL) ?_
   refine AOps.nil (hK10 _ ?_)
   refine AW.ret ?_
   exact retf1 (P := Tryd.prog) (fun (r : Int) => .r (.int .i64 r)) (he1 _ (hx1 _ (Option.some.inj h5).symm)) iL (.t (.d rfl))
  ·have h5 := ite_f hc2 h4
   refine AW.skip ?_
   refine hK7 _ ?_
   refine AW.weak (s' := ⟨[(0, .r (.sl (s1.map GRect.row))), (3, .ptr 3 n0 0 0), (7, .r (.int .i64 (s1.length : Int))), (8, .r (.int .i64 x2))], [(3, some (.box n0 64 [.r (.int .i64 v1.Row), .r (.int .i64 v1.Col), .r (.int .i64 v1.H), .r (.int .i64 v1.W)]))], (i3 0), 19⟩) (by exact Weak.cv ⟨jL, jL, jL, jL, trivial⟩ ⟨.inl rfl, trivial⟩ nL) ?_
   refine AW.region ?_
   refine ob1k h5 fun x5 ex5 h6 => ?_
   refine sQ rfl (ms_add rfl iL iL (fun _ => ex5)) ?_
   refine sM rfl rfl ?_
   refine AOps.nil ?_
   exact NextQ1.mk h6 (vec [(i3 0)]) ((by exact Weak.cv ⟨jL, jL, jL, jL, trivial⟩ ⟨.inl rfl, trivial⟩ nL))
 ·have h3 := ite_f hc1 h2
  refine AW.exit ?_
  exact wK2 _ _ ((by exact Weak.cv trivial trivial nL)) (J1 _ (vec [(i3 0)]) (hx1 _ (Option.some.inj h3).symm))
set_option maxHeartbeats 4000000 in
set_option maxRecDepth 20000 in
theorem w_slices_Contains_api_Rect_api_Rect {s1 : List GRect} {v1 : GRect} {r : Bool} (h : slices_Contains_api_Rect_api_Rect s1 v1 = some r) : ARO Tryd.prog 122 [.r (.sl (s1.map GRect.row)), .agg [.r (.int .i64 v1.Row), .r (.int .i64 v1.Col), .r (.int .i64 v1.H), .r (.int .i64 v1.W)]] (.r (.bool r)) := by
 unfold slices_Contains_api_Rect_api_Rect at h
 refine ARO.mkF Tryd.func122 rfl rfl Tryd.ntmps122 rfl (Nat.le_of_ble_eq_true rfl) fun n0 => ?_
 refine AW.seq_w fun K1 hK1 wK1 => ?_
 refine AW.region ?_
 refine AOps.step rfl rfl rfl (ms_box (cs := [.r (.int .i64 v1.Row), .r (.int .i64 v1.Col), .r (.int .i64 v1.H), .r (.int .i64 v1.W)]) 3 rfl iL rfl rfl) ?_
 refine sQ rfl (sp_assign rfl iL) ?_
 refine AOps.nil (hK1 _ ?_)
 refine AW.seq_w fun K2 hK2 wK2 => ?_
 refine AW.region ?_
 refine sM rfl rfl ?_
 refine sQ rfl (ms_loadA_box rfl ta_64 iL rfl rfl) ?_
 refine ob1k h fun r1 er1 h1 => ?_
 refine AOps.step rfl rfl rfl (sp_call (r := .r (.int .i64 r1)) (caps := []) (bs := [.r (.sl (s1.map GRect.row)), .agg [.r (.int .i64 v1.Row), .r (.int .i64 v1.Col), .r (.int .i64 v1.H), .r (.int .i64 v1.W)]]) rfl iL rfl ⟨⟨_, iL, .d rfl⟩, ⟨_, iL, .g (cs := [.int .i64 v1.Row, .int .i64 v1.Col, .int .i64 v1.H, .int .i64 v1.W]) rfl rfl⟩, trivial⟩ (fun _ => w_slices_Index_api_Rect_api_Rect (er1)) rfl) ?_
 refine sQ rfl (sp_geq rfl iL iL) ?_
 refine sQ rfl (sp_assign rfl iL) ?_
 refine AOps.nil (hK2 _ ?_)
 refine AW.ret ?_
 exact retf1 (P := Tryd.prog) (fun (r : Bool) => .r (.bool r)) h1 iL (.t (.d rfl))
set_option maxHeartbeats 4000000 in
set_option maxRecDepth 20000 in
theorem w_math_bits_Len64 {x1 : Int} {r : Int} (h : math_bits_Len64 x1 = some r) : ARO Tryd.prog 161 [.r (.int .u64 x1)] (.r (.int .i64 r)) := by
 unfold math_bits_Len64 at h
 refine ARO.mkF Tryd.func161 rfl rfl Tryd.ntmps161 rfl (Nat.le_of_ble_eq_true rfl) fun n0 => ?_
 refine AW.seq_w fun K1 hK1 wK1 => ?_
 refine AW.region ?_
 refine sQ rfl (sp_assign rfl iL) ?_
 refine AOps.nil (hK1 _ ?_)
 refine AW.seq_w fun K2 hK2 wK2 => ?_
 refine AW.seq_w fun K3 hK3 wK3 => ?_
 refine AW.region ?_
 refine sM rfl rfl ?_
 refine sQ rfl (sp_geq rfl iL iL) ?_
 refine AOps.nil (hK3 _ ?_)
 refine jb2k h fun p1 hp1 hk1 => ?_
 have J1 : ∀ (x2 : Int) (n1 : Int) (i1 : Nat → Nat), p1 = (x2, n1) → K2 ⟨[(0, .r (.int .u64 x2)), (2, .r (.int .i64 n1))], [], (i1 0), 25⟩ := by
  intro x2 n1 i1 e
  have h1 := hk1 _ _ e
  refine hK2 _ ?_
  refine AW.seq_w fun K4 hK4 wK4 => ?_
  refine AW.seq_w fun K5 hK5 wK5 => ?_
  refine AW.region ?_
  refine sM rfl rfl ?_
  refine sQ rfl (sp_geq rfl iL iL) ?_
  refine AOps.nil (hK5 _ ?_)
  refine jb2k h1 fun p2 hp2 hk2 => ?_
  have J2 : ∀ (x3 : Int) (n2 : Int) (i2 : Nat → Nat), p2 = (x3, n2) → K4 ⟨[(0, .r (.int .u64 x3)), (2, .r (.int .i64 n2))], [], (i2 0), 25⟩ := by
   intro x3 n2 i2 e
   have h2 := hk2 _ _ e
   refine hK4 _ ?_
   refine AW.seq_w fun K6 hK6 wK6 => ?_
   refine AW.seq_w fun K7 hK7 wK7 => ?_
   refine AW.region ?_
   refine sM rfl rfl ?_
   refine sQ rfl (sp_geq rfl iL iL) ?_
   refine AOps.nil (hK7 _ ?_)
   refine jb2k h2 fun p3 hp3 hk3 => ?_
   have J3 : ∀ (x4 : Int) (n3 : Int) (i3 : Nat → Nat), p3 = (x4, n3) → K6 ⟨[(0, .r (.int .u64 x4)), (2, .r (.int .i64 n3))], [], (i3 0), 25⟩ := by
    intro x4 n3 i3 e
    have h3 := hk3 _ _ e
    refine hK6 _ ?_
    refine AW.seq_w fun K8 hK8 wK8 => ?_
    refine AW.region ?_
    refine sM rfl rfl ?_
    refine sM rfl rfl ?_
    refine sQ rfl (sp_convert_int rfl Tryd.underlying162 Tryd.underlying5 iL) ?_
    refine ob1k h3 fun ch1 ech1 h4 => ?_
    refine sQ rfl (ms_idx_str rfl Tryd.underlying9 iL iL (fun _ => ech1)) ?_
    refine sQ rfl (sp_convert_int rfl Tryd.underlying5 Tryd.underlying3 iL) ?_
    refine ob1k h4 fun n4 en4 h5 => ?_
    refine sQ rfl (ms_add rfl iL iL (fun _ => en4)) ?_
    refine sQ rfl (sp_assign rfl iL) ?_
    refine AOps.nil (hK8 _ ?_)
    refine AW.ret ?_
    exact retf1 (P := Tryd.prog) (fun (r : Int) => .r (.int .i64 r)) h5 iL (.t (.d rfl))
   refine AW.cond rfl (fun hc1 => ?_) (fun hc1 => ?_)
   ·have h6 := ite_t hc1 hp3
    refine AW.seq_w fun K9 hK9 wK9 => ?_
    refine AW.region ?_
    refine sM rfl rfl ?_
    refine sQ rfl (sp_shr (b := 8) rfl iL iL) ?_
    refine sQ rfl (sp_assign rfl iL) ?_
    refine AOps.nil (hK9 _ ?_)
    refine AW.region ?_
    refine sM rfl rfl ?_
    refine ob1k h6 fun n5 en5 h7 => ?_
    refine sQ rfl (ms_add rfl iL iL (fun _ => en5)) ?_
    refine sQ rfl (sp_assign rfl iL) ?_
    refine AOps.nil ?_
    exact wK6 _ _ ((by exact Weak.cv ⟨jL, jL, trivial⟩ trivial nL)) (J3 _ _ (vec [(i2 0)]) (Option.some.inj h7).symm)
   ·have h6 := ite_f hc1 hp3
    refine AW.skip ?_
    exact wK6 _ _ ((by exact Weak.cv ⟨jL, jL, trivial⟩ trivial nL)) (J3 _ _ (vec [(i2 0)]) (Option.some.inj h6).symm)
  refine AW.cond rfl (fun hc2 => ?_) (fun hc2 => ?_)
  ·have h8 := ite_t hc2 hp2
   refine AW.seq_w fun K10 hK10 wK10 => ?_
   refine AW.region ?_
   refine sM rfl rfl ?_
   refine sQ rfl (sp_shr (b := 16) rfl iL iL) ?_
   refine sQ rfl (sp_assign rfl iL) ?_
   refine AOps.nil (hK10 _ ?_)
   refine AW.region ?_
   refine sM rfl rfl ?_
   refine ob1k h8 fun n6 en6 h9 => ?_
   refine sQ rfl (ms_add rfl iL iL (fun _ => en6)) ?_
   refine sQ rfl (sp_assign rfl iL) ?_
   refine AOps.nil ?_
   exact wK4 _ _ ((by exact Weak.cv ⟨jL, jL, trivial⟩ trivial nL)) (J2 _ _ (vec [(i1 0)]) (Option.some.inj h9).symm)
  ·have h8 := ite_f hc2 hp2
   refine AW.skip ?_
   exact wK4 _ _ ((by exact Weak.cv ⟨jL, jL, trivial⟩ trivial nL)) (J2 _ _ (vec [(i1 0)]) (Option.some.inj h8).symm)
 refine AW.cond rfl (fun hc3 => ?_) (fun hc3 => ?_)
 ·have h10 := ite_t hc3 hp1
  refine AW.seq_w fun K11 hK11 wK11 => ?_
  refine AW.region ?_
  refine sM rfl rfl ?_
  refine sQ rfl (sp_shr (b := 32) rfl iL iL) ?_
  refine sQ rfl (sp_assign rfl iL) ?_
  refine AOps.nil (hK11 _ ?_)
  refine AW.region ?_
  refine sQ rfl (sp_assign rfl iL) ?_
  refine AOps.nil ?_
  exact wK2 _ _ ((by exact Weak.cv ⟨jL, jL, trivial⟩ trivial nL)) (J1 _ _ (vec [n0]) (Option.some.inj h10).symm)
 ·have h10 := ite_f hc3 hp1
  refine AW.skip ?_
  exact wK2 _ _ ((by exact Weak.cv ⟨jL, jL, trivial⟩ trivial nL)) (J1 _ _ (vec [n0]) (Option.some.inj h10).symm)
set_option maxHeartbeats 4000000 in
set_option maxRecDepth 20000 in
theorem w_math_bits_Len {x1 : Int} {r : Int} (h : math_bits_Len x1 = some r) : ARO Tryd.prog 147 [.r (.int .u64 x1)] (.r (.int .i64 r)) := by
 unfold math_bits_Len at h
 refine ARO.mkF Tryd.func147 rfl rfl Tryd.ntmps147 rfl (Nat.le_of_ble_eq_true rfl) fun n0 => ?_
 refine AW.seq_w fun K1 hK1 wK1 => ?_
 refine AW.region ?_
 refine sQ rfl (sp_assign rfl iL) ?_
 refine AOps.nil (hK1 _ ?_)
 refine AW.seq_w fun K2 hK2 wK2 => ?_
 refine AW.cond rfl (fun hc1 => by cases hc1) (fun hc1 => ?_)
 refine AW.skip ?_
 refine hK2 _ ?_
 refine AW.seq_w fun K3 hK3 wK3 => ?_
 refine AW.region ?_
 refine sM rfl rfl ?_
 refine ob1k h fun r1 er1 h1 => ?_
 refine AOps.step rfl rfl rfl (sp_call (r := .r (.int .i64 r1)) (caps := []) (bs := [.r (.int .u64 x1)]) rfl iL rfl ⟨⟨_, iL, .d rfl⟩, trivial⟩ (fun _ => w_math_bits_Len64 (er1)) rfl) ?_
 refine sQ rfl (sp_assign rfl iL) ?_
 refine AOps.nil (hK3 _ ?_)
 refine AW.ret ?_
 exact retf1 (P := Tryd.prog) (fun (r : Int) => .r (.int .i64 r)) h1 iL (.t (.d rfl))
set_option maxHeartbeats 4000000 in
set_option maxRecDepth 20000 in
theorem w_slices_insertionSortCmpFunc_api_Rect__Raw_f2 {data1 : List GRect} {a1 : Int} {b1 : Int} {r : Unit} (h : slices_insertionSortCmpFunc_api_Rect__Raw_f2 data1 a1 b1 = some r) : ARO Tryd.prog 152 [.r (.sl (data1.map GRect.row)), .r (.int .i64 a1), .r (.int .i64 b1), .fn 126 []] (.tup []) := by
 unfold slices_insertionSortCmpFunc_api_Rect__Raw_f2 at h
 refine ARO.mkF Tryd.func152 rfl rfl Tryd.ntmps152 rfl (Nat.le_of_ble_eq_true rfl) fun n0 => ?_
 refine AW.seq_w fun K1 hK1 wK1 => ?_
 refine AW.region ?_
 refine sM rfl rfl ?_
 refine ob1k h fun i1 ei1 h1 => ?_
 refine sQ rfl (ms_add rfl iL iL (fun _ => ei1)) ?_
 refine sQ rfl (sp_assign rfl iL) ?_
 refine AOps.nil (hK1 _ ?_)
 refine AW.block ?_
 refine jc1k h1 fun o1 hit1 hk1 he1 => ?_
 refine AW.iter1 (fun (u1 : Unit) i2 => ⟨[(0, .r (.sl (data1.map GRect.row))), (1, .r (.int .i64 a1)), (2, .r (.int .i64 b1)), (3, .fn 126 []), (8, .r (.int .i64 i1))], [], (i2 0), 53⟩) (vec [n0]) hit1 ((by exact Weak.cv ⟨jL, jL, jL, jL, jL, trivial⟩ trivial nL)) ?_
 intro u1 i2 v1 hv1 hx1
 have h2 : slices_insertionSortCmpFunc_api_Rect__Raw_f2_L1 b1 i1 u1 = some v1 := hv1; unfold slices_insertionSortCmpFunc_api_Rect__Raw_f2_L1 at h2
 refine AW.seq_w fun K2 hK2 wK2 => ?_
 refine AW.seq_w fun K3 hK3 wK3 => ?_
 refine AW.region ?_
 refine sM rfl rfl ?_
 refine sM rfl rfl ?_
 refine sQ rfl (sp_lss rfl iL iL) ?_
 refine AOps.nil (hK3 _ ?_)
 refine AW.cond rfl (fun hc1 => ?_) (fun hc1 => ?_)
 ·have h3 := ite_t hc1 h2
  refine AW.skip ?_
  refine hK2 _ ?_
  refine AW.seq_w fun K4 hK4 wK4 => ?_
  refine AW.block ?_
  refine AW.seq_w fun K5 hK5 wK5 => ?_
  exact giveup h3
 ·have h3 := ite_f hc1 h2
  refine AW.exit ?_
  exact retf0 (P := Tryd.prog)  (he1 _ (hx1 _ (Option.some.inj h3).symm)) (.inr rfl) 
set_option maxHeartbeats 4000000 in
set_option maxRecDepth 20000 in
theorem w_slices_pdqsortCmpFunc_api_Rect__Raw_f2 {data1 : List GRect} {a1 : Int} {b1 : Int} {limit1 : Int} {r : Unit} (h : slices_pdqsortCmpFunc_api_Rect__Raw_f2 data1 a1 b1 limit1 = some r) : ARO Tryd.prog 146 [.r (.sl (data1.map GRect.row)), .r (.int .i64 a1), .r (.int .i64 b1), .r (.int .i64 limit1), .fn 126 []] (.tup []) := by
 unfold slices_pdqsortCmpFunc_api_Rect__Raw_f2 at h
 refine ARO.mkF Tryd.func146 rfl rfl Tryd.ntmps146 rfl (Nat.le_of_ble_eq_true rfl) fun n0 => ?_
 refine AW.seq_w fun K1 hK1 wK1 => ?_
 refine AW.region ?_
 refine sQ rfl (sp_assign rfl iL) ?_
 refine AOps.nil (hK1 _ ?_)
 refine AW.seq_w fun K2 hK2 wK2 => ?_
 refine AW.region ?_
 refine sQ rfl (sp_assign rfl iL) ?_
 refine AOps.nil (hK2 _ ?_)
 refine AW.block ?_
 refine jc1k h fun o1 hit1 hk1 he1 => ?_
 refine AW.iter1 (fun (u1 : Unit) i1 => ⟨[(0, .r (.sl (data1.map GRect.row))), (1, .r (.int .i64 a1)), (2, .r (.int .i64 b1)), (3, .r (.int .i64 limit1)), (4, .fn 126 []), (10, .r (.bool true)), (11, .r (.bool true))], [], (i1 0), 148⟩) (vec [n0]) hit1 ((by exact Weak.cv ⟨jL, jL, jL, jL, jL, jL, jL, trivial⟩ trivial nL)) ?_
 intro u1 i1 v1 hv1 hx1
 have h1 : slices_pdqsortCmpFunc_api_Rect__Raw_f2_L1 data1 a1 b1 u1 = some v1 := hv1; unfold slices_pdqsortCmpFunc_api_Rect__Raw_f2_L1 at h1
 refine AW.block ?_
 refine AW.seq_w fun K3 hK3 wK3 => ?_
 refine AW.region ?_
 refine sM rfl rfl ?_
 refine sM rfl rfl ?_
 refine ob1k h1 fun length1 elength1 h2 => ?_
 refine sQ rfl (ms_sub rfl iL iL (fun _ => elength1)) ?_
 refine sQ rfl (sp_assign rfl iL) ?_
 refine AOps.nil (hK3 _ ?_)
 refine AW.seq_w fun K4 hK4 wK4 => ?_
 refine AW.seq_w fun K5 hK5 wK5 => ?_
 refine AW.region ?_
 refine sM rfl rfl ?_
 refine sQ rfl (sp_leq rfl iL iL) ?_
 refine AOps.nil (hK5 _ ?_)
 refine AW.cond rfl (fun hc1 => ?_) (fun hc1 => ?_)
 ·have h3 := ite_t hc1 h2
  refine AW.seq_w fun K6 hK6 wK6 => ?_
  refine AW.weak (s' := ⟨[(0, .r (.sl (data1.map GRect.row))), (1, .r (.int .i64 a1)), (2, .r (.int .i64 b1)), (4, .fn 126 [])], [], (i1 0), 148⟩) (by exact Weak.cv ⟨jL, jL, jL, jL, trivial⟩ trivial nL) ?_
  refine AW.region ?_
  refine sM rfl rfl ?_
  refine sM rfl rfl ?_
  refine sM rfl rfl ?_
  refine sM rfl rfl ?_
  refine ob1k h3 fun u4 eu4 h4 => ?_
  refine AOps.step rfl rfl rfl (sp_call (r := .tup []) (caps := []) (bs := [.r (.sl (data1.map GRect.row)), .r (.int .i64 a1), .r (.int .i64 b1), .fn 126 []]) rfl iL rfl ⟨⟨_, iL, .d rfl⟩, ⟨_, iL, .d rfl⟩, ⟨_, iL, .d rfl⟩, ⟨_, iL, .one (.closed (.fn 126 []) rfl)⟩, trivial⟩ (fun _ => w_slices_insertionSortCmpFunc_api_Rect__Raw_f2 (eu4)) rfl) ?_
  refine AOps.nil (hK6 _ ?_)
  refine AW.ret ?_
  exact retf0 (P := Tryd.prog)  (he1 _ (hx1 _ (Option.some.inj h4).symm)) iL 
 ·have h3 := ite_f hc1 h2
  refine AW.skip ?_
  refine hK4 _ ?_
  refine AW.seq_w fun K7 hK7 wK7 => ?_
  refine AW.seq_w fun K8 hK8 wK8 => ?_
  exact giveup h3
set_option maxHeartbeats 4000000 in
set_option maxRecDepth 20000 in
theorem w_slices_SortFunc_api_Rect_api_Rect__Raw_f2 {x1 : List GRect} {r : Unit} (h : slices_SortFunc_api_Rect_api_Rect__Raw_f2 x1 = some r) : ARO Tryd.prog 125 [.r (.sl (x1.map GRect.row)), .fn 126 []] (.tup []) := by
 unfold slices_SortFunc_api_Rect_api_Rect__Raw_f2 at h
 refine ARO.mkF Tryd.func125 rfl rfl Tryd.ntmps125 rfl (Nat.le_of_ble_eq_true rfl) fun n0 => ?_
 refine AW.seq_w fun K1 hK1 wK1 => ?_
 refine AW.region ?_
 refine sM rfl rfl ?_
 refine sQ rfl (ms_len rfl tg_30.slice iL) ?_
 refine sQ rfl (sp_assign rfl iL) ?_
 refine AOps.nil (hK1 _ ?_)
 refine AW.region ?_
 refine sM rfl rfl ?_
 refine sM rfl rfl ?_
 refine sM rfl rfl ?_
 refine sQ rfl (sp_convert_int rfl Tryd.underlying3 Tryd.underlying77 iL) ?_
 refine ob1k h fun r1 er1 h1 => ?_
 refine AOps.step rfl rfl rfl (sp_call (r := .r (.int .i64 r1)) (caps := []) (bs := [.r (.int .u64 (IntKind.u64.wrap (x1.length : Int)))]) rfl iL rfl ⟨⟨_, iL, .d rfl⟩, trivial⟩ (fun _ => w_math_bits_Len (er1)) rfl) ?_
 refine sM rfl rfl ?_
 refine ob1k h1 fun u1 eu1 h2 => ?_
 refine AOps.step rfl rfl rfl (sp_call (r := .tup []) (caps := []) (bs := [.r (.sl (x1.map GRect.row)), .r (.int .i64 0), .r (.int .i64 (x1.length : Int)), .r (.int .i64 r1), .fn 126 []]) rfl iL rfl ⟨⟨_, iL, .d rfl⟩, ⟨_, iL, .d rfl⟩, ⟨_, iL, .d rfl⟩, ⟨_, iL, .d rfl⟩, ⟨_, iL, .one (.closed (.fn 126 []) rfl)⟩, trivial⟩ (fun _ => w_slices_pdqsortCmpFunc_api_Rect__Raw_f2 (eu1)) rfl) ?_
 refine AOps.nil ?_
 exact retf0 (P := Tryd.prog)  h2 (.inr rfl) 
set_option maxHeartbeats 4000000 in
set_option maxRecDepth 20000 in
theorem w_grid_Raw {g1 : GGrid} {e1 : GGridEdit} {r : GGrid} (h : grid_Raw g1 e1 = some r) : ARO Tryd.prog 71 [.agg [.r (.int .i64 g1.Rows), .r (.int .i64 g1.Cols), .r (.sl (g1.Cells.map GCell.row)), .r (.sl (g1.Merges.map GRect.row))], .agg [.r (.sl (e1.Rows.map GAxisStep.row)), .r (.sl (e1.Cols.map GAxisStep.row)), .r (.sl (e1.Cells.map GCell.row)), .r (.sl (e1.Split.map GRect.row)), .r (.sl (e1.Merge.map GRect.row))]] (.agg [.r (.int .i64 r.Rows), .r (.int .i64 r.Cols), .r (.sl (r.Cells.map GCell.row)), .r (.sl (r.Merges.map GRect.row))]) := by
 unfold grid_Raw at h
 refine ARO.mkF Tryd.func71 rfl rfl Tryd.ntmps71 rfl (Nat.le_of_ble_eq_true rfl) fun n0 => ?_
 refine AW.seq_w fun K1 hK1 wK1 => ?_
 refine AW.region ?_
 refine AOps.step rfl rfl rfl (ms_box (cs := [.r (.int .i64 g1.Rows), .r (.int .i64 g1.Cols), .r (.sl (g1.Cells.map GCell.row)), .r (.sl (g1.Merges.map GRect.row))]) 2 rfl iL rfl rfl) ?_
 refine AOps.step rfl rfl rfl (ms_box (cs := [.r (.sl (e1.Rows.map GAxisStep.row)), .r (.sl (e1.Cols.map GAxisStep.row)), .r (.sl (e1.Cells.map GCell.row)), .r (.sl (e1.Split.map GRect.row)), .r (.sl (e1.Merge.map GRect.row))]) 3 rfl iL rfl rfl) ?_
 refine AOps.step rfl rfl rfl (ms_alloc (cs := [.r (.int .i64 0), .r (.int .i64 0), .cst (.slice none 0 0), .cst (.slice none 0 0)]) 4 rfl t0_32 rfl rfl) ?_
 refine AOps.nil (hK1 _ ?_)
 refine AW.seq_w fun K2 hK2 wK2 => ?_
 refine AW.region ?_
 refine sQ rfl (sp_fieldAddr_own (ob := .box _ _ _) rfl tf_32_0 iL fR rfl) ?_
 refine sQ rfl (ms_load_box (a := .r (.int .i64 g1.Rows)) rfl ts_3 iL rfl rfl) ?_
 refine sQ rfl (sp_fieldAddr_own (ob := .box _ _ _) rfl tf_49_0 iL fR rfl) ?_
 refine sQ rfl (ms_load_box (a := .r (.sl (e1.Rows.map GAxisStep.row))) rfl ts_47 iL rfl rfl) ?_
 refine ob2k h fun r1 r2 er1 h1 => ?_
 refine AOps.step rfl rfl rfl (sp_call (r := .tup [.r (.int .i64 r1), .r (.bool r2)]) (caps := []) (bs := [.r (.int .i64 g1.Rows), .r (.sl (e1.Rows.map GAxisStep.row))]) rfl iL rfl ⟨⟨_, iL, .d rfl⟩, ⟨_, iL, .d rfl⟩, trivial⟩ (fun _ => w_grid_size (er1)) rfl) ?_
 refine sM rfl rfl ?_
 refine sQ rfl (sp_extract (a := .r (.int .i64 r1)) rfl iL rfl) ?_
 refine sQ rfl (sp_extract (a := .r (.bool r2)) rfl iL rfl) ?_
 refine sQ rfl (sp_assign rfl iL) ?_
 refine sQ rfl (sp_assign rfl iL) ?_
 refine AOps.nil (hK2 _ ?_)
 refine AW.seq_w fun K3 hK3 wK3 => ?_
 refine AW.weak (s' := ⟨[(2, .ptr 2 n0 0 0), (3, .ptr 3 (n0 + 1) 0 0), (4, .ptr 4 (n0 + 2) 0 0), (5, .r (.int .i64 r1))], [(2, some (.box n0 32 [.r (.int .i64 g1.Rows), .r (.int .i64 g1.Cols), .r (.sl (g1.Cells.map GCell.row)), .r (.sl (g1.Merges.map GRect.row))])), (3, some (.box (n0 + 1) 49 [.r (.sl (e1.Rows.map GAxisStep.row)), .r (.sl (e1.Cols.map GAxisStep.row)), .r (.sl (e1.Cells.map GCell.row)), .r (.sl (e1.Split.map GRect.row)), .r (.sl (e1.Merge.map GRect.row))])), (4, some (.box (n0 + 2) 32 [.r (.int .i64 0), .r (.int .i64 0), .cst (.slice none 0 0), .cst (.slice none 0 0)]))], (n0 + 3), 99⟩) (by exact Weak.cv ⟨jL, jL, jL, jL, trivial⟩ ⟨.inl rfl, .inl rfl, .inl rfl, trivial⟩ nL) ?_
 refine AW.region ?_
 refine sQ rfl (sp_fieldAddr_own (ob := .box _ _ _) rfl tf_32_1 iL fR rfl) ?_
 refine sQ rfl (ms_load_box (a := .r (.int .i64 g1.Cols)) rfl ts_3 iL rfl rfl) ?_
 refine sQ rfl (sp_fieldAddr_own (ob := .box _ _ _) rfl tf_49_1 iL fR rfl) ?_
 refine sQ rfl (ms_load_box (a := .r (.sl (e1.Cols.map GAxisStep.row))) rfl ts_47 iL rfl rfl) ?_
 refine ob2k h1 fun r3 r4 er3 h2 => ?_
 refine AOps.step rfl rfl rfl (sp_call (r := .tup [.r (.int .i64 r3), .r (.bool r4)]) (caps := []) (bs := [.r (.int .i64 g1.Cols), .r (.sl (e1.Cols.map GAxisStep.row))]) rfl iL rfl ⟨⟨_, iL, .d rfl⟩, ⟨_, iL, .d rfl⟩, trivial⟩ (fun _ => w_grid_size (er3)) rfl) ?_
 refine sM rfl rfl ?_
 refine sQ rfl (sp_extract (a := .r (.int .i64 r3)) rfl iL rfl) ?_
 refine sQ rfl (sp_extract (a := .r (.bool r4)) rfl iL rfl) ?_
 refine sQ rfl (sp_assign rfl iL) ?_
 refine sQ rfl (sp_assign rfl iL) ?_
 refine AOps.nil (hK3 _ ?_)
 refine AW.seq_w fun K4 hK4 wK4 => ?_
 refine AW.weak (s' := ⟨[(2, .ptr 2 n0 0 0), (3, .ptr 3 (n0 + 1) 0 0), (4, .ptr 4 (n0 + 2) 0 0), (5, .r (.int .i64 r1)), (7, .r (.int .i64 r3))], [(2, some (.box n0 32 [.r (.int .i64 g1.Rows), .r (.int .i64 g1.Cols), .r (.sl (g1.Cells.map GCell.row)), .r (.sl (g1.Merges.map GRect.row))])), (3, some (.box (n0 + 1) 49 [.r (.sl (e1.Rows.map GAxisStep.row)), .r (.sl (e1.Cols.map GAxisStep.row)), .r (.sl (e1.Cells.map GCell.row)), .r (.sl (e1.Split.map GRect.row)), .r (.sl (e1.Merge.map GRect.row))])), (4, some (.box (n0 + 2) 32 [.r (.int .i64 0), .r (.int .i64 0), .cst (.slice none 0 0), .cst (.slice none 0 0)]))], (n0 + 3), 99⟩) (by exact Weak.cv ⟨jL, jL, jL, jL, jL, trivial⟩ ⟨.inl rfl, .inl rfl, .inl rfl, trivial⟩ nL) ?_
 refine ob1k h2 fun r5 er5 h3 => ?_
 refine ob1k h3 fun r6 er6 h4 => ?_
 refine AW.regionP 14 [⟨some 32, (fun _ => .r (.int .i64 r1)), none, []⟩, ⟨some 33, (fun _ => .r (.int .i64 r3)), none, []⟩, ⟨some 34, (fun _ => .ptr 2 n0 0 2), none, []⟩, ⟨some 35, (fun _ => .r (.sl (g1.Cells.map GCell.row))), none, []⟩, ⟨some 36, (fun _ => .ptr 3 (n0 + 1) 0 0), none, []⟩, ⟨some 37, (fun _ => .r (.sl (e1.Rows.map GAxisStep.row))), none, []⟩, ⟨some 38, (fun _ => .ptr 3 (n0 + 1) 0 1), none, []⟩, ⟨some 39, (fun _ => .r (.sl (e1.Cols.map GAxisStep.row))), none, []⟩, ⟨some 40, (fun _ => .r (.sl (r5.map GCell.row))), none, []⟩, ⟨some 41, (fun _ => .ptr 3 (n0 + 1) 0 2), none, []⟩, ⟨some 42, (fun _ => .r (.sl (e1.Cells.map GCell.row))), none, []⟩, ⟨some 43, (fun _ => .r (.sl (r6.map GCell.row))), none, []⟩, ⟨some 44, (fun _ => .agg [.r (.int .i64 r1), .r (.int .i64 r3), .r (.sl (r6.map GCell.row)), .cst (.slice none 0 0)]), none, []⟩, ⟨some 9, (fun G1 => .ptr 9 (G1 13) 0 0), some (9, (fun G1 => some (.box (G1 13) 32 [.r (.int .i64 0), .r (.int .i64 0), .cst (.slice none 0 0), .cst (.slice none 0 0)]))), [13]⟩] hmix (by kernel_rfl) (by exact ⟨fun _ _ h => ⟨rfl, fun _ _ e => by cases e⟩, fun _ _ h => ⟨rfl, fun _ _ e => by cases e⟩, fun _ _ h => ⟨rfl, fun _ _ e => by cases e⟩, fun _ _ h => ⟨rfl, fun _ _ e => by cases e⟩, fun _ _ h => ⟨rfl, fun _ _ e => by cases e⟩, fun _ _ h => ⟨rfl, fun _ _ e => by cases e⟩, fun _ _ h => ⟨rfl, fun _ _ e => by cases e⟩, fun _ _ h => ⟨rfl, fun _ _ e => by cases e⟩, fun _ _ h => ⟨rfl, fun _ _ e => by cases e⟩, fun _ _ h => ⟨rfl, fun _ _ e => by cases e⟩, fun _ _ h => ⟨rfl, fun _ _ e => by cases e⟩, fun _ _ h => ⟨rfl, fun _ _ e => by cases e⟩, fun _ _ h => ⟨rfl, fun _ _ e => by cases e⟩, fun _ _ h => ⟨by simp only [h 13 rfl], fun _ _ e => by cases e; simp only [h 13 rfl]⟩, trivial⟩) rfl (by exact ⟨Ob.quiet (n1 := fun n => n) rfl rfl (by intro d h; cases h; rfl) rfl (fun _ => [(5, .r (.int .i64 r1))]) (fun _ => []) (fun D G1 hr => ⟨inE_base rfl rfl, trivial⟩) (fun D G1 hr => trivial) (fun _ _ => rfl) (fun G1 e h' n => OpQ.spec (v := .r (.int .i64 r1)) (sp_move rfl (.inl rfl)) _),
   Ob.quiet (n1 := fun n => n) rfl rfl (by intro d h; cases h; rfl) rfl (fun _ => [(7, .r (.int .i64 r3))]) (fun _ => []) (fun D G1 hr => ⟨inE_base rfl rfl, trivial⟩) (fun D G1 hr => trivial) (fun _ _ => rfl) (fun G1 e h' n => OpQ.spec (v := .r (.int .i64 r3)) (sp_move rfl (.inl rfl)) _),
   Ob.quiet (n1 := fun n => n) rfl rfl (by intro d h; cases h; rfl) rfl (fun _ => [(2, .ptr 2 n0 0 0)]) (fun _ => [(2, some (.box n0 32 [.r (.int .i64 g1.Rows), .r (.int .i64 g1.Cols), .r (.sl (g1.Cells.map GCell.row)), .r (.sl (g1.Merges.map GRect.row))]))]) (fun D G1 hr => ⟨inE_base rfl rfl, trivial⟩) (fun D G1 hr => ⟨inH_base rfl rfl, trivial⟩) (fun _ _ => rfl) (fun G1 e h' n => OpQ.spec (v := .ptr 2 n0 0 2) (sp_fieldAddr_own (ob := .box _ _ _) rfl tf_32_2 (.inl rfl) (fun _ => rfl) rfl) _),
   Ob.quiet (n1 := fun n => n) rfl rfl (by intro d h; cases h; rfl) rfl (fun _ => [(34, .ptr 2 n0 0 2)]) (fun _ => [(2, some (.box n0 32 [.r (.int .i64 g1.Rows), .r (.int .i64 g1.Cols), .r (.sl (g1.Cells.map GCell.row)), .r (.sl (g1.Merges.map GRect.row))]))]) (fun D G1 hr => ⟨inE_op hr 2 rfl rfl (by kernel_rfl) rfl rfl, trivial⟩) (fun D G1 hr => ⟨inH_base rfl rfl, trivial⟩) (fun _ _ => rfl) (fun G1 e h' n => OpQ.spec (v := .r (.sl (g1.Cells.map GCell.row))) (ms_load_box (a := .r (.sl (g1.Cells.map GCell.row))) rfl ts_29 (.inl rfl) rfl rfl) _),
   Ob.quiet (n1 := fun n => n) rfl rfl (by intro d h; cases h; rfl) rfl (fun _ => [(3, .ptr 3 (n0 + 1) 0 0)]) (fun _ => [(3, some (.box (n0 + 1) 49 [.r (.sl (e1.Rows.map GAxisStep.row)), .r (.sl (e1.Cols.map GAxisStep.row)), .r (.sl (e1.Cells.map GCell.row)), .r (.sl (e1.Split.map GRect.row)), .r (.sl (e1.Merge.map GRect.row))]))]) (fun D G1 hr => ⟨inE_base rfl rfl, trivial⟩) (fun D G1 hr => ⟨inH_base rfl rfl, trivial⟩) (fun _ _ => rfl) (fun G1 e h' n => OpQ.spec (v := .ptr 3 (n0 + 1) 0 0) (sp_fieldAddr_own (ob := .box _ _ _) rfl tf_49_0 (.inl rfl) (fun _ => rfl) rfl) _),
   Ob.quiet (n1 := fun n => n) rfl rfl (by intro d h; cases h; rfl) rfl (fun _ => [(36, .ptr 3 (n0 + 1) 0 0)]) (fun _ => [(3, some (.box (n0 + 1) 49 [.r (.sl (e1.Rows.map GAxisStep.row)), .r (.sl (e1.Cols.map GAxisStep.row)), .r (.sl (e1.Cells.map GCell.row)), .r (.sl (e1.Split.map GRect.row)), .r (.sl (e1.Merge.map GRect.row))]))]) (fun D G1 hr => ⟨inE_op hr 4 rfl rfl (by kernel_rfl) rfl rfl, trivial⟩) (fun D G1 hr => ⟨inH_base rfl rfl, trivial⟩) (fun _ _ => rfl) (fun G1 e h' n => OpQ.spec (v := .r (.sl (e1.Rows.map GAxisStep.row))) (ms_load_box (a := .r (.sl (e1.Rows.map GAxisStep.row))) rfl ts_47 (.inl rfl) rfl rfl) _),
   Ob.quiet (n1 := fun n => n) rfl rfl (by intro d h; cases h; rfl) rfl (fun _ => [(3, .ptr 3 (n0 + 1) 0 0)]) (fun _ => [(3, some (.box (n0 + 1) 49 [.r (.sl (e1.Rows.map GAxisStep.row)), .r (.sl (e1.Cols.map GAxisStep.row)), .r (.sl (e1.Cells.map GCell.row)), .r (.sl (e1.Split.map GRect.row)), .r (.sl (e1.Merge.map GRect.row))]))]) (fun D G1 hr => ⟨inE_base rfl rfl, trivial⟩) (fun D G1 hr => ⟨inH_base rfl rfl, trivial⟩) (fun _ _ => rfl) (fun G1 e h' n => OpQ.spec (v := .ptr 3 (n0 + 1) 0 1) (sp_fieldAddr_own (ob := .box _ _ _) rfl tf_49_1 (.inl rfl) (fun _ => rfl) rfl) _),
   Ob.quiet (n1 := fun n => n) rfl rfl (by intro d h; cases h; rfl) rfl (fun _ => [(38, .ptr 3 (n0 + 1) 0 1)]) (fun _ => [(3, some (.box (n0 + 1) 49 [.r (.sl (e1.Rows.map GAxisStep.row)), .r (.sl (e1.Cols.map GAxisStep.row)), .r (.sl (e1.Cells.map GCell.row)), .r (.sl (e1.Split.map GRect.row)), .r (.sl (e1.Merge.map GRect.row))]))]) (fun D G1 hr => ⟨inE_op hr 6 rfl rfl (by kernel_rfl) rfl rfl, trivial⟩) (fun D G1 hr => ⟨inH_base rfl rfl, trivial⟩) (fun _ _ => rfl) (fun G1 e h' n => OpQ.spec (v := .r (.sl (e1.Cols.map GAxisStep.row))) (ms_load_box (a := .r (.sl (e1.Cols.map GAxisStep.row))) rfl ts_47 (.inl rfl) rfl rfl) _),
   Ob.quiet (n1 := fun n => n) rfl rfl (by intro d h; cases h; rfl) rfl (fun _ => [(35, .r (.sl (g1.Cells.map GCell.row))), (37, .r (.sl (e1.Rows.map GAxisStep.row))), (39, .r (.sl (e1.Cols.map GAxisStep.row)))]) (fun _ => []) (fun D G1 hr => ⟨inE_op hr 3 rfl rfl (by kernel_rfl) rfl rfl, inE_op hr 5 rfl rfl (by kernel_rfl) rfl rfl, inE_op hr 7 rfl rfl (by kernel_rfl) rfl rfl, trivial⟩) (fun D G1 hr => trivial) (fun _ _ => rfl) (fun G1 e h' n => sp_callS (r := .r (.sl (r5.map GCell.row))) (caps := []) (bs := [.r (.sl (g1.Cells.map GCell.row)), .r (.sl (e1.Rows.map GAxisStep.row)), .r (.sl (e1.Cols.map GAxisStep.row))]) rfl (.inl rfl) rfl ⟨.inl ⟨(.inl rfl), rfl⟩, .inl ⟨(.inl rfl), rfl⟩, .inl ⟨(.inl rfl), rfl⟩, trivial⟩ (fun _ => w_grid_Moved (er5))),
   Ob.quiet (n1 := fun n => n) rfl rfl (by intro d h; cases h; rfl) rfl (fun _ => [(3, .ptr 3 (n0 + 1) 0 0)]) (fun _ => [(3, some (.box (n0 + 1) 49 [.r (.sl (e1.Rows.map GAxisStep.row)), .r (.sl (e1.Cols.map GAxisStep.row)), .r (.sl (e1.Cells.map GCell.row)), .r (.sl (e1.Split.map GRect.row)), .r (.sl (e1.Merge.map GRect.row))]))]) (fun D G1 hr => ⟨inE_base rfl rfl, trivial⟩) (fun D G1 hr => ⟨inH_base rfl rfl, trivial⟩) (fun _ _ => rfl) (fun G1 e h' n => OpQ.spec (v := .ptr 3 (n0 + 1) 0 2) (sp_fieldAddr_own (ob := .box _ _ _) rfl tf_49_2 (.inl rfl) (fun _ => rfl) rfl) _),
   Ob.quiet (n1 := fun n => n) rfl rfl (by intro d h; cases h; rfl) rfl (fun _ => [(41, .ptr 3 (n0 + 1) 0 2)]) (fun _ => [(3, some (.box (n0 + 1) 49 [.r (.sl (e1.Rows.map GAxisStep.row)), .r (.sl (e1.Cols.map GAxisStep.row)), .r (.sl (e1.Cells.map GCell.row)), .r (.sl (e1.Split.map GRect.row)), .r (.sl (e1.Merge.map GRect.row))]))]) (fun D G1 hr => ⟨inE_op hr 9 rfl rfl (by kernel_rfl) rfl rfl, trivial⟩) (fun D G1 hr => ⟨inH_base rfl rfl, trivial⟩) (fun _ _ => rfl) (fun G1 e h' n => OpQ.spec (v := .r (.sl (e1.Cells.map GCell.row))) (ms_load_box (a := .r (.sl (e1.Cells.map GCell.row))) rfl ts_29 (.inl rfl) rfl rfl) _),
   Ob.quiet (n1 := fun n => n) rfl rfl (by intro d h; cases h; rfl) rfl (fun _ => [(40, .r (.sl (r5.map GCell.row))), (42, .r (.sl (e1.Cells.map GCell.row)))]) (fun _ => []) (fun D G1 hr => ⟨inE_op hr 8 rfl rfl (by kernel_rfl) rfl rfl, inE_op hr 10 rfl rfl (by kernel_rfl) rfl rfl, trivial⟩) (fun D G1 hr => trivial) (fun _ _ => rfl) (fun G1 e h' n => sp_callS (r := .r (.sl (r6.map GCell.row))) (caps := []) (bs := [.r (.sl (r5.map GCell.row)), .r (.sl (e1.Cells.map GCell.row))]) rfl (.inl rfl) rfl ⟨.inl ⟨(.inl rfl), rfl⟩, .inl ⟨(.inl rfl), rfl⟩, trivial⟩ (fun _ => w_grid_put (er6))),
   Ob.quiet (n1 := fun n => n) rfl rfl (by intro d h; cases h; rfl) rfl (fun _ => [(32, .r (.int .i64 r1)), (33, .r (.int .i64 r3)), (43, .r (.sl (r6.map GCell.row)))]) (fun _ => []) (fun D G1 hr => ⟨inE_op hr 0 rfl rfl (by kernel_rfl) rfl rfl, inE_op hr 1 rfl rfl (by kernel_rfl) rfl rfl, inE_op hr 11 rfl rfl (by kernel_rfl) rfl rfl, trivial⟩) (fun D G1 hr => trivial) (fun _ _ => rfl) (fun G1 e h' n => OpQ.spec (v := .agg [.r (.int .i64 r1), .r (.int .i64 r3), .r (.sl (r6.map GCell.row)), .cst (.slice none 0 0)]) (sp_build rfl tb_32 (q := [(0, _), (1, _), (2, _)]) (by exact ⟨rfl, rfl, rfl, (.inl rfl), rfl, rfl, rfl, (.inl rfl), rfl, rfl, rfl, (.inl rfl), trivial⟩) (cs := [.r (.int .i64 r1), .r (.int .i64 r3), .r (.sl (r6.map GCell.row)), .cst (.slice none 0 0)]) (by rfl)) _),
   Ob.make (n1 := fun n => n + 1) rfl rfl (by intro d h; cases h; rfl) rfl (fun _ => []) (fun _ => []) (fun D G1 hr => trivial) (fun D G1 hr => trivial) (fun G1 e h' n => ms_alloc (cs := [.r (.int .i64 0), .r (.int .i64 0), .cst (.slice none 0 0), .cst (.slice none 0 0)]) 9 rfl t0_32 rfl rfl),
   trivial⟩) fun G1 n1 => ?_
 refine AOps.weak (s' := ⟨[(2, .ptr 2 n0 0 0), (3, .ptr 3 (n0 + 1) 0 0), (4, .ptr 4 (n0 + 2) 0 0), (5, .r (.int .i64 r1)), (7, .r (.int .i64 r3)), (9, .ptr 9 (G1 13) 0 0), (32, .r (.int .i64 r1)), (33, .r (.int .i64 r3)), (34, .ptr 2 n0 0 2), (35, .r (.sl (g1.Cells.map GCell.row))), (36, .ptr 3 (n0 + 1) 0 0), (37, .r (.sl (e1.Rows.map GAxisStep.row))), (38, .ptr 3 (n0 + 1) 0 1), (39, .r (.sl (e1.Cols.map GAxisStep.row))), (40, .r (.sl (r5.map GCell.row))), (41, .ptr 3 (n0 + 1) 0 2), (42, .r (.sl (e1.Cells.map GCell.row))), (43, .r (.sl (r6.map GCell.row))), (44, .agg [.r (.int .i64 r1), .r (.int .i64 r3), .r (.sl (r6.map GCell.row)), .cst (.slice none 0 0)])], [(2, some (.box n0 32 [.r (.int .i64 g1.Rows), .r (.int .i64 g1.Cols), .r (.sl (g1.Cells.map GCell.row)), .r (.sl (g1.Merges.map GRect.row))])), (3, some (.box (n0 + 1) 49 [.r (.sl (e1.Rows.map GAxisStep.row)), .r (.sl (e1.Cols.map GAxisStep.row)), .r (.sl (e1.Cells.map GCell.row)), .r (.sl (e1.Split.map GRect.row)), .r (.sl (e1.Merge.map GRect.row))])), (4, some (.box (n0 + 2) 32 [.r (.int .i64 0), .r (.int .i64 0), .cst (.slice none 0 0), .cst (.slice none 0 0)])), (9, some (.box (G1 13) 32 [.r (.int .i64 0), .r (.int .i64 0), .cst (.slice none 0 0), .cst (.slice none 0 0)]))], n1, 99⟩) (by exact Weak.cv ⟨jL, jL, jL, jL, jL, jL, jL, jL, jL, jL, jL, jL, jL, jL, jL, jL, jL, jL, jL, trivial⟩ ⟨.inl rfl, .inl rfl, .inl rfl, .inl rfl, trivial⟩ nL) ?_
 refine AOps.step0 rfl rfl (ms_store_box (ds := [.r (.int .i64 r1), .r (.int .i64 r3), .r (.sl (r6.map GCell.row)), .cst (.slice none 0 0)]) rfl tz_32 iL rfl iL rfl rfl rfl rfl) ?_
 refine AOps.nil (hK4 _ ?_)
 refine AW.seq_w fun K5 hK5 wK5 => ?_
 refine AW.seq_w fun K6 hK6 wK6 => ?_
 refine AW.weak (s' := ⟨[(2, .ptr 2 n0 0 0), (3, .ptr 3 (n0 + 1) 0 0), (4, .ptr 4 (n0 + 2) 0 0), (9, .ptr 9 (G1 13) 0 0)], [(2, some (.box n0 32 [.r (.int .i64 g1.Rows), .r (.int .i64 g1.Cols), .r (.sl (g1.Cells.map GCell.row)), .r (.sl (g1.Merges.map GRect.row))])), (3, some (.box (n0 + 1) 49 [.r (.sl (e1.Rows.map GAxisStep.row)), .r (.sl (e1.Cols.map GAxisStep.row)), .r (.sl (e1.Cells.map GCell.row)), .r (.sl (e1.Split.map GRect.row)), .r (.sl (e1.Merge.map GRect.row))])), (4, some (.box (n0 + 2) 32 [.r (.int .i64 0), .r (.int .i64 0), .cst (.slice none 0 0), .cst (.slice none 0 0)])), (9, some (.box (G1 13) 32 [.r (.int .i64 r1), .r (.int .i64 r3), .r (.sl (r6.map GCell.row)), .cst (.slice none 0 0)]))], n1, 99⟩) (by exact Weak.cv ⟨jL, jL, jL, jL, trivial⟩ ⟨.inl rfl, .inl rfl, .inl rfl, .inl rfl, trivial⟩ nL) ?_
 refine AW.region ?_
 refine sQ rfl (sp_fieldAddr_own (ob := .box _ _ _) rfl tf_32_3 iL fR rfl) ?_
 refine sQ rfl (ms_load_box (a := .r (.sl (g1.Merges.map GRect.row))) rfl ts_30 iL rfl rfl) ?_
 refine sQ rfl (ms_len rfl tg_30.slice iL) ?_
 refine sM rfl rfl ?_
 refine AOps.nil (hK6 _ ?_)
 refine AW.block ?_
 refine jb1k h4 fun o1 hit1 hk1 => ?_
 have J1 : ∀ (out4 : GGrid) (i5 : Nat → Nat), o1 = out4 → K5 ⟨[(3, .ptr 3 (n0 + 1) 0 0), (4, .ptr 4 (n0 + 2) 0 0), (9, .ptr 9 (G1 13) 0 0)], [(3, some (.box (n0 + 1) 49 [.r (.sl (e1.Rows.map GAxisStep.row)), .r (.sl (e1.Cols.map GAxisStep.row)), .r (.sl (e1.Cells.map GCell.row)), .r (.sl (e1.Split.map GRect.row)), .r (.sl (e1.Merge.map GRect.row))])), (4, some (.box (n0 + 2) 32 [.r (.int .i64 0), .r (.int .i64 0), .cst (.slice none 0 0), .cst (.slice none 0 0)])), (9, some (.box (G1 13) 32 [.r (.int .i64 out4.Rows), .r (.int .i64 out4.Cols), .r (.sl (out4.Cells.map GCell.row)), .own 73 (i5 0)])), (73, some (.arr (i5 0) 64 4 (out4.Merges.map GRect.row)))], (i5 1), 99⟩ := by
  intro out4 i5 e
  have h5 := hk1 _ e
  refine hK5 _ ?_
  refine AW.seq_w fun K7 hK7 wK7 => ?_
  refine AW.seq_w fun K8 hK8 wK8 => ?_
  refine AW.region ?_
  refine sQ rfl (sp_fieldAddr_own (ob := .box _ _ _) rfl tf_49_4 iL fR rfl) ?_
  refine sQ rfl (ms_load_box (a := .r (.sl (e1.Merge.map GRect.row))) rfl ts_30 iL rfl rfl) ?_
  refine sQ rfl (ms_len rfl tg_30.slice iL) ?_
  refine sM rfl rfl ?_
  refine AOps.nil (hK8 _ ?_)
  refine AW.block ?_
  refine jb1k h5 fun o2 hit2 hk2 => ?_
  have J2 : ∀ (u4 : Unit) (i8 : Nat → Nat), o2 = u4 → K7 ⟨[(4, .ptr 4 (n0 + 2) 0 0), (9, .ptr 9 (G1 13) 0 0)], [(4, some (.box (n0 + 2) 32 [.r (.int .i64 0), .r (.int .i64 0), .cst (.slice none 0 0), .cst (.slice none 0 0)])), (9, some (.box (G1 13) 32 [.r (.int .i64 out4.Rows), .r (.int .i64 out4.Cols), .r (.sl (out4.Cells.map GCell.row)), .own 73 (i5 0)])), (73, some (.arr (i5 0) 64 4 (out4.Merges.map GRect.row)))], (i8 0), 99⟩ := by
   intro u4 i8 e
   have h6 := hk2 _ e
   refine hK7 _ ?_
   refine AW.seq_w fun K9 hK9 wK9 => ?_
   refine AW.region ?_
   refine sQ rfl (sp_fieldAddr_own (ob := .box _ _ _) rfl tf_32_3 iL fR rfl) ?_
   refine sQ rfl (ms_load_box (a := .own 73 (i5 0)) rfl ts_30 iL rfl rfl) ?_
   refine ob1k h6 fun u5 eu5 h7 => ?_
   refine AOps.step rfl rfl rfl (sp_call (r := .tup []) (caps := []) (bs := [.r (.sl (out4.Merges.map GRect.row)), .fn 126 []]) rfl iL rfl ⟨⟨_, iL, .one (.own rfl)⟩, ⟨_, iL, .one (.closed (.fn 126 []) rfl)⟩, trivial⟩ (fun _ => w_slices_SortFunc_api_Rect_api_Rect__Raw_f2 (eu5)) rfl) ?_
   refine AOps.nil (hK9 _ ?_)
   refine AW.seq_w fun K10 hK10 wK10 => ?_
   refine AW.region ?_
   refine sQ rfl (ms_loadA_box rfl ta_32 iL rfl rfl) ?_
   refine AOps.step0 rfl rfl (ms_store_box (ds := [.r (.int .i64 out4.Rows), .r (.int .i64 out4.Cols), .r (.sl (out4.Cells.map GCell.row)), .own 73 (i5 0)]) rfl tz_32 iL rfl iL rfl rfl rfl rfl) ?_
   refine AOps.nil (hK10 _ ?_)
   refine AW.ret ?_
   exact retf1 (P := Tryd.prog) (fun (r : GGrid) => .agg [.r (.int .i64 r.Rows), .r (.int .i64 r.Cols), .r (.sl (r.Cells.map GCell.row)), .r (.sl (r.Merges.map GRect.row))]) h7 iL (.a ta_32 rfl rfl rfl (.agg (by exact ⟨.closed _ rfl, .closed _ rfl, .closed _ rfl, .own rfl, trivial⟩)))
  refine AW.iter1 (fun (u2 : Unit) i6 => ⟨[(4, .ptr 4 (n0 + 2) 0 0), (9, .ptr 9 (G1 13) 0 0), (77, .r (.sl (e1.Merge.map GRect.row))), (78, .r (.int .i64 (e1.Merge.length : Int))), (79, .r (.int .i64 0))], [(4, some (.box (n0 + 2) 32 [.r (.int .i64 0), .r (.int .i64 0), .cst (.slice none 0 0), .cst (.slice none 0 0)])), (9, some (.box (G1 13) 32 [.r (.int .i64 out4.Rows), .r (.int .i64 out4.Cols), .r (.sl (out4.Cells.map GCell.row)), .own 73 (i5 0)])), (73, some (.arr (i5 0) 64 4 (out4.Merges.map GRect.row)))], (i6 0), 99⟩) (vec [(i5 1)]) hit2 ((by exact Weak.cv ⟨jL, jL, jL, jL, jL, trivial⟩ ⟨.inl rfl, .inl rfl, .inl rfl, trivial⟩ nL)) ?_
  intro u2 i6 v1 hv1 hx2
  have h8 : grid_Raw_L2 e1 u2 = some v1 := hv1; unfold grid_Raw_L2 at h8
  refine AW.seq_w fun K11 hK11 wK11 => ?_
  refine AW.region ?_
  refine sQ rfl (sp_lss rfl iL iL) ?_
  refine AOps.nil (hK11 _ ?_)
  refine AW.seq_w fun K12 hK12 wK12 => ?_
  refine AW.cond rfl (fun hc1 => ?_) (fun hc1 => ?_)
  ·have h9 := ite_t hc1 h8
   refine AW.skip ?_
   refine hK12 _ ?_
   refine AW.seq_w fun K13 hK13 wK13 => ?_
   refine AW.block ?_
   refine AW.seq_w fun K14 hK14 wK14 => ?_
   exact giveup h9
  ·have h9 := ite_f hc1 h8
   refine AW.exit ?_
   exact wK7 _ _ ((by exact Weak.cv ⟨jL, jL, trivial⟩ ⟨.inl rfl, .inl rfl, .inl rfl, trivial⟩ nL)) (J2 _ (vec [(i6 0)]) (hx2 _ (Option.some.inj h9).symm))
 refine AW.iter2 (fun (x2 : Int) (out2 : GGrid) i3 => ⟨[(3, .ptr 3 (n0 + 1) 0 0), (4, .ptr 4 (n0 + 2) 0 0), (9, .ptr 9 (G1 13) 0 0), (46, .r (.sl (g1.Merges.map GRect.row))), (47, .r (.int .i64 (g1.Merges.length : Int))), (48, .r (.int .i64 x2))], [(3, some (.box (n0 + 1) 49 [.r (.sl (e1.Rows.map GAxisStep.row)), .r (.sl (e1.Cols.map GAxisStep.row)), .r (.sl (e1.Cells.map GCell.row)), .r (.sl (e1.Split.map GRect.row)), .r (.sl (e1.Merge.map GRect.row))])), (4, some (.box (n0 + 2) 32 [.r (.int .i64 0), .r (.int .i64 0), .cst (.slice none 0 0), .cst (.slice none 0 0)])), (9, some (.box (G1 13) 32 [.r (.int .i64 out2.Rows), .r (.int .i64 out2.Cols), .r (.sl (out2.Cells.map GCell.row)), .own 73 (i3 0)])), (73, some (.arr (i3 0) 64 4 (out2.Merges.map GRect.row)))], (i3 1), 99⟩) (vec [n1, (n1 + 1)]) hit1 (Weak.trans (Weak.trans (Weak.adoptBox 9 3 73 64 4 (by decide) rfl rfl (by decide)) (by exact Weak.cv (e' := [(2, .ptr 2 n0 0 0), (3, .ptr 3 (n0 + 1) 0 0), (4, .ptr 4 (n0 + 2) 0 0), (9, .ptr 9 (G1 13) 0 0), (45, .ptr 2 n0 0 3), (46, .r (.sl (g1.Merges.map GRect.row))), (47, .r (.int .i64 (g1.Merges.length : Int))), (48, .r (.int .i64 0))]) (h' := [(2, some (.box n0 32 [.r (.int .i64 g1.Rows), .r (.int .i64 g1.Cols), .r (.sl (g1.Cells.map GCell.row)), .r (.sl (g1.Merges.map GRect.row))])), (3, some (.box (n0 + 1) 49 [.r (.sl (e1.Rows.map GAxisStep.row)), .r (.sl (e1.Cols.map GAxisStep.row)), .r (.sl (e1.Cells.map GCell.row)), .r (.sl (e1.Split.map GRect.row)), .r (.sl (e1.Merge.map GRect.row))])), (4, some (.box (n0 + 2) 32 [.r (.int .i64 0), .r (.int .i64 0), .cst (.slice none 0 0), .cst (.slice none 0 0)])), (9, some (.box (G1 13) 32 [.r (.int .i64 r1), .r (.int .i64 r3), .r (.sl (r6.map GCell.row)), .own 73 n1])), (73, some (.arr n1 64 4 (([] : List GRect).map GRect.row)))]) ⟨jL, jL, jL, jL, jL, jL, jL, jL, trivial⟩ ⟨.inl rfl, .inl rfl, .inl rfl, .inl rfl, .inl rfl, trivial⟩ nL)) (by exact Weak.cv ⟨jL, jL, jL, jL, jL, jL, trivial⟩ ⟨.inl rfl, .inl rfl, .inl rfl, .inl rfl, trivial⟩ nL)) ?_
 intro x2 out2 i3 v2 hv2 hx1
 have h10 : grid_Raw_L1 g1 e1 x2 out2 = some v2 := hv2; unfold grid_Raw_L1 at h10
 refine AW.seq_w fun K15 hK15 wK15 => ?_
 refine AW.region ?_
 refine sQ rfl (sp_lss rfl iL iL) ?_
 refine AOps.nil (hK15 _ ?_)
 refine AW.seq_w fun K16 hK16 wK16 => ?_
 refine AW.cond rfl (fun hc2 => ?_) (fun hc2 => ?_)
 ·have h11 := ite_t hc2 h10
  refine AW.skip ?_
  refine hK16 _ ?_
  refine AW.seq_w fun K17 hK17 wK17 => ?_
  refine AW.block ?_
  refine jb1k h11 fun p1 hp1 hk3 => ?_
  have J3 : ∀ (out5 : GGrid) (i9 : Nat → Nat), p1 = out5 → K17 ⟨[(3, .ptr 3 (n0 + 1) 0 0), (4, .ptr 4 (n0 + 2) 0 0), (9, .ptr 9 (G1 13) 0 0), (46, .r (.sl (g1.Merges.map GRect.row))), (47, .r (.int .i64 (g1.Merges.length : Int))), (48, .r (.int .i64 x2))], [(3, some (.box (n0 + 1) 49 [.r (.sl (e1.Rows.map GAxisStep.row)), .r (.sl (e1.Cols.map GAxisStep.row)), .r (.sl (e1.Cells.map GCell.row)), .r (.sl (e1.Split.map GRect.row)), .r (.sl (e1.Merge.map GRect.row))])), (4, some (.box (n0 + 2) 32 [.r (.int .i64 0), .r (.int .i64 0), .cst (.slice none 0 0), .cst (.slice none 0 0)])), (9, some (.box (G1 13) 32 [.r (.int .i64 out5.Rows), .r (.int .i64 out5.Cols), .r (.sl (out5.Cells.map GCell.row)), .own 73 (i9 0)])), (73, some (.arr (i9 0) 64 4 (out5.Merges.map GRect.row)))], (i9 1), 99⟩ := by
   intro out5 i9 e
   have h12 := hk3 _ e
   refine hK17 _ ?_
   refine AW.region ?_
   refine ob1k h12 fun x4 ex4 h13 => ?_
   refine sQ rfl (ms_add rfl iL iL (fun _ => ex4)) ?_
   refine sM rfl rfl ?_
   refine AOps.nil ?_
   exact NextQ2.mk h13 (vec [(i9 0), (i9 1)]) ((by exact Weak.cv ⟨jL, jL, jL, jL, jL, jL, trivial⟩ ⟨.inl rfl, .inl rfl, .inl rfl, .inl rfl, trivial⟩ nL))
  refine AW.seq_w fun K18 hK18 wK18 => ?_
  refine AW.region ?_
  refine ob1k hp1 fun x5 ex5 h14 => ?_
  refine sQ rfl (ms_idx rfl tg_30.slice iL iL (fun _ => rfl) (fun _ => ex5)) ?_
  refine sQ rfl (ms_loadA (cs := [.r (.int .i64 x5.Row), .r (.int .i64 x5.Col), .r (.int .i64 x5.H), .r (.int .i64 x5.W)]) rfl ta_64 iL rfl rfl) ?_
  refine AOps.step rfl rfl rfl (ms_alloc (cs := [.r (.int .i64 0), .r (.int .i64 0), .r (.int .i64 0), .r (.int .i64 0)]) 11 rfl t0_64 rfl rfl) ?_
  refine AOps.step0 rfl rfl (ms_store_box (ds := [.r (.int .i64 x5.Row), .r (.int .i64 x5.Col), .r (.int .i64 x5.H), .r (.int .i64 x5.W)]) rfl tz_64 iL rfl iL rfl rfl rfl rfl) ?_
  refine AOps.nil (hK18 _ ?_)
  refine AW.seq_w fun K19 hK19 wK19 => ?_
  refine AW.region ?_
  refine sQ rfl (ms_loadA_box rfl ta_64 iL rfl rfl) ?_
  refine sQ rfl (sp_fieldAddr_own (ob := .box _ _ _) rfl tf_49_0 iL fR rfl) ?_
  refine sQ rfl (ms_load_box (a := .r (.sl (e1.Rows.map GAxisStep.row))) rfl ts_47 iL rfl rfl) ?_
  refine sQ rfl (sp_fieldAddr_own (ob := .box _ _ _) rfl tf_49_1 iL fR rfl) ?_
  refine sQ rfl (ms_load_box (a := .r (.sl (e1.Cols.map GAxisStep.row))) rfl ts_47 iL rfl rfl) ?_
  refine ob2k h14 fun r7 r8 er7 h15 => ?_
  refine AOps.step rfl rfl rfl (sp_callS (r := .tup [.agg [.r (.int .i64 r7.Row), .r (.int .i64 r7.Col), .r (.int .i64 r7.H), .r (.int .i64 r7.W)], .r (.bool r8)]) (caps := []) (bs := [.agg [.r (.int .i64 x5.Row), .r (.int .i64 x5.Col), .r (.int .i64 x5.H), .r (.int .i64 x5.W)], .r (.sl (e1.Rows.map GAxisStep.row)), .r (.sl (e1.Cols.map GAxisStep.row))]) rfl iL rfl ⟨.inl ⟨iL, rfl⟩, .inl ⟨iL, rfl⟩, .inl ⟨iL, rfl⟩, trivial⟩ (fun _ => w_grid_through (er7))) ?_
  refine sM rfl rfl ?_
  refine sQ rfl (sp_extract (a := .agg [.r (.int .i64 r7.Row), .r (.int .i64 r7.Col), .r (.int .i64 r7.H), .r (.int .i64 r7.W)]) rfl iL rfl) ?_
  refine sQ rfl (sp_extract (a := .r (.bool r8)) rfl iL rfl) ?_
  refine AOps.step rfl rfl rfl (ms_alloc (cs := [.r (.int .i64 0), .r (.int .i64 0), .r (.int .i64 0), .r (.int .i64 0)]) 12 rfl t0_64 rfl rfl) ?_
  refine AOps.step0 rfl rfl (ms_store_box (ds := [.r (.int .i64 r7.Row), .r (.int .i64 r7.Col), .r (.int .i64 r7.H), .r (.int .i64 r7.W)]) rfl tz_64 iL rfl iL rfl rfl rfl rfl) ?_
  refine sQ rfl (sp_assign rfl iL) ?_
  refine AOps.nil (hK19 _ ?_)
  refine AW.seq_w fun K20 hK20 wK20 => ?_
  refine AW.weak (s' := ⟨[(3, .ptr 3 (n0 + 1) 0 0), (4, .ptr 4 (n0 + 2) 0 0), (9, .ptr 9 (G1 13) 0 0), (12, .ptr 12 ((i3 1) + 1) 0 0), (13, .r (.bool r8)), (46, .r (.sl (g1.Merges.map GRect.row))), (47, .r (.int .i64 (g1.Merges.length : Int))), (48, .r (.int .i64 x2))], [(3, some (.box (n0 + 1) 49 [.r (.sl (e1.Rows.map GAxisStep.row)), .r (.sl (e1.Cols.map GAxisStep.row)), .r (.sl (e1.Cells.map GCell.row)), .r (.sl (e1.Split.map GRect.row)), .r (.sl (e1.Merge.map GRect.row))])), (4, some (.box (n0 + 2) 32 [.r (.int .i64 0), .r (.int .i64 0), .cst (.slice none 0 0), .cst (.slice none 0 0)])), (9, some (.box (G1 13) 32 [.r (.int .i64 out2.Rows), .r (.int .i64 out2.Cols), .r (.sl (out2.Cells.map GCell.row)), .own 73 (i3 0)])), (12, some (.box ((i3 1) + 1) 64 [.r (.int .i64 r7.Row), .r (.int .i64 r7.Col), .r (.int .i64 r7.H), .r (.int .i64 r7.W)])), (73, some (.arr (i3 0) 64 4 (out2.Merges.map GRect.row)))], ((i3 1) + 2), 99⟩) (by exact Weak.cv ⟨jL, jL, jL, jL, jL, jL, jL, jL, trivial⟩ ⟨.inl rfl, .inl rfl, .inl rfl, .inl rfl, .inl rfl, trivial⟩ nL) ?_
  refine AW.region ?_
  refine sM rfl rfl ?_
  refine sM rfl rfl ?_
  refine sV rfl rfl rfl (sp_fieldAddr_own (ob := .box _ _ _) rfl tf_49_3 iL fR rfl) ?_
  refine sV rfl rfl rfl (ms_load_box (a := .r (.sl (e1.Split.map GRect.row))) rfl ts_30 (iR rfl) rfl rfl) ?_
  refine sV rfl rfl rfl (ms_loadA_box rfl ta_64 iL rfl rfl) ?_
  refine ob1k h15 fun r9 er9 h16 => ?_
  refine AOps.stepW (.one rfl rfl rfl) rfl rfl (sp_call (r := .r (.bool r9)) (caps := []) (bs := [.r (.sl (e1.Split.map GRect.row)), .agg [.r (.int .i64 r7.Row), .r (.int .i64 r7.Col), .r (.int .i64 r7.H), .r (.int .i64 r7.W)]]) rfl iL rfl ⟨⟨_, (iR rfl), .d rfl⟩, ⟨_, (iR rfl), .g (cs := [.int .i64 r7.Row, .int .i64 r7.Col, .int .i64 r7.H, .int .i64 r7.W]) rfl rfl⟩, trivial⟩ (fun hg => w_slices_Contains_api_Rect_api_Rect (gdt er9 hg)) rfl) ?_
  refine sV rfl rfl rfl (sp_not rfl (iR rfl)) ?_
  refine sQ rfl (sp_and rfl iL (iR rfl)) ?_
  refine AOps.nil (hK20 _ ?_)
  refine AW.cond rfl (fun hc3 => ?_) (fun hc3 => ?_)
  ·have h17 := ite_t hc3 h16
   refine AW.region ?_
   refine sQ rfl (sp_fieldAddr_own (ob := .box _ _ _) rfl tf_32_3 iL fR rfl) ?_
   refine sQ rfl (ms_load_box (a := .own 73 (i3 0)) rfl ts_30 iL rfl rfl) ?_
   refine sQ rfl (ms_loadA_box rfl ta_64 iL rfl rfl) ?_
   refine AOps.step rfl rfl rfl (ms_lit 72 rfl tg_30 (f := GRect.row) (l := ([r7] : List GRect)) ⟨rfl, ⟨_, iL, rfl⟩, trivial⟩ rfl (fun _ => rfl) rfl) ?_
   refine ob1k h17 fun l1 el1 h18 => ?_
   refine AOps.step rfl rfl rfl (ms_app rfl tg_30 iL rfl (.inr (.inl ⟨_, _, iL, rfl⟩)) el1) ?_
   refine sQ rfl (sp_fieldAddr_own (ob := .box _ _ _) rfl tf_32_3 iL fR rfl) ?_
   refine AOps.step0 rfl rfl (ms_store_box (ds := [.r (.int .i64 out2.Rows), .r (.int .i64 out2.Cols), .r (.sl (out2.Cells.map GCell.row)), .own 73 ((i3 1) + 3)]) rfl tz_30 iL rfl iL rfl rfl rfl rfl) ?_
   refine AOps.nil ?_
   exact wK17 _ _ ((by exact Weak.cv ⟨jL, jL, jL, jL, jL, jL, trivial⟩ ⟨.inl rfl, .inl rfl, .inl rfl, .inl rfl, trivial⟩ nL)) (J3 _ (vec [((i3 1) + 3), ((i3 1) + 4)]) (Option.some.inj h18).symm)
  ·have h17 := ite_f hc3 h16
   refine AW.skip ?_
   exact wK17 _ _ ((by exact Weak.cv ⟨jL, jL, jL, jL, jL, jL, trivial⟩ ⟨.inl rfl, .inl rfl, .inl rfl, .inl rfl, trivial⟩ nL)) (J3 _ (vec [(i3 0), ((i3 1) + 2)]) (Option.some.inj h17).symm)
 ·have h11 := ite_f hc2 h10
  refine AW.exit ?_
  exact wK5 _ _ ((by exact Weak.cv ⟨jL, jL, jL, trivial⟩ ⟨.inl rfl, .inl rfl, .inl rfl, .inl rfl, trivial⟩ nL)) (J1 _ (vec [(i3 0), (i3 1)]) (hx1 _ (Option.some.inj h11).symm))
set_option maxHeartbeats 4000000 in
set_option maxRecDepth 20000 in
theorem w_grid_Apply {g1 : GGrid} {e1 : GGridEdit} {r : GGrid × Int} (h : grid_Apply g1 e1 = some r) : ARO Tryd.prog 22 [.agg [.r (.int .i64 g1.Rows), .r (.int .i64 g1.Cols), .r (.sl (g1.Cells.map GCell.row)), .r (.sl (g1.Merges.map GRect.row))], .agg [.r (.sl (e1.Rows.map GAxisStep.row)), .r (.sl (e1.Cols.map GAxisStep.row)), .r (.sl (e1.Cells.map GCell.row)), .r (.sl (e1.Split.map GRect.row)), .r (.sl (e1.Merge.map GRect.row))]] (.tup [.agg [.r (.int .i64 r.1.Rows), .r (.int .i64 r.1.Cols), .r (.sl (r.1.Cells.map GCell.row)), .r (.sl (r.1.Merges.map GRect.row))], .r (.int .i64 r.2)]) := by
 unfold grid_Apply at h
 refine ARO.mkF Tryd.func22 rfl rfl Tryd.ntmps22 rfl (Nat.le_of_ble_eq_true rfl) fun n0 => ?_
 refine AW.seq_w fun K1 hK1 wK1 => ?_
 refine AW.region ?_
 refine AOps.step rfl rfl rfl (ms_box (cs := [.r (.int .i64 g1.Rows), .r (.int .i64 g1.Cols), .r (.sl (g1.Cells.map GCell.row)), .r (.sl (g1.Merges.map GRect.row))]) 2 rfl iL rfl rfl) ?_
 refine AOps.step rfl rfl rfl (ms_box (cs := [.r (.sl (e1.Rows.map GAxisStep.row)), .r (.sl (e1.Cols.map GAxisStep.row)), .r (.sl (e1.Cells.map GCell.row)), .r (.sl (e1.Split.map GRect.row)), .r (.sl (e1.Merge.map GRect.row))]) 3 rfl iL rfl rfl) ?_
 refine AOps.step rfl rfl rfl (ms_alloc (cs := [.r (.int .i64 0), .r (.int .i64 0), .cst (.slice none 0 0), .cst (.slice none 0 0)]) 4 rfl t0_32 rfl rfl) ?_
 refine sQ rfl (sp_assign rfl iL) ?_
 refine AOps.nil (hK1 _ ?_)
 refine AW.seq_w fun K2 hK2 wK2 => ?_
 refine AW.seq_w fun K3 hK3 wK3 => ?_
 refine AW.region ?_
 refine sQ rfl (ms_loadA_box rfl ta_32 iL rfl rfl) ?_
 refine sQ rfl (ms_loadA_box rfl ta_49 iL rfl rfl) ?_
 refine ob3k h fun r1 r2 r3 er1 h1 => ?_
 refine AOps.step rfl rfl rfl (sp_call (r := .tup [.r (.int .i64 r1), .r (.int .i64 r2), .r (.int .i64 r3)]) (caps := []) (bs := [.agg [.r (.int .i64 g1.Rows), .r (.int .i64 g1.Cols), .r (.sl (g1.Cells.map GCell.row)), .r (.sl (g1.Merges.map GRect.row))], .agg [.r (.sl (e1.Rows.map GAxisStep.row)), .r (.sl (e1.Cols.map GAxisStep.row)), .r (.sl (e1.Cells.map GCell.row)), .r (.sl (e1.Split.map GRect.row)), .r (.sl (e1.Merge.map GRect.row))]]) rfl iL rfl ⟨⟨_, iL, .g (cs := [.int .i64 g1.Rows, .int .i64 g1.Cols, .sl (g1.Cells.map GCell.row), .sl (g1.Merges.map GRect.row)]) rfl rfl⟩, ⟨_, iL, .g (cs := [.sl (e1.Rows.map GAxisStep.row), .sl (e1.Cols.map GAxisStep.row), .sl (e1.Cells.map GCell.row), .sl (e1.Split.map GRect.row), .sl (e1.Merge.map GRect.row)]) rfl rfl⟩, trivial⟩ (fun _ => w_grid_fits (er1)) rfl) ?_
 refine sM rfl rfl ?_
 refine sQ rfl (sp_extract (a := .r (.int .i64 r1)) rfl iL rfl) ?_
 refine sQ rfl (sp_extract (a := .r (.int .i64 r2)) rfl iL rfl) ?_
 refine sQ rfl (sp_extract (a := .r (.int .i64 r3)) rfl iL rfl) ?_
 refine sQ rfl (sp_assign rfl iL) ?_
 refine sQ rfl (sp_assign rfl iL) ?_
 refine sQ rfl (sp_assign rfl iL) ?_
 refine AOps.nil (hK3 _ ?_)
 refine AW.seq_w fun K4 hK4 wK4 => ?_
 refine AW.weak (s' := ⟨[(2, .ptr 2 n0 0 0), (3, .ptr 3 (n0 + 1) 0 0), (4, .ptr 4 (n0 + 2) 0 0), (8, .r (.int .i64 r3))], [(2, some (.box n0 32 [.r (.int .i64 g1.Rows), .r (.int .i64 g1.Cols), .r (.sl (g1.Cells.map GCell.row)), .r (.sl (g1.Merges.map GRect.row))])), (3, some (.box (n0 + 1) 49 [.r (.sl (e1.Rows.map GAxisStep.row)), .r (.sl (e1.Cols.map GAxisStep.row)), .r (.sl (e1.Cells.map GCell.row)), .r (.sl (e1.Split.map GRect.row)), .r (.sl (e1.Merge.map GRect.row))])), (4, some (.box (n0 + 2) 32 [.r (.int .i64 0), .r (.int .i64 0), .cst (.slice none 0 0), .cst (.slice none 0 0)]))], (n0 + 3), 23⟩) (by exact Weak.cv ⟨jL, jL, jL, jL, trivial⟩ ⟨.inl rfl, .inl rfl, .inl rfl, trivial⟩ nL) ?_
 refine AW.region ?_
 refine sM rfl rfl ?_
 refine sQ rfl (sp_neq rfl iL iL) ?_
 refine AOps.nil (hK4 _ ?_)
 refine AW.cond rfl (fun hc1 => ?_) (fun hc1 => ?_)
 ·have h2 := ite_t hc1 h1
  refine AW.seq_w fun K5 hK5 wK5 => ?_
  refine AW.region ?_
  refine sQ rfl (sp_build rfl tb_32 (q := []) (by exact trivial) (cs := [.r (.int .i64 0), .r (.int .i64 0), .cst (.slice none 0 0), .cst (.slice none 0 0)]) (by rfl)) ?_
  refine sM rfl rfl ?_
  refine AOps.step0 rfl rfl (ms_store_box (ds := [.r (.int .i64 0), .r (.int .i64 0), .cst (.slice none 0 0), .cst (.slice none 0 0)]) rfl tz_32 iL rfl iL rfl rfl rfl rfl) ?_
  refine sQ rfl (sp_assign rfl iL) ?_
  refine AOps.nil (hK5 _ ?_)
  refine AW.ret ?_
  exact retf2 (P := Tryd.prog) (fun (r : GGrid × Int) => .agg [.r (.int .i64 r.1.Rows), .r (.int .i64 r.1.Cols), .r (.sl (r.1.Cells.map GCell.row)), .r (.sl (r.1.Merges.map GRect.row))]) (fun (r : GGrid × Int) => .r (.int .i64 r.2)) h2 iL (.a ta_32 rfl rfl rfl (.agg (by exact ⟨.closed _ rfl, .closed _ rfl, .nil, .nil, trivial⟩))) (.t (.d rfl))
 ·have h2 := ite_f hc1 h1
  refine AW.skip ?_
  refine hK2 _ ?_
  refine AW.seq_w fun K6 hK6 wK6 => ?_
  refine AW.region ?_
  refine sQ rfl (ms_loadA_box rfl ta_32 iL rfl rfl) ?_
  refine sQ rfl (ms_loadA_box rfl ta_49 iL rfl rfl) ?_
  refine ob1k h2 fun r4 er4 h3 => ?_
  refine AOps.step rfl rfl rfl (sp_callS (r := .agg [.r (.int .i64 r4.Rows), .r (.int .i64 r4.Cols), .r (.sl (r4.Cells.map GCell.row)), .r (.sl (r4.Merges.map GRect.row))]) (caps := []) (bs := [.agg [.r (.int .i64 g1.Rows), .r (.int .i64 g1.Cols), .r (.sl (g1.Cells.map GCell.row)), .r (.sl (g1.Merges.map GRect.row))], .agg [.r (.sl (e1.Rows.map GAxisStep.row)), .r (.sl (e1.Cols.map GAxisStep.row)), .r (.sl (e1.Cells.map GCell.row)), .r (.sl (e1.Split.map GRect.row)), .r (.sl (e1.Merge.map GRect.row))]]) rfl iL rfl ⟨.inl ⟨iL, rfl⟩, .inl ⟨iL, rfl⟩, trivial⟩ (fun _ => w_grid_Raw (er4))) ?_
  refine AOps.step0 rfl rfl (ms_store_box (ds := [.r (.int .i64 r4.Rows), .r (.int .i64 r4.Cols), .r (.sl (r4.Cells.map GCell.row)), .r (.sl (r4.Merges.map GRect.row))]) rfl tz_32 iL rfl iL rfl rfl rfl rfl) ?_
  refine sQ rfl (sp_assign rfl iL) ?_
  refine AOps.nil (hK6 _ ?_)
  refine AW.ret ?_
  exact retf2 (P := Tryd.prog) (fun (r : GGrid × Int) => .agg [.r (.int .i64 r.1.Rows), .r (.int .i64 r.1.Cols), .r (.sl (r.1.Cells.map GCell.row)), .r (.sl (r.1.Merges.map GRect.row))]) (fun (r : GGrid × Int) => .r (.int .i64 r.2)) h3 iL (.a ta_32 rfl rfl rfl (.g (cs := [.int .i64 r4.Rows, .int .i64 r4.Cols, .sl (r4.Cells.map GCell.row), .sl (r4.Merges.map GRect.row)]) rfl rfl)) (.t (.d rfl))
set_option maxHeartbeats 4000000 in
set_option maxRecDepth 20000 in
theorem w_law_grids {r : Bool} (h : law_grids = some r) : ARO Tryd.prog 21 [] (.r (.bool r)) := by
 unfold law_grids at h
 refine ARO.mkF Tryd.func21 rfl rfl Tryd.ntmps21 rfl (Nat.le_of_ble_eq_true rfl) fun n0 => ?_
 refine AW.seq_w fun K1 hK1 wK1 => ?_
 refine AW.region ?_
 refine sQ rfl (sp_assign rfl iL) ?_
 refine AOps.nil (hK1 _ ?_)
 refine AW.seq_w fun K2 hK2 wK2 => ?_
 refine AW.region ?_
 refine sQ rfl (sp_build rfl tb_60 (q := [(0, _), (2, _)]) (by exact ⟨rfl, rfl, rfl, iL, rfl, rfl, rfl, iL, trivial⟩) (cs := [.r (.int .i64 1), .r (.int .i64 0), .r (.str [120]), .r (.int .i64 0), .cst (.slice none 0 0)]) (by rfl)) ?_
 refine AOps.step rfl rfl rfl (ms_lit 5 rfl tg_29 (f := GCell.row) (l := ([(GCell.mk 1 0 [120] 0 [])] : List GCell)) ⟨rfl, ⟨_, iL, rfl⟩, trivial⟩ rfl (fun _ => rfl) rfl) ?_
 refine sQ rfl (sp_build rfl tb_32 (q := [(0, _), (1, _), (2, _)]) (by exact ⟨rfl, rfl, rfl, iL, rfl, rfl, rfl, iL, rfl, rfl, rfl, iL, trivial⟩) (cs := [.r (.int .i64 2), .r (.int .i64 1), .own 5 n0, .cst (.slice none 0 0)]) (by rfl)) ?_
 refine sQ rfl (sp_build rfl tb_91 (q := [(0, _), (1, _)]) (by exact ⟨rfl, rfl, rfl, iL, rfl, rfl, rfl, iL, trivial⟩) (cs := [.r (.int .i64 1), .r (.int .i64 1)]) (by rfl)) ?_
 refine sQ rfl (sp_build rfl tb_91 (q := [(0, _), (1, _)]) (by exact ⟨rfl, rfl, rfl, iL, rfl, rfl, rfl, iL, trivial⟩) (cs := [.r (.int .i64 0), .r (.int .i64 2)]) (by rfl)) ?_
 refine AOps.step rfl rfl rfl (ms_lit 9 rfl tg_47 (f := GAxisStep.row) (l := ([(GAxisStep.mk 1 1), (GAxisStep.mk 0 2)] : List GAxisStep)) ⟨rfl, ⟨_, iL, rfl⟩, rfl, ⟨_, iL, rfl⟩, trivial⟩ rfl (fun _ => rfl) rfl) ?_
 refine sQ rfl (sp_build rfl tb_49 (q := [(0, _)]) (by exact ⟨rfl, rfl, rfl, iL, trivial⟩) (cs := [.own 9 (n0 + 1), .cst (.slice none 0 0), .cst (.slice none 0 0), .cst (.slice none 0 0), .cst (.slice none 0 0)]) (by rfl)) ?_
 refine AOps.weak (by exact Weak.frz (e' := [(0, .r (.bool false)), (4, .agg [.r (.int .i64 1), .r (.int .i64 0), .r (.str [120]), .r (.int .i64 0), .cst (.slice none 0 0)]), (5, .r (.sl ([(GCell.mk 1 0 [120] 0 [])].map GCell.row))), (6, .agg [.r (.int .i64 2), .r (.int .i64 1), .r (.sl ([(GCell.mk 1 0 [120] 0 [])].map GCell.row)), .cst (.slice none 0 0)]), (7, .agg [.r (.int .i64 1), .r (.int .i64 1)]), (8, .agg [.r (.int .i64 0), .r (.int .i64 2)]), (9, .own 9 (n0 + 1)), (10, .agg [.own 9 (n0 + 1), .cst (.slice none 0 0), .cst (.slice none 0 0), .cst (.slice none 0 0), .cst (.slice none 0 0)])]) (h' := [(9, some (.arr (n0 + 1) 91 2 ([(GAxisStep.mk 1 1), (GAxisStep.mk 0 2)].map GAxisStep.row)))]) 5 rfl ⟨jL, jL, .inl (.inr (.inr ⟨rfl, rfl⟩)), .inr ⟨_, _, rfl, rfl, ⟨.inl rfl, .inl rfl, .inr (.inr ⟨rfl, rfl⟩), .inl rfl, trivial⟩⟩, jL, jL, jL, jL, trivial⟩ ⟨rfl, .inl rfl, trivial⟩) ?_
 refine AOps.weak (by exact Weak.frz (e' := [(0, .r (.bool false)), (4, .agg [.r (.int .i64 1), .r (.int .i64 0), .r (.str [120]), .r (.int .i64 0), .cst (.slice none 0 0)]), (5, .r (.sl ([(GCell.mk 1 0 [120] 0 [])].map GCell.row))), (6, .agg [.r (.int .i64 2), .r (.int .i64 1), .r (.sl ([(GCell.mk 1 0 [120] 0 [])].map GCell.row)), .cst (.slice none 0 0)]), (7, .agg [.r (.int .i64 1), .r (.int .i64 1)]), (8, .agg [.r (.int .i64 0), .r (.int .i64 2)]), (9, .r (.sl ([(GAxisStep.mk 1 1), (GAxisStep.mk 0 2)].map GAxisStep.row))), (10, .agg [.r (.sl ([(GAxisStep.mk 1 1), (GAxisStep.mk 0 2)].map GAxisStep.row)), .cst (.slice none 0 0), .cst (.slice none 0 0), .cst (.slice none 0 0), .cst (.slice none 0 0)])]) (h' := []) 9 rfl ⟨jL, jL, jL, jL, jL, jL, .inl (.inr (.inr ⟨rfl, rfl⟩)), .inr ⟨_, _, rfl, rfl, ⟨.inr (.inr ⟨rfl, rfl⟩), .inl rfl, .inl rfl, .inl rfl, .inl rfl, trivial⟩⟩, trivial⟩ trivial) ?_
 refine AOps.weak (by exact Weak.cv (e' := [(0, .r (.bool false)), (4, .agg [.r (.int .i64 1), .r (.int .i64 0), .r (.str [120]), .r (.int .i64 0), .cst (.slice none 0 0)]), (5, .r (.sl ([(GCell.mk 1 0 [120] 0 [])].map GCell.row))), (6, .agg [.r (.int .i64 2), .r (.int .i64 1), .r (.sl ([(GCell.mk 1 0 [120] 0 [])].map GCell.row)), .r (.sl [])]), (7, .agg [.r (.int .i64 1), .r (.int .i64 1)]), (8, .agg [.r (.int .i64 0), .r (.int .i64 2)]), (9, .r (.sl ([(GAxisStep.mk 1 1), (GAxisStep.mk 0 2)].map GAxisStep.row))), (10, .agg [.r (.sl ([(GAxisStep.mk 1 1), (GAxisStep.mk 0 2)].map GAxisStep.row)), .cst (.slice none 0 0), .cst (.slice none 0 0), .cst (.slice none 0 0), .cst (.slice none 0 0)])]) (h' := []) ⟨jL, jL, jL, .inr ⟨_, _, rfl, rfl, ⟨.inl rfl, .inl rfl, .inl rfl, .inr (.inr ⟨rfl, rfl⟩), trivial⟩⟩, jL, jL, jL, jL, trivial⟩ trivial nL) ?_
 refine AOps.weak (by exact Weak.cv (e' := [(0, .r (.bool false)), (4, .agg [.r (.int .i64 1), .r (.int .i64 0), .r (.str [120]), .r (.int .i64 0), .cst (.slice none 0 0)]), (5, .r (.sl ([(GCell.mk 1 0 [120] 0 [])].map GCell.row))), (6, .agg [.r (.int .i64 2), .r (.int .i64 1), .r (.sl ([(GCell.mk 1 0 [120] 0 [])].map GCell.row)), .r (.sl [])]), (7, .agg [.r (.int .i64 1), .r (.int .i64 1)]), (8, .agg [.r (.int .i64 0), .r (.int .i64 2)]), (9, .r (.sl ([(GAxisStep.mk 1 1), (GAxisStep.mk 0 2)].map GAxisStep.row))), (10, .agg [.r (.sl ([(GAxisStep.mk 1 1), (GAxisStep.mk 0 2)].map GAxisStep.row)), .r (.sl []), .r (.sl []), .r (.sl []), .r (.sl [])])]) (h' := []) ⟨jL, jL, jL, jL, jL, jL, jL, .inr ⟨_, _, rfl, rfl, ⟨.inl rfl, .inr (.inr ⟨rfl, rfl⟩), .inr (.inr ⟨rfl, rfl⟩), .inr (.inr ⟨rfl, rfl⟩), .inr (.inr ⟨rfl, rfl⟩), trivial⟩⟩, trivial⟩ trivial nL) ?_
 refine ob2k h fun r1 r2 er1 h1 => ?_
 refine AOps.step rfl rfl rfl (sp_callS (r := .tup [.agg [.r (.int .i64 r1.Rows), .r (.int .i64 r1.Cols), .r (.sl (r1.Cells.map GCell.row)), .r (.sl (r1.Merges.map GRect.row))], .r (.int .i64 r2)]) (caps := []) (bs := [.agg [.r (.int .i64 2), .r (.int .i64 1), .r (.sl ([(GCell.mk 1 0 [120] 0 [])].map GCell.row)), .r (.sl [])], .agg [.r (.sl ([(GAxisStep.mk 1 1), (GAxisStep.mk 0 2)].map GAxisStep.row)), .r (.sl []), .r (.sl []), .r (.sl []), .r (.sl [])]]) rfl iL rfl ⟨.inl ⟨iL, rfl⟩, .inl ⟨iL, rfl⟩, trivial⟩ (fun _ => w_grid_Apply (er1))) ?_
 refine sM rfl rfl ?_
 refine sQ rfl (sp_extract (a := .agg [.r (.int .i64 r1.Rows), .r (.int .i64 r1.Cols), .r (.sl (r1.Cells.map GCell.row)), .r (.sl (r1.Merges.map GRect.row))]) rfl iL rfl) ?_
 refine sQ rfl (sp_extract (a := .r (.int .i64 r2)) rfl iL rfl) ?_
 refine AOps.step rfl rfl rfl (ms_alloc (cs := [.r (.int .i64 0), .r (.int .i64 0), .cst (.slice none 0 0), .cst (.slice none 0 0)]) 1 rfl t0_32 rfl rfl) ?_
 refine AOps.step0 rfl rfl (ms_store_box (ds := [.r (.int .i64 r1.Rows), .r (.int .i64 r1.Cols), .r (.sl (r1.Cells.map GCell.row)), .r (.sl (r1.Merges.map GRect.row))]) rfl tz_32 iL rfl iL rfl rfl rfl rfl) ?_
 refine sQ rfl (sp_assign rfl iL) ?_
 refine AOps.nil (hK2 _ ?_)
 refine AW.seq_w fun K3 hK3 wK3 => ?_
 refine AW.weak (s' := ⟨[(1, .ptr 1 (n0 + 2) 0 0), (2, .r (.int .i64 r2))], [(1, some (.box (n0 + 2) 32 [.r (.int .i64 r1.Rows), .r (.int .i64 r1.Cols), .r (.sl (r1.Cells.map GCell.row)), .r (.sl (r1.Merges.map GRect.row))]))], (n0 + 3), 35⟩) (by exact Weak.cv ⟨jL, jL, trivial⟩ ⟨.inl rfl, trivial⟩ nL) ?_
 refine AW.region ?_
 refine sM rfl rfl ?_
 refine sQ rfl (sp_eql rfl iL iL) ?_
 refine sM rfl rfl ?_
 refine sV rfl rfl rfl (sp_fieldAddr_own (ob := .box _ _ _) rfl tf_32_0 iL fR rfl) ?_
 refine sV rfl rfl rfl (ms_load_box (a := .r (.int .i64 r1.Rows)) rfl ts_3 (iR rfl) rfl rfl) ?_
 refine sV rfl rfl rfl (sp_eql rfl (iR rfl) iL) ?_
 refine sQ rfl (sp_and rfl iL (iR rfl)) ?_
 refine sM rfl rfl ?_
 refine sV rfl rfl rfl (sp_fieldAddr_own (ob := .box _ _ _) rfl tf_32_2 iL fR rfl) ?_
 refine sV rfl rfl rfl (ms_load_box (a := .r (.sl (r1.Cells.map GCell.row))) rfl ts_29 (iR rfl) rfl rfl) ?_
 refine sV rfl rfl rfl (ms_len rfl tg_29.slice (iR rfl)) ?_
 refine sV rfl rfl rfl (sp_eql rfl (iR rfl) iL) ?_
 refine sQ rfl (sp_and rfl iL (iR rfl)) ?_
 refine sM rfl rfl ?_
 refine sV rfl rfl rfl (sp_fieldAddr_own (ob := .box _ _ _) rfl tf_32_2 iL fR rfl) ?_
 refine sV rfl rfl rfl (ms_load_box (a := .r (.sl (r1.Cells.map GCell.row))) rfl ts_29 (iR rfl) rfl rfl) ?_
 refine ob1k h1 fun x1 ex1 h2 => ?_
 refine sV rfl rfl rfl (ms_idx rfl tg_29.slice (iR rfl) iL (fun _ => rfl) (gdt ex1)) ?_
 refine sV rfl rfl rfl (sp_fieldAddr_ro rfl tf_60_0 (iR rfl)) ?_
 refine sV rfl rfl rfl (ms_load (d := .int .i64 x1.Row) rfl ts_3 (iR rfl) rfl) ?_
 refine sV rfl rfl rfl (sp_eql rfl (iR rfl) iL) ?_
 refine sQ rfl (sp_and rfl iL (iR rfl)) ?_
 refine sQ rfl (sp_assign rfl iL) ?_
 refine AOps.nil (hK3 _ ?_)
 refine AW.ret ?_
 exact retf1 (P := Tryd.prog) (fun (r : Bool) => .r (.bool r)) h2 iL (.t (.d rfl))
set_option maxHeartbeats 4000000 in
set_option maxRecDepth 20000 in
theorem w_ref_In {x1 : Int} {low1 : Int} {high1 : Int} {r : Bool} (h : ref_In x1 low1 high1 = some r) : ARO Tryd.prog 61 [.r (.int .i64 x1), .r (.int .i64 low1), .r (.int .i64 high1)] (.r (.bool r)) := by
 unfold ref_In at h
 refine ARO.mkF Tryd.func61 rfl rfl Tryd.ntmps61 rfl (Nat.le_of_ble_eq_true rfl) fun n0 => ?_
 refine AW.seq_w fun K1 hK1 wK1 => ?_
 refine AW.region ?_
 refine sQ rfl (sp_assign rfl iL) ?_
 refine AOps.nil (hK1 _ ?_)
 refine AW.seq_w fun K2 hK2 wK2 => ?_
 refine AW.region ?_
 refine sM rfl rfl ?_
 refine sM rfl rfl ?_
 refine sQ rfl (sp_geq rfl iL iL) ?_
 refine sM rfl rfl ?_
 refine sV rfl rfl rfl (sp_move rfl iL) ?_
 refine sV rfl rfl rfl (sp_move rfl iL) ?_
 refine sV rfl rfl rfl (sp_leq rfl (iR rfl) (iR rfl)) ?_
 refine sQ rfl (sp_and rfl iL (iR rfl)) ?_
 refine sQ rfl (sp_assign rfl iL) ?_
 refine AOps.nil (hK2 _ ?_)
 refine AW.ret ?_
 exact retf1 (P := Tryd.prog) (fun (r : Bool) => .r (.bool r)) h iL (.t (.d rfl))
set_option maxHeartbeats 4000000 in
set_option maxRecDepth 20000 in
theorem w_unicode_utf8_ValidString {s1 : List UInt8} {r : Bool} (h : unicode_utf8_ValidString s1 = some r) : ARO Tryd.prog 87 [.r (.str s1)] (.r (.bool r)) := by
 unfold unicode_utf8_ValidString at h
 exact ARO.validString laysValid rfl rfl rfl ⟨_, Tryd.func87, rfl, rfl⟩ h
set_option maxHeartbeats 4000000 in
set_option maxRecDepth 20000 in
theorem w_ref_Char {c1 : Int} {r : Bool} (h : ref_Char c1 = some r) : ARO Tryd.prog 88 [.r (.int .i64 c1)] (.r (.bool r)) := by
 unfold ref_Char at h
 refine ARO.mkF Tryd.func88 rfl rfl Tryd.ntmps88 rfl (Nat.le_of_ble_eq_true rfl) fun n0 => ?_
 refine AW.seq_w fun K1 hK1 wK1 => ?_
 refine AW.region ?_
 refine sQ rfl (sp_assign rfl iL) ?_
 refine AOps.nil (hK1 _ ?_)
 refine AW.seq_w fun K2 hK2 wK2 => ?_
 refine AW.region ?_
 refine sM rfl rfl ?_
 refine sQ rfl (sp_eql rfl iL iL) ?_
 refine sM rfl rfl ?_
 refine sV rfl rfl rfl (sp_move rfl iL) ?_
 refine sV rfl rfl rfl (sp_eql rfl (iR rfl) iL) ?_
 refine sQ rfl (sp_or rfl iL (iR rfl)) ?_
 refine sM rfl rfl ?_
 refine sV rfl rfl rfl (sp_move rfl iL) ?_
 refine ob1k h fun r1 er1 h1 => ?_
 refine AOps.stepW (.one rfl rfl rfl) rfl rfl (sp_call (r := .r (.bool r1)) (caps := []) (bs := [.r (.int .i64 c1), .r (.int .i64 32), .r (.int .i64 126)]) rfl iL rfl ⟨⟨_, (iR rfl), .d rfl⟩, ⟨_, iL, .d rfl⟩, ⟨_, iL, .d rfl⟩, trivial⟩ (fun hg => w_ref_In (gdt er1 hg)) rfl) ?_
 refine sQ rfl (sp_or rfl iL (iR rfl)) ?_
 refine sM rfl rfl ?_
 refine sV rfl rfl rfl (sp_move rfl iL) ?_
 refine ob1k h1 fun r2 er2 h2 => ?_
 refine AOps.stepW (.one rfl rfl rfl) rfl rfl (sp_call (r := .r (.bool r2)) (caps := []) (bs := [.r (.int .i64 c1), .r (.int .i64 160), .r (.int .i64 55295)]) rfl iL rfl ⟨⟨_, (iR rfl), .d rfl⟩, ⟨_, iL, .d rfl⟩, ⟨_, iL, .d rfl⟩, trivial⟩ (fun hg => w_ref_In (gdt er2 hg)) rfl) ?_
 refine sQ rfl (sp_or rfl iL (iR rfl)) ?_
 refine sM rfl rfl ?_
 refine sV rfl rfl rfl (sp_move rfl iL) ?_
 refine ob1k h2 fun r3 er3 h3 => ?_
 refine AOps.stepW (.one rfl rfl rfl) rfl rfl (sp_call (r := .r (.bool r3)) (caps := []) (bs := [.r (.int .i64 c1), .r (.int .i64 57344), .r (.int .i64 1114111)]) rfl iL rfl ⟨⟨_, (iR rfl), .d rfl⟩, ⟨_, iL, .d rfl⟩, ⟨_, iL, .d rfl⟩, trivial⟩ (fun hg => w_ref_In (gdt er3 hg)) rfl) ?_
 refine sQ rfl (sp_or rfl iL (iR rfl)) ?_
 refine sQ rfl (sp_assign rfl iL) ?_
 refine AOps.nil (hK2 _ ?_)
 refine AW.ret ?_
 exact retf1 (P := Tryd.prog) (fun (r : Bool) => .r (.bool r)) h3 iL (.t (.d rfl))
set_option maxHeartbeats 4000000 in
set_option maxRecDepth 20000 in
theorem w_ref_CellText {s1 : List UInt8} {r : Bool} (h : ref_CellText s1 = some r) : ARO Tryd.prog 30 [.r (.str s1)] (.r (.bool r)) := by
 unfold ref_CellText at h
 refine ARO.mkF Tryd.func30 rfl rfl Tryd.ntmps30 rfl (Nat.le_of_ble_eq_true rfl) fun n0 => ?_
 refine AW.seq_w fun K1 hK1 wK1 => ?_
 refine AW.region ?_
 refine sQ rfl (sp_assign rfl iL) ?_
 refine AOps.nil (hK1 _ ?_)
 refine AW.seq_w fun K2 hK2 wK2 => ?_
 refine AW.seq_w fun K3 hK3 wK3 => ?_
 refine AW.region ?_
 refine sM rfl rfl ?_
 refine ob1k h fun r1 er1 h1 => ?_
 refine AOps.step rfl rfl rfl (sp_call (r := .r (.bool r1)) (caps := []) (bs := [.r (.str s1)]) rfl iL rfl ⟨⟨_, iL, .d rfl⟩, trivial⟩ (fun _ => w_unicode_utf8_ValidString (er1)) rfl) ?_
 refine sQ rfl (sp_not rfl iL) ?_
 refine AOps.nil (hK3 _ ?_)
 refine AW.cond rfl (fun hc1 => ?_) (fun hc1 => ?_)
 ·have h2 := ite_t hc1 h1
  refine AW.seq_w fun K4 hK4 wK4 => ?_
  refine AW.region ?_
  refine sQ rfl (sp_assign rfl iL) ?_
  refine AOps.nil (hK4 _ ?_)
  refine AW.ret ?_
  exact retf1 (P := Tryd.prog) (fun (r : Bool) => .r (.bool r)) h2 iL (.t (.d rfl))
 ·have h2 := ite_f hc1 h1
  refine AW.skip ?_
  refine hK2 _ ?_
  refine AW.seq_w fun K5 hK5 wK5 => ?_
  refine AW.seq_w fun K6 hK6 wK6 => ?_
  refine AW.region ?_
  refine sM rfl rfl ?_
  refine AOps.step rfl rfl rfl (ms_range 9 rfl Tryd.underlying9 iL) ?_
  refine AOps.nil (hK6 _ ?_)
  refine AW.block ?_
  refine jc1k h2 fun o1 hit1 hk1 he1 => ?_
  have J1 : ∀ (u2 : Unit) (i5 : Nat → Nat), o1 = .nrm u2 → K5 ⟨[], [], (i5 0), 21⟩ := by
   intro u2 i5 e
   have h3 := hk1 _ e
   refine hK5 _ ?_
   refine AW.seq_w fun K7 hK7 wK7 => ?_
   refine AW.region ?_
   refine sQ rfl (sp_assign rfl iL) ?_
   refine AOps.nil (hK7 _ ?_)
   refine AW.ret ?_
   exact retf1 (P := Tryd.prog) (fun (r : Bool) => .r (.bool r)) h3 iL (.t (.d rfl))
  refine AW.iter1 (fun (p2 : (Nat)) i3 => ⟨[(9, .ptr 9 n0 0 0)], [(9, some (.it n0 s1 p2))], (i3 0), 21⟩) (vec [(n0 + 1)]) hit1 ((by exact Weak.cv ⟨jL, trivial⟩ ⟨.inl rfl, trivial⟩ nL)) ?_
  intro p2 i3 v1 hv1 hx1
  have h4 : ref_CellText_L1 s1 p2 = some v1 := hv1; unfold ref_CellText_L1 at h4
  refine AW.seq_w fun K8 hK8 wK8 => ?_
  refine AW.split (decide (p2 < s1.length)) (fun hg1 => ?_) (fun hg1 => ?_)
  ·have h5 := ite_t hg1 h4
   refine AW.region ?_
   refine AOps.step rfl rfl rfl (ms_next_t rfl iL rfl (fun _ => hg1)) ?_
   refine sQ rfl (sp_extract (a := .r (.bool true)) rfl iL rfl) ?_
   refine AOps.nil (hK8 _ ?_)
   refine AW.seq_w fun K9 hK9 wK9 => ?_
   refine AW.cond rfl (fun hc2 => ?_) (fun hc2 => by cases hc2)
   refine AW.skip ?_
   refine hK9 _ ?_
   refine AW.block ?_
   refine AW.seq_w fun K10 hK10 wK10 => ?_
   refine AW.region ?_
   refine sQ rfl (sp_extract (a := .r (.int .i32 ((runeAt s1 p2).1 : Int))) rfl iL rfl) ?_
   refine sQ rfl (sp_assign rfl iL) ?_
   refine AOps.nil (hK10 _ ?_)
   refine AW.seq_w fun K11 hK11 wK11 => ?_
   refine AW.region ?_
   refine sM rfl rfl ?_
   refine sQ rfl (sp_eql rfl iL iL) ?_
   refine sM rfl rfl ?_
   refine sV rfl rfl rfl (sp_move rfl iL) ?_
   refine sV rfl rfl rfl (sp_convert_int rfl Tryd.underlying21 Tryd.underlying3 (iR rfl)) ?_
   refine ob1k h5 fun r2 er2 h6 => ?_
   refine AOps.stepW (.one rfl rfl rfl) rfl rfl (sp_call (r := .r (.bool r2)) (caps := []) (bs := [.r (.int .i64 (IntKind.i64.wrap ((runeAt s1 p2).1 : Int)))]) rfl iL rfl ⟨⟨_, (iR rfl), .d rfl⟩, trivial⟩ (fun hg => w_ref_Char (gdt er2 hg)) rfl) ?_
   refine sV rfl rfl rfl (sp_not rfl (iR rfl)) ?_
   refine sQ rfl (sp_or rfl iL (iR rfl)) ?_
   refine AOps.nil (hK11 _ ?_)
   refine AW.cond rfl (fun hc3 => ?_) (fun hc3 => ?_)
   ·have h7 := ite_t hc3 h6
    refine AW.seq_w fun K12 hK12 wK12 => ?_
    refine AW.weak (s' := ⟨[], [], (i3 0), 21⟩) (by exact Weak.cv trivial trivial nL) ?_
    refine AW.region ?_
    refine sQ rfl (sp_assign rfl iL) ?_
    refine AOps.nil (hK12 _ ?_)
    refine AW.ret ?_
    exact retf1 (P := Tryd.prog) (fun (r : Bool) => .r (.bool r)) (he1 _ (hx1 _ (Option.some.inj h7).symm)) iL (.t (.d rfl))
   ·have h7 := ite_f hc3 h6
    refine AW.skip ?_
    exact NextQ1.mk h7 (vec [(i3 0)]) ((by exact Weak.cv ⟨jL, trivial⟩ ⟨.inl rfl, trivial⟩ nL))
  ·have h5 := ite_f hg1 h4
   refine AW.region ?_
   refine AOps.step rfl rfl rfl (ms_next_f rfl iL rfl (fun _ => hg1)) ?_
   refine sQ rfl (sp_extract (a := .r (.bool false)) rfl iL rfl) ?_
   refine AOps.nil (hK8 _ ?_)
   refine AW.seq_w fun K13 hK13 wK13 => ?_
   refine AW.cond rfl (fun hc4 => by cases hc4) (fun hc4 => ?_)
   refine AW.exit ?_
   exact wK5 _ _ ((by exact Weak.cv trivial trivial nL)) (J1 _ (vec [(i3 0)]) (hx1 _ (Option.some.inj h5).symm))
set_option maxHeartbeats 4000000 in
set_option maxRecDepth 20000 in
theorem w_ref_Name {s1 : List UInt8} {r : Bool} (h : ref_Name s1 = some r) : ARO Tryd.prog 113 [.r (.str s1)] (.r (.bool r)) := by
 unfold ref_Name at h
 refine ARO.mkF Tryd.func113 rfl rfl Tryd.ntmps113 rfl (Nat.le_of_ble_eq_true rfl) fun n0 => ?_
 refine AW.seq_w fun K1 hK1 wK1 => ?_
 refine AW.region ?_
 refine sQ rfl (sp_assign rfl iL) ?_
 refine AOps.nil (hK1 _ ?_)
 refine AW.seq_w fun K2 hK2 wK2 => ?_
 refine AW.seq_w fun K3 hK3 wK3 => ?_
 refine AW.region ?_
 refine sM rfl rfl ?_
 refine sQ rfl (sp_len_str rfl Tryd.underlying9 iL) ?_
 refine sM rfl rfl ?_
 refine AOps.nil (hK3 _ ?_)
 refine AW.block ?_
 refine jc1k h fun o1 hit1 hk1 he1 => ?_
 have J1 : ∀ (u2 : Unit) (i5 : Nat → Nat), o1 = .nrm u2 → K2 ⟨[(0, .r (.str s1))], [], (i5 0), 59⟩ := by
  intro u2 i5 e
  have h1 := hk1 _ e
  refine hK2 _ ?_
  refine AW.seq_w fun K4 hK4 wK4 => ?_
  refine AW.region ?_
  refine sM rfl rfl ?_
  refine sQ rfl (sp_len_str rfl Tryd.underlying9 iL) ?_
  refine sQ rfl (sp_geq rfl iL iL) ?_
  refine sM rfl rfl ?_
  refine sV rfl rfl rfl (sp_move rfl iL) ?_
  refine sV rfl rfl rfl (sp_len_str rfl Tryd.underlying9 (iR rfl)) ?_
  refine sV rfl rfl rfl (sp_leq rfl (iR rfl) iL) ?_
  refine sQ rfl (sp_and rfl iL (iR rfl)) ?_
  refine sQ rfl (sp_assign rfl iL) ?_
  refine AOps.nil (hK4 _ ?_)
  refine AW.ret ?_
  exact retf1 (P := Tryd.prog) (fun (r : Bool) => .r (.bool r)) h1 iL (.t (.d rfl))
 refine AW.iter1 (fun (x2 : Int) i3 => ⟨[(0, .r (.str s1)), (6, .r (.int .i64 (s1.length : Int))), (7, .r (.int .i64 x2))], [], (i3 0), 59⟩) (vec [n0]) hit1 ((by exact Weak.cv ⟨jL, jL, jL, trivial⟩ trivial nL)) ?_
 intro x2 i3 v1 hv1 hx1
 have h2 : ref_Name_L1 s1 x2 = some v1 := hv1; unfold ref_Name_L1 at h2
 refine AW.seq_w fun K5 hK5 wK5 => ?_
 refine AW.region ?_
 refine sQ rfl (sp_lss rfl iL iL) ?_
 refine AOps.nil (hK5 _ ?_)
 refine AW.seq_w fun K6 hK6 wK6 => ?_
 refine AW.cond rfl (fun hc1 => ?_) (fun hc1 => ?_)
 ·have h3 := ite_t hc1 h2
  refine AW.skip ?_
  refine hK6 _ ?_
  refine AW.seq_w fun K7 hK7 wK7 => ?_
  refine AW.block ?_
  refine AW.seq_w fun K8 hK8 wK8 => ?_
  refine AW.region ?_
  refine sM rfl rfl ?_
  refine sQ rfl (sp_assign rfl iL) ?_
  refine AOps.nil (hK8 _ ?_)
  refine AW.seq_w fun K9 hK9 wK9 => ?_
  refine AW.region ?_
  refine sM rfl rfl ?_
  refine sM rfl rfl ?_
  refine ob1k h3 fun ch1 ech1 h4 => ?_
  refine sQ rfl (ms_idx_str rfl Tryd.underlying9 iL iL (fun _ => ech1)) ?_
  refine sQ rfl (sp_geq rfl iL iL) ?_
  refine sM rfl rfl ?_
  refine sV rfl rfl rfl (sp_move rfl iL) ?_
  refine sV rfl rfl rfl (sp_move rfl iL) ?_
  refine sV rfl rfl rfl (ms_idx_str rfl Tryd.underlying9 (iR rfl) (iR rfl) (fun _ => ech1)) ?_
  refine sV rfl rfl rfl (sp_leq rfl (iR rfl) iL) ?_
  refine sQ rfl (sp_and rfl iL (iR rfl)) ?_
  refine sQ rfl (sp_assign rfl iL) ?_
  refine AOps.nil (hK9 _ ?_)
  refine AW.seq_w fun K10 hK10 wK10 => ?_
  refine AW.region ?_
  refine sM rfl rfl ?_
  refine sQ rfl (sp_not rfl iL) ?_
  refine sM rfl rfl ?_
  refine sV rfl rfl rfl (sp_move rfl iL) ?_
  refine sV rfl rfl rfl (sp_eql rfl (iR rfl) iL) ?_
  refine sV rfl rfl rfl (sp_move rfl (iR rfl)) ?_
  refine sW (.two rfl rfl rfl) rfl (sp_move rfl iL) ?_
  refine sW (.two rfl rfl rfl) rfl (sp_move rfl iL) ?_
  refine sW (.two rfl rfl rfl) rfl (ms_idx_str rfl Tryd.underlying9 (iR rfl) (iR rfl) (fun _ => ech1)) ?_
  refine sW (.two rfl rfl rfl) rfl (sp_neq rfl (iR rfl) iL) ?_
  refine sW (.two rfl rfl rfl) rfl (sp_move rfl (iR rfl)) ?_
  refine sW (.two rfl rfl rfl) rfl (sp_move rfl iL) ?_
  refine sW (.two rfl rfl rfl) rfl (sp_move rfl iL) ?_
  refine sW (.two rfl rfl rfl) rfl (ms_idx_str rfl Tryd.underlying9 (iR rfl) (iR rfl) (fun _ => ech1)) ?_
  refine sW (.two rfl rfl rfl) rfl (sp_neq rfl (iR rfl) iL) ?_
  refine sW (.two rfl rfl rfl) rfl (sp_and rfl (iR rfl) (iR rfl)) ?_
  refine sW (.two rfl rfl rfl) rfl (sp_move rfl (iR rfl)) ?_
  refine sW (.two rfl rfl rfl) rfl (sp_move rfl iL) ?_
  refine sW (.two rfl rfl rfl) rfl (sp_move rfl iL) ?_
  refine sW (.two rfl rfl rfl) rfl (ms_idx_str rfl Tryd.underlying9 (iR rfl) (iR rfl) (fun _ => ech1)) ?_
  refine sW (.two rfl rfl rfl) rfl (sp_lss rfl (iR rfl) iL) ?_
  refine sW (.two rfl rfl rfl) rfl (sp_move rfl (iR rfl)) ?_
  refine sW (.two rfl rfl rfl) rfl (sp_move rfl iL) ?_
  refine sW (.two rfl rfl rfl) rfl (sp_move rfl iL) ?_
  refine sW (.two rfl rfl rfl) rfl (ms_idx_str rfl Tryd.underlying9 (iR rfl) (iR rfl) (fun _ => ech1)) ?_
  refine sW (.two rfl rfl rfl) rfl (sp_gtr rfl (iR rfl) iL) ?_
  refine sW (.two rfl rfl rfl) rfl (sp_or rfl (iR rfl) (iR rfl)) ?_
  refine sW (.two rfl rfl rfl) rfl (sp_and rfl (iR rfl) (iR rfl)) ?_
  refine sV rfl rfl rfl (sp_or rfl (iR rfl) (iR rfl)) ?_
  refine sQ rfl (sp_and rfl iL (iR rfl)) ?_
  refine AOps.nil (hK10 _ ?_)
  refine AW.cond rfl (fun hc2 => ?_) (fun hc2 => ?_)
  ·have h5 := ite_t hc2 h4
   refine AW.seq_w fun K11 hK11 wK11 => ?_
   refine AW.weak (s' := ⟨[], [], (i3 0), 59⟩) (by exact Weak.cv trivial trivial nL) ?_
   refine AW.region ?_
   refine sQ rfl (sp_assign rfl iL) ?_
   refine AOps.nil (hK11 _ ?_)
   refine AW.ret ?_
   exact retf1 (P := Tryd.prog) (fun (r : Bool) => .r (.bool r)) (he1 _ (hx1 _ (Option.some.inj h5).symm)) iL (.t (.d rfl))
  ·have h5 := ite_f hc2 h4
   refine AW.skip ?_
   refine hK7 _ ?_
   refine AW.weak (s' := ⟨[(0, .r (.str s1)), (6, .r (.int .i64 (s1.length : Int))), (7, .r (.int .i64 x2))], [], (i3 0), 59⟩) (by exact Weak.cv ⟨jL, jL, jL, trivial⟩ trivial nL) ?_
   refine AW.region ?_
   refine ob1k h5 fun x4 ex4 h6 => ?_
   refine sQ rfl (ms_add rfl iL iL (fun _ => ex4)) ?_
   refine sM rfl rfl ?_
   refine AOps.nil ?_
   exact NextQ1.mk h6 (vec [(i3 0)]) ((by exact Weak.cv ⟨jL, jL, jL, trivial⟩ trivial nL))
 ·have h3 := ite_f hc1 h2
  refine AW.exit ?_
  exact wK2 _ _ ((by exact Weak.cv ⟨jL, trivial⟩ trivial nL)) (J1 _ (vec [(i3 0)]) (hx1 _ (Option.some.inj h3).symm))
set_option maxHeartbeats 4000000 in
set_option maxRecDepth 20000 in
theorem w_ref_Value {s1 : List UInt8} {r : Bool} (h : ref_Value s1 = some r) : ARO Tryd.prog 114 [.r (.str s1)] (.r (.bool r)) := by
 unfold ref_Value at h
 refine ARO.mkF Tryd.func114 rfl rfl Tryd.ntmps114 rfl (Nat.le_of_ble_eq_true rfl) fun n0 => ?_
 refine AW.seq_w fun K1 hK1 wK1 => ?_
 refine AW.region ?_
 refine sQ rfl (sp_assign rfl iL) ?_
 refine AOps.nil (hK1 _ ?_)
 refine AW.seq_w fun K2 hK2 wK2 => ?_
 refine AW.seq_w fun K3 hK3 wK3 => ?_
 refine AW.region ?_
 refine sM rfl rfl ?_
 refine sQ rfl (sp_len_str rfl Tryd.underlying9 iL) ?_
 refine sM rfl rfl ?_
 refine AOps.nil (hK3 _ ?_)
 refine AW.block ?_
 refine jc1k h fun o1 hit1 hk1 he1 => ?_
 have J1 : ∀ (u2 : Unit) (i5 : Nat → Nat), o1 = .nrm u2 → K2 ⟨[(0, .r (.str s1))], [], (i5 0), 28⟩ := by
  intro u2 i5 e
  have h1 := hk1 _ e
  refine hK2 _ ?_
  refine AW.seq_w fun K4 hK4 wK4 => ?_
  refine AW.region ?_
  refine sM rfl rfl ?_
  refine sQ rfl (sp_len_str rfl Tryd.underlying9 iL) ?_
  refine sQ rfl (sp_geq rfl iL iL) ?_
  refine sM rfl rfl ?_
  refine sV rfl rfl rfl (sp_move rfl iL) ?_
  refine sV rfl rfl rfl (sp_len_str rfl Tryd.underlying9 (iR rfl)) ?_
  refine sV rfl rfl rfl (sp_leq rfl (iR rfl) iL) ?_
  refine sQ rfl (sp_and rfl iL (iR rfl)) ?_
  refine sQ rfl (sp_assign rfl iL) ?_
  refine AOps.nil (hK4 _ ?_)
  refine AW.ret ?_
  exact retf1 (P := Tryd.prog) (fun (r : Bool) => .r (.bool r)) h1 iL (.t (.d rfl))
 refine AW.iter1 (fun (x2 : Int) i3 => ⟨[(0, .r (.str s1)), (5, .r (.int .i64 (s1.length : Int))), (6, .r (.int .i64 x2))], [], (i3 0), 28⟩) (vec [n0]) hit1 ((by exact Weak.cv ⟨jL, jL, jL, trivial⟩ trivial nL)) ?_
 intro x2 i3 v1 hv1 hx1
 have h2 : ref_Value_L1 s1 x2 = some v1 := hv1; unfold ref_Value_L1 at h2
 refine AW.seq_w fun K5 hK5 wK5 => ?_
 refine AW.region ?_
 refine sQ rfl (sp_lss rfl iL iL) ?_
 refine AOps.nil (hK5 _ ?_)
 refine AW.seq_w fun K6 hK6 wK6 => ?_
 refine AW.cond rfl (fun hc1 => ?_) (fun hc1 => ?_)
 ·have h3 := ite_t hc1 h2
  refine AW.skip ?_
  refine hK6 _ ?_
  refine AW.seq_w fun K7 hK7 wK7 => ?_
  refine AW.block ?_
  refine AW.seq_w fun K8 hK8 wK8 => ?_
  refine AW.region ?_
  refine sM rfl rfl ?_
  refine sQ rfl (sp_assign rfl iL) ?_
  refine AOps.nil (hK8 _ ?_)
  refine AW.seq_w fun K9 hK9 wK9 => ?_
  refine AW.region ?_
  refine sM rfl rfl ?_
  refine sM rfl rfl ?_
  refine ob1k h3 fun ch1 ech1 h4 => ?_
  refine sQ rfl (ms_idx_str rfl Tryd.underlying9 iL iL (fun _ => ech1)) ?_
  refine sQ rfl (sp_lss rfl iL iL) ?_
  refine sM rfl rfl ?_
  refine sV rfl rfl rfl (sp_move rfl iL) ?_
  refine sV rfl rfl rfl (sp_move rfl iL) ?_
  refine sV rfl rfl rfl (ms_idx_str rfl Tryd.underlying9 (iR rfl) (iR rfl) (fun _ => ech1)) ?_
  refine sV rfl rfl rfl (sp_gtr rfl (iR rfl) iL) ?_
  refine sQ rfl (sp_or rfl iL (iR rfl)) ?_
  refine AOps.nil (hK9 _ ?_)
  refine AW.cond rfl (fun hc2 => ?_) (fun hc2 => ?_)
  ·have h5 := ite_t hc2 h4
   refine AW.seq_w fun K10 hK10 wK10 => ?_
   refine AW.weak (s' := ⟨[], [], (i3 0), 28⟩) (by exact Weak.cv trivial trivial nL) ?_
   refine AW.region ?_
   refine sQ rfl (sp_assign rfl iL) ?_
   refine AOps.nil (hK10 _ ?_)
   refine AW.ret ?_
   exact retf1 (P := Tryd.prog) (fun (r : Bool) => .r (.bool r)) (he1 _ (hx1 _ (Option.some.inj h5).symm)) iL (.t (.d rfl))
  ·have h5 := ite_f hc2 h4
   refine AW.skip ?_
   refine hK7 _ ?_
   refine AW.weak (s' := ⟨[(0, .r (.str s1)), (5, .r (.int .i64 (s1.length : Int))), (6, .r (.int .i64 x2))], [], (i3 0), 28⟩) (by exact Weak.cv ⟨jL, jL, jL, trivial⟩ trivial nL) ?_
   refine AW.region ?_
   refine ob1k h5 fun x4 ex4 h6 => ?_
   refine sQ rfl (ms_add rfl iL iL (fun _ => ex4)) ?_
   refine sM rfl rfl ?_
   refine AOps.nil ?_
   exact NextQ1.mk h6 (vec [(i3 0)]) ((by exact Weak.cv ⟨jL, jL, jL, trivial⟩ trivial nL))
 ·have h3 := ite_f hc1 h2
  refine AW.exit ?_
  exact wK2 _ _ ((by exact Weak.cv ⟨jL, trivial⟩ trivial nL)) (J1 _ (vec [(i3 0)]) (hx1 _ (Option.some.inj h3).symm))
set_option maxHeartbeats 4000000 in
set_option maxRecDepth 20000 in
theorem w_ref_AttrsError {l1 : List GAttr} {change1 : Bool} {r : Int} (h : ref_AttrsError l1 change1 = some r) : ARO Tryd.prog 62 [.r (.sl (l1.map GAttr.row)), .r (.bool change1)] (.r (.int .i64 r)) := by
 unfold ref_AttrsError at h
 refine ARO.mkF Tryd.func62 rfl rfl Tryd.ntmps62 rfl (Nat.le_of_ble_eq_true rfl) fun n0 => ?_
 refine AW.seq_w fun K1 hK1 wK1 => ?_
 refine AW.region ?_
 refine sQ rfl (sp_assign rfl iL) ?_
 refine AOps.nil (hK1 _ ?_)
 refine AW.seq_w fun K2 hK2 wK2 => ?_
 refine AW.seq_w fun K3 hK3 wK3 => ?_
 refine AW.region ?_
 refine sM rfl rfl ?_
 refine sQ rfl (ms_len rfl tg_27.slice iL) ?_
 refine sM rfl rfl ?_
 refine AOps.nil (hK3 _ ?_)
 refine AW.block ?_
 refine jc1k h fun o1 hit1 hk1 he1 => ?_
 have J1 : ∀ (u2 : Unit) (i5 : Nat → Nat), o1 = .nrm u2 → K2 ⟨[], [], (i5 0), 54⟩ := by
  intro u2 i5 e
  have h1 := hk1 _ e
  refine hK2 _ ?_
  refine AW.seq_w fun K4 hK4 wK4 => ?_
  refine AW.region ?_
  refine sQ rfl (sp_assign rfl iL) ?_
  refine AOps.nil (hK4 _ ?_)
  refine AW.ret ?_
  exact retf1 (P := Tryd.prog) (fun (r : Int) => .r (.int .i64 r)) h1 iL (.t (.d rfl))
 refine AW.iter1 (fun (x2 : Int) i3 => ⟨[(0, .r (.sl (l1.map GAttr.row))), (1, .r (.bool change1)), (7, .r (.int .i64 (l1.length : Int))), (8, .r (.int .i64 x2))], [], (i3 0), 54⟩) (vec [n0]) hit1 ((by exact Weak.cv ⟨jL, jL, jL, jL, trivial⟩ trivial nL)) ?_
 intro x2 i3 v1 hv1 hx1
 have h2 : ref_AttrsError_L1 l1 change1 x2 = some v1 := hv1; unfold ref_AttrsError_L1 at h2
 refine AW.seq_w fun K5 hK5 wK5 => ?_
 refine AW.region ?_
 refine sQ rfl (sp_lss rfl iL iL) ?_
 refine AOps.nil (hK5 _ ?_)
 refine AW.seq_w fun K6 hK6 wK6 => ?_
 refine AW.cond rfl (fun hc1 => ?_) (fun hc1 => ?_)
 ·have h3 := ite_t hc1 h2
  refine AW.skip ?_
  refine hK6 _ ?_
  refine AW.seq_w fun K7 hK7 wK7 => ?_
  refine AW.block ?_
  refine AW.seq_w fun K8 hK8 wK8 => ?_
  refine AW.region ?_
  refine sM rfl rfl ?_
  refine sQ rfl (sp_assign rfl iL) ?_
  refine AOps.nil (hK8 _ ?_)
  refine AW.seq_w fun K9 hK9 wK9 => ?_
  refine AW.seq_w fun K10 hK10 wK10 => ?_
  refine AW.region ?_
  refine sM rfl rfl ?_
  refine sM rfl rfl ?_
  refine ob1k h3 fun x4 ex4 h4 => ?_
  refine sQ rfl (ms_idx rfl tg_27.slice iL iL (fun _ => rfl) (fun _ => ex4)) ?_
  refine sQ rfl (sp_fieldAddr_ro rfl tf_122_0 iL) ?_
  refine sQ rfl (ms_load (d := .str x4.Name) rfl ts_9 iL rfl) ?_
  refine ob1k h4 fun r1 er1 h5 => ?_
  refine AOps.step rfl rfl rfl (sp_call (r := .r (.bool r1)) (caps := []) (bs := [.r (.str x4.Name)]) rfl iL rfl ⟨⟨_, iL, .d rfl⟩, trivial⟩ (fun _ => w_ref_Name (er1)) rfl) ?_
  refine sQ rfl (sp_not rfl iL) ?_
  refine AOps.nil (hK10 _ ?_)
  refine AW.cond rfl (fun hc2 => ?_) (fun hc2 => ?_)
  ·have h6 := ite_t hc2 h5
   refine AW.seq_w fun K11 hK11 wK11 => ?_
   refine AW.weak (s' := ⟨[], [], (i3 0), 54⟩) (by exact Weak.cv trivial trivial nL) ?_
   refine AW.region ?_
   refine sQ rfl (sp_assign rfl iL) ?_
   refine AOps.nil (hK11 _ ?_)
   refine AW.ret ?_
   exact retf1 (P := Tryd.prog) (fun (r : Int) => .r (.int .i64 r)) (he1 _ (hx1 _ (Option.some.inj h6).symm)) iL (.t (.d rfl))
  ·have h6 := ite_f hc2 h5
   refine AW.skip ?_
   refine hK9 _ ?_
   refine AW.seq_w fun K12 hK12 wK12 => ?_
   refine AW.seq_w fun K13 hK13 wK13 => ?_
   refine AW.weak (s' := ⟨[(0, .r (.sl (l1.map GAttr.row))), (1, .r (.bool change1)), (5, .r (.int .i64 x2)), (7, .r (.int .i64 (l1.length : Int))), (8, .r (.int .i64 x2))], [], (i3 0), 54⟩) (by exact Weak.cv ⟨jL, jL, jL, jL, jL, trivial⟩ trivial nL) ?_
   refine AW.region ?_
   refine sM rfl rfl ?_
   refine sM rfl rfl ?_
   refine sQ rfl (ms_idx rfl tg_27.slice iL iL (fun _ => rfl) (fun _ => ex4)) ?_
   refine sQ rfl (sp_fieldAddr_ro rfl tf_122_1 iL) ?_
   refine sQ rfl (ms_load (d := .str x4.Value) rfl ts_9 iL rfl) ?_
   refine ob1k h6 fun r2 er2 h7 => ?_
   refine AOps.step rfl rfl rfl (sp_call (r := .r (.bool r2)) (caps := []) (bs := [.r (.str x4.Value)]) rfl iL rfl ⟨⟨_, iL, .d rfl⟩, trivial⟩ (fun _ => w_ref_Value (er2)) rfl) ?_
   refine sQ rfl (sp_not rfl iL) ?_
   refine sM rfl rfl ?_
   refine sV rfl rfl rfl (sp_move rfl iL) ?_
   refine sV rfl rfl rfl (sp_move rfl iL) ?_
   refine sV rfl rfl rfl (ms_idx rfl tg_27.slice (iR rfl) (iR rfl) (fun _ => rfl) (fun _ => ex4)) ?_
   refine sV rfl rfl rfl (sp_fieldAddr_ro rfl tf_122_1 (iR rfl)) ?_
   refine sV rfl rfl rfl (ms_load (d := .str x4.Value) rfl ts_9 (iR rfl) rfl) ?_
   refine sV rfl rfl rfl (sp_sneq rfl (iR rfl) iL) ?_
   refine sV rfl rfl rfl (sp_move rfl (iR rfl)) ?_
   refine sW (.two rfl rfl rfl) rfl (sp_move rfl iL) ?_
   refine sW (.two rfl rfl rfl) rfl (sp_not rfl (iR rfl)) ?_
   refine sV rfl rfl rfl (sp_or rfl (iR rfl) (iR rfl)) ?_
   refine sQ rfl (sp_and rfl iL (iR rfl)) ?_
   refine AOps.nil (hK13 _ ?_)
   refine AW.cond rfl (fun hc3 => ?_) (fun hc3 => ?_)
   ·have h8 := ite_t hc3 h7
    refine AW.seq_w fun K14 hK14 wK14 => ?_
    refine AW.weak (s' := ⟨[], [], (i3 0), 54⟩) (by exact Weak.cv trivial trivial nL) ?_
    refine AW.region ?_
    refine sQ rfl (sp_assign rfl iL) ?_
    refine AOps.nil (hK14 _ ?_)
    refine AW.ret ?_
    exact retf1 (P := Tryd.prog) (fun (r : Int) => .r (.int .i64 r)) (he1 _ (hx1 _ (Option.some.inj h8).symm)) iL (.t (.d rfl))
   ·have h8 := ite_f hc3 h7
    refine AW.skip ?_
    refine hK12 _ ?_
    refine AW.seq_w fun K15 hK15 wK15 => ?_
    refine AW.weak (s' := ⟨[(0, .r (.sl (l1.map GAttr.row))), (1, .r (.bool change1)), (5, .r (.int .i64 x2)), (7, .r (.int .i64 (l1.length : Int))), (8, .r (.int .i64 x2))], [], (i3 0), 54⟩) (by exact Weak.cv ⟨jL, jL, jL, jL, jL, trivial⟩ trivial nL) ?_
    refine AW.regionQ hmix (by kernel_rfl) ?_
    refine AQ.step rfl rfl rfl (sp_move rfl iL) ?_
    refine AQ.step rfl rfl rfl (sp_gtr rfl iL iL) ?_
    refine AQ.step rfl rfl rfl (sp_move rfl iL) ?_
    refine AQ.stepW (.one rfl rfl rfl) rfl rfl (sp_move rfl iL) ?_
    refine AQ.stepW (.one rfl rfl rfl) rfl rfl (sp_move rfl iL) ?_
    refine ob1k h8 fun x5 ex5 h9 => ?_
    refine AQ.stepW (.one rfl rfl rfl) rfl rfl (ms_sub rfl (iR rfl) iL (gdt ex5)) ?_
    refine ob1k h9 fun x6 ex6 h10 => ?_
    refine AQ.stepW (.one rfl rfl rfl) rfl rfl (ms_idx rfl tg_27.slice (iR rfl) (iR rfl) (fun _ => rfl) (gdt ex6)) ?_
    refine AQ.stepW (.one rfl rfl rfl) rfl rfl (sp_fieldAddr_ro rfl tf_122_0 (iR rfl)) ?_
    refine AQ.stepW (.one rfl rfl rfl) rfl rfl (ms_load (d := .str x6.Name) rfl ts_9 (iR rfl) rfl) ?_
    refine AQ.stepW (.one rfl rfl rfl) rfl rfl (sp_move rfl iL) ?_
    refine AQ.stepW (.one rfl rfl rfl) rfl rfl (sp_move rfl iL) ?_
    refine AQ.stepW (.one rfl rfl rfl) rfl rfl (ms_idx rfl tg_27.slice (iR rfl) (iR rfl) (fun _ => rfl) (fun _ => ex4)) ?_
    refine AQ.stepW (.one rfl rfl rfl) rfl rfl (sp_fieldAddr_ro rfl tf_122_0 (iR rfl)) ?_
    refine AQ.stepW (.one rfl rfl rfl) rfl rfl (ms_load (d := .str x4.Name) rfl ts_9 (iR rfl) rfl) ?_
    refine AQ.stepW (.one rfl rfl rfl) rfl rfl (sp_sgeq rfl (iR rfl) (iR rfl)) ?_
    refine AQ.step rfl rfl rfl (sp_and rfl iL (iR rfl)) ?_
    refine AQ.nil ?_
    refine hK15 _ ?_
    refine AW.cond rfl (fun hc4 => ?_) (fun hc4 => ?_)
    ·have h11 := ite_t hc4 h10
     refine AW.seq_w fun K16 hK16 wK16 => ?_
     refine AW.weak (s' := ⟨[], [], (i3 0), 54⟩) (by exact Weak.cv trivial trivial nL) ?_
     refine AW.region ?_
     refine sQ rfl (sp_assign rfl iL) ?_
     refine AOps.nil (hK16 _ ?_)
     refine AW.ret ?_
     exact retf1 (P := Tryd.prog) (fun (r : Int) => .r (.int .i64 r)) (he1 _ (hx1 _ (Option.some.inj h11).symm)) iL (.t (.d rfl))
    ·have h11 := ite_f hc4 h10
     refine AW.skip ?_
     refine hK7 _ ?_
     refine AW.region ?_
     refine ob1k h11 fun x7 ex7 h12 => ?_
     refine sQ rfl (ms_add rfl iL iL (fun _ => ex7)) ?_
     refine sM rfl rfl ?_
     refine AOps.nil ?_
     exact NextQ1.mk h12 (vec [(i3 0)]) ((by exact Weak.cv ⟨jL, jL, jL, jL, trivial⟩ trivial nL))
 ·have h3 := ite_f hc1 h2
  refine AW.exit ?_
  exact wK2 _ _ ((by exact Weak.cv trivial trivial nL)) (J1 _ (vec [(i3 0)]) (hx1 _ (Option.some.inj h3).symm))
set_option maxHeartbeats 4000000 in
set_option maxRecDepth 20000 in
theorem w_ref_EmptyCell {c1 : GCell} {r : Bool} (h : ref_EmptyCell c1 = some r) : ARO Tryd.prog 83 [.agg [.r (.int .i64 c1.Row), .r (.int .i64 c1.Col), .r (.str c1.Text), .r (.int .i64 c1.Ref), .r (.sl (c1.Attrs.map GAttr.row))]] (.r (.bool r)) := by
 unfold ref_EmptyCell at h
 refine ARO.mkF Tryd.func83 rfl rfl Tryd.ntmps83 rfl (Nat.le_of_ble_eq_true rfl) fun n0 => ?_
 refine AW.seq_w fun K1 hK1 wK1 => ?_
 refine AW.region ?_
 refine AOps.step rfl rfl rfl (ms_box (cs := [.r (.int .i64 c1.Row), .r (.int .i64 c1.Col), .r (.str c1.Text), .r (.int .i64 c1.Ref), .r (.sl (c1.Attrs.map GAttr.row))]) 1 rfl iL rfl rfl) ?_
 refine sQ rfl (sp_assign rfl iL) ?_
 refine AOps.nil (hK1 _ ?_)
 refine AW.seq_w fun K2 hK2 wK2 => ?_
 refine AW.region ?_
 refine sQ rfl (sp_fieldAddr_own (ob := .box _ _ _) rfl tf_60_2 iL fR rfl) ?_
 refine sQ rfl (ms_load_box (a := .r (.str c1.Text)) rfl ts_9 iL rfl rfl) ?_
 refine sQ rfl (sp_seql rfl iL iL) ?_
 refine sM rfl rfl ?_
 refine sV rfl rfl rfl (sp_fieldAddr_own (ob := .box _ _ _) rfl tf_60_3 iL fR rfl) ?_
 refine sV rfl rfl rfl (ms_load_box (a := .r (.int .i64 c1.Ref)) rfl ts_3 (iR rfl) rfl rfl) ?_
 refine sV rfl rfl rfl (sp_eql rfl (iR rfl) iL) ?_
 refine sQ rfl (sp_and rfl iL (iR rfl)) ?_
 refine sM rfl rfl ?_
 refine sV rfl rfl rfl (sp_fieldAddr_own (ob := .box _ _ _) rfl tf_60_4 iL fR rfl) ?_
 refine sV rfl rfl rfl (ms_load_box (a := .r (.sl (c1.Attrs.map GAttr.row))) rfl ts_27 (iR rfl) rfl rfl) ?_
 refine sV rfl rfl rfl (ms_len rfl tg_27.slice (iR rfl)) ?_
 refine sV rfl rfl rfl (sp_eql rfl (iR rfl) iL) ?_
 refine sQ rfl (sp_and rfl iL (iR rfl)) ?_
 refine sQ rfl (sp_assign rfl iL) ?_
 refine AOps.nil (hK2 _ ?_)
 refine AW.ret ?_
 exact retf1 (P := Tryd.prog) (fun (r : Bool) => .r (.bool r)) h iL (.t (.d rfl))
set_option maxHeartbeats 4000000 in
set_option maxRecDepth 20000 in
theorem w_ref_CellsError {l1 : List GCell} {rows1 : Int} {cols1 : Int} {none1 : Bool} {r : Int} (h : ref_CellsError l1 rows1 cols1 none1 = some r) : ARO Tryd.prog 72 [.r (.sl (l1.map GCell.row)), .r (.int .i64 rows1), .r (.int .i64 cols1), .r (.bool none1)] (.r (.int .i64 r)) := by
 unfold ref_CellsError at h
 refine ARO.mkF Tryd.func72 rfl rfl Tryd.ntmps72 rfl (Nat.le_of_ble_eq_true rfl) fun n0 => ?_
 refine AW.seq_w fun K1 hK1 wK1 => ?_
 refine AW.region ?_
 refine sQ rfl (sp_assign rfl iL) ?_
 refine AOps.nil (hK1 _ ?_)
 refine AW.seq_w fun K2 hK2 wK2 => ?_
 refine AW.seq_w fun K3 hK3 wK3 => ?_
 refine AW.region ?_
 refine sM rfl rfl ?_
 refine sQ rfl (ms_len rfl tg_29.slice iL) ?_
 refine sM rfl rfl ?_
 refine AOps.nil (hK3 _ ?_)
 refine AW.block ?_
 refine jc1k h fun o1 hit1 hk1 he1 => ?_
 have J1 : ∀ (u2 : Unit) (i5 : Nat → Nat), o1 = .nrm u2 → K2 ⟨[], [], (i5 0), 93⟩ := by
  intro u2 i5 e
  have h1 := hk1 _ e
  refine hK2 _ ?_
  refine AW.seq_w fun K4 hK4 wK4 => ?_
  refine AW.region ?_
  refine sQ rfl (sp_assign rfl iL) ?_
  refine AOps.nil (hK4 _ ?_)
  refine AW.ret ?_
  exact retf1 (P := Tryd.prog) (fun (r : Int) => .r (.int .i64 r)) h1 iL (.t (.d rfl))
 refine AW.iter1 (fun (x2 : Int) i3 => ⟨[(0, .r (.sl (l1.map GCell.row))), (1, .r (.int .i64 rows1)), (2, .r (.int .i64 cols1)), (3, .r (.bool none1)), (13, .r (.int .i64 (l1.length : Int))), (14, .r (.int .i64 x2))], [], (i3 0), 93⟩) (vec [n0]) hit1 ((by exact Weak.cv ⟨jL, jL, jL, jL, jL, jL, trivial⟩ trivial nL)) ?_
 intro x2 i3 v1 hv1 hx1
 have h2 : ref_CellsError_L1 l1 rows1 cols1 none1 x2 = some v1 := hv1; unfold ref_CellsError_L1 at h2
 refine AW.seq_w fun K5 hK5 wK5 => ?_
 refine AW.region ?_
 refine sQ rfl (sp_lss rfl iL iL) ?_
 refine AOps.nil (hK5 _ ?_)
 refine AW.seq_w fun K6 hK6 wK6 => ?_
 refine AW.cond rfl (fun hc1 => ?_) (fun hc1 => ?_)
 ·have h3 := ite_t hc1 h2
  refine AW.skip ?_
  refine hK6 _ ?_
  refine AW.seq_w fun K7 hK7 wK7 => ?_
  refine AW.block ?_
  refine AW.seq_w fun K8 hK8 wK8 => ?_
  refine AW.region ?_
  refine sM rfl rfl ?_
  refine sQ rfl (sp_assign rfl iL) ?_
  refine AOps.nil (hK8 _ ?_)
  refine AW.seq_w fun K9 hK9 wK9 => ?_
  refine AW.region ?_
  refine sM rfl rfl ?_
  refine sM rfl rfl ?_
  refine ob1k h3 fun x4 ex4 h4 => ?_
  refine sQ rfl (ms_idx rfl tg_29.slice iL iL (fun _ => rfl) (fun _ => ex4)) ?_
  refine sQ rfl (ms_loadA (cs := [.r (.int .i64 x4.Row), .r (.int .i64 x4.Col), .r (.str x4.Text), .r (.int .i64 x4.Ref), .r (.sl (x4.Attrs.map GAttr.row))]) rfl ta_60 iL rfl rfl) ?_
  refine AOps.step rfl rfl rfl (ms_alloc (cs := [.r (.int .i64 0), .r (.int .i64 0), .r (.str []), .r (.int .i64 0), .cst (.slice none 0 0)]) 10 rfl t0_60 rfl rfl) ?_
  refine AOps.step0 rfl rfl (ms_store_box (ds := [.r (.int .i64 x4.Row), .r (.int .i64 x4.Col), .r (.str x4.Text), .r (.int .i64 x4.Ref), .r (.sl (x4.Attrs.map GAttr.row))]) rfl tz_60 iL rfl iL rfl rfl rfl rfl) ?_
  refine AOps.nil (hK9 _ ?_)
  refine AW.seq_w fun K10 hK10 wK10 => ?_
  refine AW.seq_w fun K11 hK11 wK11 => ?_
  refine AW.region ?_
  refine sQ rfl (sp_fieldAddr_own (ob := .box _ _ _) rfl tf_60_0 iL fR rfl) ?_
  refine sQ rfl (ms_load_box (a := .r (.int .i64 x4.Row)) rfl ts_3 iL rfl rfl) ?_
  refine sM rfl rfl ?_
  refine ob1k h4 fun x5 ex5 h5 => ?_
  refine sQ rfl (ms_sub rfl iL iL (fun _ => ex5)) ?_
  refine ob1k h5 fun r1 er1 h6 => ?_
  refine AOps.step rfl rfl rfl (sp_call (r := .r (.bool r1)) (caps := []) (bs := [.r (.int .i64 x4.Row), .r (.int .i64 0), .r (.int .i64 x5)]) rfl iL rfl ⟨⟨_, iL, .d rfl⟩, ⟨_, iL, .d rfl⟩, ⟨_, iL, .d rfl⟩, trivial⟩ (fun _ => w_ref_In (er1)) rfl) ?_
  refine sQ rfl (sp_not rfl iL) ?_
  refine sM rfl rfl ?_
  refine sV rfl rfl rfl (sp_fieldAddr_own (ob := .box _ _ _) rfl tf_60_1 iL fR rfl) ?_
  refine sV rfl rfl rfl (ms_load_box (a := .r (.int .i64 x4.Col)) rfl ts_3 (iR rfl) rfl rfl) ?_
  refine sV rfl rfl rfl (sp_move rfl iL) ?_
  refine ob1k h6 fun x6 ex6 h7 => ?_
  refine sV rfl rfl rfl (ms_sub rfl (iR rfl) iL (gdt ex6)) ?_
  refine ob1k h7 fun r2 er2 h8 => ?_
  refine AOps.stepW (.one rfl rfl rfl) rfl rfl (sp_call (r := .r (.bool r2)) (caps := []) (bs := [.r (.int .i64 x4.Col), .r (.int .i64 0), .r (.int .i64 x6)]) rfl iL rfl ⟨⟨_, (iR rfl), .d rfl⟩, ⟨_, iL, .d rfl⟩, ⟨_, (iR rfl), .d rfl⟩, trivial⟩ (fun hg => w_ref_In (gdt er2 hg)) rfl) ?_
  refine sV rfl rfl rfl (sp_not rfl (iR rfl)) ?_
  refine sQ rfl (sp_or rfl iL (iR rfl)) ?_
  refine sM rfl rfl ?_
  refine sV rfl rfl rfl (sp_fieldAddr_own (ob := .box _ _ _) rfl tf_60_3 iL fR rfl) ?_
  refine sV rfl rfl rfl (ms_load_box (a := .r (.int .i64 x4.Ref)) rfl ts_3 (iR rfl) rfl rfl) ?_
  refine ob1k h8 fun r3 er3 h9 => ?_
  refine AOps.stepW (.one rfl rfl rfl) rfl rfl (sp_call (r := .r (.bool r3)) (caps := []) (bs := [.r (.int .i64 x4.Ref), .r (.int .i64 0), .r (.int .i64 1073741824)]) rfl iL rfl ⟨⟨_, (iR rfl), .d rfl⟩, ⟨_, iL, .d rfl⟩, ⟨_, iL, .d rfl⟩, trivial⟩ (fun hg => w_ref_In (gdt er3 hg)) rfl) ?_
  refine sV rfl rfl rfl (sp_not rfl (iR rfl)) ?_
  refine sQ rfl (sp_or rfl iL (iR rfl)) ?_
  refine AOps.nil (hK11 _ ?_)
  refine AW.cond rfl (fun hc2 => ?_) (fun hc2 => ?_)
  ·have h10 := ite_t hc2 h9
   refine AW.seq_w fun K12 hK12 wK12 => ?_
   refine AW.weak (s' := ⟨[], [], ((i3 0) + 1), 93⟩) (by exact Weak.cv trivial trivial nL) ?_
   refine AW.region ?_
   refine sQ rfl (sp_assign rfl iL) ?_
   refine AOps.nil (hK12 _ ?_)
   refine AW.ret ?_
   exact retf1 (P := Tryd.prog) (fun (r : Int) => .r (.int .i64 r)) (he1 _ (hx1 _ (Option.some.inj h10).symm)) iL (.t (.d rfl))
  ·have h10 := ite_f hc2 h9
   refine AW.skip ?_
   refine hK10 _ ?_
   refine AW.seq_w fun K13 hK13 wK13 => ?_
   refine AW.seq_w fun K14 hK14 wK14 => ?_
   refine AW.weak (s' := ⟨[(0, .r (.sl (l1.map GCell.row))), (1, .r (.int .i64 rows1)), (2, .r (.int .i64 cols1)), (3, .r (.bool none1)), (9, .r (.int .i64 x2)), (10, .ptr 10 (i3 0) 0 0), (13, .r (.int .i64 (l1.length : Int))), (14, .r (.int .i64 x2))], [(10, some (.box (i3 0) 60 [.r (.int .i64 x4.Row), .r (.int .i64 x4.Col), .r (.str x4.Text), .r (.int .i64 x4.Ref), .r (.sl (x4.Attrs.map GAttr.row))]))], ((i3 0) + 1), 93⟩) (by exact Weak.cv ⟨jL, jL, jL, jL, jL, jL, jL, jL, trivial⟩ ⟨.inl rfl, trivial⟩ nL) ?_
   refine AW.region ?_
   refine sQ rfl (sp_fieldAddr_own (ob := .box _ _ _) rfl tf_60_2 iL fR rfl) ?_
   refine sQ rfl (ms_load_box (a := .r (.str x4.Text)) rfl ts_9 iL rfl rfl) ?_
   refine ob1k h10 fun r4 er4 h11 => ?_
   refine AOps.step rfl rfl rfl (sp_call (r := .r (.bool r4)) (caps := []) (bs := [.r (.str x4.Text)]) rfl iL rfl ⟨⟨_, iL, .d rfl⟩, trivial⟩ (fun _ => w_ref_CellText (er4)) rfl) ?_
   refine sQ rfl (sp_not rfl iL) ?_
   refine AOps.nil (hK14 _ ?_)
   refine AW.cond rfl (fun hc3 => ?_) (fun hc3 => ?_)
   ·have h12 := ite_t hc3 h11
    refine AW.seq_w fun K15 hK15 wK15 => ?_
    refine AW.weak (s' := ⟨[], [], ((i3 0) + 1), 93⟩) (by exact Weak.cv trivial trivial nL) ?_
    refine AW.region ?_
    refine sQ rfl (sp_assign rfl iL) ?_
    refine AOps.nil (hK15 _ ?_)
    refine AW.ret ?_
    exact retf1 (P := Tryd.prog) (fun (r : Int) => .r (.int .i64 r)) (he1 _ (hx1 _ (Option.some.inj h12).symm)) iL (.t (.d rfl))
   ·have h12 := ite_f hc3 h11
    refine AW.skip ?_
    refine hK13 _ ?_
    refine AW.seq_w fun K16 hK16 wK16 => ?_
    refine AW.seq_w fun K17 hK17 wK17 => ?_
    refine AW.region ?_
    refine sQ rfl (sp_fieldAddr_own (ob := .box _ _ _) rfl tf_60_4 iL fR rfl) ?_
    refine sQ rfl (ms_load_box (a := .r (.sl (x4.Attrs.map GAttr.row))) rfl ts_27 iL rfl rfl) ?_
    refine ob1k h12 fun e1 ee1 h13 => ?_
    refine AOps.step rfl rfl rfl (sp_call (r := .r (.int .i64 e1)) (caps := []) (bs := [.r (.sl (x4.Attrs.map GAttr.row)), .r (.bool false)]) rfl iL rfl ⟨⟨_, iL, .d rfl⟩, ⟨_, iL, .d rfl⟩, trivial⟩ (fun _ => w_ref_AttrsError (ee1)) rfl) ?_
    refine sQ rfl (sp_assign rfl iL) ?_
    refine AOps.nil (hK17 _ ?_)
    refine AW.seq_w fun K18 hK18 wK18 => ?_
    refine AW.region ?_
    refine sM rfl rfl ?_
    refine sQ rfl (sp_neq rfl iL iL) ?_
    refine AOps.nil (hK18 _ ?_)
    refine AW.cond rfl (fun hc4 => ?_) (fun hc4 => ?_)
    ·have h14 := ite_t hc4 h13
     refine AW.seq_w fun K19 hK19 wK19 => ?_
     refine AW.weak (s' := ⟨[(11, .r (.int .i64 e1))], [], ((i3 0) + 1), 93⟩) (by exact Weak.cv ⟨jL, trivial⟩ trivial nL) ?_
     refine AW.region ?_
     refine sM rfl rfl ?_
     refine sQ rfl (sp_assign rfl iL) ?_
     refine AOps.nil (hK19 _ ?_)
     refine AW.ret ?_
     exact retf1 (P := Tryd.prog) (fun (r : Int) => .r (.int .i64 r)) (he1 _ (hx1 _ (Option.some.inj h14).symm)) iL (.t (.d rfl))
    ·have h14 := ite_f hc4 h13
     refine AW.skip ?_
     refine hK16 _ ?_
     refine AW.seq_w fun K20 hK20 wK20 => ?_
     refine AW.seq_w fun K21 hK21 wK21 => ?_
     refine AW.weak (s' := ⟨[(0, .r (.sl (l1.map GCell.row))), (1, .r (.int .i64 rows1)), (2, .r (.int .i64 cols1)), (3, .r (.bool none1)), (9, .r (.int .i64 x2)), (10, .ptr 10 (i3 0) 0 0), (13, .r (.int .i64 (l1.length : Int))), (14, .r (.int .i64 x2))], [(10, some (.box (i3 0) 60 [.r (.int .i64 x4.Row), .r (.int .i64 x4.Col), .r (.str x4.Text), .r (.int .i64 x4.Ref), .r (.sl (x4.Attrs.map GAttr.row))]))], ((i3 0) + 1), 93⟩) (by exact Weak.cv ⟨jL, jL, jL, jL, jL, jL, jL, jL, trivial⟩ ⟨.inl rfl, trivial⟩ nL) ?_
     refine AW.region ?_
     refine sM rfl rfl ?_
     refine sQ rfl (sp_not rfl iL) ?_
     refine sM rfl rfl ?_
     refine sV rfl rfl rfl (ms_loadA_box rfl ta_60 iL rfl rfl) ?_
     refine ob1k h14 fun r5 er5 h15 => ?_
     refine AOps.stepW (.one rfl rfl rfl) rfl rfl (sp_call (r := .r (.bool r5)) (caps := []) (bs := [.agg [.r (.int .i64 x4.Row), .r (.int .i64 x4.Col), .r (.str x4.Text), .r (.int .i64 x4.Ref), .r (.sl (x4.Attrs.map GAttr.row))]]) rfl iL rfl ⟨⟨_, (iR rfl), .g (cs := [.int .i64 x4.Row, .int .i64 x4.Col, .str x4.Text, .int .i64 x4.Ref, .sl (x4.Attrs.map GAttr.row)]) rfl rfl⟩, trivial⟩ (fun hg => w_ref_EmptyCell (gdt er5 hg)) rfl) ?_
     refine sQ rfl (sp_and rfl iL (iR rfl)) ?_
     refine AOps.nil (hK21 _ ?_)
     refine AW.cond rfl (fun hc5 => ?_) (fun hc5 => ?_)
     ·have h16 := ite_t hc5 h15
      refine AW.seq_w fun K22 hK22 wK22 => ?_
      refine AW.weak (s' := ⟨[], [], ((i3 0) + 1), 93⟩) (by exact Weak.cv trivial trivial nL) ?_
      refine AW.region ?_
      refine sQ rfl (sp_assign rfl iL) ?_
      refine AOps.nil (hK22 _ ?_)
      refine AW.ret ?_
      exact retf1 (P := Tryd.prog) (fun (r : Int) => .r (.int .i64 r)) (he1 _ (hx1 _ (Option.some.inj h16).symm)) iL (.t (.d rfl))
     ·have h16 := ite_f hc5 h15
      refine AW.skip ?_
      refine hK20 _ ?_
      refine AW.seq_w fun K23 hK23 wK23 => ?_
      refine AW.regionQ hmix (by kernel_rfl) ?_
      refine AQ.step rfl rfl rfl (sp_move rfl iL) ?_
      refine AQ.step rfl rfl rfl (sp_gtr rfl iL iL) ?_
      refine AQ.step rfl rfl rfl (sp_move rfl iL) ?_
      refine AQ.stepW (.one rfl rfl rfl) rfl rfl (sp_fieldAddr_own (ob := .box _ _ _) rfl tf_60_0 iL fR rfl) ?_
      refine AQ.stepW (.one rfl rfl rfl) rfl rfl (ms_load_box (a := .r (.int .i64 x4.Row)) rfl ts_3 (iR rfl) rfl rfl) ?_
      refine AQ.stepW (.one rfl rfl rfl) rfl rfl (sp_move rfl iL) ?_
      refine AQ.stepW (.one rfl rfl rfl) rfl rfl (sp_move rfl iL) ?_
      refine ob1k h16 fun x7 ex7 h17 => ?_
      refine AQ.stepW (.one rfl rfl rfl) rfl rfl (ms_sub rfl (iR rfl) iL (gdt ex7)) ?_
      refine ob1k h17 fun x8 ex8 h18 => ?_
      refine AQ.stepW (.one rfl rfl rfl) rfl rfl (ms_idx rfl tg_29.slice (iR rfl) (iR rfl) (fun _ => rfl) (gdt ex8)) ?_
      refine AQ.stepW (.one rfl rfl rfl) rfl rfl (sp_fieldAddr_ro rfl tf_60_0 (iR rfl)) ?_
      refine AQ.stepW (.one rfl rfl rfl) rfl rfl (ms_load (d := .int .i64 x8.Row) rfl ts_3 (iR rfl) rfl) ?_
      refine AQ.stepW (.one rfl rfl rfl) rfl rfl (sp_lss rfl (iR rfl) (iR rfl)) ?_
      refine AQ.stepW (.one rfl rfl rfl) rfl rfl (sp_move rfl (iR rfl)) ?_
      refine AQ.stepW (.two rfl rfl rfl) rfl rfl (sp_fieldAddr_own (ob := .box _ _ _) rfl tf_60_0 iL fR rfl) ?_
      refine AQ.stepW (.two rfl rfl rfl) rfl rfl (ms_load_box (a := .r (.int .i64 x4.Row)) rfl ts_3 (iR rfl) rfl rfl) ?_
      refine AQ.stepW (.two rfl rfl rfl) rfl rfl (sp_move rfl iL) ?_
      refine AQ.stepW (.two rfl rfl rfl) rfl rfl (sp_move rfl iL) ?_
      refine AQ.stepW (.two rfl rfl rfl) rfl rfl (ms_sub rfl (iR rfl) iL (fun h => gdt ex7 (Bool.and_eq_true_iff.1 h).1)) ?_
      refine AQ.stepW (.two rfl rfl rfl) rfl rfl (ms_idx rfl tg_29.slice (iR rfl) (iR rfl) (fun _ => rfl) (fun h => gdt ex8 (Bool.and_eq_true_iff.1 h).1)) ?_
      refine AQ.stepW (.two rfl rfl rfl) rfl rfl (sp_fieldAddr_ro rfl tf_60_0 (iR rfl)) ?_
      refine AQ.stepW (.two rfl rfl rfl) rfl rfl (ms_load (d := .int .i64 x8.Row) rfl ts_3 (iR rfl) rfl) ?_
      refine AQ.stepW (.two rfl rfl rfl) rfl rfl (sp_eql rfl (iR rfl) (iR rfl)) ?_
      refine AQ.stepW (.two rfl rfl rfl) rfl rfl (sp_move rfl (iR rfl)) ?_
      refine AQ.stepW (.two rfl rfl rfl) rfl rfl (sp_fieldAddr_own (ob := .box _ _ _) rfl tf_60_1 iL fR rfl) ?_
      refine AQ.stepW (.two rfl rfl rfl) rfl rfl (ms_load_box (a := .r (.int .i64 x4.Col)) rfl ts_3 (iR rfl) rfl rfl) ?_
      refine AQ.stepW (.two rfl rfl rfl) rfl rfl (sp_move rfl iL) ?_
      refine AQ.stepW (.two rfl rfl rfl) rfl rfl (sp_move rfl iL) ?_
      refine ob1k h18 fun x9 ex9 h19 => ?_
      refine AQ.stepW (.two rfl rfl rfl) rfl rfl (ms_sub rfl (iR rfl) iL (gdt ex9)) ?_
      refine ob1k h19 fun x10 ex10 h20 => ?_
      refine AQ.stepW (.two rfl rfl rfl) rfl rfl (ms_idx rfl tg_29.slice (iR rfl) (iR rfl) (fun _ => rfl) (gdt ex10)) ?_
      refine AQ.stepW (.two rfl rfl rfl) rfl rfl (sp_fieldAddr_ro rfl tf_60_1 (iR rfl)) ?_
      refine AQ.stepW (.two rfl rfl rfl) rfl rfl (ms_load (d := .int .i64 x10.Col) rfl ts_3 (iR rfl) rfl) ?_
      refine AQ.stepW (.two rfl rfl rfl) rfl rfl (sp_leq rfl (iR rfl) (iR rfl)) ?_
      refine AQ.stepW (.two rfl rfl rfl) rfl rfl (sp_and rfl (iR rfl) (iR rfl)) ?_
      refine AQ.stepW (.one rfl rfl rfl) rfl rfl (sp_or rfl (iR rfl) (iR rfl)) ?_
      refine AQ.step rfl rfl rfl (sp_and rfl iL (iR rfl)) ?_
      refine AQ.nil ?_
      refine hK23 _ ?_
      refine AW.cond rfl (fun hc6 => ?_) (fun hc6 => ?_)
      ·have h21 := ite_t hc6 h20
       refine AW.seq_w fun K24 hK24 wK24 => ?_
       refine AW.weak (s' := ⟨[], [], ((i3 0) + 1), 93⟩) (by exact Weak.cv trivial trivial nL) ?_
       refine AW.region ?_
       refine sQ rfl (sp_assign rfl iL) ?_
       refine AOps.nil (hK24 _ ?_)
       refine AW.ret ?_
       exact retf1 (P := Tryd.prog) (fun (r : Int) => .r (.int .i64 r)) (he1 _ (hx1 _ (Option.some.inj h21).symm)) iL (.t (.d rfl))
      ·have h21 := ite_f hc6 h20
       refine AW.skip ?_
       refine hK7 _ ?_
       refine AW.weak (s' := ⟨[(0, .r (.sl (l1.map GCell.row))), (1, .r (.int .i64 rows1)), (2, .r (.int .i64 cols1)), (3, .r (.bool none1)), (13, .r (.int .i64 (l1.length : Int))), (14, .r (.int .i64 x2))], [], ((i3 0) + 1), 93⟩) (by exact Weak.cv ⟨jL, jL, jL, jL, jL, jL, trivial⟩ trivial nL) ?_
       refine AW.region ?_
       refine ob1k h21 fun x11 ex11 h22 => ?_
       refine sQ rfl (ms_add rfl iL iL (fun _ => ex11)) ?_
       refine sM rfl rfl ?_
       refine AOps.nil ?_
       exact NextQ1.mk h22 (vec [((i3 0) + 1)]) ((by exact Weak.cv ⟨jL, jL, jL, jL, jL, jL, trivial⟩ trivial nL))
 ·have h3 := ite_f hc1 h2
  refine AW.exit ?_
  exact wK2 _ _ ((by exact Weak.cv trivial trivial nL)) (J1 _ (vec [(i3 0)]) (hx1 _ (Option.some.inj h3).symm))
set_option maxHeartbeats 4000000 in
set_option maxRecDepth 20000 in
theorem w_ref_Lies {r1 : GRect} {rows1 : Int} {cols1 : Int} {r : Bool} (h : ref_Lies r1 rows1 cols1 = some r) : ARO Tryd.prog 73 [.agg [.r (.int .i64 r1.Row), .r (.int .i64 r1.Col), .r (.int .i64 r1.H), .r (.int .i64 r1.W)], .r (.int .i64 rows1), .r (.int .i64 cols1)] (.r (.bool r)) := by
 unfold ref_Lies at h
 refine ARO.mkF Tryd.func73 rfl rfl Tryd.ntmps73 rfl (Nat.le_of_ble_eq_true rfl) fun n0 => ?_
 refine AW.seq_w fun K1 hK1 wK1 => ?_
 refine AW.region ?_
 refine AOps.step rfl rfl rfl (ms_box (cs := [.r (.int .i64 r1.Row), .r (.int .i64 r1.Col), .r (.int .i64 r1.H), .r (.int .i64 r1.W)]) 3 rfl iL rfl rfl) ?_
 refine sQ rfl (sp_assign rfl iL) ?_
 refine AOps.nil (hK1 _ ?_)
 refine AW.seq_w fun K2 hK2 wK2 => ?_
 refine AW.region ?_
 refine sQ rfl (sp_fieldAddr_own (ob := .box _ _ _) rfl tf_64_0 iL fR rfl) ?_
 refine sQ rfl (ms_load_box (a := .r (.int .i64 r1.Row)) rfl ts_3 iL rfl rfl) ?_
 refine sM rfl rfl ?_
 refine ob1k h fun x1 ex1 h1 => ?_
 refine sQ rfl (ms_sub rfl iL iL (fun _ => ex1)) ?_
 refine ob1k h1 fun r2 er2 h2 => ?_
 refine AOps.step rfl rfl rfl (sp_call (r := .r (.bool r2)) (caps := []) (bs := [.r (.int .i64 r1.Row), .r (.int .i64 0), .r (.int .i64 x1)]) rfl iL rfl ⟨⟨_, iL, .d rfl⟩, ⟨_, iL, .d rfl⟩, ⟨_, iL, .d rfl⟩, trivial⟩ (fun _ => w_ref_In (er2)) rfl) ?_
 refine sM rfl rfl ?_
 refine sV rfl rfl rfl (sp_fieldAddr_own (ob := .box _ _ _) rfl tf_64_1 iL fR rfl) ?_
 refine sV rfl rfl rfl (ms_load_box (a := .r (.int .i64 r1.Col)) rfl ts_3 (iR rfl) rfl rfl) ?_
 refine sV rfl rfl rfl (sp_move rfl iL) ?_
 refine ob1k h2 fun x2 ex2 h3 => ?_
 refine sV rfl rfl rfl (ms_sub rfl (iR rfl) iL (gdt ex2)) ?_
 refine ob1k h3 fun r3 er3 h4 => ?_
 refine AOps.stepW (.one rfl rfl rfl) rfl rfl (sp_call (r := .r (.bool r3)) (caps := []) (bs := [.r (.int .i64 r1.Col), .r (.int .i64 0), .r (.int .i64 x2)]) rfl iL rfl ⟨⟨_, (iR rfl), .d rfl⟩, ⟨_, iL, .d rfl⟩, ⟨_, (iR rfl), .d rfl⟩, trivial⟩ (fun hg => w_ref_In (gdt er3 hg)) rfl) ?_
 refine sQ rfl (sp_and rfl iL (iR rfl)) ?_
 refine sM rfl rfl ?_
 refine sV rfl rfl rfl (sp_fieldAddr_own (ob := .box _ _ _) rfl tf_64_2 iL fR rfl) ?_
 refine sV rfl rfl rfl (ms_load_box (a := .r (.int .i64 r1.H)) rfl ts_3 (iR rfl) rfl rfl) ?_
 refine sV rfl rfl rfl (sp_move rfl iL) ?_
 refine sV rfl rfl rfl (sp_fieldAddr_own (ob := .box _ _ _) rfl tf_64_0 iL fR rfl) ?_
 refine sV rfl rfl rfl (ms_load_box (a := .r (.int .i64 r1.Row)) rfl ts_3 (iR rfl) rfl rfl) ?_
 refine ob1k h4 fun x3 ex3 h5 => ?_
 refine sV rfl rfl rfl (ms_sub rfl (iR rfl) (iR rfl) (gdt ex3)) ?_
 refine ob1k h5 fun r4 er4 h6 => ?_
 refine AOps.stepW (.one rfl rfl rfl) rfl rfl (sp_call (r := .r (.bool r4)) (caps := []) (bs := [.r (.int .i64 r1.H), .r (.int .i64 1), .r (.int .i64 x3)]) rfl iL rfl ⟨⟨_, (iR rfl), .d rfl⟩, ⟨_, iL, .d rfl⟩, ⟨_, (iR rfl), .d rfl⟩, trivial⟩ (fun hg => w_ref_In (gdt er4 hg)) rfl) ?_
 refine sQ rfl (sp_and rfl iL (iR rfl)) ?_
 refine sM rfl rfl ?_
 refine sV rfl rfl rfl (sp_fieldAddr_own (ob := .box _ _ _) rfl tf_64_3 iL fR rfl) ?_
 refine sV rfl rfl rfl (ms_load_box (a := .r (.int .i64 r1.W)) rfl ts_3 (iR rfl) rfl rfl) ?_
 refine sV rfl rfl rfl (sp_move rfl iL) ?_
 refine sV rfl rfl rfl (sp_fieldAddr_own (ob := .box _ _ _) rfl tf_64_1 iL fR rfl) ?_
 refine sV rfl rfl rfl (ms_load_box (a := .r (.int .i64 r1.Col)) rfl ts_3 (iR rfl) rfl rfl) ?_
 refine ob1k h6 fun x4 ex4 h7 => ?_
 refine sV rfl rfl rfl (ms_sub rfl (iR rfl) (iR rfl) (gdt ex4)) ?_
 refine ob1k h7 fun r5 er5 h8 => ?_
 refine AOps.stepW (.one rfl rfl rfl) rfl rfl (sp_call (r := .r (.bool r5)) (caps := []) (bs := [.r (.int .i64 r1.W), .r (.int .i64 1), .r (.int .i64 x4)]) rfl iL rfl ⟨⟨_, (iR rfl), .d rfl⟩, ⟨_, iL, .d rfl⟩, ⟨_, (iR rfl), .d rfl⟩, trivial⟩ (fun hg => w_ref_In (gdt er5 hg)) rfl) ?_
 refine sQ rfl (sp_and rfl iL (iR rfl)) ?_
 refine sQ rfl (sp_assign rfl iL) ?_
 refine AOps.nil (hK2 _ ?_)
 refine AW.ret ?_
 exact retf1 (P := Tryd.prog) (fun (r : Bool) => .r (.bool r)) h8 iL (.t (.d rfl))
set_option maxHeartbeats 4000000 in
set_option maxRecDepth 20000 in
theorem w_ref_Share {a1 : GRect} {b1 : GRect} {r : Bool} (h : ref_Share a1 b1 = some r) : ARO Tryd.prog 74 [.agg [.r (.int .i64 a1.Row), .r (.int .i64 a1.Col), .r (.int .i64 a1.H), .r (.int .i64 a1.W)], .agg [.r (.int .i64 b1.Row), .r (.int .i64 b1.Col), .r (.int .i64 b1.H), .r (.int .i64 b1.W)]] (.r (.bool r)) := by
 unfold ref_Share at h
 refine ARO.mkF Tryd.func74 rfl rfl Tryd.ntmps74 rfl (Nat.le_of_ble_eq_true rfl) fun n0 => ?_
 refine AW.seq_w fun K1 hK1 wK1 => ?_
 refine AW.region ?_
 refine AOps.step rfl rfl rfl (ms_box (cs := [.r (.int .i64 a1.Row), .r (.int .i64 a1.Col), .r (.int .i64 a1.H), .r (.int .i64 a1.W)]) 2 rfl iL rfl rfl) ?_
 refine AOps.step rfl rfl rfl (ms_box (cs := [.r (.int .i64 b1.Row), .r (.int .i64 b1.Col), .r (.int .i64 b1.H), .r (.int .i64 b1.W)]) 3 rfl iL rfl rfl) ?_
 refine sQ rfl (sp_assign rfl iL) ?_
 refine AOps.nil (hK1 _ ?_)
 refine AW.seq_w fun K2 hK2 wK2 => ?_
 refine AW.regionQ hmix (by kernel_rfl) ?_
 refine AQ.step rfl rfl rfl (sp_fieldAddr_own (ob := .box _ _ _) rfl tf_64_0 iL fR rfl) ?_
 refine AQ.step rfl rfl rfl (ms_load_box (a := .r (.int .i64 a1.Row)) rfl ts_3 iL rfl rfl) ?_
 refine AQ.step rfl rfl rfl (sp_fieldAddr_own (ob := .box _ _ _) rfl tf_64_0 iL fR rfl) ?_
 refine AQ.step rfl rfl rfl (ms_load_box (a := .r (.int .i64 b1.Row)) rfl ts_3 iL rfl rfl) ?_
 refine AQ.step rfl rfl rfl (sp_max rfl iL iL) ?_
 refine AQ.step rfl rfl rfl (sp_fieldAddr_own (ob := .box _ _ _) rfl tf_64_1 iL fR rfl) ?_
 refine AQ.step rfl rfl rfl (ms_load_box (a := .r (.int .i64 a1.Col)) rfl ts_3 iL rfl rfl) ?_
 refine AQ.step rfl rfl rfl (sp_fieldAddr_own (ob := .box _ _ _) rfl tf_64_1 iL fR rfl) ?_
 refine AQ.step rfl rfl rfl (ms_load_box (a := .r (.int .i64 b1.Col)) rfl ts_3 iL rfl rfl) ?_
 refine AQ.step rfl rfl rfl (sp_max rfl iL iL) ?_
 refine AQ.step rfl rfl rfl (sp_assign rfl iL) ?_
 refine AQ.step rfl rfl rfl (sp_assign rfl iL) ?_
 refine AQ.nil ?_
 refine hK2 _ ?_
 refine AW.seq_w fun K3 hK3 wK3 => ?_
 refine AW.weak (s' := ⟨[(2, .ptr 2 n0 0 0), (3, .ptr 3 (n0 + 1) 0 0), (5, .r (.int .i64 (max a1.Row b1.Row))), (6, .r (.int .i64 (max a1.Col b1.Col)))], [(2, some (.box n0 64 [.r (.int .i64 a1.Row), .r (.int .i64 a1.Col), .r (.int .i64 a1.H), .r (.int .i64 a1.W)])), (3, some (.box (n0 + 1) 64 [.r (.int .i64 b1.Row), .r (.int .i64 b1.Col), .r (.int .i64 b1.H), .r (.int .i64 b1.W)]))], (n0 + 2), 45⟩) (by exact Weak.cv ⟨jL, jL, jL, jL, trivial⟩ ⟨.inl rfl, .inl rfl, trivial⟩ nL) ?_
 refine AW.region ?_
 refine sM rfl rfl ?_
 refine sQ rfl (sp_fieldAddr_own (ob := .box _ _ _) rfl tf_64_0 iL fR rfl) ?_
 refine sQ rfl (ms_load_box (a := .r (.int .i64 a1.Row)) rfl ts_3 iL rfl rfl) ?_
 refine sQ rfl (sp_fieldAddr_own (ob := .box _ _ _) rfl tf_64_2 iL fR rfl) ?_
 refine sQ rfl (ms_load_box (a := .r (.int .i64 a1.H)) rfl ts_3 iL rfl rfl) ?_
 refine ob1k h fun x1 ex1 h1 => ?_
 refine sQ rfl (ms_add rfl iL iL (fun _ => ex1)) ?_
 refine sQ rfl (sp_fieldAddr_own (ob := .box _ _ _) rfl tf_64_0 iL fR rfl) ?_
 refine sQ rfl (ms_load_box (a := .r (.int .i64 b1.Row)) rfl ts_3 iL rfl rfl) ?_
 refine sQ rfl (sp_fieldAddr_own (ob := .box _ _ _) rfl tf_64_2 iL fR rfl) ?_
 refine sQ rfl (ms_load_box (a := .r (.int .i64 b1.H)) rfl ts_3 iL rfl rfl) ?_
 refine ob1k h1 fun x2 ex2 h2 => ?_
 refine sQ rfl (ms_add rfl iL iL (fun _ => ex2)) ?_
 refine sQ rfl (sp_min rfl iL iL) ?_
 refine sQ rfl (sp_lss rfl iL iL) ?_
 refine sM rfl rfl ?_
 refine sV rfl rfl rfl (sp_move rfl iL) ?_
 refine sV rfl rfl rfl (sp_fieldAddr_own (ob := .box _ _ _) rfl tf_64_1 iL fR rfl) ?_
 refine sV rfl rfl rfl (ms_load_box (a := .r (.int .i64 a1.Col)) rfl ts_3 (iR rfl) rfl rfl) ?_
 refine sV rfl rfl rfl (sp_fieldAddr_own (ob := .box _ _ _) rfl tf_64_3 iL fR rfl) ?_
 refine sV rfl rfl rfl (ms_load_box (a := .r (.int .i64 a1.W)) rfl ts_3 (iR rfl) rfl rfl) ?_
 refine ob1k h2 fun x3 ex3 h3 => ?_
 refine sV rfl rfl rfl (ms_add rfl (iR rfl) (iR rfl) (gdt ex3)) ?_
 refine sV rfl rfl rfl (sp_fieldAddr_own (ob := .box _ _ _) rfl tf_64_1 iL fR rfl) ?_
 refine sV rfl rfl rfl (ms_load_box (a := .r (.int .i64 b1.Col)) rfl ts_3 (iR rfl) rfl rfl) ?_
 refine sV rfl rfl rfl (sp_fieldAddr_own (ob := .box _ _ _) rfl tf_64_3 iL fR rfl) ?_
 refine sV rfl rfl rfl (ms_load_box (a := .r (.int .i64 b1.W)) rfl ts_3 (iR rfl) rfl rfl) ?_
 refine ob1k h3 fun x4 ex4 h4 => ?_
 refine sV rfl rfl rfl (ms_add rfl (iR rfl) (iR rfl) (gdt ex4)) ?_
 refine sV rfl rfl rfl (sp_min rfl (iR rfl) (iR rfl)) ?_
 refine sV rfl rfl rfl (sp_lss rfl (iR rfl) (iR rfl)) ?_
 refine sQ rfl (sp_and rfl iL (iR rfl)) ?_
 refine sQ rfl (sp_assign rfl iL) ?_
 refine AOps.nil (hK3 _ ?_)
 refine AW.ret ?_
 exact retf1 (P := Tryd.prog) (fun (r : Bool) => .r (.bool r)) h4 iL (.t (.d rfl))
set_option maxHeartbeats 4000000 in
set_option maxRecDepth 20000 in
theorem w_ref_GridError {g1 : GGrid} {r : Int} (h : ref_GridError g1 = some r) : ARO Tryd.prog 23 [.agg [.r (.int .i64 g1.Rows), .r (.int .i64 g1.Cols), .r (.sl (g1.Cells.map GCell.row)), .r (.sl (g1.Merges.map GRect.row))]] (.r (.int .i64 r)) := by
 unfold ref_GridError at h
 refine ARO.mkF Tryd.func23 rfl rfl Tryd.ntmps23 rfl (Nat.le_of_ble_eq_true rfl) fun n0 => ?_
 refine AW.seq_w fun K1 hK1 wK1 => ?_
 refine AW.region ?_
 refine AOps.step rfl rfl rfl (ms_box (cs := [.r (.int .i64 g1.Rows), .r (.int .i64 g1.Cols), .r (.sl (g1.Cells.map GCell.row)), .r (.sl (g1.Merges.map GRect.row))]) 1 rfl iL rfl rfl) ?_
 refine sQ rfl (sp_assign rfl iL) ?_
 refine AOps.nil (hK1 _ ?_)
 refine AW.seq_w fun K2 hK2 wK2 => ?_
 refine AW.seq_w fun K3 hK3 wK3 => ?_
 refine AW.region ?_
 refine sQ rfl (sp_fieldAddr_own (ob := .box _ _ _) rfl tf_32_0 iL fR rfl) ?_
 refine sQ rfl (ms_load_box (a := .r (.int .i64 g1.Rows)) rfl ts_3 iL rfl rfl) ?_
 refine ob1k h fun r1 er1 h1 => ?_
 refine AOps.step rfl rfl rfl (sp_call (r := .r (.bool r1)) (caps := []) (bs := [.r (.int .i64 g1.Rows), .r (.int .i64 0), .r (.int .i64 2147483647)]) rfl iL rfl ⟨⟨_, iL, .d rfl⟩, ⟨_, iL, .d rfl⟩, ⟨_, iL, .d rfl⟩, trivial⟩ (fun _ => w_ref_In (er1)) rfl) ?_
 refine sQ rfl (sp_not rfl iL) ?_
 refine sM rfl rfl ?_
 refine sV rfl rfl rfl (sp_fieldAddr_own (ob := .box _ _ _) rfl tf_32_1 iL fR rfl) ?_
 refine sV rfl rfl rfl (ms_load_box (a := .r (.int .i64 g1.Cols)) rfl ts_3 (iR rfl) rfl rfl) ?_
 refine ob1k h1 fun r2 er2 h2 => ?_
 refine AOps.stepW (.one rfl rfl rfl) rfl rfl (sp_call (r := .r (.bool r2)) (caps := []) (bs := [.r (.int .i64 g1.Cols), .r (.int .i64 0), .r (.int .i64 2147483647)]) rfl iL rfl ⟨⟨_, (iR rfl), .d rfl⟩, ⟨_, iL, .d rfl⟩, ⟨_, iL, .d rfl⟩, trivial⟩ (fun hg => w_ref_In (gdt er2 hg)) rfl) ?_
 refine sV rfl rfl rfl (sp_not rfl (iR rfl)) ?_
 refine sQ rfl (sp_or rfl iL (iR rfl)) ?_
 refine AOps.nil (hK3 _ ?_)
 refine AW.cond rfl (fun hc1 => ?_) (fun hc1 => ?_)
 ·have h3 := ite_t hc1 h2
  refine AW.seq_w fun K4 hK4 wK4 => ?_
  refine AW.weak (s' := ⟨[], [], (n0 + 1), 104⟩) (by exact Weak.cv trivial trivial nL) ?_
  refine AW.region ?_
  refine sQ rfl (sp_assign rfl iL) ?_
  refine AOps.nil (hK4 _ ?_)
  refine AW.ret ?_
  exact retf1 (P := Tryd.prog) (fun (r : Int) => .r (.int .i64 r)) h3 iL (.t (.d rfl))
 ·have h3 := ite_f hc1 h2
  refine AW.skip ?_
  refine hK2 _ ?_
  refine AW.seq_w fun K5 hK5 wK5 => ?_
  refine AW.seq_w fun K6 hK6 wK6 => ?_
  refine AW.weak (s' := ⟨[(1, .ptr 1 n0 0 0)], [(1, some (.box n0 32 [.r (.int .i64 g1.Rows), .r (.int .i64 g1.Cols), .r (.sl (g1.Cells.map GCell.row)), .r (.sl (g1.Merges.map GRect.row))]))], (n0 + 1), 104⟩) (by exact Weak.cv ⟨jL, trivial⟩ ⟨.inl rfl, trivial⟩ nL) ?_
  refine AW.region ?_
  refine sQ rfl (sp_fieldAddr_own (ob := .box _ _ _) rfl tf_32_2 iL fR rfl) ?_
  refine sQ rfl (ms_load_box (a := .r (.sl (g1.Cells.map GCell.row))) rfl ts_29 iL rfl rfl) ?_
  refine sQ rfl (sp_fieldAddr_own (ob := .box _ _ _) rfl tf_32_0 iL fR rfl) ?_
  refine sQ rfl (ms_load_box (a := .r (.int .i64 g1.Rows)) rfl ts_3 iL rfl rfl) ?_
  refine sQ rfl (sp_fieldAddr_own (ob := .box _ _ _) rfl tf_32_1 iL fR rfl) ?_
  refine sQ rfl (ms_load_box (a := .r (.int .i64 g1.Cols)) rfl ts_3 iL rfl rfl) ?_
  refine ob1k h3 fun e1 ee1 h4 => ?_
  refine AOps.step rfl rfl rfl (sp_call (r := .r (.int .i64 e1)) (caps := []) (bs := [.r (.sl (g1.Cells.map GCell.row)), .r (.int .i64 g1.Rows), .r (.int .i64 g1.Cols), .r (.bool false)]) rfl iL rfl ⟨⟨_, iL, .d rfl⟩, ⟨_, iL, .d rfl⟩, ⟨_, iL, .d rfl⟩, ⟨_, iL, .d rfl⟩, trivial⟩ (fun _ => w_ref_CellsError (ee1)) rfl) ?_
  refine sQ rfl (sp_assign rfl iL) ?_
  refine AOps.nil (hK6 _ ?_)
  refine AW.seq_w fun K7 hK7 wK7 => ?_
  refine AW.region ?_
  refine sM rfl rfl ?_
  refine sQ rfl (sp_neq rfl iL iL) ?_
  refine AOps.nil (hK7 _ ?_)
  refine AW.cond rfl (fun hc2 => ?_) (fun hc2 => ?_)
  ·have h5 := ite_t hc2 h4
   refine AW.seq_w fun K8 hK8 wK8 => ?_
   refine AW.weak (s' := ⟨[(3, .r (.int .i64 e1))], [], (n0 + 1), 104⟩) (by exact Weak.cv ⟨jL, trivial⟩ trivial nL) ?_
   refine AW.region ?_
   refine sM rfl rfl ?_
   refine sQ rfl (sp_assign rfl iL) ?_
   refine AOps.nil (hK8 _ ?_)
   refine AW.ret ?_
   exact retf1 (P := Tryd.prog) (fun (r : Int) => .r (.int .i64 r)) h5 iL (.t (.d rfl))
  ·have h5 := ite_f hc2 h4
   refine AW.skip ?_
   refine hK5 _ ?_
   refine AW.seq_w fun K9 hK9 wK9 => ?_
   refine AW.seq_w fun K10 hK10 wK10 => ?_
   refine AW.weak (s' := ⟨[(1, .ptr 1 n0 0 0)], [(1, some (.box n0 32 [.r (.int .i64 g1.Rows), .r (.int .i64 g1.Cols), .r (.sl (g1.Cells.map GCell.row)), .r (.sl (g1.Merges.map GRect.row))]))], (n0 + 1), 104⟩) (by exact Weak.cv ⟨jL, trivial⟩ ⟨.inl rfl, trivial⟩ nL) ?_
   refine AW.region ?_
   refine sQ rfl (sp_fieldAddr_own (ob := .box _ _ _) rfl tf_32_3 iL fR rfl) ?_
   refine sQ rfl (ms_load_box (a := .r (.sl (g1.Merges.map GRect.row))) rfl ts_30 iL rfl rfl) ?_
   refine sQ rfl (ms_len rfl tg_30.slice iL) ?_
   refine sM rfl rfl ?_
   refine AOps.nil (hK10 _ ?_)
   refine AW.block ?_
   refine jc1k h5 fun o1 hit1 hk1 he1 => ?_
   have J1 : ∀ (u2 : Unit) (i5 : Nat → Nat), o1 = .nrm u2 → K9 ⟨[], [], (i5 0), 104⟩ := by
    intro u2 i5 e
    have h6 := hk1 _ e
    refine hK9 _ ?_
    refine AW.seq_w fun K11 hK11 wK11 => ?_
    refine AW.region ?_
    refine sQ rfl (sp_assign rfl iL) ?_
    refine AOps.nil (hK11 _ ?_)
    refine AW.ret ?_
    exact retf1 (P := Tryd.prog) (fun (r : Int) => .r (.int .i64 r)) h6 iL (.t (.d rfl))
   refine AW.iter1 (fun (x2 : Int) i3 => ⟨[(1, .ptr 1 n0 0 0), (29, .r (.int .i64 (g1.Merges.length : Int))), (30, .r (.int .i64 x2))], [(1, some (.box n0 32 [.r (.int .i64 g1.Rows), .r (.int .i64 g1.Cols), .r (.sl (g1.Cells.map GCell.row)), .r (.sl (g1.Merges.map GRect.row))]))], (i3 0), 104⟩) (vec [(n0 + 1)]) hit1 ((by exact Weak.cv ⟨jL, jL, jL, trivial⟩ ⟨.inl rfl, trivial⟩ nL)) ?_
   intro x2 i3 v1 hv1 hx1
   have h7 : ref_GridError_L1 g1 x2 = some v1 := hv1; unfold ref_GridError_L1 at h7
   refine AW.seq_w fun K12 hK12 wK12 => ?_
   refine AW.region ?_
   refine sQ rfl (sp_lss rfl iL iL) ?_
   refine AOps.nil (hK12 _ ?_)
   refine AW.seq_w fun K13 hK13 wK13 => ?_
   refine AW.cond rfl (fun hc3 => ?_) (fun hc3 => ?_)
   ·have h8 := ite_t hc3 h7
    refine AW.skip ?_
    refine hK13 _ ?_
    refine AW.seq_w fun K14 hK14 wK14 => ?_
    refine AW.block ?_
    refine AW.seq_w fun K15 hK15 wK15 => ?_
    refine AW.region ?_
    refine sM rfl rfl ?_
    refine sQ rfl (sp_assign rfl iL) ?_
    refine AOps.nil (hK15 _ ?_)
    refine AW.seq_w fun K16 hK16 wK16 => ?_
    refine AW.region ?_
    refine sQ rfl (sp_fieldAddr_own (ob := .box _ _ _) rfl tf_32_3 iL fR rfl) ?_
    refine sQ rfl (ms_load_box (a := .r (.sl (g1.Merges.map GRect.row))) rfl ts_30 iL rfl rfl) ?_
    refine sM rfl rfl ?_
    refine ob1k h8 fun x4 ex4 h9 => ?_
    refine sQ rfl (ms_idx rfl tg_30.slice iL iL (fun _ => rfl) (fun _ => ex4)) ?_
    refine sQ rfl (ms_loadA (cs := [.r (.int .i64 x4.Row), .r (.int .i64 x4.Col), .r (.int .i64 x4.H), .r (.int .i64 x4.W)]) rfl ta_64 iL rfl rfl) ?_
    refine AOps.step rfl rfl rfl (ms_alloc (cs := [.r (.int .i64 0), .r (.int .i64 0), .r (.int .i64 0), .r (.int .i64 0)]) 5 rfl t0_64 rfl rfl) ?_
    refine AOps.step0 rfl rfl (ms_store_box (ds := [.r (.int .i64 x4.Row), .r (.int .i64 x4.Col), .r (.int .i64 x4.H), .r (.int .i64 x4.W)]) rfl tz_64 iL rfl iL rfl rfl rfl rfl) ?_
    refine AOps.nil (hK16 _ ?_)
    refine AW.seq_w fun K17 hK17 wK17 => ?_
    refine AW.seq_w fun K18 hK18 wK18 => ?_
    refine AW.region ?_
    refine sQ rfl (ms_loadA_box rfl ta_64 iL rfl rfl) ?_
    refine sQ rfl (sp_fieldAddr_own (ob := .box _ _ _) rfl tf_32_0 iL fR rfl) ?_
    refine sQ rfl (ms_load_box (a := .r (.int .i64 g1.Rows)) rfl ts_3 iL rfl rfl) ?_
    refine sQ rfl (sp_fieldAddr_own (ob := .box _ _ _) rfl tf_32_1 iL fR rfl) ?_
    refine sQ rfl (ms_load_box (a := .r (.int .i64 g1.Cols)) rfl ts_3 iL rfl rfl) ?_
    refine ob1k h9 fun r3 er3 h10 => ?_
    refine AOps.step rfl rfl rfl (sp_call (r := .r (.bool r3)) (caps := []) (bs := [.agg [.r (.int .i64 x4.Row), .r (.int .i64 x4.Col), .r (.int .i64 x4.H), .r (.int .i64 x4.W)], .r (.int .i64 g1.Rows), .r (.int .i64 g1.Cols)]) rfl iL rfl ⟨⟨_, iL, .g (cs := [.int .i64 x4.Row, .int .i64 x4.Col, .int .i64 x4.H, .int .i64 x4.W]) rfl rfl⟩, ⟨_, iL, .d rfl⟩, ⟨_, iL, .d rfl⟩, trivial⟩ (fun _ => w_ref_Lies (er3)) rfl) ?_
    refine sQ rfl (sp_not rfl iL) ?_
    refine AOps.nil (hK18 _ ?_)
    refine AW.cond rfl (fun hc4 => ?_) (fun hc4 => ?_)
    ·have h11 := ite_t hc4 h10
     refine AW.seq_w fun K19 hK19 wK19 => ?_
     refine AW.weak (s' := ⟨[], [], ((i3 0) + 1), 104⟩) (by exact Weak.cv trivial trivial nL) ?_
     refine AW.region ?_
     refine sQ rfl (sp_assign rfl iL) ?_
     refine AOps.nil (hK19 _ ?_)
     refine AW.ret ?_
     exact retf1 (P := Tryd.prog) (fun (r : Int) => .r (.int .i64 r)) (he1 _ (hx1 _ (Option.some.inj h11).symm)) iL (.t (.d rfl))
    ·have h11 := ite_f hc4 h10
     refine AW.skip ?_
     refine hK17 _ ?_
     refine AW.seq_w fun K20 hK20 wK20 => ?_
     refine AW.seq_w fun K21 hK21 wK21 => ?_
     refine AW.weak (s' := ⟨[(1, .ptr 1 n0 0 0), (4, .r (.int .i64 x2)), (5, .ptr 5 (i3 0) 0 0), (29, .r (.int .i64 (g1.Merges.length : Int))), (30, .r (.int .i64 x2))], [(1, some (.box n0 32 [.r (.int .i64 g1.Rows), .r (.int .i64 g1.Cols), .r (.sl (g1.Cells.map GCell.row)), .r (.sl (g1.Merges.map GRect.row))])), (5, some (.box (i3 0) 64 [.r (.int .i64 x4.Row), .r (.int .i64 x4.Col), .r (.int .i64 x4.H), .r (.int .i64 x4.W)]))], ((i3 0) + 1), 104⟩) (by exact Weak.cv ⟨jL, jL, jL, jL, jL, trivial⟩ ⟨.inl rfl, .inl rfl, trivial⟩ nL) ?_
     refine AW.region ?_
     refine sQ rfl (sp_fieldAddr_own (ob := .box _ _ _) rfl tf_64_2 iL fR rfl) ?_
     refine sQ rfl (ms_load_box (a := .r (.int .i64 x4.H)) rfl ts_3 iL rfl rfl) ?_
     refine sQ rfl (sp_eql rfl iL iL) ?_
     refine sM rfl rfl ?_
     refine sV rfl rfl rfl (sp_fieldAddr_own (ob := .box _ _ _) rfl tf_64_3 iL fR rfl) ?_
     refine sV rfl rfl rfl (ms_load_box (a := .r (.int .i64 x4.W)) rfl ts_3 (iR rfl) rfl rfl) ?_
     refine sV rfl rfl rfl (sp_eql rfl (iR rfl) iL) ?_
     refine sQ rfl (sp_and rfl iL (iR rfl)) ?_
     refine AOps.nil (hK21 _ ?_)
     refine AW.cond rfl (fun hc5 => ?_) (fun hc5 => ?_)
     ·have h12 := ite_t hc5 h11
      refine AW.seq_w fun K22 hK22 wK22 => ?_
      refine AW.weak (s' := ⟨[], [], ((i3 0) + 1), 104⟩) (by exact Weak.cv trivial trivial nL) ?_
      refine AW.region ?_
      refine sQ rfl (sp_assign rfl iL) ?_
      refine AOps.nil (hK22 _ ?_)
      refine AW.ret ?_
      exact retf1 (P := Tryd.prog) (fun (r : Int) => .r (.int .i64 r)) (he1 _ (hx1 _ (Option.some.inj h12).symm)) iL (.t (.d rfl))
     ·have h12 := ite_f hc5 h11
      refine AW.skip ?_
      refine hK20 _ ?_
      refine AW.seq_w fun K23 hK23 wK23 => ?_
      refine AW.seq_w fun K24 hK24 wK24 => ?_
      refine AW.regionQ hmix (by kernel_rfl) ?_
      refine AQ.step rfl rfl rfl (sp_move rfl iL) ?_
      refine AQ.step rfl rfl rfl (sp_gtr rfl iL iL) ?_
      refine AQ.step rfl rfl rfl (sp_move rfl iL) ?_
      refine AQ.stepW (.one rfl rfl rfl) rfl rfl (sp_fieldAddr_own (ob := .box _ _ _) rfl tf_64_0 iL fR rfl) ?_
      refine AQ.stepW (.one rfl rfl rfl) rfl rfl (ms_load_box (a := .r (.int .i64 x4.Row)) rfl ts_3 (iR rfl) rfl rfl) ?_
      refine AQ.stepW (.one rfl rfl rfl) rfl rfl (sp_fieldAddr_own (ob := .box _ _ _) rfl tf_32_3 iL fR rfl) ?_
      refine AQ.stepW (.one rfl rfl rfl) rfl rfl (ms_load_box (a := .r (.sl (g1.Merges.map GRect.row))) rfl ts_30 (iR rfl) rfl rfl) ?_
      refine AQ.stepW (.one rfl rfl rfl) rfl rfl (sp_move rfl iL) ?_
      refine ob1k h12 fun x5 ex5 h13 => ?_
      refine AQ.stepW (.one rfl rfl rfl) rfl rfl (ms_sub rfl (iR rfl) iL (gdt ex5)) ?_
      refine ob1k h13 fun x6 ex6 h14 => ?_
      refine AQ.stepW (.one rfl rfl rfl) rfl rfl (ms_idx rfl tg_30.slice (iR rfl) (iR rfl) (fun _ => rfl) (gdt ex6)) ?_
      refine AQ.stepW (.one rfl rfl rfl) rfl rfl (sp_fieldAddr_ro rfl tf_64_0 (iR rfl)) ?_
      refine AQ.stepW (.one rfl rfl rfl) rfl rfl (ms_load (d := .int .i64 x6.Row) rfl ts_3 (iR rfl) rfl) ?_
      refine AQ.stepW (.one rfl rfl rfl) rfl rfl (sp_lss rfl (iR rfl) (iR rfl)) ?_
      refine AQ.stepW (.one rfl rfl rfl) rfl rfl (sp_move rfl (iR rfl)) ?_
      refine AQ.stepW (.two rfl rfl rfl) rfl rfl (sp_fieldAddr_own (ob := .box _ _ _) rfl tf_64_0 iL fR rfl) ?_
      refine AQ.stepW (.two rfl rfl rfl) rfl rfl (ms_load_box (a := .r (.int .i64 x4.Row)) rfl ts_3 (iR rfl) rfl rfl) ?_
      refine AQ.stepW (.two rfl rfl rfl) rfl rfl (sp_fieldAddr_own (ob := .box _ _ _) rfl tf_32_3 iL fR rfl) ?_
      refine AQ.stepW (.two rfl rfl rfl) rfl rfl (ms_load_box (a := .r (.sl (g1.Merges.map GRect.row))) rfl ts_30 (iR rfl) rfl rfl) ?_
      refine AQ.stepW (.two rfl rfl rfl) rfl rfl (sp_move rfl iL) ?_
      refine AQ.stepW (.two rfl rfl rfl) rfl rfl (ms_sub rfl (iR rfl) iL (fun h => gdt ex5 (Bool.and_eq_true_iff.1 h).1)) ?_
      refine AQ.stepW (.two rfl rfl rfl) rfl rfl (ms_idx rfl tg_30.slice (iR rfl) (iR rfl) (fun _ => rfl) (fun h => gdt ex6 (Bool.and_eq_true_iff.1 h).1)) ?_
      refine AQ.stepW (.two rfl rfl rfl) rfl rfl (sp_fieldAddr_ro rfl tf_64_0 (iR rfl)) ?_
      refine AQ.stepW (.two rfl rfl rfl) rfl rfl (ms_load (d := .int .i64 x6.Row) rfl ts_3 (iR rfl) rfl) ?_
      refine AQ.stepW (.two rfl rfl rfl) rfl rfl (sp_eql rfl (iR rfl) (iR rfl)) ?_
      refine AQ.stepW (.two rfl rfl rfl) rfl rfl (sp_move rfl (iR rfl)) ?_
      refine AQ.stepW (.two rfl rfl rfl) rfl rfl (sp_fieldAddr_own (ob := .box _ _ _) rfl tf_64_1 iL fR rfl) ?_
      refine AQ.stepW (.two rfl rfl rfl) rfl rfl (ms_load_box (a := .r (.int .i64 x4.Col)) rfl ts_3 (iR rfl) rfl rfl) ?_
      refine AQ.stepW (.two rfl rfl rfl) rfl rfl (sp_fieldAddr_own (ob := .box _ _ _) rfl tf_32_3 iL fR rfl) ?_
      refine AQ.stepW (.two rfl rfl rfl) rfl rfl (ms_load_box (a := .r (.sl (g1.Merges.map GRect.row))) rfl ts_30 (iR rfl) rfl rfl) ?_
      refine AQ.stepW (.two rfl rfl rfl) rfl rfl (sp_move rfl iL) ?_
      refine ob1k h14 fun x7 ex7 h15 => ?_
      refine AQ.stepW (.two rfl rfl rfl) rfl rfl (ms_sub rfl (iR rfl) iL (gdt ex7)) ?_
      refine ob1k h15 fun x8 ex8 h16 => ?_
      refine AQ.stepW (.two rfl rfl rfl) rfl rfl (ms_idx rfl tg_30.slice (iR rfl) (iR rfl) (fun _ => rfl) (gdt ex8)) ?_
      refine AQ.stepW (.two rfl rfl rfl) rfl rfl (sp_fieldAddr_ro rfl tf_64_1 (iR rfl)) ?_
      refine AQ.stepW (.two rfl rfl rfl) rfl rfl (ms_load (d := .int .i64 x8.Col) rfl ts_3 (iR rfl) rfl) ?_
      refine AQ.stepW (.two rfl rfl rfl) rfl rfl (sp_leq rfl (iR rfl) (iR rfl)) ?_
      refine AQ.stepW (.two rfl rfl rfl) rfl rfl (sp_and rfl (iR rfl) (iR rfl)) ?_
      refine AQ.stepW (.one rfl rfl rfl) rfl rfl (sp_or rfl (iR rfl) (iR rfl)) ?_
      refine AQ.step rfl rfl rfl (sp_and rfl iL (iR rfl)) ?_
      refine AQ.nil ?_
      refine hK24 _ ?_
      refine AW.cond rfl (fun hc6 => ?_) (fun hc6 => ?_)
      ·have h17 := ite_t hc6 h16
       refine AW.seq_w fun K25 hK25 wK25 => ?_
       refine AW.weak (s' := ⟨[], [], ((i3 0) + 1), 104⟩) (by exact Weak.cv trivial trivial nL) ?_
       refine AW.region ?_
       refine sQ rfl (sp_assign rfl iL) ?_
       refine AOps.nil (hK25 _ ?_)
       refine AW.ret ?_
       exact retf1 (P := Tryd.prog) (fun (r : Int) => .r (.int .i64 r)) (he1 _ (hx1 _ (Option.some.inj h17).symm)) iL (.t (.d rfl))
      ·have h17 := ite_f hc6 h16
       refine AW.skip ?_
       refine hK23 _ ?_
       refine AW.seq_w fun K26 hK26 wK26 => ?_
       refine AW.weak (s' := ⟨[(1, .ptr 1 n0 0 0), (4, .r (.int .i64 x2)), (5, .ptr 5 (i3 0) 0 0), (29, .r (.int .i64 (g1.Merges.length : Int))), (30, .r (.int .i64 x2))], [(1, some (.box n0 32 [.r (.int .i64 g1.Rows), .r (.int .i64 g1.Cols), .r (.sl (g1.Cells.map GCell.row)), .r (.sl (g1.Merges.map GRect.row))])), (5, some (.box (i3 0) 64 [.r (.int .i64 x4.Row), .r (.int .i64 x4.Col), .r (.int .i64 x4.H), .r (.int .i64 x4.W)]))], ((i3 0) + 1), 104⟩) (by exact Weak.cv ⟨jL, jL, jL, jL, jL, trivial⟩ ⟨.inl rfl, .inl rfl, trivial⟩ nL) ?_
       refine AW.region ?_
       refine sM rfl rfl ?_
       refine sM rfl rfl ?_
       refine AOps.nil (hK26 _ ?_)
       refine AW.block ?_
       refine jc1k h17 fun o2 hit2 hk2 he2 => ?_
       have J2 : ∀ (u4 : Unit) (i10 : Nat → Nat), o2 = .nrm u4 → K14 ⟨[(1, .ptr 1 n0 0 0), (29, .r (.int .i64 (g1.Merges.length : Int))), (30, .r (.int .i64 x2))], [(1, some (.box n0 32 [.r (.int .i64 g1.Rows), .r (.int .i64 g1.Cols), .r (.sl (g1.Cells.map GCell.row)), .r (.sl (g1.Merges.map GRect.row))]))], (i10 0), 104⟩ := by
        intro u4 i10 e
        have h18 := hk2 _ e
        refine hK14 _ ?_
        refine AW.region ?_
        refine ob1k h18 fun x12 ex12 h19 => ?_
        refine sQ rfl (ms_add rfl iL iL (fun _ => ex12)) ?_
        refine sM rfl rfl ?_
        refine AOps.nil ?_
        exact NextQ1.mk h19 (vec [(i10 0)]) ((by exact Weak.cv ⟨jL, jL, jL, trivial⟩ ⟨.inl rfl, trivial⟩ nL))
       refine AW.iter1 (fun (x10 : Int) i8 => ⟨[(1, .ptr 1 n0 0 0), (5, .ptr 5 (i3 0) 0 0), (29, .r (.int .i64 (g1.Merges.length : Int))), (30, .r (.int .i64 x2)), (91, .r (.int .i64 x2)), (92, .r (.int .i64 x10))], [(1, some (.box n0 32 [.r (.int .i64 g1.Rows), .r (.int .i64 g1.Cols), .r (.sl (g1.Cells.map GCell.row)), .r (.sl (g1.Merges.map GRect.row))])), (5, some (.box (i3 0) 64 [.r (.int .i64 x4.Row), .r (.int .i64 x4.Col), .r (.int .i64 x4.H), .r (.int .i64 x4.W)]))], (i8 0), 104⟩) (vec [((i3 0) + 1)]) hit2 ((by exact Weak.cv ⟨jL, jL, jL, jL, jL, jL, trivial⟩ ⟨.inl rfl, .inl rfl, trivial⟩ nL)) ?_
       intro x10 i8 v2 hv2 hx2
       have h20 : ref_GridError_L2 g1 x2 x4 x10 = some v2 := hv2; unfold ref_GridError_L2 at h20
       refine AW.seq_w fun K27 hK27 wK27 => ?_
       refine AW.region ?_
       refine sQ rfl (sp_lss rfl iL iL) ?_
       refine AOps.nil (hK27 _ ?_)
       refine AW.seq_w fun K28 hK28 wK28 => ?_
       refine AW.cond rfl (fun hc7 => ?_) (fun hc7 => ?_)
       ·have h21 := ite_t hc7 h20
        refine AW.skip ?_
        refine hK28 _ ?_
        refine AW.seq_w fun K29 hK29 wK29 => ?_
        refine AW.block ?_
        refine AW.seq_w fun K30 hK30 wK30 => ?_
        refine AW.region ?_
        refine sM rfl rfl ?_
        refine sQ rfl (sp_assign rfl iL) ?_
        refine AOps.nil (hK30 _ ?_)
        refine AW.seq_w fun K31 hK31 wK31 => ?_
        refine AW.regionQ hmix (by kernel_rfl) ?_
        refine AQ.step rfl rfl rfl (ms_loadA_box rfl ta_64 iL rfl rfl) ?_
        refine AQ.step rfl rfl rfl (sp_fieldAddr_own (ob := .box _ _ _) rfl tf_32_3 iL fR rfl) ?_
        refine AQ.step rfl rfl rfl (ms_load_box (a := .r (.sl (g1.Merges.map GRect.row))) rfl ts_30 iL rfl rfl) ?_
        refine AQ.step rfl rfl rfl (sp_move rfl iL) ?_
        refine ob1k h21 fun x13 ex13 h22 => ?_
        refine AQ.step rfl rfl rfl (ms_idx rfl tg_30.slice iL iL (fun _ => rfl) (fun _ => ex13)) ?_
        refine AQ.step rfl rfl rfl (ms_loadA (cs := [.r (.int .i64 x13.Row), .r (.int .i64 x13.Col), .r (.int .i64 x13.H), .r (.int .i64 x13.W)]) rfl ta_64 iL rfl rfl) ?_
        refine ob1k h22 fun r4 er4 h23 => ?_
        refine AQ.stepC rfl rfl rfl (r := .r (.bool r4)) (caps := []) (bs := [.agg [.r (.int .i64 x4.Row), .r (.int .i64 x4.Col), .r (.int .i64 x4.H), .r (.int .i64 x4.W)], .agg [.r (.int .i64 x13.Row), .r (.int .i64 x13.Col), .r (.int .i64 x13.H), .r (.int .i64 x13.W)]]) rfl iL rfl ⟨⟨_, iL, .g (cs := [.int .i64 x4.Row, .int .i64 x4.Col, .int .i64 x4.H, .int .i64 x4.W]) rfl rfl⟩, ⟨_, iL, .g (cs := [.int .i64 x13.Row, .int .i64 x13.Col, .int .i64 x13.H, .int .i64 x13.W]) rfl rfl⟩, trivial⟩ (fun _ => w_ref_Share (er4)) rfl ?_
        refine AQ.nil ?_
        refine hK31 _ ?_
        refine AW.cond rfl (fun hc8 => ?_) (fun hc8 => ?_)
        ·have h24 := ite_t hc8 h23
         refine AW.seq_w fun K32 hK32 wK32 => ?_
         refine AW.weak (s' := ⟨[], [], (i8 0), 104⟩) (by exact Weak.cv trivial trivial nL) ?_
         refine AW.region ?_
         refine sQ rfl (sp_assign rfl iL) ?_
         refine AOps.nil (hK32 _ ?_)
         refine AW.ret ?_
         exact retf1 (P := Tryd.prog) (fun (r : Int) => .r (.int .i64 r)) (he1 _ (hx1 _ (Option.some.inj (he2 _ (hx2 _ (Option.some.inj h24).symm))).symm)) iL (.t (.d rfl))
        ·have h24 := ite_f hc8 h23
         refine AW.skip ?_
         refine hK29 _ ?_
         refine AW.weak (s' := ⟨[(1, .ptr 1 n0 0 0), (5, .ptr 5 (i3 0) 0 0), (29, .r (.int .i64 (g1.Merges.length : Int))), (30, .r (.int .i64 x2)), (91, .r (.int .i64 x2)), (92, .r (.int .i64 x10))], [(1, some (.box n0 32 [.r (.int .i64 g1.Rows), .r (.int .i64 g1.Cols), .r (.sl (g1.Cells.map GCell.row)), .r (.sl (g1.Merges.map GRect.row))])), (5, some (.box (i3 0) 64 [.r (.int .i64 x4.Row), .r (.int .i64 x4.Col), .r (.int .i64 x4.H), .r (.int .i64 x4.W)]))], (i8 0), 104⟩) (by exact Weak.cv ⟨jL, jL, jL, jL, jL, jL, trivial⟩ ⟨.inl rfl, .inl rfl, trivial⟩ nL) ?_
         refine AW.region ?_
         refine ob1k h24 fun x14 ex14 h25 => ?_
         refine sQ rfl (ms_add rfl iL iL (fun _ => ex14)) ?_
         refine sM rfl rfl ?_
         refine AOps.nil ?_
         exact NextQ1.mk h25 (vec [(i8 0)]) ((by exact Weak.cv ⟨jL, jL, jL, jL, jL, jL, trivial⟩ ⟨.inl rfl, .inl rfl, trivial⟩ nL))
       ·have h21 := ite_f hc7 h20
        refine AW.exit ?_
        exact wK14 _ _ ((by exact Weak.cv ⟨jL, jL, jL, trivial⟩ ⟨.inl rfl, trivial⟩ nL)) (J2 _ (vec [(i8 0)]) (hx2 _ (Option.some.inj h21).symm))
   ·have h8 := ite_f hc3 h7
    refine AW.exit ?_
    exact wK9 _ _ ((by exact Weak.cv trivial trivial nL)) (J1 _ (vec [(i3 0)]) (hx1 _ (Option.some.inj h8).symm))
set_option maxHeartbeats 4000000 in
set_option maxRecDepth 20000 in
theorem w_ref_AxisError {a1 : List GAxisStep} {r : Int} (h : ref_AxisError a1 = some r) : ARO Tryd.prog 75 [.r (.sl (a1.map GAxisStep.row))] (.r (.int .i64 r)) := by
 unfold ref_AxisError at h
 refine ARO.mkF Tryd.func75 rfl rfl Tryd.ntmps75 rfl (Nat.le_of_ble_eq_true rfl) fun n0 => ?_
 refine AW.seq_w fun K1 hK1 wK1 => ?_
 refine AW.region ?_
 refine sQ rfl (sp_assign rfl iL) ?_
 refine AOps.nil (hK1 _ ?_)
 refine AW.seq_w fun K2 hK2 wK2 => ?_
 refine AW.region ?_
 refine sQ rfl (sp_assign rfl iL) ?_
 refine sQ rfl (sp_assign rfl iL) ?_
 refine AOps.nil (hK2 _ ?_)
 refine AW.seq_w fun K3 hK3 wK3 => ?_
 refine AW.seq_w fun K4 hK4 wK4 => ?_
 refine AW.region ?_
 refine sM rfl rfl ?_
 refine sQ rfl (ms_len rfl tg_47.slice iL) ?_
 refine sM rfl rfl ?_
 refine AOps.nil (hK4 _ ?_)
 refine AW.block ?_
 refine jc2k h fun o1 hit1 hk1 he1 => ?_
 have J1 : ∀ (old4 : Int) (now4 : Int) (i5 : Nat → Nat), o1 = .nrm (old4, now4) → K3 ⟨[(3, .r (.int .i64 old4)), (4, .r (.int .i64 now4))], [], (i5 0), 99⟩ := by
  intro old4 now4 i5 e
  have h1 := hk1 _ _ e
  refine hK3 _ ?_
  refine AW.seq_w fun K5 hK5 wK5 => ?_
  refine AW.seq_w fun K6 hK6 wK6 => ?_
  refine AW.region ?_
  refine sM rfl rfl ?_
  refine sQ rfl (sp_gtr rfl iL iL) ?_
  refine sM rfl rfl ?_
  refine sV rfl rfl rfl (sp_move rfl iL) ?_
  refine sV rfl rfl rfl (sp_gtr rfl (iR rfl) iL) ?_
  refine sQ rfl (sp_or rfl iL (iR rfl)) ?_
  refine AOps.nil (hK6 _ ?_)
  refine AW.cond rfl (fun hc1 => ?_) (fun hc1 => ?_)
  ·have h2 := ite_t hc1 h1
   refine AW.seq_w fun K7 hK7 wK7 => ?_
   refine AW.region ?_
   refine sQ rfl (sp_assign rfl iL) ?_
   refine AOps.nil (hK7 _ ?_)
   refine AW.ret ?_
   exact retf1 (P := Tryd.prog) (fun (r : Int) => .r (.int .i64 r)) h2 iL (.t (.d rfl))
  ·have h2 := ite_f hc1 h1
   refine AW.skip ?_
   refine hK5 _ ?_
   refine AW.seq_w fun K8 hK8 wK8 => ?_
   refine AW.region ?_
   refine sQ rfl (sp_assign rfl iL) ?_
   refine AOps.nil (hK8 _ ?_)
   refine AW.ret ?_
   exact retf1 (P := Tryd.prog) (fun (r : Int) => .r (.int .i64 r)) h2 iL (.t (.d rfl))
 refine AW.iter3 (fun (old2 : Int) (now2 : Int) (x2 : Int) i3 => ⟨[(0, .r (.sl (a1.map GAxisStep.row))), (3, .r (.int .i64 old2)), (4, .r (.int .i64 now2)), (7, .r (.int .i64 (a1.length : Int))), (8, .r (.int .i64 x2))], [], (i3 0), 99⟩) (vec [n0]) hit1 ((by exact Weak.cv ⟨jL, jL, jL, jL, jL, trivial⟩ trivial nL)) ?_
 intro old2 now2 x2 i3 v1 hv1 hx1
 have h3 : ref_AxisError_L1 a1 old2 now2 x2 = some v1 := hv1; unfold ref_AxisError_L1 at h3
 refine AW.seq_w fun K9 hK9 wK9 => ?_
 refine AW.region ?_
 refine sQ rfl (sp_lss rfl iL iL) ?_
 refine AOps.nil (hK9 _ ?_)
 refine AW.seq_w fun K10 hK10 wK10 => ?_
 refine AW.cond rfl (fun hc2 => ?_) (fun hc2 => ?_)
 ·have h4 := ite_t hc2 h3
  refine AW.skip ?_
  refine hK10 _ ?_
  refine AW.seq_w fun K11 hK11 wK11 => ?_
  refine AW.block ?_
  refine jc2k h4 fun p1 hp1 hk2 he2 => ?_
  have J2 : ∀ (old5 : Int) (now5 : Int) (i6 : Nat → Nat), p1 = .nrm (old5, now5) → K11 ⟨[(0, .r (.sl (a1.map GAxisStep.row))), (3, .r (.int .i64 old5)), (4, .r (.int .i64 now5)), (7, .r (.int .i64 (a1.length : Int))), (8, .r (.int .i64 x2))], [], (i6 0), 99⟩ := by
   intro old5 now5 i6 e
   have h5 := hk2 _ _ e
   refine hK11 _ ?_
   refine AW.region ?_
   refine ob1k h5 fun x4 ex4 h6 => ?_
   refine sQ rfl (ms_add rfl iL iL (fun _ => ex4)) ?_
   refine sM rfl rfl ?_
   refine AOps.nil ?_
   exact NextQ3.mk h6 (vec [(i6 0)]) ((by exact Weak.cv ⟨jL, jL, jL, jL, jL, trivial⟩ trivial nL))
  refine AW.seq_w fun K12 hK12 wK12 => ?_
  refine AW.region ?_
  refine sM rfl rfl ?_
  refine sQ rfl (sp_assign rfl iL) ?_
  refine AOps.nil (hK12 _ ?_)
  refine AW.seq_w fun K13 hK13 wK13 => ?_
  refine AW.seq_w fun K14 hK14 wK14 => ?_
  refine AW.region ?_
  refine sM rfl rfl ?_
  refine sM rfl rfl ?_
  refine ob1k hp1 fun x5 ex5 h7 => ?_
  refine sQ rfl (ms_idx rfl tg_47.slice iL iL (fun _ => rfl) (fun _ => ex5)) ?_
  refine sQ rfl (sp_fieldAddr_ro rfl tf_91_0 iL) ?_
  refine sQ rfl (ms_load (d := .int .i64 x5.Kind) rfl ts_3 iL rfl) ?_
  refine ob1k h7 fun r1 er1 h8 => ?_
  refine AOps.step rfl rfl rfl (sp_call (r := .r (.bool r1)) (caps := []) (bs := [.r (.int .i64 x5.Kind), .r (.int .i64 0), .r (.int .i64 2)]) rfl iL rfl ⟨⟨_, iL, .d rfl⟩, ⟨_, iL, .d rfl⟩, ⟨_, iL, .d rfl⟩, trivial⟩ (fun _ => w_ref_In (er1)) rfl) ?_
  refine sQ rfl (sp_not rfl iL) ?_
  refine AOps.nil (hK14 _ ?_)
  refine AW.cond rfl (fun hc3 => ?_) (fun hc3 => ?_)
  ·have h9 := ite_t hc3 h8
   refine AW.seq_w fun K15 hK15 wK15 => ?_
   refine AW.weak (s' := ⟨[], [], (i3 0), 99⟩) (by exact Weak.cv trivial trivial nL) ?_
   refine AW.region ?_
   refine sQ rfl (sp_assign rfl iL) ?_
   refine AOps.nil (hK15 _ ?_)
   refine AW.ret ?_
   exact retf1 (P := Tryd.prog) (fun (r : Int) => .r (.int .i64 r)) (he1 _ (hx1 _ (Option.some.inj (he2 _ (Option.some.inj h9).symm)).symm)) iL (.t (.d rfl))
  ·have h9 := ite_f hc3 h8
   refine AW.skip ?_
   refine hK13 _ ?_
   refine AW.seq_w fun K16 hK16 wK16 => ?_
   refine AW.seq_w fun K17 hK17 wK17 => ?_
   refine AW.weak (s' := ⟨[(0, .r (.sl (a1.map GAxisStep.row))), (3, .r (.int .i64 old2)), (4, .r (.int .i64 now2)), (5, .r (.int .i64 x2)), (7, .r (.int .i64 (a1.length : Int))), (8, .r (.int .i64 x2))], [], (i3 0), 99⟩) (by exact Weak.cv ⟨jL, jL, jL, jL, jL, jL, trivial⟩ trivial nL) ?_
   refine AW.region ?_
   refine sM rfl rfl ?_
   refine sM rfl rfl ?_
   refine sQ rfl (ms_idx rfl tg_47.slice iL iL (fun _ => rfl) (fun _ => ex5)) ?_
   refine sQ rfl (sp_fieldAddr_ro rfl tf_91_1 iL) ?_
   refine sQ rfl (ms_load (d := .int .i64 x5.N) rfl ts_3 iL rfl) ?_
   refine ob1k h9 fun r2 er2 h10 => ?_
   refine AOps.step rfl rfl rfl (sp_call (r := .r (.bool r2)) (caps := []) (bs := [.r (.int .i64 x5.N), .r (.int .i64 1), .r (.int .i64 2147483647)]) rfl iL rfl ⟨⟨_, iL, .d rfl⟩, ⟨_, iL, .d rfl⟩, ⟨_, iL, .d rfl⟩, trivial⟩ (fun _ => w_ref_In (er2)) rfl) ?_
   refine sQ rfl (sp_not rfl iL) ?_
   refine AOps.nil (hK17 _ ?_)
   refine AW.cond rfl (fun hc4 => ?_) (fun hc4 => ?_)
   ·have h11 := ite_t hc4 h10
    refine AW.seq_w fun K18 hK18 wK18 => ?_
    refine AW.weak (s' := ⟨[], [], (i3 0), 99⟩) (by exact Weak.cv trivial trivial nL) ?_
    refine AW.region ?_
    refine sQ rfl (sp_assign rfl iL) ?_
    refine AOps.nil (hK18 _ ?_)
    refine AW.ret ?_
    exact retf1 (P := Tryd.prog) (fun (r : Int) => .r (.int .i64 r)) (he1 _ (hx1 _ (Option.some.inj (he2 _ (Option.some.inj h11).symm)).symm)) iL (.t (.d rfl))
   ·have h11 := ite_f hc4 h10
    refine AW.skip ?_
    refine hK16 _ ?_
    refine AW.seq_w fun K19 hK19 wK19 => ?_
    refine AW.seq_w fun K20 hK20 wK20 => ?_
    refine AW.regionQ hmix (by kernel_rfl) ?_
    refine AQ.step rfl rfl rfl (sp_move rfl iL) ?_
    refine AQ.step rfl rfl rfl (sp_gtr rfl iL iL) ?_
    refine AQ.step rfl rfl rfl (sp_move rfl iL) ?_
    refine AQ.stepW (.one rfl rfl rfl) rfl rfl (sp_move rfl iL) ?_
    refine AQ.stepW (.one rfl rfl rfl) rfl rfl (sp_move rfl iL) ?_
    refine AQ.stepW (.one rfl rfl rfl) rfl rfl (ms_idx rfl tg_47.slice (iR rfl) (iR rfl) (fun _ => rfl) (fun _ => ex5)) ?_
    refine AQ.stepW (.one rfl rfl rfl) rfl rfl (sp_fieldAddr_ro rfl tf_91_0 (iR rfl)) ?_
    refine AQ.stepW (.one rfl rfl rfl) rfl rfl (ms_load (d := .int .i64 x5.Kind) rfl ts_3 (iR rfl) rfl) ?_
    refine AQ.stepW (.one rfl rfl rfl) rfl rfl (sp_move rfl iL) ?_
    refine AQ.stepW (.one rfl rfl rfl) rfl rfl (sp_move rfl iL) ?_
    refine ob1k h11 fun x6 ex6 h12 => ?_
    refine AQ.stepW (.one rfl rfl rfl) rfl rfl (ms_sub rfl (iR rfl) iL (gdt ex6)) ?_
    refine ob1k h12 fun x7 ex7 h13 => ?_
    refine AQ.stepW (.one rfl rfl rfl) rfl rfl (ms_idx rfl tg_47.slice (iR rfl) (iR rfl) (fun _ => rfl) (gdt ex7)) ?_
    refine AQ.stepW (.one rfl rfl rfl) rfl rfl (sp_fieldAddr_ro rfl tf_91_0 (iR rfl)) ?_
    refine AQ.stepW (.one rfl rfl rfl) rfl rfl (ms_load (d := .int .i64 x7.Kind) rfl ts_3 (iR rfl) rfl) ?_
    refine AQ.stepW (.one rfl rfl rfl) rfl rfl (sp_eql rfl (iR rfl) (iR rfl)) ?_
    refine AQ.stepW (.one rfl rfl rfl) rfl rfl (sp_move rfl (iR rfl)) ?_
    refine AQ.stepW (.two rfl rfl rfl) rfl rfl (sp_move rfl iL) ?_
    refine AQ.stepW (.two rfl rfl rfl) rfl rfl (sp_move rfl iL) ?_
    refine AQ.stepW (.two rfl rfl rfl) rfl rfl (ms_idx rfl tg_47.slice (iR rfl) (iR rfl) (fun _ => rfl) (fun _ => ex5)) ?_
    refine AQ.stepW (.two rfl rfl rfl) rfl rfl (sp_fieldAddr_ro rfl tf_91_0 (iR rfl)) ?_
    refine AQ.stepW (.two rfl rfl rfl) rfl rfl (ms_load (d := .int .i64 x5.Kind) rfl ts_3 (iR rfl) rfl) ?_
    refine AQ.stepW (.two rfl rfl rfl) rfl rfl (sp_eql rfl (iR rfl) iL) ?_
    refine AQ.stepW (.two rfl rfl rfl) rfl rfl (sp_move rfl (iR rfl)) ?_
    refine AQ.stepW (.two rfl rfl rfl) rfl rfl (sp_move rfl iL) ?_
    refine AQ.stepW (.two rfl rfl rfl) rfl rfl (sp_move rfl iL) ?_
    refine ob1k h13 fun x8 ex8 h14 => ?_
    refine AQ.stepW (.two rfl rfl rfl) rfl rfl (ms_sub rfl (iR rfl) iL (gdt ex8)) ?_
    refine ob1k h14 fun x9 ex9 h15 => ?_
    refine AQ.stepW (.two rfl rfl rfl) rfl rfl (ms_idx rfl tg_47.slice (iR rfl) (iR rfl) (fun _ => rfl) (gdt ex9)) ?_
    refine AQ.stepW (.two rfl rfl rfl) rfl rfl (sp_fieldAddr_ro rfl tf_91_0 (iR rfl)) ?_
    refine AQ.stepW (.two rfl rfl rfl) rfl rfl (ms_load (d := .int .i64 x9.Kind) rfl ts_3 (iR rfl) rfl) ?_
    refine AQ.stepW (.two rfl rfl rfl) rfl rfl (sp_eql rfl (iR rfl) iL) ?_
    refine AQ.stepW (.two rfl rfl rfl) rfl rfl (sp_and rfl (iR rfl) (iR rfl)) ?_
    refine AQ.stepW (.one rfl rfl rfl) rfl rfl (sp_or rfl (iR rfl) (iR rfl)) ?_
    refine AQ.step rfl rfl rfl (sp_and rfl iL (iR rfl)) ?_
    refine AQ.nil ?_
    refine hK20 _ ?_
    refine AW.cond rfl (fun hc5 => ?_) (fun hc5 => ?_)
    ·have h16 := ite_t hc5 h15
     refine AW.seq_w fun K21 hK21 wK21 => ?_
     refine AW.weak (s' := ⟨[], [], (i3 0), 99⟩) (by exact Weak.cv trivial trivial nL) ?_
     refine AW.region ?_
     refine sQ rfl (sp_assign rfl iL) ?_
     refine AOps.nil (hK21 _ ?_)
     refine AW.ret ?_
     exact retf1 (P := Tryd.prog) (fun (r : Int) => .r (.int .i64 r)) (he1 _ (hx1 _ (Option.some.inj (he2 _ (Option.some.inj h16).symm)).symm)) iL (.t (.d rfl))
    ·have h16 := ite_f hc5 h15
     refine AW.skip ?_
     refine hK19 _ ?_
     refine AW.seq_w fun K22 hK22 wK22 => ?_
     refine AW.seq_w fun K23 hK23 wK23 => ?_
     refine AW.weak (s' := ⟨[(0, .r (.sl (a1.map GAxisStep.row))), (3, .r (.int .i64 old2)), (4, .r (.int .i64 now2)), (5, .r (.int .i64 x2)), (7, .r (.int .i64 (a1.length : Int))), (8, .r (.int .i64 x2))], [], (i3 0), 99⟩) (by exact Weak.cv ⟨jL, jL, jL, jL, jL, jL, trivial⟩ trivial nL) ?_
     refine AW.region ?_
     refine sM rfl rfl ?_
     refine sM rfl rfl ?_
     refine sQ rfl (ms_idx rfl tg_47.slice iL iL (fun _ => rfl) (fun _ => ex5)) ?_
     refine sQ rfl (sp_fieldAddr_ro rfl tf_91_0 iL) ?_
     refine sQ rfl (ms_load (d := .int .i64 x5.Kind) rfl ts_3 iL rfl) ?_
     refine sQ rfl (sp_neq rfl iL iL) ?_
     refine sM rfl rfl ?_
     refine sV rfl rfl rfl (sp_move rfl iL) ?_
     refine sV rfl rfl rfl (sp_lss rfl (iR rfl) iL) ?_
     refine sQ rfl (sp_and rfl iL (iR rfl)) ?_
     refine AOps.nil (hK23 _ ?_)
     refine jb1k h16 fun p2 hp2 hk3 => ?_
     have J3 : ∀ (old6 : Int) (i7 : Nat → Nat), p2 = old6 → K22 ⟨[(0, .r (.sl (a1.map GAxisStep.row))), (3, .r (.int .i64 old6)), (4, .r (.int .i64 now2)), (5, .r (.int .i64 x2)), (7, .r (.int .i64 (a1.length : Int))), (8, .r (.int .i64 x2))], [], (i7 0), 99⟩ := by
      intro old6 i7 e
      have h17 := hk3 _ e
      refine hK22 _ ?_
      refine AW.seq_w fun K24 hK24 wK24 => ?_
      refine AW.region ?_
      refine sM rfl rfl ?_
      refine sM rfl rfl ?_
      refine sQ rfl (ms_idx rfl tg_47.slice iL iL (fun _ => rfl) (fun _ => ex5)) ?_
      refine sQ rfl (sp_fieldAddr_ro rfl tf_91_0 iL) ?_
      refine sQ rfl (ms_load (d := .int .i64 x5.Kind) rfl ts_3 iL rfl) ?_
      refine sQ rfl (sp_neq rfl iL iL) ?_
      refine sM rfl rfl ?_
      refine sV rfl rfl rfl (sp_move rfl iL) ?_
      refine sV rfl rfl rfl (sp_lss rfl (iR rfl) iL) ?_
      refine sQ rfl (sp_and rfl iL (iR rfl)) ?_
      refine AOps.nil (hK24 _ ?_)
      refine AW.cond rfl (fun hc6 => ?_) (fun hc6 => ?_)
      ·have h18 := ite_t hc6 h17
       refine AW.region ?_
       refine sM rfl rfl ?_
       refine sM rfl rfl ?_
       refine sM rfl rfl ?_
       refine sQ rfl (ms_idx rfl tg_47.slice iL iL (fun _ => rfl) (fun _ => ex5)) ?_
       refine sQ rfl (sp_fieldAddr_ro rfl tf_91_1 iL) ?_
       refine sQ rfl (ms_load (d := .int .i64 x5.N) rfl ts_3 iL rfl) ?_
       refine ob1k h18 fun now6 enow6 h19 => ?_
       refine sQ rfl (ms_add rfl iL iL (fun _ => enow6)) ?_
       refine sQ rfl (sp_assign rfl iL) ?_
       refine AOps.nil ?_
       exact wK11 _ _ ((by exact Weak.cv ⟨jL, jL, jL, jL, jL, trivial⟩ trivial nL)) (J2 _ _ (vec [(i7 0)]) (Option.some.inj h19).symm)
      ·have h18 := ite_f hc6 h17
       refine AW.skip ?_
       exact wK11 _ _ ((by exact Weak.cv ⟨jL, jL, jL, jL, jL, trivial⟩ trivial nL)) (J2 _ _ (vec [(i7 0)]) (Option.some.inj h18).symm)
     refine AW.cond rfl (fun hc7 => ?_) (fun hc7 => ?_)
     ·have h20 := ite_t hc7 hp2
      refine AW.region ?_
      refine sM rfl rfl ?_
      refine sM rfl rfl ?_
      refine sM rfl rfl ?_
      refine sQ rfl (ms_idx rfl tg_47.slice iL iL (fun _ => rfl) (fun _ => ex5)) ?_
      refine sQ rfl (sp_fieldAddr_ro rfl tf_91_1 iL) ?_
      refine sQ rfl (ms_load (d := .int .i64 x5.N) rfl ts_3 iL rfl) ?_
      refine ob1k h20 fun old7 eold7 h21 => ?_
      refine sQ rfl (ms_add rfl iL iL (fun _ => eold7)) ?_
      refine sQ rfl (sp_assign rfl iL) ?_
      refine AOps.nil ?_
      exact wK22 _ _ ((by exact Weak.cv ⟨jL, jL, jL, jL, jL, jL, trivial⟩ trivial nL)) (J3 _ (vec [(i3 0)]) (Option.some.inj h21).symm)
     ·have h20 := ite_f hc7 hp2
      refine AW.skip ?_
      exact wK22 _ _ ((by exact Weak.cv ⟨jL, jL, jL, jL, jL, jL, trivial⟩ trivial nL)) (J3 _ (vec [(i3 0)]) (Option.some.inj h20).symm)
 ·have h4 := ite_f hc2 h3
  refine AW.exit ?_
  exact wK3 _ _ ((by exact Weak.cv ⟨jL, jL, trivial⟩ trivial nL)) (J1 _ _ (vec [(i3 0)]) (hx1 _ (Option.some.inj h4).symm))
set_option maxHeartbeats 4000000 in
set_option maxRecDepth 20000 in
theorem w_ref_EditError {e1 : GGridEdit} {r : Int} (h : ref_EditError e1 = some r) : ARO Tryd.prog 24 [.agg [.r (.sl (e1.Rows.map GAxisStep.row)), .r (.sl (e1.Cols.map GAxisStep.row)), .r (.sl (e1.Cells.map GCell.row)), .r (.sl (e1.Split.map GRect.row)), .r (.sl (e1.Merge.map GRect.row))]] (.r (.int .i64 r)) := by
 unfold ref_EditError at h
 refine ARO.mkF Tryd.func24 rfl rfl Tryd.ntmps24 rfl (Nat.le_of_ble_eq_true rfl) fun n0 => ?_
 refine AW.seq_w fun K1 hK1 wK1 => ?_
 refine AW.region ?_
 refine AOps.step rfl rfl rfl (ms_box (cs := [.r (.sl (e1.Rows.map GAxisStep.row)), .r (.sl (e1.Cols.map GAxisStep.row)), .r (.sl (e1.Cells.map GCell.row)), .r (.sl (e1.Split.map GRect.row)), .r (.sl (e1.Merge.map GRect.row))]) 1 rfl iL rfl rfl) ?_
 refine sQ rfl (sp_assign rfl iL) ?_
 refine AOps.nil (hK1 _ ?_)
 refine AW.seq_w fun K2 hK2 wK2 => ?_
 refine AW.seq_w fun K3 hK3 wK3 => ?_
 refine AW.region ?_
 refine sQ rfl (sp_fieldAddr_own (ob := .box _ _ _) rfl tf_49_0 iL fR rfl) ?_
 refine sQ rfl (ms_load_box (a := .r (.sl (e1.Rows.map GAxisStep.row))) rfl ts_47 iL rfl rfl) ?_
 refine ob1k h fun f1 ef1 h1 => ?_
 refine AOps.step rfl rfl rfl (sp_call (r := .r (.int .i64 f1)) (caps := []) (bs := [.r (.sl (e1.Rows.map GAxisStep.row))]) rfl iL rfl ⟨⟨_, iL, .d rfl⟩, trivial⟩ (fun _ => w_ref_AxisError (ef1)) rfl) ?_
 refine sQ rfl (sp_assign rfl iL) ?_
 refine AOps.nil (hK3 _ ?_)
 refine AW.seq_w fun K4 hK4 wK4 => ?_
 refine AW.region ?_
 refine sM rfl rfl ?_
 refine sQ rfl (sp_neq rfl iL iL) ?_
 refine AOps.nil (hK4 _ ?_)
 refine AW.cond rfl (fun hc1 => ?_) (fun hc1 => ?_)
 ·have h2 := ite_t hc1 h1
  refine AW.seq_w fun K5 hK5 wK5 => ?_
  refine AW.region ?_
  refine sM rfl rfl ?_
  refine sQ rfl (sp_assign rfl iL) ?_
  refine AOps.nil (hK5 _ ?_)
  refine AW.ret ?_
  exact retf1 (P := Tryd.prog) (fun (r : Int) => .r (.int .i64 r)) h2 iL (.t (.d rfl))
 ·have h2 := ite_f hc1 h1
  refine AW.skip ?_
  refine hK2 _ ?_
  refine AW.seq_w fun K6 hK6 wK6 => ?_
  refine AW.seq_w fun K7 hK7 wK7 => ?_
  refine AW.region ?_
  refine sQ rfl (sp_fieldAddr_own (ob := .box _ _ _) rfl tf_49_1 iL fR rfl) ?_
  refine sQ rfl (ms_load_box (a := .r (.sl (e1.Cols.map GAxisStep.row))) rfl ts_47 iL rfl rfl) ?_
  refine ob1k h2 fun f2 ef2 h3 => ?_
  refine AOps.step rfl rfl rfl (sp_call (r := .r (.int .i64 f2)) (caps := []) (bs := [.r (.sl (e1.Cols.map GAxisStep.row))]) rfl iL rfl ⟨⟨_, iL, .d rfl⟩, trivial⟩ (fun _ => w_ref_AxisError (ef2)) rfl) ?_
  refine sQ rfl (sp_assign rfl iL) ?_
  refine AOps.nil (hK7 _ ?_)
  refine AW.seq_w fun K8 hK8 wK8 => ?_
  refine AW.weak (s' := ⟨[(1, .ptr 1 n0 0 0), (4, .r (.int .i64 f2))], [(1, some (.box n0 49 [.r (.sl (e1.Rows.map GAxisStep.row)), .r (.sl (e1.Cols.map GAxisStep.row)), .r (.sl (e1.Cells.map GCell.row)), .r (.sl (e1.Split.map GRect.row)), .r (.sl (e1.Merge.map GRect.row))]))], (n0 + 1), 70⟩) (by exact Weak.cv ⟨jL, jL, trivial⟩ ⟨.inl rfl, trivial⟩ nL) ?_
  refine AW.region ?_
  refine sM rfl rfl ?_
  refine sQ rfl (sp_neq rfl iL iL) ?_
  refine AOps.nil (hK8 _ ?_)
  refine AW.cond rfl (fun hc2 => ?_) (fun hc2 => ?_)
  ·have h4 := ite_t hc2 h3
   refine AW.seq_w fun K9 hK9 wK9 => ?_
   refine AW.region ?_
   refine sM rfl rfl ?_
   refine sQ rfl (sp_assign rfl iL) ?_
   refine AOps.nil (hK9 _ ?_)
   refine AW.ret ?_
   exact retf1 (P := Tryd.prog) (fun (r : Int) => .r (.int .i64 r)) h4 iL (.t (.d rfl))
  ·have h4 := ite_f hc2 h3
   refine AW.skip ?_
   refine hK6 _ ?_
   refine AW.seq_w fun K10 hK10 wK10 => ?_
   refine AW.seq_w fun K11 hK11 wK11 => ?_
   refine AW.region ?_
   refine sQ rfl (sp_fieldAddr_own (ob := .box _ _ _) rfl tf_49_2 iL fR rfl) ?_
   refine sQ rfl (ms_load_box (a := .r (.sl (e1.Cells.map GCell.row))) rfl ts_29 iL rfl rfl) ?_
   refine ob1k h4 fun f3 ef3 h5 => ?_
   refine AOps.step rfl rfl rfl (sp_call (r := .r (.int .i64 f3)) (caps := []) (bs := [.r (.sl (e1.Cells.map GCell.row)), .r (.int .i64 2147483647), .r (.int .i64 2147483647), .r (.bool true)]) rfl iL rfl ⟨⟨_, iL, .d rfl⟩, ⟨_, iL, .d rfl⟩, ⟨_, iL, .d rfl⟩, ⟨_, iL, .d rfl⟩, trivial⟩ (fun _ => w_ref_CellsError (ef3)) rfl) ?_
   refine sQ rfl (sp_assign rfl iL) ?_
   refine AOps.nil (hK11 _ ?_)
   refine AW.seq_w fun K12 hK12 wK12 => ?_
   refine AW.region ?_
   refine sM rfl rfl ?_
   refine sQ rfl (sp_neq rfl iL iL) ?_
   refine AOps.nil (hK12 _ ?_)
   refine AW.cond rfl (fun hc3 => ?_) (fun hc3 => ?_)
   ·have h6 := ite_t hc3 h5
    refine AW.seq_w fun K13 hK13 wK13 => ?_
    refine AW.weak (s' := ⟨[(5, .r (.int .i64 f3))], [], (n0 + 1), 70⟩) (by exact Weak.cv ⟨jL, trivial⟩ trivial nL) ?_
    refine AW.region ?_
    refine sM rfl rfl ?_
    refine sQ rfl (sp_assign rfl iL) ?_
    refine AOps.nil (hK13 _ ?_)
    refine AW.ret ?_
    exact retf1 (P := Tryd.prog) (fun (r : Int) => .r (.int .i64 r)) h6 iL (.t (.d rfl))
   ·have h6 := ite_f hc3 h5
    refine AW.skip ?_
    refine hK10 _ ?_
    refine AW.seq_w fun K14 hK14 wK14 => ?_
    refine AW.seq_w fun K15 hK15 wK15 => ?_
    refine AW.weak (s' := ⟨[(1, .ptr 1 n0 0 0)], [(1, some (.box n0 49 [.r (.sl (e1.Rows.map GAxisStep.row)), .r (.sl (e1.Cols.map GAxisStep.row)), .r (.sl (e1.Cells.map GCell.row)), .r (.sl (e1.Split.map GRect.row)), .r (.sl (e1.Merge.map GRect.row))]))], (n0 + 1), 70⟩) (by exact Weak.cv ⟨jL, trivial⟩ ⟨.inl rfl, trivial⟩ nL) ?_
    refine AW.region ?_
    refine sQ rfl (sp_fieldAddr_own (ob := .box _ _ _) rfl tf_49_3 iL fR rfl) ?_
    refine sQ rfl (ms_load_box (a := .r (.sl (e1.Split.map GRect.row))) rfl ts_30 iL rfl rfl) ?_
    refine sQ rfl (ms_len rfl tg_30.slice iL) ?_
    refine sM rfl rfl ?_
    refine AOps.nil (hK15 _ ?_)
    refine AW.block ?_
    refine jc1k h6 fun o1 hit1 hk1 he1 => ?_
    have J1 : ∀ (u2 : Unit) (i5 : Nat → Nat), o1 = .nrm u2 → K14 ⟨[(1, .ptr 1 n0 0 0)], [(1, some (.box n0 49 [.r (.sl (e1.Rows.map GAxisStep.row)), .r (.sl (e1.Cols.map GAxisStep.row)), .r (.sl (e1.Cells.map GCell.row)), .r (.sl (e1.Split.map GRect.row)), .r (.sl (e1.Merge.map GRect.row))]))], (i5 0), 70⟩ := by
     intro u2 i5 e
     have h7 := hk1 _ e
     refine hK14 _ ?_
     refine AW.seq_w fun K16 hK16 wK16 => ?_
     refine AW.seq_w fun K17 hK17 wK17 => ?_
     refine AW.region ?_
     refine sQ rfl (sp_fieldAddr_own (ob := .box _ _ _) rfl tf_49_4 iL fR rfl) ?_
     refine sQ rfl (ms_load_box (a := .r (.sl (e1.Merge.map GRect.row))) rfl ts_30 iL rfl rfl) ?_
     refine sQ rfl (ms_len rfl tg_30.slice iL) ?_
     refine sM rfl rfl ?_
     refine AOps.nil (hK17 _ ?_)
     refine AW.block ?_
     refine jc1k h7 fun o2 hit2 hk2 he2 => ?_
     have J2 : ∀ (u4 : Unit) (i10 : Nat → Nat), o2 = .nrm u4 → K16 ⟨[], [], (i10 0), 70⟩ := by
      intro u4 i10 e
      have h8 := hk2 _ e
      refine hK16 _ ?_
      refine AW.seq_w fun K18 hK18 wK18 => ?_
      refine AW.region ?_
      refine sQ rfl (sp_assign rfl iL) ?_
      refine AOps.nil (hK18 _ ?_)
      refine AW.ret ?_
      exact retf1 (P := Tryd.prog) (fun (r : Int) => .r (.int .i64 r)) h8 iL (.t (.d rfl))
     refine AW.iter1 (fun (x5 : Int) i8 => ⟨[(1, .ptr 1 n0 0 0), (42, .r (.int .i64 (e1.Merge.length : Int))), (43, .r (.int .i64 x5))], [(1, some (.box n0 49 [.r (.sl (e1.Rows.map GAxisStep.row)), .r (.sl (e1.Cols.map GAxisStep.row)), .r (.sl (e1.Cells.map GCell.row)), .r (.sl (e1.Split.map GRect.row)), .r (.sl (e1.Merge.map GRect.row))]))], (i8 0), 70⟩) (vec [(i5 0)]) hit2 ((by exact Weak.cv ⟨jL, jL, jL, trivial⟩ ⟨.inl rfl, trivial⟩ nL)) ?_
     intro x5 i8 v1 hv1 hx2
     have h9 : ref_EditError_L2 e1 x5 = some v1 := hv1; unfold ref_EditError_L2 at h9
     refine AW.seq_w fun K19 hK19 wK19 => ?_
     refine AW.region ?_
     refine sQ rfl (sp_lss rfl iL iL) ?_
     refine AOps.nil (hK19 _ ?_)
     refine AW.seq_w fun K20 hK20 wK20 => ?_
     refine AW.cond rfl (fun hc4 => ?_) (fun hc4 => ?_)
     ·have h10 := ite_t hc4 h9
      refine AW.skip ?_
      refine hK20 _ ?_
      refine AW.seq_w fun K21 hK21 wK21 => ?_
      refine AW.block ?_
      refine AW.seq_w fun K22 hK22 wK22 => ?_
      refine AW.region ?_
      refine sM rfl rfl ?_
      refine sQ rfl (sp_assign rfl iL) ?_
      refine AOps.nil (hK22 _ ?_)
      refine AW.seq_w fun K23 hK23 wK23 => ?_
      refine AW.seq_w fun K24 hK24 wK24 => ?_
      refine AW.region ?_
      refine sQ rfl (sp_fieldAddr_own (ob := .box _ _ _) rfl tf_49_4 iL fR rfl) ?_
      refine sQ rfl (ms_load_box (a := .r (.sl (e1.Merge.map GRect.row))) rfl ts_30 iL rfl rfl) ?_
      refine sM rfl rfl ?_
      refine ob1k h10 fun x7 ex7 h11 => ?_
      refine sQ rfl (ms_idx rfl tg_30.slice iL iL (fun _ => rfl) (fun _ => ex7)) ?_
      refine sQ rfl (ms_loadA (cs := [.r (.int .i64 x7.Row), .r (.int .i64 x7.Col), .r (.int .i64 x7.H), .r (.int .i64 x7.W)]) rfl ta_64 iL rfl rfl) ?_
      refine ob1k h11 fun r1 er1 h12 => ?_
      refine AOps.step rfl rfl rfl (sp_call (r := .r (.bool r1)) (caps := []) (bs := [.agg [.r (.int .i64 x7.Row), .r (.int .i64 x7.Col), .r (.int .i64 x7.H), .r (.int .i64 x7.W)], .r (.int .i64 2147483647), .r (.int .i64 2147483647)]) rfl iL rfl ⟨⟨_, iL, .g (cs := [.int .i64 x7.Row, .int .i64 x7.Col, .int .i64 x7.H, .int .i64 x7.W]) rfl rfl⟩, ⟨_, iL, .d rfl⟩, ⟨_, iL, .d rfl⟩, trivial⟩ (fun _ => w_ref_Lies (er1)) rfl) ?_
      refine sQ rfl (sp_not rfl iL) ?_
      refine AOps.nil (hK24 _ ?_)
      refine AW.cond rfl (fun hc5 => ?_) (fun hc5 => ?_)
      ·have h13 := ite_t hc5 h12
       refine AW.seq_w fun K25 hK25 wK25 => ?_
       refine AW.weak (s' := ⟨[], [], (i8 0), 70⟩) (by exact Weak.cv trivial trivial nL) ?_
       refine AW.region ?_
       refine sQ rfl (sp_assign rfl iL) ?_
       refine AOps.nil (hK25 _ ?_)
       refine AW.ret ?_
       exact retf1 (P := Tryd.prog) (fun (r : Int) => .r (.int .i64 r)) (he2 _ (hx2 _ (Option.some.inj h13).symm)) iL (.t (.d rfl))
      ·have h13 := ite_f hc5 h12
       refine AW.skip ?_
       refine hK23 _ ?_
       refine AW.seq_w fun K26 hK26 wK26 => ?_
       refine AW.weak (s' := ⟨[(1, .ptr 1 n0 0 0), (7, .r (.int .i64 x5)), (42, .r (.int .i64 (e1.Merge.length : Int))), (43, .r (.int .i64 x5))], [(1, some (.box n0 49 [.r (.sl (e1.Rows.map GAxisStep.row)), .r (.sl (e1.Cols.map GAxisStep.row)), .r (.sl (e1.Cells.map GCell.row)), .r (.sl (e1.Split.map GRect.row)), .r (.sl (e1.Merge.map GRect.row))]))], (i8 0), 70⟩) (by exact Weak.cv ⟨jL, jL, jL, jL, trivial⟩ ⟨.inl rfl, trivial⟩ nL) ?_
       refine AW.region ?_
       refine sQ rfl (sp_fieldAddr_own (ob := .box _ _ _) rfl tf_49_4 iL fR rfl) ?_
       refine sQ rfl (ms_load_box (a := .r (.sl (e1.Merge.map GRect.row))) rfl ts_30 iL rfl rfl) ?_
       refine sM rfl rfl ?_
       refine sQ rfl (ms_idx rfl tg_30.slice iL iL (fun _ => rfl) (fun _ => ex7)) ?_
       refine sQ rfl (sp_fieldAddr_ro rfl tf_64_2 iL) ?_
       refine sQ rfl (ms_load (d := .int .i64 x7.H) rfl ts_3 iL rfl) ?_
       refine sQ rfl (sp_eql rfl iL iL) ?_
       refine sM rfl rfl ?_
       refine sV rfl rfl rfl (sp_fieldAddr_own (ob := .box _ _ _) rfl tf_49_4 iL fR rfl) ?_
       refine sV rfl rfl rfl (ms_load_box (a := .r (.sl (e1.Merge.map GRect.row))) rfl ts_30 (iR rfl) rfl rfl) ?_
       refine sV rfl rfl rfl (sp_move rfl iL) ?_
       refine sV rfl rfl rfl (ms_idx rfl tg_30.slice (iR rfl) (iR rfl) (fun _ => rfl) (fun _ => ex7)) ?_
       refine sV rfl rfl rfl (sp_fieldAddr_ro rfl tf_64_3 (iR rfl)) ?_
       refine sV rfl rfl rfl (ms_load (d := .int .i64 x7.W) rfl ts_3 (iR rfl) rfl) ?_
       refine sV rfl rfl rfl (sp_eql rfl (iR rfl) iL) ?_
       refine sQ rfl (sp_and rfl iL (iR rfl)) ?_
       refine AOps.nil (hK26 _ ?_)
       refine AW.cond rfl (fun hc6 => ?_) (fun hc6 => ?_)
       ·have h14 := ite_t hc6 h13
        refine AW.seq_w fun K27 hK27 wK27 => ?_
        refine AW.weak (s' := ⟨[], [], (i8 0), 70⟩) (by exact Weak.cv trivial trivial nL) ?_
        refine AW.region ?_
        refine sQ rfl (sp_assign rfl iL) ?_
        refine AOps.nil (hK27 _ ?_)
        refine AW.ret ?_
        exact retf1 (P := Tryd.prog) (fun (r : Int) => .r (.int .i64 r)) (he2 _ (hx2 _ (Option.some.inj h14).symm)) iL (.t (.d rfl))
       ·have h14 := ite_f hc6 h13
        refine AW.skip ?_
        refine hK21 _ ?_
        refine AW.weak (s' := ⟨[(1, .ptr 1 n0 0 0), (42, .r (.int .i64 (e1.Merge.length : Int))), (43, .r (.int .i64 x5))], [(1, some (.box n0 49 [.r (.sl (e1.Rows.map GAxisStep.row)), .r (.sl (e1.Cols.map GAxisStep.row)), .r (.sl (e1.Cells.map GCell.row)), .r (.sl (e1.Split.map GRect.row)), .r (.sl (e1.Merge.map GRect.row))]))], (i8 0), 70⟩) (by exact Weak.cv ⟨jL, jL, jL, trivial⟩ ⟨.inl rfl, trivial⟩ nL) ?_
        refine AW.region ?_
        refine ob1k h14 fun x8 ex8 h15 => ?_
        refine sQ rfl (ms_add rfl iL iL (fun _ => ex8)) ?_
        refine sM rfl rfl ?_
        refine AOps.nil ?_
        exact NextQ1.mk h15 (vec [(i8 0)]) ((by exact Weak.cv ⟨jL, jL, jL, trivial⟩ ⟨.inl rfl, trivial⟩ nL))
     ·have h10 := ite_f hc4 h9
      refine AW.exit ?_
      exact wK16 _ _ ((by exact Weak.cv trivial trivial nL)) (J2 _ (vec [(i8 0)]) (hx2 _ (Option.some.inj h10).symm))
    refine AW.iter1 (fun (x2 : Int) i3 => ⟨[(1, .ptr 1 n0 0 0), (28, .r (.int .i64 (e1.Split.length : Int))), (29, .r (.int .i64 x2))], [(1, some (.box n0 49 [.r (.sl (e1.Rows.map GAxisStep.row)), .r (.sl (e1.Cols.map GAxisStep.row)), .r (.sl (e1.Cells.map GCell.row)), .r (.sl (e1.Split.map GRect.row)), .r (.sl (e1.Merge.map GRect.row))]))], (i3 0), 70⟩) (vec [(n0 + 1)]) hit1 ((by exact Weak.cv ⟨jL, jL, jL, trivial⟩ ⟨.inl rfl, trivial⟩ nL)) ?_
    intro x2 i3 v2 hv2 hx1
    have h16 : ref_EditError_L1 e1 x2 = some v2 := hv2; unfold ref_EditError_L1 at h16
    refine AW.seq_w fun K28 hK28 wK28 => ?_
    refine AW.region ?_
    refine sQ rfl (sp_lss rfl iL iL) ?_
    refine AOps.nil (hK28 _ ?_)
    refine AW.seq_w fun K29 hK29 wK29 => ?_
    refine AW.cond rfl (fun hc7 => ?_) (fun hc7 => ?_)
    ·have h17 := ite_t hc7 h16
     refine AW.skip ?_
     refine hK29 _ ?_
     refine AW.seq_w fun K30 hK30 wK30 => ?_
     refine AW.block ?_
     refine AW.seq_w fun K31 hK31 wK31 => ?_
     refine AW.region ?_
     refine sM rfl rfl ?_
     refine sQ rfl (sp_assign rfl iL) ?_
     refine AOps.nil (hK31 _ ?_)
     refine AW.seq_w fun K32 hK32 wK32 => ?_
     refine AW.region ?_
     refine sQ rfl (sp_fieldAddr_own (ob := .box _ _ _) rfl tf_49_3 iL fR rfl) ?_
     refine sQ rfl (ms_load_box (a := .r (.sl (e1.Split.map GRect.row))) rfl ts_30 iL rfl rfl) ?_
     refine sM rfl rfl ?_
     refine ob1k h17 fun x9 ex9 h18 => ?_
     refine sQ rfl (ms_idx rfl tg_30.slice iL iL (fun _ => rfl) (fun _ => ex9)) ?_
     refine sQ rfl (ms_loadA (cs := [.r (.int .i64 x9.Row), .r (.int .i64 x9.Col), .r (.int .i64 x9.H), .r (.int .i64 x9.W)]) rfl ta_64 iL rfl rfl) ?_
     refine ob1k h18 fun r2 er2 h19 => ?_
     refine AOps.step rfl rfl rfl (sp_call (r := .r (.bool r2)) (caps := []) (bs := [.agg [.r (.int .i64 x9.Row), .r (.int .i64 x9.Col), .r (.int .i64 x9.H), .r (.int .i64 x9.W)], .r (.int .i64 2147483647), .r (.int .i64 2147483647)]) rfl iL rfl ⟨⟨_, iL, .g (cs := [.int .i64 x9.Row, .int .i64 x9.Col, .int .i64 x9.H, .int .i64 x9.W]) rfl rfl⟩, ⟨_, iL, .d rfl⟩, ⟨_, iL, .d rfl⟩, trivial⟩ (fun _ => w_ref_Lies (er2)) rfl) ?_
     refine sQ rfl (sp_not rfl iL) ?_
     refine AOps.nil (hK32 _ ?_)
     refine AW.cond rfl (fun hc8 => ?_) (fun hc8 => ?_)
     ·have h20 := ite_t hc8 h19
      refine AW.seq_w fun K33 hK33 wK33 => ?_
      refine AW.weak (s' := ⟨[], [], (i3 0), 70⟩) (by exact Weak.cv trivial trivial nL) ?_
      refine AW.region ?_
      refine sQ rfl (sp_assign rfl iL) ?_
      refine AOps.nil (hK33 _ ?_)
      refine AW.ret ?_
      exact retf1 (P := Tryd.prog) (fun (r : Int) => .r (.int .i64 r)) (he1 _ (hx1 _ (Option.some.inj h20).symm)) iL (.t (.d rfl))
     ·have h20 := ite_f hc8 h19
      refine AW.skip ?_
      refine hK30 _ ?_
      refine AW.weak (s' := ⟨[(1, .ptr 1 n0 0 0), (28, .r (.int .i64 (e1.Split.length : Int))), (29, .r (.int .i64 x2))], [(1, some (.box n0 49 [.r (.sl (e1.Rows.map GAxisStep.row)), .r (.sl (e1.Cols.map GAxisStep.row)), .r (.sl (e1.Cells.map GCell.row)), .r (.sl (e1.Split.map GRect.row)), .r (.sl (e1.Merge.map GRect.row))]))], (i3 0), 70⟩) (by exact Weak.cv ⟨jL, jL, jL, trivial⟩ ⟨.inl rfl, trivial⟩ nL) ?_
      refine AW.region ?_
      refine ob1k h20 fun x10 ex10 h21 => ?_
      refine sQ rfl (ms_add rfl iL iL (fun _ => ex10)) ?_
      refine sM rfl rfl ?_
      refine AOps.nil ?_
      exact NextQ1.mk h21 (vec [(i3 0)]) ((by exact Weak.cv ⟨jL, jL, jL, trivial⟩ ⟨.inl rfl, trivial⟩ nL))
    ·have h17 := ite_f hc7 h16
     refine AW.exit ?_
     exact wK14 _ _ ((by exact Weak.cv ⟨jL, trivial⟩ ⟨.inl rfl, trivial⟩ nL)) (J1 _ (vec [(i3 0)]) (hx1 _ (Option.some.inj h17).symm))
set_option maxHeartbeats 4000000 in
set_option maxRecDepth 20000 in
theorem w_slices_BinarySearchFunc_api_Cell_api_Cell_api_Cell__order {x1 : List GCell} {target1 : GCell} {r : Int × Bool} (h : slices_BinarySearchFunc_api_Cell_api_Cell_api_Cell__order x1 target1 = some r) : ARO Tryd.prog 136 [.r (.sl (x1.map GCell.row)), .agg [.r (.int .i64 target1.Row), .r (.int .i64 target1.Col), .r (.str target1.Text), .r (.int .i64 target1.Ref), .r (.sl (target1.Attrs.map GAttr.row))], .fn 134 []] (.tup [.r (.int .i64 r.1), .r (.bool r.2)]) := by
 unfold slices_BinarySearchFunc_api_Cell_api_Cell_api_Cell__order at h
 refine ARO.mkF Tryd.func136 rfl rfl Tryd.ntmps136 rfl (Nat.le_of_ble_eq_true rfl) fun n0 => ?_
 refine AW.seq_w fun K1 hK1 wK1 => ?_
 refine AW.region ?_
 refine AOps.step rfl rfl rfl (ms_box (cs := [.r (.int .i64 target1.Row), .r (.int .i64 target1.Col), .r (.str target1.Text), .r (.int .i64 target1.Ref), .r (.sl (target1.Attrs.map GAttr.row))]) 4 rfl iL rfl rfl) ?_
 refine sQ rfl (sp_assign rfl iL) ?_
 refine sQ rfl (sp_assign rfl iL) ?_
 refine AOps.nil (hK1 _ ?_)
 refine AW.seq_w fun K2 hK2 wK2 => ?_
 refine AW.region ?_
 refine sM rfl rfl ?_
 refine sQ rfl (ms_len rfl tg_29.slice iL) ?_
 refine sQ rfl (sp_assign rfl iL) ?_
 refine AOps.nil (hK2 _ ?_)
 refine AW.seq_w fun K3 hK3 wK3 => ?_
 refine AW.region ?_
 refine sM rfl rfl ?_
 refine sQ rfl (sp_assign rfl iL) ?_
 refine sQ rfl (sp_assign rfl iL) ?_
 refine AOps.nil (hK3 _ ?_)
 refine AW.seq_w fun K4 hK4 wK4 => ?_
 refine AW.block ?_
 refine jb1k h fun o1 hit1 hk1 => ?_
 have J1 : ∀ (i8 : Int) (i9 : Nat → Nat), o1 = i8 → K4 ⟨[(0, .r (.sl (x1.map GCell.row))), (2, .fn 134 []), (4, .ptr 4 n0 0 0), (8, .r (.int .i64 (x1.length : Int))), (9, .r (.int .i64 i8))], [(4, some (.box n0 60 [.r (.int .i64 target1.Row), .r (.int .i64 target1.Col), .r (.str target1.Text), .r (.int .i64 target1.Ref), .r (.sl (target1.Attrs.map GAttr.row))]))], (i9 0), 49⟩ := by
  intro i8 i9 e
  have h1 := hk1 _ e
  refine hK4 _ ?_
  refine AW.seq_w fun K5 hK5 wK5 => ?_
  refine ob1k h1 fun x2 ex2 h2 => ?_
  refine ob1k h2 fun r1 er1 h3 => ?_
  refine AW.regionP 15 [⟨some 35, (fun _ => .r (.int .i64 i8)), none, []⟩, ⟨some 36, (fun _ => .r (.int .i64 i8)), none, []⟩, ⟨some 37, (fun _ => .r (.int .i64 (x1.length : Int))), none, []⟩, ⟨some 38, (fun _ => .r (.bool (decide (i8 < (x1.length : Int))))), none, []⟩, ⟨some 39, (fun _ => .r (.bool (decide (i8 < (x1.length : Int))))), none, []⟩, ⟨some 40, (fun _ => .whn ((decide (i8 < (x1.length : Int))) == true) (.fn 134 [])), none, []⟩, ⟨some 41, (fun _ => .whn ((decide (i8 < (x1.length : Int))) == true) (.r (.sl (x1.map GCell.row)))), none, []⟩, ⟨some 42, (fun _ => .whn ((decide (i8 < (x1.length : Int))) == true) (.r (.int .i64 i8))), none, []⟩, ⟨some 43, (fun _ => .whn ((decide (i8 < (x1.length : Int))) == true) (.rop (GCell.row x2) 0)), none, []⟩, ⟨some 44, (fun _ => .whn ((decide (i8 < (x1.length : Int))) == true) (.agg [.r (.int .i64 x2.Row), .r (.int .i64 x2.Col), .r (.str x2.Text), .r (.int .i64 x2.Ref), .r (.sl (x2.Attrs.map GAttr.row))])), none, []⟩, ⟨some 45, (fun _ => .whn ((decide (i8 < (x1.length : Int))) == true) (.agg [.r (.int .i64 target1.Row), .r (.int .i64 target1.Col), .r (.str target1.Text), .r (.int .i64 target1.Ref), .r (.sl (target1.Attrs.map GAttr.row))])), none, []⟩, ⟨some 46, (fun _ => .whn ((decide (i8 < (x1.length : Int))) == true) (.r (.int .i64 r1))), none, []⟩, ⟨some 47, (fun _ => .whn ((decide (i8 < (x1.length : Int))) == true) (.r (.bool (decide (r1 = 0))))), none, []⟩, ⟨some 48, (fun _ => .r (.bool ((decide (i8 < (x1.length : Int))) && (decide (r1 = 0))))), none, []⟩, ⟨some 6, (fun _ => .r (.int .i64 i8)), none, []⟩] hmix (by kernel_rfl) (by exact ⟨fun _ _ h => ⟨rfl, fun _ _ e => by cases e⟩, fun _ _ h => ⟨rfl, fun _ _ e => by cases e⟩, fun _ _ h => ⟨rfl, fun _ _ e => by cases e⟩, fun _ _ h => ⟨rfl, fun _ _ e => by cases e⟩, fun _ _ h => ⟨rfl, fun _ _ e => by cases e⟩, fun _ _ h => ⟨rfl, fun _ _ e => by cases e⟩, fun _ _ h => ⟨rfl, fun _ _ e => by cases e⟩, fun _ _ h => ⟨rfl, fun _ _ e => by cases e⟩, fun _ _ h => ⟨rfl, fun _ _ e => by cases e⟩, fun _ _ h => ⟨rfl, fun _ _ e => by cases e⟩, fun _ _ h => ⟨rfl, fun _ _ e => by cases e⟩, fun _ _ h => ⟨rfl, fun _ _ e => by cases e⟩, fun _ _ h => ⟨rfl, fun _ _ e => by cases e⟩, fun _ _ h => ⟨rfl, fun _ _ e => by cases e⟩, fun _ _ h => ⟨rfl, fun _ _ e => by cases e⟩, trivial⟩) rfl (by exact ⟨Ob.quiet (n1 := fun n => n) rfl rfl (by intro d h; cases h; rfl) rfl (fun _ => [(9, .r (.int .i64 i8))]) (fun _ => []) (fun D G1 hr => ⟨inE_base rfl rfl, trivial⟩) (fun D G1 hr => trivial) (fun _ _ => rfl) (fun G1 e h' n => OpQ.spec (v := .r (.int .i64 i8)) (sp_move rfl (.inl rfl)) _),
    Ob.quiet (n1 := fun n => n) rfl rfl (by intro d h; cases h; rfl) rfl (fun _ => [(9, .r (.int .i64 i8))]) (fun _ => []) (fun D G1 hr => ⟨inE_base rfl rfl, trivial⟩) (fun D G1 hr => trivial) (fun _ _ => rfl) (fun G1 e h' n => OpQ.spec (v := .r (.int .i64 i8)) (sp_move rfl (.inl rfl)) _),
    Ob.quiet (n1 := fun n => n) rfl rfl (by intro d h; cases h; rfl) rfl (fun _ => [(8, .r (.int .i64 (x1.length : Int)))]) (fun _ => []) (fun D G1 hr => ⟨inE_base rfl rfl, trivial⟩) (fun D G1 hr => trivial) (fun _ _ => rfl) (fun G1 e h' n => OpQ.spec (v := .r (.int .i64 (x1.length : Int))) (sp_move rfl (.inl rfl)) _),
    Ob.quiet (n1 := fun n => n) rfl rfl (by intro d h; cases h; rfl) rfl (fun _ => [(36, .r (.int .i64 i8)), (37, .r (.int .i64 (x1.length : Int)))]) (fun _ => []) (fun D G1 hr => ⟨inE_op hr 1 rfl rfl (by kernel_rfl) rfl rfl, inE_op hr 2 rfl rfl (by kernel_rfl) rfl rfl, trivial⟩) (fun D G1 hr => trivial) (fun _ _ => rfl) (fun G1 e h' n => OpQ.spec (v := .r (.bool (decide (i8 < (x1.length : Int))))) (sp_lss rfl (.inl rfl) (.inl rfl)) _),
    Ob.quiet (n1 := fun n => n) rfl rfl (by intro d h; cases h; rfl) rfl (fun _ => [(38, .r (.bool (decide (i8 < (x1.length : Int)))))]) (fun _ => []) (fun D G1 hr => ⟨inE_op hr 3 rfl rfl (by kernel_rfl) rfl rfl, trivial⟩) (fun D G1 hr => trivial) (fun _ _ => rfl) (fun G1 e h' n => OpQ.spec (v := .r (.bool (decide (i8 < (x1.length : Int))))) (sp_move rfl (.inl rfl)) _),
    Ob.quietG (n1 := fun n => n) (c := ((decide (i8 < (x1.length : Int))) == true)) (v0 := fun _ => .fn 134 []) rfl (by intro d h; cases h; rfl) rfl (fun _ => [(2, .fn 134 []), (39, .r (.bool (decide (i8 < (x1.length : Int)))))]) (fun _ => []) (fun D G1 hr => ⟨inE_base rfl rfl, inE_op hr 4 rfl rfl (by kernel_rfl) rfl rfl, trivial⟩) (fun D G1 hr => trivial) (fun _ _ => rfl) (fun _ _ => (.one rfl rfl rfl)) (fun G1 e h' n => OpQ.spec (v := .fn 134 []) (sp_move rfl (.inl rfl)) _),
    Ob.quietG (n1 := fun n => n) (c := ((decide (i8 < (x1.length : Int))) == true)) (v0 := fun _ => .r (.sl (x1.map GCell.row))) rfl (by intro d h; cases h; rfl) rfl (fun _ => [(0, .r (.sl (x1.map GCell.row))), (39, .r (.bool (decide (i8 < (x1.length : Int)))))]) (fun _ => []) (fun D G1 hr => ⟨inE_base rfl rfl, inE_op hr 4 rfl rfl (by kernel_rfl) rfl rfl, trivial⟩) (fun D G1 hr => trivial) (fun _ _ => rfl) (fun _ _ => (.one rfl rfl rfl)) (fun G1 e h' n => OpQ.spec (v := .r (.sl (x1.map GCell.row))) (sp_move rfl (.inl rfl)) _),
    Ob.quietG (n1 := fun n => n) (c := ((decide (i8 < (x1.length : Int))) == true)) (v0 := fun _ => .r (.int .i64 i8)) rfl (by intro d h; cases h; rfl) rfl (fun _ => [(9, .r (.int .i64 i8)), (39, .r (.bool (decide (i8 < (x1.length : Int)))))]) (fun _ => []) (fun D G1 hr => ⟨inE_base rfl rfl, inE_op hr 4 rfl rfl (by kernel_rfl) rfl rfl, trivial⟩) (fun D G1 hr => trivial) (fun _ _ => rfl) (fun _ _ => (.one rfl rfl rfl)) (fun G1 e h' n => OpQ.spec (v := .r (.int .i64 i8)) (sp_move rfl (.inl rfl)) _),
    Ob.quietG (n1 := fun n => n) (c := ((decide (i8 < (x1.length : Int))) == true)) (v0 := fun _ => .rop (GCell.row x2) 0) rfl (by intro d h; cases h; rfl) rfl (fun _ => [(39, .r (.bool (decide (i8 < (x1.length : Int))))), (41, .whn ((decide (i8 < (x1.length : Int))) == true) (.r (.sl (x1.map GCell.row)))), (42, .whn ((decide (i8 < (x1.length : Int))) == true) (.r (.int .i64 i8)))]) (fun _ => []) (fun D G1 hr => ⟨inE_op hr 4 rfl rfl (by kernel_rfl) rfl rfl, inE_op hr 6 rfl rfl (by kernel_rfl) rfl rfl, inE_op hr 7 rfl rfl (by kernel_rfl) rfl rfl, trivial⟩) (fun D G1 hr => trivial) (fun _ _ => rfl) (fun _ _ => (.one rfl rfl rfl)) (fun G1 e h' n => OpQ.spec (v := .rop (GCell.row x2) 0) (ms_idx rfl tg_29.slice (.inr ⟨_, (by exact id), rfl⟩) (.inr ⟨_, (by exact id), rfl⟩) (fun _ => rfl) (gdt ex2)) _),
    Ob.quietG (n1 := fun n => n) (c := ((decide (i8 < (x1.length : Int))) == true)) (v0 := fun _ => .agg [.r (.int .i64 x2.Row), .r (.int .i64 x2.Col), .r (.str x2.Text), .r (.int .i64 x2.Ref), .r (.sl (x2.Attrs.map GAttr.row))]) rfl (by intro d h; cases h; rfl) rfl (fun _ => [(39, .r (.bool (decide (i8 < (x1.length : Int))))), (43, .whn ((decide (i8 < (x1.length : Int))) == true) (.rop (GCell.row x2) 0))]) (fun _ => []) (fun D G1 hr => ⟨inE_op hr 4 rfl rfl (by kernel_rfl) rfl rfl, inE_op hr 8 rfl rfl (by kernel_rfl) rfl rfl, trivial⟩) (fun D G1 hr => trivial) (fun _ _ => rfl) (fun _ _ => (.one rfl rfl rfl)) (fun G1 e h' n => OpQ.spec (v := .agg [.r (.int .i64 x2.Row), .r (.int .i64 x2.Col), .r (.str x2.Text), .r (.int .i64 x2.Ref), .r (.sl (x2.Attrs.map GAttr.row))]) (ms_loadA (cs := [.r (.int .i64 x2.Row), .r (.int .i64 x2.Col), .r (.str x2.Text), .r (.int .i64 x2.Ref), .r (.sl (x2.Attrs.map GAttr.row))]) rfl ta_60 (.inr ⟨_, (by exact id), rfl⟩) rfl rfl) _),
    Ob.quietG (n1 := fun n => n) (c := ((decide (i8 < (x1.length : Int))) == true)) (v0 := fun _ => .agg [.r (.int .i64 target1.Row), .r (.int .i64 target1.Col), .r (.str target1.Text), .r (.int .i64 target1.Ref), .r (.sl (target1.Attrs.map GAttr.row))]) rfl (by intro d h; cases h; rfl) rfl (fun _ => [(4, .ptr 4 n0 0 0), (39, .r (.bool (decide (i8 < (x1.length : Int)))))]) (fun _ => [(4, some (.box n0 60 [.r (.int .i64 target1.Row), .r (.int .i64 target1.Col), .r (.str target1.Text), .r (.int .i64 target1.Ref), .r (.sl (target1.Attrs.map GAttr.row))]))]) (fun D G1 hr => ⟨inE_base rfl rfl, inE_op hr 4 rfl rfl (by kernel_rfl) rfl rfl, trivial⟩) (fun D G1 hr => ⟨inH_base rfl rfl, trivial⟩) (fun _ _ => rfl) (fun _ _ => (.one rfl rfl rfl)) (fun G1 e h' n => OpQ.spec (v := .agg [.r (.int .i64 target1.Row), .r (.int .i64 target1.Col), .r (.str target1.Text), .r (.int .i64 target1.Ref), .r (.sl (target1.Attrs.map GAttr.row))]) (ms_loadA_box rfl ta_60 (.inl rfl) rfl rfl) _),
    Ob.quietG (n1 := fun n => n) (c := ((decide (i8 < (x1.length : Int))) == true)) (v0 := fun _ => .r (.int .i64 r1)) rfl (by intro d h; cases h; rfl) rfl (fun _ => [(39, .r (.bool (decide (i8 < (x1.length : Int))))), (40, .whn ((decide (i8 < (x1.length : Int))) == true) (.fn 134 [])), (44, .whn ((decide (i8 < (x1.length : Int))) == true) (.agg [.r (.int .i64 x2.Row), .r (.int .i64 x2.Col), .r (.str x2.Text), .r (.int .i64 x2.Ref), .r (.sl (x2.Attrs.map GAttr.row))])), (45, .whn ((decide (i8 < (x1.length : Int))) == true) (.agg [.r (.int .i64 target1.Row), .r (.int .i64 target1.Col), .r (.str target1.Text), .r (.int .i64 target1.Ref), .r (.sl (target1.Attrs.map GAttr.row))]))]) (fun _ => []) (fun D G1 hr => ⟨inE_op hr 4 rfl rfl (by kernel_rfl) rfl rfl, inE_op hr 5 rfl rfl (by kernel_rfl) rfl rfl, inE_op hr 9 rfl rfl (by kernel_rfl) rfl rfl, inE_op hr 10 rfl rfl (by kernel_rfl) rfl rfl, trivial⟩) (fun D G1 hr => trivial) (fun _ _ => rfl) (fun _ _ => (.one rfl rfl rfl)) (fun G1 e h' n => sp_call (r := .r (.int .i64 r1)) (caps := []) (bs := [.agg [.r (.int .i64 x2.Row), .r (.int .i64 x2.Col), .r (.str x2.Text), .r (.int .i64 x2.Ref), .r (.sl (x2.Attrs.map GAttr.row))], .agg [.r (.int .i64 target1.Row), .r (.int .i64 target1.Col), .r (.str target1.Text), .r (.int .i64 target1.Ref), .r (.sl (target1.Attrs.map GAttr.row))]]) rfl (.inr ⟨_, (by exact id), rfl⟩) rfl ⟨⟨_, (.inr ⟨_, (by exact id), rfl⟩), .g (cs := [.int .i64 x2.Row, .int .i64 x2.Col, .str x2.Text, .int .i64 x2.Ref, .sl (x2.Attrs.map GAttr.row)]) rfl rfl⟩, ⟨_, (.inr ⟨_, (by exact id), rfl⟩), .g (cs := [.int .i64 target1.Row, .int .i64 target1.Col, .str target1.Text, .int .i64 target1.Ref, .sl (target1.Attrs.map GAttr.row)]) rfl rfl⟩, trivial⟩ (fun hg => w_grid_order (gdt er1 hg)) rfl),
    Ob.quietG (n1 := fun n => n) (c := ((decide (i8 < (x1.length : Int))) == true)) (v0 := fun _ => .r (.bool (decide (r1 = 0)))) rfl (by intro d h; cases h; rfl) rfl (fun _ => [(39, .r (.bool (decide (i8 < (x1.length : Int))))), (46, .whn ((decide (i8 < (x1.length : Int))) == true) (.r (.int .i64 r1)))]) (fun _ => []) (fun D G1 hr => ⟨inE_op hr 4 rfl rfl (by kernel_rfl) rfl rfl, inE_op hr 11 rfl rfl (by kernel_rfl) rfl rfl, trivial⟩) (fun D G1 hr => trivial) (fun _ _ => rfl) (fun _ _ => (.one rfl rfl rfl)) (fun G1 e h' n => OpQ.spec (v := .r (.bool (decide (r1 = 0)))) (sp_eql rfl (.inr ⟨_, (by exact id), rfl⟩) (.inl rfl)) _),
    Ob.quiet (n1 := fun n => n) rfl rfl (by intro d h; cases h; rfl) rfl (fun _ => [(39, .r (.bool (decide (i8 < (x1.length : Int))))), (47, .whn ((decide (i8 < (x1.length : Int))) == true) (.r (.bool (decide (r1 = 0)))))]) (fun _ => []) (fun D G1 hr => ⟨inE_op hr 4 rfl rfl (by kernel_rfl) rfl rfl, inE_op hr 12 rfl rfl (by kernel_rfl) rfl rfl, trivial⟩) (fun D G1 hr => trivial) (fun _ _ => rfl) (fun G1 e h' n => OpQ.spec (v := .r (.bool ((decide (i8 < (x1.length : Int))) && (decide (r1 = 0))))) (sp_and rfl (.inl rfl) (.inr ⟨_, (by exact id), rfl⟩)) _),
    Ob.quiet (n1 := fun n => n) rfl rfl (by intro d h; cases h; rfl) rfl (fun _ => [(35, .r (.int .i64 i8))]) (fun _ => []) (fun D G1 hr => ⟨inE_op hr 0 rfl rfl (by kernel_rfl) rfl rfl, trivial⟩) (fun D G1 hr => trivial) (fun _ _ => rfl) (fun G1 e h' n => OpQ.spec (v := .r (.int .i64 i8)) (sp_assign rfl (.inl rfl)) _),
    trivial⟩) fun G1 n1 => ?_
  refine AOps.weak (s' := ⟨[(0, .r (.sl (x1.map GCell.row))), (2, .fn 134 []), (4, .ptr 4 n0 0 0), (6, .r (.int .i64 i8)), (8, .r (.int .i64 (x1.length : Int))), (9, .r (.int .i64 i8)), (35, .r (.int .i64 i8)), (36, .r (.int .i64 i8)), (37, .r (.int .i64 (x1.length : Int))), (38, .r (.bool (decide (i8 < (x1.length : Int))))), (39, .r (.bool (decide (i8 < (x1.length : Int))))), (40, .whn ((decide (i8 < (x1.length : Int))) == true) (.fn 134 [])), (41, .whn ((decide (i8 < (x1.length : Int))) == true) (.r (.sl (x1.map GCell.row)))), (42, .whn ((decide (i8 < (x1.length : Int))) == true) (.r (.int .i64 i8))), (43, .whn ((decide (i8 < (x1.length : Int))) == true) (.rop (GCell.row x2) 0)), (44, .whn ((decide (i8 < (x1.length : Int))) == true) (.agg [.r (.int .i64 x2.Row), .r (.int .i64 x2.Col), .r (.str x2.Text), .r (.int .i64 x2.Ref), .r (.sl (x2.Attrs.map GAttr.row))])), (45, .whn ((decide (i8 < (x1.length : Int))) == true) (.agg [.r (.int .i64 target1.Row), .r (.int .i64 target1.Col), .r (.str target1.Text), .r (.int .i64 target1.Ref), .r (.sl (target1.Attrs.map GAttr.row))])), (46, .whn ((decide (i8 < (x1.length : Int))) == true) (.r (.int .i64 r1))), (47, .whn ((decide (i8 < (x1.length : Int))) == true) (.r (.bool (decide (r1 = 0))))), (48, .r (.bool ((decide (i8 < (x1.length : Int))) && (decide (r1 = 0)))))], [(4, some (.box n0 60 [.r (.int .i64 target1.Row), .r (.int .i64 target1.Col), .r (.str target1.Text), .r (.int .i64 target1.Ref), .r (.sl (target1.Attrs.map GAttr.row))]))], n1, 49⟩) (by exact Weak.cv ⟨jL, jL, jL, jL, jL, jL, jL, jL, jL, jL, jL, jL, jL, jL, jL, jL, jL, jL, jL, jL, trivial⟩ ⟨.inl rfl, trivial⟩ nL) ?_
  refine sQ rfl (sp_assign rfl iL) ?_
  refine AOps.nil (hK5 _ ?_)
  refine AW.ret ?_
  exact retf2 (P := Tryd.prog) (fun (r : Int × Bool) => .r (.int .i64 r.1)) (fun (r : Int × Bool) => .r (.bool r.2)) h3 iL (.t (.d rfl)) (.t (.d rfl))
 refine AW.iter2 (fun (i4 : Int) (j2 : Int) i5 => ⟨[(0, .r (.sl (x1.map GCell.row))), (2, .fn 134 []), (4, .ptr 4 n0 0 0), (8, .r (.int .i64 (x1.length : Int))), (9, .r (.int .i64 i4)), (10, .r (.int .i64 j2))], [(4, some (.box n0 60 [.r (.int .i64 target1.Row), .r (.int .i64 target1.Col), .r (.str target1.Text), .r (.int .i64 target1.Ref), .r (.sl (target1.Attrs.map GAttr.row))]))], (i5 0), 49⟩) (vec [(n0 + 1)]) hit1 ((by exact Weak.cv ⟨jL, jL, jL, jL, jL, jL, trivial⟩ ⟨.inl rfl, trivial⟩ nL)) ?_
 intro i4 j2 i5 v1 hv1 hx1
 have h4 : slices_BinarySearchFunc_api_Cell_api_Cell_api_Cell__order_L1 x1 target1 i4 j2 = some v1 := hv1; unfold slices_BinarySearchFunc_api_Cell_api_Cell_api_Cell__order_L1 at h4
 refine AW.seq_w fun K6 hK6 wK6 => ?_
 refine AW.seq_w fun K7 hK7 wK7 => ?_
 refine AW.region ?_
 refine sM rfl rfl ?_
 refine sM rfl rfl ?_
 refine sQ rfl (sp_lss rfl iL iL) ?_
 refine AOps.nil (hK7 _ ?_)
 refine AW.cond rfl (fun hc1 => ?_) (fun hc1 => ?_)
 ·have h5 := ite_t hc1 h4
  refine AW.skip ?_
  refine hK6 _ ?_
  refine AW.block ?_
  refine AW.seq_w fun K8 hK8 wK8 => ?_
  refine AW.region ?_
  refine sM rfl rfl ?_
  refine sM rfl rfl ?_
  refine ob1k h5 fun x3 ex3 h6 => ?_
  refine sQ rfl (ms_add rfl iL iL (fun _ => ex3)) ?_
  refine sQ rfl (sp_convert_int rfl Tryd.underlying3 Tryd.underlying77 iL) ?_
  refine sQ rfl (sp_shr (b := 1) rfl iL iL) ?_
  refine sQ rfl (sp_convert_int rfl Tryd.underlying77 Tryd.underlying3 iL) ?_
  refine sQ rfl (sp_assign rfl iL) ?_
  refine AOps.nil (hK8 _ ?_)
  refine AW.seq_w fun K9 hK9 wK9 => ?_
  refine AW.weak (s' := ⟨[(0, .r (.sl (x1.map GCell.row))), (2, .fn 134 []), (4, .ptr 4 n0 0 0), (8, .r (.int .i64 (x1.length : Int))), (9, .r (.int .i64 i4)), (10, .r (.int .i64 j2)), (11, .r (.int .i64 (IntKind.i64.wrap (shrC .u64 (IntKind.u64.wrap x3) 1))))], [(4, some (.box n0 60 [.r (.int .i64 target1.Row), .r (.int .i64 target1.Col), .r (.str target1.Text), .r (.int .i64 target1.Ref), .r (.sl (target1.Attrs.map GAttr.row))]))], (i5 0), 49⟩) (by exact Weak.cv ⟨jL, jL, jL, jL, jL, jL, jL, trivial⟩ ⟨.inl rfl, trivial⟩ nL) ?_
  refine AW.regionT 6 hmix (by kernel_rfl) rfl rfl ?_
  refine AT.step rfl rfl rfl (sp_move rfl iL) ?_
  refine AT.step rfl rfl rfl (sp_move rfl iL) ?_
  refine AT.step rfl rfl rfl (sp_move rfl iL) ?_
  refine ob1k h6 fun x4 ex4 h7 => ?_
  refine AT.step rfl rfl rfl (ms_idx rfl tg_29.slice iL iL (fun _ => rfl) (fun _ => ex4)) ?_
  refine AT.step rfl rfl rfl (ms_loadA (cs := [.r (.int .i64 x4.Row), .r (.int .i64 x4.Col), .r (.str x4.Text), .r (.int .i64 x4.Ref), .r (.sl (x4.Attrs.map GAttr.row))]) rfl ta_60 iL rfl rfl) ?_
  refine AT.step rfl rfl rfl (ms_loadA_box rfl ta_60 iL rfl rfl) ?_
  refine AT.nil ?_
  refine ob1k h7 fun r2 er2 h8 => ?_
  refine AOps.step rfl rfl rfl (sp_call (r := .r (.int .i64 r2)) (caps := []) (bs := [.agg [.r (.int .i64 x4.Row), .r (.int .i64 x4.Col), .r (.str x4.Text), .r (.int .i64 x4.Ref), .r (.sl (x4.Attrs.map GAttr.row))], .agg [.r (.int .i64 target1.Row), .r (.int .i64 target1.Col), .r (.str target1.Text), .r (.int .i64 target1.Ref), .r (.sl (target1.Attrs.map GAttr.row))]]) rfl iL rfl ⟨⟨_, iL, .g (cs := [.int .i64 x4.Row, .int .i64 x4.Col, .str x4.Text, .int .i64 x4.Ref, .sl (x4.Attrs.map GAttr.row)]) rfl rfl⟩, ⟨_, iL, .g (cs := [.int .i64 target1.Row, .int .i64 target1.Col, .str target1.Text, .int .i64 target1.Ref, .sl (target1.Attrs.map GAttr.row)]) rfl rfl⟩, trivial⟩ (fun _ => w_grid_order (er2)) rfl) ?_
  refine sQ rfl (sp_lss rfl iL iL) ?_
  refine AOps.nil (hK9 _ ?_)
  refine AW.cond rfl (fun hc2 => ?_) (fun hc2 => ?_)
  ·have h9 := ite_t hc2 h8
   refine AW.weak (s' := ⟨[(0, .r (.sl (x1.map GCell.row))), (2, .fn 134 []), (4, .ptr 4 n0 0 0), (8, .r (.int .i64 (x1.length : Int))), (10, .r (.int .i64 j2)), (11, .r (.int .i64 (IntKind.i64.wrap (shrC .u64 (IntKind.u64.wrap x3) 1))))], [(4, some (.box n0 60 [.r (.int .i64 target1.Row), .r (.int .i64 target1.Col), .r (.str target1.Text), .r (.int .i64 target1.Ref), .r (.sl (target1.Attrs.map GAttr.row))]))], (i5 0), 49⟩) (by exact Weak.cv ⟨jL, jL, jL, jL, jL, jL, trivial⟩ ⟨.inl rfl, trivial⟩ nL) ?_
   refine AW.region ?_
   refine sM rfl rfl ?_
   refine ob1k h9 fun i10 ei10 h10 => ?_
   refine sQ rfl (ms_add rfl iL iL (fun _ => ei10)) ?_
   refine sQ rfl (sp_assign rfl iL) ?_
   refine AOps.nil ?_
   exact NextQ2.mk h10 (vec [(i5 0)]) ((by exact Weak.cv ⟨jL, jL, jL, jL, jL, jL, trivial⟩ ⟨.inl rfl, trivial⟩ nL))
  ·have h9 := ite_f hc2 h8
   refine AW.weak (s' := ⟨[(0, .r (.sl (x1.map GCell.row))), (2, .fn 134 []), (4, .ptr 4 n0 0 0), (8, .r (.int .i64 (x1.length : Int))), (9, .r (.int .i64 i4)), (11, .r (.int .i64 (IntKind.i64.wrap (shrC .u64 (IntKind.u64.wrap x3) 1))))], [(4, some (.box n0 60 [.r (.int .i64 target1.Row), .r (.int .i64 target1.Col), .r (.str target1.Text), .r (.int .i64 target1.Ref), .r (.sl (target1.Attrs.map GAttr.row))]))], (i5 0), 49⟩) (by exact Weak.cv ⟨jL, jL, jL, jL, jL, jL, trivial⟩ ⟨.inl rfl, trivial⟩ nL) ?_
   refine AW.region ?_
   refine sM rfl rfl ?_
   refine sQ rfl (sp_assign rfl iL) ?_
   refine AOps.nil ?_
   exact NextQ2.mk h9 (vec [(i5 0)]) ((by exact Weak.cv ⟨jL, jL, jL, jL, jL, jL, trivial⟩ ⟨.inl rfl, trivial⟩ nL))
 ·have h5 := ite_f hc1 h4
  refine AW.exit ?_
  exact wK4 _ _ ((by exact Weak.cv ⟨jL, jL, jL, jL, jL, trivial⟩ ⟨.inl rfl, trivial⟩ nL)) (J1 _ (vec [(i5 0)]) (hx1 _ (Option.some.inj h5).symm))
set_option maxHeartbeats 4000000 in
set_option maxRecDepth 20000 in
theorem w_grid_find {l1 : List GCell} {row1 : Int} {col1 : Int} {r : Int × Bool} (h : grid_find l1 row1 col1 = some r) : ARO Tryd.prog 96 [.r (.sl (l1.map GCell.row)), .r (.int .i64 row1), .r (.int .i64 col1)] (.tup [.r (.int .i64 r.1), .r (.bool r.2)]) := by
 unfold grid_find at h
 refine ARO.mkF Tryd.func96 rfl rfl Tryd.ntmps96 rfl (Nat.le_of_ble_eq_true rfl) fun n0 => ?_
 refine AW.seq_w fun K1 hK1 wK1 => ?_
 refine AW.region ?_
 refine sQ rfl (sp_assign rfl iL) ?_
 refine sQ rfl (sp_assign rfl iL) ?_
 refine AOps.nil (hK1 _ ?_)
 refine AW.seq_w fun K2 hK2 wK2 => ?_
 refine AW.region ?_
 refine sM rfl rfl ?_
 refine sM rfl rfl ?_
 refine sM rfl rfl ?_
 refine sQ rfl (sp_build rfl tb_60 (q := [(0, _), (1, _)]) (by exact ⟨rfl, rfl, rfl, iL, rfl, rfl, rfl, iL, trivial⟩) (cs := [.r (.int .i64 row1), .r (.int .i64 col1), .r (.str []), .r (.int .i64 0), .cst (.slice none 0 0)]) (by rfl)) ?_
 refine AOps.weak (by exact Weak.cv (e' := [(0, .r (.sl (l1.map GCell.row))), (1, .r (.int .i64 row1)), (2, .r (.int .i64 col1)), (6, .r (.int .i64 0)), (7, .r (.bool false)), (8, .r (.sl (l1.map GCell.row))), (9, .r (.int .i64 row1)), (10, .r (.int .i64 col1)), (11, .agg [.r (.int .i64 row1), .r (.int .i64 col1), .r (.str []), .r (.int .i64 0), .r (.sl [])])]) (h' := []) ⟨jL, jL, jL, jL, jL, jL, jL, jL, .inr ⟨_, _, rfl, rfl, ⟨.inl rfl, .inl rfl, .inl rfl, .inl rfl, .inr (.inr ⟨rfl, rfl⟩), trivial⟩⟩, trivial⟩ trivial nL) ?_
 refine ob2k h fun r1 r2 er1 h1 => ?_
 refine AOps.step rfl rfl rfl (sp_call (r := .tup [.r (.int .i64 r1), .r (.bool r2)]) (caps := []) (bs := [.r (.sl (l1.map GCell.row)), .agg [.r (.int .i64 row1), .r (.int .i64 col1), .r (.str []), .r (.int .i64 0), .r (.sl [])], .fn 134 []]) rfl iL rfl ⟨⟨_, iL, .d rfl⟩, ⟨_, iL, .g (cs := [.int .i64 row1, .int .i64 col1, .str [], .int .i64 0, .sl ([].map GAttr.row)]) rfl rfl⟩, ⟨_, iL, .one (.closed (.fn 134 []) rfl)⟩, trivial⟩ (fun _ => w_slices_BinarySearchFunc_api_Cell_api_Cell_api_Cell__order (er1)) rfl) ?_
 refine sQ rfl (sp_extract (a := .r (.int .i64 r1)) rfl iL rfl) ?_
 refine sQ rfl (sp_extract (a := .r (.bool r2)) rfl iL rfl) ?_
 refine sQ rfl (sp_assign rfl iL) ?_
 refine sQ rfl (sp_assign rfl iL) ?_
 refine AOps.nil (hK2 _ ?_)
 refine AW.ret ?_
 exact retf2 (P := Tryd.prog) (fun (r : Int × Bool) => .r (.int .i64 r.1)) (fun (r : Int × Bool) => .r (.bool r.2)) h1 iL (.t (.d rfl)) (.t (.d rfl))
set_option maxHeartbeats 4000000 in
set_option maxRecDepth 20000 in
theorem w_grid_At {g1 : GGrid} {row1 : Int} {col1 : Int} {r : GCell} (h : grid_At g1 row1 col1 = some r) : ARO Tryd.prog 34 [.agg [.r (.int .i64 g1.Rows), .r (.int .i64 g1.Cols), .r (.sl (g1.Cells.map GCell.row)), .r (.sl (g1.Merges.map GRect.row))], .r (.int .i64 row1), .r (.int .i64 col1)] (.agg [.r (.int .i64 r.Row), .r (.int .i64 r.Col), .r (.str r.Text), .r (.int .i64 r.Ref), .r (.sl (r.Attrs.map GAttr.row))]) := by
 unfold grid_At at h
 refine ARO.mkF Tryd.func34 rfl rfl Tryd.ntmps34 rfl (Nat.le_of_ble_eq_true rfl) fun n0 => ?_
 refine AW.seq_w fun K1 hK1 wK1 => ?_
 refine AW.region ?_
 refine AOps.step rfl rfl rfl (ms_box (cs := [.r (.int .i64 g1.Rows), .r (.int .i64 g1.Cols), .r (.sl (g1.Cells.map GCell.row)), .r (.sl (g1.Merges.map GRect.row))]) 3 rfl iL rfl rfl) ?_
 refine AOps.step rfl rfl rfl (ms_alloc (cs := [.r (.int .i64 0), .r (.int .i64 0), .r (.str []), .r (.int .i64 0), .cst (.slice none 0 0)]) 6 rfl t0_60 rfl rfl) ?_
 refine AOps.nil (hK1 _ ?_)
 refine AW.seq_w fun K2 hK2 wK2 => ?_
 refine AW.region ?_
 refine sQ rfl (sp_fieldAddr_own (ob := .box _ _ _) rfl tf_32_2 iL fR rfl) ?_
 refine sQ rfl (ms_load_box (a := .r (.sl (g1.Cells.map GCell.row))) rfl ts_29 iL rfl rfl) ?_
 refine sM rfl rfl ?_
 refine sM rfl rfl ?_
 refine ob2k h fun r1 r2 er1 h1 => ?_
 refine AOps.step rfl rfl rfl (sp_call (r := .tup [.r (.int .i64 r1), .r (.bool r2)]) (caps := []) (bs := [.r (.sl (g1.Cells.map GCell.row)), .r (.int .i64 row1), .r (.int .i64 col1)]) rfl iL rfl ⟨⟨_, iL, .d rfl⟩, ⟨_, iL, .d rfl⟩, ⟨_, iL, .d rfl⟩, trivial⟩ (fun _ => w_grid_find (er1)) rfl) ?_
 refine sM rfl rfl ?_
 refine sQ rfl (sp_extract (a := .r (.int .i64 r1)) rfl iL rfl) ?_
 refine sQ rfl (sp_extract (a := .r (.bool r2)) rfl iL rfl) ?_
 refine sQ rfl (sp_assign rfl iL) ?_
 refine sQ rfl (sp_assign rfl iL) ?_
 refine AOps.nil (hK2 _ ?_)
 refine AW.seq_w fun K3 hK3 wK3 => ?_
 refine AW.seq_w fun K4 hK4 wK4 => ?_
 refine AW.weak (s' := ⟨[(1, .r (.int .i64 row1)), (2, .r (.int .i64 col1)), (3, .ptr 3 n0 0 0), (6, .ptr 6 (n0 + 1) 0 0), (7, .r (.int .i64 r1)), (8, .r (.bool r2))], [(3, some (.box n0 32 [.r (.int .i64 g1.Rows), .r (.int .i64 g1.Cols), .r (.sl (g1.Cells.map GCell.row)), .r (.sl (g1.Merges.map GRect.row))])), (6, some (.box (n0 + 1) 60 [.r (.int .i64 0), .r (.int .i64 0), .r (.str []), .r (.int .i64 0), .cst (.slice none 0 0)]))], (n0 + 2), 28⟩) (by exact Weak.cv ⟨jL, jL, jL, jL, jL, jL, trivial⟩ ⟨.inl rfl, .inl rfl, trivial⟩ nL) ?_
 refine AW.region ?_
 refine sM rfl rfl ?_
 refine sQ rfl (sp_not rfl iL) ?_
 refine AOps.nil (hK4 _ ?_)
 refine AW.cond rfl (fun hc1 => ?_) (fun hc1 => ?_)
 ·have h2 := ite_t hc1 h1
  refine AW.seq_w fun K5 hK5 wK5 => ?_
  refine AW.region ?_
  refine sM rfl rfl ?_
  refine sM rfl rfl ?_
  refine sQ rfl (sp_build rfl tb_60 (q := [(0, _), (1, _)]) (by exact ⟨rfl, rfl, rfl, iL, rfl, rfl, rfl, iL, trivial⟩) (cs := [.r (.int .i64 row1), .r (.int .i64 col1), .r (.str []), .r (.int .i64 0), .cst (.slice none 0 0)]) (by rfl)) ?_
  refine AOps.step0 rfl rfl (ms_store_box (ds := [.r (.int .i64 row1), .r (.int .i64 col1), .r (.str []), .r (.int .i64 0), .cst (.slice none 0 0)]) rfl tz_60 iL rfl iL rfl rfl rfl rfl) ?_
  refine AOps.nil (hK5 _ ?_)
  refine AW.ret ?_
  exact retf1 (P := Tryd.prog) (fun (r : GCell) => .agg [.r (.int .i64 r.Row), .r (.int .i64 r.Col), .r (.str r.Text), .r (.int .i64 r.Ref), .r (.sl (r.Attrs.map GAttr.row))]) h2 iL (.a ta_60 rfl rfl rfl (.agg (by exact ⟨.closed _ rfl, .closed _ rfl, .closed _ rfl, .closed _ rfl, .nil, trivial⟩)))
 ·have h2 := ite_f hc1 h1
  refine AW.skip ?_
  refine hK3 _ ?_
  refine AW.seq_w fun K6 hK6 wK6 => ?_
  refine AW.region ?_
  refine sQ rfl (sp_fieldAddr_own (ob := .box _ _ _) rfl tf_32_2 iL fR rfl) ?_
  refine sQ rfl (ms_load_box (a := .r (.sl (g1.Cells.map GCell.row))) rfl ts_29 iL rfl rfl) ?_
  refine sM rfl rfl ?_
  refine ob1k h2 fun x1 ex1 h3 => ?_
  refine sQ rfl (ms_idx rfl tg_29.slice iL iL (fun _ => rfl) (fun _ => ex1)) ?_
  refine sQ rfl (ms_loadA (cs := [.r (.int .i64 x1.Row), .r (.int .i64 x1.Col), .r (.str x1.Text), .r (.int .i64 x1.Ref), .r (.sl (x1.Attrs.map GAttr.row))]) rfl ta_60 iL rfl rfl) ?_
  refine ob1k h3 fun r3 er3 h4 => ?_
  refine AOps.step rfl rfl rfl (sp_callS (r := .agg [.r (.int .i64 r3.Row), .r (.int .i64 r3.Col), .r (.str r3.Text), .r (.int .i64 r3.Ref), .r (.sl (r3.Attrs.map GAttr.row))]) (caps := []) (bs := [.agg [.r (.int .i64 x1.Row), .r (.int .i64 x1.Col), .r (.str x1.Text), .r (.int .i64 x1.Ref), .r (.sl (x1.Attrs.map GAttr.row))]]) rfl iL rfl ⟨.inl ⟨iL, rfl⟩, trivial⟩ (fun _ => w_grid_clone (er3))) ?_
  refine AOps.step0 rfl rfl (ms_store_box (ds := [.r (.int .i64 r3.Row), .r (.int .i64 r3.Col), .r (.str r3.Text), .r (.int .i64 r3.Ref), .r (.sl (r3.Attrs.map GAttr.row))]) rfl tz_60 iL rfl iL rfl rfl rfl rfl) ?_
  refine AOps.nil (hK6 _ ?_)
  refine AW.ret ?_
  exact retf1 (P := Tryd.prog) (fun (r : GCell) => .agg [.r (.int .i64 r.Row), .r (.int .i64 r.Col), .r (.str r.Text), .r (.int .i64 r.Ref), .r (.sl (r.Attrs.map GAttr.row))]) h4 iL (.a ta_60 rfl rfl rfl (.g (cs := [.int .i64 r3.Row, .int .i64 r3.Col, .str r3.Text, .int .i64 r3.Ref, .sl (r3.Attrs.map GAttr.row)]) rfl rfl))
set_option maxHeartbeats 4000000 in
set_option maxRecDepth 20000 in
theorem w_ref_SameAttrs {a1 : List GAttr} {b1 : List GAttr} {r : Bool} (h : ref_SameAttrs a1 b1 = some r) : ARO Tryd.prog 43 [.r (.sl (a1.map GAttr.row)), .r (.sl (b1.map GAttr.row))] (.r (.bool r)) := by
 unfold ref_SameAttrs at h
 refine ARO.mkF Tryd.func43 rfl rfl Tryd.ntmps43 rfl (Nat.le_of_ble_eq_true rfl) fun n0 => ?_
 refine AW.seq_w fun K1 hK1 wK1 => ?_
 refine AW.region ?_
 refine sQ rfl (sp_assign rfl iL) ?_
 refine AOps.nil (hK1 _ ?_)
 refine AW.seq_w fun K2 hK2 wK2 => ?_
 refine AW.seq_w fun K3 hK3 wK3 => ?_
 refine AW.region ?_
 refine sM rfl rfl ?_
 refine sQ rfl (ms_len rfl tg_27.slice iL) ?_
 refine sM rfl rfl ?_
 refine sQ rfl (ms_len rfl tg_27.slice iL) ?_
 refine sQ rfl (sp_neq rfl iL iL) ?_
 refine AOps.nil (hK3 _ ?_)
 refine AW.cond rfl (fun hc1 => ?_) (fun hc1 => ?_)
 ·have h1 := ite_t hc1 h
  refine AW.seq_w fun K4 hK4 wK4 => ?_
  refine AW.region ?_
  refine sQ rfl (sp_assign rfl iL) ?_
  refine AOps.nil (hK4 _ ?_)
  refine AW.ret ?_
  exact retf1 (P := Tryd.prog) (fun (r : Bool) => .r (.bool r)) h1 iL (.t (.d rfl))
 ·have h1 := ite_f hc1 h
  refine AW.skip ?_
  refine hK2 _ ?_
  refine AW.seq_w fun K5 hK5 wK5 => ?_
  refine AW.seq_w fun K6 hK6 wK6 => ?_
  refine AW.region ?_
  refine sM rfl rfl ?_
  refine sQ rfl (ms_len rfl tg_27.slice iL) ?_
  refine sM rfl rfl ?_
  refine AOps.nil (hK6 _ ?_)
  refine AW.block ?_
  refine jc1k h1 fun o1 hit1 hk1 he1 => ?_
  have J1 : ∀ (u2 : Unit) (i5 : Nat → Nat), o1 = .nrm u2 → K5 ⟨[], [], (i5 0), 26⟩ := by
   intro u2 i5 e
   have h2 := hk1 _ e
   refine hK5 _ ?_
   refine AW.seq_w fun K7 hK7 wK7 => ?_
   refine AW.region ?_
   refine sQ rfl (sp_assign rfl iL) ?_
   refine AOps.nil (hK7 _ ?_)
   refine AW.ret ?_
   exact retf1 (P := Tryd.prog) (fun (r : Bool) => .r (.bool r)) h2 iL (.t (.d rfl))
  refine AW.iter1 (fun (x2 : Int) i3 => ⟨[(0, .r (.sl (a1.map GAttr.row))), (1, .r (.sl (b1.map GAttr.row))), (12, .r (.int .i64 (a1.length : Int))), (13, .r (.int .i64 x2))], [], (i3 0), 26⟩) (vec [n0]) hit1 ((by exact Weak.cv ⟨jL, jL, jL, jL, trivial⟩ trivial nL)) ?_
  intro x2 i3 v1 hv1 hx1
  have h3 : ref_SameAttrs_L1 a1 b1 x2 = some v1 := hv1; unfold ref_SameAttrs_L1 at h3
  refine AW.seq_w fun K8 hK8 wK8 => ?_
  refine AW.region ?_
  refine sQ rfl (sp_lss rfl iL iL) ?_
  refine AOps.nil (hK8 _ ?_)
  refine AW.seq_w fun K9 hK9 wK9 => ?_
  refine AW.cond rfl (fun hc2 => ?_) (fun hc2 => ?_)
  ·have h4 := ite_t hc2 h3
   refine AW.skip ?_
   refine hK9 _ ?_
   refine AW.seq_w fun K10 hK10 wK10 => ?_
   refine AW.block ?_
   refine AW.seq_w fun K11 hK11 wK11 => ?_
   refine AW.region ?_
   refine sM rfl rfl ?_
   refine sQ rfl (sp_assign rfl iL) ?_
   refine AOps.nil (hK11 _ ?_)
   refine AW.seq_w fun K12 hK12 wK12 => ?_
   refine AW.regionQ hmix (by kernel_rfl) ?_
   refine AQ.step rfl rfl rfl (sp_move rfl iL) ?_
   refine AQ.step rfl rfl rfl (sp_move rfl iL) ?_
   refine ob1k h4 fun x4 ex4 h5 => ?_
   refine AQ.step rfl rfl rfl (ms_idx rfl tg_27.slice iL iL (fun _ => rfl) (fun _ => ex4)) ?_
   refine AQ.step rfl rfl rfl (ms_loadA (cs := [.r (.str x4.Name), .r (.str x4.Value)]) rfl ta_122 iL rfl rfl) ?_
   refine AQ.step rfl rfl rfl (sp_move rfl iL) ?_
   refine AQ.step rfl rfl rfl (sp_move rfl iL) ?_
   refine ob1k h5 fun x5 ex5 h6 => ?_
   refine AQ.step rfl rfl rfl (ms_idx rfl tg_27.slice iL iL (fun _ => rfl) (fun _ => ex5)) ?_
   refine AQ.step rfl rfl rfl (ms_loadA (cs := [.r (.str x5.Name), .r (.str x5.Value)]) rfl ta_122 iL rfl rfl) ?_
   refine AQ.step rfl rfl rfl (sp_aggneq rfl te_122 iL iL rfl) ?_
   refine AQ.nil ?_
   refine hK12 _ ?_
   refine AW.cond rfl (fun hc3 => ?_) (fun hc3 => ?_)
   ·have h7 := ite_t hc3 h6
    refine AW.seq_w fun K13 hK13 wK13 => ?_
    refine AW.weak (s' := ⟨[], [], (i3 0), 26⟩) (by exact Weak.cv trivial trivial nL) ?_
    refine AW.region ?_
    refine sQ rfl (sp_assign rfl iL) ?_
    refine AOps.nil (hK13 _ ?_)
    refine AW.ret ?_
    exact retf1 (P := Tryd.prog) (fun (r : Bool) => .r (.bool r)) (he1 _ (hx1 _ (Option.some.inj h7).symm)) iL (.t (.d rfl))
   ·have h7 := ite_f hc3 h6
    refine AW.skip ?_
    refine hK10 _ ?_
    refine AW.weak (s' := ⟨[(0, .r (.sl (a1.map GAttr.row))), (1, .r (.sl (b1.map GAttr.row))), (12, .r (.int .i64 (a1.length : Int))), (13, .r (.int .i64 x2))], [], (i3 0), 26⟩) (by exact Weak.cv ⟨jL, jL, jL, jL, trivial⟩ trivial nL) ?_
    refine AW.region ?_
    refine ob1k h7 fun x6 ex6 h8 => ?_
    refine sQ rfl (ms_add rfl iL iL (fun _ => ex6)) ?_
    refine sM rfl rfl ?_
    refine AOps.nil ?_
    exact NextQ1.mk h8 (vec [(i3 0)]) ((by exact Weak.cv ⟨jL, jL, jL, jL, trivial⟩ trivial nL))
  ·have h4 := ite_f hc2 h3
   refine AW.exit ?_
   exact wK5 _ _ ((by exact Weak.cv trivial trivial nL)) (J1 _ (vec [(i3 0)]) (hx1 _ (Option.some.inj h4).symm))
set_option maxHeartbeats 4000000 in
set_option maxRecDepth 20000 in
theorem w_ref_SameCell {a1 : GCell} {b1 : GCell} {r : Bool} (h : ref_SameCell a1 b1 = some r) : ARO Tryd.prog 33 [.agg [.r (.int .i64 a1.Row), .r (.int .i64 a1.Col), .r (.str a1.Text), .r (.int .i64 a1.Ref), .r (.sl (a1.Attrs.map GAttr.row))], .agg [.r (.int .i64 b1.Row), .r (.int .i64 b1.Col), .r (.str b1.Text), .r (.int .i64 b1.Ref), .r (.sl (b1.Attrs.map GAttr.row))]] (.r (.bool r)) := by
 unfold ref_SameCell at h
 refine ARO.mkF Tryd.func33 rfl rfl Tryd.ntmps33 rfl (Nat.le_of_ble_eq_true rfl) fun n0 => ?_
 refine AW.seq_w fun K1 hK1 wK1 => ?_
 refine AW.region ?_
 refine AOps.step rfl rfl rfl (ms_box (cs := [.r (.int .i64 a1.Row), .r (.int .i64 a1.Col), .r (.str a1.Text), .r (.int .i64 a1.Ref), .r (.sl (a1.Attrs.map GAttr.row))]) 2 rfl iL rfl rfl) ?_
 refine AOps.step rfl rfl rfl (ms_box (cs := [.r (.int .i64 b1.Row), .r (.int .i64 b1.Col), .r (.str b1.Text), .r (.int .i64 b1.Ref), .r (.sl (b1.Attrs.map GAttr.row))]) 3 rfl iL rfl rfl) ?_
 refine sQ rfl (sp_assign rfl iL) ?_
 refine AOps.nil (hK1 _ ?_)
 refine AW.seq_w fun K2 hK2 wK2 => ?_
 refine AW.region ?_
 refine sQ rfl (sp_fieldAddr_own (ob := .box _ _ _) rfl tf_60_0 iL fR rfl) ?_
 refine sQ rfl (ms_load_box (a := .r (.int .i64 a1.Row)) rfl ts_3 iL rfl rfl) ?_
 refine sQ rfl (sp_fieldAddr_own (ob := .box _ _ _) rfl tf_60_0 iL fR rfl) ?_
 refine sQ rfl (ms_load_box (a := .r (.int .i64 b1.Row)) rfl ts_3 iL rfl rfl) ?_
 refine sQ rfl (sp_eql rfl iL iL) ?_
 refine sM rfl rfl ?_
 refine sV rfl rfl rfl (sp_fieldAddr_own (ob := .box _ _ _) rfl tf_60_1 iL fR rfl) ?_
 refine sV rfl rfl rfl (ms_load_box (a := .r (.int .i64 a1.Col)) rfl ts_3 (iR rfl) rfl rfl) ?_
 refine sV rfl rfl rfl (sp_fieldAddr_own (ob := .box _ _ _) rfl tf_60_1 iL fR rfl) ?_
 refine sV rfl rfl rfl (ms_load_box (a := .r (.int .i64 b1.Col)) rfl ts_3 (iR rfl) rfl rfl) ?_
 refine sV rfl rfl rfl (sp_eql rfl (iR rfl) (iR rfl)) ?_
 refine sQ rfl (sp_and rfl iL (iR rfl)) ?_
 refine sM rfl rfl ?_
 refine sV rfl rfl rfl (sp_fieldAddr_own (ob := .box _ _ _) rfl tf_60_2 iL fR rfl) ?_
 refine sV rfl rfl rfl (ms_load_box (a := .r (.str a1.Text)) rfl ts_9 (iR rfl) rfl rfl) ?_
 refine sV rfl rfl rfl (sp_fieldAddr_own (ob := .box _ _ _) rfl tf_60_2 iL fR rfl) ?_
 refine sV rfl rfl rfl (ms_load_box (a := .r (.str b1.Text)) rfl ts_9 (iR rfl) rfl rfl) ?_
 refine sV rfl rfl rfl (sp_seql rfl (iR rfl) (iR rfl)) ?_
 refine sQ rfl (sp_and rfl iL (iR rfl)) ?_
 refine sM rfl rfl ?_
 refine sV rfl rfl rfl (sp_fieldAddr_own (ob := .box _ _ _) rfl tf_60_3 iL fR rfl) ?_
 refine sV rfl rfl rfl (ms_load_box (a := .r (.int .i64 a1.Ref)) rfl ts_3 (iR rfl) rfl rfl) ?_
 refine sV rfl rfl rfl (sp_fieldAddr_own (ob := .box _ _ _) rfl tf_60_3 iL fR rfl) ?_
 refine sV rfl rfl rfl (ms_load_box (a := .r (.int .i64 b1.Ref)) rfl ts_3 (iR rfl) rfl rfl) ?_
 refine sV rfl rfl rfl (sp_eql rfl (iR rfl) (iR rfl)) ?_
 refine sQ rfl (sp_and rfl iL (iR rfl)) ?_
 refine sM rfl rfl ?_
 refine sV rfl rfl rfl (sp_fieldAddr_own (ob := .box _ _ _) rfl tf_60_4 iL fR rfl) ?_
 refine sV rfl rfl rfl (ms_load_box (a := .r (.sl (a1.Attrs.map GAttr.row))) rfl ts_27 (iR rfl) rfl rfl) ?_
 refine sV rfl rfl rfl (sp_fieldAddr_own (ob := .box _ _ _) rfl tf_60_4 iL fR rfl) ?_
 refine sV rfl rfl rfl (ms_load_box (a := .r (.sl (b1.Attrs.map GAttr.row))) rfl ts_27 (iR rfl) rfl rfl) ?_
 refine ob1k h fun r1 er1 h1 => ?_
 refine AOps.stepW (.one rfl rfl rfl) rfl rfl (sp_call (r := .r (.bool r1)) (caps := []) (bs := [.r (.sl (a1.Attrs.map GAttr.row)), .r (.sl (b1.Attrs.map GAttr.row))]) rfl iL rfl ⟨⟨_, (iR rfl), .d rfl⟩, ⟨_, (iR rfl), .d rfl⟩, trivial⟩ (fun hg => w_ref_SameAttrs (gdt er1 hg)) rfl) ?_
 refine sQ rfl (sp_and rfl iL (iR rfl)) ?_
 refine sQ rfl (sp_assign rfl iL) ?_
 refine AOps.nil (hK2 _ ?_)
 refine AW.ret ?_
 exact retf1 (P := Tryd.prog) (fun (r : Bool) => .r (.bool r)) h1 iL (.t (.d rfl))
set_option maxHeartbeats 4000000 in
set_option maxRecDepth 20000 in
theorem w_grid_Cover {g1 : GGrid} {row1 : Int} {col1 : Int} {r : GRect} (h : grid_Cover g1 row1 col1 = some r) : ARO Tryd.prog 35 [.agg [.r (.int .i64 g1.Rows), .r (.int .i64 g1.Cols), .r (.sl (g1.Cells.map GCell.row)), .r (.sl (g1.Merges.map GRect.row))], .r (.int .i64 row1), .r (.int .i64 col1)] (.agg [.r (.int .i64 r.Row), .r (.int .i64 r.Col), .r (.int .i64 r.H), .r (.int .i64 r.W)]) := by
 unfold grid_Cover at h
 refine ARO.mkF Tryd.func35 rfl rfl Tryd.ntmps35 rfl (Nat.le_of_ble_eq_true rfl) fun n0 => ?_
 refine AW.seq_w fun K1 hK1 wK1 => ?_
 refine AW.region ?_
 refine AOps.step rfl rfl rfl (ms_box (cs := [.r (.int .i64 g1.Rows), .r (.int .i64 g1.Cols), .r (.sl (g1.Cells.map GCell.row)), .r (.sl (g1.Merges.map GRect.row))]) 3 rfl iL rfl rfl) ?_
 refine AOps.step rfl rfl rfl (ms_alloc (cs := [.r (.int .i64 0), .r (.int .i64 0), .r (.int .i64 0), .r (.int .i64 0)]) 6 rfl t0_64 rfl rfl) ?_
 refine AOps.nil (hK1 _ ?_)
 refine AW.seq_w fun K2 hK2 wK2 => ?_
 refine AW.region ?_
 refine sM rfl rfl ?_
 refine sM rfl rfl ?_
 refine sQ rfl (sp_build rfl tb_64 (q := [(0, _), (1, _), (2, _), (3, _)]) (by exact ⟨rfl, rfl, rfl, iL, rfl, rfl, rfl, iL, rfl, rfl, rfl, iL, rfl, rfl, rfl, iL, trivial⟩) (cs := [.r (.int .i64 row1), .r (.int .i64 col1), .r (.int .i64 1), .r (.int .i64 1)]) (by rfl)) ?_
 refine AOps.step rfl rfl rfl (ms_alloc (cs := [.r (.int .i64 0), .r (.int .i64 0), .r (.int .i64 0), .r (.int .i64 0)]) 7 rfl t0_64 rfl rfl) ?_
 refine AOps.step0 rfl rfl (ms_store_box (ds := [.r (.int .i64 row1), .r (.int .i64 col1), .r (.int .i64 1), .r (.int .i64 1)]) rfl tz_64 iL rfl iL rfl rfl rfl rfl) ?_
 refine AOps.nil (hK2 _ ?_)
 refine AW.seq_w fun K3 hK3 wK3 => ?_
 refine AW.seq_w fun K4 hK4 wK4 => ?_
 refine AW.region ?_
 refine sQ rfl (sp_fieldAddr_own (ob := .box _ _ _) rfl tf_32_3 iL fR rfl) ?_
 refine sQ rfl (ms_load_box (a := .r (.sl (g1.Merges.map GRect.row))) rfl ts_30 iL rfl rfl) ?_
 refine sQ rfl (ms_len rfl tg_30.slice iL) ?_
 refine sM rfl rfl ?_
 refine AOps.nil (hK4 _ ?_)
 refine AW.block ?_
 refine jc1k h fun o1 hit1 hk1 he1 => ?_
 have J1 : ∀ (u2 : Unit) (i5 : Nat → Nat), o1 = .nrm u2 → K3 ⟨[(6, .ptr 6 (n0 + 1) 0 0), (7, .ptr 7 (n0 + 2) 0 0)], [(6, some (.box (n0 + 1) 64 [.r (.int .i64 0), .r (.int .i64 0), .r (.int .i64 0), .r (.int .i64 0)])), (7, some (.box (n0 + 2) 64 [.r (.int .i64 row1), .r (.int .i64 col1), .r (.int .i64 1), .r (.int .i64 1)]))], (i5 0), 51⟩ := by
  intro u2 i5 e
  have h1 := hk1 _ e
  refine hK3 _ ?_
  refine AW.seq_w fun K5 hK5 wK5 => ?_
  refine AW.region ?_
  refine sQ rfl (ms_loadA_box rfl ta_64 iL rfl rfl) ?_
  refine AOps.step0 rfl rfl (ms_store_box (ds := [.r (.int .i64 row1), .r (.int .i64 col1), .r (.int .i64 1), .r (.int .i64 1)]) rfl tz_64 iL rfl iL rfl rfl rfl rfl) ?_
  refine AOps.nil (hK5 _ ?_)
  refine AW.ret ?_
  exact retf1 (P := Tryd.prog) (fun (r : GRect) => .agg [.r (.int .i64 r.Row), .r (.int .i64 r.Col), .r (.int .i64 r.H), .r (.int .i64 r.W)]) h1 iL (.a ta_64 rfl rfl rfl (.g (cs := [.int .i64 row1, .int .i64 col1, .int .i64 1, .int .i64 1]) rfl rfl))
 refine AW.iter1 (fun (x2 : Int) i3 => ⟨[(1, .r (.int .i64 row1)), (2, .r (.int .i64 col1)), (6, .ptr 6 (n0 + 1) 0 0), (7, .ptr 7 (n0 + 2) 0 0), (14, .r (.sl (g1.Merges.map GRect.row))), (15, .r (.int .i64 (g1.Merges.length : Int))), (16, .r (.int .i64 x2))], [(6, some (.box (n0 + 1) 64 [.r (.int .i64 0), .r (.int .i64 0), .r (.int .i64 0), .r (.int .i64 0)])), (7, some (.box (n0 + 2) 64 [.r (.int .i64 row1), .r (.int .i64 col1), .r (.int .i64 1), .r (.int .i64 1)]))], (i3 0), 51⟩) (vec [(n0 + 3)]) hit1 ((by exact Weak.cv ⟨jL, jL, jL, jL, jL, jL, jL, trivial⟩ ⟨.inl rfl, .inl rfl, trivial⟩ nL)) ?_
 intro x2 i3 v1 hv1 hx1
 have h2 : grid_Cover_L1 g1 row1 col1 x2 = some v1 := hv1; unfold grid_Cover_L1 at h2
 refine AW.seq_w fun K6 hK6 wK6 => ?_
 refine AW.region ?_
 refine sQ rfl (sp_lss rfl iL iL) ?_
 refine AOps.nil (hK6 _ ?_)
 refine AW.seq_w fun K7 hK7 wK7 => ?_
 refine AW.cond rfl (fun hc1 => ?_) (fun hc1 => ?_)
 ·have h3 := ite_t hc1 h2
  refine AW.skip ?_
  refine hK7 _ ?_
  refine AW.seq_w fun K8 hK8 wK8 => ?_
  refine AW.block ?_
  refine AW.seq_w fun K9 hK9 wK9 => ?_
  refine AW.region ?_
  refine ob1k h3 fun x4 ex4 h4 => ?_
  refine sQ rfl (ms_idx rfl tg_30.slice iL iL (fun _ => rfl) (fun _ => ex4)) ?_
  refine sQ rfl (ms_loadA (cs := [.r (.int .i64 x4.Row), .r (.int .i64 x4.Col), .r (.int .i64 x4.H), .r (.int .i64 x4.W)]) rfl ta_64 iL rfl rfl) ?_
  refine AOps.step rfl rfl rfl (ms_alloc (cs := [.r (.int .i64 0), .r (.int .i64 0), .r (.int .i64 0), .r (.int .i64 0)]) 9 rfl t0_64 rfl rfl) ?_
  refine AOps.step0 rfl rfl (ms_store_box (ds := [.r (.int .i64 x4.Row), .r (.int .i64 x4.Col), .r (.int .i64 x4.H), .r (.int .i64 x4.W)]) rfl tz_64 iL rfl iL rfl rfl rfl rfl) ?_
  refine AOps.nil (hK9 _ ?_)
  refine AW.seq_w fun K10 hK10 wK10 => ?_
  refine AW.region ?_
  refine sM rfl rfl ?_
  refine sQ rfl (sp_fieldAddr_own (ob := .box _ _ _) rfl tf_64_0 iL fR rfl) ?_
  refine sQ rfl (ms_load_box (a := .r (.int .i64 x4.Row)) rfl ts_3 iL rfl rfl) ?_
  refine sQ rfl (sp_geq rfl iL iL) ?_
  refine sM rfl rfl ?_
  refine sV rfl rfl rfl (sp_move rfl iL) ?_
  refine sV rfl rfl rfl (sp_fieldAddr_own (ob := .box _ _ _) rfl tf_64_0 iL fR rfl) ?_
  refine sV rfl rfl rfl (ms_load_box (a := .r (.int .i64 x4.Row)) rfl ts_3 (iR rfl) rfl rfl) ?_
  refine ob1k h4 fun x5 ex5 h5 => ?_
  refine sV rfl rfl rfl (ms_sub rfl (iR rfl) (iR rfl) (gdt ex5)) ?_
  refine sV rfl rfl rfl (sp_fieldAddr_own (ob := .box _ _ _) rfl tf_64_2 iL fR rfl) ?_
  refine sV rfl rfl rfl (ms_load_box (a := .r (.int .i64 x4.H)) rfl ts_3 (iR rfl) rfl rfl) ?_
  refine sV rfl rfl rfl (sp_lss rfl (iR rfl) (iR rfl)) ?_
  refine sQ rfl (sp_and rfl iL (iR rfl)) ?_
  refine sM rfl rfl ?_
  refine sV rfl rfl rfl (sp_move rfl iL) ?_
  refine sV rfl rfl rfl (sp_fieldAddr_own (ob := .box _ _ _) rfl tf_64_1 iL fR rfl) ?_
  refine sV rfl rfl rfl (ms_load_box (a := .r (.int .i64 x4.Col)) rfl ts_3 (iR rfl) rfl rfl) ?_
  refine sV rfl rfl rfl (sp_geq rfl (iR rfl) (iR rfl)) ?_
  refine sQ rfl (sp_and rfl iL (iR rfl)) ?_
  refine sM rfl rfl ?_
  refine sV rfl rfl rfl (sp_move rfl iL) ?_
  refine sV rfl rfl rfl (sp_fieldAddr_own (ob := .box _ _ _) rfl tf_64_1 iL fR rfl) ?_
  refine sV rfl rfl rfl (ms_load_box (a := .r (.int .i64 x4.Col)) rfl ts_3 (iR rfl) rfl rfl) ?_
  refine ob1k h5 fun x6 ex6 h6 => ?_
  refine sV rfl rfl rfl (ms_sub rfl (iR rfl) (iR rfl) (gdt ex6)) ?_
  refine sV rfl rfl rfl (sp_fieldAddr_own (ob := .box _ _ _) rfl tf_64_3 iL fR rfl) ?_
  refine sV rfl rfl rfl (ms_load_box (a := .r (.int .i64 x4.W)) rfl ts_3 (iR rfl) rfl rfl) ?_
  refine sV rfl rfl rfl (sp_lss rfl (iR rfl) (iR rfl)) ?_
  refine sQ rfl (sp_and rfl iL (iR rfl)) ?_
  refine AOps.nil (hK10 _ ?_)
  refine AW.cond rfl (fun hc2 => ?_) (fun hc2 => ?_)
  ·have h7 := ite_t hc2 h6
   refine AW.seq_w fun K11 hK11 wK11 => ?_
   refine AW.weak (s' := ⟨[(6, .ptr 6 (n0 + 1) 0 0), (9, .ptr 9 (i3 0) 0 0)], [(6, some (.box (n0 + 1) 64 [.r (.int .i64 0), .r (.int .i64 0), .r (.int .i64 0), .r (.int .i64 0)])), (9, some (.box (i3 0) 64 [.r (.int .i64 x4.Row), .r (.int .i64 x4.Col), .r (.int .i64 x4.H), .r (.int .i64 x4.W)]))], ((i3 0) + 1), 51⟩) (by exact Weak.cv ⟨jL, jL, trivial⟩ ⟨.inl rfl, .inl rfl, trivial⟩ nL) ?_
   refine AW.region ?_
   refine sQ rfl (ms_loadA_box rfl ta_64 iL rfl rfl) ?_
   refine AOps.step0 rfl rfl (ms_store_box (ds := [.r (.int .i64 x4.Row), .r (.int .i64 x4.Col), .r (.int .i64 x4.H), .r (.int .i64 x4.W)]) rfl tz_64 iL rfl iL rfl rfl rfl rfl) ?_
   refine AOps.nil (hK11 _ ?_)
   refine AW.ret ?_
   exact retf1 (P := Tryd.prog) (fun (r : GRect) => .agg [.r (.int .i64 r.Row), .r (.int .i64 r.Col), .r (.int .i64 r.H), .r (.int .i64 r.W)]) (he1 _ (hx1 _ (Option.some.inj h7).symm)) iL (.a ta_64 rfl rfl rfl (.g (cs := [.int .i64 x4.Row, .int .i64 x4.Col, .int .i64 x4.H, .int .i64 x4.W]) rfl rfl))
  ·have h7 := ite_f hc2 h6
   refine AW.skip ?_
   refine hK8 _ ?_
   refine AW.weak (s' := ⟨[(1, .r (.int .i64 row1)), (2, .r (.int .i64 col1)), (6, .ptr 6 (n0 + 1) 0 0), (7, .ptr 7 (n0 + 2) 0 0), (14, .r (.sl (g1.Merges.map GRect.row))), (15, .r (.int .i64 (g1.Merges.length : Int))), (16, .r (.int .i64 x2))], [(6, some (.box (n0 + 1) 64 [.r (.int .i64 0), .r (.int .i64 0), .r (.int .i64 0), .r (.int .i64 0)])), (7, some (.box (n0 + 2) 64 [.r (.int .i64 row1), .r (.int .i64 col1), .r (.int .i64 1), .r (.int .i64 1)]))], ((i3 0) + 1), 51⟩) (by exact Weak.cv ⟨jL, jL, jL, jL, jL, jL, jL, trivial⟩ ⟨.inl rfl, .inl rfl, trivial⟩ nL) ?_
   refine AW.region ?_
   refine ob1k h7 fun x7 ex7 h8 => ?_
   refine sQ rfl (ms_add rfl iL iL (fun _ => ex7)) ?_
   refine sM rfl rfl ?_
   refine AOps.nil ?_
   exact NextQ1.mk h8 (vec [((i3 0) + 1)]) ((by exact Weak.cv ⟨jL, jL, jL, jL, jL, jL, jL, trivial⟩ ⟨.inl rfl, .inl rfl, trivial⟩ nL))
 ·have h3 := ite_f hc1 h2
  refine AW.exit ?_
  exact wK3 _ _ ((by exact Weak.cv ⟨jL, jL, trivial⟩ ⟨.inl rfl, .inl rfl, trivial⟩ nL)) (J1 _ (vec [(i3 0)]) (hx1 _ (Option.some.inj h3).symm))
set_option maxHeartbeats 4000000 in
set_option maxRecDepth 20000 in
theorem w_ref_Cover {g1 : GGrid} {row1 : Int} {col1 : Int} {r : GRect} (h : ref_Cover g1 row1 col1 = some r) : ARO Tryd.prog 36 [.agg [.r (.int .i64 g1.Rows), .r (.int .i64 g1.Cols), .r (.sl (g1.Cells.map GCell.row)), .r (.sl (g1.Merges.map GRect.row))], .r (.int .i64 row1), .r (.int .i64 col1)] (.agg [.r (.int .i64 r.Row), .r (.int .i64 r.Col), .r (.int .i64 r.H), .r (.int .i64 r.W)]) := by
 unfold ref_Cover at h
 refine ARO.mkF Tryd.func36 rfl rfl Tryd.ntmps36 rfl (Nat.le_of_ble_eq_true rfl) fun n0 => ?_
 refine AW.seq_w fun K1 hK1 wK1 => ?_
 refine AW.region ?_
 refine AOps.step rfl rfl rfl (ms_box (cs := [.r (.int .i64 g1.Rows), .r (.int .i64 g1.Cols), .r (.sl (g1.Cells.map GCell.row)), .r (.sl (g1.Merges.map GRect.row))]) 3 rfl iL rfl rfl) ?_
 refine AOps.step rfl rfl rfl (ms_alloc (cs := [.r (.int .i64 0), .r (.int .i64 0), .r (.int .i64 0), .r (.int .i64 0)]) 6 rfl t0_64 rfl rfl) ?_
 refine AOps.nil (hK1 _ ?_)
 refine AW.seq_w fun K2 hK2 wK2 => ?_
 refine AW.seq_w fun K3 hK3 wK3 => ?_
 refine AW.region ?_
 refine sQ rfl (sp_fieldAddr_own (ob := .box _ _ _) rfl tf_32_3 iL fR rfl) ?_
 refine sQ rfl (ms_load_box (a := .r (.sl (g1.Merges.map GRect.row))) rfl ts_30 iL rfl rfl) ?_
 refine sQ rfl (ms_len rfl tg_30.slice iL) ?_
 refine sM rfl rfl ?_
 refine AOps.nil (hK3 _ ?_)
 refine AW.block ?_
 refine jc1k h fun o1 hit1 hk1 he1 => ?_
 have J1 : ∀ (u2 : Unit) (i5 : Nat → Nat), o1 = .nrm u2 → K2 ⟨[(1, .r (.int .i64 row1)), (2, .r (.int .i64 col1)), (6, .ptr 6 (n0 + 1) 0 0)], [(6, some (.box (n0 + 1) 64 [.r (.int .i64 0), .r (.int .i64 0), .r (.int .i64 0), .r (.int .i64 0)]))], (i5 0), 47⟩ := by
  intro u2 i5 e
  have h1 := hk1 _ e
  refine hK2 _ ?_
  refine AW.seq_w fun K4 hK4 wK4 => ?_
  refine AW.region ?_
  refine sM rfl rfl ?_
  refine sM rfl rfl ?_
  refine sQ rfl (sp_build rfl tb_64 (q := [(0, _), (1, _), (2, _), (3, _)]) (by exact ⟨rfl, rfl, rfl, iL, rfl, rfl, rfl, iL, rfl, rfl, rfl, iL, rfl, rfl, rfl, iL, trivial⟩) (cs := [.r (.int .i64 row1), .r (.int .i64 col1), .r (.int .i64 1), .r (.int .i64 1)]) (by rfl)) ?_
  refine AOps.step0 rfl rfl (ms_store_box (ds := [.r (.int .i64 row1), .r (.int .i64 col1), .r (.int .i64 1), .r (.int .i64 1)]) rfl tz_64 iL rfl iL rfl rfl rfl rfl) ?_
  refine AOps.nil (hK4 _ ?_)
  refine AW.ret ?_
  exact retf1 (P := Tryd.prog) (fun (r : GRect) => .agg [.r (.int .i64 r.Row), .r (.int .i64 r.Col), .r (.int .i64 r.H), .r (.int .i64 r.W)]) h1 iL (.a ta_64 rfl rfl rfl (.g (cs := [.int .i64 row1, .int .i64 col1, .int .i64 1, .int .i64 1]) rfl rfl))
 refine AW.iter1 (fun (x2 : Int) i3 => ⟨[(1, .r (.int .i64 row1)), (2, .r (.int .i64 col1)), (3, .ptr 3 n0 0 0), (6, .ptr 6 (n0 + 1) 0 0), (11, .r (.int .i64 (g1.Merges.length : Int))), (12, .r (.int .i64 x2))], [(3, some (.box n0 32 [.r (.int .i64 g1.Rows), .r (.int .i64 g1.Cols), .r (.sl (g1.Cells.map GCell.row)), .r (.sl (g1.Merges.map GRect.row))])), (6, some (.box (n0 + 1) 64 [.r (.int .i64 0), .r (.int .i64 0), .r (.int .i64 0), .r (.int .i64 0)]))], (i3 0), 47⟩) (vec [(n0 + 2)]) hit1 ((by exact Weak.cv ⟨jL, jL, jL, jL, jL, jL, trivial⟩ ⟨.inl rfl, .inl rfl, trivial⟩ nL)) ?_
 intro x2 i3 v1 hv1 hx1
 have h2 : ref_Cover_L1 g1 row1 col1 x2 = some v1 := hv1; unfold ref_Cover_L1 at h2
 refine AW.seq_w fun K5 hK5 wK5 => ?_
 refine AW.region ?_
 refine sQ rfl (sp_lss rfl iL iL) ?_
 refine AOps.nil (hK5 _ ?_)
 refine AW.seq_w fun K6 hK6 wK6 => ?_
 refine AW.cond rfl (fun hc1 => ?_) (fun hc1 => ?_)
 ·have h3 := ite_t hc1 h2
  refine AW.skip ?_
  refine hK6 _ ?_
  refine AW.seq_w fun K7 hK7 wK7 => ?_
  refine AW.block ?_
  refine AW.seq_w fun K8 hK8 wK8 => ?_
  refine AW.region ?_
  refine sM rfl rfl ?_
  refine sQ rfl (sp_assign rfl iL) ?_
  refine AOps.nil (hK8 _ ?_)
  refine AW.seq_w fun K9 hK9 wK9 => ?_
  refine AW.region ?_
  refine sQ rfl (sp_fieldAddr_own (ob := .box _ _ _) rfl tf_32_3 iL fR rfl) ?_
  refine sQ rfl (ms_load_box (a := .r (.sl (g1.Merges.map GRect.row))) rfl ts_30 iL rfl rfl) ?_
  refine sM rfl rfl ?_
  refine ob1k h3 fun x4 ex4 h4 => ?_
  refine sQ rfl (ms_idx rfl tg_30.slice iL iL (fun _ => rfl) (fun _ => ex4)) ?_
  refine sQ rfl (ms_loadA (cs := [.r (.int .i64 x4.Row), .r (.int .i64 x4.Col), .r (.int .i64 x4.H), .r (.int .i64 x4.W)]) rfl ta_64 iL rfl rfl) ?_
  refine AOps.step rfl rfl rfl (ms_alloc (cs := [.r (.int .i64 0), .r (.int .i64 0), .r (.int .i64 0), .r (.int .i64 0)]) 8 rfl t0_64 rfl rfl) ?_
  refine AOps.step0 rfl rfl (ms_store_box (ds := [.r (.int .i64 x4.Row), .r (.int .i64 x4.Col), .r (.int .i64 x4.H), .r (.int .i64 x4.W)]) rfl tz_64 iL rfl iL rfl rfl rfl rfl) ?_
  refine AOps.nil (hK9 _ ?_)
  refine AW.seq_w fun K10 hK10 wK10 => ?_
  refine AW.region ?_
  refine sM rfl rfl ?_
  refine sQ rfl (sp_fieldAddr_own (ob := .box _ _ _) rfl tf_64_0 iL fR rfl) ?_
  refine sQ rfl (ms_load_box (a := .r (.int .i64 x4.Row)) rfl ts_3 iL rfl rfl) ?_
  refine sQ rfl (sp_fieldAddr_own (ob := .box _ _ _) rfl tf_64_0 iL fR rfl) ?_
  refine sQ rfl (ms_load_box (a := .r (.int .i64 x4.Row)) rfl ts_3 iL rfl rfl) ?_
  refine sQ rfl (sp_fieldAddr_own (ob := .box _ _ _) rfl tf_64_2 iL fR rfl) ?_
  refine sQ rfl (ms_load_box (a := .r (.int .i64 x4.H)) rfl ts_3 iL rfl rfl) ?_
  refine ob1k h4 fun x5 ex5 h5 => ?_
  refine sQ rfl (ms_add rfl iL iL (fun _ => ex5)) ?_
  refine ob1k h5 fun x6 ex6 h6 => ?_
  refine sQ rfl (ms_sub rfl iL iL (fun _ => ex6)) ?_
  refine ob1k h6 fun r1 er1 h7 => ?_
  refine AOps.step rfl rfl rfl (sp_call (r := .r (.bool r1)) (caps := []) (bs := [.r (.int .i64 row1), .r (.int .i64 x4.Row), .r (.int .i64 x6)]) rfl iL rfl ⟨⟨_, iL, .d rfl⟩, ⟨_, iL, .d rfl⟩, ⟨_, iL, .d rfl⟩, trivial⟩ (fun _ => w_ref_In (er1)) rfl) ?_
  refine sM rfl rfl ?_
  refine sV rfl rfl rfl (sp_move rfl iL) ?_
  refine sV rfl rfl rfl (sp_fieldAddr_own (ob := .box _ _ _) rfl tf_64_1 iL fR rfl) ?_
  refine sV rfl rfl rfl (ms_load_box (a := .r (.int .i64 x4.Col)) rfl ts_3 (iR rfl) rfl rfl) ?_
  refine sV rfl rfl rfl (sp_fieldAddr_own (ob := .box _ _ _) rfl tf_64_1 iL fR rfl) ?_
  refine sV rfl rfl rfl (ms_load_box (a := .r (.int .i64 x4.Col)) rfl ts_3 (iR rfl) rfl rfl) ?_
  refine sV rfl rfl rfl (sp_fieldAddr_own (ob := .box _ _ _) rfl tf_64_3 iL fR rfl) ?_
  refine sV rfl rfl rfl (ms_load_box (a := .r (.int .i64 x4.W)) rfl ts_3 (iR rfl) rfl rfl) ?_
  refine ob1k h7 fun x7 ex7 h8 => ?_
  refine sV rfl rfl rfl (ms_add rfl (iR rfl) (iR rfl) (gdt ex7)) ?_
  refine ob1k h8 fun x8 ex8 h9 => ?_
  refine sV rfl rfl rfl (ms_sub rfl (iR rfl) iL (gdt ex8)) ?_
  refine ob1k h9 fun r2 er2 h10 => ?_
  refine AOps.stepW (.one rfl rfl rfl) rfl rfl (sp_call (r := .r (.bool r2)) (caps := []) (bs := [.r (.int .i64 col1), .r (.int .i64 x4.Col), .r (.int .i64 x8)]) rfl iL rfl ⟨⟨_, (iR rfl), .d rfl⟩, ⟨_, (iR rfl), .d rfl⟩, ⟨_, (iR rfl), .d rfl⟩, trivial⟩ (fun hg => w_ref_In (gdt er2 hg)) rfl) ?_
  refine sQ rfl (sp_and rfl iL (iR rfl)) ?_
  refine AOps.nil (hK10 _ ?_)
  refine AW.cond rfl (fun hc2 => ?_) (fun hc2 => ?_)
  ·have h11 := ite_t hc2 h10
   refine AW.seq_w fun K11 hK11 wK11 => ?_
   refine AW.weak (s' := ⟨[(6, .ptr 6 (n0 + 1) 0 0), (8, .ptr 8 (i3 0) 0 0)], [(6, some (.box (n0 + 1) 64 [.r (.int .i64 0), .r (.int .i64 0), .r (.int .i64 0), .r (.int .i64 0)])), (8, some (.box (i3 0) 64 [.r (.int .i64 x4.Row), .r (.int .i64 x4.Col), .r (.int .i64 x4.H), .r (.int .i64 x4.W)]))], ((i3 0) + 1), 47⟩) (by exact Weak.cv ⟨jL, jL, trivial⟩ ⟨.inl rfl, .inl rfl, trivial⟩ nL) ?_
   refine AW.region ?_
   refine sQ rfl (ms_loadA_box rfl ta_64 iL rfl rfl) ?_
   refine AOps.step0 rfl rfl (ms_store_box (ds := [.r (.int .i64 x4.Row), .r (.int .i64 x4.Col), .r (.int .i64 x4.H), .r (.int .i64 x4.W)]) rfl tz_64 iL rfl iL rfl rfl rfl rfl) ?_
   refine AOps.nil (hK11 _ ?_)
   refine AW.ret ?_
   exact retf1 (P := Tryd.prog) (fun (r : GRect) => .agg [.r (.int .i64 r.Row), .r (.int .i64 r.Col), .r (.int .i64 r.H), .r (.int .i64 r.W)]) (he1 _ (hx1 _ (Option.some.inj h11).symm)) iL (.a ta_64 rfl rfl rfl (.g (cs := [.int .i64 x4.Row, .int .i64 x4.Col, .int .i64 x4.H, .int .i64 x4.W]) rfl rfl))
  ·have h11 := ite_f hc2 h10
   refine AW.skip ?_
   refine hK7 _ ?_
   refine AW.weak (s' := ⟨[(1, .r (.int .i64 row1)), (2, .r (.int .i64 col1)), (3, .ptr 3 n0 0 0), (6, .ptr 6 (n0 + 1) 0 0), (11, .r (.int .i64 (g1.Merges.length : Int))), (12, .r (.int .i64 x2))], [(3, some (.box n0 32 [.r (.int .i64 g1.Rows), .r (.int .i64 g1.Cols), .r (.sl (g1.Cells.map GCell.row)), .r (.sl (g1.Merges.map GRect.row))])), (6, some (.box (n0 + 1) 64 [.r (.int .i64 0), .r (.int .i64 0), .r (.int .i64 0), .r (.int .i64 0)]))], ((i3 0) + 1), 47⟩) (by exact Weak.cv ⟨jL, jL, jL, jL, jL, jL, trivial⟩ ⟨.inl rfl, .inl rfl, trivial⟩ nL) ?_
   refine AW.region ?_
   refine ob1k h11 fun x9 ex9 h12 => ?_
   refine sQ rfl (ms_add rfl iL iL (fun _ => ex9)) ?_
   refine sM rfl rfl ?_
   refine AOps.nil ?_
   exact NextQ1.mk h12 (vec [((i3 0) + 1)]) ((by exact Weak.cv ⟨jL, jL, jL, jL, jL, jL, trivial⟩ ⟨.inl rfl, .inl rfl, trivial⟩ nL))
 ·have h3 := ite_f hc1 h2
  refine AW.exit ?_
  exact wK2 _ _ ((by exact Weak.cv ⟨jL, jL, jL, trivial⟩ ⟨.inl rfl, trivial⟩ nL)) (J1 _ (vec [(i3 0)]) (hx1 _ (Option.some.inj h3).symm))
end Go.Proofs.YtfkolgjapajekaaDoor.Al
