/- Walks, as printed. -/
import Derived.Test.YtelkfhdgmbahgaaWlk200
import Derived.Test.YtelkfhdgmbahgaaProg
set_option linter.all false
set_option maxHeartbeats 4000000
set_option maxRecDepth 20000
set_option linter.unusedVariables false
namespace Go.Proofs.Ytelkfhdgmbahgaa.Al
open Go.Proofs
theorem Rh {a1 : AE} {b1 : AE} {r : Int} (h : Fp a1 b1 = some r) : Af Try.prog 46 [.agg [.r (.int .i64 a1.Item), .r (.int .i64 a1.Parent), .r (.str a1.Place), .r (.sl (a1.Attrs.map AG.row))], .agg [.r (.int .i64 b1.Item), .r (.int .i64 b1.Parent), .r (.str b1.Place), .r (.sl (b1.Attrs.map AG.row))]] (.r (.int .i64 r)) := by
  unfold Fp at h
  refine A6 Try.func46 rfl rfl Try.ntmps46 rfl (Nat.le_of_ble_eq_true rfl) fun n0 => ?_
  refine AH fun K1 hK1 wK1 => ?_
  refine AW.region ?_
  refine AB.step rfl rfl rfl (CU (cs := [.r (.int .i64 a1.Item), .r (.int .i64 a1.Parent), .r (.str a1.Place), .r (.sl (a1.Attrs.map AG.row))]) 2 rfl (.inl rfl) rfl rfl) ?_
  refine AB.step rfl rfl rfl (CU (cs := [.r (.int .i64 b1.Item), .r (.int .i64 b1.Parent), .r (.str b1.Place), .r (.sl (b1.Attrs.map AG.row))]) 3 rfl (.inl rfl) rfl rfl) ?_
  refine AB.step rfl rfl rfl (AD (AK rfl (.inl rfl)) _) ?_
  refine AB.nil ?_
  refine hK1 _ ?_
  refine AH fun K2 hK2 wK2 => ?_
  refine AU h fun r1 er1 h1 => ?_
  refine Fx 9 [⟨some 5, (fun _ => .ptr 2 n0 0 2), none, []⟩, ⟨some 6, (fun _ => .r (.str a1.Place)), none, []⟩, ⟨some 7, (fun _ => .ptr 3 (n0 + 1) 0 2), none, []⟩, ⟨some 8, (fun _ => .r (.str b1.Place)), none, []⟩, ⟨some 9, (fun _ => .r (.int .i64 r1)), none, []⟩, ⟨some 10, (fun _ => .ptr 2 n0 0 0), none, []⟩, ⟨some 11, (fun _ => .r (.int .i64 a1.Item)), none, []⟩, ⟨some 12, (fun _ => .ptr 3 (n0 + 1) 0 0), none, []⟩, ⟨some 13, (fun _ => .r (.int .i64 b1.Item)), none, []⟩] Bt (by kernel_rfl) (by exact ⟨fun _ _ h => ⟨rfl, fun _ _ e => by cases e⟩, fun _ _ h => ⟨rfl, fun _ _ e => by cases e⟩, fun _ _ h => ⟨rfl, fun _ _ e => by cases e⟩, fun _ _ h => ⟨rfl, fun _ _ e => by cases e⟩, fun _ _ h => ⟨rfl, fun _ _ e => by cases e⟩, fun _ _ h => ⟨rfl, fun _ _ e => by cases e⟩, fun _ _ h => ⟨rfl, fun _ _ e => by cases e⟩, fun _ _ h => ⟨rfl, fun _ _ e => by cases e⟩, fun _ _ h => ⟨rfl, fun _ _ e => by cases e⟩, trivial⟩) rfl (by exact ⟨Aq (n1 := fun n => n) rfl rfl (by intro d h; cases h; rfl) rfl (fun _ => [(2, .ptr 2 n0 0 0)]) (fun _ => [(2, some (.box n0 55 [.r (.int .i64 a1.Item), .r (.int .i64 a1.Parent), .r (.str a1.Place), .r (.sl (a1.Attrs.map AG.row))]))]) (fun D G1 hr => ⟨BK rfl rfl, trivial⟩) (fun D G1 hr => ⟨At rfl rfl, trivial⟩) (fun _ _ => rfl) (fun G1 e h' n => AD (v := .ptr 2 n0 0 2) (AX (ob := .box _ _ _) rfl Dm (.inl rfl) (fun _ => rfl) rfl) _),
      Aq (n1 := fun n => n) rfl rfl (by intro d h; cases h; rfl) rfl (fun _ => [(5, .ptr 2 n0 0 2)]) (fun _ => [(2, some (.box n0 55 [.r (.int .i64 a1.Item), .r (.int .i64 a1.Parent), .r (.str a1.Place), .r (.sl (a1.Attrs.map AG.row))]))]) (fun D G1 hr => ⟨Au hr 0 rfl rfl (by kernel_rfl) rfl rfl, trivial⟩) (fun D G1 hr => ⟨At rfl rfl, trivial⟩) (fun _ _ => rfl) (fun G1 e h' n => AD (v := .r (.str a1.Place)) (AR (a := .r (.str a1.Place)) rfl A4 (.inl rfl) rfl rfl) _),
      Aq (n1 := fun n => n) rfl rfl (by intro d h; cases h; rfl) rfl (fun _ => [(3, .ptr 3 (n0 + 1) 0 0)]) (fun _ => [(3, some (.box (n0 + 1) 55 [.r (.int .i64 b1.Item), .r (.int .i64 b1.Parent), .r (.str b1.Place), .r (.sl (b1.Attrs.map AG.row))]))]) (fun D G1 hr => ⟨BK rfl rfl, trivial⟩) (fun D G1 hr => ⟨At rfl rfl, trivial⟩) (fun _ _ => rfl) (fun G1 e h' n => AD (v := .ptr 3 (n0 + 1) 0 2) (AX (ob := .box _ _ _) rfl Dm (.inl rfl) (fun _ => rfl) rfl) _),
      Aq (n1 := fun n => n) rfl rfl (by intro d h; cases h; rfl) rfl (fun _ => [(7, .ptr 3 (n0 + 1) 0 2)]) (fun _ => [(3, some (.box (n0 + 1) 55 [.r (.int .i64 b1.Item), .r (.int .i64 b1.Parent), .r (.str b1.Place), .r (.sl (b1.Attrs.map AG.row))]))]) (fun D G1 hr => ⟨Au hr 2 rfl rfl (by kernel_rfl) rfl rfl, trivial⟩) (fun D G1 hr => ⟨At rfl rfl, trivial⟩) (fun _ _ => rfl) (fun G1 e h' n => AD (v := .r (.str b1.Place)) (AR (a := .r (.str b1.Place)) rfl A4 (.inl rfl) rfl rfl) _),
      Aq (n1 := fun n => n) rfl rfl (by intro d h; cases h; rfl) rfl (fun _ => [(6, .r (.str a1.Place)), (8, .r (.str b1.Place))]) (fun _ => []) (fun D G1 hr => ⟨Au hr 1 rfl rfl (by kernel_rfl) rfl rfl, Au hr 3 rfl rfl (by kernel_rfl) rfl rfl, trivial⟩) (fun D G1 hr => trivial) (fun _ _ => rfl) (fun G1 e h' n => A7 (r := .r (.int .i64 r1)) (caps := []) (bs := [.r (.str a1.Place), .r (.str b1.Place)]) rfl (.inl rfl) rfl ⟨⟨_, (.inl rfl), .d rfl⟩, ⟨_, (.inl rfl), .d rfl⟩, trivial⟩ (fun _ => Pj (er1)) rfl),
      Aq (n1 := fun n => n) rfl rfl (by intro d h; cases h; rfl) rfl (fun _ => [(2, .ptr 2 n0 0 0)]) (fun _ => [(2, some (.box n0 55 [.r (.int .i64 a1.Item), .r (.int .i64 a1.Parent), .r (.str a1.Place), .r (.sl (a1.Attrs.map AG.row))]))]) (fun D G1 hr => ⟨BK rfl rfl, trivial⟩) (fun D G1 hr => ⟨At rfl rfl, trivial⟩) (fun _ _ => rfl) (fun G1 e h' n => AD (v := .ptr 2 n0 0 0) (AX (ob := .box _ _ _) rfl Bf (.inl rfl) (fun _ => rfl) rfl) _),
      Aq (n1 := fun n => n) rfl rfl (by intro d h; cases h; rfl) rfl (fun _ => [(10, .ptr 2 n0 0 0)]) (fun _ => [(2, some (.box n0 55 [.r (.int .i64 a1.Item), .r (.int .i64 a1.Parent), .r (.str a1.Place), .r (.sl (a1.Attrs.map AG.row))]))]) (fun D G1 hr => ⟨Au hr 5 rfl rfl (by kernel_rfl) rfl rfl, trivial⟩) (fun D G1 hr => ⟨At rfl rfl, trivial⟩) (fun _ _ => rfl) (fun G1 e h' n => AD (v := .r (.int .i64 a1.Item)) (AR (a := .r (.int .i64 a1.Item)) rfl Ae (.inl rfl) rfl rfl) _),
      Aq (n1 := fun n => n) rfl rfl (by intro d h; cases h; rfl) rfl (fun _ => [(3, .ptr 3 (n0 + 1) 0 0)]) (fun _ => [(3, some (.box (n0 + 1) 55 [.r (.int .i64 b1.Item), .r (.int .i64 b1.Parent), .r (.str b1.Place), .r (.sl (b1.Attrs.map AG.row))]))]) (fun D G1 hr => ⟨BK rfl rfl, trivial⟩) (fun D G1 hr => ⟨At rfl rfl, trivial⟩) (fun _ _ => rfl) (fun G1 e h' n => AD (v := .ptr 3 (n0 + 1) 0 0) (AX (ob := .box _ _ _) rfl Bf (.inl rfl) (fun _ => rfl) rfl) _),
      Aq (n1 := fun n => n) rfl rfl (by intro d h; cases h; rfl) rfl (fun _ => [(12, .ptr 3 (n0 + 1) 0 0)]) (fun _ => [(3, some (.box (n0 + 1) 55 [.r (.int .i64 b1.Item), .r (.int .i64 b1.Parent), .r (.str b1.Place), .r (.sl (b1.Attrs.map AG.row))]))]) (fun D G1 hr => ⟨Au hr 7 rfl rfl (by kernel_rfl) rfl rfl, trivial⟩) (fun D G1 hr => ⟨At rfl rfl, trivial⟩) (fun _ _ => rfl) (fun G1 e h' n => AD (v := .r (.int .i64 b1.Item)) (AR (a := .r (.int .i64 b1.Item)) rfl Ae (.inl rfl) rfl rfl) _),
      trivial⟩) fun G1 n1 => ?_
  refine AB.weak (s' := ⟨[(0, .agg [.r (.int .i64 a1.Item), .r (.int .i64 a1.Parent), .r (.str a1.Place), .r (.sl (a1.Attrs.map AG.row))]), (1, .agg [.r (.int .i64 b1.Item), .r (.int .i64 b1.Parent), .r (.str b1.Place), .r (.sl (b1.Attrs.map AG.row))]), (2, .ptr 2 n0 0 0), (3, .ptr 3 (n0 + 1) 0 0), (4, .r (.int .i64 0)), (5, .ptr 2 n0 0 2), (6, .r (.str a1.Place)), (7, .ptr 3 (n0 + 1) 0 2), (8, .r (.str b1.Place)), (9, .r (.int .i64 r1)), (10, .ptr 2 n0 0 0), (11, .r (.int .i64 a1.Item)), (12, .ptr 3 (n0 + 1) 0 0), (13, .r (.int .i64 b1.Item))], [(2, some (.box n0 55 [.r (.int .i64 a1.Item), .r (.int .i64 a1.Parent), .r (.str a1.Place), .r (.sl (a1.Attrs.map AG.row))])), (3, some (.box (n0 + 1) 55 [.r (.int .i64 b1.Item), .r (.int .i64 b1.Parent), .r (.str b1.Place), .r (.sl (b1.Attrs.map AG.row))]))], n1, 17⟩) (by exact AL ⟨.inl (.inl rfl), .inl (.inl rfl), .inl (.inl rfl), .inl (.inl rfl), .inl (.inl rfl), .inl (.inl rfl), .inl (.inl rfl), .inl (.inl rfl), .inl (.inl rfl), .inl (.inl rfl), .inl (.inl rfl), .inl (.inl rfl), .inl (.inl rfl), .inl (.inl rfl), trivial⟩ ⟨.inl rfl, .inl rfl, trivial⟩ (Nat.le_refl _)) ?_
  refine AU h1 fun r2 er2 h2 => ?_
  refine AB.step rfl rfl rfl (A7 (r := .r (.int .i64 r2)) (caps := []) (bs := [.r (.int .i64 a1.Item), .r (.int .i64 b1.Item)]) rfl (.inl rfl) rfl ⟨⟨_, (.inl rfl), .d rfl⟩, ⟨_, (.inl rfl), .d rfl⟩, trivial⟩ (fun _ => Iw (er2)) rfl) ?_
  refine AB.step rfl rfl rfl (B3 15 rfl Ir (f := (F9 .i64)) (l := ([r1, r2] : List Int)) ⟨rfl, ⟨_, (.inl rfl), rfl⟩, rfl, ⟨_, (.inl rfl), rfl⟩, trivial⟩ rfl (fun _ => rfl) rfl) ?_
  refine AU h2 fun r3 er3 h3 => ?_
  refine AB.step rfl rfl rfl (A7 (r := .r (.int .i64 r3)) (caps := []) (bs := [.r (.sl ([r1, r2].map (F9 .i64)))]) rfl (.inl rfl) rfl ⟨⟨_, (.inl rfl), .one (.own rfl)⟩, trivial⟩ (fun _ => MW (er3)) rfl) ?_
  refine AB.step rfl rfl rfl (AD (AK rfl (.inl rfl)) _) ?_
  refine AB.nil ?_
  refine hK2 _ ?_
  refine AW.ret ?_
  exact Am (P := Try.prog) (fun (r : Int) => .r (.int .i64 r)) h3 (.inl rfl) (.t (.d rfl))
theorem RH {self : (List (Int × (List AE))) → (List AE) → (List (Int × Bool)) → Int → Option ((List (Int × (List AE))) × (List AE) × (List (Int × Bool)))} (hself : ∀ {m1 : List (Int × (List AE))} {c1 : List AE} {m2 : List (Int × Bool)} {parent1 : Int} {r : (List (Int × (List AE))) × (List AE) × (List (Int × Bool))} {gb1000 : Nat} {gb1001 : Nat} {gw1001 : Nat} {gb1002 : Nat} {ga1003 : Nat} {gb1004 : Nat} {gb1005 : Nat} {gb1006 : Nat}, self m1 c1 m2 parent1 = some r → BJ Try.prog 44 7 [.r (.int .i64 parent1), .ptr 1000 gb1000 0 0, .ptr 1002 gb1002 0 0, .ptr 1004 gb1004 0 0, .ptr 1006 gb1006 0 0] [(1000, some (.box gb1000 82 [.mref 1001 gb1001])), (1001, some (.mr gb1001 gw1001 55 4 none (AM (fun (l : List AE) => l.map AE.row) m1))), (1002, some (.box gb1002 24 [.own 1003 ga1003])), (1003, some (.arr ga1003 55 4 (c1.map AE.row))), (1004, some (.box gb1004 63 [.mref 1005 gb1005])), (1005, some (.md gb1005 (AM RV.bool m2))), (1006, some (.box gb1006 83 [.fn 44 [.ptr 1000 gb1000 0 0, .ptr 1002 gb1002 0 0, .ptr 1004 gb1004 0 0, .ptr 1006 gb1006 0 0]]))] (fun rr h' => ∃ (i : Nat → Nat), rr = .tup [] ∧ h' = [(1000, some (.box gb1000 82 [.mref 1001 gb1001])), (1001, some (.mr gb1001 gw1001 55 4 none (AM (fun (l : List AE) => l.map AE.row) r.1))), (1002, some (.box gb1002 24 [.own 1003 (i 0)])), (1003, some (.arr (i 0) 55 4 (r.2.1.map AE.row))), (1004, some (.box gb1004 63 [.mref 1005 gb1005])), (1005, some (.md gb1005 (AM RV.bool r.2.2))), (1006, some (.box gb1006 83 [.fn 44 [.ptr 1000 gb1000 0 0, .ptr 1002 gb1002 0 0, .ptr 1004 gb1004 0 0, .ptr 1006 gb1006 0 0]]))])) {m1 : List (Int × (List AE))} {c1 : List AE} {m2 : List (Int × Bool)} {parent1 : Int} {r : (List (Int × (List AE))) × (List AE) × (List (Int × Bool))} {gb1000 : Nat} {gb1001 : Nat} {gw1001 : Nat} {gb1002 : Nat} {ga1003 : Nat} {gb1004 : Nat} {gb1005 : Nat} {gb1006 : Nat} (h : Ew self m1 c1 m2 parent1 = some r) : BJ Try.prog 44 7 [.r (.int .i64 parent1), .ptr 1000 gb1000 0 0, .ptr 1002 gb1002 0 0, .ptr 1004 gb1004 0 0, .ptr 1006 gb1006 0 0] [(1000, some (.box gb1000 82 [.mref 1001 gb1001])), (1001, some (.mr gb1001 gw1001 55 4 none (AM (fun (l : List AE) => l.map AE.row) m1))), (1002, some (.box gb1002 24 [.own 1003 ga1003])), (1003, some (.arr ga1003 55 4 (c1.map AE.row))), (1004, some (.box gb1004 63 [.mref 1005 gb1005])), (1005, some (.md gb1005 (AM RV.bool m2))), (1006, some (.box gb1006 83 [.fn 44 [.ptr 1000 gb1000 0 0, .ptr 1002 gb1002 0 0, .ptr 1004 gb1004 0 0, .ptr 1006 gb1006 0 0]]))] (fun rr h' => ∃ (i : Nat → Nat), rr = .tup [] ∧ h' = [(1000, some (.box gb1000 82 [.mref 1001 gb1001])), (1001, some (.mr gb1001 gw1001 55 4 none (AM (fun (l : List AE) => l.map AE.row) r.1))), (1002, some (.box gb1002 24 [.own 1003 (i 0)])), (1003, some (.arr (i 0) 55 4 (r.2.1.map AE.row))), (1004, some (.box gb1004 63 [.mref 1005 gb1005])), (1005, some (.md gb1005 (AM RV.bool r.2.2))), (1006, some (.box gb1006 83 [.fn 44 [.ptr 1000 gb1000 0 0, .ptr 1002 gb1002 0 0, .ptr 1004 gb1004 0 0, .ptr 1006 gb1006 0 0]]))]) := by
  unfold Ew at h
  refine Gk Try.func44 rfl rfl Try.ntmps44 (Nat.le_of_ble_eq_true rfl) fun n0 => ?_
  refine AH fun K1 hK1 wK1 => ?_
  refine AW.region ?_
  refine AB.step rfl rfl rfl (AD (AR (a := .mref 1001 gb1001) rfl D1 (.inl rfl) rfl rfl) _) ?_
  refine AB.step rfl rfl rfl (AD (AI rfl (.inl rfl)) _) ?_
  refine AB.step rfl rfl rfl (AD (Je rfl Try.underlying82 Try.underlying3 (En Gx) (.inl rfl) (.inl rfl) rfl) _) ?_
  refine AU h fun w1 ew1 h1 => ?_
  refine Ds [1001] (hc := [(1000, some (.mr gb1001 gw1001 55 4 none (AM (fun (l : List AE) => l.map AE.row) m1)))]) (bs := [.fo 1000 gb1001 gw1001 parent1, .fn 46 []]) (caps := []) rfl rfl rfl rfl (.inl rfl) rfl ⟨.inl ⟨(.inl rfl), rfl⟩, .inl ⟨(.inl rfl), rfl⟩, trivial⟩ ⟨rfl, rfl, rfl, trivial⟩ (by decide) ((Si (row := AE.row) Ml (by decide) (fun _ => rfl) ⟨_, Try.func46, rfl, rfl⟩ (fun _ _ _ h => Rh h)) ew1) ?_
  intro i1 n1
  refine AB.weak (s' := ⟨[(0, .r (.int .i64 parent1)), (1, .ptr 1000 gb1000 0 0), (2, .ptr 1002 gb1002 0 0), (3, .ptr 1004 gb1004 0 0), (4, .ptr 1006 gb1006 0 0), (8, .mref 1001 gb1001), (9, .r (.int .i64 parent1)), (10, .fo 1001 gb1001 gw1001 parent1), (11, .tup [])], [(1000, some (.box gb1000 82 [.mref 1001 gb1001])), (1001, some (.mr gb1001 gw1001 55 4 none (AM (fun (l : List AE) => l.map AE.row) w1))), (1002, some (.box gb1002 24 [.own 1003 ga1003])), (1003, some (.arr ga1003 55 4 (c1.map AE.row))), (1004, some (.box gb1004 63 [.mref 1005 gb1005])), (1005, some (.md gb1005 (AM RV.bool m2))), (1006, some (.box gb1006 83 [.fn 44 [.ptr 1000 gb1000 0 0, .ptr 1002 gb1002 0 0, .ptr 1004 gb1004 0 0, .ptr 1006 gb1006 0 0]]))], n1, 32⟩) (by exact AL ⟨.inl (.inl rfl), .inl (.inl rfl), .inl (.inl rfl), .inl (.inl rfl), .inl (.inl rfl), .inl (.inl rfl), .inl (.inl rfl), .inl (.inl rfl), .inl (.inl rfl), trivial⟩ ⟨.inl rfl, .inl rfl, .inl rfl, .inl rfl, .inl rfl, .inl rfl, .inl rfl, trivial⟩ (Nat.le_refl _)) ?_
  refine AB.nil ?_
  refine hK1 _ ?_
  refine AH fun K2 hK2 wK2 => ?_
  refine AW.region ?_
  refine AB.step rfl rfl rfl (AD (AR (a := .mref 1001 gb1001) rfl D1 (.inl rfl) rfl rfl) _) ?_
  refine AB.step rfl rfl rfl (AD (AI rfl (.inl rfl)) _) ?_
  refine AB.step rfl rfl rfl (AD (Je rfl Try.underlying82 Try.underlying3 (En Gx) (.inl rfl) (.inl rfl) rfl) _) ?_
  refine AB.step rfl rfl rfl (AD (Rd rfl Ao.slice (.inl rfl) rfl) _) ?_
  refine AB.step rfl rfl rfl (AD (AI rfl (.inl rfl)) _) ?_
  refine AB.nil ?_
  refine hK2 _ ?_
  refine AW.block ?_
  refine B5 h1 fun o4 hit1 hk1 he1 => ?_
  refine Sq (fun (x2 : Int) (o2 : List AE) (m5 : List (Int × (List AE))) (m6 : List (Int × Bool)) i4 => ⟨[(2, .ptr 1002 gb1002 0 0), (3, .ptr 1004 gb1004 0 0), (4, .ptr 1006 gb1006 0 0), (14, .fo 1001 gb1001 gw1001 parent1), (15, .r (.int .i64 (((AN w1 parent1).getD []).length : Int))), (16, .r (.int .i64 x2))], [(1000, some (.box gb1000 82 [.mref 1001 gb1001])), (1001, some (.mr gb1001 gw1001 55 4 none (AM (fun (l : List AE) => l.map AE.row) m5))), (1002, some (.box gb1002 24 [.own 1003 (i4 0)])), (1003, some (.arr (i4 0) 55 4 (o2.map AE.row))), (1004, some (.box gb1004 63 [.mref 1005 gb1005])), (1005, some (.md gb1005 (AM RV.bool m6))), (1006, some (.box gb1006 83 [.fn 44 [.ptr 1000 gb1000 0 0, .ptr 1002 gb1002 0 0, .ptr 1004 gb1004 0 0, .ptr 1006 gb1006 0 0]]))], (i4 1), 32⟩) (Ab [ga1003, n1]) hit1 ((by exact AL ⟨.inl (.inl rfl), .inl (.inl rfl), .inl (.inl rfl), .inl (.inl rfl), .inl (.inl rfl), .inl (.inl rfl), trivial⟩ ⟨.inl rfl, .inl rfl, .inl rfl, .inl rfl, .inl rfl, .inl rfl, .inl rfl, trivial⟩ (Nat.le_refl _))) ?_
  intro x2 o2 m5 m6 i4 v1 hv1 hx1
  have h2 : DP parent1 self w1 x2 o2 m5 m6 = some v1 := hv1; unfold DP at h2
  refine AH fun K3 hK3 wK3 => ?_
  refine AW.region ?_
  refine AB.step rfl rfl rfl (AD (Ar rfl (.inl rfl) (.inl rfl)) _) ?_
  refine AB.nil ?_
  refine hK3 _ ?_
  refine AH fun K4 hK4 wK4 => ?_
  refine AW.cond rfl (fun hc1 => ?_) (fun hc1 => ?_)
  · have h3 := Ag hc1 h2
    refine AW.skip ?_
    refine hK4 _ ?_
    refine AH fun K5 hK5 wK5 => ?_
    refine AW.block ?_
    refine AH fun K6 hK6 wK6 => ?_
    refine AW.region ?_
    refine AU h3 fun x4 ex4 h4 => ?_
    refine AB.step rfl rfl rfl (AD (Rg (f := AE.row) rfl Ao.slice (.inl rfl) rfl (.inl rfl) (fun _ => ex4)) _) ?_
    refine AB.step rfl rfl rfl (AD (PP (f := AE.row) (cs := [.r (.int .i64 x4.Item), .r (.int .i64 x4.Parent), .r (.str x4.Place), .r (.sl (x4.Attrs.map AG.row))]) rfl CL (.inl rfl) rfl (fun _ => ex4) rfl) _) ?_
    refine AB.step rfl rfl rfl (Bs (cs := [.r (.int .i64 0), .r (.int .i64 0), .r (.str []), .cst (.slice none 0 0)]) 7 rfl Fe rfl rfl) ?_
    refine BG rfl rfl (Ba (ds := [.r (.int .i64 x4.Item), .r (.int .i64 x4.Parent), .r (.str x4.Place), .r (.sl (x4.Attrs.map AG.row))]) rfl E6 (.inl rfl) rfl (.inl rfl) rfl rfl rfl rfl) ?_
    refine AB.nil ?_
    refine hK6 _ ?_
    refine AH fun K7 hK7 wK7 => ?_
    refine AU h4 fun l1 el1 h5 => ?_
    refine Fx 8 [⟨some 20, (fun _ => .mref 1005 gb1005), none, []⟩, ⟨some 21, (fun _ => .ptr 7 (i4 1) 0 0), none, []⟩, ⟨some 22, (fun _ => .r (.int .i64 x4.Item)), none, []⟩, ⟨some 23, (fun _ => .own 1003 (i4 0)), none, []⟩, ⟨some 24, (fun _ => .agg [.r (.int .i64 x4.Item), .r (.int .i64 x4.Parent), .r (.str x4.Place), .r (.sl (x4.Attrs.map AG.row))]), none, []⟩, ⟨some 25, (fun G1 => .own 25 (G1 5)), some (25, (fun G1 => some (.arr (G1 5) 55 4 ([x4].map AE.row)))), [5]⟩, ⟨some 26, (fun G1 => .own 1003 (G1 6)), some (1003, (fun G1 => some (.arr (G1 6) 55 4 (l1.map AE.row)))), [6]⟩, ⟨none, (fun _ => .any), some (1002, (fun G1 => some (.box gb1002 24 [.own 1003 (G1 6)]))), [6]⟩] Bt (by kernel_rfl) (by exact ⟨fun _ _ h => ⟨rfl, fun _ _ e => by cases e⟩, fun _ _ h => ⟨rfl, fun _ _ e => by cases e⟩, fun _ _ h => ⟨rfl, fun _ _ e => by cases e⟩, fun _ _ h => ⟨rfl, fun _ _ e => by cases e⟩, fun _ _ h => ⟨rfl, fun _ _ e => by cases e⟩, fun _ _ h => ⟨by simp only [h 5 rfl], fun _ _ e => by cases e; simp only [h 5 rfl]⟩, fun _ _ h => ⟨by simp only [h 6 rfl], fun _ _ e => by cases e; simp only [h 6 rfl]⟩, fun _ _ h => ⟨rfl, fun _ _ e => by cases e; simp only [h 6 rfl]⟩, trivial⟩) rfl (by exact ⟨Aq (n1 := fun n => n) rfl rfl (by intro d h; cases h; rfl) rfl (fun _ => [(3, .ptr 1004 gb1004 0 0)]) (fun _ => [(1004, some (.box gb1004 63 [.mref 1005 gb1005]))]) (fun D G1 hr => ⟨BK rfl rfl, trivial⟩) (fun D G1 hr => ⟨At rfl rfl, trivial⟩) (fun _ _ => rfl) (fun G1 e h' n => AD (v := .mref 1005 gb1005) (AR (a := .mref 1005 gb1005) rfl IL (.inl rfl) rfl rfl) _),
        Aq (n1 := fun n => n) rfl rfl (by intro d h; cases h; rfl) rfl (fun _ => [(7, .ptr 7 (i4 1) 0 0)]) (fun _ => [(7, some (.box (i4 1) 55 [.r (.int .i64 x4.Item), .r (.int .i64 x4.Parent), .r (.str x4.Place), .r (.sl (x4.Attrs.map AG.row))]))]) (fun D G1 hr => ⟨BK rfl rfl, trivial⟩) (fun D G1 hr => ⟨At rfl rfl, trivial⟩) (fun _ _ => rfl) (fun G1 e h' n => AD (v := .ptr 7 (i4 1) 0 0) (AX (ob := .box _ _ _) rfl Bf (.inl rfl) (fun _ => rfl) rfl) _),
        Aq (n1 := fun n => n) rfl rfl (by intro d h; cases h; rfl) rfl (fun _ => [(21, .ptr 7 (i4 1) 0 0)]) (fun _ => [(7, some (.box (i4 1) 55 [.r (.int .i64 x4.Item), .r (.int .i64 x4.Parent), .r (.str x4.Place), .r (.sl (x4.Attrs.map AG.row))]))]) (fun D G1 hr => ⟨Au hr 1 rfl rfl (by kernel_rfl) rfl rfl, trivial⟩) (fun D G1 hr => ⟨At rfl rfl, trivial⟩) (fun _ _ => rfl) (fun G1 e h' n => AD (v := .r (.int .i64 x4.Item)) (AR (a := .r (.int .i64 x4.Item)) rfl Ae (.inl rfl) rfl rfl) _),
        Aq (n1 := fun n => n) rfl rfl (by intro d h; cases h; rfl) rfl (fun _ => [(2, .ptr 1002 gb1002 0 0)]) (fun _ => [(1002, some (.box gb1002 24 [.own 1003 (i4 0)]))]) (fun D G1 hr => ⟨BK rfl rfl, trivial⟩) (fun D G1 hr => ⟨Fs hr (by kernel_rfl) rfl, trivial⟩) (fun _ _ => rfl) (fun G1 e h' n => AD (v := .own 1003 (i4 0)) (AR (a := .own 1003 (i4 0)) rfl H3 (.inl rfl) rfl rfl) _),
        Aq (n1 := fun n => n) rfl rfl (by intro d h; cases h; rfl) rfl (fun _ => [(7, .ptr 7 (i4 1) 0 0)]) (fun _ => [(7, some (.box (i4 1) 55 [.r (.int .i64 x4.Item), .r (.int .i64 x4.Parent), .r (.str x4.Place), .r (.sl (x4.Attrs.map AG.row))]))]) (fun D G1 hr => ⟨BK rfl rfl, trivial⟩) (fun D G1 hr => ⟨At rfl rfl, trivial⟩) (fun _ _ => rfl) (fun G1 e h' n => AD (v := .agg [.r (.int .i64 x4.Item), .r (.int .i64 x4.Parent), .r (.str x4.Place), .r (.sl (x4.Attrs.map AG.row))]) (C7 rfl CL (.inl rfl) rfl rfl) _),
        ED (n1 := fun n => n + 1) rfl rfl (by intro d h; cases h; rfl) rfl (fun _ => [(24, .agg [.r (.int .i64 x4.Item), .r (.int .i64 x4.Parent), .r (.str x4.Place), .r (.sl (x4.Attrs.map AG.row))])]) (fun _ => []) (fun D G1 hr => ⟨Au hr 4 rfl rfl (by kernel_rfl) rfl rfl, trivial⟩) (fun D G1 hr => trivial) (fun G1 e h' n => B3 25 rfl Ao (f := AE.row) (l := ([x4] : List AE)) ⟨rfl, ⟨_, (.inl rfl), rfl⟩, trivial⟩ rfl (fun _ => rfl) rfl),
        ED (n1 := fun n => n + 1) rfl rfl (by intro d h; cases h; rfl) rfl (fun G1 => [(23, .own 1003 (i4 0)), (25, .own 25 (G1 5))]) (fun G1 => [(25, some (.arr (G1 5) 55 4 ([x4].map AE.row))), (1003, some (.arr (i4 0) 55 4 (o2.map AE.row)))]) (fun D G1 hr => ⟨Au hr 3 rfl rfl (by kernel_rfl) rfl rfl, Au hr 5 rfl rfl (by kernel_rfl) rfl rfl, trivial⟩) (fun D G1 hr => ⟨F5 hr 5 rfl rfl (by kernel_rfl) (by kernel_rfl) rfl, Fs hr (by kernel_rfl) rfl, trivial⟩) (fun G1 e h' n => DE rfl Ao (.inl rfl) rfl (.inr (.inl ⟨_, _, (.inl rfl), rfl⟩)) el1),
        ED (n1 := fun n => n) rfl rfl (by intro d h; cases h) rfl (fun G1 => [(2, .ptr 1002 gb1002 0 0), (26, .own 1003 (G1 6))]) (fun G1 => [(1002, some (.box gb1002 24 [.own 1003 (i4 0)])), (1003, some (.arr (G1 6) 55 4 (l1.map AE.row)))]) (fun D G1 hr => ⟨BK rfl rfl, Au hr 6 rfl rfl (by kernel_rfl) rfl rfl, trivial⟩) (fun D G1 hr => ⟨Fs hr (by kernel_rfl) rfl, F5 hr 6 rfl rfl (by kernel_rfl) (by kernel_rfl) rfl, trivial⟩) (fun G1 e h' n => Ba (ds := [.own 1003 (G1 6)]) rfl Ke (.inl rfl) rfl (.inl rfl) rfl rfl rfl rfl),
        trivial⟩) fun G1 n2 => ?_
    refine AB.weak (s' := ⟨[(2, .ptr 1002 gb1002 0 0), (3, .ptr 1004 gb1004 0 0), (4, .ptr 1006 gb1006 0 0), (7, .ptr 7 (i4 1) 0 0), (14, .fo 1001 gb1001 gw1001 parent1), (15, .r (.int .i64 (((AN w1 parent1).getD []).length : Int))), (16, .r (.int .i64 x2)), (17, .r (.bool (decide (x2 < (((AN w1 parent1).getD []).length : Int))))), (18, .pk 1001 gb1001 gw1001 (Ac m5 parent1) (x2.toNat * 4)), (19, .agg [.r (.int .i64 x4.Item), .r (.int .i64 x4.Parent), .r (.str x4.Place), .r (.sl (x4.Attrs.map AG.row))]), (20, .mref 1005 gb1005), (21, .ptr 7 (i4 1) 0 0), (22, .r (.int .i64 x4.Item)), (24, .agg [.r (.int .i64 x4.Item), .r (.int .i64 x4.Parent), .r (.str x4.Place), .r (.sl (x4.Attrs.map AG.row))]), (25, .own 25 (G1 5)), (26, .own 1003 (G1 6))], [(7, some (.box (i4 1) 55 [.r (.int .i64 x4.Item), .r (.int .i64 x4.Parent), .r (.str x4.Place), .r (.sl (x4.Attrs.map AG.row))])), (25, some (.arr (G1 5) 55 4 ([x4].map AE.row))), (1000, some (.box gb1000 82 [.mref 1001 gb1001])), (1001, some (.mr gb1001 gw1001 55 4 none (AM (fun (l : List AE) => l.map AE.row) m5))), (1002, some (.box gb1002 24 [.own 1003 (G1 6)])), (1003, some (.arr (G1 6) 55 4 (l1.map AE.row))), (1004, some (.box gb1004 63 [.mref 1005 gb1005])), (1005, some (.md gb1005 (AM RV.bool m6))), (1006, some (.box gb1006 83 [.fn 44 [.ptr 1000 gb1000 0 0, .ptr 1002 gb1002 0 0, .ptr 1004 gb1004 0 0, .ptr 1006 gb1006 0 0]]))], n2, 32⟩) (by exact AL ⟨.inl (.inl rfl), .inl (.inl rfl), .inl (.inl rfl), .inl (.inl rfl), .inl (.inl rfl), .inl (.inl rfl), .inl (.inl rfl), .inl (.inl rfl), .inl (.inl rfl), .inl (.inl rfl), .inl (.inl rfl), .inl (.inl rfl), .inl (.inl rfl), .inl (.inl rfl), .inl (.inl rfl), .inl (.inl rfl), trivial⟩ ⟨.inl rfl, .inl rfl, .inl rfl, .inl rfl, .inl rfl, .inl rfl, .inl rfl, .inl rfl, .inl rfl, trivial⟩ (Nat.le_refl _)) ?_
    refine BG rfl rfl (If (rd := RV.bool) (a := true) (.inl rfl) Try.underlying63 Try.underlying3 (.inl rfl) (.inl rfl) (.inl rfl) rfl) ?_
    refine AB.nil ?_
    refine hK7 _ ?_
    refine AW.weak (s' := ⟨[(2, .ptr 1002 gb1002 0 0), (3, .ptr 1004 gb1004 0 0), (4, .ptr 1006 gb1006 0 0), (7, .ptr 7 (i4 1) 0 0), (14, .fo 1001 gb1001 gw1001 parent1), (15, .r (.int .i64 (((AN w1 parent1).getD []).length : Int))), (16, .r (.int .i64 x2))], [(7, some (.box (i4 1) 55 [.r (.int .i64 x4.Item), .r (.int .i64 x4.Parent), .r (.str x4.Place), .r (.sl (x4.Attrs.map AG.row))])), (1000, some (.box gb1000 82 [.mref 1001 gb1001])), (1001, some (.mr gb1001 gw1001 55 4 none (AM (fun (l : List AE) => l.map AE.row) m5))), (1002, some (.box gb1002 24 [.own 1003 (G1 6)])), (1003, some (.arr (G1 6) 55 4 (l1.map AE.row))), (1004, some (.box gb1004 63 [.mref 1005 gb1005])), (1005, some (.md gb1005 (AM RV.bool (Ai m6 x4.Item true)))), (1006, some (.box gb1006 83 [.fn 44 [.ptr 1000 gb1000 0 0, .ptr 1002 gb1002 0 0, .ptr 1004 gb1004 0 0, .ptr 1006 gb1006 0 0]]))], n2, 32⟩) (by exact AL ⟨.inl (.inl rfl), .inl (.inl rfl), .inl (.inl rfl), .inl (.inl rfl), .inl (.inl rfl), .inl (.inl rfl), .inl (.inl rfl), trivial⟩ ⟨.inl rfl, .inl rfl, .inl rfl, .inl rfl, .inl rfl, .inl rfl, .inl rfl, .inl rfl, trivial⟩ (Nat.le_refl _)) ?_
    refine AW.region ?_
    refine AB.step rfl rfl rfl (AD (AR (a := .fn 44 [.ptr 1000 gb1000 0 0, .ptr 1002 gb1002 0 0, .ptr 1004 gb1004 0 0, .ptr 1006 gb1006 0 0]) rfl Ig (.inl rfl) rfl rfl) _) ?_
    refine AB.step rfl rfl rfl (AD (AX (ob := .box _ _ _) rfl Bf (.inl rfl) (fun _ => rfl) rfl) _) ?_
    refine AB.step rfl rfl rfl (AD (AR (a := .r (.int .i64 x4.Item)) rfl Ae (.inl rfl) rfl rfl) _) ?_
    refine MM h5 fun w2 w3 w4 ew2 h6 => ?_
    refine Ds [1000, 1001, 1002, 1003, 1004, 1005, 1006] (hc := [(1000, some (.box gb1000 82 [.mref 1001 gb1001])), (1001, some (.mr gb1001 gw1001 55 4 none (AM (fun (l : List AE) => l.map AE.row) m5))), (1002, some (.box gb1002 24 [.own 1003 (G1 6)])), (1003, some (.arr (G1 6) 55 4 (l1.map AE.row))), (1004, some (.box gb1004 63 [.mref 1005 gb1005])), (1005, some (.md gb1005 (AM RV.bool (Ai m6 x4.Item true)))), (1006, some (.box gb1006 83 [.fn 44 [.ptr 1000 gb1000 0 0, .ptr 1002 gb1002 0 0, .ptr 1004 gb1004 0 0, .ptr 1006 gb1006 0 0]]))]) (bs := [.r (.int .i64 x4.Item)]) (caps := [.ptr 1000 gb1000 0 0, .ptr 1002 gb1002 0 0, .ptr 1004 gb1004 0 0, .ptr 1006 gb1006 0 0]) rfl rfl rfl rfl (.inl rfl) rfl ⟨.inl ⟨(.inl rfl), rfl⟩, trivial⟩ ⟨rfl, rfl, rfl, rfl, rfl, rfl, rfl, rfl, rfl, rfl, rfl, rfl, rfl, rfl, rfl, rfl, rfl, rfl, rfl, rfl, rfl, trivial⟩ (by decide) (hself ew2) ?_
    intro i6 n3
    refine AB.weak (s' := ⟨[(2, .ptr 1002 gb1002 0 0), (3, .ptr 1004 gb1004 0 0), (4, .ptr 1006 gb1006 0 0), (7, .ptr 7 (i4 1) 0 0), (14, .fo 1001 gb1001 gw1001 parent1), (15, .r (.int .i64 (((AN w1 parent1).getD []).length : Int))), (16, .r (.int .i64 x2)), (27, .fn 44 [.ptr 1000 gb1000 0 0, .ptr 1002 gb1002 0 0, .ptr 1004 gb1004 0 0, .ptr 1006 gb1006 0 0]), (28, .ptr 7 (i4 1) 0 0), (29, .r (.int .i64 x4.Item)), (30, .tup [])], [(7, some (.box (i4 1) 55 [.r (.int .i64 x4.Item), .r (.int .i64 x4.Parent), .r (.str x4.Place), .r (.sl (x4.Attrs.map AG.row))])), (1000, some (.box gb1000 82 [.mref 1001 gb1001])), (1001, some (.mr gb1001 gw1001 55 4 none (AM (fun (l : List AE) => l.map AE.row) w2))), (1002, some (.box gb1002 24 [.own 1003 (i6 0)])), (1003, some (.arr (i6 0) 55 4 (w3.map AE.row))), (1004, some (.box gb1004 63 [.mref 1005 gb1005])), (1005, some (.md gb1005 (AM RV.bool w4))), (1006, some (.box gb1006 83 [.fn 44 [.ptr 1000 gb1000 0 0, .ptr 1002 gb1002 0 0, .ptr 1004 gb1004 0 0, .ptr 1006 gb1006 0 0]]))], n3, 32⟩) (by exact AL ⟨.inl (.inl rfl), .inl (.inl rfl), .inl (.inl rfl), .inl (.inl rfl), .inl (.inl rfl), .inl (.inl rfl), .inl (.inl rfl), .inl (.inl rfl), .inl (.inl rfl), .inl (.inl rfl), .inl (.inl rfl), trivial⟩ ⟨.inl rfl, .inl rfl, .inl rfl, .inl rfl, .inl rfl, .inl rfl, .inl rfl, .inl rfl, trivial⟩ (Nat.le_refl _)) ?_
    refine AB.nil ?_
    refine hK5 _ ?_
    refine AW.region ?_
    refine AU h6 fun x5 ex5 h7 => ?_
    refine AB.step rfl rfl rfl (AD (BC rfl (.inl rfl) (.inl rfl) (fun _ => ex5)) _) ?_
    refine AB.step rfl rfl rfl (AD (AI rfl (.inl rfl)) _) ?_
    refine AB.nil ?_
    exact JG.mk h7 (Ab [(i6 0), n3]) ((by exact AL ⟨.inl (.inl rfl), .inl (.inl rfl), .inl (.inl rfl), .inl (.inl rfl), .inl (.inl rfl), .inl (.inl rfl), trivial⟩ ⟨.inl rfl, .inl rfl, .inl rfl, .inl rfl, .inl rfl, .inl rfl, .inl rfl, trivial⟩ (Nat.le_refl _)))
  · have h3 := Ah hc1 h2
    refine AW.exit ?_
    exact Cy.mk (s' := ⟨[], [(1000, some (.box gb1000 82 [.mref 1001 gb1001])), (1001, some (.mr gb1001 gw1001 55 4 none (AM (fun (l : List AE) => l.map AE.row) m5))), (1002, some (.box gb1002 24 [.own 1003 (i4 0)])), (1003, some (.arr (i4 0) 55 4 (o2.map AE.row))), (1004, some (.box gb1004 63 [.mref 1005 gb1005])), (1005, some (.md gb1005 (AM RV.bool m6))), (1006, some (.box gb1006 83 [.fn 44 [.ptr 1000 gb1000 0 0, .ptr 1002 gb1002 0 0, .ptr 1004 gb1004 0 0, .ptr 1006 gb1006 0 0]]))], (i4 1), 32⟩) ((by exact AL trivial ⟨.inl rfl, .inl rfl, .inl rfl, .inl rfl, .inl rfl, .inl rfl, .inl rfl, trivial⟩ (Nat.le_refl _))) (D5 (fun (r : (List (Int × (List AE))) × (List AE) × (List (Int × Bool))) rr h' => ∃ (i : Nat → Nat), rr = .tup [] ∧ h' = [(1000, some (.box gb1000 82 [.mref 1001 gb1001])), (1001, some (.mr gb1001 gw1001 55 4 none (AM (fun (l : List AE) => l.map AE.row) r.1))), (1002, some (.box gb1002 24 [.own 1003 (i 0)])), (1003, some (.arr (i 0) 55 4 (r.2.1.map AE.row))), (1004, some (.box gb1004 63 [.mref 1005 gb1005])), (1005, some (.md gb1005 (AM RV.bool r.2.2))), (1006, some (.box gb1006 83 [.fn 44 [.ptr 1000 gb1000 0 0, .ptr 1002 gb1002 0 0, .ptr 1004 gb1004 0 0, .ptr 1006 gb1006 0 0]]))]) (he1 _ (hx1 _ (Option.some.inj h3).symm)) (by exact ⟨.tup [], [(1000, some (.box gb1000 82 [.mref 1001 gb1001])), (1001, some (.mr gb1001 gw1001 55 4 none (AM (fun (l : List AE) => l.map AE.row) m5))), (1002, some (.box gb1002 24 [.own 1003 (i4 0)])), (1003, some (.arr (i4 0) 55 4 (o2.map AE.row))), (1004, some (.box gb1004 63 [.mref 1005 gb1005])), (1005, some (.md gb1005 (AM RV.bool m6))), (1006, some (.box gb1006 83 [.fn 44 [.ptr 1000 gb1000 0 0, .ptr 1002 gb1002 0 0, .ptr 1004 gb1004 0 0, .ptr 1006 gb1006 0 0]]))], ⟨_, rfl, trivial⟩, ⟨.inr rfl, .inr rfl, .inr rfl, .inr rfl, .inr rfl, .inr rfl, .inr rfl, trivial⟩, rfl, rfl, Ab [(i4 0)], rfl, rfl⟩))
theorem Qx (n : Nat) : ∀ {m1 : List (Int × (List AE))} {c1 : List AE} {m2 : List (Int × Bool)} {parent1 : Int} {r : (List (Int × (List AE))) × (List AE) × (List (Int × Bool))} {gb1000 : Nat} {gb1001 : Nat} {gw1001 : Nat} {gb1002 : Nat} {ga1003 : Nat} {gb1004 : Nat} {gb1005 : Nat} {gb1006 : Nat}, B1 n m1 c1 m2 parent1 = some r → BJ Try.prog 44 7 [.r (.int .i64 parent1), .ptr 1000 gb1000 0 0, .ptr 1002 gb1002 0 0, .ptr 1004 gb1004 0 0, .ptr 1006 gb1006 0 0] [(1000, some (.box gb1000 82 [.mref 1001 gb1001])), (1001, some (.mr gb1001 gw1001 55 4 none (AM (fun (l : List AE) => l.map AE.row) m1))), (1002, some (.box gb1002 24 [.own 1003 ga1003])), (1003, some (.arr ga1003 55 4 (c1.map AE.row))), (1004, some (.box gb1004 63 [.mref 1005 gb1005])), (1005, some (.md gb1005 (AM RV.bool m2))), (1006, some (.box gb1006 83 [.fn 44 [.ptr 1000 gb1000 0 0, .ptr 1002 gb1002 0 0, .ptr 1004 gb1004 0 0, .ptr 1006 gb1006 0 0]]))] (fun rr h' => ∃ (i : Nat → Nat), rr = .tup [] ∧ h' = [(1000, some (.box gb1000 82 [.mref 1001 gb1001])), (1001, some (.mr gb1001 gw1001 55 4 none (AM (fun (l : List AE) => l.map AE.row) r.1))), (1002, some (.box gb1002 24 [.own 1003 (i 0)])), (1003, some (.arr (i 0) 55 4 (r.2.1.map AE.row))), (1004, some (.box gb1004 63 [.mref 1005 gb1005])), (1005, some (.md gb1005 (AM RV.bool r.2.2))), (1006, some (.box gb1006 83 [.fn 44 [.ptr 1000 gb1000 0 0, .ptr 1002 gb1002 0 0, .ptr 1004 gb1004 0 0, .ptr 1006 gb1006 0 0]]))]) := by
  induction n with
  | zero => intro m1 c1 m2 parent1 r gb1000 gb1001 gw1001 gb1002 ga1003 gb1004 gb1005 gb1006 h; exact absurd (show (none : Option ((List (Int × (List AE))) × (List AE) × (List (Int × Bool)))) = some r from h) (by simp)
  | succ n ih => intro m1 c1 m2 parent1 r gb1000 gb1001 gw1001 gb1002 ga1003 gb1004 gb1005 gb1006 h; exact RH (self := fun m1 c1 m2 parent1 => B1 n m1 c1 m2 parent1) (fun h2 => ih h2) h
theorem O1 {m1 : List (Int × (List AE))} {c1 : List AE} {m2 : List (Int × Bool)} {parent1 : Int} {r : (List (Int × (List AE))) × (List AE) × (List (Int × Bool))} {gb1000 : Nat} {gb1001 : Nat} {gw1001 : Nat} {gb1002 : Nat} {ga1003 : Nat} {gb1004 : Nat} {gb1005 : Nat} {gb1006 : Nat} (h : HH m1 c1 m2 parent1 = some r) : BJ Try.prog 44 7 [.r (.int .i64 parent1), .ptr 1000 gb1000 0 0, .ptr 1002 gb1002 0 0, .ptr 1004 gb1004 0 0, .ptr 1006 gb1006 0 0] [(1000, some (.box gb1000 82 [.mref 1001 gb1001])), (1001, some (.mr gb1001 gw1001 55 4 none (AM (fun (l : List AE) => l.map AE.row) m1))), (1002, some (.box gb1002 24 [.own 1003 ga1003])), (1003, some (.arr ga1003 55 4 (c1.map AE.row))), (1004, some (.box gb1004 63 [.mref 1005 gb1005])), (1005, some (.md gb1005 (AM RV.bool m2))), (1006, some (.box gb1006 83 [.fn 44 [.ptr 1000 gb1000 0 0, .ptr 1002 gb1002 0 0, .ptr 1004 gb1004 0 0, .ptr 1006 gb1006 0 0]]))] (fun rr h' => ∃ (i : Nat → Nat), rr = .tup [] ∧ h' = [(1000, some (.box gb1000 82 [.mref 1001 gb1001])), (1001, some (.mr gb1001 gw1001 55 4 none (AM (fun (l : List AE) => l.map AE.row) r.1))), (1002, some (.box gb1002 24 [.own 1003 (i 0)])), (1003, some (.arr (i 0) 55 4 (r.2.1.map AE.row))), (1004, some (.box gb1004 63 [.mref 1005 gb1005])), (1005, some (.md gb1005 (AM RV.bool r.2.2))), (1006, some (.box gb1006 83 [.fn 44 [.ptr 1000 gb1000 0 0, .ptr 1002 gb1002 0 0, .ptr 1004 gb1004 0 0, .ptr 1006 gb1006 0 0]]))]) := by
  unfold HH at h
  by_cases hh : ∃ n r, B1 n m1 c1 m2 parent1 = some r
  · rw [dif_pos hh] at h; exact Qx _ h
  · rw [dif_neg hh] at h; cases h
theorem Rb {a1 : AE} {b1 : AE} {r : Int} (h : Hs a1 b1 = some r) : Af Try.prog 50 [.agg [.r (.int .i64 a1.Item), .r (.int .i64 a1.Parent), .r (.str a1.Place), .r (.sl (a1.Attrs.map AG.row))], .agg [.r (.int .i64 b1.Item), .r (.int .i64 b1.Parent), .r (.str b1.Place), .r (.sl (b1.Attrs.map AG.row))]] (.r (.int .i64 r)) := by
  unfold Hs at h
  refine A6 Try.func50 rfl rfl Try.ntmps50 rfl (Nat.le_of_ble_eq_true rfl) fun n0 => ?_
  refine AH fun K1 hK1 wK1 => ?_
  refine AW.region ?_
  refine AB.step rfl rfl rfl (CU (cs := [.r (.int .i64 a1.Item), .r (.int .i64 a1.Parent), .r (.str a1.Place), .r (.sl (a1.Attrs.map AG.row))]) 2 rfl (.inl rfl) rfl rfl) ?_
  refine AB.step rfl rfl rfl (CU (cs := [.r (.int .i64 b1.Item), .r (.int .i64 b1.Parent), .r (.str b1.Place), .r (.sl (b1.Attrs.map AG.row))]) 3 rfl (.inl rfl) rfl rfl) ?_
  refine AB.step rfl rfl rfl (AD (AK rfl (.inl rfl)) _) ?_
  refine AB.nil ?_
  refine hK1 _ ?_
  refine AH fun K2 hK2 wK2 => ?_
  refine AW.region ?_
  refine AB.step rfl rfl rfl (AD (AX (ob := .box _ _ _) rfl Bf (.inl rfl) (fun _ => rfl) rfl) _) ?_
  refine AB.step rfl rfl rfl (AD (AR (a := .r (.int .i64 a1.Item)) rfl Ae (.inl rfl) rfl rfl) _) ?_
  refine AB.step rfl rfl rfl (AD (AX (ob := .box _ _ _) rfl Bf (.inl rfl) (fun _ => rfl) rfl) _) ?_
  refine AB.step rfl rfl rfl (AD (AR (a := .r (.int .i64 b1.Item)) rfl Ae (.inl rfl) rfl rfl) _) ?_
  refine AU h fun r1 er1 h1 => ?_
  refine AB.step rfl rfl rfl (A7 (r := .r (.int .i64 r1)) (caps := []) (bs := [.r (.int .i64 a1.Item), .r (.int .i64 b1.Item)]) rfl (.inl rfl) rfl ⟨⟨_, (.inl rfl), .d rfl⟩, ⟨_, (.inl rfl), .d rfl⟩, trivial⟩ (fun _ => Iw (er1)) rfl) ?_
  refine AB.step rfl rfl rfl (AD (AK rfl (.inl rfl)) _) ?_
  refine AB.nil ?_
  refine hK2 _ ?_
  refine AW.ret ?_
  exact Am (P := Try.prog) (fun (r : Int) => .r (.int .i64 r)) h1 (.inl rfl) (.t (.d rfl))
theorem Ra {l1 : List AP} {r : (List AE)} (h : HZ l1 = some r) : Af Try.prog 26 [.r (.sl (l1.map AP.row))] (.r (.sl (r.map AE.row))) := by
  unfold HZ at h
  refine A6 Try.func26 rfl rfl Try.ntmps26 rfl (Nat.le_of_ble_eq_true rfl) fun n0 => ?_
  refine AH fun K1 hK1 wK1 => ?_
  refine AW.region ?_
  refine AB.step rfl rfl rfl (AD (AK rfl (.inl rfl)) _) ?_
  refine AB.nil ?_
  refine hK1 _ ?_
  refine AH fun K2 hK2 wK2 => ?_
  refine AW.region ?_
  refine AB.step rfl rfl rfl (AD (AI rfl (.inl rfl)) _) ?_
  refine I2 h fun w1 w2 ew1 h1 => ?_
  refine Ds [14, 8225, 8226] (hc := []) (bs := [.r (.sl (l1.map AP.row))]) (caps := []) rfl rfl rfl rfl (.inl rfl) rfl ⟨.inl ⟨(.inl rfl), rfl⟩, trivial⟩ trivial (by decide) (RY ew1) ?_
  intro i1 n1
  refine AB.weak (s' := ⟨[(0, .r (.sl (l1.map AP.row))), (2, .cst (.slice none 0 0)), (13, .r (.sl (l1.map AP.row))), (14, .ptr 14 (i1 0) 0 0)], [(14, some (.box (i1 0) 76 [.mref 8225 (i1 1), .mref 8226 (i1 3)])), (8225, some (.mb (i1 1) (i1 2) 55 (AM AE.row w1))), (8226, some (.md (i1 3) (AM (fun (l : List AG) => RV.sl (l.map AG.row)) w2)))], n1, 80⟩) (by exact AL ⟨.inl (.inl rfl), .inl (.inl rfl), .inl (.inl rfl), .inl (.inl rfl), trivial⟩ ⟨.inl rfl, .inl rfl, .inl rfl, trivial⟩ (Nat.le_refl _)) ?_
  refine AB.step rfl rfl rfl (AD (AK rfl (.inl rfl)) _) ?_
  refine AB.nil ?_
  refine hK2 _ ?_
  refine AH fun K3 hK3 wK3 => ?_
  refine AW.region ?_
  refine AB.step rfl rfl rfl (RQ AE.row 15 55 4 rfl (by decide)) ?_
  refine AB.step rfl rfl rfl (Bs (cs := [.cst (.map none)]) 4 rfl MZ rfl rfl) ?_
  refine BG rfl rfl (Ba (ds := [.mref 15 n1]) rfl Mg (.inl rfl) rfl (.inl rfl) rfl rfl rfl rfl) ?_
  refine AB.nil ?_
  refine hK3 _ ?_
  refine AH fun K4 hK4 wK4 => ?_
  refine AW.region ?_
  refine AB.step rfl rfl rfl (AD (AK rfl (.inl rfl)) _) ?_
  refine AB.nil ?_
  refine hK4 _ ?_
  refine AH fun K5 hK5 wK5 => ?_
  refine AH fun K6 hK6 wK6 => ?_
  refine AW.region ?_
  refine AB.step rfl rfl rfl (AD (AI rfl (.inl rfl)) _) ?_
  refine AB.step rfl rfl rfl (AD (Ct (ob := .box _ _ _) rfl (.inl rfl) (fun _ => rfl) rfl) _) ?_
  refine AB.step rfl rfl rfl (AD (AX (ob := .box _ _ _) rfl HE (.inl rfl) (fun _ => rfl) rfl) _) ?_
  refine AB.step rfl rfl rfl (AD (AR (a := .mref 8225 (i1 1)) rfl H8 (.inl rfl) rfl rfl) _) ?_
  refine AB.step rfl rfl rfl (Pr (ob := .mb (i1 1) (i1 2) 55 (AM AE.row w1)) 20 rfl Try.underlying73 (.inl rfl) rfl (KT _ _ _ _ _) rfl) ?_
  refine AB.nil ?_
  refine hK6 _ ?_
  refine AW.weak (s' := ⟨[(3, .ptr 14 (i1 0) 0 0), (4, .ptr 4 (n1 + 1) 0 0), (5, .own 5005 (n1 + 3)), (20, .ptr 20 (n1 + 2) 0 0)], [(4, some (.box (n1 + 1) 82 [.mref 15 n1])), (14, some (.box (i1 0) 76 [.mref 8225 (i1 1), .mref 8226 (i1 3)])), (15, some (.mr n1 n1 55 4 none (AM (fun (l : List AE) => l.map AE.row) ([] : List (Int × (List AE)))))), (20, some (.mj (n1 + 2) 8225 (i1 1) ((w1.map (·.1)).length) [])), (5005, some (.arr (n1 + 3) 55 4 (([] : List AE).map AE.row))), (8225, some (.mb (i1 1) (i1 2) 55 (AM AE.row w1))), (8226, some (.md (i1 3) (AM (fun (l : List AG) => RV.sl (l.map AG.row)) w2)))], (n1 + 4), 80⟩) (AJ.trans (AJ.trans (IF 5 5005 55 4 (by decide) rfl) (by exact AL (e' := [(0, .r (.sl (l1.map AP.row))), (2, .cst (.slice none 0 0)), (3, .ptr 14 (i1 0) 0 0), (4, .ptr 4 (n1 + 1) 0 0), (5, .own 5005 (n1 + 3)), (13, .r (.sl (l1.map AP.row))), (14, .ptr 14 (i1 0) 0 0), (15, .mref 15 n1), (16, .ptr 14 (i1 0) 0 0), (17, .ptr 14 (i1 0) 0 0), (18, .ptr 14 (i1 0) 0 0), (19, .mref 8225 (i1 1)), (20, .ptr 20 (n1 + 2) 0 0)]) (h' := [(4, some (.box (n1 + 1) 82 [.mref 15 n1])), (14, some (.box (i1 0) 76 [.mref 8225 (i1 1), .mref 8226 (i1 3)])), (15, some (.mr n1 n1 55 4 none (AM (fun (l : List AE) => l.map AE.row) ([] : List (Int × (List AE)))))), (20, some (.mj (n1 + 2) 8225 (i1 1) ((w1.map (·.1)).length) [])), (5005, some (.arr (n1 + 3) 55 4 (([] : List AE).map AE.row))), (8225, some (.mb (i1 1) (i1 2) 55 (AM AE.row w1))), (8226, some (.md (i1 3) (AM (fun (l : List AG) => RV.sl (l.map AG.row)) w2)))]) ⟨.inl (.inl rfl), .inl (.inl rfl), .inl (.inl rfl), .inl (.inl rfl), .inl (.inl rfl), .inl (.inl rfl), .inl (.inl rfl), .inl (.inl rfl), .inl (.inl rfl), .inl (.inl rfl), .inl (.inl rfl), .inl (.inl rfl), .inl (.inl rfl), trivial⟩ ⟨.inl rfl, .inl rfl, .inl rfl, .inl rfl, .inl rfl, .inl rfl, .inl rfl, trivial⟩ (Nat.le_refl _))) (by exact AL ⟨.inl (.inl rfl), .inl (.inl rfl), .inl (.inl rfl), .inl (.inl rfl), trivial⟩ ⟨.inl rfl, .inl rfl, .inl rfl, .inl rfl, .inl rfl, .inl rfl, .inl rfl, trivial⟩ (Nat.le_refl _))) ?_
  refine Sv (mid := 8225) (mg := (i1 1)) (key := fun (a : (List AE) × (List (Int × AE)) × (List (Int × (List AE)))) => a.2.1.map (·.1)) (F := fun (a : (List AE) × (List (Int × AE)) × (List (Int × (List AE)))) (k1 : Int) => Dx w2 a.1 a.2.1 a.2.2 k1) (st0 := ([], w1, [])) 20 (fun (a : (List AE) × (List (Int × AE)) × (List (Int × (List AE)))) i4 => [(3, .ptr 14 (i1 0) 0 0), (4, .ptr 4 (n1 + 1) 0 0), (5, .own 5005 (i4 0)), (20, .ptr 20 (n1 + 2) 0 0)]) (fun (a : (List AE) × (List (Int × AE)) × (List (Int × (List AE)))) i4 => [(4, some (.box (n1 + 1) 82 [.mref 15 n1])), (14, some (.box (i1 0) 76 [.mref 8225 (i1 1), .mref 8226 (i1 3)])), (15, some (.mr n1 (i4 1) 55 4 none (AM (fun (l : List AE) => l.map AE.row) a.2.2))), (5005, some (.arr (i4 0) 55 4 (a.1.map AE.row))), (8225, some (.mb (i1 1) (i1 2) 55 (AM AE.row a.2.1))), (8226, some (.md (i1 3) (AM (fun (l : List AG) => RV.sl (l.map AG.row)) w2)))]) (fun i4 => (i4 2)) h1 ⟨(Ab [(n1 + 3), n1, (n1 + 4)]), (by exact AL ⟨.inl (.inl rfl), .inl (.inl rfl), .inl (.inl rfl), .inl (.inl rfl), trivial⟩ ⟨.inl rfl, .inl rfl, .inl rfl, .inl rfl, .inl rfl, .inl rfl, .inl rfl, trivial⟩ (Nat.le_refl _))⟩ rfl rfl rfl rfl rfl rfl rfl rfl (fun _ _ => .inl rfl) (fun _ _ => rfl) (fun _ _ => rfl) (fun _ _ => ⟨_, rfl, rfl, KT _ _ _ _ _⟩) rfl (fun _ _ => rfl) ?_ ?_
  · intro a0 k1 j1 ys1 st1 i4 hF1 hk1 hnd1 hl1
    obtain ⟨all2, m3, m4⟩ := a0
    have h2 : Dx w2 all2 m3 m4 k1 = some st1 := hF1; unfold Dx at h2
    refine AW.weak (s' := ⟨[(3, .ptr 14 (i1 0) 0 0), (4, .ptr 4 (n1 + 1) 0 0), (5, .own 5005 (i4 0)), (20, .ptr 20 (n1 + 2) 0 0)], [(4, some (.box (n1 + 1) 82 [.mref 15 n1])), (14, some (.box (i1 0) 76 [.mref 8225 (i1 1), .mref 8226 (i1 3)])), (15, some (.mr n1 (i4 1) 55 4 none (AM (fun (l : List AE) => l.map AE.row) m4))), (20, some (.mj (n1 + 2) 8225 (i1 1) ((w1.map (·.1)).length) (ys1 ++ [j1]))), (5005, some (.arr (i4 0) 55 4 (all2.map AE.row))), (8225, some (.mb (i1 1) (i1 2) 55 (AM AE.row m3))), (8226, some (.md (i1 3) (AM (fun (l : List AG) => RV.sl (l.map AG.row)) w2)))], (i4 2), 80⟩) (by exact AL ⟨.inl (.inl rfl), .inl (.inl rfl), .inl (.inl rfl), .inl (.inl rfl), trivial⟩ ⟨.inl rfl, .inl rfl, .inl rfl, .inl rfl, .inl rfl, .inl rfl, .inl rfl, trivial⟩ (Nat.le_refl _)) ?_
    refine AW.block ?_
    refine AH fun K7 hK7 wK7 => ?_
    refine AW.region ?_
    refine AB.step rfl rfl rfl (AD (N8 rfl (.inl rfl) rfl rfl hl1 hk1 hnd1) _) ?_
    refine AB.step rfl rfl rfl (AD (CJ (a := .r (.int .i64 k1)) rfl (.inl rfl) rfl) _) ?_
    refine AB.step rfl rfl rfl (AD (CJ (a := .pk 8225 (i1 1) (i1 2) (Ac m3 k1) 0) rfl (.inl rfl) rfl) _) ?_
    refine AB.step rfl rfl rfl (AD (AK rfl (.inl rfl)) _) ?_
    refine AB.step rfl rfl rfl (AD (AK rfl (.inl rfl)) _) ?_
    refine AB.nil ?_
    refine hK7 _ ?_
    refine AH fun K8 hK8 wK8 => ?_
    refine AW.region ?_
    refine AB.step rfl rfl rfl (AD (AI rfl (.inl rfl)) _) ?_
    refine AB.step rfl rfl rfl (AD (AI rfl (.inl rfl)) _) ?_
    refine AB.step rfl rfl rfl (AD (Ct (ob := .box _ _ _) rfl (.inl rfl) (fun _ => rfl) rfl) _) ?_
    refine AB.step rfl rfl rfl (AD (AX (ob := .box _ _ _) rfl Ik (.inl rfl) (fun _ => rfl) rfl) _) ?_
    refine AB.step rfl rfl rfl (AD (AR (a := .mref 8226 (i1 3)) rfl Ip (.inl rfl) rfl rfl) _) ?_
    refine AB.step rfl rfl rfl (AD (AI rfl (.inl rfl)) _) ?_
    refine AB.step rfl rfl rfl (AD (JA (rd := (fun (l : List AG) => RV.sl (l.map AG.row))) false (.slice none 0 0) [] rfl Try.underlying74 Try.underlying3 (En Km) (fun _ _ => .snil) (.inl rfl) (.inl rfl) rfl) _) ?_
    refine AU h2 fun x1 ex1 h3 => ?_
    refine AB.step rfl rfl rfl (AD (F7 rfl (.inl rfl) rfl rfl (fun _ => ex1)) _) ?_
    refine AB.step rfl rfl rfl (AD (JE rfl Ez (.inl rfl) rfl rfl (fun _ => ex1)) _) ?_
    refine BG rfl rfl (PK (a := x1) (a' := (AE.mk x1.Item x1.Parent x1.Place ((AN w2 k1).getD []))) rfl Gb (.inl rfl) rfl rfl ex1 (.inl rfl) rfl rfl) ?_
    refine AB.nil ?_
    refine hK8 _ ?_
    refine AH fun K9 hK9 wK9 => ?_
    refine AW.weak (s' := ⟨[(3, .ptr 14 (i1 0) 0 0), (4, .ptr 4 (n1 + 1) 0 0), (5, .own 5005 (i4 0)), (7, .pk 8225 (i1 1) (i1 2) (Ac m3 k1) 0), (20, .ptr 20 (n1 + 2) 0 0)], [(4, some (.box (n1 + 1) 82 [.mref 15 n1])), (14, some (.box (i1 0) 76 [.mref 8225 (i1 1), .mref 8226 (i1 3)])), (15, some (.mr n1 (i4 1) 55 4 none (AM (fun (l : List AE) => l.map AE.row) m4))), (20, some (.mj (n1 + 2) 8225 (i1 1) ((w1.map (·.1)).length) (ys1 ++ [j1]))), (5005, some (.arr (i4 0) 55 4 (all2.map AE.row))), (8225, some (.mb (i1 1) (i1 2) 55 (AM AE.row (Ai m3 k1 (AE.mk x1.Item x1.Parent x1.Place ((AN w2 k1).getD [])))))), (8226, some (.md (i1 3) (AM (fun (l : List AG) => RV.sl (l.map AG.row)) w2)))], (i4 2), 80⟩) (by exact AL ⟨.inl (.inl rfl), .inl (.inl rfl), .inl (.inl rfl), .inl (.inl rfl), .inl (.inl rfl), trivial⟩ ⟨.inl rfl, .inl rfl, .inl rfl, .inl rfl, .inl rfl, .inl rfl, .inl rfl, trivial⟩ (Nat.le_refl _)) ?_
    refine AU h3 fun l2 el2 h4 => ?_
    refine Fx 16 [⟨some 35, (fun _ => .mref 15 n1), none, []⟩, ⟨some 36, (fun _ => .pk 8225 (i1 1) (i1 2) (Ac m3 k1) 0), none, []⟩, ⟨some 37, (fun _ => .pk 8225 (i1 1) (i1 2) (Ac m3 k1) 0), none, []⟩, ⟨some 38, (fun _ => .pk 8225 (i1 1) (i1 2) (Ac m3 k1) 1), none, []⟩, ⟨some 39, (fun _ => .r (.int .i64 ((AE.mk x1.Item x1.Parent x1.Place ((AN w2 k1).getD [])).Parent))), none, []⟩, ⟨some 40, (fun _ => .mref 15 n1), none, []⟩, ⟨some 41, (fun _ => .pk 8225 (i1 1) (i1 2) (Ac m3 k1) 0), none, []⟩, ⟨some 42, (fun _ => .pk 8225 (i1 1) (i1 2) (Ac m3 k1) 0), none, []⟩, ⟨some 43, (fun _ => .pk 8225 (i1 1) (i1 2) (Ac m3 k1) 1), none, []⟩, ⟨some 44, (fun _ => .r (.int .i64 ((AE.mk x1.Item x1.Parent x1.Place ((AN w2 k1).getD [])).Parent))), none, []⟩, ⟨some 45, (fun _ => .fo 15 n1 (i4 1) ((AE.mk x1.Item x1.Parent x1.Place ((AN w2 k1).getD [])).Parent)), none, []⟩, ⟨some 46, (fun _ => .pk 8225 (i1 1) (i1 2) (Ac m3 k1) 0), none, []⟩, ⟨some 47, (fun _ => .pk 8225 (i1 1) (i1 2) (Ac m3 k1) 0), none, []⟩, ⟨some 48, (fun _ => .agg [.r (.int .i64 ((AE.mk x1.Item x1.Parent x1.Place ((AN w2 k1).getD [])).Item)), .r (.int .i64 ((AE.mk x1.Item x1.Parent x1.Place ((AN w2 k1).getD [])).Parent)), .r (.str ((AE.mk x1.Item x1.Parent x1.Place ((AN w2 k1).getD [])).Place)), .r (.sl (((AE.mk x1.Item x1.Parent x1.Place ((AN w2 k1).getD [])).Attrs).map AG.row))]), none, []⟩, ⟨some 49, (fun G1 => .own 49 (G1 14)), some (49, (fun G1 => some (.arr (G1 14) 55 4 ([(AE.mk x1.Item x1.Parent x1.Place ((AN w2 k1).getD []))].map AE.row)))), [14]⟩, ⟨some 50, (fun G1 => .fo 15 n1 (G1 15) ((AE.mk x1.Item x1.Parent x1.Place ((AN w2 k1).getD [])).Parent)), some (15, (fun G1 => some (.mr n1 (G1 15) 55 4 (some (Ac m4 ((AE.mk x1.Item x1.Parent x1.Place ((AN w2 k1).getD [])).Parent), (AN m4 ((AE.mk x1.Item x1.Parent x1.Place ((AN w2 k1).getD [])).Parent)).isNone)) (AM (fun (l : List AE) => l.map AE.row) (Ai m4 ((AE.mk x1.Item x1.Parent x1.Place ((AN w2 k1).getD [])).Parent) l2))))), [15]⟩] Bt (by kernel_rfl) (by exact ⟨fun _ _ h => ⟨rfl, fun _ _ e => by cases e⟩, fun _ _ h => ⟨rfl, fun _ _ e => by cases e⟩, fun _ _ h => ⟨rfl, fun _ _ e => by cases e⟩, fun _ _ h => ⟨rfl, fun _ _ e => by cases e⟩, fun _ _ h => ⟨rfl, fun _ _ e => by cases e⟩, fun _ _ h => ⟨rfl, fun _ _ e => by cases e⟩, fun _ _ h => ⟨rfl, fun _ _ e => by cases e⟩, fun _ _ h => ⟨rfl, fun _ _ e => by cases e⟩, fun _ _ h => ⟨rfl, fun _ _ e => by cases e⟩, fun _ _ h => ⟨rfl, fun _ _ e => by cases e⟩, fun _ _ h => ⟨rfl, fun _ _ e => by cases e⟩, fun _ _ h => ⟨rfl, fun _ _ e => by cases e⟩, fun _ _ h => ⟨rfl, fun _ _ e => by cases e⟩, fun _ _ h => ⟨rfl, fun _ _ e => by cases e⟩, fun _ _ h => ⟨by simp only [h 14 rfl], fun _ _ e => by cases e; simp only [h 14 rfl]⟩, fun _ _ h => ⟨by simp only [h 15 rfl], fun _ _ e => by cases e; simp only [h 15 rfl]⟩, trivial⟩) rfl (by exact ⟨Aq (n1 := fun n => n) rfl rfl (by intro d h; cases h; rfl) rfl (fun _ => [(4, .ptr 4 (n1 + 1) 0 0)]) (fun _ => [(4, some (.box (n1 + 1) 82 [.mref 15 n1]))]) (fun D G1 hr => ⟨BK rfl rfl, trivial⟩) (fun D G1 hr => ⟨At rfl rfl, trivial⟩) (fun _ _ => rfl) (fun G1 e h' n => AD (v := .mref 15 n1) (AR (a := .mref 15 n1) rfl D1 (.inl rfl) rfl rfl) _),
        Aq (n1 := fun n => n) rfl rfl (by intro d h; cases h; rfl) rfl (fun _ => [(7, .pk 8225 (i1 1) (i1 2) (Ac m3 k1) 0)]) (fun _ => [(8225, some (.mb (i1 1) (i1 2) 55 (AM AE.row (Ai m3 k1 (AE.mk x1.Item x1.Parent x1.Place ((AN w2 k1).getD []))))))]) (fun D G1 hr => ⟨BK rfl rfl, trivial⟩) (fun D G1 hr => ⟨At rfl rfl, trivial⟩) (fun _ _ => rfl) (fun G1 e h' n => AD (v := .pk 8225 (i1 1) (i1 2) (Ac m3 k1) 0) (AI rfl (.inl rfl)) _),
        Aq (n1 := fun n => n) rfl rfl (by intro d h; cases h; rfl) rfl (fun _ => [(36, .pk 8225 (i1 1) (i1 2) (Ac m3 k1) 0)]) (fun _ => [(8225, some (.mb (i1 1) (i1 2) 55 (AM AE.row (Ai m3 k1 (AE.mk x1.Item x1.Parent x1.Place ((AN w2 k1).getD []))))))]) (fun D G1 hr => ⟨Au hr 1 rfl rfl (by kernel_rfl) rfl rfl, trivial⟩) (fun D G1 hr => ⟨At rfl rfl, trivial⟩) (fun _ _ => rfl) (fun G1 e h' n => AD (v := .pk 8225 (i1 1) (i1 2) (Ac m3 k1) 0) (F7 rfl (.inl rfl) rfl (by rw [Du ex1]) (fun _ => (DV _ _ _))) _),
        Aq (n1 := fun n => n) rfl rfl (by intro d h; cases h; rfl) rfl (fun _ => [(37, .pk 8225 (i1 1) (i1 2) (Ac m3 k1) 0)]) (fun _ => [(8225, some (.mb (i1 1) (i1 2) 55 (AM AE.row (Ai m3 k1 (AE.mk x1.Item x1.Parent x1.Place ((AN w2 k1).getD []))))))]) (fun D G1 hr => ⟨Au hr 2 rfl rfl (by kernel_rfl) rfl rfl, trivial⟩) (fun D G1 hr => ⟨At rfl rfl, trivial⟩) (fun _ _ => rfl) (fun G1 e h' n => AD (v := .pk 8225 (i1 1) (i1 2) (Ac m3 k1) 1) (JE rfl Dd (.inl rfl) rfl (by rw [Du ex1]) (fun _ => (DV _ _ _))) _),
        Aq (n1 := fun n => n) rfl rfl (by intro d h; cases h; rfl) rfl (fun _ => [(38, .pk 8225 (i1 1) (i1 2) (Ac m3 k1) 1)]) (fun _ => [(8225, some (.mb (i1 1) (i1 2) 55 (AM AE.row (Ai m3 k1 (AE.mk x1.Item x1.Parent x1.Place ((AN w2 k1).getD []))))))]) (fun D G1 hr => ⟨Au hr 3 rfl rfl (by kernel_rfl) rfl rfl, trivial⟩) (fun D G1 hr => ⟨At rfl rfl, trivial⟩) (fun _ _ => rfl) (fun G1 e h' n => AD (v := .r (.int .i64 ((AE.mk x1.Item x1.Parent x1.Place ((AN w2 k1).getD [])).Parent))) (KC (a := (AE.mk x1.Item x1.Parent x1.Place ((AN w2 k1).getD []))) (d := .int .i64 ((AE.mk x1.Item x1.Parent x1.Place ((AN w2 k1).getD [])).Parent)) rfl Ae (.inl rfl) rfl (by rw [Du ex1]) (fun _ => (DV _ _ _)) rfl) _),
        Aq (n1 := fun n => n) rfl rfl (by intro d h; cases h; rfl) rfl (fun _ => [(4, .ptr 4 (n1 + 1) 0 0)]) (fun _ => [(4, some (.box (n1 + 1) 82 [.mref 15 n1]))]) (fun D G1 hr => ⟨BK rfl rfl, trivial⟩) (fun D G1 hr => ⟨At rfl rfl, trivial⟩) (fun _ _ => rfl) (fun G1 e h' n => AD (v := .mref 15 n1) (AR (a := .mref 15 n1) rfl D1 (.inl rfl) rfl rfl) _),
        Aq (n1 := fun n => n) rfl rfl (by intro d h; cases h; rfl) rfl (fun _ => [(7, .pk 8225 (i1 1) (i1 2) (Ac m3 k1) 0)]) (fun _ => [(8225, some (.mb (i1 1) (i1 2) 55 (AM AE.row (Ai m3 k1 (AE.mk x1.Item x1.Parent x1.Place ((AN w2 k1).getD []))))))]) (fun D G1 hr => ⟨BK rfl rfl, trivial⟩) (fun D G1 hr => ⟨At rfl rfl, trivial⟩) (fun _ _ => rfl) (fun G1 e h' n => AD (v := .pk 8225 (i1 1) (i1 2) (Ac m3 k1) 0) (AI rfl (.inl rfl)) _),
        Aq (n1 := fun n => n) rfl rfl (by intro d h; cases h; rfl) rfl (fun _ => [(41, .pk 8225 (i1 1) (i1 2) (Ac m3 k1) 0)]) (fun _ => [(8225, some (.mb (i1 1) (i1 2) 55 (AM AE.row (Ai m3 k1 (AE.mk x1.Item x1.Parent x1.Place ((AN w2 k1).getD []))))))]) (fun D G1 hr => ⟨Au hr 6 rfl rfl (by kernel_rfl) rfl rfl, trivial⟩) (fun D G1 hr => ⟨At rfl rfl, trivial⟩) (fun _ _ => rfl) (fun G1 e h' n => AD (v := .pk 8225 (i1 1) (i1 2) (Ac m3 k1) 0) (F7 rfl (.inl rfl) rfl (by rw [Du ex1]) (fun _ => (DV _ _ _))) _),
        Aq (n1 := fun n => n) rfl rfl (by intro d h; cases h; rfl) rfl (fun _ => [(42, .pk 8225 (i1 1) (i1 2) (Ac m3 k1) 0)]) (fun _ => [(8225, some (.mb (i1 1) (i1 2) 55 (AM AE.row (Ai m3 k1 (AE.mk x1.Item x1.Parent x1.Place ((AN w2 k1).getD []))))))]) (fun D G1 hr => ⟨Au hr 7 rfl rfl (by kernel_rfl) rfl rfl, trivial⟩) (fun D G1 hr => ⟨At rfl rfl, trivial⟩) (fun _ _ => rfl) (fun G1 e h' n => AD (v := .pk 8225 (i1 1) (i1 2) (Ac m3 k1) 1) (JE rfl Dd (.inl rfl) rfl (by rw [Du ex1]) (fun _ => (DV _ _ _))) _),
        Aq (n1 := fun n => n) rfl rfl (by intro d h; cases h; rfl) rfl (fun _ => [(43, .pk 8225 (i1 1) (i1 2) (Ac m3 k1) 1)]) (fun _ => [(8225, some (.mb (i1 1) (i1 2) 55 (AM AE.row (Ai m3 k1 (AE.mk x1.Item x1.Parent x1.Place ((AN w2 k1).getD []))))))]) (fun D G1 hr => ⟨Au hr 8 rfl rfl (by kernel_rfl) rfl rfl, trivial⟩) (fun D G1 hr => ⟨At rfl rfl, trivial⟩) (fun _ _ => rfl) (fun G1 e h' n => AD (v := .r (.int .i64 ((AE.mk x1.Item x1.Parent x1.Place ((AN w2 k1).getD [])).Parent))) (KC (a := (AE.mk x1.Item x1.Parent x1.Place ((AN w2 k1).getD []))) (d := .int .i64 ((AE.mk x1.Item x1.Parent x1.Place ((AN w2 k1).getD [])).Parent)) rfl Ae (.inl rfl) rfl (by rw [Du ex1]) (fun _ => (DV _ _ _)) rfl) _),
        Aq (n1 := fun n => n) rfl rfl (by intro d h; cases h; rfl) rfl (fun _ => [(40, .mref 15 n1), (44, .r (.int .i64 ((AE.mk x1.Item x1.Parent x1.Place ((AN w2 k1).getD [])).Parent)))]) (fun _ => [(15, some (.mr n1 (i4 1) 55 4 none (AM (fun (l : List AE) => l.map AE.row) m4)))]) (fun D G1 hr => ⟨Au hr 5 rfl rfl (by kernel_rfl) rfl rfl, Au hr 9 rfl rfl (by kernel_rfl) rfl rfl, trivial⟩) (fun D G1 hr => ⟨Fs hr (by kernel_rfl) rfl, trivial⟩) (fun _ _ => rfl) (fun G1 e h' n => AD (v := .fo 15 n1 (i4 1) ((AE.mk x1.Item x1.Parent x1.Place ((AN w2 k1).getD [])).Parent)) (Je rfl Try.underlying82 Try.underlying3 (En Gx) (.inl rfl) (.inl rfl) rfl) _),
        Aq (n1 := fun n => n) rfl rfl (by intro d h; cases h; rfl) rfl (fun _ => [(7, .pk 8225 (i1 1) (i1 2) (Ac m3 k1) 0)]) (fun _ => [(8225, some (.mb (i1 1) (i1 2) 55 (AM AE.row (Ai m3 k1 (AE.mk x1.Item x1.Parent x1.Place ((AN w2 k1).getD []))))))]) (fun D G1 hr => ⟨BK rfl rfl, trivial⟩) (fun D G1 hr => ⟨At rfl rfl, trivial⟩) (fun _ _ => rfl) (fun G1 e h' n => AD (v := .pk 8225 (i1 1) (i1 2) (Ac m3 k1) 0) (AI rfl (.inl rfl)) _),
        Aq (n1 := fun n => n) rfl rfl (by intro d h; cases h; rfl) rfl (fun _ => [(46, .pk 8225 (i1 1) (i1 2) (Ac m3 k1) 0)]) (fun _ => [(8225, some (.mb (i1 1) (i1 2) 55 (AM AE.row (Ai m3 k1 (AE.mk x1.Item x1.Parent x1.Place ((AN w2 k1).getD []))))))]) (fun D G1 hr => ⟨Au hr 11 rfl rfl (by kernel_rfl) rfl rfl, trivial⟩) (fun D G1 hr => ⟨At rfl rfl, trivial⟩) (fun _ _ => rfl) (fun G1 e h' n => AD (v := .pk 8225 (i1 1) (i1 2) (Ac m3 k1) 0) (F7 rfl (.inl rfl) rfl (by rw [Du ex1]) (fun _ => (DV _ _ _))) _),
        Aq (n1 := fun n => n) rfl rfl (by intro d h; cases h; rfl) rfl (fun _ => [(47, .pk 8225 (i1 1) (i1 2) (Ac m3 k1) 0)]) (fun _ => [(8225, some (.mb (i1 1) (i1 2) 55 (AM AE.row (Ai m3 k1 (AE.mk x1.Item x1.Parent x1.Place ((AN w2 k1).getD []))))))]) (fun D G1 hr => ⟨Au hr 12 rfl rfl (by kernel_rfl) rfl rfl, trivial⟩) (fun D G1 hr => ⟨At rfl rfl, trivial⟩) (fun _ _ => rfl) (fun G1 e h' n => AD (v := .agg [.r (.int .i64 ((AE.mk x1.Item x1.Parent x1.Place ((AN w2 k1).getD [])).Item)), .r (.int .i64 ((AE.mk x1.Item x1.Parent x1.Place ((AN w2 k1).getD [])).Parent)), .r (.str ((AE.mk x1.Item x1.Parent x1.Place ((AN w2 k1).getD [])).Place)), .r (.sl (((AE.mk x1.Item x1.Parent x1.Place ((AN w2 k1).getD [])).Attrs).map AG.row))]) (Mb (a := (AE.mk x1.Item x1.Parent x1.Place ((AN w2 k1).getD []))) (cs := [.r (.int .i64 ((AE.mk x1.Item x1.Parent x1.Place ((AN w2 k1).getD [])).Item)), .r (.int .i64 ((AE.mk x1.Item x1.Parent x1.Place ((AN w2 k1).getD [])).Parent)), .r (.str ((AE.mk x1.Item x1.Parent x1.Place ((AN w2 k1).getD [])).Place)), .r (.sl (((AE.mk x1.Item x1.Parent x1.Place ((AN w2 k1).getD [])).Attrs).map AG.row))]) rfl CL (.inl rfl) rfl (by rw [Du ex1]) (fun _ => (DV _ _ _)) rfl rfl) _),
        ED (n1 := fun n => n + 1) rfl rfl (by intro d h; cases h; rfl) rfl (fun _ => [(48, .agg [.r (.int .i64 ((AE.mk x1.Item x1.Parent x1.Place ((AN w2 k1).getD [])).Item)), .r (.int .i64 ((AE.mk x1.Item x1.Parent x1.Place ((AN w2 k1).getD [])).Parent)), .r (.str ((AE.mk x1.Item x1.Parent x1.Place ((AN w2 k1).getD [])).Place)), .r (.sl (((AE.mk x1.Item x1.Parent x1.Place ((AN w2 k1).getD [])).Attrs).map AG.row))])]) (fun _ => []) (fun D G1 hr => ⟨Au hr 13 rfl rfl (by kernel_rfl) rfl rfl, trivial⟩) (fun D G1 hr => trivial) (fun G1 e h' n => B3 49 rfl Ao (f := AE.row) (l := ([(AE.mk x1.Item x1.Parent x1.Place ((AN w2 k1).getD []))] : List AE)) ⟨rfl, ⟨_, (.inl rfl), rfl⟩, trivial⟩ rfl (fun _ => rfl) rfl),
        ED (n1 := fun n => n + 1) rfl rfl (by intro d h; cases h; rfl) rfl (fun G1 => [(45, .fo 15 n1 (i4 1) ((AE.mk x1.Item x1.Parent x1.Place ((AN w2 k1).getD [])).Parent)), (49, .own 49 (G1 14))]) (fun G1 => [(15, some (.mr n1 (i4 1) 55 4 none (AM (fun (l : List AE) => l.map AE.row) m4))), (49, some (.arr (G1 14) 55 4 ([(AE.mk x1.Item x1.Parent x1.Place ((AN w2 k1).getD []))].map AE.row)))]) (fun D G1 hr => ⟨Au hr 10 rfl rfl (by kernel_rfl) rfl rfl, Au hr 14 rfl rfl (by kernel_rfl) rfl rfl, trivial⟩) (fun D G1 hr => ⟨Fs hr (by kernel_rfl) rfl, F5 hr 14 rfl rfl (by kernel_rfl) (by kernel_rfl) rfl, trivial⟩) (fun G1 e h' n => O2 (ys := [(AE.mk x1.Item x1.Parent x1.Place ((AN w2 k1).getD []))]) rfl Ao (.inl rfl) rfl (.inr (.inl ⟨_, _, _, (.inl rfl), rfl⟩)) rfl el2),
        trivial⟩) fun G1 n2 => ?_
    refine AB.weak (s' := ⟨[(3, .ptr 14 (i1 0) 0 0), (4, .ptr 4 (n1 + 1) 0 0), (5, .own 5005 (i4 0)), (7, .pk 8225 (i1 1) (i1 2) (Ac m3 k1) 0), (20, .ptr 20 (n1 + 2) 0 0), (35, .mref 15 n1), (36, .pk 8225 (i1 1) (i1 2) (Ac m3 k1) 0), (37, .pk 8225 (i1 1) (i1 2) (Ac m3 k1) 0), (38, .pk 8225 (i1 1) (i1 2) (Ac m3 k1) 1), (39, .r (.int .i64 ((AE.mk x1.Item x1.Parent x1.Place ((AN w2 k1).getD [])).Parent))), (40, .mref 15 n1), (41, .pk 8225 (i1 1) (i1 2) (Ac m3 k1) 0), (42, .pk 8225 (i1 1) (i1 2) (Ac m3 k1) 0), (43, .pk 8225 (i1 1) (i1 2) (Ac m3 k1) 1), (44, .r (.int .i64 ((AE.mk x1.Item x1.Parent x1.Place ((AN w2 k1).getD [])).Parent))), (46, .pk 8225 (i1 1) (i1 2) (Ac m3 k1) 0), (47, .pk 8225 (i1 1) (i1 2) (Ac m3 k1) 0), (48, .agg [.r (.int .i64 ((AE.mk x1.Item x1.Parent x1.Place ((AN w2 k1).getD [])).Item)), .r (.int .i64 ((AE.mk x1.Item x1.Parent x1.Place ((AN w2 k1).getD [])).Parent)), .r (.str ((AE.mk x1.Item x1.Parent x1.Place ((AN w2 k1).getD [])).Place)), .r (.sl (((AE.mk x1.Item x1.Parent x1.Place ((AN w2 k1).getD [])).Attrs).map AG.row))]), (49, .own 49 (G1 14)), (50, .fo 15 n1 (G1 15) ((AE.mk x1.Item x1.Parent x1.Place ((AN w2 k1).getD [])).Parent))], [(4, some (.box (n1 + 1) 82 [.mref 15 n1])), (14, some (.box (i1 0) 76 [.mref 8225 (i1 1), .mref 8226 (i1 3)])), (15, some (.mr n1 (G1 15) 55 4 (some (Ac m4 ((AE.mk x1.Item x1.Parent x1.Place ((AN w2 k1).getD [])).Parent), (AN m4 ((AE.mk x1.Item x1.Parent x1.Place ((AN w2 k1).getD [])).Parent)).isNone)) (AM (fun (l : List AE) => l.map AE.row) (Ai m4 ((AE.mk x1.Item x1.Parent x1.Place ((AN w2 k1).getD [])).Parent) l2)))), (20, some (.mj (n1 + 2) 8225 (i1 1) ((w1.map (·.1)).length) (ys1 ++ [j1]))), (49, some (.arr (G1 14) 55 4 ([(AE.mk x1.Item x1.Parent x1.Place ((AN w2 k1).getD []))].map AE.row))), (5005, some (.arr (i4 0) 55 4 (all2.map AE.row))), (8225, some (.mb (i1 1) (i1 2) 55 (AM AE.row (Ai m3 k1 (AE.mk x1.Item x1.Parent x1.Place ((AN w2 k1).getD [])))))), (8226, some (.md (i1 3) (AM (fun (l : List AG) => RV.sl (l.map AG.row)) w2)))], n2, 80⟩) (by exact AL ⟨.inl (.inl rfl), .inl (.inl rfl), .inl (.inl rfl), .inl (.inl rfl), .inl (.inl rfl), .inl (.inl rfl), .inl (.inl rfl), .inl (.inl rfl), .inl (.inl rfl), .inl (.inl rfl), .inl (.inl rfl), .inl (.inl rfl), .inl (.inl rfl), .inl (.inl rfl), .inl (.inl rfl), .inl (.inl rfl), .inl (.inl rfl), .inl (.inl rfl), .inl (.inl rfl), .inl (.inl rfl), trivial⟩ ⟨.inl rfl, .inl rfl, .inl rfl, .inl rfl, .inl rfl, .inl rfl, .inl rfl, .inl rfl, trivial⟩ (Nat.le_refl _)) ?_
    refine BG rfl rfl (SZ (.inl rfl) Try.underlying82 Try.underlying3 (.inl rfl) (.inl rfl) (.inl rfl) rfl) ?_
    refine AB.nil ?_
    refine hK9 _ ?_
    refine AW.weak (s' := ⟨[(3, .ptr 14 (i1 0) 0 0), (4, .ptr 4 (n1 + 1) 0 0), (5, .own 5005 (i4 0)), (7, .pk 8225 (i1 1) (i1 2) (Ac m3 k1) 0), (20, .ptr 20 (n1 + 2) 0 0)], [(4, some (.box (n1 + 1) 82 [.mref 15 n1])), (14, some (.box (i1 0) 76 [.mref 8225 (i1 1), .mref 8226 (i1 3)])), (15, some (.mr n1 (G1 15) 55 4 none (AM (fun (l : List AE) => l.map AE.row) (Ai m4 ((AE.mk x1.Item x1.Parent x1.Place ((AN w2 k1).getD [])).Parent) l2)))), (20, some (.mj (n1 + 2) 8225 (i1 1) ((w1.map (·.1)).length) (ys1 ++ [j1]))), (5005, some (.arr (i4 0) 55 4 (all2.map AE.row))), (8225, some (.mb (i1 1) (i1 2) 55 (AM AE.row (Ai m3 k1 (AE.mk x1.Item x1.Parent x1.Place ((AN w2 k1).getD [])))))), (8226, some (.md (i1 3) (AM (fun (l : List AG) => RV.sl (l.map AG.row)) w2)))], n2, 80⟩) (by exact AL ⟨.inl (.inl rfl), .inl (.inl rfl), .inl (.inl rfl), .inl (.inl rfl), .inl (.inl rfl), trivial⟩ ⟨.inl rfl, .inl rfl, .inl rfl, .inl rfl, .inl rfl, .inl rfl, .inl rfl, trivial⟩ (Nat.le_refl _)) ?_
    refine AW.region ?_
    refine AB.step rfl rfl rfl (AD (AI rfl (.inl rfl)) _) ?_
    refine AB.step rfl rfl rfl (AD (AI rfl (.inl rfl)) _) ?_
    refine AB.step rfl rfl rfl (AD (F7 rfl (.inl rfl) rfl (by rw [Du ex1]) (fun _ => (DV _ _ _))) _) ?_
    refine AB.step rfl rfl rfl (AD (Mb (a := (AE.mk x1.Item x1.Parent x1.Place ((AN w2 k1).getD []))) (cs := [.r (.int .i64 ((AE.mk x1.Item x1.Parent x1.Place ((AN w2 k1).getD [])).Item)), .r (.int .i64 ((AE.mk x1.Item x1.Parent x1.Place ((AN w2 k1).getD [])).Parent)), .r (.str ((AE.mk x1.Item x1.Parent x1.Place ((AN w2 k1).getD [])).Place)), .r (.sl (((AE.mk x1.Item x1.Parent x1.Place ((AN w2 k1).getD [])).Attrs).map AG.row))]) rfl CL (.inl rfl) rfl (by rw [Du ex1]) (fun _ => (DV _ _ _)) rfl rfl) _) ?_
    refine AB.step rfl rfl rfl (B3 55 rfl Ao (f := AE.row) (l := ([(AE.mk x1.Item x1.Parent x1.Place ((AN w2 k1).getD []))] : List AE)) ⟨rfl, ⟨_, (.inl rfl), rfl⟩, trivial⟩ rfl (fun _ => rfl) rfl) ?_
    refine AU h4 fun all4 eall4 h5 => ?_
    refine AB.step rfl rfl rfl (DE rfl Ao (.inl rfl) rfl (.inr (.inl ⟨_, _, (.inl rfl), rfl⟩)) eall4) ?_
    refine AB.step rfl rfl rfl (AD (AK rfl (.inl rfl)) _) ?_
    refine AB.nil ?_
    show Exit.normal = Exit.normal ∧ ∃ i' : Nat → Nat, AJ _ _
    have hfin := Option.some.inj h5; subst hfin
    exact ⟨rfl, (Ab [(n2 + 1), (G1 15), (n2 + 2)]), (AJ.trans (show AJ _ ⟨[(3, .ptr 14 (i1 0) 0 0), (4, .ptr 4 (n1 + 1) 0 0), (5, .own 5005 (n2 + 1)), (20, .ptr 20 (n1 + 2) 0 0)], [(4, some (.box (n1 + 1) 82 [.mref 15 n1])), (14, some (.box (i1 0) 76 [.mref 8225 (i1 1), .mref 8226 (i1 3)])), (15, some (.mr n1 (G1 15) 55 4 none (AM (fun (l : List AE) => l.map AE.row) (Ai m4 ((AE.mk x1.Item x1.Parent x1.Place ((AN w2 k1).getD [])).Parent) l2)))), (20, some (.mj (n1 + 2) 8225 (i1 1) ((w1.map (·.1)).length) (ys1 ++ [j1]))), (5005, some (.arr (n2 + 1) 55 4 (all4.map AE.row))), (8225, some (.mb (i1 1) (i1 2) 55 (AM AE.row (Ai m3 k1 (AE.mk x1.Item x1.Parent x1.Place ((AN w2 k1).getD [])))))), (8226, some (.md (i1 3) (AM (fun (l : List AG) => RV.sl (l.map AG.row)) w2)))], (n2 + 2), 80⟩ from (by exact AL ⟨.inl (.inl rfl), .inl (.inl rfl), .inl (.inl rfl), .inl (.inl rfl), trivial⟩ ⟨.inl rfl, .inl rfl, .inl rfl, .inl rfl, .inl rfl, .inl rfl, .inl rfl, trivial⟩ (Nat.le_refl _))) (by exact AL ⟨.inl (.inl rfl), .inl (.inl rfl), .inl (.inl rfl), .inl (.inl rfl), trivial⟩ ⟨.inl rfl, .inl rfl, .inl rfl, .inl rfl, .inl rfl, .inl rfl, .inl rfl, trivial⟩ (Nat.le_refl _)))⟩
  intro a0 i4 h60
  obtain ⟨all2, m3, m4⟩ := a0
  have h6 := Q3 h60
  refine hK5 _ ?_
  refine AH fun K10 hK10 wK10 => ?_
  refine AW.region ?_
  refine AB.step rfl rfl rfl (Bs (cs := [.cst (.slice none 0 0)]) 8 rfl Gx rfl rfl) ?_
  refine AB.nil ?_
  refine hK10 _ ?_
  refine AH fun K11 hK11 wK11 => ?_
  refine AW.region ?_
  refine AB.step rfl rfl rfl (KR RV.bool 57 rfl) ?_
  refine AB.step rfl rfl rfl (Bs (cs := [.cst (.map none)]) 9 rfl Lr rfl rfl) ?_
  refine BG rfl rfl (Ba (ds := [.mref 57 ((i4 2) + 1)]) rfl M3 (.inl rfl) rfl (.inl rfl) rfl rfl rfl rfl) ?_
  refine AB.nil ?_
  refine hK11 _ ?_
  refine AH fun K12 hK12 wK12 => ?_
  refine AW.region ?_
  refine AB.step rfl rfl rfl (Bs (cs := [.cst (.nilFunc)]) 10 rfl L2 rfl rfl) ?_
  refine AB.nil ?_
  refine hK12 _ ?_
  refine AH fun K13 hK13 wK13 => ?_
  refine AW.region ?_
  refine AB.step rfl rfl rfl (AD (JY (bs := [.ptr 4 (n1 + 1) 0 0, .ptr 8 (i4 2) 0 0, .ptr 9 ((i4 2) + 2) 0 0, .ptr 10 ((i4 2) + 3) 0 0]) rfl (by exact ⟨(.inl rfl), (.inl rfl), (.inl rfl), (.inl rfl), trivial⟩)) _) ?_
  refine BG rfl rfl (Ba (ds := [.fn 44 [.ptr 4 (n1 + 1) 0 0, .ptr 8 (i4 2) 0 0, .ptr 9 ((i4 2) + 2) 0 0, .ptr 10 ((i4 2) + 3) 0 0]]) rfl NB (.inl rfl) rfl (.inl rfl) rfl rfl rfl rfl) ?_
  refine AB.nil ?_
  refine hK13 _ ?_
  refine AH fun K14 hK14 wK14 => ?_
  refine AW.region ?_
  refine AB.step rfl rfl rfl (AD (AR (a := .fn 44 [.ptr 4 (n1 + 1) 0 0, .ptr 8 (i4 2) 0 0, .ptr 9 ((i4 2) + 2) 0 0, .ptr 10 ((i4 2) + 3) 0 0]) rfl Ig (.inl rfl) rfl rfl) _) ?_
  refine AB.weak (AJ.trans (Nb 8 0 3080 55 4 (by decide) rfl rfl (by decide)) (by exact AL (e' := [(3, .ptr 14 (i1 0) 0 0), (4, .ptr 4 (n1 + 1) 0 0), (5, .own 5005 (i4 0)), (8, .ptr 8 (i4 2) 0 0), (9, .ptr 9 ((i4 2) + 2) 0 0), (10, .ptr 10 ((i4 2) + 3) 0 0), (57, .mref 57 ((i4 2) + 1)), (58, .fn 44 [.ptr 4 (n1 + 1) 0 0, .ptr 8 (i4 2) 0 0, .ptr 9 ((i4 2) + 2) 0 0, .ptr 10 ((i4 2) + 3) 0 0]), (59, .fn 44 [.ptr 4 (n1 + 1) 0 0, .ptr 8 (i4 2) 0 0, .ptr 9 ((i4 2) + 2) 0 0, .ptr 10 ((i4 2) + 3) 0 0])]) (h' := [(4, some (.box (n1 + 1) 82 [.mref 15 n1])), (8, some (.box (i4 2) 24 [.own 3080 ((i4 2) + 4)])), (9, some (.box ((i4 2) + 2) 63 [.mref 57 ((i4 2) + 1)])), (10, some (.box ((i4 2) + 3) 83 [.fn 44 [.ptr 4 (n1 + 1) 0 0, .ptr 8 (i4 2) 0 0, .ptr 9 ((i4 2) + 2) 0 0, .ptr 10 ((i4 2) + 3) 0 0]])), (14, some (.box (i1 0) 76 [.mref 8225 (i1 1), .mref 8226 (i1 3)])), (15, some (.mr n1 (i4 1) 55 4 none (AM (fun (l : List AE) => l.map AE.row) m4))), (57, some (.md ((i4 2) + 1) (AM RV.bool ([] : List (Int × Bool))))), (3080, some (.arr ((i4 2) + 4) 55 4 (([] : List AE).map AE.row))), (5005, some (.arr (i4 0) 55 4 (all2.map AE.row))), (8225, some (.mb (i1 1) (i1 2) 55 (AM AE.row m3))), (8226, some (.md (i1 3) (AM (fun (l : List AG) => RV.sl (l.map AG.row)) w2)))]) ⟨.inl (.inl rfl), .inl (.inl rfl), .inl (.inl rfl), .inl (.inl rfl), .inl (.inl rfl), .inl (.inl rfl), .inl (.inl rfl), .inl (.inl rfl), .inl (.inl rfl), trivial⟩ ⟨.inl rfl, .inl rfl, .inl rfl, .inl rfl, .inl rfl, .inl rfl, .inl rfl, .inl rfl, .inl rfl, .inl rfl, .inl rfl, trivial⟩ (Nat.le_refl _))) ?_
  refine MM h6 fun w3 w4 w5 ew3 h7 => ?_
  refine Ds [4, 15, 8, 3080, 9, 57, 10] (hc := [(1000, some (.box (n1 + 1) 82 [.mref 1001 n1])), (1001, some (.mr n1 (i4 1) 55 4 none (AM (fun (l : List AE) => l.map AE.row) m4))), (1002, some (.box (i4 2) 24 [.own 1003 ((i4 2) + 4)])), (1003, some (.arr ((i4 2) + 4) 55 4 (([] : List AE).map AE.row))), (1004, some (.box ((i4 2) + 2) 63 [.mref 1005 ((i4 2) + 1)])), (1005, some (.md ((i4 2) + 1) (AM RV.bool ([] : List (Int × Bool))))), (1006, some (.box ((i4 2) + 3) 83 [.fn 44 [.ptr 1000 (n1 + 1) 0 0, .ptr 1002 (i4 2) 0 0, .ptr 1004 ((i4 2) + 2) 0 0, .ptr 1006 ((i4 2) + 3) 0 0]]))]) (bs := [.r (.int .i64 0)]) (caps := [.ptr 1000 (n1 + 1) 0 0, .ptr 1002 (i4 2) 0 0, .ptr 1004 ((i4 2) + 2) 0 0, .ptr 1006 ((i4 2) + 3) 0 0]) rfl rfl rfl rfl (.inl rfl) rfl ⟨.inl ⟨(.inl rfl), rfl⟩, trivial⟩ ⟨rfl, rfl, rfl, rfl, rfl, rfl, rfl, rfl, rfl, rfl, rfl, rfl, rfl, rfl, rfl, rfl, rfl, rfl, rfl, rfl, rfl, trivial⟩ (by decide) (O1 ew3) ?_
  intro i6 n3
  refine AB.weak (s' := ⟨[(3, .ptr 14 (i1 0) 0 0), (4, .ptr 4 (n1 + 1) 0 0), (5, .own 5005 (i4 0)), (8, .ptr 8 (i4 2) 0 0), (9, .ptr 9 ((i4 2) + 2) 0 0), (10, .ptr 10 ((i4 2) + 3) 0 0), (57, .mref 57 ((i4 2) + 1)), (58, .fn 44 [.ptr 4 (n1 + 1) 0 0, .ptr 8 (i4 2) 0 0, .ptr 9 ((i4 2) + 2) 0 0, .ptr 10 ((i4 2) + 3) 0 0]), (59, .fn 44 [.ptr 4 (n1 + 1) 0 0, .ptr 8 (i4 2) 0 0, .ptr 9 ((i4 2) + 2) 0 0, .ptr 10 ((i4 2) + 3) 0 0]), (60, .tup [])], [(4, some (.box (n1 + 1) 82 [.mref 15 n1])), (8, some (.box (i4 2) 24 [.own 3080 (i6 0)])), (9, some (.box ((i4 2) + 2) 63 [.mref 57 ((i4 2) + 1)])), (10, some (.box ((i4 2) + 3) 83 [.fn 44 [.ptr 4 (n1 + 1) 0 0, .ptr 8 (i4 2) 0 0, .ptr 9 ((i4 2) + 2) 0 0, .ptr 10 ((i4 2) + 3) 0 0]])), (14, some (.box (i1 0) 76 [.mref 8225 (i1 1), .mref 8226 (i1 3)])), (15, some (.mr n1 (i4 1) 55 4 none (AM (fun (l : List AE) => l.map AE.row) w3))), (57, some (.md ((i4 2) + 1) (AM RV.bool w5))), (3080, some (.arr (i6 0) 55 4 (w4.map AE.row))), (5005, some (.arr (i4 0) 55 4 (all2.map AE.row))), (8225, some (.mb (i1 1) (i1 2) 55 (AM AE.row m3))), (8226, some (.md (i1 3) (AM (fun (l : List AG) => RV.sl (l.map AG.row)) w2)))], n3, 80⟩) (by exact AL ⟨.inl (.inl rfl), .inl (.inl rfl), .inl (.inl rfl), .inl (.inl rfl), .inl (.inl rfl), .inl (.inl rfl), .inl (.inl rfl), .inl (.inl rfl), .inl (.inl rfl), .inl (.inl rfl), trivial⟩ ⟨.inl rfl, .inl rfl, .inl rfl, .inl rfl, .inl rfl, .inl rfl, .inl rfl, .inl rfl, .inl rfl, .inl rfl, .inl rfl, trivial⟩ (Nat.le_refl _)) ?_
  refine AB.nil ?_
  refine hK14 _ ?_
  refine AH fun K15 hK15 wK15 => ?_
  refine AW.region ?_
  refine AB.step rfl rfl rfl (AD (AI rfl (.inl rfl)) _) ?_
  refine AU h7 fun w6 ew6 h8 => ?_
  refine Ds [5005] (hc := [(1000, some (.arr (i4 0) 55 4 (all2.map AE.row)))]) (bs := [.own 1000 (i4 0), .fn 50 []]) (caps := []) rfl rfl rfl rfl (.inl rfl) rfl ⟨.inl ⟨(.inl rfl), rfl⟩, .inl ⟨(.inl rfl), rfl⟩, trivial⟩ ⟨rfl, rfl, rfl, trivial⟩ (by decide) ((Sg (row := AE.row) Ml (by decide) (fun _ => rfl) ⟨_, Try.func50, rfl, rfl⟩ (fun _ _ _ h => Rb h)) ew6) ?_
  intro i7 n4
  refine AB.weak (s' := ⟨[(3, .ptr 14 (i1 0) 0 0), (4, .ptr 4 (n1 + 1) 0 0), (5, .own 5005 (i4 0)), (8, .ptr 8 (i4 2) 0 0), (9, .ptr 9 ((i4 2) + 2) 0 0), (10, .ptr 10 ((i4 2) + 3) 0 0), (57, .mref 57 ((i4 2) + 1)), (58, .fn 44 [.ptr 4 (n1 + 1) 0 0, .ptr 8 (i4 2) 0 0, .ptr 9 ((i4 2) + 2) 0 0, .ptr 10 ((i4 2) + 3) 0 0]), (59, .fn 44 [.ptr 4 (n1 + 1) 0 0, .ptr 8 (i4 2) 0 0, .ptr 9 ((i4 2) + 2) 0 0, .ptr 10 ((i4 2) + 3) 0 0]), (60, .tup []), (61, .own 5005 (i4 0)), (62, .tup [])], [(4, some (.box (n1 + 1) 82 [.mref 15 n1])), (8, some (.box (i4 2) 24 [.own 3080 (i6 0)])), (9, some (.box ((i4 2) + 2) 63 [.mref 57 ((i4 2) + 1)])), (10, some (.box ((i4 2) + 3) 83 [.fn 44 [.ptr 4 (n1 + 1) 0 0, .ptr 8 (i4 2) 0 0, .ptr 9 ((i4 2) + 2) 0 0, .ptr 10 ((i4 2) + 3) 0 0]])), (14, some (.box (i1 0) 76 [.mref 8225 (i1 1), .mref 8226 (i1 3)])), (15, some (.mr n1 (i4 1) 55 4 none (AM (fun (l : List AE) => l.map AE.row) w3))), (57, some (.md ((i4 2) + 1) (AM RV.bool w5))), (3080, some (.arr (i6 0) 55 4 (w4.map AE.row))), (5005, some (.arr (i4 0) 55 4 (w6.map AE.row))), (8225, some (.mb (i1 1) (i1 2) 55 (AM AE.row m3))), (8226, some (.md (i1 3) (AM (fun (l : List AG) => RV.sl (l.map AG.row)) w2)))], n4, 80⟩) (by exact AL ⟨.inl (.inl rfl), .inl (.inl rfl), .inl (.inl rfl), .inl (.inl rfl), .inl (.inl rfl), .inl (.inl rfl), .inl (.inl rfl), .inl (.inl rfl), .inl (.inl rfl), .inl (.inl rfl), .inl (.inl rfl), .inl (.inl rfl), trivial⟩ ⟨.inl rfl, .inl rfl, .inl rfl, .inl rfl, .inl rfl, .inl rfl, .inl rfl, .inl rfl, .inl rfl, .inl rfl, .inl rfl, trivial⟩ (Nat.le_refl _)) ?_
  refine AB.nil ?_
  refine hK15 _ ?_
  refine AH fun K16 hK16 wK16 => ?_
  refine AH fun K17 hK17 wK17 => ?_
  refine AW.weak (s' := ⟨[(5, .own 5005 (i4 0)), (8, .ptr 8 (i4 2) 0 0), (9, .ptr 9 ((i4 2) + 2) 0 0)], [(8, some (.box (i4 2) 24 [.own 3080 (i6 0)])), (9, some (.box ((i4 2) + 2) 63 [.mref 57 ((i4 2) + 1)])), (57, some (.md ((i4 2) + 1) (AM RV.bool w5))), (3080, some (.arr (i6 0) 55 4 (w4.map AE.row))), (5005, some (.arr (i4 0) 55 4 (w6.map AE.row)))], n4, 80⟩) (by exact AL ⟨.inl (.inl rfl), .inl (.inl rfl), .inl (.inl rfl), trivial⟩ ⟨.inl rfl, .inl rfl, .inl rfl, .inl rfl, .inl rfl, trivial⟩ (Nat.le_refl _)) ?_
  refine AW.region ?_
  refine AB.step rfl rfl rfl (AD (AI rfl (.inl rfl)) _) ?_
  refine AB.step rfl rfl rfl (AD (EG rfl Ao.slice (.inl rfl) rfl) _) ?_
  refine AB.step rfl rfl rfl (AD (AI rfl (.inl rfl)) _) ?_
  refine AB.nil ?_
  refine hK17 _ ?_
  refine AW.block ?_
  refine Cj h8 fun o1 hit1 hk2 => ?_
  have J1 : ∀ (out4 : List AE) (i12 : Nat → Nat), o1 = out4 → K16 ⟨[(8, .ptr 8 (i4 2) 0 0)], [(8, some (.box (i4 2) 24 [.own 3080 (i12 0)])), (3080, some (.arr (i12 0) 55 4 (out4.map AE.row)))], (i12 1), 80⟩ := by
    intro out4 i12 e
    have h9 := hk2 _ e
    refine hK16 _ ?_
    refine AH fun K18 hK18 wK18 => ?_
    refine AW.region ?_
    refine AB.step rfl rfl rfl (AD (AR (a := .own 3080 (i12 0)) rfl H3 (.inl rfl) rfl rfl) _) ?_
    refine AB.step rfl rfl rfl (AD (AK rfl (.inl rfl)) _) ?_
    refine AB.nil ?_
    refine hK18 _ ?_
    refine AW.ret ?_
    exact Am (P := Try.prog) (fun (r : (List AE)) => .r (.sl (r.map AE.row))) h9 (.inl rfl) (.t (.one (.own rfl)))
  refine EB (fun (x3 : Int) (out2 : List AE) i10 => ⟨[(8, .ptr 8 (i4 2) 0 0), (9, .ptr 9 ((i4 2) + 2) 0 0), (63, .own 5005 (i4 0)), (64, .r (.int .i64 (w6.length : Int))), (65, .r (.int .i64 x3))], [(8, some (.box (i4 2) 24 [.own 3080 (i10 0)])), (9, some (.box ((i4 2) + 2) 63 [.mref 57 ((i4 2) + 1)])), (57, some (.md ((i4 2) + 1) (AM RV.bool w5))), (3080, some (.arr (i10 0) 55 4 (out2.map AE.row))), (5005, some (.arr (i4 0) 55 4 (w6.map AE.row)))], (i10 1), 80⟩) (Ab [(i6 0), n4]) hit1 ((by exact AL ⟨.inl (.inl rfl), .inl (.inl rfl), .inl (.inl rfl), .inl (.inl rfl), .inl (.inl rfl), trivial⟩ ⟨.inl rfl, .inl rfl, .inl rfl, .inl rfl, .inl rfl, trivial⟩ (Nat.le_refl _))) ?_
  intro x3 out2 i10 v1 hv1 hx1
  have h10 : EE w5 w6 x3 out2 = some v1 := hv1; unfold EE at h10
  refine AH fun K19 hK19 wK19 => ?_
  refine AW.region ?_
  refine AB.step rfl rfl rfl (AD (Ar rfl (.inl rfl) (.inl rfl)) _) ?_
  refine AB.nil ?_
  refine hK19 _ ?_
  refine AH fun K20 hK20 wK20 => ?_
  refine AW.cond rfl (fun hc1 => ?_) (fun hc1 => ?_)
  · have h11 := Ag hc1 h10
    refine AW.skip ?_
    refine hK20 _ ?_
    refine AH fun K21 hK21 wK21 => ?_
    refine AW.block ?_
    refine Cj h11 fun p1 hp1 hk3 => ?_
    have J2 : ∀ (out5 : List AE) (i13 : Nat → Nat), p1 = out5 → K21 ⟨[(8, .ptr 8 (i4 2) 0 0), (9, .ptr 9 ((i4 2) + 2) 0 0), (63, .own 5005 (i4 0)), (64, .r (.int .i64 (w6.length : Int))), (65, .r (.int .i64 x3))], [(8, some (.box (i4 2) 24 [.own 3080 (i13 0)])), (9, some (.box ((i4 2) + 2) 63 [.mref 57 ((i4 2) + 1)])), (57, some (.md ((i4 2) + 1) (AM RV.bool w5))), (3080, some (.arr (i13 0) 55 4 (out5.map AE.row))), (5005, some (.arr (i4 0) 55 4 (w6.map AE.row)))], (i13 1), 80⟩ := by
      intro out5 i13 e
      have h12 := hk3 _ e
      refine hK21 _ ?_
      refine AW.region ?_
      refine AU h12 fun x5 ex5 h13 => ?_
      refine AB.step rfl rfl rfl (AD (BC rfl (.inl rfl) (.inl rfl) (fun _ => ex5)) _) ?_
      refine AB.step rfl rfl rfl (AD (AI rfl (.inl rfl)) _) ?_
      refine AB.nil ?_
      exact DD.mk h13 (Ab [(i13 0), (i13 1)]) ((by exact AL ⟨.inl (.inl rfl), .inl (.inl rfl), .inl (.inl rfl), .inl (.inl rfl), .inl (.inl rfl), trivial⟩ ⟨.inl rfl, .inl rfl, .inl rfl, .inl rfl, .inl rfl, trivial⟩ (Nat.le_refl _)))
    refine AH fun K22 hK22 wK22 => ?_
    refine AW.region ?_
    refine AU hp1 fun x6 ex6 h14 => ?_
    refine AB.step rfl rfl rfl (AD (EO rfl Ao.slice (.inl rfl) rfl (.inl rfl) (fun _ => ex6)) _) ?_
    refine AB.step rfl rfl rfl (AD (KP (cs := [.r (.int .i64 x6.Item), .r (.int .i64 x6.Parent), .r (.str x6.Place), .r (.sl (x6.Attrs.map AG.row))]) rfl CL (.inl rfl) (fun _ => rfl) (fun _ => ex6) rfl) _) ?_
    refine AB.step rfl rfl rfl (Bs (cs := [.r (.int .i64 0), .r (.int .i64 0), .r (.str []), .cst (.slice none 0 0)]) 12 rfl Fe rfl rfl) ?_
    refine BG rfl rfl (Ba (ds := [.r (.int .i64 x6.Item), .r (.int .i64 x6.Parent), .r (.str x6.Place), .r (.sl (x6.Attrs.map AG.row))]) rfl E6 (.inl rfl) rfl (.inl rfl) rfl rfl rfl rfl) ?_
    refine AB.nil ?_
    refine hK22 _ ?_
    refine AH fun K23 hK23 wK23 => ?_
    refine AW.region ?_
    refine AB.step rfl rfl rfl (AD (AR (a := .mref 57 ((i4 2) + 1)) rfl IL (.inl rfl) rfl rfl) _) ?_
    refine AB.step rfl rfl rfl (AD (AX (ob := .box _ _ _) rfl Bf (.inl rfl) (fun _ => rfl) rfl) _) ?_
    refine AB.step rfl rfl rfl (AD (AR (a := .r (.int .i64 x6.Item)) rfl Ae (.inl rfl) rfl rfl) _) ?_
    refine AB.step rfl rfl rfl (AD (JA (rd := RV.bool) false (.bool false) false rfl Try.underlying63 Try.underlying3 (En NQ) (fun _ _ => .bool _) (.inl rfl) (.inl rfl) rfl) _) ?_
    refine AB.step rfl rfl rfl (AD (Bi rfl (.inl rfl)) _) ?_
    refine AB.nil ?_
    refine hK23 _ ?_
    refine AW.cond rfl (fun hc2 => ?_) (fun hc2 => ?_)
    · have h15 := Ag hc2 h14
      refine AW.region ?_
      refine AB.step rfl rfl rfl (AD (AR (a := .own 3080 (i10 0)) rfl H3 (.inl rfl) rfl rfl) _) ?_
      refine AB.step rfl rfl rfl (AD (C7 rfl CL (.inl rfl) rfl rfl) _) ?_
      refine AB.step rfl rfl rfl (B3 76 rfl Ao (f := AE.row) (l := ([x6] : List AE)) ⟨rfl, ⟨_, (.inl rfl), rfl⟩, trivial⟩ rfl (fun _ => rfl) rfl) ?_
      refine AU h15 fun l3 el3 h16 => ?_
      refine AB.step rfl rfl rfl (DE rfl Ao (.inl rfl) rfl (.inr (.inl ⟨_, _, (.inl rfl), rfl⟩)) el3) ?_
      refine BG rfl rfl (Ba (ds := [.own 3080 ((i10 1) + 2)]) rfl Ke (.inl rfl) rfl (.inl rfl) rfl rfl rfl rfl) ?_
      refine AB.nil ?_
      exact wK21 _ _ ((by exact AL ⟨.inl (.inl rfl), .inl (.inl rfl), .inl (.inl rfl), .inl (.inl rfl), .inl (.inl rfl), trivial⟩ ⟨.inl rfl, .inl rfl, .inl rfl, .inl rfl, .inl rfl, trivial⟩ (Nat.le_refl _))) (J2 _ (Ab [((i10 1) + 2), ((i10 1) + 3)]) (Option.some.inj h16).symm)
    · have h15 := Ah hc2 h14
      refine AW.skip ?_
      exact wK21 _ _ ((by exact AL ⟨.inl (.inl rfl), .inl (.inl rfl), .inl (.inl rfl), .inl (.inl rfl), .inl (.inl rfl), trivial⟩ ⟨.inl rfl, .inl rfl, .inl rfl, .inl rfl, .inl rfl, trivial⟩ (Nat.le_refl _))) (J2 _ (Ab [(i10 0), ((i10 1) + 1)]) (Option.some.inj h15).symm)
  · have h11 := Ah hc1 h10
    refine AW.exit ?_
    exact wK16 _ _ ((by exact AL ⟨.inl (.inl rfl), trivial⟩ ⟨.inl rfl, .inl rfl, trivial⟩ (Nat.le_refl _))) (J1 _ (Ab [(i10 0), (i10 1)]) (hx1 _ (Option.some.inj h11).symm))
theorem Ps {l1 : List AP} {r : (List AE) × Int} (h : IK l1 = some r) : Af Try.prog 8 [.r (.sl (l1.map AP.row))] (.tup [.r (.sl (r.1.map AE.row)), .r (.int .i64 r.2)]) := by
  unfold IK at h
  refine A6 Try.func8 rfl rfl Try.ntmps8 rfl (Nat.le_of_ble_eq_true rfl) fun n0 => ?_
  refine AH fun K1 hK1 wK1 => ?_
  refine AW.region ?_
  refine AB.step rfl rfl rfl (AD (AK rfl (.inl rfl)) _) ?_
  refine AB.step rfl rfl rfl (AD (AK rfl (.inl rfl)) _) ?_
  refine AB.nil ?_
  refine hK1 _ ?_
  refine AH fun K2 hK2 wK2 => ?_
  refine AH fun K3 hK3 wK3 => ?_
  refine AW.region ?_
  refine AB.step rfl rfl rfl (AD (AI rfl (.inl rfl)) _) ?_
  refine AU h fun e1 ee1 h1 => ?_
  refine AB.step rfl rfl rfl (A7 (r := .r (.int .i64 e1)) (caps := []) (bs := [.r (.sl (l1.map AP.row))]) rfl (.inl rfl) rfl ⟨⟨_, (.inl rfl), .d rfl⟩, trivial⟩ (fun _ => Rx (ee1)) rfl) ?_
  refine AB.step rfl rfl rfl (AD (AK rfl (.inl rfl)) _) ?_
  refine AB.nil ?_
  refine hK3 _ ?_
  refine AH fun K4 hK4 wK4 => ?_
  refine AW.region ?_
  refine AB.step rfl rfl rfl (AD (AI rfl (.inl rfl)) _) ?_
  refine AB.step rfl rfl rfl (AD (Bq rfl (.inl rfl) (.inl rfl)) _) ?_
  refine AB.nil ?_
  refine hK4 _ ?_
  refine AW.cond rfl (fun hc1 => ?_) (fun hc1 => ?_)
  · have h2 := Ag hc1 h1
    refine AH fun K5 hK5 wK5 => ?_
    refine AW.region ?_
    refine AB.step rfl rfl rfl (AD (AI rfl (.inl rfl)) _) ?_
    refine AB.step rfl rfl rfl (AD (AK rfl (.inl rfl)) _) ?_
    refine AB.step rfl rfl rfl (AD (AK rfl (.inl rfl)) _) ?_
    refine AB.nil ?_
    refine hK5 _ ?_
    refine AW.ret ?_
    exact HS (P := Try.prog) (fun (r : (List AE) × Int) => .r (.sl (r.1.map AE.row))) (fun (r : (List AE) × Int) => .r (.int .i64 r.2)) h2 (.inl rfl) (.t (.one (.nil))) (.t (.d rfl))
  · have h2 := Ah hc1 h1
    refine AW.skip ?_
    refine hK2 _ ?_
    refine AH fun K6 hK6 wK6 => ?_
    refine AW.region ?_
    refine AB.step rfl rfl rfl (AD (AI rfl (.inl rfl)) _) ?_
    refine AU h2 fun r1 er1 h3 => ?_
    refine AB.step rfl rfl rfl (Dw (r := .r (.sl (r1.map AE.row))) (caps := []) (bs := [.r (.sl (l1.map AP.row))]) rfl (.inl rfl) rfl ⟨.inl ⟨(.inl rfl), rfl⟩, trivial⟩ (fun _ => Ra (er1))) ?_
    refine AB.step rfl rfl rfl (AD (AK rfl (.inl rfl)) _) ?_
    refine AB.step rfl rfl rfl (AD (AK rfl (.inl rfl)) _) ?_
    refine AB.nil ?_
    refine hK6 _ ?_
    refine AW.ret ?_
    exact HS (P := Try.prog) (fun (r : (List AE) × Int) => .r (.sl (r.1.map AE.row))) (fun (r : (List AE) × Int) => .r (.int .i64 r.2)) h3 (.inl rfl) (.t (.d rfl)) (.t (.d rfl))
theorem Il {x1 : Int} {low1 : Int} {high1 : Int} {r : Bool} (h : Eo x1 low1 high1 = some r) : Af Try.prog 21 [.r (.int .i64 x1), .r (.int .i64 low1), .r (.int .i64 high1)] (.r (.bool r)) := by
  unfold Eo at h
  refine A6 Try.func21 rfl rfl Try.ntmps21 rfl (Nat.le_of_ble_eq_true rfl) fun n0 => ?_
  refine AH fun K1 hK1 wK1 => ?_
  refine AW.region ?_
  refine AB.step rfl rfl rfl (AD (AK rfl (.inl rfl)) _) ?_
  refine AB.nil ?_
  refine hK1 _ ?_
  refine AH fun K2 hK2 wK2 => ?_
  refine AW.region ?_
  refine AB.step rfl rfl rfl (AD (AI rfl (.inl rfl)) _) ?_
  refine AB.step rfl rfl rfl (AD (AI rfl (.inl rfl)) _) ?_
  refine AB.step rfl rfl rfl (AD (C8 rfl (.inl rfl) (.inl rfl)) _) ?_
  refine AB.step rfl rfl rfl (AD (AI rfl (.inl rfl)) _) ?_
  refine AB.stepW (.one rfl rfl rfl) rfl rfl (AD (AI rfl (.inl rfl)) _) ?_
  refine AB.stepW (.one rfl rfl rfl) rfl rfl (AD (AI rfl (.inl rfl)) _) ?_
  refine AB.stepW (.one rfl rfl rfl) rfl rfl (AD (ET rfl (.inr ⟨_, (by exact id), rfl⟩) (.inr ⟨_, (by exact id), rfl⟩)) _) ?_
  refine AB.step rfl rfl rfl (AD (A0 rfl (.inl rfl) (.inr ⟨_, (by exact id), rfl⟩)) _) ?_
  refine AB.step rfl rfl rfl (AD (AK rfl (.inl rfl)) _) ?_
  refine AB.nil ?_
  refine hK2 _ ?_
  refine AW.ret ?_
  exact Am (P := Try.prog) (fun (r : Bool) => .r (.bool r)) h (.inl rfl) (.t (.d rfl))
theorem SJ {s1 : List UInt8} {r : Bool} (h : Hg s1 = some r) : Af Try.prog 14 [.r (.str s1)] (.r (.bool r)) := by
  unfold Hg at h
  refine A6 Try.func14 rfl rfl Try.ntmps14 rfl (Nat.le_of_ble_eq_true rfl) fun n0 => ?_
  refine AH fun K1 hK1 wK1 => ?_
  refine AW.region ?_
  refine AB.step rfl rfl rfl (AD (AK rfl (.inl rfl)) _) ?_
  refine AB.nil ?_
  refine hK1 _ ?_
  refine AH fun K2 hK2 wK2 => ?_
  refine AH fun K3 hK3 wK3 => ?_
  refine AW.region ?_
  refine AB.step rfl rfl rfl (AD (AI rfl (.inl rfl)) _) ?_
  refine AB.step rfl rfl rfl (AD (B9 rfl Try.underlying9 (.inl rfl)) _) ?_
  refine AB.step rfl rfl rfl (AD (AI rfl (.inl rfl)) _) ?_
  refine AB.nil ?_
  refine hK3 _ ?_
  refine AW.block ?_
  refine B5 h fun o1 hit1 hk1 he1 => ?_
  have J1 : ∀ (u2 : Unit) (i5 : Nat → Nat), o1 = .nrm u2 → K2 ⟨[(0, .r (.str s1))], [], (i5 0), 36⟩ := by
    intro u2 i5 e
    have h1 := hk1 _ e
    refine hK2 _ ?_
    refine AH fun K4 hK4 wK4 => ?_
    refine AW.region ?_
    refine AB.step rfl rfl rfl (AD (AI rfl (.inl rfl)) _) ?_
    refine AB.step rfl rfl rfl (AD (B9 rfl Try.underlying9 (.inl rfl)) _) ?_
    refine AB.step rfl rfl rfl (AD (C8 rfl (.inl rfl) (.inl rfl)) _) ?_
    refine AB.step rfl rfl rfl (AD (AI rfl (.inl rfl)) _) ?_
    refine AB.stepW (.one rfl rfl rfl) rfl rfl (AD (AI rfl (.inl rfl)) _) ?_
    refine AB.stepW (.one rfl rfl rfl) rfl rfl (AD (B9 rfl Try.underlying9 (.inr ⟨_, (by exact id), rfl⟩)) _) ?_
    refine AB.stepW (.one rfl rfl rfl) rfl rfl (AD (ET rfl (.inr ⟨_, (by exact id), rfl⟩) (.inl rfl)) _) ?_
    refine AB.step rfl rfl rfl (AD (A0 rfl (.inl rfl) (.inr ⟨_, (by exact id), rfl⟩)) _) ?_
    refine AB.step rfl rfl rfl (AD (AI rfl (.inl rfl)) _) ?_
    refine AB.stepW (.one rfl rfl rfl) rfl rfl (AD (AI rfl (.inl rfl)) _) ?_
    refine AB.stepW (.one rfl rfl rfl) rfl rfl (AD (AI rfl (.inl rfl)) _) ?_
    refine AB.stepW (.one rfl rfl rfl) rfl rfl (AD (B9 rfl Try.underlying9 (.inr ⟨_, (by exact id), rfl⟩)) _) ?_
    refine AU h1 fun x4 ex4 h2 => ?_
    refine AB.stepW (.one rfl rfl rfl) rfl rfl (AD (Es rfl (.inr ⟨_, (by exact id), rfl⟩) (.inl rfl) (BL ex4)) _) ?_
    refine AU h2 fun ch1 ech1 h3 => ?_
    refine AB.stepW (.one rfl rfl rfl) rfl rfl (AD (Bg rfl Try.underlying9 (.inr ⟨_, (by exact id), rfl⟩) (.inr ⟨_, (by exact id), rfl⟩) (BL ech1)) _) ?_
    refine AB.stepW (.one rfl rfl rfl) rfl rfl (AD (Bq rfl (.inr ⟨_, (by exact id), rfl⟩) (.inl rfl)) _) ?_
    refine AB.step rfl rfl rfl (AD (A0 rfl (.inl rfl) (.inr ⟨_, (by exact id), rfl⟩)) _) ?_
    refine AB.step rfl rfl rfl (AD (AK rfl (.inl rfl)) _) ?_
    refine AB.nil ?_
    refine hK4 _ ?_
    refine AW.ret ?_
    exact Am (P := Try.prog) (fun (r : Bool) => .r (.bool r)) h3 (.inl rfl) (.t (.d rfl))
  refine DG (fun (x2 : Int) i3 => ⟨[(0, .r (.str s1)), (5, .r (.int .i64 (s1.length : Int))), (6, .r (.int .i64 x2))], [], (i3 0), 36⟩) (Ab [n0]) hit1 ((by exact AL ⟨.inl (.inl rfl), .inl (.inl rfl), .inl (.inl rfl), trivial⟩ trivial (Nat.le_refl _))) ?_
  intro x2 i3 v1 hv1 hx1
  have h4 : Ic s1 x2 = some v1 := hv1; unfold Ic at h4
  refine AH fun K5 hK5 wK5 => ?_
  refine AW.region ?_
  refine AB.step rfl rfl rfl (AD (Ar rfl (.inl rfl) (.inl rfl)) _) ?_
  refine AB.nil ?_
  refine hK5 _ ?_
  refine AH fun K6 hK6 wK6 => ?_
  refine AW.cond rfl (fun hc1 => ?_) (fun hc1 => ?_)
  · have h5 := Ag hc1 h4
    refine AW.skip ?_
    refine hK6 _ ?_
    refine AH fun K7 hK7 wK7 => ?_
    refine AW.block ?_
    refine AH fun K8 hK8 wK8 => ?_
    refine AW.region ?_
    refine AB.step rfl rfl rfl (AD (AI rfl (.inl rfl)) _) ?_
    refine AB.step rfl rfl rfl (AD (AK rfl (.inl rfl)) _) ?_
    refine AB.nil ?_
    refine hK8 _ ?_
    refine AH fun K9 hK9 wK9 => ?_
    refine AW.region ?_
    refine AB.step rfl rfl rfl (AD (AI rfl (.inl rfl)) _) ?_
    refine AB.step rfl rfl rfl (AD (AI rfl (.inl rfl)) _) ?_
    refine AU h5 fun ch2 ech2 h6 => ?_
    refine AB.step rfl rfl rfl (AD (Bg rfl Try.underlying9 (.inl rfl) (.inl rfl) (fun _ => ech2)) _) ?_
    refine AB.step rfl rfl rfl (AD (Ar rfl (.inl rfl) (.inl rfl)) _) ?_
    refine AB.step rfl rfl rfl (AD (AI rfl (.inl rfl)) _) ?_
    refine AB.stepW (.one rfl rfl rfl) rfl rfl (AD (AI rfl (.inl rfl)) _) ?_
    refine AB.stepW (.one rfl rfl rfl) rfl rfl (AD (AI rfl (.inl rfl)) _) ?_
    refine AB.stepW (.one rfl rfl rfl) rfl rfl (AD (Bg rfl Try.underlying9 (.inr ⟨_, (by exact id), rfl⟩) (.inr ⟨_, (by exact id), rfl⟩) (fun _ => ech2)) _) ?_
    refine AB.stepW (.one rfl rfl rfl) rfl rfl (AD (BT rfl (.inr ⟨_, (by exact id), rfl⟩) (.inl rfl)) _) ?_
    refine AB.step rfl rfl rfl (AD (A3 rfl (.inl rfl) (.inr ⟨_, (by exact id), rfl⟩)) _) ?_
    refine AB.nil ?_
    refine hK9 _ ?_
    refine AW.cond rfl (fun hc2 => ?_) (fun hc2 => ?_)
    · have h7 := Ag hc2 h6
      refine AH fun K10 hK10 wK10 => ?_
      refine AW.weak (s' := ⟨[], [], (i3 0), 36⟩) (by exact AL trivial trivial (Nat.le_refl _)) ?_
      refine AW.region ?_
      refine AB.step rfl rfl rfl (AD (AK rfl (.inl rfl)) _) ?_
      refine AB.nil ?_
      refine hK10 _ ?_
      refine AW.ret ?_
      exact Am (P := Try.prog) (fun (r : Bool) => .r (.bool r)) (he1 _ (hx1 _ (Option.some.inj h7).symm)) (.inl rfl) (.t (.d rfl))
    · have h7 := Ah hc2 h6
      refine AW.skip ?_
      refine hK7 _ ?_
      refine AW.weak (s' := ⟨[(0, .r (.str s1)), (5, .r (.int .i64 (s1.length : Int))), (6, .r (.int .i64 x2))], [], (i3 0), 36⟩) (by exact AL ⟨.inl (.inl rfl), .inl (.inl rfl), .inl (.inl rfl), trivial⟩ trivial (Nat.le_refl _)) ?_
      refine AW.region ?_
      refine AU h7 fun x5 ex5 h8 => ?_
      refine AB.step rfl rfl rfl (AD (BC rfl (.inl rfl) (.inl rfl) (fun _ => ex5)) _) ?_
      refine AB.step rfl rfl rfl (AD (AI rfl (.inl rfl)) _) ?_
      refine AB.nil ?_
      exact CZ.mk h8 (Ab [(i3 0)]) ((by exact AL ⟨.inl (.inl rfl), .inl (.inl rfl), .inl (.inl rfl), trivial⟩ trivial (Nat.le_refl _)))
  · have h5 := Ah hc1 h4
    refine AW.exit ?_
    exact wK2 _ _ ((by exact AL ⟨.inl (.inl rfl), trivial⟩ trivial (Nat.le_refl _))) (J1 _ (Ab [(i3 0)]) (hx1 _ (Option.some.inj h5).symm))
theorem PZ {s1 : List UInt8} {r : Bool} (h : Hl s1 = some r) : Af Try.prog 27 [.r (.str s1)] (.r (.bool r)) := by
  unfold Hl at h
  refine A6 Try.func27 rfl rfl Try.ntmps27 rfl (Nat.le_of_ble_eq_true rfl) fun n0 => ?_
  refine AH fun K1 hK1 wK1 => ?_
  refine AW.region ?_
  refine AB.step rfl rfl rfl (AD (AK rfl (.inl rfl)) _) ?_
  refine AB.nil ?_
  refine hK1 _ ?_
  refine AH fun K2 hK2 wK2 => ?_
  refine AH fun K3 hK3 wK3 => ?_
  refine AW.region ?_
  refine AB.step rfl rfl rfl (AD (AI rfl (.inl rfl)) _) ?_
  refine AB.step rfl rfl rfl (AD (B9 rfl Try.underlying9 (.inl rfl)) _) ?_
  refine AB.step rfl rfl rfl (AD (AI rfl (.inl rfl)) _) ?_
  refine AB.nil ?_
  refine hK3 _ ?_
  refine AW.block ?_
  refine B5 h fun o1 hit1 hk1 he1 => ?_
  have J1 : ∀ (u2 : Unit) (i5 : Nat → Nat), o1 = .nrm u2 → K2 ⟨[(0, .r (.str s1))], [], (i5 0), 59⟩ := by
    intro u2 i5 e
    have h1 := hk1 _ e
    refine hK2 _ ?_
    refine AH fun K4 hK4 wK4 => ?_
    refine AW.region ?_
    refine AB.step rfl rfl rfl (AD (AI rfl (.inl rfl)) _) ?_
    refine AB.step rfl rfl rfl (AD (B9 rfl Try.underlying9 (.inl rfl)) _) ?_
    refine AB.step rfl rfl rfl (AD (C8 rfl (.inl rfl) (.inl rfl)) _) ?_
    refine AB.step rfl rfl rfl (AD (AI rfl (.inl rfl)) _) ?_
    refine AB.stepW (.one rfl rfl rfl) rfl rfl (AD (AI rfl (.inl rfl)) _) ?_
    refine AB.stepW (.one rfl rfl rfl) rfl rfl (AD (B9 rfl Try.underlying9 (.inr ⟨_, (by exact id), rfl⟩)) _) ?_
    refine AB.stepW (.one rfl rfl rfl) rfl rfl (AD (ET rfl (.inr ⟨_, (by exact id), rfl⟩) (.inl rfl)) _) ?_
    refine AB.step rfl rfl rfl (AD (A0 rfl (.inl rfl) (.inr ⟨_, (by exact id), rfl⟩)) _) ?_
    refine AB.step rfl rfl rfl (AD (AK rfl (.inl rfl)) _) ?_
    refine AB.nil ?_
    refine hK4 _ ?_
    refine AW.ret ?_
    exact Am (P := Try.prog) (fun (r : Bool) => .r (.bool r)) h1 (.inl rfl) (.t (.d rfl))
  refine DG (fun (x2 : Int) i3 => ⟨[(0, .r (.str s1)), (6, .r (.int .i64 (s1.length : Int))), (7, .r (.int .i64 x2))], [], (i3 0), 59⟩) (Ab [n0]) hit1 ((by exact AL ⟨.inl (.inl rfl), .inl (.inl rfl), .inl (.inl rfl), trivial⟩ trivial (Nat.le_refl _))) ?_
  intro x2 i3 v1 hv1 hx1
  have h2 : GP s1 x2 = some v1 := hv1; unfold GP at h2
  refine AH fun K5 hK5 wK5 => ?_
  refine AW.region ?_
  refine AB.step rfl rfl rfl (AD (Ar rfl (.inl rfl) (.inl rfl)) _) ?_
  refine AB.nil ?_
  refine hK5 _ ?_
  refine AH fun K6 hK6 wK6 => ?_
  refine AW.cond rfl (fun hc1 => ?_) (fun hc1 => ?_)
  · have h3 := Ag hc1 h2
    refine AW.skip ?_
    refine hK6 _ ?_
    refine AH fun K7 hK7 wK7 => ?_
    refine AW.block ?_
    refine AH fun K8 hK8 wK8 => ?_
    refine AW.region ?_
    refine AB.step rfl rfl rfl (AD (AI rfl (.inl rfl)) _) ?_
    refine AB.step rfl rfl rfl (AD (AK rfl (.inl rfl)) _) ?_
    refine AB.nil ?_
    refine hK8 _ ?_
    refine AH fun K9 hK9 wK9 => ?_
    refine AW.region ?_
    refine AB.step rfl rfl rfl (AD (AI rfl (.inl rfl)) _) ?_
    refine AB.step rfl rfl rfl (AD (AI rfl (.inl rfl)) _) ?_
    refine AU h3 fun ch1 ech1 h4 => ?_
    refine AB.step rfl rfl rfl (AD (Bg rfl Try.underlying9 (.inl rfl) (.inl rfl) (fun _ => ech1)) _) ?_
    refine AB.step rfl rfl rfl (AD (C8 rfl (.inl rfl) (.inl rfl)) _) ?_
    refine AB.step rfl rfl rfl (AD (AI rfl (.inl rfl)) _) ?_
    refine AB.stepW (.one rfl rfl rfl) rfl rfl (AD (AI rfl (.inl rfl)) _) ?_
    refine AB.stepW (.one rfl rfl rfl) rfl rfl (AD (AI rfl (.inl rfl)) _) ?_
    refine AB.stepW (.one rfl rfl rfl) rfl rfl (AD (Bg rfl Try.underlying9 (.inr ⟨_, (by exact id), rfl⟩) (.inr ⟨_, (by exact id), rfl⟩) (fun _ => ech1)) _) ?_
    refine AB.stepW (.one rfl rfl rfl) rfl rfl (AD (ET rfl (.inr ⟨_, (by exact id), rfl⟩) (.inl rfl)) _) ?_
    refine AB.step rfl rfl rfl (AD (A0 rfl (.inl rfl) (.inr ⟨_, (by exact id), rfl⟩)) _) ?_
    refine AB.step rfl rfl rfl (AD (AK rfl (.inl rfl)) _) ?_
    refine AB.nil ?_
    refine hK9 _ ?_
    refine AH fun K10 hK10 wK10 => ?_
    refine AW.region ?_
    refine AB.step rfl rfl rfl (AD (AI rfl (.inl rfl)) _) ?_
    refine AB.step rfl rfl rfl (AD (Bi rfl (.inl rfl)) _) ?_
    refine AB.step rfl rfl rfl (AD (AI rfl (.inl rfl)) _) ?_
    refine AB.stepW (.one rfl rfl rfl) rfl rfl (AD (AI rfl (.inl rfl)) _) ?_
    refine AB.stepW (.one rfl rfl rfl) rfl rfl (AD (BH rfl (.inr ⟨_, (by exact id), rfl⟩) (.inl rfl)) _) ?_
    refine AB.stepW (.one rfl rfl rfl) rfl rfl (AD (AI rfl (.inr ⟨_, (by exact id), rfl⟩)) _) ?_
    refine AB.stepW (.two rfl rfl rfl) rfl rfl (AD (AI rfl (.inl rfl)) _) ?_
    refine AB.stepW (.two rfl rfl rfl) rfl rfl (AD (AI rfl (.inl rfl)) _) ?_
    refine AB.stepW (.two rfl rfl rfl) rfl rfl (AD (Bg rfl Try.underlying9 (.inr ⟨_, (by exact id), rfl⟩) (.inr ⟨_, (by exact id), rfl⟩) (fun _ => ech1)) _) ?_
    refine AB.stepW (.two rfl rfl rfl) rfl rfl (AD (Bq rfl (.inr ⟨_, (by exact id), rfl⟩) (.inl rfl)) _) ?_
    refine AB.stepW (.two rfl rfl rfl) rfl rfl (AD (AI rfl (.inr ⟨_, (by exact id), rfl⟩)) _) ?_
    refine AB.stepW (.two rfl rfl rfl) rfl rfl (AD (AI rfl (.inl rfl)) _) ?_
    refine AB.stepW (.two rfl rfl rfl) rfl rfl (AD (AI rfl (.inl rfl)) _) ?_
    refine AB.stepW (.two rfl rfl rfl) rfl rfl (AD (Bg rfl Try.underlying9 (.inr ⟨_, (by exact id), rfl⟩) (.inr ⟨_, (by exact id), rfl⟩) (fun _ => ech1)) _) ?_
    refine AB.stepW (.two rfl rfl rfl) rfl rfl (AD (Bq rfl (.inr ⟨_, (by exact id), rfl⟩) (.inl rfl)) _) ?_
    refine AB.stepW (.two rfl rfl rfl) rfl rfl (AD (A0 rfl (.inr ⟨_, (by exact id), rfl⟩) (.inr ⟨_, (by exact id), rfl⟩)) _) ?_
    refine AB.stepW (.two rfl rfl rfl) rfl rfl (AD (AI rfl (.inr ⟨_, (by exact id), rfl⟩)) _) ?_
    refine AB.stepW (.two rfl rfl rfl) rfl rfl (AD (AI rfl (.inl rfl)) _) ?_
    refine AB.stepW (.two rfl rfl rfl) rfl rfl (AD (AI rfl (.inl rfl)) _) ?_
    refine AB.stepW (.two rfl rfl rfl) rfl rfl (AD (Bg rfl Try.underlying9 (.inr ⟨_, (by exact id), rfl⟩) (.inr ⟨_, (by exact id), rfl⟩) (fun _ => ech1)) _) ?_
    refine AB.stepW (.two rfl rfl rfl) rfl rfl (AD (Ar rfl (.inr ⟨_, (by exact id), rfl⟩) (.inl rfl)) _) ?_
    refine AB.stepW (.two rfl rfl rfl) rfl rfl (AD (AI rfl (.inr ⟨_, (by exact id), rfl⟩)) _) ?_
    refine AB.stepW (.two rfl rfl rfl) rfl rfl (AD (AI rfl (.inl rfl)) _) ?_
    refine AB.stepW (.two rfl rfl rfl) rfl rfl (AD (AI rfl (.inl rfl)) _) ?_
    refine AB.stepW (.two rfl rfl rfl) rfl rfl (AD (Bg rfl Try.underlying9 (.inr ⟨_, (by exact id), rfl⟩) (.inr ⟨_, (by exact id), rfl⟩) (fun _ => ech1)) _) ?_
    refine AB.stepW (.two rfl rfl rfl) rfl rfl (AD (BT rfl (.inr ⟨_, (by exact id), rfl⟩) (.inl rfl)) _) ?_
    refine AB.stepW (.two rfl rfl rfl) rfl rfl (AD (A3 rfl (.inr ⟨_, (by exact id), rfl⟩) (.inr ⟨_, (by exact id), rfl⟩)) _) ?_
    refine AB.stepW (.two rfl rfl rfl) rfl rfl (AD (A0 rfl (.inr ⟨_, (by exact id), rfl⟩) (.inr ⟨_, (by exact id), rfl⟩)) _) ?_
    refine AB.stepW (.one rfl rfl rfl) rfl rfl (AD (A3 rfl (.inr ⟨_, (by exact id), rfl⟩) (.inr ⟨_, (by exact id), rfl⟩)) _) ?_
    refine AB.step rfl rfl rfl (AD (A0 rfl (.inl rfl) (.inr ⟨_, (by exact id), rfl⟩)) _) ?_
    refine AB.nil ?_
    refine hK10 _ ?_
    refine AW.cond rfl (fun hc2 => ?_) (fun hc2 => ?_)
    · have h5 := Ag hc2 h4
      refine AH fun K11 hK11 wK11 => ?_
      refine AW.weak (s' := ⟨[], [], (i3 0), 59⟩) (by exact AL trivial trivial (Nat.le_refl _)) ?_
      refine AW.region ?_
      refine AB.step rfl rfl rfl (AD (AK rfl (.inl rfl)) _) ?_
      refine AB.nil ?_
      refine hK11 _ ?_
      refine AW.ret ?_
      exact Am (P := Try.prog) (fun (r : Bool) => .r (.bool r)) (he1 _ (hx1 _ (Option.some.inj h5).symm)) (.inl rfl) (.t (.d rfl))
    · have h5 := Ah hc2 h4
      refine AW.skip ?_
      refine hK7 _ ?_
      refine AW.weak (s' := ⟨[(0, .r (.str s1)), (6, .r (.int .i64 (s1.length : Int))), (7, .r (.int .i64 x2))], [], (i3 0), 59⟩) (by exact AL ⟨.inl (.inl rfl), .inl (.inl rfl), .inl (.inl rfl), trivial⟩ trivial (Nat.le_refl _)) ?_
      refine AW.region ?_
      refine AU h5 fun x4 ex4 h6 => ?_
      refine AB.step rfl rfl rfl (AD (BC rfl (.inl rfl) (.inl rfl) (fun _ => ex4)) _) ?_
      refine AB.step rfl rfl rfl (AD (AI rfl (.inl rfl)) _) ?_
      refine AB.nil ?_
      exact CZ.mk h6 (Ab [(i3 0)]) ((by exact AL ⟨.inl (.inl rfl), .inl (.inl rfl), .inl (.inl rfl), trivial⟩ trivial (Nat.le_refl _)))
  · have h3 := Ah hc1 h2
    refine AW.exit ?_
    exact wK2 _ _ ((by exact AL ⟨.inl (.inl rfl), trivial⟩ trivial (Nat.le_refl _))) (J1 _ (Ab [(i3 0)]) (hx1 _ (Option.some.inj h3).symm))
theorem SA {s1 : List UInt8} {r : Bool} (h : Hd s1 = some r) : Af Try.prog 28 [.r (.str s1)] (.r (.bool r)) := by
  unfold Hd at h
  refine A6 Try.func28 rfl rfl Try.ntmps28 rfl (Nat.le_of_ble_eq_true rfl) fun n0 => ?_
  refine AH fun K1 hK1 wK1 => ?_
  refine AW.region ?_
  refine AB.step rfl rfl rfl (AD (AK rfl (.inl rfl)) _) ?_
  refine AB.nil ?_
  refine hK1 _ ?_
  refine AH fun K2 hK2 wK2 => ?_
  refine AH fun K3 hK3 wK3 => ?_
  refine AW.region ?_
  refine AB.step rfl rfl rfl (AD (AI rfl (.inl rfl)) _) ?_
  refine AB.step rfl rfl rfl (AD (B9 rfl Try.underlying9 (.inl rfl)) _) ?_
  refine AB.step rfl rfl rfl (AD (AI rfl (.inl rfl)) _) ?_
  refine AB.nil ?_
  refine hK3 _ ?_
  refine AW.block ?_
  refine B5 h fun o1 hit1 hk1 he1 => ?_
  have J1 : ∀ (u2 : Unit) (i5 : Nat → Nat), o1 = .nrm u2 → K2 ⟨[(0, .r (.str s1))], [], (i5 0), 28⟩ := by
    intro u2 i5 e
    have h1 := hk1 _ e
    refine hK2 _ ?_
    refine AH fun K4 hK4 wK4 => ?_
    refine AW.region ?_
    refine AB.step rfl rfl rfl (AD (AI rfl (.inl rfl)) _) ?_
    refine AB.step rfl rfl rfl (AD (B9 rfl Try.underlying9 (.inl rfl)) _) ?_
    refine AB.step rfl rfl rfl (AD (C8 rfl (.inl rfl) (.inl rfl)) _) ?_
    refine AB.step rfl rfl rfl (AD (AI rfl (.inl rfl)) _) ?_
    refine AB.stepW (.one rfl rfl rfl) rfl rfl (AD (AI rfl (.inl rfl)) _) ?_
    refine AB.stepW (.one rfl rfl rfl) rfl rfl (AD (B9 rfl Try.underlying9 (.inr ⟨_, (by exact id), rfl⟩)) _) ?_
    refine AB.stepW (.one rfl rfl rfl) rfl rfl (AD (ET rfl (.inr ⟨_, (by exact id), rfl⟩) (.inl rfl)) _) ?_
    refine AB.step rfl rfl rfl (AD (A0 rfl (.inl rfl) (.inr ⟨_, (by exact id), rfl⟩)) _) ?_
    refine AB.step rfl rfl rfl (AD (AK rfl (.inl rfl)) _) ?_
    refine AB.nil ?_
    refine hK4 _ ?_
    refine AW.ret ?_
    exact Am (P := Try.prog) (fun (r : Bool) => .r (.bool r)) h1 (.inl rfl) (.t (.d rfl))
  refine DG (fun (x2 : Int) i3 => ⟨[(0, .r (.str s1)), (5, .r (.int .i64 (s1.length : Int))), (6, .r (.int .i64 x2))], [], (i3 0), 28⟩) (Ab [n0]) hit1 ((by exact AL ⟨.inl (.inl rfl), .inl (.inl rfl), .inl (.inl rfl), trivial⟩ trivial (Nat.le_refl _))) ?_
  intro x2 i3 v1 hv1 hx1
  have h2 : HW s1 x2 = some v1 := hv1; unfold HW at h2
  refine AH fun K5 hK5 wK5 => ?_
  refine AW.region ?_
  refine AB.step rfl rfl rfl (AD (Ar rfl (.inl rfl) (.inl rfl)) _) ?_
  refine AB.nil ?_
  refine hK5 _ ?_
  refine AH fun K6 hK6 wK6 => ?_
  refine AW.cond rfl (fun hc1 => ?_) (fun hc1 => ?_)
  · have h3 := Ag hc1 h2
    refine AW.skip ?_
    refine hK6 _ ?_
    refine AH fun K7 hK7 wK7 => ?_
    refine AW.block ?_
    refine AH fun K8 hK8 wK8 => ?_
    refine AW.region ?_
    refine AB.step rfl rfl rfl (AD (AI rfl (.inl rfl)) _) ?_
    refine AB.step rfl rfl rfl (AD (AK rfl (.inl rfl)) _) ?_
    refine AB.nil ?_
    refine hK8 _ ?_
    refine AH fun K9 hK9 wK9 => ?_
    refine AW.region ?_
    refine AB.step rfl rfl rfl (AD (AI rfl (.inl rfl)) _) ?_
    refine AB.step rfl rfl rfl (AD (AI rfl (.inl rfl)) _) ?_
    refine AU h3 fun ch1 ech1 h4 => ?_
    refine AB.step rfl rfl rfl (AD (Bg rfl Try.underlying9 (.inl rfl) (.inl rfl) (fun _ => ech1)) _) ?_
    refine AB.step rfl rfl rfl (AD (Ar rfl (.inl rfl) (.inl rfl)) _) ?_
    refine AB.step rfl rfl rfl (AD (AI rfl (.inl rfl)) _) ?_
    refine AB.stepW (.one rfl rfl rfl) rfl rfl (AD (AI rfl (.inl rfl)) _) ?_
    refine AB.stepW (.one rfl rfl rfl) rfl rfl (AD (AI rfl (.inl rfl)) _) ?_
    refine AB.stepW (.one rfl rfl rfl) rfl rfl (AD (Bg rfl Try.underlying9 (.inr ⟨_, (by exact id), rfl⟩) (.inr ⟨_, (by exact id), rfl⟩) (fun _ => ech1)) _) ?_
    refine AB.stepW (.one rfl rfl rfl) rfl rfl (AD (BT rfl (.inr ⟨_, (by exact id), rfl⟩) (.inl rfl)) _) ?_
    refine AB.step rfl rfl rfl (AD (A3 rfl (.inl rfl) (.inr ⟨_, (by exact id), rfl⟩)) _) ?_
    refine AB.nil ?_
    refine hK9 _ ?_
    refine AW.cond rfl (fun hc2 => ?_) (fun hc2 => ?_)
    · have h5 := Ag hc2 h4
      refine AH fun K10 hK10 wK10 => ?_
      refine AW.weak (s' := ⟨[], [], (i3 0), 28⟩) (by exact AL trivial trivial (Nat.le_refl _)) ?_
      refine AW.region ?_
      refine AB.step rfl rfl rfl (AD (AK rfl (.inl rfl)) _) ?_
      refine AB.nil ?_
      refine hK10 _ ?_
      refine AW.ret ?_
      exact Am (P := Try.prog) (fun (r : Bool) => .r (.bool r)) (he1 _ (hx1 _ (Option.some.inj h5).symm)) (.inl rfl) (.t (.d rfl))
    · have h5 := Ah hc2 h4
      refine AW.skip ?_
      refine hK7 _ ?_
      refine AW.weak (s' := ⟨[(0, .r (.str s1)), (5, .r (.int .i64 (s1.length : Int))), (6, .r (.int .i64 x2))], [], (i3 0), 28⟩) (by exact AL ⟨.inl (.inl rfl), .inl (.inl rfl), .inl (.inl rfl), trivial⟩ trivial (Nat.le_refl _)) ?_
      refine AW.region ?_
      refine AU h5 fun x4 ex4 h6 => ?_
      refine AB.step rfl rfl rfl (AD (BC rfl (.inl rfl) (.inl rfl) (fun _ => ex4)) _) ?_
      refine AB.step rfl rfl rfl (AD (AI rfl (.inl rfl)) _) ?_
      refine AB.nil ?_
      exact CZ.mk h6 (Ab [(i3 0)]) ((by exact AL ⟨.inl (.inl rfl), .inl (.inl rfl), .inl (.inl rfl), trivial⟩ trivial (Nat.le_refl _)))
  · have h3 := Ah hc1 h2
    refine AW.exit ?_
    exact wK2 _ _ ((by exact AL ⟨.inl (.inl rfl), trivial⟩ trivial (Nat.le_refl _))) (J1 _ (Ab [(i3 0)]) (hx1 _ (Option.some.inj h3).symm))
theorem Qq {a1 : AP} {b1 : AP} {r : Bool} (h : IA a1 b1 = some r) : Af Try.prog 29 [.agg [.r (.int .i64 a1.Clock), .r (.int .i64 a1.Site), .r (.int .i64 a1.Kind), .r (.int .i64 a1.Item), .r (.int .i64 a1.Parent), .r (.str a1.Place), .r (.str a1.Name), .r (.str a1.Value)], .agg [.r (.int .i64 b1.Clock), .r (.int .i64 b1.Site), .r (.int .i64 b1.Kind), .r (.int .i64 b1.Item), .r (.int .i64 b1.Parent), .r (.str b1.Place), .r (.str b1.Name), .r (.str b1.Value)]] (.r (.bool r)) := by
  unfold IA at h
  refine A6 Try.func29 rfl rfl Try.ntmps29 rfl (Nat.le_of_ble_eq_true rfl) fun n0 => ?_
  refine AH fun K1 hK1 wK1 => ?_
  refine AW.region ?_
  refine AB.step rfl rfl rfl (CU (cs := [.r (.int .i64 a1.Clock), .r (.int .i64 a1.Site), .r (.int .i64 a1.Kind), .r (.int .i64 a1.Item), .r (.int .i64 a1.Parent), .r (.str a1.Place), .r (.str a1.Name), .r (.str a1.Value)]) 2 rfl (.inl rfl) rfl rfl) ?_
  refine AB.step rfl rfl rfl (CU (cs := [.r (.int .i64 b1.Clock), .r (.int .i64 b1.Site), .r (.int .i64 b1.Kind), .r (.int .i64 b1.Item), .r (.int .i64 b1.Parent), .r (.str b1.Place), .r (.str b1.Name), .r (.str b1.Value)]) 3 rfl (.inl rfl) rfl rfl) ?_
  refine AB.step rfl rfl rfl (AD (AK rfl (.inl rfl)) _) ?_
  refine AB.nil ?_
  refine hK1 _ ?_
  refine AH fun K2 hK2 wK2 => ?_
  refine AW.region ?_
  refine AB.step rfl rfl rfl (AD (AX (ob := .box _ _ _) rfl DU (.inl rfl) (fun _ => rfl) rfl) _) ?_
  refine AB.step rfl rfl rfl (AD (AR (a := .r (.int .i64 a1.Clock)) rfl Ae (.inl rfl) rfl rfl) _) ?_
  refine AB.step rfl rfl rfl (AD (AX (ob := .box _ _ _) rfl DU (.inl rfl) (fun _ => rfl) rfl) _) ?_
  refine AB.step rfl rfl rfl (AD (AR (a := .r (.int .i64 b1.Clock)) rfl Ae (.inl rfl) rfl rfl) _) ?_
  refine AB.step rfl rfl rfl (AD (Ar rfl (.inl rfl) (.inl rfl)) _) ?_
  refine AB.step rfl rfl rfl (AD (AI rfl (.inl rfl)) _) ?_
  refine AB.stepW (.one rfl rfl rfl) rfl rfl (AD (AX (ob := .box _ _ _) rfl DU (.inl rfl) (fun _ => rfl) rfl) _) ?_
  refine AB.stepW (.one rfl rfl rfl) rfl rfl (AD (AR (a := .r (.int .i64 a1.Clock)) rfl Ae (.inr ⟨_, (by exact id), rfl⟩) rfl rfl) _) ?_
  refine AB.stepW (.one rfl rfl rfl) rfl rfl (AD (AX (ob := .box _ _ _) rfl DU (.inl rfl) (fun _ => rfl) rfl) _) ?_
  refine AB.stepW (.one rfl rfl rfl) rfl rfl (AD (AR (a := .r (.int .i64 b1.Clock)) rfl Ae (.inr ⟨_, (by exact id), rfl⟩) rfl rfl) _) ?_
  refine AB.stepW (.one rfl rfl rfl) rfl rfl (AD (BH rfl (.inr ⟨_, (by exact id), rfl⟩) (.inr ⟨_, (by exact id), rfl⟩)) _) ?_
  refine AB.stepW (.one rfl rfl rfl) rfl rfl (AD (AI rfl (.inr ⟨_, (by exact id), rfl⟩)) _) ?_
  refine AB.stepW (.two rfl rfl rfl) rfl rfl (AD (AX (ob := .box _ _ _) rfl EU (.inl rfl) (fun _ => rfl) rfl) _) ?_
  refine AB.stepW (.two rfl rfl rfl) rfl rfl (AD (AR (a := .r (.int .i64 a1.Site)) rfl Ae (.inr ⟨_, (by exact id), rfl⟩) rfl rfl) _) ?_
  refine AB.stepW (.two rfl rfl rfl) rfl rfl (AD (AX (ob := .box _ _ _) rfl EU (.inl rfl) (fun _ => rfl) rfl) _) ?_
  refine AB.stepW (.two rfl rfl rfl) rfl rfl (AD (AR (a := .r (.int .i64 b1.Site)) rfl Ae (.inr ⟨_, (by exact id), rfl⟩) rfl rfl) _) ?_
  refine AB.stepW (.two rfl rfl rfl) rfl rfl (AD (Ar rfl (.inr ⟨_, (by exact id), rfl⟩) (.inr ⟨_, (by exact id), rfl⟩)) _) ?_
  refine AB.stepW (.one rfl rfl rfl) rfl rfl (AD (A0 rfl (.inr ⟨_, (by exact id), rfl⟩) (.inr ⟨_, (by exact id), rfl⟩)) _) ?_
  refine AB.step rfl rfl rfl (AD (A3 rfl (.inl rfl) (.inr ⟨_, (by exact id), rfl⟩)) _) ?_
  refine AB.step rfl rfl rfl (AD (AK rfl (.inl rfl)) _) ?_
  refine AB.nil ?_
  refine hK2 _ ?_
  refine AW.ret ?_
  exact Am (P := Try.prog) (fun (r : Bool) => .r (.bool r)) h (.inl rfl) (.t (.d rfl))
theorem P9 {l1 : List AP} {r : Int} (h : Hi l1 = some r) : Af Try.prog 9 [.r (.sl (l1.map AP.row))] (.r (.int .i64 r)) := by
  unfold Hi at h
  refine A6 Try.func9 rfl rfl Try.ntmps9 rfl (Nat.le_of_ble_eq_true rfl) fun n0 => ?_
  refine AH fun K1 hK1 wK1 => ?_
  refine AW.region ?_
  refine AB.step rfl rfl rfl (AD (AK rfl (.inl rfl)) _) ?_
  refine AB.nil ?_
  refine hK1 _ ?_
  refine AH fun K2 hK2 wK2 => ?_
  refine AH fun K3 hK3 wK3 => ?_
  refine AW.region ?_
  refine AB.step rfl rfl rfl (AD (AI rfl (.inl rfl)) _) ?_
  refine AB.step rfl rfl rfl (AD (BO rfl Cc.slice (.inl rfl)) _) ?_
  refine AB.step rfl rfl rfl (AD (AI rfl (.inl rfl)) _) ?_
  refine AB.nil ?_
  refine hK3 _ ?_
  refine AW.block ?_
  refine B5 h fun o1 hit1 hk1 he1 => ?_
  have J1 : ∀ (u2 : Unit) (i5 : Nat → Nat), o1 = .nrm u2 → K2 ⟨[], [], (i5 0), 91⟩ := by
    intro u2 i5 e
    have h1 := hk1 _ e
    refine hK2 _ ?_
    refine AH fun K4 hK4 wK4 => ?_
    refine AW.region ?_
    refine AB.step rfl rfl rfl (AD (AK rfl (.inl rfl)) _) ?_
    refine AB.nil ?_
    refine hK4 _ ?_
    refine AW.ret ?_
    exact Am (P := Try.prog) (fun (r : Int) => .r (.int .i64 r)) h1 (.inl rfl) (.t (.d rfl))
  refine DG (fun (x2 : Int) i3 => ⟨[(0, .r (.sl (l1.map AP.row))), (6, .r (.int .i64 (l1.length : Int))), (7, .r (.int .i64 x2))], [], (i3 0), 91⟩) (Ab [n0]) hit1 ((by exact AL ⟨.inl (.inl rfl), .inl (.inl rfl), .inl (.inl rfl), trivial⟩ trivial (Nat.le_refl _))) ?_
  intro x2 i3 v1 hv1 hx1
  have h2 : HR l1 x2 = some v1 := hv1; unfold HR at h2
  refine AH fun K5 hK5 wK5 => ?_
  refine AW.region ?_
  refine AB.step rfl rfl rfl (AD (Ar rfl (.inl rfl) (.inl rfl)) _) ?_
  refine AB.nil ?_
  refine hK5 _ ?_
  refine AH fun K6 hK6 wK6 => ?_
  refine AW.cond rfl (fun hc1 => ?_) (fun hc1 => ?_)
  · have h3 := Ag hc1 h2
    refine AW.skip ?_
    refine hK6 _ ?_
    refine AH fun K7 hK7 wK7 => ?_
    refine AW.block ?_
    refine AH fun K8 hK8 wK8 => ?_
    refine AW.region ?_
    refine AB.step rfl rfl rfl (AD (AI rfl (.inl rfl)) _) ?_
    refine AB.step rfl rfl rfl (AD (AK rfl (.inl rfl)) _) ?_
    refine AB.nil ?_
    refine hK8 _ ?_
    refine AH fun K9 hK9 wK9 => ?_
    refine AW.region ?_
    refine AB.step rfl rfl rfl (AD (AI rfl (.inl rfl)) _) ?_
    refine AB.step rfl rfl rfl (AD (AI rfl (.inl rfl)) _) ?_
    refine AU h3 fun x4 ex4 h4 => ?_
    refine AB.step rfl rfl rfl (AD (A5 rfl Cc.slice (.inl rfl) (.inl rfl) (fun _ => rfl) (fun _ => ex4)) _) ?_
    refine AB.step rfl rfl rfl (AD (Be (cs := [.r (.int .i64 x4.Clock), .r (.int .i64 x4.Site), .r (.int .i64 x4.Kind), .r (.int .i64 x4.Item), .r (.int .i64 x4.Parent), .r (.str x4.Place), .r (.str x4.Name), .r (.str x4.Value)]) rfl DJ (.inl rfl) rfl rfl) _) ?_
    refine AB.step rfl rfl rfl (Bs (cs := [.r (.int .i64 0), .r (.int .i64 0), .r (.int .i64 0), .r (.int .i64 0), .r (.int .i64 0), .r (.str []), .r (.str []), .r (.str [])]) 4 rfl F4 rfl rfl) ?_
    refine BG rfl rfl (Ba (ds := [.r (.int .i64 x4.Clock), .r (.int .i64 x4.Site), .r (.int .i64 x4.Kind), .r (.int .i64 x4.Item), .r (.int .i64 x4.Parent), .r (.str x4.Place), .r (.str x4.Name), .r (.str x4.Value)]) rfl Ga (.inl rfl) rfl (.inl rfl) rfl rfl rfl rfl) ?_
    refine AB.nil ?_
    refine hK9 _ ?_
    refine AH fun K10 hK10 wK10 => ?_
    refine AH fun K11 hK11 wK11 => ?_
    refine AW.region ?_
    refine AB.step rfl rfl rfl (AD (AX (ob := .box _ _ _) rfl Bx (.inl rfl) (fun _ => rfl) rfl) _) ?_
    refine AB.step rfl rfl rfl (AD (AR (a := .r (.int .i64 x4.Kind)) rfl Ae (.inl rfl) rfl rfl) _) ?_
    refine AB.step rfl rfl rfl (AD (Bq rfl (.inl rfl) (.inl rfl)) _) ?_
    refine AB.step rfl rfl rfl (AD (AI rfl (.inl rfl)) _) ?_
    refine AB.stepW (.one rfl rfl rfl) rfl rfl (AD (AX (ob := .box _ _ _) rfl Bx (.inl rfl) (fun _ => rfl) rfl) _) ?_
    refine AB.stepW (.one rfl rfl rfl) rfl rfl (AD (AR (a := .r (.int .i64 x4.Kind)) rfl Ae (.inr ⟨_, (by exact id), rfl⟩) rfl rfl) _) ?_
    refine AB.stepW (.one rfl rfl rfl) rfl rfl (AD (Bq rfl (.inr ⟨_, (by exact id), rfl⟩) (.inl rfl)) _) ?_
    refine AB.step rfl rfl rfl (AD (A0 rfl (.inl rfl) (.inr ⟨_, (by exact id), rfl⟩)) _) ?_
    refine AB.nil ?_
    refine hK11 _ ?_
    refine AW.cond rfl (fun hc2 => ?_) (fun hc2 => ?_)
    · have h5 := Ag hc2 h4
      refine AH fun K12 hK12 wK12 => ?_
      refine AW.weak (s' := ⟨[], [], ((i3 0) + 1), 91⟩) (by exact AL trivial trivial (Nat.le_refl _)) ?_
      refine AW.region ?_
      refine AB.step rfl rfl rfl (AD (AK rfl (.inl rfl)) _) ?_
      refine AB.nil ?_
      refine hK12 _ ?_
      refine AW.ret ?_
      exact Am (P := Try.prog) (fun (r : Int) => .r (.int .i64 r)) (he1 _ (hx1 _ (Option.some.inj h5).symm)) (.inl rfl) (.t (.d rfl))
    · have h5 := Ah hc2 h4
      refine AW.skip ?_
      refine hK10 _ ?_
      refine AH fun K13 hK13 wK13 => ?_
      refine AH fun K14 hK14 wK14 => ?_
      refine AW.weak (s' := ⟨[(0, .r (.sl (l1.map AP.row))), (3, .r (.int .i64 x2)), (4, .ptr 4 (i3 0) 0 0), (6, .r (.int .i64 (l1.length : Int))), (7, .r (.int .i64 x2))], [(4, some (.box (i3 0) 46 [.r (.int .i64 x4.Clock), .r (.int .i64 x4.Site), .r (.int .i64 x4.Kind), .r (.int .i64 x4.Item), .r (.int .i64 x4.Parent), .r (.str x4.Place), .r (.str x4.Name), .r (.str x4.Value)]))], ((i3 0) + 1), 91⟩) (by exact AL ⟨.inl (.inl rfl), .inl (.inl rfl), .inl (.inl rfl), .inl (.inl rfl), .inl (.inl rfl), trivial⟩ ⟨.inl rfl, trivial⟩ (Nat.le_refl _)) ?_
      refine AW.region ?_
      refine AB.step rfl rfl rfl (AD (AX (ob := .box _ _ _) rfl DU (.inl rfl) (fun _ => rfl) rfl) _) ?_
      refine AB.step rfl rfl rfl (AD (AR (a := .r (.int .i64 x4.Clock)) rfl Ae (.inl rfl) rfl rfl) _) ?_
      refine AU h5 fun r1 er1 h6 => ?_
      refine AB.step rfl rfl rfl (A7 (r := .r (.bool r1)) (caps := []) (bs := [.r (.int .i64 x4.Clock), .r (.int .i64 1), .r (.int .i64 1073741824)]) rfl (.inl rfl) rfl ⟨⟨_, (.inl rfl), .d rfl⟩, ⟨_, (.inl rfl), .d rfl⟩, ⟨_, (.inl rfl), .d rfl⟩, trivial⟩ (fun _ => Il (er1)) rfl) ?_
      refine AB.step rfl rfl rfl (AD (Bi rfl (.inl rfl)) _) ?_
      refine AB.step rfl rfl rfl (AD (AI rfl (.inl rfl)) _) ?_
      refine AB.stepW (.one rfl rfl rfl) rfl rfl (AD (AX (ob := .box _ _ _) rfl EU (.inl rfl) (fun _ => rfl) rfl) _) ?_
      refine AB.stepW (.one rfl rfl rfl) rfl rfl (AD (AR (a := .r (.int .i64 x4.Site)) rfl Ae (.inr ⟨_, (by exact id), rfl⟩) rfl rfl) _) ?_
      refine AU h6 fun r2 er2 h7 => ?_
      refine AB.stepW (.one rfl rfl rfl) rfl rfl (A7 (r := .r (.bool r2)) (caps := []) (bs := [.r (.int .i64 x4.Site), .r (.int .i64 0), .r (.int .i64 1000)]) rfl (.inl rfl) rfl ⟨⟨_, (.inr ⟨_, (by exact id), rfl⟩), .d rfl⟩, ⟨_, (.inl rfl), .d rfl⟩, ⟨_, (.inl rfl), .d rfl⟩, trivial⟩ (fun hg => Il (BL er2 hg)) rfl) ?_
      refine AB.stepW (.one rfl rfl rfl) rfl rfl (AD (Bi rfl (.inr ⟨_, (by exact id), rfl⟩)) _) ?_
      refine AB.step rfl rfl rfl (AD (A3 rfl (.inl rfl) (.inr ⟨_, (by exact id), rfl⟩)) _) ?_
      refine AB.step rfl rfl rfl (AD (AI rfl (.inl rfl)) _) ?_
      refine AB.stepW (.one rfl rfl rfl) rfl rfl (AD (AX (ob := .box _ _ _) rfl CH (.inl rfl) (fun _ => rfl) rfl) _) ?_
      refine AB.stepW (.one rfl rfl rfl) rfl rfl (AD (AR (a := .r (.int .i64 x4.Item)) rfl Ae (.inr ⟨_, (by exact id), rfl⟩) rfl rfl) _) ?_
      refine AU h7 fun r3 er3 h8 => ?_
      refine AB.stepW (.one rfl rfl rfl) rfl rfl (A7 (r := .r (.bool r3)) (caps := []) (bs := [.r (.int .i64 x4.Item), .r (.int .i64 1), .r (.int .i64 1073741824)]) rfl (.inl rfl) rfl ⟨⟨_, (.inr ⟨_, (by exact id), rfl⟩), .d rfl⟩, ⟨_, (.inl rfl), .d rfl⟩, ⟨_, (.inl rfl), .d rfl⟩, trivial⟩ (fun hg => Il (BL er3 hg)) rfl) ?_
      refine AB.stepW (.one rfl rfl rfl) rfl rfl (AD (Bi rfl (.inr ⟨_, (by exact id), rfl⟩)) _) ?_
      refine AB.step rfl rfl rfl (AD (A3 rfl (.inl rfl) (.inr ⟨_, (by exact id), rfl⟩)) _) ?_
      refine AB.nil ?_
      refine hK14 _ ?_
      refine AW.cond rfl (fun hc3 => ?_) (fun hc3 => ?_)
      · have h9 := Ag hc3 h8
        refine AH fun K15 hK15 wK15 => ?_
        refine AW.weak (s' := ⟨[], [], ((i3 0) + 1), 91⟩) (by exact AL trivial trivial (Nat.le_refl _)) ?_
        refine AW.region ?_
        refine AB.step rfl rfl rfl (AD (AK rfl (.inl rfl)) _) ?_
        refine AB.nil ?_
        refine hK15 _ ?_
        refine AW.ret ?_
        exact Am (P := Try.prog) (fun (r : Int) => .r (.int .i64 r)) (he1 _ (hx1 _ (Option.some.inj h9).symm)) (.inl rfl) (.t (.d rfl))
      · have h9 := Ah hc3 h8
        refine AW.skip ?_
        refine hK13 _ ?_
        refine AH fun K16 hK16 wK16 => ?_
        refine AH fun K17 hK17 wK17 => ?_
        refine AW.region ?_
        refine AB.step rfl rfl rfl (AD (AX (ob := .box _ _ _) rfl Bx (.inl rfl) (fun _ => rfl) rfl) _) ?_
        refine AB.step rfl rfl rfl (AD (AR (a := .r (.int .i64 x4.Kind)) rfl Ae (.inl rfl) rfl rfl) _) ?_
        refine AB.step rfl rfl rfl (AD (BH rfl (.inl rfl) (.inl rfl)) _) ?_
        refine AB.nil ?_
        refine hK17 _ ?_
        refine B5 h9 fun p1 hp1 hk2 he2 => ?_
        have J2 : ∀ (u3 : Unit) (i6 : Nat → Nat), p1 = .nrm u3 → K16 ⟨[(0, .r (.sl (l1.map AP.row))), (3, .r (.int .i64 x2)), (4, .ptr 4 (i3 0) 0 0), (6, .r (.int .i64 (l1.length : Int))), (7, .r (.int .i64 x2))], [(4, some (.box (i3 0) 46 [.r (.int .i64 x4.Clock), .r (.int .i64 x4.Site), .r (.int .i64 x4.Kind), .r (.int .i64 x4.Item), .r (.int .i64 x4.Parent), .r (.str x4.Place), .r (.str x4.Name), .r (.str x4.Value)]))], (i6 0), 91⟩ := by
          intro u3 i6 e
          have h10 := hk2 _ e
          refine hK16 _ ?_
          refine AH fun K18 hK18 wK18 => ?_
          refine Dr Bt (by kernel_rfl) ?_
          refine AQ.step rfl rfl rfl (AI rfl (.inl rfl)) ?_
          refine AQ.step rfl rfl rfl (BT rfl (.inl rfl) (.inl rfl)) ?_
          refine AQ.step rfl rfl rfl (AI rfl (.inl rfl)) ?_
          refine AQ.stepW (.one rfl rfl rfl) rfl rfl (AI rfl (.inl rfl)) ?_
          refine AQ.stepW (.one rfl rfl rfl) rfl rfl (AI rfl (.inl rfl)) ?_
          refine AU h10 fun x5 ex5 h11 => ?_
          refine AQ.stepW (.one rfl rfl rfl) rfl rfl (Es rfl (.inr ⟨_, (by exact id), rfl⟩) (.inl rfl) (BL ex5)) ?_
          refine AU h11 fun x6 ex6 h12 => ?_
          refine AQ.stepW (.one rfl rfl rfl) rfl rfl (A5 rfl Cc.slice (.inr ⟨_, (by exact id), rfl⟩) (.inr ⟨_, (by exact id), rfl⟩) (fun _ => rfl) (BL ex6)) ?_
          refine AQ.stepW (.one rfl rfl rfl) rfl rfl (Be (cs := [.r (.int .i64 x6.Clock), .r (.int .i64 x6.Site), .r (.int .i64 x6.Kind), .r (.int .i64 x6.Item), .r (.int .i64 x6.Parent), .r (.str x6.Place), .r (.str x6.Name), .r (.str x6.Value)]) rfl DJ (.inr ⟨_, (by exact id), rfl⟩) rfl rfl) ?_
          refine AQ.stepW (.one rfl rfl rfl) rfl rfl (C7 rfl DJ (.inl rfl) rfl rfl) ?_
          refine AU h12 fun r4 er4 h13 => ?_
          refine Nf (.one rfl rfl rfl) rfl rfl (r := .r (.bool r4)) (caps := []) (bs := [.agg [.r (.int .i64 x6.Clock), .r (.int .i64 x6.Site), .r (.int .i64 x6.Kind), .r (.int .i64 x6.Item), .r (.int .i64 x6.Parent), .r (.str x6.Place), .r (.str x6.Name), .r (.str x6.Value)], .agg [.r (.int .i64 x4.Clock), .r (.int .i64 x4.Site), .r (.int .i64 x4.Kind), .r (.int .i64 x4.Item), .r (.int .i64 x4.Parent), .r (.str x4.Place), .r (.str x4.Name), .r (.str x4.Value)]]) rfl (.inl rfl) rfl ⟨⟨_, (.inr ⟨_, (by exact id), rfl⟩), .g (cs := [.int .i64 x6.Clock, .int .i64 x6.Site, .int .i64 x6.Kind, .int .i64 x6.Item, .int .i64 x6.Parent, .str x6.Place, .str x6.Name, .str x6.Value]) rfl rfl⟩, ⟨_, (.inr ⟨_, (by exact id), rfl⟩), .g (cs := [.int .i64 x4.Clock, .int .i64 x4.Site, .int .i64 x4.Kind, .int .i64 x4.Item, .int .i64 x4.Parent, .str x4.Place, .str x4.Name, .str x4.Value]) rfl rfl⟩, trivial⟩ (fun hg => Qq (BL er4 hg)) rfl ?_
          refine AQ.stepW (.one rfl rfl rfl) rfl rfl (Bi rfl (.inr ⟨_, (by exact id), rfl⟩)) ?_
          refine AQ.step rfl rfl rfl (A0 rfl (.inl rfl) (.inr ⟨_, (by exact id), rfl⟩)) ?_
          refine AQ.nil ?_
          refine hK18 _ ?_
          refine AW.cond rfl (fun hc4 => ?_) (fun hc4 => ?_)
          · have h14 := Ag hc4 h13
            refine AH fun K19 hK19 wK19 => ?_
            refine AW.weak (s' := ⟨[], [], (i6 0), 91⟩) (by exact AL trivial trivial (Nat.le_refl _)) ?_
            refine AW.region ?_
            refine AB.step rfl rfl rfl (AD (AK rfl (.inl rfl)) _) ?_
            refine AB.nil ?_
            refine hK19 _ ?_
            refine AW.ret ?_
            exact Am (P := Try.prog) (fun (r : Int) => .r (.int .i64 r)) (he1 _ (hx1 _ (Option.some.inj h14).symm)) (.inl rfl) (.t (.d rfl))
          · have h14 := Ah hc4 h13
            refine AW.skip ?_
            refine hK7 _ ?_
            refine AW.region ?_
            refine AU h14 fun x7 ex7 h15 => ?_
            refine AB.step rfl rfl rfl (AD (BC rfl (.inl rfl) (.inl rfl) (fun _ => ex7)) _) ?_
            refine AB.step rfl rfl rfl (AD (AI rfl (.inl rfl)) _) ?_
            refine AB.nil ?_
            exact CZ.mk h15 (Ab [(i6 0)]) ((by exact AL ⟨.inl (.inl rfl), .inl (.inl rfl), .inl (.inl rfl), trivial⟩ trivial (Nat.le_refl _)))
        refine AW.cond rfl (fun hc5 => ?_) (fun hc5 => ?_)
        · have h16 := Ag hc5 hp1
          refine AH fun K20 hK20 wK20 => ?_
          refine AH fun K21 hK21 wK21 => ?_
          refine AW.weak (s' := ⟨[(0, .r (.sl (l1.map AP.row))), (3, .r (.int .i64 x2)), (4, .ptr 4 (i3 0) 0 0), (6, .r (.int .i64 (l1.length : Int))), (7, .r (.int .i64 x2))], [(4, some (.box (i3 0) 46 [.r (.int .i64 x4.Clock), .r (.int .i64 x4.Site), .r (.int .i64 x4.Kind), .r (.int .i64 x4.Item), .r (.int .i64 x4.Parent), .r (.str x4.Place), .r (.str x4.Name), .r (.str x4.Value)]))], ((i3 0) + 1), 91⟩) (by exact AL ⟨.inl (.inl rfl), .inl (.inl rfl), .inl (.inl rfl), .inl (.inl rfl), .inl (.inl rfl), trivial⟩ ⟨.inl rfl, trivial⟩ (Nat.le_refl _)) ?_
          refine AW.region ?_
          refine AB.step rfl rfl rfl (AD (AX (ob := .box _ _ _) rfl FS (.inl rfl) (fun _ => rfl) rfl) _) ?_
          refine AB.step rfl rfl rfl (AD (AR (a := .r (.str x4.Name)) rfl A4 (.inl rfl) rfl rfl) _) ?_
          refine AB.step rfl rfl rfl (AD (C0 rfl (.inl rfl) (.inl rfl)) _) ?_
          refine AB.step rfl rfl rfl (AD (AI rfl (.inl rfl)) _) ?_
          refine AB.stepW (.one rfl rfl rfl) rfl rfl (AD (AX (ob := .box _ _ _) rfl EV (.inl rfl) (fun _ => rfl) rfl) _) ?_
          refine AB.stepW (.one rfl rfl rfl) rfl rfl (AD (AR (a := .r (.str x4.Value)) rfl A4 (.inr ⟨_, (by exact id), rfl⟩) rfl rfl) _) ?_
          refine AB.stepW (.one rfl rfl rfl) rfl rfl (AD (C0 rfl (.inr ⟨_, (by exact id), rfl⟩) (.inl rfl)) _) ?_
          refine AB.step rfl rfl rfl (AD (A3 rfl (.inl rfl) (.inr ⟨_, (by exact id), rfl⟩)) _) ?_
          refine AB.nil ?_
          refine hK21 _ ?_
          refine AW.cond rfl (fun hc6 => ?_) (fun hc6 => ?_)
          · have h17 := Ag hc6 h16
            refine AH fun K22 hK22 wK22 => ?_
            refine AW.weak (s' := ⟨[], [], ((i3 0) + 1), 91⟩) (by exact AL trivial trivial (Nat.le_refl _)) ?_
            refine AW.region ?_
            refine AB.step rfl rfl rfl (AD (AK rfl (.inl rfl)) _) ?_
            refine AB.nil ?_
            refine hK22 _ ?_
            refine AW.ret ?_
            exact Am (P := Try.prog) (fun (r : Int) => .r (.int .i64 r)) (he1 _ (hx1 _ (Option.some.inj (he2 _ (Option.some.inj h17).symm)).symm)) (.inl rfl) (.t (.d rfl))
          · have h17 := Ah hc6 h16
            refine AW.skip ?_
            refine hK20 _ ?_
            refine AH fun K23 hK23 wK23 => ?_
            refine AH fun K24 hK24 wK24 => ?_
            refine AW.region ?_
            refine AB.step rfl rfl rfl (AD (AX (ob := .box _ _ _) rfl Ch (.inl rfl) (fun _ => rfl) rfl) _) ?_
            refine AB.step rfl rfl rfl (AD (AR (a := .r (.int .i64 x4.Parent)) rfl Ae (.inl rfl) rfl rfl) _) ?_
            refine AU h17 fun r5 er5 h18 => ?_
            refine AB.step rfl rfl rfl (A7 (r := .r (.bool r5)) (caps := []) (bs := [.r (.int .i64 x4.Parent), .r (.int .i64 (-1)), .r (.int .i64 1073741824)]) rfl (.inl rfl) rfl ⟨⟨_, (.inl rfl), .d rfl⟩, ⟨_, (.inl rfl), .d rfl⟩, ⟨_, (.inl rfl), .d rfl⟩, trivial⟩ (fun _ => Il (er5)) rfl) ?_
            refine AB.step rfl rfl rfl (AD (Bi rfl (.inl rfl)) _) ?_
            refine AB.nil ?_
            refine hK24 _ ?_
            refine AW.cond rfl (fun hc7 => ?_) (fun hc7 => ?_)
            · have h19 := Ag hc7 h18
              refine AH fun K25 hK25 wK25 => ?_
              refine AW.weak (s' := ⟨[], [], ((i3 0) + 1), 91⟩) (by exact AL trivial trivial (Nat.le_refl _)) ?_
              refine AW.region ?_
              refine AB.step rfl rfl rfl (AD (AK rfl (.inl rfl)) _) ?_
              refine AB.nil ?_
              refine hK25 _ ?_
              refine AW.ret ?_
              exact Am (P := Try.prog) (fun (r : Int) => .r (.int .i64 r)) (he1 _ (hx1 _ (Option.some.inj (he2 _ (Option.some.inj h19).symm)).symm)) (.inl rfl) (.t (.d rfl))
            · have h19 := Ah hc7 h18
              refine AW.skip ?_
              refine hK23 _ ?_
              refine AH fun K26 hK26 wK26 => ?_
              refine AW.weak (s' := ⟨[(0, .r (.sl (l1.map AP.row))), (3, .r (.int .i64 x2)), (4, .ptr 4 (i3 0) 0 0), (6, .r (.int .i64 (l1.length : Int))), (7, .r (.int .i64 x2))], [(4, some (.box (i3 0) 46 [.r (.int .i64 x4.Clock), .r (.int .i64 x4.Site), .r (.int .i64 x4.Kind), .r (.int .i64 x4.Item), .r (.int .i64 x4.Parent), .r (.str x4.Place), .r (.str x4.Name), .r (.str x4.Value)]))], ((i3 0) + 1), 91⟩) (by exact AL ⟨.inl (.inl rfl), .inl (.inl rfl), .inl (.inl rfl), .inl (.inl rfl), .inl (.inl rfl), trivial⟩ ⟨.inl rfl, trivial⟩ (Nat.le_refl _)) ?_
              refine AW.region ?_
              refine AB.step rfl rfl rfl (AD (AX (ob := .box _ _ _) rfl Ej (.inl rfl) (fun _ => rfl) rfl) _) ?_
              refine AB.step rfl rfl rfl (AD (AR (a := .r (.str x4.Place)) rfl A4 (.inl rfl) rfl rfl) _) ?_
              refine AU h19 fun r6 er6 h20 => ?_
              refine AB.step rfl rfl rfl (A7 (r := .r (.bool r6)) (caps := []) (bs := [.r (.str x4.Place)]) rfl (.inl rfl) rfl ⟨⟨_, (.inl rfl), .d rfl⟩, trivial⟩ (fun _ => SJ (er6)) rfl) ?_
              refine AB.step rfl rfl rfl (AD (Bi rfl (.inl rfl)) _) ?_
              refine AB.nil ?_
              refine hK26 _ ?_
              refine AW.cond rfl (fun hc8 => ?_) (fun hc8 => ?_)
              · have h21 := Ag hc8 h20
                refine AH fun K27 hK27 wK27 => ?_
                refine AW.weak (s' := ⟨[], [], ((i3 0) + 1), 91⟩) (by exact AL trivial trivial (Nat.le_refl _)) ?_
                refine AW.region ?_
                refine AB.step rfl rfl rfl (AD (AK rfl (.inl rfl)) _) ?_
                refine AB.nil ?_
                refine hK27 _ ?_
                refine AW.ret ?_
                exact Am (P := Try.prog) (fun (r : Int) => .r (.int .i64 r)) (he1 _ (hx1 _ (Option.some.inj (he2 _ (Option.some.inj h21).symm)).symm)) (.inl rfl) (.t (.d rfl))
              · have h21 := Ah hc8 h20
                refine AW.skip ?_
                exact wK16 _ _ ((by exact AL ⟨.inl (.inl rfl), .inl (.inl rfl), .inl (.inl rfl), .inl (.inl rfl), .inl (.inl rfl), trivial⟩ ⟨.inl rfl, trivial⟩ (Nat.le_refl _))) (J2 _ (Ab [((i3 0) + 1)]) (Option.some.inj h21).symm)
        · have h16 := Ah hc5 hp1
          refine AH fun K28 hK28 wK28 => ?_
          refine AH fun K29 hK29 wK29 => ?_
          refine AW.weak (s' := ⟨[(0, .r (.sl (l1.map AP.row))), (3, .r (.int .i64 x2)), (4, .ptr 4 (i3 0) 0 0), (6, .r (.int .i64 (l1.length : Int))), (7, .r (.int .i64 x2))], [(4, some (.box (i3 0) 46 [.r (.int .i64 x4.Clock), .r (.int .i64 x4.Site), .r (.int .i64 x4.Kind), .r (.int .i64 x4.Item), .r (.int .i64 x4.Parent), .r (.str x4.Place), .r (.str x4.Name), .r (.str x4.Value)]))], ((i3 0) + 1), 91⟩) (by exact AL ⟨.inl (.inl rfl), .inl (.inl rfl), .inl (.inl rfl), .inl (.inl rfl), .inl (.inl rfl), trivial⟩ ⟨.inl rfl, trivial⟩ (Nat.le_refl _)) ?_
          refine AW.region ?_
          refine AB.step rfl rfl rfl (AD (AX (ob := .box _ _ _) rfl Ch (.inl rfl) (fun _ => rfl) rfl) _) ?_
          refine AB.step rfl rfl rfl (AD (AR (a := .r (.int .i64 x4.Parent)) rfl Ae (.inl rfl) rfl rfl) _) ?_
          refine AB.step rfl rfl rfl (AD (Bq rfl (.inl rfl) (.inl rfl)) _) ?_
          refine AB.step rfl rfl rfl (AD (AI rfl (.inl rfl)) _) ?_
          refine AB.stepW (.one rfl rfl rfl) rfl rfl (AD (AX (ob := .box _ _ _) rfl Ej (.inl rfl) (fun _ => rfl) rfl) _) ?_
          refine AB.stepW (.one rfl rfl rfl) rfl rfl (AD (AR (a := .r (.str x4.Place)) rfl A4 (.inr ⟨_, (by exact id), rfl⟩) rfl rfl) _) ?_
          refine AB.stepW (.one rfl rfl rfl) rfl rfl (AD (C0 rfl (.inr ⟨_, (by exact id), rfl⟩) (.inl rfl)) _) ?_
          refine AB.step rfl rfl rfl (AD (A3 rfl (.inl rfl) (.inr ⟨_, (by exact id), rfl⟩)) _) ?_
          refine AB.nil ?_
          refine hK29 _ ?_
          refine AW.cond rfl (fun hc9 => ?_) (fun hc9 => ?_)
          · have h22 := Ag hc9 h16
            refine AH fun K30 hK30 wK30 => ?_
            refine AW.weak (s' := ⟨[], [], ((i3 0) + 1), 91⟩) (by exact AL trivial trivial (Nat.le_refl _)) ?_
            refine AW.region ?_
            refine AB.step rfl rfl rfl (AD (AK rfl (.inl rfl)) _) ?_
            refine AB.nil ?_
            refine hK30 _ ?_
            refine AW.ret ?_
            exact Am (P := Try.prog) (fun (r : Int) => .r (.int .i64 r)) (he1 _ (hx1 _ (Option.some.inj (he2 _ (Option.some.inj h22).symm)).symm)) (.inl rfl) (.t (.d rfl))
          · have h22 := Ah hc9 h16
            refine AW.skip ?_
            refine hK28 _ ?_
            refine AH fun K31 hK31 wK31 => ?_
            refine AH fun K32 hK32 wK32 => ?_
            refine AW.region ?_
            refine AB.step rfl rfl rfl (AD (AX (ob := .box _ _ _) rfl FS (.inl rfl) (fun _ => rfl) rfl) _) ?_
            refine AB.step rfl rfl rfl (AD (AR (a := .r (.str x4.Name)) rfl A4 (.inl rfl) rfl rfl) _) ?_
            refine AU h22 fun r7 er7 h23 => ?_
            refine AB.step rfl rfl rfl (A7 (r := .r (.bool r7)) (caps := []) (bs := [.r (.str x4.Name)]) rfl (.inl rfl) rfl ⟨⟨_, (.inl rfl), .d rfl⟩, trivial⟩ (fun _ => PZ (er7)) rfl) ?_
            refine AB.step rfl rfl rfl (AD (Bi rfl (.inl rfl)) _) ?_
            refine AB.nil ?_
            refine hK32 _ ?_
            refine AW.cond rfl (fun hc10 => ?_) (fun hc10 => ?_)
            · have h24 := Ag hc10 h23
              refine AH fun K33 hK33 wK33 => ?_
              refine AW.weak (s' := ⟨[], [], ((i3 0) + 1), 91⟩) (by exact AL trivial trivial (Nat.le_refl _)) ?_
              refine AW.region ?_
              refine AB.step rfl rfl rfl (AD (AK rfl (.inl rfl)) _) ?_
              refine AB.nil ?_
              refine hK33 _ ?_
              refine AW.ret ?_
              exact Am (P := Try.prog) (fun (r : Int) => .r (.int .i64 r)) (he1 _ (hx1 _ (Option.some.inj (he2 _ (Option.some.inj h24).symm)).symm)) (.inl rfl) (.t (.d rfl))
            · have h24 := Ah hc10 h23
              refine AW.skip ?_
              refine hK31 _ ?_
              refine AH fun K34 hK34 wK34 => ?_
              refine AW.weak (s' := ⟨[(0, .r (.sl (l1.map AP.row))), (3, .r (.int .i64 x2)), (4, .ptr 4 (i3 0) 0 0), (6, .r (.int .i64 (l1.length : Int))), (7, .r (.int .i64 x2))], [(4, some (.box (i3 0) 46 [.r (.int .i64 x4.Clock), .r (.int .i64 x4.Site), .r (.int .i64 x4.Kind), .r (.int .i64 x4.Item), .r (.int .i64 x4.Parent), .r (.str x4.Place), .r (.str x4.Name), .r (.str x4.Value)]))], ((i3 0) + 1), 91⟩) (by exact AL ⟨.inl (.inl rfl), .inl (.inl rfl), .inl (.inl rfl), .inl (.inl rfl), .inl (.inl rfl), trivial⟩ ⟨.inl rfl, trivial⟩ (Nat.le_refl _)) ?_
              refine AW.region ?_
              refine AB.step rfl rfl rfl (AD (AX (ob := .box _ _ _) rfl EV (.inl rfl) (fun _ => rfl) rfl) _) ?_
              refine AB.step rfl rfl rfl (AD (AR (a := .r (.str x4.Value)) rfl A4 (.inl rfl) rfl rfl) _) ?_
              refine AB.step rfl rfl rfl (AD (C0 rfl (.inl rfl) (.inl rfl)) _) ?_
              refine AB.step rfl rfl rfl (AD (AI rfl (.inl rfl)) _) ?_
              refine AB.stepW (.one rfl rfl rfl) rfl rfl (AD (AX (ob := .box _ _ _) rfl EV (.inl rfl) (fun _ => rfl) rfl) _) ?_
              refine AB.stepW (.one rfl rfl rfl) rfl rfl (AD (AR (a := .r (.str x4.Value)) rfl A4 (.inr ⟨_, (by exact id), rfl⟩) rfl rfl) _) ?_
              refine AU h24 fun r8 er8 h25 => ?_
              refine AB.stepW (.one rfl rfl rfl) rfl rfl (A7 (r := .r (.bool r8)) (caps := []) (bs := [.r (.str x4.Value)]) rfl (.inl rfl) rfl ⟨⟨_, (.inr ⟨_, (by exact id), rfl⟩), .d rfl⟩, trivial⟩ (fun hg => SA (BL er8 hg)) rfl) ?_
              refine AB.stepW (.one rfl rfl rfl) rfl rfl (AD (Bi rfl (.inr ⟨_, (by exact id), rfl⟩)) _) ?_
              refine AB.step rfl rfl rfl (AD (A0 rfl (.inl rfl) (.inr ⟨_, (by exact id), rfl⟩)) _) ?_
              refine AB.nil ?_
              refine hK34 _ ?_
              refine AW.cond rfl (fun hc11 => ?_) (fun hc11 => ?_)
              · have h26 := Ag hc11 h25
                refine AH fun K35 hK35 wK35 => ?_
                refine AW.weak (s' := ⟨[], [], ((i3 0) + 1), 91⟩) (by exact AL trivial trivial (Nat.le_refl _)) ?_
                refine AW.region ?_
                refine AB.step rfl rfl rfl (AD (AK rfl (.inl rfl)) _) ?_
                refine AB.nil ?_
                refine hK35 _ ?_
                refine AW.ret ?_
                exact Am (P := Try.prog) (fun (r : Int) => .r (.int .i64 r)) (he1 _ (hx1 _ (Option.some.inj (he2 _ (Option.some.inj h26).symm)).symm)) (.inl rfl) (.t (.d rfl))
              · have h26 := Ah hc11 h25
                refine AW.skip ?_
                exact wK16 _ _ ((by exact AL ⟨.inl (.inl rfl), .inl (.inl rfl), .inl (.inl rfl), .inl (.inl rfl), .inl (.inl rfl), trivial⟩ ⟨.inl rfl, trivial⟩ (Nat.le_refl _))) (J2 _ (Ab [((i3 0) + 1)]) (Option.some.inj h26).symm)
  · have h3 := Ah hc1 h2
    refine AW.exit ?_
    exact wK2 _ _ ((by exact AL trivial trivial (Nat.le_refl _))) (J1 _ (Ab [(i3 0)]) (hx1 _ (Option.some.inj h3).symm))
theorem Hv {l1 : List AE} {item1 : Int} {r : Int} (h : EL l1 item1 = some r) : Af Try.prog 32 [.r (.sl (l1.map AE.row)), .r (.int .i64 item1)] (.r (.int .i64 r)) := by
  unfold EL at h
  refine A6 Try.func32 rfl rfl Try.ntmps32 rfl (Nat.le_of_ble_eq_true rfl) fun n0 => ?_
  refine AH fun K1 hK1 wK1 => ?_
  refine AW.region ?_
  refine AB.step rfl rfl rfl (AD (AK rfl (.inl rfl)) _) ?_
  refine AB.nil ?_
  refine hK1 _ ?_
  refine AH fun K2 hK2 wK2 => ?_
  refine AH fun K3 hK3 wK3 => ?_
  refine AW.region ?_
  refine AB.step rfl rfl rfl (AD (AI rfl (.inl rfl)) _) ?_
  refine AB.step rfl rfl rfl (AD (BO rfl Ao.slice (.inl rfl)) _) ?_
  refine AB.step rfl rfl rfl (AD (AI rfl (.inl rfl)) _) ?_
  refine AB.nil ?_
  refine hK3 _ ?_
  refine AW.block ?_
  refine B5 h fun o1 hit1 hk1 he1 => ?_
  have J1 : ∀ (u2 : Unit) (i5 : Nat → Nat), o1 = .nrm u2 → K2 ⟨[], [], (i5 0), 20⟩ := by
    intro u2 i5 e
    have h1 := hk1 _ e
    refine hK2 _ ?_
    refine AH fun K4 hK4 wK4 => ?_
    refine AW.region ?_
    refine AB.step rfl rfl rfl (AD (AK rfl (.inl rfl)) _) ?_
    refine AB.nil ?_
    refine hK4 _ ?_
    refine AW.ret ?_
    exact Am (P := Try.prog) (fun (r : Int) => .r (.int .i64 r)) h1 (.inl rfl) (.t (.d rfl))
  refine DG (fun (x2 : Int) i3 => ⟨[(0, .r (.sl (l1.map AE.row))), (1, .r (.int .i64 item1)), (7, .r (.int .i64 (l1.length : Int))), (8, .r (.int .i64 x2))], [], (i3 0), 20⟩) (Ab [n0]) hit1 ((by exact AL ⟨.inl (.inl rfl), .inl (.inl rfl), .inl (.inl rfl), .inl (.inl rfl), trivial⟩ trivial (Nat.le_refl _))) ?_
  intro x2 i3 v1 hv1 hx1
  have h2 : Ed l1 item1 x2 = some v1 := hv1; unfold Ed at h2
  refine AH fun K5 hK5 wK5 => ?_
  refine AW.region ?_
  refine AB.step rfl rfl rfl (AD (Ar rfl (.inl rfl) (.inl rfl)) _) ?_
  refine AB.nil ?_
  refine hK5 _ ?_
  refine AH fun K6 hK6 wK6 => ?_
  refine AW.cond rfl (fun hc1 => ?_) (fun hc1 => ?_)
  · have h3 := Ag hc1 h2
    refine AW.skip ?_
    refine hK6 _ ?_
    refine AH fun K7 hK7 wK7 => ?_
    refine AW.block ?_
    refine AH fun K8 hK8 wK8 => ?_
    refine AW.region ?_
    refine AB.step rfl rfl rfl (AD (AI rfl (.inl rfl)) _) ?_
    refine AB.step rfl rfl rfl (AD (AK rfl (.inl rfl)) _) ?_
    refine AB.nil ?_
    refine hK8 _ ?_
    refine AH fun K9 hK9 wK9 => ?_
    refine AW.region ?_
    refine AB.step rfl rfl rfl (AD (AI rfl (.inl rfl)) _) ?_
    refine AB.step rfl rfl rfl (AD (AI rfl (.inl rfl)) _) ?_
    refine AU h3 fun x4 ex4 h4 => ?_
    refine AB.step rfl rfl rfl (AD (A5 rfl Ao.slice (.inl rfl) (.inl rfl) (fun _ => rfl) (fun _ => ex4)) _) ?_
    refine AB.step rfl rfl rfl (AD (CK rfl Bf (.inl rfl)) _) ?_
    refine AB.step rfl rfl rfl (AD (CE (d := .int .i64 x4.Item) rfl Ae (.inl rfl) rfl) _) ?_
    refine AB.step rfl rfl rfl (AD (AI rfl (.inl rfl)) _) ?_
    refine AB.step rfl rfl rfl (AD (BH rfl (.inl rfl) (.inl rfl)) _) ?_
    refine AB.nil ?_
    refine hK9 _ ?_
    refine AW.cond rfl (fun hc2 => ?_) (fun hc2 => ?_)
    · have h5 := Ag hc2 h4
      refine AH fun K10 hK10 wK10 => ?_
      refine AW.weak (s' := ⟨[(5, .r (.int .i64 x2))], [], (i3 0), 20⟩) (by exact AL ⟨.inl (.inl rfl), trivial⟩ trivial (Nat.le_refl _)) ?_
      refine AW.region ?_
      refine AB.step rfl rfl rfl (AD (AI rfl (.inl rfl)) _) ?_
      refine AB.step rfl rfl rfl (AD (AK rfl (.inl rfl)) _) ?_
      refine AB.nil ?_
      refine hK10 _ ?_
      refine AW.ret ?_
      exact Am (P := Try.prog) (fun (r : Int) => .r (.int .i64 r)) (he1 _ (hx1 _ (Option.some.inj h5).symm)) (.inl rfl) (.t (.d rfl))
    · have h5 := Ah hc2 h4
      refine AW.skip ?_
      refine hK7 _ ?_
      refine AW.weak (s' := ⟨[(0, .r (.sl (l1.map AE.row))), (1, .r (.int .i64 item1)), (7, .r (.int .i64 (l1.length : Int))), (8, .r (.int .i64 x2))], [], (i3 0), 20⟩) (by exact AL ⟨.inl (.inl rfl), .inl (.inl rfl), .inl (.inl rfl), .inl (.inl rfl), trivial⟩ trivial (Nat.le_refl _)) ?_
      refine AW.region ?_
      refine AU h5 fun x5 ex5 h6 => ?_
      refine AB.step rfl rfl rfl (AD (BC rfl (.inl rfl) (.inl rfl) (fun _ => ex5)) _) ?_
      refine AB.step rfl rfl rfl (AD (AI rfl (.inl rfl)) _) ?_
      refine AB.nil ?_
      exact CZ.mk h6 (Ab [(i3 0)]) ((by exact AL ⟨.inl (.inl rfl), .inl (.inl rfl), .inl (.inl rfl), .inl (.inl rfl), trivial⟩ trivial (Nat.le_refl _)))
  · have h3 := Ah hc1 h2
    refine AW.exit ?_
    exact wK2 _ _ ((by exact AL trivial trivial (Nat.le_refl _))) (J1 _ (Ab [(i3 0)]) (hx1 _ (Option.some.inj h3).symm))
theorem Mr {l1 : List AG} {a1 : AG} {r : (List AG)} (h : FI l1 a1 = some r) : Af Try.prog 64 [.r (.sl (l1.map AG.row)), .agg [.r (.str a1.Name), .r (.str a1.Value)]] (.r (.sl (r.map AG.row))) := by
  unfold FI at h
  refine A6 Try.func64 rfl rfl Try.ntmps64 rfl (Nat.le_of_ble_eq_true rfl) fun n0 => ?_
  refine AH fun K1 hK1 wK1 => ?_
  refine AW.region ?_
  refine AB.step rfl rfl rfl (CU (cs := [.r (.str a1.Name), .r (.str a1.Value)]) 3 rfl (.inl rfl) rfl rfl) ?_
  refine AB.step rfl rfl rfl (AD (AK rfl (.inl rfl)) _) ?_
  refine AB.nil ?_
  refine hK1 _ ?_
  refine AH fun K2 hK2 wK2 => ?_
  refine AW.region ?_
  refine AB.step rfl rfl rfl (AD (AK rfl (.inl rfl)) _) ?_
  refine AB.nil ?_
  refine hK2 _ ?_
  refine AH fun K3 hK3 wK3 => ?_
  refine AW.region ?_
  refine AB.step rfl rfl rfl (AD (AK rfl (.inl rfl)) _) ?_
  refine AB.nil ?_
  refine hK3 _ ?_
  refine AH fun K4 hK4 wK4 => ?_
  refine AH fun K5 hK5 wK5 => ?_
  refine AW.region ?_
  refine AB.step rfl rfl rfl (AD (AI rfl (.inl rfl)) _) ?_
  refine AB.step rfl rfl rfl (AD (BO rfl A9.slice (.inl rfl)) _) ?_
  refine AB.step rfl rfl rfl (AD (AI rfl (.inl rfl)) _) ?_
  refine AB.nil ?_
  refine hK5 _ ?_
  refine AW.block ?_
  refine EJ h fun o1 hit1 hk1 => ?_
  have J1 : ∀ (done4 : Bool) (out4 : List AG) (i5 : Nat → Nat), o1 = (done4, out4) → K4 ⟨[(3, .ptr 3 n0 0 0), (5, .own 5005 (i5 0)), (6, .r (.bool done4))], [(3, some (.box n0 80 [.r (.str a1.Name), .r (.str a1.Value)])), (5005, some (.arr (i5 0) 80 2 (out4.map AG.row)))], (i5 1), 52⟩ := by
    intro done4 out4 i5 e
    have h1 := hk1 _ _ e
    refine hK4 _ ?_
    refine AH fun K6 hK6 wK6 => ?_
    refine AH fun K7 hK7 wK7 => ?_
    refine AW.region ?_
    refine AB.step rfl rfl rfl (AD (AI rfl (.inl rfl)) _) ?_
    refine AB.step rfl rfl rfl (AD (Bi rfl (.inl rfl)) _) ?_
    refine AB.nil ?_
    refine hK7 _ ?_
    refine Cj h1 fun p1 hp1 hk2 => ?_
    have J2 : ∀ (out5 : List AG) (i6 : Nat → Nat), p1 = out5 → K6 ⟨[(5, .own 5005 (i6 0))], [(5005, some (.arr (i6 0) 80 2 (out5.map AG.row)))], (i6 1), 52⟩ := by
      intro out5 i6 e
      have h2 := hk2 _ e
      refine hK6 _ ?_
      refine AH fun K8 hK8 wK8 => ?_
      refine AW.region ?_
      refine AB.step rfl rfl rfl (AD (AI rfl (.inl rfl)) _) ?_
      refine AB.step rfl rfl rfl (AD (AK rfl (.inl rfl)) _) ?_
      refine AB.nil ?_
      refine hK8 _ ?_
      refine AW.ret ?_
      exact Am (P := Try.prog) (fun (r : (List AG)) => .r (.sl (r.map AG.row))) h2 (.inl rfl) (.t (.one (.own rfl)))
    refine AW.cond rfl (fun hc1 => ?_) (fun hc1 => ?_)
    · have h3 := Ag hc1 hp1
      refine AW.region ?_
      refine AB.step rfl rfl rfl (AD (AI rfl (.inl rfl)) _) ?_
      refine AB.step rfl rfl rfl (AD (C7 rfl Cw (.inl rfl) rfl rfl) _) ?_
      refine AB.step rfl rfl rfl (B3 49 rfl A9 (f := AG.row) (l := ([a1] : List AG)) ⟨rfl, ⟨_, (.inl rfl), rfl⟩, trivial⟩ rfl (fun _ => rfl) rfl) ?_
      refine AU h3 fun out6 eout6 h4 => ?_
      refine AB.step rfl rfl rfl (DE rfl A9 (.inl rfl) rfl (.inr (.inl ⟨_, _, (.inl rfl), rfl⟩)) eout6) ?_
      refine AB.step rfl rfl rfl (AD (AK rfl (.inl rfl)) _) ?_
      refine AB.nil ?_
      exact wK6 _ _ ((by exact AL ⟨.inl (.inl rfl), trivial⟩ ⟨.inl rfl, trivial⟩ (Nat.le_refl _))) (J2 _ (Ab [((i5 1) + 1), ((i5 1) + 2)]) (Option.some.inj h4).symm)
    · have h3 := Ah hc1 hp1
      refine AW.skip ?_
      exact wK6 _ _ ((by exact AL ⟨.inl (.inl rfl), trivial⟩ ⟨.inl rfl, trivial⟩ (Nat.le_refl _))) (J2 _ (Ab [(i5 0), (i5 1)]) (Option.some.inj h3).symm)
  refine II (fun (done2 : Bool) (x2 : Int) (out2 : List AG) i3 => ⟨[(0, .r (.sl (l1.map AG.row))), (3, .ptr 3 n0 0 0), (5, .own 5005 (i3 0)), (6, .r (.bool done2)), (9, .r (.int .i64 (l1.length : Int))), (10, .r (.int .i64 x2))], [(3, some (.box n0 80 [.r (.str a1.Name), .r (.str a1.Value)])), (5005, some (.arr (i3 0) 80 2 (out2.map AG.row)))], (i3 1), 52⟩) (Ab [(n0 + 1), (n0 + 2)]) hit1 (AJ.trans (AJ.trans (IF 5 5005 80 2 (by decide) rfl) (by exact AL (e' := [(0, .r (.sl (l1.map AG.row))), (1, .agg [.r (.str a1.Name), .r (.str a1.Value)]), (3, .ptr 3 n0 0 0), (4, .cst (.slice none 0 0)), (5, .own 5005 (n0 + 1)), (6, .r (.bool false)), (8, .r (.sl (l1.map AG.row))), (9, .r (.int .i64 (l1.length : Int))), (10, .r (.int .i64 0))]) (h' := [(3, some (.box n0 80 [.r (.str a1.Name), .r (.str a1.Value)])), (5005, some (.arr (n0 + 1) 80 2 (([] : List AG).map AG.row)))]) ⟨.inl (.inl rfl), .inl (.inl rfl), .inl (.inl rfl), .inl (.inl rfl), .inl (.inl rfl), .inl (.inl rfl), .inl (.inl rfl), .inl (.inl rfl), .inl (.inl rfl), trivial⟩ ⟨.inl rfl, .inl rfl, trivial⟩ (Nat.le_refl _))) (by exact AL ⟨.inl (.inl rfl), .inl (.inl rfl), .inl (.inl rfl), .inl (.inl rfl), .inl (.inl rfl), .inl (.inl rfl), trivial⟩ ⟨.inl rfl, .inl rfl, trivial⟩ (Nat.le_refl _))) ?_
  intro done2 x2 out2 i3 v1 hv1 hx1
  have h5 : HB l1 a1 done2 x2 out2 = some v1 := hv1; unfold HB at h5
  refine AH fun K9 hK9 wK9 => ?_
  refine AW.region ?_
  refine AB.step rfl rfl rfl (AD (Ar rfl (.inl rfl) (.inl rfl)) _) ?_
  refine AB.nil ?_
  refine hK9 _ ?_
  refine AH fun K10 hK10 wK10 => ?_
  refine AW.cond rfl (fun hc2 => ?_) (fun hc2 => ?_)
  · have h6 := Ag hc2 h5
    refine AW.skip ?_
    refine hK10 _ ?_
    refine AH fun K11 hK11 wK11 => ?_
    refine AW.block ?_
    refine EJ h6 fun p2 hp2 hk3 => ?_
    have J3 : ∀ (done5 : Bool) (out7 : List AG) (i7 : Nat → Nat), p2 = (done5, out7) → K11 ⟨[(0, .r (.sl (l1.map AG.row))), (3, .ptr 3 n0 0 0), (5, .own 5005 (i7 0)), (6, .r (.bool done5)), (9, .r (.int .i64 (l1.length : Int))), (10, .r (.int .i64 x2))], [(3, some (.box n0 80 [.r (.str a1.Name), .r (.str a1.Value)])), (5005, some (.arr (i7 0) 80 2 (out7.map AG.row)))], (i7 1), 52⟩ := by
      intro done5 out7 i7 e
      have h7 := hk3 _ _ e
      refine hK11 _ ?_
      refine AW.region ?_
      refine AU h7 fun x4 ex4 h8 => ?_
      refine AB.step rfl rfl rfl (AD (BC rfl (.inl rfl) (.inl rfl) (fun _ => ex4)) _) ?_
      refine AB.step rfl rfl rfl (AD (AI rfl (.inl rfl)) _) ?_
      refine AB.nil ?_
      exact D4.mk h8 (Ab [(i7 0), (i7 1)]) ((by exact AL ⟨.inl (.inl rfl), .inl (.inl rfl), .inl (.inl rfl), .inl (.inl rfl), .inl (.inl rfl), .inl (.inl rfl), trivial⟩ ⟨.inl rfl, .inl rfl, trivial⟩ (Nat.le_refl _)))
    refine AH fun K12 hK12 wK12 => ?_
    refine AW.region ?_
    refine AB.step rfl rfl rfl (AD (AI rfl (.inl rfl)) _) ?_
    refine AB.step rfl rfl rfl (AD (AK rfl (.inl rfl)) _) ?_
    refine AB.nil ?_
    refine hK12 _ ?_
    refine AH fun K13 hK13 wK13 => ?_
    refine AH fun K14 hK14 wK14 => ?_
    refine Dr Bt (by kernel_rfl) ?_
    refine AQ.step rfl rfl rfl (AI rfl (.inl rfl)) ?_
    refine AQ.step rfl rfl rfl (Bi rfl (.inl rfl)) ?_
    refine AQ.step rfl rfl rfl (AI rfl (.inl rfl)) ?_
    refine AQ.stepW (.one rfl rfl rfl) rfl rfl (AI rfl (.inl rfl)) ?_
    refine AQ.stepW (.one rfl rfl rfl) rfl rfl (AI rfl (.inl rfl)) ?_
    refine AU hp2 fun x5 ex5 h9 => ?_
    refine AQ.stepW (.one rfl rfl rfl) rfl rfl (A5 rfl A9.slice (.inr ⟨_, (by exact id), rfl⟩) (.inr ⟨_, (by exact id), rfl⟩) (fun _ => rfl) (BL ex5)) ?_
    refine AQ.stepW (.one rfl rfl rfl) rfl rfl (CK rfl Ee (.inr ⟨_, (by exact id), rfl⟩)) ?_
    refine AQ.stepW (.one rfl rfl rfl) rfl rfl (CE (d := .str x5.Name) rfl A4 (.inr ⟨_, (by exact id), rfl⟩) rfl) ?_
    refine AQ.stepW (.one rfl rfl rfl) rfl rfl (AX (ob := .box _ _ _) rfl Ee (.inl rfl) (fun _ => rfl) rfl) ?_
    refine AQ.stepW (.one rfl rfl rfl) rfl rfl (AR (a := .r (.str a1.Name)) rfl A4 (.inr ⟨_, (by exact id), rfl⟩) rfl rfl) ?_
    refine AQ.stepW (.one rfl rfl rfl) rfl rfl (N6 rfl (.inr ⟨_, (by exact id), rfl⟩) (.inr ⟨_, (by exact id), rfl⟩)) ?_
    refine AQ.step rfl rfl rfl (A0 rfl (.inl rfl) (.inr ⟨_, (by exact id), rfl⟩)) ?_
    refine AQ.nil ?_
    refine hK14 _ ?_
    refine EJ h9 fun p3 hp3 hk4 => ?_
    have J4 : ∀ (done6 : Bool) (out8 : List AG) (i8 : Nat → Nat), p3 = (done6, out8) → K13 ⟨[(0, .r (.sl (l1.map AG.row))), (3, .ptr 3 n0 0 0), (5, .own 5005 (i8 0)), (6, .r (.bool done6)), (7, .r (.int .i64 x2)), (9, .r (.int .i64 (l1.length : Int))), (10, .r (.int .i64 x2))], [(3, some (.box n0 80 [.r (.str a1.Name), .r (.str a1.Value)])), (5005, some (.arr (i8 0) 80 2 (out8.map AG.row)))], (i8 1), 52⟩ := by
      intro done6 out8 i8 e
      have h10 := hk4 _ _ e
      refine hK13 _ ?_
      refine AH fun K15 hK15 wK15 => ?_
      refine Dr Bt (by kernel_rfl) ?_
      refine AQ.step rfl rfl rfl (AI rfl (.inl rfl)) ?_
      refine AQ.step rfl rfl rfl (AI rfl (.inl rfl)) ?_
      refine AU h10 fun x6 ex6 h11 => ?_
      refine AQ.step rfl rfl rfl (A5 rfl A9.slice (.inl rfl) (.inl rfl) (fun _ => rfl) (fun _ => ex6)) ?_
      refine AQ.step rfl rfl rfl (CK rfl Ee (.inl rfl)) ?_
      refine AQ.step rfl rfl rfl (CE (d := .str x6.Name) rfl A4 (.inl rfl) rfl) ?_
      refine AQ.step rfl rfl rfl (AX (ob := .box _ _ _) rfl Ee (.inl rfl) (fun _ => rfl) rfl) ?_
      refine AQ.step rfl rfl rfl (AR (a := .r (.str a1.Name)) rfl A4 (.inl rfl) rfl rfl) ?_
      refine AQ.step rfl rfl rfl (C0 rfl (.inl rfl) (.inl rfl)) ?_
      refine AQ.nil ?_
      refine hK15 _ ?_
      refine AW.cond rfl (fun hc3 => ?_) (fun hc3 => ?_)
      · have h12 := Ag hc3 h11
        refine AW.region ?_
        refine AB.step rfl rfl rfl (AD (AI rfl (.inl rfl)) _) ?_
        refine AB.step rfl rfl rfl (AD (AI rfl (.inl rfl)) _) ?_
        refine AB.step rfl rfl rfl (AD (AI rfl (.inl rfl)) _) ?_
        refine AB.step rfl rfl rfl (AD (A5 rfl A9.slice (.inl rfl) (.inl rfl) (fun _ => rfl) (fun _ => ex6)) _) ?_
        refine AB.step rfl rfl rfl (AD (Be (cs := [.r (.str x6.Name), .r (.str x6.Value)]) rfl Cw (.inl rfl) rfl rfl) _) ?_
        refine AB.step rfl rfl rfl (B3 42 rfl A9 (f := AG.row) (l := ([x6] : List AG)) ⟨rfl, ⟨_, (.inl rfl), rfl⟩, trivial⟩ rfl (fun _ => rfl) rfl) ?_
        refine AU h12 fun out9 eout9 h13 => ?_
        refine AB.step rfl rfl rfl (DE rfl A9 (.inl rfl) rfl (.inr (.inl ⟨_, _, (.inl rfl), rfl⟩)) eout9) ?_
        refine AB.step rfl rfl rfl (AD (AK rfl (.inl rfl)) _) ?_
        refine AB.nil ?_
        exact wK11 _ _ ((by exact AL ⟨.inl (.inl rfl), .inl (.inl rfl), .inl (.inl rfl), .inl (.inl rfl), .inl (.inl rfl), .inl (.inl rfl), trivial⟩ ⟨.inl rfl, .inl rfl, trivial⟩ (Nat.le_refl _))) (J3 _ _ (Ab [((i8 1) + 1), ((i8 1) + 2)]) (Option.some.inj h13).symm)
      · have h12 := Ah hc3 h11
        refine AW.skip ?_
        exact wK11 _ _ ((by exact AL ⟨.inl (.inl rfl), .inl (.inl rfl), .inl (.inl rfl), .inl (.inl rfl), .inl (.inl rfl), .inl (.inl rfl), trivial⟩ ⟨.inl rfl, .inl rfl, trivial⟩ (Nat.le_refl _))) (J3 _ _ (Ab [(i8 0), (i8 1)]) (Option.some.inj h12).symm)
    refine AW.cond rfl (fun hc4 => ?_) (fun hc4 => ?_)
    · have h14 := Ag hc4 hp3
      refine AH fun K16 hK16 wK16 => ?_
      refine AW.region ?_
      refine AB.step rfl rfl rfl (AD (AI rfl (.inl rfl)) _) ?_
      refine AB.step rfl rfl rfl (AD (C7 rfl Cw (.inl rfl) rfl rfl) _) ?_
      refine AB.step rfl rfl rfl (B3 27 rfl A9 (f := AG.row) (l := ([a1] : List AG)) ⟨rfl, ⟨_, (.inl rfl), rfl⟩, trivial⟩ rfl (fun _ => rfl) rfl) ?_
      refine AU h14 fun out10 eout10 h15 => ?_
      refine AB.step rfl rfl rfl (DE rfl A9 (.inl rfl) rfl (.inr (.inl ⟨_, _, (.inl rfl), rfl⟩)) eout10) ?_
      refine AB.step rfl rfl rfl (AD (AK rfl (.inl rfl)) _) ?_
      refine AB.nil ?_
      refine hK16 _ ?_
      refine AW.weak (s' := ⟨[(0, .r (.sl (l1.map AG.row))), (3, .ptr 3 n0 0 0), (5, .own 5005 ((i3 1) + 1)), (7, .r (.int .i64 x2)), (9, .r (.int .i64 (l1.length : Int))), (10, .r (.int .i64 x2))], [(3, some (.box n0 80 [.r (.str a1.Name), .r (.str a1.Value)])), (5005, some (.arr ((i3 1) + 1) 80 2 (out10.map AG.row)))], ((i3 1) + 2), 52⟩) (by exact AL ⟨.inl (.inl rfl), .inl (.inl rfl), .inl (.inl rfl), .inl (.inl rfl), .inl (.inl rfl), .inl (.inl rfl), trivial⟩ ⟨.inl rfl, .inl rfl, trivial⟩ (Nat.le_refl _)) ?_
      refine AW.region ?_
      refine AB.step rfl rfl rfl (AD (AK rfl (.inl rfl)) _) ?_
      refine AB.nil ?_
      exact wK13 _ _ ((by exact AL ⟨.inl (.inl rfl), .inl (.inl rfl), .inl (.inl rfl), .inl (.inl rfl), .inl (.inl rfl), .inl (.inl rfl), .inl (.inl rfl), trivial⟩ ⟨.inl rfl, .inl rfl, trivial⟩ (Nat.le_refl _))) (J4 _ _ (Ab [((i3 1) + 1), ((i3 1) + 2)]) (Option.some.inj h15).symm)
    · have h14 := Ah hc4 hp3
      refine AW.skip ?_
      exact wK13 _ _ ((by exact AL ⟨.inl (.inl rfl), .inl (.inl rfl), .inl (.inl rfl), .inl (.inl rfl), .inl (.inl rfl), .inl (.inl rfl), .inl (.inl rfl), trivial⟩ ⟨.inl rfl, .inl rfl, trivial⟩ (Nat.le_refl _))) (J4 _ _ (Ab [(i3 0), (i3 1)]) (Option.some.inj h14).symm)
  · have h6 := Ah hc2 h5
    refine AW.exit ?_
    exact wK4 _ _ ((by exact AL ⟨.inl (.inl rfl), .inl (.inl rfl), .inl (.inl rfl), trivial⟩ ⟨.inl rfl, .inl rfl, trivial⟩ (Nat.le_refl _))) (J1 _ _ (Ab [(i3 0), (i3 1)]) (hx1 _ (Option.some.inj h6).symm))
theorem OE {l1 : List AG} {change1 : List AG} {r : (List AG)} (h : GD l1 change1 = some r) : Af Try.prog 51 [.r (.sl (l1.map AG.row)), .r (.sl (change1.map AG.row))] (.r (.sl (r.map AG.row))) := by
  unfold GD at h
  refine A6 Try.func51 rfl rfl Try.ntmps51 rfl (Nat.le_of_ble_eq_true rfl) fun n0 => ?_
  refine AH fun K1 hK1 wK1 => ?_
  refine AW.region ?_
  refine AB.step rfl rfl rfl (AD (AK rfl (.inl rfl)) _) ?_
  refine AB.nil ?_
  refine hK1 _ ?_
  refine AH fun K2 hK2 wK2 => ?_
  refine AW.region ?_
  refine AB.step rfl rfl rfl (AD (AK rfl (.inl rfl)) _) ?_
  refine AB.nil ?_
  refine hK2 _ ?_
  refine AH fun K3 hK3 wK3 => ?_
  refine AH fun K4 hK4 wK4 => ?_
  refine AW.region ?_
  refine AB.step rfl rfl rfl (AD (AI rfl (.inl rfl)) _) ?_
  refine AB.step rfl rfl rfl (AD (BO rfl A9.slice (.inl rfl)) _) ?_
  refine AB.step rfl rfl rfl (AD (AI rfl (.inl rfl)) _) ?_
  refine AB.nil ?_
  refine hK4 _ ?_
  refine AW.block ?_
  refine Cj h fun o1 hit1 hk1 => ?_
  have J1 : ∀ (out4 : List AG) (i5 : Nat → Nat), o1 = out4 → K3 ⟨[(1, .r (.sl (change1.map AG.row))), (5, .r (.sl (out4.map AG.row)))], [], (i5 0), 54⟩ := by
    intro out4 i5 e
    have h1 := hk1 _ e
    refine hK3 _ ?_
    refine AH fun K5 hK5 wK5 => ?_
    refine AH fun K6 hK6 wK6 => ?_
    refine AW.region ?_
    refine AB.step rfl rfl rfl (AD (AI rfl (.inl rfl)) _) ?_
    refine AB.step rfl rfl rfl (AD (BO rfl A9.slice (.inl rfl)) _) ?_
    refine AB.step rfl rfl rfl (AD (AI rfl (.inl rfl)) _) ?_
    refine AB.nil ?_
    refine hK6 _ ?_
    refine AW.block ?_
    refine Cj h1 fun o2 hit2 hk2 => ?_
    have J2 : ∀ (out8 : List AG) (i10 : Nat → Nat), o2 = out8 → K5 ⟨[(5, .r (.sl (out8.map AG.row)))], [], (i10 0), 54⟩ := by
      intro out8 i10 e
      have h2 := hk2 _ e
      refine hK5 _ ?_
      refine AH fun K7 hK7 wK7 => ?_
      refine AW.region ?_
      refine AB.step rfl rfl rfl (AD (AK rfl (.inl rfl)) _) ?_
      refine AB.nil ?_
      refine hK7 _ ?_
      refine AH fun K8 hK8 wK8 => ?_
      refine AH fun K9 hK9 wK9 => ?_
      refine AW.region ?_
      refine AB.step rfl rfl rfl (AD (AI rfl (.inl rfl)) _) ?_
      refine AB.step rfl rfl rfl (AD (BO rfl A9.slice (.inl rfl)) _) ?_
      refine AB.step rfl rfl rfl (AD (AI rfl (.inl rfl)) _) ?_
      refine AB.nil ?_
      refine hK9 _ ?_
      refine AW.block ?_
      refine Cj h2 fun o3 hit3 hk3 => ?_
      have J3 : ∀ (rest4 : List AG) (i15 : Nat → Nat), o3 = rest4 → K8 ⟨[(8, .own 5008 (i15 0))], [(5008, some (.arr (i15 0) 80 2 (rest4.map AG.row)))], (i15 1), 54⟩ := by
        intro rest4 i15 e
        have h3 := hk3 _ e
        refine hK8 _ ?_
        refine AH fun K10 hK10 wK10 => ?_
        refine AW.region ?_
        refine AB.step rfl rfl rfl (AD (AI rfl (.inl rfl)) _) ?_
        refine AB.step rfl rfl rfl (AD (AK rfl (.inl rfl)) _) ?_
        refine AB.nil ?_
        refine hK10 _ ?_
        refine AW.ret ?_
        exact Am (P := Try.prog) (fun (r : (List AG)) => .r (.sl (r.map AG.row))) h3 (.inl rfl) (.t (.one (.own rfl)))
      refine EB (fun (x8 : Int) (rest2 : List AG) i13 => ⟨[(5, .r (.sl (out8.map AG.row))), (8, .own 5008 (i13 0)), (35, .r (.int .i64 (out8.length : Int))), (36, .r (.int .i64 x8))], [(5008, some (.arr (i13 0) 80 2 (rest2.map AG.row)))], (i13 1), 54⟩) (Ab [(i10 0), ((i10 0) + 1)]) hit3 (AJ.trans (AJ.trans (IF 8 5008 80 2 (by decide) rfl) (by exact AL (e' := [(5, .r (.sl (out8.map AG.row))), (8, .own 5008 (i10 0)), (34, .r (.sl (out8.map AG.row))), (35, .r (.int .i64 (out8.length : Int))), (36, .r (.int .i64 0))]) (h' := [(5008, some (.arr (i10 0) 80 2 (([] : List AG).map AG.row)))]) ⟨.inl (.inl rfl), .inl (.inl rfl), .inl (.inl rfl), .inl (.inl rfl), .inl (.inl rfl), trivial⟩ ⟨.inl rfl, trivial⟩ (Nat.le_refl _))) (by exact AL ⟨.inl (.inl rfl), .inl (.inl rfl), .inl (.inl rfl), .inl (.inl rfl), trivial⟩ ⟨.inl rfl, trivial⟩ (Nat.le_refl _))) ?_
      intro x8 rest2 i13 v1 hv1 hx3
      have h4 : G4 out8 x8 rest2 = some v1 := hv1; unfold G4 at h4
      refine AH fun K11 hK11 wK11 => ?_
      refine AW.region ?_
      refine AB.step rfl rfl rfl (AD (Ar rfl (.inl rfl) (.inl rfl)) _) ?_
      refine AB.nil ?_
      refine hK11 _ ?_
      refine AH fun K12 hK12 wK12 => ?_
      refine AW.cond rfl (fun hc1 => ?_) (fun hc1 => ?_)
      · have h5 := Ag hc1 h4
        refine AW.skip ?_
        refine hK12 _ ?_
        refine AH fun K13 hK13 wK13 => ?_
        refine AW.block ?_
        refine Cj h5 fun p1 hp1 hk4 => ?_
        have J4 : ∀ (rest5 : List AG) (i16 : Nat → Nat), p1 = rest5 → K13 ⟨[(5, .r (.sl (out8.map AG.row))), (8, .own 5008 (i16 0)), (35, .r (.int .i64 (out8.length : Int))), (36, .r (.int .i64 x8))], [(5008, some (.arr (i16 0) 80 2 (rest5.map AG.row)))], (i16 1), 54⟩ := by
          intro rest5 i16 e
          have h6 := hk4 _ e
          refine hK13 _ ?_
          refine AW.region ?_
          refine AU h6 fun x10 ex10 h7 => ?_
          refine AB.step rfl rfl rfl (AD (BC rfl (.inl rfl) (.inl rfl) (fun _ => ex10)) _) ?_
          refine AB.step rfl rfl rfl (AD (AI rfl (.inl rfl)) _) ?_
          refine AB.nil ?_
          exact DD.mk h7 (Ab [(i16 0), (i16 1)]) ((by exact AL ⟨.inl (.inl rfl), .inl (.inl rfl), .inl (.inl rfl), .inl (.inl rfl), trivial⟩ ⟨.inl rfl, trivial⟩ (Nat.le_refl _)))
        refine AH fun K14 hK14 wK14 => ?_
        refine AW.region ?_
        refine AB.step rfl rfl rfl (AD (AI rfl (.inl rfl)) _) ?_
        refine AB.step rfl rfl rfl (AD (AK rfl (.inl rfl)) _) ?_
        refine AB.nil ?_
        refine hK14 _ ?_
        refine AH fun K15 hK15 wK15 => ?_
        refine AW.region ?_
        refine AB.step rfl rfl rfl (AD (AI rfl (.inl rfl)) _) ?_
        refine AB.step rfl rfl rfl (AD (AI rfl (.inl rfl)) _) ?_
        refine AU hp1 fun x11 ex11 h8 => ?_
        refine AB.step rfl rfl rfl (AD (A5 rfl A9.slice (.inl rfl) (.inl rfl) (fun _ => rfl) (fun _ => ex11)) _) ?_
        refine AB.step rfl rfl rfl (AD (CK rfl Mv (.inl rfl)) _) ?_
        refine AB.step rfl rfl rfl (AD (CE (d := .str x11.Value) rfl A4 (.inl rfl) rfl) _) ?_
        refine AB.step rfl rfl rfl (AD (C0 rfl (.inl rfl) (.inl rfl)) _) ?_
        refine AB.nil ?_
        refine hK15 _ ?_
        refine AW.cond rfl (fun hc2 => ?_) (fun hc2 => ?_)
        · have h9 := Ag hc2 h8
          refine AW.region ?_
          refine AB.step rfl rfl rfl (AD (AI rfl (.inl rfl)) _) ?_
          refine AB.step rfl rfl rfl (AD (AI rfl (.inl rfl)) _) ?_
          refine AB.step rfl rfl rfl (AD (AI rfl (.inl rfl)) _) ?_
          refine AB.step rfl rfl rfl (AD (A5 rfl A9.slice (.inl rfl) (.inl rfl) (fun _ => rfl) (fun _ => ex11)) _) ?_
          refine AB.step rfl rfl rfl (AD (Be (cs := [.r (.str x11.Name), .r (.str x11.Value)]) rfl Cw (.inl rfl) rfl rfl) _) ?_
          refine AB.step rfl rfl rfl (B3 50 rfl A9 (f := AG.row) (l := ([x11] : List AG)) ⟨rfl, ⟨_, (.inl rfl), rfl⟩, trivial⟩ rfl (fun _ => rfl) rfl) ?_
          refine AU h9 fun rest6 erest6 h10 => ?_
          refine AB.step rfl rfl rfl (DE rfl A9 (.inl rfl) rfl (.inr (.inl ⟨_, _, (.inl rfl), rfl⟩)) erest6) ?_
          refine AB.step rfl rfl rfl (AD (AK rfl (.inl rfl)) _) ?_
          refine AB.nil ?_
          exact wK13 _ _ ((by exact AL ⟨.inl (.inl rfl), .inl (.inl rfl), .inl (.inl rfl), .inl (.inl rfl), trivial⟩ ⟨.inl rfl, trivial⟩ (Nat.le_refl _))) (J4 _ (Ab [((i13 1) + 1), ((i13 1) + 2)]) (Option.some.inj h10).symm)
        · have h9 := Ah hc2 h8
          refine AW.skip ?_
          exact wK13 _ _ ((by exact AL ⟨.inl (.inl rfl), .inl (.inl rfl), .inl (.inl rfl), .inl (.inl rfl), trivial⟩ ⟨.inl rfl, trivial⟩ (Nat.le_refl _))) (J4 _ (Ab [(i13 0), (i13 1)]) (Option.some.inj h9).symm)
      · have h5 := Ah hc1 h4
        refine AW.exit ?_
        exact wK8 _ _ ((by exact AL ⟨.inl (.inl rfl), trivial⟩ ⟨.inl rfl, trivial⟩ (Nat.le_refl _))) (J3 _ (Ab [(i13 0), (i13 1)]) (hx3 _ (Option.some.inj h5).symm))
    refine EB (fun (out6 : List AG) (x5 : Int) i8 => ⟨[(1, .r (.sl (change1.map AG.row))), (5, .r (.sl (out6.map AG.row))), (23, .r (.int .i64 (change1.length : Int))), (24, .r (.int .i64 x5))], [], (i8 0), 54⟩) (Ab [(i5 0)]) hit2 ((by exact AL ⟨.inl (.inl rfl), .inl (.inl rfl), .inl (.inl rfl), .inl (.inl rfl), trivial⟩ trivial (Nat.le_refl _))) ?_
    intro out6 x5 i8 v2 hv2 hx2
    have h11 : Hn change1 out6 x5 = some v2 := hv2; unfold Hn at h11
    refine AH fun K16 hK16 wK16 => ?_
    refine AW.region ?_
    refine AB.step rfl rfl rfl (AD (Ar rfl (.inl rfl) (.inl rfl)) _) ?_
    refine AB.nil ?_
    refine hK16 _ ?_
    refine AH fun K17 hK17 wK17 => ?_
    refine AW.cond rfl (fun hc3 => ?_) (fun hc3 => ?_)
    · have h12 := Ag hc3 h11
      refine AW.skip ?_
      refine hK17 _ ?_
      refine AH fun K18 hK18 wK18 => ?_
      refine AW.block ?_
      refine AH fun K19 hK19 wK19 => ?_
      refine AW.region ?_
      refine AB.step rfl rfl rfl (AD (AI rfl (.inl rfl)) _) ?_
      refine AB.step rfl rfl rfl (AD (AK rfl (.inl rfl)) _) ?_
      refine AB.nil ?_
      refine hK19 _ ?_
      refine AW.region ?_
      refine AB.step rfl rfl rfl (AD (AI rfl (.inl rfl)) _) ?_
      refine AB.step rfl rfl rfl (AD (AI rfl (.inl rfl)) _) ?_
      refine AB.step rfl rfl rfl (AD (AI rfl (.inl rfl)) _) ?_
      refine AU h12 fun x12 ex12 h13 => ?_
      refine AB.step rfl rfl rfl (AD (A5 rfl A9.slice (.inl rfl) (.inl rfl) (fun _ => rfl) (fun _ => ex12)) _) ?_
      refine AB.step rfl rfl rfl (AD (Be (cs := [.r (.str x12.Name), .r (.str x12.Value)]) rfl Cw (.inl rfl) rfl rfl) _) ?_
      refine AU h13 fun out9 eout9 h14 => ?_
      refine AB.step rfl rfl rfl (Dw (r := .r (.sl (out9.map AG.row))) (caps := []) (bs := [.r (.sl (out6.map AG.row)), .agg [.r (.str x12.Name), .r (.str x12.Value)]]) rfl (.inl rfl) rfl ⟨.inl ⟨(.inl rfl), rfl⟩, .inl ⟨(.inl rfl), rfl⟩, trivial⟩ (fun _ => Mr (eout9))) ?_
      refine AB.step rfl rfl rfl (AD (AK rfl (.inl rfl)) _) ?_
      refine AB.nil ?_
      refine hK18 _ ?_
      refine AW.weak (s' := ⟨[(1, .r (.sl (change1.map AG.row))), (5, .r (.sl (out9.map AG.row))), (23, .r (.int .i64 (change1.length : Int))), (24, .r (.int .i64 x5))], [], (i8 0), 54⟩) (by exact AL ⟨.inl (.inl rfl), .inl (.inl rfl), .inl (.inl rfl), .inl (.inl rfl), trivial⟩ trivial (Nat.le_refl _)) ?_
      refine AW.region ?_
      refine AU h14 fun x13 ex13 h15 => ?_
      refine AB.step rfl rfl rfl (AD (BC rfl (.inl rfl) (.inl rfl) (fun _ => ex13)) _) ?_
      refine AB.step rfl rfl rfl (AD (AI rfl (.inl rfl)) _) ?_
      refine AB.nil ?_
      exact DD.mk h15 (Ab [(i8 0)]) ((by exact AL ⟨.inl (.inl rfl), .inl (.inl rfl), .inl (.inl rfl), .inl (.inl rfl), trivial⟩ trivial (Nat.le_refl _)))
    · have h12 := Ah hc3 h11
      refine AW.exit ?_
      exact wK5 _ _ ((by exact AL ⟨.inl (.inl rfl), trivial⟩ trivial (Nat.le_refl _))) (J2 _ (Ab [(i8 0)]) (hx2 _ (Option.some.inj h12).symm))
  refine EB (fun (out2 : List AG) (x2 : Int) i3 => ⟨[(0, .r (.sl (l1.map AG.row))), (1, .r (.sl (change1.map AG.row))), (5, .r (.sl (out2.map AG.row))), (11, .r (.int .i64 (l1.length : Int))), (12, .r (.int .i64 x2))], [], (i3 0), 54⟩) (Ab [n0]) hit1 ((by exact AL ⟨.inl (.inl rfl), .inl (.inl rfl), .inl (.inr (.inr ⟨rfl, rfl⟩)), .inl (.inl rfl), .inl (.inl rfl), trivial⟩ trivial (Nat.le_refl _))) ?_
  intro out2 x2 i3 v3 hv3 hx1
  have h16 : G7 l1 out2 x2 = some v3 := hv3; unfold G7 at h16
  refine AH fun K20 hK20 wK20 => ?_
  refine AW.region ?_
  refine AB.step rfl rfl rfl (AD (Ar rfl (.inl rfl) (.inl rfl)) _) ?_
  refine AB.nil ?_
  refine hK20 _ ?_
  refine AH fun K21 hK21 wK21 => ?_
  refine AW.cond rfl (fun hc4 => ?_) (fun hc4 => ?_)
  · have h17 := Ag hc4 h16
    refine AW.skip ?_
    refine hK21 _ ?_
    refine AH fun K22 hK22 wK22 => ?_
    refine AW.block ?_
    refine AH fun K23 hK23 wK23 => ?_
    refine AW.region ?_
    refine AB.step rfl rfl rfl (AD (AI rfl (.inl rfl)) _) ?_
    refine AB.step rfl rfl rfl (AD (AK rfl (.inl rfl)) _) ?_
    refine AB.nil ?_
    refine hK23 _ ?_
    refine AW.region ?_
    refine AB.step rfl rfl rfl (AD (AI rfl (.inl rfl)) _) ?_
    refine AB.step rfl rfl rfl (AD (AI rfl (.inl rfl)) _) ?_
    refine AB.step rfl rfl rfl (AD (AI rfl (.inl rfl)) _) ?_
    refine AU h17 fun x14 ex14 h18 => ?_
    refine AB.step rfl rfl rfl (AD (A5 rfl A9.slice (.inl rfl) (.inl rfl) (fun _ => rfl) (fun _ => ex14)) _) ?_
    refine AB.step rfl rfl rfl (AD (Be (cs := [.r (.str x14.Name), .r (.str x14.Value)]) rfl Cw (.inl rfl) rfl rfl) _) ?_
    refine AU h18 fun out10 eout10 h19 => ?_
    refine AB.step rfl rfl rfl (Dw (r := .r (.sl (out10.map AG.row))) (caps := []) (bs := [.r (.sl (out2.map AG.row)), .agg [.r (.str x14.Name), .r (.str x14.Value)]]) rfl (.inl rfl) rfl ⟨.inl ⟨(.inl rfl), rfl⟩, .inl ⟨(.inl rfl), rfl⟩, trivial⟩ (fun _ => Mr (eout10))) ?_
    refine AB.step rfl rfl rfl (AD (AK rfl (.inl rfl)) _) ?_
    refine AB.nil ?_
    refine hK22 _ ?_
    refine AW.weak (s' := ⟨[(0, .r (.sl (l1.map AG.row))), (1, .r (.sl (change1.map AG.row))), (5, .r (.sl (out10.map AG.row))), (11, .r (.int .i64 (l1.length : Int))), (12, .r (.int .i64 x2))], [], (i3 0), 54⟩) (by exact AL ⟨.inl (.inl rfl), .inl (.inl rfl), .inl (.inl rfl), .inl (.inl rfl), .inl (.inl rfl), trivial⟩ trivial (Nat.le_refl _)) ?_
    refine AW.region ?_
    refine AU h19 fun x15 ex15 h20 => ?_
    refine AB.step rfl rfl rfl (AD (BC rfl (.inl rfl) (.inl rfl) (fun _ => ex15)) _) ?_
    refine AB.step rfl rfl rfl (AD (AI rfl (.inl rfl)) _) ?_
    refine AB.nil ?_
    exact DD.mk h20 (Ab [(i3 0)]) ((by exact AL ⟨.inl (.inl rfl), .inl (.inl rfl), .inl (.inl rfl), .inl (.inl rfl), .inl (.inl rfl), trivial⟩ trivial (Nat.le_refl _)))
  · have h17 := Ah hc4 h16
    refine AW.exit ?_
    exact wK3 _ _ ((by exact AL ⟨.inl (.inl rfl), .inl (.inl rfl), trivial⟩ trivial (Nat.le_refl _))) (J1 _ (Ab [(i3 0)]) (hx1 _ (Option.some.inj h17).symm))
theorem N7 {l1 : List AE} {item1 : Int} {top1 : Int} {r : Bool} (h : Gc l1 item1 top1 = some r) : Af Try.prog 52 [.r (.sl (l1.map AE.row)), .r (.int .i64 item1), .r (.int .i64 top1)] (.r (.bool r)) := by
  unfold Gc at h
  refine A6 Try.func52 rfl rfl Try.ntmps52 rfl (Nat.le_of_ble_eq_true rfl) fun n0 => ?_
  refine AH fun K1 hK1 wK1 => ?_
  refine AW.region ?_
  refine AB.step rfl rfl rfl (AD (AK rfl (.inl rfl)) _) ?_
  refine AB.nil ?_
  refine hK1 _ ?_
  refine AH fun K2 hK2 wK2 => ?_
  refine AH fun K3 hK3 wK3 => ?_
  refine AW.region ?_
  refine AB.step rfl rfl rfl (AD (AI rfl (.inl rfl)) _) ?_
  refine AB.step rfl rfl rfl (AD (BO rfl Ao.slice (.inl rfl)) _) ?_
  refine AU h fun x1 ex1 h1 => ?_
  refine AB.step rfl rfl rfl (AD (BC rfl (.inl rfl) (.inl rfl) (fun _ => ex1)) _) ?_
  refine AB.step rfl rfl rfl (AD (AI rfl (.inl rfl)) _) ?_
  refine AB.nil ?_
  refine hK3 _ ?_
  refine AW.block ?_
  refine B5 h1 fun o1 hit1 hk1 he1 => ?_
  have J1 : ∀ (u2 : Unit) (i5 : Nat → Nat), o1 = .nrm u2 → K2 ⟨[], [], (i5 0), 27⟩ := by
    intro u2 i5 e
    have h2 := hk1 _ e
    refine hK2 _ ?_
    refine AH fun K4 hK4 wK4 => ?_
    refine AW.region ?_
    refine AB.step rfl rfl rfl (AD (AK rfl (.inl rfl)) _) ?_
    refine AB.nil ?_
    refine hK4 _ ?_
    refine AW.ret ?_
    exact Am (P := Try.prog) (fun (r : Bool) => .r (.bool r)) h2 (.inl rfl) (.t (.d rfl))
  refine EB (fun (item3 : Int) (x3 : Int) i3 => ⟨[(0, .r (.sl (l1.map AE.row))), (1, .r (.int .i64 item3)), (2, .r (.int .i64 top1)), (10, .r (.int .i64 x1)), (11, .r (.int .i64 x3))], [], (i3 0), 27⟩) (Ab [n0]) hit1 ((by exact AL ⟨.inl (.inl rfl), .inl (.inl rfl), .inl (.inl rfl), .inl (.inl rfl), .inl (.inl rfl), trivial⟩ trivial (Nat.le_refl _))) ?_
  intro item3 x3 i3 v1 hv1 hx1
  have h3 : De l1 top1 x1 item3 x3 = some v1 := hv1; unfold De at h3
  refine AH fun K5 hK5 wK5 => ?_
  refine AW.region ?_
  refine AB.step rfl rfl rfl (AD (Ar rfl (.inl rfl) (.inl rfl)) _) ?_
  refine AB.nil ?_
  refine hK5 _ ?_
  refine AH fun K6 hK6 wK6 => ?_
  refine AW.cond rfl (fun hc1 => ?_) (fun hc1 => ?_)
  · have h4 := Ag hc1 h3
    refine AW.skip ?_
    refine hK6 _ ?_
    refine AH fun K7 hK7 wK7 => ?_
    refine AW.block ?_
    refine AH fun K8 hK8 wK8 => ?_
    refine AH fun K9 hK9 wK9 => ?_
    refine AW.region ?_
    refine AB.step rfl rfl rfl (AD (AI rfl (.inl rfl)) _) ?_
    refine AB.step rfl rfl rfl (AD (AI rfl (.inl rfl)) _) ?_
    refine AB.step rfl rfl rfl (AD (BH rfl (.inl rfl) (.inl rfl)) _) ?_
    refine AB.nil ?_
    refine hK9 _ ?_
    refine AW.cond rfl (fun hc2 => ?_) (fun hc2 => ?_)
    · have h5 := Ag hc2 h4
      refine AH fun K10 hK10 wK10 => ?_
      refine AW.weak (s' := ⟨[], [], (i3 0), 27⟩) (by exact AL trivial trivial (Nat.le_refl _)) ?_
      refine AW.region ?_
      refine AB.step rfl rfl rfl (AD (AK rfl (.inl rfl)) _) ?_
      refine AB.nil ?_
      refine hK10 _ ?_
      refine AW.ret ?_
      exact Am (P := Try.prog) (fun (r : Bool) => .r (.bool r)) (he1 _ (hx1 _ (Option.some.inj h5).symm)) (.inl rfl) (.t (.d rfl))
    · have h5 := Ah hc2 h4
      refine AW.skip ?_
      refine hK8 _ ?_
      refine AH fun K11 hK11 wK11 => ?_
      refine AW.region ?_
      refine AB.step rfl rfl rfl (AD (AI rfl (.inl rfl)) _) ?_
      refine AB.step rfl rfl rfl (AD (AI rfl (.inl rfl)) _) ?_
      refine AU h5 fun i6 ei6 h6 => ?_
      refine AB.step rfl rfl rfl (A7 (r := .r (.int .i64 i6)) (caps := []) (bs := [.r (.sl (l1.map AE.row)), .r (.int .i64 item3)]) rfl (.inl rfl) rfl ⟨⟨_, (.inl rfl), .d rfl⟩, ⟨_, (.inl rfl), .d rfl⟩, trivial⟩ (fun _ => Hv (ei6)) rfl) ?_
      refine AB.step rfl rfl rfl (AD (AK rfl (.inl rfl)) _) ?_
      refine AB.nil ?_
      refine hK11 _ ?_
      refine AH fun K12 hK12 wK12 => ?_
      refine AH fun K13 hK13 wK13 => ?_
      refine AW.region ?_
      refine AB.step rfl rfl rfl (AD (AI rfl (.inl rfl)) _) ?_
      refine AB.step rfl rfl rfl (AD (Ar rfl (.inl rfl) (.inl rfl)) _) ?_
      refine AB.nil ?_
      refine hK13 _ ?_
      refine AW.cond rfl (fun hc3 => ?_) (fun hc3 => ?_)
      · have h7 := Ag hc3 h6
        refine AH fun K14 hK14 wK14 => ?_
        refine AW.weak (s' := ⟨[], [], (i3 0), 27⟩) (by exact AL trivial trivial (Nat.le_refl _)) ?_
        refine AW.region ?_
        refine AB.step rfl rfl rfl (AD (AK rfl (.inl rfl)) _) ?_
        refine AB.nil ?_
        refine hK14 _ ?_
        refine AW.ret ?_
        exact Am (P := Try.prog) (fun (r : Bool) => .r (.bool r)) (he1 _ (hx1 _ (Option.some.inj h7).symm)) (.inl rfl) (.t (.d rfl))
      · have h7 := Ah hc3 h6
        refine AW.skip ?_
        refine hK12 _ ?_
        refine AW.weak (s' := ⟨[(0, .r (.sl (l1.map AE.row))), (2, .r (.int .i64 top1)), (7, .r (.int .i64 i6)), (10, .r (.int .i64 x1)), (11, .r (.int .i64 x3))], [], (i3 0), 27⟩) (by exact AL ⟨.inl (.inl rfl), .inl (.inl rfl), .inl (.inl rfl), .inl (.inl rfl), .inl (.inl rfl), trivial⟩ trivial (Nat.le_refl _)) ?_
        refine AW.region ?_
        refine AB.step rfl rfl rfl (AD (AI rfl (.inl rfl)) _) ?_
        refine AB.step rfl rfl rfl (AD (AI rfl (.inl rfl)) _) ?_
        refine AU h7 fun x5 ex5 h8 => ?_
        refine AB.step rfl rfl rfl (AD (A5 rfl Ao.slice (.inl rfl) (.inl rfl) (fun _ => rfl) (fun _ => ex5)) _) ?_
        refine AB.step rfl rfl rfl (AD (CK rfl Dd (.inl rfl)) _) ?_
        refine AB.step rfl rfl rfl (AD (CE (d := .int .i64 x5.Parent) rfl Ae (.inl rfl) rfl) _) ?_
        refine AB.step rfl rfl rfl (AD (AK rfl (.inl rfl)) _) ?_
        refine AB.nil ?_
        refine hK7 _ ?_
        refine AW.region ?_
        refine AU h8 fun x6 ex6 h9 => ?_
        refine AB.step rfl rfl rfl (AD (BC rfl (.inl rfl) (.inl rfl) (fun _ => ex6)) _) ?_
        refine AB.step rfl rfl rfl (AD (AI rfl (.inl rfl)) _) ?_
        refine AB.nil ?_
        exact DD.mk h9 (Ab [(i3 0)]) ((by exact AL ⟨.inl (.inl rfl), .inl (.inl rfl), .inl (.inl rfl), .inl (.inl rfl), .inl (.inl rfl), trivial⟩ trivial (Nat.le_refl _)))
  · have h4 := Ah hc1 h3
    refine AW.exit ?_
    exact wK2 _ _ ((by exact AL trivial trivial (Nat.le_refl _))) (J1 _ (Ab [(i3 0)]) (hx1 _ (Option.some.inj h4).symm))
theorem Oe {l1 : List AP} {r : (List AE) × (List AE)} (h : GX l1 = some r) : Af Try.prog 30 [.r (.sl (l1.map AP.row))] (.tup [.r (.sl (r.1.map AE.row)), .r (.sl (r.2.map AE.row))]) := by
  unfold GX at h
  refine A6 Try.func30 rfl rfl Try.ntmps30 rfl (Nat.le_of_ble_eq_true rfl) fun n0 => ?_
  refine AH fun K1 hK1 wK1 => ?_
  refine AW.region ?_
  refine AB.step rfl rfl rfl (AD (AK rfl (.inl rfl)) _) ?_
  refine AB.step rfl rfl rfl (AD (AK rfl (.inl rfl)) _) ?_
  refine AB.nil ?_
  refine hK1 _ ?_
  refine AH fun K2 hK2 wK2 => ?_
  refine AW.region ?_
  refine AB.step rfl rfl rfl (AD (AK rfl (.inl rfl)) _) ?_
  refine AB.step rfl rfl rfl (AD (AK rfl (.inl rfl)) _) ?_
  refine AB.nil ?_
  refine hK2 _ ?_
  refine AH fun K3 hK3 wK3 => ?_
  refine AH fun K4 hK4 wK4 => ?_
  refine AW.region ?_
  refine AB.step rfl rfl rfl (AD (AI rfl (.inl rfl)) _) ?_
  refine AB.step rfl rfl rfl (AD (BO rfl Cc.slice (.inl rfl)) _) ?_
  refine AB.step rfl rfl rfl (AD (AI rfl (.inl rfl)) _) ?_
  refine AB.nil ?_
  refine hK4 _ ?_
  refine AW.block ?_
  refine EJ h fun o1 hit1 hk1 => ?_
  have J1 : ∀ (items4 : List AE) (attrs4 : List AE) (i5 : Nat → Nat), o1 = (items4, attrs4) → K3 ⟨[(4, .own 5004 (i5 0)), (5, .own 5005 (i5 1))], [(5004, some (.arr (i5 0) 55 4 (items4.map AE.row))), (5005, some (.arr (i5 1) 55 4 (attrs4.map AE.row)))], (i5 2), 121⟩ := by
    intro items4 attrs4 i5 e
    have h1 := hk1 _ _ e
    refine hK3 _ ?_
    refine AH fun K5 hK5 wK5 => ?_
    refine AH fun K6 hK6 wK6 => ?_
    refine AW.region ?_
    refine AB.step rfl rfl rfl (AD (AI rfl (.inl rfl)) _) ?_
    refine AB.step rfl rfl rfl (AD (EG rfl Ao.slice (.inl rfl) rfl) _) ?_
    refine AB.step rfl rfl rfl (AD (AI rfl (.inl rfl)) _) ?_
    refine AB.nil ?_
    refine hK6 _ ?_
    refine AW.block ?_
    refine Cj h1 fun o2 hit2 hk2 => ?_
    have J2 : ∀ (items8 : List AE) (i10 : Nat → Nat), o2 = items8 → K5 ⟨[(4, .own 5004 (i10 0)), (5, .own 5005 (i5 1))], [(5004, some (.arr (i10 0) 55 4 (items8.map AE.row))), (5005, some (.arr (i5 1) 55 4 (attrs4.map AE.row)))], (i10 1), 121⟩ := by
      intro items8 i10 e
      have h2 := hk2 _ e
      refine hK5 _ ?_
      refine AH fun K7 hK7 wK7 => ?_
      refine AW.region ?_
      refine AB.step rfl rfl rfl (AD (AI rfl (.inl rfl)) _) ?_
      refine AB.step rfl rfl rfl (AD (AI rfl (.inl rfl)) _) ?_
      refine AB.step rfl rfl rfl (AD (AK rfl (.inl rfl)) _) ?_
      refine AB.step rfl rfl rfl (AD (AK rfl (.inl rfl)) _) ?_
      refine AB.nil ?_
      refine hK7 _ ?_
      refine AW.ret ?_
      exact HS (P := Try.prog) (fun (r : (List AE) × (List AE)) => .r (.sl (r.1.map AE.row))) (fun (r : (List AE) × (List AE)) => .r (.sl (r.2.map AE.row))) h2 (.inl rfl) (.t (.one (.own rfl))) (.t (.one (.own rfl)))
    refine EB (fun (x5 : Int) (items6 : List AE) i8 => ⟨[(4, .own 5004 (i8 0)), (5, .own 5005 (i5 1)), (96, .r (.int .i64 (items4.length : Int))), (97, .r (.int .i64 x5))], [(5004, some (.arr (i8 0) 55 4 (items6.map AE.row))), (5005, some (.arr (i5 1) 55 4 (attrs4.map AE.row)))], (i8 1), 121⟩) (Ab [(i5 0), (i5 2)]) hit2 ((by exact AL ⟨.inl (.inl rfl), .inl (.inl rfl), .inl (.inl rfl), .inl (.inl rfl), trivial⟩ ⟨.inl rfl, .inl rfl, trivial⟩ (Nat.le_refl _))) ?_
    intro x5 items6 i8 v1 hv1 hx2
    have h3 : EY items4 attrs4 x5 items6 = some v1 := hv1; unfold EY at h3
    refine AH fun K8 hK8 wK8 => ?_
    refine AW.region ?_
    refine AB.step rfl rfl rfl (AD (Ar rfl (.inl rfl) (.inl rfl)) _) ?_
    refine AB.nil ?_
    refine hK8 _ ?_
    refine AH fun K9 hK9 wK9 => ?_
    refine AW.cond rfl (fun hc1 => ?_) (fun hc1 => ?_)
    · have h4 := Ag hc1 h3
      refine AW.skip ?_
      refine hK9 _ ?_
      refine AH fun K10 hK10 wK10 => ?_
      refine AW.block ?_
      refine Cj h4 fun p1 hp1 hk3 => ?_
      have J3 : ∀ (items9 : List AE) (i11 : Nat → Nat), p1 = items9 → K10 ⟨[(4, .own 5004 (i11 0)), (5, .own 5005 (i5 1)), (96, .r (.int .i64 (items4.length : Int))), (97, .r (.int .i64 x5))], [(5004, some (.arr (i11 0) 55 4 (items9.map AE.row))), (5005, some (.arr (i5 1) 55 4 (attrs4.map AE.row)))], (i11 1), 121⟩ := by
        intro items9 i11 e
        have h5 := hk3 _ e
        refine hK10 _ ?_
        refine AW.region ?_
        refine AU h5 fun x7 ex7 h6 => ?_
        refine AB.step rfl rfl rfl (AD (BC rfl (.inl rfl) (.inl rfl) (fun _ => ex7)) _) ?_
        refine AB.step rfl rfl rfl (AD (AI rfl (.inl rfl)) _) ?_
        refine AB.nil ?_
        exact DD.mk h6 (Ab [(i11 0), (i11 1)]) ((by exact AL ⟨.inl (.inl rfl), .inl (.inl rfl), .inl (.inl rfl), .inl (.inl rfl), trivial⟩ ⟨.inl rfl, .inl rfl, trivial⟩ (Nat.le_refl _)))
      refine AH fun K11 hK11 wK11 => ?_
      refine AW.region ?_
      refine AB.step rfl rfl rfl (AD (AI rfl (.inl rfl)) _) ?_
      refine AB.step rfl rfl rfl (AD (AK rfl (.inl rfl)) _) ?_
      refine AB.nil ?_
      refine hK11 _ ?_
      refine AH fun K12 hK12 wK12 => ?_
      refine AW.region ?_
      refine AB.step rfl rfl rfl (AD (AI rfl (.inl rfl)) _) ?_
      refine AB.step rfl rfl rfl (AD (AI rfl (.inl rfl)) _) ?_
      refine AB.step rfl rfl rfl (AD (AI rfl (.inl rfl)) _) ?_
      refine AU hp1 fun x8 ex8 h7 => ?_
      refine AB.step rfl rfl rfl (AD (EO rfl Ao.slice (.inl rfl) rfl (.inl rfl) (fun _ => ex8)) _) ?_
      refine AB.step rfl rfl rfl (AD (AX (ob := .arr _ _ _ _) rfl Bf (.inl rfl) (fun _ => rfl) rfl) _) ?_
      refine AB.step rfl rfl rfl (AD (Kd (d := .int .i64 x8.Item) rfl Ae (.inl rfl) (fun _ => rfl) (fun _ => ex8) rfl) _) ?_
      refine AU h7 fun k1 ek1 h8 => ?_
      refine AB.step rfl rfl rfl (A7 (r := .r (.int .i64 k1)) (caps := []) (bs := [.r (.sl (attrs4.map AE.row)), .r (.int .i64 x8.Item)]) rfl (.inl rfl) rfl ⟨⟨_, (.inl rfl), .one (.own rfl)⟩, ⟨_, (.inl rfl), .d rfl⟩, trivial⟩ (fun _ => Hv (ek1)) rfl) ?_
      refine AB.step rfl rfl rfl (AD (AK rfl (.inl rfl)) _) ?_
      refine AB.nil ?_
      refine hK12 _ ?_
      refine AH fun K13 hK13 wK13 => ?_
      refine AW.weak (s' := ⟨[(4, .own 5004 (i8 0)), (5, .own 5005 (i5 1)), (10, .r (.int .i64 x5)), (11, .r (.int .i64 k1)), (96, .r (.int .i64 (items4.length : Int))), (97, .r (.int .i64 x5))], [(5004, some (.arr (i8 0) 55 4 (items6.map AE.row))), (5005, some (.arr (i5 1) 55 4 (attrs4.map AE.row)))], (i8 1), 121⟩) (by exact AL ⟨.inl (.inl rfl), .inl (.inl rfl), .inl (.inl rfl), .inl (.inl rfl), .inl (.inl rfl), .inl (.inl rfl), trivial⟩ ⟨.inl rfl, .inl rfl, trivial⟩ (Nat.le_refl _)) ?_
      refine AW.region ?_
      refine AB.step rfl rfl rfl (AD (AI rfl (.inl rfl)) _) ?_
      refine AB.step rfl rfl rfl (AD (C8 rfl (.inl rfl) (.inl rfl)) _) ?_
      refine AB.nil ?_
      refine hK13 _ ?_
      refine AW.cond rfl (fun hc2 => ?_) (fun hc2 => ?_)
      · have h9 := Ag hc2 h8
        refine AW.region ?_
        refine AB.step rfl rfl rfl (AD (AI rfl (.inl rfl)) _) ?_
        refine AB.step rfl rfl rfl (AD (AI rfl (.inl rfl)) _) ?_
        refine AB.step rfl rfl rfl (AD (AI rfl (.inl rfl)) _) ?_
        refine AB.step rfl rfl rfl (AD (AI rfl (.inl rfl)) _) ?_
        refine AU h9 fun x9 ex9 h10 => ?_
        refine AB.step rfl rfl rfl (AD (EO rfl Ao.slice (.inl rfl) rfl (.inl rfl) (fun _ => ex9)) _) ?_
        refine AB.step rfl rfl rfl (AD (AX (ob := .arr _ _ _ _) rfl Ez (.inl rfl) (fun _ => rfl) rfl) _) ?_
        refine AB.step rfl rfl rfl (AD (Kd (d := .sl (x9.Attrs.map AG.row)) rfl Fq (.inl rfl) (fun _ => rfl) (fun _ => ex9) rfl) _) ?_
        refine AB.step rfl rfl rfl (AD (EO rfl Ao.slice (.inl rfl) rfl (.inl rfl) (fun _ => ex8)) _) ?_
        refine AB.step rfl rfl rfl (AD (AX (ob := .arr _ _ _ _) rfl Ez (.inl rfl) (fun _ => rfl) rfl) _) ?_
        refine BG rfl rfl (NP (v := (AE.mk x8.Item x8.Parent x8.Place x9.Attrs)) rfl Gb (.inl rfl) rfl ex8 (.inl rfl) rfl rfl rfl rfl) ?_
        refine AB.nil ?_
        exact wK10 _ _ ((by exact AL ⟨.inl (.inl rfl), .inl (.inl rfl), .inl (.inl rfl), .inl (.inl rfl), trivial⟩ ⟨.inl rfl, .inl rfl, trivial⟩ (Nat.le_refl _))) (J3 _ (Ab [(i8 0), (i8 1)]) (Option.some.inj h10).symm)
      · have h9 := Ah hc2 h8
        refine AW.skip ?_
        exact wK10 _ _ ((by exact AL ⟨.inl (.inl rfl), .inl (.inl rfl), .inl (.inl rfl), .inl (.inl rfl), trivial⟩ ⟨.inl rfl, .inl rfl, trivial⟩ (Nat.le_refl _))) (J3 _ (Ab [(i8 0), (i8 1)]) (Option.some.inj h9).symm)
    · have h4 := Ah hc1 h3
      refine AW.exit ?_
      exact wK5 _ _ ((by exact AL ⟨.inl (.inl rfl), .inl (.inl rfl), trivial⟩ ⟨.inl rfl, .inl rfl, trivial⟩ (Nat.le_refl _))) (J2 _ (Ab [(i8 0), (i8 1)]) (hx2 _ (Option.some.inj h4).symm))
  refine II (fun (x2 : Int) (items2 : List AE) (attrs2 : List AE) i3 => ⟨[(0, .r (.sl (l1.map AP.row))), (4, .own 5004 (i3 0)), (5, .own 5005 (i3 1)), (13, .r (.int .i64 (l1.length : Int))), (14, .r (.int .i64 x2))], [(5004, some (.arr (i3 0) 55 4 (items2.map AE.row))), (5005, some (.arr (i3 1) 55 4 (attrs2.map AE.row)))], (i3 2), 121⟩) (Ab [n0, (n0 + 1), (n0 + 2)]) hit1 (AJ.trans (AJ.trans (IF 4 5004 55 4 (by decide) rfl) (by exact AL (e' := [(0, .r (.sl (l1.map AP.row))), (2, .cst (.slice none 0 0)), (3, .cst (.slice none 0 0)), (4, .own 5004 n0), (5, .cst (.slice none 0 0)), (12, .r (.sl (l1.map AP.row))), (13, .r (.int .i64 (l1.length : Int))), (14, .r (.int .i64 0))]) (h' := [(5004, some (.arr n0 55 4 (([] : List AE).map AE.row)))]) ⟨.inl (.inl rfl), .inl (.inl rfl), .inl (.inl rfl), .inl (.inl rfl), .inl (.inl rfl), .inl (.inl rfl), .inl (.inl rfl), .inl (.inl rfl), trivial⟩ ⟨.inl rfl, trivial⟩ (Nat.le_refl _))) (AJ.trans (AJ.trans (IF 5 5005 55 4 (by decide) rfl) (by exact AL (e' := [(0, .r (.sl (l1.map AP.row))), (2, .cst (.slice none 0 0)), (3, .cst (.slice none 0 0)), (4, .own 5004 n0), (5, .own 5005 (n0 + 1)), (12, .r (.sl (l1.map AP.row))), (13, .r (.int .i64 (l1.length : Int))), (14, .r (.int .i64 0))]) (h' := [(5004, some (.arr n0 55 4 (([] : List AE).map AE.row))), (5005, some (.arr (n0 + 1) 55 4 (([] : List AE).map AE.row)))]) ⟨.inl (.inl rfl), .inl (.inl rfl), .inl (.inl rfl), .inl (.inl rfl), .inl (.inl rfl), .inl (.inl rfl), .inl (.inl rfl), .inl (.inl rfl), trivial⟩ ⟨.inl rfl, .inl rfl, trivial⟩ (Nat.le_refl _))) (by exact AL ⟨.inl (.inl rfl), .inl (.inl rfl), .inl (.inl rfl), .inl (.inl rfl), .inl (.inl rfl), trivial⟩ ⟨.inl rfl, .inl rfl, trivial⟩ (Nat.le_refl _)))) ?_
  intro x2 items2 attrs2 i3 v2 hv2 hx1
  have h11 : EI l1 x2 items2 attrs2 = some v2 := hv2; unfold EI at h11
  refine AH fun K14 hK14 wK14 => ?_
  refine AW.region ?_
  refine AB.step rfl rfl rfl (AD (Ar rfl (.inl rfl) (.inl rfl)) _) ?_
  refine AB.nil ?_
  refine hK14 _ ?_
  refine AH fun K15 hK15 wK15 => ?_
  refine AW.cond rfl (fun hc3 => ?_) (fun hc3 => ?_)
  · have h12 := Ag hc3 h11
    refine AW.skip ?_
    refine hK15 _ ?_
    refine AH fun K16 hK16 wK16 => ?_
    refine AW.block ?_
    refine EJ h12 fun p2 hp2 hk4 => ?_
    have J4 : ∀ (items10 : List AE) (attrs5 : List AE) (i12 : Nat → Nat), p2 = (items10, attrs5) → K16 ⟨[(0, .r (.sl (l1.map AP.row))), (4, .own 5004 (i12 0)), (5, .own 5005 (i12 1)), (13, .r (.int .i64 (l1.length : Int))), (14, .r (.int .i64 x2))], [(5004, some (.arr (i12 0) 55 4 (items10.map AE.row))), (5005, some (.arr (i12 1) 55 4 (attrs5.map AE.row)))], (i12 2), 121⟩ := by
      intro items10 attrs5 i12 e
      have h13 := hk4 _ _ e
      refine hK16 _ ?_
      refine AW.region ?_
      refine AU h13 fun x10 ex10 h14 => ?_
      refine AB.step rfl rfl rfl (AD (BC rfl (.inl rfl) (.inl rfl) (fun _ => ex10)) _) ?_
      refine AB.step rfl rfl rfl (AD (AI rfl (.inl rfl)) _) ?_
      refine AB.nil ?_
      exact D4.mk h14 (Ab [(i12 0), (i12 1), (i12 2)]) ((by exact AL ⟨.inl (.inl rfl), .inl (.inl rfl), .inl (.inl rfl), .inl (.inl rfl), .inl (.inl rfl), trivial⟩ ⟨.inl rfl, .inl rfl, trivial⟩ (Nat.le_refl _)))
    refine AH fun K17 hK17 wK17 => ?_
    refine AW.region ?_
    refine AB.step rfl rfl rfl (AD (AI rfl (.inl rfl)) _) ?_
    refine AB.step rfl rfl rfl (AD (AK rfl (.inl rfl)) _) ?_
    refine AB.nil ?_
    refine hK17 _ ?_
    refine AH fun K18 hK18 wK18 => ?_
    refine AW.region ?_
    refine AB.step rfl rfl rfl (AD (AI rfl (.inl rfl)) _) ?_
    refine AB.step rfl rfl rfl (AD (AI rfl (.inl rfl)) _) ?_
    refine AU hp2 fun x11 ex11 h15 => ?_
    refine AB.step rfl rfl rfl (AD (A5 rfl Cc.slice (.inl rfl) (.inl rfl) (fun _ => rfl) (fun _ => ex11)) _) ?_
    refine AB.step rfl rfl rfl (AD (Be (cs := [.r (.int .i64 x11.Clock), .r (.int .i64 x11.Site), .r (.int .i64 x11.Kind), .r (.int .i64 x11.Item), .r (.int .i64 x11.Parent), .r (.str x11.Place), .r (.str x11.Name), .r (.str x11.Value)]) rfl DJ (.inl rfl) rfl rfl) _) ?_
    refine AB.step rfl rfl rfl (Bs (cs := [.r (.int .i64 0), .r (.int .i64 0), .r (.int .i64 0), .r (.int .i64 0), .r (.int .i64 0), .r (.str []), .r (.str []), .r (.str [])]) 7 rfl F4 rfl rfl) ?_
    refine BG rfl rfl (Ba (ds := [.r (.int .i64 x11.Clock), .r (.int .i64 x11.Site), .r (.int .i64 x11.Kind), .r (.int .i64 x11.Item), .r (.int .i64 x11.Parent), .r (.str x11.Place), .r (.str x11.Name), .r (.str x11.Value)]) rfl Ga (.inl rfl) rfl (.inl rfl) rfl rfl rfl rfl) ?_
    refine AB.nil ?_
    refine hK18 _ ?_
    refine AH fun K19 hK19 wK19 => ?_
    refine AH fun K20 hK20 wK20 => ?_
    refine AW.region ?_
    refine AB.step rfl rfl rfl (AD (AX (ob := .box _ _ _) rfl Bx (.inl rfl) (fun _ => rfl) rfl) _) ?_
    refine AB.step rfl rfl rfl (AD (AR (a := .r (.int .i64 x11.Kind)) rfl Ae (.inl rfl) rfl rfl) _) ?_
    refine AB.step rfl rfl rfl (AD (BH rfl (.inl rfl) (.inl rfl)) _) ?_
    refine AB.nil ?_
    refine hK20 _ ?_
    refine AW.cond rfl (fun hc4 => ?_) (fun hc4 => ?_)
    · have h16 := Ag hc4 h15
      refine AH fun K21 hK21 wK21 => ?_
      refine AW.weak (s' := ⟨[(0, .r (.sl (l1.map AP.row))), (4, .own 5004 (i3 0)), (5, .own 5005 (i3 1)), (7, .ptr 7 (i3 2) 0 0), (13, .r (.int .i64 (l1.length : Int))), (14, .r (.int .i64 x2))], [(7, some (.box (i3 2) 46 [.r (.int .i64 x11.Clock), .r (.int .i64 x11.Site), .r (.int .i64 x11.Kind), .r (.int .i64 x11.Item), .r (.int .i64 x11.Parent), .r (.str x11.Place), .r (.str x11.Name), .r (.str x11.Value)])), (5004, some (.arr (i3 0) 55 4 (items2.map AE.row))), (5005, some (.arr (i3 1) 55 4 (attrs2.map AE.row)))], ((i3 2) + 1), 121⟩) (by exact AL ⟨.inl (.inl rfl), .inl (.inl rfl), .inl (.inl rfl), .inl (.inl rfl), .inl (.inl rfl), .inl (.inl rfl), trivial⟩ ⟨.inl rfl, .inl rfl, .inl rfl, trivial⟩ (Nat.le_refl _)) ?_
      refine AW.region ?_
      refine AB.step rfl rfl rfl (AD (AI rfl (.inl rfl)) _) ?_
      refine AB.step rfl rfl rfl (AD (AX (ob := .box _ _ _) rfl CH (.inl rfl) (fun _ => rfl) rfl) _) ?_
      refine AB.step rfl rfl rfl (AD (AR (a := .r (.int .i64 x11.Item)) rfl Ae (.inl rfl) rfl rfl) _) ?_
      refine AU h16 fun k2 ek2 h17 => ?_
      refine AB.step rfl rfl rfl (A7 (r := .r (.int .i64 k2)) (caps := []) (bs := [.r (.sl (attrs2.map AE.row)), .r (.int .i64 x11.Item)]) rfl (.inl rfl) rfl ⟨⟨_, (.inl rfl), .one (.own rfl)⟩, ⟨_, (.inl rfl), .d rfl⟩, trivial⟩ (fun _ => Hv (ek2)) rfl) ?_
      refine AB.step rfl rfl rfl (AD (AK rfl (.inl rfl)) _) ?_
      refine AB.nil ?_
      refine hK21 _ ?_
      refine AH fun K22 hK22 wK22 => ?_
      refine AH fun K23 hK23 wK23 => ?_
      refine AW.region ?_
      refine AB.step rfl rfl rfl (AD (AI rfl (.inl rfl)) _) ?_
      refine AB.step rfl rfl rfl (AD (Ar rfl (.inl rfl) (.inl rfl)) _) ?_
      refine AB.nil ?_
      refine hK23 _ ?_
      refine EJ h17 fun p3 hp3 hk5 => ?_
      have J5 : ∀ (k3 : Int) (attrs6 : List AE) (i13 : Nat → Nat), p3 = (k3, attrs6) → K22 ⟨[(0, .r (.sl (l1.map AP.row))), (4, .own 5004 (i3 0)), (5, .own 5005 (i13 0)), (7, .ptr 7 (i3 2) 0 0), (8, .r (.int .i64 k3)), (13, .r (.int .i64 (l1.length : Int))), (14, .r (.int .i64 x2))], [(7, some (.box (i3 2) 46 [.r (.int .i64 x11.Clock), .r (.int .i64 x11.Site), .r (.int .i64 x11.Kind), .r (.int .i64 x11.Item), .r (.int .i64 x11.Parent), .r (.str x11.Place), .r (.str x11.Name), .r (.str x11.Value)])), (5004, some (.arr (i3 0) 55 4 (items2.map AE.row))), (5005, some (.arr (i13 0) 55 4 (attrs6.map AE.row)))], (i13 1), 121⟩ := by
        intro k3 attrs6 i13 e
        have h18 := hk5 _ _ e
        refine hK22 _ ?_
        refine AH fun K24 hK24 wK24 => ?_
        refine LD [0, 1] [2, 3, 4, 5, 6, 7, 8, 9, 10, 11] [12] 13 Bt (by kernel_rfl) rfl rfl rfl rfl rfl ?_
        refine DH.move rfl rfl rfl rfl ?_
        refine DH.move rfl rfl rfl rfl ?_
        refine DH.nil ?_
        refine AF.step rfl rfl rfl (AI rfl (.inl rfl)) ?_
        refine AF.step rfl rfl rfl (AI rfl (.inl rfl)) ?_
        refine AU h18 fun x12 ex12 h19 => ?_
        refine AF.step rfl rfl rfl (EO rfl Ao.slice (.inl rfl) rfl (.inl rfl) (fun _ => ex12)) ?_
        refine AF.step rfl rfl rfl (AX (ob := .arr _ _ _ _) rfl Ez (.inl rfl) (fun _ => rfl) rfl) ?_
        refine AF.step rfl rfl rfl (Kd (d := .sl (x12.Attrs.map AG.row)) rfl Fq (.inl rfl) (fun _ => rfl) (fun _ => ex12) rfl) ?_
        refine AF.step rfl rfl rfl (AX (ob := .box _ _ _) rfl FS (.inl rfl) (fun _ => rfl) rfl) ?_
        refine AF.step rfl rfl rfl (AR (a := .r (.str x11.Name)) rfl A4 (.inl rfl) rfl rfl) ?_
        refine AF.step rfl rfl rfl (AX (ob := .box _ _ _) rfl EV (.inl rfl) (fun _ => rfl) rfl) ?_
        refine AF.step rfl rfl rfl (AR (a := .r (.str x11.Value)) rfl A4 (.inl rfl) rfl rfl) ?_
        refine AF.step rfl rfl rfl (DO rfl Im (q := [(0, _), (1, _)]) (by exact ⟨rfl, rfl, rfl, (.inl rfl), rfl, rfl, rfl, (.inl rfl), trivial⟩) (cs := [.r (.str x11.Name), .r (.str x11.Value)]) (by rfl)) ?_
        refine AF.nil ?_
        refine AA.step rfl rfl rfl (OZ 50 rfl A9 (f := AG.row) (l := ([(AG.mk x11.Name x11.Value)] : List AG)) ⟨rfl, ⟨_, (.inl rfl), rfl⟩, trivial⟩ rfl (fun _ => rfl) rfl) ?_
        refine AA.nil ?_
        refine AB.weak (by exact AJ.frz (e' := [(0, .r (.sl (l1.map AP.row))), (4, .own 5004 (i3 0)), (5, .own 5005 (i13 0)), (7, .ptr 7 (i3 2) 0 0), (8, .r (.int .i64 k3)), (13, .r (.int .i64 (l1.length : Int))), (14, .r (.int .i64 x2)), (38, .own 5005 (i13 0)), (39, .r (.int .i64 k3)), (40, .own 5005 (i13 0)), (41, .r (.int .i64 k3)), (42, .ptr 5005 (i13 0) k3.toNat 0), (43, .ptr 5005 (i13 0) k3.toNat 3), (44, .r (.sl (x12.Attrs.map AG.row))), (45, .ptr 7 (i3 2) 0 6), (46, .r (.str x11.Name)), (47, .ptr 7 (i3 2) 0 7), (48, .r (.str x11.Value)), (49, .agg [.r (.str x11.Name), .r (.str x11.Value)]), (50, .r (.sl ([(AG.mk x11.Name x11.Value)].map AG.row)))]) (h' := [(7, some (.box (i3 2) 46 [.r (.int .i64 x11.Clock), .r (.int .i64 x11.Site), .r (.int .i64 x11.Kind), .r (.int .i64 x11.Item), .r (.int .i64 x11.Parent), .r (.str x11.Place), .r (.str x11.Name), .r (.str x11.Value)])), (5004, some (.arr (i3 0) 55 4 (items2.map AE.row))), (5005, some (.arr (i13 0) 55 4 (attrs6.map AE.row)))]) 50 rfl ⟨.inl (.inl rfl), .inl (.inl rfl), .inl (.inl rfl), .inl (.inl rfl), .inl (.inl rfl), .inl (.inl rfl), .inl (.inl rfl), .inl (.inl rfl), .inl (.inl rfl), .inl (.inl rfl), .inl (.inl rfl), .inl (.inl rfl), .inl (.inl rfl), .inl (.inl rfl), .inl (.inl rfl), .inl (.inl rfl), .inl (.inl rfl), .inl (.inl rfl), .inl (.inl rfl), .inl (.inr (.inr ⟨rfl, rfl⟩)), trivial⟩ ⟨rfl, .inl rfl, rfl, .inl rfl, rfl, .inl rfl, trivial⟩) ?_
        refine AU h19 fun r1 er1 h20 => ?_
        refine AB.step rfl rfl rfl (Dw (r := .r (.sl (r1.map AG.row))) (caps := []) (bs := [.r (.sl (x12.Attrs.map AG.row)), .r (.sl ([(AG.mk x11.Name x11.Value)].map AG.row))]) rfl (.inl rfl) rfl ⟨.inl ⟨(.inl rfl), rfl⟩, .inl ⟨(.inl rfl), rfl⟩, trivial⟩ (fun _ => OE (er1))) ?_
        refine AB.step rfl rfl rfl (AD (EO rfl Ao.slice (.inl rfl) rfl (.inl rfl) (fun _ => ex12)) _) ?_
        refine AB.step rfl rfl rfl (AD (AX (ob := .arr _ _ _ _) rfl Ez (.inl rfl) (fun _ => rfl) rfl) _) ?_
        refine BG rfl rfl (NP (v := (AE.mk x12.Item x12.Parent x12.Place r1)) rfl Gb (.inl rfl) rfl ex12 (.inl rfl) rfl rfl rfl rfl) ?_
        refine AB.nil ?_
        refine hK24 _ ?_
        refine AW.exit ?_
        exact wK16 _ _ ((by exact AL ⟨.inl (.inl rfl), .inl (.inl rfl), .inl (.inl rfl), .inl (.inl rfl), .inl (.inl rfl), trivial⟩ ⟨.inl rfl, .inl rfl, trivial⟩ (Nat.le_refl _))) (J4 _ _ (Ab [(i3 0), (i13 0), ((i13 1) + 1)]) (Option.some.inj h20).symm)
      refine AW.cond rfl (fun hc5 => ?_) (fun hc5 => ?_)
      · have h21 := Ag hc5 hp3
        refine AH fun K25 hK25 wK25 => ?_
        refine AW.region ?_
        refine AB.step rfl rfl rfl (AD (AI rfl (.inl rfl)) _) ?_
        refine AB.step rfl rfl rfl (AD (EG rfl Ao.slice (.inl rfl) rfl) _) ?_
        refine AB.step rfl rfl rfl (AD (AK rfl (.inl rfl)) _) ?_
        refine AB.nil ?_
        refine hK25 _ ?_
        refine AW.region ?_
        refine AB.step rfl rfl rfl (AD (AI rfl (.inl rfl)) _) ?_
        refine AB.step rfl rfl rfl (AD (AX (ob := .box _ _ _) rfl CH (.inl rfl) (fun _ => rfl) rfl) _) ?_
        refine AB.step rfl rfl rfl (AD (AR (a := .r (.int .i64 x11.Item)) rfl Ae (.inl rfl) rfl rfl) _) ?_
        refine AB.step rfl rfl rfl (AD (DO rfl HK (q := [(0, _)]) (by exact ⟨rfl, rfl, rfl, (.inl rfl), trivial⟩) (cs := [.r (.int .i64 x11.Item), .r (.int .i64 0), .r (.str []), .cst (.slice none 0 0)]) (by rfl)) _) ?_
        refine AB.step rfl rfl rfl (B3 36 rfl Ao (f := AE.row) (l := ([(AE.mk x11.Item 0 [] [])] : List AE)) ⟨rfl, ⟨_, (.inl rfl), rfl⟩, trivial⟩ rfl (fun _ => rfl) rfl) ?_
        refine AU h21 fun attrs7 eattrs7 h22 => ?_
        refine AB.step rfl rfl rfl (DE rfl Ao (.inl rfl) rfl (.inr (.inl ⟨_, _, (.inl rfl), rfl⟩)) eattrs7) ?_
        refine AB.step rfl rfl rfl (AD (AK rfl (.inl rfl)) _) ?_
        refine AB.nil ?_
        exact wK22 _ _ ((by exact AL ⟨.inl (.inl rfl), .inl (.inl rfl), .inl (.inl rfl), .inl (.inl rfl), .inl (.inl rfl), .inl (.inl rfl), .inl (.inl rfl), trivial⟩ ⟨.inl rfl, .inl rfl, .inl rfl, trivial⟩ (Nat.le_refl _))) (J5 _ _ (Ab [((i3 2) + 2), ((i3 2) + 3)]) (Option.some.inj h22).symm)
      · have h21 := Ah hc5 hp3
        refine AW.skip ?_
        exact wK22 _ _ ((by exact AL ⟨.inl (.inl rfl), .inl (.inl rfl), .inl (.inl rfl), .inl (.inl rfl), .inl (.inl rfl), .inl (.inl rfl), .inl (.inl rfl), trivial⟩ ⟨.inl rfl, .inl rfl, .inl rfl, trivial⟩ (Nat.le_refl _))) (J5 _ _ (Ab [(i3 1), ((i3 2) + 1)]) (Option.some.inj h21).symm)
    · have h16 := Ah hc4 h15
      refine AW.skip ?_
      refine hK19 _ ?_
      refine AH fun K26 hK26 wK26 => ?_
      refine AH fun K27 hK27 wK27 => ?_
      refine AW.weak (s' := ⟨[(0, .r (.sl (l1.map AP.row))), (4, .own 5004 (i3 0)), (5, .own 5005 (i3 1)), (7, .ptr 7 (i3 2) 0 0), (13, .r (.int .i64 (l1.length : Int))), (14, .r (.int .i64 x2))], [(7, some (.box (i3 2) 46 [.r (.int .i64 x11.Clock), .r (.int .i64 x11.Site), .r (.int .i64 x11.Kind), .r (.int .i64 x11.Item), .r (.int .i64 x11.Parent), .r (.str x11.Place), .r (.str x11.Name), .r (.str x11.Value)])), (5004, some (.arr (i3 0) 55 4 (items2.map AE.row))), (5005, some (.arr (i3 1) 55 4 (attrs2.map AE.row)))], ((i3 2) + 1), 121⟩) (by exact AL ⟨.inl (.inl rfl), .inl (.inl rfl), .inl (.inl rfl), .inl (.inl rfl), .inl (.inl rfl), .inl (.inl rfl), trivial⟩ ⟨.inl rfl, .inl rfl, .inl rfl, trivial⟩ (Nat.le_refl _)) ?_
      refine AW.region ?_
      refine AB.step rfl rfl rfl (AD (AX (ob := .box _ _ _) rfl Ch (.inl rfl) (fun _ => rfl) rfl) _) ?_
      refine AB.step rfl rfl rfl (AD (AR (a := .r (.int .i64 x11.Parent)) rfl Ae (.inl rfl) rfl rfl) _) ?_
      refine AB.step rfl rfl rfl (AD (AX (ob := .box _ _ _) rfl CH (.inl rfl) (fun _ => rfl) rfl) _) ?_
      refine AB.step rfl rfl rfl (AD (AR (a := .r (.int .i64 x11.Item)) rfl Ae (.inl rfl) rfl rfl) _) ?_
      refine AB.step rfl rfl rfl (AD (BH rfl (.inl rfl) (.inl rfl)) _) ?_
      refine AB.step rfl rfl rfl (AD (AI rfl (.inl rfl)) _) ?_
      refine AB.stepW (.one rfl rfl rfl) rfl rfl (AD (AX (ob := .box _ _ _) rfl Ch (.inl rfl) (fun _ => rfl) rfl) _) ?_
      refine AB.stepW (.one rfl rfl rfl) rfl rfl (AD (AR (a := .r (.int .i64 x11.Parent)) rfl Ae (.inr ⟨_, (by exact id), rfl⟩) rfl rfl) _) ?_
      refine AB.stepW (.one rfl rfl rfl) rfl rfl (AD (BT rfl (.inr ⟨_, (by exact id), rfl⟩) (.inl rfl)) _) ?_
      refine AB.stepW (.one rfl rfl rfl) rfl rfl (AD (AI rfl (.inr ⟨_, (by exact id), rfl⟩)) _) ?_
      refine AB.stepW (.two rfl rfl rfl) rfl rfl (AD (AI rfl (.inl rfl)) _) ?_
      refine AB.stepW (.two rfl rfl rfl) rfl rfl (AD (AX (ob := .box _ _ _) rfl Ch (.inl rfl) (fun _ => rfl) rfl) _) ?_
      refine AB.stepW (.two rfl rfl rfl) rfl rfl (AD (AR (a := .r (.int .i64 x11.Parent)) rfl Ae (.inr ⟨_, (by exact id), rfl⟩) rfl rfl) _) ?_
      refine AB.stepW (.two rfl rfl rfl) rfl rfl (AD (AX (ob := .box _ _ _) rfl CH (.inl rfl) (fun _ => rfl) rfl) _) ?_
      refine AB.stepW (.two rfl rfl rfl) rfl rfl (AD (AR (a := .r (.int .i64 x11.Item)) rfl Ae (.inr ⟨_, (by exact id), rfl⟩) rfl rfl) _) ?_
      refine AU h16 fun r2 er2 h23 => ?_
      refine AB.stepW (.two rfl rfl rfl) rfl rfl (A7 (r := .r (.bool r2)) (caps := []) (bs := [.r (.sl (items2.map AE.row)), .r (.int .i64 x11.Parent), .r (.int .i64 x11.Item)]) rfl (.inl rfl) rfl ⟨⟨_, (.inr ⟨_, (by exact id), rfl⟩), .one (.own rfl)⟩, ⟨_, (.inr ⟨_, (by exact id), rfl⟩), .d rfl⟩, ⟨_, (.inr ⟨_, (by exact id), rfl⟩), .d rfl⟩, trivial⟩ (fun hg => N7 (BL er2 hg)) rfl) ?_
      refine AB.stepW (.one rfl rfl rfl) rfl rfl (AD (A0 rfl (.inr ⟨_, (by exact id), rfl⟩) (.inr ⟨_, (by exact id), rfl⟩)) _) ?_
      refine AB.step rfl rfl rfl (AD (A3 rfl (.inl rfl) (.inr ⟨_, (by exact id), rfl⟩)) _) ?_
      refine AB.nil ?_
      refine hK27 _ ?_
      refine AW.cond rfl (fun hc6 => ?_) (fun hc6 => ?_)
      · have h24 := Ag hc6 h23
        refine AW.exit ?_
        exact wK16 _ _ ((by exact AL ⟨.inl (.inl rfl), .inl (.inl rfl), .inl (.inl rfl), .inl (.inl rfl), .inl (.inl rfl), trivial⟩ ⟨.inl rfl, .inl rfl, trivial⟩ (Nat.le_refl _))) (J4 _ _ (Ab [(i3 0), (i3 1), ((i3 2) + 1)]) (Option.some.inj h24).symm)
      · have h24 := Ah hc6 h23
        refine AW.skip ?_
        refine hK26 _ ?_
        refine AH fun K28 hK28 wK28 => ?_
        refine AW.region ?_
        refine AB.step rfl rfl rfl (AD (AI rfl (.inl rfl)) _) ?_
        refine AB.step rfl rfl rfl (AD (AX (ob := .box _ _ _) rfl CH (.inl rfl) (fun _ => rfl) rfl) _) ?_
        refine AB.step rfl rfl rfl (AD (AR (a := .r (.int .i64 x11.Item)) rfl Ae (.inl rfl) rfl rfl) _) ?_
        refine AU h24 fun k4 ek4 h25 => ?_
        refine AB.step rfl rfl rfl (A7 (r := .r (.int .i64 k4)) (caps := []) (bs := [.r (.sl (items2.map AE.row)), .r (.int .i64 x11.Item)]) rfl (.inl rfl) rfl ⟨⟨_, (.inl rfl), .one (.own rfl)⟩, ⟨_, (.inl rfl), .d rfl⟩, trivial⟩ (fun _ => Hv (ek4)) rfl) ?_
        refine AB.step rfl rfl rfl (AD (AK rfl (.inl rfl)) _) ?_
        refine AB.nil ?_
        refine hK28 _ ?_
        refine AH fun K29 hK29 wK29 => ?_
        refine AH fun K30 hK30 wK30 => ?_
        refine AW.weak (s' := ⟨[(0, .r (.sl (l1.map AP.row))), (4, .own 5004 (i3 0)), (5, .own 5005 (i3 1)), (7, .ptr 7 (i3 2) 0 0), (9, .r (.int .i64 k4)), (13, .r (.int .i64 (l1.length : Int))), (14, .r (.int .i64 x2))], [(7, some (.box (i3 2) 46 [.r (.int .i64 x11.Clock), .r (.int .i64 x11.Site), .r (.int .i64 x11.Kind), .r (.int .i64 x11.Item), .r (.int .i64 x11.Parent), .r (.str x11.Place), .r (.str x11.Name), .r (.str x11.Value)])), (5004, some (.arr (i3 0) 55 4 (items2.map AE.row))), (5005, some (.arr (i3 1) 55 4 (attrs2.map AE.row)))], ((i3 2) + 1), 121⟩) (by exact AL ⟨.inl (.inl rfl), .inl (.inl rfl), .inl (.inl rfl), .inl (.inl rfl), .inl (.inl rfl), .inl (.inl rfl), .inl (.inl rfl), trivial⟩ ⟨.inl rfl, .inl rfl, .inl rfl, trivial⟩ (Nat.le_refl _)) ?_
        refine AW.region ?_
        refine AB.step rfl rfl rfl (AD (AI rfl (.inl rfl)) _) ?_
        refine AB.step rfl rfl rfl (AD (Ar rfl (.inl rfl) (.inl rfl)) _) ?_
        refine AB.nil ?_
        refine hK30 _ ?_
        refine EJ h25 fun p4 hp4 hk6 => ?_
        have J6 : ∀ (k5 : Int) (items11 : List AE) (i14 : Nat → Nat), p4 = (k5, items11) → K29 ⟨[(0, .r (.sl (l1.map AP.row))), (4, .own 5004 (i14 0)), (5, .own 5005 (i3 1)), (7, .ptr 7 (i3 2) 0 0), (9, .r (.int .i64 k5)), (13, .r (.int .i64 (l1.length : Int))), (14, .r (.int .i64 x2))], [(7, some (.box (i3 2) 46 [.r (.int .i64 x11.Clock), .r (.int .i64 x11.Site), .r (.int .i64 x11.Kind), .r (.int .i64 x11.Item), .r (.int .i64 x11.Parent), .r (.str x11.Place), .r (.str x11.Name), .r (.str x11.Value)])), (5004, some (.arr (i14 0) 55 4 (items11.map AE.row))), (5005, some (.arr (i3 1) 55 4 (attrs2.map AE.row)))], (i14 1), 121⟩ := by
          intro k5 items11 i14 e
          have h26 := hk6 _ _ e
          refine hK29 _ ?_
          refine AW.region ?_
          refine AB.step rfl rfl rfl (AD (AI rfl (.inl rfl)) _) ?_
          refine AB.step rfl rfl rfl (AD (AI rfl (.inl rfl)) _) ?_
          refine AB.step rfl rfl rfl (AD (AX (ob := .box _ _ _) rfl CH (.inl rfl) (fun _ => rfl) rfl) _) ?_
          refine AB.step rfl rfl rfl (AD (AR (a := .r (.int .i64 x11.Item)) rfl Ae (.inl rfl) rfl rfl) _) ?_
          refine AB.step rfl rfl rfl (AD (AX (ob := .box _ _ _) rfl Ch (.inl rfl) (fun _ => rfl) rfl) _) ?_
          refine AB.step rfl rfl rfl (AD (AR (a := .r (.int .i64 x11.Parent)) rfl Ae (.inl rfl) rfl rfl) _) ?_
          refine AB.step rfl rfl rfl (AD (AX (ob := .box _ _ _) rfl Ej (.inl rfl) (fun _ => rfl) rfl) _) ?_
          refine AB.step rfl rfl rfl (AD (AR (a := .r (.str x11.Place)) rfl A4 (.inl rfl) rfl rfl) _) ?_
          refine AB.step rfl rfl rfl (AD (DO rfl HK (q := [(0, _), (1, _), (2, _)]) (by exact ⟨rfl, rfl, rfl, (.inl rfl), rfl, rfl, rfl, (.inl rfl), rfl, rfl, rfl, (.inl rfl), trivial⟩) (cs := [.r (.int .i64 x11.Item), .r (.int .i64 x11.Parent), .r (.str x11.Place), .cst (.slice none 0 0)]) (by rfl)) _) ?_
          refine AU h26 fun x13 ex13 h27 => ?_
          refine AB.step rfl rfl rfl (AD (EO rfl Ao.slice (.inl rfl) rfl (.inl rfl) (fun _ => ex13)) _) ?_
          refine BG rfl rfl (O9 (v := (AE.mk x11.Item x11.Parent x11.Place [])) rfl E6 (.inl rfl) rfl ex13 (.inl rfl) rfl rfl rfl rfl) ?_
          refine AB.nil ?_
          exact wK16 _ _ ((by exact AL ⟨.inl (.inl rfl), .inl (.inl rfl), .inl (.inl rfl), .inl (.inl rfl), .inl (.inl rfl), trivial⟩ ⟨.inl rfl, .inl rfl, trivial⟩ (Nat.le_refl _))) (J4 _ _ (Ab [(i14 0), (i3 1), (i14 1)]) (Option.some.inj h27).symm)
        refine AW.cond rfl (fun hc7 => ?_) (fun hc7 => ?_)
        · have h28 := Ag hc7 hp4
          refine AH fun K31 hK31 wK31 => ?_
          refine AW.region ?_
          refine AB.step rfl rfl rfl (AD (AI rfl (.inl rfl)) _) ?_
          refine AB.step rfl rfl rfl (AD (EG rfl Ao.slice (.inl rfl) rfl) _) ?_
          refine AB.step rfl rfl rfl (AD (AK rfl (.inl rfl)) _) ?_
          refine AB.nil ?_
          refine hK31 _ ?_
          refine AW.region ?_
          refine AB.step rfl rfl rfl (AD (AI rfl (.inl rfl)) _) ?_
          refine AB.step rfl rfl rfl (AD (DO rfl HK (q := []) (by exact trivial) (cs := [.r (.int .i64 0), .r (.int .i64 0), .r (.str []), .cst (.slice none 0 0)]) (by rfl)) _) ?_
          refine AB.step rfl rfl rfl (B3 82 rfl Ao (f := AE.row) (l := ([(AE.mk 0 0 [] [])] : List AE)) ⟨rfl, ⟨_, (.inl rfl), rfl⟩, trivial⟩ rfl (fun _ => rfl) rfl) ?_
          refine AU h28 fun items12 eitems12 h29 => ?_
          refine AB.step rfl rfl rfl (DE rfl Ao (.inl rfl) rfl (.inr (.inl ⟨_, _, (.inl rfl), rfl⟩)) eitems12) ?_
          refine AB.step rfl rfl rfl (AD (AK rfl (.inl rfl)) _) ?_
          refine AB.nil ?_
          exact wK29 _ _ ((by exact AL ⟨.inl (.inl rfl), .inl (.inl rfl), .inl (.inl rfl), .inl (.inl rfl), .inl (.inl rfl), .inl (.inl rfl), .inl (.inl rfl), trivial⟩ ⟨.inl rfl, .inl rfl, .inl rfl, trivial⟩ (Nat.le_refl _))) (J6 _ _ (Ab [((i3 2) + 2), ((i3 2) + 3)]) (Option.some.inj h29).symm)
        · have h28 := Ah hc7 hp4
          refine AW.skip ?_
          exact wK29 _ _ ((by exact AL ⟨.inl (.inl rfl), .inl (.inl rfl), .inl (.inl rfl), .inl (.inl rfl), .inl (.inl rfl), .inl (.inl rfl), .inl (.inl rfl), trivial⟩ ⟨.inl rfl, .inl rfl, .inl rfl, trivial⟩ (Nat.le_refl _))) (J6 _ _ (Ab [(i3 0), ((i3 2) + 1)]) (Option.some.inj h28).symm)
  · have h12 := Ah hc3 h11
    refine AW.exit ?_
    exact wK3 _ _ ((by exact AL ⟨.inl (.inl rfl), .inl (.inl rfl), trivial⟩ ⟨.inl rfl, .inl rfl, trivial⟩ (Nat.le_refl _))) (J1 _ _ (Ab [(i3 0), (i3 1), (i3 2)]) (hx1 _ (Option.some.inj h12).symm))
theorem OR {self : (List AE) → (List AE) → Int → Option (List AE)} (hself : ∀ {out1 : List AE} {l1 : List AE} {parent1 : Int} {r : (List AE)} {ga1000 : Nat}, self out1 l1 parent1 = some r → BJ Try.prog 31 1 [.r (.sl (l1.map AE.row)), .r (.int .i64 parent1), .own 1000 ga1000] [(1000, some (.arr ga1000 55 4 (out1.map AE.row)))] (fun rr h' => ∃ (i : Nat → Nat), rr = .own 1000 (i 0) ∧ h' = [(1000, some (.arr (i 0) 55 4 (r.map AE.row)))])) {out1 : List AE} {l1 : List AE} {parent1 : Int} {r : (List AE)} {ga1000 : Nat} (h : Ey self out1 l1 parent1 = some r) : BJ Try.prog 31 1 [.r (.sl (l1.map AE.row)), .r (.int .i64 parent1), .own 1000 ga1000] [(1000, some (.arr ga1000 55 4 (out1.map AE.row)))] (fun rr h' => ∃ (i : Nat → Nat), rr = .own 1000 (i 0) ∧ h' = [(1000, some (.arr (i 0) 55 4 (r.map AE.row)))]) := by
  unfold Ey at h
  refine Gk Try.func31 rfl rfl Try.ntmps31 (Nat.le_of_ble_eq_true rfl) fun n0 => ?_
  refine AH fun K1 hK1 wK1 => ?_
  refine AW.region ?_
  refine AB.step rfl rfl rfl (AD (AK rfl (.inl rfl)) _) ?_
  refine AB.nil ?_
  refine hK1 _ ?_
  refine AH fun K2 hK2 wK2 => ?_
  refine AW.region ?_
  refine AB.step rfl rfl rfl (AD (AK rfl (.inl rfl)) _) ?_
  refine AB.step rfl rfl rfl (AD (AK rfl (.inl rfl)) _) ?_
  refine AB.nil ?_
  refine hK2 _ ?_
  refine AW.block ?_
  refine B5 h fun o1 hit1 hk1 he1 => ?_
  refine II (fun (place2 : List UInt8) (item2 : Int) (out3 : List AE) i3 => ⟨[(0, .r (.sl (l1.map AE.row))), (1, .r (.int .i64 parent1)), (2, .own 1000 (i3 0)), (7, .r (.str place2)), (8, .r (.int .i64 item2))], [(1000, some (.arr (i3 0) 55 4 (out3.map AE.row)))], (i3 1), 100⟩) (Ab [ga1000, n0]) hit1 ((by exact AL ⟨.inl (.inl rfl), .inl (.inl rfl), .inl (.inl rfl), .inl (.inl rfl), .inl (.inl rfl), trivial⟩ ⟨.inl rfl, trivial⟩ (Nat.le_refl _))) ?_
  intro place2 item2 out3 i3 v1 hv1 hx1
  have h1 : DM l1 parent1 self place2 item2 out3 = some v1 := hv1; unfold DM at h1
  refine AW.block ?_
  refine AH fun K3 hK3 wK3 => ?_
  refine AW.region ?_
  refine AB.step rfl rfl rfl (AD (AK rfl (.inl rfl)) _) ?_
  refine AB.nil ?_
  refine hK3 _ ?_
  refine AH fun K4 hK4 wK4 => ?_
  refine AH fun K5 hK5 wK5 => ?_
  refine AW.region ?_
  refine AB.step rfl rfl rfl (AD (AI rfl (.inl rfl)) _) ?_
  refine AB.step rfl rfl rfl (AD (BO rfl Ao.slice (.inl rfl)) _) ?_
  refine AB.step rfl rfl rfl (AD (AI rfl (.inl rfl)) _) ?_
  refine AB.nil ?_
  refine hK5 _ ?_
  refine AW.block ?_
  refine Cj h1 fun o2 hit2 hk2 => ?_
  have J2 : ∀ (next4 : Int) (i9 : Nat → Nat), o2 = next4 → K4 ⟨[(0, .r (.sl (l1.map AE.row))), (1, .r (.int .i64 parent1)), (2, .own 1000 (i3 0)), (9, .r (.int .i64 next4))], [(1000, some (.arr (i3 0) 55 4 (out3.map AE.row)))], (i9 0), 100⟩ := by
    intro next4 i9 e
    have h2 := hk2 _ e
    refine hK4 _ ?_
    refine AH fun K6 hK6 wK6 => ?_
    refine AH fun K7 hK7 wK7 => ?_
    refine AW.region ?_
    refine AB.step rfl rfl rfl (AD (AI rfl (.inl rfl)) _) ?_
    refine AB.step rfl rfl rfl (AD (Ar rfl (.inl rfl) (.inl rfl)) _) ?_
    refine AB.nil ?_
    refine hK7 _ ?_
    refine AW.cond rfl (fun hc1 => ?_) (fun hc1 => ?_)
    · have h3 := Ag hc1 h2
      refine AH fun K8 hK8 wK8 => ?_
      refine AW.region ?_
      refine AB.step rfl rfl rfl (AD (AI rfl (.inl rfl)) _) ?_
      refine AB.step rfl rfl rfl (AD (AK rfl (.inl rfl)) _) ?_
      refine AB.nil ?_
      refine hK8 _ ?_
      refine AW.ret ?_
      exact Cy.mk (s' := ⟨[(6, .own 1000 (i3 0))], [(1000, some (.arr (i3 0) 55 4 (out3.map AE.row)))], (i9 0), 100⟩) ((by exact AL ⟨.inl (.inl rfl), trivial⟩ ⟨.inl rfl, trivial⟩ (Nat.le_refl _))) (D5 (fun (r : (List AE)) rr h' => ∃ (i : Nat → Nat), rr = .own 1000 (i 0) ∧ h' = [(1000, some (.arr (i 0) 55 4 (r.map AE.row)))]) (he1 _ (hx1 _ (Option.some.inj h3).symm)) (by exact ⟨.own 1000 (i3 0), [(1000, some (.arr (i3 0) 55 4 (out3.map AE.row)))], rfl, ⟨.inr rfl, trivial⟩, rfl, rfl, Ab [(i3 0)], rfl, rfl⟩))
    · have h3 := Ah hc1 h2
      refine AW.skip ?_
      refine hK6 _ ?_
      refine AH fun K9 hK9 wK9 => ?_
      refine Dr Bt (by kernel_rfl) ?_
      refine AQ.step rfl rfl rfl (AI rfl (.inl rfl)) ?_
      refine AQ.step rfl rfl rfl (AI rfl (.inl rfl)) ?_
      refine AU h3 fun x4 ex4 h4 => ?_
      refine AQ.step rfl rfl rfl (A5 rfl Ao.slice (.inl rfl) (.inl rfl) (fun _ => rfl) (fun _ => ex4)) ?_
      refine AQ.step rfl rfl rfl (CK rfl Dm (.inl rfl)) ?_
      refine AQ.step rfl rfl rfl (CE (d := .str x4.Place) rfl A4 (.inl rfl) rfl) ?_
      refine AQ.step rfl rfl rfl (AI rfl (.inl rfl)) ?_
      refine AQ.step rfl rfl rfl (AI rfl (.inl rfl)) ?_
      refine AQ.step rfl rfl rfl (A5 rfl Ao.slice (.inl rfl) (.inl rfl) (fun _ => rfl) (fun _ => ex4)) ?_
      refine AQ.step rfl rfl rfl (CK rfl Bf (.inl rfl)) ?_
      refine AQ.step rfl rfl rfl (CE (d := .int .i64 x4.Item) rfl Ae (.inl rfl) rfl) ?_
      refine AQ.step rfl rfl rfl (AK rfl (.inl rfl)) ?_
      refine AQ.step rfl rfl rfl (AK rfl (.inl rfl)) ?_
      refine AQ.nil ?_
      refine hK9 _ ?_
      refine AW.weak (s' := ⟨[(0, .r (.sl (l1.map AE.row))), (1, .r (.int .i64 parent1)), (2, .own 1000 (i3 0)), (7, .r (.str x4.Place)), (8, .r (.int .i64 x4.Item)), (9, .r (.int .i64 next4))], [(1000, some (.arr (i3 0) 55 4 (out3.map AE.row)))], (i9 0), 100⟩) (by exact AL ⟨.inl (.inl rfl), .inl (.inl rfl), .inl (.inl rfl), .inl (.inl rfl), .inl (.inl rfl), .inl (.inl rfl), trivial⟩ ⟨.inl rfl, trivial⟩ (Nat.le_refl _)) ?_
      refine AW.region ?_
      refine AB.step rfl rfl rfl (AD (AI rfl (.inl rfl)) _) ?_
      refine AB.step rfl rfl rfl (AD (AI rfl (.inl rfl)) _) ?_
      refine AB.step rfl rfl rfl (AD (AI rfl (.inl rfl)) _) ?_
      refine AB.step rfl rfl rfl (AD (AI rfl (.inl rfl)) _) ?_
      refine AB.step rfl rfl rfl (AD (AI rfl (.inl rfl)) _) ?_
      refine AB.step rfl rfl rfl (AD (A5 rfl Ao.slice (.inl rfl) (.inl rfl) (fun _ => rfl) (fun _ => ex4)) _) ?_
      refine AB.step rfl rfl rfl (AD (Be (cs := [.r (.int .i64 x4.Item), .r (.int .i64 x4.Parent), .r (.str x4.Place), .r (.sl (x4.Attrs.map AG.row))]) rfl CL (.inl rfl) rfl rfl) _) ?_
      refine AB.step rfl rfl rfl (B3 97 rfl Ao (f := AE.row) (l := ([x4] : List AE)) ⟨rfl, ⟨_, (.inl rfl), rfl⟩, trivial⟩ rfl (fun _ => rfl) rfl) ?_
      refine AU h4 fun l2 el2 h5 => ?_
      refine AB.step rfl rfl rfl (DE rfl Ao (.inl rfl) rfl (.inr (.inl ⟨_, _, (.inl rfl), rfl⟩)) el2) ?_
      refine AU h5 fun w1 ew1 h6 => ?_
      refine Ds [1000] (hc := [(1000, some (.arr ((i9 0) + 1) 55 4 (l2.map AE.row)))]) (bs := [.r (.sl (l1.map AE.row)), .r (.int .i64 x4.Item), .own 1000 ((i9 0) + 1)]) (caps := []) rfl rfl rfl rfl (.inl rfl) rfl ⟨.inl ⟨(.inl rfl), rfl⟩, .inl ⟨(.inl rfl), rfl⟩, .inl ⟨(.inl rfl), rfl⟩, trivial⟩ ⟨rfl, rfl, rfl, trivial⟩ (by decide) (hself ew1) ?_
      intro i10 n1
      refine AB.weak (s' := ⟨[(0, .r (.sl (l1.map AE.row))), (1, .r (.int .i64 parent1)), (7, .r (.str x4.Place)), (8, .r (.int .i64 x4.Item)), (9, .r (.int .i64 next4)), (90, .r (.sl (l1.map AE.row))), (91, .r (.int .i64 x4.Item)), (93, .r (.sl (l1.map AE.row))), (94, .r (.int .i64 next4)), (95, .rop (AE.row x4) 0), (96, .agg [.r (.int .i64 x4.Item), .r (.int .i64 x4.Parent), .r (.str x4.Place), .r (.sl (x4.Attrs.map AG.row))]), (97, .own 97 (i9 0)), (99, .own 1000 (i10 0))], [(97, some (.arr (i9 0) 55 4 ([x4].map AE.row))), (1000, some (.arr (i10 0) 55 4 (w1.map AE.row)))], n1, 100⟩) (by exact AL ⟨.inl (.inl rfl), .inl (.inl rfl), .inl (.inl rfl), .inl (.inl rfl), .inl (.inl rfl), .inl (.inl rfl), .inl (.inl rfl), .inl (.inl rfl), .inl (.inl rfl), .inl (.inl rfl), .inl (.inl rfl), .inl (.inl rfl), .inl (.inl rfl), trivial⟩ ⟨.inl rfl, .inl rfl, trivial⟩ (Nat.le_refl _)) ?_
      refine AB.step rfl rfl rfl (AD (AK rfl (.inl rfl)) _) ?_
      refine AB.nil ?_
      exact D4.mk h6 (Ab [(i10 0), n1]) ((by exact AL ⟨.inl (.inl rfl), .inl (.inl rfl), .inl (.inl rfl), .inl (.inl rfl), .inl (.inl rfl), trivial⟩ ⟨.inl rfl, trivial⟩ (Nat.le_refl _)))
  refine EB (fun (next2 : Int) (x2 : Int) i7 => ⟨[(0, .r (.sl (l1.map AE.row))), (1, .r (.int .i64 parent1)), (2, .own 1000 (i3 0)), (7, .r (.str place2)), (8, .r (.int .i64 item2)), (9, .r (.int .i64 next2)), (13, .r (.int .i64 (l1.length : Int))), (14, .r (.int .i64 x2))], [(1000, some (.arr (i3 0) 55 4 (out3.map AE.row)))], (i7 0), 100⟩) (Ab [(i3 1)]) hit2 ((by exact AL ⟨.inl (.inl rfl), .inl (.inl rfl), .inl (.inl rfl), .inl (.inl rfl), .inl (.inl rfl), .inl (.inl rfl), .inl (.inl rfl), .inl (.inl rfl), trivial⟩ ⟨.inl rfl, trivial⟩ (Nat.le_refl _))) ?_
  intro next2 x2 i7 v2 hv2 hx2
  have h7 : Ec l1 parent1 place2 item2 next2 x2 = some v2 := hv2; unfold Ec at h7
  refine AH fun K10 hK10 wK10 => ?_
  refine AW.region ?_
  refine AB.step rfl rfl rfl (AD (Ar rfl (.inl rfl) (.inl rfl)) _) ?_
  refine AB.nil ?_
  refine hK10 _ ?_
  refine AH fun K11 hK11 wK11 => ?_
  refine AW.cond rfl (fun hc2 => ?_) (fun hc2 => ?_)
  · have h8 := Ag hc2 h7
    refine AW.skip ?_
    refine hK11 _ ?_
    refine AH fun K12 hK12 wK12 => ?_
    refine AW.block ?_
    refine Cj h8 fun p1 hp1 hk3 => ?_
    have J3 : ∀ (next5 : Int) (i11 : Nat → Nat), p1 = next5 → K12 ⟨[(0, .r (.sl (l1.map AE.row))), (1, .r (.int .i64 parent1)), (2, .own 1000 (i3 0)), (7, .r (.str place2)), (8, .r (.int .i64 item2)), (9, .r (.int .i64 next5)), (13, .r (.int .i64 (l1.length : Int))), (14, .r (.int .i64 x2))], [(1000, some (.arr (i3 0) 55 4 (out3.map AE.row)))], (i11 0), 100⟩ := by
      intro next5 i11 e
      have h9 := hk3 _ e
      refine hK12 _ ?_
      refine AW.region ?_
      refine AU h9 fun x5 ex5 h10 => ?_
      refine AB.step rfl rfl rfl (AD (BC rfl (.inl rfl) (.inl rfl) (fun _ => ex5)) _) ?_
      refine AB.step rfl rfl rfl (AD (AI rfl (.inl rfl)) _) ?_
      refine AB.nil ?_
      exact DD.mk h10 (Ab [(i11 0)]) ((by exact AL ⟨.inl (.inl rfl), .inl (.inl rfl), .inl (.inl rfl), .inl (.inl rfl), .inl (.inl rfl), .inl (.inl rfl), .inl (.inl rfl), .inl (.inl rfl), trivial⟩ ⟨.inl rfl, trivial⟩ (Nat.le_refl _)))
    refine AH fun K13 hK13 wK13 => ?_
    refine AW.region ?_
    refine AB.step rfl rfl rfl (AD (AI rfl (.inl rfl)) _) ?_
    refine AB.step rfl rfl rfl (AD (AK rfl (.inl rfl)) _) ?_
    refine AB.nil ?_
    refine hK13 _ ?_
    refine AH fun K14 hK14 wK14 => ?_
    refine AW.region ?_
    refine AB.step rfl rfl rfl (AD (AI rfl (.inl rfl)) _) ?_
    refine AB.step rfl rfl rfl (AD (AI rfl (.inl rfl)) _) ?_
    refine AU hp1 fun x6 ex6 h11 => ?_
    refine AB.step rfl rfl rfl (AD (A5 rfl Ao.slice (.inl rfl) (.inl rfl) (fun _ => rfl) (fun _ => ex6)) _) ?_
    refine AB.step rfl rfl rfl (AD (Be (cs := [.r (.int .i64 x6.Item), .r (.int .i64 x6.Parent), .r (.str x6.Place), .r (.sl (x6.Attrs.map AG.row))]) rfl CL (.inl rfl) rfl rfl) _) ?_
    refine AB.step rfl rfl rfl (Bs (cs := [.r (.int .i64 0), .r (.int .i64 0), .r (.str []), .cst (.slice none 0 0)]) 11 rfl Fe rfl rfl) ?_
    refine BG rfl rfl (Ba (ds := [.r (.int .i64 x6.Item), .r (.int .i64 x6.Parent), .r (.str x6.Place), .r (.sl (x6.Attrs.map AG.row))]) rfl E6 (.inl rfl) rfl (.inl rfl) rfl rfl rfl rfl) ?_
    refine AB.nil ?_
    refine hK14 _ ?_
    refine AH fun K15 hK15 wK15 => ?_
    refine AH fun K16 hK16 wK16 => ?_
    refine AW.region ?_
    refine AB.step rfl rfl rfl (AD (AX (ob := .box _ _ _) rfl Dd (.inl rfl) (fun _ => rfl) rfl) _) ?_
    refine AB.step rfl rfl rfl (AD (AR (a := .r (.int .i64 x6.Parent)) rfl Ae (.inl rfl) rfl rfl) _) ?_
    refine AB.step rfl rfl rfl (AD (AI rfl (.inl rfl)) _) ?_
    refine AB.step rfl rfl rfl (AD (Bq rfl (.inl rfl) (.inl rfl)) _) ?_
    refine AB.step rfl rfl rfl (AD (AI rfl (.inl rfl)) _) ?_
    refine AB.stepW (.one rfl rfl rfl) rfl rfl (AD (AX (ob := .box _ _ _) rfl Dm (.inl rfl) (fun _ => rfl) rfl) _) ?_
    refine AB.stepW (.one rfl rfl rfl) rfl rfl (AD (AR (a := .r (.str x6.Place)) rfl A4 (.inr ⟨_, (by exact id), rfl⟩) rfl rfl) _) ?_
    refine AB.stepW (.one rfl rfl rfl) rfl rfl (AD (AI rfl (.inl rfl)) _) ?_
    refine AB.stepW (.one rfl rfl rfl) rfl rfl (AD (Gz rfl (.inr ⟨_, (by exact id), rfl⟩) (.inr ⟨_, (by exact id), rfl⟩)) _) ?_
    refine AB.step rfl rfl rfl (AD (A3 rfl (.inl rfl) (.inr ⟨_, (by exact id), rfl⟩)) _) ?_
    refine AB.step rfl rfl rfl (AD (AI rfl (.inl rfl)) _) ?_
    refine AB.stepW (.one rfl rfl rfl) rfl rfl (AD (AX (ob := .box _ _ _) rfl Dm (.inl rfl) (fun _ => rfl) rfl) _) ?_
    refine AB.stepW (.one rfl rfl rfl) rfl rfl (AD (AR (a := .r (.str x6.Place)) rfl A4 (.inr ⟨_, (by exact id), rfl⟩) rfl rfl) _) ?_
    refine AB.stepW (.one rfl rfl rfl) rfl rfl (AD (AI rfl (.inl rfl)) _) ?_
    refine AB.stepW (.one rfl rfl rfl) rfl rfl (AD (Et rfl (.inr ⟨_, (by exact id), rfl⟩) (.inr ⟨_, (by exact id), rfl⟩)) _) ?_
    refine AB.stepW (.one rfl rfl rfl) rfl rfl (AD (AI rfl (.inr ⟨_, (by exact id), rfl⟩)) _) ?_
    refine AB.stepW (.two rfl rfl rfl) rfl rfl (AD (AX (ob := .box _ _ _) rfl Bf (.inl rfl) (fun _ => rfl) rfl) _) ?_
    refine AB.stepW (.two rfl rfl rfl) rfl rfl (AD (AR (a := .r (.int .i64 x6.Item)) rfl Ae (.inr ⟨_, (by exact id), rfl⟩) rfl rfl) _) ?_
    refine AB.stepW (.two rfl rfl rfl) rfl rfl (AD (AI rfl (.inl rfl)) _) ?_
    refine AB.stepW (.two rfl rfl rfl) rfl rfl (AD (ET rfl (.inr ⟨_, (by exact id), rfl⟩) (.inr ⟨_, (by exact id), rfl⟩)) _) ?_
    refine AB.stepW (.one rfl rfl rfl) rfl rfl (AD (A0 rfl (.inr ⟨_, (by exact id), rfl⟩) (.inr ⟨_, (by exact id), rfl⟩)) _) ?_
    refine AB.step rfl rfl rfl (AD (A3 rfl (.inl rfl) (.inr ⟨_, (by exact id), rfl⟩)) _) ?_
    refine AB.nil ?_
    refine hK16 _ ?_
    refine AW.cond rfl (fun hc3 => ?_) (fun hc3 => ?_)
    · have h12 := Ag hc3 h11
      refine AW.exit ?_
      exact wK12 _ _ ((by exact AL ⟨.inl (.inl rfl), .inl (.inl rfl), .inl (.inl rfl), .inl (.inl rfl), .inl (.inl rfl), .inl (.inl rfl), .inl (.inl rfl), .inl (.inl rfl), trivial⟩ ⟨.inl rfl, trivial⟩ (Nat.le_refl _))) (J3 _ (Ab [((i7 0) + 1)]) (Option.some.inj h12).symm)
    · have h12 := Ah hc3 h11
      refine AW.skip ?_
      refine hK15 _ ?_
      refine AH fun K17 hK17 wK17 => ?_
      refine AW.weak (s' := ⟨[(0, .r (.sl (l1.map AE.row))), (1, .r (.int .i64 parent1)), (2, .own 1000 (i3 0)), (7, .r (.str place2)), (8, .r (.int .i64 item2)), (9, .r (.int .i64 next2)), (10, .r (.int .i64 x2)), (11, .ptr 11 (i7 0) 0 0), (13, .r (.int .i64 (l1.length : Int))), (14, .r (.int .i64 x2))], [(11, some (.box (i7 0) 55 [.r (.int .i64 x6.Item), .r (.int .i64 x6.Parent), .r (.str x6.Place), .r (.sl (x6.Attrs.map AG.row))])), (1000, some (.arr (i3 0) 55 4 (out3.map AE.row)))], ((i7 0) + 1), 100⟩) (by exact AL ⟨.inl (.inl rfl), .inl (.inl rfl), .inl (.inl rfl), .inl (.inl rfl), .inl (.inl rfl), .inl (.inl rfl), .inl (.inl rfl), .inl (.inl rfl), .inl (.inl rfl), .inl (.inl rfl), trivial⟩ ⟨.inl rfl, .inl rfl, trivial⟩ (Nat.le_refl _)) ?_
      refine Dr Bt (by kernel_rfl) ?_
      refine AQ.step rfl rfl rfl (AI rfl (.inl rfl)) ?_
      refine AQ.step rfl rfl rfl (Ar rfl (.inl rfl) (.inl rfl)) ?_
      refine AQ.step rfl rfl rfl (AI rfl (.inl rfl)) ?_
      refine AQ.stepW (.one rfl rfl rfl) rfl rfl (AX (ob := .box _ _ _) rfl Dm (.inl rfl) (fun _ => rfl) rfl) ?_
      refine AQ.stepW (.one rfl rfl rfl) rfl rfl (AR (a := .r (.str x6.Place)) rfl A4 (.inr ⟨_, (by exact id), rfl⟩) rfl rfl) ?_
      refine AQ.stepW (.one rfl rfl rfl) rfl rfl (AI rfl (.inl rfl)) ?_
      refine AQ.stepW (.one rfl rfl rfl) rfl rfl (AI rfl (.inl rfl)) ?_
      refine AU h12 fun x7 ex7 h13 => ?_
      refine AQ.stepW (.one rfl rfl rfl) rfl rfl (A5 rfl Ao.slice (.inr ⟨_, (by exact id), rfl⟩) (.inr ⟨_, (by exact id), rfl⟩) (fun _ => rfl) (BL ex7)) ?_
      refine AQ.stepW (.one rfl rfl rfl) rfl rfl (CK rfl Dm (.inr ⟨_, (by exact id), rfl⟩)) ?_
      refine AQ.stepW (.one rfl rfl rfl) rfl rfl (CE (d := .str x7.Place) rfl A4 (.inr ⟨_, (by exact id), rfl⟩) rfl) ?_
      refine AQ.stepW (.one rfl rfl rfl) rfl rfl (Gz rfl (.inr ⟨_, (by exact id), rfl⟩) (.inr ⟨_, (by exact id), rfl⟩)) ?_
      refine AQ.step rfl rfl rfl (A3 rfl (.inl rfl) (.inr ⟨_, (by exact id), rfl⟩)) ?_
      refine AQ.step rfl rfl rfl (AI rfl (.inl rfl)) ?_
      refine AQ.stepW (.one rfl rfl rfl) rfl rfl (AX (ob := .box _ _ _) rfl Dm (.inl rfl) (fun _ => rfl) rfl) ?_
      refine AQ.stepW (.one rfl rfl rfl) rfl rfl (AR (a := .r (.str x6.Place)) rfl A4 (.inr ⟨_, (by exact id), rfl⟩) rfl rfl) ?_
      refine AQ.stepW (.one rfl rfl rfl) rfl rfl (AI rfl (.inl rfl)) ?_
      refine AQ.stepW (.one rfl rfl rfl) rfl rfl (AI rfl (.inl rfl)) ?_
      refine AU h13 fun x8 ex8 h14 => ?_
      refine AQ.stepW (.one rfl rfl rfl) rfl rfl (A5 rfl Ao.slice (.inr ⟨_, (by exact id), rfl⟩) (.inr ⟨_, (by exact id), rfl⟩) (fun _ => rfl) (BL ex8)) ?_
      refine AQ.stepW (.one rfl rfl rfl) rfl rfl (CK rfl Dm (.inr ⟨_, (by exact id), rfl⟩)) ?_
      refine AQ.stepW (.one rfl rfl rfl) rfl rfl (CE (d := .str x8.Place) rfl A4 (.inr ⟨_, (by exact id), rfl⟩) rfl) ?_
      refine AQ.stepW (.one rfl rfl rfl) rfl rfl (Et rfl (.inr ⟨_, (by exact id), rfl⟩) (.inr ⟨_, (by exact id), rfl⟩)) ?_
      refine AQ.stepW (.one rfl rfl rfl) rfl rfl (AI rfl (.inr ⟨_, (by exact id), rfl⟩)) ?_
      refine AQ.stepW (.two rfl rfl rfl) rfl rfl (AX (ob := .box _ _ _) rfl Bf (.inl rfl) (fun _ => rfl) rfl) ?_
      refine AQ.stepW (.two rfl rfl rfl) rfl rfl (AR (a := .r (.int .i64 x6.Item)) rfl Ae (.inr ⟨_, (by exact id), rfl⟩) rfl rfl) ?_
      refine AQ.stepW (.two rfl rfl rfl) rfl rfl (AI rfl (.inl rfl)) ?_
      refine AQ.stepW (.two rfl rfl rfl) rfl rfl (AI rfl (.inl rfl)) ?_
      refine AQ.stepW (.two rfl rfl rfl) rfl rfl (A5 rfl Ao.slice (.inr ⟨_, (by exact id), rfl⟩) (.inr ⟨_, (by exact id), rfl⟩) (fun _ => rfl) (fun h => BL ex8 (Bool.and_eq_true_iff.1 h).1)) ?_
      refine AQ.stepW (.two rfl rfl rfl) rfl rfl (CK rfl Bf (.inr ⟨_, (by exact id), rfl⟩)) ?_
      refine AQ.stepW (.two rfl rfl rfl) rfl rfl (CE (d := .int .i64 x8.Item) rfl Ae (.inr ⟨_, (by exact id), rfl⟩) rfl) ?_
      refine AQ.stepW (.two rfl rfl rfl) rfl rfl (Ar rfl (.inr ⟨_, (by exact id), rfl⟩) (.inr ⟨_, (by exact id), rfl⟩)) ?_
      refine AQ.stepW (.one rfl rfl rfl) rfl rfl (A0 rfl (.inr ⟨_, (by exact id), rfl⟩) (.inr ⟨_, (by exact id), rfl⟩)) ?_
      refine AQ.step rfl rfl rfl (A3 rfl (.inl rfl) (.inr ⟨_, (by exact id), rfl⟩)) ?_
      refine AQ.nil ?_
      refine hK17 _ ?_
      refine AW.cond rfl (fun hc4 => ?_) (fun hc4 => ?_)
      · have h15 := Ag hc4 h14
        refine AW.region ?_
        refine AB.step rfl rfl rfl (AD (AI rfl (.inl rfl)) _) ?_
        refine AB.step rfl rfl rfl (AD (AK rfl (.inl rfl)) _) ?_
        refine AB.nil ?_
        exact wK12 _ _ ((by exact AL ⟨.inl (.inl rfl), .inl (.inl rfl), .inl (.inl rfl), .inl (.inl rfl), .inl (.inl rfl), .inl (.inl rfl), .inl (.inl rfl), .inl (.inl rfl), trivial⟩ ⟨.inl rfl, trivial⟩ (Nat.le_refl _))) (J3 _ (Ab [((i7 0) + 1)]) (Option.some.inj h15).symm)
      · have h15 := Ah hc4 h14
        refine AW.skip ?_
        exact wK12 _ _ ((by exact AL ⟨.inl (.inl rfl), .inl (.inl rfl), .inl (.inl rfl), .inl (.inl rfl), .inl (.inl rfl), .inl (.inl rfl), .inl (.inl rfl), .inl (.inl rfl), trivial⟩ ⟨.inl rfl, trivial⟩ (Nat.le_refl _))) (J3 _ (Ab [((i7 0) + 1)]) (Option.some.inj h15).symm)
  · have h8 := Ah hc2 h7
    refine AW.exit ?_
    exact wK4 _ _ ((by exact AL ⟨.inl (.inl rfl), .inl (.inl rfl), .inl (.inl rfl), .inl (.inl rfl), trivial⟩ ⟨.inl rfl, trivial⟩ (Nat.le_refl _))) (J2 _ (Ab [(i7 0)]) (hx2 _ (Option.some.inj h8).symm))
theorem PH (n : Nat) : ∀ {out1 : List AE} {l1 : List AE} {parent1 : Int} {r : (List AE)} {ga1000 : Nat}, B4 n out1 l1 parent1 = some r → BJ Try.prog 31 1 [.r (.sl (l1.map AE.row)), .r (.int .i64 parent1), .own 1000 ga1000] [(1000, some (.arr ga1000 55 4 (out1.map AE.row)))] (fun rr h' => ∃ (i : Nat → Nat), rr = .own 1000 (i 0) ∧ h' = [(1000, some (.arr (i 0) 55 4 (r.map AE.row)))]) := by
  induction n with
  | zero => intro out1 l1 parent1 r ga1000 h; exact absurd (show (none : Option ((List AE))) = some r from h) (by simp)
  | succ n ih => intro out1 l1 parent1 r ga1000 h; exact OR (self := fun out1 l1 parent1 => B4 n out1 l1 parent1) (fun h2 => ih h2) h
theorem R4 {out1 : List AE} {l1 : List AE} {parent1 : Int} {r : (List AE)} {ga1000 : Nat} (h : Gr out1 l1 parent1 = some r) : BJ Try.prog 31 1 [.r (.sl (l1.map AE.row)), .r (.int .i64 parent1), .own 1000 ga1000] [(1000, some (.arr ga1000 55 4 (out1.map AE.row)))] (fun rr h' => ∃ (i : Nat → Nat), rr = .own 1000 (i 0) ∧ h' = [(1000, some (.arr (i 0) 55 4 (r.map AE.row)))]) := by
  unfold Gr at h
  by_cases hh : ∃ n r, B4 n out1 l1 parent1 = some r
  · rw [dif_pos hh] at h; exact PH _ h
  · rw [dif_neg hh] at h; cases h
theorem Q9 {l1 : List AP} {r : (List AE) × Int} (h : Gw l1 = some r) : Af Try.prog 10 [.r (.sl (l1.map AP.row))] (.tup [.r (.sl (r.1.map AE.row)), .r (.int .i64 r.2)]) := by
  unfold Gw at h
  refine A6 Try.func10 rfl rfl Try.ntmps10 rfl (Nat.le_of_ble_eq_true rfl) fun n0 => ?_
  refine AH fun K1 hK1 wK1 => ?_
  refine AW.region ?_
  refine AB.step rfl rfl rfl (AD (AK rfl (.inl rfl)) _) ?_
  refine AB.step rfl rfl rfl (AD (AK rfl (.inl rfl)) _) ?_
  refine AB.nil ?_
  refine hK1 _ ?_
  refine AH fun K2 hK2 wK2 => ?_
  refine AW.region ?_
  refine AB.step rfl rfl rfl (AD (AI rfl (.inl rfl)) _) ?_
  refine I2 h fun r1 r2 er1 h1 => ?_
  refine AB.step rfl rfl rfl (Dw (r := .tup [.r (.sl (r1.map AE.row)), .r (.sl (r2.map AE.row))]) (caps := []) (bs := [.r (.sl (l1.map AP.row))]) rfl (.inl rfl) rfl ⟨.inl ⟨(.inl rfl), rfl⟩, trivial⟩ (fun _ => Oe (er1))) ?_
  refine AB.step rfl rfl rfl (AD (AI rfl (.inl rfl)) _) ?_
  refine AB.step rfl rfl rfl (AD (CJ (a := .r (.sl (r1.map AE.row))) rfl (.inl rfl) rfl) _) ?_
  refine AB.step rfl rfl rfl (AD (CJ (a := .r (.sl (r2.map AE.row))) rfl (.inl rfl) rfl) _) ?_
  refine AB.step rfl rfl rfl (AD (AK rfl (.inl rfl)) _) ?_
  refine AB.step rfl rfl rfl (AD (AK rfl (.inl rfl)) _) ?_
  refine AB.nil ?_
  refine hK2 _ ?_
  refine AH fun K3 hK3 wK3 => ?_
  refine AW.weak (s' := ⟨[(4, .r (.sl (r1.map AE.row)))], [], n0, 73⟩) (by exact AL ⟨.inl (.inl rfl), trivial⟩ trivial (Nat.le_refl _)) ?_
  refine AW.region ?_
  refine AB.step rfl rfl rfl (AD (AI rfl (.inl rfl)) _) ?_
  refine AU h1 fun w1 ew1 h2 => ?_
  refine Sj 7918 55 4 rfl [7918] (hc := [(1000, some (.arr n0 55 4 (([] : List AE).map AE.row)))]) (bs := [.r (.sl (r1.map AE.row)), .r (.int .i64 0), .own 1000 n0]) (caps := []) rfl rfl rfl rfl (.inl rfl) rfl ⟨.inl (.inl ⟨(.inl rfl), rfl⟩), .inl (.inl ⟨(.inl rfl), rfl⟩), .inr ⟨(.inl rfl), rfl, rfl⟩, trivial⟩ ⟨rfl, rfl, rfl, trivial⟩ (by decide) (R4 ew1) ?_
  intro i1 n1
  refine AB.weak (s' := ⟨[(4, .r (.sl (r1.map AE.row))), (17, .r (.sl (r1.map AE.row))), (18, .own 7918 (i1 0))], [(7918, some (.arr (i1 0) 55 4 (w1.map AE.row)))], n1, 73⟩) (by exact AL ⟨.inl (.inl rfl), .inl (.inl rfl), .inl (.inl rfl), trivial⟩ ⟨.inl rfl, trivial⟩ (Nat.le_refl _)) ?_
  refine AB.step rfl rfl rfl (AD (AK rfl (.inl rfl)) _) ?_
  refine AB.nil ?_
  refine hK3 _ ?_
  refine AH fun K4 hK4 wK4 => ?_
  refine AW.region ?_
  refine AB.step rfl rfl rfl (AD (AI rfl (.inl rfl)) _) ?_
  refine AB.step rfl rfl rfl (AD (EG rfl Ao.slice (.inl rfl) rfl) _) ?_
  refine AB.step rfl rfl rfl (AD (AK rfl (.inl rfl)) _) ?_
  refine AB.nil ?_
  refine hK4 _ ?_
  refine AH fun K5 hK5 wK5 => ?_
  refine AW.region ?_
  refine AB.step rfl rfl rfl (AD (AK rfl (.inl rfl)) _) ?_
  refine AB.nil ?_
  refine hK5 _ ?_
  refine AW.block ?_
  refine B5 h2 fun o1 hit1 hk1 he1 => ?_
  refine EB (fun (last2 : Int) (out2 : List AE) i4 => ⟨[(4, .r (.sl (r1.map AE.row))), (6, .own 7918 (i4 0)), (7, .r (.int .i64 (w1.length : Int))), (8, .r (.int .i64 last2))], [(7918, some (.arr (i4 0) 55 4 (out2.map AE.row)))], (i4 1), 73⟩) (Ab [(i1 0), n1]) hit1 ((by exact AL ⟨.inl (.inl rfl), .inl (.inl rfl), .inl (.inl rfl), .inl (.inl rfl), trivial⟩ ⟨.inl rfl, trivial⟩ (Nat.le_refl _))) ?_
  intro last2 out2 i4 v1 hv1 hx1
  have h3 : EX r1 w1 last2 out2 = some v1 := hv1; unfold EX at h3
  refine AW.block ?_
  refine AH fun K6 hK6 wK6 => ?_
  refine AW.region ?_
  refine AB.step rfl rfl rfl (AD (AK rfl (.inl rfl)) _) ?_
  refine AB.nil ?_
  refine hK6 _ ?_
  refine AH fun K7 hK7 wK7 => ?_
  refine AH fun K8 hK8 wK8 => ?_
  refine AW.region ?_
  refine AB.step rfl rfl rfl (AD (AI rfl (.inl rfl)) _) ?_
  refine AB.step rfl rfl rfl (AD (BO rfl Ao.slice (.inl rfl)) _) ?_
  refine AB.step rfl rfl rfl (AD (AI rfl (.inl rfl)) _) ?_
  refine AB.nil ?_
  refine hK8 _ ?_
  refine AW.block ?_
  refine Cj h3 fun o2 hit2 hk2 => ?_
  have J2 : ∀ (next4 : Int) (i10 : Nat → Nat), o2 = next4 → K7 ⟨[(4, .r (.sl (r1.map AE.row))), (6, .own 7918 (i4 0)), (7, .r (.int .i64 (w1.length : Int))), (9, .r (.int .i64 next4))], [(7918, some (.arr (i4 0) 55 4 (out2.map AE.row)))], (i10 0), 73⟩ := by
    intro next4 i10 e
    have h4 := hk2 _ e
    refine hK7 _ ?_
    refine AH fun K9 hK9 wK9 => ?_
    refine AH fun K10 hK10 wK10 => ?_
    refine AW.region ?_
    refine AB.step rfl rfl rfl (AD (AI rfl (.inl rfl)) _) ?_
    refine AB.step rfl rfl rfl (AD (Ar rfl (.inl rfl) (.inl rfl)) _) ?_
    refine AB.nil ?_
    refine hK10 _ ?_
    refine AW.cond rfl (fun hc1 => ?_) (fun hc1 => ?_)
    · have h5 := Ag hc1 h4
      refine AH fun K11 hK11 wK11 => ?_
      refine AW.region ?_
      refine AB.step rfl rfl rfl (AD (AI rfl (.inl rfl)) _) ?_
      refine AB.step rfl rfl rfl (AD (AI rfl (.inl rfl)) _) ?_
      refine AB.step rfl rfl rfl (AD (AK rfl (.inl rfl)) _) ?_
      refine AB.step rfl rfl rfl (AD (AK rfl (.inl rfl)) _) ?_
      refine AB.nil ?_
      refine hK11 _ ?_
      refine AW.ret ?_
      exact HS (P := Try.prog) (fun (r : (List AE) × Int) => .r (.sl (r.1.map AE.row))) (fun (r : (List AE) × Int) => .r (.int .i64 r.2)) (he1 _ (hx1 _ (Option.some.inj h5).symm)) (.inl rfl) (.t (.one (.own rfl))) (.t (.d rfl))
    · have h5 := Ah hc1 h4
      refine AW.skip ?_
      refine hK9 _ ?_
      refine AH fun K12 hK12 wK12 => ?_
      refine AW.region ?_
      refine AB.step rfl rfl rfl (AD (AI rfl (.inl rfl)) _) ?_
      refine AB.step rfl rfl rfl (AD (AI rfl (.inl rfl)) _) ?_
      refine AU h5 fun x4 ex4 h6 => ?_
      refine AB.step rfl rfl rfl (AD (A5 rfl Ao.slice (.inl rfl) (.inl rfl) (fun _ => rfl) (fun _ => ex4)) _) ?_
      refine AB.step rfl rfl rfl (AD (CK rfl Bf (.inl rfl)) _) ?_
      refine AB.step rfl rfl rfl (AD (CE (d := .int .i64 x4.Item) rfl Ae (.inl rfl) rfl) _) ?_
      refine AB.step rfl rfl rfl (AD (AK rfl (.inl rfl)) _) ?_
      refine AB.nil ?_
      refine hK12 _ ?_
      refine AW.region ?_
      refine AB.step rfl rfl rfl (AD (AI rfl (.inl rfl)) _) ?_
      refine AB.step rfl rfl rfl (AD (AI rfl (.inl rfl)) _) ?_
      refine AB.step rfl rfl rfl (AD (AI rfl (.inl rfl)) _) ?_
      refine AB.step rfl rfl rfl (AD (A5 rfl Ao.slice (.inl rfl) (.inl rfl) (fun _ => rfl) (fun _ => ex4)) _) ?_
      refine AB.step rfl rfl rfl (AD (Be (cs := [.r (.int .i64 x4.Item), .r (.int .i64 x4.Parent), .r (.str x4.Place), .r (.sl (x4.Attrs.map AG.row))]) rfl CL (.inl rfl) rfl rfl) _) ?_
      refine AB.step rfl rfl rfl (B3 71 rfl Ao (f := AE.row) (l := ([x4] : List AE)) ⟨rfl, ⟨_, (.inl rfl), rfl⟩, trivial⟩ rfl (fun _ => rfl) rfl) ?_
      refine AU h6 fun out4 eout4 h7 => ?_
      refine AB.step rfl rfl rfl (DE rfl Ao (.inl rfl) rfl (.inr (.inl ⟨_, _, (.inl rfl), rfl⟩)) eout4) ?_
      refine AB.step rfl rfl rfl (AD (AK rfl (.inl rfl)) _) ?_
      refine AB.nil ?_
      exact DD.mk h7 (Ab [((i10 0) + 1), ((i10 0) + 2)]) ((by exact AL ⟨.inl (.inl rfl), .inl (.inl rfl), .inl (.inl rfl), .inl (.inl rfl), trivial⟩ ⟨.inl rfl, trivial⟩ (Nat.le_refl _)))
  refine EB (fun (next2 : Int) (x2 : Int) i8 => ⟨[(4, .r (.sl (r1.map AE.row))), (6, .own 7918 (i4 0)), (7, .r (.int .i64 (w1.length : Int))), (8, .r (.int .i64 last2)), (9, .r (.int .i64 next2)), (22, .r (.int .i64 (r1.length : Int))), (23, .r (.int .i64 x2))], [(7918, some (.arr (i4 0) 55 4 (out2.map AE.row)))], (i8 0), 73⟩) (Ab [(i4 1)]) hit2 ((by exact AL ⟨.inl (.inl rfl), .inl (.inl rfl), .inl (.inl rfl), .inl (.inl rfl), .inl (.inl rfl), .inl (.inl rfl), .inl (.inl rfl), trivial⟩ ⟨.inl rfl, trivial⟩ (Nat.le_refl _))) ?_
  intro next2 x2 i8 v2 hv2 hx2
  have h8 : Ex r1 w1 last2 out2 next2 x2 = some v2 := hv2; unfold Ex at h8
  refine AH fun K13 hK13 wK13 => ?_
  refine AW.region ?_
  refine AB.step rfl rfl rfl (AD (Ar rfl (.inl rfl) (.inl rfl)) _) ?_
  refine AB.nil ?_
  refine hK13 _ ?_
  refine AH fun K14 hK14 wK14 => ?_
  refine AW.cond rfl (fun hc2 => ?_) (fun hc2 => ?_)
  · have h9 := Ag hc2 h8
    refine AW.skip ?_
    refine hK14 _ ?_
    refine AH fun K15 hK15 wK15 => ?_
    refine AW.block ?_
    refine Cj h9 fun p1 hp1 hk3 => ?_
    have J3 : ∀ (next5 : Int) (i11 : Nat → Nat), p1 = next5 → K15 ⟨[(4, .r (.sl (r1.map AE.row))), (6, .own 7918 (i4 0)), (7, .r (.int .i64 (w1.length : Int))), (8, .r (.int .i64 last2)), (9, .r (.int .i64 next5)), (22, .r (.int .i64 (r1.length : Int))), (23, .r (.int .i64 x2))], [(7918, some (.arr (i4 0) 55 4 (out2.map AE.row)))], (i11 0), 73⟩ := by
      intro next5 i11 e
      have h10 := hk3 _ e
      refine hK15 _ ?_
      refine AW.region ?_
      refine AU h10 fun x5 ex5 h11 => ?_
      refine AB.step rfl rfl rfl (AD (BC rfl (.inl rfl) (.inl rfl) (fun _ => ex5)) _) ?_
      refine AB.step rfl rfl rfl (AD (AI rfl (.inl rfl)) _) ?_
      refine AB.nil ?_
      exact DD.mk h11 (Ab [(i11 0)]) ((by exact AL ⟨.inl (.inl rfl), .inl (.inl rfl), .inl (.inl rfl), .inl (.inl rfl), .inl (.inl rfl), .inl (.inl rfl), .inl (.inl rfl), trivial⟩ ⟨.inl rfl, trivial⟩ (Nat.le_refl _)))
    refine AH fun K16 hK16 wK16 => ?_
    refine AW.region ?_
    refine AB.step rfl rfl rfl (AD (AI rfl (.inl rfl)) _) ?_
    refine AB.step rfl rfl rfl (AD (AK rfl (.inl rfl)) _) ?_
    refine AB.nil ?_
    refine hK16 _ ?_
    refine AH fun K17 hK17 wK17 => ?_
    refine AW.region ?_
    refine AB.step rfl rfl rfl (AD (AI rfl (.inl rfl)) _) ?_
    refine AB.step rfl rfl rfl (AD (AI rfl (.inl rfl)) _) ?_
    refine AU hp1 fun x6 ex6 h12 => ?_
    refine AB.step rfl rfl rfl (AD (A5 rfl Ao.slice (.inl rfl) (.inl rfl) (fun _ => rfl) (fun _ => ex6)) _) ?_
    refine AB.step rfl rfl rfl (AD (CK rfl Bf (.inl rfl)) _) ?_
    refine AB.step rfl rfl rfl (AD (CE (d := .int .i64 x6.Item) rfl Ae (.inl rfl) rfl) _) ?_
    refine AB.step rfl rfl rfl (AD (AK rfl (.inl rfl)) _) ?_
    refine AB.nil ?_
    refine hK17 _ ?_
    refine AH fun K18 hK18 wK18 => ?_
    refine AW.region ?_
    refine AB.step rfl rfl rfl (AD (AI rfl (.inl rfl)) _) ?_
    refine AB.step rfl rfl rfl (AD (AI rfl (.inl rfl)) _) ?_
    refine AB.step rfl rfl rfl (AD (BT rfl (.inl rfl) (.inl rfl)) _) ?_
    refine AB.step rfl rfl rfl (AD (AI rfl (.inl rfl)) _) ?_
    refine AB.stepW (.one rfl rfl rfl) rfl rfl (AD (AI rfl (.inl rfl)) _) ?_
    refine AB.stepW (.one rfl rfl rfl) rfl rfl (AD (AI rfl (.inl rfl)) _) ?_
    refine AU h12 fun l2 el2 h13 => ?_
    refine AB.stepW (.one rfl rfl rfl) rfl rfl (AD (PS rfl Ao.slice (.inr ⟨_, (by exact id), rfl⟩) rfl ⟨_, (.inr ⟨_, (by exact id), rfl⟩)⟩ (BL el2)) _) ?_
    refine AB.stepW (.one rfl rfl rfl) rfl rfl (AD (AI rfl (.inl rfl)) _) ?_
    refine AU h13 fun r3 er3 h14 => ?_
    refine AB.stepW (.one rfl rfl rfl) rfl rfl (A7 (r := .r (.int .i64 r3)) (caps := []) (bs := [.r (.sl ((out2.take (w1.length : Int).toNat).map AE.row)), .r (.int .i64 x6.Item)]) rfl (.inl rfl) rfl ⟨⟨_, (.inr ⟨_, (by exact id), rfl⟩), .one (.pre rfl rfl)⟩, ⟨_, (.inr ⟨_, (by exact id), rfl⟩), .d rfl⟩, trivial⟩ (fun hc0 => (Nw ((BL el2) hc0)) ▸ (fun hg => Hv (BL er3 hg)) hc0) rfl) ?_
    refine AB.stepW (.one rfl rfl rfl) rfl rfl (AD (Ar rfl (.inr ⟨_, (by exact id), rfl⟩) (.inl rfl)) _) ?_
    refine AB.step rfl rfl rfl (AD (A0 rfl (.inl rfl) (.inr ⟨_, (by exact id), rfl⟩)) _) ?_
    refine AB.step rfl rfl rfl (AD (AI rfl (.inl rfl)) _) ?_
    refine AB.stepW (.one rfl rfl rfl) rfl rfl (AD (AI rfl (.inl rfl)) _) ?_
    refine AB.stepW (.one rfl rfl rfl) rfl rfl (AD (Ar rfl (.inr ⟨_, (by exact id), rfl⟩) (.inl rfl)) _) ?_
    refine AB.stepW (.one rfl rfl rfl) rfl rfl (AD (AI rfl (.inr ⟨_, (by exact id), rfl⟩)) _) ?_
    refine AB.stepW (.two rfl rfl rfl) rfl rfl (AD (AI rfl (.inl rfl)) _) ?_
    refine AB.stepW (.two rfl rfl rfl) rfl rfl (AD (AI rfl (.inl rfl)) _) ?_
    refine AB.stepW (.two rfl rfl rfl) rfl rfl (AD (AI rfl (.inl rfl)) _) ?_
    refine AU h14 fun x7 ex7 h15 => ?_
    refine AB.stepW (.two rfl rfl rfl) rfl rfl (AD (A5 rfl Ao.slice (.inr ⟨_, (by exact id), rfl⟩) (.inr ⟨_, (by exact id), rfl⟩) (fun _ => rfl) (BL ex7)) _) ?_
    refine AB.stepW (.two rfl rfl rfl) rfl rfl (AD (CK rfl Bf (.inr ⟨_, (by exact id), rfl⟩)) _) ?_
    refine AB.stepW (.two rfl rfl rfl) rfl rfl (AD (CE (d := .int .i64 x7.Item) rfl Ae (.inr ⟨_, (by exact id), rfl⟩) rfl) _) ?_
    refine AB.stepW (.two rfl rfl rfl) rfl rfl (AD (Ar rfl (.inr ⟨_, (by exact id), rfl⟩) (.inr ⟨_, (by exact id), rfl⟩)) _) ?_
    refine AB.stepW (.one rfl rfl rfl) rfl rfl (AD (A3 rfl (.inr ⟨_, (by exact id), rfl⟩) (.inr ⟨_, (by exact id), rfl⟩)) _) ?_
    refine AB.step rfl rfl rfl (AD (A0 rfl (.inl rfl) (.inr ⟨_, (by exact id), rfl⟩)) _) ?_
    refine AB.nil ?_
    refine hK18 _ ?_
    refine AW.cond rfl (fun hc3 => ?_) (fun hc3 => ?_)
    · have h16 := Ag hc3 h15
      refine AW.weak (s' := ⟨[(4, .r (.sl (r1.map AE.row))), (6, .own 7918 (i4 0)), (7, .r (.int .i64 (w1.length : Int))), (8, .r (.int .i64 last2)), (10, .r (.int .i64 x2)), (22, .r (.int .i64 (r1.length : Int))), (23, .r (.int .i64 x2))], [(7918, some (.arr (i4 0) 55 4 (out2.map AE.row)))], (i8 0), 73⟩) (by exact AL ⟨.inl (.inl rfl), .inl (.inl rfl), .inl (.inl rfl), .inl (.inl rfl), .inl (.inl rfl), .inl (.inl rfl), .inl (.inl rfl), trivial⟩ ⟨.inl rfl, trivial⟩ (Nat.le_refl _)) ?_
      refine AW.region ?_
      refine AB.step rfl rfl rfl (AD (AI rfl (.inl rfl)) _) ?_
      refine AB.step rfl rfl rfl (AD (AK rfl (.inl rfl)) _) ?_
      refine AB.nil ?_
      exact wK15 _ _ ((by exact AL ⟨.inl (.inl rfl), .inl (.inl rfl), .inl (.inl rfl), .inl (.inl rfl), .inl (.inl rfl), .inl (.inl rfl), .inl (.inl rfl), trivial⟩ ⟨.inl rfl, trivial⟩ (Nat.le_refl _))) (J3 _ (Ab [(i8 0)]) (Option.some.inj h16).symm)
    · have h16 := Ah hc3 h15
      refine AW.skip ?_
      exact wK15 _ _ ((by exact AL ⟨.inl (.inl rfl), .inl (.inl rfl), .inl (.inl rfl), .inl (.inl rfl), .inl (.inl rfl), .inl (.inl rfl), .inl (.inl rfl), trivial⟩ ⟨.inl rfl, trivial⟩ (Nat.le_refl _))) (J3 _ (Ab [(i8 0)]) (Option.some.inj h16).symm)
  · have h9 := Ah hc2 h8
    refine AW.exit ?_
    exact wK7 _ _ ((by exact AL ⟨.inl (.inl rfl), .inl (.inl rfl), .inl (.inl rfl), .inl (.inl rfl), trivial⟩ ⟨.inl rfl, trivial⟩ (Nat.le_refl _))) (J2 _ (Ab [(i8 0)]) (hx2 _ (Option.some.inj h9).symm))
theorem Qb {a1 : List AG} {b1 : List AG} {r : Bool} (h : He a1 b1 = some r) : Af Try.prog 53 [.r (.sl (a1.map AG.row)), .r (.sl (b1.map AG.row))] (.r (.bool r)) := by
  unfold He at h
  refine A6 Try.func53 rfl rfl Try.ntmps53 rfl (Nat.le_of_ble_eq_true rfl) fun n0 => ?_
  refine AH fun K1 hK1 wK1 => ?_
  refine AW.region ?_
  refine AB.step rfl rfl rfl (AD (AK rfl (.inl rfl)) _) ?_
  refine AB.nil ?_
  refine hK1 _ ?_
  refine AH fun K2 hK2 wK2 => ?_
  refine AH fun K3 hK3 wK3 => ?_
  refine AW.region ?_
  refine AB.step rfl rfl rfl (AD (AI rfl (.inl rfl)) _) ?_
  refine AB.step rfl rfl rfl (AD (BO rfl A9.slice (.inl rfl)) _) ?_
  refine AB.step rfl rfl rfl (AD (AI rfl (.inl rfl)) _) ?_
  refine AB.step rfl rfl rfl (AD (BO rfl A9.slice (.inl rfl)) _) ?_
  refine AB.step rfl rfl rfl (AD (Bq rfl (.inl rfl) (.inl rfl)) _) ?_
  refine AB.nil ?_
  refine hK3 _ ?_
  refine AW.cond rfl (fun hc1 => ?_) (fun hc1 => ?_)
  · have h1 := Ag hc1 h
    refine AH fun K4 hK4 wK4 => ?_
    refine AW.region ?_
    refine AB.step rfl rfl rfl (AD (AK rfl (.inl rfl)) _) ?_
    refine AB.nil ?_
    refine hK4 _ ?_
    refine AW.ret ?_
    exact Am (P := Try.prog) (fun (r : Bool) => .r (.bool r)) h1 (.inl rfl) (.t (.d rfl))
  · have h1 := Ah hc1 h
    refine AW.skip ?_
    refine hK2 _ ?_
    refine AH fun K5 hK5 wK5 => ?_
    refine AH fun K6 hK6 wK6 => ?_
    refine AW.region ?_
    refine AB.step rfl rfl rfl (AD (AI rfl (.inl rfl)) _) ?_
    refine AB.step rfl rfl rfl (AD (BO rfl A9.slice (.inl rfl)) _) ?_
    refine AB.step rfl rfl rfl (AD (AI rfl (.inl rfl)) _) ?_
    refine AB.nil ?_
    refine hK6 _ ?_
    refine AW.block ?_
    refine B5 h1 fun o1 hit1 hk1 he1 => ?_
    have J1 : ∀ (u2 : Unit) (i5 : Nat → Nat), o1 = .nrm u2 → K5 ⟨[], [], (i5 0), 26⟩ := by
      intro u2 i5 e
      have h2 := hk1 _ e
      refine hK5 _ ?_
      refine AH fun K7 hK7 wK7 => ?_
      refine AW.region ?_
      refine AB.step rfl rfl rfl (AD (AK rfl (.inl rfl)) _) ?_
      refine AB.nil ?_
      refine hK7 _ ?_
      refine AW.ret ?_
      exact Am (P := Try.prog) (fun (r : Bool) => .r (.bool r)) h2 (.inl rfl) (.t (.d rfl))
    refine DG (fun (x2 : Int) i3 => ⟨[(0, .r (.sl (a1.map AG.row))), (1, .r (.sl (b1.map AG.row))), (12, .r (.int .i64 (a1.length : Int))), (13, .r (.int .i64 x2))], [], (i3 0), 26⟩) (Ab [n0]) hit1 ((by exact AL ⟨.inl (.inl rfl), .inl (.inl rfl), .inl (.inl rfl), .inl (.inl rfl), trivial⟩ trivial (Nat.le_refl _))) ?_
    intro x2 i3 v1 hv1 hx1
    have h3 : Ha a1 b1 x2 = some v1 := hv1; unfold Ha at h3
    refine AH fun K8 hK8 wK8 => ?_
    refine AW.region ?_
    refine AB.step rfl rfl rfl (AD (Ar rfl (.inl rfl) (.inl rfl)) _) ?_
    refine AB.nil ?_
    refine hK8 _ ?_
    refine AH fun K9 hK9 wK9 => ?_
    refine AW.cond rfl (fun hc2 => ?_) (fun hc2 => ?_)
    · have h4 := Ag hc2 h3
      refine AW.skip ?_
      refine hK9 _ ?_
      refine AH fun K10 hK10 wK10 => ?_
      refine AW.block ?_
      refine AH fun K11 hK11 wK11 => ?_
      refine AW.region ?_
      refine AB.step rfl rfl rfl (AD (AI rfl (.inl rfl)) _) ?_
      refine AB.step rfl rfl rfl (AD (AK rfl (.inl rfl)) _) ?_
      refine AB.nil ?_
      refine hK11 _ ?_
      refine AH fun K12 hK12 wK12 => ?_
      refine Dr Bt (by kernel_rfl) ?_
      refine AQ.step rfl rfl rfl (AI rfl (.inl rfl)) ?_
      refine AQ.step rfl rfl rfl (AI rfl (.inl rfl)) ?_
      refine AU h4 fun x4 ex4 h5 => ?_
      refine AQ.step rfl rfl rfl (A5 rfl A9.slice (.inl rfl) (.inl rfl) (fun _ => rfl) (fun _ => ex4)) ?_
      refine AQ.step rfl rfl rfl (Be (cs := [.r (.str x4.Name), .r (.str x4.Value)]) rfl Cw (.inl rfl) rfl rfl) ?_
      refine AQ.step rfl rfl rfl (AI rfl (.inl rfl)) ?_
      refine AQ.step rfl rfl rfl (AI rfl (.inl rfl)) ?_
      refine AU h5 fun x5 ex5 h6 => ?_
      refine AQ.step rfl rfl rfl (A5 rfl A9.slice (.inl rfl) (.inl rfl) (fun _ => rfl) (fun _ => ex5)) ?_
      refine AQ.step rfl rfl rfl (Be (cs := [.r (.str x5.Name), .r (.str x5.Value)]) rfl Cw (.inl rfl) rfl rfl) ?_
      refine AQ.step rfl rfl rfl (Q1 rfl Rq (.inl rfl) (.inl rfl) rfl) ?_
      refine AQ.nil ?_
      refine hK12 _ ?_
      refine AW.cond rfl (fun hc3 => ?_) (fun hc3 => ?_)
      · have h7 := Ag hc3 h6
        refine AH fun K13 hK13 wK13 => ?_
        refine AW.weak (s' := ⟨[], [], (i3 0), 26⟩) (by exact AL trivial trivial (Nat.le_refl _)) ?_
        refine AW.region ?_
        refine AB.step rfl rfl rfl (AD (AK rfl (.inl rfl)) _) ?_
        refine AB.nil ?_
        refine hK13 _ ?_
        refine AW.ret ?_
        exact Am (P := Try.prog) (fun (r : Bool) => .r (.bool r)) (he1 _ (hx1 _ (Option.some.inj h7).symm)) (.inl rfl) (.t (.d rfl))
      · have h7 := Ah hc3 h6
        refine AW.skip ?_
        refine hK10 _ ?_
        refine AW.weak (s' := ⟨[(0, .r (.sl (a1.map AG.row))), (1, .r (.sl (b1.map AG.row))), (12, .r (.int .i64 (a1.length : Int))), (13, .r (.int .i64 x2))], [], (i3 0), 26⟩) (by exact AL ⟨.inl (.inl rfl), .inl (.inl rfl), .inl (.inl rfl), .inl (.inl rfl), trivial⟩ trivial (Nat.le_refl _)) ?_
        refine AW.region ?_
        refine AU h7 fun x6 ex6 h8 => ?_
        refine AB.step rfl rfl rfl (AD (BC rfl (.inl rfl) (.inl rfl) (fun _ => ex6)) _) ?_
        refine AB.step rfl rfl rfl (AD (AI rfl (.inl rfl)) _) ?_
        refine AB.nil ?_
        exact CZ.mk h8 (Ab [(i3 0)]) ((by exact AL ⟨.inl (.inl rfl), .inl (.inl rfl), .inl (.inl rfl), .inl (.inl rfl), trivial⟩ trivial (Nat.le_refl _)))
    · have h4 := Ah hc2 h3
      refine AW.exit ?_
      exact wK5 _ _ ((by exact AL trivial trivial (Nat.le_refl _))) (J1 _ (Ab [(i3 0)]) (hx1 _ (Option.some.inj h4).symm))
theorem RL {a1 : AE} {b1 : AE} {r : Bool} (h : Hq a1 b1 = some r) : Af Try.prog 33 [.agg [.r (.int .i64 a1.Item), .r (.int .i64 a1.Parent), .r (.str a1.Place), .r (.sl (a1.Attrs.map AG.row))], .agg [.r (.int .i64 b1.Item), .r (.int .i64 b1.Parent), .r (.str b1.Place), .r (.sl (b1.Attrs.map AG.row))]] (.r (.bool r)) := by
  unfold Hq at h
  refine A6 Try.func33 rfl rfl Try.ntmps33 rfl (Nat.le_of_ble_eq_true rfl) fun n0 => ?_
  refine AH fun K1 hK1 wK1 => ?_
  refine AW.region ?_
  refine AB.step rfl rfl rfl (CU (cs := [.r (.int .i64 a1.Item), .r (.int .i64 a1.Parent), .r (.str a1.Place), .r (.sl (a1.Attrs.map AG.row))]) 2 rfl (.inl rfl) rfl rfl) ?_
  refine AB.step rfl rfl rfl (CU (cs := [.r (.int .i64 b1.Item), .r (.int .i64 b1.Parent), .r (.str b1.Place), .r (.sl (b1.Attrs.map AG.row))]) 3 rfl (.inl rfl) rfl rfl) ?_
  refine AB.step rfl rfl rfl (AD (AK rfl (.inl rfl)) _) ?_
  refine AB.nil ?_
  refine hK1 _ ?_
  refine AH fun K2 hK2 wK2 => ?_
  refine AW.region ?_
  refine AB.step rfl rfl rfl (AD (AX (ob := .box _ _ _) rfl Bf (.inl rfl) (fun _ => rfl) rfl) _) ?_
  refine AB.step rfl rfl rfl (AD (AR (a := .r (.int .i64 a1.Item)) rfl Ae (.inl rfl) rfl rfl) _) ?_
  refine AB.step rfl rfl rfl (AD (AX (ob := .box _ _ _) rfl Bf (.inl rfl) (fun _ => rfl) rfl) _) ?_
  refine AB.step rfl rfl rfl (AD (AR (a := .r (.int .i64 b1.Item)) rfl Ae (.inl rfl) rfl rfl) _) ?_
  refine AB.step rfl rfl rfl (AD (BH rfl (.inl rfl) (.inl rfl)) _) ?_
  refine AB.step rfl rfl rfl (AD (AI rfl (.inl rfl)) _) ?_
  refine AB.stepW (.one rfl rfl rfl) rfl rfl (AD (AX (ob := .box _ _ _) rfl Dd (.inl rfl) (fun _ => rfl) rfl) _) ?_
  refine AB.stepW (.one rfl rfl rfl) rfl rfl (AD (AR (a := .r (.int .i64 a1.Parent)) rfl Ae (.inr ⟨_, (by exact id), rfl⟩) rfl rfl) _) ?_
  refine AB.stepW (.one rfl rfl rfl) rfl rfl (AD (AX (ob := .box _ _ _) rfl Dd (.inl rfl) (fun _ => rfl) rfl) _) ?_
  refine AB.stepW (.one rfl rfl rfl) rfl rfl (AD (AR (a := .r (.int .i64 b1.Parent)) rfl Ae (.inr ⟨_, (by exact id), rfl⟩) rfl rfl) _) ?_
  refine AB.stepW (.one rfl rfl rfl) rfl rfl (AD (BH rfl (.inr ⟨_, (by exact id), rfl⟩) (.inr ⟨_, (by exact id), rfl⟩)) _) ?_
  refine AB.step rfl rfl rfl (AD (A0 rfl (.inl rfl) (.inr ⟨_, (by exact id), rfl⟩)) _) ?_
  refine AB.step rfl rfl rfl (AD (AI rfl (.inl rfl)) _) ?_
  refine AB.stepW (.one rfl rfl rfl) rfl rfl (AD (AX (ob := .box _ _ _) rfl Dm (.inl rfl) (fun _ => rfl) rfl) _) ?_
  refine AB.stepW (.one rfl rfl rfl) rfl rfl (AD (AR (a := .r (.str a1.Place)) rfl A4 (.inr ⟨_, (by exact id), rfl⟩) rfl rfl) _) ?_
  refine AB.stepW (.one rfl rfl rfl) rfl rfl (AD (AX (ob := .box _ _ _) rfl Dm (.inl rfl) (fun _ => rfl) rfl) _) ?_
  refine AB.stepW (.one rfl rfl rfl) rfl rfl (AD (AR (a := .r (.str b1.Place)) rfl A4 (.inr ⟨_, (by exact id), rfl⟩) rfl rfl) _) ?_
  refine AB.stepW (.one rfl rfl rfl) rfl rfl (AD (Et rfl (.inr ⟨_, (by exact id), rfl⟩) (.inr ⟨_, (by exact id), rfl⟩)) _) ?_
  refine AB.step rfl rfl rfl (AD (A0 rfl (.inl rfl) (.inr ⟨_, (by exact id), rfl⟩)) _) ?_
  refine AB.step rfl rfl rfl (AD (AI rfl (.inl rfl)) _) ?_
  refine AB.stepW (.one rfl rfl rfl) rfl rfl (AD (AX (ob := .box _ _ _) rfl Ez (.inl rfl) (fun _ => rfl) rfl) _) ?_
  refine AB.stepW (.one rfl rfl rfl) rfl rfl (AD (AR (a := .r (.sl (a1.Attrs.map AG.row))) rfl Fq (.inr ⟨_, (by exact id), rfl⟩) rfl rfl) _) ?_
  refine AB.stepW (.one rfl rfl rfl) rfl rfl (AD (AX (ob := .box _ _ _) rfl Ez (.inl rfl) (fun _ => rfl) rfl) _) ?_
  refine AB.stepW (.one rfl rfl rfl) rfl rfl (AD (AR (a := .r (.sl (b1.Attrs.map AG.row))) rfl Fq (.inr ⟨_, (by exact id), rfl⟩) rfl rfl) _) ?_
  refine AU h fun r1 er1 h1 => ?_
  refine AB.stepW (.one rfl rfl rfl) rfl rfl (A7 (r := .r (.bool r1)) (caps := []) (bs := [.r (.sl (a1.Attrs.map AG.row)), .r (.sl (b1.Attrs.map AG.row))]) rfl (.inl rfl) rfl ⟨⟨_, (.inr ⟨_, (by exact id), rfl⟩), .d rfl⟩, ⟨_, (.inr ⟨_, (by exact id), rfl⟩), .d rfl⟩, trivial⟩ (fun hg => Qb (BL er1 hg)) rfl) ?_
  refine AB.step rfl rfl rfl (AD (A0 rfl (.inl rfl) (.inr ⟨_, (by exact id), rfl⟩)) _) ?_
  refine AB.step rfl rfl rfl (AD (AK rfl (.inl rfl)) _) ?_
  refine AB.nil ?_
  refine hK2 _ ?_
  refine AW.ret ?_
  exact Am (P := Try.prog) (fun (r : Bool) => .r (.bool r)) h1 (.inl rfl) (.t (.d rfl))
theorem Pt {a1 : List AE} {b1 : List AE} {r : Bool} (h : HV a1 b1 = some r) : Af Try.prog 11 [.r (.sl (a1.map AE.row)), .r (.sl (b1.map AE.row))] (.r (.bool r)) := by
  unfold HV at h
  refine A6 Try.func11 rfl rfl Try.ntmps11 rfl (Nat.le_of_ble_eq_true rfl) fun n0 => ?_
  refine AH fun K1 hK1 wK1 => ?_
  refine AW.region ?_
  refine AB.step rfl rfl rfl (AD (AK rfl (.inl rfl)) _) ?_
  refine AB.nil ?_
  refine hK1 _ ?_
  refine AH fun K2 hK2 wK2 => ?_
  refine AH fun K3 hK3 wK3 => ?_
  refine AW.region ?_
  refine AB.step rfl rfl rfl (AD (AI rfl (.inl rfl)) _) ?_
  refine AB.step rfl rfl rfl (AD (BO rfl Ao.slice (.inl rfl)) _) ?_
  refine AB.step rfl rfl rfl (AD (AI rfl (.inl rfl)) _) ?_
  refine AB.step rfl rfl rfl (AD (BO rfl Ao.slice (.inl rfl)) _) ?_
  refine AB.step rfl rfl rfl (AD (Bq rfl (.inl rfl) (.inl rfl)) _) ?_
  refine AB.nil ?_
  refine hK3 _ ?_
  refine AW.cond rfl (fun hc1 => ?_) (fun hc1 => ?_)
  · have h1 := Ag hc1 h
    refine AH fun K4 hK4 wK4 => ?_
    refine AW.region ?_
    refine AB.step rfl rfl rfl (AD (AK rfl (.inl rfl)) _) ?_
    refine AB.nil ?_
    refine hK4 _ ?_
    refine AW.ret ?_
    exact Am (P := Try.prog) (fun (r : Bool) => .r (.bool r)) h1 (.inl rfl) (.t (.d rfl))
  · have h1 := Ah hc1 h
    refine AW.skip ?_
    refine hK2 _ ?_
    refine AH fun K5 hK5 wK5 => ?_
    refine AH fun K6 hK6 wK6 => ?_
    refine AW.region ?_
    refine AB.step rfl rfl rfl (AD (AI rfl (.inl rfl)) _) ?_
    refine AB.step rfl rfl rfl (AD (BO rfl Ao.slice (.inl rfl)) _) ?_
    refine AB.step rfl rfl rfl (AD (AI rfl (.inl rfl)) _) ?_
    refine AB.nil ?_
    refine hK6 _ ?_
    refine AW.block ?_
    refine B5 h1 fun o1 hit1 hk1 he1 => ?_
    have J1 : ∀ (u2 : Unit) (i5 : Nat → Nat), o1 = .nrm u2 → K5 ⟨[], [], (i5 0), 27⟩ := by
      intro u2 i5 e
      have h2 := hk1 _ e
      refine hK5 _ ?_
      refine AH fun K7 hK7 wK7 => ?_
      refine AW.region ?_
      refine AB.step rfl rfl rfl (AD (AK rfl (.inl rfl)) _) ?_
      refine AB.nil ?_
      refine hK7 _ ?_
      refine AW.ret ?_
      exact Am (P := Try.prog) (fun (r : Bool) => .r (.bool r)) h2 (.inl rfl) (.t (.d rfl))
    refine DG (fun (x2 : Int) i3 => ⟨[(0, .r (.sl (a1.map AE.row))), (1, .r (.sl (b1.map AE.row))), (12, .r (.int .i64 (a1.length : Int))), (13, .r (.int .i64 x2))], [], (i3 0), 27⟩) (Ab [n0]) hit1 ((by exact AL ⟨.inl (.inl rfl), .inl (.inl rfl), .inl (.inl rfl), .inl (.inl rfl), trivial⟩ trivial (Nat.le_refl _))) ?_
    intro x2 i3 v1 hv1 hx1
    have h3 : Ep a1 b1 x2 = some v1 := hv1; unfold Ep at h3
    refine AH fun K8 hK8 wK8 => ?_
    refine AW.region ?_
    refine AB.step rfl rfl rfl (AD (Ar rfl (.inl rfl) (.inl rfl)) _) ?_
    refine AB.nil ?_
    refine hK8 _ ?_
    refine AH fun K9 hK9 wK9 => ?_
    refine AW.cond rfl (fun hc2 => ?_) (fun hc2 => ?_)
    · have h4 := Ag hc2 h3
      refine AW.skip ?_
      refine hK9 _ ?_
      refine AH fun K10 hK10 wK10 => ?_
      refine AW.block ?_
      refine AH fun K11 hK11 wK11 => ?_
      refine AW.region ?_
      refine AB.step rfl rfl rfl (AD (AI rfl (.inl rfl)) _) ?_
      refine AB.step rfl rfl rfl (AD (AK rfl (.inl rfl)) _) ?_
      refine AB.nil ?_
      refine hK11 _ ?_
      refine AH fun K12 hK12 wK12 => ?_
      refine Dr Bt (by kernel_rfl) ?_
      refine AQ.step rfl rfl rfl (AI rfl (.inl rfl)) ?_
      refine AQ.step rfl rfl rfl (AI rfl (.inl rfl)) ?_
      refine AU h4 fun x4 ex4 h5 => ?_
      refine AQ.step rfl rfl rfl (A5 rfl Ao.slice (.inl rfl) (.inl rfl) (fun _ => rfl) (fun _ => ex4)) ?_
      refine AQ.step rfl rfl rfl (Be (cs := [.r (.int .i64 x4.Item), .r (.int .i64 x4.Parent), .r (.str x4.Place), .r (.sl (x4.Attrs.map AG.row))]) rfl CL (.inl rfl) rfl rfl) ?_
      refine AQ.step rfl rfl rfl (AI rfl (.inl rfl)) ?_
      refine AQ.step rfl rfl rfl (AI rfl (.inl rfl)) ?_
      refine AU h5 fun x5 ex5 h6 => ?_
      refine AQ.step rfl rfl rfl (A5 rfl Ao.slice (.inl rfl) (.inl rfl) (fun _ => rfl) (fun _ => ex5)) ?_
      refine AQ.step rfl rfl rfl (Be (cs := [.r (.int .i64 x5.Item), .r (.int .i64 x5.Parent), .r (.str x5.Place), .r (.sl (x5.Attrs.map AG.row))]) rfl CL (.inl rfl) rfl rfl) ?_
      refine AU h6 fun r1 er1 h7 => ?_
      refine So rfl rfl rfl (r := .r (.bool r1)) (caps := []) (bs := [.agg [.r (.int .i64 x4.Item), .r (.int .i64 x4.Parent), .r (.str x4.Place), .r (.sl (x4.Attrs.map AG.row))], .agg [.r (.int .i64 x5.Item), .r (.int .i64 x5.Parent), .r (.str x5.Place), .r (.sl (x5.Attrs.map AG.row))]]) rfl (.inl rfl) rfl ⟨⟨_, (.inl rfl), .g (cs := [.int .i64 x4.Item, .int .i64 x4.Parent, .str x4.Place, .sl (x4.Attrs.map AG.row)]) rfl rfl⟩, ⟨_, (.inl rfl), .g (cs := [.int .i64 x5.Item, .int .i64 x5.Parent, .str x5.Place, .sl (x5.Attrs.map AG.row)]) rfl rfl⟩, trivial⟩ (fun _ => RL (er1)) rfl ?_
      refine AQ.step rfl rfl rfl (Bi rfl (.inl rfl)) ?_
      refine AQ.nil ?_
      refine hK12 _ ?_
      refine AW.cond rfl (fun hc3 => ?_) (fun hc3 => ?_)
      · have h8 := Ag hc3 h7
        refine AH fun K13 hK13 wK13 => ?_
        refine AW.weak (s' := ⟨[], [], (i3 0), 27⟩) (by exact AL trivial trivial (Nat.le_refl _)) ?_
        refine AW.region ?_
        refine AB.step rfl rfl rfl (AD (AK rfl (.inl rfl)) _) ?_
        refine AB.nil ?_
        refine hK13 _ ?_
        refine AW.ret ?_
        exact Am (P := Try.prog) (fun (r : Bool) => .r (.bool r)) (he1 _ (hx1 _ (Option.some.inj h8).symm)) (.inl rfl) (.t (.d rfl))
      · have h8 := Ah hc3 h7
        refine AW.skip ?_
        refine hK10 _ ?_
        refine AW.weak (s' := ⟨[(0, .r (.sl (a1.map AE.row))), (1, .r (.sl (b1.map AE.row))), (12, .r (.int .i64 (a1.length : Int))), (13, .r (.int .i64 x2))], [], (i3 0), 27⟩) (by exact AL ⟨.inl (.inl rfl), .inl (.inl rfl), .inl (.inl rfl), .inl (.inl rfl), trivial⟩ trivial (Nat.le_refl _)) ?_
        refine AW.region ?_
        refine AU h8 fun x6 ex6 h9 => ?_
        refine AB.step rfl rfl rfl (AD (BC rfl (.inl rfl) (.inl rfl) (fun _ => ex6)) _) ?_
        refine AB.step rfl rfl rfl (AD (AI rfl (.inl rfl)) _) ?_
        refine AB.nil ?_
        exact CZ.mk h9 (Ab [(i3 0)]) ((by exact AL ⟨.inl (.inl rfl), .inl (.inl rfl), .inl (.inl rfl), .inl (.inl rfl), trivial⟩ trivial (Nat.le_refl _)))
    · have h4 := Ah hc2 h3
      refine AW.exit ?_
      exact wK5 _ _ ((by exact AL trivial trivial (Nat.le_refl _))) (J1 _ (Ab [(i3 0)]) (hx1 _ (Option.some.inj h4).symm))
theorem RM {items1 : List AE} {r : Int} (h : HA items1 = some r) : Af Try.prog 12 [.r (.sl (items1.map AE.row))] (.r (.int .i64 r)) := by
  unfold HA at h
  refine A6 Try.func12 rfl rfl Try.ntmps12 rfl (Nat.le_of_ble_eq_true rfl) fun n0 => ?_
  refine AH fun K1 hK1 wK1 => ?_
  refine AW.region ?_
  refine AB.step rfl rfl rfl (AD (AK rfl (.inl rfl)) _) ?_
  refine AB.nil ?_
  refine hK1 _ ?_
  refine AH fun K2 hK2 wK2 => ?_
  refine AW.region ?_
  refine AB.step rfl rfl rfl (KR RV.bool 6 rfl) ?_
  refine BG rfl rfl (If (rd := RV.bool) (a := true) (.inr rfl) Try.underlying63 Try.underlying3 (.inl rfl) (.inl rfl) (.inl rfl) rfl) ?_
  refine AB.step rfl rfl rfl (AD (AI rfl (.inl rfl)) _) ?_
  refine AB.step rfl rfl rfl (AD (AK rfl (.inl rfl)) _) ?_
  refine AB.nil ?_
  refine hK2 _ ?_
  refine AH fun K3 hK3 wK3 => ?_
  refine AH fun K4 hK4 wK4 => ?_
  refine AW.region ?_
  refine AB.step rfl rfl rfl (AD (AI rfl (.inl rfl)) _) ?_
  refine AB.step rfl rfl rfl (AD (BO rfl Ao.slice (.inl rfl)) _) ?_
  refine AB.step rfl rfl rfl (AD (AI rfl (.inl rfl)) _) ?_
  refine AB.nil ?_
  refine hK4 _ ?_
  refine AW.block ?_
  refine B5 h fun o1 hit1 hk1 he1 => ?_
  have J1 : ∀ (u2 : Unit) (i5 : Nat → Nat), o1 = .nrm u2 → K3 ⟨[(0, .r (.sl (items1.map AE.row)))], [], (i5 0), 27⟩ := by
    intro u2 i5 e
    have h1 := hk1 _ e
    refine hK3 _ ?_
    refine AH fun K5 hK5 wK5 => ?_
    refine AW.region ?_
    refine AB.step rfl rfl rfl (AD (AI rfl (.inl rfl)) _) ?_
    refine AB.step rfl rfl rfl (AD (BO rfl Ao.slice (.inl rfl)) _) ?_
    refine AB.step rfl rfl rfl (AD (AK rfl (.inl rfl)) _) ?_
    refine AB.nil ?_
    refine hK5 _ ?_
    refine AW.ret ?_
    exact Am (P := Try.prog) (fun (r : Int) => .r (.int .i64 r)) h1 (.inl rfl) (.t (.d rfl))
  refine EB (fun (x2 : Int) (m2 : List (Int × Bool)) i3 => ⟨[(0, .r (.sl (items1.map AE.row))), (3, .mref 6 n0), (8, .r (.sl (items1.map AE.row))), (9, .r (.int .i64 (items1.length : Int))), (10, .r (.int .i64 x2))], [(6, some (.md n0 (AM RV.bool m2)))], (i3 0), 27⟩) (Ab [(n0 + 1)]) hit1 ((by exact AL ⟨.inl (.inl rfl), .inl (.inl rfl), .inl (.inl rfl), .inl (.inl rfl), .inl (.inl rfl), trivial⟩ ⟨.inl rfl, trivial⟩ (Nat.le_refl _))) ?_
  intro x2 m2 i3 v1 hv1 hx1
  have h2 : E7 items1 x2 m2 = some v1 := hv1; unfold E7 at h2
  refine AH fun K6 hK6 wK6 => ?_
  refine AW.region ?_
  refine AB.step rfl rfl rfl (AD (Ar rfl (.inl rfl) (.inl rfl)) _) ?_
  refine AB.nil ?_
  refine hK6 _ ?_
  refine AH fun K7 hK7 wK7 => ?_
  refine AW.cond rfl (fun hc1 => ?_) (fun hc1 => ?_)
  · have h3 := Ag hc1 h2
    refine AW.skip ?_
    refine hK7 _ ?_
    refine AH fun K8 hK8 wK8 => ?_
    refine AW.block ?_
    refine AH fun K9 hK9 wK9 => ?_
    refine AW.region ?_
    refine AB.step rfl rfl rfl (AD (AI rfl (.inl rfl)) _) ?_
    refine AU h3 fun x4 ex4 h4 => ?_
    refine AB.step rfl rfl rfl (AD (A5 rfl Ao.slice (.inl rfl) (.inl rfl) (fun _ => rfl) (fun _ => ex4)) _) ?_
    refine AB.step rfl rfl rfl (AD (Be (cs := [.r (.int .i64 x4.Item), .r (.int .i64 x4.Parent), .r (.str x4.Place), .r (.sl (x4.Attrs.map AG.row))]) rfl CL (.inl rfl) rfl rfl) _) ?_
    refine AB.step rfl rfl rfl (Bs (cs := [.r (.int .i64 0), .r (.int .i64 0), .r (.str []), .cst (.slice none 0 0)]) 5 rfl Fe rfl rfl) ?_
    refine AB.step rfl rfl rfl (AD (AK rfl (.inl rfl)) _) ?_
    refine BG rfl rfl (Ba (ds := [.r (.int .i64 x4.Item), .r (.int .i64 x4.Parent), .r (.str x4.Place), .r (.sl (x4.Attrs.map AG.row))]) rfl E6 (.inl rfl) rfl (.inl rfl) rfl rfl rfl rfl) ?_
    refine AB.nil ?_
    refine hK9 _ ?_
    refine AH fun K10 hK10 wK10 => ?_
    refine AH fun K11 hK11 wK11 => ?_
    refine AW.region ?_
    refine AB.step rfl rfl rfl (AD (AI rfl (.inl rfl)) _) ?_
    refine AB.step rfl rfl rfl (AD (AX (ob := .box _ _ _) rfl Dd (.inl rfl) (fun _ => rfl) rfl) _) ?_
    refine AB.step rfl rfl rfl (AD (AR (a := .r (.int .i64 x4.Parent)) rfl Ae (.inl rfl) rfl rfl) _) ?_
    refine AB.step rfl rfl rfl (AD (JA (rd := RV.bool) false (.bool false) false rfl Try.underlying63 Try.underlying3 (En NQ) (fun _ _ => .bool _) (.inl rfl) (.inl rfl) rfl) _) ?_
    refine AB.step rfl rfl rfl (AD (Bi rfl (.inl rfl)) _) ?_
    refine AB.nil ?_
    refine hK11 _ ?_
    refine AW.cond rfl (fun hc2 => ?_) (fun hc2 => ?_)
    · have h5 := Ag hc2 h4
      refine AH fun K12 hK12 wK12 => ?_
      refine AW.weak (s' := ⟨[(4, .r (.int .i64 x2))], [], ((i3 0) + 1), 27⟩) (by exact AL ⟨.inl (.inl rfl), trivial⟩ trivial (Nat.le_refl _)) ?_
      refine AW.region ?_
      refine AB.step rfl rfl rfl (AD (AI rfl (.inl rfl)) _) ?_
      refine AB.step rfl rfl rfl (AD (AK rfl (.inl rfl)) _) ?_
      refine AB.nil ?_
      refine hK12 _ ?_
      refine AW.ret ?_
      exact Am (P := Try.prog) (fun (r : Int) => .r (.int .i64 r)) (he1 _ (hx1 _ (Option.some.inj h5).symm)) (.inl rfl) (.t (.d rfl))
    · have h5 := Ah hc2 h4
      refine AW.skip ?_
      refine hK10 _ ?_
      refine AW.weak (s' := ⟨[(0, .r (.sl (items1.map AE.row))), (3, .mref 6 n0), (5, .ptr 5 (i3 0) 0 0), (8, .r (.sl (items1.map AE.row))), (9, .r (.int .i64 (items1.length : Int))), (10, .r (.int .i64 x2))], [(5, some (.box (i3 0) 55 [.r (.int .i64 x4.Item), .r (.int .i64 x4.Parent), .r (.str x4.Place), .r (.sl (x4.Attrs.map AG.row))])), (6, some (.md n0 (AM RV.bool m2)))], ((i3 0) + 1), 27⟩) (by exact AL ⟨.inl (.inl rfl), .inl (.inl rfl), .inl (.inl rfl), .inl (.inl rfl), .inl (.inl rfl), .inl (.inl rfl), trivial⟩ ⟨.inl rfl, .inl rfl, trivial⟩ (Nat.le_refl _)) ?_
      refine AW.region ?_
      refine AB.step rfl rfl rfl (AD (AI rfl (.inl rfl)) _) ?_
      refine AB.step rfl rfl rfl (AD (AX (ob := .box _ _ _) rfl Bf (.inl rfl) (fun _ => rfl) rfl) _) ?_
      refine AB.step rfl rfl rfl (AD (AR (a := .r (.int .i64 x4.Item)) rfl Ae (.inl rfl) rfl rfl) _) ?_
      refine BG rfl rfl (If (rd := RV.bool) (a := true) (.inl rfl) Try.underlying63 Try.underlying3 (.inl rfl) (.inl rfl) (.inl rfl) rfl) ?_
      refine AB.nil ?_
      refine hK8 _ ?_
      refine AW.region ?_
      refine AU h5 fun x5 ex5 h6 => ?_
      refine AB.step rfl rfl rfl (AD (BC rfl (.inl rfl) (.inl rfl) (fun _ => ex5)) _) ?_
      refine AB.step rfl rfl rfl (AD (AI rfl (.inl rfl)) _) ?_
      refine AB.nil ?_
      exact DD.mk h6 (Ab [((i3 0) + 1)]) ((by exact AL ⟨.inl (.inl rfl), .inl (.inl rfl), .inl (.inl rfl), .inl (.inl rfl), .inl (.inl rfl), trivial⟩ ⟨.inl rfl, trivial⟩ (Nat.le_refl _)))
  · have h3 := Ah hc1 h2
    refine AW.exit ?_
    exact wK3 _ _ ((by exact AL ⟨.inl (.inl rfl), trivial⟩ trivial (Nat.le_refl _))) (J1 _ (Ab [(i3 0)]) (hx1 _ (Option.some.inj h3).symm))
theorem Q4 {l1 : List AP} {r : Bool} (h : Ih l1 = some r) : Af Try.prog 3 [.r (.sl (l1.map AP.row))] (.r (.bool r)) := by
  unfold Ih at h
  refine A6 Try.func3 rfl rfl Try.ntmps3 rfl (Nat.le_of_ble_eq_true rfl) fun n0 => ?_
  refine AH fun K1 hK1 wK1 => ?_
  refine AW.region ?_
  refine AB.step rfl rfl rfl (AD (AK rfl (.inl rfl)) _) ?_
  refine AB.nil ?_
  refine hK1 _ ?_
  refine AH fun K2 hK2 wK2 => ?_
  refine AH fun K3 hK3 wK3 => ?_
  refine AW.region ?_
  refine AU h fun r1 er1 h1 => ?_
  refine AB.step rfl rfl rfl (A7 (r := .r (.bool r1)) (caps := []) (bs := []) rfl (.inl rfl) rfl trivial (fun _ => N0 (er1)) rfl) ?_
  refine AB.step rfl rfl rfl (AD (Bi rfl (.inl rfl)) _) ?_
  refine AB.nil ?_
  refine hK3 _ ?_
  refine AW.cond rfl (fun hc1 => ?_) (fun hc1 => ?_)
  · have h2 := Ag hc1 h1
    refine AH fun K4 hK4 wK4 => ?_
    refine AW.region ?_
    refine AB.step rfl rfl rfl (AD (AK rfl (.inl rfl)) _) ?_
    refine AB.nil ?_
    refine hK4 _ ?_
    refine AW.ret ?_
    exact Am (P := Try.prog) (fun (r : Bool) => .r (.bool r)) h2 (.inl rfl) (.t (.d rfl))
  · have h2 := Ah hc1 h1
    refine AW.skip ?_
    refine hK2 _ ?_
    refine AH fun K5 hK5 wK5 => ?_
    refine AW.region ?_
    refine AB.step rfl rfl rfl (AD (AI rfl (.inl rfl)) _) ?_
    refine I2 h2 fun r2 r3 er2 h3 => ?_
    refine AB.step rfl rfl rfl (Dw (r := .tup [.r (.sl (r2.map AE.row)), .r (.int .i64 r3)]) (caps := []) (bs := [.r (.sl (l1.map AP.row))]) rfl (.inl rfl) rfl ⟨.inl ⟨(.inl rfl), rfl⟩, trivial⟩ (fun _ => Ps (er2))) ?_
    refine AB.step rfl rfl rfl (AD (AI rfl (.inl rfl)) _) ?_
    refine AB.step rfl rfl rfl (AD (CJ (a := .r (.sl (r2.map AE.row))) rfl (.inl rfl) rfl) _) ?_
    refine AB.step rfl rfl rfl (AD (CJ (a := .r (.int .i64 r3)) rfl (.inl rfl) rfl) _) ?_
    refine AB.step rfl rfl rfl (AD (AK rfl (.inl rfl)) _) ?_
    refine AB.step rfl rfl rfl (AD (AK rfl (.inl rfl)) _) ?_
    refine AB.nil ?_
    refine hK5 _ ?_
    refine AH fun K6 hK6 wK6 => ?_
    refine AH fun K7 hK7 wK7 => ?_
    refine AW.region ?_
    refine AB.step rfl rfl rfl (AD (AI rfl (.inl rfl)) _) ?_
    refine AU h3 fun f1 ef1 h4 => ?_
    refine AB.step rfl rfl rfl (A7 (r := .r (.int .i64 f1)) (caps := []) (bs := [.r (.sl (l1.map AP.row))]) rfl (.inl rfl) rfl ⟨⟨_, (.inl rfl), .d rfl⟩, trivial⟩ (fun _ => P9 (ef1)) rfl) ?_
    refine AB.step rfl rfl rfl (AD (AK rfl (.inl rfl)) _) ?_
    refine AB.nil ?_
    refine hK7 _ ?_
    refine AH fun K8 hK8 wK8 => ?_
    refine AW.weak (s' := ⟨[(0, .r (.sl (l1.map AP.row))), (3, .r (.sl (r2.map AE.row))), (4, .r (.int .i64 r3)), (5, .r (.int .i64 f1))], [], n0, 45⟩) (by exact AL ⟨.inl (.inl rfl), .inl (.inl rfl), .inl (.inl rfl), .inl (.inl rfl), trivial⟩ trivial (Nat.le_refl _)) ?_
    refine AW.region ?_
    refine AB.step rfl rfl rfl (AD (AI rfl (.inl rfl)) _) ?_
    refine AB.step rfl rfl rfl (AD (Bq rfl (.inl rfl) (.inl rfl)) _) ?_
    refine AB.nil ?_
    refine hK8 _ ?_
    refine AW.cond rfl (fun hc2 => ?_) (fun hc2 => ?_)
    · have h5 := Ag hc2 h4
      refine AH fun K9 hK9 wK9 => ?_
      refine AW.region ?_
      refine AB.step rfl rfl rfl (AD (AI rfl (.inl rfl)) _) ?_
      refine AB.step rfl rfl rfl (AD (AI rfl (.inl rfl)) _) ?_
      refine AB.step rfl rfl rfl (AD (BH rfl (.inl rfl) (.inl rfl)) _) ?_
      refine AB.step rfl rfl rfl (AD (AI rfl (.inl rfl)) _) ?_
      refine AB.stepW (.one rfl rfl rfl) rfl rfl (AD (AI rfl (.inl rfl)) _) ?_
      refine AB.stepW (.one rfl rfl rfl) rfl rfl (AD (BO rfl Ao.slice (.inr ⟨_, (by exact id), rfl⟩)) _) ?_
      refine AB.stepW (.one rfl rfl rfl) rfl rfl (AD (BH rfl (.inr ⟨_, (by exact id), rfl⟩) (.inl rfl)) _) ?_
      refine AB.step rfl rfl rfl (AD (A0 rfl (.inl rfl) (.inr ⟨_, (by exact id), rfl⟩)) _) ?_
      refine AB.step rfl rfl rfl (AD (AK rfl (.inl rfl)) _) ?_
      refine AB.nil ?_
      refine hK9 _ ?_
      refine AW.ret ?_
      exact Am (P := Try.prog) (fun (r : Bool) => .r (.bool r)) h5 (.inl rfl) (.t (.d rfl))
    · have h5 := Ah hc2 h4
      refine AW.skip ?_
      refine hK6 _ ?_
      refine AH fun K10 hK10 wK10 => ?_
      refine AW.region ?_
      refine AB.step rfl rfl rfl (AD (AI rfl (.inl rfl)) _) ?_
      refine I2 h5 fun r4 r5 er4 h6 => ?_
      refine AB.step rfl rfl rfl (Dw (r := .tup [.r (.sl (r4.map AE.row)), .r (.int .i64 r5)]) (caps := []) (bs := [.r (.sl (l1.map AP.row))]) rfl (.inl rfl) rfl ⟨.inl ⟨(.inl rfl), rfl⟩, trivial⟩ (fun _ => Q9 (er4))) ?_
      refine AB.step rfl rfl rfl (AD (AI rfl (.inl rfl)) _) ?_
      refine AB.step rfl rfl rfl (AD (CJ (a := .r (.sl (r4.map AE.row))) rfl (.inl rfl) rfl) _) ?_
      refine AB.step rfl rfl rfl (AD (CJ (a := .r (.int .i64 r5)) rfl (.inl rfl) rfl) _) ?_
      refine AB.step rfl rfl rfl (AD (AK rfl (.inl rfl)) _) ?_
      refine AB.step rfl rfl rfl (AD (AK rfl (.inl rfl)) _) ?_
      refine AB.nil ?_
      refine hK10 _ ?_
      refine AH fun K11 hK11 wK11 => ?_
      refine AW.weak (s' := ⟨[(3, .r (.sl (r2.map AE.row))), (4, .r (.int .i64 r3)), (6, .r (.sl (r4.map AE.row))), (7, .r (.int .i64 r5))], [], n0, 45⟩) (by exact AL ⟨.inl (.inl rfl), .inl (.inl rfl), .inl (.inl rfl), .inl (.inl rfl), trivial⟩ trivial (Nat.le_refl _)) ?_
      refine AW.region ?_
      refine AB.step rfl rfl rfl (AD (AI rfl (.inl rfl)) _) ?_
      refine AB.step rfl rfl rfl (AD (BH rfl (.inl rfl) (.inl rfl)) _) ?_
      refine AB.step rfl rfl rfl (AD (AI rfl (.inl rfl)) _) ?_
      refine AB.stepW (.one rfl rfl rfl) rfl rfl (AD (AI rfl (.inl rfl)) _) ?_
      refine AB.stepW (.one rfl rfl rfl) rfl rfl (AD (AI rfl (.inl rfl)) _) ?_
      refine AU h6 fun r6 er6 h7 => ?_
      refine AB.stepW (.one rfl rfl rfl) rfl rfl (A7 (r := .r (.bool r6)) (caps := []) (bs := [.r (.sl (r2.map AE.row)), .r (.sl (r4.map AE.row))]) rfl (.inl rfl) rfl ⟨⟨_, (.inr ⟨_, (by exact id), rfl⟩), .d rfl⟩, ⟨_, (.inr ⟨_, (by exact id), rfl⟩), .d rfl⟩, trivial⟩ (fun hg => Pt (BL er6 hg)) rfl) ?_
      refine AB.step rfl rfl rfl (AD (A0 rfl (.inl rfl) (.inr ⟨_, (by exact id), rfl⟩)) _) ?_
      refine AB.step rfl rfl rfl (AD (AI rfl (.inl rfl)) _) ?_
      refine AB.stepW (.one rfl rfl rfl) rfl rfl (AD (AI rfl (.inl rfl)) _) ?_
      refine AU h7 fun r7 er7 h8 => ?_
      refine AB.stepW (.one rfl rfl rfl) rfl rfl (A7 (r := .r (.int .i64 r7)) (caps := []) (bs := [.r (.sl (r2.map AE.row))]) rfl (.inl rfl) rfl ⟨⟨_, (.inr ⟨_, (by exact id), rfl⟩), .d rfl⟩, trivial⟩ (fun hg => RM (BL er7 hg)) rfl) ?_
      refine AB.stepW (.one rfl rfl rfl) rfl rfl (AD (AI rfl (.inl rfl)) _) ?_
      refine AB.stepW (.one rfl rfl rfl) rfl rfl (AD (BH rfl (.inr ⟨_, (by exact id), rfl⟩) (.inr ⟨_, (by exact id), rfl⟩)) _) ?_
      refine AB.step rfl rfl rfl (AD (A0 rfl (.inl rfl) (.inr ⟨_, (by exact id), rfl⟩)) _) ?_
      refine AB.step rfl rfl rfl (AD (AK rfl (.inl rfl)) _) ?_
      refine AB.nil ?_
      refine hK11 _ ?_
      refine AW.ret ?_
      exact Am (P := Try.prog) (fun (r : Bool) => .r (.bool r)) h8 (.inl rfl) (.t (.d rfl))
end Go.Proofs.Ytelkfhdgmbahgaa.Al
