/- Walks, as printed. -/
import Derived.Test.YtelkfhdgmbahgaaPL1
import Derived.Test.YtelkfhdgmbahgaaProg
set_option linter.all false
set_option maxHeartbeats 4000000
set_option maxRecDepth 20000
set_option linter.unusedVariables false
namespace Go.Proofs.Ytelkfhdgmbahgaa.Al
open Go.Proofs
theorem Bt : Try.prog.follows .mixedOrders = true := by kernel_rfl
theorem Kp : (Try.prog.info? 24).map (fun i => (i.zero, i.size, i.bytes)) = some (some (.slice none 0 0), 1, 24) := by kernel_rfl
theorem Eg : (Try.prog.info? 3).map (fun i => (i.zero, i.size, i.bytes)) = some (some (.int .i64 0), 1, 8) := by kernel_rfl
theorem Rt : (Try.prog.info? 4).map (fun i => (i.zero, i.size, i.bytes)) = some (some (.bool false), 1, 1) := by kernel_rfl
theorem HL : (Try.prog.info? 46).map (fun i => (i.zero, i.size, i.bytes)) = some (some (.agg #[.int .i64 0, .int .i64 0, .int .i64 0, .int .i64 0, .int .i64 0, .string ⟨#[]⟩, .string ⟨#[]⟩, .string ⟨#[]⟩]), 8, 88) := by kernel_rfl
theorem IO : (Try.prog.info? 53).map (fun i => (i.zero, i.size, i.bytes)) = some (some (.slice none 0 0), 1, 24) := by kernel_rfl
theorem Hy : (Try.prog.info? 55).map (fun i => (i.zero, i.size, i.bytes)) = some (some (.agg #[.int .i64 0, .int .i64 0, .string ⟨#[]⟩, .slice none 0 0]), 4, 56) := by kernel_rfl
theorem Kx : (Try.prog.info? 63).map (fun i => (i.zero, i.size, i.bytes)) = some (some (.map none), 1, 8) := by kernel_rfl
theorem OJ : (Try.prog.info? 71).map (fun i => (i.zero, i.size, i.bytes)) = some (some (.pointer none), 1, 8) := by kernel_rfl
theorem LU : (Try.prog.info? 73).map (fun i => (i.zero, i.size, i.bytes)) = some (some (.map none), 1, 8) := by kernel_rfl
theorem ML : (Try.prog.info? 74).map (fun i => (i.zero, i.size, i.bytes)) = some (some (.map none), 1, 8) := by kernel_rfl
theorem QK : (Try.prog.info? 76).map (fun i => (i.zero, i.size, i.bytes)) = some (some (.agg #[.map none, .map none]), 2, 16) := by kernel_rfl
theorem JS : (Try.prog.info? 80).map (fun i => (i.zero, i.size, i.bytes)) = some (some (.agg #[.string ⟨#[]⟩, .string ⟨#[]⟩]), 2, 32) := by kernel_rfl
theorem J9 : (Try.prog.info? 82).map (fun i => (i.zero, i.size, i.bytes)) = some (some (.map none), 1, 8) := by kernel_rfl
theorem Jk : (Try.prog.info? 83).map (fun i => (i.zero, i.size, i.bytes)) = some (some (.nilFunc), 1, 8) := by kernel_rfl
theorem Fa : (Try.prog.info? 9).map (fun i => (i.zero, i.size, i.bytes)) = some (some (.string ⟨#[]⟩), 1, 16) := by kernel_rfl
theorem Gx : Bn Try.prog 24 (.slice none 0 0) := Bn.of Kp
theorem NQ : Bn Try.prog 4 (.bool false) := Bn.of Rt
theorem F4 : Bn Try.prog 46 (.agg #[.int .i64 0, .int .i64 0, .int .i64 0, .int .i64 0, .int .i64 0, .string ⟨#[]⟩, .string ⟨#[]⟩, .string ⟨#[]⟩]) := Bn.of HL
theorem Km : Bn Try.prog 53 (.slice none 0 0) := Bn.of IO
theorem Fe : Bn Try.prog 55 (.agg #[.int .i64 0, .int .i64 0, .string ⟨#[]⟩, .slice none 0 0]) := Bn.of Hy
theorem Lr : Bn Try.prog 63 (.map none) := Bn.of Kx
theorem Rs : Bn Try.prog 71 (.pointer none) := Bn.of OJ
theorem MZ : Bn Try.prog 82 (.map none) := Bn.of J9
theorem L2 : Bn Try.prog 83 (.nilFunc) := Bn.of Jk
theorem DJ : B0 Try.prog 46 8 := B0.of Try.underlying46 rfl HL
theorem CL : B0 Try.prog 55 4 := B0.of Try.underlying55 rfl Hy
theorem Cw : B0 Try.prog 80 2 := B0.of Try.underlying80 rfl JS
theorem PJ : Dj Try.prog 46 [(0, 1), (1, 1), (2, 1), (3, 1), (4, 1), (5, 1), (6, 1), (7, 1)] [.int .i64 0, .int .i64 0, .int .i64 0, .int .i64 0, .int .i64 0, .string ⟨#[]⟩, .string ⟨#[]⟩, .string ⟨#[]⟩] := Dj.of Try.underlying46 (fun w => by kernel_rfl) HL
theorem HK : Dj Try.prog 55 [(0, 1), (1, 1), (2, 1), (3, 1)] [.int .i64 0, .int .i64 0, .string ⟨#[]⟩, .slice none 0 0] := Dj.of Try.underlying55 (fun w => by kernel_rfl) Hy
theorem LF : Dj Try.prog 76 [(0, 1), (1, 1)] [.map none, .map none] := Dj.of Try.underlying76 (fun w => by kernel_rfl) QK
theorem Im : Dj Try.prog 80 [(0, 1), (1, 1)] [.string ⟨#[]⟩, .string ⟨#[]⟩] := Dj.of Try.underlying80 (fun w => by kernel_rfl) JS
theorem Rq : GN Try.prog 80 [some .string, some .string] := GN.of Try.underlying80 (by kernel_rfl) (by kernel_rfl) (by exact ⟨rfl, rfl, Try.underlying9, rfl, rfl, Try.underlying9, trivial⟩)
theorem DU : BF Try.prog 46 0 0 := BF.of Try.underlying46 rfl rfl Eg (by decide)
theorem EU : BF Try.prog 46 1 1 := BF.of Try.underlying46 rfl rfl Eg (by decide)
theorem Bx : BF Try.prog 46 2 2 := BF.of Try.underlying46 rfl rfl Eg (by decide)
theorem CH : BF Try.prog 46 3 3 := BF.of Try.underlying46 rfl rfl Eg (by decide)
theorem Ch : BF Try.prog 46 4 4 := BF.of Try.underlying46 rfl rfl Eg (by decide)
theorem Ej : BF Try.prog 46 5 5 := BF.of Try.underlying46 rfl rfl Fa (by decide)
theorem FS : BF Try.prog 46 6 6 := BF.of Try.underlying46 rfl rfl Fa (by decide)
theorem EV : BF Try.prog 46 7 7 := BF.of Try.underlying46 rfl rfl Fa (by decide)
theorem Bf : BF Try.prog 55 0 0 := BF.of Try.underlying55 rfl rfl Eg (by decide)
theorem Dd : BF Try.prog 55 1 1 := BF.of Try.underlying55 rfl rfl Eg (by decide)
theorem Dm : BF Try.prog 55 2 2 := BF.of Try.underlying55 rfl rfl Fa (by decide)
theorem Ez : BF Try.prog 55 3 3 := BF.of Try.underlying55 rfl rfl IO (by decide)
theorem HE : BF Try.prog 76 0 0 := BF.of Try.underlying76 rfl rfl LU (by decide)
theorem Ik : BF Try.prog 76 1 1 := BF.of Try.underlying76 rfl rfl ML (by decide)
theorem Ee : BF Try.prog 80 0 0 := BF.of Try.underlying80 rfl rfl Fa (by decide)
theorem Mv : BF Try.prog 80 1 1 := BF.of Try.underlying80 rfl rfl Fa (by decide)
theorem Cc : Bk Try.prog 22 46 8 88 := Bk.of Try.underlying22 HL rfl rfl (by decide)
theorem Ao : Bk Try.prog 24 55 4 56 := Bk.of Try.underlying24 Hy rfl rfl (by decide)
theorem Ir : Bk Try.prog 47 3 1 8 := Bk.of Try.underlying47 Eg rfl rfl (by decide)
theorem A9 : Bk Try.prog 53 80 2 32 := Bk.of Try.underlying53 JS rfl rfl (by decide)
theorem H3 : BP Try.prog 24 := BP.of Try.underlying24 rfl Kp
theorem Ae : BP Try.prog 3 := BP.of Try.underlying3 rfl Eg
theorem Fq : BP Try.prog 53 := BP.of Try.underlying53 rfl IO
theorem IL : BP Try.prog 63 := BP.of Try.underlying63 rfl Kx
theorem H8 : BP Try.prog 73 := BP.of Try.underlying73 rfl LU
theorem Ip : BP Try.prog 74 := BP.of Try.underlying74 rfl ML
theorem D1 : BP Try.prog 82 := BP.of Try.underlying82 rfl J9
theorem Ig : BP Try.prog 83 := BP.of Try.underlying83 rfl Jk
theorem A4 : BP Try.prog 9 := BP.of Try.underlying9 rfl Fa
theorem Ke : ∃ i, Try.prog.info? 24 = some i ∧ i.size = 1 := FO Kp
theorem Ga : ∃ i, Try.prog.info? 46 = some i ∧ i.size = 8 := FO HL
theorem Gb : ∃ i, Try.prog.info? 53 = some i ∧ i.size = 1 := FO IO
theorem E6 : ∃ i, Try.prog.info? 55 = some i ∧ i.size = 4 := FO Hy
theorem M3 : ∃ i, Try.prog.info? 63 = some i ∧ i.size = 1 := FO Kx
theorem Mg : ∃ i, Try.prog.info? 82 = some i ∧ i.size = 1 := FO J9
theorem NB : ∃ i, Try.prog.info? 83 = some i ∧ i.size = 1 := FO Jk
set_option maxHeartbeats 40000000 in
set_option maxRecDepth 100000 in
theorem Rv : Af Try.prog 13 [.r (.str [98])] (.r (.bool true)) := by
  refine A6 Try.func13 rfl rfl Try.ntmps13 rfl (Nat.le_of_ble_eq_true rfl) fun n0 => ?_
  refine AH fun K1 hK1 wK1 => ?_
  refine AW.region ?_
  refine AB.step rfl rfl rfl (AD (AK rfl (.inl rfl)) _) ?_
  refine AB.nil ?_
  refine hK1 _ ?_
  refine AH fun K2 hK2 wK2 => ?_
  refine AH fun K3 hK3 wK3 => ?_
  refine AW.region ?_
  refine AB.step rfl rfl rfl (AD (AI rfl (.inl rfl)) _) ?_
  refine AB.step rfl rfl rfl (AD (Et rfl (.inl rfl) (.inl rfl)) _) ?_
  refine AB.step rfl rfl rfl (AD (AI rfl (.inl rfl)) _) ?_
  refine Ax (.one rfl rfl rfl) rfl rfl rfl (AD (AI rfl (.inl rfl)) _) ?_
  refine Ax (.one rfl rfl rfl) rfl rfl rfl (AD (B9 rfl Try.underlying9 (.inl rfl)) _) ?_
  refine Ax (.one rfl rfl rfl) rfl rfl rfl (AD (BT rfl (.inl rfl) (.inl rfl)) _) ?_
  refine AB.step rfl rfl rfl (AD (A3 rfl (.inl rfl) (.inl rfl)) _) ?_
  refine AB.step rfl rfl rfl (AD (AI rfl (.inl rfl)) _) ?_
  refine Ax (.one rfl rfl rfl) rfl rfl rfl (AD (AI rfl (.inl rfl)) _) ?_
  refine Ax (.one rfl rfl rfl) rfl rfl rfl (AD (AI rfl (.inl rfl)) _) ?_
  refine Ax (.one rfl rfl rfl) rfl rfl rfl (AD (B9 rfl Try.underlying9 (.inl rfl)) _) ?_
  have e1 : Aw .i64 (0) = some (0 : Int) := by kernel_rfl
  refine Ax (.one rfl rfl rfl) rfl rfl rfl (AD (Es rfl (.inl rfl) (.inl rfl) (fun _ => e1)) _) ?_
  have e2 : @Ak (UInt8) [98] 0 = some (98 : UInt8) := by kernel_rfl
  refine Ax (.one rfl rfl rfl) rfl rfl rfl (AD (Bg rfl Try.underlying9 (.inl rfl) (.inl rfl) (fun _ => e2)) _) ?_
  refine Ax (.one rfl rfl rfl) rfl rfl rfl (AD (BH rfl (.inl rfl) (.inl rfl)) _) ?_
  refine AB.step rfl rfl rfl (AD (A3 rfl (.inl rfl) (.inl rfl)) _) ?_
  refine AB.nil ?_
  refine hK3 _ ?_
  refine AW.cond rfl (fun hc1 => by cases hc1) (fun hc1 => ?_)
  refine AW.skip ?_
  refine hK2 _ ?_
  refine AH fun K4 hK4 wK4 => ?_
  refine AH fun K5 hK5 wK5 => ?_
  refine AW.weak (s' := ⟨[(0, .r (.str [98]))], [], n0, 35⟩) (by exact AL ⟨.inl (.inl rfl), trivial⟩ trivial (Nat.le_refl _)) ?_
  refine AW.region ?_
  refine AB.step rfl rfl rfl (AD (AI rfl (.inl rfl)) _) ?_
  refine AB.step rfl rfl rfl (AD (B9 rfl Try.underlying9 (.inl rfl)) _) ?_
  refine AB.step rfl rfl rfl (AD (AI rfl (.inl rfl)) _) ?_
  refine AB.nil ?_
  refine hK5 _ ?_
  refine AW.block ?_
  refine Ck 9 ?_
  refine BU.step ?_
  refine AH fun K6 hK6 wK6 => ?_
  refine AW.region ?_
  refine AB.step rfl rfl rfl (AD (Ar rfl (.inl rfl) (.inl rfl)) _) ?_
  refine AB.nil ?_
  refine hK6 _ ?_
  refine AH fun K7 hK7 wK7 => ?_
  refine AW.cond rfl (fun hc2 => ?_) (fun hc2 => by cases hc2)
  refine AW.skip ?_
  refine hK7 _ ?_
  refine AH fun K8 hK8 wK8 => ?_
  refine AW.block ?_
  refine AH fun K9 hK9 wK9 => ?_
  refine AW.region ?_
  refine AB.step rfl rfl rfl (AD (AI rfl (.inl rfl)) _) ?_
  refine AB.step rfl rfl rfl (AD (AK rfl (.inl rfl)) _) ?_
  refine AB.nil ?_
  refine hK9 _ ?_
  refine AH fun K10 hK10 wK10 => ?_
  refine AW.region ?_
  refine AB.step rfl rfl rfl (AD (AI rfl (.inl rfl)) _) ?_
  refine AB.step rfl rfl rfl (AD (AI rfl (.inl rfl)) _) ?_
  have e3 : @Ak (UInt8) [98] 0 = some (98 : UInt8) := by kernel_rfl
  refine AB.step rfl rfl rfl (AD (Bg rfl Try.underlying9 (.inl rfl) (.inl rfl) (fun _ => e3)) _) ?_
  refine AB.step rfl rfl rfl (AD (Ar rfl (.inl rfl) (.inl rfl)) _) ?_
  refine AB.step rfl rfl rfl (AD (AI rfl (.inl rfl)) _) ?_
  refine Ax (.one rfl rfl rfl) rfl rfl rfl (AD (AI rfl (.inl rfl)) _) ?_
  refine Ax (.one rfl rfl rfl) rfl rfl rfl (AD (AI rfl (.inl rfl)) _) ?_
  have e4 : @Ak (UInt8) [98] 0 = some (98 : UInt8) := by kernel_rfl
  refine Ax (.one rfl rfl rfl) rfl rfl rfl (AD (Bg rfl Try.underlying9 (.inl rfl) (.inl rfl) (fun _ => e4)) _) ?_
  refine Ax (.one rfl rfl rfl) rfl rfl rfl (AD (BT rfl (.inl rfl) (.inl rfl)) _) ?_
  refine AB.step rfl rfl rfl (AD (A3 rfl (.inl rfl) (.inl rfl)) _) ?_
  refine AB.nil ?_
  refine hK10 _ ?_
  refine AW.cond rfl (fun hc3 => by cases hc3) (fun hc3 => ?_)
  refine AW.skip ?_
  refine hK8 _ ?_
  refine AW.weak (s' := ⟨[(0, .r (.str [98])), (20, .r (.int .i64 (1 : Int))), (21, .r (.int .i64 (0 : Int))), (29, .r (.str [98])), (30, .r (.int .i64 (0 : Int))), (31, .r (.int .u8 (98 : Int))), (32, .r (.bool false))], [], n0, 35⟩) (by exact AL ⟨.inl (.inl rfl), .inl (.inl rfl), .inl (.inl rfl), .inl (.inl rfl), .inl (.inl rfl), .inl (.inl rfl), .inl (.inl rfl), trivial⟩ trivial (Nat.le_refl _)) ?_
  refine AW.region ?_
  have e5 : Aw .i64 (1) = some (1 : Int) := by kernel_rfl
  refine AB.step rfl rfl rfl (AD (BC rfl (.inl rfl) (.inl rfl) (fun _ => e5)) _) ?_
  refine AB.step rfl rfl rfl (AD (AI rfl (.inl rfl)) _) ?_
  refine AB.nil ?_
  refine BU.step ?_
  refine AH fun K11 hK11 wK11 => ?_
  refine AW.region ?_
  refine AB.step rfl rfl rfl (AD (Ar rfl (.inl rfl) (.inl rfl)) _) ?_
  refine AB.nil ?_
  refine hK11 _ ?_
  refine AH fun K12 hK12 wK12 => ?_
  refine AW.cond rfl (fun hc4 => by cases hc4) (fun hc4 => ?_)
  refine AW.exit ?_
  refine hK4 _ ?_
  refine AH fun K13 hK13 wK13 => ?_
  refine AW.weak (s' := ⟨[], [], n0, 35⟩) (by exact AL trivial trivial (Nat.le_refl _)) ?_
  refine AW.region ?_
  refine AB.step rfl rfl rfl (AD (AK rfl (.inl rfl)) _) ?_
  refine AB.nil ?_
  refine hK13 _ ?_
  refine AW.ret ?_
  exact Am (P := Try.prog) (fun (r : Bool) => .r (.bool r)) (rfl : some (true : Bool) = some true) (.inl rfl) (.t (.d rfl))
set_option maxHeartbeats 40000000 in
set_option maxRecDepth 100000 in
theorem SN : Af Try.prog 34 [.agg [.r (.int .i64 (1 : Int)), .r (.int .i64 (1 : Int)), .r (.int .i64 (0 : Int)), .r (.int .i64 (5 : Int)), .r (.int .i64 (0 : Int)), .r (.str [98]), .r (.str []), .r (.str [])]] (.r (.int .i64 (0 : Int))) := by
  refine A6 Try.func34 rfl rfl Try.ntmps34 rfl (Nat.le_of_ble_eq_true rfl) fun n0 => ?_
  refine AH fun K1 hK1 wK1 => ?_
  refine AW.region ?_
  refine AB.step rfl rfl rfl (CU (cs := [.r (.int .i64 (1 : Int)), .r (.int .i64 (1 : Int)), .r (.int .i64 (0 : Int)), .r (.int .i64 (5 : Int)), .r (.int .i64 (0 : Int)), .r (.str [98]), .r (.str []), .r (.str [])]) 101 rfl (.inl rfl) rfl rfl) ?_
  refine AB.step rfl rfl rfl (AD (AK rfl (.inl rfl)) _) ?_
  refine AB.nil ?_
  refine hK1 _ ?_
  refine AH fun K2 hK2 wK2 => ?_
  refine AW.block ?_
  refine AH fun K3 hK3 wK3 => ?_
  refine AW.region ?_
  refine AB.step rfl rfl rfl (AD (AX (ob := .box _ _ _) rfl Bx (.inl rfl) (fun _ => rfl) rfl) _) ?_
  refine AB.step rfl rfl rfl (AD (AR (a := .r (.int .i64 (0 : Int))) rfl Ae (.inl rfl) rfl rfl) _) ?_
  refine AB.step rfl rfl rfl (AD (Bq rfl (.inl rfl) (.inl rfl)) _) ?_
  refine AB.step rfl rfl rfl (AD (AI rfl (.inl rfl)) _) ?_
  refine Bv (.one rfl rfl rfl) rfl rfl rfl ?_
  refine Bv (.one rfl rfl rfl) rfl rfl rfl ?_
  refine Bv (.one rfl rfl rfl) rfl rfl rfl ?_
  refine AB.step rfl rfl rfl (AD (A0 rfl (.inl rfl) (.inr ⟨_, (by exact id), rfl⟩)) _) ?_
  refine AB.step rfl rfl rfl (AD (AK rfl (.inl rfl)) _) ?_
  refine AB.nil ?_
  refine hK3 _ ?_
  refine AW.cond rfl (fun hc1 => by cases hc1) (fun hc1 => ?_)
  refine AH fun K4 hK4 wK4 => ?_
  refine AW.weak (s' := ⟨[(1, .ptr 101 n0 0 0)], [(101, some (.box n0 46 [.r (.int .i64 (1 : Int)), .r (.int .i64 (1 : Int)), .r (.int .i64 (0 : Int)), .r (.int .i64 (5 : Int)), .r (.int .i64 (0 : Int)), .r (.str [98]), .r (.str []), .r (.str [])]))], (n0 + 1), 116⟩) (by exact AL ⟨.inl (.inl rfl), trivial⟩ ⟨.inl rfl, trivial⟩ (Nat.le_refl _)) ?_
  refine AW.region ?_
  refine AB.step rfl rfl rfl (AD (AX (ob := .box _ _ _) rfl DU (.inl rfl) (fun _ => rfl) rfl) _) ?_
  refine AB.step rfl rfl rfl (AD (AR (a := .r (.int .i64 (1 : Int))) rfl Ae (.inl rfl) rfl rfl) _) ?_
  refine AB.step rfl rfl rfl (AD (Ar rfl (.inl rfl) (.inl rfl)) _) ?_
  refine AB.step rfl rfl rfl (AD (AI rfl (.inl rfl)) _) ?_
  refine Ax (.one rfl rfl rfl) rfl rfl rfl (AD (AX (ob := .box _ _ _) rfl DU (.inl rfl) (fun _ => rfl) rfl) _) ?_
  refine Ax (.one rfl rfl rfl) rfl rfl rfl (AD (AR (a := .r (.int .i64 (1 : Int))) rfl Ae (.inl rfl) rfl rfl) _) ?_
  refine Ax (.one rfl rfl rfl) rfl rfl rfl (AD (BT rfl (.inl rfl) (.inl rfl)) _) ?_
  refine AB.step rfl rfl rfl (AD (A3 rfl (.inl rfl) (.inl rfl)) _) ?_
  refine AB.step rfl rfl rfl (AD (AI rfl (.inl rfl)) _) ?_
  refine Ax (.one rfl rfl rfl) rfl rfl rfl (AD (AX (ob := .box _ _ _) rfl EU (.inl rfl) (fun _ => rfl) rfl) _) ?_
  refine Ax (.one rfl rfl rfl) rfl rfl rfl (AD (AR (a := .r (.int .i64 (1 : Int))) rfl Ae (.inl rfl) rfl rfl) _) ?_
  refine Ax (.one rfl rfl rfl) rfl rfl rfl (AD (Ar rfl (.inl rfl) (.inl rfl)) _) ?_
  refine AB.step rfl rfl rfl (AD (A3 rfl (.inl rfl) (.inl rfl)) _) ?_
  refine AB.step rfl rfl rfl (AD (AI rfl (.inl rfl)) _) ?_
  refine Ax (.one rfl rfl rfl) rfl rfl rfl (AD (AX (ob := .box _ _ _) rfl EU (.inl rfl) (fun _ => rfl) rfl) _) ?_
  refine Ax (.one rfl rfl rfl) rfl rfl rfl (AD (AR (a := .r (.int .i64 (1 : Int))) rfl Ae (.inl rfl) rfl rfl) _) ?_
  refine Ax (.one rfl rfl rfl) rfl rfl rfl (AD (BT rfl (.inl rfl) (.inl rfl)) _) ?_
  refine AB.step rfl rfl rfl (AD (A3 rfl (.inl rfl) (.inl rfl)) _) ?_
  refine AB.step rfl rfl rfl (AD (AI rfl (.inl rfl)) _) ?_
  refine Ax (.one rfl rfl rfl) rfl rfl rfl (AD (AX (ob := .box _ _ _) rfl CH (.inl rfl) (fun _ => rfl) rfl) _) ?_
  refine Ax (.one rfl rfl rfl) rfl rfl rfl (AD (AR (a := .r (.int .i64 (5 : Int))) rfl Ae (.inl rfl) rfl rfl) _) ?_
  refine Ax (.one rfl rfl rfl) rfl rfl rfl (AD (Ar rfl (.inl rfl) (.inl rfl)) _) ?_
  refine AB.step rfl rfl rfl (AD (A3 rfl (.inl rfl) (.inl rfl)) _) ?_
  refine AB.step rfl rfl rfl (AD (AI rfl (.inl rfl)) _) ?_
  refine Ax (.one rfl rfl rfl) rfl rfl rfl (AD (AX (ob := .box _ _ _) rfl CH (.inl rfl) (fun _ => rfl) rfl) _) ?_
  refine Ax (.one rfl rfl rfl) rfl rfl rfl (AD (AR (a := .r (.int .i64 (5 : Int))) rfl Ae (.inl rfl) rfl rfl) _) ?_
  refine Ax (.one rfl rfl rfl) rfl rfl rfl (AD (BT rfl (.inl rfl) (.inl rfl)) _) ?_
  refine AB.step rfl rfl rfl (AD (A3 rfl (.inl rfl) (.inl rfl)) _) ?_
  refine AB.step rfl rfl rfl (AD (AK rfl (.inl rfl)) _) ?_
  refine AB.nil ?_
  refine hK4 _ ?_
  refine AW.cond rfl (fun hc2 => by cases hc2) (fun hc2 => ?_)
  refine AH fun K5 hK5 wK5 => ?_
  refine AH fun K6 hK6 wK6 => ?_
  refine AW.weak (s' := ⟨[(1, .ptr 101 n0 0 0)], [(101, some (.box n0 46 [.r (.int .i64 (1 : Int)), .r (.int .i64 (1 : Int)), .r (.int .i64 (0 : Int)), .r (.int .i64 (5 : Int)), .r (.int .i64 (0 : Int)), .r (.str [98]), .r (.str []), .r (.str [])]))], (n0 + 1), 116⟩) (by exact AL ⟨.inl (.inl rfl), trivial⟩ ⟨.inl rfl, trivial⟩ (Nat.le_refl _)) ?_
  refine AW.region ?_
  refine AB.step rfl rfl rfl (AD (AX (ob := .box _ _ _) rfl Bx (.inl rfl) (fun _ => rfl) rfl) _) ?_
  refine AB.step rfl rfl rfl (AD (AR (a := .r (.int .i64 (0 : Int))) rfl Ae (.inl rfl) rfl rfl) _) ?_
  refine AB.step rfl rfl rfl (AD (BH rfl (.inl rfl) (.inl rfl)) _) ?_
  refine AB.step rfl rfl rfl (AD (AI rfl (.inl rfl)) _) ?_
  refine Ax (.one rfl rfl rfl) rfl rfl rfl (AD (AX (ob := .box _ _ _) rfl FS (.inl rfl) (fun _ => rfl) rfl) _) ?_
  refine Ax (.one rfl rfl rfl) rfl rfl rfl (AD (AR (a := .r (.str [])) rfl A4 (.inl rfl) rfl rfl) _) ?_
  refine Ax (.one rfl rfl rfl) rfl rfl rfl (AD (C0 rfl (.inl rfl) (.inl rfl)) _) ?_
  refine Ax (.one rfl rfl rfl) rfl rfl rfl (AD (AI rfl (.inl rfl)) _) ?_
  refine Ax (.one rfl rfl rfl) rfl rfl rfl (AD (AX (ob := .box _ _ _) rfl EV (.inl rfl) (fun _ => rfl) rfl) _) ?_
  refine Ax (.one rfl rfl rfl) rfl rfl rfl (AD (AR (a := .r (.str [])) rfl A4 (.inl rfl) rfl rfl) _) ?_
  refine Ax (.one rfl rfl rfl) rfl rfl rfl (AD (C0 rfl (.inl rfl) (.inl rfl)) _) ?_
  refine Ax (.one rfl rfl rfl) rfl rfl rfl (AD (A3 rfl (.inl rfl) (.inl rfl)) _) ?_
  refine AB.step rfl rfl rfl (AD (A0 rfl (.inl rfl) (.inl rfl)) _) ?_
  refine AB.step rfl rfl rfl (AD (AK rfl (.inl rfl)) _) ?_
  refine AB.nil ?_
  refine hK6 _ ?_
  refine AW.cond rfl (fun hc3 => by cases hc3) (fun hc3 => ?_)
  refine AW.weak (s' := ⟨[(1, .ptr 101 n0 0 0)], [(101, some (.box n0 46 [.r (.int .i64 (1 : Int)), .r (.int .i64 (1 : Int)), .r (.int .i64 (0 : Int)), .r (.int .i64 (5 : Int)), .r (.int .i64 (0 : Int)), .r (.str [98]), .r (.str []), .r (.str [])]))], (n0 + 1), 116⟩) (by exact AL ⟨.inl (.inl rfl), trivial⟩ ⟨.inl rfl, trivial⟩ (Nat.le_refl _)) ?_
  refine AW.region ?_
  refine AB.step rfl rfl rfl (AD (AX (ob := .box _ _ _) rfl Bx (.inl rfl) (fun _ => rfl) rfl) _) ?_
  refine AB.step rfl rfl rfl (AD (AR (a := .r (.int .i64 (0 : Int))) rfl Ae (.inl rfl) rfl rfl) _) ?_
  refine AB.step rfl rfl rfl (AD (BH rfl (.inl rfl) (.inl rfl)) _) ?_
  refine AB.step rfl rfl rfl (AD (AI rfl (.inl rfl)) _) ?_
  refine Bv (.one rfl rfl rfl) rfl rfl rfl ?_
  refine Bv (.one rfl rfl rfl) rfl rfl rfl ?_
  refine Bv (.one rfl rfl rfl) rfl rfl rfl ?_
  refine Bv (.one rfl rfl rfl) rfl rfl rfl ?_
  refine Bv (.two rfl rfl rfl) rfl rfl rfl ?_
  refine Bv (.two rfl rfl rfl) rfl rfl rfl ?_
  refine Bv (.two rfl rfl rfl) rfl rfl rfl ?_
  refine Bv (.one rfl rfl rfl) rfl rfl rfl ?_
  refine AB.step rfl rfl rfl (AD (A0 rfl (.inl rfl) (.inr ⟨_, (by exact id), rfl⟩)) _) ?_
  refine AB.step rfl rfl rfl (AD (AK rfl (.inl rfl)) _) ?_
  refine AB.nil ?_
  refine hK5 _ ?_
  refine AW.cond rfl (fun hc4 => by cases hc4) (fun hc4 => ?_)
  refine AH fun K7 hK7 wK7 => ?_
  refine AW.weak (s' := ⟨[(1, .ptr 101 n0 0 0)], [(101, some (.box n0 46 [.r (.int .i64 (1 : Int)), .r (.int .i64 (1 : Int)), .r (.int .i64 (0 : Int)), .r (.int .i64 (5 : Int)), .r (.int .i64 (0 : Int)), .r (.str [98]), .r (.str []), .r (.str [])]))], (n0 + 1), 116⟩) (by exact AL ⟨.inl (.inl rfl), trivial⟩ ⟨.inl rfl, trivial⟩ (Nat.le_refl _)) ?_
  refine AW.region ?_
  refine AB.step rfl rfl rfl (AD (AX (ob := .box _ _ _) rfl Bx (.inl rfl) (fun _ => rfl) rfl) _) ?_
  refine AB.step rfl rfl rfl (AD (AR (a := .r (.int .i64 (0 : Int))) rfl Ae (.inl rfl) rfl rfl) _) ?_
  refine AB.step rfl rfl rfl (AD (BH rfl (.inl rfl) (.inl rfl)) _) ?_
  refine AB.step rfl rfl rfl (AD (AI rfl (.inl rfl)) _) ?_
  refine Ax (.one rfl rfl rfl) rfl rfl rfl (AD (AX (ob := .box _ _ _) rfl Ch (.inl rfl) (fun _ => rfl) rfl) _) ?_
  refine Ax (.one rfl rfl rfl) rfl rfl rfl (AD (AR (a := .r (.int .i64 (0 : Int))) rfl Ae (.inl rfl) rfl rfl) _) ?_
  refine Ax (.one rfl rfl rfl) rfl rfl rfl (AD (Ar rfl (.inl rfl) (.inl rfl)) _) ?_
  refine Ax (.one rfl rfl rfl) rfl rfl rfl (AD (AI rfl (.inl rfl)) _) ?_
  refine Ax (.one rfl rfl rfl) rfl rfl rfl (AD (AX (ob := .box _ _ _) rfl Ch (.inl rfl) (fun _ => rfl) rfl) _) ?_
  refine Ax (.one rfl rfl rfl) rfl rfl rfl (AD (AR (a := .r (.int .i64 (0 : Int))) rfl Ae (.inl rfl) rfl rfl) _) ?_
  refine Ax (.one rfl rfl rfl) rfl rfl rfl (AD (BT rfl (.inl rfl) (.inl rfl)) _) ?_
  refine Ax (.one rfl rfl rfl) rfl rfl rfl (AD (A3 rfl (.inl rfl) (.inl rfl)) _) ?_
  refine AB.step rfl rfl rfl (AD (A0 rfl (.inl rfl) (.inl rfl)) _) ?_
  refine AB.step rfl rfl rfl (AD (AK rfl (.inl rfl)) _) ?_
  refine AB.nil ?_
  refine hK7 _ ?_
  refine AW.cond rfl (fun hc5 => by cases hc5) (fun hc5 => ?_)
  refine AH fun K8 hK8 wK8 => ?_
  refine AH fun K9 hK9 wK9 => ?_
  refine AW.weak (s' := ⟨[(1, .ptr 101 n0 0 0)], [(101, some (.box n0 46 [.r (.int .i64 (1 : Int)), .r (.int .i64 (1 : Int)), .r (.int .i64 (0 : Int)), .r (.int .i64 (5 : Int)), .r (.int .i64 (0 : Int)), .r (.str [98]), .r (.str []), .r (.str [])]))], (n0 + 1), 116⟩) (by exact AL ⟨.inl (.inl rfl), trivial⟩ ⟨.inl rfl, trivial⟩ (Nat.le_refl _)) ?_
  refine AW.region ?_
  refine AB.step rfl rfl rfl (AD (AX (ob := .box _ _ _) rfl Bx (.inl rfl) (fun _ => rfl) rfl) _) ?_
  refine AB.step rfl rfl rfl (AD (AR (a := .r (.int .i64 (0 : Int))) rfl Ae (.inl rfl) rfl rfl) _) ?_
  refine AB.step rfl rfl rfl (AD (BH rfl (.inl rfl) (.inl rfl)) _) ?_
  refine AB.step rfl rfl rfl (AD (AI rfl (.inl rfl)) _) ?_
  refine Ax (.one rfl rfl rfl) rfl rfl rfl (AD (AX (ob := .box _ _ _) rfl Ej (.inl rfl) (fun _ => rfl) rfl) _) ?_
  refine Ax (.one rfl rfl rfl) rfl rfl rfl (AD (AR (a := .r (.str [98])) rfl A4 (.inl rfl) rfl rfl) _) ?_
  refine Ax (.one rfl rfl rfl) rfl rfl rfl (A7 (r := .r (.bool true)) (caps := []) (bs := [.r (.str [98])]) rfl (.inl rfl) rfl ⟨⟨_, (.inl rfl), .d rfl⟩, trivial⟩ (fun _ => (fun _ : True => Rv) (True.intro)) rfl) ?_
  refine Ax (.one rfl rfl rfl) rfl rfl rfl (AD (Bi rfl (.inl rfl)) _) ?_
  refine AB.step rfl rfl rfl (AD (A0 rfl (.inl rfl) (.inl rfl)) _) ?_
  refine AB.step rfl rfl rfl (AD (AK rfl (.inl rfl)) _) ?_
  refine AB.nil ?_
  refine hK9 _ ?_
  refine AW.cond rfl (fun hc6 => by cases hc6) (fun hc6 => ?_)
  refine AW.weak (s' := ⟨[(1, .ptr 101 n0 0 0)], [(101, some (.box n0 46 [.r (.int .i64 (1 : Int)), .r (.int .i64 (1 : Int)), .r (.int .i64 (0 : Int)), .r (.int .i64 (5 : Int)), .r (.int .i64 (0 : Int)), .r (.str [98]), .r (.str []), .r (.str [])]))], (n0 + 1), 116⟩) (by exact AL ⟨.inl (.inl rfl), trivial⟩ ⟨.inl rfl, trivial⟩ (Nat.le_refl _)) ?_
  refine AW.region ?_
  refine AB.step rfl rfl rfl (AD (AX (ob := .box _ _ _) rfl Bx (.inl rfl) (fun _ => rfl) rfl) _) ?_
  refine AB.step rfl rfl rfl (AD (AR (a := .r (.int .i64 (0 : Int))) rfl Ae (.inl rfl) rfl rfl) _) ?_
  refine AB.step rfl rfl rfl (AD (BH rfl (.inl rfl) (.inl rfl)) _) ?_
  refine AB.step rfl rfl rfl (AD (AI rfl (.inl rfl)) _) ?_
  refine Bv (.one rfl rfl rfl) rfl rfl rfl ?_
  refine Bv (.one rfl rfl rfl) rfl rfl rfl ?_
  refine Bv (.one rfl rfl rfl) rfl rfl rfl ?_
  refine Bv (.one rfl rfl rfl) rfl rfl rfl ?_
  refine AB.step rfl rfl rfl (AD (A0 rfl (.inl rfl) (.inr ⟨_, (by exact id), rfl⟩)) _) ?_
  refine AB.step rfl rfl rfl (AD (AK rfl (.inl rfl)) _) ?_
  refine AB.nil ?_
  refine hK8 _ ?_
  refine AW.cond rfl (fun hc7 => by cases hc7) (fun hc7 => ?_)
  refine AH fun K10 hK10 wK10 => ?_
  refine AW.weak (s' := ⟨[(1, .ptr 101 n0 0 0)], [(101, some (.box n0 46 [.r (.int .i64 (1 : Int)), .r (.int .i64 (1 : Int)), .r (.int .i64 (0 : Int)), .r (.int .i64 (5 : Int)), .r (.int .i64 (0 : Int)), .r (.str [98]), .r (.str []), .r (.str [])]))], (n0 + 1), 116⟩) (by exact AL ⟨.inl (.inl rfl), trivial⟩ ⟨.inl rfl, trivial⟩ (Nat.le_refl _)) ?_
  refine AW.region ?_
  refine AB.step rfl rfl rfl (AD (AX (ob := .box _ _ _) rfl Bx (.inl rfl) (fun _ => rfl) rfl) _) ?_
  refine AB.step rfl rfl rfl (AD (AR (a := .r (.int .i64 (0 : Int))) rfl Ae (.inl rfl) rfl rfl) _) ?_
  refine AB.step rfl rfl rfl (AD (BH rfl (.inl rfl) (.inl rfl)) _) ?_
  refine AB.step rfl rfl rfl (AD (AI rfl (.inl rfl)) _) ?_
  refine Bv (.one rfl rfl rfl) rfl rfl rfl ?_
  refine Bv (.one rfl rfl rfl) rfl rfl rfl ?_
  refine Bv (.one rfl rfl rfl) rfl rfl rfl ?_
  refine AB.step rfl rfl rfl (AD (A0 rfl (.inl rfl) (.inr ⟨_, (by exact id), rfl⟩)) _) ?_
  refine AB.step rfl rfl rfl (AD (AI rfl (.inl rfl)) _) ?_
  refine Bv (.one rfl rfl rfl) rfl rfl rfl ?_
  refine Bv (.one rfl rfl rfl) rfl rfl rfl ?_
  refine Bv (.one rfl rfl rfl) rfl rfl rfl ?_
  refine Bv (.one rfl rfl rfl) rfl rfl rfl ?_
  refine AB.step rfl rfl rfl (AD (A0 rfl (.inl rfl) (.inr ⟨_, (by exact id), rfl⟩)) _) ?_
  refine AB.step rfl rfl rfl (AD (AK rfl (.inl rfl)) _) ?_
  refine AB.nil ?_
  refine hK10 _ ?_
  refine AW.cond rfl (fun hc8 => by cases hc8) (fun hc8 => ?_)
  refine AW.skip ?_
  refine hK2 _ ?_
  refine AH fun K11 hK11 wK11 => ?_
  refine AW.weak (s' := ⟨[], [], (n0 + 1), 116⟩) (by exact AL trivial trivial (Nat.le_refl _)) ?_
  refine AW.region ?_
  refine AB.step rfl rfl rfl (AD (AK rfl (.inl rfl)) _) ?_
  refine AB.nil ?_
  refine hK11 _ ?_
  refine AW.ret ?_
  exact Am (P := Try.prog) (fun (r : Int) => .r (.int .i64 r)) (rfl : some (0 : Int) = some 0) (.inl rfl) (.t (.d rfl))
set_option maxHeartbeats 40000000 in
set_option maxRecDepth 100000 in
theorem QA : Af Try.prog 15 [.r (.sl ([(AP.mk 1 1 0 5 0 [98] [] [])].map AP.row))] (.r (.int .i64 (0 : Int))) := by
  refine A6 Try.func15 rfl rfl Try.ntmps15 rfl (Nat.le_of_ble_eq_true rfl) fun n0 => ?_
  refine AH fun K1 hK1 wK1 => ?_
  refine AW.region ?_
  refine AB.step rfl rfl rfl (AD (AK rfl (.inl rfl)) _) ?_
  refine AB.nil ?_
  refine hK1 _ ?_
  refine AH fun K2 hK2 wK2 => ?_
  refine AH fun K3 hK3 wK3 => ?_
  refine AW.region ?_
  refine AB.step rfl rfl rfl (AD (AI rfl (.inl rfl)) _) ?_
  refine AB.step rfl rfl rfl (AD (BO rfl Cc.slice (.inl rfl)) _) ?_
  refine AB.step rfl rfl rfl (AD (AI rfl (.inl rfl)) _) ?_
  refine AB.nil ?_
  refine hK3 _ ?_
  refine AW.block ?_
  refine Ck 9 ?_
  refine BU.step ?_
  refine AH fun K4 hK4 wK4 => ?_
  refine AW.region ?_
  refine AB.step rfl rfl rfl (AD (Ar rfl (.inl rfl) (.inl rfl)) _) ?_
  refine AB.nil ?_
  refine hK4 _ ?_
  refine AH fun K5 hK5 wK5 => ?_
  refine AW.cond rfl (fun hc1 => ?_) (fun hc1 => by cases hc1)
  refine AW.skip ?_
  refine hK5 _ ?_
  refine AH fun K6 hK6 wK6 => ?_
  refine AW.block ?_
  refine AH fun K7 hK7 wK7 => ?_
  refine AW.region ?_
  refine AB.step rfl rfl rfl (AD (AI rfl (.inl rfl)) _) ?_
  have e1 : @Ak (AP) [(AP.mk 1 1 0 5 0 [98] [] [])] 0 = some (AP.mk 1 1 0 5 0 [98] [] []) := by kernel_rfl
  refine AB.step rfl rfl rfl (AD (A5 rfl Cc.slice (.inl rfl) (.inl rfl) (fun _ => rfl) (fun _ => e1)) _) ?_
  refine AB.step rfl rfl rfl (AD (Be (cs := [.r (.int .i64 ((AP.mk 1 1 0 5 0 [98] [] []).Clock)), .r (.int .i64 ((AP.mk 1 1 0 5 0 [98] [] []).Site)), .r (.int .i64 ((AP.mk 1 1 0 5 0 [98] [] []).Kind)), .r (.int .i64 ((AP.mk 1 1 0 5 0 [98] [] []).Item)), .r (.int .i64 ((AP.mk 1 1 0 5 0 [98] [] []).Parent)), .r (.str ((AP.mk 1 1 0 5 0 [98] [] []).Place)), .r (.str ((AP.mk 1 1 0 5 0 [98] [] []).Name)), .r (.str ((AP.mk 1 1 0 5 0 [98] [] []).Value))]) rfl DJ (.inl rfl) rfl rfl) _) ?_
  refine AB.step rfl rfl rfl (Bs (cs := [.r (.int .i64 (0 : Int)), .r (.int .i64 (0 : Int)), .r (.int .i64 (0 : Int)), .r (.int .i64 (0 : Int)), .r (.int .i64 (0 : Int)), .r (.str []), .r (.str []), .r (.str [])]) 101 rfl F4 rfl rfl) ?_
  refine AB.step rfl rfl rfl (AD (AK rfl (.inl rfl)) _) ?_
  refine BG rfl rfl (Ba (ds := [.r (.int .i64 (1 : Int)), .r (.int .i64 (1 : Int)), .r (.int .i64 (0 : Int)), .r (.int .i64 (5 : Int)), .r (.int .i64 (0 : Int)), .r (.str [98]), .r (.str []), .r (.str [])]) rfl Ga (.inl rfl) rfl (.inl rfl) rfl rfl rfl rfl) ?_
  refine AB.nil ?_
  refine hK7 _ ?_
  refine AH fun K8 hK8 wK8 => ?_
  refine AH fun K9 hK9 wK9 => ?_
  refine AW.region ?_
  refine AB.step rfl rfl rfl (AD (C7 rfl DJ (.inl rfl) rfl rfl) _) ?_
  refine AB.step rfl rfl rfl (A7 (r := .r (.int .i64 0)) (caps := []) (bs := [.agg [.r (.int .i64 (1 : Int)), .r (.int .i64 (1 : Int)), .r (.int .i64 (0 : Int)), .r (.int .i64 (5 : Int)), .r (.int .i64 (0 : Int)), .r (.str [98]), .r (.str []), .r (.str [])]]) rfl (.inl rfl) rfl ⟨⟨_, (.inl rfl), .g (cs := [.int .i64 (1 : Int), .int .i64 (1 : Int), .int .i64 (0 : Int), .int .i64 (5 : Int), .int .i64 (0 : Int), .str [98], .str [], .str []]) rfl rfl⟩, trivial⟩ (fun _ => (fun _ : True => SN) (True.intro)) rfl) ?_
  refine AB.step rfl rfl rfl (AD (AK rfl (.inl rfl)) _) ?_
  refine AB.nil ?_
  refine hK9 _ ?_
  refine AH fun K10 hK10 wK10 => ?_
  refine AW.region ?_
  refine AB.step rfl rfl rfl (AD (AI rfl (.inl rfl)) _) ?_
  refine AB.step rfl rfl rfl (AD (Bq rfl (.inl rfl) (.inl rfl)) _) ?_
  refine AB.nil ?_
  refine hK10 _ ?_
  refine AW.cond rfl (fun hc2 => by cases hc2) (fun hc2 => ?_)
  refine AW.skip ?_
  refine hK8 _ ?_
  refine AH fun K11 hK11 wK11 => ?_
  refine AW.weak (s' := ⟨[(0, .r (.sl ([(AP.mk 1 1 0 5 0 [98] [] [])].map AP.row))), (3, .r (.int .i64 (0 : Int))), (4, .ptr 101 n0 0 0), (6, .r (.sl ([(AP.mk 1 1 0 5 0 [98] [] [])].map AP.row))), (7, .r (.int .i64 (1 : Int))), (8, .r (.int .i64 (0 : Int)))], [(101, some (.box n0 46 [.r (.int .i64 (1 : Int)), .r (.int .i64 (1 : Int)), .r (.int .i64 (0 : Int)), .r (.int .i64 (5 : Int)), .r (.int .i64 (0 : Int)), .r (.str [98]), .r (.str []), .r (.str [])]))], (n0 + 1), 31⟩) (by exact AL ⟨.inl (.inl rfl), .inl (.inl rfl), .inl (.inl rfl), .inl (.inl rfl), .inl (.inl rfl), .inl (.inl rfl), trivial⟩ ⟨.inl rfl, trivial⟩ (Nat.le_refl _)) ?_
  refine Dr Bt (by kernel_rfl) ?_
  refine AQ.step rfl rfl rfl (AI rfl (.inl rfl)) ?_
  refine AQ.step rfl rfl rfl (BT rfl (.inl rfl) (.inl rfl)) ?_
  refine AQ.step rfl rfl rfl (AI rfl (.inl rfl)) ?_
  refine AQ.stepW (.one rfl rfl rfl) rfl rfl (AC.no (v := .any) rfl) ?_
  refine AQ.stepW (.one rfl rfl rfl) rfl rfl (AC.no (v := .any) rfl) ?_
  refine AQ.stepW (.one rfl rfl rfl) rfl rfl (AC.no (v := .any) rfl) ?_
  refine AQ.stepW (.one rfl rfl rfl) rfl rfl (AC.no (v := .any) rfl) ?_
  refine AQ.stepW (.one rfl rfl rfl) rfl rfl (AC.no (v := .any) rfl) ?_
  refine AQ.stepW (.one rfl rfl rfl) rfl rfl (AC.no (v := .any) rfl) ?_
  refine AQ.stepW (.one rfl rfl rfl) rfl rfl (AC.no (v := .any) rfl) ?_
  refine AQ.stepW (.one rfl rfl rfl) rfl rfl (AC.no (v := .r (.bool false)) rfl) ?_
  refine AQ.step rfl rfl rfl (A0 rfl (.inl rfl) (.inr ⟨_, (by exact id), rfl⟩)) ?_
  refine AQ.nil ?_
  refine hK11 _ ?_
  refine AW.cond rfl (fun hc3 => by cases hc3) (fun hc3 => ?_)
  refine AW.skip ?_
  refine hK6 _ ?_
  refine AW.weak (s' := ⟨[(0, .r (.sl ([(AP.mk 1 1 0 5 0 [98] [] [])].map AP.row))), (6, .r (.sl ([(AP.mk 1 1 0 5 0 [98] [] [])].map AP.row))), (7, .r (.int .i64 (1 : Int))), (8, .r (.int .i64 (0 : Int)))], [], (n0 + 1), 31⟩) (by exact AL ⟨.inl (.inl rfl), .inl (.inl rfl), .inl (.inl rfl), .inl (.inl rfl), trivial⟩ trivial (Nat.le_refl _)) ?_
  refine AW.region ?_
  have e3 : Aw .i64 (1) = some (1 : Int) := by kernel_rfl
  refine AB.step rfl rfl rfl (AD (BC rfl (.inl rfl) (.inl rfl) (fun _ => e3)) _) ?_
  refine AB.step rfl rfl rfl (AD (AI rfl (.inl rfl)) _) ?_
  refine AB.nil ?_
  refine BU.step ?_
  refine AH fun K12 hK12 wK12 => ?_
  refine AW.region ?_
  refine AB.step rfl rfl rfl (AD (Ar rfl (.inl rfl) (.inl rfl)) _) ?_
  refine AB.nil ?_
  refine hK12 _ ?_
  refine AH fun K13 hK13 wK13 => ?_
  refine AW.cond rfl (fun hc4 => by cases hc4) (fun hc4 => ?_)
  refine AW.exit ?_
  refine hK2 _ ?_
  refine AH fun K14 hK14 wK14 => ?_
  refine AW.region ?_
  refine AB.step rfl rfl rfl (AD (AK rfl (.inl rfl)) _) ?_
  refine AB.nil ?_
  refine hK14 _ ?_
  refine AW.ret ?_
  exact Am (P := Try.prog) (fun (r : Int) => .r (.int .i64 r)) (rfl : some (0 : Int) = some 0) (.inl rfl) (.t (.d rfl))
set_option maxHeartbeats 40000000 in
set_option maxRecDepth 100000 in
theorem RC : Af Try.prog 79 [.r (.int .u64 (1 : Int))] (.r (.int .i64 (1 : Int))) := by
  refine A6 Try.func79 rfl rfl Try.ntmps79 rfl (Nat.le_of_ble_eq_true rfl) fun n0 => ?_
  refine AH fun K1 hK1 wK1 => ?_
  refine AW.region ?_
  refine AB.step rfl rfl rfl (AD (AK rfl (.inl rfl)) _) ?_
  refine AB.nil ?_
  refine hK1 _ ?_
  refine AH fun K2 hK2 wK2 => ?_
  refine AH fun K3 hK3 wK3 => ?_
  refine AW.region ?_
  refine AB.step rfl rfl rfl (AD (AI rfl (.inl rfl)) _) ?_
  refine AB.step rfl rfl rfl (AD (C8 rfl (.inl rfl) (.inl rfl)) _) ?_
  refine AB.nil ?_
  refine hK3 _ ?_
  refine AW.cond rfl (fun hc1 => by cases hc1) (fun hc1 => ?_)
  refine AW.skip ?_
  refine hK2 _ ?_
  refine AH fun K4 hK4 wK4 => ?_
  refine AH fun K5 hK5 wK5 => ?_
  refine AW.region ?_
  refine AB.step rfl rfl rfl (AD (AI rfl (.inl rfl)) _) ?_
  refine AB.step rfl rfl rfl (AD (C8 rfl (.inl rfl) (.inl rfl)) _) ?_
  refine AB.nil ?_
  refine hK5 _ ?_
  refine AW.cond rfl (fun hc2 => by cases hc2) (fun hc2 => ?_)
  refine AW.skip ?_
  refine hK4 _ ?_
  refine AH fun K6 hK6 wK6 => ?_
  refine AH fun K7 hK7 wK7 => ?_
  refine AW.region ?_
  refine AB.step rfl rfl rfl (AD (AI rfl (.inl rfl)) _) ?_
  refine AB.step rfl rfl rfl (AD (C8 rfl (.inl rfl) (.inl rfl)) _) ?_
  refine AB.nil ?_
  refine hK7 _ ?_
  refine AW.cond rfl (fun hc3 => by cases hc3) (fun hc3 => ?_)
  refine AW.skip ?_
  refine hK6 _ ?_
  refine AH fun K8 hK8 wK8 => ?_
  refine AW.region ?_
  refine AB.step rfl rfl rfl (AD (AI rfl (.inl rfl)) _) ?_
  refine AB.step rfl rfl rfl (AD (AI rfl (.inl rfl)) _) ?_
  refine AB.step rfl rfl rfl (AD (Fk rfl Try.underlying112 Try.underlying5 (.inl rfl)) _) ?_
  have e1 : @Ak (UInt8) [0, 1, 2, 2, 3, 3, 3, 3, 4, 4, 4, 4, 4, 4, 4, 4, 5, 5, 5, 5, 5, 5, 5, 5, 5, 5, 5, 5, 5, 5, 5, 5, 6, 6, 6, 6, 6, 6, 6, 6, 6, 6, 6, 6, 6, 6, 6, 6, 6, 6, 6, 6, 6, 6, 6, 6, 6, 6, 6, 6, 6, 6, 6, 6, 7, 7, 7, 7, 7, 7, 7, 7, 7, 7, 7, 7, 7, 7, 7, 7, 7, 7, 7, 7, 7, 7, 7, 7, 7, 7, 7, 7, 7, 7, 7, 7, 7, 7, 7, 7, 7, 7, 7, 7, 7, 7, 7, 7, 7, 7, 7, 7, 7, 7, 7, 7, 7, 7, 7, 7, 7, 7, 7, 7, 7, 7, 7, 7, 8, 8, 8, 8, 8, 8, 8, 8, 8, 8, 8, 8, 8, 8, 8, 8, 8, 8, 8, 8, 8, 8, 8, 8, 8, 8, 8, 8, 8, 8, 8, 8, 8, 8, 8, 8, 8, 8, 8, 8, 8, 8, 8, 8, 8, 8, 8, 8, 8, 8, 8, 8, 8, 8, 8, 8, 8, 8, 8, 8, 8, 8, 8, 8, 8, 8, 8, 8, 8, 8, 8, 8, 8, 8, 8, 8, 8, 8, 8, 8, 8, 8, 8, 8, 8, 8, 8, 8, 8, 8, 8, 8, 8, 8, 8, 8, 8, 8, 8, 8, 8, 8, 8, 8, 8, 8, 8, 8, 8, 8, 8, 8, 8, 8, 8, 8, 8, 8, 8, 8, 8, 8, 8, 8, 8, 8, 8, 8] 1 = some (1 : UInt8) := by kernel_rfl
  refine AB.step rfl rfl rfl (AD (Bg rfl Try.underlying9 (.inl rfl) (.inl rfl) (fun _ => e1)) _) ?_
  refine AB.step rfl rfl rfl (AD (Fk rfl Try.underlying5 Try.underlying3 (.inl rfl)) _) ?_
  have e2 : Aw .i64 (1) = some (1 : Int) := by kernel_rfl
  refine AB.step rfl rfl rfl (AD (BC rfl (.inl rfl) (.inl rfl) (fun _ => e2)) _) ?_
  refine AB.step rfl rfl rfl (AD (AK rfl (.inl rfl)) _) ?_
  refine AB.nil ?_
  refine hK8 _ ?_
  refine AW.ret ?_
  exact Am (P := Try.prog) (fun (r : Int) => .r (.int .i64 r)) (rfl : some (1 : Int) = some 1) (.inl rfl) (.t (.d rfl))
set_option maxHeartbeats 40000000 in
set_option maxRecDepth 100000 in
theorem Mw : Af Try.prog 60 [.r (.int .u64 (1 : Int))] (.r (.int .i64 (1 : Int))) := by
  refine A6 Try.func60 rfl rfl Try.ntmps60 rfl (Nat.le_of_ble_eq_true rfl) fun n0 => ?_
  refine AH fun K1 hK1 wK1 => ?_
  refine AW.region ?_
  refine AB.step rfl rfl rfl (AD (AK rfl (.inl rfl)) _) ?_
  refine AB.nil ?_
  refine hK1 _ ?_
  refine AH fun K2 hK2 wK2 => ?_
  refine AW.cond rfl (fun hc1 => by cases hc1) (fun hc1 => ?_)
  refine AW.skip ?_
  refine hK2 _ ?_
  refine AH fun K3 hK3 wK3 => ?_
  refine AW.region ?_
  refine AB.step rfl rfl rfl (AD (AI rfl (.inl rfl)) _) ?_
  refine AB.step rfl rfl rfl (A7 (r := .r (.int .i64 1)) (caps := []) (bs := [.r (.int .u64 (1 : Int))]) rfl (.inl rfl) rfl ⟨⟨_, (.inl rfl), .d rfl⟩, trivial⟩ (fun _ => (fun _ : True => RC) (True.intro)) rfl) ?_
  refine AB.step rfl rfl rfl (AD (AK rfl (.inl rfl)) _) ?_
  refine AB.nil ?_
  refine hK3 _ ?_
  refine AW.ret ?_
  exact Am (P := Try.prog) (fun (r : Int) => .r (.int .i64 r)) (rfl : some (1 : Int) = some 1) (.inl rfl) (.t (.d rfl))
set_option maxHeartbeats 40000000 in
set_option maxRecDepth 100000 in
theorem QZ : Af Try.prog 79 [.r (.int .u64 (0 : Int))] (.r (.int .i64 (0 : Int))) := by
  refine A6 Try.func79 rfl rfl Try.ntmps79 rfl (Nat.le_of_ble_eq_true rfl) fun n0 => ?_
  refine AH fun K1 hK1 wK1 => ?_
  refine AW.region ?_
  refine AB.step rfl rfl rfl (AD (AK rfl (.inl rfl)) _) ?_
  refine AB.nil ?_
  refine hK1 _ ?_
  refine AH fun K2 hK2 wK2 => ?_
  refine AH fun K3 hK3 wK3 => ?_
  refine AW.region ?_
  refine AB.step rfl rfl rfl (AD (AI rfl (.inl rfl)) _) ?_
  refine AB.step rfl rfl rfl (AD (C8 rfl (.inl rfl) (.inl rfl)) _) ?_
  refine AB.nil ?_
  refine hK3 _ ?_
  refine AW.cond rfl (fun hc1 => by cases hc1) (fun hc1 => ?_)
  refine AW.skip ?_
  refine hK2 _ ?_
  refine AH fun K4 hK4 wK4 => ?_
  refine AH fun K5 hK5 wK5 => ?_
  refine AW.region ?_
  refine AB.step rfl rfl rfl (AD (AI rfl (.inl rfl)) _) ?_
  refine AB.step rfl rfl rfl (AD (C8 rfl (.inl rfl) (.inl rfl)) _) ?_
  refine AB.nil ?_
  refine hK5 _ ?_
  refine AW.cond rfl (fun hc2 => by cases hc2) (fun hc2 => ?_)
  refine AW.skip ?_
  refine hK4 _ ?_
  refine AH fun K6 hK6 wK6 => ?_
  refine AH fun K7 hK7 wK7 => ?_
  refine AW.region ?_
  refine AB.step rfl rfl rfl (AD (AI rfl (.inl rfl)) _) ?_
  refine AB.step rfl rfl rfl (AD (C8 rfl (.inl rfl) (.inl rfl)) _) ?_
  refine AB.nil ?_
  refine hK7 _ ?_
  refine AW.cond rfl (fun hc3 => by cases hc3) (fun hc3 => ?_)
  refine AW.skip ?_
  refine hK6 _ ?_
  refine AH fun K8 hK8 wK8 => ?_
  refine AW.region ?_
  refine AB.step rfl rfl rfl (AD (AI rfl (.inl rfl)) _) ?_
  refine AB.step rfl rfl rfl (AD (AI rfl (.inl rfl)) _) ?_
  refine AB.step rfl rfl rfl (AD (Fk rfl Try.underlying112 Try.underlying5 (.inl rfl)) _) ?_
  have e1 : @Ak (UInt8) [0, 1, 2, 2, 3, 3, 3, 3, 4, 4, 4, 4, 4, 4, 4, 4, 5, 5, 5, 5, 5, 5, 5, 5, 5, 5, 5, 5, 5, 5, 5, 5, 6, 6, 6, 6, 6, 6, 6, 6, 6, 6, 6, 6, 6, 6, 6, 6, 6, 6, 6, 6, 6, 6, 6, 6, 6, 6, 6, 6, 6, 6, 6, 6, 7, 7, 7, 7, 7, 7, 7, 7, 7, 7, 7, 7, 7, 7, 7, 7, 7, 7, 7, 7, 7, 7, 7, 7, 7, 7, 7, 7, 7, 7, 7, 7, 7, 7, 7, 7, 7, 7, 7, 7, 7, 7, 7, 7, 7, 7, 7, 7, 7, 7, 7, 7, 7, 7, 7, 7, 7, 7, 7, 7, 7, 7, 7, 7, 8, 8, 8, 8, 8, 8, 8, 8, 8, 8, 8, 8, 8, 8, 8, 8, 8, 8, 8, 8, 8, 8, 8, 8, 8, 8, 8, 8, 8, 8, 8, 8, 8, 8, 8, 8, 8, 8, 8, 8, 8, 8, 8, 8, 8, 8, 8, 8, 8, 8, 8, 8, 8, 8, 8, 8, 8, 8, 8, 8, 8, 8, 8, 8, 8, 8, 8, 8, 8, 8, 8, 8, 8, 8, 8, 8, 8, 8, 8, 8, 8, 8, 8, 8, 8, 8, 8, 8, 8, 8, 8, 8, 8, 8, 8, 8, 8, 8, 8, 8, 8, 8, 8, 8, 8, 8, 8, 8, 8, 8, 8, 8, 8, 8, 8, 8, 8, 8, 8, 8, 8, 8, 8, 8, 8, 8, 8, 8] 0 = some (0 : UInt8) := by kernel_rfl
  refine AB.step rfl rfl rfl (AD (Bg rfl Try.underlying9 (.inl rfl) (.inl rfl) (fun _ => e1)) _) ?_
  refine AB.step rfl rfl rfl (AD (Fk rfl Try.underlying5 Try.underlying3 (.inl rfl)) _) ?_
  have e2 : Aw .i64 (0) = some (0 : Int) := by kernel_rfl
  refine AB.step rfl rfl rfl (AD (BC rfl (.inl rfl) (.inl rfl) (fun _ => e2)) _) ?_
  refine AB.step rfl rfl rfl (AD (AK rfl (.inl rfl)) _) ?_
  refine AB.nil ?_
  refine hK8 _ ?_
  refine AW.ret ?_
  exact Am (P := Try.prog) (fun (r : Int) => .r (.int .i64 r)) (rfl : some (0 : Int) = some 0) (.inl rfl) (.t (.d rfl))
set_option maxHeartbeats 40000000 in
set_option maxRecDepth 100000 in
theorem QI : Af Try.prog 60 [.r (.int .u64 (0 : Int))] (.r (.int .i64 (0 : Int))) := by
  refine A6 Try.func60 rfl rfl Try.ntmps60 rfl (Nat.le_of_ble_eq_true rfl) fun n0 => ?_
  refine AH fun K1 hK1 wK1 => ?_
  refine AW.region ?_
  refine AB.step rfl rfl rfl (AD (AK rfl (.inl rfl)) _) ?_
  refine AB.nil ?_
  refine hK1 _ ?_
  refine AH fun K2 hK2 wK2 => ?_
  refine AW.cond rfl (fun hc1 => by cases hc1) (fun hc1 => ?_)
  refine AW.skip ?_
  refine hK2 _ ?_
  refine AH fun K3 hK3 wK3 => ?_
  refine AW.region ?_
  refine AB.step rfl rfl rfl (AD (AI rfl (.inl rfl)) _) ?_
  refine AB.step rfl rfl rfl (A7 (r := .r (.int .i64 0)) (caps := []) (bs := [.r (.int .u64 (0 : Int))]) rfl (.inl rfl) rfl ⟨⟨_, (.inl rfl), .d rfl⟩, trivial⟩ (fun _ => (fun _ : True => QZ) (True.intro)) rfl) ?_
  refine AB.step rfl rfl rfl (AD (AK rfl (.inl rfl)) _) ?_
  refine AB.nil ?_
  refine hK3 _ ?_
  refine AW.ret ?_
  exact Am (P := Try.prog) (fun (r : Int) => .r (.int .i64 r)) (rfl : some (0 : Int) = some 0) (.inl rfl) (.t (.d rfl))
set_option maxHeartbeats 40000000 in
set_option maxRecDepth 100000 in
theorem Qf : Af Try.prog 26 [.r (.sl ([(AP.mk 1 1 0 5 0 [98] [] [])].map AP.row))] (.r (.sl ([(AE.mk 5 0 [98] [])].map AE.row))) := by
  refine A6 Try.func26 rfl rfl Try.ntmps26 rfl (Nat.le_of_ble_eq_true rfl) fun n0 => ?_
  refine AH fun K1 hK1 wK1 => ?_
  refine AW.region ?_
  refine AB.step rfl rfl rfl (AD (AK rfl (.inl rfl)) _) ?_
  refine AB.nil ?_
  refine hK1 _ ?_
  refine AH fun K2 hK2 wK2 => ?_
  refine AW.region ?_
  refine AB.step rfl rfl rfl (AD (AI rfl (.inl rfl)) _) ?_
  refine DF [] [.r (.sl ([(AP.mk 1 1 0 5 0 [98] [] [])].map AP.row))] rfl rfl rfl rfl (.inl rfl) (by exact ⟨(.inl rfl), trivial⟩) Try.func37 rfl rfl Try.ntmps37 rfl fun K3 hK3 => ?_
  refine AH fun K4 hK4 wK4 => ?_
  refine AW.weak (s' := ⟨[(0, .r (.sl ([(AP.mk 1 1 0 5 0 [98] [] [])].map AP.row)))], [], n0, 64⟩) (by exact AL ⟨.inl (.inl rfl), trivial⟩ trivial (Nat.le_refl _)) ?_
  refine AW.region ?_
  refine AB.step rfl rfl rfl (AD (AK rfl (.inl rfl)) _) ?_
  refine AB.nil ?_
  refine hK4 _ ?_
  refine AH fun K5 hK5 wK5 => ?_
  refine AW.region ?_
  refine AB.step rfl rfl rfl (Gt 101 rfl) ?_
  refine AB.step rfl rfl rfl (Gt 102 rfl) ?_
  refine AB.step rfl rfl rfl (AD (DO rfl LF (q := [(0, _), (1, _)]) (by exact ⟨rfl, rfl, rfl, (.inl rfl), rfl, rfl, rfl, (.inl rfl), trivial⟩) (cs := [.mref 101 n0, .mref 102 (n0 + 1)]) (by rfl)) _) ?_
  refine AB.step rfl rfl rfl (CU (cs := [.mref 101 n0, .mref 102 (n0 + 1)]) 103 rfl (.inl rfl) rfl rfl) ?_
  refine AB.step rfl rfl rfl (AD (AK rfl (.inl rfl)) _) ?_
  refine AB.nil ?_
  refine hK5 _ ?_
  refine AH fun K6 hK6 wK6 => ?_
  refine AH fun K7 hK7 wK7 => ?_
  refine AW.region ?_
  refine AB.step rfl rfl rfl (AD (AI rfl (.inl rfl)) _) ?_
  refine AB.step rfl rfl rfl (AD (BO rfl Cc.slice (.inl rfl)) _) ?_
  refine AB.step rfl rfl rfl (AD (AI rfl (.inl rfl)) _) ?_
  refine AB.nil ?_
  refine hK7 _ ?_
  refine AW.block ?_
  refine Ck 9 ?_
  refine BU.step ?_
  refine AH fun K8 hK8 wK8 => ?_
  refine AW.region ?_
  refine AB.step rfl rfl rfl (AD (Ar rfl (.inl rfl) (.inl rfl)) _) ?_
  refine AB.nil ?_
  refine hK8 _ ?_
  refine AH fun K9 hK9 wK9 => ?_
  refine AW.cond rfl (fun hc1 => ?_) (fun hc1 => by cases hc1)
  refine AW.skip ?_
  refine hK9 _ ?_
  refine AH fun K10 hK10 wK10 => ?_
  refine AW.block ?_
  refine AH fun K11 hK11 wK11 => ?_
  refine AW.region ?_
  have e1 : @Ak (AP) [(AP.mk 1 1 0 5 0 [98] [] [])] 0 = some (AP.mk 1 1 0 5 0 [98] [] []) := by kernel_rfl
  refine AB.step rfl rfl rfl (AD (A5 rfl Cc.slice (.inl rfl) (.inl rfl) (fun _ => rfl) (fun _ => e1)) _) ?_
  refine AB.step rfl rfl rfl (AD (Be (cs := [.r (.int .i64 ((AP.mk 1 1 0 5 0 [98] [] []).Clock)), .r (.int .i64 ((AP.mk 1 1 0 5 0 [98] [] []).Site)), .r (.int .i64 ((AP.mk 1 1 0 5 0 [98] [] []).Kind)), .r (.int .i64 ((AP.mk 1 1 0 5 0 [98] [] []).Item)), .r (.int .i64 ((AP.mk 1 1 0 5 0 [98] [] []).Parent)), .r (.str ((AP.mk 1 1 0 5 0 [98] [] []).Place)), .r (.str ((AP.mk 1 1 0 5 0 [98] [] []).Name)), .r (.str ((AP.mk 1 1 0 5 0 [98] [] []).Value))]) rfl DJ (.inl rfl) rfl rfl) _) ?_
  refine AB.step rfl rfl rfl (Bs (cs := [.r (.int .i64 (0 : Int)), .r (.int .i64 (0 : Int)), .r (.int .i64 (0 : Int)), .r (.int .i64 (0 : Int)), .r (.int .i64 (0 : Int)), .r (.str []), .r (.str []), .r (.str [])]) 104 rfl F4 rfl rfl) ?_
  refine BG rfl rfl (Ba (ds := [.r (.int .i64 (1 : Int)), .r (.int .i64 (1 : Int)), .r (.int .i64 (0 : Int)), .r (.int .i64 (5 : Int)), .r (.int .i64 (0 : Int)), .r (.str [98]), .r (.str []), .r (.str [])]) rfl Ga (.inl rfl) rfl (.inl rfl) rfl rfl rfl rfl) ?_
  refine AB.nil ?_
  refine hK11 _ ?_
  refine AW.block ?_
  refine AH fun K12 hK12 wK12 => ?_
  refine AW.weak (s' := ⟨[(3, .ptr 103 (n0 + 2) 0 0), (5, .ptr 104 (n0 + 3) 0 0), (10, .r (.sl ([(AP.mk 1 1 0 5 0 [98] [] [])].map AP.row))), (11, .r (.int .i64 (1 : Int))), (12, .r (.int .i64 (0 : Int)))], [(101, some (.mp n0 [] [] 0)), (102, some (.mp (n0 + 1) [] [] 0)), (103, some (.box (n0 + 2) 76 [.mref 101 n0, .mref 102 (n0 + 1)])), (104, some (.box (n0 + 3) 46 [.r (.int .i64 (1 : Int)), .r (.int .i64 (1 : Int)), .r (.int .i64 (0 : Int)), .r (.int .i64 (5 : Int)), .r (.int .i64 (0 : Int)), .r (.str [98]), .r (.str []), .r (.str [])]))], (n0 + 4), 64⟩) (by exact AL ⟨.inl (.inl rfl), .inl (.inl rfl), .inl (.inl rfl), .inl (.inl rfl), .inl (.inl rfl), trivial⟩ ⟨.inl rfl, .inl rfl, .inl rfl, .inl rfl, trivial⟩ (Nat.le_refl _)) ?_
  refine AW.region ?_
  refine AB.step rfl rfl rfl (AD (AX (ob := .box _ _ _) rfl Bx (.inl rfl) (fun _ => rfl) rfl) _) ?_
  refine AB.step rfl rfl rfl (AD (AR (a := .r (.int .i64 (0 : Int))) rfl Ae (.inl rfl) rfl rfl) _) ?_
  refine AB.step rfl rfl rfl (AD (BH rfl (.inl rfl) (.inl rfl)) _) ?_
  refine AB.step rfl rfl rfl (AD (AK rfl (.inl rfl)) _) ?_
  refine AB.nil ?_
  refine hK12 _ ?_
  refine AW.cond rfl (fun hc2 => by cases hc2) (fun hc2 => ?_)
  refine AH fun K13 hK13 wK13 => ?_
  refine AW.region ?_
  refine AB.step rfl rfl rfl (AD (AI rfl (.inl rfl)) _) ?_
  refine AB.step rfl rfl rfl (AD (AX (ob := .box _ _ _) rfl Ch (.inl rfl) (fun _ => rfl) rfl) _) ?_
  refine AB.step rfl rfl rfl (AD (AR (a := .r (.int .i64 (0 : Int))) rfl Ae (.inl rfl) rfl rfl) _) ?_
  refine AB.step rfl rfl rfl (AD (AX (ob := .box _ _ _) rfl CH (.inl rfl) (fun _ => rfl) rfl) _) ?_
  refine AB.step rfl rfl rfl (AD (AR (a := .r (.int .i64 (5 : Int))) rfl Ae (.inl rfl) rfl rfl) _) ?_
  refine DF [] [.ptr 103 (n0 + 2) 0 0, .r (.int .i64 (0 : Int)), .r (.int .i64 (5 : Int))] rfl rfl rfl rfl (.inl rfl) (by exact ⟨(.inl rfl), (.inl rfl), (.inl rfl), trivial⟩) Try.func57 rfl rfl Try.ntmps57 rfl fun K14 hK14 => ?_
  refine AH fun K15 hK15 wK15 => ?_
  refine AW.weak (s' := ⟨[(0, .ptr 103 (n0 + 2) 0 0), (1, .r (.int .i64 (0 : Int))), (2, .r (.int .i64 (5 : Int)))], [(101, some (.mp n0 [] [] 0)), (102, some (.mp (n0 + 1) [] [] 0)), (103, some (.box (n0 + 2) 76 [.mref 101 n0, .mref 102 (n0 + 1)])), (104, some (.box (n0 + 3) 46 [.r (.int .i64 (1 : Int)), .r (.int .i64 (1 : Int)), .r (.int .i64 (0 : Int)), .r (.int .i64 (5 : Int)), .r (.int .i64 (0 : Int)), .r (.str [98]), .r (.str []), .r (.str [])]))], (n0 + 4), 29⟩) (by exact AL ⟨.inl (.inl rfl), .inl (.inl rfl), .inl (.inl rfl), trivial⟩ ⟨.inl rfl, .inl rfl, .inl rfl, .inl rfl, trivial⟩ (Nat.le_refl _)) ?_
  refine AW.region ?_
  refine AB.step rfl rfl rfl (AD (AK rfl (.inl rfl)) _) ?_
  refine AB.nil ?_
  refine hK15 _ ?_
  refine AH fun K16 hK16 wK16 => ?_
  refine AW.block ?_
  refine Ck 9 ?_
  refine BU.step ?_
  refine AH fun K17 hK17 wK17 => ?_
  refine AH fun K18 hK18 wK18 => ?_
  refine AW.region ?_
  refine AB.step rfl rfl rfl (AD (AI rfl (.inl rfl)) _) ?_
  refine AB.step rfl rfl rfl (AD (BT rfl (.inl rfl) (.inl rfl)) _) ?_
  refine AB.nil ?_
  refine hK18 _ ?_
  refine AW.cond rfl (fun hc3 => by cases hc3) (fun hc3 => ?_)
  refine AW.exit ?_
  refine hK16 _ ?_
  refine AH fun K19 hK19 wK19 => ?_
  refine AW.region ?_
  refine AB.step rfl rfl rfl (AD (AK rfl (.inl rfl)) _) ?_
  refine AB.nil ?_
  refine hK19 _ ?_
  refine AW.ret ?_
  refine Bw.intro (.r (.bool false)) (rfl) ?_
  refine hK14 _ _ _ ?_
  refine AB.step rfl rfl rfl (AD (Bi rfl (.inl rfl)) _) ?_
  refine AB.step rfl rfl rfl (AD (AK rfl (.inl rfl)) _) ?_
  refine AB.nil ?_
  refine hK13 _ ?_
  refine AW.cond rfl (fun hc4 => ?_) (fun hc4 => by cases hc4)
  refine AW.weak (s' := ⟨[(3, .ptr 103 (n0 + 2) 0 0), (5, .ptr 104 (n0 + 3) 0 0), (10, .r (.sl ([(AP.mk 1 1 0 5 0 [98] [] [])].map AP.row))), (11, .r (.int .i64 (1 : Int))), (12, .r (.int .i64 (0 : Int)))], [(101, some (.mp n0 [] [] 0)), (102, some (.mp (n0 + 1) [] [] 0)), (103, some (.box (n0 + 2) 76 [.mref 101 n0, .mref 102 (n0 + 1)])), (104, some (.box (n0 + 3) 46 [.r (.int .i64 (1 : Int)), .r (.int .i64 (1 : Int)), .r (.int .i64 (0 : Int)), .r (.int .i64 (5 : Int)), .r (.int .i64 (0 : Int)), .r (.str [98]), .r (.str []), .r (.str [])]))], (n0 + 4), 64⟩) (by exact AL ⟨.inl (.inl rfl), .inl (.inl rfl), .inl (.inl rfl), .inl (.inl rfl), .inl (.inl rfl), trivial⟩ ⟨.inl rfl, .inl rfl, .inl rfl, .inl rfl, trivial⟩ (Nat.le_refl _)) ?_
  refine LD [] [0, 1, 2, 3, 4, 5, 6, 7, 8, 9, 10, 11, 12] [13] 14 Bt (by kernel_rfl) rfl rfl rfl rfl rfl ?_
  refine DH.nil ?_
  refine AF.step rfl rfl rfl (AI rfl (.inl rfl)) ?_
  refine AF.step rfl rfl rfl (Ct (ob := .box _ _ _) rfl (.inl rfl) (fun _ => rfl) rfl) ?_
  refine AF.step rfl rfl rfl (AX (ob := .box _ _ _) rfl HE (.inl rfl) (fun _ => rfl) rfl) ?_
  refine AF.step rfl rfl rfl (AR (a := .mref 101 n0) rfl H8 (.inl rfl) rfl rfl) ?_
  refine AF.step rfl rfl rfl (AX (ob := .box _ _ _) rfl CH (.inl rfl) (fun _ => rfl) rfl) ?_
  refine AF.step rfl rfl rfl (AR (a := .r (.int .i64 (5 : Int))) rfl Ae (.inl rfl) rfl rfl) ?_
  refine AF.step rfl rfl rfl (AX (ob := .box _ _ _) rfl CH (.inl rfl) (fun _ => rfl) rfl) ?_
  refine AF.step rfl rfl rfl (AR (a := .r (.int .i64 (5 : Int))) rfl Ae (.inl rfl) rfl rfl) ?_
  refine AF.step rfl rfl rfl (AX (ob := .box _ _ _) rfl Ch (.inl rfl) (fun _ => rfl) rfl) ?_
  refine AF.step rfl rfl rfl (AR (a := .r (.int .i64 (0 : Int))) rfl Ae (.inl rfl) rfl rfl) ?_
  refine AF.step rfl rfl rfl (AX (ob := .box _ _ _) rfl Ej (.inl rfl) (fun _ => rfl) rfl) ?_
  refine AF.step rfl rfl rfl (AR (a := .r (.str [98])) rfl A4 (.inl rfl) rfl rfl) ?_
  refine AF.step rfl rfl rfl (DO rfl HK (q := [(0, _), (1, _), (2, _)]) (by exact ⟨rfl, rfl, rfl, (.inl rfl), rfl, rfl, rfl, (.inl rfl), rfl, rfl, rfl, (.inl rfl), trivial⟩) (cs := [.r (.int .i64 (5 : Int)), .r (.int .i64 (0 : Int)), .r (.str [98]), .cst (.slice none 0 0)]) (by rfl)) ?_
  refine AF.nil ?_
  refine AA.step rfl rfl rfl (MA (cs := [.r (.int .i64 (5 : Int)), .r (.int .i64 (0 : Int)), .r (.str [98]), .cst (.slice none 0 0)]) 105 rfl (.inl rfl) rfl rfl) ?_
  refine AA.nil ?_
  refine BG rfl rfl (Gv (.inl rfl) Try.underlying73 Try.underlying3 (.inl rfl) (.inl rfl) (.inl rfl) rfl rfl) ?_
  refine AB.nil ?_
  refine hK10 _ ?_
  refine AW.weak (s' := ⟨[(3, .ptr 103 (n0 + 2) 0 0), (10, .r (.sl ([(AP.mk 1 1 0 5 0 [98] [] [])].map AP.row))), (11, .r (.int .i64 (1 : Int))), (12, .r (.int .i64 (0 : Int)))], [(101, some (.mp n0 [(5, 0)] [.ptr 105 (n0 + 4) 0 0] 1)), (102, some (.mp (n0 + 1) [] [] 0)), (103, some (.box (n0 + 2) 76 [.mref 101 n0, .mref 102 (n0 + 1)])), (105, some (.box (n0 + 4) 55 [.r (.int .i64 (5 : Int)), .r (.int .i64 (0 : Int)), .r (.str [98]), .cst (.slice none 0 0)]))], (n0 + 5), 64⟩) (by exact AL ⟨.inl (.inl rfl), .inl (.inl rfl), .inl (.inl rfl), .inl (.inl rfl), trivial⟩ ⟨.inl rfl, .inl rfl, .inl rfl, .inl rfl, trivial⟩ (Nat.le_refl _)) ?_
  refine AW.region ?_
  have e2 : Aw .i64 (1) = some (1 : Int) := by kernel_rfl
  refine AB.step rfl rfl rfl (AD (BC rfl (.inl rfl) (.inl rfl) (fun _ => e2)) _) ?_
  refine AB.step rfl rfl rfl (AD (AI rfl (.inl rfl)) _) ?_
  refine AB.nil ?_
  refine BU.step ?_
  refine AH fun K20 hK20 wK20 => ?_
  refine AW.region ?_
  refine AB.step rfl rfl rfl (AD (Ar rfl (.inl rfl) (.inl rfl)) _) ?_
  refine AB.nil ?_
  refine hK20 _ ?_
  refine AH fun K21 hK21 wK21 => ?_
  refine AW.cond rfl (fun hc5 => by cases hc5) (fun hc5 => ?_)
  refine AW.exit ?_
  refine hK6 _ ?_
  refine AH fun K22 hK22 wK22 => ?_
  refine AW.region ?_
  refine AB.step rfl rfl rfl (AD (AI rfl (.inl rfl)) _) ?_
  refine AB.step rfl rfl rfl (AD (AK rfl (.inl rfl)) _) ?_
  refine AB.nil ?_
  refine hK22 _ ?_
  refine AW.ret ?_
  refine Bw.intro (.ptr 103 (n0 + 2) 0 0) (rfl) ?_
  refine hK3 _ _ _ ?_
  refine AB.step rfl rfl rfl (AD (AK rfl (.inl rfl)) _) ?_
  refine AB.nil ?_
  refine hK2 _ ?_
  refine AH fun K23 hK23 wK23 => ?_
  refine AW.region ?_
  refine AB.step rfl rfl rfl (Gt 106 rfl) ?_
  refine AB.step rfl rfl rfl (Bs (cs := [.cst (.map none)]) 107 rfl MZ rfl rfl) ?_
  refine BG rfl rfl (Ba (ds := [.mref 106 (n0 + 5)]) rfl Mg (.inl rfl) rfl (.inl rfl) rfl rfl rfl rfl) ?_
  refine AB.nil ?_
  refine hK23 _ ?_
  refine AH fun K24 hK24 wK24 => ?_
  refine AW.region ?_
  refine AB.step rfl rfl rfl (AD (AK rfl (.inl rfl)) _) ?_
  refine AB.nil ?_
  refine hK24 _ ?_
  refine AH fun K25 hK25 wK25 => ?_
  refine AH fun K26 hK26 wK26 => ?_
  refine AW.region ?_
  refine AB.step rfl rfl rfl (AD (AI rfl (.inl rfl)) _) ?_
  refine AB.step rfl rfl rfl (AD (Ct (ob := .box _ _ _) rfl (.inl rfl) (fun _ => rfl) rfl) _) ?_
  refine AB.step rfl rfl rfl (AD (AX (ob := .box _ _ _) rfl HE (.inl rfl) (fun _ => rfl) rfl) _) ?_
  refine AB.step rfl rfl rfl (AD (AR (a := .mref 101 n0) rfl H8 (.inl rfl) rfl rfl) _) ?_
  refine AB.step rfl rfl rfl (Qy 108 rfl Try.underlying73 (.inl rfl) rfl) ?_
  refine AB.nil ?_
  refine hK26 _ ?_
  refine AW.block ?_
  refine Ck 9 ?_
  refine BU.step ?_
  refine AH fun K27 hK27 wK27 => ?_
  refine AW.weak (s' := ⟨[(3, .ptr 103 (n0 + 2) 0 0), (4, .ptr 107 (n0 + 6) 0 0), (5, .cst (.slice none 0 0)), (20, .ptr 108 (n0 + 7) 0 0)], [(101, some (.mp n0 [(5, 0)] [.ptr 105 (n0 + 4) 0 0] 1)), (102, some (.mp (n0 + 1) [] [] 0)), (103, some (.box (n0 + 2) 76 [.mref 101 n0, .mref 102 (n0 + 1)])), (105, some (.box (n0 + 4) 55 [.r (.int .i64 (5 : Int)), .r (.int .i64 (0 : Int)), .r (.str [98]), .cst (.slice none 0 0)])), (106, some (.mp (n0 + 5) [] [] 0)), (107, some (.box (n0 + 6) 82 [.mref 106 (n0 + 5)])), (108, some (.mi (n0 + 7) 101 n0 1 [] 1))], (n0 + 8), 80⟩) (by exact AL ⟨.inl (.inl rfl), .inl (.inl rfl), .inl (.inl rfl), .inl (.inl rfl), trivial⟩ ⟨.inl rfl, .inl rfl, .inl rfl, .inl rfl, .inl rfl, .inl rfl, .inl rfl, trivial⟩ (Nat.le_refl _)) ?_
  refine AW.region ?_
  refine AB.step rfl rfl rfl (Ok rfl (.inl rfl) rfl rfl rfl rfl) ?_
  refine AB.step rfl rfl rfl (AD (CJ (a := .r (.bool true)) rfl (.inl rfl) rfl) _) ?_
  refine AB.nil ?_
  refine hK27 _ ?_
  refine AH fun K28 hK28 wK28 => ?_
  refine AW.cond rfl (fun hc6 => ?_) (fun hc6 => by cases hc6)
  refine AW.skip ?_
  refine hK28 _ ?_
  refine AW.block ?_
  refine AH fun K29 hK29 wK29 => ?_
  refine AW.region ?_
  refine AB.step rfl rfl rfl (AD (Ri rfl (.inl rfl) rfl rfl) _) ?_
  refine AB.step rfl rfl rfl (AD (CJ (a := .r (.int .i64 (5 : Int))) rfl (.inl rfl) rfl) _) ?_
  refine AB.step rfl rfl rfl (AD (CJ (a := .ptr 105 (n0 + 4) 0 0) rfl (.inl rfl) rfl) _) ?_
  refine AB.step rfl rfl rfl (AD (AK rfl (.inl rfl)) _) ?_
  refine AB.step rfl rfl rfl (AD (AK rfl (.inl rfl)) _) ?_
  refine AB.nil ?_
  refine hK29 _ ?_
  refine AH fun K30 hK30 wK30 => ?_
  refine AW.region ?_
  refine AB.step rfl rfl rfl (AD (AI rfl (.inl rfl)) _) ?_
  refine AB.step rfl rfl rfl (AD (AI rfl (.inl rfl)) _) ?_
  refine AB.step rfl rfl rfl (AD (Ct (ob := .box _ _ _) rfl (.inl rfl) (fun _ => rfl) rfl) _) ?_
  refine AB.step rfl rfl rfl (AD (AX (ob := .box _ _ _) rfl Ik (.inl rfl) (fun _ => rfl) rfl) _) ?_
  refine AB.step rfl rfl rfl (AD (AR (a := .mref 102 (n0 + 1)) rfl Ip (.inl rfl) rfl rfl) _) ?_
  refine AB.step rfl rfl rfl (AD (AI rfl (.inl rfl)) _) ?_
  refine AB.step rfl rfl rfl (AD (JI (ks := []) (vs := []) (a := .cst (.slice none 0 0)) false (.slice none 0 0) rfl Try.underlying74 Try.underlying3 (fun w => by kernel_rfl) (fun y => .cst _) (.inl rfl) (.inl rfl) rfl rfl) _) ?_
  refine AB.step rfl rfl rfl (AD (Ct (ob := .box _ _ _) rfl (.inl rfl) (fun _ => rfl) rfl) _) ?_
  refine AB.step rfl rfl rfl (AD (AX (ob := .box _ _ _) rfl Ez (.inl rfl) (fun _ => rfl) rfl) _) ?_
  refine BG rfl rfl (Ba (ds := [.r (.int .i64 (5 : Int)), .r (.int .i64 (0 : Int)), .r (.str [98]), .cst (.slice none 0 0)]) rfl Gb (.inl rfl) rfl (.inl rfl) rfl rfl rfl rfl) ?_
  refine AB.nil ?_
  refine hK30 _ ?_
  refine AH fun K31 hK31 wK31 => ?_
  refine AW.weak (s' := ⟨[(3, .ptr 103 (n0 + 2) 0 0), (4, .ptr 107 (n0 + 6) 0 0), (5, .cst (.slice none 0 0)), (7, .ptr 105 (n0 + 4) 0 0), (20, .ptr 108 (n0 + 7) 0 0)], [(101, some (.mp n0 [(5, 0)] [.ptr 105 (n0 + 4) 0 0] 1)), (102, some (.mp (n0 + 1) [] [] 0)), (103, some (.box (n0 + 2) 76 [.mref 101 n0, .mref 102 (n0 + 1)])), (105, some (.box (n0 + 4) 55 [.r (.int .i64 (5 : Int)), .r (.int .i64 (0 : Int)), .r (.str [98]), .cst (.slice none 0 0)])), (106, some (.mp (n0 + 5) [] [] 0)), (107, some (.box (n0 + 6) 82 [.mref 106 (n0 + 5)])), (108, some (.mi (n0 + 7) 101 n0 1 [0] 1))], (n0 + 8), 80⟩) (by exact AL ⟨.inl (.inl rfl), .inl (.inl rfl), .inl (.inl rfl), .inl (.inl rfl), .inl (.inl rfl), trivial⟩ ⟨.inl rfl, .inl rfl, .inl rfl, .inl rfl, .inl rfl, .inl rfl, .inl rfl, trivial⟩ (Nat.le_refl _)) ?_
  have e3 : @app (AE) 56 [] [(AE.mk 5 0 [98] [])] = some [(AE.mk 5 0 [98] [])] := by kernel_rfl
  refine Fx 16 [⟨some 35, (fun _ => .mref 106 (n0 + 5)), none, []⟩, ⟨some 36, (fun _ => .ptr 105 (n0 + 4) 0 0), none, []⟩, ⟨some 37, (fun _ => .ptr 105 (n0 + 4) 0 0), none, []⟩, ⟨some 38, (fun _ => .ptr 105 (n0 + 4) 0 1), none, []⟩, ⟨some 39, (fun _ => .r (.int .i64 (0 : Int))), none, []⟩, ⟨some 40, (fun _ => .mref 106 (n0 + 5)), none, []⟩, ⟨some 41, (fun _ => .ptr 105 (n0 + 4) 0 0), none, []⟩, ⟨some 42, (fun _ => .ptr 105 (n0 + 4) 0 0), none, []⟩, ⟨some 43, (fun _ => .ptr 105 (n0 + 4) 0 1), none, []⟩, ⟨some 44, (fun _ => .r (.int .i64 (0 : Int))), none, []⟩, ⟨some 45, (fun _ => .cst (.slice none 0 0)), none, []⟩, ⟨some 46, (fun _ => .ptr 105 (n0 + 4) 0 0), none, []⟩, ⟨some 47, (fun _ => .ptr 105 (n0 + 4) 0 0), none, []⟩, ⟨some 48, (fun _ => .agg [.r (.int .i64 (5 : Int)), .r (.int .i64 (0 : Int)), .r (.str [98]), .cst (.slice none 0 0)]), none, []⟩, ⟨some 49, (fun G1 => .own 109 (G1 14)), some (109, (fun G1 => some (.arr (G1 14) 55 4 ([(AE.mk 5 0 [98] [])].map AE.row)))), [14]⟩, ⟨some 50, (fun G1 => .own 110 (G1 15)), some (110, (fun G1 => some (.arr (G1 15) 55 4 ([(AE.mk 5 0 [98] [])].map AE.row)))), [15]⟩] Bt (by kernel_rfl) (by exact ⟨fun _ _ h => ⟨rfl, fun _ _ e => by cases e⟩, fun _ _ h => ⟨rfl, fun _ _ e => by cases e⟩, fun _ _ h => ⟨rfl, fun _ _ e => by cases e⟩, fun _ _ h => ⟨rfl, fun _ _ e => by cases e⟩, fun _ _ h => ⟨rfl, fun _ _ e => by cases e⟩, fun _ _ h => ⟨rfl, fun _ _ e => by cases e⟩, fun _ _ h => ⟨rfl, fun _ _ e => by cases e⟩, fun _ _ h => ⟨rfl, fun _ _ e => by cases e⟩, fun _ _ h => ⟨rfl, fun _ _ e => by cases e⟩, fun _ _ h => ⟨rfl, fun _ _ e => by cases e⟩, fun _ _ h => ⟨rfl, fun _ _ e => by cases e⟩, fun _ _ h => ⟨rfl, fun _ _ e => by cases e⟩, fun _ _ h => ⟨rfl, fun _ _ e => by cases e⟩, fun _ _ h => ⟨rfl, fun _ _ e => by cases e⟩, fun _ _ h => ⟨by simp only [h 14 rfl], fun _ _ e => by cases e; simp only [h 14 rfl]⟩, fun _ _ h => ⟨by simp only [h 15 rfl], fun _ _ e => by cases e; simp only [h 15 rfl]⟩, trivial⟩) rfl (by exact ⟨Aq (n1 := fun n => n) rfl rfl (by intro d h; cases h; rfl) rfl (fun _ => [(4, .ptr 107 (n0 + 6) 0 0)]) (fun _ => [(107, some (.box (n0 + 6) 82 [.mref 106 (n0 + 5)]))]) (fun D G1 hr => ⟨BK rfl rfl, trivial⟩) (fun D G1 hr => ⟨At rfl rfl, trivial⟩) (fun _ _ => rfl) (fun G1 e h' n => AD (v := .mref 106 (n0 + 5)) (AR (a := .mref 106 (n0 + 5)) rfl D1 (.inl rfl) rfl rfl) _),
      Aq (n1 := fun n => n) rfl rfl (by intro d h; cases h; rfl) rfl (fun _ => [(7, .ptr 105 (n0 + 4) 0 0)]) (fun _ => [(105, some (.box (n0 + 4) 55 [.r (.int .i64 (5 : Int)), .r (.int .i64 (0 : Int)), .r (.str [98]), .cst (.slice none 0 0)]))]) (fun D G1 hr => ⟨BK rfl rfl, trivial⟩) (fun D G1 hr => ⟨At rfl rfl, trivial⟩) (fun _ _ => rfl) (fun G1 e h' n => AD (v := .ptr 105 (n0 + 4) 0 0) (AI rfl (.inl rfl)) _),
      Aq (n1 := fun n => n) rfl rfl (by intro d h; cases h; rfl) rfl (fun _ => [(36, .ptr 105 (n0 + 4) 0 0)]) (fun _ => [(105, some (.box (n0 + 4) 55 [.r (.int .i64 (5 : Int)), .r (.int .i64 (0 : Int)), .r (.str [98]), .cst (.slice none 0 0)]))]) (fun D G1 hr => ⟨Au hr 1 rfl rfl (by kernel_rfl) rfl rfl, trivial⟩) (fun D G1 hr => ⟨At rfl rfl, trivial⟩) (fun _ _ => rfl) (fun G1 e h' n => AD (v := .ptr 105 (n0 + 4) 0 0) (Ct (ob := .box _ _ _) rfl (.inl rfl) (fun _ => rfl) rfl) _),
      Aq (n1 := fun n => n) rfl rfl (by intro d h; cases h; rfl) rfl (fun _ => [(37, .ptr 105 (n0 + 4) 0 0)]) (fun _ => [(105, some (.box (n0 + 4) 55 [.r (.int .i64 (5 : Int)), .r (.int .i64 (0 : Int)), .r (.str [98]), .cst (.slice none 0 0)]))]) (fun D G1 hr => ⟨Au hr 2 rfl rfl (by kernel_rfl) rfl rfl, trivial⟩) (fun D G1 hr => ⟨At rfl rfl, trivial⟩) (fun _ _ => rfl) (fun G1 e h' n => AD (v := .ptr 105 (n0 + 4) 0 1) (AX (ob := .box _ _ _) rfl Dd (.inl rfl) (fun _ => rfl) rfl) _),
      Aq (n1 := fun n => n) rfl rfl (by intro d h; cases h; rfl) rfl (fun _ => [(38, .ptr 105 (n0 + 4) 0 1)]) (fun _ => [(105, some (.box (n0 + 4) 55 [.r (.int .i64 (5 : Int)), .r (.int .i64 (0 : Int)), .r (.str [98]), .cst (.slice none 0 0)]))]) (fun D G1 hr => ⟨Au hr 3 rfl rfl (by kernel_rfl) rfl rfl, trivial⟩) (fun D G1 hr => ⟨At rfl rfl, trivial⟩) (fun _ _ => rfl) (fun G1 e h' n => AD (v := .r (.int .i64 (0 : Int))) (AR (a := .r (.int .i64 (0 : Int))) rfl Ae (.inl rfl) rfl rfl) _),
      Aq (n1 := fun n => n) rfl rfl (by intro d h; cases h; rfl) rfl (fun _ => [(4, .ptr 107 (n0 + 6) 0 0)]) (fun _ => [(107, some (.box (n0 + 6) 82 [.mref 106 (n0 + 5)]))]) (fun D G1 hr => ⟨BK rfl rfl, trivial⟩) (fun D G1 hr => ⟨At rfl rfl, trivial⟩) (fun _ _ => rfl) (fun G1 e h' n => AD (v := .mref 106 (n0 + 5)) (AR (a := .mref 106 (n0 + 5)) rfl D1 (.inl rfl) rfl rfl) _),
      Aq (n1 := fun n => n) rfl rfl (by intro d h; cases h; rfl) rfl (fun _ => [(7, .ptr 105 (n0 + 4) 0 0)]) (fun _ => [(105, some (.box (n0 + 4) 55 [.r (.int .i64 (5 : Int)), .r (.int .i64 (0 : Int)), .r (.str [98]), .cst (.slice none 0 0)]))]) (fun D G1 hr => ⟨BK rfl rfl, trivial⟩) (fun D G1 hr => ⟨At rfl rfl, trivial⟩) (fun _ _ => rfl) (fun G1 e h' n => AD (v := .ptr 105 (n0 + 4) 0 0) (AI rfl (.inl rfl)) _),
      Aq (n1 := fun n => n) rfl rfl (by intro d h; cases h; rfl) rfl (fun _ => [(41, .ptr 105 (n0 + 4) 0 0)]) (fun _ => [(105, some (.box (n0 + 4) 55 [.r (.int .i64 (5 : Int)), .r (.int .i64 (0 : Int)), .r (.str [98]), .cst (.slice none 0 0)]))]) (fun D G1 hr => ⟨Au hr 6 rfl rfl (by kernel_rfl) rfl rfl, trivial⟩) (fun D G1 hr => ⟨At rfl rfl, trivial⟩) (fun _ _ => rfl) (fun G1 e h' n => AD (v := .ptr 105 (n0 + 4) 0 0) (Ct (ob := .box _ _ _) rfl (.inl rfl) (fun _ => rfl) rfl) _),
      Aq (n1 := fun n => n) rfl rfl (by intro d h; cases h; rfl) rfl (fun _ => [(42, .ptr 105 (n0 + 4) 0 0)]) (fun _ => [(105, some (.box (n0 + 4) 55 [.r (.int .i64 (5 : Int)), .r (.int .i64 (0 : Int)), .r (.str [98]), .cst (.slice none 0 0)]))]) (fun D G1 hr => ⟨Au hr 7 rfl rfl (by kernel_rfl) rfl rfl, trivial⟩) (fun D G1 hr => ⟨At rfl rfl, trivial⟩) (fun _ _ => rfl) (fun G1 e h' n => AD (v := .ptr 105 (n0 + 4) 0 1) (AX (ob := .box _ _ _) rfl Dd (.inl rfl) (fun _ => rfl) rfl) _),
      Aq (n1 := fun n => n) rfl rfl (by intro d h; cases h; rfl) rfl (fun _ => [(43, .ptr 105 (n0 + 4) 0 1)]) (fun _ => [(105, some (.box (n0 + 4) 55 [.r (.int .i64 (5 : Int)), .r (.int .i64 (0 : Int)), .r (.str [98]), .cst (.slice none 0 0)]))]) (fun D G1 hr => ⟨Au hr 8 rfl rfl (by kernel_rfl) rfl rfl, trivial⟩) (fun D G1 hr => ⟨At rfl rfl, trivial⟩) (fun _ _ => rfl) (fun G1 e h' n => AD (v := .r (.int .i64 (0 : Int))) (AR (a := .r (.int .i64 (0 : Int))) rfl Ae (.inl rfl) rfl rfl) _),
      Aq (n1 := fun n => n) rfl rfl (by intro d h; cases h; rfl) rfl (fun _ => [(40, .mref 106 (n0 + 5)), (44, .r (.int .i64 (0 : Int)))]) (fun _ => [(106, some (.mp (n0 + 5) [] [] 0))]) (fun D G1 hr => ⟨Au hr 5 rfl rfl (by kernel_rfl) rfl rfl, Au hr 9 rfl rfl (by kernel_rfl) rfl rfl, trivial⟩) (fun D G1 hr => ⟨At rfl rfl, trivial⟩) (fun _ _ => rfl) (fun G1 e h' n => AD (v := .cst (.slice none 0 0)) (JI (ks := []) (vs := []) (a := .cst (.slice none 0 0)) false (.slice none 0 0) rfl Try.underlying82 Try.underlying3 (fun w => by kernel_rfl) (fun y => .cst _) (.inl rfl) (.inl rfl) rfl rfl) _),
      Aq (n1 := fun n => n) rfl rfl (by intro d h; cases h; rfl) rfl (fun _ => [(7, .ptr 105 (n0 + 4) 0 0)]) (fun _ => [(105, some (.box (n0 + 4) 55 [.r (.int .i64 (5 : Int)), .r (.int .i64 (0 : Int)), .r (.str [98]), .cst (.slice none 0 0)]))]) (fun D G1 hr => ⟨BK rfl rfl, trivial⟩) (fun D G1 hr => ⟨At rfl rfl, trivial⟩) (fun _ _ => rfl) (fun G1 e h' n => AD (v := .ptr 105 (n0 + 4) 0 0) (AI rfl (.inl rfl)) _),
      Aq (n1 := fun n => n) rfl rfl (by intro d h; cases h; rfl) rfl (fun _ => [(46, .ptr 105 (n0 + 4) 0 0)]) (fun _ => [(105, some (.box (n0 + 4) 55 [.r (.int .i64 (5 : Int)), .r (.int .i64 (0 : Int)), .r (.str [98]), .cst (.slice none 0 0)]))]) (fun D G1 hr => ⟨Au hr 11 rfl rfl (by kernel_rfl) rfl rfl, trivial⟩) (fun D G1 hr => ⟨At rfl rfl, trivial⟩) (fun _ _ => rfl) (fun G1 e h' n => AD (v := .ptr 105 (n0 + 4) 0 0) (Ct (ob := .box _ _ _) rfl (.inl rfl) (fun _ => rfl) rfl) _),
      Aq (n1 := fun n => n) rfl rfl (by intro d h; cases h; rfl) rfl (fun _ => [(47, .ptr 105 (n0 + 4) 0 0)]) (fun _ => [(105, some (.box (n0 + 4) 55 [.r (.int .i64 (5 : Int)), .r (.int .i64 (0 : Int)), .r (.str [98]), .cst (.slice none 0 0)]))]) (fun D G1 hr => ⟨Au hr 12 rfl rfl (by kernel_rfl) rfl rfl, trivial⟩) (fun D G1 hr => ⟨At rfl rfl, trivial⟩) (fun _ _ => rfl) (fun G1 e h' n => AD (v := .agg [.r (.int .i64 (5 : Int)), .r (.int .i64 (0 : Int)), .r (.str [98]), .cst (.slice none 0 0)]) (C7 rfl CL (.inl rfl) rfl rfl) _),
      ED (n1 := fun n => n + 1) rfl rfl (by intro d h; cases h; rfl) rfl (fun _ => [(48, .agg [.r (.int .i64 (5 : Int)), .r (.int .i64 (0 : Int)), .r (.str [98]), .cst (.slice none 0 0)])]) (fun _ => []) (fun D G1 hr => ⟨Au hr 13 rfl rfl (by kernel_rfl) rfl rfl, trivial⟩) (fun D G1 hr => trivial) (fun G1 e h' n => B3 109 rfl Ao (f := AE.row) (l := ([(AE.mk 5 0 [98] [])] : List AE)) ⟨rfl, ⟨_, (.inl rfl), rfl⟩, trivial⟩ rfl (fun _ => rfl) rfl),
      ED (n1 := fun n => n + 1) rfl rfl (by intro d h; cases h; rfl) rfl (fun G1 => [(45, .cst (.slice none 0 0)), (49, .own 109 (G1 14))]) (fun G1 => [(109, some (.arr (G1 14) 55 4 ([(AE.mk 5 0 [98] [])].map AE.row)))]) (fun D G1 hr => ⟨Au hr 10 rfl rfl (by kernel_rfl) rfl rfl, Au hr 14 rfl rfl (by kernel_rfl) rfl rfl, trivial⟩) (fun D G1 hr => ⟨F5 hr 14 rfl rfl (by kernel_rfl) (by kernel_rfl) rfl, trivial⟩) (fun G1 e h' n => Jt 110 (f := AE.row) rfl Ao (.inl rfl) (.inr (.inl ⟨_, _, (.inl rfl), rfl⟩)) e3),
      trivial⟩) fun G1 n1 => ?_
  refine AB.weak (s' := ⟨[(3, .ptr 103 (n0 + 2) 0 0), (4, .ptr 107 (n0 + 6) 0 0), (5, .cst (.slice none 0 0)), (7, .ptr 105 (n0 + 4) 0 0), (20, .ptr 108 (n0 + 7) 0 0), (35, .mref 106 (n0 + 5)), (36, .ptr 105 (n0 + 4) 0 0), (37, .ptr 105 (n0 + 4) 0 0), (38, .ptr 105 (n0 + 4) 0 1), (39, .r (.int .i64 (0 : Int))), (40, .mref 106 (n0 + 5)), (41, .ptr 105 (n0 + 4) 0 0), (42, .ptr 105 (n0 + 4) 0 0), (43, .ptr 105 (n0 + 4) 0 1), (44, .r (.int .i64 (0 : Int))), (45, .cst (.slice none 0 0)), (46, .ptr 105 (n0 + 4) 0 0), (47, .ptr 105 (n0 + 4) 0 0), (48, .agg [.r (.int .i64 (5 : Int)), .r (.int .i64 (0 : Int)), .r (.str [98]), .cst (.slice none 0 0)]), (49, .own 109 (G1 14)), (50, .own 110 (G1 15))], [(101, some (.mp n0 [(5, 0)] [.ptr 105 (n0 + 4) 0 0] 1)), (102, some (.mp (n0 + 1) [] [] 0)), (103, some (.box (n0 + 2) 76 [.mref 101 n0, .mref 102 (n0 + 1)])), (105, some (.box (n0 + 4) 55 [.r (.int .i64 (5 : Int)), .r (.int .i64 (0 : Int)), .r (.str [98]), .cst (.slice none 0 0)])), (106, some (.mp (n0 + 5) [] [] 0)), (107, some (.box (n0 + 6) 82 [.mref 106 (n0 + 5)])), (108, some (.mi (n0 + 7) 101 n0 1 [0] 1)), (109, some (.arr (G1 14) 55 4 ([(AE.mk 5 0 [98] [])].map AE.row))), (110, some (.arr (G1 15) 55 4 ([(AE.mk 5 0 [98] [])].map AE.row)))], n1, 80⟩) (by exact AL ⟨.inl (.inl rfl), .inl (.inl rfl), .inl (.inl rfl), .inl (.inl rfl), .inl (.inl rfl), .inl (.inl rfl), .inl (.inl rfl), .inl (.inl rfl), .inl (.inl rfl), .inl (.inl rfl), .inl (.inl rfl), .inl (.inl rfl), .inl (.inl rfl), .inl (.inl rfl), .inl (.inl rfl), .inl (.inl rfl), .inl (.inl rfl), .inl (.inl rfl), .inl (.inl rfl), .inl (.inl rfl), .inl (.inl rfl), trivial⟩ ⟨.inl rfl, .inl rfl, .inl rfl, .inl rfl, .inl rfl, .inl rfl, .inl rfl, .inl rfl, .inl rfl, trivial⟩ (Nat.le_refl _)) ?_
  refine BG rfl rfl (Gv (.inl rfl) Try.underlying82 Try.underlying3 (.inl rfl) (.inl rfl) (.inl rfl) rfl rfl) ?_
  refine AB.nil ?_
  refine hK31 _ ?_
  refine AW.weak (s' := ⟨[(3, .ptr 103 (n0 + 2) 0 0), (4, .ptr 107 (n0 + 6) 0 0), (5, .cst (.slice none 0 0)), (7, .ptr 105 (n0 + 4) 0 0), (20, .ptr 108 (n0 + 7) 0 0)], [(101, some (.mp n0 [(5, 0)] [.ptr 105 (n0 + 4) 0 0] 1)), (102, some (.mp (n0 + 1) [] [] 0)), (103, some (.box (n0 + 2) 76 [.mref 101 n0, .mref 102 (n0 + 1)])), (105, some (.box (n0 + 4) 55 [.r (.int .i64 (5 : Int)), .r (.int .i64 (0 : Int)), .r (.str [98]), .cst (.slice none 0 0)])), (106, some (.mp (n0 + 5) [(0, 0)] [.own 110 (G1 15)] 1)), (107, some (.box (n0 + 6) 82 [.mref 106 (n0 + 5)])), (108, some (.mi (n0 + 7) 101 n0 1 [0] 1)), (110, some (.arr (G1 15) 55 4 ([(AE.mk 5 0 [98] [])].map AE.row)))], n1, 80⟩) (by exact AL ⟨.inl (.inl rfl), .inl (.inl rfl), .inl (.inl rfl), .inl (.inl rfl), .inl (.inl rfl), trivial⟩ ⟨.inl rfl, .inl rfl, .inl rfl, .inl rfl, .inl rfl, .inl rfl, .inl rfl, .inl rfl, trivial⟩ (Nat.le_refl _)) ?_
  refine AW.region ?_
  refine AB.step rfl rfl rfl (AD (AI rfl (.inl rfl)) _) ?_
  refine AB.step rfl rfl rfl (AD (AI rfl (.inl rfl)) _) ?_
  refine AB.step rfl rfl rfl (AD (Ct (ob := .box _ _ _) rfl (.inl rfl) (fun _ => rfl) rfl) _) ?_
  refine AB.step rfl rfl rfl (AD (C7 rfl CL (.inl rfl) rfl rfl) _) ?_
  refine AB.step rfl rfl rfl (B3 111 rfl Ao (f := AE.row) (l := ([(AE.mk 5 0 [98] [])] : List AE)) ⟨rfl, ⟨_, (.inl rfl), rfl⟩, trivial⟩ rfl (fun _ => rfl) rfl) ?_
  have e4 : @app (AE) 56 [] [(AE.mk 5 0 [98] [])] = some [(AE.mk 5 0 [98] [])] := by kernel_rfl
  refine AB.step rfl rfl rfl (Jt 112 (f := AE.row) rfl Ao (.inl rfl) (.inr (.inl ⟨_, _, (.inl rfl), rfl⟩)) e4) ?_
  refine AB.step rfl rfl rfl (AD (AK rfl (.inl rfl)) _) ?_
  refine AB.nil ?_
  refine BU.step ?_
  refine AH fun K32 hK32 wK32 => ?_
  refine AW.region ?_
  refine AB.step rfl rfl rfl (SH (k := 0) (born := 0) rfl (.inl rfl) rfl rfl rfl rfl rfl) ?_
  refine AB.step rfl rfl rfl (AD (CJ (a := .r (.bool false)) rfl (.inl rfl) rfl) _) ?_
  refine AB.nil ?_
  refine hK32 _ ?_
  refine AH fun K33 hK33 wK33 => ?_
  refine AW.cond rfl (fun hc7 => by cases hc7) (fun hc7 => ?_)
  refine AW.exit ?_
  refine hK25 _ ?_
  refine AH fun K34 hK34 wK34 => ?_
  refine AW.weak (s' := ⟨[(4, .ptr 107 (n0 + 6) 0 0), (5, .own 112 (n1 + 1))], [(106, some (.mp (n0 + 5) [(0, 0)] [.own 110 (G1 15)] 1)), (107, some (.box (n0 + 6) 82 [.mref 106 (n0 + 5)])), (110, some (.arr (G1 15) 55 4 ([(AE.mk 5 0 [98] [])].map AE.row))), (112, some (.arr (n1 + 1) 55 4 ([(AE.mk 5 0 [98] [])].map AE.row)))], (n1 + 2), 80⟩) (by exact AL ⟨.inl (.inl rfl), .inl (.inl rfl), trivial⟩ ⟨.inl rfl, .inl rfl, .inl rfl, .inl rfl, trivial⟩ (Nat.le_refl _)) ?_
  refine AW.region ?_
  refine AB.step rfl rfl rfl (Bs (cs := [.cst (.slice none 0 0)]) 113 rfl Gx rfl rfl) ?_
  refine AB.nil ?_
  refine hK34 _ ?_
  refine AH fun K35 hK35 wK35 => ?_
  refine AW.region ?_
  refine AB.step rfl rfl rfl (Gt 114 rfl) ?_
  refine AB.step rfl rfl rfl (Bs (cs := [.cst (.map none)]) 115 rfl Lr rfl rfl) ?_
  refine BG rfl rfl (Ba (ds := [.mref 114 (n1 + 3)]) rfl M3 (.inl rfl) rfl (.inl rfl) rfl rfl rfl rfl) ?_
  refine AB.nil ?_
  refine hK35 _ ?_
  refine AH fun K36 hK36 wK36 => ?_
  refine AW.region ?_
  refine AB.step rfl rfl rfl (Bs (cs := [.cst (.nilFunc)]) 116 rfl L2 rfl rfl) ?_
  refine AB.nil ?_
  refine hK36 _ ?_
  refine AH fun K37 hK37 wK37 => ?_
  refine AW.region ?_
  refine AB.step rfl rfl rfl (AD (JY (bs := [.ptr 107 (n0 + 6) 0 0, .ptr 113 (n1 + 2) 0 0, .ptr 115 (n1 + 4) 0 0, .ptr 116 (n1 + 5) 0 0]) rfl (by exact ⟨(.inl rfl), (.inl rfl), (.inl rfl), (.inl rfl), trivial⟩)) _) ?_
  refine BG rfl rfl (Ba (ds := [.fn 44 [.ptr 107 (n0 + 6) 0 0, .ptr 113 (n1 + 2) 0 0, .ptr 115 (n1 + 4) 0 0, .ptr 116 (n1 + 5) 0 0]]) rfl NB (.inl rfl) rfl (.inl rfl) rfl rfl rfl rfl) ?_
  refine AB.nil ?_
  refine hK37 _ ?_
  refine AH fun K38 hK38 wK38 => ?_
  refine AW.region ?_
  refine AB.step rfl rfl rfl (AD (AR (a := .fn 44 [.ptr 107 (n0 + 6) 0 0, .ptr 113 (n1 + 2) 0 0, .ptr 115 (n1 + 4) 0 0, .ptr 116 (n1 + 5) 0 0]) rfl Ig (.inl rfl) rfl rfl) _) ?_
  refine DF [.ptr 107 (n0 + 6) 0 0, .ptr 113 (n1 + 2) 0 0, .ptr 115 (n1 + 4) 0 0, .ptr 116 (n1 + 5) 0 0] [.r (.int .i64 (0 : Int))] rfl rfl rfl rfl (.inl rfl) (by exact ⟨(.inl rfl), trivial⟩) Try.func44 rfl rfl Try.ntmps44 rfl fun K39 hK39 => ?_
  refine AH fun K40 hK40 wK40 => ?_
  refine AW.weak (s' := ⟨[(0, .r (.int .i64 (0 : Int))), (1, .ptr 107 (n0 + 6) 0 0), (2, .ptr 113 (n1 + 2) 0 0), (3, .ptr 115 (n1 + 4) 0 0), (4, .ptr 116 (n1 + 5) 0 0)], [(106, some (.mp (n0 + 5) [(0, 0)] [.own 110 (G1 15)] 1)), (107, some (.box (n0 + 6) 82 [.mref 106 (n0 + 5)])), (110, some (.arr (G1 15) 55 4 ([(AE.mk 5 0 [98] [])].map AE.row))), (112, some (.arr (n1 + 1) 55 4 ([(AE.mk 5 0 [98] [])].map AE.row))), (113, some (.box (n1 + 2) 24 [.cst (.slice none 0 0)])), (114, some (.mp (n1 + 3) [] [] 0)), (115, some (.box (n1 + 4) 63 [.mref 114 (n1 + 3)])), (116, some (.box (n1 + 5) 83 [.fn 44 [.ptr 107 (n0 + 6) 0 0, .ptr 113 (n1 + 2) 0 0, .ptr 115 (n1 + 4) 0 0, .ptr 116 (n1 + 5) 0 0]]))], (n1 + 6), 32⟩) (by exact AL ⟨.inl (.inl rfl), .inl (.inl rfl), .inl (.inl rfl), .inl (.inl rfl), .inl (.inl rfl), trivial⟩ ⟨.inl rfl, .inl rfl, .inl rfl, .inl rfl, .inl rfl, .inl rfl, .inl rfl, .inl rfl, trivial⟩ (Nat.le_refl _)) ?_
  refine AW.region ?_
  refine AB.step rfl rfl rfl (AD (AR (a := .mref 106 (n0 + 5)) rfl D1 (.inl rfl) rfl rfl) _) ?_
  refine AB.step rfl rfl rfl (AD (AI rfl (.inl rfl)) _) ?_
  refine AB.step rfl rfl rfl (AD (JK (ks := [(0, 0)]) (vs := [.own 110 (G1 15)]) false (.slice none 0 0) rfl Try.underlying82 Try.underlying3 (fun w => by kernel_rfl) (.inl rfl) (.inl rfl) rfl rfl rfl) _) ?_
  refine DF [] [.own 110 (G1 15), .fn 46 []] rfl rfl rfl rfl (.inl rfl) (by exact ⟨(.inl rfl), (.inl rfl), trivial⟩) Try.func45 rfl rfl Try.ntmps45 rfl fun K41 hK41 => ?_
  refine AH fun K42 hK42 wK42 => ?_
  refine AW.weak (s' := ⟨[(0, .own 110 (G1 15)), (1, .fn 46 [])], [(106, some (.mp (n0 + 5) [(0, 0)] [.own 110 (G1 15)] 1)), (107, some (.box (n0 + 6) 82 [.mref 106 (n0 + 5)])), (110, some (.arr (G1 15) 55 4 ([(AE.mk 5 0 [98] [])].map AE.row))), (112, some (.arr (n1 + 1) 55 4 ([(AE.mk 5 0 [98] [])].map AE.row))), (113, some (.box (n1 + 2) 24 [.cst (.slice none 0 0)])), (114, some (.mp (n1 + 3) [] [] 0)), (115, some (.box (n1 + 4) 63 [.mref 114 (n1 + 3)])), (116, some (.box (n1 + 5) 83 [.fn 44 [.ptr 107 (n0 + 6) 0 0, .ptr 113 (n1 + 2) 0 0, .ptr 115 (n1 + 4) 0 0, .ptr 116 (n1 + 5) 0 0]]))], (n1 + 6), 14⟩) (by exact AL ⟨.inl (.inl rfl), .inl (.inl rfl), trivial⟩ ⟨.inl rfl, .inl rfl, .inl rfl, .inl rfl, .inl rfl, .inl rfl, .inl rfl, .inl rfl, trivial⟩ (Nat.le_refl _)) ?_
  refine AW.region ?_
  refine AB.step rfl rfl rfl (AD (AI rfl (.inl rfl)) _) ?_
  refine AB.step rfl rfl rfl (AD (EG rfl Ao.slice (.inl rfl) rfl) _) ?_
  refine AB.step rfl rfl rfl (AD (AK rfl (.inl rfl)) _) ?_
  refine AB.nil ?_
  refine hK42 _ ?_
  refine AW.region ?_
  refine AB.step rfl rfl rfl (AD (AI rfl (.inl rfl)) _) ?_
  refine AB.step rfl rfl rfl (AD (AI rfl (.inl rfl)) _) ?_
  refine AB.step rfl rfl rfl (AD (AI rfl (.inl rfl)) _) ?_
  refine AB.step rfl rfl rfl (AD (Fk rfl Try.underlying3 Try.underlying94 (.inl rfl)) _) ?_
  refine AB.step rfl rfl rfl (A7 (r := .r (.int .i64 1)) (caps := []) (bs := [.r (.int .u64 (1 : Int))]) rfl (.inl rfl) rfl ⟨⟨_, (.inl rfl), .d rfl⟩, trivial⟩ (fun _ => (fun _ : True => Mw) (True.intro)) rfl) ?_
  refine AB.step rfl rfl rfl (AD (AI rfl (.inl rfl)) _) ?_
  refine DF [] [.own 110 (G1 15), .r (.int .i64 (0 : Int)), .r (.int .i64 (1 : Int)), .r (.int .i64 (1 : Int)), .fn 46 []] rfl rfl rfl rfl (.inl rfl) (by exact ⟨(.inl rfl), (.inl rfl), (.inl rfl), (.inl rfl), (.inl rfl), trivial⟩) Try.func65 rfl rfl Try.ntmps65 rfl fun K43 hK43 => ?_
  refine AH fun K44 hK44 wK44 => ?_
  refine AW.weak (s' := ⟨[(0, .own 110 (G1 15)), (1, .r (.int .i64 (0 : Int))), (2, .r (.int .i64 (1 : Int))), (3, .r (.int .i64 (1 : Int))), (4, .fn 46 [])], [(106, some (.mp (n0 + 5) [(0, 0)] [.own 110 (G1 15)] 1)), (107, some (.box (n0 + 6) 82 [.mref 106 (n0 + 5)])), (110, some (.arr (G1 15) 55 4 ([(AE.mk 5 0 [98] [])].map AE.row))), (112, some (.arr (n1 + 1) 55 4 ([(AE.mk 5 0 [98] [])].map AE.row))), (113, some (.box (n1 + 2) 24 [.cst (.slice none 0 0)])), (114, some (.mp (n1 + 3) [] [] 0)), (115, some (.box (n1 + 4) 63 [.mref 114 (n1 + 3)])), (116, some (.box (n1 + 5) 83 [.fn 44 [.ptr 107 (n0 + 6) 0 0, .ptr 113 (n1 + 2) 0 0, .ptr 115 (n1 + 4) 0 0, .ptr 116 (n1 + 5) 0 0]]))], (n1 + 6), 148⟩) (by exact AL ⟨.inl (.inl rfl), .inl (.inl rfl), .inl (.inl rfl), .inl (.inl rfl), .inl (.inl rfl), trivial⟩ ⟨.inl rfl, .inl rfl, .inl rfl, .inl rfl, .inl rfl, .inl rfl, .inl rfl, .inl rfl, trivial⟩ (Nat.le_refl _)) ?_
  refine AW.region ?_
  refine AB.step rfl rfl rfl (AD (AK rfl (.inl rfl)) _) ?_
  refine AB.nil ?_
  refine hK44 _ ?_
  refine AH fun K45 hK45 wK45 => ?_
  refine AW.region ?_
  refine AB.step rfl rfl rfl (AD (AK rfl (.inl rfl)) _) ?_
  refine AB.nil ?_
  refine hK45 _ ?_
  refine AW.block ?_
  refine Ck 9 ?_
  refine BU.step ?_
  refine AW.block ?_
  refine AH fun K46 hK46 wK46 => ?_
  refine AW.region ?_
  refine AB.step rfl rfl rfl (AD (AI rfl (.inl rfl)) _) ?_
  refine AB.step rfl rfl rfl (AD (AI rfl (.inl rfl)) _) ?_
  have e5 : Aw .i64 (1) = some (1 : Int) := by kernel_rfl
  refine AB.step rfl rfl rfl (AD (Es rfl (.inl rfl) (.inl rfl) (fun _ => e5)) _) ?_
  refine AB.step rfl rfl rfl (AD (AK rfl (.inl rfl)) _) ?_
  refine AB.nil ?_
  refine hK46 _ ?_
  refine AH fun K47 hK47 wK47 => ?_
  refine AH fun K48 hK48 wK48 => ?_
  refine AW.region ?_
  refine AB.step rfl rfl rfl (AD (AI rfl (.inl rfl)) _) ?_
  refine AB.step rfl rfl rfl (AD (ET rfl (.inl rfl) (.inl rfl)) _) ?_
  refine AB.nil ?_
  refine hK48 _ ?_
  refine AW.cond rfl (fun hc8 => ?_) (fun hc8 => by cases hc8)
  refine AH fun K49 hK49 wK49 => ?_
  refine AW.weak (s' := ⟨[(0, .own 110 (G1 15)), (1, .r (.int .i64 (0 : Int))), (2, .r (.int .i64 (1 : Int))), (4, .fn 46 [])], [(106, some (.mp (n0 + 5) [(0, 0)] [.own 110 (G1 15)] 1)), (107, some (.box (n0 + 6) 82 [.mref 106 (n0 + 5)])), (110, some (.arr (G1 15) 55 4 ([(AE.mk 5 0 [98] [])].map AE.row))), (112, some (.arr (n1 + 1) 55 4 ([(AE.mk 5 0 [98] [])].map AE.row))), (113, some (.box (n1 + 2) 24 [.cst (.slice none 0 0)])), (114, some (.mp (n1 + 3) [] [] 0)), (115, some (.box (n1 + 4) 63 [.mref 114 (n1 + 3)])), (116, some (.box (n1 + 5) 83 [.fn 44 [.ptr 107 (n0 + 6) 0 0, .ptr 113 (n1 + 2) 0 0, .ptr 115 (n1 + 4) 0 0, .ptr 116 (n1 + 5) 0 0]]))], (n1 + 6), 148⟩) (by exact AL ⟨.inl (.inl rfl), .inl (.inl rfl), .inl (.inl rfl), .inl (.inl rfl), trivial⟩ ⟨.inl rfl, .inl rfl, .inl rfl, .inl rfl, .inl rfl, .inl rfl, .inl rfl, .inl rfl, trivial⟩ (Nat.le_refl _)) ?_
  refine AW.region ?_
  refine AB.step rfl rfl rfl (AD (AI rfl (.inl rfl)) _) ?_
  refine AB.step rfl rfl rfl (AD (AI rfl (.inl rfl)) _) ?_
  refine AB.step rfl rfl rfl (AD (AI rfl (.inl rfl)) _) ?_
  refine AB.step rfl rfl rfl (AD (AI rfl (.inl rfl)) _) ?_
  refine DF [] [.own 110 (G1 15), .r (.int .i64 (0 : Int)), .r (.int .i64 (1 : Int)), .fn 46 []] rfl rfl rfl rfl (.inl rfl) (by exact ⟨(.inl rfl), (.inl rfl), (.inl rfl), (.inl rfl), trivial⟩) Try.func80 rfl rfl Try.ntmps80 rfl fun K50 hK50 => ?_
  refine AH fun K51 hK51 wK51 => ?_
  refine AW.weak (s' := ⟨[(0, .own 110 (G1 15)), (1, .r (.int .i64 (0 : Int))), (2, .r (.int .i64 (1 : Int))), (3, .fn 46 [])], [(106, some (.mp (n0 + 5) [(0, 0)] [.own 110 (G1 15)] 1)), (107, some (.box (n0 + 6) 82 [.mref 106 (n0 + 5)])), (110, some (.arr (G1 15) 55 4 ([(AE.mk 5 0 [98] [])].map AE.row))), (112, some (.arr (n1 + 1) 55 4 ([(AE.mk 5 0 [98] [])].map AE.row))), (113, some (.box (n1 + 2) 24 [.cst (.slice none 0 0)])), (114, some (.mp (n1 + 3) [] [] 0)), (115, some (.box (n1 + 4) 63 [.mref 114 (n1 + 3)])), (116, some (.box (n1 + 5) 83 [.fn 44 [.ptr 107 (n0 + 6) 0 0, .ptr 113 (n1 + 2) 0 0, .ptr 115 (n1 + 4) 0 0, .ptr 116 (n1 + 5) 0 0]]))], (n1 + 6), 53⟩) (by exact AL ⟨.inl (.inl rfl), .inl (.inl rfl), .inl (.inl rfl), .inl (.inl rfl), trivial⟩ ⟨.inl rfl, .inl rfl, .inl rfl, .inl rfl, .inl rfl, .inl rfl, .inl rfl, .inl rfl, trivial⟩ (Nat.le_refl _)) ?_
  refine AW.region ?_
  refine AB.step rfl rfl rfl (AD (AI rfl (.inl rfl)) _) ?_
  have e6 : Aw .i64 (1) = some (1 : Int) := by kernel_rfl
  refine AB.step rfl rfl rfl (AD (BC rfl (.inl rfl) (.inl rfl) (fun _ => e6)) _) ?_
  refine AB.step rfl rfl rfl (AD (AK rfl (.inl rfl)) _) ?_
  refine AB.nil ?_
  refine hK51 _ ?_
  refine AW.block ?_
  refine Ck 9 ?_
  refine BU.step ?_
  refine AH fun K52 hK52 wK52 => ?_
  refine AH fun K53 hK53 wK53 => ?_
  refine AW.region ?_
  refine AB.step rfl rfl rfl (AD (AI rfl (.inl rfl)) _) ?_
  refine AB.step rfl rfl rfl (AD (AI rfl (.inl rfl)) _) ?_
  refine AB.step rfl rfl rfl (AD (Ar rfl (.inl rfl) (.inl rfl)) _) ?_
  refine AB.nil ?_
  refine hK53 _ ?_
  refine AW.cond rfl (fun hc9 => by cases hc9) (fun hc9 => ?_)
  refine AW.exit ?_
  refine FD (.tup []) (⟨_, rfl, trivial⟩) ?_
  refine hK50 _ _ _ ?_
  refine AB.nil ?_
  refine hK49 _ ?_
  refine AW.ret ?_
  refine Bw.intro (.tup []) (⟨_, rfl, trivial⟩) ?_
  refine hK43 _ _ _ ?_
  refine AB.nil ?_
  refine FD (.tup []) (⟨_, rfl, trivial⟩) ?_
  refine hK41 _ _ _ ?_
  refine AB.nil ?_
  refine hK40 _ ?_
  refine AH fun K54 hK54 wK54 => ?_
  refine AW.region ?_
  refine AB.step rfl rfl rfl (AD (AR (a := .mref 106 (n0 + 5)) rfl D1 (.inl rfl) rfl rfl) _) ?_
  refine AB.step rfl rfl rfl (AD (AI rfl (.inl rfl)) _) ?_
  refine AB.step rfl rfl rfl (AD (JK (ks := [(0, 0)]) (vs := [.own 110 (G1 15)]) false (.slice none 0 0) rfl Try.underlying82 Try.underlying3 (fun w => by kernel_rfl) (.inl rfl) (.inl rfl) rfl rfl rfl) _) ?_
  refine AB.step rfl rfl rfl (AD (EG rfl Ao.slice (.inl rfl) rfl) _) ?_
  refine AB.step rfl rfl rfl (AD (AI rfl (.inl rfl)) _) ?_
  refine AB.nil ?_
  refine hK54 _ ?_
  refine AW.block ?_
  refine Ck 9 ?_
  refine BU.step ?_
  refine AH fun K55 hK55 wK55 => ?_
  refine AW.region ?_
  refine AB.step rfl rfl rfl (AD (Ar rfl (.inl rfl) (.inl rfl)) _) ?_
  refine AB.nil ?_
  refine hK55 _ ?_
  refine AH fun K56 hK56 wK56 => ?_
  refine AW.cond rfl (fun hc10 => ?_) (fun hc10 => by cases hc10)
  refine AW.skip ?_
  refine hK56 _ ?_
  refine AH fun K57 hK57 wK57 => ?_
  refine AW.block ?_
  refine AH fun K58 hK58 wK58 => ?_
  refine AW.weak (s' := ⟨[(2, .ptr 113 (n1 + 2) 0 0), (3, .ptr 115 (n1 + 4) 0 0), (4, .ptr 116 (n1 + 5) 0 0), (14, .own 110 (G1 15)), (15, .r (.int .i64 (1 : Int))), (16, .r (.int .i64 (0 : Int)))], [(106, some (.mp (n0 + 5) [(0, 0)] [.own 110 (G1 15)] 1)), (107, some (.box (n0 + 6) 82 [.mref 106 (n0 + 5)])), (110, some (.arr (G1 15) 55 4 ([(AE.mk 5 0 [98] [])].map AE.row))), (112, some (.arr (n1 + 1) 55 4 ([(AE.mk 5 0 [98] [])].map AE.row))), (113, some (.box (n1 + 2) 24 [.cst (.slice none 0 0)])), (114, some (.mp (n1 + 3) [] [] 0)), (115, some (.box (n1 + 4) 63 [.mref 114 (n1 + 3)])), (116, some (.box (n1 + 5) 83 [.fn 44 [.ptr 107 (n0 + 6) 0 0, .ptr 113 (n1 + 2) 0 0, .ptr 115 (n1 + 4) 0 0, .ptr 116 (n1 + 5) 0 0]]))], (n1 + 6), 32⟩) (by exact AL ⟨.inl (.inl rfl), .inl (.inl rfl), .inl (.inl rfl), .inl (.inl rfl), .inl (.inl rfl), .inl (.inl rfl), trivial⟩ ⟨.inl rfl, .inl rfl, .inl rfl, .inl rfl, .inl rfl, .inl rfl, .inl rfl, .inl rfl, trivial⟩ (Nat.le_refl _)) ?_
  refine AW.region ?_
  have e7 : @Ak (AE) [(AE.mk 5 0 [98] [])] 0 = some (AE.mk 5 0 [98] []) := by kernel_rfl
  refine AB.step rfl rfl rfl (AD (EO rfl Ao.slice (.inl rfl) rfl (.inl rfl) (fun _ => e7)) _) ?_
  refine AB.step rfl rfl rfl (AD (KP (cs := [.r (.int .i64 ((AE.mk 5 0 [98] []).Item)), .r (.int .i64 ((AE.mk 5 0 [98] []).Parent)), .r (.str ((AE.mk 5 0 [98] []).Place)), .r (.sl (((AE.mk 5 0 [98] []).Attrs).map AG.row))]) rfl CL (.inl rfl) (fun _ => rfl) (fun _ => e7) rfl) _) ?_
  refine AB.step rfl rfl rfl (Bs (cs := [.r (.int .i64 (0 : Int)), .r (.int .i64 (0 : Int)), .r (.str []), .cst (.slice none 0 0)]) 117 rfl Fe rfl rfl) ?_
  refine BG rfl rfl (Ba (ds := [.r (.int .i64 (5 : Int)), .r (.int .i64 (0 : Int)), .r (.str [98]), .r (.sl [])]) rfl E6 (.inl rfl) rfl (.inl rfl) rfl rfl rfl rfl) ?_
  refine AB.nil ?_
  refine hK58 _ ?_
  refine AH fun K59 hK59 wK59 => ?_
  have e8 : @app (AE) 56 [] [(AE.mk 5 0 [98] [])] = some [(AE.mk 5 0 [98] [])] := by kernel_rfl
  refine Fx 8 [⟨some 20, (fun _ => .mref 114 (n1 + 3)), none, []⟩, ⟨some 21, (fun _ => .ptr 117 (n1 + 6) 0 0), none, []⟩, ⟨some 22, (fun _ => .r (.int .i64 (5 : Int))), none, []⟩, ⟨some 23, (fun _ => .cst (.slice none 0 0)), none, []⟩, ⟨some 24, (fun _ => .agg [.r (.int .i64 (5 : Int)), .r (.int .i64 (0 : Int)), .r (.str [98]), .r (.sl [])]), none, []⟩, ⟨some 25, (fun G2 => .own 118 (G2 5)), some (118, (fun G2 => some (.arr (G2 5) 55 4 ([(AE.mk 5 0 [98] [])].map AE.row)))), [5]⟩, ⟨some 26, (fun G2 => .own 119 (G2 6)), some (119, (fun G2 => some (.arr (G2 6) 55 4 ([(AE.mk 5 0 [98] [])].map AE.row)))), [6]⟩, ⟨none, (fun _ => .any), some (113, (fun G2 => some (.box (n1 + 2) 24 [.own 119 (G2 6)]))), [6]⟩] Bt (by kernel_rfl) (by exact ⟨fun _ _ h => ⟨rfl, fun _ _ e => by cases e⟩, fun _ _ h => ⟨rfl, fun _ _ e => by cases e⟩, fun _ _ h => ⟨rfl, fun _ _ e => by cases e⟩, fun _ _ h => ⟨rfl, fun _ _ e => by cases e⟩, fun _ _ h => ⟨rfl, fun _ _ e => by cases e⟩, fun _ _ h => ⟨by simp only [h 5 rfl], fun _ _ e => by cases e; simp only [h 5 rfl]⟩, fun _ _ h => ⟨by simp only [h 6 rfl], fun _ _ e => by cases e; simp only [h 6 rfl]⟩, fun _ _ h => ⟨rfl, fun _ _ e => by cases e; simp only [h 6 rfl]⟩, trivial⟩) rfl (by exact ⟨Aq (n1 := fun n => n) rfl rfl (by intro d h; cases h; rfl) rfl (fun _ => [(3, .ptr 115 (n1 + 4) 0 0)]) (fun _ => [(115, some (.box (n1 + 4) 63 [.mref 114 (n1 + 3)]))]) (fun D G2 hr => ⟨BK rfl rfl, trivial⟩) (fun D G2 hr => ⟨At rfl rfl, trivial⟩) (fun _ _ => rfl) (fun G2 e h' n => AD (v := .mref 114 (n1 + 3)) (AR (a := .mref 114 (n1 + 3)) rfl IL (.inl rfl) rfl rfl) _),
      Aq (n1 := fun n => n) rfl rfl (by intro d h; cases h; rfl) rfl (fun _ => [(7, .ptr 117 (n1 + 6) 0 0)]) (fun _ => [(117, some (.box (n1 + 6) 55 [.r (.int .i64 (5 : Int)), .r (.int .i64 (0 : Int)), .r (.str [98]), .r (.sl [])]))]) (fun D G2 hr => ⟨BK rfl rfl, trivial⟩) (fun D G2 hr => ⟨At rfl rfl, trivial⟩) (fun _ _ => rfl) (fun G2 e h' n => AD (v := .ptr 117 (n1 + 6) 0 0) (AX (ob := .box _ _ _) rfl Bf (.inl rfl) (fun _ => rfl) rfl) _),
      Aq (n1 := fun n => n) rfl rfl (by intro d h; cases h; rfl) rfl (fun _ => [(21, .ptr 117 (n1 + 6) 0 0)]) (fun _ => [(117, some (.box (n1 + 6) 55 [.r (.int .i64 (5 : Int)), .r (.int .i64 (0 : Int)), .r (.str [98]), .r (.sl [])]))]) (fun D G2 hr => ⟨Au hr 1 rfl rfl (by kernel_rfl) rfl rfl, trivial⟩) (fun D G2 hr => ⟨At rfl rfl, trivial⟩) (fun _ _ => rfl) (fun G2 e h' n => AD (v := .r (.int .i64 (5 : Int))) (AR (a := .r (.int .i64 (5 : Int))) rfl Ae (.inl rfl) rfl rfl) _),
      Aq (n1 := fun n => n) rfl rfl (by intro d h; cases h; rfl) rfl (fun _ => [(2, .ptr 113 (n1 + 2) 0 0)]) (fun _ => [(113, some (.box (n1 + 2) 24 [.cst (.slice none 0 0)]))]) (fun D G2 hr => ⟨BK rfl rfl, trivial⟩) (fun D G2 hr => ⟨Fs hr (by kernel_rfl) rfl, trivial⟩) (fun _ _ => rfl) (fun G2 e h' n => AD (v := .cst (.slice none 0 0)) (AR (a := .cst (.slice none 0 0)) rfl H3 (.inl rfl) rfl rfl) _),
      Aq (n1 := fun n => n) rfl rfl (by intro d h; cases h; rfl) rfl (fun _ => [(7, .ptr 117 (n1 + 6) 0 0)]) (fun _ => [(117, some (.box (n1 + 6) 55 [.r (.int .i64 (5 : Int)), .r (.int .i64 (0 : Int)), .r (.str [98]), .r (.sl [])]))]) (fun D G2 hr => ⟨BK rfl rfl, trivial⟩) (fun D G2 hr => ⟨At rfl rfl, trivial⟩) (fun _ _ => rfl) (fun G2 e h' n => AD (v := .agg [.r (.int .i64 (5 : Int)), .r (.int .i64 (0 : Int)), .r (.str [98]), .r (.sl [])]) (C7 rfl CL (.inl rfl) rfl rfl) _),
      ED (n1 := fun n => n + 1) rfl rfl (by intro d h; cases h; rfl) rfl (fun _ => [(24, .agg [.r (.int .i64 (5 : Int)), .r (.int .i64 (0 : Int)), .r (.str [98]), .r (.sl [])])]) (fun _ => []) (fun D G2 hr => ⟨Au hr 4 rfl rfl (by kernel_rfl) rfl rfl, trivial⟩) (fun D G2 hr => trivial) (fun G2 e h' n => B3 118 rfl Ao (f := AE.row) (l := ([(AE.mk 5 0 [98] [])] : List AE)) ⟨rfl, ⟨_, (.inl rfl), rfl⟩, trivial⟩ rfl (fun _ => rfl) rfl),
      ED (n1 := fun n => n + 1) rfl rfl (by intro d h; cases h; rfl) rfl (fun G2 => [(23, .cst (.slice none 0 0)), (25, .own 118 (G2 5))]) (fun G2 => [(118, some (.arr (G2 5) 55 4 ([(AE.mk 5 0 [98] [])].map AE.row)))]) (fun D G2 hr => ⟨Au hr 3 rfl rfl (by kernel_rfl) rfl rfl, Au hr 5 rfl rfl (by kernel_rfl) rfl rfl, trivial⟩) (fun D G2 hr => ⟨F5 hr 5 rfl rfl (by kernel_rfl) (by kernel_rfl) rfl, trivial⟩) (fun G2 e h' n => Jt 119 (f := AE.row) rfl Ao (.inl rfl) (.inr (.inl ⟨_, _, (.inl rfl), rfl⟩)) e8),
      ED (n1 := fun n => n) rfl rfl (by intro d h; cases h) rfl (fun G2 => [(2, .ptr 113 (n1 + 2) 0 0), (26, .own 119 (G2 6))]) (fun G2 => [(113, some (.box (n1 + 2) 24 [.cst (.slice none 0 0)])), (119, some (.arr (G2 6) 55 4 ([(AE.mk 5 0 [98] [])].map AE.row)))]) (fun D G2 hr => ⟨BK rfl rfl, Au hr 6 rfl rfl (by kernel_rfl) rfl rfl, trivial⟩) (fun D G2 hr => ⟨Fs hr (by kernel_rfl) rfl, F5 hr 6 rfl rfl (by kernel_rfl) (by kernel_rfl) rfl, trivial⟩) (fun G2 e h' n => Ba (ds := [.own 119 (G2 6)]) rfl Ke (.inl rfl) rfl (.inl rfl) rfl rfl rfl rfl),
      trivial⟩) fun G2 n2 => ?_
  refine AB.weak (s' := ⟨[(2, .ptr 113 (n1 + 2) 0 0), (3, .ptr 115 (n1 + 4) 0 0), (4, .ptr 116 (n1 + 5) 0 0), (7, .ptr 117 (n1 + 6) 0 0), (14, .own 110 (G1 15)), (15, .r (.int .i64 (1 : Int))), (16, .r (.int .i64 (0 : Int))), (18, .ptr 110 (G1 15) (0 : Int).toNat 0), (19, .agg [.r (.int .i64 (5 : Int)), .r (.int .i64 (0 : Int)), .r (.str [98]), .r (.sl [])]), (20, .mref 114 (n1 + 3)), (21, .ptr 117 (n1 + 6) 0 0), (22, .r (.int .i64 (5 : Int))), (23, .cst (.slice none 0 0)), (24, .agg [.r (.int .i64 (5 : Int)), .r (.int .i64 (0 : Int)), .r (.str [98]), .r (.sl [])]), (25, .own 118 (G2 5)), (26, .own 119 (G2 6))], [(106, some (.mp (n0 + 5) [(0, 0)] [.own 110 (G1 15)] 1)), (107, some (.box (n0 + 6) 82 [.mref 106 (n0 + 5)])), (110, some (.arr (G1 15) 55 4 ([(AE.mk 5 0 [98] [])].map AE.row))), (112, some (.arr (n1 + 1) 55 4 ([(AE.mk 5 0 [98] [])].map AE.row))), (113, some (.box (n1 + 2) 24 [.own 119 (G2 6)])), (114, some (.mp (n1 + 3) [] [] 0)), (115, some (.box (n1 + 4) 63 [.mref 114 (n1 + 3)])), (116, some (.box (n1 + 5) 83 [.fn 44 [.ptr 107 (n0 + 6) 0 0, .ptr 113 (n1 + 2) 0 0, .ptr 115 (n1 + 4) 0 0, .ptr 116 (n1 + 5) 0 0]])), (117, some (.box (n1 + 6) 55 [.r (.int .i64 (5 : Int)), .r (.int .i64 (0 : Int)), .r (.str [98]), .r (.sl [])])), (118, some (.arr (G2 5) 55 4 ([(AE.mk 5 0 [98] [])].map AE.row))), (119, some (.arr (G2 6) 55 4 ([(AE.mk 5 0 [98] [])].map AE.row)))], n2, 32⟩) (by exact AL ⟨.inl (.inl rfl), .inl (.inl rfl), .inl (.inl rfl), .inl (.inl rfl), .inl (.inl rfl), .inl (.inl rfl), .inl (.inl rfl), .inl (.inl rfl), .inl (.inl rfl), .inl (.inl rfl), .inl (.inl rfl), .inl (.inl rfl), .inl (.inl rfl), .inl (.inl rfl), .inl (.inl rfl), .inl (.inl rfl), trivial⟩ ⟨.inl rfl, .inl rfl, .inl rfl, .inl rfl, .inl rfl, .inl rfl, .inl rfl, .inl rfl, .inl rfl, .inl rfl, .inl rfl, trivial⟩ (Nat.le_refl _)) ?_
  refine BG rfl rfl (Gv (.inl rfl) Try.underlying63 Try.underlying3 (.inl rfl) (.inl rfl) (.inl rfl) rfl rfl) ?_
  refine AB.nil ?_
  refine hK59 _ ?_
  refine AW.weak (s' := ⟨[(2, .ptr 113 (n1 + 2) 0 0), (3, .ptr 115 (n1 + 4) 0 0), (4, .ptr 116 (n1 + 5) 0 0), (7, .ptr 117 (n1 + 6) 0 0), (14, .own 110 (G1 15)), (15, .r (.int .i64 (1 : Int))), (16, .r (.int .i64 (0 : Int)))], [(106, some (.mp (n0 + 5) [(0, 0)] [.own 110 (G1 15)] 1)), (107, some (.box (n0 + 6) 82 [.mref 106 (n0 + 5)])), (110, some (.arr (G1 15) 55 4 ([(AE.mk 5 0 [98] [])].map AE.row))), (112, some (.arr (n1 + 1) 55 4 ([(AE.mk 5 0 [98] [])].map AE.row))), (113, some (.box (n1 + 2) 24 [.own 119 (G2 6)])), (114, some (.mp (n1 + 3) [(5, 0)] [.r (.bool true)] 1)), (115, some (.box (n1 + 4) 63 [.mref 114 (n1 + 3)])), (116, some (.box (n1 + 5) 83 [.fn 44 [.ptr 107 (n0 + 6) 0 0, .ptr 113 (n1 + 2) 0 0, .ptr 115 (n1 + 4) 0 0, .ptr 116 (n1 + 5) 0 0]])), (117, some (.box (n1 + 6) 55 [.r (.int .i64 (5 : Int)), .r (.int .i64 (0 : Int)), .r (.str [98]), .r (.sl [])])), (119, some (.arr (G2 6) 55 4 ([(AE.mk 5 0 [98] [])].map AE.row)))], n2, 32⟩) (by exact AL ⟨.inl (.inl rfl), .inl (.inl rfl), .inl (.inl rfl), .inl (.inl rfl), .inl (.inl rfl), .inl (.inl rfl), .inl (.inl rfl), trivial⟩ ⟨.inl rfl, .inl rfl, .inl rfl, .inl rfl, .inl rfl, .inl rfl, .inl rfl, .inl rfl, .inl rfl, .inl rfl, trivial⟩ (Nat.le_refl _)) ?_
  refine AW.region ?_
  refine AB.step rfl rfl rfl (AD (AR (a := .fn 44 [.ptr 107 (n0 + 6) 0 0, .ptr 113 (n1 + 2) 0 0, .ptr 115 (n1 + 4) 0 0, .ptr 116 (n1 + 5) 0 0]) rfl Ig (.inl rfl) rfl rfl) _) ?_
  refine AB.step rfl rfl rfl (AD (AX (ob := .box _ _ _) rfl Bf (.inl rfl) (fun _ => rfl) rfl) _) ?_
  refine AB.step rfl rfl rfl (AD (AR (a := .r (.int .i64 (5 : Int))) rfl Ae (.inl rfl) rfl rfl) _) ?_
  refine DF [.ptr 107 (n0 + 6) 0 0, .ptr 113 (n1 + 2) 0 0, .ptr 115 (n1 + 4) 0 0, .ptr 116 (n1 + 5) 0 0] [.r (.int .i64 (5 : Int))] rfl rfl rfl rfl (.inl rfl) (by exact ⟨(.inl rfl), trivial⟩) Try.func44 rfl rfl Try.ntmps44 rfl fun K60 hK60 => ?_
  refine AH fun K61 hK61 wK61 => ?_
  refine AW.weak (s' := ⟨[(0, .r (.int .i64 (5 : Int))), (1, .ptr 107 (n0 + 6) 0 0), (2, .ptr 113 (n1 + 2) 0 0), (3, .ptr 115 (n1 + 4) 0 0), (4, .ptr 116 (n1 + 5) 0 0)], [(106, some (.mp (n0 + 5) [(0, 0)] [.own 110 (G1 15)] 1)), (107, some (.box (n0 + 6) 82 [.mref 106 (n0 + 5)])), (110, some (.arr (G1 15) 55 4 ([(AE.mk 5 0 [98] [])].map AE.row))), (112, some (.arr (n1 + 1) 55 4 ([(AE.mk 5 0 [98] [])].map AE.row))), (113, some (.box (n1 + 2) 24 [.own 119 (G2 6)])), (114, some (.mp (n1 + 3) [(5, 0)] [.r (.bool true)] 1)), (115, some (.box (n1 + 4) 63 [.mref 114 (n1 + 3)])), (116, some (.box (n1 + 5) 83 [.fn 44 [.ptr 107 (n0 + 6) 0 0, .ptr 113 (n1 + 2) 0 0, .ptr 115 (n1 + 4) 0 0, .ptr 116 (n1 + 5) 0 0]])), (117, some (.box (n1 + 6) 55 [.r (.int .i64 (5 : Int)), .r (.int .i64 (0 : Int)), .r (.str [98]), .r (.sl [])])), (119, some (.arr (G2 6) 55 4 ([(AE.mk 5 0 [98] [])].map AE.row)))], n2, 32⟩) (by exact AL ⟨.inl (.inl rfl), .inl (.inl rfl), .inl (.inl rfl), .inl (.inl rfl), .inl (.inl rfl), trivial⟩ ⟨.inl rfl, .inl rfl, .inl rfl, .inl rfl, .inl rfl, .inl rfl, .inl rfl, .inl rfl, .inl rfl, .inl rfl, trivial⟩ (Nat.le_refl _)) ?_
  refine AW.region ?_
  refine AB.step rfl rfl rfl (AD (AR (a := .mref 106 (n0 + 5)) rfl D1 (.inl rfl) rfl rfl) _) ?_
  refine AB.step rfl rfl rfl (AD (AI rfl (.inl rfl)) _) ?_
  refine AB.step rfl rfl rfl (AD (JI (ks := [(0, 0)]) (vs := [.own 110 (G1 15)]) (a := .cst (.slice none 0 0)) false (.slice none 0 0) rfl Try.underlying82 Try.underlying3 (fun w => by kernel_rfl) (fun y => .cst _) (.inl rfl) (.inl rfl) rfl rfl) _) ?_
  refine DF [] [.cst (.slice none 0 0), .fn 46 []] rfl rfl rfl rfl (.inl rfl) (by exact ⟨(.inl rfl), (.inl rfl), trivial⟩) Try.func45 rfl rfl Try.ntmps45 rfl fun K62 hK62 => ?_
  refine AH fun K63 hK63 wK63 => ?_
  refine AW.weak (s' := ⟨[(0, .cst (.slice none 0 0)), (1, .fn 46 [])], [(106, some (.mp (n0 + 5) [(0, 0)] [.own 110 (G1 15)] 1)), (107, some (.box (n0 + 6) 82 [.mref 106 (n0 + 5)])), (110, some (.arr (G1 15) 55 4 ([(AE.mk 5 0 [98] [])].map AE.row))), (112, some (.arr (n1 + 1) 55 4 ([(AE.mk 5 0 [98] [])].map AE.row))), (113, some (.box (n1 + 2) 24 [.own 119 (G2 6)])), (114, some (.mp (n1 + 3) [(5, 0)] [.r (.bool true)] 1)), (115, some (.box (n1 + 4) 63 [.mref 114 (n1 + 3)])), (116, some (.box (n1 + 5) 83 [.fn 44 [.ptr 107 (n0 + 6) 0 0, .ptr 113 (n1 + 2) 0 0, .ptr 115 (n1 + 4) 0 0, .ptr 116 (n1 + 5) 0 0]])), (117, some (.box (n1 + 6) 55 [.r (.int .i64 (5 : Int)), .r (.int .i64 (0 : Int)), .r (.str [98]), .r (.sl [])])), (119, some (.arr (G2 6) 55 4 ([(AE.mk 5 0 [98] [])].map AE.row)))], n2, 14⟩) (by exact AL ⟨.inl (.inl rfl), .inl (.inl rfl), trivial⟩ ⟨.inl rfl, .inl rfl, .inl rfl, .inl rfl, .inl rfl, .inl rfl, .inl rfl, .inl rfl, .inl rfl, .inl rfl, trivial⟩ (Nat.le_refl _)) ?_
  refine AW.region ?_
  refine AB.step rfl rfl rfl (AD (AI rfl (.inl rfl)) _) ?_
  refine AB.step rfl rfl rfl (AD (Mm rfl Ao.slice (.inl rfl)) _) ?_
  refine AB.step rfl rfl rfl (AD (AK rfl (.inl rfl)) _) ?_
  refine AB.nil ?_
  refine hK63 _ ?_
  refine AW.region ?_
  refine AB.step rfl rfl rfl (AD (AI rfl (.inl rfl)) _) ?_
  refine AB.step rfl rfl rfl (AD (AI rfl (.inl rfl)) _) ?_
  refine AB.step rfl rfl rfl (AD (AI rfl (.inl rfl)) _) ?_
  refine AB.step rfl rfl rfl (AD (Fk rfl Try.underlying3 Try.underlying94 (.inl rfl)) _) ?_
  refine AB.step rfl rfl rfl (A7 (r := .r (.int .i64 0)) (caps := []) (bs := [.r (.int .u64 (0 : Int))]) rfl (.inl rfl) rfl ⟨⟨_, (.inl rfl), .d rfl⟩, trivial⟩ (fun _ => (fun _ : True => QI) (True.intro)) rfl) ?_
  refine AB.step rfl rfl rfl (AD (AI rfl (.inl rfl)) _) ?_
  refine DF [] [.cst (.slice none 0 0), .r (.int .i64 (0 : Int)), .r (.int .i64 (0 : Int)), .r (.int .i64 (0 : Int)), .fn 46 []] rfl rfl rfl rfl (.inl rfl) (by exact ⟨(.inl rfl), (.inl rfl), (.inl rfl), (.inl rfl), (.inl rfl), trivial⟩) Try.func65 rfl rfl Try.ntmps65 rfl fun K64 hK64 => ?_
  refine AH fun K65 hK65 wK65 => ?_
  refine AW.weak (s' := ⟨[(0, .cst (.slice none 0 0)), (1, .r (.int .i64 (0 : Int))), (2, .r (.int .i64 (0 : Int))), (3, .r (.int .i64 (0 : Int))), (4, .fn 46 [])], [(106, some (.mp (n0 + 5) [(0, 0)] [.own 110 (G1 15)] 1)), (107, some (.box (n0 + 6) 82 [.mref 106 (n0 + 5)])), (110, some (.arr (G1 15) 55 4 ([(AE.mk 5 0 [98] [])].map AE.row))), (112, some (.arr (n1 + 1) 55 4 ([(AE.mk 5 0 [98] [])].map AE.row))), (113, some (.box (n1 + 2) 24 [.own 119 (G2 6)])), (114, some (.mp (n1 + 3) [(5, 0)] [.r (.bool true)] 1)), (115, some (.box (n1 + 4) 63 [.mref 114 (n1 + 3)])), (116, some (.box (n1 + 5) 83 [.fn 44 [.ptr 107 (n0 + 6) 0 0, .ptr 113 (n1 + 2) 0 0, .ptr 115 (n1 + 4) 0 0, .ptr 116 (n1 + 5) 0 0]])), (117, some (.box (n1 + 6) 55 [.r (.int .i64 (5 : Int)), .r (.int .i64 (0 : Int)), .r (.str [98]), .r (.sl [])])), (119, some (.arr (G2 6) 55 4 ([(AE.mk 5 0 [98] [])].map AE.row)))], n2, 148⟩) (by exact AL ⟨.inl (.inl rfl), .inl (.inl rfl), .inl (.inl rfl), .inl (.inl rfl), .inl (.inl rfl), trivial⟩ ⟨.inl rfl, .inl rfl, .inl rfl, .inl rfl, .inl rfl, .inl rfl, .inl rfl, .inl rfl, .inl rfl, .inl rfl, trivial⟩ (Nat.le_refl _)) ?_
  refine AW.region ?_
  refine AB.step rfl rfl rfl (AD (AK rfl (.inl rfl)) _) ?_
  refine AB.nil ?_
  refine hK65 _ ?_
  refine AH fun K66 hK66 wK66 => ?_
  refine AW.region ?_
  refine AB.step rfl rfl rfl (AD (AK rfl (.inl rfl)) _) ?_
  refine AB.nil ?_
  refine hK66 _ ?_
  refine AW.block ?_
  refine Ck 9 ?_
  refine BU.step ?_
  refine AW.block ?_
  refine AH fun K67 hK67 wK67 => ?_
  refine AW.region ?_
  refine AB.step rfl rfl rfl (AD (AI rfl (.inl rfl)) _) ?_
  refine AB.step rfl rfl rfl (AD (AI rfl (.inl rfl)) _) ?_
  have e9 : Aw .i64 (0) = some (0 : Int) := by kernel_rfl
  refine AB.step rfl rfl rfl (AD (Es rfl (.inl rfl) (.inl rfl) (fun _ => e9)) _) ?_
  refine AB.step rfl rfl rfl (AD (AK rfl (.inl rfl)) _) ?_
  refine AB.nil ?_
  refine hK67 _ ?_
  refine AH fun K68 hK68 wK68 => ?_
  refine AH fun K69 hK69 wK69 => ?_
  refine AW.region ?_
  refine AB.step rfl rfl rfl (AD (AI rfl (.inl rfl)) _) ?_
  refine AB.step rfl rfl rfl (AD (ET rfl (.inl rfl) (.inl rfl)) _) ?_
  refine AB.nil ?_
  refine hK69 _ ?_
  refine AW.cond rfl (fun hc11 => ?_) (fun hc11 => by cases hc11)
  refine AH fun K70 hK70 wK70 => ?_
  refine AW.weak (s' := ⟨[(0, .cst (.slice none 0 0)), (1, .r (.int .i64 (0 : Int))), (2, .r (.int .i64 (0 : Int))), (4, .fn 46 [])], [(106, some (.mp (n0 + 5) [(0, 0)] [.own 110 (G1 15)] 1)), (107, some (.box (n0 + 6) 82 [.mref 106 (n0 + 5)])), (110, some (.arr (G1 15) 55 4 ([(AE.mk 5 0 [98] [])].map AE.row))), (112, some (.arr (n1 + 1) 55 4 ([(AE.mk 5 0 [98] [])].map AE.row))), (113, some (.box (n1 + 2) 24 [.own 119 (G2 6)])), (114, some (.mp (n1 + 3) [(5, 0)] [.r (.bool true)] 1)), (115, some (.box (n1 + 4) 63 [.mref 114 (n1 + 3)])), (116, some (.box (n1 + 5) 83 [.fn 44 [.ptr 107 (n0 + 6) 0 0, .ptr 113 (n1 + 2) 0 0, .ptr 115 (n1 + 4) 0 0, .ptr 116 (n1 + 5) 0 0]])), (117, some (.box (n1 + 6) 55 [.r (.int .i64 (5 : Int)), .r (.int .i64 (0 : Int)), .r (.str [98]), .r (.sl [])])), (119, some (.arr (G2 6) 55 4 ([(AE.mk 5 0 [98] [])].map AE.row)))], n2, 148⟩) (by exact AL ⟨.inl (.inl rfl), .inl (.inl rfl), .inl (.inl rfl), .inl (.inl rfl), trivial⟩ ⟨.inl rfl, .inl rfl, .inl rfl, .inl rfl, .inl rfl, .inl rfl, .inl rfl, .inl rfl, .inl rfl, .inl rfl, trivial⟩ (Nat.le_refl _)) ?_
  refine AW.region ?_
  refine AB.step rfl rfl rfl (AD (AI rfl (.inl rfl)) _) ?_
  refine AB.step rfl rfl rfl (AD (AI rfl (.inl rfl)) _) ?_
  refine AB.step rfl rfl rfl (AD (AI rfl (.inl rfl)) _) ?_
  refine AB.step rfl rfl rfl (AD (AI rfl (.inl rfl)) _) ?_
  refine DF [] [.cst (.slice none 0 0), .r (.int .i64 (0 : Int)), .r (.int .i64 (0 : Int)), .fn 46 []] rfl rfl rfl rfl (.inl rfl) (by exact ⟨(.inl rfl), (.inl rfl), (.inl rfl), (.inl rfl), trivial⟩) Try.func80 rfl rfl Try.ntmps80 rfl fun K71 hK71 => ?_
  refine AH fun K72 hK72 wK72 => ?_
  refine AW.weak (s' := ⟨[(0, .cst (.slice none 0 0)), (1, .r (.int .i64 (0 : Int))), (2, .r (.int .i64 (0 : Int))), (3, .fn 46 [])], [(106, some (.mp (n0 + 5) [(0, 0)] [.own 110 (G1 15)] 1)), (107, some (.box (n0 + 6) 82 [.mref 106 (n0 + 5)])), (110, some (.arr (G1 15) 55 4 ([(AE.mk 5 0 [98] [])].map AE.row))), (112, some (.arr (n1 + 1) 55 4 ([(AE.mk 5 0 [98] [])].map AE.row))), (113, some (.box (n1 + 2) 24 [.own 119 (G2 6)])), (114, some (.mp (n1 + 3) [(5, 0)] [.r (.bool true)] 1)), (115, some (.box (n1 + 4) 63 [.mref 114 (n1 + 3)])), (116, some (.box (n1 + 5) 83 [.fn 44 [.ptr 107 (n0 + 6) 0 0, .ptr 113 (n1 + 2) 0 0, .ptr 115 (n1 + 4) 0 0, .ptr 116 (n1 + 5) 0 0]])), (117, some (.box (n1 + 6) 55 [.r (.int .i64 (5 : Int)), .r (.int .i64 (0 : Int)), .r (.str [98]), .r (.sl [])])), (119, some (.arr (G2 6) 55 4 ([(AE.mk 5 0 [98] [])].map AE.row)))], n2, 53⟩) (by exact AL ⟨.inl (.inl rfl), .inl (.inl rfl), .inl (.inl rfl), .inl (.inl rfl), trivial⟩ ⟨.inl rfl, .inl rfl, .inl rfl, .inl rfl, .inl rfl, .inl rfl, .inl rfl, .inl rfl, .inl rfl, .inl rfl, trivial⟩ (Nat.le_refl _)) ?_
  refine AW.region ?_
  refine AB.step rfl rfl rfl (AD (AI rfl (.inl rfl)) _) ?_
  have e10 : Aw .i64 (1) = some (1 : Int) := by kernel_rfl
  refine AB.step rfl rfl rfl (AD (BC rfl (.inl rfl) (.inl rfl) (fun _ => e10)) _) ?_
  refine AB.step rfl rfl rfl (AD (AK rfl (.inl rfl)) _) ?_
  refine AB.nil ?_
  refine hK72 _ ?_
  refine AW.block ?_
  refine Ck 9 ?_
  refine BU.step ?_
  refine AH fun K73 hK73 wK73 => ?_
  refine AH fun K74 hK74 wK74 => ?_
  refine AW.region ?_
  refine AB.step rfl rfl rfl (AD (AI rfl (.inl rfl)) _) ?_
  refine AB.step rfl rfl rfl (AD (AI rfl (.inl rfl)) _) ?_
  refine AB.step rfl rfl rfl (AD (Ar rfl (.inl rfl) (.inl rfl)) _) ?_
  refine AB.nil ?_
  refine hK74 _ ?_
  refine AW.cond rfl (fun hc12 => by cases hc12) (fun hc12 => ?_)
  refine AW.exit ?_
  refine FD (.tup []) (⟨_, rfl, trivial⟩) ?_
  refine hK71 _ _ _ ?_
  refine AB.nil ?_
  refine hK70 _ ?_
  refine AW.ret ?_
  refine Bw.intro (.tup []) (⟨_, rfl, trivial⟩) ?_
  refine hK64 _ _ _ ?_
  refine AB.nil ?_
  refine FD (.tup []) (⟨_, rfl, trivial⟩) ?_
  refine hK62 _ _ _ ?_
  refine AB.nil ?_
  refine hK61 _ ?_
  refine AH fun K75 hK75 wK75 => ?_
  refine AW.region ?_
  refine AB.step rfl rfl rfl (AD (AR (a := .mref 106 (n0 + 5)) rfl D1 (.inl rfl) rfl rfl) _) ?_
  refine AB.step rfl rfl rfl (AD (AI rfl (.inl rfl)) _) ?_
  refine AB.step rfl rfl rfl (AD (JI (ks := [(0, 0)]) (vs := [.own 110 (G1 15)]) (a := .cst (.slice none 0 0)) false (.slice none 0 0) rfl Try.underlying82 Try.underlying3 (fun w => by kernel_rfl) (fun y => .cst _) (.inl rfl) (.inl rfl) rfl rfl) _) ?_
  refine AB.step rfl rfl rfl (AD (Mm rfl Ao.slice (.inl rfl)) _) ?_
  refine AB.step rfl rfl rfl (AD (AI rfl (.inl rfl)) _) ?_
  refine AB.nil ?_
  refine hK75 _ ?_
  refine AW.block ?_
  refine Ck 9 ?_
  refine BU.step ?_
  refine AH fun K76 hK76 wK76 => ?_
  refine AW.region ?_
  refine AB.step rfl rfl rfl (AD (Ar rfl (.inl rfl) (.inl rfl)) _) ?_
  refine AB.nil ?_
  refine hK76 _ ?_
  refine AH fun K77 hK77 wK77 => ?_
  refine AW.cond rfl (fun hc13 => by cases hc13) (fun hc13 => ?_)
  refine AW.exit ?_
  refine FD (.tup []) (⟨_, rfl, trivial⟩) ?_
  refine hK60 _ _ _ ?_
  refine AB.nil ?_
  refine hK57 _ ?_
  refine AW.region ?_
  have e11 : Aw .i64 (1) = some (1 : Int) := by kernel_rfl
  refine AB.step rfl rfl rfl (AD (BC rfl (.inl rfl) (.inl rfl) (fun _ => e11)) _) ?_
  refine AB.step rfl rfl rfl (AD (AI rfl (.inl rfl)) _) ?_
  refine AB.nil ?_
  refine BU.step ?_
  refine AH fun K78 hK78 wK78 => ?_
  refine AW.region ?_
  refine AB.step rfl rfl rfl (AD (Ar rfl (.inl rfl) (.inl rfl)) _) ?_
  refine AB.nil ?_
  refine hK78 _ ?_
  refine AH fun K79 hK79 wK79 => ?_
  refine AW.cond rfl (fun hc14 => by cases hc14) (fun hc14 => ?_)
  refine AW.exit ?_
  refine FD (.tup []) (⟨_, rfl, trivial⟩) ?_
  refine hK39 _ _ _ ?_
  refine AB.nil ?_
  refine hK38 _ ?_
  refine AH fun K80 hK80 wK80 => ?_
  refine AW.weak (s' := ⟨[(5, .own 112 (n1 + 1)), (8, .ptr 113 (n1 + 2) 0 0), (9, .ptr 115 (n1 + 4) 0 0)], [(112, some (.arr (n1 + 1) 55 4 ([(AE.mk 5 0 [98] [])].map AE.row))), (113, some (.box (n1 + 2) 24 [.own 119 (G2 6)])), (114, some (.mp (n1 + 3) [(5, 0)] [.r (.bool true)] 1)), (115, some (.box (n1 + 4) 63 [.mref 114 (n1 + 3)])), (119, some (.arr (G2 6) 55 4 ([(AE.mk 5 0 [98] [])].map AE.row)))], n2, 80⟩) (by exact AL ⟨.inl (.inl rfl), .inl (.inl rfl), .inl (.inl rfl), trivial⟩ ⟨.inl rfl, .inl rfl, .inl rfl, .inl rfl, .inl rfl, trivial⟩ (Nat.le_refl _)) ?_
  refine AW.region ?_
  refine AB.step rfl rfl rfl (AD (AI rfl (.inl rfl)) _) ?_
  refine DF [] [.own 112 (n1 + 1), .fn 50 []] rfl rfl rfl rfl (.inl rfl) (by exact ⟨(.inl rfl), (.inl rfl), trivial⟩) Try.func45 rfl rfl Try.ntmps45 rfl fun K81 hK81 => ?_
  refine AH fun K82 hK82 wK82 => ?_
  refine AW.weak (s' := ⟨[(0, .own 112 (n1 + 1)), (1, .fn 50 [])], [(112, some (.arr (n1 + 1) 55 4 ([(AE.mk 5 0 [98] [])].map AE.row))), (113, some (.box (n1 + 2) 24 [.own 119 (G2 6)])), (114, some (.mp (n1 + 3) [(5, 0)] [.r (.bool true)] 1)), (115, some (.box (n1 + 4) 63 [.mref 114 (n1 + 3)])), (119, some (.arr (G2 6) 55 4 ([(AE.mk 5 0 [98] [])].map AE.row)))], n2, 14⟩) (by exact AL ⟨.inl (.inl rfl), .inl (.inl rfl), trivial⟩ ⟨.inl rfl, .inl rfl, .inl rfl, .inl rfl, .inl rfl, trivial⟩ (Nat.le_refl _)) ?_
  refine AW.region ?_
  refine AB.step rfl rfl rfl (AD (AI rfl (.inl rfl)) _) ?_
  refine AB.step rfl rfl rfl (AD (EG rfl Ao.slice (.inl rfl) rfl) _) ?_
  refine AB.step rfl rfl rfl (AD (AK rfl (.inl rfl)) _) ?_
  refine AB.nil ?_
  refine hK82 _ ?_
  refine AW.region ?_
  refine AB.step rfl rfl rfl (AD (AI rfl (.inl rfl)) _) ?_
  refine AB.step rfl rfl rfl (AD (AI rfl (.inl rfl)) _) ?_
  refine AB.step rfl rfl rfl (AD (AI rfl (.inl rfl)) _) ?_
  refine AB.step rfl rfl rfl (AD (Fk rfl Try.underlying3 Try.underlying94 (.inl rfl)) _) ?_
  refine AB.step rfl rfl rfl (A7 (r := .r (.int .i64 1)) (caps := []) (bs := [.r (.int .u64 (1 : Int))]) rfl (.inl rfl) rfl ⟨⟨_, (.inl rfl), .d rfl⟩, trivial⟩ (fun _ => (fun _ : True => Mw) (True.intro)) rfl) ?_
  refine AB.step rfl rfl rfl (AD (AI rfl (.inl rfl)) _) ?_
  refine DF [] [.own 112 (n1 + 1), .r (.int .i64 (0 : Int)), .r (.int .i64 (1 : Int)), .r (.int .i64 (1 : Int)), .fn 50 []] rfl rfl rfl rfl (.inl rfl) (by exact ⟨(.inl rfl), (.inl rfl), (.inl rfl), (.inl rfl), (.inl rfl), trivial⟩) Try.func65 rfl rfl Try.ntmps65 rfl fun K83 hK83 => ?_
  refine AH fun K84 hK84 wK84 => ?_
  refine AW.weak (s' := ⟨[(0, .own 112 (n1 + 1)), (1, .r (.int .i64 (0 : Int))), (2, .r (.int .i64 (1 : Int))), (3, .r (.int .i64 (1 : Int))), (4, .fn 50 [])], [(112, some (.arr (n1 + 1) 55 4 ([(AE.mk 5 0 [98] [])].map AE.row))), (113, some (.box (n1 + 2) 24 [.own 119 (G2 6)])), (114, some (.mp (n1 + 3) [(5, 0)] [.r (.bool true)] 1)), (115, some (.box (n1 + 4) 63 [.mref 114 (n1 + 3)])), (119, some (.arr (G2 6) 55 4 ([(AE.mk 5 0 [98] [])].map AE.row)))], n2, 148⟩) (by exact AL ⟨.inl (.inl rfl), .inl (.inl rfl), .inl (.inl rfl), .inl (.inl rfl), .inl (.inl rfl), trivial⟩ ⟨.inl rfl, .inl rfl, .inl rfl, .inl rfl, .inl rfl, trivial⟩ (Nat.le_refl _)) ?_
  refine AW.region ?_
  refine AB.step rfl rfl rfl (AD (AK rfl (.inl rfl)) _) ?_
  refine AB.nil ?_
  refine hK84 _ ?_
  refine AH fun K85 hK85 wK85 => ?_
  refine AW.region ?_
  refine AB.step rfl rfl rfl (AD (AK rfl (.inl rfl)) _) ?_
  refine AB.nil ?_
  refine hK85 _ ?_
  refine AW.block ?_
  refine Ck 9 ?_
  refine BU.step ?_
  refine AW.block ?_
  refine AH fun K86 hK86 wK86 => ?_
  refine AW.region ?_
  refine AB.step rfl rfl rfl (AD (AI rfl (.inl rfl)) _) ?_
  refine AB.step rfl rfl rfl (AD (AI rfl (.inl rfl)) _) ?_
  have e12 : Aw .i64 (1) = some (1 : Int) := by kernel_rfl
  refine AB.step rfl rfl rfl (AD (Es rfl (.inl rfl) (.inl rfl) (fun _ => e12)) _) ?_
  refine AB.step rfl rfl rfl (AD (AK rfl (.inl rfl)) _) ?_
  refine AB.nil ?_
  refine hK86 _ ?_
  refine AH fun K87 hK87 wK87 => ?_
  refine AH fun K88 hK88 wK88 => ?_
  refine AW.region ?_
  refine AB.step rfl rfl rfl (AD (AI rfl (.inl rfl)) _) ?_
  refine AB.step rfl rfl rfl (AD (ET rfl (.inl rfl) (.inl rfl)) _) ?_
  refine AB.nil ?_
  refine hK88 _ ?_
  refine AW.cond rfl (fun hc15 => ?_) (fun hc15 => by cases hc15)
  refine AH fun K89 hK89 wK89 => ?_
  refine AW.weak (s' := ⟨[(0, .own 112 (n1 + 1)), (1, .r (.int .i64 (0 : Int))), (2, .r (.int .i64 (1 : Int))), (4, .fn 50 [])], [(112, some (.arr (n1 + 1) 55 4 ([(AE.mk 5 0 [98] [])].map AE.row))), (113, some (.box (n1 + 2) 24 [.own 119 (G2 6)])), (114, some (.mp (n1 + 3) [(5, 0)] [.r (.bool true)] 1)), (115, some (.box (n1 + 4) 63 [.mref 114 (n1 + 3)])), (119, some (.arr (G2 6) 55 4 ([(AE.mk 5 0 [98] [])].map AE.row)))], n2, 148⟩) (by exact AL ⟨.inl (.inl rfl), .inl (.inl rfl), .inl (.inl rfl), .inl (.inl rfl), trivial⟩ ⟨.inl rfl, .inl rfl, .inl rfl, .inl rfl, .inl rfl, trivial⟩ (Nat.le_refl _)) ?_
  refine AW.region ?_
  refine AB.step rfl rfl rfl (AD (AI rfl (.inl rfl)) _) ?_
  refine AB.step rfl rfl rfl (AD (AI rfl (.inl rfl)) _) ?_
  refine AB.step rfl rfl rfl (AD (AI rfl (.inl rfl)) _) ?_
  refine AB.step rfl rfl rfl (AD (AI rfl (.inl rfl)) _) ?_
  refine DF [] [.own 112 (n1 + 1), .r (.int .i64 (0 : Int)), .r (.int .i64 (1 : Int)), .fn 50 []] rfl rfl rfl rfl (.inl rfl) (by exact ⟨(.inl rfl), (.inl rfl), (.inl rfl), (.inl rfl), trivial⟩) Try.func80 rfl rfl Try.ntmps80 rfl fun K90 hK90 => ?_
  refine AH fun K91 hK91 wK91 => ?_
  refine AW.weak (s' := ⟨[(0, .own 112 (n1 + 1)), (1, .r (.int .i64 (0 : Int))), (2, .r (.int .i64 (1 : Int))), (3, .fn 50 [])], [(112, some (.arr (n1 + 1) 55 4 ([(AE.mk 5 0 [98] [])].map AE.row))), (113, some (.box (n1 + 2) 24 [.own 119 (G2 6)])), (114, some (.mp (n1 + 3) [(5, 0)] [.r (.bool true)] 1)), (115, some (.box (n1 + 4) 63 [.mref 114 (n1 + 3)])), (119, some (.arr (G2 6) 55 4 ([(AE.mk 5 0 [98] [])].map AE.row)))], n2, 53⟩) (by exact AL ⟨.inl (.inl rfl), .inl (.inl rfl), .inl (.inl rfl), .inl (.inl rfl), trivial⟩ ⟨.inl rfl, .inl rfl, .inl rfl, .inl rfl, .inl rfl, trivial⟩ (Nat.le_refl _)) ?_
  refine AW.region ?_
  refine AB.step rfl rfl rfl (AD (AI rfl (.inl rfl)) _) ?_
  have e13 : Aw .i64 (1) = some (1 : Int) := by kernel_rfl
  refine AB.step rfl rfl rfl (AD (BC rfl (.inl rfl) (.inl rfl) (fun _ => e13)) _) ?_
  refine AB.step rfl rfl rfl (AD (AK rfl (.inl rfl)) _) ?_
  refine AB.nil ?_
  refine hK91 _ ?_
  refine AW.block ?_
  refine Ck 9 ?_
  refine BU.step ?_
  refine AH fun K92 hK92 wK92 => ?_
  refine AH fun K93 hK93 wK93 => ?_
  refine AW.region ?_
  refine AB.step rfl rfl rfl (AD (AI rfl (.inl rfl)) _) ?_
  refine AB.step rfl rfl rfl (AD (AI rfl (.inl rfl)) _) ?_
  refine AB.step rfl rfl rfl (AD (Ar rfl (.inl rfl) (.inl rfl)) _) ?_
  refine AB.nil ?_
  refine hK93 _ ?_
  refine AW.cond rfl (fun hc16 => by cases hc16) (fun hc16 => ?_)
  refine AW.exit ?_
  refine FD (.tup []) (⟨_, rfl, trivial⟩) ?_
  refine hK90 _ _ _ ?_
  refine AB.nil ?_
  refine hK89 _ ?_
  refine AW.ret ?_
  refine Bw.intro (.tup []) (⟨_, rfl, trivial⟩) ?_
  refine hK83 _ _ _ ?_
  refine AB.nil ?_
  refine FD (.tup []) (⟨_, rfl, trivial⟩) ?_
  refine hK81 _ _ _ ?_
  refine AB.nil ?_
  refine hK80 _ ?_
  refine AH fun K94 hK94 wK94 => ?_
  refine AH fun K95 hK95 wK95 => ?_
  refine AW.region ?_
  refine AB.step rfl rfl rfl (AD (AI rfl (.inl rfl)) _) ?_
  refine AB.step rfl rfl rfl (AD (EG rfl Ao.slice (.inl rfl) rfl) _) ?_
  refine AB.step rfl rfl rfl (AD (AI rfl (.inl rfl)) _) ?_
  refine AB.nil ?_
  refine hK95 _ ?_
  refine AW.block ?_
  refine Ck 9 ?_
  refine BU.step ?_
  refine AH fun K96 hK96 wK96 => ?_
  refine AW.region ?_
  refine AB.step rfl rfl rfl (AD (Ar rfl (.inl rfl) (.inl rfl)) _) ?_
  refine AB.nil ?_
  refine hK96 _ ?_
  refine AH fun K97 hK97 wK97 => ?_
  refine AW.cond rfl (fun hc17 => ?_) (fun hc17 => by cases hc17)
  refine AW.skip ?_
  refine hK97 _ ?_
  refine AH fun K98 hK98 wK98 => ?_
  refine AW.block ?_
  refine AH fun K99 hK99 wK99 => ?_
  refine AW.region ?_
  have e14 : @Ak (AE) [(AE.mk 5 0 [98] [])] 0 = some (AE.mk 5 0 [98] []) := by kernel_rfl
  refine AB.step rfl rfl rfl (AD (EO rfl Ao.slice (.inl rfl) rfl (.inl rfl) (fun _ => e14)) _) ?_
  refine AB.step rfl rfl rfl (AD (KP (cs := [.r (.int .i64 ((AE.mk 5 0 [98] []).Item)), .r (.int .i64 ((AE.mk 5 0 [98] []).Parent)), .r (.str ((AE.mk 5 0 [98] []).Place)), .r (.sl (((AE.mk 5 0 [98] []).Attrs).map AG.row))]) rfl CL (.inl rfl) (fun _ => rfl) (fun _ => e14) rfl) _) ?_
  refine AB.step rfl rfl rfl (Bs (cs := [.r (.int .i64 (0 : Int)), .r (.int .i64 (0 : Int)), .r (.str []), .cst (.slice none 0 0)]) 120 rfl Fe rfl rfl) ?_
  refine BG rfl rfl (Ba (ds := [.r (.int .i64 (5 : Int)), .r (.int .i64 (0 : Int)), .r (.str [98]), .r (.sl [])]) rfl E6 (.inl rfl) rfl (.inl rfl) rfl rfl rfl rfl) ?_
  refine AB.nil ?_
  refine hK99 _ ?_
  refine AH fun K100 hK100 wK100 => ?_
  refine AW.region ?_
  refine AB.step rfl rfl rfl (AD (AR (a := .mref 114 (n1 + 3)) rfl IL (.inl rfl) rfl rfl) _) ?_
  refine AB.step rfl rfl rfl (AD (AX (ob := .box _ _ _) rfl Bf (.inl rfl) (fun _ => rfl) rfl) _) ?_
  refine AB.step rfl rfl rfl (AD (AR (a := .r (.int .i64 (5 : Int))) rfl Ae (.inl rfl) rfl rfl) _) ?_
  refine AB.step rfl rfl rfl (AD (JK (ks := [(5, 0)]) (vs := [.r (.bool true)]) false (.bool false) rfl Try.underlying63 Try.underlying3 (fun w => by kernel_rfl) (.inl rfl) (.inl rfl) rfl rfl rfl) _) ?_
  refine AB.step rfl rfl rfl (AD (Bi rfl (.inl rfl)) _) ?_
  refine AB.nil ?_
  refine hK100 _ ?_
  refine AW.cond rfl (fun hc18 => by cases hc18) (fun hc18 => ?_)
  refine AW.skip ?_
  refine hK98 _ ?_
  refine AW.weak (s' := ⟨[(8, .ptr 113 (n1 + 2) 0 0), (9, .ptr 115 (n1 + 4) 0 0), (63, .own 112 (n1 + 1)), (64, .r (.int .i64 (1 : Int))), (65, .r (.int .i64 (0 : Int)))], [(112, some (.arr (n1 + 1) 55 4 ([(AE.mk 5 0 [98] [])].map AE.row))), (113, some (.box (n1 + 2) 24 [.own 119 (G2 6)])), (114, some (.mp (n1 + 3) [(5, 0)] [.r (.bool true)] 1)), (115, some (.box (n1 + 4) 63 [.mref 114 (n1 + 3)])), (119, some (.arr (G2 6) 55 4 ([(AE.mk 5 0 [98] [])].map AE.row)))], (n2 + 1), 80⟩) (by exact AL ⟨.inl (.inl rfl), .inl (.inl rfl), .inl (.inl rfl), .inl (.inl rfl), .inl (.inl rfl), trivial⟩ ⟨.inl rfl, .inl rfl, .inl rfl, .inl rfl, .inl rfl, trivial⟩ (Nat.le_refl _)) ?_
  refine AW.region ?_
  have e15 : Aw .i64 (1) = some (1 : Int) := by kernel_rfl
  refine AB.step rfl rfl rfl (AD (BC rfl (.inl rfl) (.inl rfl) (fun _ => e15)) _) ?_
  refine AB.step rfl rfl rfl (AD (AI rfl (.inl rfl)) _) ?_
  refine AB.nil ?_
  refine BU.step ?_
  refine AH fun K101 hK101 wK101 => ?_
  refine AW.region ?_
  refine AB.step rfl rfl rfl (AD (Ar rfl (.inl rfl) (.inl rfl)) _) ?_
  refine AB.nil ?_
  refine hK101 _ ?_
  refine AH fun K102 hK102 wK102 => ?_
  refine AW.cond rfl (fun hc19 => by cases hc19) (fun hc19 => ?_)
  refine AW.exit ?_
  refine hK94 _ ?_
  refine AH fun K103 hK103 wK103 => ?_
  refine AW.region ?_
  refine AB.step rfl rfl rfl (AD (AR (a := .own 119 (G2 6)) rfl H3 (.inl rfl) rfl rfl) _) ?_
  refine AB.step rfl rfl rfl (AD (AK rfl (.inl rfl)) _) ?_
  refine AB.nil ?_
  refine hK103 _ ?_
  refine AW.ret ?_
  exact Am (P := Try.prog) (fun (r : List AE) => .r (.sl (r.map AE.row))) (rfl : some ([(AE.mk 5 0 [98] [])] : List AE) = some [(AE.mk 5 0 [98] [])]) (.inl rfl) (.t (.one (.own rfl)))
set_option maxHeartbeats 40000000 in
set_option maxRecDepth 100000 in
theorem Sb : Af Try.prog 8 [.r (.sl ([(AP.mk 1 1 0 5 0 [98] [] [])].map AP.row))] (.tup [.r (.sl ([(AE.mk 5 0 [98] [])].map AE.row)), .r (.int .i64 (0 : Int))]) := by
  refine A6 Try.func8 rfl rfl Try.ntmps8 rfl (Nat.le_of_ble_eq_true rfl) fun n0 => ?_
  refine AH fun K1 hK1 wK1 => ?_
  refine AW.region ?_
  refine AB.step rfl rfl rfl (AD (AK rfl (.inl rfl)) _) ?_
  refine AB.step rfl rfl rfl (AD (AK rfl (.inl rfl)) _) ?_
  refine AB.nil ?_
  refine hK1 _ ?_
  refine AH fun K2 hK2 wK2 => ?_
  refine AH fun K3 hK3 wK3 => ?_
  refine AW.region ?_
  refine AB.step rfl rfl rfl (AD (AI rfl (.inl rfl)) _) ?_
  refine AB.step rfl rfl rfl (A7 (r := .r (.int .i64 0)) (caps := []) (bs := [.r (.sl ([(AP.mk 1 1 0 5 0 [98] [] [])].map AP.row))]) rfl (.inl rfl) rfl ⟨⟨_, (.inl rfl), .d rfl⟩, trivial⟩ (fun _ => (fun _ : True => QA) (True.intro)) rfl) ?_
  refine AB.step rfl rfl rfl (AD (AK rfl (.inl rfl)) _) ?_
  refine AB.nil ?_
  refine hK3 _ ?_
  refine AH fun K4 hK4 wK4 => ?_
  refine AW.region ?_
  refine AB.step rfl rfl rfl (AD (AI rfl (.inl rfl)) _) ?_
  refine AB.step rfl rfl rfl (AD (Bq rfl (.inl rfl) (.inl rfl)) _) ?_
  refine AB.nil ?_
  refine hK4 _ ?_
  refine AW.cond rfl (fun hc1 => by cases hc1) (fun hc1 => ?_)
  refine AW.skip ?_
  refine hK2 _ ?_
  refine AH fun K5 hK5 wK5 => ?_
  refine AW.region ?_
  refine AB.step rfl rfl rfl (AD (AI rfl (.inl rfl)) _) ?_
  refine AB.step rfl rfl rfl (Dw (r := .r (.sl ([(AE.mk 5 0 [98] [])].map AE.row))) (caps := []) (bs := [.r (.sl ([(AP.mk 1 1 0 5 0 [98] [] [])].map AP.row))]) rfl (.inl rfl) rfl ⟨.inl ⟨(.inl rfl), rfl⟩, trivial⟩ (fun _ => (fun _ : True => Qf) (True.intro))) ?_
  refine AB.step rfl rfl rfl (AD (AK rfl (.inl rfl)) _) ?_
  refine AB.step rfl rfl rfl (AD (AK rfl (.inl rfl)) _) ?_
  refine AB.nil ?_
  refine hK5 _ ?_
  refine AW.ret ?_
  exact HS (P := Try.prog) (fun (r : (List AE) × Int) => .r (.sl (r.1.map AE.row))) (fun (r : (List AE) × Int) => .r (.int .i64 r.2)) (rfl : some (([(AE.mk 5 0 [98] [])], 0) : (List AE) × Int) = some ([(AE.mk 5 0 [98] [])], 0)) (.inl rfl) (.t (.d rfl)) (.t (.d rfl))
set_option maxHeartbeats 40000000 in
set_option maxRecDepth 100000 in
theorem ON : Af Try.prog 12 [.r (.sl ([(AE.mk 5 0 [98] [])].map AE.row))] (.r (.int .i64 (1 : Int))) := by
  refine A6 Try.func12 rfl rfl Try.ntmps12 rfl (Nat.le_of_ble_eq_true rfl) fun n0 => ?_
  refine AH fun K1 hK1 wK1 => ?_
  refine AW.region ?_
  refine AB.step rfl rfl rfl (AD (AK rfl (.inl rfl)) _) ?_
  refine AB.nil ?_
  refine hK1 _ ?_
  refine AH fun K2 hK2 wK2 => ?_
  refine AW.region ?_
  refine AB.step rfl rfl rfl (Gt 101 rfl) ?_
  refine BG rfl rfl (Gv (.inr rfl) Try.underlying63 Try.underlying3 (.inl rfl) (.inl rfl) (.inl rfl) rfl rfl) ?_
  refine AB.step rfl rfl rfl (AD (AI rfl (.inl rfl)) _) ?_
  refine AB.step rfl rfl rfl (AD (AK rfl (.inl rfl)) _) ?_
  refine AB.nil ?_
  refine hK2 _ ?_
  refine AH fun K3 hK3 wK3 => ?_
  refine AH fun K4 hK4 wK4 => ?_
  refine AW.region ?_
  refine AB.step rfl rfl rfl (AD (AI rfl (.inl rfl)) _) ?_
  refine AB.step rfl rfl rfl (AD (BO rfl Ao.slice (.inl rfl)) _) ?_
  refine AB.step rfl rfl rfl (AD (AI rfl (.inl rfl)) _) ?_
  refine AB.nil ?_
  refine hK4 _ ?_
  refine AW.block ?_
  refine Ck 9 ?_
  refine BU.step ?_
  refine AH fun K5 hK5 wK5 => ?_
  refine AW.region ?_
  refine AB.step rfl rfl rfl (AD (Ar rfl (.inl rfl) (.inl rfl)) _) ?_
  refine AB.nil ?_
  refine hK5 _ ?_
  refine AH fun K6 hK6 wK6 => ?_
  refine AW.cond rfl (fun hc1 => ?_) (fun hc1 => by cases hc1)
  refine AW.skip ?_
  refine hK6 _ ?_
  refine AH fun K7 hK7 wK7 => ?_
  refine AW.block ?_
  refine AH fun K8 hK8 wK8 => ?_
  refine AW.region ?_
  refine AB.step rfl rfl rfl (AD (AI rfl (.inl rfl)) _) ?_
  have e1 : @Ak (AE) [(AE.mk 5 0 [98] [])] 0 = some (AE.mk 5 0 [98] []) := by kernel_rfl
  refine AB.step rfl rfl rfl (AD (A5 rfl Ao.slice (.inl rfl) (.inl rfl) (fun _ => rfl) (fun _ => e1)) _) ?_
  refine AB.step rfl rfl rfl (AD (Be (cs := [.r (.int .i64 ((AE.mk 5 0 [98] []).Item)), .r (.int .i64 ((AE.mk 5 0 [98] []).Parent)), .r (.str ((AE.mk 5 0 [98] []).Place)), .r (.sl (((AE.mk 5 0 [98] []).Attrs).map AG.row))]) rfl CL (.inl rfl) rfl rfl) _) ?_
  refine AB.step rfl rfl rfl (Bs (cs := [.r (.int .i64 (0 : Int)), .r (.int .i64 (0 : Int)), .r (.str []), .cst (.slice none 0 0)]) 102 rfl Fe rfl rfl) ?_
  refine AB.step rfl rfl rfl (AD (AK rfl (.inl rfl)) _) ?_
  refine BG rfl rfl (Ba (ds := [.r (.int .i64 (5 : Int)), .r (.int .i64 (0 : Int)), .r (.str [98]), .r (.sl [])]) rfl E6 (.inl rfl) rfl (.inl rfl) rfl rfl rfl rfl) ?_
  refine AB.nil ?_
  refine hK8 _ ?_
  refine AH fun K9 hK9 wK9 => ?_
  refine AH fun K10 hK10 wK10 => ?_
  refine AW.region ?_
  refine AB.step rfl rfl rfl (AD (AI rfl (.inl rfl)) _) ?_
  refine AB.step rfl rfl rfl (AD (AX (ob := .box _ _ _) rfl Dd (.inl rfl) (fun _ => rfl) rfl) _) ?_
  refine AB.step rfl rfl rfl (AD (AR (a := .r (.int .i64 (0 : Int))) rfl Ae (.inl rfl) rfl rfl) _) ?_
  refine AB.step rfl rfl rfl (AD (JK (ks := [(0, 0)]) (vs := [.r (.bool true)]) false (.bool false) rfl Try.underlying63 Try.underlying3 (fun w => by kernel_rfl) (.inl rfl) (.inl rfl) rfl rfl rfl) _) ?_
  refine AB.step rfl rfl rfl (AD (Bi rfl (.inl rfl)) _) ?_
  refine AB.nil ?_
  refine hK10 _ ?_
  refine AW.cond rfl (fun hc2 => by cases hc2) (fun hc2 => ?_)
  refine AW.skip ?_
  refine hK9 _ ?_
  refine AW.weak (s' := ⟨[(0, .r (.sl ([(AE.mk 5 0 [98] [])].map AE.row))), (3, .mref 101 n0), (5, .ptr 102 (n0 + 1) 0 0), (8, .r (.sl ([(AE.mk 5 0 [98] [])].map AE.row))), (9, .r (.int .i64 (1 : Int))), (10, .r (.int .i64 (0 : Int)))], [(101, some (.mp n0 [(0, 0)] [.r (.bool true)] 1)), (102, some (.box (n0 + 1) 55 [.r (.int .i64 (5 : Int)), .r (.int .i64 (0 : Int)), .r (.str [98]), .r (.sl [])]))], (n0 + 2), 27⟩) (by exact AL ⟨.inl (.inl rfl), .inl (.inl rfl), .inl (.inl rfl), .inl (.inl rfl), .inl (.inl rfl), .inl (.inl rfl), trivial⟩ ⟨.inl rfl, .inl rfl, trivial⟩ (Nat.le_refl _)) ?_
  refine AW.region ?_
  refine AB.step rfl rfl rfl (AD (AI rfl (.inl rfl)) _) ?_
  refine AB.step rfl rfl rfl (AD (AX (ob := .box _ _ _) rfl Bf (.inl rfl) (fun _ => rfl) rfl) _) ?_
  refine AB.step rfl rfl rfl (AD (AR (a := .r (.int .i64 (5 : Int))) rfl Ae (.inl rfl) rfl rfl) _) ?_
  refine BG rfl rfl (Gv (.inl rfl) Try.underlying63 Try.underlying3 (.inl rfl) (.inl rfl) (.inl rfl) rfl rfl) ?_
  refine AB.nil ?_
  refine hK7 _ ?_
  refine AW.region ?_
  have e2 : Aw .i64 (1) = some (1 : Int) := by kernel_rfl
  refine AB.step rfl rfl rfl (AD (BC rfl (.inl rfl) (.inl rfl) (fun _ => e2)) _) ?_
  refine AB.step rfl rfl rfl (AD (AI rfl (.inl rfl)) _) ?_
  refine AB.nil ?_
  refine BU.step ?_
  refine AH fun K11 hK11 wK11 => ?_
  refine AW.region ?_
  refine AB.step rfl rfl rfl (AD (Ar rfl (.inl rfl) (.inl rfl)) _) ?_
  refine AB.nil ?_
  refine hK11 _ ?_
  refine AH fun K12 hK12 wK12 => ?_
  refine AW.cond rfl (fun hc3 => by cases hc3) (fun hc3 => ?_)
  refine AW.exit ?_
  refine hK3 _ ?_
  refine AH fun K13 hK13 wK13 => ?_
  refine AW.weak (s' := ⟨[(0, .r (.sl ([(AE.mk 5 0 [98] [])].map AE.row)))], [], (n0 + 2), 27⟩) (by exact AL ⟨.inl (.inl rfl), trivial⟩ trivial (Nat.le_refl _)) ?_
  refine AW.region ?_
  refine AB.step rfl rfl rfl (AD (AI rfl (.inl rfl)) _) ?_
  refine AB.step rfl rfl rfl (AD (BO rfl Ao.slice (.inl rfl)) _) ?_
  refine AB.step rfl rfl rfl (AD (AK rfl (.inl rfl)) _) ?_
  refine AB.nil ?_
  refine hK13 _ ?_
  refine AW.ret ?_
  exact Am (P := Try.prog) (fun (r : Int) => .r (.int .i64 r)) (rfl : some (1 : Int) = some 1) (.inl rfl) (.t (.d rfl))
set_option maxHeartbeats 40000000 in
set_option maxRecDepth 100000 in
theorem N0 {r : Bool} (h : Iz = some r) : Af Try.prog 7 [] (.r (.bool r)) := by
  unfold Iz at h
  refine A6 Try.func7 rfl rfl Try.ntmps7 rfl (Nat.le_of_ble_eq_true rfl) fun n0 => ?_
  refine AH fun K1 hK1 wK1 => ?_
  refine AW.region ?_
  refine AB.step rfl rfl rfl (AD (AK rfl (.inl rfl)) _) ?_
  refine AB.nil ?_
  refine hK1 _ ?_
  refine AH fun K2 hK2 wK2 => ?_
  refine AW.region ?_
  refine AB.step rfl rfl rfl (AD (DO rfl PJ (q := [(0, _), (1, _), (3, _), (5, _)]) (by exact ⟨rfl, rfl, rfl, (.inl rfl), rfl, rfl, rfl, (.inl rfl), rfl, rfl, rfl, (.inl rfl), rfl, rfl, rfl, (.inl rfl), trivial⟩) (cs := [.r (.int .i64 (1 : Int)), .r (.int .i64 (1 : Int)), .r (.int .i64 (0 : Int)), .r (.int .i64 (5 : Int)), .r (.int .i64 (0 : Int)), .r (.str [98]), .r (.str []), .r (.str [])]) (by rfl)) _) ?_
  refine AB.step rfl rfl rfl (B3 101 rfl Cc (f := AP.row) (l := ([(AP.mk 1 1 0 5 0 [98] [] [])] : List AP)) ⟨rfl, ⟨_, (.inl rfl), rfl⟩, trivial⟩ rfl (fun _ => rfl) rfl) ?_
  refine AB.weak (by exact AJ.frz (e' := [(0, .r (.bool false)), (4, .agg [.r (.int .i64 (1 : Int)), .r (.int .i64 (1 : Int)), .r (.int .i64 (0 : Int)), .r (.int .i64 (5 : Int)), .r (.int .i64 (0 : Int)), .r (.str [98]), .r (.str []), .r (.str [])]), (5, .r (.sl ([(AP.mk 1 1 0 5 0 [98] [] [])].map AP.row)))]) (h' := []) 101 rfl ⟨.inl (.inl rfl), .inl (.inl rfl), .inl (.inr (.inr ⟨rfl, rfl⟩)), trivial⟩ trivial) ?_
  refine AB.step rfl rfl rfl (Dw (r := .tup [.r (.sl ([(AE.mk 5 0 [98] [])].map AE.row)), .r (.int .i64 0)]) (caps := []) (bs := [.r (.sl ([(AP.mk 1 1 0 5 0 [98] [] [])].map AP.row))]) rfl (.inl rfl) rfl ⟨.inl ⟨(.inl rfl), rfl⟩, trivial⟩ (fun _ => (fun _ : True => Sb) (True.intro))) ?_
  refine AB.step rfl rfl rfl (AD (AI rfl (.inl rfl)) _) ?_
  refine AB.step rfl rfl rfl (AD (CJ (a := .r (.sl ([(AE.mk 5 0 [98] [])].map AE.row))) rfl (.inl rfl) rfl) _) ?_
  refine AB.step rfl rfl rfl (AD (CJ (a := .r (.int .i64 (0 : Int))) rfl (.inl rfl) rfl) _) ?_
  refine AB.step rfl rfl rfl (AD (AK rfl (.inl rfl)) _) ?_
  refine AB.step rfl rfl rfl (AD (AK rfl (.inl rfl)) _) ?_
  refine AB.nil ?_
  refine hK2 _ ?_
  refine AH fun K3 hK3 wK3 => ?_
  refine AW.region ?_
  refine AB.step rfl rfl rfl (AD (AI rfl (.inl rfl)) _) ?_
  refine AB.step rfl rfl rfl (AD (BH rfl (.inl rfl) (.inl rfl)) _) ?_
  refine AB.step rfl rfl rfl (AD (AI rfl (.inl rfl)) _) ?_
  refine Ax (.one rfl rfl rfl) rfl rfl rfl (AD (AI rfl (.inl rfl)) _) ?_
  refine Ax (.one rfl rfl rfl) rfl rfl rfl (AD (BO rfl Ao.slice (.inl rfl)) _) ?_
  refine Ax (.one rfl rfl rfl) rfl rfl rfl (AD (BH rfl (.inl rfl) (.inl rfl)) _) ?_
  refine AB.step rfl rfl rfl (AD (A0 rfl (.inl rfl) (.inl rfl)) _) ?_
  refine AB.step rfl rfl rfl (AD (AI rfl (.inl rfl)) _) ?_
  refine Ax (.one rfl rfl rfl) rfl rfl rfl (AD (AI rfl (.inl rfl)) _) ?_
  have e1 : @Ak (AE) [(AE.mk 5 0 [98] [])] 0 = some (AE.mk 5 0 [98] []) := by kernel_rfl
  refine Ax (.one rfl rfl rfl) rfl rfl rfl (AD (A5 rfl Ao.slice (.inl rfl) (.inl rfl) (fun _ => rfl) (fun _ => e1)) _) ?_
  refine Ax (.one rfl rfl rfl) rfl rfl rfl (AD (CK rfl Bf (.inl rfl)) _) ?_
  refine Ax (.one rfl rfl rfl) rfl rfl rfl (AD (CE (d := .int .i64 ((AE.mk 5 0 [98] []).Item)) rfl Ae (.inl rfl) rfl) _) ?_
  refine Ax (.one rfl rfl rfl) rfl rfl rfl (AD (BH rfl (.inl rfl) (.inl rfl)) _) ?_
  refine AB.step rfl rfl rfl (AD (A0 rfl (.inl rfl) (.inl rfl)) _) ?_
  refine AB.step rfl rfl rfl (AD (AI rfl (.inl rfl)) _) ?_
  refine Ax (.one rfl rfl rfl) rfl rfl rfl (AD (AI rfl (.inl rfl)) _) ?_
  refine Ax (.one rfl rfl rfl) rfl rfl rfl (A7 (r := .r (.int .i64 1)) (caps := []) (bs := [.r (.sl ([(AE.mk 5 0 [98] [])].map AE.row))]) rfl (.inl rfl) rfl ⟨⟨_, (.inl rfl), .d rfl⟩, trivial⟩ (fun _ => (fun _ : True => ON) (True.intro)) rfl) ?_
  refine Ax (.one rfl rfl rfl) rfl rfl rfl (AD (BH rfl (.inl rfl) (.inl rfl)) _) ?_
  refine AB.step rfl rfl rfl (AD (A0 rfl (.inl rfl) (.inl rfl)) _) ?_
  refine AB.step rfl rfl rfl (AD (AK rfl (.inl rfl)) _) ?_
  refine AB.nil ?_
  refine hK3 _ ?_
  refine AW.ret ?_
  exact Am (P := Try.prog) (fun (r : Bool) => .r (.bool r)) h (.inl rfl) (.t (.d rfl))
theorem P4 {s1 : List UInt8} {r : Bool} (h : G9 s1 = some r) : Af Try.prog 13 [.r (.str s1)] (.r (.bool r)) := by
  unfold G9 at h
  refine A6 Try.func13 rfl rfl Try.ntmps13 rfl (Nat.le_of_ble_eq_true rfl) fun n0 => ?_
  refine AH fun K1 hK1 wK1 => ?_
  refine AW.region ?_
  refine AB.step rfl rfl rfl (AD (AK rfl (.inl rfl)) _) ?_
  refine AB.nil ?_
  refine hK1 _ ?_
  refine AH fun K2 hK2 wK2 => ?_
  refine AH fun K3 hK3 wK3 => ?_
  refine AW.region ?_
  refine AB.step rfl rfl rfl (AD (AI rfl (.inl rfl)) _) ?_
  refine AB.step rfl rfl rfl (AD (Et rfl (.inl rfl) (.inl rfl)) _) ?_
  refine AB.step rfl rfl rfl (AD (AI rfl (.inl rfl)) _) ?_
  refine AB.stepW (.one rfl rfl rfl) rfl rfl (AD (AI rfl (.inl rfl)) _) ?_
  refine AB.stepW (.one rfl rfl rfl) rfl rfl (AD (B9 rfl Try.underlying9 (.inr ⟨_, (by exact id), rfl⟩)) _) ?_
  refine AB.stepW (.one rfl rfl rfl) rfl rfl (AD (BT rfl (.inr ⟨_, (by exact id), rfl⟩) (.inl rfl)) _) ?_
  refine AB.step rfl rfl rfl (AD (A3 rfl (.inl rfl) (.inr ⟨_, (by exact id), rfl⟩)) _) ?_
  refine AB.step rfl rfl rfl (AD (AI rfl (.inl rfl)) _) ?_
  refine AB.stepW (.one rfl rfl rfl) rfl rfl (AD (AI rfl (.inl rfl)) _) ?_
  refine AB.stepW (.one rfl rfl rfl) rfl rfl (AD (AI rfl (.inl rfl)) _) ?_
  refine AB.stepW (.one rfl rfl rfl) rfl rfl (AD (B9 rfl Try.underlying9 (.inr ⟨_, (by exact id), rfl⟩)) _) ?_
  refine AU h fun x1 ex1 h1 => ?_
  refine AB.stepW (.one rfl rfl rfl) rfl rfl (AD (Es rfl (.inr ⟨_, (by exact id), rfl⟩) (.inl rfl) (BL ex1)) _) ?_
  refine AU h1 fun ch1 ech1 h2 => ?_
  refine AB.stepW (.one rfl rfl rfl) rfl rfl (AD (Bg rfl Try.underlying9 (.inr ⟨_, (by exact id), rfl⟩) (.inr ⟨_, (by exact id), rfl⟩) (BL ech1)) _) ?_
  refine AB.stepW (.one rfl rfl rfl) rfl rfl (AD (BH rfl (.inr ⟨_, (by exact id), rfl⟩) (.inl rfl)) _) ?_
  refine AB.step rfl rfl rfl (AD (A3 rfl (.inl rfl) (.inr ⟨_, (by exact id), rfl⟩)) _) ?_
  refine AB.nil ?_
  refine hK3 _ ?_
  refine AW.cond rfl (fun hc1 => ?_) (fun hc1 => ?_)
  · have h3 := Ag hc1 h2
    refine AH fun K4 hK4 wK4 => ?_
    refine AW.weak (s' := ⟨[], [], n0, 35⟩) (by exact AL trivial trivial (Nat.le_refl _)) ?_
    refine AW.region ?_
    refine AB.step rfl rfl rfl (AD (AK rfl (.inl rfl)) _) ?_
    refine AB.nil ?_
    refine hK4 _ ?_
    refine AW.ret ?_
    exact Am (P := Try.prog) (fun (r : Bool) => .r (.bool r)) h3 (.inl rfl) (.t (.d rfl))
  · have h3 := Ah hc1 h2
    refine AW.skip ?_
    refine hK2 _ ?_
    refine AH fun K5 hK5 wK5 => ?_
    refine AH fun K6 hK6 wK6 => ?_
    refine AW.weak (s' := ⟨[(0, .r (.str s1))], [], n0, 35⟩) (by exact AL ⟨.inl (.inl rfl), trivial⟩ trivial (Nat.le_refl _)) ?_
    refine AW.region ?_
    refine AB.step rfl rfl rfl (AD (AI rfl (.inl rfl)) _) ?_
    refine AB.step rfl rfl rfl (AD (B9 rfl Try.underlying9 (.inl rfl)) _) ?_
    refine AB.step rfl rfl rfl (AD (AI rfl (.inl rfl)) _) ?_
    refine AB.nil ?_
    refine hK6 _ ?_
    refine AW.block ?_
    refine B5 h3 fun o1 hit1 hk1 he1 => ?_
    have J1 : ∀ (u2 : Unit) (i5 : Nat → Nat), o1 = .nrm u2 → K5 ⟨[], [], (i5 0), 35⟩ := by
      intro u2 i5 e
      have h4 := hk1 _ e
      refine hK5 _ ?_
      refine AH fun K7 hK7 wK7 => ?_
      refine AW.region ?_
      refine AB.step rfl rfl rfl (AD (AK rfl (.inl rfl)) _) ?_
      refine AB.nil ?_
      refine hK7 _ ?_
      refine AW.ret ?_
      exact Am (P := Try.prog) (fun (r : Bool) => .r (.bool r)) h4 (.inl rfl) (.t (.d rfl))
    refine DG (fun (x3 : Int) i3 => ⟨[(0, .r (.str s1)), (20, .r (.int .i64 (s1.length : Int))), (21, .r (.int .i64 x3))], [], (i3 0), 35⟩) (Ab [n0]) hit1 ((by exact AL ⟨.inl (.inl rfl), .inl (.inl rfl), .inl (.inl rfl), trivial⟩ trivial (Nat.le_refl _))) ?_
    intro x3 i3 v1 hv1 hx1
    have h5 : GM s1 x3 = some v1 := hv1; unfold GM at h5
    refine AH fun K8 hK8 wK8 => ?_
    refine AW.region ?_
    refine AB.step rfl rfl rfl (AD (Ar rfl (.inl rfl) (.inl rfl)) _) ?_
    refine AB.nil ?_
    refine hK8 _ ?_
    refine AH fun K9 hK9 wK9 => ?_
    refine AW.cond rfl (fun hc2 => ?_) (fun hc2 => ?_)
    · have h6 := Ag hc2 h5
      refine AW.skip ?_
      refine hK9 _ ?_
      refine AH fun K10 hK10 wK10 => ?_
      refine AW.block ?_
      refine AH fun K11 hK11 wK11 => ?_
      refine AW.region ?_
      refine AB.step rfl rfl rfl (AD (AI rfl (.inl rfl)) _) ?_
      refine AB.step rfl rfl rfl (AD (AK rfl (.inl rfl)) _) ?_
      refine AB.nil ?_
      refine hK11 _ ?_
      refine AH fun K12 hK12 wK12 => ?_
      refine AW.region ?_
      refine AB.step rfl rfl rfl (AD (AI rfl (.inl rfl)) _) ?_
      refine AB.step rfl rfl rfl (AD (AI rfl (.inl rfl)) _) ?_
      refine AU h6 fun ch2 ech2 h7 => ?_
      refine AB.step rfl rfl rfl (AD (Bg rfl Try.underlying9 (.inl rfl) (.inl rfl) (fun _ => ech2)) _) ?_
      refine AB.step rfl rfl rfl (AD (Ar rfl (.inl rfl) (.inl rfl)) _) ?_
      refine AB.step rfl rfl rfl (AD (AI rfl (.inl rfl)) _) ?_
      refine AB.stepW (.one rfl rfl rfl) rfl rfl (AD (AI rfl (.inl rfl)) _) ?_
      refine AB.stepW (.one rfl rfl rfl) rfl rfl (AD (AI rfl (.inl rfl)) _) ?_
      refine AB.stepW (.one rfl rfl rfl) rfl rfl (AD (Bg rfl Try.underlying9 (.inr ⟨_, (by exact id), rfl⟩) (.inr ⟨_, (by exact id), rfl⟩) (fun _ => ech2)) _) ?_
      refine AB.stepW (.one rfl rfl rfl) rfl rfl (AD (BT rfl (.inr ⟨_, (by exact id), rfl⟩) (.inl rfl)) _) ?_
      refine AB.step rfl rfl rfl (AD (A3 rfl (.inl rfl) (.inr ⟨_, (by exact id), rfl⟩)) _) ?_
      refine AB.nil ?_
      refine hK12 _ ?_
      refine AW.cond rfl (fun hc3 => ?_) (fun hc3 => ?_)
      · have h8 := Ag hc3 h7
        refine AH fun K13 hK13 wK13 => ?_
        refine AW.weak (s' := ⟨[], [], (i3 0), 35⟩) (by exact AL trivial trivial (Nat.le_refl _)) ?_
        refine AW.region ?_
        refine AB.step rfl rfl rfl (AD (AK rfl (.inl rfl)) _) ?_
        refine AB.nil ?_
        refine hK13 _ ?_
        refine AW.ret ?_
        exact Am (P := Try.prog) (fun (r : Bool) => .r (.bool r)) (he1 _ (hx1 _ (Option.some.inj h8).symm)) (.inl rfl) (.t (.d rfl))
      · have h8 := Ah hc3 h7
        refine AW.skip ?_
        refine hK10 _ ?_
        refine AW.weak (s' := ⟨[(0, .r (.str s1)), (20, .r (.int .i64 (s1.length : Int))), (21, .r (.int .i64 x3))], [], (i3 0), 35⟩) (by exact AL ⟨.inl (.inl rfl), .inl (.inl rfl), .inl (.inl rfl), trivial⟩ trivial (Nat.le_refl _)) ?_
        refine AW.region ?_
        refine AU h8 fun x5 ex5 h9 => ?_
        refine AB.step rfl rfl rfl (AD (BC rfl (.inl rfl) (.inl rfl) (fun _ => ex5)) _) ?_
        refine AB.step rfl rfl rfl (AD (AI rfl (.inl rfl)) _) ?_
        refine AB.nil ?_
        exact CZ.mk h9 (Ab [(i3 0)]) ((by exact AL ⟨.inl (.inl rfl), .inl (.inl rfl), .inl (.inl rfl), trivial⟩ trivial (Nat.le_refl _)))
    · have h6 := Ah hc2 h5
      refine AW.exit ?_
      exact wK5 _ _ ((by exact AL trivial trivial (Nat.le_refl _))) (J1 _ (Ab [(i3 0)]) (hx1 _ (Option.some.inj h6).symm))
theorem SC {s1 : List UInt8} {r : Bool} (h : H4 s1 = some r) : Af Try.prog 54 [.r (.str s1)] (.r (.bool r)) := by
  unfold H4 at h
  refine A6 Try.func54 rfl rfl Try.ntmps54 rfl (Nat.le_of_ble_eq_true rfl) fun n0 => ?_
  refine AH fun K1 hK1 wK1 => ?_
  refine AW.region ?_
  refine AB.step rfl rfl rfl (AD (AK rfl (.inl rfl)) _) ?_
  refine AB.nil ?_
  refine hK1 _ ?_
  refine AH fun K2 hK2 wK2 => ?_
  refine AH fun K3 hK3 wK3 => ?_
  refine AW.region ?_
  refine AB.step rfl rfl rfl (AD (AI rfl (.inl rfl)) _) ?_
  refine AB.step rfl rfl rfl (AD (Et rfl (.inl rfl) (.inl rfl)) _) ?_
  refine AB.step rfl rfl rfl (AD (AI rfl (.inl rfl)) _) ?_
  refine AB.stepW (.one rfl rfl rfl) rfl rfl (AD (AI rfl (.inl rfl)) _) ?_
  refine AB.stepW (.one rfl rfl rfl) rfl rfl (AD (B9 rfl Try.underlying9 (.inr ⟨_, (by exact id), rfl⟩)) _) ?_
  refine AB.stepW (.one rfl rfl rfl) rfl rfl (AD (BT rfl (.inr ⟨_, (by exact id), rfl⟩) (.inl rfl)) _) ?_
  refine AB.step rfl rfl rfl (AD (A3 rfl (.inl rfl) (.inr ⟨_, (by exact id), rfl⟩)) _) ?_
  refine AB.step rfl rfl rfl (AD (AI rfl (.inl rfl)) _) ?_
  refine AB.stepW (.one rfl rfl rfl) rfl rfl (AD (AI rfl (.inl rfl)) _) ?_
  refine AU h fun ch1 ech1 h1 => ?_
  refine AB.stepW (.one rfl rfl rfl) rfl rfl (AD (Bg rfl Try.underlying9 (.inr ⟨_, (by exact id), rfl⟩) (.inl rfl) (BL ech1)) _) ?_
  refine AB.stepW (.one rfl rfl rfl) rfl rfl (AD (Ar rfl (.inr ⟨_, (by exact id), rfl⟩) (.inl rfl)) _) ?_
  refine AB.step rfl rfl rfl (AD (A3 rfl (.inl rfl) (.inr ⟨_, (by exact id), rfl⟩)) _) ?_
  refine AB.step rfl rfl rfl (AD (AI rfl (.inl rfl)) _) ?_
  refine AB.stepW (.one rfl rfl rfl) rfl rfl (AD (AI rfl (.inl rfl)) _) ?_
  refine AU h1 fun ch2 ech2 h2 => ?_
  refine AB.stepW (.one rfl rfl rfl) rfl rfl (AD (Bg rfl Try.underlying9 (.inr ⟨_, (by exact id), rfl⟩) (.inl rfl) (BL ech2)) _) ?_
  refine AB.stepW (.one rfl rfl rfl) rfl rfl (AD (BT rfl (.inr ⟨_, (by exact id), rfl⟩) (.inl rfl)) _) ?_
  refine AB.step rfl rfl rfl (AD (A3 rfl (.inl rfl) (.inr ⟨_, (by exact id), rfl⟩)) _) ?_
  refine AB.nil ?_
  refine hK3 _ ?_
  refine AW.cond rfl (fun hc1 => ?_) (fun hc1 => ?_)
  · have h3 := Ag hc1 h2
    refine AH fun K4 hK4 wK4 => ?_
    refine AW.weak (s' := ⟨[], [], n0, 53⟩) (by exact AL trivial trivial (Nat.le_refl _)) ?_
    refine AW.region ?_
    refine AB.step rfl rfl rfl (AD (AK rfl (.inl rfl)) _) ?_
    refine AB.nil ?_
    refine hK4 _ ?_
    refine AW.ret ?_
    exact Am (P := Try.prog) (fun (r : Bool) => .r (.bool r)) h3 (.inl rfl) (.t (.d rfl))
  · have h3 := Ah hc1 h2
    refine AW.skip ?_
    refine hK2 _ ?_
    refine AH fun K5 hK5 wK5 => ?_
    refine AH fun K6 hK6 wK6 => ?_
    refine AW.weak (s' := ⟨[(0, .r (.str s1))], [], n0, 53⟩) (by exact AL ⟨.inl (.inl rfl), trivial⟩ trivial (Nat.le_refl _)) ?_
    refine AW.region ?_
    refine AB.step rfl rfl rfl (AD (AI rfl (.inl rfl)) _) ?_
    refine AB.step rfl rfl rfl (AD (B9 rfl Try.underlying9 (.inl rfl)) _) ?_
    refine AB.step rfl rfl rfl (AD (AI rfl (.inl rfl)) _) ?_
    refine AB.nil ?_
    refine hK6 _ ?_
    refine AW.block ?_
    refine B5 h3 fun o1 hit1 hk1 he1 => ?_
    have J1 : ∀ (u2 : Unit) (i5 : Nat → Nat), o1 = .nrm u2 → K5 ⟨[], [], (i5 0), 53⟩ := by
      intro u2 i5 e
      have h4 := hk1 _ e
      refine hK5 _ ?_
      refine AH fun K7 hK7 wK7 => ?_
      refine AW.region ?_
      refine AB.step rfl rfl rfl (AD (AK rfl (.inl rfl)) _) ?_
      refine AB.nil ?_
      refine hK7 _ ?_
      refine AW.ret ?_
      exact Am (P := Try.prog) (fun (r : Bool) => .r (.bool r)) h4 (.inl rfl) (.t (.d rfl))
    refine DG (fun (x2 : Int) i3 => ⟨[(0, .r (.str s1)), (23, .r (.int .i64 (s1.length : Int))), (24, .r (.int .i64 x2))], [], (i3 0), 53⟩) (Ab [n0]) hit1 ((by exact AL ⟨.inl (.inl rfl), .inl (.inl rfl), .inl (.inl rfl), trivial⟩ trivial (Nat.le_refl _))) ?_
    intro x2 i3 v1 hv1 hx1
    have h5 : Gh s1 x2 = some v1 := hv1; unfold Gh at h5
    refine AH fun K8 hK8 wK8 => ?_
    refine AW.region ?_
    refine AB.step rfl rfl rfl (AD (Ar rfl (.inl rfl) (.inl rfl)) _) ?_
    refine AB.nil ?_
    refine hK8 _ ?_
    refine AH fun K9 hK9 wK9 => ?_
    refine AW.cond rfl (fun hc2 => ?_) (fun hc2 => ?_)
    · have h6 := Ag hc2 h5
      refine AW.skip ?_
      refine hK9 _ ?_
      refine AH fun K10 hK10 wK10 => ?_
      refine AW.block ?_
      refine AH fun K11 hK11 wK11 => ?_
      refine AW.region ?_
      refine AB.step rfl rfl rfl (AD (AI rfl (.inl rfl)) _) ?_
      refine AB.step rfl rfl rfl (AD (AK rfl (.inl rfl)) _) ?_
      refine AB.nil ?_
      refine hK11 _ ?_
      refine AH fun K12 hK12 wK12 => ?_
      refine AW.region ?_
      refine AB.step rfl rfl rfl (AD (AI rfl (.inl rfl)) _) ?_
      refine AB.step rfl rfl rfl (AD (AI rfl (.inl rfl)) _) ?_
      refine AU h6 fun c1 ec1 h7 => ?_
      refine AB.step rfl rfl rfl (AD (Bg rfl Try.underlying9 (.inl rfl) (.inl rfl) (fun _ => ec1)) _) ?_
      refine AB.step rfl rfl rfl (AD (AK rfl (.inl rfl)) _) ?_
      refine AB.nil ?_
      refine hK12 _ ?_
      refine AH fun K13 hK13 wK13 => ?_
      refine AW.region ?_
      refine AB.step rfl rfl rfl (AD (AI rfl (.inl rfl)) _) ?_
      refine AB.step rfl rfl rfl (AD (Ar rfl (.inl rfl) (.inl rfl)) _) ?_
      refine AB.step rfl rfl rfl (AD (AI rfl (.inl rfl)) _) ?_
      refine AB.stepW (.one rfl rfl rfl) rfl rfl (AD (AI rfl (.inl rfl)) _) ?_
      refine AB.stepW (.one rfl rfl rfl) rfl rfl (AD (BT rfl (.inr ⟨_, (by exact id), rfl⟩) (.inl rfl)) _) ?_
      refine AB.step rfl rfl rfl (AD (A3 rfl (.inl rfl) (.inr ⟨_, (by exact id), rfl⟩)) _) ?_
      refine AB.step rfl rfl rfl (AD (AI rfl (.inl rfl)) _) ?_
      refine AB.stepW (.one rfl rfl rfl) rfl rfl (AD (AI rfl (.inl rfl)) _) ?_
      refine AB.stepW (.one rfl rfl rfl) rfl rfl (AD (Ar rfl (.inr ⟨_, (by exact id), rfl⟩) (.inl rfl)) _) ?_
      refine AB.stepW (.one rfl rfl rfl) rfl rfl (AD (AI rfl (.inr ⟨_, (by exact id), rfl⟩)) _) ?_
      refine AB.stepW (.two rfl rfl rfl) rfl rfl (AD (AI rfl (.inl rfl)) _) ?_
      refine AB.stepW (.two rfl rfl rfl) rfl rfl (AD (BT rfl (.inr ⟨_, (by exact id), rfl⟩) (.inl rfl)) _) ?_
      refine AB.stepW (.one rfl rfl rfl) rfl rfl (AD (A3 rfl (.inr ⟨_, (by exact id), rfl⟩) (.inr ⟨_, (by exact id), rfl⟩)) _) ?_
      refine AB.step rfl rfl rfl (AD (A0 rfl (.inl rfl) (.inr ⟨_, (by exact id), rfl⟩)) _) ?_
      refine AB.step rfl rfl rfl (AD (AI rfl (.inl rfl)) _) ?_
      refine AB.stepW (.one rfl rfl rfl) rfl rfl (AD (AI rfl (.inl rfl)) _) ?_
      refine AB.stepW (.one rfl rfl rfl) rfl rfl (AD (Bq rfl (.inr ⟨_, (by exact id), rfl⟩) (.inl rfl)) _) ?_
      refine AB.step rfl rfl rfl (AD (A0 rfl (.inl rfl) (.inr ⟨_, (by exact id), rfl⟩)) _) ?_
      refine AB.step rfl rfl rfl (AD (AI rfl (.inl rfl)) _) ?_
      refine AB.stepW (.one rfl rfl rfl) rfl rfl (AD (AI rfl (.inl rfl)) _) ?_
      refine AB.stepW (.one rfl rfl rfl) rfl rfl (AD (Bq rfl (.inr ⟨_, (by exact id), rfl⟩) (.inl rfl)) _) ?_
      refine AB.step rfl rfl rfl (AD (A0 rfl (.inl rfl) (.inr ⟨_, (by exact id), rfl⟩)) _) ?_
      refine AB.nil ?_
      refine hK13 _ ?_
      refine AW.cond rfl (fun hc3 => ?_) (fun hc3 => ?_)
      · have h8 := Ag hc3 h7
        refine AH fun K14 hK14 wK14 => ?_
        refine AW.weak (s' := ⟨[], [], (i3 0), 53⟩) (by exact AL trivial trivial (Nat.le_refl _)) ?_
        refine AW.region ?_
        refine AB.step rfl rfl rfl (AD (AK rfl (.inl rfl)) _) ?_
        refine AB.nil ?_
        refine hK14 _ ?_
        refine AW.ret ?_
        exact Am (P := Try.prog) (fun (r : Bool) => .r (.bool r)) (he1 _ (hx1 _ (Option.some.inj h8).symm)) (.inl rfl) (.t (.d rfl))
      · have h8 := Ah hc3 h7
        refine AW.skip ?_
        refine hK10 _ ?_
        refine AW.weak (s' := ⟨[(0, .r (.str s1)), (23, .r (.int .i64 (s1.length : Int))), (24, .r (.int .i64 x2))], [], (i3 0), 53⟩) (by exact AL ⟨.inl (.inl rfl), .inl (.inl rfl), .inl (.inl rfl), trivial⟩ trivial (Nat.le_refl _)) ?_
        refine AW.region ?_
        refine AU h8 fun x4 ex4 h9 => ?_
        refine AB.step rfl rfl rfl (AD (BC rfl (.inl rfl) (.inl rfl) (fun _ => ex4)) _) ?_
        refine AB.step rfl rfl rfl (AD (AI rfl (.inl rfl)) _) ?_
        refine AB.nil ?_
        exact CZ.mk h9 (Ab [(i3 0)]) ((by exact AL ⟨.inl (.inl rfl), .inl (.inl rfl), .inl (.inl rfl), trivial⟩ trivial (Nat.le_refl _)))
    · have h6 := Ah hc2 h5
      refine AW.exit ?_
      exact wK5 _ _ ((by exact AL trivial trivial (Nat.le_refl _))) (J1 _ (Ab [(i3 0)]) (hx1 _ (Option.some.inj h6).symm))
theorem OG {s1 : List UInt8} {r : Bool} (h : HC s1 = some r) : Af Try.prog 55 [.r (.str s1)] (.r (.bool r)) := by
  unfold HC at h
  refine A6 Try.func55 rfl rfl Try.ntmps55 rfl (Nat.le_of_ble_eq_true rfl) fun n0 => ?_
  refine AH fun K1 hK1 wK1 => ?_
  refine AW.region ?_
  refine AB.step rfl rfl rfl (AD (AK rfl (.inl rfl)) _) ?_
  refine AB.nil ?_
  refine hK1 _ ?_
  refine AH fun K2 hK2 wK2 => ?_
  refine AH fun K3 hK3 wK3 => ?_
  refine AW.region ?_
  refine AB.step rfl rfl rfl (AD (AI rfl (.inl rfl)) _) ?_
  refine AB.step rfl rfl rfl (AD (Et rfl (.inl rfl) (.inl rfl)) _) ?_
  refine AB.step rfl rfl rfl (AD (AI rfl (.inl rfl)) _) ?_
  refine AB.stepW (.one rfl rfl rfl) rfl rfl (AD (AI rfl (.inl rfl)) _) ?_
  refine AB.stepW (.one rfl rfl rfl) rfl rfl (AD (B9 rfl Try.underlying9 (.inr ⟨_, (by exact id), rfl⟩)) _) ?_
  refine AB.stepW (.one rfl rfl rfl) rfl rfl (AD (BT rfl (.inr ⟨_, (by exact id), rfl⟩) (.inl rfl)) _) ?_
  refine AB.step rfl rfl rfl (AD (A3 rfl (.inl rfl) (.inr ⟨_, (by exact id), rfl⟩)) _) ?_
  refine AB.nil ?_
  refine hK3 _ ?_
  refine AW.cond rfl (fun hc1 => ?_) (fun hc1 => ?_)
  · have h1 := Ag hc1 h
    refine AH fun K4 hK4 wK4 => ?_
    refine AW.weak (s' := ⟨[], [], n0, 27⟩) (by exact AL trivial trivial (Nat.le_refl _)) ?_
    refine AW.region ?_
    refine AB.step rfl rfl rfl (AD (AK rfl (.inl rfl)) _) ?_
    refine AB.nil ?_
    refine hK4 _ ?_
    refine AW.ret ?_
    exact Am (P := Try.prog) (fun (r : Bool) => .r (.bool r)) h1 (.inl rfl) (.t (.d rfl))
  · have h1 := Ah hc1 h
    refine AW.skip ?_
    refine hK2 _ ?_
    refine AH fun K5 hK5 wK5 => ?_
    refine AH fun K6 hK6 wK6 => ?_
    refine AW.region ?_
    refine AB.step rfl rfl rfl (AD (AI rfl (.inl rfl)) _) ?_
    refine AB.step rfl rfl rfl (AD (B9 rfl Try.underlying9 (.inl rfl)) _) ?_
    refine AB.step rfl rfl rfl (AD (AI rfl (.inl rfl)) _) ?_
    refine AB.nil ?_
    refine hK6 _ ?_
    refine AW.block ?_
    refine B5 h1 fun o1 hit1 hk1 he1 => ?_
    have J1 : ∀ (u2 : Unit) (i5 : Nat → Nat), o1 = .nrm u2 → K5 ⟨[], [], (i5 0), 27⟩ := by
      intro u2 i5 e
      have h2 := hk1 _ e
      refine hK5 _ ?_
      refine AH fun K7 hK7 wK7 => ?_
      refine AW.region ?_
      refine AB.step rfl rfl rfl (AD (AK rfl (.inl rfl)) _) ?_
      refine AB.nil ?_
      refine hK7 _ ?_
      refine AW.ret ?_
      exact Am (P := Try.prog) (fun (r : Bool) => .r (.bool r)) h2 (.inl rfl) (.t (.d rfl))
    refine DG (fun (x2 : Int) i3 => ⟨[(0, .r (.str s1)), (12, .r (.int .i64 (s1.length : Int))), (13, .r (.int .i64 x2))], [], (i3 0), 27⟩) (Ab [n0]) hit1 ((by exact AL ⟨.inl (.inl rfl), .inl (.inl rfl), .inl (.inl rfl), trivial⟩ trivial (Nat.le_refl _))) ?_
    intro x2 i3 v1 hv1 hx1
    have h3 : HJ s1 x2 = some v1 := hv1; unfold HJ at h3
    refine AH fun K8 hK8 wK8 => ?_
    refine AW.region ?_
    refine AB.step rfl rfl rfl (AD (Ar rfl (.inl rfl) (.inl rfl)) _) ?_
    refine AB.nil ?_
    refine hK8 _ ?_
    refine AH fun K9 hK9 wK9 => ?_
    refine AW.cond rfl (fun hc2 => ?_) (fun hc2 => ?_)
    · have h4 := Ag hc2 h3
      refine AW.skip ?_
      refine hK9 _ ?_
      refine AH fun K10 hK10 wK10 => ?_
      refine AW.block ?_
      refine AH fun K11 hK11 wK11 => ?_
      refine AW.region ?_
      refine AB.step rfl rfl rfl (AD (AI rfl (.inl rfl)) _) ?_
      refine AB.step rfl rfl rfl (AD (AK rfl (.inl rfl)) _) ?_
      refine AB.nil ?_
      refine hK11 _ ?_
      refine AH fun K12 hK12 wK12 => ?_
      refine AW.region ?_
      refine AB.step rfl rfl rfl (AD (AI rfl (.inl rfl)) _) ?_
      refine AB.step rfl rfl rfl (AD (AI rfl (.inl rfl)) _) ?_
      refine AU h4 fun ch1 ech1 h5 => ?_
      refine AB.step rfl rfl rfl (AD (Bg rfl Try.underlying9 (.inl rfl) (.inl rfl) (fun _ => ech1)) _) ?_
      refine AB.step rfl rfl rfl (AD (Ar rfl (.inl rfl) (.inl rfl)) _) ?_
      refine AB.step rfl rfl rfl (AD (AI rfl (.inl rfl)) _) ?_
      refine AB.stepW (.one rfl rfl rfl) rfl rfl (AD (AI rfl (.inl rfl)) _) ?_
      refine AB.stepW (.one rfl rfl rfl) rfl rfl (AD (AI rfl (.inl rfl)) _) ?_
      refine AB.stepW (.one rfl rfl rfl) rfl rfl (AD (Bg rfl Try.underlying9 (.inr ⟨_, (by exact id), rfl⟩) (.inr ⟨_, (by exact id), rfl⟩) (fun _ => ech1)) _) ?_
      refine AB.stepW (.one rfl rfl rfl) rfl rfl (AD (BT rfl (.inr ⟨_, (by exact id), rfl⟩) (.inl rfl)) _) ?_
      refine AB.step rfl rfl rfl (AD (A3 rfl (.inl rfl) (.inr ⟨_, (by exact id), rfl⟩)) _) ?_
      refine AB.nil ?_
      refine hK12 _ ?_
      refine AW.cond rfl (fun hc3 => ?_) (fun hc3 => ?_)
      · have h6 := Ag hc3 h5
        refine AH fun K13 hK13 wK13 => ?_
        refine AW.weak (s' := ⟨[], [], (i3 0), 27⟩) (by exact AL trivial trivial (Nat.le_refl _)) ?_
        refine AW.region ?_
        refine AB.step rfl rfl rfl (AD (AK rfl (.inl rfl)) _) ?_
        refine AB.nil ?_
        refine hK13 _ ?_
        refine AW.ret ?_
        exact Am (P := Try.prog) (fun (r : Bool) => .r (.bool r)) (he1 _ (hx1 _ (Option.some.inj h6).symm)) (.inl rfl) (.t (.d rfl))
      · have h6 := Ah hc3 h5
        refine AW.skip ?_
        refine hK10 _ ?_
        refine AW.weak (s' := ⟨[(0, .r (.str s1)), (12, .r (.int .i64 (s1.length : Int))), (13, .r (.int .i64 x2))], [], (i3 0), 27⟩) (by exact AL ⟨.inl (.inl rfl), .inl (.inl rfl), .inl (.inl rfl), trivial⟩ trivial (Nat.le_refl _)) ?_
        refine AW.region ?_
        refine AU h6 fun x4 ex4 h7 => ?_
        refine AB.step rfl rfl rfl (AD (BC rfl (.inl rfl) (.inl rfl) (fun _ => ex4)) _) ?_
        refine AB.step rfl rfl rfl (AD (AI rfl (.inl rfl)) _) ?_
        refine AB.nil ?_
        exact CZ.mk h7 (Ab [(i3 0)]) ((by exact AL ⟨.inl (.inl rfl), .inl (.inl rfl), .inl (.inl rfl), trivial⟩ trivial (Nat.le_refl _)))
    · have h4 := Ah hc2 h3
      refine AW.exit ?_
      exact wK5 _ _ ((by exact AL trivial trivial (Nat.le_refl _))) (J1 _ (Ab [(i3 0)]) (hx1 _ (Option.some.inj h4).symm))
theorem OP {o1 : AP} {r : Int} (h : HM o1 = some r) : Af Try.prog 34 [.agg [.r (.int .i64 o1.Clock), .r (.int .i64 o1.Site), .r (.int .i64 o1.Kind), .r (.int .i64 o1.Item), .r (.int .i64 o1.Parent), .r (.str o1.Place), .r (.str o1.Name), .r (.str o1.Value)]] (.r (.int .i64 r)) := by
  unfold HM at h
  refine A6 Try.func34 rfl rfl Try.ntmps34 rfl (Nat.le_of_ble_eq_true rfl) fun n0 => ?_
  refine AH fun K1 hK1 wK1 => ?_
  refine AW.region ?_
  refine AB.step rfl rfl rfl (CU (cs := [.r (.int .i64 o1.Clock), .r (.int .i64 o1.Site), .r (.int .i64 o1.Kind), .r (.int .i64 o1.Item), .r (.int .i64 o1.Parent), .r (.str o1.Place), .r (.str o1.Name), .r (.str o1.Value)]) 1 rfl (.inl rfl) rfl rfl) ?_
  refine AB.step rfl rfl rfl (AD (AK rfl (.inl rfl)) _) ?_
  refine AB.nil ?_
  refine hK1 _ ?_
  refine AH fun K2 hK2 wK2 => ?_
  refine AW.block ?_
  refine AH fun K3 hK3 wK3 => ?_
  refine AW.region ?_
  refine AB.step rfl rfl rfl (AD (AX (ob := .box _ _ _) rfl Bx (.inl rfl) (fun _ => rfl) rfl) _) ?_
  refine AB.step rfl rfl rfl (AD (AR (a := .r (.int .i64 o1.Kind)) rfl Ae (.inl rfl) rfl rfl) _) ?_
  refine AB.step rfl rfl rfl (AD (Bq rfl (.inl rfl) (.inl rfl)) _) ?_
  refine AB.step rfl rfl rfl (AD (AI rfl (.inl rfl)) _) ?_
  refine AB.stepW (.one rfl rfl rfl) rfl rfl (AD (AX (ob := .box _ _ _) rfl Bx (.inl rfl) (fun _ => rfl) rfl) _) ?_
  refine AB.stepW (.one rfl rfl rfl) rfl rfl (AD (AR (a := .r (.int .i64 o1.Kind)) rfl Ae (.inr ⟨_, (by exact id), rfl⟩) rfl rfl) _) ?_
  refine AB.stepW (.one rfl rfl rfl) rfl rfl (AD (Bq rfl (.inr ⟨_, (by exact id), rfl⟩) (.inl rfl)) _) ?_
  refine AB.step rfl rfl rfl (AD (A0 rfl (.inl rfl) (.inr ⟨_, (by exact id), rfl⟩)) _) ?_
  refine AB.step rfl rfl rfl (AD (AK rfl (.inl rfl)) _) ?_
  refine AB.nil ?_
  refine hK3 _ ?_
  refine AW.cond rfl (fun hc1 => ?_) (fun hc1 => ?_)
  · have h1 := Ag hc1 h
    refine AH fun K4 hK4 wK4 => ?_
    refine AW.weak (s' := ⟨[], [], (n0 + 1), 116⟩) (by exact AL trivial trivial (Nat.le_refl _)) ?_
    refine AW.region ?_
    refine AB.step rfl rfl rfl (AD (AK rfl (.inl rfl)) _) ?_
    refine AB.nil ?_
    refine hK4 _ ?_
    refine AW.ret ?_
    exact Am (P := Try.prog) (fun (r : Int) => .r (.int .i64 r)) h1 (.inl rfl) (.t (.d rfl))
  · have h1 := Ah hc1 h
    refine AH fun K5 hK5 wK5 => ?_
    refine AW.weak (s' := ⟨[(1, .ptr 1 n0 0 0)], [(1, some (.box n0 46 [.r (.int .i64 o1.Clock), .r (.int .i64 o1.Site), .r (.int .i64 o1.Kind), .r (.int .i64 o1.Item), .r (.int .i64 o1.Parent), .r (.str o1.Place), .r (.str o1.Name), .r (.str o1.Value)]))], (n0 + 1), 116⟩) (by exact AL ⟨.inl (.inl rfl), trivial⟩ ⟨.inl rfl, trivial⟩ (Nat.le_refl _)) ?_
    refine AW.region ?_
    refine AB.step rfl rfl rfl (AD (AX (ob := .box _ _ _) rfl DU (.inl rfl) (fun _ => rfl) rfl) _) ?_
    refine AB.step rfl rfl rfl (AD (AR (a := .r (.int .i64 o1.Clock)) rfl Ae (.inl rfl) rfl rfl) _) ?_
    refine AB.step rfl rfl rfl (AD (Ar rfl (.inl rfl) (.inl rfl)) _) ?_
    refine AB.step rfl rfl rfl (AD (AI rfl (.inl rfl)) _) ?_
    refine AB.stepW (.one rfl rfl rfl) rfl rfl (AD (AX (ob := .box _ _ _) rfl DU (.inl rfl) (fun _ => rfl) rfl) _) ?_
    refine AB.stepW (.one rfl rfl rfl) rfl rfl (AD (AR (a := .r (.int .i64 o1.Clock)) rfl Ae (.inr ⟨_, (by exact id), rfl⟩) rfl rfl) _) ?_
    refine AB.stepW (.one rfl rfl rfl) rfl rfl (AD (BT rfl (.inr ⟨_, (by exact id), rfl⟩) (.inl rfl)) _) ?_
    refine AB.step rfl rfl rfl (AD (A3 rfl (.inl rfl) (.inr ⟨_, (by exact id), rfl⟩)) _) ?_
    refine AB.step rfl rfl rfl (AD (AI rfl (.inl rfl)) _) ?_
    refine AB.stepW (.one rfl rfl rfl) rfl rfl (AD (AX (ob := .box _ _ _) rfl EU (.inl rfl) (fun _ => rfl) rfl) _) ?_
    refine AB.stepW (.one rfl rfl rfl) rfl rfl (AD (AR (a := .r (.int .i64 o1.Site)) rfl Ae (.inr ⟨_, (by exact id), rfl⟩) rfl rfl) _) ?_
    refine AB.stepW (.one rfl rfl rfl) rfl rfl (AD (Ar rfl (.inr ⟨_, (by exact id), rfl⟩) (.inl rfl)) _) ?_
    refine AB.step rfl rfl rfl (AD (A3 rfl (.inl rfl) (.inr ⟨_, (by exact id), rfl⟩)) _) ?_
    refine AB.step rfl rfl rfl (AD (AI rfl (.inl rfl)) _) ?_
    refine AB.stepW (.one rfl rfl rfl) rfl rfl (AD (AX (ob := .box _ _ _) rfl EU (.inl rfl) (fun _ => rfl) rfl) _) ?_
    refine AB.stepW (.one rfl rfl rfl) rfl rfl (AD (AR (a := .r (.int .i64 o1.Site)) rfl Ae (.inr ⟨_, (by exact id), rfl⟩) rfl rfl) _) ?_
    refine AB.stepW (.one rfl rfl rfl) rfl rfl (AD (BT rfl (.inr ⟨_, (by exact id), rfl⟩) (.inl rfl)) _) ?_
    refine AB.step rfl rfl rfl (AD (A3 rfl (.inl rfl) (.inr ⟨_, (by exact id), rfl⟩)) _) ?_
    refine AB.step rfl rfl rfl (AD (AI rfl (.inl rfl)) _) ?_
    refine AB.stepW (.one rfl rfl rfl) rfl rfl (AD (AX (ob := .box _ _ _) rfl CH (.inl rfl) (fun _ => rfl) rfl) _) ?_
    refine AB.stepW (.one rfl rfl rfl) rfl rfl (AD (AR (a := .r (.int .i64 o1.Item)) rfl Ae (.inr ⟨_, (by exact id), rfl⟩) rfl rfl) _) ?_
    refine AB.stepW (.one rfl rfl rfl) rfl rfl (AD (Ar rfl (.inr ⟨_, (by exact id), rfl⟩) (.inl rfl)) _) ?_
    refine AB.step rfl rfl rfl (AD (A3 rfl (.inl rfl) (.inr ⟨_, (by exact id), rfl⟩)) _) ?_
    refine AB.step rfl rfl rfl (AD (AI rfl (.inl rfl)) _) ?_
    refine AB.stepW (.one rfl rfl rfl) rfl rfl (AD (AX (ob := .box _ _ _) rfl CH (.inl rfl) (fun _ => rfl) rfl) _) ?_
    refine AB.stepW (.one rfl rfl rfl) rfl rfl (AD (AR (a := .r (.int .i64 o1.Item)) rfl Ae (.inr ⟨_, (by exact id), rfl⟩) rfl rfl) _) ?_
    refine AB.stepW (.one rfl rfl rfl) rfl rfl (AD (BT rfl (.inr ⟨_, (by exact id), rfl⟩) (.inl rfl)) _) ?_
    refine AB.step rfl rfl rfl (AD (A3 rfl (.inl rfl) (.inr ⟨_, (by exact id), rfl⟩)) _) ?_
    refine AB.step rfl rfl rfl (AD (AK rfl (.inl rfl)) _) ?_
    refine AB.nil ?_
    refine hK5 _ ?_
    refine AW.cond rfl (fun hc2 => ?_) (fun hc2 => ?_)
    · have h2 := Ag hc2 h1
      refine AH fun K6 hK6 wK6 => ?_
      refine AW.weak (s' := ⟨[], [], (n0 + 1), 116⟩) (by exact AL trivial trivial (Nat.le_refl _)) ?_
      refine AW.region ?_
      refine AB.step rfl rfl rfl (AD (AK rfl (.inl rfl)) _) ?_
      refine AB.nil ?_
      refine hK6 _ ?_
      refine AW.ret ?_
      exact Am (P := Try.prog) (fun (r : Int) => .r (.int .i64 r)) h2 (.inl rfl) (.t (.d rfl))
    · have h2 := Ah hc2 h1
      refine AH fun K7 hK7 wK7 => ?_
      refine AH fun K8 hK8 wK8 => ?_
      refine AW.weak (s' := ⟨[(1, .ptr 1 n0 0 0)], [(1, some (.box n0 46 [.r (.int .i64 o1.Clock), .r (.int .i64 o1.Site), .r (.int .i64 o1.Kind), .r (.int .i64 o1.Item), .r (.int .i64 o1.Parent), .r (.str o1.Place), .r (.str o1.Name), .r (.str o1.Value)]))], (n0 + 1), 116⟩) (by exact AL ⟨.inl (.inl rfl), trivial⟩ ⟨.inl rfl, trivial⟩ (Nat.le_refl _)) ?_
      refine AW.region ?_
      refine AB.step rfl rfl rfl (AD (AX (ob := .box _ _ _) rfl Bx (.inl rfl) (fun _ => rfl) rfl) _) ?_
      refine AB.step rfl rfl rfl (AD (AR (a := .r (.int .i64 o1.Kind)) rfl Ae (.inl rfl) rfl rfl) _) ?_
      refine AB.step rfl rfl rfl (AD (BH rfl (.inl rfl) (.inl rfl)) _) ?_
      refine AB.step rfl rfl rfl (AD (AI rfl (.inl rfl)) _) ?_
      refine AB.stepW (.one rfl rfl rfl) rfl rfl (AD (AX (ob := .box _ _ _) rfl FS (.inl rfl) (fun _ => rfl) rfl) _) ?_
      refine AB.stepW (.one rfl rfl rfl) rfl rfl (AD (AR (a := .r (.str o1.Name)) rfl A4 (.inr ⟨_, (by exact id), rfl⟩) rfl rfl) _) ?_
      refine AB.stepW (.one rfl rfl rfl) rfl rfl (AD (C0 rfl (.inr ⟨_, (by exact id), rfl⟩) (.inl rfl)) _) ?_
      refine AB.stepW (.one rfl rfl rfl) rfl rfl (AD (AI rfl (.inr ⟨_, (by exact id), rfl⟩)) _) ?_
      refine AB.stepW (.two rfl rfl rfl) rfl rfl (AD (AX (ob := .box _ _ _) rfl EV (.inl rfl) (fun _ => rfl) rfl) _) ?_
      refine AB.stepW (.two rfl rfl rfl) rfl rfl (AD (AR (a := .r (.str o1.Value)) rfl A4 (.inr ⟨_, (by exact id), rfl⟩) rfl rfl) _) ?_
      refine AB.stepW (.two rfl rfl rfl) rfl rfl (AD (C0 rfl (.inr ⟨_, (by exact id), rfl⟩) (.inl rfl)) _) ?_
      refine AB.stepW (.one rfl rfl rfl) rfl rfl (AD (A3 rfl (.inr ⟨_, (by exact id), rfl⟩) (.inr ⟨_, (by exact id), rfl⟩)) _) ?_
      refine AB.step rfl rfl rfl (AD (A0 rfl (.inl rfl) (.inr ⟨_, (by exact id), rfl⟩)) _) ?_
      refine AB.step rfl rfl rfl (AD (AK rfl (.inl rfl)) _) ?_
      refine AB.nil ?_
      refine hK8 _ ?_
      refine Cj h2 fun p1 hp1 hk1 => ?_
      have J1 : ∀ (x1 : Bool) (i1 : Nat → Nat), p1 = x1 → K7 ⟨[(1, .ptr 1 n0 0 0), (41, .r (.bool x1))], [(1, some (.box n0 46 [.r (.int .i64 o1.Clock), .r (.int .i64 o1.Site), .r (.int .i64 o1.Kind), .r (.int .i64 o1.Item), .r (.int .i64 o1.Parent), .r (.str o1.Place), .r (.str o1.Name), .r (.str o1.Value)]))], (i1 0), 116⟩ := by
        intro x1 i1 e
        have h3 := hk1 _ e
        refine hK7 _ ?_
        refine AW.cond rfl (fun hc3 => ?_) (fun hc3 => ?_)
        · have h4 := Ag hc3 h3
          refine AH fun K9 hK9 wK9 => ?_
          refine AW.region ?_
          refine AB.step rfl rfl rfl (AD (AK rfl (.inl rfl)) _) ?_
          refine AB.nil ?_
          refine hK9 _ ?_
          refine AW.ret ?_
          exact Am (P := Try.prog) (fun (r : Int) => .r (.int .i64 r)) h4 (.inl rfl) (.t (.d rfl))
        · have h4 := Ah hc3 h3
          refine AH fun K10 hK10 wK10 => ?_
          refine AW.region ?_
          refine AB.step rfl rfl rfl (AD (AX (ob := .box _ _ _) rfl Bx (.inl rfl) (fun _ => rfl) rfl) _) ?_
          refine AB.step rfl rfl rfl (AD (AR (a := .r (.int .i64 o1.Kind)) rfl Ae (.inl rfl) rfl rfl) _) ?_
          refine AB.step rfl rfl rfl (AD (BH rfl (.inl rfl) (.inl rfl)) _) ?_
          refine AB.step rfl rfl rfl (AD (AI rfl (.inl rfl)) _) ?_
          refine AB.stepW (.one rfl rfl rfl) rfl rfl (AD (AX (ob := .box _ _ _) rfl Ch (.inl rfl) (fun _ => rfl) rfl) _) ?_
          refine AB.stepW (.one rfl rfl rfl) rfl rfl (AD (AR (a := .r (.int .i64 o1.Parent)) rfl Ae (.inr ⟨_, (by exact id), rfl⟩) rfl rfl) _) ?_
          refine AB.stepW (.one rfl rfl rfl) rfl rfl (AD (Ar rfl (.inr ⟨_, (by exact id), rfl⟩) (.inl rfl)) _) ?_
          refine AB.stepW (.one rfl rfl rfl) rfl rfl (AD (AI rfl (.inr ⟨_, (by exact id), rfl⟩)) _) ?_
          refine AB.stepW (.two rfl rfl rfl) rfl rfl (AD (AX (ob := .box _ _ _) rfl Ch (.inl rfl) (fun _ => rfl) rfl) _) ?_
          refine AB.stepW (.two rfl rfl rfl) rfl rfl (AD (AR (a := .r (.int .i64 o1.Parent)) rfl Ae (.inr ⟨_, (by exact id), rfl⟩) rfl rfl) _) ?_
          refine AB.stepW (.two rfl rfl rfl) rfl rfl (AD (BT rfl (.inr ⟨_, (by exact id), rfl⟩) (.inl rfl)) _) ?_
          refine AB.stepW (.one rfl rfl rfl) rfl rfl (AD (A3 rfl (.inr ⟨_, (by exact id), rfl⟩) (.inr ⟨_, (by exact id), rfl⟩)) _) ?_
          refine AB.step rfl rfl rfl (AD (A0 rfl (.inl rfl) (.inr ⟨_, (by exact id), rfl⟩)) _) ?_
          refine AB.step rfl rfl rfl (AD (AK rfl (.inl rfl)) _) ?_
          refine AB.nil ?_
          refine hK10 _ ?_
          refine AW.cond rfl (fun hc4 => ?_) (fun hc4 => ?_)
          · have h5 := Ag hc4 h4
            refine AH fun K11 hK11 wK11 => ?_
            refine AW.weak (s' := ⟨[], [], (i1 0), 116⟩) (by exact AL trivial trivial (Nat.le_refl _)) ?_
            refine AW.region ?_
            refine AB.step rfl rfl rfl (AD (AK rfl (.inl rfl)) _) ?_
            refine AB.nil ?_
            refine hK11 _ ?_
            refine AW.ret ?_
            exact Am (P := Try.prog) (fun (r : Int) => .r (.int .i64 r)) h5 (.inl rfl) (.t (.d rfl))
          · have h5 := Ah hc4 h4
            refine AH fun K12 hK12 wK12 => ?_
            refine AH fun K13 hK13 wK13 => ?_
            refine AW.weak (s' := ⟨[(1, .ptr 1 n0 0 0)], [(1, some (.box n0 46 [.r (.int .i64 o1.Clock), .r (.int .i64 o1.Site), .r (.int .i64 o1.Kind), .r (.int .i64 o1.Item), .r (.int .i64 o1.Parent), .r (.str o1.Place), .r (.str o1.Name), .r (.str o1.Value)]))], (i1 0), 116⟩) (by exact AL ⟨.inl (.inl rfl), trivial⟩ ⟨.inl rfl, trivial⟩ (Nat.le_refl _)) ?_
            refine AW.region ?_
            refine AB.step rfl rfl rfl (AD (AX (ob := .box _ _ _) rfl Bx (.inl rfl) (fun _ => rfl) rfl) _) ?_
            refine AB.step rfl rfl rfl (AD (AR (a := .r (.int .i64 o1.Kind)) rfl Ae (.inl rfl) rfl rfl) _) ?_
            refine AB.step rfl rfl rfl (AD (BH rfl (.inl rfl) (.inl rfl)) _) ?_
            refine AB.step rfl rfl rfl (AD (AI rfl (.inl rfl)) _) ?_
            refine AB.stepW (.one rfl rfl rfl) rfl rfl (AD (AX (ob := .box _ _ _) rfl Ej (.inl rfl) (fun _ => rfl) rfl) _) ?_
            refine AB.stepW (.one rfl rfl rfl) rfl rfl (AD (AR (a := .r (.str o1.Place)) rfl A4 (.inr ⟨_, (by exact id), rfl⟩) rfl rfl) _) ?_
            refine AU h5 fun r1 er1 h6 => ?_
            refine AB.stepW (.one rfl rfl rfl) rfl rfl (A7 (r := .r (.bool r1)) (caps := []) (bs := [.r (.str o1.Place)]) rfl (.inl rfl) rfl ⟨⟨_, (.inr ⟨_, (by exact id), rfl⟩), .d rfl⟩, trivial⟩ (fun hg => P4 (BL er1 hg)) rfl) ?_
            refine AB.stepW (.one rfl rfl rfl) rfl rfl (AD (Bi rfl (.inr ⟨_, (by exact id), rfl⟩)) _) ?_
            refine AB.step rfl rfl rfl (AD (A0 rfl (.inl rfl) (.inr ⟨_, (by exact id), rfl⟩)) _) ?_
            refine AB.step rfl rfl rfl (AD (AK rfl (.inl rfl)) _) ?_
            refine AB.nil ?_
            refine hK13 _ ?_
            refine Cj h6 fun p2 hp2 hk2 => ?_
            have J2 : ∀ (x2 : Bool) (i2 : Nat → Nat), p2 = x2 → K12 ⟨[(1, .ptr 1 n0 0 0), (82, .r (.bool x2))], [(1, some (.box n0 46 [.r (.int .i64 o1.Clock), .r (.int .i64 o1.Site), .r (.int .i64 o1.Kind), .r (.int .i64 o1.Item), .r (.int .i64 o1.Parent), .r (.str o1.Place), .r (.str o1.Name), .r (.str o1.Value)]))], (i2 0), 116⟩ := by
              intro x2 i2 e
              have h7 := hk2 _ e
              refine hK12 _ ?_
              refine AW.cond rfl (fun hc5 => ?_) (fun hc5 => ?_)
              · have h8 := Ag hc5 h7
                refine AH fun K14 hK14 wK14 => ?_
                refine AW.region ?_
                refine AB.step rfl rfl rfl (AD (AK rfl (.inl rfl)) _) ?_
                refine AB.nil ?_
                refine hK14 _ ?_
                refine AW.ret ?_
                exact Am (P := Try.prog) (fun (r : Int) => .r (.int .i64 r)) h8 (.inl rfl) (.t (.d rfl))
              · have h8 := Ah hc5 h7
                refine AH fun K15 hK15 wK15 => ?_
                refine AW.region ?_
                refine AB.step rfl rfl rfl (AD (AX (ob := .box _ _ _) rfl Bx (.inl rfl) (fun _ => rfl) rfl) _) ?_
                refine AB.step rfl rfl rfl (AD (AR (a := .r (.int .i64 o1.Kind)) rfl Ae (.inl rfl) rfl rfl) _) ?_
                refine AB.step rfl rfl rfl (AD (BH rfl (.inl rfl) (.inl rfl)) _) ?_
                refine AB.step rfl rfl rfl (AD (AI rfl (.inl rfl)) _) ?_
                refine AB.stepW (.one rfl rfl rfl) rfl rfl (AD (AX (ob := .box _ _ _) rfl EV (.inl rfl) (fun _ => rfl) rfl) _) ?_
                refine AB.stepW (.one rfl rfl rfl) rfl rfl (AD (AR (a := .r (.str o1.Value)) rfl A4 (.inr ⟨_, (by exact id), rfl⟩) rfl rfl) _) ?_
                refine AB.stepW (.one rfl rfl rfl) rfl rfl (AD (C0 rfl (.inr ⟨_, (by exact id), rfl⟩) (.inl rfl)) _) ?_
                refine AB.step rfl rfl rfl (AD (A0 rfl (.inl rfl) (.inr ⟨_, (by exact id), rfl⟩)) _) ?_
                refine AB.step rfl rfl rfl (AD (AI rfl (.inl rfl)) _) ?_
                refine AB.stepW (.one rfl rfl rfl) rfl rfl (AD (AX (ob := .box _ _ _) rfl EV (.inl rfl) (fun _ => rfl) rfl) _) ?_
                refine AB.stepW (.one rfl rfl rfl) rfl rfl (AD (AR (a := .r (.str o1.Value)) rfl A4 (.inr ⟨_, (by exact id), rfl⟩) rfl rfl) _) ?_
                refine AU h8 fun r2 er2 h9 => ?_
                refine AB.stepW (.one rfl rfl rfl) rfl rfl (A7 (r := .r (.bool r2)) (caps := []) (bs := [.r (.str o1.Value)]) rfl (.inl rfl) rfl ⟨⟨_, (.inr ⟨_, (by exact id), rfl⟩), .d rfl⟩, trivial⟩ (fun hg => OG (BL er2 hg)) rfl) ?_
                refine AB.stepW (.one rfl rfl rfl) rfl rfl (AD (Bi rfl (.inr ⟨_, (by exact id), rfl⟩)) _) ?_
                refine AB.step rfl rfl rfl (AD (A0 rfl (.inl rfl) (.inr ⟨_, (by exact id), rfl⟩)) _) ?_
                refine AB.step rfl rfl rfl (AD (AK rfl (.inl rfl)) _) ?_
                refine AB.nil ?_
                refine hK15 _ ?_
                refine AW.cond rfl (fun hc6 => ?_) (fun hc6 => ?_)
                · have h10 := Ag hc6 h9
                  refine AH fun K16 hK16 wK16 => ?_
                  refine AW.weak (s' := ⟨[], [], (i2 0), 116⟩) (by exact AL trivial trivial (Nat.le_refl _)) ?_
                  refine AW.region ?_
                  refine AB.step rfl rfl rfl (AD (AK rfl (.inl rfl)) _) ?_
                  refine AB.nil ?_
                  refine hK16 _ ?_
                  refine AW.ret ?_
                  exact Am (P := Try.prog) (fun (r : Int) => .r (.int .i64 r)) h10 (.inl rfl) (.t (.d rfl))
                · have h10 := Ah hc6 h9
                  refine AW.skip ?_
                  refine hK2 _ ?_
                  refine AH fun K17 hK17 wK17 => ?_
                  refine AW.weak (s' := ⟨[], [], (i2 0), 116⟩) (by exact AL trivial trivial (Nat.le_refl _)) ?_
                  refine AW.region ?_
                  refine AB.step rfl rfl rfl (AD (AK rfl (.inl rfl)) _) ?_
                  refine AB.nil ?_
                  refine hK17 _ ?_
                  refine AW.ret ?_
                  exact Am (P := Try.prog) (fun (r : Int) => .r (.int .i64 r)) h10 (.inl rfl) (.t (.d rfl))
            refine AW.cond rfl (fun hc7 => ?_) (fun hc7 => ?_)
            · have h11 := Ag hc7 hp2
              refine AW.skip ?_
              exact wK12 _ _ ((by exact AL ⟨.inl (.inl rfl), .inl (.inl rfl), trivial⟩ ⟨.inl rfl, trivial⟩ (Nat.le_refl _))) (J2 _ (Ab [(i1 0)]) (Option.some.inj h11).symm)
            · have h11 := Ah hc7 hp2
              refine AW.weak (s' := ⟨[(1, .ptr 1 n0 0 0)], [(1, some (.box n0 46 [.r (.int .i64 o1.Clock), .r (.int .i64 o1.Site), .r (.int .i64 o1.Kind), .r (.int .i64 o1.Item), .r (.int .i64 o1.Parent), .r (.str o1.Place), .r (.str o1.Name), .r (.str o1.Value)]))], (i1 0), 116⟩) (by exact AL ⟨.inl (.inl rfl), trivial⟩ ⟨.inl rfl, trivial⟩ (Nat.le_refl _)) ?_
              refine AW.region ?_
              refine AB.step rfl rfl rfl (AD (AX (ob := .box _ _ _) rfl Bx (.inl rfl) (fun _ => rfl) rfl) _) ?_
              refine AB.step rfl rfl rfl (AD (AR (a := .r (.int .i64 o1.Kind)) rfl Ae (.inl rfl) rfl rfl) _) ?_
              refine AB.step rfl rfl rfl (AD (BH rfl (.inl rfl) (.inl rfl)) _) ?_
              refine AB.step rfl rfl rfl (AD (AI rfl (.inl rfl)) _) ?_
              refine AB.stepW (.one rfl rfl rfl) rfl rfl (AD (AX (ob := .box _ _ _) rfl FS (.inl rfl) (fun _ => rfl) rfl) _) ?_
              refine AB.stepW (.one rfl rfl rfl) rfl rfl (AD (AR (a := .r (.str o1.Name)) rfl A4 (.inr ⟨_, (by exact id), rfl⟩) rfl rfl) _) ?_
              refine AU h11 fun r3 er3 h12 => ?_
              refine AB.stepW (.one rfl rfl rfl) rfl rfl (A7 (r := .r (.bool r3)) (caps := []) (bs := [.r (.str o1.Name)]) rfl (.inl rfl) rfl ⟨⟨_, (.inr ⟨_, (by exact id), rfl⟩), .d rfl⟩, trivial⟩ (fun hg => SC (BL er3 hg)) rfl) ?_
              refine AB.stepW (.one rfl rfl rfl) rfl rfl (AD (Bi rfl (.inr ⟨_, (by exact id), rfl⟩)) _) ?_
              refine AB.step rfl rfl rfl (AD (A0 rfl (.inl rfl) (.inr ⟨_, (by exact id), rfl⟩)) _) ?_
              refine AB.step rfl rfl rfl (AD (AK rfl (.inl rfl)) _) ?_
              refine AB.nil ?_
              exact wK12 _ _ ((by exact AL ⟨.inl (.inl rfl), .inl (.inl rfl), trivial⟩ ⟨.inl rfl, trivial⟩ (Nat.le_refl _))) (J2 _ (Ab [(i1 0)]) (Option.some.inj h12).symm)
      refine AW.cond rfl (fun hc8 => ?_) (fun hc8 => ?_)
      · have h13 := Ag hc8 hp1
        refine AW.skip ?_
        exact wK7 _ _ ((by exact AL ⟨.inl (.inl rfl), .inl (.inl rfl), trivial⟩ ⟨.inl rfl, trivial⟩ (Nat.le_refl _))) (J1 _ (Ab [(n0 + 1)]) (Option.some.inj h13).symm)
      · have h13 := Ah hc8 hp1
        refine AW.weak (s' := ⟨[(1, .ptr 1 n0 0 0)], [(1, some (.box n0 46 [.r (.int .i64 o1.Clock), .r (.int .i64 o1.Site), .r (.int .i64 o1.Kind), .r (.int .i64 o1.Item), .r (.int .i64 o1.Parent), .r (.str o1.Place), .r (.str o1.Name), .r (.str o1.Value)]))], (n0 + 1), 116⟩) (by exact AL ⟨.inl (.inl rfl), trivial⟩ ⟨.inl rfl, trivial⟩ (Nat.le_refl _)) ?_
        refine AW.region ?_
        refine AB.step rfl rfl rfl (AD (AX (ob := .box _ _ _) rfl Bx (.inl rfl) (fun _ => rfl) rfl) _) ?_
        refine AB.step rfl rfl rfl (AD (AR (a := .r (.int .i64 o1.Kind)) rfl Ae (.inl rfl) rfl rfl) _) ?_
        refine AB.step rfl rfl rfl (AD (BH rfl (.inl rfl) (.inl rfl)) _) ?_
        refine AB.step rfl rfl rfl (AD (AI rfl (.inl rfl)) _) ?_
        refine AB.stepW (.one rfl rfl rfl) rfl rfl (AD (AX (ob := .box _ _ _) rfl Ch (.inl rfl) (fun _ => rfl) rfl) _) ?_
        refine AB.stepW (.one rfl rfl rfl) rfl rfl (AD (AR (a := .r (.int .i64 o1.Parent)) rfl Ae (.inr ⟨_, (by exact id), rfl⟩) rfl rfl) _) ?_
        refine AB.stepW (.one rfl rfl rfl) rfl rfl (AD (Bq rfl (.inr ⟨_, (by exact id), rfl⟩) (.inl rfl)) _) ?_
        refine AB.stepW (.one rfl rfl rfl) rfl rfl (AD (AI rfl (.inr ⟨_, (by exact id), rfl⟩)) _) ?_
        refine AB.stepW (.two rfl rfl rfl) rfl rfl (AD (AX (ob := .box _ _ _) rfl Ej (.inl rfl) (fun _ => rfl) rfl) _) ?_
        refine AB.stepW (.two rfl rfl rfl) rfl rfl (AD (AR (a := .r (.str o1.Place)) rfl A4 (.inr ⟨_, (by exact id), rfl⟩) rfl rfl) _) ?_
        refine AB.stepW (.two rfl rfl rfl) rfl rfl (AD (C0 rfl (.inr ⟨_, (by exact id), rfl⟩) (.inl rfl)) _) ?_
        refine AB.stepW (.one rfl rfl rfl) rfl rfl (AD (A3 rfl (.inr ⟨_, (by exact id), rfl⟩) (.inr ⟨_, (by exact id), rfl⟩)) _) ?_
        refine AB.step rfl rfl rfl (AD (A0 rfl (.inl rfl) (.inr ⟨_, (by exact id), rfl⟩)) _) ?_
        refine AB.step rfl rfl rfl (AD (AK rfl (.inl rfl)) _) ?_
        refine AB.nil ?_
        exact wK7 _ _ ((by exact AL ⟨.inl (.inl rfl), .inl (.inl rfl), trivial⟩ ⟨.inl rfl, trivial⟩ (Nat.le_refl _))) (J1 _ (Ab [(n0 + 1)]) (Option.some.inj h13).symm)
theorem Mf {x1 : Int} {r : Bool} (h : Hz x1 = some r) : Af Try.prog 67 [.r (.int .i64 x1)] (.r (.bool r)) := by
  unfold Hz at h
  refine A6 Try.func67 rfl rfl Try.ntmps67 rfl (Nat.le_of_ble_eq_true rfl) fun n0 => ?_
  refine AH fun K1 hK1 wK1 => ?_
  refine AW.region ?_
  refine AB.step rfl rfl rfl (AD (AK rfl (.inl rfl)) _) ?_
  refine AB.nil ?_
  refine hK1 _ ?_
  refine AH fun K2 hK2 wK2 => ?_
  refine AW.region ?_
  refine AB.step rfl rfl rfl (AD (AI rfl (.inl rfl)) _) ?_
  refine AB.step rfl rfl rfl (AD (AI rfl (.inl rfl)) _) ?_
  refine AB.step rfl rfl rfl (AD (Bq rfl (.inl rfl) (.inl rfl)) _) ?_
  refine AB.step rfl rfl rfl (AD (AK rfl (.inl rfl)) _) ?_
  refine AB.nil ?_
  refine hK2 _ ?_
  refine AW.ret ?_
  exact Am (P := Try.prog) (fun (r : Bool) => .r (.bool r)) h (.inl rfl) (.t (.d rfl))
theorem Iw {x1 : Int} {y1 : Int} {r : Int} (h : Ei x1 y1 = some r) : Af Try.prog 49 [.r (.int .i64 x1), .r (.int .i64 y1)] (.r (.int .i64 r)) := by
  unfold Ei at h
  refine A6 Try.func49 rfl rfl Try.ntmps49 rfl (Nat.le_of_ble_eq_true rfl) fun n0 => ?_
  refine AH fun K1 hK1 wK1 => ?_
  refine AW.region ?_
  refine AB.step rfl rfl rfl (AD (AK rfl (.inl rfl)) _) ?_
  refine AB.nil ?_
  refine hK1 _ ?_
  refine AH fun K2 hK2 wK2 => ?_
  refine AW.region ?_
  refine AB.step rfl rfl rfl (AD (AI rfl (.inl rfl)) _) ?_
  refine AU h fun xNaN1 exNaN1 h1 => ?_
  refine AB.step rfl rfl rfl (A7 (r := .r (.bool xNaN1)) (caps := []) (bs := [.r (.int .i64 x1)]) rfl (.inl rfl) rfl ⟨⟨_, (.inl rfl), .d rfl⟩, trivial⟩ (fun _ => Mf (exNaN1)) rfl) ?_
  refine AB.step rfl rfl rfl (AD (AK rfl (.inl rfl)) _) ?_
  refine AB.nil ?_
  refine hK2 _ ?_
  refine AH fun K3 hK3 wK3 => ?_
  refine AW.region ?_
  refine AB.step rfl rfl rfl (AD (AI rfl (.inl rfl)) _) ?_
  refine AU h1 fun yNaN1 eyNaN1 h2 => ?_
  refine AB.step rfl rfl rfl (A7 (r := .r (.bool yNaN1)) (caps := []) (bs := [.r (.int .i64 y1)]) rfl (.inl rfl) rfl ⟨⟨_, (.inl rfl), .d rfl⟩, trivial⟩ (fun _ => Mf (eyNaN1)) rfl) ?_
  refine AB.step rfl rfl rfl (AD (AK rfl (.inl rfl)) _) ?_
  refine AB.nil ?_
  refine hK3 _ ?_
  refine AH fun K4 hK4 wK4 => ?_
  refine AH fun K5 hK5 wK5 => ?_
  refine AW.region ?_
  refine AB.step rfl rfl rfl (AD (AI rfl (.inl rfl)) _) ?_
  refine AB.nil ?_
  refine hK5 _ ?_
  refine AW.cond rfl (fun hc1 => ?_) (fun hc1 => ?_)
  · have h3 := Ag hc1 h2
    refine AH fun K6 hK6 wK6 => ?_
    refine AH fun K7 hK7 wK7 => ?_
    refine AW.weak (s' := ⟨[(6, .r (.bool yNaN1))], [], n0, 20⟩) (by exact AL ⟨.inl (.inl rfl), trivial⟩ trivial (Nat.le_refl _)) ?_
    refine AW.region ?_
    refine AB.step rfl rfl rfl (AD (AI rfl (.inl rfl)) _) ?_
    refine AB.nil ?_
    refine hK7 _ ?_
    refine AW.cond rfl (fun hc2 => ?_) (fun hc2 => ?_)
    · have h4 := Ag hc2 h3
      refine AH fun K8 hK8 wK8 => ?_
      refine AW.region ?_
      refine AB.step rfl rfl rfl (AD (AK rfl (.inl rfl)) _) ?_
      refine AB.nil ?_
      refine hK8 _ ?_
      refine AW.ret ?_
      exact Am (P := Try.prog) (fun (r : Int) => .r (.int .i64 r)) h4 (.inl rfl) (.t (.d rfl))
    · have h4 := Ah hc2 h3
      refine AW.skip ?_
      refine hK6 _ ?_
      refine AH fun K9 hK9 wK9 => ?_
      refine AW.region ?_
      refine AB.step rfl rfl rfl (AD (AK rfl (.inl rfl)) _) ?_
      refine AB.nil ?_
      refine hK9 _ ?_
      refine AW.ret ?_
      exact Am (P := Try.prog) (fun (r : Int) => .r (.int .i64 r)) h4 (.inl rfl) (.t (.d rfl))
  · have h3 := Ah hc1 h2
    refine AW.skip ?_
    refine hK4 _ ?_
    refine AH fun K10 hK10 wK10 => ?_
    refine AH fun K11 hK11 wK11 => ?_
    refine AW.region ?_
    refine AB.step rfl rfl rfl (AD (AI rfl (.inl rfl)) _) ?_
    refine AB.nil ?_
    refine hK11 _ ?_
    refine AW.cond rfl (fun hc3 => ?_) (fun hc3 => ?_)
    · have h5 := Ag hc3 h3
      refine AH fun K12 hK12 wK12 => ?_
      refine AW.weak (s' := ⟨[], [], n0, 20⟩) (by exact AL trivial trivial (Nat.le_refl _)) ?_
      refine AW.region ?_
      refine AB.step rfl rfl rfl (AD (AK rfl (.inl rfl)) _) ?_
      refine AB.nil ?_
      refine hK12 _ ?_
      refine AW.ret ?_
      exact Am (P := Try.prog) (fun (r : Int) => .r (.int .i64 r)) h5 (.inl rfl) (.t (.d rfl))
    · have h5 := Ah hc3 h3
      refine AW.skip ?_
      refine hK10 _ ?_
      refine AH fun K13 hK13 wK13 => ?_
      refine AH fun K14 hK14 wK14 => ?_
      refine AW.weak (s' := ⟨[(0, .r (.int .i64 x1)), (1, .r (.int .i64 y1))], [], n0, 20⟩) (by exact AL ⟨.inl (.inl rfl), .inl (.inl rfl), trivial⟩ trivial (Nat.le_refl _)) ?_
      refine AW.region ?_
      refine AB.step rfl rfl rfl (AD (AI rfl (.inl rfl)) _) ?_
      refine AB.step rfl rfl rfl (AD (AI rfl (.inl rfl)) _) ?_
      refine AB.step rfl rfl rfl (AD (Ar rfl (.inl rfl) (.inl rfl)) _) ?_
      refine AB.nil ?_
      refine hK14 _ ?_
      refine AW.cond rfl (fun hc4 => ?_) (fun hc4 => ?_)
      · have h6 := Ag hc4 h5
        refine AH fun K15 hK15 wK15 => ?_
        refine AW.region ?_
        refine AB.step rfl rfl rfl (AD (AK rfl (.inl rfl)) _) ?_
        refine AB.nil ?_
        refine hK15 _ ?_
        refine AW.ret ?_
        exact Am (P := Try.prog) (fun (r : Int) => .r (.int .i64 r)) h6 (.inl rfl) (.t (.d rfl))
      · have h6 := Ah hc4 h5
        refine AW.skip ?_
        refine hK13 _ ?_
        refine AH fun K16 hK16 wK16 => ?_
        refine AH fun K17 hK17 wK17 => ?_
        refine AW.region ?_
        refine AB.step rfl rfl rfl (AD (AI rfl (.inl rfl)) _) ?_
        refine AB.step rfl rfl rfl (AD (AI rfl (.inl rfl)) _) ?_
        refine AB.step rfl rfl rfl (AD (BT rfl (.inl rfl) (.inl rfl)) _) ?_
        refine AB.nil ?_
        refine hK17 _ ?_
        refine AW.cond rfl (fun hc5 => ?_) (fun hc5 => ?_)
        · have h7 := Ag hc5 h6
          refine AH fun K18 hK18 wK18 => ?_
          refine AW.region ?_
          refine AB.step rfl rfl rfl (AD (AK rfl (.inl rfl)) _) ?_
          refine AB.nil ?_
          refine hK18 _ ?_
          refine AW.ret ?_
          exact Am (P := Try.prog) (fun (r : Int) => .r (.int .i64 r)) h7 (.inl rfl) (.t (.d rfl))
        · have h7 := Ah hc5 h6
          refine AW.skip ?_
          refine hK16 _ ?_
          refine AH fun K19 hK19 wK19 => ?_
          refine AW.region ?_
          refine AB.step rfl rfl rfl (AD (AK rfl (.inl rfl)) _) ?_
          refine AB.nil ?_
          refine hK19 _ ?_
          refine AW.ret ?_
          exact Am (P := Try.prog) (fun (r : Int) => .r (.int .i64 r)) h7 (.inl rfl) (.t (.d rfl))
theorem MW {vals1 : List Int} {r : Int} (h : Gf vals1 = some r) : Af Try.prog 47 [.r (.sl (vals1.map (F9 .i64)))] (.r (.int .i64 r)) := by
  unfold Gf at h
  refine A6 Try.func47 rfl rfl Try.ntmps47 rfl (Nat.le_of_ble_eq_true rfl) fun n0 => ?_
  refine AH fun K1 hK1 wK1 => ?_
  refine AW.region ?_
  refine AB.step rfl rfl rfl (AD (AK rfl (.inl rfl)) _) ?_
  refine AB.nil ?_
  refine hK1 _ ?_
  refine AH fun K2 hK2 wK2 => ?_
  refine AW.region ?_
  refine AB.step rfl rfl rfl (AD (AK rfl (.inl rfl)) _) ?_
  refine AB.nil ?_
  refine hK2 _ ?_
  refine AH fun K3 hK3 wK3 => ?_
  refine AH fun K4 hK4 wK4 => ?_
  refine AW.region ?_
  refine AB.step rfl rfl rfl (AD (AI rfl (.inl rfl)) _) ?_
  refine AB.step rfl rfl rfl (AD (BO rfl Ir.slice (.inl rfl)) _) ?_
  refine AB.step rfl rfl rfl (AD (AI rfl (.inl rfl)) _) ?_
  refine AB.nil ?_
  refine hK4 _ ?_
  refine AW.block ?_
  refine B5 h fun o1 hit1 hk1 he1 => ?_
  have J1 : ∀ (u2 : Unit) (i5 : Nat → Nat), o1 = .nrm u2 → K3 ⟨[(3, .r (.int .i64 0))], [], (i5 0), 18⟩ := by
    intro u2 i5 e
    have h1 := hk1 _ e
    refine hK3 _ ?_
    refine AH fun K5 hK5 wK5 => ?_
    refine AW.region ?_
    refine AB.step rfl rfl rfl (AD (AI rfl (.inl rfl)) _) ?_
    refine AB.step rfl rfl rfl (AD (AK rfl (.inl rfl)) _) ?_
    refine AB.nil ?_
    refine hK5 _ ?_
    refine AW.ret ?_
    exact Am (P := Try.prog) (fun (r : Int) => .r (.int .i64 r)) h1 (.inl rfl) (.t (.d rfl))
  refine DG (fun (x2 : Int) i3 => ⟨[(3, .r (.int .i64 0)), (6, .r (.sl (vals1.map (F9 .i64)))), (7, .r (.int .i64 (vals1.length : Int))), (8, .r (.int .i64 x2))], [], (i3 0), 18⟩) (Ab [n0]) hit1 ((by exact AL ⟨.inl (.inl rfl), .inl (.inl rfl), .inl (.inl rfl), .inl (.inl rfl), trivial⟩ trivial (Nat.le_refl _))) ?_
  intro x2 i3 v1 hv1 hx1
  have h2 : HG vals1 x2 = some v1 := hv1; unfold HG at h2
  refine AH fun K6 hK6 wK6 => ?_
  refine AW.region ?_
  refine AB.step rfl rfl rfl (AD (Ar rfl (.inl rfl) (.inl rfl)) _) ?_
  refine AB.nil ?_
  refine hK6 _ ?_
  refine AH fun K7 hK7 wK7 => ?_
  refine AW.cond rfl (fun hc1 => ?_) (fun hc1 => ?_)
  · have h3 := Ag hc1 h2
    refine AW.skip ?_
    refine hK7 _ ?_
    refine AH fun K8 hK8 wK8 => ?_
    refine AW.block ?_
    refine AH fun K9 hK9 wK9 => ?_
    refine AW.region ?_
    refine AU h3 fun x4 ex4 h4 => ?_
    refine AB.step rfl rfl rfl (AD (A5 rfl Ir.slice (.inl rfl) (.inl rfl) (fun _ => rfl) (fun _ => ex4)) _) ?_
    refine AB.step rfl rfl rfl (AD (CE (d := .int .i64 x4) rfl Ae (.inl rfl) rfl) _) ?_
    refine AB.step rfl rfl rfl (AD (AK rfl (.inl rfl)) _) ?_
    refine AB.nil ?_
    refine hK9 _ ?_
    refine AH fun K10 hK10 wK10 => ?_
    refine AW.region ?_
    refine AB.step rfl rfl rfl (AD (AI rfl (.inl rfl)) _) ?_
    refine AB.step rfl rfl rfl (AD (AI rfl (.inl rfl)) _) ?_
    refine AB.step rfl rfl rfl (AD (Bq rfl (.inl rfl) (.inl rfl)) _) ?_
    refine AB.nil ?_
    refine hK10 _ ?_
    refine AW.cond rfl (fun hc2 => ?_) (fun hc2 => ?_)
    · have h5 := Ag hc2 h4
      refine AH fun K11 hK11 wK11 => ?_
      refine AW.weak (s' := ⟨[(5, .r (.int .i64 x4))], [], (i3 0), 18⟩) (by exact AL ⟨.inl (.inl rfl), trivial⟩ trivial (Nat.le_refl _)) ?_
      refine AW.region ?_
      refine AB.step rfl rfl rfl (AD (AI rfl (.inl rfl)) _) ?_
      refine AB.step rfl rfl rfl (AD (AK rfl (.inl rfl)) _) ?_
      refine AB.nil ?_
      refine hK11 _ ?_
      refine AW.ret ?_
      exact Am (P := Try.prog) (fun (r : Int) => .r (.int .i64 r)) (he1 _ (hx1 _ (Option.some.inj h5).symm)) (.inl rfl) (.t (.d rfl))
    · have h5 := Ah hc2 h4
      refine AW.skip ?_
      refine hK8 _ ?_
      refine AW.region ?_
      refine AU h5 fun x5 ex5 h6 => ?_
      refine AB.step rfl rfl rfl (AD (BC rfl (.inl rfl) (.inl rfl) (fun _ => ex5)) _) ?_
      refine AB.step rfl rfl rfl (AD (AI rfl (.inl rfl)) _) ?_
      refine AB.nil ?_
      exact CZ.mk h6 (Ab [(i3 0)]) ((by exact AL ⟨.inl (.inl rfl), .inl (.inl rfl), .inl (.inl rfl), .inl (.inl rfl), trivial⟩ trivial (Nat.le_refl _)))
  · have h3 := Ah hc1 h2
    refine AW.exit ?_
    exact wK3 _ _ ((by exact AL ⟨.inl (.inl rfl), trivial⟩ trivial (Nat.le_refl _))) (J1 _ (Ab [(i3 0)]) (hx1 _ (Option.some.inj h3).symm))
theorem No {a1 : AP} {b1 : AP} {r : Int} (h : Hk a1 b1 = some r) : Af Try.prog 35 [.agg [.r (.int .i64 a1.Clock), .r (.int .i64 a1.Site), .r (.int .i64 a1.Kind), .r (.int .i64 a1.Item), .r (.int .i64 a1.Parent), .r (.str a1.Place), .r (.str a1.Name), .r (.str a1.Value)], .agg [.r (.int .i64 b1.Clock), .r (.int .i64 b1.Site), .r (.int .i64 b1.Kind), .r (.int .i64 b1.Item), .r (.int .i64 b1.Parent), .r (.str b1.Place), .r (.str b1.Name), .r (.str b1.Value)]] (.r (.int .i64 r)) := by
  unfold Hk at h
  refine A6 Try.func35 rfl rfl Try.ntmps35 rfl (Nat.le_of_ble_eq_true rfl) fun n0 => ?_
  refine AH fun K1 hK1 wK1 => ?_
  refine AW.region ?_
  refine AB.step rfl rfl rfl (CU (cs := [.r (.int .i64 a1.Clock), .r (.int .i64 a1.Site), .r (.int .i64 a1.Kind), .r (.int .i64 a1.Item), .r (.int .i64 a1.Parent), .r (.str a1.Place), .r (.str a1.Name), .r (.str a1.Value)]) 2 rfl (.inl rfl) rfl rfl) ?_
  refine AB.step rfl rfl rfl (CU (cs := [.r (.int .i64 b1.Clock), .r (.int .i64 b1.Site), .r (.int .i64 b1.Kind), .r (.int .i64 b1.Item), .r (.int .i64 b1.Parent), .r (.str b1.Place), .r (.str b1.Name), .r (.str b1.Value)]) 3 rfl (.inl rfl) rfl rfl) ?_
  refine AB.step rfl rfl rfl (AD (AK rfl (.inl rfl)) _) ?_
  refine AB.nil ?_
  refine hK1 _ ?_
  refine AH fun K2 hK2 wK2 => ?_
  refine AU h fun r1 er1 h1 => ?_
  refine Fx 9 [⟨some 5, (fun _ => .ptr 2 n0 0 0), none, []⟩, ⟨some 6, (fun _ => .r (.int .i64 a1.Clock)), none, []⟩, ⟨some 7, (fun _ => .ptr 3 (n0 + 1) 0 0), none, []⟩, ⟨some 8, (fun _ => .r (.int .i64 b1.Clock)), none, []⟩, ⟨some 9, (fun _ => .r (.int .i64 r1)), none, []⟩, ⟨some 10, (fun _ => .ptr 2 n0 0 1), none, []⟩, ⟨some 11, (fun _ => .r (.int .i64 a1.Site)), none, []⟩, ⟨some 12, (fun _ => .ptr 3 (n0 + 1) 0 1), none, []⟩, ⟨some 13, (fun _ => .r (.int .i64 b1.Site)), none, []⟩] Bt (by kernel_rfl) (by exact ⟨fun _ _ h => ⟨rfl, fun _ _ e => by cases e⟩, fun _ _ h => ⟨rfl, fun _ _ e => by cases e⟩, fun _ _ h => ⟨rfl, fun _ _ e => by cases e⟩, fun _ _ h => ⟨rfl, fun _ _ e => by cases e⟩, fun _ _ h => ⟨rfl, fun _ _ e => by cases e⟩, fun _ _ h => ⟨rfl, fun _ _ e => by cases e⟩, fun _ _ h => ⟨rfl, fun _ _ e => by cases e⟩, fun _ _ h => ⟨rfl, fun _ _ e => by cases e⟩, fun _ _ h => ⟨rfl, fun _ _ e => by cases e⟩, trivial⟩) rfl (by exact ⟨Aq (n1 := fun n => n) rfl rfl (by intro d h; cases h; rfl) rfl (fun _ => [(2, .ptr 2 n0 0 0)]) (fun _ => [(2, some (.box n0 46 [.r (.int .i64 a1.Clock), .r (.int .i64 a1.Site), .r (.int .i64 a1.Kind), .r (.int .i64 a1.Item), .r (.int .i64 a1.Parent), .r (.str a1.Place), .r (.str a1.Name), .r (.str a1.Value)]))]) (fun D G1 hr => ⟨BK rfl rfl, trivial⟩) (fun D G1 hr => ⟨At rfl rfl, trivial⟩) (fun _ _ => rfl) (fun G1 e h' n => AD (v := .ptr 2 n0 0 0) (AX (ob := .box _ _ _) rfl DU (.inl rfl) (fun _ => rfl) rfl) _),
      Aq (n1 := fun n => n) rfl rfl (by intro d h; cases h; rfl) rfl (fun _ => [(5, .ptr 2 n0 0 0)]) (fun _ => [(2, some (.box n0 46 [.r (.int .i64 a1.Clock), .r (.int .i64 a1.Site), .r (.int .i64 a1.Kind), .r (.int .i64 a1.Item), .r (.int .i64 a1.Parent), .r (.str a1.Place), .r (.str a1.Name), .r (.str a1.Value)]))]) (fun D G1 hr => ⟨Au hr 0 rfl rfl (by kernel_rfl) rfl rfl, trivial⟩) (fun D G1 hr => ⟨At rfl rfl, trivial⟩) (fun _ _ => rfl) (fun G1 e h' n => AD (v := .r (.int .i64 a1.Clock)) (AR (a := .r (.int .i64 a1.Clock)) rfl Ae (.inl rfl) rfl rfl) _),
      Aq (n1 := fun n => n) rfl rfl (by intro d h; cases h; rfl) rfl (fun _ => [(3, .ptr 3 (n0 + 1) 0 0)]) (fun _ => [(3, some (.box (n0 + 1) 46 [.r (.int .i64 b1.Clock), .r (.int .i64 b1.Site), .r (.int .i64 b1.Kind), .r (.int .i64 b1.Item), .r (.int .i64 b1.Parent), .r (.str b1.Place), .r (.str b1.Name), .r (.str b1.Value)]))]) (fun D G1 hr => ⟨BK rfl rfl, trivial⟩) (fun D G1 hr => ⟨At rfl rfl, trivial⟩) (fun _ _ => rfl) (fun G1 e h' n => AD (v := .ptr 3 (n0 + 1) 0 0) (AX (ob := .box _ _ _) rfl DU (.inl rfl) (fun _ => rfl) rfl) _),
      Aq (n1 := fun n => n) rfl rfl (by intro d h; cases h; rfl) rfl (fun _ => [(7, .ptr 3 (n0 + 1) 0 0)]) (fun _ => [(3, some (.box (n0 + 1) 46 [.r (.int .i64 b1.Clock), .r (.int .i64 b1.Site), .r (.int .i64 b1.Kind), .r (.int .i64 b1.Item), .r (.int .i64 b1.Parent), .r (.str b1.Place), .r (.str b1.Name), .r (.str b1.Value)]))]) (fun D G1 hr => ⟨Au hr 2 rfl rfl (by kernel_rfl) rfl rfl, trivial⟩) (fun D G1 hr => ⟨At rfl rfl, trivial⟩) (fun _ _ => rfl) (fun G1 e h' n => AD (v := .r (.int .i64 b1.Clock)) (AR (a := .r (.int .i64 b1.Clock)) rfl Ae (.inl rfl) rfl rfl) _),
      Aq (n1 := fun n => n) rfl rfl (by intro d h; cases h; rfl) rfl (fun _ => [(6, .r (.int .i64 a1.Clock)), (8, .r (.int .i64 b1.Clock))]) (fun _ => []) (fun D G1 hr => ⟨Au hr 1 rfl rfl (by kernel_rfl) rfl rfl, Au hr 3 rfl rfl (by kernel_rfl) rfl rfl, trivial⟩) (fun D G1 hr => trivial) (fun _ _ => rfl) (fun G1 e h' n => A7 (r := .r (.int .i64 r1)) (caps := []) (bs := [.r (.int .i64 a1.Clock), .r (.int .i64 b1.Clock)]) rfl (.inl rfl) rfl ⟨⟨_, (.inl rfl), .d rfl⟩, ⟨_, (.inl rfl), .d rfl⟩, trivial⟩ (fun _ => Iw (er1)) rfl),
      Aq (n1 := fun n => n) rfl rfl (by intro d h; cases h; rfl) rfl (fun _ => [(2, .ptr 2 n0 0 0)]) (fun _ => [(2, some (.box n0 46 [.r (.int .i64 a1.Clock), .r (.int .i64 a1.Site), .r (.int .i64 a1.Kind), .r (.int .i64 a1.Item), .r (.int .i64 a1.Parent), .r (.str a1.Place), .r (.str a1.Name), .r (.str a1.Value)]))]) (fun D G1 hr => ⟨BK rfl rfl, trivial⟩) (fun D G1 hr => ⟨At rfl rfl, trivial⟩) (fun _ _ => rfl) (fun G1 e h' n => AD (v := .ptr 2 n0 0 1) (AX (ob := .box _ _ _) rfl EU (.inl rfl) (fun _ => rfl) rfl) _),
      Aq (n1 := fun n => n) rfl rfl (by intro d h; cases h; rfl) rfl (fun _ => [(10, .ptr 2 n0 0 1)]) (fun _ => [(2, some (.box n0 46 [.r (.int .i64 a1.Clock), .r (.int .i64 a1.Site), .r (.int .i64 a1.Kind), .r (.int .i64 a1.Item), .r (.int .i64 a1.Parent), .r (.str a1.Place), .r (.str a1.Name), .r (.str a1.Value)]))]) (fun D G1 hr => ⟨Au hr 5 rfl rfl (by kernel_rfl) rfl rfl, trivial⟩) (fun D G1 hr => ⟨At rfl rfl, trivial⟩) (fun _ _ => rfl) (fun G1 e h' n => AD (v := .r (.int .i64 a1.Site)) (AR (a := .r (.int .i64 a1.Site)) rfl Ae (.inl rfl) rfl rfl) _),
      Aq (n1 := fun n => n) rfl rfl (by intro d h; cases h; rfl) rfl (fun _ => [(3, .ptr 3 (n0 + 1) 0 0)]) (fun _ => [(3, some (.box (n0 + 1) 46 [.r (.int .i64 b1.Clock), .r (.int .i64 b1.Site), .r (.int .i64 b1.Kind), .r (.int .i64 b1.Item), .r (.int .i64 b1.Parent), .r (.str b1.Place), .r (.str b1.Name), .r (.str b1.Value)]))]) (fun D G1 hr => ⟨BK rfl rfl, trivial⟩) (fun D G1 hr => ⟨At rfl rfl, trivial⟩) (fun _ _ => rfl) (fun G1 e h' n => AD (v := .ptr 3 (n0 + 1) 0 1) (AX (ob := .box _ _ _) rfl EU (.inl rfl) (fun _ => rfl) rfl) _),
      Aq (n1 := fun n => n) rfl rfl (by intro d h; cases h; rfl) rfl (fun _ => [(12, .ptr 3 (n0 + 1) 0 1)]) (fun _ => [(3, some (.box (n0 + 1) 46 [.r (.int .i64 b1.Clock), .r (.int .i64 b1.Site), .r (.int .i64 b1.Kind), .r (.int .i64 b1.Item), .r (.int .i64 b1.Parent), .r (.str b1.Place), .r (.str b1.Name), .r (.str b1.Value)]))]) (fun D G1 hr => ⟨Au hr 7 rfl rfl (by kernel_rfl) rfl rfl, trivial⟩) (fun D G1 hr => ⟨At rfl rfl, trivial⟩) (fun _ _ => rfl) (fun G1 e h' n => AD (v := .r (.int .i64 b1.Site)) (AR (a := .r (.int .i64 b1.Site)) rfl Ae (.inl rfl) rfl rfl) _),
      trivial⟩) fun G1 n1 => ?_
  refine AB.weak (s' := ⟨[(0, .agg [.r (.int .i64 a1.Clock), .r (.int .i64 a1.Site), .r (.int .i64 a1.Kind), .r (.int .i64 a1.Item), .r (.int .i64 a1.Parent), .r (.str a1.Place), .r (.str a1.Name), .r (.str a1.Value)]), (1, .agg [.r (.int .i64 b1.Clock), .r (.int .i64 b1.Site), .r (.int .i64 b1.Kind), .r (.int .i64 b1.Item), .r (.int .i64 b1.Parent), .r (.str b1.Place), .r (.str b1.Name), .r (.str b1.Value)]), (2, .ptr 2 n0 0 0), (3, .ptr 3 (n0 + 1) 0 0), (4, .r (.int .i64 0)), (5, .ptr 2 n0 0 0), (6, .r (.int .i64 a1.Clock)), (7, .ptr 3 (n0 + 1) 0 0), (8, .r (.int .i64 b1.Clock)), (9, .r (.int .i64 r1)), (10, .ptr 2 n0 0 1), (11, .r (.int .i64 a1.Site)), (12, .ptr 3 (n0 + 1) 0 1), (13, .r (.int .i64 b1.Site))], [(2, some (.box n0 46 [.r (.int .i64 a1.Clock), .r (.int .i64 a1.Site), .r (.int .i64 a1.Kind), .r (.int .i64 a1.Item), .r (.int .i64 a1.Parent), .r (.str a1.Place), .r (.str a1.Name), .r (.str a1.Value)])), (3, some (.box (n0 + 1) 46 [.r (.int .i64 b1.Clock), .r (.int .i64 b1.Site), .r (.int .i64 b1.Kind), .r (.int .i64 b1.Item), .r (.int .i64 b1.Parent), .r (.str b1.Place), .r (.str b1.Name), .r (.str b1.Value)]))], n1, 17⟩) (by exact AL ⟨.inl (.inl rfl), .inl (.inl rfl), .inl (.inl rfl), .inl (.inl rfl), .inl (.inl rfl), .inl (.inl rfl), .inl (.inl rfl), .inl (.inl rfl), .inl (.inl rfl), .inl (.inl rfl), .inl (.inl rfl), .inl (.inl rfl), .inl (.inl rfl), .inl (.inl rfl), trivial⟩ ⟨.inl rfl, .inl rfl, trivial⟩ (Nat.le_refl _)) ?_
  refine AU h1 fun r2 er2 h2 => ?_
  refine AB.step rfl rfl rfl (A7 (r := .r (.int .i64 r2)) (caps := []) (bs := [.r (.int .i64 a1.Site), .r (.int .i64 b1.Site)]) rfl (.inl rfl) rfl ⟨⟨_, (.inl rfl), .d rfl⟩, ⟨_, (.inl rfl), .d rfl⟩, trivial⟩ (fun _ => Iw (er2)) rfl) ?_
  refine AB.step rfl rfl rfl (B3 15 rfl Ir (f := (F9 .i64)) (l := ([r1, r2] : List Int)) ⟨rfl, ⟨_, (.inl rfl), rfl⟩, rfl, ⟨_, (.inl rfl), rfl⟩, trivial⟩ rfl (fun _ => rfl) rfl) ?_
  refine AU h2 fun r3 er3 h3 => ?_
  refine AB.step rfl rfl rfl (A7 (r := .r (.int .i64 r3)) (caps := []) (bs := [.r (.sl ([r1, r2].map (F9 .i64)))]) rfl (.inl rfl) rfl ⟨⟨_, (.inl rfl), .one (.own rfl)⟩, trivial⟩ (fun _ => MW (er3)) rfl) ?_
  refine AB.step rfl rfl rfl (AD (AK rfl (.inl rfl)) _) ?_
  refine AB.nil ?_
  refine hK2 _ ?_
  refine AW.ret ?_
  exact Am (P := Try.prog) (fun (r : Int) => .r (.int .i64 r)) h3 (.inl rfl) (.t (.d rfl))
theorem Rx {l1 : List AP} {r : Int} (h : H0 l1 = some r) : Af Try.prog 15 [.r (.sl (l1.map AP.row))] (.r (.int .i64 r)) := by
  unfold H0 at h
  refine A6 Try.func15 rfl rfl Try.ntmps15 rfl (Nat.le_of_ble_eq_true rfl) fun n0 => ?_
  refine AH fun K1 hK1 wK1 => ?_
  refine AW.region ?_
  refine AB.step rfl rfl rfl (AD (AK rfl (.inl rfl)) _) ?_
  refine AB.nil ?_
  refine hK1 _ ?_
  refine AH fun K2 hK2 wK2 => ?_
  refine AH fun K3 hK3 wK3 => ?_
  refine AW.region ?_
  refine AB.step rfl rfl rfl (AD (AI rfl (.inl rfl)) _) ?_
  refine AB.step rfl rfl rfl (AD (BO rfl Cc.slice (.inl rfl)) _) ?_
  refine AB.step rfl rfl rfl (AD (AI rfl (.inl rfl)) _) ?_
  refine AB.nil ?_
  refine hK3 _ ?_
  refine AW.block ?_
  refine B5 h fun o1 hit1 hk1 he1 => ?_
  have J1 : ∀ (u2 : Unit) (i5 : Nat → Nat), o1 = .nrm u2 → K2 ⟨[], [], (i5 0), 31⟩ := by
    intro u2 i5 e
    have h1 := hk1 _ e
    refine hK2 _ ?_
    refine AH fun K4 hK4 wK4 => ?_
    refine AW.region ?_
    refine AB.step rfl rfl rfl (AD (AK rfl (.inl rfl)) _) ?_
    refine AB.nil ?_
    refine hK4 _ ?_
    refine AW.ret ?_
    exact Am (P := Try.prog) (fun (r : Int) => .r (.int .i64 r)) h1 (.inl rfl) (.t (.d rfl))
  refine DG (fun (x2 : Int) i3 => ⟨[(0, .r (.sl (l1.map AP.row))), (6, .r (.sl (l1.map AP.row))), (7, .r (.int .i64 (l1.length : Int))), (8, .r (.int .i64 x2))], [], (i3 0), 31⟩) (Ab [n0]) hit1 ((by exact AL ⟨.inl (.inl rfl), .inl (.inl rfl), .inl (.inl rfl), .inl (.inl rfl), trivial⟩ trivial (Nat.le_refl _))) ?_
  intro x2 i3 v1 hv1 hx1
  have h2 : G5 l1 x2 = some v1 := hv1; unfold G5 at h2
  refine AH fun K5 hK5 wK5 => ?_
  refine AW.region ?_
  refine AB.step rfl rfl rfl (AD (Ar rfl (.inl rfl) (.inl rfl)) _) ?_
  refine AB.nil ?_
  refine hK5 _ ?_
  refine AH fun K6 hK6 wK6 => ?_
  refine AW.cond rfl (fun hc1 => ?_) (fun hc1 => ?_)
  · have h3 := Ag hc1 h2
    refine AW.skip ?_
    refine hK6 _ ?_
    refine AH fun K7 hK7 wK7 => ?_
    refine AW.block ?_
    refine AH fun K8 hK8 wK8 => ?_
    refine AW.region ?_
    refine AB.step rfl rfl rfl (AD (AI rfl (.inl rfl)) _) ?_
    refine AU h3 fun x4 ex4 h4 => ?_
    refine AB.step rfl rfl rfl (AD (A5 rfl Cc.slice (.inl rfl) (.inl rfl) (fun _ => rfl) (fun _ => ex4)) _) ?_
    refine AB.step rfl rfl rfl (AD (Be (cs := [.r (.int .i64 x4.Clock), .r (.int .i64 x4.Site), .r (.int .i64 x4.Kind), .r (.int .i64 x4.Item), .r (.int .i64 x4.Parent), .r (.str x4.Place), .r (.str x4.Name), .r (.str x4.Value)]) rfl DJ (.inl rfl) rfl rfl) _) ?_
    refine AB.step rfl rfl rfl (Bs (cs := [.r (.int .i64 0), .r (.int .i64 0), .r (.int .i64 0), .r (.int .i64 0), .r (.int .i64 0), .r (.str []), .r (.str []), .r (.str [])]) 4 rfl F4 rfl rfl) ?_
    refine AB.step rfl rfl rfl (AD (AK rfl (.inl rfl)) _) ?_
    refine BG rfl rfl (Ba (ds := [.r (.int .i64 x4.Clock), .r (.int .i64 x4.Site), .r (.int .i64 x4.Kind), .r (.int .i64 x4.Item), .r (.int .i64 x4.Parent), .r (.str x4.Place), .r (.str x4.Name), .r (.str x4.Value)]) rfl Ga (.inl rfl) rfl (.inl rfl) rfl rfl rfl rfl) ?_
    refine AB.nil ?_
    refine hK8 _ ?_
    refine AH fun K9 hK9 wK9 => ?_
    refine AH fun K10 hK10 wK10 => ?_
    refine AW.region ?_
    refine AB.step rfl rfl rfl (AD (C7 rfl DJ (.inl rfl) rfl rfl) _) ?_
    refine AU h4 fun e1 ee1 h5 => ?_
    refine AB.step rfl rfl rfl (A7 (r := .r (.int .i64 e1)) (caps := []) (bs := [.agg [.r (.int .i64 x4.Clock), .r (.int .i64 x4.Site), .r (.int .i64 x4.Kind), .r (.int .i64 x4.Item), .r (.int .i64 x4.Parent), .r (.str x4.Place), .r (.str x4.Name), .r (.str x4.Value)]]) rfl (.inl rfl) rfl ⟨⟨_, (.inl rfl), .g (cs := [.int .i64 x4.Clock, .int .i64 x4.Site, .int .i64 x4.Kind, .int .i64 x4.Item, .int .i64 x4.Parent, .str x4.Place, .str x4.Name, .str x4.Value]) rfl rfl⟩, trivial⟩ (fun _ => OP (ee1)) rfl) ?_
    refine AB.step rfl rfl rfl (AD (AK rfl (.inl rfl)) _) ?_
    refine AB.nil ?_
    refine hK10 _ ?_
    refine AH fun K11 hK11 wK11 => ?_
    refine AW.region ?_
    refine AB.step rfl rfl rfl (AD (AI rfl (.inl rfl)) _) ?_
    refine AB.step rfl rfl rfl (AD (Bq rfl (.inl rfl) (.inl rfl)) _) ?_
    refine AB.nil ?_
    refine hK11 _ ?_
    refine AW.cond rfl (fun hc2 => ?_) (fun hc2 => ?_)
    · have h6 := Ag hc2 h5
      refine AH fun K12 hK12 wK12 => ?_
      refine AW.weak (s' := ⟨[(5, .r (.int .i64 e1))], [], ((i3 0) + 1), 31⟩) (by exact AL ⟨.inl (.inl rfl), trivial⟩ trivial (Nat.le_refl _)) ?_
      refine AW.region ?_
      refine AB.step rfl rfl rfl (AD (AI rfl (.inl rfl)) _) ?_
      refine AB.step rfl rfl rfl (AD (AK rfl (.inl rfl)) _) ?_
      refine AB.nil ?_
      refine hK12 _ ?_
      refine AW.ret ?_
      exact Am (P := Try.prog) (fun (r : Int) => .r (.int .i64 r)) (he1 _ (hx1 _ (Option.some.inj h6).symm)) (.inl rfl) (.t (.d rfl))
    · have h6 := Ah hc2 h5
      refine AW.skip ?_
      refine hK9 _ ?_
      refine AH fun K13 hK13 wK13 => ?_
      refine AW.weak (s' := ⟨[(0, .r (.sl (l1.map AP.row))), (3, .r (.int .i64 x2)), (4, .ptr 4 (i3 0) 0 0), (6, .r (.sl (l1.map AP.row))), (7, .r (.int .i64 (l1.length : Int))), (8, .r (.int .i64 x2))], [(4, some (.box (i3 0) 46 [.r (.int .i64 x4.Clock), .r (.int .i64 x4.Site), .r (.int .i64 x4.Kind), .r (.int .i64 x4.Item), .r (.int .i64 x4.Parent), .r (.str x4.Place), .r (.str x4.Name), .r (.str x4.Value)]))], ((i3 0) + 1), 31⟩) (by exact AL ⟨.inl (.inl rfl), .inl (.inl rfl), .inl (.inl rfl), .inl (.inl rfl), .inl (.inl rfl), .inl (.inl rfl), trivial⟩ ⟨.inl rfl, trivial⟩ (Nat.le_refl _)) ?_
      refine Dr Bt (by kernel_rfl) ?_
      refine AQ.step rfl rfl rfl (AI rfl (.inl rfl)) ?_
      refine AQ.step rfl rfl rfl (BT rfl (.inl rfl) (.inl rfl)) ?_
      refine AQ.step rfl rfl rfl (AI rfl (.inl rfl)) ?_
      refine AQ.stepW (.one rfl rfl rfl) rfl rfl (AI rfl (.inl rfl)) ?_
      refine AQ.stepW (.one rfl rfl rfl) rfl rfl (AI rfl (.inl rfl)) ?_
      refine AU h6 fun x5 ex5 h7 => ?_
      refine AQ.stepW (.one rfl rfl rfl) rfl rfl (Es rfl (.inr ⟨_, (by exact id), rfl⟩) (.inl rfl) (BL ex5)) ?_
      refine AU h7 fun x6 ex6 h8 => ?_
      refine AQ.stepW (.one rfl rfl rfl) rfl rfl (A5 rfl Cc.slice (.inr ⟨_, (by exact id), rfl⟩) (.inr ⟨_, (by exact id), rfl⟩) (fun _ => rfl) (BL ex6)) ?_
      refine AQ.stepW (.one rfl rfl rfl) rfl rfl (Be (cs := [.r (.int .i64 x6.Clock), .r (.int .i64 x6.Site), .r (.int .i64 x6.Kind), .r (.int .i64 x6.Item), .r (.int .i64 x6.Parent), .r (.str x6.Place), .r (.str x6.Name), .r (.str x6.Value)]) rfl DJ (.inr ⟨_, (by exact id), rfl⟩) rfl rfl) ?_
      refine AQ.stepW (.one rfl rfl rfl) rfl rfl (C7 rfl DJ (.inl rfl) rfl rfl) ?_
      refine AU h8 fun r1 er1 h9 => ?_
      refine Nf (.one rfl rfl rfl) rfl rfl (r := .r (.int .i64 r1)) (caps := []) (bs := [.agg [.r (.int .i64 x6.Clock), .r (.int .i64 x6.Site), .r (.int .i64 x6.Kind), .r (.int .i64 x6.Item), .r (.int .i64 x6.Parent), .r (.str x6.Place), .r (.str x6.Name), .r (.str x6.Value)], .agg [.r (.int .i64 x4.Clock), .r (.int .i64 x4.Site), .r (.int .i64 x4.Kind), .r (.int .i64 x4.Item), .r (.int .i64 x4.Parent), .r (.str x4.Place), .r (.str x4.Name), .r (.str x4.Value)]]) rfl (.inl rfl) rfl ⟨⟨_, (.inr ⟨_, (by exact id), rfl⟩), .g (cs := [.int .i64 x6.Clock, .int .i64 x6.Site, .int .i64 x6.Kind, .int .i64 x6.Item, .int .i64 x6.Parent, .str x6.Place, .str x6.Name, .str x6.Value]) rfl rfl⟩, ⟨_, (.inr ⟨_, (by exact id), rfl⟩), .g (cs := [.int .i64 x4.Clock, .int .i64 x4.Site, .int .i64 x4.Kind, .int .i64 x4.Item, .int .i64 x4.Parent, .str x4.Place, .str x4.Name, .str x4.Value]) rfl rfl⟩, trivial⟩ (fun hg => No (BL er1 hg)) rfl ?_
      refine AQ.stepW (.one rfl rfl rfl) rfl rfl (C8 rfl (.inr ⟨_, (by exact id), rfl⟩) (.inl rfl)) ?_
      refine AQ.step rfl rfl rfl (A0 rfl (.inl rfl) (.inr ⟨_, (by exact id), rfl⟩)) ?_
      refine AQ.nil ?_
      refine hK13 _ ?_
      refine AW.cond rfl (fun hc3 => ?_) (fun hc3 => ?_)
      · have h10 := Ag hc3 h9
        refine AH fun K14 hK14 wK14 => ?_
        refine AW.weak (s' := ⟨[], [], ((i3 0) + 1), 31⟩) (by exact AL trivial trivial (Nat.le_refl _)) ?_
        refine AW.region ?_
        refine AB.step rfl rfl rfl (AD (AK rfl (.inl rfl)) _) ?_
        refine AB.nil ?_
        refine hK14 _ ?_
        refine AW.ret ?_
        exact Am (P := Try.prog) (fun (r : Int) => .r (.int .i64 r)) (he1 _ (hx1 _ (Option.some.inj h10).symm)) (.inl rfl) (.t (.d rfl))
      · have h10 := Ah hc3 h9
        refine AW.skip ?_
        refine hK7 _ ?_
        refine AW.region ?_
        refine AU h10 fun x7 ex7 h11 => ?_
        refine AB.step rfl rfl rfl (AD (BC rfl (.inl rfl) (.inl rfl) (fun _ => ex7)) _) ?_
        refine AB.step rfl rfl rfl (AD (AI rfl (.inl rfl)) _) ?_
        refine AB.nil ?_
        exact CZ.mk h11 (Ab [((i3 0) + 1)]) ((by exact AL ⟨.inl (.inl rfl), .inl (.inl rfl), .inl (.inl rfl), .inl (.inl rfl), trivial⟩ trivial (Nat.le_refl _)))
  · have h3 := Ah hc1 h2
    refine AW.exit ?_
    exact wK2 _ _ ((by exact AL trivial trivial (Nat.le_refl _))) (J1 _ (Ab [(i3 0)]) (hx1 _ (Option.some.inj h3).symm))
theorem Ks {c1 : List AG} {x1 : AG} {y1 : AG} {r : (List AG)} {gb1000 : Nat} {ga1001 : Nat} (h : FZ c1 x1 y1 = some r) : BJ Try.prog 68 2 [.agg [.r (.str x1.Name), .r (.str x1.Value)], .agg [.r (.str y1.Name), .r (.str y1.Value)], .ptr 1000 gb1000 0 0] [(1000, some (.box gb1000 53 [.own 1001 ga1001])), (1001, some (.arr ga1001 80 2 (c1.map AG.row)))] (fun rr h' => ∃ (i : Nat → Nat), rr = .tup [] ∧ h' = [(1000, some (.box gb1000 53 [.own 1001 (i 0)])), (1001, some (.arr (i 0) 80 2 (r.map AG.row)))]) := by
  unfold FZ at h
  refine Gk Try.func68 rfl rfl Try.ntmps68 (Nat.le_of_ble_eq_true rfl) fun n0 => ?_
  refine AH fun K1 hK1 wK1 => ?_
  refine AW.region ?_
  refine AB.step rfl rfl rfl (CU (cs := [.r (.str x1.Name), .r (.str x1.Value)]) 3 rfl (.inl rfl) rfl rfl) ?_
  refine AB.step rfl rfl rfl (CU (cs := [.r (.str y1.Name), .r (.str y1.Value)]) 4 rfl (.inl rfl) rfl rfl) ?_
  refine AB.nil ?_
  refine hK1 _ ?_
  refine AW.block ?_
  refine AH fun K2 hK2 wK2 => ?_
  refine AW.region ?_
  refine AB.step rfl rfl rfl (AD (AX (ob := .box _ _ _) rfl Ee (.inl rfl) (fun _ => rfl) rfl) _) ?_
  refine AB.step rfl rfl rfl (AD (AR (a := .r (.str y1.Name)) rfl A4 (.inl rfl) rfl rfl) _) ?_
  refine AB.step rfl rfl rfl (AD (Et rfl (.inl rfl) (.inl rfl)) _) ?_
  refine AB.step rfl rfl rfl (AD (AK rfl (.inl rfl)) _) ?_
  refine AB.nil ?_
  refine hK2 _ ?_
  refine AW.cond rfl (fun hc1 => ?_) (fun hc1 => ?_)
  · have h1 := Ag hc1 h
    refine AW.region ?_
    refine AB.step rfl rfl rfl (AD (AR (a := .own 1001 ga1001) rfl Fq (.inl rfl) rfl rfl) _) ?_
    refine AB.step rfl rfl rfl (AD (C7 rfl Cw (.inl rfl) rfl rfl) _) ?_
    refine AB.step rfl rfl rfl (B3 11 rfl A9 (f := AG.row) (l := ([x1] : List AG)) ⟨rfl, ⟨_, (.inl rfl), rfl⟩, trivial⟩ rfl (fun _ => rfl) rfl) ?_
    refine AU h1 fun l1 el1 h2 => ?_
    refine AB.step rfl rfl rfl (DE rfl A9 (.inl rfl) rfl (.inr (.inl ⟨_, _, (.inl rfl), rfl⟩)) el1) ?_
    refine BG rfl rfl (Ba (ds := [.own 1001 (n0 + 3)]) rfl Gb (.inl rfl) rfl (.inl rfl) rfl rfl rfl rfl) ?_
    refine AB.nil ?_
    exact Cy.mk (s' := ⟨[], [(1000, some (.box gb1000 53 [.own 1001 (n0 + 3)])), (1001, some (.arr (n0 + 3) 80 2 (l1.map AG.row)))], (n0 + 4), 21⟩) ((by exact AL trivial ⟨.inl rfl, .inl rfl, trivial⟩ (Nat.le_refl _))) (D5 (fun (r : (List AG)) rr h' => ∃ (i : Nat → Nat), rr = .tup [] ∧ h' = [(1000, some (.box gb1000 53 [.own 1001 (i 0)])), (1001, some (.arr (i 0) 80 2 (r.map AG.row)))]) h2 (by exact ⟨.tup [], [(1000, some (.box gb1000 53 [.own 1001 (n0 + 3)])), (1001, some (.arr (n0 + 3) 80 2 (l1.map AG.row)))], ⟨_, rfl, trivial⟩, ⟨.inr rfl, .inr rfl, trivial⟩, rfl, rfl, Ab [(n0 + 3)], rfl, rfl⟩))
  · have h1 := Ah hc1 h
    refine AH fun K3 hK3 wK3 => ?_
    refine AW.region ?_
    refine AB.step rfl rfl rfl (AD (AX (ob := .box _ _ _) rfl Mv (.inl rfl) (fun _ => rfl) rfl) _) ?_
    refine AB.step rfl rfl rfl (AD (AR (a := .r (.str y1.Value)) rfl A4 (.inl rfl) rfl rfl) _) ?_
    refine AB.step rfl rfl rfl (AD (C0 rfl (.inl rfl) (.inl rfl)) _) ?_
    refine AB.step rfl rfl rfl (AD (AK rfl (.inl rfl)) _) ?_
    refine AB.nil ?_
    refine hK3 _ ?_
    refine AW.cond rfl (fun hc2 => ?_) (fun hc2 => ?_)
    · have h3 := Ag hc2 h1
      refine AW.weak (s' := ⟨[(2, .ptr 1000 gb1000 0 0), (4, .ptr 4 (n0 + 1) 0 0)], [(4, some (.box (n0 + 1) 80 [.r (.str y1.Name), .r (.str y1.Value)])), (1000, some (.box gb1000 53 [.own 1001 ga1001])), (1001, some (.arr ga1001 80 2 (c1.map AG.row)))], (n0 + 2), 21⟩) (by exact AL ⟨.inl (.inl rfl), .inl (.inl rfl), trivial⟩ ⟨.inl rfl, .inl rfl, .inl rfl, trivial⟩ (Nat.le_refl _)) ?_
      refine AW.region ?_
      refine AB.step rfl rfl rfl (AD (AR (a := .own 1001 ga1001) rfl Fq (.inl rfl) rfl rfl) _) ?_
      refine AB.step rfl rfl rfl (AD (C7 rfl Cw (.inl rfl) rfl rfl) _) ?_
      refine AB.step rfl rfl rfl (B3 19 rfl A9 (f := AG.row) (l := ([y1] : List AG)) ⟨rfl, ⟨_, (.inl rfl), rfl⟩, trivial⟩ rfl (fun _ => rfl) rfl) ?_
      refine AU h3 fun l2 el2 h4 => ?_
      refine AB.step rfl rfl rfl (DE rfl A9 (.inl rfl) rfl (.inr (.inl ⟨_, _, (.inl rfl), rfl⟩)) el2) ?_
      refine BG rfl rfl (Ba (ds := [.own 1001 (n0 + 3)]) rfl Gb (.inl rfl) rfl (.inl rfl) rfl rfl rfl rfl) ?_
      refine AB.nil ?_
      exact Cy.mk (s' := ⟨[], [(1000, some (.box gb1000 53 [.own 1001 (n0 + 3)])), (1001, some (.arr (n0 + 3) 80 2 (l2.map AG.row)))], (n0 + 4), 21⟩) ((by exact AL trivial ⟨.inl rfl, .inl rfl, trivial⟩ (Nat.le_refl _))) (D5 (fun (r : (List AG)) rr h' => ∃ (i : Nat → Nat), rr = .tup [] ∧ h' = [(1000, some (.box gb1000 53 [.own 1001 (i 0)])), (1001, some (.arr (i 0) 80 2 (r.map AG.row)))]) h4 (by exact ⟨.tup [], [(1000, some (.box gb1000 53 [.own 1001 (n0 + 3)])), (1001, some (.arr (n0 + 3) 80 2 (l2.map AG.row)))], ⟨_, rfl, trivial⟩, ⟨.inr rfl, .inr rfl, trivial⟩, rfl, rfl, Ab [(n0 + 3)], rfl, rfl⟩))
    · have h3 := Ah hc2 h1
      refine AW.skip ?_
      exact Cy.mk (s' := ⟨[], [(1000, some (.box gb1000 53 [.own 1001 ga1001])), (1001, some (.arr ga1001 80 2 (c1.map AG.row)))], (n0 + 2), 21⟩) ((by exact AL trivial ⟨.inl rfl, .inl rfl, trivial⟩ (Nat.le_refl _))) (D5 (fun (r : (List AG)) rr h' => ∃ (i : Nat → Nat), rr = .tup [] ∧ h' = [(1000, some (.box gb1000 53 [.own 1001 (i 0)])), (1001, some (.arr (i 0) 80 2 (r.map AG.row)))]) h3 (by exact ⟨.tup [], [(1000, some (.box gb1000 53 [.own 1001 ga1001])), (1001, some (.arr ga1001 80 2 (c1.map AG.row)))], ⟨_, rfl, trivial⟩, ⟨.inr rfl, .inr rfl, trivial⟩, rfl, rfl, Ab [ga1001], rfl, rfl⟩))
theorem Oq {c1 : List AG} {a1 : List AG} {b1 : List AG} {r : (List AG)} {gb1000 : Nat} {ga1001 : Nat} (h : H7 c1 a1 b1 = some r) : BJ Try.prog 61 2 [.r (.sl (a1.map AG.row)), .r (.sl (b1.map AG.row)), .fn 68 [.ptr 1000 gb1000 0 0]] [(1000, some (.box gb1000 53 [.own 1001 ga1001])), (1001, some (.arr ga1001 80 2 (c1.map AG.row)))] (fun rr h' => ∃ (i : Nat → Nat), rr = .tup [] ∧ h' = [(1000, some (.box gb1000 53 [.own 1001 (i 0)])), (1001, some (.arr (i 0) 80 2 (r.map AG.row)))]) := by
  unfold H7 at h
  refine Gk Try.func61 rfl rfl Try.ntmps61 (Nat.le_of_ble_eq_true rfl) fun n0 => ?_
  refine AH fun K1 hK1 wK1 => ?_
  refine AW.region ?_
  refine AB.step rfl rfl rfl (AD (AK rfl (.inl rfl)) _) ?_
  refine AB.step rfl rfl rfl (AD (AK rfl (.inl rfl)) _) ?_
  refine AB.nil ?_
  refine hK1 _ ?_
  refine AW.block ?_
  refine B5 h fun o4 hit1 hk1 he1 => ?_
  refine II (fun (i4 : Int) (j2 : Int) (o2 : List AG) i5 => ⟨[(0, .r (.sl (a1.map AG.row))), (1, .r (.sl (b1.map AG.row))), (2, .fn 68 [.ptr 1000 gb1000 0 0]), (6, .r (.int .i64 i4)), (7, .r (.int .i64 j2))], [(1000, some (.box gb1000 53 [.own 1001 (i5 0)])), (1001, some (.arr (i5 0) 80 2 (o2.map AG.row)))], (i5 1), 92⟩) (Ab [ga1001, n0]) hit1 ((by exact AL ⟨.inl (.inl rfl), .inl (.inl rfl), .inl (.inl rfl), .inl (.inl rfl), .inl (.inl rfl), trivial⟩ ⟨.inl rfl, .inl rfl, trivial⟩ (Nat.le_refl _))) ?_
  intro i4 j2 o2 i5 v1 hv1 hx1
  have h1 : Gm a1 b1 i4 j2 o2 = some v1 := hv1; unfold Gm at h1
  refine AH fun K2 hK2 wK2 => ?_
  refine AH fun K3 hK3 wK3 => ?_
  refine AW.region ?_
  refine AB.step rfl rfl rfl (AD (AI rfl (.inl rfl)) _) ?_
  refine AB.step rfl rfl rfl (AD (AI rfl (.inl rfl)) _) ?_
  refine AB.step rfl rfl rfl (AD (BO rfl A9.slice (.inl rfl)) _) ?_
  refine AB.step rfl rfl rfl (AD (Ar rfl (.inl rfl) (.inl rfl)) _) ?_
  refine AB.step rfl rfl rfl (AD (AI rfl (.inl rfl)) _) ?_
  refine AB.stepW (.one rfl rfl rfl) rfl rfl (AD (AI rfl (.inl rfl)) _) ?_
  refine AB.stepW (.one rfl rfl rfl) rfl rfl (AD (AI rfl (.inl rfl)) _) ?_
  refine AB.stepW (.one rfl rfl rfl) rfl rfl (AD (BO rfl A9.slice (.inr ⟨_, (by exact id), rfl⟩)) _) ?_
  refine AB.stepW (.one rfl rfl rfl) rfl rfl (AD (Ar rfl (.inr ⟨_, (by exact id), rfl⟩) (.inr ⟨_, (by exact id), rfl⟩)) _) ?_
  refine AB.step rfl rfl rfl (AD (A3 rfl (.inl rfl) (.inr ⟨_, (by exact id), rfl⟩)) _) ?_
  refine AB.nil ?_
  refine hK3 _ ?_
  refine AW.cond rfl (fun hc1 => ?_) (fun hc1 => ?_)
  · have h2 := Ag hc1 h1
    refine AW.skip ?_
    refine hK2 _ ?_
    refine AW.block ?_
    refine AW.block ?_
    refine AH fun K4 hK4 wK4 => ?_
    refine Dr Bt (by kernel_rfl) ?_
    refine AQ.step rfl rfl rfl (AI rfl (.inl rfl)) ?_
    refine AQ.step rfl rfl rfl (AI rfl (.inl rfl)) ?_
    refine AQ.step rfl rfl rfl (BO rfl A9.slice (.inl rfl)) ?_
    refine AQ.step rfl rfl rfl (BH rfl (.inl rfl) (.inl rfl)) ?_
    refine AQ.step rfl rfl rfl (AI rfl (.inl rfl)) ?_
    refine AQ.stepW (.one rfl rfl rfl) rfl rfl (AI rfl (.inl rfl)) ?_
    refine AQ.stepW (.one rfl rfl rfl) rfl rfl (AI rfl (.inl rfl)) ?_
    refine AQ.stepW (.one rfl rfl rfl) rfl rfl (BO rfl A9.slice (.inr ⟨_, (by exact id), rfl⟩)) ?_
    refine AQ.stepW (.one rfl rfl rfl) rfl rfl (Ar rfl (.inr ⟨_, (by exact id), rfl⟩) (.inr ⟨_, (by exact id), rfl⟩)) ?_
    refine AQ.stepW (.one rfl rfl rfl) rfl rfl (AI rfl (.inr ⟨_, (by exact id), rfl⟩)) ?_
    refine AQ.stepW (.two rfl rfl rfl) rfl rfl (AI rfl (.inl rfl)) ?_
    refine AQ.stepW (.two rfl rfl rfl) rfl rfl (AI rfl (.inl rfl)) ?_
    refine AU h2 fun x1 ex1 h3 => ?_
    refine AQ.stepW (.two rfl rfl rfl) rfl rfl (A5 rfl A9.slice (.inr ⟨_, (by exact id), rfl⟩) (.inr ⟨_, (by exact id), rfl⟩) (fun _ => rfl) (BL ex1)) ?_
    refine AQ.stepW (.two rfl rfl rfl) rfl rfl (CK rfl Ee (.inr ⟨_, (by exact id), rfl⟩)) ?_
    refine AQ.stepW (.two rfl rfl rfl) rfl rfl (CE (d := .str x1.Name) rfl A4 (.inr ⟨_, (by exact id), rfl⟩) rfl) ?_
    refine AQ.stepW (.two rfl rfl rfl) rfl rfl (AI rfl (.inl rfl)) ?_
    refine AQ.stepW (.two rfl rfl rfl) rfl rfl (AI rfl (.inl rfl)) ?_
    refine AU h3 fun x2 ex2 h4 => ?_
    refine AQ.stepW (.two rfl rfl rfl) rfl rfl (A5 rfl A9.slice (.inr ⟨_, (by exact id), rfl⟩) (.inr ⟨_, (by exact id), rfl⟩) (fun _ => rfl) (BL ex2)) ?_
    refine AQ.stepW (.two rfl rfl rfl) rfl rfl (CK rfl Ee (.inr ⟨_, (by exact id), rfl⟩)) ?_
    refine AQ.stepW (.two rfl rfl rfl) rfl rfl (CE (d := .str x2.Name) rfl A4 (.inr ⟨_, (by exact id), rfl⟩) rfl) ?_
    refine AQ.stepW (.two rfl rfl rfl) rfl rfl (Gz rfl (.inr ⟨_, (by exact id), rfl⟩) (.inr ⟨_, (by exact id), rfl⟩)) ?_
    refine AQ.stepW (.one rfl rfl rfl) rfl rfl (A0 rfl (.inr ⟨_, (by exact id), rfl⟩) (.inr ⟨_, (by exact id), rfl⟩)) ?_
    refine AQ.step rfl rfl rfl (A3 rfl (.inl rfl) (.inr ⟨_, (by exact id), rfl⟩)) ?_
    refine AQ.step rfl rfl rfl (AK rfl (.inl rfl)) ?_
    refine AQ.nil ?_
    refine hK4 _ ?_
    refine AW.cond rfl (fun hc2 => ?_) (fun hc2 => ?_)
    · have h5 := Ag hc2 h4
      refine AH fun K5 hK5 wK5 => ?_
      refine AW.weak (s' := ⟨[(0, .r (.sl (a1.map AG.row))), (1, .r (.sl (b1.map AG.row))), (2, .fn 68 [.ptr 1000 gb1000 0 0]), (6, .r (.int .i64 i4)), (7, .r (.int .i64 j2))], [(1000, some (.box gb1000 53 [.own 1001 (i5 0)])), (1001, some (.arr (i5 0) 80 2 (o2.map AG.row)))], (i5 1), 92⟩) (by exact AL ⟨.inl (.inl rfl), .inl (.inl rfl), .inl (.inl rfl), .inl (.inl rfl), .inl (.inl rfl), trivial⟩ ⟨.inl rfl, .inl rfl, trivial⟩ (Nat.le_refl _)) ?_
      refine AW.region ?_
      refine AB.step rfl rfl rfl (AD (AI rfl (.inl rfl)) _) ?_
      refine AB.step rfl rfl rfl (AD (AI rfl (.inl rfl)) _) ?_
      refine AB.step rfl rfl rfl (AD (AI rfl (.inl rfl)) _) ?_
      refine AU h5 fun x3 ex3 h6 => ?_
      refine AB.step rfl rfl rfl (AD (A5 rfl A9.slice (.inl rfl) (.inl rfl) (fun _ => rfl) (fun _ => ex3)) _) ?_
      refine AB.step rfl rfl rfl (AD (Be (cs := [.r (.str x3.Name), .r (.str x3.Value)]) rfl Cw (.inl rfl) rfl rfl) _) ?_
      refine AB.step rfl rfl rfl (AD (DO rfl Im (q := []) (by exact trivial) (cs := [.r (.str []), .r (.str [])]) (by rfl)) _) ?_
      refine AU h6 fun w1 ew1 h7 => ?_
      refine Ds [1000, 1001] (hc := [(1000, some (.box gb1000 53 [.own 1001 (i5 0)])), (1001, some (.arr (i5 0) 80 2 (o2.map AG.row)))]) (bs := [.agg [.r (.str x3.Name), .r (.str x3.Value)], .agg [.r (.str []), .r (.str [])]]) (caps := [.ptr 1000 gb1000 0 0]) rfl rfl rfl rfl (.inl rfl) rfl ⟨.inl ⟨(.inl rfl), rfl⟩, .inl ⟨(.inl rfl), rfl⟩, trivial⟩ ⟨rfl, rfl, rfl, rfl, rfl, rfl, trivial⟩ (by decide) (Ks ew1) ?_
      intro i8 n1
      refine AB.weak (s' := ⟨[(0, .r (.sl (a1.map AG.row))), (1, .r (.sl (b1.map AG.row))), (2, .fn 68 [.ptr 1000 gb1000 0 0]), (6, .r (.int .i64 i4)), (7, .r (.int .i64 j2)), (56, .fn 68 [.ptr 1000 gb1000 0 0]), (57, .r (.sl (a1.map AG.row))), (58, .r (.int .i64 i4)), (59, .rop (AG.row x3) 0), (60, .agg [.r (.str x3.Name), .r (.str x3.Value)]), (61, .agg [.r (.str []), .r (.str [])]), (62, .tup [])], [(1000, some (.box gb1000 53 [.own 1001 (i8 0)])), (1001, some (.arr (i8 0) 80 2 (w1.map AG.row)))], n1, 92⟩) (by exact AL ⟨.inl (.inl rfl), .inl (.inl rfl), .inl (.inl rfl), .inl (.inl rfl), .inl (.inl rfl), .inl (.inl rfl), .inl (.inl rfl), .inl (.inl rfl), .inl (.inl rfl), .inl (.inl rfl), .inl (.inl rfl), .inl (.inl rfl), trivial⟩ ⟨.inl rfl, .inl rfl, trivial⟩ (Nat.le_refl _)) ?_
      refine AB.nil ?_
      refine hK5 _ ?_
      refine AW.region ?_
      refine AB.step rfl rfl rfl (AD (AI rfl (.inl rfl)) _) ?_
      refine AU h7 fun i9 ei9 h8 => ?_
      refine AB.step rfl rfl rfl (AD (BC rfl (.inl rfl) (.inl rfl) (fun _ => ei9)) _) ?_
      refine AB.step rfl rfl rfl (AD (AK rfl (.inl rfl)) _) ?_
      refine AB.nil ?_
      exact D4.mk h8 (Ab [(i8 0), n1]) ((by exact AL ⟨.inl (.inl rfl), .inl (.inl rfl), .inl (.inl rfl), .inl (.inl rfl), .inl (.inl rfl), trivial⟩ ⟨.inl rfl, .inl rfl, trivial⟩ (Nat.le_refl _)))
    · have h5 := Ah hc2 h4
      refine AH fun K6 hK6 wK6 => ?_
      refine AW.weak (s' := ⟨[(0, .r (.sl (a1.map AG.row))), (1, .r (.sl (b1.map AG.row))), (2, .fn 68 [.ptr 1000 gb1000 0 0]), (6, .r (.int .i64 i4)), (7, .r (.int .i64 j2))], [(1000, some (.box gb1000 53 [.own 1001 (i5 0)])), (1001, some (.arr (i5 0) 80 2 (o2.map AG.row)))], (i5 1), 92⟩) (by exact AL ⟨.inl (.inl rfl), .inl (.inl rfl), .inl (.inl rfl), .inl (.inl rfl), .inl (.inl rfl), trivial⟩ ⟨.inl rfl, .inl rfl, trivial⟩ (Nat.le_refl _)) ?_
      refine Dr Bt (by kernel_rfl) ?_
      refine AQ.step rfl rfl rfl (AI rfl (.inl rfl)) ?_
      refine AQ.step rfl rfl rfl (AI rfl (.inl rfl)) ?_
      refine AQ.step rfl rfl rfl (BO rfl A9.slice (.inl rfl)) ?_
      refine AQ.step rfl rfl rfl (BH rfl (.inl rfl) (.inl rfl)) ?_
      refine AQ.step rfl rfl rfl (AI rfl (.inl rfl)) ?_
      refine AQ.stepW (.one rfl rfl rfl) rfl rfl (AI rfl (.inl rfl)) ?_
      refine AQ.stepW (.one rfl rfl rfl) rfl rfl (AI rfl (.inl rfl)) ?_
      refine AU h5 fun x4 ex4 h9 => ?_
      refine AQ.stepW (.one rfl rfl rfl) rfl rfl (A5 rfl A9.slice (.inr ⟨_, (by exact id), rfl⟩) (.inr ⟨_, (by exact id), rfl⟩) (fun _ => rfl) (BL ex4)) ?_
      refine AQ.stepW (.one rfl rfl rfl) rfl rfl (CK rfl Ee (.inr ⟨_, (by exact id), rfl⟩)) ?_
      refine AQ.stepW (.one rfl rfl rfl) rfl rfl (CE (d := .str x4.Name) rfl A4 (.inr ⟨_, (by exact id), rfl⟩) rfl) ?_
      refine AQ.stepW (.one rfl rfl rfl) rfl rfl (AI rfl (.inl rfl)) ?_
      refine AQ.stepW (.one rfl rfl rfl) rfl rfl (AI rfl (.inl rfl)) ?_
      refine AU h9 fun x5 ex5 h10 => ?_
      refine AQ.stepW (.one rfl rfl rfl) rfl rfl (A5 rfl A9.slice (.inr ⟨_, (by exact id), rfl⟩) (.inr ⟨_, (by exact id), rfl⟩) (fun _ => rfl) (BL ex5)) ?_
      refine AQ.stepW (.one rfl rfl rfl) rfl rfl (CK rfl Ee (.inr ⟨_, (by exact id), rfl⟩)) ?_
      refine AQ.stepW (.one rfl rfl rfl) rfl rfl (CE (d := .str x5.Name) rfl A4 (.inr ⟨_, (by exact id), rfl⟩) rfl) ?_
      refine AQ.stepW (.one rfl rfl rfl) rfl rfl (Gz rfl (.inr ⟨_, (by exact id), rfl⟩) (.inr ⟨_, (by exact id), rfl⟩)) ?_
      refine AQ.step rfl rfl rfl (A3 rfl (.inl rfl) (.inr ⟨_, (by exact id), rfl⟩)) ?_
      refine AQ.step rfl rfl rfl (AK rfl (.inl rfl)) ?_
      refine AQ.nil ?_
      refine hK6 _ ?_
      refine AW.cond rfl (fun hc3 => ?_) (fun hc3 => ?_)
      · have h11 := Ag hc3 h10
        refine AH fun K7 hK7 wK7 => ?_
        refine AW.region ?_
        refine AB.step rfl rfl rfl (AD (AI rfl (.inl rfl)) _) ?_
        refine AB.step rfl rfl rfl (AD (DO rfl Im (q := []) (by exact trivial) (cs := [.r (.str []), .r (.str [])]) (by rfl)) _) ?_
        refine AB.step rfl rfl rfl (AD (AI rfl (.inl rfl)) _) ?_
        refine AB.step rfl rfl rfl (AD (AI rfl (.inl rfl)) _) ?_
        refine AU h11 fun x6 ex6 h12 => ?_
        refine AB.step rfl rfl rfl (AD (A5 rfl A9.slice (.inl rfl) (.inl rfl) (fun _ => rfl) (fun _ => ex6)) _) ?_
        refine AB.step rfl rfl rfl (AD (Be (cs := [.r (.str x6.Name), .r (.str x6.Value)]) rfl Cw (.inl rfl) rfl rfl) _) ?_
        refine AU h12 fun w2 ew2 h13 => ?_
        refine Ds [1000, 1001] (hc := [(1000, some (.box gb1000 53 [.own 1001 (i5 0)])), (1001, some (.arr (i5 0) 80 2 (o2.map AG.row)))]) (bs := [.agg [.r (.str []), .r (.str [])], .agg [.r (.str x6.Name), .r (.str x6.Value)]]) (caps := [.ptr 1000 gb1000 0 0]) rfl rfl rfl rfl (.inl rfl) rfl ⟨.inl ⟨(.inl rfl), rfl⟩, .inl ⟨(.inl rfl), rfl⟩, trivial⟩ ⟨rfl, rfl, rfl, rfl, rfl, rfl, trivial⟩ (by decide) (Ks ew2) ?_
        intro i10 n2
        refine AB.weak (s' := ⟨[(0, .r (.sl (a1.map AG.row))), (1, .r (.sl (b1.map AG.row))), (2, .fn 68 [.ptr 1000 gb1000 0 0]), (6, .r (.int .i64 i4)), (7, .r (.int .i64 j2)), (65, .r (.bool ((decide (i4 = (a1.length : Int))) || (An x4.Name x5.Name)))), (66, .r (.int .i64 i4)), (67, .r (.sl (a1.map AG.row))), (68, .r (.int .i64 (a1.length : Int))), (69, .r (.bool (decide (i4 = (a1.length : Int))))), (70, .r (.bool (decide (i4 = (a1.length : Int))))), (82, .r (.bool ((decide (i4 = (a1.length : Int))) || (An x4.Name x5.Name)))), (83, .fn 68 [.ptr 1000 gb1000 0 0]), (84, .agg [.r (.str []), .r (.str [])]), (85, .r (.sl (b1.map AG.row))), (86, .r (.int .i64 j2)), (87, .rop (AG.row x6) 0), (88, .agg [.r (.str x6.Name), .r (.str x6.Value)]), (89, .tup [])], [(1000, some (.box gb1000 53 [.own 1001 (i10 0)])), (1001, some (.arr (i10 0) 80 2 (w2.map AG.row)))], n2, 92⟩) (by exact AL ⟨.inl (.inl rfl), .inl (.inl rfl), .inl (.inl rfl), .inl (.inl rfl), .inl (.inl rfl), .inl (.inl rfl), .inl (.inl rfl), .inl (.inl rfl), .inl (.inl rfl), .inl (.inl rfl), .inl (.inl rfl), .inl (.inl rfl), .inl (.inl rfl), .inl (.inl rfl), .inl (.inl rfl), .inl (.inl rfl), .inl (.inl rfl), .inl (.inl rfl), .inl (.inl rfl), trivial⟩ ⟨.inl rfl, .inl rfl, trivial⟩ (Nat.le_refl _)) ?_
        refine AB.nil ?_
        refine hK7 _ ?_
        refine AW.weak (s' := ⟨[(0, .r (.sl (a1.map AG.row))), (1, .r (.sl (b1.map AG.row))), (2, .fn 68 [.ptr 1000 gb1000 0 0]), (6, .r (.int .i64 i4)), (7, .r (.int .i64 j2))], [(1000, some (.box gb1000 53 [.own 1001 (i10 0)])), (1001, some (.arr (i10 0) 80 2 (w2.map AG.row)))], n2, 92⟩) (by exact AL ⟨.inl (.inl rfl), .inl (.inl rfl), .inl (.inl rfl), .inl (.inl rfl), .inl (.inl rfl), trivial⟩ ⟨.inl rfl, .inl rfl, trivial⟩ (Nat.le_refl _)) ?_
        refine AW.region ?_
        refine AB.step rfl rfl rfl (AD (AI rfl (.inl rfl)) _) ?_
        refine AU h13 fun j4 ej4 h14 => ?_
        refine AB.step rfl rfl rfl (AD (BC rfl (.inl rfl) (.inl rfl) (fun _ => ej4)) _) ?_
        refine AB.step rfl rfl rfl (AD (AK rfl (.inl rfl)) _) ?_
        refine AB.nil ?_
        exact D4.mk h14 (Ab [(i10 0), n2]) ((by exact AL ⟨.inl (.inl rfl), .inl (.inl rfl), .inl (.inl rfl), .inl (.inl rfl), .inl (.inl rfl), trivial⟩ ⟨.inl rfl, .inl rfl, trivial⟩ (Nat.le_refl _)))
      · have h11 := Ah hc3 h10
        refine AH fun K8 hK8 wK8 => ?_
        refine Sr 9 Bt (by kernel_rfl) rfl rfl ?_
        refine AT.step rfl rfl rfl (AI rfl (.inl rfl)) ?_
        refine AT.step rfl rfl rfl (AI rfl (.inl rfl)) ?_
        refine AT.step rfl rfl rfl (AI rfl (.inl rfl)) ?_
        refine AU h11 fun x7 ex7 h15 => ?_
        refine AT.step rfl rfl rfl (A5 rfl A9.slice (.inl rfl) (.inl rfl) (fun _ => rfl) (fun _ => ex7)) ?_
        refine AT.step rfl rfl rfl (Be (cs := [.r (.str x7.Name), .r (.str x7.Value)]) rfl Cw (.inl rfl) rfl rfl) ?_
        refine AT.step rfl rfl rfl (AI rfl (.inl rfl)) ?_
        refine AT.step rfl rfl rfl (AI rfl (.inl rfl)) ?_
        refine AU h15 fun x8 ex8 h16 => ?_
        refine AT.step rfl rfl rfl (A5 rfl A9.slice (.inl rfl) (.inl rfl) (fun _ => rfl) (fun _ => ex8)) ?_
        refine AT.step rfl rfl rfl (Be (cs := [.r (.str x8.Name), .r (.str x8.Value)]) rfl Cw (.inl rfl) rfl rfl) ?_
        refine AT.nil ?_
        refine AU h16 fun w3 ew3 h17 => ?_
        refine Ds [1000, 1001] (hc := [(1000, some (.box gb1000 53 [.own 1001 (i5 0)])), (1001, some (.arr (i5 0) 80 2 (o2.map AG.row)))]) (bs := [.agg [.r (.str x7.Name), .r (.str x7.Value)], .agg [.r (.str x8.Name), .r (.str x8.Value)]]) (caps := [.ptr 1000 gb1000 0 0]) rfl rfl rfl rfl (.inl rfl) rfl ⟨.inl ⟨(.inl rfl), rfl⟩, .inl ⟨(.inl rfl), rfl⟩, trivial⟩ ⟨rfl, rfl, rfl, rfl, rfl, rfl, trivial⟩ (by decide) (Ks ew3) ?_
        intro i11 n3
        refine AB.weak (s' := ⟨[(0, .r (.sl (a1.map AG.row))), (1, .r (.sl (b1.map AG.row))), (2, .fn 68 [.ptr 1000 gb1000 0 0]), (6, .r (.int .i64 i4)), (7, .r (.int .i64 j2)), (18, .fn 68 [.ptr 1000 gb1000 0 0]), (19, .r (.sl (a1.map AG.row))), (20, .r (.int .i64 i4)), (21, .rop (AG.row x7) 0), (22, .agg [.r (.str x7.Name), .r (.str x7.Value)]), (23, .r (.sl (b1.map AG.row))), (24, .r (.int .i64 j2)), (25, .rop (AG.row x8) 0), (26, .agg [.r (.str x8.Name), .r (.str x8.Value)]), (27, .tup []), (65, .r (.bool ((decide (i4 = (a1.length : Int))) || (An x4.Name x5.Name)))), (66, .r (.int .i64 i4)), (67, .r (.sl (a1.map AG.row))), (68, .r (.int .i64 (a1.length : Int))), (69, .r (.bool (decide (i4 = (a1.length : Int))))), (70, .r (.bool (decide (i4 = (a1.length : Int))))), (82, .r (.bool ((decide (i4 = (a1.length : Int))) || (An x4.Name x5.Name))))], [(1000, some (.box gb1000 53 [.own 1001 (i11 0)])), (1001, some (.arr (i11 0) 80 2 (w3.map AG.row)))], n3, 92⟩) (by exact AL ⟨.inl (.inl rfl), .inl (.inl rfl), .inl (.inl rfl), .inl (.inl rfl), .inl (.inl rfl), .inl (.inl rfl), .inl (.inl rfl), .inl (.inl rfl), .inl (.inl rfl), .inl (.inl rfl), .inl (.inl rfl), .inl (.inl rfl), .inl (.inl rfl), .inl (.inl rfl), .inl (.inl rfl), .inl (.inl rfl), .inl (.inl rfl), .inl (.inl rfl), .inl (.inl rfl), .inl (.inl rfl), .inl (.inl rfl), .inl (.inl rfl), trivial⟩ ⟨.inl rfl, .inl rfl, trivial⟩ (Nat.le_refl _)) ?_
        refine AB.nil ?_
        refine hK8 _ ?_
        refine AW.weak (s' := ⟨[(0, .r (.sl (a1.map AG.row))), (1, .r (.sl (b1.map AG.row))), (2, .fn 68 [.ptr 1000 gb1000 0 0]), (6, .r (.int .i64 i4)), (7, .r (.int .i64 j2))], [(1000, some (.box gb1000 53 [.own 1001 (i11 0)])), (1001, some (.arr (i11 0) 80 2 (w3.map AG.row)))], n3, 92⟩) (by exact AL ⟨.inl (.inl rfl), .inl (.inl rfl), .inl (.inl rfl), .inl (.inl rfl), .inl (.inl rfl), trivial⟩ ⟨.inl rfl, .inl rfl, trivial⟩ (Nat.le_refl _)) ?_
        refine AW.region ?_
        refine AB.step rfl rfl rfl (AD (AI rfl (.inl rfl)) _) ?_
        refine AU h17 fun i12 ei12 h18 => ?_
        refine AB.step rfl rfl rfl (AD (BC rfl (.inl rfl) (.inl rfl) (fun _ => ei12)) _) ?_
        refine AB.step rfl rfl rfl (AD (AI rfl (.inl rfl)) _) ?_
        refine AU h18 fun j5 ej5 h19 => ?_
        refine AB.step rfl rfl rfl (AD (BC rfl (.inl rfl) (.inl rfl) (fun _ => ej5)) _) ?_
        refine AB.step rfl rfl rfl (AD (AK rfl (.inl rfl)) _) ?_
        refine AB.step rfl rfl rfl (AD (AK rfl (.inl rfl)) _) ?_
        refine AB.nil ?_
        exact D4.mk h19 (Ab [(i11 0), n3]) ((by exact AL ⟨.inl (.inl rfl), .inl (.inl rfl), .inl (.inl rfl), .inl (.inl rfl), .inl (.inl rfl), trivial⟩ ⟨.inl rfl, .inl rfl, trivial⟩ (Nat.le_refl _)))
  · have h2 := Ah hc1 h1
    refine AW.exit ?_
    exact Cy.mk (s' := ⟨[], [(1000, some (.box gb1000 53 [.own 1001 (i5 0)])), (1001, some (.arr (i5 0) 80 2 (o2.map AG.row)))], (i5 1), 92⟩) ((by exact AL trivial ⟨.inl rfl, .inl rfl, trivial⟩ (Nat.le_refl _))) (D5 (fun (r : (List AG)) rr h' => ∃ (i : Nat → Nat), rr = .tup [] ∧ h' = [(1000, some (.box gb1000 53 [.own 1001 (i 0)])), (1001, some (.arr (i 0) 80 2 (r.map AG.row)))]) (he1 _ (hx1 _ (Option.some.inj h2).symm)) (by exact ⟨.tup [], [(1000, some (.box gb1000 53 [.own 1001 (i5 0)])), (1001, some (.arr (i5 0) 80 2 (o2.map AG.row)))], ⟨_, rfl, trivial⟩, ⟨.inr rfl, .inr rfl, trivial⟩, rfl, rfl, Ab [(i5 0)], rfl, rfl⟩))
theorem N1 {l1 : List AG} {change1 : List AG} {r : (List AG)} (h : GC l1 change1 = some r) : Af Try.prog 56 [.r (.sl (l1.map AG.row)), .r (.sl (change1.map AG.row))] (.r (.sl (r.map AG.row))) := by
  unfold GC at h
  refine A6 Try.func56 rfl rfl Try.ntmps56 rfl (Nat.le_of_ble_eq_true rfl) fun n0 => ?_
  refine AH fun K1 hK1 wK1 => ?_
  refine AW.region ?_
  refine AB.step rfl rfl rfl (AD (AK rfl (.inl rfl)) _) ?_
  refine AB.nil ?_
  refine hK1 _ ?_
  refine AH fun K2 hK2 wK2 => ?_
  refine AW.region ?_
  refine AB.step rfl rfl rfl (Bs (cs := [.cst (.slice none 0 0)]) 5 rfl Km rfl rfl) ?_
  refine AB.nil ?_
  refine hK2 _ ?_
  refine AH fun K3 hK3 wK3 => ?_
  refine AW.region ?_
  refine AB.step rfl rfl rfl (AD (AI rfl (.inl rfl)) _) ?_
  refine AB.step rfl rfl rfl (AD (AI rfl (.inl rfl)) _) ?_
  refine AB.step rfl rfl rfl (AD (JY (bs := [.ptr 5 n0 0 0]) rfl (by exact ⟨(.inl rfl), trivial⟩)) _) ?_
  refine AB.weak (AJ.trans (Nb 5 0 3050 80 2 (by decide) rfl rfl (by decide)) (by exact AL (e' := [(0, .r (.sl (l1.map AG.row))), (1, .r (.sl (change1.map AG.row))), (4, .cst (.slice none 0 0)), (5, .ptr 5 n0 0 0), (6, .r (.sl (l1.map AG.row))), (7, .r (.sl (change1.map AG.row))), (8, .fn 68 [.ptr 5 n0 0 0])]) (h' := [(5, some (.box n0 53 [.own 3050 (n0 + 1)])), (3050, some (.arr (n0 + 1) 80 2 (([] : List AG).map AG.row)))]) ⟨.inl (.inl rfl), .inl (.inl rfl), .inl (.inl rfl), .inl (.inl rfl), .inl (.inl rfl), .inl (.inl rfl), .inl (.inl rfl), trivial⟩ ⟨.inl rfl, .inl rfl, trivial⟩ (Nat.le_refl _))) ?_
  refine AU h fun w1 ew1 h1 => ?_
  refine Ds [5, 3050] (hc := [(1000, some (.box n0 53 [.own 1001 (n0 + 1)])), (1001, some (.arr (n0 + 1) 80 2 (([] : List AG).map AG.row)))]) (bs := [.r (.sl (l1.map AG.row)), .r (.sl (change1.map AG.row)), .fn 68 [.ptr 1000 n0 0 0]]) (caps := []) rfl rfl rfl rfl (.inl rfl) rfl ⟨.inl ⟨(.inl rfl), rfl⟩, .inl ⟨(.inl rfl), rfl⟩, .inl ⟨(.inl rfl), rfl⟩, trivial⟩ ⟨rfl, rfl, rfl, rfl, rfl, rfl, trivial⟩ (by decide) (Oq ew1) ?_
  intro i1 n1
  refine AB.weak (s' := ⟨[(0, .r (.sl (l1.map AG.row))), (1, .r (.sl (change1.map AG.row))), (4, .cst (.slice none 0 0)), (5, .ptr 5 n0 0 0), (6, .r (.sl (l1.map AG.row))), (7, .r (.sl (change1.map AG.row))), (8, .fn 68 [.ptr 5 n0 0 0]), (9, .tup [])], [(5, some (.box n0 53 [.own 3050 (i1 0)])), (3050, some (.arr (i1 0) 80 2 (w1.map AG.row)))], n1, 11⟩) (by exact AL ⟨.inl (.inl rfl), .inl (.inl rfl), .inl (.inl rfl), .inl (.inl rfl), .inl (.inl rfl), .inl (.inl rfl), .inl (.inl rfl), .inl (.inl rfl), trivial⟩ ⟨.inl rfl, .inl rfl, trivial⟩ (Nat.le_refl _)) ?_
  refine AB.nil ?_
  refine hK3 _ ?_
  refine AH fun K4 hK4 wK4 => ?_
  refine AW.region ?_
  refine AB.step rfl rfl rfl (AD (AR (a := .own 3050 (i1 0)) rfl Fq (.inl rfl) rfl rfl) _) ?_
  refine AB.step rfl rfl rfl (AD (AK rfl (.inl rfl)) _) ?_
  refine AB.nil ?_
  refine hK4 _ ?_
  refine AW.ret ?_
  exact Am (P := Try.prog) (fun (r : (List AG)) => .r (.sl (r.map AG.row))) h1 (.inl rfl) (.t (.one (.own rfl)))
theorem OW {m1 : List (Int × AE)} {m2 : List (Int × (List AG))} {item1 : Int} {top1 : Int} {r : Bool} {gb1000 : Nat} {gb1001 : Nat} {gw1001 : Nat} {gb1002 : Nat} (h : Hh m1 m2 item1 top1 = some r) : BJ Try.prog 57 3 [.ptr 1000 gb1000 0 0, .r (.int .i64 item1), .r (.int .i64 top1)] [(1000, some (.box gb1000 76 [.mref 1001 gb1001, .mref 1002 gb1002])), (1001, some (.mb gb1001 gw1001 55 (AM AE.row m1))), (1002, some (.md gb1002 (AM (fun (l : List AG) => RV.sl (l.map AG.row)) m2)))] (fun rr h' => ∃ (i : Nat → Nat), rr = .r (.bool r) ∧ h' = [(1000, some (.box gb1000 76 [.mref 1001 gb1001, .mref 1002 gb1002])), (1001, some (.mb gb1001 gw1001 55 (AM AE.row m1))), (1002, some (.md gb1002 (AM (fun (l : List AG) => RV.sl (l.map AG.row)) m2)))]) := by
  unfold Hh at h
  refine Gk Try.func57 rfl rfl Try.ntmps57 (Nat.le_of_ble_eq_true rfl) fun n0 => ?_
  refine AH fun K1 hK1 wK1 => ?_
  refine AW.region ?_
  refine AB.step rfl rfl rfl (AD (AK rfl (.inl rfl)) _) ?_
  refine AB.nil ?_
  refine hK1 _ ?_
  refine AH fun K2 hK2 wK2 => ?_
  refine AW.block ?_
  refine B5 h fun o1 hit1 hk1 he1 => ?_
  have J1 : ∀ (u2 : Unit) (i5 : Nat → Nat), o1 = .nrm u2 → K2 ⟨[], [(1000, some (.box gb1000 76 [.mref 1001 gb1001, .mref 1002 gb1002])), (1001, some (.mb gb1001 gw1001 55 (AM AE.row m1))), (1002, some (.md gb1002 (AM (fun (l : List AG) => RV.sl (l.map AG.row)) m2)))], (i5 0), 29⟩ := by
    intro u2 i5 e
    have h1 := hk1 _ e
    refine hK2 _ ?_
    refine AH fun K3 hK3 wK3 => ?_
    refine AW.region ?_
    refine AB.step rfl rfl rfl (AD (AK rfl (.inl rfl)) _) ?_
    refine AB.nil ?_
    refine hK3 _ ?_
    refine AW.ret ?_
    exact Cy.mk (s' := ⟨[(6, .r (.bool false))], [(1000, some (.box gb1000 76 [.mref 1001 gb1001, .mref 1002 gb1002])), (1001, some (.mb gb1001 gw1001 55 (AM AE.row m1))), (1002, some (.md gb1002 (AM (fun (l : List AG) => RV.sl (l.map AG.row)) m2)))], (i5 0), 29⟩) ((by exact AL ⟨.inl (.inl rfl), trivial⟩ ⟨.inl rfl, .inl rfl, .inl rfl, trivial⟩ (Nat.le_refl _))) (D5 (fun (r : Bool) rr h' => ∃ (i : Nat → Nat), rr = .r (.bool r) ∧ h' = [(1000, some (.box gb1000 76 [.mref 1001 gb1001, .mref 1002 gb1002])), (1001, some (.mb gb1001 gw1001 55 (AM AE.row m1))), (1002, some (.md gb1002 (AM (fun (l : List AG) => RV.sl (l.map AG.row)) m2)))]) h1 (by exact ⟨.r (.bool false), [(1000, some (.box gb1000 76 [.mref 1001 gb1001, .mref 1002 gb1002])), (1001, some (.mb gb1001 gw1001 55 (AM AE.row m1))), (1002, some (.md gb1002 (AM (fun (l : List AG) => RV.sl (l.map AG.row)) m2)))], rfl, ⟨.inr rfl, .inr rfl, .inr rfl, trivial⟩, rfl, rfl, Ab [], rfl, rfl⟩))
  refine DG (fun (item3 : Int) i3 => ⟨[(0, .ptr 1000 gb1000 0 0), (1, .r (.int .i64 item3)), (2, .r (.int .i64 top1))], [(1000, some (.box gb1000 76 [.mref 1001 gb1001, .mref 1002 gb1002])), (1001, some (.mb gb1001 gw1001 55 (AM AE.row m1))), (1002, some (.md gb1002 (AM (fun (l : List AG) => RV.sl (l.map AG.row)) m2)))], (i3 0), 29⟩) (Ab [n0]) hit1 ((by exact AL ⟨.inl (.inl rfl), .inl (.inl rfl), .inl (.inl rfl), trivial⟩ ⟨.inl rfl, .inl rfl, .inl rfl, trivial⟩ (Nat.le_refl _))) ?_
  intro item3 i3 v1 hv1 hx1
  have h2 : Di m1 top1 item3 = some v1 := hv1; unfold Di at h2
  refine AH fun K4 hK4 wK4 => ?_
  refine AH fun K5 hK5 wK5 => ?_
  refine AW.region ?_
  refine AB.step rfl rfl rfl (AD (AI rfl (.inl rfl)) _) ?_
  refine AB.step rfl rfl rfl (AD (BT rfl (.inl rfl) (.inl rfl)) _) ?_
  refine AB.nil ?_
  refine hK5 _ ?_
  refine AW.cond rfl (fun hc1 => ?_) (fun hc1 => ?_)
  · have h3 := Ag hc1 h2
    refine AW.skip ?_
    refine hK4 _ ?_
    refine AW.block ?_
    refine AH fun K6 hK6 wK6 => ?_
    refine AH fun K7 hK7 wK7 => ?_
    refine AW.region ?_
    refine AB.step rfl rfl rfl (AD (AI rfl (.inl rfl)) _) ?_
    refine AB.step rfl rfl rfl (AD (AI rfl (.inl rfl)) _) ?_
    refine AB.step rfl rfl rfl (AD (BH rfl (.inl rfl) (.inl rfl)) _) ?_
    refine AB.nil ?_
    refine hK7 _ ?_
    refine AW.cond rfl (fun hc2 => ?_) (fun hc2 => ?_)
    · have h4 := Ag hc2 h3
      refine AH fun K8 hK8 wK8 => ?_
      refine AW.region ?_
      refine AB.step rfl rfl rfl (AD (AK rfl (.inl rfl)) _) ?_
      refine AB.nil ?_
      refine hK8 _ ?_
      refine AW.ret ?_
      exact Cy.mk (s' := ⟨[(6, .r (.bool true))], [(1000, some (.box gb1000 76 [.mref 1001 gb1001, .mref 1002 gb1002])), (1001, some (.mb gb1001 gw1001 55 (AM AE.row m1))), (1002, some (.md gb1002 (AM (fun (l : List AG) => RV.sl (l.map AG.row)) m2)))], (i3 0), 29⟩) ((by exact AL ⟨.inl (.inl rfl), trivial⟩ ⟨.inl rfl, .inl rfl, .inl rfl, trivial⟩ (Nat.le_refl _))) (D5 (fun (r : Bool) rr h' => ∃ (i : Nat → Nat), rr = .r (.bool r) ∧ h' = [(1000, some (.box gb1000 76 [.mref 1001 gb1001, .mref 1002 gb1002])), (1001, some (.mb gb1001 gw1001 55 (AM AE.row m1))), (1002, some (.md gb1002 (AM (fun (l : List AG) => RV.sl (l.map AG.row)) m2)))]) (he1 _ (hx1 _ (Option.some.inj h4).symm)) (by exact ⟨.r (.bool true), [(1000, some (.box gb1000 76 [.mref 1001 gb1001, .mref 1002 gb1002])), (1001, some (.mb gb1001 gw1001 55 (AM AE.row m1))), (1002, some (.md gb1002 (AM (fun (l : List AG) => RV.sl (l.map AG.row)) m2)))], rfl, ⟨.inr rfl, .inr rfl, .inr rfl, trivial⟩, rfl, rfl, Ab [], rfl, rfl⟩))
    · have h4 := Ah hc2 h3
      refine AW.skip ?_
      refine hK6 _ ?_
      refine AH fun K9 hK9 wK9 => ?_
      refine AW.region ?_
      refine AB.step rfl rfl rfl (AD (AI rfl (.inl rfl)) _) ?_
      refine AB.step rfl rfl rfl (AD (Ct (ob := .box _ _ _) rfl (.inl rfl) (fun _ => rfl) rfl) _) ?_
      refine AB.step rfl rfl rfl (AD (AX (ob := .box _ _ _) rfl HE (.inl rfl) (fun _ => rfl) rfl) _) ?_
      refine AB.step rfl rfl rfl (AD (AR (a := .mref 1001 gb1001) rfl H8 (.inl rfl) rfl rfl) _) ?_
      refine AB.step rfl rfl rfl (AD (AI rfl (.inl rfl)) _) ?_
      refine AB.step rfl rfl rfl (AD (Rp true rfl Try.underlying73 Try.underlying3 (En Rs) (.inl rfl) (.inl rfl) rfl) _) ?_
      refine AB.step rfl rfl rfl (AD (AI rfl (.inl rfl)) _) ?_
      refine AB.step rfl rfl rfl (AD (CJ (a := .pk 1001 gb1001 gw1001 (Ac m1 item3) 0) rfl (.inl rfl) rfl) _) ?_
      refine AB.step rfl rfl rfl (AD (CJ (a := .r (.bool ((AN m1 item3).isSome))) rfl (.inl rfl) rfl) _) ?_
      refine AB.step rfl rfl rfl (AD (AK rfl (.inl rfl)) _) ?_
      refine AB.step rfl rfl rfl (AD (AK rfl (.inl rfl)) _) ?_
      refine AB.nil ?_
      refine hK9 _ ?_
      refine AH fun K10 hK10 wK10 => ?_
      refine AH fun K11 hK11 wK11 => ?_
      refine AW.weak (s' := ⟨[(0, .ptr 1000 gb1000 0 0), (2, .r (.int .i64 top1)), (7, .pk 1001 gb1001 gw1001 (Ac m1 item3) 0), (8, .r (.bool ((AN m1 item3).isSome)))], [(1000, some (.box gb1000 76 [.mref 1001 gb1001, .mref 1002 gb1002])), (1001, some (.mb gb1001 gw1001 55 (AM AE.row m1))), (1002, some (.md gb1002 (AM (fun (l : List AG) => RV.sl (l.map AG.row)) m2)))], (i3 0), 29⟩) (by exact AL ⟨.inl (.inl rfl), .inl (.inl rfl), .inl (.inl rfl), .inl (.inl rfl), trivial⟩ ⟨.inl rfl, .inl rfl, .inl rfl, trivial⟩ (Nat.le_refl _)) ?_
      refine AW.region ?_
      refine AB.step rfl rfl rfl (AD (AI rfl (.inl rfl)) _) ?_
      refine AB.step rfl rfl rfl (AD (Bi rfl (.inl rfl)) _) ?_
      refine AB.nil ?_
      refine hK11 _ ?_
      refine AW.cond rfl (fun hc3 => ?_) (fun hc3 => ?_)
      · have h5 := Ag hc3 h4
        refine AH fun K12 hK12 wK12 => ?_
        refine AW.region ?_
        refine AB.step rfl rfl rfl (AD (AK rfl (.inl rfl)) _) ?_
        refine AB.nil ?_
        refine hK12 _ ?_
        refine AW.ret ?_
        exact Cy.mk (s' := ⟨[(6, .r (.bool false))], [(1000, some (.box gb1000 76 [.mref 1001 gb1001, .mref 1002 gb1002])), (1001, some (.mb gb1001 gw1001 55 (AM AE.row m1))), (1002, some (.md gb1002 (AM (fun (l : List AG) => RV.sl (l.map AG.row)) m2)))], (i3 0), 29⟩) ((by exact AL ⟨.inl (.inl rfl), trivial⟩ ⟨.inl rfl, .inl rfl, .inl rfl, trivial⟩ (Nat.le_refl _))) (D5 (fun (r : Bool) rr h' => ∃ (i : Nat → Nat), rr = .r (.bool r) ∧ h' = [(1000, some (.box gb1000 76 [.mref 1001 gb1001, .mref 1002 gb1002])), (1001, some (.mb gb1001 gw1001 55 (AM AE.row m1))), (1002, some (.md gb1002 (AM (fun (l : List AG) => RV.sl (l.map AG.row)) m2)))]) (he1 _ (hx1 _ (Option.some.inj h5).symm)) (by exact ⟨.r (.bool false), [(1000, some (.box gb1000 76 [.mref 1001 gb1001, .mref 1002 gb1002])), (1001, some (.mb gb1001 gw1001 55 (AM AE.row m1))), (1002, some (.md gb1002 (AM (fun (l : List AG) => RV.sl (l.map AG.row)) m2)))], rfl, ⟨.inr rfl, .inr rfl, .inr rfl, trivial⟩, rfl, rfl, Ab [], rfl, rfl⟩))
      · have h5 := Ah hc3 h4
        refine AW.skip ?_
        refine hK10 _ ?_
        refine AW.region ?_
        refine AB.step rfl rfl rfl (AD (AI rfl (.inl rfl)) _) ?_
        refine AU h5 fun x1 ex1 h6 => ?_
        refine AB.step rfl rfl rfl (AD (F7 rfl (.inl rfl) rfl rfl (fun _ => ex1)) _) ?_
        refine AB.step rfl rfl rfl (AD (JE rfl Dd (.inl rfl) rfl rfl (fun _ => ex1)) _) ?_
        refine AB.step rfl rfl rfl (AD (KC (a := x1) (d := .int .i64 x1.Parent) rfl Ae (.inl rfl) rfl rfl (fun _ => ex1) rfl) _) ?_
        refine AB.step rfl rfl rfl (AD (AK rfl (.inl rfl)) _) ?_
        refine AB.nil ?_
        exact CZ.mk h6 (Ab [(i3 0)]) ((by exact AL ⟨.inl (.inl rfl), .inl (.inl rfl), .inl (.inl rfl), trivial⟩ ⟨.inl rfl, .inl rfl, .inl rfl, trivial⟩ (Nat.le_refl _)))
  · have h3 := Ah hc1 h2
    refine AW.exit ?_
    exact wK2 _ _ ((by exact AL trivial ⟨.inl rfl, .inl rfl, .inl rfl, trivial⟩ (Nat.le_refl _))) (J1 _ (Ab [(i3 0)]) (hx1 _ (Option.some.inj h3).symm))
theorem RY {l1 : List AP} {r : (List (Int × AE)) × (List (Int × (List AG)))} (h : F6 l1 = some r) : BJ Try.prog 37 3 [.r (.sl (l1.map AP.row))] [] (fun rr h' => ∃ (i : Nat → Nat), rr = .ptr 1000 (i 0) 0 0 ∧ h' = [(1000, some (.box (i 0) 76 [.mref 1001 (i 1), .mref 1002 (i 3)])), (1001, some (.mb (i 1) (i 2) 55 (AM AE.row r.1))), (1002, some (.md (i 3) (AM (fun (l : List AG) => RV.sl (l.map AG.row)) r.2)))]) := by
  unfold F6 at h
  refine Gk Try.func37 rfl rfl Try.ntmps37 (Nat.le_of_ble_eq_true rfl) fun n0 => ?_
  refine AH fun K1 hK1 wK1 => ?_
  refine AW.region ?_
  refine AB.step rfl rfl rfl (AD (AK rfl (.inl rfl)) _) ?_
  refine AB.nil ?_
  refine hK1 _ ?_
  refine AH fun K2 hK2 wK2 => ?_
  refine AW.region ?_
  refine AB.step rfl rfl rfl (Pa AE.row 1001 55 rfl) ?_
  refine AB.step rfl rfl rfl (KR (fun (l : List AG) => RV.sl (l.map AG.row)) 1002 rfl) ?_
  refine AB.step rfl rfl rfl (AD (DO rfl LF (q := [(0, _), (1, _)]) (by exact ⟨rfl, rfl, rfl, (.inl rfl), rfl, rfl, rfl, (.inl rfl), trivial⟩) (cs := [.mref 1001 n0, .mref 1002 (n0 + 1)]) (by rfl)) _) ?_
  refine AB.step rfl rfl rfl (CU (cs := [.mref 1001 n0, .mref 1002 (n0 + 1)]) 1000 rfl (.inl rfl) rfl rfl) ?_
  refine AB.step rfl rfl rfl (AD (AK rfl (.inl rfl)) _) ?_
  refine AB.nil ?_
  refine hK2 _ ?_
  refine AH fun K3 hK3 wK3 => ?_
  refine AH fun K4 hK4 wK4 => ?_
  refine AW.region ?_
  refine AB.step rfl rfl rfl (AD (AI rfl (.inl rfl)) _) ?_
  refine AB.step rfl rfl rfl (AD (BO rfl Cc.slice (.inl rfl)) _) ?_
  refine AB.step rfl rfl rfl (AD (AI rfl (.inl rfl)) _) ?_
  refine AB.nil ?_
  refine hK4 _ ?_
  refine AW.block ?_
  refine EJ h fun o1 hit1 hk1 => ?_
  have J1 : ∀ (m7 : List (Int × AE)) (m8 : List (Int × (List AG))) (i5 : Nat → Nat), o1 = (m7, m8) → K3 ⟨[(3, .ptr 1000 (n0 + 2) 0 0)], [(1000, some (.box (n0 + 2) 76 [.mref 1001 n0, .mref 1002 (n0 + 1)])), (1001, some (.mb n0 (i5 0) 55 (AM AE.row m7))), (1002, some (.md (n0 + 1) (AM (fun (l : List AG) => RV.sl (l.map AG.row)) m8)))], (i5 1), 64⟩ := by
    intro m7 m8 i5 e
    have h1 := hk1 _ _ e
    refine hK3 _ ?_
    refine AH fun K5 hK5 wK5 => ?_
    refine AW.region ?_
    refine AB.step rfl rfl rfl (AD (AI rfl (.inl rfl)) _) ?_
    refine AB.step rfl rfl rfl (AD (AK rfl (.inl rfl)) _) ?_
    refine AB.nil ?_
    refine hK5 _ ?_
    refine AW.ret ?_
    exact Cy.mk (s' := ⟨[(2, .ptr 1000 (n0 + 2) 0 0)], [(1000, some (.box (n0 + 2) 76 [.mref 1001 n0, .mref 1002 (n0 + 1)])), (1001, some (.mb n0 (i5 0) 55 (AM AE.row m7))), (1002, some (.md (n0 + 1) (AM (fun (l : List AG) => RV.sl (l.map AG.row)) m8)))], (i5 1), 64⟩) ((by exact AL ⟨.inl (.inl rfl), trivial⟩ ⟨.inl rfl, .inl rfl, .inl rfl, trivial⟩ (Nat.le_refl _))) (D5 (fun (r : (List (Int × AE)) × (List (Int × (List AG)))) rr h' => ∃ (i : Nat → Nat), rr = .ptr 1000 (i 0) 0 0 ∧ h' = [(1000, some (.box (i 0) 76 [.mref 1001 (i 1), .mref 1002 (i 3)])), (1001, some (.mb (i 1) (i 2) 55 (AM AE.row r.1))), (1002, some (.md (i 3) (AM (fun (l : List AG) => RV.sl (l.map AG.row)) r.2)))]) h1 (by exact ⟨.ptr 1000 (n0 + 2) 0 0, [(1000, some (.box (n0 + 2) 76 [.mref 1001 n0, .mref 1002 (n0 + 1)])), (1001, some (.mb n0 (i5 0) 55 (AM AE.row m7))), (1002, some (.md (n0 + 1) (AM (fun (l : List AG) => RV.sl (l.map AG.row)) m8)))], rfl, ⟨.inr rfl, .inr rfl, .inr rfl, trivial⟩, rfl, rfl, Ab [(n0 + 2), n0, (i5 0), (n0 + 1)], rfl, rfl⟩))
  refine II (fun (x2 : Int) (m3 : List (Int × AE)) (m4 : List (Int × (List AG))) i3 => ⟨[(3, .ptr 1000 (n0 + 2) 0 0), (10, .r (.sl (l1.map AP.row))), (11, .r (.int .i64 (l1.length : Int))), (12, .r (.int .i64 x2))], [(1000, some (.box (n0 + 2) 76 [.mref 1001 n0, .mref 1002 (n0 + 1)])), (1001, some (.mb n0 (i3 0) 55 (AM AE.row m3))), (1002, some (.md (n0 + 1) (AM (fun (l : List AG) => RV.sl (l.map AG.row)) m4)))], (i3 1), 64⟩) (Ab [n0, (n0 + 3)]) hit1 ((by exact AL ⟨.inl (.inl rfl), .inl (.inl rfl), .inl (.inl rfl), .inl (.inl rfl), trivial⟩ ⟨.inl rfl, .inl rfl, .inl rfl, trivial⟩ (Nat.le_refl _))) ?_
  intro x2 m3 m4 i3 v1 hv1 hx1
  have h2 : EM l1 x2 m3 m4 = some v1 := hv1; unfold EM at h2
  refine AH fun K6 hK6 wK6 => ?_
  refine AW.region ?_
  refine AB.step rfl rfl rfl (AD (Ar rfl (.inl rfl) (.inl rfl)) _) ?_
  refine AB.nil ?_
  refine hK6 _ ?_
  refine AH fun K7 hK7 wK7 => ?_
  refine AW.cond rfl (fun hc1 => ?_) (fun hc1 => ?_)
  · have h3 := Ag hc1 h2
    refine AW.skip ?_
    refine hK7 _ ?_
    refine AH fun K8 hK8 wK8 => ?_
    refine AW.block ?_
    refine EJ h3 fun p1 hp1 hk2 => ?_
    have J2 : ∀ (m9 : List (Int × AE)) (m10 : List (Int × (List AG))) (i6 : Nat → Nat), p1 = (m9, m10) → K8 ⟨[(3, .ptr 1000 (n0 + 2) 0 0), (10, .r (.sl (l1.map AP.row))), (11, .r (.int .i64 (l1.length : Int))), (12, .r (.int .i64 x2))], [(1000, some (.box (n0 + 2) 76 [.mref 1001 n0, .mref 1002 (n0 + 1)])), (1001, some (.mb n0 (i6 0) 55 (AM AE.row m9))), (1002, some (.md (n0 + 1) (AM (fun (l : List AG) => RV.sl (l.map AG.row)) m10)))], (i6 1), 64⟩ := by
      intro m9 m10 i6 e
      have h4 := hk2 _ _ e
      refine hK8 _ ?_
      refine AW.region ?_
      refine AU h4 fun x4 ex4 h5 => ?_
      refine AB.step rfl rfl rfl (AD (BC rfl (.inl rfl) (.inl rfl) (fun _ => ex4)) _) ?_
      refine AB.step rfl rfl rfl (AD (AI rfl (.inl rfl)) _) ?_
      refine AB.nil ?_
      exact D4.mk h5 (Ab [(i6 0), (i6 1)]) ((by exact AL ⟨.inl (.inl rfl), .inl (.inl rfl), .inl (.inl rfl), .inl (.inl rfl), trivial⟩ ⟨.inl rfl, .inl rfl, .inl rfl, trivial⟩ (Nat.le_refl _)))
    refine AH fun K9 hK9 wK9 => ?_
    refine AW.region ?_
    refine AU hp1 fun x5 ex5 h6 => ?_
    refine AB.step rfl rfl rfl (AD (A5 rfl Cc.slice (.inl rfl) (.inl rfl) (fun _ => rfl) (fun _ => ex5)) _) ?_
    refine AB.step rfl rfl rfl (AD (Be (cs := [.r (.int .i64 x5.Clock), .r (.int .i64 x5.Site), .r (.int .i64 x5.Kind), .r (.int .i64 x5.Item), .r (.int .i64 x5.Parent), .r (.str x5.Place), .r (.str x5.Name), .r (.str x5.Value)]) rfl DJ (.inl rfl) rfl rfl) _) ?_
    refine AB.step rfl rfl rfl (Bs (cs := [.r (.int .i64 0), .r (.int .i64 0), .r (.int .i64 0), .r (.int .i64 0), .r (.int .i64 0), .r (.str []), .r (.str []), .r (.str [])]) 5 rfl F4 rfl rfl) ?_
    refine BG rfl rfl (Ba (ds := [.r (.int .i64 x5.Clock), .r (.int .i64 x5.Site), .r (.int .i64 x5.Kind), .r (.int .i64 x5.Item), .r (.int .i64 x5.Parent), .r (.str x5.Place), .r (.str x5.Name), .r (.str x5.Value)]) rfl Ga (.inl rfl) rfl (.inl rfl) rfl rfl rfl rfl) ?_
    refine AB.nil ?_
    refine hK9 _ ?_
    refine AW.block ?_
    refine AH fun K10 hK10 wK10 => ?_
    refine AW.region ?_
    refine AB.step rfl rfl rfl (AD (AX (ob := .box _ _ _) rfl Bx (.inl rfl) (fun _ => rfl) rfl) _) ?_
    refine AB.step rfl rfl rfl (AD (AR (a := .r (.int .i64 x5.Kind)) rfl Ae (.inl rfl) rfl rfl) _) ?_
    refine AB.step rfl rfl rfl (AD (BH rfl (.inl rfl) (.inl rfl)) _) ?_
    refine AB.step rfl rfl rfl (AD (AK rfl (.inl rfl)) _) ?_
    refine AB.nil ?_
    refine hK10 _ ?_
    refine AW.cond rfl (fun hc2 => ?_) (fun hc2 => ?_)
    · have h7 := Ag hc2 h6
      refine AU h7 fun r1 er1 h8 => ?_
      refine Fx 20 [⟨some 20, (fun _ => .ptr 1000 (n0 + 2) 0 0), none, []⟩, ⟨some 21, (fun _ => .ptr 1000 (n0 + 2) 0 0), none, []⟩, ⟨some 22, (fun _ => .ptr 1000 (n0 + 2) 0 1), none, []⟩, ⟨some 23, (fun _ => .mref 1002 (n0 + 1)), none, []⟩, ⟨some 24, (fun _ => .ptr 5 (i3 1) 0 3), none, []⟩, ⟨some 25, (fun _ => .r (.int .i64 x5.Item)), none, []⟩, ⟨some 26, (fun _ => .ptr 1000 (n0 + 2) 0 0), none, []⟩, ⟨some 27, (fun _ => .ptr 1000 (n0 + 2) 0 0), none, []⟩, ⟨some 28, (fun _ => .ptr 1000 (n0 + 2) 0 1), none, []⟩, ⟨some 29, (fun _ => .mref 1002 (n0 + 1)), none, []⟩, ⟨some 30, (fun _ => .ptr 5 (i3 1) 0 3), none, []⟩, ⟨some 31, (fun _ => .r (.int .i64 x5.Item)), none, []⟩, ⟨some 32, (fun _ => .r (.sl (((AN m4 x5.Item).getD []).map AG.row))), none, []⟩, ⟨some 33, (fun _ => .ptr 5 (i3 1) 0 6), none, []⟩, ⟨some 34, (fun _ => .r (.str x5.Name)), none, []⟩, ⟨some 35, (fun _ => .ptr 5 (i3 1) 0 7), none, []⟩, ⟨some 36, (fun _ => .r (.str x5.Value)), none, []⟩, ⟨some 37, (fun _ => .agg [.r (.str x5.Name), .r (.str x5.Value)]), none, []⟩, ⟨some 38, (fun _ => .r (.sl ([(AG.mk x5.Name x5.Value)].map AG.row))), some (38, (fun _ => none)), []⟩, ⟨some 39, (fun _ => .r (.sl (r1.map AG.row))), none, []⟩] Bt (by kernel_rfl) (by exact ⟨fun _ _ h => ⟨rfl, fun _ _ e => by cases e⟩, fun _ _ h => ⟨rfl, fun _ _ e => by cases e⟩, fun _ _ h => ⟨rfl, fun _ _ e => by cases e⟩, fun _ _ h => ⟨rfl, fun _ _ e => by cases e⟩, fun _ _ h => ⟨rfl, fun _ _ e => by cases e⟩, fun _ _ h => ⟨rfl, fun _ _ e => by cases e⟩, fun _ _ h => ⟨rfl, fun _ _ e => by cases e⟩, fun _ _ h => ⟨rfl, fun _ _ e => by cases e⟩, fun _ _ h => ⟨rfl, fun _ _ e => by cases e⟩, fun _ _ h => ⟨rfl, fun _ _ e => by cases e⟩, fun _ _ h => ⟨rfl, fun _ _ e => by cases e⟩, fun _ _ h => ⟨rfl, fun _ _ e => by cases e⟩, fun _ _ h => ⟨rfl, fun _ _ e => by cases e⟩, fun _ _ h => ⟨rfl, fun _ _ e => by cases e⟩, fun _ _ h => ⟨rfl, fun _ _ e => by cases e⟩, fun _ _ h => ⟨rfl, fun _ _ e => by cases e⟩, fun _ _ h => ⟨rfl, fun _ _ e => by cases e⟩, fun _ _ h => ⟨rfl, fun _ _ e => by cases e⟩, fun _ _ h => ⟨rfl, fun _ _ e => by cases e; rfl⟩, fun _ _ h => ⟨rfl, fun _ _ e => by cases e⟩, trivial⟩) rfl (by exact ⟨Aq (n1 := fun n => n) rfl rfl (by intro d h; cases h; rfl) rfl (fun _ => [(3, .ptr 1000 (n0 + 2) 0 0)]) (fun _ => [(1000, some (.box (n0 + 2) 76 [.mref 1001 n0, .mref 1002 (n0 + 1)]))]) (fun D G1 hr => ⟨BK rfl rfl, trivial⟩) (fun D G1 hr => ⟨At rfl rfl, trivial⟩) (fun _ _ => rfl) (fun G1 e h' n => AD (v := .ptr 1000 (n0 + 2) 0 0) (AI rfl (.inl rfl)) _),
          Aq (n1 := fun n => n) rfl rfl (by intro d h; cases h; rfl) rfl (fun _ => [(20, .ptr 1000 (n0 + 2) 0 0)]) (fun _ => [(1000, some (.box (n0 + 2) 76 [.mref 1001 n0, .mref 1002 (n0 + 1)]))]) (fun D G1 hr => ⟨Au hr 0 rfl rfl (by kernel_rfl) rfl rfl, trivial⟩) (fun D G1 hr => ⟨At rfl rfl, trivial⟩) (fun _ _ => rfl) (fun G1 e h' n => AD (v := .ptr 1000 (n0 + 2) 0 0) (Ct (ob := .box _ _ _) rfl (.inl rfl) (fun _ => rfl) rfl) _),
          Aq (n1 := fun n => n) rfl rfl (by intro d h; cases h; rfl) rfl (fun _ => [(21, .ptr 1000 (n0 + 2) 0 0)]) (fun _ => [(1000, some (.box (n0 + 2) 76 [.mref 1001 n0, .mref 1002 (n0 + 1)]))]) (fun D G1 hr => ⟨Au hr 1 rfl rfl (by kernel_rfl) rfl rfl, trivial⟩) (fun D G1 hr => ⟨At rfl rfl, trivial⟩) (fun _ _ => rfl) (fun G1 e h' n => AD (v := .ptr 1000 (n0 + 2) 0 1) (AX (ob := .box _ _ _) rfl Ik (.inl rfl) (fun _ => rfl) rfl) _),
          Aq (n1 := fun n => n) rfl rfl (by intro d h; cases h; rfl) rfl (fun _ => [(22, .ptr 1000 (n0 + 2) 0 1)]) (fun _ => [(1000, some (.box (n0 + 2) 76 [.mref 1001 n0, .mref 1002 (n0 + 1)]))]) (fun D G1 hr => ⟨Au hr 2 rfl rfl (by kernel_rfl) rfl rfl, trivial⟩) (fun D G1 hr => ⟨At rfl rfl, trivial⟩) (fun _ _ => rfl) (fun G1 e h' n => AD (v := .mref 1002 (n0 + 1)) (AR (a := .mref 1002 (n0 + 1)) rfl Ip (.inl rfl) rfl rfl) _),
          Aq (n1 := fun n => n) rfl rfl (by intro d h; cases h; rfl) rfl (fun _ => [(5, .ptr 5 (i3 1) 0 0)]) (fun _ => [(5, some (.box (i3 1) 46 [.r (.int .i64 x5.Clock), .r (.int .i64 x5.Site), .r (.int .i64 x5.Kind), .r (.int .i64 x5.Item), .r (.int .i64 x5.Parent), .r (.str x5.Place), .r (.str x5.Name), .r (.str x5.Value)]))]) (fun D G1 hr => ⟨BK rfl rfl, trivial⟩) (fun D G1 hr => ⟨At rfl rfl, trivial⟩) (fun _ _ => rfl) (fun G1 e h' n => AD (v := .ptr 5 (i3 1) 0 3) (AX (ob := .box _ _ _) rfl CH (.inl rfl) (fun _ => rfl) rfl) _),
          Aq (n1 := fun n => n) rfl rfl (by intro d h; cases h; rfl) rfl (fun _ => [(24, .ptr 5 (i3 1) 0 3)]) (fun _ => [(5, some (.box (i3 1) 46 [.r (.int .i64 x5.Clock), .r (.int .i64 x5.Site), .r (.int .i64 x5.Kind), .r (.int .i64 x5.Item), .r (.int .i64 x5.Parent), .r (.str x5.Place), .r (.str x5.Name), .r (.str x5.Value)]))]) (fun D G1 hr => ⟨Au hr 4 rfl rfl (by kernel_rfl) rfl rfl, trivial⟩) (fun D G1 hr => ⟨At rfl rfl, trivial⟩) (fun _ _ => rfl) (fun G1 e h' n => AD (v := .r (.int .i64 x5.Item)) (AR (a := .r (.int .i64 x5.Item)) rfl Ae (.inl rfl) rfl rfl) _),
          Aq (n1 := fun n => n) rfl rfl (by intro d h; cases h; rfl) rfl (fun _ => [(3, .ptr 1000 (n0 + 2) 0 0)]) (fun _ => [(1000, some (.box (n0 + 2) 76 [.mref 1001 n0, .mref 1002 (n0 + 1)]))]) (fun D G1 hr => ⟨BK rfl rfl, trivial⟩) (fun D G1 hr => ⟨At rfl rfl, trivial⟩) (fun _ _ => rfl) (fun G1 e h' n => AD (v := .ptr 1000 (n0 + 2) 0 0) (AI rfl (.inl rfl)) _),
          Aq (n1 := fun n => n) rfl rfl (by intro d h; cases h; rfl) rfl (fun _ => [(26, .ptr 1000 (n0 + 2) 0 0)]) (fun _ => [(1000, some (.box (n0 + 2) 76 [.mref 1001 n0, .mref 1002 (n0 + 1)]))]) (fun D G1 hr => ⟨Au hr 6 rfl rfl (by kernel_rfl) rfl rfl, trivial⟩) (fun D G1 hr => ⟨At rfl rfl, trivial⟩) (fun _ _ => rfl) (fun G1 e h' n => AD (v := .ptr 1000 (n0 + 2) 0 0) (Ct (ob := .box _ _ _) rfl (.inl rfl) (fun _ => rfl) rfl) _),
          Aq (n1 := fun n => n) rfl rfl (by intro d h; cases h; rfl) rfl (fun _ => [(27, .ptr 1000 (n0 + 2) 0 0)]) (fun _ => [(1000, some (.box (n0 + 2) 76 [.mref 1001 n0, .mref 1002 (n0 + 1)]))]) (fun D G1 hr => ⟨Au hr 7 rfl rfl (by kernel_rfl) rfl rfl, trivial⟩) (fun D G1 hr => ⟨At rfl rfl, trivial⟩) (fun _ _ => rfl) (fun G1 e h' n => AD (v := .ptr 1000 (n0 + 2) 0 1) (AX (ob := .box _ _ _) rfl Ik (.inl rfl) (fun _ => rfl) rfl) _),
          Aq (n1 := fun n => n) rfl rfl (by intro d h; cases h; rfl) rfl (fun _ => [(28, .ptr 1000 (n0 + 2) 0 1)]) (fun _ => [(1000, some (.box (n0 + 2) 76 [.mref 1001 n0, .mref 1002 (n0 + 1)]))]) (fun D G1 hr => ⟨Au hr 8 rfl rfl (by kernel_rfl) rfl rfl, trivial⟩) (fun D G1 hr => ⟨At rfl rfl, trivial⟩) (fun _ _ => rfl) (fun G1 e h' n => AD (v := .mref 1002 (n0 + 1)) (AR (a := .mref 1002 (n0 + 1)) rfl Ip (.inl rfl) rfl rfl) _),
          Aq (n1 := fun n => n) rfl rfl (by intro d h; cases h; rfl) rfl (fun _ => [(5, .ptr 5 (i3 1) 0 0)]) (fun _ => [(5, some (.box (i3 1) 46 [.r (.int .i64 x5.Clock), .r (.int .i64 x5.Site), .r (.int .i64 x5.Kind), .r (.int .i64 x5.Item), .r (.int .i64 x5.Parent), .r (.str x5.Place), .r (.str x5.Name), .r (.str x5.Value)]))]) (fun D G1 hr => ⟨BK rfl rfl, trivial⟩) (fun D G1 hr => ⟨At rfl rfl, trivial⟩) (fun _ _ => rfl) (fun G1 e h' n => AD (v := .ptr 5 (i3 1) 0 3) (AX (ob := .box _ _ _) rfl CH (.inl rfl) (fun _ => rfl) rfl) _),
          Aq (n1 := fun n => n) rfl rfl (by intro d h; cases h; rfl) rfl (fun _ => [(30, .ptr 5 (i3 1) 0 3)]) (fun _ => [(5, some (.box (i3 1) 46 [.r (.int .i64 x5.Clock), .r (.int .i64 x5.Site), .r (.int .i64 x5.Kind), .r (.int .i64 x5.Item), .r (.int .i64 x5.Parent), .r (.str x5.Place), .r (.str x5.Name), .r (.str x5.Value)]))]) (fun D G1 hr => ⟨Au hr 10 rfl rfl (by kernel_rfl) rfl rfl, trivial⟩) (fun D G1 hr => ⟨At rfl rfl, trivial⟩) (fun _ _ => rfl) (fun G1 e h' n => AD (v := .r (.int .i64 x5.Item)) (AR (a := .r (.int .i64 x5.Item)) rfl Ae (.inl rfl) rfl rfl) _),
          Aq (n1 := fun n => n) rfl rfl (by intro d h; cases h; rfl) rfl (fun _ => [(29, .mref 1002 (n0 + 1)), (31, .r (.int .i64 x5.Item))]) (fun _ => [(1002, some (.md (n0 + 1) (AM (fun (l : List AG) => RV.sl (l.map AG.row)) m4)))]) (fun D G1 hr => ⟨Au hr 9 rfl rfl (by kernel_rfl) rfl rfl, Au hr 11 rfl rfl (by kernel_rfl) rfl rfl, trivial⟩) (fun D G1 hr => ⟨At rfl rfl, trivial⟩) (fun _ _ => rfl) (fun G1 e h' n => AD (v := .r (.sl (((AN m4 x5.Item).getD []).map AG.row))) (JA (rd := (fun (l : List AG) => RV.sl (l.map AG.row))) false (.slice none 0 0) [] rfl Try.underlying74 Try.underlying3 (En Km) (fun _ _ => .snil) (.inl rfl) (.inl rfl) rfl) _),
          Aq (n1 := fun n => n) rfl rfl (by intro d h; cases h; rfl) rfl (fun _ => [(5, .ptr 5 (i3 1) 0 0)]) (fun _ => [(5, some (.box (i3 1) 46 [.r (.int .i64 x5.Clock), .r (.int .i64 x5.Site), .r (.int .i64 x5.Kind), .r (.int .i64 x5.Item), .r (.int .i64 x5.Parent), .r (.str x5.Place), .r (.str x5.Name), .r (.str x5.Value)]))]) (fun D G1 hr => ⟨BK rfl rfl, trivial⟩) (fun D G1 hr => ⟨At rfl rfl, trivial⟩) (fun _ _ => rfl) (fun G1 e h' n => AD (v := .ptr 5 (i3 1) 0 6) (AX (ob := .box _ _ _) rfl FS (.inl rfl) (fun _ => rfl) rfl) _),
          Aq (n1 := fun n => n) rfl rfl (by intro d h; cases h; rfl) rfl (fun _ => [(33, .ptr 5 (i3 1) 0 6)]) (fun _ => [(5, some (.box (i3 1) 46 [.r (.int .i64 x5.Clock), .r (.int .i64 x5.Site), .r (.int .i64 x5.Kind), .r (.int .i64 x5.Item), .r (.int .i64 x5.Parent), .r (.str x5.Place), .r (.str x5.Name), .r (.str x5.Value)]))]) (fun D G1 hr => ⟨Au hr 13 rfl rfl (by kernel_rfl) rfl rfl, trivial⟩) (fun D G1 hr => ⟨At rfl rfl, trivial⟩) (fun _ _ => rfl) (fun G1 e h' n => AD (v := .r (.str x5.Name)) (AR (a := .r (.str x5.Name)) rfl A4 (.inl rfl) rfl rfl) _),
          Aq (n1 := fun n => n) rfl rfl (by intro d h; cases h; rfl) rfl (fun _ => [(5, .ptr 5 (i3 1) 0 0)]) (fun _ => [(5, some (.box (i3 1) 46 [.r (.int .i64 x5.Clock), .r (.int .i64 x5.Site), .r (.int .i64 x5.Kind), .r (.int .i64 x5.Item), .r (.int .i64 x5.Parent), .r (.str x5.Place), .r (.str x5.Name), .r (.str x5.Value)]))]) (fun D G1 hr => ⟨BK rfl rfl, trivial⟩) (fun D G1 hr => ⟨At rfl rfl, trivial⟩) (fun _ _ => rfl) (fun G1 e h' n => AD (v := .ptr 5 (i3 1) 0 7) (AX (ob := .box _ _ _) rfl EV (.inl rfl) (fun _ => rfl) rfl) _),
          Aq (n1 := fun n => n) rfl rfl (by intro d h; cases h; rfl) rfl (fun _ => [(35, .ptr 5 (i3 1) 0 7)]) (fun _ => [(5, some (.box (i3 1) 46 [.r (.int .i64 x5.Clock), .r (.int .i64 x5.Site), .r (.int .i64 x5.Kind), .r (.int .i64 x5.Item), .r (.int .i64 x5.Parent), .r (.str x5.Place), .r (.str x5.Name), .r (.str x5.Value)]))]) (fun D G1 hr => ⟨Au hr 15 rfl rfl (by kernel_rfl) rfl rfl, trivial⟩) (fun D G1 hr => ⟨At rfl rfl, trivial⟩) (fun _ _ => rfl) (fun G1 e h' n => AD (v := .r (.str x5.Value)) (AR (a := .r (.str x5.Value)) rfl A4 (.inl rfl) rfl rfl) _),
          Aq (n1 := fun n => n) rfl rfl (by intro d h; cases h; rfl) rfl (fun _ => [(34, .r (.str x5.Name)), (36, .r (.str x5.Value))]) (fun _ => []) (fun D G1 hr => ⟨Au hr 14 rfl rfl (by kernel_rfl) rfl rfl, Au hr 16 rfl rfl (by kernel_rfl) rfl rfl, trivial⟩) (fun D G1 hr => trivial) (fun _ _ => rfl) (fun G1 e h' n => AD (v := .agg [.r (.str x5.Name), .r (.str x5.Value)]) (DO rfl Im (q := [(0, _), (1, _)]) (by exact ⟨rfl, rfl, rfl, (.inl rfl), rfl, rfl, rfl, (.inl rfl), trivial⟩) (cs := [.r (.str x5.Name), .r (.str x5.Value)]) (by rfl)) _),
          NZ rfl rfl (by intro d h; cases h; rfl) rfl (fun _ => [(37, .agg [.r (.str x5.Name), .r (.str x5.Value)])]) (fun _ => []) (fun D G1 hr => ⟨Au hr 17 rfl rfl (by kernel_rfl) rfl rfl, trivial⟩) (fun D G1 hr => trivial) (fun G1 e h' n => DN.frz (A2.toN (B3 38 rfl A9 (f := AG.row) (l := ([(AG.mk x5.Name x5.Value)] : List AG)) ⟨rfl, ⟨_, (.inl rfl), rfl⟩, trivial⟩ rfl (fun _ => rfl) rfl))),
          Aq (n1 := fun n => n) rfl rfl (by intro d h; cases h; rfl) rfl (fun _ => [(32, .r (.sl (((AN m4 x5.Item).getD []).map AG.row))), (38, .r (.sl ([(AG.mk x5.Name x5.Value)].map AG.row)))]) (fun _ => []) (fun D G1 hr => ⟨Au hr 12 rfl rfl (by kernel_rfl) rfl rfl, Au hr 18 rfl rfl (by kernel_rfl) rfl rfl, trivial⟩) (fun D G1 hr => trivial) (fun _ _ => rfl) (fun G1 e h' n => Dw (r := .r (.sl (r1.map AG.row))) (caps := []) (bs := [.r (.sl (((AN m4 x5.Item).getD []).map AG.row)), .r (.sl ([(AG.mk x5.Name x5.Value)].map AG.row))]) rfl (.inl rfl) rfl ⟨.inl ⟨(.inl rfl), rfl⟩, .inl ⟨(.inl rfl), rfl⟩, trivial⟩ (fun _ => N1 (er1))),
          trivial⟩) fun G1 n1 => ?_
      refine AB.weak (s' := ⟨[(3, .ptr 1000 (n0 + 2) 0 0), (5, .ptr 5 (i3 1) 0 0), (10, .r (.sl (l1.map AP.row))), (11, .r (.int .i64 (l1.length : Int))), (12, .r (.int .i64 x2)), (13, .r (.bool (decide (x2 < (l1.length : Int))))), (14, .rop (AP.row x5) 0), (15, .agg [.r (.int .i64 x5.Clock), .r (.int .i64 x5.Site), .r (.int .i64 x5.Kind), .r (.int .i64 x5.Item), .r (.int .i64 x5.Parent), .r (.str x5.Place), .r (.str x5.Name), .r (.str x5.Value)]), (16, .r (.bool (decide (x5.Kind = 1)))), (17, .ptr 5 (i3 1) 0 2), (18, .r (.int .i64 x5.Kind)), (19, .r (.bool (decide (x5.Kind = 1)))), (20, .ptr 1000 (n0 + 2) 0 0), (21, .ptr 1000 (n0 + 2) 0 0), (22, .ptr 1000 (n0 + 2) 0 1), (23, .mref 1002 (n0 + 1)), (24, .ptr 5 (i3 1) 0 3), (25, .r (.int .i64 x5.Item)), (26, .ptr 1000 (n0 + 2) 0 0), (27, .ptr 1000 (n0 + 2) 0 0), (28, .ptr 1000 (n0 + 2) 0 1), (29, .mref 1002 (n0 + 1)), (30, .ptr 5 (i3 1) 0 3), (31, .r (.int .i64 x5.Item)), (32, .r (.sl (((AN m4 x5.Item).getD []).map AG.row))), (33, .ptr 5 (i3 1) 0 6), (34, .r (.str x5.Name)), (35, .ptr 5 (i3 1) 0 7), (36, .r (.str x5.Value)), (37, .agg [.r (.str x5.Name), .r (.str x5.Value)]), (38, .r (.sl ([(AG.mk x5.Name x5.Value)].map AG.row))), (39, .r (.sl (r1.map AG.row)))], [(5, some (.box (i3 1) 46 [.r (.int .i64 x5.Clock), .r (.int .i64 x5.Site), .r (.int .i64 x5.Kind), .r (.int .i64 x5.Item), .r (.int .i64 x5.Parent), .r (.str x5.Place), .r (.str x5.Name), .r (.str x5.Value)])), (1000, some (.box (n0 + 2) 76 [.mref 1001 n0, .mref 1002 (n0 + 1)])), (1001, some (.mb n0 (i3 0) 55 (AM AE.row m3))), (1002, some (.md (n0 + 1) (AM (fun (l : List AG) => RV.sl (l.map AG.row)) m4)))], n1, 64⟩) (by exact AL ⟨.inl (.inl rfl), .inl (.inl rfl), .inl (.inl rfl), .inl (.inl rfl), .inl (.inl rfl), .inl (.inl rfl), .inl (.inl rfl), .inl (.inl rfl), .inl (.inl rfl), .inl (.inl rfl), .inl (.inl rfl), .inl (.inl rfl), .inl (.inl rfl), .inl (.inl rfl), .inl (.inl rfl), .inl (.inl rfl), .inl (.inl rfl), .inl (.inl rfl), .inl (.inl rfl), .inl (.inl rfl), .inl (.inl rfl), .inl (.inl rfl), .inl (.inl rfl), .inl (.inl rfl), .inl (.inl rfl), .inl (.inl rfl), .inl (.inl rfl), .inl (.inl rfl), .inl (.inl rfl), .inl (.inl rfl), .inl (.inl rfl), .inl (.inl rfl), trivial⟩ ⟨.inl rfl, .inl rfl, .inl rfl, .inl rfl, trivial⟩ (Nat.le_refl _)) ?_
      refine BG rfl rfl (If (rd := (fun (l : List AG) => RV.sl (l.map AG.row))) (a := r1) (.inl rfl) Try.underlying74 Try.underlying3 (.inl rfl) (.inl rfl) (.inl rfl) rfl) ?_
      refine AB.nil ?_
      exact wK8 _ _ ((by exact AL ⟨.inl (.inl rfl), .inl (.inl rfl), .inl (.inl rfl), .inl (.inl rfl), trivial⟩ ⟨.inl rfl, .inl rfl, .inl rfl, trivial⟩ (Nat.le_refl _))) (J2 _ _ (Ab [(i3 0), n1]) (Option.some.inj h8).symm)
    · have h7 := Ah hc2 h6
      refine AH fun K11 hK11 wK11 => ?_
      refine AW.region ?_
      refine AB.step rfl rfl rfl (AD (AI rfl (.inl rfl)) _) ?_
      refine AB.step rfl rfl rfl (AD (AX (ob := .box _ _ _) rfl Ch (.inl rfl) (fun _ => rfl) rfl) _) ?_
      refine AB.step rfl rfl rfl (AD (AR (a := .r (.int .i64 x5.Parent)) rfl Ae (.inl rfl) rfl rfl) _) ?_
      refine AB.step rfl rfl rfl (AD (AX (ob := .box _ _ _) rfl CH (.inl rfl) (fun _ => rfl) rfl) _) ?_
      refine AB.step rfl rfl rfl (AD (AR (a := .r (.int .i64 x5.Item)) rfl Ae (.inl rfl) rfl rfl) _) ?_
      refine AU h7 fun r2 er2 h9 => ?_
      refine Ds [1000, 1001, 1002] (hc := [(1000, some (.box (n0 + 2) 76 [.mref 1001 n0, .mref 1002 (n0 + 1)])), (1001, some (.mb n0 (i3 0) 55 (AM AE.row m3))), (1002, some (.md (n0 + 1) (AM (fun (l : List AG) => RV.sl (l.map AG.row)) m4)))]) (bs := [.ptr 1000 (n0 + 2) 0 0, .r (.int .i64 x5.Parent), .r (.int .i64 x5.Item)]) (caps := []) rfl rfl rfl rfl (.inl rfl) rfl ⟨.inl ⟨(.inl rfl), rfl⟩, .inl ⟨(.inl rfl), rfl⟩, .inl ⟨(.inl rfl), rfl⟩, trivial⟩ ⟨rfl, rfl, rfl, rfl, rfl, rfl, rfl, rfl, rfl, trivial⟩ (by decide) (OW er2) ?_
      intro i7 n2
      refine AB.weak (s' := ⟨[(3, .ptr 1000 (n0 + 2) 0 0), (5, .ptr 5 (i3 1) 0 0), (10, .r (.sl (l1.map AP.row))), (11, .r (.int .i64 (l1.length : Int))), (12, .r (.int .i64 x2)), (13, .r (.bool (decide (x2 < (l1.length : Int))))), (14, .rop (AP.row x5) 0), (15, .agg [.r (.int .i64 x5.Clock), .r (.int .i64 x5.Site), .r (.int .i64 x5.Kind), .r (.int .i64 x5.Item), .r (.int .i64 x5.Parent), .r (.str x5.Place), .r (.str x5.Name), .r (.str x5.Value)]), (16, .r (.bool (decide (x5.Kind = 1)))), (17, .ptr 5 (i3 1) 0 2), (18, .r (.int .i64 x5.Kind)), (19, .r (.bool (decide (x5.Kind = 1)))), (41, .ptr 1000 (n0 + 2) 0 0), (42, .ptr 5 (i3 1) 0 4), (43, .r (.int .i64 x5.Parent)), (44, .ptr 5 (i3 1) 0 3), (45, .r (.int .i64 x5.Item)), (46, .r (.bool r2))], [(5, some (.box (i3 1) 46 [.r (.int .i64 x5.Clock), .r (.int .i64 x5.Site), .r (.int .i64 x5.Kind), .r (.int .i64 x5.Item), .r (.int .i64 x5.Parent), .r (.str x5.Place), .r (.str x5.Name), .r (.str x5.Value)])), (1000, some (.box (n0 + 2) 76 [.mref 1001 n0, .mref 1002 (n0 + 1)])), (1001, some (.mb n0 (i3 0) 55 (AM AE.row m3))), (1002, some (.md (n0 + 1) (AM (fun (l : List AG) => RV.sl (l.map AG.row)) m4)))], n2, 64⟩) (by exact AL ⟨.inl (.inl rfl), .inl (.inl rfl), .inl (.inl rfl), .inl (.inl rfl), .inl (.inl rfl), .inl (.inl rfl), .inl (.inl rfl), .inl (.inl rfl), .inl (.inl rfl), .inl (.inl rfl), .inl (.inl rfl), .inl (.inl rfl), .inl (.inl rfl), .inl (.inl rfl), .inl (.inl rfl), .inl (.inl rfl), .inl (.inl rfl), .inl (.inl rfl), trivial⟩ ⟨.inl rfl, .inl rfl, .inl rfl, .inl rfl, trivial⟩ (Nat.le_refl _)) ?_
      refine AB.step rfl rfl rfl (AD (Bi rfl (.inl rfl)) _) ?_
      refine AB.step rfl rfl rfl (AD (AK rfl (.inl rfl)) _) ?_
      refine AB.nil ?_
      refine hK11 _ ?_
      refine AW.cond rfl (fun hc3 => ?_) (fun hc3 => ?_)
      · have h10 := Ag hc3 h9
        refine AW.weak (s' := ⟨[(3, .ptr 1000 (n0 + 2) 0 0), (5, .ptr 5 (i3 1) 0 0), (10, .r (.sl (l1.map AP.row))), (11, .r (.int .i64 (l1.length : Int))), (12, .r (.int .i64 x2))], [(5, some (.box (i3 1) 46 [.r (.int .i64 x5.Clock), .r (.int .i64 x5.Site), .r (.int .i64 x5.Kind), .r (.int .i64 x5.Item), .r (.int .i64 x5.Parent), .r (.str x5.Place), .r (.str x5.Name), .r (.str x5.Value)])), (1000, some (.box (n0 + 2) 76 [.mref 1001 n0, .mref 1002 (n0 + 1)])), (1001, some (.mb n0 (i3 0) 55 (AM AE.row m3))), (1002, some (.md (n0 + 1) (AM (fun (l : List AG) => RV.sl (l.map AG.row)) m4)))], n2, 64⟩) (by exact AL ⟨.inl (.inl rfl), .inl (.inl rfl), .inl (.inl rfl), .inl (.inl rfl), .inl (.inl rfl), trivial⟩ ⟨.inl rfl, .inl rfl, .inl rfl, .inl rfl, trivial⟩ (Nat.le_refl _)) ?_
        refine LD [] [0, 1, 2, 3, 4, 5, 6, 7, 8, 9, 10, 11, 12] [13] 14 Bt (by kernel_rfl) rfl rfl rfl rfl rfl ?_
        refine DH.nil ?_
        refine AF.step rfl rfl rfl (AI rfl (.inl rfl)) ?_
        refine AF.step rfl rfl rfl (Ct (ob := .box _ _ _) rfl (.inl rfl) (fun _ => rfl) rfl) ?_
        refine AF.step rfl rfl rfl (AX (ob := .box _ _ _) rfl HE (.inl rfl) (fun _ => rfl) rfl) ?_
        refine AF.step rfl rfl rfl (AR (a := .mref 1001 n0) rfl H8 (.inl rfl) rfl rfl) ?_
        refine AF.step rfl rfl rfl (AX (ob := .box _ _ _) rfl CH (.inl rfl) (fun _ => rfl) rfl) ?_
        refine AF.step rfl rfl rfl (AR (a := .r (.int .i64 x5.Item)) rfl Ae (.inl rfl) rfl rfl) ?_
        refine AF.step rfl rfl rfl (AX (ob := .box _ _ _) rfl CH (.inl rfl) (fun _ => rfl) rfl) ?_
        refine AF.step rfl rfl rfl (AR (a := .r (.int .i64 x5.Item)) rfl Ae (.inl rfl) rfl rfl) ?_
        refine AF.step rfl rfl rfl (AX (ob := .box _ _ _) rfl Ch (.inl rfl) (fun _ => rfl) rfl) ?_
        refine AF.step rfl rfl rfl (AR (a := .r (.int .i64 x5.Parent)) rfl Ae (.inl rfl) rfl rfl) ?_
        refine AF.step rfl rfl rfl (AX (ob := .box _ _ _) rfl Ej (.inl rfl) (fun _ => rfl) rfl) ?_
        refine AF.step rfl rfl rfl (AR (a := .r (.str x5.Place)) rfl A4 (.inl rfl) rfl rfl) ?_
        refine AF.step rfl rfl rfl (DO rfl HK (q := [(0, _), (1, _), (2, _)]) (by exact ⟨rfl, rfl, rfl, (.inl rfl), rfl, rfl, rfl, (.inl rfl), rfl, rfl, rfl, (.inl rfl), trivial⟩) (cs := [.r (.int .i64 x5.Item), .r (.int .i64 x5.Parent), .r (.str x5.Place), .cst (.slice none 0 0)]) (by rfl)) ?_
        refine AF.nil ?_
        refine AA.step rfl rfl rfl (MA (cs := [.r (.int .i64 x5.Item), .r (.int .i64 x5.Parent), .r (.str x5.Place), .cst (.slice none 0 0)]) 61 rfl (.inl rfl) rfl rfl) ?_
        refine AA.nil ?_
        refine AB.weak (by exact AL (e' := [(3, .ptr 1000 (n0 + 2) 0 0), (5, .ptr 5 (i3 1) 0 0), (10, .r (.sl (l1.map AP.row))), (11, .r (.int .i64 (l1.length : Int))), (12, .r (.int .i64 x2)), (48, .ptr 1000 (n0 + 2) 0 0), (49, .ptr 1000 (n0 + 2) 0 0), (50, .ptr 1000 (n0 + 2) 0 0), (51, .mref 1001 n0), (52, .ptr 5 (i3 1) 0 3), (53, .r (.int .i64 x5.Item)), (54, .ptr 5 (i3 1) 0 3), (55, .r (.int .i64 x5.Item)), (56, .ptr 5 (i3 1) 0 4), (57, .r (.int .i64 x5.Parent)), (58, .ptr 5 (i3 1) 0 5), (59, .r (.str x5.Place)), (60, .agg [.r (.int .i64 x5.Item), .r (.int .i64 x5.Parent), .r (.str x5.Place), .cst (.slice none 0 0)]), (61, .ptr 61 n2 0 0)]) (h' := [(5, some (.box (i3 1) 46 [.r (.int .i64 x5.Clock), .r (.int .i64 x5.Site), .r (.int .i64 x5.Kind), .r (.int .i64 x5.Item), .r (.int .i64 x5.Parent), .r (.str x5.Place), .r (.str x5.Name), .r (.str x5.Value)])), (61, some (.box n2 55 [.r (.int .i64 x5.Item), .r (.int .i64 x5.Parent), .r (.str x5.Place), .r (.sl [])])), (1000, some (.box (n0 + 2) 76 [.mref 1001 n0, .mref 1002 (n0 + 1)])), (1001, some (.mb n0 (i3 0) 55 (AM AE.row m3))), (1002, some (.md (n0 + 1) (AM (fun (l : List AG) => RV.sl (l.map AG.row)) m4)))]) ⟨.inl (.inl rfl), .inl (.inl rfl), .inl (.inl rfl), .inl (.inl rfl), .inl (.inl rfl), .inl (.inl rfl), .inl (.inl rfl), .inl (.inl rfl), .inl (.inl rfl), .inl (.inl rfl), .inl (.inl rfl), .inl (.inl rfl), .inl (.inl rfl), .inl (.inl rfl), .inl (.inl rfl), .inl (.inl rfl), .inl (.inl rfl), .inl (.inl rfl), .inl (.inl rfl), trivial⟩ ⟨.inl rfl, .inr (.inr ⟨_, _, _, _, rfl, rfl, ⟨.inl rfl, .inl rfl, .inl rfl, .inr (.inr ⟨rfl, rfl⟩), trivial⟩⟩), .inl rfl, .inl rfl, .inl rfl, trivial⟩ (Nat.le_refl _)) ?_
        refine BG rfl rfl (P8 (a := (AE.mk x5.Item x5.Parent x5.Place [])) (.inl rfl) Try.underlying73 Try.underlying3 (.inl rfl) (.inl rfl) (.inl rfl) rfl rfl) ?_
        refine AB.nil ?_
        exact wK8 _ _ ((by exact AL ⟨.inl (.inl rfl), .inl (.inl rfl), .inl (.inl rfl), .inl (.inl rfl), trivial⟩ ⟨.inl rfl, .inl rfl, .inl rfl, trivial⟩ (Nat.le_refl _))) (J2 _ _ (Ab [(n2 + 1), (n2 + 2)]) (Option.some.inj h10).symm)
      · have h10 := Ah hc3 h9
        refine AW.skip ?_
        exact wK8 _ _ ((by exact AL ⟨.inl (.inl rfl), .inl (.inl rfl), .inl (.inl rfl), .inl (.inl rfl), trivial⟩ ⟨.inl rfl, .inl rfl, .inl rfl, trivial⟩ (Nat.le_refl _))) (J2 _ _ (Ab [(i3 0), n2]) (Option.some.inj h10).symm)
  · have h3 := Ah hc1 h2
    refine AW.exit ?_
    exact wK3 _ _ ((by exact AL ⟨.inl (.inl rfl), trivial⟩ ⟨.inl rfl, .inl rfl, .inl rfl, trivial⟩ (Nat.le_refl _))) (J1 _ _ (Ab [(i3 0), (i3 1)]) (hx1 _ (Option.some.inj h3).symm))
theorem LT {x1 : List UInt8} {r : Bool} (h : H9 x1 = some r) : Af Try.prog 66 [.r (.str x1)] (.r (.bool r)) := by
  unfold H9 at h
  refine A6 Try.func66 rfl rfl Try.ntmps66 rfl (Nat.le_of_ble_eq_true rfl) fun n0 => ?_
  refine AH fun K1 hK1 wK1 => ?_
  refine AW.region ?_
  refine AB.step rfl rfl rfl (AD (AK rfl (.inl rfl)) _) ?_
  refine AB.nil ?_
  refine hK1 _ ?_
  refine AH fun K2 hK2 wK2 => ?_
  refine AW.region ?_
  refine AB.step rfl rfl rfl (AD (AI rfl (.inl rfl)) _) ?_
  refine AB.step rfl rfl rfl (AD (AI rfl (.inl rfl)) _) ?_
  refine AB.step rfl rfl rfl (AD (C0 rfl (.inl rfl) (.inl rfl)) _) ?_
  refine AB.step rfl rfl rfl (AD (AK rfl (.inl rfl)) _) ?_
  refine AB.nil ?_
  refine hK2 _ ?_
  refine AW.ret ?_
  exact Am (P := Try.prog) (fun (r : Bool) => .r (.bool r)) h (.inl rfl) (.t (.d rfl))
theorem Pj {x1 : List UInt8} {y1 : List UInt8} {r : Int} (h : IE x1 y1 = some r) : Af Try.prog 48 [.r (.str x1), .r (.str y1)] (.r (.int .i64 r)) := by
  unfold IE at h
  refine A6 Try.func48 rfl rfl Try.ntmps48 rfl (Nat.le_of_ble_eq_true rfl) fun n0 => ?_
  refine AH fun K1 hK1 wK1 => ?_
  refine AW.region ?_
  refine AB.step rfl rfl rfl (AD (AK rfl (.inl rfl)) _) ?_
  refine AB.nil ?_
  refine hK1 _ ?_
  refine AH fun K2 hK2 wK2 => ?_
  refine AW.region ?_
  refine AB.step rfl rfl rfl (AD (AI rfl (.inl rfl)) _) ?_
  refine AU h fun xNaN1 exNaN1 h1 => ?_
  refine AB.step rfl rfl rfl (A7 (r := .r (.bool xNaN1)) (caps := []) (bs := [.r (.str x1)]) rfl (.inl rfl) rfl ⟨⟨_, (.inl rfl), .d rfl⟩, trivial⟩ (fun _ => LT (exNaN1)) rfl) ?_
  refine AB.step rfl rfl rfl (AD (AK rfl (.inl rfl)) _) ?_
  refine AB.nil ?_
  refine hK2 _ ?_
  refine AH fun K3 hK3 wK3 => ?_
  refine AW.region ?_
  refine AB.step rfl rfl rfl (AD (AI rfl (.inl rfl)) _) ?_
  refine AU h1 fun yNaN1 eyNaN1 h2 => ?_
  refine AB.step rfl rfl rfl (A7 (r := .r (.bool yNaN1)) (caps := []) (bs := [.r (.str y1)]) rfl (.inl rfl) rfl ⟨⟨_, (.inl rfl), .d rfl⟩, trivial⟩ (fun _ => LT (eyNaN1)) rfl) ?_
  refine AB.step rfl rfl rfl (AD (AK rfl (.inl rfl)) _) ?_
  refine AB.nil ?_
  refine hK3 _ ?_
  refine AH fun K4 hK4 wK4 => ?_
  refine AH fun K5 hK5 wK5 => ?_
  refine AW.region ?_
  refine AB.step rfl rfl rfl (AD (AI rfl (.inl rfl)) _) ?_
  refine AB.nil ?_
  refine hK5 _ ?_
  refine AW.cond rfl (fun hc1 => ?_) (fun hc1 => ?_)
  · have h3 := Ag hc1 h2
    refine AH fun K6 hK6 wK6 => ?_
    refine AH fun K7 hK7 wK7 => ?_
    refine AW.weak (s' := ⟨[(6, .r (.bool yNaN1))], [], n0, 20⟩) (by exact AL ⟨.inl (.inl rfl), trivial⟩ trivial (Nat.le_refl _)) ?_
    refine AW.region ?_
    refine AB.step rfl rfl rfl (AD (AI rfl (.inl rfl)) _) ?_
    refine AB.nil ?_
    refine hK7 _ ?_
    refine AW.cond rfl (fun hc2 => ?_) (fun hc2 => ?_)
    · have h4 := Ag hc2 h3
      refine AH fun K8 hK8 wK8 => ?_
      refine AW.region ?_
      refine AB.step rfl rfl rfl (AD (AK rfl (.inl rfl)) _) ?_
      refine AB.nil ?_
      refine hK8 _ ?_
      refine AW.ret ?_
      exact Am (P := Try.prog) (fun (r : Int) => .r (.int .i64 r)) h4 (.inl rfl) (.t (.d rfl))
    · have h4 := Ah hc2 h3
      refine AW.skip ?_
      refine hK6 _ ?_
      refine AH fun K9 hK9 wK9 => ?_
      refine AW.region ?_
      refine AB.step rfl rfl rfl (AD (AK rfl (.inl rfl)) _) ?_
      refine AB.nil ?_
      refine hK9 _ ?_
      refine AW.ret ?_
      exact Am (P := Try.prog) (fun (r : Int) => .r (.int .i64 r)) h4 (.inl rfl) (.t (.d rfl))
  · have h3 := Ah hc1 h2
    refine AW.skip ?_
    refine hK4 _ ?_
    refine AH fun K10 hK10 wK10 => ?_
    refine AH fun K11 hK11 wK11 => ?_
    refine AW.region ?_
    refine AB.step rfl rfl rfl (AD (AI rfl (.inl rfl)) _) ?_
    refine AB.nil ?_
    refine hK11 _ ?_
    refine AW.cond rfl (fun hc3 => ?_) (fun hc3 => ?_)
    · have h5 := Ag hc3 h3
      refine AH fun K12 hK12 wK12 => ?_
      refine AW.weak (s' := ⟨[], [], n0, 20⟩) (by exact AL trivial trivial (Nat.le_refl _)) ?_
      refine AW.region ?_
      refine AB.step rfl rfl rfl (AD (AK rfl (.inl rfl)) _) ?_
      refine AB.nil ?_
      refine hK12 _ ?_
      refine AW.ret ?_
      exact Am (P := Try.prog) (fun (r : Int) => .r (.int .i64 r)) h5 (.inl rfl) (.t (.d rfl))
    · have h5 := Ah hc3 h3
      refine AW.skip ?_
      refine hK10 _ ?_
      refine AH fun K13 hK13 wK13 => ?_
      refine AH fun K14 hK14 wK14 => ?_
      refine AW.weak (s' := ⟨[(0, .r (.str x1)), (1, .r (.str y1))], [], n0, 20⟩) (by exact AL ⟨.inl (.inl rfl), .inl (.inl rfl), trivial⟩ trivial (Nat.le_refl _)) ?_
      refine AW.region ?_
      refine AB.step rfl rfl rfl (AD (AI rfl (.inl rfl)) _) ?_
      refine AB.step rfl rfl rfl (AD (AI rfl (.inl rfl)) _) ?_
      refine AB.step rfl rfl rfl (AD (Gz rfl (.inl rfl) (.inl rfl)) _) ?_
      refine AB.nil ?_
      refine hK14 _ ?_
      refine AW.cond rfl (fun hc4 => ?_) (fun hc4 => ?_)
      · have h6 := Ag hc4 h5
        refine AH fun K15 hK15 wK15 => ?_
        refine AW.region ?_
        refine AB.step rfl rfl rfl (AD (AK rfl (.inl rfl)) _) ?_
        refine AB.nil ?_
        refine hK15 _ ?_
        refine AW.ret ?_
        exact Am (P := Try.prog) (fun (r : Int) => .r (.int .i64 r)) h6 (.inl rfl) (.t (.d rfl))
      · have h6 := Ah hc4 h5
        refine AW.skip ?_
        refine hK13 _ ?_
        refine AH fun K16 hK16 wK16 => ?_
        refine AH fun K17 hK17 wK17 => ?_
        refine AW.region ?_
        refine AB.step rfl rfl rfl (AD (AI rfl (.inl rfl)) _) ?_
        refine AB.step rfl rfl rfl (AD (AI rfl (.inl rfl)) _) ?_
        refine AB.step rfl rfl rfl (AD (Oz rfl (.inl rfl) (.inl rfl)) _) ?_
        refine AB.nil ?_
        refine hK17 _ ?_
        refine AW.cond rfl (fun hc5 => ?_) (fun hc5 => ?_)
        · have h7 := Ag hc5 h6
          refine AH fun K18 hK18 wK18 => ?_
          refine AW.region ?_
          refine AB.step rfl rfl rfl (AD (AK rfl (.inl rfl)) _) ?_
          refine AB.nil ?_
          refine hK18 _ ?_
          refine AW.ret ?_
          exact Am (P := Try.prog) (fun (r : Int) => .r (.int .i64 r)) h7 (.inl rfl) (.t (.d rfl))
        · have h7 := Ah hc5 h6
          refine AW.skip ?_
          refine hK16 _ ?_
          refine AH fun K19 hK19 wK19 => ?_
          refine AW.region ?_
          refine AB.step rfl rfl rfl (AD (AK rfl (.inl rfl)) _) ?_
          refine AB.nil ?_
          refine hK19 _ ?_
          refine AW.ret ?_
          exact Am (P := Try.prog) (fun (r : Int) => .r (.int .i64 r)) h7 (.inl rfl) (.t (.d rfl))
end Go.Proofs.Ytelkfhdgmbahgaa.Al
