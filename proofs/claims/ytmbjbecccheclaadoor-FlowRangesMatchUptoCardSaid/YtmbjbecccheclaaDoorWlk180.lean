/- Walks, as printed. -/
import Derived.Test.YtmbjbecccheclaaDoorPL1
import Derived.Test.YtmbjbecccheclaaDoorProg
set_option maxHeartbeats 4000000
set_option maxRecDepth 20000
set_option linter.unusedVariables false
namespace Go.Proofs.YtmbjbecccheclaaDoor.Al
open Go.Proofs
theorem FS : Tryd.prog.follows .mixedOrders = true := by kernel_rfl
theorem LG : (Tryd.prog.info? 22).map (fun i => (i.zero, i.size, i.bytes)) = some (some (.slice none 0 0), 1, 24) := by kernel_rfl
theorem GP : (Tryd.prog.info? 24).map (fun i => (i.zero, i.size, i.bytes)) = some (some (.slice none 0 0), 1, 24) := by kernel_rfl
theorem H0 : (Tryd.prog.info? 28).map (fun i => (i.zero, i.size, i.bytes)) = some (some (.slice none 0 0), 1, 24) := by kernel_rfl
theorem Fd : (Tryd.prog.info? 3).map (fun i => (i.zero, i.size, i.bytes)) = some (some (.int .i64 0), 1, 8) := by kernel_rfl
theorem EJ : (Tryd.prog.info? 30).map (fun i => (i.zero, i.size, i.bytes)) = some (some (.agg #[.int .i64 0, .int .i64 0, .slice none 0 0]), 3, 40) := by kernel_rfl
theorem ET : (Tryd.prog.info? 48).map (fun i => (i.zero, i.size, i.bytes)) = some (some (.agg #[.string ⟨#[]⟩, .string ⟨#[]⟩]), 2, 32) := by kernel_rfl
theorem FF : (Tryd.prog.info? 5).map (fun i => (i.zero, i.size, i.bytes)) = some (some (.int .u8 0), 1, 1) := by kernel_rfl
theorem Eu : (Tryd.prog.info? 70).map (fun i => (i.zero, i.size, i.bytes)) = some (some (.agg #[.int .u8 0, .int .u8 0]), 2, 2) := by kernel_rfl
theorem GQ : (Tryd.prog.info? 9).map (fun i => (i.zero, i.size, i.bytes)) = some (some (.string ⟨#[]⟩), 1, 16) := by kernel_rfl
theorem Hh : Bp Tryd.prog 24 (.slice none 0 0) := Bp.of GP
theorem IG : Bp Tryd.prog 30 (.agg #[.int .i64 0, .int .i64 0, .slice none 0 0]) := Bp.of EJ
theorem Jy : Bp Tryd.prog 48 (.agg #[.string ⟨#[]⟩, .string ⟨#[]⟩]) := Bp.of ET
theorem KT : Bp Tryd.prog 70 (.agg #[.int .u8 0, .int .u8 0]) := Bp.of Eu
theorem DJ : BV Tryd.prog 30 3 := BV.of Tryd.underlying30 rfl EJ
theorem GA : BV Tryd.prog 48 2 := BV.of Tryd.underlying48 rfl ET
theorem Kr : BV Tryd.prog 70 2 := BV.of Tryd.underlying70 rfl Eu
theorem Jc : Ef 3 = some (D8.flatMap (AS .u8)) := by kernel_rfl
theorem Je : Ef 4 = some (GI.flatMap Cp.row) := by kernel_rfl
theorem I9 : C0 Tryd.prog 30 [(0, 1), (1, 1), (2, 1)] [.int .i64 0, .int .i64 0, .slice none 0 0] := C0.of Tryd.underlying30 (fun w => by kernel_rfl) EJ
theorem LO : C0 Tryd.prog 48 [(0, 1), (1, 1)] [.string ⟨#[]⟩, .string ⟨#[]⟩] := C0.of Tryd.underlying48 (fun w => by kernel_rfl) ET
theorem JG : DV Tryd.prog 48 [some .string, some .string] := DV.of Tryd.underlying48 (by kernel_rfl) (by kernel_rfl) (by exact ⟨rfl, rfl, Tryd.underlying9, rfl, rfl, Tryd.underlying9, trivial⟩)
theorem B3 : BC Tryd.prog 30 0 0 := BC.of Tryd.underlying30 rfl rfl Fd (by decide)
theorem CG : BC Tryd.prog 30 1 1 := BC.of Tryd.underlying30 rfl rfl Fd (by decide)
theorem G3 : BC Tryd.prog 30 2 2 := BC.of Tryd.underlying30 rfl rfl H0 (by decide)
theorem GK : BC Tryd.prog 48 0 0 := BC.of Tryd.underlying48 rfl rfl GQ (by decide)
theorem HU : BC Tryd.prog 48 1 1 := BC.of Tryd.underlying48 rfl rfl GQ (by decide)
theorem KN : BC Tryd.prog 70 0 0 := BC.of Tryd.underlying70 rfl rfl FF (by decide)
theorem LX : BC Tryd.prog 70 1 1 := BC.of Tryd.underlying70 rfl rfl FF (by decide)
theorem Am : BL Tryd.prog 22 30 3 40 := BL.of Tryd.underlying22 EJ rfl rfl (by decide)
theorem Bd : BL Tryd.prog 24 3 1 8 := BL.of Tryd.underlying24 Fd rfl rfl (by decide)
theorem CJ : BL Tryd.prog 28 48 2 32 := BL.of Tryd.underlying28 ET rfl rfl (by decide)
theorem C7 : A6 Tryd.prog 22 := A6.of Tryd.underlying22 rfl LG
theorem FT : A6 Tryd.prog 24 := A6.of Tryd.underlying24 rfl GP
theorem H3 : A6 Tryd.prog 28 := A6.of Tryd.underlying28 rfl H0
theorem Aw : A6 Tryd.prog 3 := A6.of Tryd.underlying3 rfl Fd
theorem GG : A6 Tryd.prog 5 := A6.of Tryd.underlying5 rfl FF
theorem EZ : A6 Tryd.prog 9 := A6.of Tryd.underlying9 rfl GQ
theorem LH : GB Tryd.prog 51 256 5 1 := ⟨Tryd.underlying51, Dk FF⟩
theorem Kh : GB Tryd.prog 71 16 70 2 := ⟨Tryd.underlying71, Dk Eu⟩
theorem Hq : ∃ i, Tryd.prog.info? 24 = some i ∧ i.size = 1 := Dk GP
theorem G8 : ∃ i, Tryd.prog.info? 30 = some i ∧ i.size = 3 := Dk EJ
theorem Jm : ∃ i, Tryd.prog.info? 48 = some i ∧ i.size = 2 := Dk ET
theorem LD : ∃ i, Tryd.prog.info? 70 = some i ∧ i.size = 2 := Dk Eu
theorem HY {name1 : List UInt8} {r : (List AK)} (h : Fa name1 = some r) : AX Tryd.prog 10 [.r (.str name1)] (.r (.sl (r.map AK.row))) := by
  unfold Fa at h
  refine A8 Tryd.func10 rfl rfl Tryd.ntmps10 rfl (Nat.le_of_ble_eq_true rfl) fun n0 => ?_
  refine AF fun K1 hK1 wK1 => ?_
  refine AW.region ?_
  refine AA.step rfl rfl rfl (AC (AI rfl (.inl rfl)) _) ?_
  refine AA.nil ?_
  refine hK1 _ ?_
  refine AF fun K2 hK2 wK2 => ?_
  refine AW.region ?_
  refine AA.step rfl rfl rfl (AC (AD rfl (.inl rfl)) _) ?_
  refine AA.step rfl rfl rfl (AC (Gz rfl LO (q := [(0, _), (1, _)]) (by exact ⟨rfl, rfl, rfl, (.inl rfl), rfl, rfl, rfl, (.inl rfl), trivial⟩) (cs := [.r (.str name1), .r (.str [111, 110])]) (by rfl)) _) ?_
  refine AA.step rfl rfl rfl (DB 5 rfl CJ (f := AK.row) (l := ([(AK.mk name1 [111, 110])] : List AK)) ⟨rfl, ⟨_, (.inl rfl), rfl⟩, trivial⟩ rfl (fun _ => rfl) rfl) ?_
  refine AA.step rfl rfl rfl (AC (AI rfl (.inl rfl)) _) ?_
  refine AA.nil ?_
  refine hK2 _ ?_
  refine AW.ret ?_
  exact Ae (P := Tryd.prog) (fun (r : (List AK)) => .r (.sl (r.map AK.row))) h (.inl rfl) (.t (.one (.own rfl)))
theorem JM {s1 : List UInt8} {r : Bool} (h : EO s1 = some r) : AX Tryd.prog 29 [.r (.str s1)] (.r (.bool r)) := by
  unfold EO at h
  refine A8 Tryd.func29 rfl rfl Tryd.ntmps29 rfl (Nat.le_of_ble_eq_true rfl) fun n0 => ?_
  refine AF fun K1 hK1 wK1 => ?_
  refine AW.region ?_
  refine AA.step rfl rfl rfl (AC (AI rfl (.inl rfl)) _) ?_
  refine AA.nil ?_
  refine hK1 _ ?_
  refine AF fun K2 hK2 wK2 => ?_
  refine AF fun K3 hK3 wK3 => ?_
  refine AW.region ?_
  refine AA.step rfl rfl rfl (AC (AD rfl (.inl rfl)) _) ?_
  refine AA.step rfl rfl rfl (AC (GF rfl (.inl rfl) (.inl rfl)) _) ?_
  refine AA.step rfl rfl rfl (AC (AD rfl (.inl rfl)) _) ?_
  refine AA.stepW (.one rfl rfl rfl) rfl rfl (AC (AD rfl (.inl rfl)) _) ?_
  refine AA.stepW (.one rfl rfl rfl) rfl rfl (AC (Ej rfl Tryd.underlying9 (.inr ⟨_, (by exact id), rfl⟩)) _) ?_
  refine AA.stepW (.one rfl rfl rfl) rfl rfl (AC (CL rfl (.inr ⟨_, (by exact id), rfl⟩) (.inl rfl)) _) ?_
  refine AA.step rfl rfl rfl (AC (As rfl (.inl rfl) (.inr ⟨_, (by exact id), rfl⟩)) _) ?_
  refine AA.step rfl rfl rfl (AC (AD rfl (.inl rfl)) _) ?_
  refine AA.stepW (.one rfl rfl rfl) rfl rfl (AC (AD rfl (.inl rfl)) _) ?_
  refine AR h fun ch1 ech1 h1 => ?_
  refine AA.stepW (.one rfl rfl rfl) rfl rfl (AC (Br rfl Tryd.underlying9 (.inr ⟨_, (by exact id), rfl⟩) (.inl rfl) (Ak ech1)) _) ?_
  refine AA.stepW (.one rfl rfl rfl) rfl rfl (AC (Ah rfl (.inr ⟨_, (by exact id), rfl⟩) (.inl rfl)) _) ?_
  refine AA.step rfl rfl rfl (AC (As rfl (.inl rfl) (.inr ⟨_, (by exact id), rfl⟩)) _) ?_
  refine AA.step rfl rfl rfl (AC (AD rfl (.inl rfl)) _) ?_
  refine AA.stepW (.one rfl rfl rfl) rfl rfl (AC (AD rfl (.inl rfl)) _) ?_
  refine AR h1 fun ch2 ech2 h2 => ?_
  refine AA.stepW (.one rfl rfl rfl) rfl rfl (AC (Br rfl Tryd.underlying9 (.inr ⟨_, (by exact id), rfl⟩) (.inl rfl) (Ak ech2)) _) ?_
  refine AA.stepW (.one rfl rfl rfl) rfl rfl (AC (CL rfl (.inr ⟨_, (by exact id), rfl⟩) (.inl rfl)) _) ?_
  refine AA.step rfl rfl rfl (AC (As rfl (.inl rfl) (.inr ⟨_, (by exact id), rfl⟩)) _) ?_
  refine AA.nil ?_
  refine hK3 _ ?_
  refine AW.cond rfl (fun hc1 => ?_) (fun hc1 => ?_)
  · have h3 := AZ hc1 h2
    refine AF fun K4 hK4 wK4 => ?_
    refine AW.weak (s' := ⟨[], [], n0, 53⟩) (by exact AM trivial trivial (Nat.le_refl _)) ?_
    refine AW.region ?_
    refine AA.step rfl rfl rfl (AC (AI rfl (.inl rfl)) _) ?_
    refine AA.nil ?_
    refine hK4 _ ?_
    refine AW.ret ?_
    exact Ae (P := Tryd.prog) (fun (r : Bool) => .r (.bool r)) h3 (.inl rfl) (.t (.d rfl))
  · have h3 := Aa hc1 h2
    refine AW.skip ?_
    refine hK2 _ ?_
    refine AF fun K5 hK5 wK5 => ?_
    refine AF fun K6 hK6 wK6 => ?_
    refine AW.weak (s' := ⟨[(0, .r (.str s1))], [], n0, 53⟩) (by exact AM ⟨.inl (.inl rfl), trivial⟩ trivial (Nat.le_refl _)) ?_
    refine AW.region ?_
    refine AA.step rfl rfl rfl (AC (AD rfl (.inl rfl)) _) ?_
    refine AA.step rfl rfl rfl (AC (Ej rfl Tryd.underlying9 (.inl rfl)) _) ?_
    refine AA.step rfl rfl rfl (AC (AD rfl (.inl rfl)) _) ?_
    refine AA.nil ?_
    refine hK6 _ ?_
    refine AW.block ?_
    refine Cd h3 fun o1 hit1 hk1 he1 => ?_
    have J1 : ∀ (u2 : Unit) (i5 : Nat → Nat), o1 = .nrm u2 → K5 ⟨[], [], (i5 0), 53⟩ := by
      intro u2 i5 e
      have h4 := hk1 _ e
      refine hK5 _ ?_
      refine AF fun K7 hK7 wK7 => ?_
      refine AW.region ?_
      refine AA.step rfl rfl rfl (AC (AI rfl (.inl rfl)) _) ?_
      refine AA.nil ?_
      refine hK7 _ ?_
      refine AW.ret ?_
      exact Ae (P := Tryd.prog) (fun (r : Bool) => .r (.bool r)) h4 (.inl rfl) (.t (.d rfl))
    refine DN (fun (x2 : Int) i3 => ⟨[(0, .r (.str s1)), (23, .r (.int .i64 (s1.length : Int))), (24, .r (.int .i64 x2))], [], (i3 0), 53⟩) (AU [n0]) hit1 ((by exact AM ⟨.inl (.inl rfl), .inl (.inl rfl), .inl (.inl rfl), trivial⟩ trivial (Nat.le_refl _))) ?_
    intro x2 i3 v1 hv1 hx1
    have h5 : De s1 x2 = some v1 := hv1; unfold De at h5
    refine AF fun K8 hK8 wK8 => ?_
    refine AW.region ?_
    refine AA.step rfl rfl rfl (AC (Ah rfl (.inl rfl) (.inl rfl)) _) ?_
    refine AA.nil ?_
    refine hK8 _ ?_
    refine AF fun K9 hK9 wK9 => ?_
    refine AW.cond rfl (fun hc2 => ?_) (fun hc2 => ?_)
    · have h6 := AZ hc2 h5
      refine AW.skip ?_
      refine hK9 _ ?_
      refine AF fun K10 hK10 wK10 => ?_
      refine AW.block ?_
      refine AF fun K11 hK11 wK11 => ?_
      refine AW.region ?_
      refine AA.step rfl rfl rfl (AC (AD rfl (.inl rfl)) _) ?_
      refine AA.step rfl rfl rfl (AC (AI rfl (.inl rfl)) _) ?_
      refine AA.nil ?_
      refine hK11 _ ?_
      refine AF fun K12 hK12 wK12 => ?_
      refine AW.region ?_
      refine AA.step rfl rfl rfl (AC (AD rfl (.inl rfl)) _) ?_
      refine AA.step rfl rfl rfl (AC (AD rfl (.inl rfl)) _) ?_
      refine AR h6 fun c1 ec1 h7 => ?_
      refine AA.step rfl rfl rfl (AC (Br rfl Tryd.underlying9 (.inl rfl) (.inl rfl) (fun _ => ec1)) _) ?_
      refine AA.step rfl rfl rfl (AC (AI rfl (.inl rfl)) _) ?_
      refine AA.nil ?_
      refine hK12 _ ?_
      refine AF fun K13 hK13 wK13 => ?_
      refine AW.region ?_
      refine AA.step rfl rfl rfl (AC (AD rfl (.inl rfl)) _) ?_
      refine AA.step rfl rfl rfl (AC (Ah rfl (.inl rfl) (.inl rfl)) _) ?_
      refine AA.step rfl rfl rfl (AC (AD rfl (.inl rfl)) _) ?_
      refine AA.stepW (.one rfl rfl rfl) rfl rfl (AC (AD rfl (.inl rfl)) _) ?_
      refine AA.stepW (.one rfl rfl rfl) rfl rfl (AC (CL rfl (.inr ⟨_, (by exact id), rfl⟩) (.inl rfl)) _) ?_
      refine AA.step rfl rfl rfl (AC (As rfl (.inl rfl) (.inr ⟨_, (by exact id), rfl⟩)) _) ?_
      refine AA.step rfl rfl rfl (AC (AD rfl (.inl rfl)) _) ?_
      refine AA.stepW (.one rfl rfl rfl) rfl rfl (AC (AD rfl (.inl rfl)) _) ?_
      refine AA.stepW (.one rfl rfl rfl) rfl rfl (AC (Ah rfl (.inr ⟨_, (by exact id), rfl⟩) (.inl rfl)) _) ?_
      refine AA.stepW (.one rfl rfl rfl) rfl rfl (AC (AD rfl (.inr ⟨_, (by exact id), rfl⟩)) _) ?_
      refine AA.stepW (.two rfl rfl rfl) rfl rfl (AC (AD rfl (.inl rfl)) _) ?_
      refine AA.stepW (.two rfl rfl rfl) rfl rfl (AC (CL rfl (.inr ⟨_, (by exact id), rfl⟩) (.inl rfl)) _) ?_
      refine AA.stepW (.one rfl rfl rfl) rfl rfl (AC (As rfl (.inr ⟨_, (by exact id), rfl⟩) (.inr ⟨_, (by exact id), rfl⟩)) _) ?_
      refine AA.step rfl rfl rfl (AC (Ad rfl (.inl rfl) (.inr ⟨_, (by exact id), rfl⟩)) _) ?_
      refine AA.step rfl rfl rfl (AC (AD rfl (.inl rfl)) _) ?_
      refine AA.stepW (.one rfl rfl rfl) rfl rfl (AC (AD rfl (.inl rfl)) _) ?_
      refine AA.stepW (.one rfl rfl rfl) rfl rfl (AC (Bb rfl (.inr ⟨_, (by exact id), rfl⟩) (.inl rfl)) _) ?_
      refine AA.step rfl rfl rfl (AC (Ad rfl (.inl rfl) (.inr ⟨_, (by exact id), rfl⟩)) _) ?_
      refine AA.step rfl rfl rfl (AC (AD rfl (.inl rfl)) _) ?_
      refine AA.stepW (.one rfl rfl rfl) rfl rfl (AC (AD rfl (.inl rfl)) _) ?_
      refine AA.stepW (.one rfl rfl rfl) rfl rfl (AC (Bb rfl (.inr ⟨_, (by exact id), rfl⟩) (.inl rfl)) _) ?_
      refine AA.step rfl rfl rfl (AC (Ad rfl (.inl rfl) (.inr ⟨_, (by exact id), rfl⟩)) _) ?_
      refine AA.nil ?_
      refine hK13 _ ?_
      refine AW.cond rfl (fun hc3 => ?_) (fun hc3 => ?_)
      · have h8 := AZ hc3 h7
        refine AF fun K14 hK14 wK14 => ?_
        refine AW.weak (s' := ⟨[], [], (i3 0), 53⟩) (by exact AM trivial trivial (Nat.le_refl _)) ?_
        refine AW.region ?_
        refine AA.step rfl rfl rfl (AC (AI rfl (.inl rfl)) _) ?_
        refine AA.nil ?_
        refine hK14 _ ?_
        refine AW.ret ?_
        exact Ae (P := Tryd.prog) (fun (r : Bool) => .r (.bool r)) (he1 _ (hx1 _ (Option.some.inj h8).symm)) (.inl rfl) (.t (.d rfl))
      · have h8 := Aa hc3 h7
        refine AW.skip ?_
        refine hK10 _ ?_
        refine AW.weak (s' := ⟨[(0, .r (.str s1)), (23, .r (.int .i64 (s1.length : Int))), (24, .r (.int .i64 x2))], [], (i3 0), 53⟩) (by exact AM ⟨.inl (.inl rfl), .inl (.inl rfl), .inl (.inl rfl), trivial⟩ trivial (Nat.le_refl _)) ?_
        refine AW.region ?_
        refine AR h8 fun x4 ex4 h9 => ?_
        refine AA.step rfl rfl rfl (AC (BB rfl (.inl rfl) (.inl rfl) (fun _ => ex4)) _) ?_
        refine AA.step rfl rfl rfl (AC (AD rfl (.inl rfl)) _) ?_
        refine AA.nil ?_
        exact CP.mk h9 (AU [(i3 0)]) ((by exact AM ⟨.inl (.inl rfl), .inl (.inl rfl), .inl (.inl rfl), trivial⟩ trivial (Nat.le_refl _)))
    · have h6 := Aa hc2 h5
      refine AW.exit ?_
      exact wK5 _ _ ((by exact AM trivial trivial (Nat.le_refl _))) (J1 _ (AU [(i3 0)]) (hx1 _ (Option.some.inj h6).symm))
theorem JU {s1 : List UInt8} {r : Bool} (h : D9 s1 = some r) : AX Tryd.prog 30 [.r (.str s1)] (.r (.bool r)) := by
  unfold D9 at h
  refine A8 Tryd.func30 rfl rfl Tryd.ntmps30 rfl (Nat.le_of_ble_eq_true rfl) fun n0 => ?_
  refine AF fun K1 hK1 wK1 => ?_
  refine AW.region ?_
  refine AA.step rfl rfl rfl (AC (AI rfl (.inl rfl)) _) ?_
  refine AA.nil ?_
  refine hK1 _ ?_
  refine AF fun K2 hK2 wK2 => ?_
  refine AF fun K3 hK3 wK3 => ?_
  refine AW.region ?_
  refine AA.step rfl rfl rfl (AC (AD rfl (.inl rfl)) _) ?_
  refine AA.step rfl rfl rfl (AC (GF rfl (.inl rfl) (.inl rfl)) _) ?_
  refine AA.step rfl rfl rfl (AC (AD rfl (.inl rfl)) _) ?_
  refine AA.stepW (.one rfl rfl rfl) rfl rfl (AC (AD rfl (.inl rfl)) _) ?_
  refine AA.stepW (.one rfl rfl rfl) rfl rfl (AC (Ej rfl Tryd.underlying9 (.inr ⟨_, (by exact id), rfl⟩)) _) ?_
  refine AA.stepW (.one rfl rfl rfl) rfl rfl (AC (CL rfl (.inr ⟨_, (by exact id), rfl⟩) (.inl rfl)) _) ?_
  refine AA.step rfl rfl rfl (AC (As rfl (.inl rfl) (.inr ⟨_, (by exact id), rfl⟩)) _) ?_
  refine AA.nil ?_
  refine hK3 _ ?_
  refine AW.cond rfl (fun hc1 => ?_) (fun hc1 => ?_)
  · have h1 := AZ hc1 h
    refine AF fun K4 hK4 wK4 => ?_
    refine AW.weak (s' := ⟨[], [], n0, 27⟩) (by exact AM trivial trivial (Nat.le_refl _)) ?_
    refine AW.region ?_
    refine AA.step rfl rfl rfl (AC (AI rfl (.inl rfl)) _) ?_
    refine AA.nil ?_
    refine hK4 _ ?_
    refine AW.ret ?_
    exact Ae (P := Tryd.prog) (fun (r : Bool) => .r (.bool r)) h1 (.inl rfl) (.t (.d rfl))
  · have h1 := Aa hc1 h
    refine AW.skip ?_
    refine hK2 _ ?_
    refine AF fun K5 hK5 wK5 => ?_
    refine AF fun K6 hK6 wK6 => ?_
    refine AW.region ?_
    refine AA.step rfl rfl rfl (AC (AD rfl (.inl rfl)) _) ?_
    refine AA.step rfl rfl rfl (AC (Ej rfl Tryd.underlying9 (.inl rfl)) _) ?_
    refine AA.step rfl rfl rfl (AC (AD rfl (.inl rfl)) _) ?_
    refine AA.nil ?_
    refine hK6 _ ?_
    refine AW.block ?_
    refine Cd h1 fun o1 hit1 hk1 he1 => ?_
    have J1 : ∀ (u2 : Unit) (i5 : Nat → Nat), o1 = .nrm u2 → K5 ⟨[], [], (i5 0), 27⟩ := by
      intro u2 i5 e
      have h2 := hk1 _ e
      refine hK5 _ ?_
      refine AF fun K7 hK7 wK7 => ?_
      refine AW.region ?_
      refine AA.step rfl rfl rfl (AC (AI rfl (.inl rfl)) _) ?_
      refine AA.nil ?_
      refine hK7 _ ?_
      refine AW.ret ?_
      exact Ae (P := Tryd.prog) (fun (r : Bool) => .r (.bool r)) h2 (.inl rfl) (.t (.d rfl))
    refine DN (fun (x2 : Int) i3 => ⟨[(0, .r (.str s1)), (12, .r (.int .i64 (s1.length : Int))), (13, .r (.int .i64 x2))], [], (i3 0), 27⟩) (AU [n0]) hit1 ((by exact AM ⟨.inl (.inl rfl), .inl (.inl rfl), .inl (.inl rfl), trivial⟩ trivial (Nat.le_refl _))) ?_
    intro x2 i3 v1 hv1 hx1
    have h3 : Eg s1 x2 = some v1 := hv1; unfold Eg at h3
    refine AF fun K8 hK8 wK8 => ?_
    refine AW.region ?_
    refine AA.step rfl rfl rfl (AC (Ah rfl (.inl rfl) (.inl rfl)) _) ?_
    refine AA.nil ?_
    refine hK8 _ ?_
    refine AF fun K9 hK9 wK9 => ?_
    refine AW.cond rfl (fun hc2 => ?_) (fun hc2 => ?_)
    · have h4 := AZ hc2 h3
      refine AW.skip ?_
      refine hK9 _ ?_
      refine AF fun K10 hK10 wK10 => ?_
      refine AW.block ?_
      refine AF fun K11 hK11 wK11 => ?_
      refine AW.region ?_
      refine AA.step rfl rfl rfl (AC (AD rfl (.inl rfl)) _) ?_
      refine AA.step rfl rfl rfl (AC (AI rfl (.inl rfl)) _) ?_
      refine AA.nil ?_
      refine hK11 _ ?_
      refine AF fun K12 hK12 wK12 => ?_
      refine AW.region ?_
      refine AA.step rfl rfl rfl (AC (AD rfl (.inl rfl)) _) ?_
      refine AA.step rfl rfl rfl (AC (AD rfl (.inl rfl)) _) ?_
      refine AR h4 fun ch1 ech1 h5 => ?_
      refine AA.step rfl rfl rfl (AC (Br rfl Tryd.underlying9 (.inl rfl) (.inl rfl) (fun _ => ech1)) _) ?_
      refine AA.step rfl rfl rfl (AC (Ah rfl (.inl rfl) (.inl rfl)) _) ?_
      refine AA.step rfl rfl rfl (AC (AD rfl (.inl rfl)) _) ?_
      refine AA.stepW (.one rfl rfl rfl) rfl rfl (AC (AD rfl (.inl rfl)) _) ?_
      refine AA.stepW (.one rfl rfl rfl) rfl rfl (AC (AD rfl (.inl rfl)) _) ?_
      refine AA.stepW (.one rfl rfl rfl) rfl rfl (AC (Br rfl Tryd.underlying9 (.inr ⟨_, (by exact id), rfl⟩) (.inr ⟨_, (by exact id), rfl⟩) (fun _ => ech1)) _) ?_
      refine AA.stepW (.one rfl rfl rfl) rfl rfl (AC (CL rfl (.inr ⟨_, (by exact id), rfl⟩) (.inl rfl)) _) ?_
      refine AA.step rfl rfl rfl (AC (As rfl (.inl rfl) (.inr ⟨_, (by exact id), rfl⟩)) _) ?_
      refine AA.nil ?_
      refine hK12 _ ?_
      refine AW.cond rfl (fun hc3 => ?_) (fun hc3 => ?_)
      · have h6 := AZ hc3 h5
        refine AF fun K13 hK13 wK13 => ?_
        refine AW.weak (s' := ⟨[], [], (i3 0), 27⟩) (by exact AM trivial trivial (Nat.le_refl _)) ?_
        refine AW.region ?_
        refine AA.step rfl rfl rfl (AC (AI rfl (.inl rfl)) _) ?_
        refine AA.nil ?_
        refine hK13 _ ?_
        refine AW.ret ?_
        exact Ae (P := Tryd.prog) (fun (r : Bool) => .r (.bool r)) (he1 _ (hx1 _ (Option.some.inj h6).symm)) (.inl rfl) (.t (.d rfl))
      · have h6 := Aa hc3 h5
        refine AW.skip ?_
        refine hK10 _ ?_
        refine AW.weak (s' := ⟨[(0, .r (.str s1)), (12, .r (.int .i64 (s1.length : Int))), (13, .r (.int .i64 x2))], [], (i3 0), 27⟩) (by exact AM ⟨.inl (.inl rfl), .inl (.inl rfl), .inl (.inl rfl), trivial⟩ trivial (Nat.le_refl _)) ?_
        refine AW.region ?_
        refine AR h6 fun x4 ex4 h7 => ?_
        refine AA.step rfl rfl rfl (AC (BB rfl (.inl rfl) (.inl rfl) (fun _ => ex4)) _) ?_
        refine AA.step rfl rfl rfl (AC (AD rfl (.inl rfl)) _) ?_
        refine AA.nil ?_
        exact CP.mk h7 (AU [(i3 0)]) ((by exact AM ⟨.inl (.inl rfl), .inl (.inl rfl), .inl (.inl rfl), trivial⟩ trivial (Nat.le_refl _)))
    · have h4 := Aa hc2 h3
      refine AW.exit ?_
      exact wK5 _ _ ((by exact AM trivial trivial (Nat.le_refl _))) (J1 _ (AU [(i3 0)]) (hx1 _ (Option.some.inj h4).symm))
theorem Ir {l1 : List AK} {empty1 : Bool} {r : Int} (h : D7 l1 empty1 = some r) : AX Tryd.prog 25 [.r (.sl (l1.map AK.row)), .r (.bool empty1)] (.r (.int .i64 r)) := by
  unfold D7 at h
  refine A8 Tryd.func25 rfl rfl Tryd.ntmps25 rfl (Nat.le_of_ble_eq_true rfl) fun n0 => ?_
  refine AF fun K1 hK1 wK1 => ?_
  refine AW.region ?_
  refine AA.step rfl rfl rfl (AC (AI rfl (.inl rfl)) _) ?_
  refine AA.nil ?_
  refine hK1 _ ?_
  refine AF fun K2 hK2 wK2 => ?_
  refine AF fun K3 hK3 wK3 => ?_
  refine AW.region ?_
  refine AA.step rfl rfl rfl (AC (AD rfl (.inl rfl)) _) ?_
  refine AA.step rfl rfl rfl (AC (BD rfl CJ.slice (.inl rfl)) _) ?_
  refine AA.step rfl rfl rfl (AC (AD rfl (.inl rfl)) _) ?_
  refine AA.nil ?_
  refine hK3 _ ?_
  refine AW.block ?_
  refine Cd h fun o1 hit1 hk1 he1 => ?_
  have J1 : ∀ (u2 : Unit) (i5 : Nat → Nat), o1 = .nrm u2 → K2 ⟨[], [], (i5 0), 48⟩ := by
    intro u2 i5 e
    have h1 := hk1 _ e
    refine hK2 _ ?_
    refine AF fun K4 hK4 wK4 => ?_
    refine AW.region ?_
    refine AA.step rfl rfl rfl (AC (AI rfl (.inl rfl)) _) ?_
    refine AA.nil ?_
    refine hK4 _ ?_
    refine AW.ret ?_
    exact Ae (P := Tryd.prog) (fun (r : Int) => .r (.int .i64 r)) h1 (.inl rfl) (.t (.d rfl))
  refine DN (fun (x2 : Int) i3 => ⟨[(0, .r (.sl (l1.map AK.row))), (1, .r (.bool empty1)), (7, .r (.sl (l1.map AK.row))), (8, .r (.int .i64 (l1.length : Int))), (9, .r (.int .i64 x2))], [], (i3 0), 48⟩) (AU [n0]) hit1 ((by exact AM ⟨.inl (.inl rfl), .inl (.inl rfl), .inl (.inl rfl), .inl (.inl rfl), .inl (.inl rfl), trivial⟩ trivial (Nat.le_refl _))) ?_
  intro x2 i3 v1 hv1 hx1
  have h2 : Do l1 empty1 x2 = some v1 := hv1; unfold Do at h2
  refine AF fun K5 hK5 wK5 => ?_
  refine AW.region ?_
  refine AA.step rfl rfl rfl (AC (Ah rfl (.inl rfl) (.inl rfl)) _) ?_
  refine AA.nil ?_
  refine hK5 _ ?_
  refine AF fun K6 hK6 wK6 => ?_
  refine AW.cond rfl (fun hc1 => ?_) (fun hc1 => ?_)
  · have h3 := AZ hc1 h2
    refine AW.skip ?_
    refine hK6 _ ?_
    refine AF fun K7 hK7 wK7 => ?_
    refine AW.block ?_
    refine AF fun K8 hK8 wK8 => ?_
    refine AW.region ?_
    refine AA.step rfl rfl rfl (AC (AD rfl (.inl rfl)) _) ?_
    refine AR h3 fun x4 ex4 h4 => ?_
    refine AA.step rfl rfl rfl (AC (Ax rfl CJ.slice (.inl rfl) (.inl rfl) (fun _ => rfl) (fun _ => ex4)) _) ?_
    refine AA.step rfl rfl rfl (AC (CW (cs := [.r (.str x4.Name), .r (.str x4.Value)]) rfl GA (.inl rfl) rfl rfl) _) ?_
    refine AA.step rfl rfl rfl (DY (cs := [.r (.str []), .r (.str [])]) 6 rfl Jy rfl rfl) ?_
    refine AA.step rfl rfl rfl (AC (AI rfl (.inl rfl)) _) ?_
    refine Du rfl rfl (Df (ds := [.r (.str x4.Name), .r (.str x4.Value)]) rfl Jm (.inl rfl) rfl (.inl rfl) rfl rfl rfl rfl) ?_
    refine AA.nil ?_
    refine hK8 _ ?_
    refine AW.block ?_
    refine AF fun K9 hK9 wK9 => ?_
    refine AW.region ?_
    refine AA.step rfl rfl rfl (AC (BE (ob := .box _ _ _) rfl GK (.inl rfl) (fun _ => rfl) rfl) _) ?_
    refine AA.step rfl rfl rfl (AC (Ao (a := .r (.str x4.Name)) rfl EZ (.inl rfl) rfl rfl) _) ?_
    refine AR h4 fun r1 er1 h5 => ?_
    refine AA.step rfl rfl rfl (Ap (r := .r (.bool r1)) (caps := []) (bs := [.r (.str x4.Name)]) rfl (.inl rfl) rfl ⟨⟨_, (.inl rfl), .d rfl⟩, trivial⟩ (fun _ => JM (er1)) rfl) ?_
    refine AA.step rfl rfl rfl (AC (Bk rfl (.inl rfl)) _) ?_
    refine AA.step rfl rfl rfl (AC (AI rfl (.inl rfl)) _) ?_
    refine AA.nil ?_
    refine hK9 _ ?_
    refine AW.cond rfl (fun hc2 => ?_) (fun hc2 => ?_)
    · have h6 := AZ hc2 h5
      refine AF fun K10 hK10 wK10 => ?_
      refine AW.weak (s' := ⟨[], [], ((i3 0) + 1), 48⟩) (by exact AM trivial trivial (Nat.le_refl _)) ?_
      refine AW.region ?_
      refine AA.step rfl rfl rfl (AC (AI rfl (.inl rfl)) _) ?_
      refine AA.nil ?_
      refine hK10 _ ?_
      refine AW.ret ?_
      exact Ae (P := Tryd.prog) (fun (r : Int) => .r (.int .i64 r)) (he1 _ (hx1 _ (Option.some.inj h6).symm)) (.inl rfl) (.t (.d rfl))
    · have h6 := Aa hc2 h5
      refine AF fun K11 hK11 wK11 => ?_
      refine AW.weak (s' := ⟨[(0, .r (.sl (l1.map AK.row))), (1, .r (.bool empty1)), (5, .r (.int .i64 x2)), (6, .ptr 6 (i3 0) 0 0), (7, .r (.sl (l1.map AK.row))), (8, .r (.int .i64 (l1.length : Int))), (9, .r (.int .i64 x2))], [(6, some (.box (i3 0) 48 [.r (.str x4.Name), .r (.str x4.Value)]))], ((i3 0) + 1), 48⟩) (by exact AM ⟨.inl (.inl rfl), .inl (.inl rfl), .inl (.inl rfl), .inl (.inl rfl), .inl (.inl rfl), .inl (.inl rfl), .inl (.inl rfl), trivial⟩ ⟨.inl rfl, trivial⟩ (Nat.le_refl _)) ?_
      refine AW.region ?_
      refine AA.step rfl rfl rfl (AC (BE (ob := .box _ _ _) rfl HU (.inl rfl) (fun _ => rfl) rfl) _) ?_
      refine AA.step rfl rfl rfl (AC (Ao (a := .r (.str x4.Value)) rfl EZ (.inl rfl) rfl rfl) _) ?_
      refine AR h6 fun r2 er2 h7 => ?_
      refine AA.step rfl rfl rfl (Ap (r := .r (.bool r2)) (caps := []) (bs := [.r (.str x4.Value)]) rfl (.inl rfl) rfl ⟨⟨_, (.inl rfl), .d rfl⟩, trivial⟩ (fun _ => JU (er2)) rfl) ?_
      refine AA.step rfl rfl rfl (AC (Bk rfl (.inl rfl)) _) ?_
      refine AA.step rfl rfl rfl (AC (AD rfl (.inl rfl)) _) ?_
      refine AA.stepW (.one rfl rfl rfl) rfl rfl (AC (AD rfl (.inl rfl)) _) ?_
      refine AA.stepW (.one rfl rfl rfl) rfl rfl (AC (AD rfl (.inr ⟨_, (by exact id), rfl⟩)) _) ?_
      refine AA.stepW (.two rfl rfl rfl) rfl rfl (AC (BE (ob := .box _ _ _) rfl HU (.inl rfl) (fun _ => rfl) rfl) _) ?_
      refine AA.stepW (.two rfl rfl rfl) rfl rfl (AC (Ao (a := .r (.str x4.Value)) rfl EZ (.inr ⟨_, (by exact id), rfl⟩) rfl rfl) _) ?_
      refine AA.stepW (.two rfl rfl rfl) rfl rfl (AC (GF rfl (.inr ⟨_, (by exact id), rfl⟩) (.inl rfl)) _) ?_
      refine AA.stepW (.one rfl rfl rfl) rfl rfl (AC (Ad rfl (.inr ⟨_, (by exact id), rfl⟩) (.inr ⟨_, (by exact id), rfl⟩)) _) ?_
      refine AA.stepW (.one rfl rfl rfl) rfl rfl (AC (Bk rfl (.inr ⟨_, (by exact id), rfl⟩)) _) ?_
      refine AA.step rfl rfl rfl (AC (Ad rfl (.inl rfl) (.inr ⟨_, (by exact id), rfl⟩)) _) ?_
      refine AA.step rfl rfl rfl (AC (AI rfl (.inl rfl)) _) ?_
      refine AA.nil ?_
      refine hK11 _ ?_
      refine AW.cond rfl (fun hc3 => ?_) (fun hc3 => ?_)
      · have h8 := AZ hc3 h7
        refine AF fun K12 hK12 wK12 => ?_
        refine AW.weak (s' := ⟨[], [], ((i3 0) + 1), 48⟩) (by exact AM trivial trivial (Nat.le_refl _)) ?_
        refine AW.region ?_
        refine AA.step rfl rfl rfl (AC (AI rfl (.inl rfl)) _) ?_
        refine AA.nil ?_
        refine hK12 _ ?_
        refine AW.ret ?_
        exact Ae (P := Tryd.prog) (fun (r : Int) => .r (.int .i64 r)) (he1 _ (hx1 _ (Option.some.inj h8).symm)) (.inl rfl) (.t (.d rfl))
      · have h8 := Aa hc3 h7
        refine AF fun K13 hK13 wK13 => ?_
        refine Gs FS (by kernel_rfl) ?_
        refine AQ.step rfl rfl rfl (AD rfl (.inl rfl)) ?_
        refine AQ.step rfl rfl rfl (CL rfl (.inl rfl) (.inl rfl)) ?_
        refine AQ.step rfl rfl rfl (AD rfl (.inl rfl)) ?_
        refine AQ.stepW (.one rfl rfl rfl) rfl rfl (BE (ob := .box _ _ _) rfl GK (.inl rfl) (fun _ => rfl) rfl) ?_
        refine AQ.stepW (.one rfl rfl rfl) rfl rfl (Ao (a := .r (.str x4.Name)) rfl EZ (.inr ⟨_, (by exact id), rfl⟩) rfl rfl) ?_
        refine AQ.stepW (.one rfl rfl rfl) rfl rfl (AD rfl (.inl rfl)) ?_
        refine AQ.stepW (.one rfl rfl rfl) rfl rfl (AD rfl (.inl rfl)) ?_
        refine AR h8 fun x5 ex5 h9 => ?_
        refine AQ.stepW (.one rfl rfl rfl) rfl rfl (Fs rfl (.inr ⟨_, (by exact id), rfl⟩) (.inl rfl) (Ak ex5)) ?_
        refine AR h9 fun x6 ex6 h10 => ?_
        refine AQ.stepW (.one rfl rfl rfl) rfl rfl (Ax rfl CJ.slice (.inr ⟨_, (by exact id), rfl⟩) (.inr ⟨_, (by exact id), rfl⟩) (fun _ => rfl) (Ak ex6)) ?_
        refine AQ.stepW (.one rfl rfl rfl) rfl rfl (Bu rfl GK (.inr ⟨_, (by exact id), rfl⟩)) ?_
        refine AQ.stepW (.one rfl rfl rfl) rfl rfl (BS (d := .str x6.Name) rfl EZ (.inr ⟨_, (by exact id), rfl⟩) rfl) ?_
        refine AQ.stepW (.one rfl rfl rfl) rfl rfl (Kb rfl (.inr ⟨_, (by exact id), rfl⟩) (.inr ⟨_, (by exact id), rfl⟩)) ?_
        refine AQ.step rfl rfl rfl (Ad rfl (.inl rfl) (.inr ⟨_, (by exact id), rfl⟩)) ?_
        refine AQ.step rfl rfl rfl (AI rfl (.inl rfl)) ?_
        refine AQ.nil ?_
        refine hK13 _ ?_
        refine AW.cond rfl (fun hc4 => ?_) (fun hc4 => ?_)
        · have h11 := AZ hc4 h10
          refine AF fun K14 hK14 wK14 => ?_
          refine AW.weak (s' := ⟨[], [], ((i3 0) + 1), 48⟩) (by exact AM trivial trivial (Nat.le_refl _)) ?_
          refine AW.region ?_
          refine AA.step rfl rfl rfl (AC (AI rfl (.inl rfl)) _) ?_
          refine AA.nil ?_
          refine hK14 _ ?_
          refine AW.ret ?_
          exact Ae (P := Tryd.prog) (fun (r : Int) => .r (.int .i64 r)) (he1 _ (hx1 _ (Option.some.inj h11).symm)) (.inl rfl) (.t (.d rfl))
        · have h11 := Aa hc4 h10
          refine AW.skip ?_
          refine hK7 _ ?_
          refine AW.weak (s' := ⟨[(0, .r (.sl (l1.map AK.row))), (1, .r (.bool empty1)), (7, .r (.sl (l1.map AK.row))), (8, .r (.int .i64 (l1.length : Int))), (9, .r (.int .i64 x2))], [], ((i3 0) + 1), 48⟩) (by exact AM ⟨.inl (.inl rfl), .inl (.inl rfl), .inl (.inl rfl), .inl (.inl rfl), .inl (.inl rfl), trivial⟩ trivial (Nat.le_refl _)) ?_
          refine AW.region ?_
          refine AR h11 fun x7 ex7 h12 => ?_
          refine AA.step rfl rfl rfl (AC (BB rfl (.inl rfl) (.inl rfl) (fun _ => ex7)) _) ?_
          refine AA.step rfl rfl rfl (AC (AD rfl (.inl rfl)) _) ?_
          refine AA.nil ?_
          exact CP.mk h12 (AU [((i3 0) + 1)]) ((by exact AM ⟨.inl (.inl rfl), .inl (.inl rfl), .inl (.inl rfl), .inl (.inl rfl), .inl (.inl rfl), trivial⟩ trivial (Nat.le_refl _)))
  · have h3 := Aa hc1 h2
    refine AW.exit ?_
    exact wK2 _ _ ((by exact AM trivial trivial (Nat.le_refl _))) (J1 _ (AU [(i3 0)]) (hx1 _ (Option.some.inj h3).symm))
theorem HW {l1 : List AK} {r : Int} (h : DR l1 = some r) : AX Tryd.prog 20 [.r (.sl (l1.map AK.row))] (.r (.int .i64 r)) := by
  unfold DR at h
  refine A8 Tryd.func20 rfl rfl Tryd.ntmps20 rfl (Nat.le_of_ble_eq_true rfl) fun n0 => ?_
  refine AF fun K1 hK1 wK1 => ?_
  refine AW.region ?_
  refine AA.step rfl rfl rfl (AC (AI rfl (.inl rfl)) _) ?_
  refine AA.nil ?_
  refine hK1 _ ?_
  refine AF fun K2 hK2 wK2 => ?_
  refine AW.region ?_
  refine AA.step rfl rfl rfl (AC (AD rfl (.inl rfl)) _) ?_
  refine AR h fun r1 er1 h1 => ?_
  refine AA.step rfl rfl rfl (Ap (r := .r (.int .i64 r1)) (caps := []) (bs := [.r (.sl (l1.map AK.row)), .r (.bool false)]) rfl (.inl rfl) rfl ⟨⟨_, (.inl rfl), .d rfl⟩, ⟨_, (.inl rfl), .d rfl⟩, trivial⟩ (fun _ => Ir (er1)) rfl) ?_
  refine AA.step rfl rfl rfl (AC (AI rfl (.inl rfl)) _) ?_
  refine AA.nil ?_
  refine hK2 _ ?_
  refine AW.ret ?_
  exact Ae (P := Tryd.prog) (fun (r : Int) => .r (.int .i64 r)) h1 (.inl rfl) (.t (.d rfl))
theorem JA {s1 : List UInt8} {r : Int × Int} (h : F4 s1 = some r) : AX Tryd.prog 26 [.r (.str s1)] (.tup [.r (.int .i32 r.1), .r (.int .i64 r.2)]) := by
  unfold F4 at h
  refine A8 Tryd.func26 rfl rfl Tryd.ntmps26 rfl (Nat.le_of_ble_eq_true rfl) fun n0 => ?_
  refine AF fun K1 hK1 wK1 => ?_
  refine AW.region ?_
  refine AA.step rfl rfl rfl (AC (AI rfl (.inl rfl)) _) ?_
  refine AA.step rfl rfl rfl (AC (AI rfl (.inl rfl)) _) ?_
  refine AA.nil ?_
  refine hK1 _ ?_
  refine AF fun K2 hK2 wK2 => ?_
  refine AW.region ?_
  refine AA.step rfl rfl rfl (AC (AD rfl (.inl rfl)) _) ?_
  refine AA.step rfl rfl rfl (AC (Ej rfl Tryd.underlying9 (.inl rfl)) _) ?_
  refine AA.step rfl rfl rfl (AC (AI rfl (.inl rfl)) _) ?_
  refine AA.nil ?_
  refine hK2 _ ?_
  refine AF fun K3 hK3 wK3 => ?_
  refine AF fun K4 hK4 wK4 => ?_
  refine AW.region ?_
  refine AA.step rfl rfl rfl (AC (AD rfl (.inl rfl)) _) ?_
  refine AA.step rfl rfl rfl (AC (Ah rfl (.inl rfl) (.inl rfl)) _) ?_
  refine AA.nil ?_
  refine hK4 _ ?_
  refine AW.cond rfl (fun hc1 => ?_) (fun hc1 => ?_)
  · have h1 := AZ hc1 h
    refine AF fun K5 hK5 wK5 => ?_
    refine AW.region ?_
    refine AA.step rfl rfl rfl (AC (AI rfl (.inl rfl)) _) ?_
    refine AA.step rfl rfl rfl (AC (AI rfl (.inl rfl)) _) ?_
    refine AA.nil ?_
    refine hK5 _ ?_
    refine AW.ret ?_
    exact BY (P := Tryd.prog) (fun (r : Int × Int) => .r (.int .i32 r.1)) (fun (r : Int × Int) => .r (.int .i64 r.2)) h1 (.inl rfl) (.t (.d rfl)) (.t (.d rfl))
  · have h1 := Aa hc1 h
    refine AW.skip ?_
    refine hK3 _ ?_
    refine AF fun K6 hK6 wK6 => ?_
    refine AW.region ?_
    refine AA.step rfl rfl rfl (AC (AD rfl (.inl rfl)) _) ?_
    refine AR h1 fun s01 es01 h2 => ?_
    refine AA.step rfl rfl rfl (AC (Br rfl Tryd.underlying9 (.inl rfl) (.inl rfl) (fun _ => es01)) _) ?_
    refine AA.step rfl rfl rfl (AC (AI rfl (.inl rfl)) _) ?_
    refine AA.nil ?_
    refine hK6 _ ?_
    refine AF fun K7 hK7 wK7 => ?_
    refine AW.region ?_
    refine AA.step rfl rfl rfl (AC (AD rfl (.inl rfl)) _) ?_
    refine AR h2 fun x1 ex1 h3 => ?_
    refine AA.step rfl rfl rfl (AC (Hm (f := (AS .u8)) (l := D8) rfl LH Jc (by kernel_rfl) (.inl rfl) (fun _ => rfl) (by decide) (fun _ => ex1)) _) ?_
    refine AA.step rfl rfl rfl (AC (BS (d := .int .u8 x1) rfl GG (.inl rfl) rfl) _) ?_
    refine AA.step rfl rfl rfl (AC (AI rfl (.inl rfl)) _) ?_
    refine AA.nil ?_
    refine hK7 _ ?_
    refine AF fun K8 hK8 wK8 => ?_
    refine AF fun K9 hK9 wK9 => ?_
    refine AW.weak (s' := ⟨[(0, .r (.str s1)), (4, .r (.int .i64 (s1.length : Int))), (5, .r (.int .u8 (s01.toNat : Int))), (6, .r (.int .u8 x1))], [], n0, 117⟩) (by exact AM ⟨.inl (.inl rfl), .inl (.inl rfl), .inl (.inl rfl), .inl (.inl rfl), trivial⟩ trivial (Nat.le_refl _)) ?_
    refine AW.region ?_
    refine AA.step rfl rfl rfl (AC (AD rfl (.inl rfl)) _) ?_
    refine AA.step rfl rfl rfl (AC (EQ rfl (.inl rfl) (.inl rfl)) _) ?_
    refine AA.nil ?_
    refine hK9 _ ?_
    refine AW.cond rfl (fun hc2 => ?_) (fun hc2 => ?_)
    · have h4 := AZ hc2 h3
      refine AF fun K10 hK10 wK10 => ?_
      refine AW.region ?_
      refine AA.step rfl rfl rfl (AC (AD rfl (.inl rfl)) _) ?_
      refine AA.step rfl rfl rfl (AC (BG rfl Tryd.underlying5 Tryd.underlying21 (.inl rfl)) _) ?_
      refine AA.step rfl rfl rfl (AC (DF (b := 31) rfl (.inl rfl) (.inl rfl)) _) ?_
      refine AA.step rfl rfl rfl (AC (IN (b := 31) rfl (.inl rfl) (.inl rfl)) _) ?_
      refine AA.step rfl rfl rfl (AC (AI rfl (.inl rfl)) _) ?_
      refine AA.nil ?_
      refine hK10 _ ?_
      refine AF fun K11 hK11 wK11 => ?_
      refine AW.weak (s' := ⟨[(0, .r (.str s1)), (7, .r (.int .i32 (C4 .i32 (Bv .i32 (IntKind.i32.wrap x1) 31) 31)))], [], n0, 117⟩) (by exact AM ⟨.inl (.inl rfl), .inl (.inl rfl), trivial⟩ trivial (Nat.le_refl _)) ?_
      refine AW.region ?_
      refine AA.step rfl rfl rfl (AC (AD rfl (.inl rfl)) _) ?_
      refine AA.step rfl rfl rfl (AC (Br rfl Tryd.underlying9 (.inl rfl) (.inl rfl) (fun _ => es01)) _) ?_
      refine AA.step rfl rfl rfl (AC (BG rfl Tryd.underlying5 Tryd.underlying21 (.inl rfl)) _) ?_
      refine AA.step rfl rfl rfl (AC (AD rfl (.inl rfl)) _) ?_
      refine AA.step rfl rfl rfl (AC (LV rfl (.inl rfl) (.inl rfl)) _) ?_
      refine AA.step rfl rfl rfl (AC (AD rfl (.inl rfl)) _) ?_
      refine AA.step rfl rfl rfl (AC (B4 rfl (.inl rfl) (.inl rfl)) _) ?_
      refine AA.step rfl rfl rfl (AC (Cv rfl (.inl rfl) (.inl rfl)) _) ?_
      refine AA.step rfl rfl rfl (AC (AI rfl (.inl rfl)) _) ?_
      refine AA.step rfl rfl rfl (AC (AI rfl (.inl rfl)) _) ?_
      refine AA.nil ?_
      refine hK11 _ ?_
      refine AW.ret ?_
      exact BY (P := Tryd.prog) (fun (r : Int × Int) => .r (.int .i32 r.1)) (fun (r : Int × Int) => .r (.int .i64 r.2)) h4 (.inl rfl) (.t (.d rfl)) (.t (.d rfl))
    · have h4 := Aa hc2 h3
      refine AW.skip ?_
      refine hK8 _ ?_
      refine AF fun K12 hK12 wK12 => ?_
      refine AW.region ?_
      refine AA.step rfl rfl rfl (AC (AD rfl (.inl rfl)) _) ?_
      refine AA.step rfl rfl rfl (AC (B4 rfl (.inl rfl) (.inl rfl)) _) ?_
      refine AA.step rfl rfl rfl (AC (BG rfl Tryd.underlying5 Tryd.underlying3 (.inl rfl)) _) ?_
      refine AA.step rfl rfl rfl (AC (AI rfl (.inl rfl)) _) ?_
      refine AA.nil ?_
      refine hK12 _ ?_
      refine AF fun K13 hK13 wK13 => ?_
      refine AW.region ?_
      refine AA.step rfl rfl rfl (AC (AD rfl (.inl rfl)) _) ?_
      refine AA.step rfl rfl rfl (AC (IN (b := 4) rfl (.inl rfl) (.inl rfl)) _) ?_
      refine AR h4 fun x2 ex2 h5 => ?_
      refine AA.step rfl rfl rfl (AC (Hm (f := Cp.row) (l := GI) rfl Kh Je (by kernel_rfl) (.inl rfl) (fun _ => rfl) (by decide) (fun _ => ex2)) _) ?_
      refine AA.step rfl rfl rfl (AC (CW (cs := [.r (.int .u8 x2.lo), .r (.int .u8 x2.hi)]) rfl Kr (.inl rfl) rfl rfl) _) ?_
      refine AA.step rfl rfl rfl (DY (cs := [.r (.int .u8 0), .r (.int .u8 0)]) 9 rfl KT rfl rfl) ?_
      refine Du rfl rfl (Df (ds := [.r (.int .u8 x2.lo), .r (.int .u8 x2.hi)]) rfl LD (.inl rfl) rfl (.inl rfl) rfl rfl rfl rfl) ?_
      refine AA.nil ?_
      refine hK13 _ ?_
      refine AF fun K14 hK14 wK14 => ?_
      refine AF fun K15 hK15 wK15 => ?_
      refine AW.weak (s' := ⟨[(0, .r (.str s1)), (4, .r (.int .i64 (s1.length : Int))), (5, .r (.int .u8 (s01.toNat : Int))), (8, .r (.int .i64 (IntKind.i64.wrap (A9 .u8 x1 7)))), (9, .ptr 9 n0 0 0)], [(9, some (.box n0 70 [.r (.int .u8 x2.lo), .r (.int .u8 x2.hi)]))], (n0 + 1), 117⟩) (by exact AM ⟨.inl (.inl rfl), .inl (.inl rfl), .inl (.inl rfl), .inl (.inl rfl), .inl (.inl rfl), trivial⟩ ⟨.inl rfl, trivial⟩ (Nat.le_refl _)) ?_
      refine AW.region ?_
      refine AA.step rfl rfl rfl (AC (AD rfl (.inl rfl)) _) ?_
      refine AA.step rfl rfl rfl (AC (AD rfl (.inl rfl)) _) ?_
      refine AA.step rfl rfl rfl (AC (Ah rfl (.inl rfl) (.inl rfl)) _) ?_
      refine AA.nil ?_
      refine hK15 _ ?_
      refine AW.cond rfl (fun hc3 => ?_) (fun hc3 => ?_)
      · have h6 := AZ hc3 h5
        refine AF fun K16 hK16 wK16 => ?_
        refine AW.region ?_
        refine AA.step rfl rfl rfl (AC (AI rfl (.inl rfl)) _) ?_
        refine AA.step rfl rfl rfl (AC (AI rfl (.inl rfl)) _) ?_
        refine AA.nil ?_
        refine hK16 _ ?_
        refine AW.ret ?_
        exact BY (P := Tryd.prog) (fun (r : Int × Int) => .r (.int .i32 r.1)) (fun (r : Int × Int) => .r (.int .i64 r.2)) h6 (.inl rfl) (.t (.d rfl)) (.t (.d rfl))
      · have h6 := Aa hc3 h5
        refine AW.skip ?_
        refine hK14 _ ?_
        refine AF fun K17 hK17 wK17 => ?_
        refine AW.region ?_
        refine AA.step rfl rfl rfl (AC (AD rfl (.inl rfl)) _) ?_
        refine AR h6 fun s11 es11 h7 => ?_
        refine AA.step rfl rfl rfl (AC (Br rfl Tryd.underlying9 (.inl rfl) (.inl rfl) (fun _ => es11)) _) ?_
        refine AA.step rfl rfl rfl (AC (AI rfl (.inl rfl)) _) ?_
        refine AA.nil ?_
        refine hK17 _ ?_
        refine AF fun K18 hK18 wK18 => ?_
        refine AF fun K19 hK19 wK19 => ?_
        refine AW.region ?_
        refine AA.step rfl rfl rfl (AC (AD rfl (.inl rfl)) _) ?_
        refine AA.step rfl rfl rfl (AC (BE (ob := .box _ _ _) rfl KN (.inl rfl) (fun _ => rfl) rfl) _) ?_
        refine AA.step rfl rfl rfl (AC (Ao (a := .r (.int .u8 x2.lo)) rfl GG (.inl rfl) rfl rfl) _) ?_
        refine AA.step rfl rfl rfl (AC (Ah rfl (.inl rfl) (.inl rfl)) _) ?_
        refine AA.step rfl rfl rfl (AC (AD rfl (.inl rfl)) _) ?_
        refine AA.stepW (.one rfl rfl rfl) rfl rfl (AC (BE (ob := .box _ _ _) rfl LX (.inl rfl) (fun _ => rfl) rfl) _) ?_
        refine AA.stepW (.one rfl rfl rfl) rfl rfl (AC (Ao (a := .r (.int .u8 x2.hi)) rfl GG (.inr ⟨_, (by exact id), rfl⟩) rfl rfl) _) ?_
        refine AA.stepW (.one rfl rfl rfl) rfl rfl (AC (AD rfl (.inl rfl)) _) ?_
        refine AA.stepW (.one rfl rfl rfl) rfl rfl (AC (Ah rfl (.inr ⟨_, (by exact id), rfl⟩) (.inr ⟨_, (by exact id), rfl⟩)) _) ?_
        refine AA.step rfl rfl rfl (AC (As rfl (.inl rfl) (.inr ⟨_, (by exact id), rfl⟩)) _) ?_
        refine AA.nil ?_
        refine hK19 _ ?_
        refine AW.cond rfl (fun hc4 => ?_) (fun hc4 => ?_)
        · have h8 := AZ hc4 h7
          refine AF fun K20 hK20 wK20 => ?_
          refine AW.weak (s' := ⟨[], [], (n0 + 1), 117⟩) (by exact AM trivial trivial (Nat.le_refl _)) ?_
          refine AW.region ?_
          refine AA.step rfl rfl rfl (AC (AI rfl (.inl rfl)) _) ?_
          refine AA.step rfl rfl rfl (AC (AI rfl (.inl rfl)) _) ?_
          refine AA.nil ?_
          refine hK20 _ ?_
          refine AW.ret ?_
          exact BY (P := Tryd.prog) (fun (r : Int × Int) => .r (.int .i32 r.1)) (fun (r : Int × Int) => .r (.int .i64 r.2)) h8 (.inl rfl) (.t (.d rfl)) (.t (.d rfl))
        · have h8 := Aa hc4 h7
          refine AW.skip ?_
          refine hK18 _ ?_
          refine AF fun K21 hK21 wK21 => ?_
          refine AF fun K22 hK22 wK22 => ?_
          refine AW.weak (s' := ⟨[(0, .r (.str s1)), (5, .r (.int .u8 (s01.toNat : Int))), (8, .r (.int .i64 (IntKind.i64.wrap (A9 .u8 x1 7)))), (10, .r (.int .u8 (s11.toNat : Int)))], [], (n0 + 1), 117⟩) (by exact AM ⟨.inl (.inl rfl), .inl (.inl rfl), .inl (.inl rfl), .inl (.inl rfl), trivial⟩ trivial (Nat.le_refl _)) ?_
          refine AW.region ?_
          refine AA.step rfl rfl rfl (AC (AD rfl (.inl rfl)) _) ?_
          refine AA.step rfl rfl rfl (AC (FY rfl (.inl rfl) (.inl rfl)) _) ?_
          refine AA.nil ?_
          refine hK22 _ ?_
          refine AW.cond rfl (fun hc5 => ?_) (fun hc5 => ?_)
          · have h9 := AZ hc5 h8
            refine AF fun K23 hK23 wK23 => ?_
            refine AW.region ?_
            refine AA.step rfl rfl rfl (AC (AD rfl (.inl rfl)) _) ?_
            refine AA.step rfl rfl rfl (AC (B4 rfl (.inl rfl) (.inl rfl)) _) ?_
            refine AA.step rfl rfl rfl (AC (BG rfl Tryd.underlying5 Tryd.underlying21 (.inl rfl)) _) ?_
            refine AA.step rfl rfl rfl (AC (DF (b := 6) rfl (.inl rfl) (.inl rfl)) _) ?_
            refine AA.step rfl rfl rfl (AC (AD rfl (.inl rfl)) _) ?_
            refine AA.step rfl rfl rfl (AC (B4 rfl (.inl rfl) (.inl rfl)) _) ?_
            refine AA.step rfl rfl rfl (AC (BG rfl Tryd.underlying5 Tryd.underlying21 (.inl rfl)) _) ?_
            refine AA.step rfl rfl rfl (AC (Cv rfl (.inl rfl) (.inl rfl)) _) ?_
            refine AA.step rfl rfl rfl (AC (AI rfl (.inl rfl)) _) ?_
            refine AA.step rfl rfl rfl (AC (AI rfl (.inl rfl)) _) ?_
            refine AA.nil ?_
            refine hK23 _ ?_
            refine AW.ret ?_
            exact BY (P := Tryd.prog) (fun (r : Int × Int) => .r (.int .i32 r.1)) (fun (r : Int × Int) => .r (.int .i64 r.2)) h9 (.inl rfl) (.t (.d rfl)) (.t (.d rfl))
          · have h9 := Aa hc5 h8
            refine AW.skip ?_
            refine hK21 _ ?_
            refine AF fun K24 hK24 wK24 => ?_
            refine AW.region ?_
            refine AA.step rfl rfl rfl (AC (AD rfl (.inl rfl)) _) ?_
            refine AR h9 fun s21 es21 h10 => ?_
            refine AA.step rfl rfl rfl (AC (Br rfl Tryd.underlying9 (.inl rfl) (.inl rfl) (fun _ => es21)) _) ?_
            refine AA.step rfl rfl rfl (AC (AI rfl (.inl rfl)) _) ?_
            refine AA.nil ?_
            refine hK24 _ ?_
            refine AF fun K25 hK25 wK25 => ?_
            refine AF fun K26 hK26 wK26 => ?_
            refine AW.region ?_
            refine AA.step rfl rfl rfl (AC (AD rfl (.inl rfl)) _) ?_
            refine AA.step rfl rfl rfl (AC (Ah rfl (.inl rfl) (.inl rfl)) _) ?_
            refine AA.step rfl rfl rfl (AC (AD rfl (.inl rfl)) _) ?_
            refine AA.stepW (.one rfl rfl rfl) rfl rfl (AC (AD rfl (.inl rfl)) _) ?_
            refine AA.stepW (.one rfl rfl rfl) rfl rfl (AC (Ah rfl (.inl rfl) (.inr ⟨_, (by exact id), rfl⟩)) _) ?_
            refine AA.step rfl rfl rfl (AC (As rfl (.inl rfl) (.inr ⟨_, (by exact id), rfl⟩)) _) ?_
            refine AA.nil ?_
            refine hK26 _ ?_
            refine AW.cond rfl (fun hc6 => ?_) (fun hc6 => ?_)
            · have h11 := AZ hc6 h10
              refine AF fun K27 hK27 wK27 => ?_
              refine AW.weak (s' := ⟨[], [], (n0 + 1), 117⟩) (by exact AM trivial trivial (Nat.le_refl _)) ?_
              refine AW.region ?_
              refine AA.step rfl rfl rfl (AC (AI rfl (.inl rfl)) _) ?_
              refine AA.step rfl rfl rfl (AC (AI rfl (.inl rfl)) _) ?_
              refine AA.nil ?_
              refine hK27 _ ?_
              refine AW.ret ?_
              exact BY (P := Tryd.prog) (fun (r : Int × Int) => .r (.int .i32 r.1)) (fun (r : Int × Int) => .r (.int .i64 r.2)) h11 (.inl rfl) (.t (.d rfl)) (.t (.d rfl))
            · have h11 := Aa hc6 h10
              refine AW.skip ?_
              refine hK25 _ ?_
              refine AF fun K28 hK28 wK28 => ?_
              refine AF fun K29 hK29 wK29 => ?_
              refine AW.weak (s' := ⟨[(0, .r (.str s1)), (5, .r (.int .u8 (s01.toNat : Int))), (8, .r (.int .i64 (IntKind.i64.wrap (A9 .u8 x1 7)))), (10, .r (.int .u8 (s11.toNat : Int))), (11, .r (.int .u8 (s21.toNat : Int)))], [], (n0 + 1), 117⟩) (by exact AM ⟨.inl (.inl rfl), .inl (.inl rfl), .inl (.inl rfl), .inl (.inl rfl), .inl (.inl rfl), trivial⟩ trivial (Nat.le_refl _)) ?_
              refine AW.region ?_
              refine AA.step rfl rfl rfl (AC (AD rfl (.inl rfl)) _) ?_
              refine AA.step rfl rfl rfl (AC (FY rfl (.inl rfl) (.inl rfl)) _) ?_
              refine AA.nil ?_
              refine hK29 _ ?_
              refine AW.cond rfl (fun hc7 => ?_) (fun hc7 => ?_)
              · have h12 := AZ hc7 h11
                refine AF fun K30 hK30 wK30 => ?_
                refine AW.region ?_
                refine AA.step rfl rfl rfl (AC (AD rfl (.inl rfl)) _) ?_
                refine AA.step rfl rfl rfl (AC (B4 rfl (.inl rfl) (.inl rfl)) _) ?_
                refine AA.step rfl rfl rfl (AC (BG rfl Tryd.underlying5 Tryd.underlying21 (.inl rfl)) _) ?_
                refine AA.step rfl rfl rfl (AC (DF (b := 12) rfl (.inl rfl) (.inl rfl)) _) ?_
                refine AA.step rfl rfl rfl (AC (AD rfl (.inl rfl)) _) ?_
                refine AA.step rfl rfl rfl (AC (B4 rfl (.inl rfl) (.inl rfl)) _) ?_
                refine AA.step rfl rfl rfl (AC (BG rfl Tryd.underlying5 Tryd.underlying21 (.inl rfl)) _) ?_
                refine AA.step rfl rfl rfl (AC (DF (b := 6) rfl (.inl rfl) (.inl rfl)) _) ?_
                refine AA.step rfl rfl rfl (AC (Cv rfl (.inl rfl) (.inl rfl)) _) ?_
                refine AA.step rfl rfl rfl (AC (AD rfl (.inl rfl)) _) ?_
                refine AA.step rfl rfl rfl (AC (B4 rfl (.inl rfl) (.inl rfl)) _) ?_
                refine AA.step rfl rfl rfl (AC (BG rfl Tryd.underlying5 Tryd.underlying21 (.inl rfl)) _) ?_
                refine AA.step rfl rfl rfl (AC (Cv rfl (.inl rfl) (.inl rfl)) _) ?_
                refine AA.step rfl rfl rfl (AC (AI rfl (.inl rfl)) _) ?_
                refine AA.step rfl rfl rfl (AC (AI rfl (.inl rfl)) _) ?_
                refine AA.nil ?_
                refine hK30 _ ?_
                refine AW.ret ?_
                exact BY (P := Tryd.prog) (fun (r : Int × Int) => .r (.int .i32 r.1)) (fun (r : Int × Int) => .r (.int .i64 r.2)) h12 (.inl rfl) (.t (.d rfl)) (.t (.d rfl))
              · have h12 := Aa hc7 h11
                refine AW.skip ?_
                refine hK28 _ ?_
                refine AF fun K31 hK31 wK31 => ?_
                refine AW.region ?_
                refine AA.step rfl rfl rfl (AC (AD rfl (.inl rfl)) _) ?_
                refine AR h12 fun s31 es31 h13 => ?_
                refine AA.step rfl rfl rfl (AC (Br rfl Tryd.underlying9 (.inl rfl) (.inl rfl) (fun _ => es31)) _) ?_
                refine AA.step rfl rfl rfl (AC (AI rfl (.inl rfl)) _) ?_
                refine AA.nil ?_
                refine hK31 _ ?_
                refine AF fun K32 hK32 wK32 => ?_
                refine AF fun K33 hK33 wK33 => ?_
                refine AW.region ?_
                refine AA.step rfl rfl rfl (AC (AD rfl (.inl rfl)) _) ?_
                refine AA.step rfl rfl rfl (AC (Ah rfl (.inl rfl) (.inl rfl)) _) ?_
                refine AA.step rfl rfl rfl (AC (AD rfl (.inl rfl)) _) ?_
                refine AA.stepW (.one rfl rfl rfl) rfl rfl (AC (AD rfl (.inl rfl)) _) ?_
                refine AA.stepW (.one rfl rfl rfl) rfl rfl (AC (Ah rfl (.inl rfl) (.inr ⟨_, (by exact id), rfl⟩)) _) ?_
                refine AA.step rfl rfl rfl (AC (As rfl (.inl rfl) (.inr ⟨_, (by exact id), rfl⟩)) _) ?_
                refine AA.nil ?_
                refine hK33 _ ?_
                refine AW.cond rfl (fun hc8 => ?_) (fun hc8 => ?_)
                · have h14 := AZ hc8 h13
                  refine AF fun K34 hK34 wK34 => ?_
                  refine AW.weak (s' := ⟨[], [], (n0 + 1), 117⟩) (by exact AM trivial trivial (Nat.le_refl _)) ?_
                  refine AW.region ?_
                  refine AA.step rfl rfl rfl (AC (AI rfl (.inl rfl)) _) ?_
                  refine AA.step rfl rfl rfl (AC (AI rfl (.inl rfl)) _) ?_
                  refine AA.nil ?_
                  refine hK34 _ ?_
                  refine AW.ret ?_
                  exact BY (P := Tryd.prog) (fun (r : Int × Int) => .r (.int .i32 r.1)) (fun (r : Int × Int) => .r (.int .i64 r.2)) h14 (.inl rfl) (.t (.d rfl)) (.t (.d rfl))
                · have h14 := Aa hc8 h13
                  refine AW.skip ?_
                  refine hK32 _ ?_
                  refine AF fun K35 hK35 wK35 => ?_
                  refine AW.weak (s' := ⟨[(5, .r (.int .u8 (s01.toNat : Int))), (10, .r (.int .u8 (s11.toNat : Int))), (11, .r (.int .u8 (s21.toNat : Int))), (12, .r (.int .u8 (s31.toNat : Int)))], [], (n0 + 1), 117⟩) (by exact AM ⟨.inl (.inl rfl), .inl (.inl rfl), .inl (.inl rfl), .inl (.inl rfl), trivial⟩ trivial (Nat.le_refl _)) ?_
                  refine AW.region ?_
                  refine AA.step rfl rfl rfl (AC (AD rfl (.inl rfl)) _) ?_
                  refine AA.step rfl rfl rfl (AC (B4 rfl (.inl rfl) (.inl rfl)) _) ?_
                  refine AA.step rfl rfl rfl (AC (BG rfl Tryd.underlying5 Tryd.underlying21 (.inl rfl)) _) ?_
                  refine AA.step rfl rfl rfl (AC (DF (b := 18) rfl (.inl rfl) (.inl rfl)) _) ?_
                  refine AA.step rfl rfl rfl (AC (AD rfl (.inl rfl)) _) ?_
                  refine AA.step rfl rfl rfl (AC (B4 rfl (.inl rfl) (.inl rfl)) _) ?_
                  refine AA.step rfl rfl rfl (AC (BG rfl Tryd.underlying5 Tryd.underlying21 (.inl rfl)) _) ?_
                  refine AA.step rfl rfl rfl (AC (DF (b := 12) rfl (.inl rfl) (.inl rfl)) _) ?_
                  refine AA.step rfl rfl rfl (AC (Cv rfl (.inl rfl) (.inl rfl)) _) ?_
                  refine AA.step rfl rfl rfl (AC (AD rfl (.inl rfl)) _) ?_
                  refine AA.step rfl rfl rfl (AC (B4 rfl (.inl rfl) (.inl rfl)) _) ?_
                  refine AA.step rfl rfl rfl (AC (BG rfl Tryd.underlying5 Tryd.underlying21 (.inl rfl)) _) ?_
                  refine AA.step rfl rfl rfl (AC (DF (b := 6) rfl (.inl rfl) (.inl rfl)) _) ?_
                  refine AA.step rfl rfl rfl (AC (Cv rfl (.inl rfl) (.inl rfl)) _) ?_
                  refine AA.step rfl rfl rfl (AC (AD rfl (.inl rfl)) _) ?_
                  refine AA.step rfl rfl rfl (AC (B4 rfl (.inl rfl) (.inl rfl)) _) ?_
                  refine AA.step rfl rfl rfl (AC (BG rfl Tryd.underlying5 Tryd.underlying21 (.inl rfl)) _) ?_
                  refine AA.step rfl rfl rfl (AC (Cv rfl (.inl rfl) (.inl rfl)) _) ?_
                  refine AA.step rfl rfl rfl (AC (AI rfl (.inl rfl)) _) ?_
                  refine AA.step rfl rfl rfl (AC (AI rfl (.inl rfl)) _) ?_
                  refine AA.nil ?_
                  refine hK35 _ ?_
                  refine AW.ret ?_
                  exact BY (P := Tryd.prog) (fun (r : Int × Int) => .r (.int .i32 r.1)) (fun (r : Int × Int) => .r (.int .i64 r.2)) h14 (.inl rfl) (.t (.d rfl)) (.t (.d rfl))
theorem I3 {s1 : List UInt8} {r : Int × Int} (h : Ee s1 = some r) : AX Tryd.prog 21 [.r (.str s1)] (.tup [.r (.int .i32 r.1), .r (.int .i64 r.2)]) := by
  unfold Ee at h
  refine A8 Tryd.func21 rfl rfl Tryd.ntmps21 rfl (Nat.le_of_ble_eq_true rfl) fun n0 => ?_
  refine AF fun K1 hK1 wK1 => ?_
  refine AW.region ?_
  refine AA.step rfl rfl rfl (AC (AI rfl (.inl rfl)) _) ?_
  refine AA.step rfl rfl rfl (AC (AI rfl (.inl rfl)) _) ?_
  refine AA.nil ?_
  refine hK1 _ ?_
  refine AF fun K2 hK2 wK2 => ?_
  refine AF fun K3 hK3 wK3 => ?_
  refine AW.region ?_
  refine AA.step rfl rfl rfl (AC (AD rfl (.inl rfl)) _) ?_
  refine AA.step rfl rfl rfl (AC (H2 rfl (.inl rfl) (.inl rfl)) _) ?_
  refine AA.step rfl rfl rfl (AC (AD rfl (.inl rfl)) _) ?_
  refine AA.stepW (.one rfl rfl rfl) rfl rfl (AC (AD rfl (.inl rfl)) _) ?_
  refine AR h fun ch1 ech1 h1 => ?_
  refine AA.stepW (.one rfl rfl rfl) rfl rfl (AC (Br rfl Tryd.underlying9 (.inr ⟨_, (by exact id), rfl⟩) (.inl rfl) (Ak ech1)) _) ?_
  refine AA.stepW (.one rfl rfl rfl) rfl rfl (AC (Ah rfl (.inr ⟨_, (by exact id), rfl⟩) (.inl rfl)) _) ?_
  refine AA.step rfl rfl rfl (AC (Ad rfl (.inl rfl) (.inr ⟨_, (by exact id), rfl⟩)) _) ?_
  refine AA.nil ?_
  refine hK3 _ ?_
  refine AW.cond rfl (fun hc1 => ?_) (fun hc1 => ?_)
  · have h2 := AZ hc1 h1
    refine AF fun K4 hK4 wK4 => ?_
    refine AW.weak (s' := ⟨[(0, .r (.str s1))], [], n0, 19⟩) (by exact AM ⟨.inl (.inl rfl), trivial⟩ trivial (Nat.le_refl _)) ?_
    refine AW.region ?_
    refine AA.step rfl rfl rfl (AC (AD rfl (.inl rfl)) _) ?_
    refine AR h2 fun ch2 ech2 h3 => ?_
    refine AA.step rfl rfl rfl (AC (Br rfl Tryd.underlying9 (.inl rfl) (.inl rfl) (fun _ => ech2)) _) ?_
    refine AA.step rfl rfl rfl (AC (BG rfl Tryd.underlying5 Tryd.underlying21 (.inl rfl)) _) ?_
    refine AA.step rfl rfl rfl (AC (AI rfl (.inl rfl)) _) ?_
    refine AA.step rfl rfl rfl (AC (AI rfl (.inl rfl)) _) ?_
    refine AA.nil ?_
    refine hK4 _ ?_
    refine AW.ret ?_
    exact BY (P := Tryd.prog) (fun (r : Int × Int) => .r (.int .i32 r.1)) (fun (r : Int × Int) => .r (.int .i64 r.2)) h3 (.inl rfl) (.t (.d rfl)) (.t (.d rfl))
  · have h2 := Aa hc1 h1
    refine AW.weak (s' := ⟨[(0, .r (.str s1))], [], n0, 19⟩) (by exact AM ⟨.inl (.inl rfl), trivial⟩ trivial (Nat.le_refl _)) ?_
    refine AW.region ?_
    refine AA.step rfl rfl rfl (AC (AD rfl (.inl rfl)) _) ?_
    refine F5 h2 fun r1 r2 er1 h4 => ?_
    refine AA.step rfl rfl rfl (Ap (r := .tup [.r (.int .i32 r1), .r (.int .i64 r2)]) (caps := []) (bs := [.r (.str s1)]) rfl (.inl rfl) rfl ⟨⟨_, (.inl rfl), .d rfl⟩, trivial⟩ (fun _ => JA (er1)) rfl) ?_
    refine AA.step rfl rfl rfl (AC (AD rfl (.inl rfl)) _) ?_
    refine AA.step rfl rfl rfl (AC (Dm (a := .r (.int .i32 r1)) rfl (.inl rfl) rfl) _) ?_
    refine AA.step rfl rfl rfl (AC (Dm (a := .r (.int .i64 r2)) rfl (.inl rfl) rfl) _) ?_
    refine AA.step rfl rfl rfl (AC (AI rfl (.inl rfl)) _) ?_
    refine AA.step rfl rfl rfl (AC (AI rfl (.inl rfl)) _) ?_
    refine AA.nil ?_
    refine hK2 _ ?_
    refine AW.ret ?_
    exact BY (P := Tryd.prog) (fun (r : Int × Int) => .r (.int .i32 r.1)) (fun (r : Int × Int) => .r (.int .i64 r.2)) h4 (.inl rfl) (.t (.d rfl)) (.t (.d rfl))
theorem GJ {c1 : Int} {r : Bool} (h : C8 c1 = some r) : AX Tryd.prog 15 [.r (.int .i64 c1)] (.r (.bool r)) := by
  unfold C8 at h
  refine A8 Tryd.func15 rfl rfl Tryd.ntmps15 rfl (Nat.le_of_ble_eq_true rfl) fun n0 => ?_
  refine AF fun K1 hK1 wK1 => ?_
  refine AW.region ?_
  refine AA.step rfl rfl rfl (AC (AI rfl (.inl rfl)) _) ?_
  refine AA.nil ?_
  refine hK1 _ ?_
  refine AF fun K2 hK2 wK2 => ?_
  refine AW.region ?_
  refine AA.step rfl rfl rfl (AC (AD rfl (.inl rfl)) _) ?_
  refine AA.step rfl rfl rfl (AC (BF rfl (.inl rfl) (.inl rfl)) _) ?_
  refine AA.step rfl rfl rfl (AC (AD rfl (.inl rfl)) _) ?_
  refine AA.stepW (.one rfl rfl rfl) rfl rfl (AC (AD rfl (.inl rfl)) _) ?_
  refine AA.stepW (.one rfl rfl rfl) rfl rfl (AC (BF rfl (.inr ⟨_, (by exact id), rfl⟩) (.inl rfl)) _) ?_
  refine AA.step rfl rfl rfl (AC (As rfl (.inl rfl) (.inr ⟨_, (by exact id), rfl⟩)) _) ?_
  refine AA.step rfl rfl rfl (AC (AD rfl (.inl rfl)) _) ?_
  refine AA.stepW (.one rfl rfl rfl) rfl rfl (AC (AD rfl (.inl rfl)) _) ?_
  refine AA.stepW (.one rfl rfl rfl) rfl rfl (AC (EQ rfl (.inr ⟨_, (by exact id), rfl⟩) (.inl rfl)) _) ?_
  refine AA.stepW (.one rfl rfl rfl) rfl rfl (AC (AD rfl (.inr ⟨_, (by exact id), rfl⟩)) _) ?_
  refine AA.stepW (.two rfl rfl rfl) rfl rfl (AC (AD rfl (.inl rfl)) _) ?_
  refine AA.stepW (.two rfl rfl rfl) rfl rfl (AC (Ah rfl (.inr ⟨_, (by exact id), rfl⟩) (.inl rfl)) _) ?_
  refine AA.stepW (.one rfl rfl rfl) rfl rfl (AC (Ad rfl (.inr ⟨_, (by exact id), rfl⟩) (.inr ⟨_, (by exact id), rfl⟩)) _) ?_
  refine AA.step rfl rfl rfl (AC (As rfl (.inl rfl) (.inr ⟨_, (by exact id), rfl⟩)) _) ?_
  refine AA.step rfl rfl rfl (AC (AD rfl (.inl rfl)) _) ?_
  refine AA.stepW (.one rfl rfl rfl) rfl rfl (AC (AD rfl (.inl rfl)) _) ?_
  refine AA.stepW (.one rfl rfl rfl) rfl rfl (AC (EQ rfl (.inr ⟨_, (by exact id), rfl⟩) (.inl rfl)) _) ?_
  refine AA.stepW (.one rfl rfl rfl) rfl rfl (AC (AD rfl (.inr ⟨_, (by exact id), rfl⟩)) _) ?_
  refine AA.stepW (.two rfl rfl rfl) rfl rfl (AC (AD rfl (.inl rfl)) _) ?_
  refine AA.stepW (.two rfl rfl rfl) rfl rfl (AC (Ah rfl (.inr ⟨_, (by exact id), rfl⟩) (.inl rfl)) _) ?_
  refine AA.stepW (.one rfl rfl rfl) rfl rfl (AC (Ad rfl (.inr ⟨_, (by exact id), rfl⟩) (.inr ⟨_, (by exact id), rfl⟩)) _) ?_
  refine AA.step rfl rfl rfl (AC (As rfl (.inl rfl) (.inr ⟨_, (by exact id), rfl⟩)) _) ?_
  refine AA.step rfl rfl rfl (AC (AD rfl (.inl rfl)) _) ?_
  refine AA.stepW (.one rfl rfl rfl) rfl rfl (AC (AD rfl (.inl rfl)) _) ?_
  refine AA.stepW (.one rfl rfl rfl) rfl rfl (AC (CL rfl (.inr ⟨_, (by exact id), rfl⟩) (.inl rfl)) _) ?_
  refine AA.stepW (.one rfl rfl rfl) rfl rfl (AC (AD rfl (.inr ⟨_, (by exact id), rfl⟩)) _) ?_
  refine AA.stepW (.two rfl rfl rfl) rfl rfl (AC (AD rfl (.inl rfl)) _) ?_
  refine AA.stepW (.two rfl rfl rfl) rfl rfl (AC (FY rfl (.inr ⟨_, (by exact id), rfl⟩) (.inl rfl)) _) ?_
  refine AA.stepW (.one rfl rfl rfl) rfl rfl (AC (Ad rfl (.inr ⟨_, (by exact id), rfl⟩) (.inr ⟨_, (by exact id), rfl⟩)) _) ?_
  refine AA.step rfl rfl rfl (AC (As rfl (.inl rfl) (.inr ⟨_, (by exact id), rfl⟩)) _) ?_
  refine AA.step rfl rfl rfl (AC (AI rfl (.inl rfl)) _) ?_
  refine AA.nil ?_
  refine hK2 _ ?_
  refine AW.ret ?_
  exact Ae (P := Tryd.prog) (fun (r : Bool) => .r (.bool r)) h (.inl rfl) (.t (.d rfl))
theorem KX {s1 : List UInt8} {attrs1 : List AK} {r : (List AE) × Int} (h : EA s1 attrs1 = some r) : AX Tryd.prog 9 [.r (.str s1), .r (.sl (attrs1.map AK.row))] (.tup [.r (.sl (r.1.map AE.row)), .r (.int .i64 r.2)]) := by
  unfold EA at h
  refine A8 Tryd.func9 rfl rfl Tryd.ntmps9 rfl (Nat.le_of_ble_eq_true rfl) fun n0 => ?_
  refine AF fun K1 hK1 wK1 => ?_
  refine AW.region ?_
  refine AA.step rfl rfl rfl (AC (AI rfl (.inl rfl)) _) ?_
  refine AA.step rfl rfl rfl (AC (AI rfl (.inl rfl)) _) ?_
  refine AA.nil ?_
  refine hK1 _ ?_
  refine AF fun K2 hK2 wK2 => ?_
  refine AF fun K3 hK3 wK3 => ?_
  refine AW.region ?_
  refine AA.step rfl rfl rfl (AC (AD rfl (.inl rfl)) _) ?_
  refine AR h fun e1 ee1 h1 => ?_
  refine AA.step rfl rfl rfl (Ap (r := .r (.int .i64 e1)) (caps := []) (bs := [.r (.sl (attrs1.map AK.row))]) rfl (.inl rfl) rfl ⟨⟨_, (.inl rfl), .d rfl⟩, trivial⟩ (fun _ => HW (ee1)) rfl) ?_
  refine AA.step rfl rfl rfl (AC (AI rfl (.inl rfl)) _) ?_
  refine AA.nil ?_
  refine hK3 _ ?_
  refine AF fun K4 hK4 wK4 => ?_
  refine AW.region ?_
  refine AA.step rfl rfl rfl (AC (AD rfl (.inl rfl)) _) ?_
  refine AA.step rfl rfl rfl (AC (Bb rfl (.inl rfl) (.inl rfl)) _) ?_
  refine AA.nil ?_
  refine hK4 _ ?_
  refine AW.cond rfl (fun hc1 => ?_) (fun hc1 => ?_)
  · have h2 := AZ hc1 h1
    refine AF fun K5 hK5 wK5 => ?_
    refine AW.region ?_
    refine AA.step rfl rfl rfl (AC (AD rfl (.inl rfl)) _) ?_
    refine AA.step rfl rfl rfl (AC (AI rfl (.inl rfl)) _) ?_
    refine AA.step rfl rfl rfl (AC (AI rfl (.inl rfl)) _) ?_
    refine AA.nil ?_
    refine hK5 _ ?_
    refine AW.ret ?_
    exact BY (P := Tryd.prog) (fun (r : (List AE) × Int) => .r (.sl (r.1.map AE.row))) (fun (r : (List AE) × Int) => .r (.int .i64 r.2)) h2 (.inl rfl) (.t (.one (.nil))) (.t (.d rfl))
  · have h2 := Aa hc1 h1
    refine AW.skip ?_
    refine hK2 _ ?_
    refine AF fun K6 hK6 wK6 => ?_
    refine AW.region ?_
    refine AA.step rfl rfl rfl (AC (AI rfl (.inl rfl)) _) ?_
    refine AA.nil ?_
    refine hK6 _ ?_
    refine AF fun K7 hK7 wK7 => ?_
    refine AW.block ?_
    refine Cd h2 fun o1 hit1 hk1 he1 => ?_
    have J1 : ∀ (out4 : List AE) (i5 : Nat → Nat), o1 = .nrm out4 → K7 ⟨[(7, .own 5007 (i5 0))], [(5007, some (.arr (i5 0) 30 3 (out4.map AE.row)))], (i5 1), 44⟩ := by
      intro out4 i5 e
      have h3 := hk1 _ e
      refine hK7 _ ?_
      refine AF fun K8 hK8 wK8 => ?_
      refine AW.region ?_
      refine AA.step rfl rfl rfl (AC (AD rfl (.inl rfl)) _) ?_
      refine AA.step rfl rfl rfl (AC (AI rfl (.inl rfl)) _) ?_
      refine AA.step rfl rfl rfl (AC (AI rfl (.inl rfl)) _) ?_
      refine AA.nil ?_
      refine hK8 _ ?_
      refine AW.ret ?_
      exact BY (P := Tryd.prog) (fun (r : (List AE) × Int) => .r (.sl (r.1.map AE.row))) (fun (r : (List AE) × Int) => .r (.int .i64 r.2)) h3 (.inl rfl) (.t (.one (.own rfl))) (.t (.d rfl))
    refine In (fun (s3 : List UInt8) (out2 : List AE) i3 => ⟨[(0, .r (.str s3)), (1, .r (.sl (attrs1.map AK.row))), (7, .own 5007 (i3 0))], [(5007, some (.arr (i3 0) 30 3 (out2.map AE.row)))], (i3 1), 44⟩) (AU [n0, (n0 + 1)]) hit1 (AG.trans (AG.trans (Gt 7 5007 30 3 (by decide) rfl) (by exact AM (e' := [(0, .r (.str s1)), (1, .r (.sl (attrs1.map AK.row))), (4, .cst (.slice none 0 0)), (5, .r (.int .i64 0)), (6, .r (.int .i64 e1)), (7, .own 5007 n0), (10, .r (.sl (attrs1.map AK.row))), (11, .r (.int .i64 e1)), (12, .r (.int .i64 e1)), (13, .r (.bool (!decide (e1 = 0))))]) (h' := [(5007, some (.arr n0 30 3 (([] : List AE).map AE.row)))]) ⟨.inl (.inl rfl), .inl (.inl rfl), .inl (.inl rfl), .inl (.inl rfl), .inl (.inl rfl), .inl (.inl rfl), .inl (.inl rfl), .inl (.inl rfl), .inl (.inl rfl), .inl (.inl rfl), trivial⟩ ⟨.inl rfl, trivial⟩ (Nat.le_refl _))) (by exact AM ⟨.inl (.inl rfl), .inl (.inl rfl), .inl (.inl rfl), trivial⟩ ⟨.inl rfl, trivial⟩ (Nat.le_refl _))) ?_
    intro s3 out2 i3 v1 hv1 hx1
    have h4 : Bs attrs1 s3 out2 = some v1 := hv1; unfold Bs at h4
    refine AF fun K9 hK9 wK9 => ?_
    refine AF fun K10 hK10 wK10 => ?_
    refine AW.region ?_
    refine AA.step rfl rfl rfl (AC (AD rfl (.inl rfl)) _) ?_
    refine AA.step rfl rfl rfl (AC (H2 rfl (.inl rfl) (.inl rfl)) _) ?_
    refine AA.nil ?_
    refine hK10 _ ?_
    refine AW.cond rfl (fun hc2 => ?_) (fun hc2 => ?_)
    · have h5 := AZ hc2 h4
      refine AW.skip ?_
      refine hK9 _ ?_
      refine AW.block ?_
      refine AF fun K11 hK11 wK11 => ?_
      refine AW.region ?_
      refine AA.step rfl rfl rfl (AC (AD rfl (.inl rfl)) _) ?_
      refine F5 h5 fun r1 r2 er1 h6 => ?_
      refine AA.step rfl rfl rfl (Ap (r := .tup [.r (.int .i32 r1), .r (.int .i64 r2)]) (caps := []) (bs := [.r (.str s3)]) rfl (.inl rfl) rfl ⟨⟨_, (.inl rfl), .d rfl⟩, trivial⟩ (fun _ => I3 (er1)) rfl) ?_
      refine AA.step rfl rfl rfl (AC (AD rfl (.inl rfl)) _) ?_
      refine AA.step rfl rfl rfl (AC (Dm (a := .r (.int .i32 r1)) rfl (.inl rfl) rfl) _) ?_
      refine AA.step rfl rfl rfl (AC (Dm (a := .r (.int .i64 r2)) rfl (.inl rfl) rfl) _) ?_
      refine AA.step rfl rfl rfl (AC (AI rfl (.inl rfl)) _) ?_
      refine AA.step rfl rfl rfl (AC (AI rfl (.inl rfl)) _) ?_
      refine AA.nil ?_
      refine hK11 _ ?_
      refine AF fun K12 hK12 wK12 => ?_
      refine AF fun K13 hK13 wK13 => ?_
      refine AW.region ?_
      refine AA.step rfl rfl rfl (AC (AD rfl (.inl rfl)) _) ?_
      refine AA.step rfl rfl rfl (AC (BF rfl (.inl rfl) (.inl rfl)) _) ?_
      refine AA.step rfl rfl rfl (AC (AD rfl (.inl rfl)) _) ?_
      refine AA.stepW (.one rfl rfl rfl) rfl rfl (AC (AD rfl (.inl rfl)) _) ?_
      refine AA.stepW (.one rfl rfl rfl) rfl rfl (AC (BF rfl (.inr ⟨_, (by exact id), rfl⟩) (.inl rfl)) _) ?_
      refine AA.step rfl rfl rfl (AC (Ad rfl (.inl rfl) (.inr ⟨_, (by exact id), rfl⟩)) _) ?_
      refine AA.nil ?_
      refine hK13 _ ?_
      refine AW.cond rfl (fun hc3 => ?_) (fun hc3 => ?_)
      · have h7 := AZ hc3 h6
        refine AF fun K14 hK14 wK14 => ?_
        refine AW.weak (s' := ⟨[], [], (i3 1), 44⟩) (by exact AM trivial trivial (Nat.le_refl _)) ?_
        refine AW.region ?_
        refine AA.step rfl rfl rfl (AC (AI rfl (.inl rfl)) _) ?_
        refine AA.step rfl rfl rfl (AC (AI rfl (.inl rfl)) _) ?_
        refine AA.nil ?_
        refine hK14 _ ?_
        refine AW.ret ?_
        exact BY (P := Tryd.prog) (fun (r : (List AE) × Int) => .r (.sl (r.1.map AE.row))) (fun (r : (List AE) × Int) => .r (.int .i64 r.2)) (he1 _ (hx1 _ (Option.some.inj h7).symm)) (.inl rfl) (.t (.one (.nil))) (.t (.d rfl))
      · have h7 := Aa hc3 h6
        refine AW.skip ?_
        refine hK12 _ ?_
        refine AF fun K15 hK15 wK15 => ?_
        refine AF fun K16 hK16 wK16 => ?_
        refine AW.weak (s' := ⟨[(0, .r (.str s3)), (1, .r (.sl (attrs1.map AK.row))), (7, .own 5007 (i3 0)), (8, .r (.int .i32 r1)), (9, .r (.int .i64 r2))], [(5007, some (.arr (i3 0) 30 3 (out2.map AE.row)))], (i3 1), 44⟩) (by exact AM ⟨.inl (.inl rfl), .inl (.inl rfl), .inl (.inl rfl), .inl (.inl rfl), .inl (.inl rfl), trivial⟩ ⟨.inl rfl, trivial⟩ (Nat.le_refl _)) ?_
        refine AW.region ?_
        refine AA.step rfl rfl rfl (AC (AD rfl (.inl rfl)) _) ?_
        refine AA.step rfl rfl rfl (AC (BG rfl Tryd.underlying21 Tryd.underlying3 (.inl rfl)) _) ?_
        refine AR h7 fun r3 er3 h8 => ?_
        refine AA.step rfl rfl rfl (Ap (r := .r (.bool r3)) (caps := []) (bs := [.r (.int .i64 (IntKind.i64.wrap r1))]) rfl (.inl rfl) rfl ⟨⟨_, (.inl rfl), .d rfl⟩, trivial⟩ (fun _ => GJ (er3)) rfl) ?_
        refine AA.step rfl rfl rfl (AC (Bk rfl (.inl rfl)) _) ?_
        refine AA.nil ?_
        refine hK16 _ ?_
        refine AW.cond rfl (fun hc4 => ?_) (fun hc4 => ?_)
        · have h9 := AZ hc4 h8
          refine AF fun K17 hK17 wK17 => ?_
          refine AW.weak (s' := ⟨[], [], (i3 1), 44⟩) (by exact AM trivial trivial (Nat.le_refl _)) ?_
          refine AW.region ?_
          refine AA.step rfl rfl rfl (AC (AI rfl (.inl rfl)) _) ?_
          refine AA.step rfl rfl rfl (AC (AI rfl (.inl rfl)) _) ?_
          refine AA.nil ?_
          refine hK17 _ ?_
          refine AW.ret ?_
          exact BY (P := Tryd.prog) (fun (r : (List AE) × Int) => .r (.sl (r.1.map AE.row))) (fun (r : (List AE) × Int) => .r (.int .i64 r.2)) (he1 _ (hx1 _ (Option.some.inj h9).symm)) (.inl rfl) (.t (.one (.nil))) (.t (.d rfl))
        · have h9 := Aa hc4 h8
          refine AW.skip ?_
          refine hK15 _ ?_
          refine AF fun K18 hK18 wK18 => ?_
          refine AW.region ?_
          refine AA.step rfl rfl rfl (AC (AD rfl (.inl rfl)) _) ?_
          refine AA.step rfl rfl rfl (AC (AD rfl (.inl rfl)) _) ?_
          refine AA.step rfl rfl rfl (AC (BG rfl Tryd.underlying21 Tryd.underlying3 (.inl rfl)) _) ?_
          refine AA.step rfl rfl rfl (AC (AD rfl (.inl rfl)) _) ?_
          refine AR h9 fun l1 el1 h10 => ?_
          refine AA.step rfl rfl rfl (Kj 36 (f := AK.row) rfl CJ (.inl rfl) (.inl ⟨(.inl rfl), fun _ => rfl⟩) el1) ?_
          refine AA.step rfl rfl rfl (AC (Gz rfl I9 (q := [(0, _), (2, _)]) (by exact ⟨rfl, rfl, rfl, (.inl rfl), rfl, rfl, rfl, (.inl rfl), trivial⟩) (cs := [.r (.int .i64 (IntKind.i64.wrap r1)), .r (.int .i64 0), .own 36 (i3 1)]) (by rfl)) _) ?_
          refine AA.weak (by exact Lh (e' := [(0, .r (.str s3)), (1, .r (.sl (attrs1.map AK.row))), (7, .own 5007 (i3 0)), (8, .r (.int .i32 r1)), (9, .r (.int .i64 r2)), (28, .r (.int .i32 r1)), (29, .r (.int .i64 (IntKind.i64.wrap r1))), (30, .r (.bool r3)), (31, .r (.bool (!r3))), (32, .own 5007 (i3 0)), (33, .r (.int .i32 r1)), (34, .r (.int .i64 (IntKind.i64.wrap r1))), (35, .r (.sl (attrs1.map AK.row))), (36, .r (.sl (l1.map AK.row))), (37, .agg [.r (.int .i64 (IntKind.i64.wrap r1)), .r (.int .i64 0), .r (.sl (l1.map AK.row))])]) (h' := [(5007, some (.arr (i3 0) 30 3 (out2.map AE.row)))]) 36 rfl ⟨.inl (.inl rfl), .inl (.inl rfl), .inl (.inl rfl), .inl (.inl rfl), .inl (.inl rfl), .inl (.inl rfl), .inl (.inl rfl), .inl (.inl rfl), .inl (.inl rfl), .inl (.inl rfl), .inl (.inl rfl), .inl (.inl rfl), .inl (.inl rfl), .inl (.inr (.inr ⟨rfl, rfl⟩)), .inr ⟨_, _, rfl, rfl, ⟨.inl rfl, .inl rfl, .inr (.inr ⟨rfl, rfl⟩), trivial⟩⟩, trivial⟩ ⟨rfl, .inl rfl, trivial⟩) ?_
          refine AA.step rfl rfl rfl (DB 38 rfl Am (f := AE.row) (l := ([(AE.mk (IntKind.i64.wrap r1) 0 l1)] : List AE)) ⟨rfl, ⟨_, (.inl rfl), rfl⟩, trivial⟩ rfl (fun _ => rfl) rfl) ?_
          refine AR h10 fun out5 eout5 h11 => ?_
          refine AA.step rfl rfl rfl (D5 rfl Am (.inl rfl) rfl (.inr (.inl ⟨_, _, (.inl rfl), rfl⟩)) eout5) ?_
          refine AA.step rfl rfl rfl (AC (AI rfl (.inl rfl)) _) ?_
          refine AA.nil ?_
          refine hK18 _ ?_
          refine AW.weak (s' := ⟨[(0, .r (.str s3)), (1, .r (.sl (attrs1.map AK.row))), (7, .own 5007 ((i3 1) + 2)), (9, .r (.int .i64 r2))], [(5007, some (.arr ((i3 1) + 2) 30 3 (out5.map AE.row)))], ((i3 1) + 3), 44⟩) (by exact AM ⟨.inl (.inl rfl), .inl (.inl rfl), .inl (.inl rfl), .inl (.inl rfl), trivial⟩ ⟨.inl rfl, trivial⟩ (Nat.le_refl _)) ?_
          refine AW.region ?_
          refine AA.step rfl rfl rfl (AC (AD rfl (.inl rfl)) _) ?_
          refine AA.step rfl rfl rfl (AC (AD rfl (.inl rfl)) _) ?_
          refine AR h11 fun s5 es5 h12 => ?_
          refine AA.step rfl rfl rfl (AC (Kf rfl Tryd.underlying9 (.inl rfl) (by exact ⟨_, (.inl rfl)⟩) (by exact rfl) (fun _ => es5)) _) ?_
          refine AA.step rfl rfl rfl (AC (AI rfl (.inl rfl)) _) ?_
          refine AA.nil ?_
          exact ED.mk h12 (AU [((i3 1) + 2), ((i3 1) + 3)]) ((by exact AM ⟨.inl (.inl rfl), .inl (.inl rfl), .inl (.inl rfl), trivial⟩ ⟨.inl rfl, trivial⟩ (Nat.le_refl _)))
    · have h5 := Aa hc2 h4
      refine AW.exit ?_
      exact wK7 _ _ ((by exact AM ⟨.inl (.inl rfl), trivial⟩ ⟨.inl rfl, trivial⟩ (Nat.le_refl _))) (J1 _ (AU [(i3 0), (i3 1)]) (hx1 _ (Option.some.inj h5).symm))
theorem Kq {a1 : List AK} {b1 : List AK} {r : Bool} (h : C5 a1 b1 = some r) : AX Tryd.prog 11 [.r (.sl (a1.map AK.row)), .r (.sl (b1.map AK.row))] (.r (.bool r)) := by
  unfold C5 at h
  refine A8 Tryd.func11 rfl rfl Tryd.ntmps11 rfl (Nat.le_of_ble_eq_true rfl) fun n0 => ?_
  refine AF fun K1 hK1 wK1 => ?_
  refine AW.region ?_
  refine AA.step rfl rfl rfl (AC (AI rfl (.inl rfl)) _) ?_
  refine AA.nil ?_
  refine hK1 _ ?_
  refine AF fun K2 hK2 wK2 => ?_
  refine AF fun K3 hK3 wK3 => ?_
  refine AW.region ?_
  refine AA.step rfl rfl rfl (AC (AD rfl (.inl rfl)) _) ?_
  refine AA.step rfl rfl rfl (AC (BD rfl CJ.slice (.inl rfl)) _) ?_
  refine AA.step rfl rfl rfl (AC (AD rfl (.inl rfl)) _) ?_
  refine AA.step rfl rfl rfl (AC (BD rfl CJ.slice (.inl rfl)) _) ?_
  refine AA.step rfl rfl rfl (AC (Bb rfl (.inl rfl) (.inl rfl)) _) ?_
  refine AA.nil ?_
  refine hK3 _ ?_
  refine AW.cond rfl (fun hc1 => ?_) (fun hc1 => ?_)
  · have h1 := AZ hc1 h
    refine AF fun K4 hK4 wK4 => ?_
    refine AW.region ?_
    refine AA.step rfl rfl rfl (AC (AI rfl (.inl rfl)) _) ?_
    refine AA.nil ?_
    refine hK4 _ ?_
    refine AW.ret ?_
    exact Ae (P := Tryd.prog) (fun (r : Bool) => .r (.bool r)) h1 (.inl rfl) (.t (.d rfl))
  · have h1 := Aa hc1 h
    refine AW.skip ?_
    refine hK2 _ ?_
    refine AF fun K5 hK5 wK5 => ?_
    refine AF fun K6 hK6 wK6 => ?_
    refine AW.region ?_
    refine AA.step rfl rfl rfl (AC (AD rfl (.inl rfl)) _) ?_
    refine AA.step rfl rfl rfl (AC (BD rfl CJ.slice (.inl rfl)) _) ?_
    refine AA.step rfl rfl rfl (AC (AD rfl (.inl rfl)) _) ?_
    refine AA.nil ?_
    refine hK6 _ ?_
    refine AW.block ?_
    refine Cd h1 fun o1 hit1 hk1 he1 => ?_
    have J1 : ∀ (u2 : Unit) (i5 : Nat → Nat), o1 = .nrm u2 → K5 ⟨[], [], (i5 0), 26⟩ := by
      intro u2 i5 e
      have h2 := hk1 _ e
      refine hK5 _ ?_
      refine AF fun K7 hK7 wK7 => ?_
      refine AW.region ?_
      refine AA.step rfl rfl rfl (AC (AI rfl (.inl rfl)) _) ?_
      refine AA.nil ?_
      refine hK7 _ ?_
      refine AW.ret ?_
      exact Ae (P := Tryd.prog) (fun (r : Bool) => .r (.bool r)) h2 (.inl rfl) (.t (.d rfl))
    refine DN (fun (x2 : Int) i3 => ⟨[(0, .r (.sl (a1.map AK.row))), (1, .r (.sl (b1.map AK.row))), (12, .r (.int .i64 (a1.length : Int))), (13, .r (.int .i64 x2))], [], (i3 0), 26⟩) (AU [n0]) hit1 ((by exact AM ⟨.inl (.inl rfl), .inl (.inl rfl), .inl (.inl rfl), .inl (.inl rfl), trivial⟩ trivial (Nat.le_refl _))) ?_
    intro x2 i3 v1 hv1 hx1
    have h3 : EU a1 b1 x2 = some v1 := hv1; unfold EU at h3
    refine AF fun K8 hK8 wK8 => ?_
    refine AW.region ?_
    refine AA.step rfl rfl rfl (AC (Ah rfl (.inl rfl) (.inl rfl)) _) ?_
    refine AA.nil ?_
    refine hK8 _ ?_
    refine AF fun K9 hK9 wK9 => ?_
    refine AW.cond rfl (fun hc2 => ?_) (fun hc2 => ?_)
    · have h4 := AZ hc2 h3
      refine AW.skip ?_
      refine hK9 _ ?_
      refine AF fun K10 hK10 wK10 => ?_
      refine AW.block ?_
      refine AF fun K11 hK11 wK11 => ?_
      refine AW.region ?_
      refine AA.step rfl rfl rfl (AC (AD rfl (.inl rfl)) _) ?_
      refine AA.step rfl rfl rfl (AC (AI rfl (.inl rfl)) _) ?_
      refine AA.nil ?_
      refine hK11 _ ?_
      refine AF fun K12 hK12 wK12 => ?_
      refine Gs FS (by kernel_rfl) ?_
      refine AQ.step rfl rfl rfl (AD rfl (.inl rfl)) ?_
      refine AQ.step rfl rfl rfl (AD rfl (.inl rfl)) ?_
      refine AR h4 fun x4 ex4 h5 => ?_
      refine AQ.step rfl rfl rfl (Ax rfl CJ.slice (.inl rfl) (.inl rfl) (fun _ => rfl) (fun _ => ex4)) ?_
      refine AQ.step rfl rfl rfl (CW (cs := [.r (.str x4.Name), .r (.str x4.Value)]) rfl GA (.inl rfl) rfl rfl) ?_
      refine AQ.step rfl rfl rfl (AD rfl (.inl rfl)) ?_
      refine AQ.step rfl rfl rfl (AD rfl (.inl rfl)) ?_
      refine AR h5 fun x5 ex5 h6 => ?_
      refine AQ.step rfl rfl rfl (Ax rfl CJ.slice (.inl rfl) (.inl rfl) (fun _ => rfl) (fun _ => ex5)) ?_
      refine AQ.step rfl rfl rfl (CW (cs := [.r (.str x5.Name), .r (.str x5.Value)]) rfl GA (.inl rfl) rfl rfl) ?_
      refine AQ.step rfl rfl rfl (LJ rfl JG (.inl rfl) (.inl rfl) rfl) ?_
      refine AQ.nil ?_
      refine hK12 _ ?_
      refine AW.cond rfl (fun hc3 => ?_) (fun hc3 => ?_)
      · have h7 := AZ hc3 h6
        refine AF fun K13 hK13 wK13 => ?_
        refine AW.weak (s' := ⟨[], [], (i3 0), 26⟩) (by exact AM trivial trivial (Nat.le_refl _)) ?_
        refine AW.region ?_
        refine AA.step rfl rfl rfl (AC (AI rfl (.inl rfl)) _) ?_
        refine AA.nil ?_
        refine hK13 _ ?_
        refine AW.ret ?_
        exact Ae (P := Tryd.prog) (fun (r : Bool) => .r (.bool r)) (he1 _ (hx1 _ (Option.some.inj h7).symm)) (.inl rfl) (.t (.d rfl))
      · have h7 := Aa hc3 h6
        refine AW.skip ?_
        refine hK10 _ ?_
        refine AW.weak (s' := ⟨[(0, .r (.sl (a1.map AK.row))), (1, .r (.sl (b1.map AK.row))), (12, .r (.int .i64 (a1.length : Int))), (13, .r (.int .i64 x2))], [], (i3 0), 26⟩) (by exact AM ⟨.inl (.inl rfl), .inl (.inl rfl), .inl (.inl rfl), .inl (.inl rfl), trivial⟩ trivial (Nat.le_refl _)) ?_
        refine AW.region ?_
        refine AR h7 fun x6 ex6 h8 => ?_
        refine AA.step rfl rfl rfl (AC (BB rfl (.inl rfl) (.inl rfl) (fun _ => ex6)) _) ?_
        refine AA.step rfl rfl rfl (AC (AD rfl (.inl rfl)) _) ?_
        refine AA.nil ?_
        exact CP.mk h8 (AU [(i3 0)]) ((by exact AM ⟨.inl (.inl rfl), .inl (.inl rfl), .inl (.inl rfl), .inl (.inl rfl), trivial⟩ trivial (Nat.le_refl _)))
    · have h4 := Aa hc2 h3
      refine AW.exit ?_
      exact wK5 _ _ ((by exact AM trivial trivial (Nat.le_refl _))) (J1 _ (AU [(i3 0)]) (hx1 _ (Option.some.inj h4).symm))
theorem LT {x1 : AE} {r : Int} (h : EG x1 = some r) : AX Tryd.prog 22 [.agg [.r (.int .i64 x1.Char), .r (.int .i64 x1.Ref), .r (.sl (x1.Attrs.map AK.row))]] (.r (.int .i64 r)) := by
  unfold EG at h
  refine A8 Tryd.func22 rfl rfl Tryd.ntmps22 rfl (Nat.le_of_ble_eq_true rfl) fun n0 => ?_
  refine AF fun K1 hK1 wK1 => ?_
  refine AW.region ?_
  refine AA.step rfl rfl rfl (Ey (cs := [.r (.int .i64 x1.Char), .r (.int .i64 x1.Ref), .r (.sl (x1.Attrs.map AK.row))]) 1 rfl (.inl rfl) rfl rfl) ?_
  refine AA.step rfl rfl rfl (AC (AI rfl (.inl rfl)) _) ?_
  refine AA.nil ?_
  refine hK1 _ ?_
  refine AF fun K2 hK2 wK2 => ?_
  refine AW.block ?_
  refine AF fun K3 hK3 wK3 => ?_
  refine AW.region ?_
  refine AA.step rfl rfl rfl (AC (BE (ob := .box _ _ _) rfl B3 (.inl rfl) (fun _ => rfl) rfl) _) ?_
  refine AA.step rfl rfl rfl (AC (Ao (a := .r (.int .i64 x1.Char)) rfl Aw (.inl rfl) rfl rfl) _) ?_
  refine AA.step rfl rfl rfl (AC (Bb rfl (.inl rfl) (.inl rfl)) _) ?_
  refine AA.step rfl rfl rfl (AC (BE (ob := .box _ _ _) rfl CG (.inl rfl) (fun _ => rfl) rfl) _) ?_
  refine AA.step rfl rfl rfl (AC (Ao (a := .r (.int .i64 x1.Ref)) rfl Aw (.inl rfl) rfl rfl) _) ?_
  refine AA.step rfl rfl rfl (AC (Bb rfl (.inl rfl) (.inl rfl)) _) ?_
  refine AA.step rfl rfl rfl (AC (Jx rfl Tryd.underlying4 (.inl rfl) (.inl rfl)) _) ?_
  refine AA.step rfl rfl rfl (AC (AI rfl (.inl rfl)) _) ?_
  refine AA.nil ?_
  refine hK3 _ ?_
  refine AW.cond rfl (fun hc1 => ?_) (fun hc1 => ?_)
  · have h1 := AZ hc1 h
    refine AF fun K4 hK4 wK4 => ?_
    refine AW.weak (s' := ⟨[], [], (n0 + 1), 37⟩) (by exact AM trivial trivial (Nat.le_refl _)) ?_
    refine AW.region ?_
    refine AA.step rfl rfl rfl (AC (AI rfl (.inl rfl)) _) ?_
    refine AA.nil ?_
    refine hK4 _ ?_
    refine AW.ret ?_
    exact Ae (P := Tryd.prog) (fun (r : Int) => .r (.int .i64 r)) h1 (.inl rfl) (.t (.d rfl))
  · have h1 := Aa hc1 h
    refine AF fun K5 hK5 wK5 => ?_
    refine AF fun K6 hK6 wK6 => ?_
    refine AW.weak (s' := ⟨[(1, .ptr 1 n0 0 0)], [(1, some (.box n0 30 [.r (.int .i64 x1.Char), .r (.int .i64 x1.Ref), .r (.sl (x1.Attrs.map AK.row))]))], (n0 + 1), 37⟩) (by exact AM ⟨.inl (.inl rfl), trivial⟩ ⟨.inl rfl, trivial⟩ (Nat.le_refl _)) ?_
    refine AW.region ?_
    refine AA.step rfl rfl rfl (AC (BE (ob := .box _ _ _) rfl CG (.inl rfl) (fun _ => rfl) rfl) _) ?_
    refine AA.step rfl rfl rfl (AC (Ao (a := .r (.int .i64 x1.Ref)) rfl Aw (.inl rfl) rfl rfl) _) ?_
    refine AA.step rfl rfl rfl (AC (BF rfl (.inl rfl) (.inl rfl)) _) ?_
    refine AA.step rfl rfl rfl (AC (AD rfl (.inl rfl)) _) ?_
    refine AA.stepW (.one rfl rfl rfl) rfl rfl (AC (BE (ob := .box _ _ _) rfl B3 (.inl rfl) (fun _ => rfl) rfl) _) ?_
    refine AA.stepW (.one rfl rfl rfl) rfl rfl (AC (Ao (a := .r (.int .i64 x1.Char)) rfl Aw (.inr ⟨_, (by exact id), rfl⟩) rfl rfl) _) ?_
    refine AR h1 fun r1 er1 h2 => ?_
    refine AA.stepW (.one rfl rfl rfl) rfl rfl (Ap (r := .r (.bool r1)) (caps := []) (bs := [.r (.int .i64 x1.Char)]) rfl (.inl rfl) rfl ⟨⟨_, (.inr ⟨_, (by exact id), rfl⟩), .d rfl⟩, trivial⟩ (fun hg => GJ (Ak er1 hg)) rfl) ?_
    refine AA.stepW (.one rfl rfl rfl) rfl rfl (AC (Bk rfl (.inr ⟨_, (by exact id), rfl⟩)) _) ?_
    refine AA.step rfl rfl rfl (AC (Ad rfl (.inl rfl) (.inr ⟨_, (by exact id), rfl⟩)) _) ?_
    refine AA.step rfl rfl rfl (AC (AI rfl (.inl rfl)) _) ?_
    refine AA.nil ?_
    refine hK6 _ ?_
    refine Cq h2 fun p1 hp1 hk1 => ?_
    have J1 : ∀ (x2 : Bool) (i1 : Nat → Nat), p1 = x2 → K5 ⟨[(1, .ptr 1 n0 0 0), (11, .r (.bool x2))], [(1, some (.box n0 30 [.r (.int .i64 x1.Char), .r (.int .i64 x1.Ref), .r (.sl (x1.Attrs.map AK.row))]))], (i1 0), 37⟩ := by
      intro x2 i1 e
      have h3 := hk1 _ e
      refine hK5 _ ?_
      refine AW.cond rfl (fun hc2 => ?_) (fun hc2 => ?_)
      · have h4 := AZ hc2 h3
        refine AF fun K7 hK7 wK7 => ?_
        refine AW.region ?_
        refine AA.step rfl rfl rfl (AC (AI rfl (.inl rfl)) _) ?_
        refine AA.nil ?_
        refine hK7 _ ?_
        refine AW.ret ?_
        exact Ae (P := Tryd.prog) (fun (r : Int) => .r (.int .i64 r)) h4 (.inl rfl) (.t (.d rfl))
      · have h4 := Aa hc2 h3
        refine AW.skip ?_
        refine hK2 _ ?_
        refine AF fun K8 hK8 wK8 => ?_
        refine AW.region ?_
        refine AA.step rfl rfl rfl (AC (BE (ob := .box _ _ _) rfl G3 (.inl rfl) (fun _ => rfl) rfl) _) ?_
        refine AA.step rfl rfl rfl (AC (Ao (a := .r (.sl (x1.Attrs.map AK.row))) rfl H3 (.inl rfl) rfl rfl) _) ?_
        refine AR h4 fun r2 er2 h5 => ?_
        refine AA.step rfl rfl rfl (Ap (r := .r (.int .i64 r2)) (caps := []) (bs := [.r (.sl (x1.Attrs.map AK.row))]) rfl (.inl rfl) rfl ⟨⟨_, (.inl rfl), .d rfl⟩, trivial⟩ (fun _ => HW (er2)) rfl) ?_
        refine AA.step rfl rfl rfl (AC (AI rfl (.inl rfl)) _) ?_
        refine AA.nil ?_
        refine hK8 _ ?_
        refine AW.ret ?_
        exact Ae (P := Tryd.prog) (fun (r : Int) => .r (.int .i64 r)) h5 (.inl rfl) (.t (.d rfl))
    refine AW.cond rfl (fun hc3 => ?_) (fun hc3 => ?_)
    · have h6 := AZ hc3 hp1
      refine AW.skip ?_
      exact wK5 _ _ ((by exact AM ⟨.inl (.inl rfl), .inl (.inl rfl), trivial⟩ ⟨.inl rfl, trivial⟩ (Nat.le_refl _))) (J1 _ (AU [(n0 + 1)]) (Option.some.inj h6).symm)
    · have h6 := Aa hc3 hp1
      refine AW.weak (s' := ⟨[(1, .ptr 1 n0 0 0)], [(1, some (.box n0 30 [.r (.int .i64 x1.Char), .r (.int .i64 x1.Ref), .r (.sl (x1.Attrs.map AK.row))]))], (n0 + 1), 37⟩) (by exact AM ⟨.inl (.inl rfl), trivial⟩ ⟨.inl rfl, trivial⟩ (Nat.le_refl _)) ?_
      refine AW.region ?_
      refine AA.step rfl rfl rfl (AC (BE (ob := .box _ _ _) rfl CG (.inl rfl) (fun _ => rfl) rfl) _) ?_
      refine AA.step rfl rfl rfl (AC (Ao (a := .r (.int .i64 x1.Ref)) rfl Aw (.inl rfl) rfl rfl) _) ?_
      refine AA.step rfl rfl rfl (AC (Bb rfl (.inl rfl) (.inl rfl)) _) ?_
      refine AA.step rfl rfl rfl (AC (AD rfl (.inl rfl)) _) ?_
      refine AA.stepW (.one rfl rfl rfl) rfl rfl (AC (BE (ob := .box _ _ _) rfl CG (.inl rfl) (fun _ => rfl) rfl) _) ?_
      refine AA.stepW (.one rfl rfl rfl) rfl rfl (AC (Ao (a := .r (.int .i64 x1.Ref)) rfl Aw (.inr ⟨_, (by exact id), rfl⟩) rfl rfl) _) ?_
      refine AA.stepW (.one rfl rfl rfl) rfl rfl (AC (Ah rfl (.inr ⟨_, (by exact id), rfl⟩) (.inl rfl)) _) ?_
      refine AA.stepW (.one rfl rfl rfl) rfl rfl (AC (AD rfl (.inr ⟨_, (by exact id), rfl⟩)) _) ?_
      refine AA.stepW (.two rfl rfl rfl) rfl rfl (AC (BE (ob := .box _ _ _) rfl CG (.inl rfl) (fun _ => rfl) rfl) _) ?_
      refine AA.stepW (.two rfl rfl rfl) rfl rfl (AC (Ao (a := .r (.int .i64 x1.Ref)) rfl Aw (.inr ⟨_, (by exact id), rfl⟩) rfl rfl) _) ?_
      refine AA.stepW (.two rfl rfl rfl) rfl rfl (AC (CL rfl (.inr ⟨_, (by exact id), rfl⟩) (.inl rfl)) _) ?_
      refine AA.stepW (.one rfl rfl rfl) rfl rfl (AC (As rfl (.inr ⟨_, (by exact id), rfl⟩) (.inr ⟨_, (by exact id), rfl⟩)) _) ?_
      refine AA.step rfl rfl rfl (AC (Ad rfl (.inl rfl) (.inr ⟨_, (by exact id), rfl⟩)) _) ?_
      refine AA.step rfl rfl rfl (AC (AI rfl (.inl rfl)) _) ?_
      refine AA.nil ?_
      exact wK5 _ _ ((by exact AM ⟨.inl (.inl rfl), .inl (.inl rfl), trivial⟩ ⟨.inl rfl, trivial⟩ (Nat.le_refl _))) (J1 _ (AU [(n0 + 1)]) (Option.some.inj h6).symm)
theorem JD {f1 : List AE} {text1 : Bool} {r : Int} (h : EI f1 text1 = some r) : AX Tryd.prog 12 [.r (.sl (f1.map AE.row)), .r (.bool text1)] (.r (.int .i64 r)) := by
  unfold EI at h
  refine A8 Tryd.func12 rfl rfl Tryd.ntmps12 rfl (Nat.le_of_ble_eq_true rfl) fun n0 => ?_
  refine AF fun K1 hK1 wK1 => ?_
  refine AW.region ?_
  refine AA.step rfl rfl rfl (AC (AI rfl (.inl rfl)) _) ?_
  refine AA.nil ?_
  refine hK1 _ ?_
  refine AF fun K2 hK2 wK2 => ?_
  refine AF fun K3 hK3 wK3 => ?_
  refine AW.region ?_
  refine AA.step rfl rfl rfl (AC (AD rfl (.inl rfl)) _) ?_
  refine AA.step rfl rfl rfl (AC (BD rfl Am.slice (.inl rfl)) _) ?_
  refine AA.step rfl rfl rfl (AC (AD rfl (.inl rfl)) _) ?_
  refine AA.nil ?_
  refine hK3 _ ?_
  refine AW.block ?_
  refine Cd h fun o1 hit1 hk1 he1 => ?_
  have J1 : ∀ (u2 : Unit) (i5 : Nat → Nat), o1 = .nrm u2 → K2 ⟨[(0, .r (.sl (f1.map AE.row))), (1, .r (.bool text1))], [], (i5 0), 43⟩ := by
    intro u2 i5 e
    have h1 := hk1 _ e
    refine hK2 _ ?_
    refine AF fun K4 hK4 wK4 => ?_
    refine AF fun K5 hK5 wK5 => ?_
    refine AW.region ?_
    refine AA.step rfl rfl rfl (AC (AD rfl (.inl rfl)) _) ?_
    refine AA.step rfl rfl rfl (AC (AD rfl (.inl rfl)) _) ?_
    refine AA.stepW (.one rfl rfl rfl) rfl rfl (AC (AD rfl (.inl rfl)) _) ?_
    refine AA.stepW (.one rfl rfl rfl) rfl rfl (AC (BD rfl Am.slice (.inr ⟨_, (by exact id), rfl⟩)) _) ?_
    refine AA.stepW (.one rfl rfl rfl) rfl rfl (AC (BF rfl (.inr ⟨_, (by exact id), rfl⟩) (.inl rfl)) _) ?_
    refine AA.stepW (.one rfl rfl rfl) rfl rfl (AC (AD rfl (.inr ⟨_, (by exact id), rfl⟩)) _) ?_
    refine AA.stepW (.two rfl rfl rfl) rfl rfl (AC (AD rfl (.inl rfl)) _) ?_
    refine AA.stepW (.two rfl rfl rfl) rfl rfl (AC (AD rfl (.inl rfl)) _) ?_
    refine AA.stepW (.two rfl rfl rfl) rfl rfl (AC (BD rfl Am.slice (.inr ⟨_, (by exact id), rfl⟩)) _) ?_
    refine AR h1 fun x4 ex4 h2 => ?_
    refine AA.stepW (.two rfl rfl rfl) rfl rfl (AC (Fs rfl (.inr ⟨_, (by exact id), rfl⟩) (.inl rfl) (Ak ex4)) _) ?_
    refine AR h2 fun x5 ex5 h3 => ?_
    refine AA.stepW (.two rfl rfl rfl) rfl rfl (AC (Ax rfl Am.slice (.inr ⟨_, (by exact id), rfl⟩) (.inr ⟨_, (by exact id), rfl⟩) (fun _ => rfl) (Ak ex5)) _) ?_
    refine AA.stepW (.two rfl rfl rfl) rfl rfl (AC (Bu rfl B3 (.inr ⟨_, (by exact id), rfl⟩)) _) ?_
    refine AA.stepW (.two rfl rfl rfl) rfl rfl (AC (BS (d := .int .i64 x5.Char) rfl Aw (.inr ⟨_, (by exact id), rfl⟩) rfl) _) ?_
    refine AA.stepW (.two rfl rfl rfl) rfl rfl (AC (Bb rfl (.inr ⟨_, (by exact id), rfl⟩) (.inl rfl)) _) ?_
    refine AA.stepW (.one rfl rfl rfl) rfl rfl (AC (As rfl (.inr ⟨_, (by exact id), rfl⟩) (.inr ⟨_, (by exact id), rfl⟩)) _) ?_
    refine AA.step rfl rfl rfl (AC (Ad rfl (.inl rfl) (.inr ⟨_, (by exact id), rfl⟩)) _) ?_
    refine AA.nil ?_
    refine hK5 _ ?_
    refine AW.cond rfl (fun hc1 => ?_) (fun hc1 => ?_)
    · have h4 := AZ hc1 h3
      refine AF fun K6 hK6 wK6 => ?_
      refine AW.weak (s' := ⟨[], [], (i5 0), 43⟩) (by exact AM trivial trivial (Nat.le_refl _)) ?_
      refine AW.region ?_
      refine AA.step rfl rfl rfl (AC (AI rfl (.inl rfl)) _) ?_
      refine AA.nil ?_
      refine hK6 _ ?_
      refine AW.ret ?_
      exact Ae (P := Tryd.prog) (fun (r : Int) => .r (.int .i64 r)) h4 (.inl rfl) (.t (.d rfl))
    · have h4 := Aa hc1 h3
      refine AW.skip ?_
      refine hK4 _ ?_
      refine AF fun K7 hK7 wK7 => ?_
      refine AW.weak (s' := ⟨[], [], (i5 0), 43⟩) (by exact AM trivial trivial (Nat.le_refl _)) ?_
      refine AW.region ?_
      refine AA.step rfl rfl rfl (AC (AI rfl (.inl rfl)) _) ?_
      refine AA.nil ?_
      refine hK7 _ ?_
      refine AW.ret ?_
      exact Ae (P := Tryd.prog) (fun (r : Int) => .r (.int .i64 r)) h4 (.inl rfl) (.t (.d rfl))
  refine DN (fun (x2 : Int) i3 => ⟨[(0, .r (.sl (f1.map AE.row))), (1, .r (.bool text1)), (8, .r (.sl (f1.map AE.row))), (9, .r (.int .i64 (f1.length : Int))), (10, .r (.int .i64 x2))], [], (i3 0), 43⟩) (AU [n0]) hit1 ((by exact AM ⟨.inl (.inl rfl), .inl (.inl rfl), .inl (.inl rfl), .inl (.inl rfl), .inl (.inl rfl), trivial⟩ trivial (Nat.le_refl _))) ?_
  intro x2 i3 v1 hv1 hx1
  have h5 : ES f1 text1 x2 = some v1 := hv1; unfold ES at h5
  refine AF fun K8 hK8 wK8 => ?_
  refine AW.region ?_
  refine AA.step rfl rfl rfl (AC (Ah rfl (.inl rfl) (.inl rfl)) _) ?_
  refine AA.nil ?_
  refine hK8 _ ?_
  refine AF fun K9 hK9 wK9 => ?_
  refine AW.cond rfl (fun hc2 => ?_) (fun hc2 => ?_)
  · have h6 := AZ hc2 h5
    refine AW.skip ?_
    refine hK9 _ ?_
    refine AF fun K10 hK10 wK10 => ?_
    refine AW.block ?_
    refine AF fun K11 hK11 wK11 => ?_
    refine AW.region ?_
    refine AR h6 fun x6 ex6 h7 => ?_
    refine AA.step rfl rfl rfl (AC (Ax rfl Am.slice (.inl rfl) (.inl rfl) (fun _ => rfl) (fun _ => ex6)) _) ?_
    refine AA.step rfl rfl rfl (AC (CW (cs := [.r (.int .i64 x6.Char), .r (.int .i64 x6.Ref), .r (.sl (x6.Attrs.map AK.row))]) rfl DJ (.inl rfl) rfl rfl) _) ?_
    refine AA.step rfl rfl rfl (DY (cs := [.r (.int .i64 0), .r (.int .i64 0), .cst (.slice none 0 0)]) 6 rfl IG rfl rfl) ?_
    refine Du rfl rfl (Df (ds := [.r (.int .i64 x6.Char), .r (.int .i64 x6.Ref), .r (.sl (x6.Attrs.map AK.row))]) rfl G8 (.inl rfl) rfl (.inl rfl) rfl rfl rfl rfl) ?_
    refine AA.nil ?_
    refine hK11 _ ?_
    refine AF fun K12 hK12 wK12 => ?_
    refine AF fun K13 hK13 wK13 => ?_
    refine AW.region ?_
    refine AA.step rfl rfl rfl (AC (IL rfl DJ (.inl rfl) rfl rfl) _) ?_
    refine AR h7 fun e1 ee1 h8 => ?_
    refine AA.step rfl rfl rfl (Ap (r := .r (.int .i64 e1)) (caps := []) (bs := [.agg [.r (.int .i64 x6.Char), .r (.int .i64 x6.Ref), .r (.sl (x6.Attrs.map AK.row))]]) rfl (.inl rfl) rfl ⟨⟨_, (.inl rfl), .g (cs := [.int .i64 x6.Char, .int .i64 x6.Ref, .sl (x6.Attrs.map AK.row)]) rfl rfl⟩, trivial⟩ (fun _ => LT (ee1)) rfl) ?_
    refine AA.step rfl rfl rfl (AC (AI rfl (.inl rfl)) _) ?_
    refine AA.nil ?_
    refine hK13 _ ?_
    refine AF fun K14 hK14 wK14 => ?_
    refine AW.region ?_
    refine AA.step rfl rfl rfl (AC (AD rfl (.inl rfl)) _) ?_
    refine AA.step rfl rfl rfl (AC (Bb rfl (.inl rfl) (.inl rfl)) _) ?_
    refine AA.nil ?_
    refine hK14 _ ?_
    refine AW.cond rfl (fun hc3 => ?_) (fun hc3 => ?_)
    · have h9 := AZ hc3 h8
      refine AF fun K15 hK15 wK15 => ?_
      refine AW.weak (s' := ⟨[(7, .r (.int .i64 e1))], [], ((i3 0) + 1), 43⟩) (by exact AM ⟨.inl (.inl rfl), trivial⟩ trivial (Nat.le_refl _)) ?_
      refine AW.region ?_
      refine AA.step rfl rfl rfl (AC (AD rfl (.inl rfl)) _) ?_
      refine AA.step rfl rfl rfl (AC (AI rfl (.inl rfl)) _) ?_
      refine AA.nil ?_
      refine hK15 _ ?_
      refine AW.ret ?_
      exact Ae (P := Tryd.prog) (fun (r : Int) => .r (.int .i64 r)) (he1 _ (hx1 _ (Option.some.inj h9).symm)) (.inl rfl) (.t (.d rfl))
    · have h9 := Aa hc3 h8
      refine AW.skip ?_
      refine hK12 _ ?_
      refine AF fun K16 hK16 wK16 => ?_
      refine AW.region ?_
      refine AA.step rfl rfl rfl (AC (AD rfl (.inl rfl)) _) ?_
      refine AA.step rfl rfl rfl (AC (Bk rfl (.inl rfl)) _) ?_
      refine AA.step rfl rfl rfl (AC (AD rfl (.inl rfl)) _) ?_
      refine AA.stepW (.one rfl rfl rfl) rfl rfl (AC (BE (ob := .box _ _ _) rfl CG (.inl rfl) (fun _ => rfl) rfl) _) ?_
      refine AA.stepW (.one rfl rfl rfl) rfl rfl (AC (Ao (a := .r (.int .i64 x6.Ref)) rfl Aw (.inr ⟨_, (by exact id), rfl⟩) rfl rfl) _) ?_
      refine AA.stepW (.one rfl rfl rfl) rfl rfl (AC (BF rfl (.inr ⟨_, (by exact id), rfl⟩) (.inl rfl)) _) ?_
      refine AA.step rfl rfl rfl (AC (Ad rfl (.inl rfl) (.inr ⟨_, (by exact id), rfl⟩)) _) ?_
      refine AA.nil ?_
      refine hK16 _ ?_
      refine AW.cond rfl (fun hc4 => ?_) (fun hc4 => ?_)
      · have h10 := AZ hc4 h9
        refine AF fun K17 hK17 wK17 => ?_
        refine AW.weak (s' := ⟨[], [], ((i3 0) + 1), 43⟩) (by exact AM trivial trivial (Nat.le_refl _)) ?_
        refine AW.region ?_
        refine AA.step rfl rfl rfl (AC (AI rfl (.inl rfl)) _) ?_
        refine AA.nil ?_
        refine hK17 _ ?_
        refine AW.ret ?_
        exact Ae (P := Tryd.prog) (fun (r : Int) => .r (.int .i64 r)) (he1 _ (hx1 _ (Option.some.inj h10).symm)) (.inl rfl) (.t (.d rfl))
      · have h10 := Aa hc4 h9
        refine AW.skip ?_
        refine hK10 _ ?_
        refine AW.weak (s' := ⟨[(0, .r (.sl (f1.map AE.row))), (1, .r (.bool text1)), (8, .r (.sl (f1.map AE.row))), (9, .r (.int .i64 (f1.length : Int))), (10, .r (.int .i64 x2))], [], ((i3 0) + 1), 43⟩) (by exact AM ⟨.inl (.inl rfl), .inl (.inl rfl), .inl (.inl rfl), .inl (.inl rfl), .inl (.inl rfl), trivial⟩ trivial (Nat.le_refl _)) ?_
        refine AW.region ?_
        refine AR h10 fun x7 ex7 h11 => ?_
        refine AA.step rfl rfl rfl (AC (BB rfl (.inl rfl) (.inl rfl) (fun _ => ex7)) _) ?_
        refine AA.step rfl rfl rfl (AC (AD rfl (.inl rfl)) _) ?_
        refine AA.nil ?_
        exact CP.mk h11 (AU [((i3 0) + 1)]) ((by exact AM ⟨.inl (.inl rfl), .inl (.inl rfl), .inl (.inl rfl), .inl (.inl rfl), .inl (.inl rfl), trivial⟩ trivial (Nat.le_refl _)))
  · have h6 := Aa hc2 h5
    refine AW.exit ?_
    exact wK2 _ _ ((by exact AM ⟨.inl (.inl rfl), .inl (.inl rfl), trivial⟩ trivial (Nat.le_refl _))) (J1 _ (AU [(i3 0)]) (hx1 _ (Option.some.inj h6).symm))
theorem KF {r : Bool} (h : ER = some r) : AX Tryd.prog 4 [] (.r (.bool r)) := by
  unfold ER at h
  refine A8 Tryd.func4 rfl rfl Tryd.ntmps4 rfl (Nat.le_of_ble_eq_true rfl) fun n0 => ?_
  refine AF fun K1 hK1 wK1 => ?_
  refine AW.region ?_
  refine AA.step rfl rfl rfl (AC (AI rfl (.inl rfl)) _) ?_
  refine AA.nil ?_
  refine hK1 _ ?_
  refine AF fun K2 hK2 wK2 => ?_
  refine AW.region ?_
  refine AR h fun r1 er1 h1 => ?_
  refine AA.step rfl rfl rfl (Ga (r := .r (.sl (r1.map AK.row))) (caps := []) (bs := [.r (.str [98, 111, 108, 100])]) rfl (.inl rfl) rfl ⟨.inl ⟨(.inl rfl), rfl⟩, trivial⟩ (fun _ => HY (er1))) ?_
  refine F5 h1 fun r2 r3 er2 h2 => ?_
  refine AA.step rfl rfl rfl (Ga (r := .tup [.r (.sl (r2.map AE.row)), .r (.int .i64 r3)]) (caps := []) (bs := [.r (.str [97, 98]), .r (.sl (r1.map AK.row))]) rfl (.inl rfl) rfl ⟨.inl ⟨(.inl rfl), rfl⟩, .inl ⟨(.inl rfl), rfl⟩, trivial⟩ (fun _ => KX (er2))) ?_
  refine AA.step rfl rfl rfl (AC (AD rfl (.inl rfl)) _) ?_
  refine AA.step rfl rfl rfl (AC (Dm (a := .r (.sl (r2.map AE.row))) rfl (.inl rfl) rfl) _) ?_
  refine AA.step rfl rfl rfl (AC (Dm (a := .r (.int .i64 r3)) rfl (.inl rfl) rfl) _) ?_
  refine AA.step rfl rfl rfl (AC (AI rfl (.inl rfl)) _) ?_
  refine AA.step rfl rfl rfl (AC (AI rfl (.inl rfl)) _) ?_
  refine AA.nil ?_
  refine hK2 _ ?_
  refine AF fun K3 hK3 wK3 => ?_
  refine AR h2 fun x1 ex1 h3 => ?_
  refine AR h3 fun x2 ex2 h4 => ?_
  refine Lm 20 [⟨some 8, (fun _ => .r (.int .i64 r3)), none, []⟩, ⟨some 9, (fun _ => .r (.bool (decide (r3 = 0)))), none, []⟩, ⟨some 10, (fun _ => .r (.bool (decide (r3 = 0)))), none, []⟩, ⟨some 11, (fun _ => .whn ((decide (r3 = 0)) == true) (.r (.sl (r2.map AE.row)))), none, []⟩, ⟨some 12, (fun _ => .whn ((decide (r3 = 0)) == true) (.r (.int .i64 (r2.length : Int)))), none, []⟩, ⟨some 13, (fun _ => .whn ((decide (r3 = 0)) == true) (.r (.bool (decide ((r2.length : Int) = 2))))), none, []⟩, ⟨some 14, (fun _ => .r (.bool ((decide (r3 = 0)) && (decide ((r2.length : Int) = 2))))), none, []⟩, ⟨some 15, (fun _ => .r (.bool ((decide (r3 = 0)) && (decide ((r2.length : Int) = 2))))), none, []⟩, ⟨some 16, (fun _ => .whn (((decide (r3 = 0)) && (decide ((r2.length : Int) = 2))) == true) (.r (.sl (r2.map AE.row)))), none, []⟩, ⟨some 17, (fun _ => .whn (((decide (r3 = 0)) && (decide ((r2.length : Int) = 2))) == true) (.rop (AE.row x1) 0)), none, []⟩, ⟨some 18, (fun _ => .whn (((decide (r3 = 0)) && (decide ((r2.length : Int) = 2))) == true) (.rop (AE.row x1) 0)), none, []⟩, ⟨some 19, (fun _ => .whn (((decide (r3 = 0)) && (decide ((r2.length : Int) = 2))) == true) (.r (.int .i64 x1.Char))), none, []⟩, ⟨some 20, (fun _ => .whn (((decide (r3 = 0)) && (decide ((r2.length : Int) = 2))) == true) (.r (.bool (decide (x1.Char = 98))))), none, []⟩, ⟨some 21, (fun _ => .r (.bool (((decide (r3 = 0)) && (decide ((r2.length : Int) = 2))) && (decide (x1.Char = 98))))), none, []⟩, ⟨some 22, (fun _ => .r (.bool (((decide (r3 = 0)) && (decide ((r2.length : Int) = 2))) && (decide (x1.Char = 98))))), none, []⟩, ⟨some 23, (fun _ => .whn ((((decide (r3 = 0)) && (decide ((r2.length : Int) = 2))) && (decide (x1.Char = 98))) == true) (.r (.sl (r2.map AE.row)))), none, []⟩, ⟨some 24, (fun _ => .whn ((((decide (r3 = 0)) && (decide ((r2.length : Int) = 2))) && (decide (x1.Char = 98))) == true) (.rop (AE.row x2) 0)), none, []⟩, ⟨some 25, (fun _ => .whn ((((decide (r3 = 0)) && (decide ((r2.length : Int) = 2))) && (decide (x1.Char = 98))) == true) (.rop (AE.row x2) 2)), none, []⟩, ⟨some 26, (fun _ => .whn ((((decide (r3 = 0)) && (decide ((r2.length : Int) = 2))) && (decide (x1.Char = 98))) == true) (.r (.sl (x2.Attrs.map AK.row)))), none, []⟩, ⟨some 27, (fun _ => .whn ((((decide (r3 = 0)) && (decide ((r2.length : Int) = 2))) && (decide (x1.Char = 98))) == true) (.r (.sl (r1.map AK.row)))), none, []⟩] FS (by kernel_rfl) (by exact ⟨fun _ _ h => ⟨rfl, fun _ _ e => by cases e⟩, fun _ _ h => ⟨rfl, fun _ _ e => by cases e⟩, fun _ _ h => ⟨rfl, fun _ _ e => by cases e⟩, fun _ _ h => ⟨rfl, fun _ _ e => by cases e⟩, fun _ _ h => ⟨rfl, fun _ _ e => by cases e⟩, fun _ _ h => ⟨rfl, fun _ _ e => by cases e⟩, fun _ _ h => ⟨rfl, fun _ _ e => by cases e⟩, fun _ _ h => ⟨rfl, fun _ _ e => by cases e⟩, fun _ _ h => ⟨rfl, fun _ _ e => by cases e⟩, fun _ _ h => ⟨rfl, fun _ _ e => by cases e⟩, fun _ _ h => ⟨rfl, fun _ _ e => by cases e⟩, fun _ _ h => ⟨rfl, fun _ _ e => by cases e⟩, fun _ _ h => ⟨rfl, fun _ _ e => by cases e⟩, fun _ _ h => ⟨rfl, fun _ _ e => by cases e⟩, fun _ _ h => ⟨rfl, fun _ _ e => by cases e⟩, fun _ _ h => ⟨rfl, fun _ _ e => by cases e⟩, fun _ _ h => ⟨rfl, fun _ _ e => by cases e⟩, fun _ _ h => ⟨rfl, fun _ _ e => by cases e⟩, fun _ _ h => ⟨rfl, fun _ _ e => by cases e⟩, fun _ _ h => ⟨rfl, fun _ _ e => by cases e⟩, trivial⟩) rfl (by exact ⟨DO (n1 := fun n => n) rfl rfl (by intro d h; cases h; rfl) rfl (fun _ => [(2, .r (.int .i64 r3))]) (fun _ => []) (fun D G1 hr => ⟨FM rfl rfl, trivial⟩) (fun D G1 hr => trivial) (fun _ _ => rfl) (fun G1 e h' n => AC (v := .r (.int .i64 r3)) (AD rfl (.inl rfl)) _),
      DO (n1 := fun n => n) rfl rfl (by intro d h; cases h; rfl) rfl (fun _ => [(8, .r (.int .i64 r3))]) (fun _ => []) (fun D G1 hr => ⟨Ai hr 0 rfl rfl (by kernel_rfl) rfl rfl, trivial⟩) (fun D G1 hr => trivial) (fun _ _ => rfl) (fun G1 e h' n => AC (v := .r (.bool (decide (r3 = 0)))) (BF rfl (.inl rfl) (.inl rfl)) _),
      DO (n1 := fun n => n) rfl rfl (by intro d h; cases h; rfl) rfl (fun _ => [(9, .r (.bool (decide (r3 = 0))))]) (fun _ => []) (fun D G1 hr => ⟨Ai hr 1 rfl rfl (by kernel_rfl) rfl rfl, trivial⟩) (fun D G1 hr => trivial) (fun _ _ => rfl) (fun G1 e h' n => AC (v := .r (.bool (decide (r3 = 0)))) (AD rfl (.inl rfl)) _),
      Bj (n1 := fun n => n) (c := ((decide (r3 = 0)) == true)) (v0 := fun _ => .r (.sl (r2.map AE.row))) rfl (by intro d h; cases h; rfl) rfl (fun _ => [(1, .r (.sl (r2.map AE.row))), (10, .r (.bool (decide (r3 = 0))))]) (fun _ => []) (fun D G1 hr => ⟨FM rfl rfl, Ai hr 2 rfl rfl (by kernel_rfl) rfl rfl, trivial⟩) (fun D G1 hr => trivial) (fun _ _ => rfl) (fun _ _ => (.one rfl rfl rfl)) (fun G1 e h' n => AC (v := .r (.sl (r2.map AE.row))) (AD rfl (.inl rfl)) _),
      Bj (n1 := fun n => n) (c := ((decide (r3 = 0)) == true)) (v0 := fun _ => .r (.int .i64 (r2.length : Int))) rfl (by intro d h; cases h; rfl) rfl (fun _ => [(10, .r (.bool (decide (r3 = 0)))), (11, .whn ((decide (r3 = 0)) == true) (.r (.sl (r2.map AE.row))))]) (fun _ => []) (fun D G1 hr => ⟨Ai hr 2 rfl rfl (by kernel_rfl) rfl rfl, Ai hr 3 rfl rfl (by kernel_rfl) rfl rfl, trivial⟩) (fun D G1 hr => trivial) (fun _ _ => rfl) (fun _ _ => (.one rfl rfl rfl)) (fun G1 e h' n => AC (v := .r (.int .i64 (r2.length : Int))) (BD rfl Am.slice (.inr ⟨_, (by exact id), rfl⟩)) _),
      Bj (n1 := fun n => n) (c := ((decide (r3 = 0)) == true)) (v0 := fun _ => .r (.bool (decide ((r2.length : Int) = 2)))) rfl (by intro d h; cases h; rfl) rfl (fun _ => [(10, .r (.bool (decide (r3 = 0)))), (12, .whn ((decide (r3 = 0)) == true) (.r (.int .i64 (r2.length : Int))))]) (fun _ => []) (fun D G1 hr => ⟨Ai hr 2 rfl rfl (by kernel_rfl) rfl rfl, Ai hr 4 rfl rfl (by kernel_rfl) rfl rfl, trivial⟩) (fun D G1 hr => trivial) (fun _ _ => rfl) (fun _ _ => (.one rfl rfl rfl)) (fun G1 e h' n => AC (v := .r (.bool (decide ((r2.length : Int) = 2)))) (BF rfl (.inr ⟨_, (by exact id), rfl⟩) (.inl rfl)) _),
      DO (n1 := fun n => n) rfl rfl (by intro d h; cases h; rfl) rfl (fun _ => [(10, .r (.bool (decide (r3 = 0)))), (13, .whn ((decide (r3 = 0)) == true) (.r (.bool (decide ((r2.length : Int) = 2)))))]) (fun _ => []) (fun D G1 hr => ⟨Ai hr 2 rfl rfl (by kernel_rfl) rfl rfl, Ai hr 5 rfl rfl (by kernel_rfl) rfl rfl, trivial⟩) (fun D G1 hr => trivial) (fun _ _ => rfl) (fun G1 e h' n => AC (v := .r (.bool ((decide (r3 = 0)) && (decide ((r2.length : Int) = 2))))) (Ad rfl (.inl rfl) (.inr ⟨_, (by exact id), rfl⟩)) _),
      DO (n1 := fun n => n) rfl rfl (by intro d h; cases h; rfl) rfl (fun _ => [(14, .r (.bool ((decide (r3 = 0)) && (decide ((r2.length : Int) = 2)))))]) (fun _ => []) (fun D G1 hr => ⟨Ai hr 6 rfl rfl (by kernel_rfl) rfl rfl, trivial⟩) (fun D G1 hr => trivial) (fun _ _ => rfl) (fun G1 e h' n => AC (v := .r (.bool ((decide (r3 = 0)) && (decide ((r2.length : Int) = 2))))) (AD rfl (.inl rfl)) _),
      Bj (n1 := fun n => n) (c := (((decide (r3 = 0)) && (decide ((r2.length : Int) = 2))) == true)) (v0 := fun _ => .r (.sl (r2.map AE.row))) rfl (by intro d h; cases h; rfl) rfl (fun _ => [(1, .r (.sl (r2.map AE.row))), (15, .r (.bool ((decide (r3 = 0)) && (decide ((r2.length : Int) = 2)))))]) (fun _ => []) (fun D G1 hr => ⟨FM rfl rfl, Ai hr 7 rfl rfl (by kernel_rfl) rfl rfl, trivial⟩) (fun D G1 hr => trivial) (fun _ _ => rfl) (fun _ _ => (.one rfl rfl rfl)) (fun G1 e h' n => AC (v := .r (.sl (r2.map AE.row))) (AD rfl (.inl rfl)) _),
      Bj (n1 := fun n => n) (c := (((decide (r3 = 0)) && (decide ((r2.length : Int) = 2))) == true)) (v0 := fun _ => .rop (AE.row x1) 0) rfl (by intro d h; cases h; rfl) rfl (fun _ => [(15, .r (.bool ((decide (r3 = 0)) && (decide ((r2.length : Int) = 2))))), (16, .whn (((decide (r3 = 0)) && (decide ((r2.length : Int) = 2))) == true) (.r (.sl (r2.map AE.row))))]) (fun _ => []) (fun D G1 hr => ⟨Ai hr 7 rfl rfl (by kernel_rfl) rfl rfl, Ai hr 8 rfl rfl (by kernel_rfl) rfl rfl, trivial⟩) (fun D G1 hr => trivial) (fun _ _ => rfl) (fun _ _ => (.one rfl rfl rfl)) (fun G1 e h' n => AC (v := .rop (AE.row x1) 0) (Ax rfl Am.slice (.inr ⟨_, (by exact id), rfl⟩) (.inl rfl) (fun _ => rfl) (Ak ex1)) _),
      Bj (n1 := fun n => n) (c := (((decide (r3 = 0)) && (decide ((r2.length : Int) = 2))) == true)) (v0 := fun _ => .rop (AE.row x1) 0) rfl (by intro d h; cases h; rfl) rfl (fun _ => [(15, .r (.bool ((decide (r3 = 0)) && (decide ((r2.length : Int) = 2))))), (17, .whn (((decide (r3 = 0)) && (decide ((r2.length : Int) = 2))) == true) (.rop (AE.row x1) 0))]) (fun _ => []) (fun D G1 hr => ⟨Ai hr 7 rfl rfl (by kernel_rfl) rfl rfl, Ai hr 9 rfl rfl (by kernel_rfl) rfl rfl, trivial⟩) (fun D G1 hr => trivial) (fun _ _ => rfl) (fun _ _ => (.one rfl rfl rfl)) (fun G1 e h' n => AC (v := .rop (AE.row x1) 0) (Bu rfl B3 (.inr ⟨_, (by exact id), rfl⟩)) _),
      Bj (n1 := fun n => n) (c := (((decide (r3 = 0)) && (decide ((r2.length : Int) = 2))) == true)) (v0 := fun _ => .r (.int .i64 x1.Char)) rfl (by intro d h; cases h; rfl) rfl (fun _ => [(15, .r (.bool ((decide (r3 = 0)) && (decide ((r2.length : Int) = 2))))), (18, .whn (((decide (r3 = 0)) && (decide ((r2.length : Int) = 2))) == true) (.rop (AE.row x1) 0))]) (fun _ => []) (fun D G1 hr => ⟨Ai hr 7 rfl rfl (by kernel_rfl) rfl rfl, Ai hr 10 rfl rfl (by kernel_rfl) rfl rfl, trivial⟩) (fun D G1 hr => trivial) (fun _ _ => rfl) (fun _ _ => (.one rfl rfl rfl)) (fun G1 e h' n => AC (v := .r (.int .i64 x1.Char)) (BS (d := .int .i64 x1.Char) rfl Aw (.inr ⟨_, (by exact id), rfl⟩) rfl) _),
      Bj (n1 := fun n => n) (c := (((decide (r3 = 0)) && (decide ((r2.length : Int) = 2))) == true)) (v0 := fun _ => .r (.bool (decide (x1.Char = 98)))) rfl (by intro d h; cases h; rfl) rfl (fun _ => [(15, .r (.bool ((decide (r3 = 0)) && (decide ((r2.length : Int) = 2))))), (19, .whn (((decide (r3 = 0)) && (decide ((r2.length : Int) = 2))) == true) (.r (.int .i64 x1.Char)))]) (fun _ => []) (fun D G1 hr => ⟨Ai hr 7 rfl rfl (by kernel_rfl) rfl rfl, Ai hr 11 rfl rfl (by kernel_rfl) rfl rfl, trivial⟩) (fun D G1 hr => trivial) (fun _ _ => rfl) (fun _ _ => (.one rfl rfl rfl)) (fun G1 e h' n => AC (v := .r (.bool (decide (x1.Char = 98)))) (BF rfl (.inr ⟨_, (by exact id), rfl⟩) (.inl rfl)) _),
      DO (n1 := fun n => n) rfl rfl (by intro d h; cases h; rfl) rfl (fun _ => [(15, .r (.bool ((decide (r3 = 0)) && (decide ((r2.length : Int) = 2))))), (20, .whn (((decide (r3 = 0)) && (decide ((r2.length : Int) = 2))) == true) (.r (.bool (decide (x1.Char = 98)))))]) (fun _ => []) (fun D G1 hr => ⟨Ai hr 7 rfl rfl (by kernel_rfl) rfl rfl, Ai hr 12 rfl rfl (by kernel_rfl) rfl rfl, trivial⟩) (fun D G1 hr => trivial) (fun _ _ => rfl) (fun G1 e h' n => AC (v := .r (.bool (((decide (r3 = 0)) && (decide ((r2.length : Int) = 2))) && (decide (x1.Char = 98))))) (Ad rfl (.inl rfl) (.inr ⟨_, (by exact id), rfl⟩)) _),
      DO (n1 := fun n => n) rfl rfl (by intro d h; cases h; rfl) rfl (fun _ => [(21, .r (.bool (((decide (r3 = 0)) && (decide ((r2.length : Int) = 2))) && (decide (x1.Char = 98)))))]) (fun _ => []) (fun D G1 hr => ⟨Ai hr 13 rfl rfl (by kernel_rfl) rfl rfl, trivial⟩) (fun D G1 hr => trivial) (fun _ _ => rfl) (fun G1 e h' n => AC (v := .r (.bool (((decide (r3 = 0)) && (decide ((r2.length : Int) = 2))) && (decide (x1.Char = 98))))) (AD rfl (.inl rfl)) _),
      Bj (n1 := fun n => n) (c := ((((decide (r3 = 0)) && (decide ((r2.length : Int) = 2))) && (decide (x1.Char = 98))) == true)) (v0 := fun _ => .r (.sl (r2.map AE.row))) rfl (by intro d h; cases h; rfl) rfl (fun _ => [(1, .r (.sl (r2.map AE.row))), (22, .r (.bool (((decide (r3 = 0)) && (decide ((r2.length : Int) = 2))) && (decide (x1.Char = 98)))))]) (fun _ => []) (fun D G1 hr => ⟨FM rfl rfl, Ai hr 14 rfl rfl (by kernel_rfl) rfl rfl, trivial⟩) (fun D G1 hr => trivial) (fun _ _ => rfl) (fun _ _ => (.one rfl rfl rfl)) (fun G1 e h' n => AC (v := .r (.sl (r2.map AE.row))) (AD rfl (.inl rfl)) _),
      Bj (n1 := fun n => n) (c := ((((decide (r3 = 0)) && (decide ((r2.length : Int) = 2))) && (decide (x1.Char = 98))) == true)) (v0 := fun _ => .rop (AE.row x2) 0) rfl (by intro d h; cases h; rfl) rfl (fun _ => [(22, .r (.bool (((decide (r3 = 0)) && (decide ((r2.length : Int) = 2))) && (decide (x1.Char = 98))))), (23, .whn ((((decide (r3 = 0)) && (decide ((r2.length : Int) = 2))) && (decide (x1.Char = 98))) == true) (.r (.sl (r2.map AE.row))))]) (fun _ => []) (fun D G1 hr => ⟨Ai hr 14 rfl rfl (by kernel_rfl) rfl rfl, Ai hr 15 rfl rfl (by kernel_rfl) rfl rfl, trivial⟩) (fun D G1 hr => trivial) (fun _ _ => rfl) (fun _ _ => (.one rfl rfl rfl)) (fun G1 e h' n => AC (v := .rop (AE.row x2) 0) (Ax rfl Am.slice (.inr ⟨_, (by exact id), rfl⟩) (.inl rfl) (fun _ => rfl) (Ak ex2)) _),
      Bj (n1 := fun n => n) (c := ((((decide (r3 = 0)) && (decide ((r2.length : Int) = 2))) && (decide (x1.Char = 98))) == true)) (v0 := fun _ => .rop (AE.row x2) 2) rfl (by intro d h; cases h; rfl) rfl (fun _ => [(22, .r (.bool (((decide (r3 = 0)) && (decide ((r2.length : Int) = 2))) && (decide (x1.Char = 98))))), (24, .whn ((((decide (r3 = 0)) && (decide ((r2.length : Int) = 2))) && (decide (x1.Char = 98))) == true) (.rop (AE.row x2) 0))]) (fun _ => []) (fun D G1 hr => ⟨Ai hr 14 rfl rfl (by kernel_rfl) rfl rfl, Ai hr 16 rfl rfl (by kernel_rfl) rfl rfl, trivial⟩) (fun D G1 hr => trivial) (fun _ _ => rfl) (fun _ _ => (.one rfl rfl rfl)) (fun G1 e h' n => AC (v := .rop (AE.row x2) 2) (Bu rfl G3 (.inr ⟨_, (by exact id), rfl⟩)) _),
      Bj (n1 := fun n => n) (c := ((((decide (r3 = 0)) && (decide ((r2.length : Int) = 2))) && (decide (x1.Char = 98))) == true)) (v0 := fun _ => .r (.sl (x2.Attrs.map AK.row))) rfl (by intro d h; cases h; rfl) rfl (fun _ => [(22, .r (.bool (((decide (r3 = 0)) && (decide ((r2.length : Int) = 2))) && (decide (x1.Char = 98))))), (25, .whn ((((decide (r3 = 0)) && (decide ((r2.length : Int) = 2))) && (decide (x1.Char = 98))) == true) (.rop (AE.row x2) 2))]) (fun _ => []) (fun D G1 hr => ⟨Ai hr 14 rfl rfl (by kernel_rfl) rfl rfl, Ai hr 17 rfl rfl (by kernel_rfl) rfl rfl, trivial⟩) (fun D G1 hr => trivial) (fun _ _ => rfl) (fun _ _ => (.one rfl rfl rfl)) (fun G1 e h' n => AC (v := .r (.sl (x2.Attrs.map AK.row))) (BS (d := .sl (x2.Attrs.map AK.row)) rfl H3 (.inr ⟨_, (by exact id), rfl⟩) rfl) _),
      Bj (n1 := fun n => n) (c := ((((decide (r3 = 0)) && (decide ((r2.length : Int) = 2))) && (decide (x1.Char = 98))) == true)) (v0 := fun _ => .r (.sl (r1.map AK.row))) rfl (by intro d h; cases h; rfl) rfl (fun _ => [(22, .r (.bool (((decide (r3 = 0)) && (decide ((r2.length : Int) = 2))) && (decide (x1.Char = 98)))))]) (fun _ => []) (fun D G1 hr => ⟨Ai hr 14 rfl rfl (by kernel_rfl) rfl rfl, trivial⟩) (fun D G1 hr => trivial) (fun _ _ => rfl) (fun _ _ => (.one rfl rfl rfl)) (fun G1 e h' n => Ga (r := .r (.sl (r1.map AK.row))) (caps := []) (bs := [.r (.str [98, 111, 108, 100])]) rfl (.inl rfl) rfl ⟨.inl ⟨(.inl rfl), rfl⟩, trivial⟩ (fun hg => HY (er1))),
      trivial⟩) fun G1 n1 => ?_
  refine AA.weak (s' := ⟨[(0, .r (.bool false)), (1, .r (.sl (r2.map AE.row))), (2, .r (.int .i64 r3)), (3, .tup [.r (.sl (r2.map AE.row)), .r (.int .i64 r3)]), (4, .r (.sl (r1.map AK.row))), (5, .tup [.r (.sl (r2.map AE.row)), .r (.int .i64 r3)]), (6, .r (.sl (r2.map AE.row))), (7, .r (.int .i64 r3)), (8, .r (.int .i64 r3)), (9, .r (.bool (decide (r3 = 0)))), (10, .r (.bool (decide (r3 = 0)))), (11, .whn ((decide (r3 = 0)) == true) (.r (.sl (r2.map AE.row)))), (12, .whn ((decide (r3 = 0)) == true) (.r (.int .i64 (r2.length : Int)))), (13, .whn ((decide (r3 = 0)) == true) (.r (.bool (decide ((r2.length : Int) = 2))))), (14, .r (.bool ((decide (r3 = 0)) && (decide ((r2.length : Int) = 2))))), (15, .r (.bool ((decide (r3 = 0)) && (decide ((r2.length : Int) = 2))))), (16, .whn (((decide (r3 = 0)) && (decide ((r2.length : Int) = 2))) == true) (.r (.sl (r2.map AE.row)))), (17, .whn (((decide (r3 = 0)) && (decide ((r2.length : Int) = 2))) == true) (.rop (AE.row x1) 0)), (18, .whn (((decide (r3 = 0)) && (decide ((r2.length : Int) = 2))) == true) (.rop (AE.row x1) 0)), (19, .whn (((decide (r3 = 0)) && (decide ((r2.length : Int) = 2))) == true) (.r (.int .i64 x1.Char))), (20, .whn (((decide (r3 = 0)) && (decide ((r2.length : Int) = 2))) == true) (.r (.bool (decide (x1.Char = 98))))), (21, .r (.bool (((decide (r3 = 0)) && (decide ((r2.length : Int) = 2))) && (decide (x1.Char = 98))))), (22, .r (.bool (((decide (r3 = 0)) && (decide ((r2.length : Int) = 2))) && (decide (x1.Char = 98))))), (23, .whn ((((decide (r3 = 0)) && (decide ((r2.length : Int) = 2))) && (decide (x1.Char = 98))) == true) (.r (.sl (r2.map AE.row)))), (24, .whn ((((decide (r3 = 0)) && (decide ((r2.length : Int) = 2))) && (decide (x1.Char = 98))) == true) (.rop (AE.row x2) 0)), (25, .whn ((((decide (r3 = 0)) && (decide ((r2.length : Int) = 2))) && (decide (x1.Char = 98))) == true) (.rop (AE.row x2) 2)), (26, .whn ((((decide (r3 = 0)) && (decide ((r2.length : Int) = 2))) && (decide (x1.Char = 98))) == true) (.r (.sl (x2.Attrs.map AK.row)))), (27, .whn ((((decide (r3 = 0)) && (decide ((r2.length : Int) = 2))) && (decide (x1.Char = 98))) == true) (.r (.sl (r1.map AK.row))))], [], n1, 34⟩) (by exact AM ⟨.inl (.inl rfl), .inl (.inl rfl), .inl (.inl rfl), .inl (.inl rfl), .inl (.inl rfl), .inl (.inl rfl), .inl (.inl rfl), .inl (.inl rfl), .inl (.inl rfl), .inl (.inl rfl), .inl (.inl rfl), .inl (.inl rfl), .inl (.inl rfl), .inl (.inl rfl), .inl (.inl rfl), .inl (.inl rfl), .inl (.inl rfl), .inl (.inl rfl), .inl (.inl rfl), .inl (.inl rfl), .inl (.inl rfl), .inl (.inl rfl), .inl (.inl rfl), .inl (.inl rfl), .inl (.inl rfl), .inl (.inl rfl), .inl (.inl rfl), .inl (.inl rfl), trivial⟩ trivial (Nat.le_refl _)) ?_
  refine AR h4 fun r5 er5 h5 => ?_
  refine AA.stepW (.one rfl rfl rfl) rfl rfl (Ap (r := .r (.bool r5)) (caps := []) (bs := [.r (.sl (x2.Attrs.map AK.row)), .r (.sl (r1.map AK.row))]) rfl (.inl rfl) rfl ⟨⟨_, (.inr ⟨_, (by exact id), rfl⟩), .d rfl⟩, ⟨_, (.inr ⟨_, (by exact id), rfl⟩), .d rfl⟩, trivial⟩ (fun hg => Kq (Ak er5 hg)) rfl) ?_
  refine AA.step rfl rfl rfl (AC (Ad rfl (.inl rfl) (.inr ⟨_, (by exact id), rfl⟩)) _) ?_
  refine AA.step rfl rfl rfl (AC (AD rfl (.inl rfl)) _) ?_
  refine AR h5 fun r6 er6 h6 => ?_
  refine AA.stepW (.one rfl rfl rfl) rfl rfl (Ap (r := .r (.int .i64 r6)) (caps := []) (bs := [.r (.sl []), .r (.bool true)]) rfl (.inl rfl) rfl ⟨⟨_, (.inl rfl), .one .nil⟩, ⟨_, (.inl rfl), .d rfl⟩, trivial⟩ (fun hg => JD (Ak er6 hg)) rfl) ?_
  refine AA.stepW (.one rfl rfl rfl) rfl rfl (AC (BF rfl (.inr ⟨_, (by exact id), rfl⟩) (.inl rfl)) _) ?_
  refine AA.step rfl rfl rfl (AC (Ad rfl (.inl rfl) (.inr ⟨_, (by exact id), rfl⟩)) _) ?_
  refine AA.step rfl rfl rfl (AC (AI rfl (.inl rfl)) _) ?_
  refine AA.nil ?_
  refine hK3 _ ?_
  refine AW.ret ?_
  exact Ae (P := Tryd.prog) (fun (r : Bool) => .r (.bool r)) h6 (.inl rfl) (.t (.d rfl))
theorem LI {f1 : List AE} {r : (List AE)} (h : FW f1 = some r) : BA Tryd.prog 5 1 [.r (.sl (f1.map AE.row))] [] (fun rr h' => ∃ (i : Nat → Nat), rr = .fn 13 [.ptr 1000 (i 0) 0 0] ∧ h' = [(1000, some (.box (i 0) 22 [.r (.sl (r.map AE.row))]))]) := by
  unfold FW at h
  refine Fm Tryd.func5 rfl rfl Tryd.ntmps5 (Nat.le_of_ble_eq_true rfl) fun n0 => ?_
  refine AF fun K1 hK1 wK1 => ?_
  refine AW.region ?_
  refine AA.step rfl rfl rfl (Ey (cs := [.r (.sl (f1.map AE.row))]) 1000 rfl (.inl rfl) rfl rfl) ?_
  refine AA.step rfl rfl rfl (AC (AI rfl (.inl rfl)) _) ?_
  refine AA.nil ?_
  refine hK1 _ ?_
  refine AF fun K2 hK2 wK2 => ?_
  refine AW.region ?_
  refine AA.step rfl rfl rfl (AC (IC (bs := [.ptr 1000 n0 0 0]) rfl (by exact ⟨(.inl rfl), trivial⟩)) _) ?_
  refine AA.step rfl rfl rfl (AC (AI rfl (.inl rfl)) _) ?_
  refine AA.nil ?_
  refine hK2 _ ?_
  refine AW.ret ?_
  exact CA.mk (s' := ⟨[(2, .fn 13 [.ptr 1000 n0 0 0])], [(1000, some (.box n0 22 [.r (.sl (f1.map AE.row))]))], (n0 + 1), 4⟩) ((by exact AM ⟨.inl (.inl rfl), trivial⟩ ⟨.inl rfl, trivial⟩ (Nat.le_refl _))) (Dd (fun (r : (List AE)) rr h' => ∃ (i : Nat → Nat), rr = .fn 13 [.ptr 1000 (i 0) 0 0] ∧ h' = [(1000, some (.box (i 0) 22 [.r (.sl (r.map AE.row))]))]) h (by exact ⟨.fn 13 [.ptr 1000 n0 0 0], [(1000, some (.box n0 22 [.r (.sl (f1.map AE.row))]))], rfl, ⟨.inr rfl, trivial⟩, rfl, rfl, AU [n0], rfl, rfl⟩))
theorem JC {A1 : List (List RV) → Option Bool} {ys1 : List (List RV)} {c1 : List AE} {r : (List (List RV))} {gb1000 : Nat} {gb1001 : Nat} {W1 : B2} (h : DW A1 ys1 c1 = some r) (hW : W1.P = Tryd.prog ∧ W1.A = A1) : BA Tryd.prog 13 2 [.yld 1000 gb1000, .ptr 1001 gb1001 0 0] [(1000, some (.cal gb1000 W1 ys1)), (1001, some (.box gb1001 22 [.r (.sl (c1.map AE.row))]))] (fun rr h' => ∃ (i : Nat → Nat), rr = .tup [] ∧ h' = [(1000, some (.cal gb1000 W1 r)), (1001, some (.box gb1001 22 [.r (.sl (c1.map AE.row))]))]) := by
  unfold DW at h
  refine Fm Tryd.func13 rfl rfl Tryd.ntmps13 (Nat.le_of_ble_eq_true rfl) fun n0 => ?_
  refine AF fun K1 hK1 wK1 => ?_
  refine AW.region ?_
  refine AA.step rfl rfl rfl (AC (AI rfl (.inl rfl)) _) ?_
  refine AA.nil ?_
  refine hK1 _ ?_
  refine AF fun K2 hK2 wK2 => ?_
  refine AW.region ?_
  refine AA.step rfl rfl rfl (AC (Ao (a := .r (.sl (c1.map AE.row))) rfl C7 (.inl rfl) rfl rfl) _) ?_
  refine AA.step rfl rfl rfl (AC (BD rfl Am.slice (.inl rfl)) _) ?_
  refine AA.step rfl rfl rfl (AC (AD rfl (.inl rfl)) _) ?_
  refine AA.nil ?_
  refine hK2 _ ?_
  refine AW.block ?_
  refine Cd h fun o1 hit1 hk1 he1 => ?_
  refine Fq (fun (from2 : Int) (x2 : Int) (ys3 : List (List RV)) i3 => ⟨[(0, .yld 1000 gb1000), (3, .r (.int .i64 from2)), (6, .r (.sl (c1.map AE.row))), (7, .r (.int .i64 (c1.length : Int))), (8, .r (.int .i64 x2))], [(1000, some (.cal gb1000 W1 ys3)), (1001, some (.box gb1001 22 [.r (.sl (c1.map AE.row))]))], (i3 0), 30⟩) (AU [n0]) hit1 ((by exact AM ⟨.inl (.inl rfl), .inl (.inl rfl), .inl (.inl rfl), .inl (.inl rfl), .inl (.inl rfl), trivial⟩ ⟨.inl rfl, .inl rfl, trivial⟩ (Nat.le_refl _))) ?_
  intro from2 x2 ys3 i3 v1 hv1 hx1
  have h1 : Bw A1 c1 from2 x2 ys3 = some v1 := hv1; unfold Bw at h1
  refine AF fun K3 hK3 wK3 => ?_
  refine AW.region ?_
  refine AA.step rfl rfl rfl (AC (Ah rfl (.inl rfl) (.inl rfl)) _) ?_
  refine AA.nil ?_
  refine hK3 _ ?_
  refine AF fun K4 hK4 wK4 => ?_
  refine AW.cond rfl (fun hc1 => ?_) (fun hc1 => ?_)
  · have h2 := AZ hc1 h1
    refine AW.skip ?_
    refine hK4 _ ?_
    refine AF fun K5 hK5 wK5 => ?_
    refine AW.block ?_
    refine Hw h2 fun p1 hp1 hk2 he2 => ?_
    have J2 : ∀ (from4 : Int) (ys5 : List (List RV)) (i5 : Nat → Nat), p1 = .nrm (from4, ys5) → K5 ⟨[(0, .yld 1000 gb1000), (3, .r (.int .i64 from4)), (6, .r (.sl (c1.map AE.row))), (7, .r (.int .i64 (c1.length : Int))), (8, .r (.int .i64 x2))], [(1000, some (.cal gb1000 W1 ys5)), (1001, some (.box gb1001 22 [.r (.sl (c1.map AE.row))]))], (i5 0), 30⟩ := by
      intro from4 ys5 i5 e
      have h3 := hk2 _ _ e
      refine hK5 _ ?_
      refine AW.region ?_
      refine AR h3 fun x4 ex4 h4 => ?_
      refine AA.step rfl rfl rfl (AC (BB rfl (.inl rfl) (.inl rfl) (fun _ => ex4)) _) ?_
      refine AA.step rfl rfl rfl (AC (AD rfl (.inl rfl)) _) ?_
      refine AA.nil ?_
      exact DC.mk h4 (AU [(i5 0)]) ((by exact AM ⟨.inl (.inl rfl), .inl (.inl rfl), .inl (.inl rfl), .inl (.inl rfl), .inl (.inl rfl), trivial⟩ ⟨.inl rfl, .inl rfl, trivial⟩ (Nat.le_refl _)))
    refine AF fun K6 hK6 wK6 => ?_
    refine AW.region ?_
    refine AA.step rfl rfl rfl (AC (AD rfl (.inl rfl)) _) ?_
    refine AR hp1 fun x5 ex5 h5 => ?_
    refine AA.step rfl rfl rfl (AC (Ax rfl Am.slice (.inl rfl) (.inl rfl) (fun _ => rfl) (fun _ => ex5)) _) ?_
    refine AA.step rfl rfl rfl (AC (CW (cs := [.r (.int .i64 x5.Char), .r (.int .i64 x5.Ref), .r (.sl (x5.Attrs.map AK.row))]) rfl DJ (.inl rfl) rfl rfl) _) ?_
    refine AA.step rfl rfl rfl (DY (cs := [.r (.int .i64 0), .r (.int .i64 0), .cst (.slice none 0 0)]) 5 rfl IG rfl rfl) ?_
    refine AA.step rfl rfl rfl (AC (AI rfl (.inl rfl)) _) ?_
    refine Du rfl rfl (Df (ds := [.r (.int .i64 x5.Char), .r (.int .i64 x5.Ref), .r (.sl (x5.Attrs.map AK.row))]) rfl G8 (.inl rfl) rfl (.inl rfl) rfl rfl rfl rfl) ?_
    refine AA.nil ?_
    refine hK6 _ ?_
    refine AF fun K7 hK7 wK7 => ?_
    refine AF fun K8 hK8 wK8 => ?_
    refine AW.region ?_
    refine AA.step rfl rfl rfl (AC (BE (ob := .box _ _ _) rfl B3 (.inl rfl) (fun _ => rfl) rfl) _) ?_
    refine AA.step rfl rfl rfl (AC (Ao (a := .r (.int .i64 x5.Char)) rfl Aw (.inl rfl) rfl rfl) _) ?_
    refine AA.step rfl rfl rfl (AC (Bb rfl (.inl rfl) (.inl rfl)) _) ?_
    refine AA.step rfl rfl rfl (AC (AD rfl (.inl rfl)) _) ?_
    refine AA.stepW (.one rfl rfl rfl) rfl rfl (AC (BE (ob := .box _ _ _) rfl CG (.inl rfl) (fun _ => rfl) rfl) _) ?_
    refine AA.stepW (.one rfl rfl rfl) rfl rfl (AC (Ao (a := .r (.int .i64 x5.Ref)) rfl Aw (.inr ⟨_, (by exact id), rfl⟩) rfl rfl) _) ?_
    refine AA.stepW (.one rfl rfl rfl) rfl rfl (AC (Bb rfl (.inr ⟨_, (by exact id), rfl⟩) (.inl rfl)) _) ?_
    refine AA.step rfl rfl rfl (AC (As rfl (.inl rfl) (.inr ⟨_, (by exact id), rfl⟩)) _) ?_
    refine AA.nil ?_
    refine hK8 _ ?_
    refine AW.cond rfl (fun hc2 => ?_) (fun hc2 => ?_)
    · have h6 := AZ hc2 h5
      refine AW.exit ?_
      exact wK5 _ _ ((by exact AM ⟨.inl (.inl rfl), .inl (.inl rfl), .inl (.inl rfl), .inl (.inl rfl), .inl (.inl rfl), trivial⟩ ⟨.inl rfl, .inl rfl, trivial⟩ (Nat.le_refl _))) (J2 _ _ (AU [((i3 0) + 1)]) (Option.some.inj h6).symm)
    · have h6 := Aa hc2 h5
      refine AW.skip ?_
      refine hK7 _ ?_
      refine AF fun K9 hK9 wK9 => ?_
      refine AF fun K10 hK10 wK10 => ?_
      refine AW.weak (s' := ⟨[(0, .yld 1000 gb1000), (3, .r (.int .i64 from2)), (4, .r (.int .i64 x2)), (6, .r (.sl (c1.map AE.row))), (7, .r (.int .i64 (c1.length : Int))), (8, .r (.int .i64 x2))], [(1000, some (.cal gb1000 W1 ys3)), (1001, some (.box gb1001 22 [.r (.sl (c1.map AE.row))]))], ((i3 0) + 1), 30⟩) (by exact AM ⟨.inl (.inl rfl), .inl (.inl rfl), .inl (.inl rfl), .inl (.inl rfl), .inl (.inl rfl), .inl (.inl rfl), trivial⟩ ⟨.inl rfl, .inl rfl, trivial⟩ (Nat.le_refl _)) ?_
      refine Im ?_
      refine Ar.step rfl rfl rfl (AC (AD rfl (.inl rfl)) _) ?_
      refine Ar.step rfl rfl rfl (AC (AD rfl (.inl rfl)) _) ?_
      refine Ar.step rfl rfl rfl (AC (AD rfl (.inl rfl)) _) ?_
      refine AR h6 fun x6 ex6 h7 => ?_
      refine Ar.step rfl rfl rfl (AC (BB rfl (.inl rfl) (.inl rfl) (fun _ => ex6)) _) ?_
      refine AR h7 fun c2 ec2 h8 => ?_
      refine Ip (W := W1) (y := [.int .i64 from2, .int .i64 x6]) hW.1 rfl rfl rfl rfl (.inl rfl) ⟨(.inl rfl), (.inl rfl), trivial⟩ rfl rfl (by rw [hW.2]; exact ec2) ?_
      refine Ar.step rfl rfl rfl (AC (Bk rfl (.inl rfl)) _) ?_
      refine Ar.nil ?_
      refine hK10 _ ?_
      refine AW.cond rfl (fun hc3 => ?_) (fun hc3 => ?_)
      · have h9 := AZ hc3 h8
        refine AW.ret ?_
        exact CA.mk (s' := ⟨[], [(1000, some (.cal gb1000 W1 (ys3 ++ [[.int .i64 from2, .int .i64 x6]]))), (1001, some (.box gb1001 22 [.r (.sl (c1.map AE.row))]))], ((i3 0) + 1), 30⟩) ((by exact AM trivial ⟨.inl rfl, .inl rfl, trivial⟩ (Nat.le_refl _))) (Dd (fun (r : (List (List RV))) rr h' => ∃ (i : Nat → Nat), rr = .tup [] ∧ h' = [(1000, some (.cal gb1000 W1 r)), (1001, some (.box gb1001 22 [.r (.sl (c1.map AE.row))]))]) (he1 _ (hx1 _ (Option.some.inj (he2 _ (Option.some.inj h9).symm)).symm)) (by exact ⟨.tup [], [(1000, some (.cal gb1000 W1 (ys3 ++ [[.int .i64 from2, .int .i64 x6]]))), (1001, some (.box gb1001 22 [.r (.sl (c1.map AE.row))]))], ⟨_, rfl, trivial⟩, ⟨.inr rfl, .inr rfl, trivial⟩, rfl, rfl, AU [], rfl, rfl⟩))
      · have h9 := Aa hc3 h8
        refine AW.skip ?_
        refine hK9 _ ?_
        refine AW.region ?_
        refine AA.step rfl rfl rfl (AC (AD rfl (.inl rfl)) _) ?_
        refine AA.step rfl rfl rfl (AC (BB rfl (.inl rfl) (.inl rfl) (fun _ => ex6)) _) ?_
        refine AA.step rfl rfl rfl (AC (AI rfl (.inl rfl)) _) ?_
        refine AA.nil ?_
        exact wK5 _ _ ((by exact AM ⟨.inl (.inl rfl), .inl (.inl rfl), .inl (.inl rfl), .inl (.inl rfl), .inl (.inl rfl), trivial⟩ ⟨.inl rfl, .inl rfl, trivial⟩ (Nat.le_refl _))) (J2 _ _ (AU [((i3 0) + 1)]) (Option.some.inj h9).symm)
  · have h2 := Aa hc1 h1
    refine AW.exit ?_
    exact CA.mk (s' := ⟨[], [(1000, some (.cal gb1000 W1 ys3)), (1001, some (.box gb1001 22 [.r (.sl (c1.map AE.row))]))], (i3 0), 30⟩) ((by exact AM trivial ⟨.inl rfl, .inl rfl, trivial⟩ (Nat.le_refl _))) (Dd (fun (r : (List (List RV))) rr h' => ∃ (i : Nat → Nat), rr = .tup [] ∧ h' = [(1000, some (.cal gb1000 W1 r)), (1001, some (.box gb1001 22 [.r (.sl (c1.map AE.row))]))]) (he1 _ (hx1 _ (Option.some.inj h2).symm)) (by exact ⟨.tup [], [(1000, some (.cal gb1000 W1 ys3)), (1001, some (.box gb1001 22 [.r (.sl (c1.map AE.row))]))], ⟨_, rfl, trivial⟩, ⟨.inr rfl, .inr rfl, trivial⟩, rfl, rfl, AU [], rfl, rfl⟩))
theorem KV {f1 : List AE} {r : (List AE)} (h : Ex f1 = some r) : BA Tryd.prog 6 1 [.r (.sl (f1.map AE.row))] [] (fun rr h' => ∃ (i : Nat → Nat), rr = .fn 14 [.ptr 1000 (i 0) 0 0] ∧ h' = [(1000, some (.box (i 0) 22 [.r (.sl (r.map AE.row))]))]) := by
  unfold Ex at h
  refine Fm Tryd.func6 rfl rfl Tryd.ntmps6 (Nat.le_of_ble_eq_true rfl) fun n0 => ?_
  refine AF fun K1 hK1 wK1 => ?_
  refine AW.region ?_
  refine AA.step rfl rfl rfl (Ey (cs := [.r (.sl (f1.map AE.row))]) 1000 rfl (.inl rfl) rfl rfl) ?_
  refine AA.step rfl rfl rfl (AC (AI rfl (.inl rfl)) _) ?_
  refine AA.nil ?_
  refine hK1 _ ?_
  refine AF fun K2 hK2 wK2 => ?_
  refine AW.region ?_
  refine AA.step rfl rfl rfl (AC (IC (bs := [.ptr 1000 n0 0 0]) rfl (by exact ⟨(.inl rfl), trivial⟩)) _) ?_
  refine AA.step rfl rfl rfl (AC (AI rfl (.inl rfl)) _) ?_
  refine AA.nil ?_
  refine hK2 _ ?_
  refine AW.ret ?_
  exact CA.mk (s' := ⟨[(2, .fn 14 [.ptr 1000 n0 0 0])], [(1000, some (.box n0 22 [.r (.sl (f1.map AE.row))]))], (n0 + 1), 4⟩) ((by exact AM ⟨.inl (.inl rfl), trivial⟩ ⟨.inl rfl, trivial⟩ (Nat.le_refl _))) (Dd (fun (r : (List AE)) rr h' => ∃ (i : Nat → Nat), rr = .fn 14 [.ptr 1000 (i 0) 0 0] ∧ h' = [(1000, some (.box (i 0) 22 [.r (.sl (r.map AE.row))]))]) h (by exact ⟨.fn 14 [.ptr 1000 n0 0 0], [(1000, some (.box n0 22 [.r (.sl (f1.map AE.row))]))], rfl, ⟨.inr rfl, trivial⟩, rfl, rfl, AU [n0], rfl, rfl⟩))
theorem IS {n1 : Int} {r : Bool} (h : Dl n1 = some r) : AX Tryd.prog 16 [.r (.int .i32 n1)] (.r (.bool r)) := by
  unfold Dl at h
  exact Lg HG rfl rfl rfl (by kernel_rfl) ⟨_, Tryd.func16, rfl, rfl⟩ h
theorem G0 {n1 : Int} {r : Bool} (h : DS n1 = some r) : AX Tryd.prog 17 [.r (.int .i32 n1)] (.r (.bool r)) := by
  unfold DS at h
  exact Lf H9 rfl rfl ⟨_, Tryd.func17, rfl, rfl⟩ h
theorem LL {A1 : List (List RV) → Option Bool} {ys1 : List (List RV)} {c1 : List AE} {r : (List (List RV))} {gb1000 : Nat} {gb1001 : Nat} {W1 : B2} (h : Dr A1 ys1 c1 = some r) (hW : W1.P = Tryd.prog ∧ W1.A = A1) : BA Tryd.prog 14 2 [.yld 1000 gb1000, .ptr 1001 gb1001 0 0] [(1000, some (.cal gb1000 W1 ys1)), (1001, some (.box gb1001 22 [.r (.sl (c1.map AE.row))]))] (fun rr h' => ∃ (i : Nat → Nat), rr = .tup [] ∧ h' = [(1000, some (.cal gb1000 W1 r)), (1001, some (.box gb1001 22 [.r (.sl (c1.map AE.row))]))]) := by
  unfold Dr at h
  refine Fm Tryd.func14 rfl rfl Tryd.ntmps14 (Nat.le_of_ble_eq_true rfl) fun n0 => ?_
  refine AF fun K1 hK1 wK1 => ?_
  refine AW.region ?_
  refine AA.step rfl rfl rfl (AC (AI rfl (.inl rfl)) _) ?_
  refine AA.nil ?_
  refine hK1 _ ?_
  refine AF fun K2 hK2 wK2 => ?_
  refine AW.region ?_
  refine AA.step rfl rfl rfl (AC (Ao (a := .r (.sl (c1.map AE.row))) rfl C7 (.inl rfl) rfl rfl) _) ?_
  refine AA.step rfl rfl rfl (AC (BD rfl Am.slice (.inl rfl)) _) ?_
  refine AR h fun x1 ex1 h1 => ?_
  refine AA.step rfl rfl rfl (AC (BB rfl (.inl rfl) (.inl rfl) (fun _ => ex1)) _) ?_
  refine AA.step rfl rfl rfl (AC (AD rfl (.inl rfl)) _) ?_
  refine AA.nil ?_
  refine hK2 _ ?_
  refine AW.block ?_
  refine Cd h1 fun o1 hit1 hk1 he1 => ?_
  refine Fq (fun (from2 : Int) (x3 : Int) (ys3 : List (List RV)) i3 => ⟨[(0, .yld 1000 gb1000), (1, .ptr 1001 gb1001 0 0), (3, .r (.int .i64 from2)), (8, .r (.int .i64 x1)), (9, .r (.int .i64 x3))], [(1000, some (.cal gb1000 W1 ys3)), (1001, some (.box gb1001 22 [.r (.sl (c1.map AE.row))]))], (i3 0), 70⟩) (AU [n0]) hit1 ((by exact AM ⟨.inl (.inl rfl), .inl (.inl rfl), .inl (.inl rfl), .inl (.inl rfl), .inl (.inl rfl), trivial⟩ ⟨.inl rfl, .inl rfl, trivial⟩ (Nat.le_refl _))) ?_
  intro from2 x3 ys3 i3 v1 hv1 hx1
  have h2 : CX A1 c1 x1 from2 x3 ys3 = some v1 := hv1; unfold CX at h2
  refine AF fun K3 hK3 wK3 => ?_
  refine AW.region ?_
  refine AA.step rfl rfl rfl (AC (Ah rfl (.inl rfl) (.inl rfl)) _) ?_
  refine AA.nil ?_
  refine hK3 _ ?_
  refine AF fun K4 hK4 wK4 => ?_
  refine AW.cond rfl (fun hc1 => ?_) (fun hc1 => ?_)
  · have h3 := AZ hc1 h2
    refine AW.skip ?_
    refine hK4 _ ?_
    refine AF fun K5 hK5 wK5 => ?_
    refine AW.block ?_
    refine Hw h3 fun p1 hp1 hk2 he2 => ?_
    have J2 : ∀ (from4 : Int) (ys5 : List (List RV)) (i5 : Nat → Nat), p1 = .nrm (from4, ys5) → K5 ⟨[(0, .yld 1000 gb1000), (1, .ptr 1001 gb1001 0 0), (3, .r (.int .i64 from4)), (8, .r (.int .i64 x1)), (9, .r (.int .i64 x3))], [(1000, some (.cal gb1000 W1 ys5)), (1001, some (.box gb1001 22 [.r (.sl (c1.map AE.row))]))], (i5 0), 70⟩ := by
      intro from4 ys5 i5 e
      have h4 := hk2 _ _ e
      refine hK5 _ ?_
      refine AW.region ?_
      refine AR h4 fun x5 ex5 h5 => ?_
      refine AA.step rfl rfl rfl (AC (BB rfl (.inl rfl) (.inl rfl) (fun _ => ex5)) _) ?_
      refine AA.step rfl rfl rfl (AC (AD rfl (.inl rfl)) _) ?_
      refine AA.nil ?_
      exact DC.mk h5 (AU [(i5 0)]) ((by exact AM ⟨.inl (.inl rfl), .inl (.inl rfl), .inl (.inl rfl), .inl (.inl rfl), .inl (.inl rfl), trivial⟩ ⟨.inl rfl, .inl rfl, trivial⟩ (Nat.le_refl _)))
    refine AF fun K6 hK6 wK6 => ?_
    refine AW.region ?_
    refine AA.step rfl rfl rfl (AC (AD rfl (.inl rfl)) _) ?_
    refine AA.step rfl rfl rfl (AC (AI rfl (.inl rfl)) _) ?_
    refine AA.nil ?_
    refine hK6 _ ?_
    refine AF fun K7 hK7 wK7 => ?_
    refine AW.region ?_
    refine AA.step rfl rfl rfl (AC (AD rfl (.inl rfl)) _) ?_
    refine AA.step rfl rfl rfl (AC (Ao (a := .r (.sl (c1.map AE.row))) rfl C7 (.inl rfl) rfl rfl) _) ?_
    refine AA.step rfl rfl rfl (AC (BD rfl Am.slice (.inl rfl)) _) ?_
    refine AA.step rfl rfl rfl (AC (Ah rfl (.inl rfl) (.inl rfl)) _) ?_
    refine AA.step rfl rfl rfl (AC (AD rfl (.inl rfl)) _) ?_
    refine AA.stepW (.one rfl rfl rfl) rfl rfl (AC (Ao (a := .r (.sl (c1.map AE.row))) rfl C7 (.inl rfl) rfl rfl) _) ?_
    refine AA.stepW (.one rfl rfl rfl) rfl rfl (AC (AD rfl (.inl rfl)) _) ?_
    refine AR hp1 fun x6 ex6 h6 => ?_
    refine AA.stepW (.one rfl rfl rfl) rfl rfl (AC (Ax rfl Am.slice (.inr ⟨_, (by exact id), rfl⟩) (.inr ⟨_, (by exact id), rfl⟩) (fun _ => rfl) (Ak ex6)) _) ?_
    refine AA.stepW (.one rfl rfl rfl) rfl rfl (AC (Bu rfl CG (.inr ⟨_, (by exact id), rfl⟩)) _) ?_
    refine AA.stepW (.one rfl rfl rfl) rfl rfl (AC (BS (d := .int .i64 x6.Ref) rfl Aw (.inr ⟨_, (by exact id), rfl⟩) rfl) _) ?_
    refine AA.stepW (.one rfl rfl rfl) rfl rfl (AC (BF rfl (.inr ⟨_, (by exact id), rfl⟩) (.inl rfl)) _) ?_
    refine AA.step rfl rfl rfl (AC (Ad rfl (.inl rfl) (.inr ⟨_, (by exact id), rfl⟩)) _) ?_
    refine AA.step rfl rfl rfl (AC (AD rfl (.inl rfl)) _) ?_
    refine AA.stepW (.one rfl rfl rfl) rfl rfl (AC (Ao (a := .r (.sl (c1.map AE.row))) rfl C7 (.inl rfl) rfl rfl) _) ?_
    refine AA.stepW (.one rfl rfl rfl) rfl rfl (AC (AD rfl (.inl rfl)) _) ?_
    refine AR h6 fun x7 ex7 h7 => ?_
    refine AA.stepW (.one rfl rfl rfl) rfl rfl (AC (Ax rfl Am.slice (.inr ⟨_, (by exact id), rfl⟩) (.inr ⟨_, (by exact id), rfl⟩) (fun _ => rfl) (Ak ex7)) _) ?_
    refine AA.stepW (.one rfl rfl rfl) rfl rfl (AC (Bu rfl B3 (.inr ⟨_, (by exact id), rfl⟩)) _) ?_
    refine AA.stepW (.one rfl rfl rfl) rfl rfl (AC (BS (d := .int .i64 x7.Char) rfl Aw (.inr ⟨_, (by exact id), rfl⟩) rfl) _) ?_
    refine AR h7 fun r1 er1 h8 => ?_
    refine AA.stepW (.one rfl rfl rfl) rfl rfl (Ap (r := .r (.bool r1)) (caps := []) (bs := [.r (.int .i64 x7.Char)]) rfl (.inl rfl) rfl ⟨⟨_, (.inr ⟨_, (by exact id), rfl⟩), .d rfl⟩, trivial⟩ (fun hg => GJ (Ak er1 hg)) rfl) ?_
    refine AA.step rfl rfl rfl (AC (Ad rfl (.inl rfl) (.inr ⟨_, (by exact id), rfl⟩)) _) ?_
    refine AA.step rfl rfl rfl (AC (AD rfl (.inl rfl)) _) ?_
    refine AA.stepW (.one rfl rfl rfl) rfl rfl (AC (Ao (a := .r (.sl (c1.map AE.row))) rfl C7 (.inl rfl) rfl rfl) _) ?_
    refine AA.stepW (.one rfl rfl rfl) rfl rfl (AC (AD rfl (.inl rfl)) _) ?_
    refine AR h8 fun x8 ex8 h9 => ?_
    refine AA.stepW (.one rfl rfl rfl) rfl rfl (AC (Ax rfl Am.slice (.inr ⟨_, (by exact id), rfl⟩) (.inr ⟨_, (by exact id), rfl⟩) (fun _ => rfl) (Ak ex8)) _) ?_
    refine AA.stepW (.one rfl rfl rfl) rfl rfl (AC (Bu rfl B3 (.inr ⟨_, (by exact id), rfl⟩)) _) ?_
    refine AA.stepW (.one rfl rfl rfl) rfl rfl (AC (BS (d := .int .i64 x8.Char) rfl Aw (.inr ⟨_, (by exact id), rfl⟩) rfl) _) ?_
    refine AA.stepW (.one rfl rfl rfl) rfl rfl (AC (BG rfl Tryd.underlying3 Tryd.underlying21 (.inr ⟨_, (by exact id), rfl⟩)) _) ?_
    refine AR h9 fun r2 er2 h10 => ?_
    refine AA.stepW (.one rfl rfl rfl) rfl rfl (Ap (r := .r (.bool r2)) (caps := []) (bs := [.r (.int .i32 (IntKind.i32.wrap x8.Char))]) rfl (.inl rfl) rfl ⟨⟨_, (.inr ⟨_, (by exact id), rfl⟩), .d rfl⟩, trivial⟩ (fun hg => IS (Ak er2 hg)) rfl) ?_
    refine AA.stepW (.one rfl rfl rfl) rfl rfl (AC (AD rfl (.inr ⟨_, (by exact id), rfl⟩)) _) ?_
    refine AA.stepW (.two rfl rfl rfl) rfl rfl (AC (Ao (a := .r (.sl (c1.map AE.row))) rfl C7 (.inl rfl) rfl rfl) _) ?_
    refine AA.stepW (.two rfl rfl rfl) rfl rfl (AC (AD rfl (.inl rfl)) _) ?_
    refine AA.stepW (.two rfl rfl rfl) rfl rfl (AC (Ax rfl Am.slice (.inr ⟨_, (by exact id), rfl⟩) (.inr ⟨_, (by exact id), rfl⟩) (fun _ => rfl) (fun h => Ak ex8 (Bool.and_eq_true_iff.1 h).1)) _) ?_
    refine AA.stepW (.two rfl rfl rfl) rfl rfl (AC (Bu rfl B3 (.inr ⟨_, (by exact id), rfl⟩)) _) ?_
    refine AA.stepW (.two rfl rfl rfl) rfl rfl (AC (BS (d := .int .i64 x8.Char) rfl Aw (.inr ⟨_, (by exact id), rfl⟩) rfl) _) ?_
    refine AA.stepW (.two rfl rfl rfl) rfl rfl (AC (BG rfl Tryd.underlying3 Tryd.underlying21 (.inr ⟨_, (by exact id), rfl⟩)) _) ?_
    refine AR h10 fun r3 er3 h11 => ?_
    refine AA.stepW (.two rfl rfl rfl) rfl rfl (Ap (r := .r (.bool r3)) (caps := []) (bs := [.r (.int .i32 (IntKind.i32.wrap x8.Char))]) rfl (.inl rfl) rfl ⟨⟨_, (.inr ⟨_, (by exact id), rfl⟩), .d rfl⟩, trivial⟩ (fun hg => G0 (Ak er3 hg)) rfl) ?_
    refine AA.stepW (.one rfl rfl rfl) rfl rfl (AC (As rfl (.inr ⟨_, (by exact id), rfl⟩) (.inr ⟨_, (by exact id), rfl⟩)) _) ?_
    refine AA.step rfl rfl rfl (AC (Ad rfl (.inl rfl) (.inr ⟨_, (by exact id), rfl⟩)) _) ?_
    refine AA.step rfl rfl rfl (AC (AI rfl (.inl rfl)) _) ?_
    refine AA.nil ?_
    refine hK7 _ ?_
    refine AW.block ?_
    refine AF fun K8 hK8 wK8 => ?_
    refine AW.weak (s' := ⟨[(0, .yld 1000 gb1000), (1, .ptr 1001 gb1001 0 0), (3, .r (.int .i64 from2)), (4, .r (.int .i64 x3)), (5, .r (.bool ((((decide (x3 < (c1.length : Int))) && (decide (x6.Ref = 0))) && r1) && (r2 || r3)))), (8, .r (.int .i64 x1)), (9, .r (.int .i64 x3))], [(1000, some (.cal gb1000 W1 ys3)), (1001, some (.box gb1001 22 [.r (.sl (c1.map AE.row))]))], (i3 0), 70⟩) (by exact AM ⟨.inl (.inl rfl), .inl (.inl rfl), .inl (.inl rfl), .inl (.inl rfl), .inl (.inl rfl), .inl (.inl rfl), .inl (.inl rfl), trivial⟩ ⟨.inl rfl, .inl rfl, trivial⟩ (Nat.le_refl _)) ?_
    refine AW.region ?_
    refine AA.step rfl rfl rfl (AC (AD rfl (.inl rfl)) _) ?_
    refine AA.step rfl rfl rfl (AC (AD rfl (.inl rfl)) _) ?_
    refine AA.stepW (.one rfl rfl rfl) rfl rfl (AC (AD rfl (.inl rfl)) _) ?_
    refine AA.stepW (.one rfl rfl rfl) rfl rfl (AC (Ah rfl (.inr ⟨_, (by exact id), rfl⟩) (.inl rfl)) _) ?_
    refine AA.step rfl rfl rfl (AC (Ad rfl (.inl rfl) (.inr ⟨_, (by exact id), rfl⟩)) _) ?_
    refine AA.step rfl rfl rfl (AC (AI rfl (.inl rfl)) _) ?_
    refine AA.nil ?_
    refine hK8 _ ?_
    refine AW.cond rfl (fun hc2 => ?_) (fun hc2 => ?_)
    · have h12 := AZ hc2 h11
      refine AW.region ?_
      refine AA.step rfl rfl rfl (AC (AD rfl (.inl rfl)) _) ?_
      refine AA.step rfl rfl rfl (AC (AI rfl (.inl rfl)) _) ?_
      refine AA.nil ?_
      exact wK5 _ _ ((by exact AM ⟨.inl (.inl rfl), .inl (.inl rfl), .inl (.inl rfl), .inl (.inl rfl), .inl (.inl rfl), trivial⟩ ⟨.inl rfl, .inl rfl, trivial⟩ (Nat.le_refl _))) (J2 _ _ (AU [(i3 0)]) (Option.some.inj h12).symm)
    · have h12 := Aa hc2 h11
      refine AF fun K9 hK9 wK9 => ?_
      refine AW.region ?_
      refine AA.step rfl rfl rfl (AC (AD rfl (.inl rfl)) _) ?_
      refine AA.step rfl rfl rfl (AC (Bk rfl (.inl rfl)) _) ?_
      refine AA.step rfl rfl rfl (AC (AD rfl (.inl rfl)) _) ?_
      refine AA.stepW (.one rfl rfl rfl) rfl rfl (AC (AD rfl (.inl rfl)) _) ?_
      refine AA.stepW (.one rfl rfl rfl) rfl rfl (AC (EQ rfl (.inr ⟨_, (by exact id), rfl⟩) (.inl rfl)) _) ?_
      refine AA.step rfl rfl rfl (AC (Ad rfl (.inl rfl) (.inr ⟨_, (by exact id), rfl⟩)) _) ?_
      refine AA.step rfl rfl rfl (AC (AI rfl (.inl rfl)) _) ?_
      refine AA.nil ?_
      refine hK9 _ ?_
      refine AW.cond rfl (fun hc3 => ?_) (fun hc3 => ?_)
      · have h13 := AZ hc3 h12
        refine AF fun K10 hK10 wK10 => ?_
        refine AF fun K11 hK11 wK11 => ?_
        refine AW.weak (s' := ⟨[(0, .yld 1000 gb1000), (1, .ptr 1001 gb1001 0 0), (3, .r (.int .i64 from2)), (4, .r (.int .i64 x3)), (8, .r (.int .i64 x1)), (9, .r (.int .i64 x3))], [(1000, some (.cal gb1000 W1 ys3)), (1001, some (.box gb1001 22 [.r (.sl (c1.map AE.row))]))], (i3 0), 70⟩) (by exact AM ⟨.inl (.inl rfl), .inl (.inl rfl), .inl (.inl rfl), .inl (.inl rfl), .inl (.inl rfl), .inl (.inl rfl), trivial⟩ ⟨.inl rfl, .inl rfl, trivial⟩ (Nat.le_refl _)) ?_
        refine Im ?_
        refine Ar.step rfl rfl rfl (AC (AD rfl (.inl rfl)) _) ?_
        refine Ar.step rfl rfl rfl (AC (AD rfl (.inl rfl)) _) ?_
        refine Ar.step rfl rfl rfl (AC (AD rfl (.inl rfl)) _) ?_
        refine AR h13 fun c2 ec2 h14 => ?_
        refine Ip (W := W1) (y := [.int .i64 from2, .int .i64 x3]) hW.1 rfl rfl rfl rfl (.inl rfl) ⟨(.inl rfl), (.inl rfl), trivial⟩ rfl rfl (by rw [hW.2]; exact ec2) ?_
        refine Ar.step rfl rfl rfl (AC (Bk rfl (.inl rfl)) _) ?_
        refine Ar.nil ?_
        refine hK11 _ ?_
        refine AW.cond rfl (fun hc4 => ?_) (fun hc4 => ?_)
        · have h15 := AZ hc4 h14
          refine AW.ret ?_
          exact CA.mk (s' := ⟨[], [(1000, some (.cal gb1000 W1 (ys3 ++ [[.int .i64 from2, .int .i64 x3]]))), (1001, some (.box gb1001 22 [.r (.sl (c1.map AE.row))]))], (i3 0), 70⟩) ((by exact AM trivial ⟨.inl rfl, .inl rfl, trivial⟩ (Nat.le_refl _))) (Dd (fun (r : (List (List RV))) rr h' => ∃ (i : Nat → Nat), rr = .tup [] ∧ h' = [(1000, some (.cal gb1000 W1 r)), (1001, some (.box gb1001 22 [.r (.sl (c1.map AE.row))]))]) (he1 _ (hx1 _ (Option.some.inj (he2 _ (Option.some.inj h15).symm)).symm)) (by exact ⟨.tup [], [(1000, some (.cal gb1000 W1 (ys3 ++ [[.int .i64 from2, .int .i64 x3]]))), (1001, some (.box gb1001 22 [.r (.sl (c1.map AE.row))]))], ⟨_, rfl, trivial⟩, ⟨.inr rfl, .inr rfl, trivial⟩, rfl, rfl, AU [], rfl, rfl⟩))
        · have h15 := Aa hc4 h14
          refine AW.skip ?_
          refine hK10 _ ?_
          refine AW.region ?_
          refine AA.step rfl rfl rfl (AC (AI rfl (.inl rfl)) _) ?_
          refine AA.nil ?_
          exact wK5 _ _ ((by exact AM ⟨.inl (.inl rfl), .inl (.inl rfl), .inl (.inl rfl), .inl (.inl rfl), .inl (.inl rfl), trivial⟩ ⟨.inl rfl, .inl rfl, trivial⟩ (Nat.le_refl _))) (J2 _ _ (AU [(i3 0)]) (Option.some.inj h15).symm)
      · have h13 := Aa hc3 h12
        refine AW.skip ?_
        exact wK5 _ _ ((by exact AM ⟨.inl (.inl rfl), .inl (.inl rfl), .inl (.inl rfl), .inl (.inl rfl), .inl (.inl rfl), trivial⟩ ⟨.inl rfl, .inl rfl, trivial⟩ (Nat.le_refl _))) (J2 _ _ (AU [(i3 0)]) (Option.some.inj h13).symm)
  · have h3 := Aa hc1 h2
    refine AW.exit ?_
    exact CA.mk (s' := ⟨[], [(1000, some (.cal gb1000 W1 ys3)), (1001, some (.box gb1001 22 [.r (.sl (c1.map AE.row))]))], (i3 0), 70⟩) ((by exact AM trivial ⟨.inl rfl, .inl rfl, trivial⟩ (Nat.le_refl _))) (Dd (fun (r : (List (List RV))) rr h' => ∃ (i : Nat → Nat), rr = .tup [] ∧ h' = [(1000, some (.cal gb1000 W1 r)), (1001, some (.box gb1001 22 [.r (.sl (c1.map AE.row))]))]) (he1 _ (hx1 _ (Option.some.inj h3).symm)) (by exact ⟨.tup [], [(1000, some (.cal gb1000 W1 ys3)), (1001, some (.box gb1001 22 [.r (.sl (c1.map AE.row))]))], ⟨_, rfl, trivial⟩, ⟨.inr rfl, .inr rfl, trivial⟩, rfl, rfl, AU [], rfl, rfl⟩))
theorem GU {x1 : Int} {low1 : Int} {high1 : Int} {r : Bool} (h : DD x1 low1 high1 = some r) : AX Tryd.prog 24 [.r (.int .i64 x1), .r (.int .i64 low1), .r (.int .i64 high1)] (.r (.bool r)) := by
  unfold DD at h
  refine A8 Tryd.func24 rfl rfl Tryd.ntmps24 rfl (Nat.le_of_ble_eq_true rfl) fun n0 => ?_
  refine AF fun K1 hK1 wK1 => ?_
  refine AW.region ?_
  refine AA.step rfl rfl rfl (AC (AI rfl (.inl rfl)) _) ?_
  refine AA.nil ?_
  refine hK1 _ ?_
  refine AF fun K2 hK2 wK2 => ?_
  refine AW.region ?_
  refine AA.step rfl rfl rfl (AC (AD rfl (.inl rfl)) _) ?_
  refine AA.step rfl rfl rfl (AC (AD rfl (.inl rfl)) _) ?_
  refine AA.step rfl rfl rfl (AC (EQ rfl (.inl rfl) (.inl rfl)) _) ?_
  refine AA.step rfl rfl rfl (AC (AD rfl (.inl rfl)) _) ?_
  refine AA.stepW (.one rfl rfl rfl) rfl rfl (AC (AD rfl (.inl rfl)) _) ?_
  refine AA.stepW (.one rfl rfl rfl) rfl rfl (AC (AD rfl (.inl rfl)) _) ?_
  refine AA.stepW (.one rfl rfl rfl) rfl rfl (AC (FY rfl (.inr ⟨_, (by exact id), rfl⟩) (.inr ⟨_, (by exact id), rfl⟩)) _) ?_
  refine AA.step rfl rfl rfl (AC (Ad rfl (.inl rfl) (.inr ⟨_, (by exact id), rfl⟩)) _) ?_
  refine AA.step rfl rfl rfl (AC (AI rfl (.inl rfl)) _) ?_
  refine AA.nil ?_
  refine hK2 _ ?_
  refine AW.ret ?_
  exact Ae (P := Tryd.prog) (fun (r : Bool) => .r (.bool r)) h (.inl rfl) (.t (.d rfl))
theorem JF {c1 : Int} {r : Bool} (h : El c1 = some r) : AX Tryd.prog 18 [.r (.int .i64 c1)] (.r (.bool r)) := by
  unfold El at h
  refine A8 Tryd.func18 rfl rfl Tryd.ntmps18 rfl (Nat.le_of_ble_eq_true rfl) fun n0 => ?_
  refine AF fun K1 hK1 wK1 => ?_
  refine AW.region ?_
  refine AA.step rfl rfl rfl (AC (AI rfl (.inl rfl)) _) ?_
  refine AA.nil ?_
  refine hK1 _ ?_
  refine AF fun K2 hK2 wK2 => ?_
  refine AW.region ?_
  refine AA.step rfl rfl rfl (AC (AD rfl (.inl rfl)) _) ?_
  refine AA.step rfl rfl rfl (AC (BF rfl (.inl rfl) (.inl rfl)) _) ?_
  refine AA.step rfl rfl rfl (AC (AD rfl (.inl rfl)) _) ?_
  refine AA.stepW (.one rfl rfl rfl) rfl rfl (AC (AD rfl (.inl rfl)) _) ?_
  refine AA.stepW (.one rfl rfl rfl) rfl rfl (AC (BF rfl (.inr ⟨_, (by exact id), rfl⟩) (.inl rfl)) _) ?_
  refine AA.step rfl rfl rfl (AC (As rfl (.inl rfl) (.inr ⟨_, (by exact id), rfl⟩)) _) ?_
  refine AA.step rfl rfl rfl (AC (AD rfl (.inl rfl)) _) ?_
  refine AA.stepW (.one rfl rfl rfl) rfl rfl (AC (AD rfl (.inl rfl)) _) ?_
  refine AR h fun r1 er1 h1 => ?_
  refine AA.stepW (.one rfl rfl rfl) rfl rfl (Ap (r := .r (.bool r1)) (caps := []) (bs := [.r (.int .i64 c1), .r (.int .i64 32), .r (.int .i64 126)]) rfl (.inl rfl) rfl ⟨⟨_, (.inr ⟨_, (by exact id), rfl⟩), .d rfl⟩, ⟨_, (.inl rfl), .d rfl⟩, ⟨_, (.inl rfl), .d rfl⟩, trivial⟩ (fun hg => GU (Ak er1 hg)) rfl) ?_
  refine AA.step rfl rfl rfl (AC (As rfl (.inl rfl) (.inr ⟨_, (by exact id), rfl⟩)) _) ?_
  refine AA.step rfl rfl rfl (AC (AD rfl (.inl rfl)) _) ?_
  refine AA.stepW (.one rfl rfl rfl) rfl rfl (AC (AD rfl (.inl rfl)) _) ?_
  refine AR h1 fun r2 er2 h2 => ?_
  refine AA.stepW (.one rfl rfl rfl) rfl rfl (Ap (r := .r (.bool r2)) (caps := []) (bs := [.r (.int .i64 c1), .r (.int .i64 160), .r (.int .i64 55295)]) rfl (.inl rfl) rfl ⟨⟨_, (.inr ⟨_, (by exact id), rfl⟩), .d rfl⟩, ⟨_, (.inl rfl), .d rfl⟩, ⟨_, (.inl rfl), .d rfl⟩, trivial⟩ (fun hg => GU (Ak er2 hg)) rfl) ?_
  refine AA.step rfl rfl rfl (AC (As rfl (.inl rfl) (.inr ⟨_, (by exact id), rfl⟩)) _) ?_
  refine AA.step rfl rfl rfl (AC (AD rfl (.inl rfl)) _) ?_
  refine AA.stepW (.one rfl rfl rfl) rfl rfl (AC (AD rfl (.inl rfl)) _) ?_
  refine AR h2 fun r3 er3 h3 => ?_
  refine AA.stepW (.one rfl rfl rfl) rfl rfl (Ap (r := .r (.bool r3)) (caps := []) (bs := [.r (.int .i64 c1), .r (.int .i64 57344), .r (.int .i64 1114111)]) rfl (.inl rfl) rfl ⟨⟨_, (.inr ⟨_, (by exact id), rfl⟩), .d rfl⟩, ⟨_, (.inl rfl), .d rfl⟩, ⟨_, (.inl rfl), .d rfl⟩, trivial⟩ (fun hg => GU (Ak er3 hg)) rfl) ?_
  refine AA.step rfl rfl rfl (AC (As rfl (.inl rfl) (.inr ⟨_, (by exact id), rfl⟩)) _) ?_
  refine AA.step rfl rfl rfl (AC (AI rfl (.inl rfl)) _) ?_
  refine AA.nil ?_
  refine hK2 _ ?_
  refine AW.ret ?_
  exact Ae (P := Tryd.prog) (fun (r : Bool) => .r (.bool r)) h3 (.inl rfl) (.t (.d rfl))
theorem KA {f1 : List AE} {r : Int} (h : EC f1 = some r) : AX Tryd.prog 19 [.r (.sl (f1.map AE.row))] (.r (.int .i64 r)) := by
  unfold EC at h
  refine A8 Tryd.func19 rfl rfl Tryd.ntmps19 rfl (Nat.le_of_ble_eq_true rfl) fun n0 => ?_
  refine AF fun K1 hK1 wK1 => ?_
  refine AW.region ?_
  refine AA.step rfl rfl rfl (AC (AI rfl (.inl rfl)) _) ?_
  refine AA.nil ?_
  refine hK1 _ ?_
  refine AF fun K2 hK2 wK2 => ?_
  refine AW.region ?_
  refine AA.step rfl rfl rfl (AC (AI rfl (.inl rfl)) _) ?_
  refine AA.nil ?_
  refine hK2 _ ?_
  refine AF fun K3 hK3 wK3 => ?_
  refine AW.region ?_
  refine AA.step rfl rfl rfl (AC (AI rfl (.inl rfl)) _) ?_
  refine AA.nil ?_
  refine hK3 _ ?_
  refine AF fun K4 hK4 wK4 => ?_
  refine AF fun K5 hK5 wK5 => ?_
  refine AW.region ?_
  refine AA.step rfl rfl rfl (AC (AD rfl (.inl rfl)) _) ?_
  refine AA.step rfl rfl rfl (AC (BD rfl Am.slice (.inl rfl)) _) ?_
  refine AA.step rfl rfl rfl (AC (AD rfl (.inl rfl)) _) ?_
  refine AA.nil ?_
  refine hK5 _ ?_
  refine AW.block ?_
  refine Cq h fun o1 hit1 hk1 => ?_
  have J1 : ∀ (n4 : Int) (i5 : Nat → Nat), o1 = n4 → K4 ⟨[(3, .r (.int .i64 n4))], [], (i5 0), 43⟩ := by
    intro n4 i5 e
    have h1 := hk1 _ e
    refine hK4 _ ?_
    refine AF fun K6 hK6 wK6 => ?_
    refine AW.region ?_
    refine AA.step rfl rfl rfl (AC (AD rfl (.inl rfl)) _) ?_
    refine AA.step rfl rfl rfl (AC (AI rfl (.inl rfl)) _) ?_
    refine AA.nil ?_
    refine hK6 _ ?_
    refine AW.ret ?_
    exact Ae (P := Tryd.prog) (fun (r : Int) => .r (.int .i64 r)) h1 (.inl rfl) (.t (.d rfl))
  refine Fq (fun (n2 : Int) (was2 : Bool) (x2 : Int) i3 => ⟨[(0, .r (.sl (f1.map AE.row))), (3, .r (.int .i64 n2)), (4, .r (.bool was2)), (9, .r (.int .i64 (f1.length : Int))), (10, .r (.int .i64 x2))], [], (i3 0), 43⟩) (AU [n0]) hit1 ((by exact AM ⟨.inl (.inl rfl), .inl (.inl rfl), .inl (.inl rfl), .inl (.inl rfl), .inl (.inl rfl), trivial⟩ trivial (Nat.le_refl _))) ?_
  intro n2 was2 x2 i3 v1 hv1 hx1
  have h2 : CT f1 n2 was2 x2 = some v1 := hv1; unfold CT at h2
  refine AF fun K7 hK7 wK7 => ?_
  refine AW.region ?_
  refine AA.step rfl rfl rfl (AC (Ah rfl (.inl rfl) (.inl rfl)) _) ?_
  refine AA.nil ?_
  refine hK7 _ ?_
  refine AF fun K8 hK8 wK8 => ?_
  refine AW.cond rfl (fun hc1 => ?_) (fun hc1 => ?_)
  · have h3 := AZ hc1 h2
    refine AW.skip ?_
    refine hK8 _ ?_
    refine AF fun K9 hK9 wK9 => ?_
    refine AW.block ?_
    refine AF fun K10 hK10 wK10 => ?_
    refine AW.region ?_
    refine AA.step rfl rfl rfl (AC (AD rfl (.inl rfl)) _) ?_
    refine AA.step rfl rfl rfl (AC (AI rfl (.inl rfl)) _) ?_
    refine AA.nil ?_
    refine hK10 _ ?_
    refine AF fun K11 hK11 wK11 => ?_
    refine AW.region ?_
    refine AA.step rfl rfl rfl (AC (AD rfl (.inl rfl)) _) ?_
    refine AA.step rfl rfl rfl (AC (AD rfl (.inl rfl)) _) ?_
    refine AR h3 fun x4 ex4 h4 => ?_
    refine AA.step rfl rfl rfl (AC (Ax rfl Am.slice (.inl rfl) (.inl rfl) (fun _ => rfl) (fun _ => ex4)) _) ?_
    refine AA.step rfl rfl rfl (AC (Bu rfl B3 (.inl rfl)) _) ?_
    refine AA.step rfl rfl rfl (AC (BS (d := .int .i64 x4.Char) rfl Aw (.inl rfl) rfl) _) ?_
    refine AA.step rfl rfl rfl (AC (BG rfl Tryd.underlying3 Tryd.underlying21 (.inl rfl)) _) ?_
    refine AA.step rfl rfl rfl (AC (AI rfl (.inl rfl)) _) ?_
    refine AA.nil ?_
    refine hK11 _ ?_
    refine AF fun K12 hK12 wK12 => ?_
    refine AW.region ?_
    refine AA.step rfl rfl rfl (AC (AD rfl (.inl rfl)) _) ?_
    refine AA.step rfl rfl rfl (AC (AD rfl (.inl rfl)) _) ?_
    refine AA.step rfl rfl rfl (AC (Ax rfl Am.slice (.inl rfl) (.inl rfl) (fun _ => rfl) (fun _ => ex4)) _) ?_
    refine AA.step rfl rfl rfl (AC (Bu rfl CG (.inl rfl)) _) ?_
    refine AA.step rfl rfl rfl (AC (BS (d := .int .i64 x4.Ref) rfl Aw (.inl rfl) rfl) _) ?_
    refine AA.step rfl rfl rfl (AC (BF rfl (.inl rfl) (.inl rfl)) _) ?_
    refine AA.step rfl rfl rfl (AC (AD rfl (.inl rfl)) _) ?_
    refine AA.stepW (.one rfl rfl rfl) rfl rfl (AC (AD rfl (.inl rfl)) _) ?_
    refine AR h4 fun r1 er1 h5 => ?_
    refine AA.stepW (.one rfl rfl rfl) rfl rfl (Ap (r := .r (.bool r1)) (caps := []) (bs := [.r (.int .i32 (IntKind.i32.wrap x4.Char))]) rfl (.inl rfl) rfl ⟨⟨_, (.inr ⟨_, (by exact id), rfl⟩), .d rfl⟩, trivial⟩ (fun hg => IS (Ak er1 hg)) rfl) ?_
    refine AA.stepW (.one rfl rfl rfl) rfl rfl (AC (AD rfl (.inr ⟨_, (by exact id), rfl⟩)) _) ?_
    refine AA.stepW (.two rfl rfl rfl) rfl rfl (AC (AD rfl (.inl rfl)) _) ?_
    refine AR h5 fun r2 er2 h6 => ?_
    refine AA.stepW (.two rfl rfl rfl) rfl rfl (Ap (r := .r (.bool r2)) (caps := []) (bs := [.r (.int .i32 (IntKind.i32.wrap x4.Char))]) rfl (.inl rfl) rfl ⟨⟨_, (.inr ⟨_, (by exact id), rfl⟩), .d rfl⟩, trivial⟩ (fun hg => G0 (Ak er2 hg)) rfl) ?_
    refine AA.stepW (.one rfl rfl rfl) rfl rfl (AC (As rfl (.inr ⟨_, (by exact id), rfl⟩) (.inr ⟨_, (by exact id), rfl⟩)) _) ?_
    refine AA.step rfl rfl rfl (AC (Ad rfl (.inl rfl) (.inr ⟨_, (by exact id), rfl⟩)) _) ?_
    refine AA.step rfl rfl rfl (AC (AI rfl (.inl rfl)) _) ?_
    refine AA.nil ?_
    refine hK12 _ ?_
    refine AF fun K13 hK13 wK13 => ?_
    refine AF fun K14 hK14 wK14 => ?_
    refine AW.weak (s' := ⟨[(0, .r (.sl (f1.map AE.row))), (3, .r (.int .i64 n2)), (4, .r (.bool was2)), (7, .r (.bool ((decide (x4.Ref = 0)) && (r1 || r2)))), (9, .r (.int .i64 (f1.length : Int))), (10, .r (.int .i64 x2))], [], (i3 0), 43⟩) (by exact AM ⟨.inl (.inl rfl), .inl (.inl rfl), .inl (.inl rfl), .inl (.inl rfl), .inl (.inl rfl), .inl (.inl rfl), trivial⟩ trivial (Nat.le_refl _)) ?_
    refine AW.region ?_
    refine AA.step rfl rfl rfl (AC (AD rfl (.inl rfl)) _) ?_
    refine AA.step rfl rfl rfl (AC (AD rfl (.inl rfl)) _) ?_
    refine AA.stepW (.one rfl rfl rfl) rfl rfl (AC (AD rfl (.inl rfl)) _) ?_
    refine AA.stepW (.one rfl rfl rfl) rfl rfl (AC (Bk rfl (.inr ⟨_, (by exact id), rfl⟩)) _) ?_
    refine AA.step rfl rfl rfl (AC (Ad rfl (.inl rfl) (.inr ⟨_, (by exact id), rfl⟩)) _) ?_
    refine AA.nil ?_
    refine hK14 _ ?_
    refine Cq h6 fun p1 hp1 hk2 => ?_
    have J2 : ∀ (n5 : Int) (i6 : Nat → Nat), p1 = n5 → K13 ⟨[(0, .r (.sl (f1.map AE.row))), (3, .r (.int .i64 n5)), (7, .r (.bool ((decide (x4.Ref = 0)) && (r1 || r2)))), (9, .r (.int .i64 (f1.length : Int))), (10, .r (.int .i64 x2))], [], (i6 0), 43⟩ := by
      intro n5 i6 e
      have h7 := hk2 _ e
      refine hK13 _ ?_
      refine AW.region ?_
      refine AA.step rfl rfl rfl (AC (AD rfl (.inl rfl)) _) ?_
      refine AA.step rfl rfl rfl (AC (AI rfl (.inl rfl)) _) ?_
      refine AA.nil ?_
      refine hK9 _ ?_
      refine AW.region ?_
      refine AR h7 fun x5 ex5 h8 => ?_
      refine AA.step rfl rfl rfl (AC (BB rfl (.inl rfl) (.inl rfl) (fun _ => ex5)) _) ?_
      refine AA.step rfl rfl rfl (AC (AD rfl (.inl rfl)) _) ?_
      refine AA.nil ?_
      exact DC.mk h8 (AU [(i6 0)]) ((by exact AM ⟨.inl (.inl rfl), .inl (.inl rfl), .inl (.inl rfl), .inl (.inl rfl), .inl (.inl rfl), trivial⟩ trivial (Nat.le_refl _)))
    refine AW.cond rfl (fun hc2 => ?_) (fun hc2 => ?_)
    · have h9 := AZ hc2 hp1
      refine AW.region ?_
      refine AA.step rfl rfl rfl (AC (AD rfl (.inl rfl)) _) ?_
      refine AR h9 fun n6 en6 h10 => ?_
      refine AA.step rfl rfl rfl (AC (BB rfl (.inl rfl) (.inl rfl) (fun _ => en6)) _) ?_
      refine AA.step rfl rfl rfl (AC (AI rfl (.inl rfl)) _) ?_
      refine AA.nil ?_
      exact wK13 _ _ ((by exact AM ⟨.inl (.inl rfl), .inl (.inl rfl), .inl (.inl rfl), .inl (.inl rfl), .inl (.inl rfl), trivial⟩ trivial (Nat.le_refl _))) (J2 _ (AU [(i3 0)]) (Option.some.inj h10).symm)
    · have h9 := Aa hc2 hp1
      refine AW.skip ?_
      exact wK13 _ _ ((by exact AM ⟨.inl (.inl rfl), .inl (.inl rfl), .inl (.inl rfl), .inl (.inl rfl), .inl (.inl rfl), trivial⟩ trivial (Nat.le_refl _))) (J2 _ (AU [(i3 0)]) (Option.some.inj h9).symm)
  · have h3 := Aa hc1 h2
    refine AW.exit ?_
    exact wK4 _ _ ((by exact AM ⟨.inl (.inl rfl), trivial⟩ trivial (Nat.le_refl _))) (J1 _ (AU [(i3 0)]) (hx1 _ (Option.some.inj h3).symm))
theorem Fr {x1 : AE} {r : Bool} (h : Co x1 = some r) : AX Tryd.prog 7 [.agg [.r (.int .i64 x1.Char), .r (.int .i64 x1.Ref), .r (.sl (x1.Attrs.map AK.row))]] (.r (.bool r)) := by
  unfold Co at h
  refine A8 Tryd.func7 rfl rfl Tryd.ntmps7 rfl (Nat.le_of_ble_eq_true rfl) fun n0 => ?_
  refine AF fun K1 hK1 wK1 => ?_
  refine AW.region ?_
  refine AA.step rfl rfl rfl (Ey (cs := [.r (.int .i64 x1.Char), .r (.int .i64 x1.Ref), .r (.sl (x1.Attrs.map AK.row))]) 1 rfl (.inl rfl) rfl rfl) ?_
  refine AA.step rfl rfl rfl (AC (AI rfl (.inl rfl)) _) ?_
  refine AA.nil ?_
  refine hK1 _ ?_
  refine AF fun K2 hK2 wK2 => ?_
  refine AW.region ?_
  refine AA.step rfl rfl rfl (AC (BE (ob := .box _ _ _) rfl B3 (.inl rfl) (fun _ => rfl) rfl) _) ?_
  refine AA.step rfl rfl rfl (AC (Ao (a := .r (.int .i64 x1.Char)) rfl Aw (.inl rfl) rfl rfl) _) ?_
  refine AR h fun r1 er1 h1 => ?_
  refine AA.step rfl rfl rfl (Ap (r := .r (.bool r1)) (caps := []) (bs := [.r (.int .i64 x1.Char)]) rfl (.inl rfl) rfl ⟨⟨_, (.inl rfl), .d rfl⟩, trivial⟩ (fun _ => JF (er1)) rfl) ?_
  refine AA.step rfl rfl rfl (AC (AD rfl (.inl rfl)) _) ?_
  refine AA.stepW (.one rfl rfl rfl) rfl rfl (AC (IL rfl DJ (.inl rfl) rfl rfl) _) ?_
  refine Cq h1 fun p1 hp1 hk1 => ?_
  have J1 : ∀ (x2 : Bool) (i1 : Nat → Nat), p1 = x2 → K2 ⟨[(2, .r (.bool x2))], [], (i1 0), 12⟩ := by
    intro x2 i1 e
    have h2 := hk1 _ e
    refine hK2 _ ?_
    refine AW.ret ?_
    exact Ae (P := Tryd.prog) (fun (r : Bool) => .r (.bool r)) h2 (.inl rfl) (.t (.d rfl))
  refine La (r1 == true) (fun hg1 => ?_) (fun hg1 => ?_)
  · have h3 := AZ hg1 hp1
    refine AA.weak (by exact Ld (e' := [(0, .agg [.r (.int .i64 x1.Char), .r (.int .i64 x1.Ref), .r (.sl (x1.Attrs.map AK.row))]), (1, .ptr 1 n0 0 0), (2, .r (.bool false)), (3, .ptr 1 n0 0 0), (4, .r (.int .i64 x1.Char)), (5, .r (.bool r1)), (6, .r (.bool r1)), (7, .agg [.r (.int .i64 x1.Char), .r (.int .i64 x1.Ref), .r (.sl (x1.Attrs.map AK.row))])]) hg1 ⟨.inl rfl, .inl rfl, .inl rfl, .inl rfl, .inl rfl, .inl rfl, .inl rfl, .inr (.inl rfl), trivial⟩) ?_
    refine Gp (.one rfl rfl rfl) hg1 rfl rfl (DB 8 rfl Am (f := AE.row) (l := ([x1] : List AE)) ⟨rfl, ⟨_, (.inl rfl), rfl⟩, trivial⟩ rfl (fun _ => rfl) rfl) ?_
    refine AR h3 fun r2 er2 h4 => ?_
    refine Gp (.one rfl rfl rfl) hg1 rfl rfl (Ap (r := .r (.int .i64 r2)) (caps := []) (bs := [.r (.sl ([x1].map AE.row))]) rfl (.inl rfl) rfl ⟨⟨_, (.inl rfl), .one (.own rfl)⟩, trivial⟩ (fun _ => KA (er2)) rfl) ?_
    refine Gp (.one rfl rfl rfl) hg1 rfl rfl (AC (BF rfl (.inl rfl) (.inl rfl)) _) ?_
    refine AA.step rfl rfl rfl (AC (Ad rfl (.inl rfl) (.inl rfl)) _) ?_
    refine AA.step rfl rfl rfl (AC (AI rfl (.inl rfl)) _) ?_
    refine AA.nil ?_
    exact wK2 _ _ ((by exact AM ⟨.inl (.inl rfl), trivial⟩ trivial (Nat.le_refl _))) (J1 _ (AU [(n0 + 2)]) (Option.some.inj h4).symm)
  · have h3 := Aa hg1 hp1
    refine Gq (.one rfl rfl rfl) hg1 rfl rfl ?_
    refine Gq (.one rfl rfl rfl) hg1 rfl rfl ?_
    refine Gq (.one rfl rfl rfl) hg1 rfl rfl ?_
    refine AA.step rfl rfl rfl (AC (Ad rfl (.inl rfl) (.inr ⟨_, (by exact id), rfl⟩)) _) ?_
    refine AA.step rfl rfl rfl (AC (AI rfl (.inl rfl)) _) ?_
    refine AA.nil ?_
    exact wK2 _ _ ((by exact AM ⟨.inl (.inl rfl), trivial⟩ trivial (Nat.le_refl _))) (J1 _ (AU [(n0 + 1)]) (Option.some.inj h3).symm)
theorem HQ {a1 : List Int} {b1 : List Int} {r : Bool} (h : Ds a1 b1 = some r) : AX Tryd.prog 8 [.r (.sl (a1.map (AS .i64))), .r (.sl (b1.map (AS .i64)))] (.r (.bool r)) := by
  unfold Ds at h
  refine A8 Tryd.func8 rfl rfl Tryd.ntmps8 rfl (Nat.le_of_ble_eq_true rfl) fun n0 => ?_
  refine AF fun K1 hK1 wK1 => ?_
  refine AW.region ?_
  refine AA.step rfl rfl rfl (AC (AI rfl (.inl rfl)) _) ?_
  refine AA.nil ?_
  refine hK1 _ ?_
  refine AF fun K2 hK2 wK2 => ?_
  refine AF fun K3 hK3 wK3 => ?_
  refine AW.region ?_
  refine AA.step rfl rfl rfl (AC (AD rfl (.inl rfl)) _) ?_
  refine AA.step rfl rfl rfl (AC (BD rfl Bd.slice (.inl rfl)) _) ?_
  refine AA.step rfl rfl rfl (AC (AD rfl (.inl rfl)) _) ?_
  refine AA.step rfl rfl rfl (AC (BD rfl Bd.slice (.inl rfl)) _) ?_
  refine AA.step rfl rfl rfl (AC (Bb rfl (.inl rfl) (.inl rfl)) _) ?_
  refine AA.nil ?_
  refine hK3 _ ?_
  refine AW.cond rfl (fun hc1 => ?_) (fun hc1 => ?_)
  · have h1 := AZ hc1 h
    refine AF fun K4 hK4 wK4 => ?_
    refine AW.region ?_
    refine AA.step rfl rfl rfl (AC (AI rfl (.inl rfl)) _) ?_
    refine AA.nil ?_
    refine hK4 _ ?_
    refine AW.ret ?_
    exact Ae (P := Tryd.prog) (fun (r : Bool) => .r (.bool r)) h1 (.inl rfl) (.t (.d rfl))
  · have h1 := Aa hc1 h
    refine AW.skip ?_
    refine hK2 _ ?_
    refine AF fun K5 hK5 wK5 => ?_
    refine AF fun K6 hK6 wK6 => ?_
    refine AW.region ?_
    refine AA.step rfl rfl rfl (AC (AD rfl (.inl rfl)) _) ?_
    refine AA.step rfl rfl rfl (AC (BD rfl Bd.slice (.inl rfl)) _) ?_
    refine AA.step rfl rfl rfl (AC (AD rfl (.inl rfl)) _) ?_
    refine AA.nil ?_
    refine hK6 _ ?_
    refine AW.block ?_
    refine Cd h1 fun o1 hit1 hk1 he1 => ?_
    have J1 : ∀ (u2 : Unit) (i5 : Nat → Nat), o1 = .nrm u2 → K5 ⟨[], [], (i5 0), 26⟩ := by
      intro u2 i5 e
      have h2 := hk1 _ e
      refine hK5 _ ?_
      refine AF fun K7 hK7 wK7 => ?_
      refine AW.region ?_
      refine AA.step rfl rfl rfl (AC (AI rfl (.inl rfl)) _) ?_
      refine AA.nil ?_
      refine hK7 _ ?_
      refine AW.ret ?_
      exact Ae (P := Tryd.prog) (fun (r : Bool) => .r (.bool r)) h2 (.inl rfl) (.t (.d rfl))
    refine DN (fun (x2 : Int) i3 => ⟨[(0, .r (.sl (a1.map (AS .i64)))), (1, .r (.sl (b1.map (AS .i64)))), (12, .r (.int .i64 (a1.length : Int))), (13, .r (.int .i64 x2))], [], (i3 0), 26⟩) (AU [n0]) hit1 ((by exact AM ⟨.inl (.inl rfl), .inl (.inl rfl), .inl (.inl rfl), .inl (.inl rfl), trivial⟩ trivial (Nat.le_refl _))) ?_
    intro x2 i3 v1 hv1 hx1
    have h3 : EK a1 b1 x2 = some v1 := hv1; unfold EK at h3
    refine AF fun K8 hK8 wK8 => ?_
    refine AW.region ?_
    refine AA.step rfl rfl rfl (AC (Ah rfl (.inl rfl) (.inl rfl)) _) ?_
    refine AA.nil ?_
    refine hK8 _ ?_
    refine AF fun K9 hK9 wK9 => ?_
    refine AW.cond rfl (fun hc2 => ?_) (fun hc2 => ?_)
    · have h4 := AZ hc2 h3
      refine AW.skip ?_
      refine hK9 _ ?_
      refine AF fun K10 hK10 wK10 => ?_
      refine AW.block ?_
      refine AF fun K11 hK11 wK11 => ?_
      refine AW.region ?_
      refine AA.step rfl rfl rfl (AC (AD rfl (.inl rfl)) _) ?_
      refine AA.step rfl rfl rfl (AC (AI rfl (.inl rfl)) _) ?_
      refine AA.nil ?_
      refine hK11 _ ?_
      refine AF fun K12 hK12 wK12 => ?_
      refine Gs FS (by kernel_rfl) ?_
      refine AQ.step rfl rfl rfl (AD rfl (.inl rfl)) ?_
      refine AQ.step rfl rfl rfl (AD rfl (.inl rfl)) ?_
      refine AR h4 fun x4 ex4 h5 => ?_
      refine AQ.step rfl rfl rfl (Ax rfl Bd.slice (.inl rfl) (.inl rfl) (fun _ => rfl) (fun _ => ex4)) ?_
      refine AQ.step rfl rfl rfl (BS (d := .int .i64 x4) rfl Aw (.inl rfl) rfl) ?_
      refine AQ.step rfl rfl rfl (AD rfl (.inl rfl)) ?_
      refine AQ.step rfl rfl rfl (AD rfl (.inl rfl)) ?_
      refine AR h5 fun x5 ex5 h6 => ?_
      refine AQ.step rfl rfl rfl (Ax rfl Bd.slice (.inl rfl) (.inl rfl) (fun _ => rfl) (fun _ => ex5)) ?_
      refine AQ.step rfl rfl rfl (BS (d := .int .i64 x5) rfl Aw (.inl rfl) rfl) ?_
      refine AQ.step rfl rfl rfl (Bb rfl (.inl rfl) (.inl rfl)) ?_
      refine AQ.nil ?_
      refine hK12 _ ?_
      refine AW.cond rfl (fun hc3 => ?_) (fun hc3 => ?_)
      · have h7 := AZ hc3 h6
        refine AF fun K13 hK13 wK13 => ?_
        refine AW.weak (s' := ⟨[], [], (i3 0), 26⟩) (by exact AM trivial trivial (Nat.le_refl _)) ?_
        refine AW.region ?_
        refine AA.step rfl rfl rfl (AC (AI rfl (.inl rfl)) _) ?_
        refine AA.nil ?_
        refine hK13 _ ?_
        refine AW.ret ?_
        exact Ae (P := Tryd.prog) (fun (r : Bool) => .r (.bool r)) (he1 _ (hx1 _ (Option.some.inj h7).symm)) (.inl rfl) (.t (.d rfl))
      · have h7 := Aa hc3 h6
        refine AW.skip ?_
        refine hK10 _ ?_
        refine AW.weak (s' := ⟨[(0, .r (.sl (a1.map (AS .i64)))), (1, .r (.sl (b1.map (AS .i64)))), (12, .r (.int .i64 (a1.length : Int))), (13, .r (.int .i64 x2))], [], (i3 0), 26⟩) (by exact AM ⟨.inl (.inl rfl), .inl (.inl rfl), .inl (.inl rfl), .inl (.inl rfl), trivial⟩ trivial (Nat.le_refl _)) ?_
        refine AW.region ?_
        refine AR h7 fun x6 ex6 h8 => ?_
        refine AA.step rfl rfl rfl (AC (BB rfl (.inl rfl) (.inl rfl) (fun _ => ex6)) _) ?_
        refine AA.step rfl rfl rfl (AC (AD rfl (.inl rfl)) _) ?_
        refine AA.nil ?_
        exact CP.mk h8 (AU [(i3 0)]) ((by exact AM ⟨.inl (.inl rfl), .inl (.inl rfl), .inl (.inl rfl), .inl (.inl rfl), trivial⟩ trivial (Nat.le_refl _)))
    · have h4 := Aa hc2 h3
      refine AW.exit ?_
      exact wK5 _ _ ((by exact AM trivial trivial (Nat.le_refl _))) (J1 _ (AU [(i3 0)]) (hx1 _ (Option.some.inj h4).symm))
theorem Iq {f1 : List AE} {r : Bool} (h : E0 f1 = some r) : AX Tryd.prog 3 [.r (.sl (f1.map AE.row))] (.r (.bool r)) := by
  unfold E0 at h
  refine A8 Tryd.func3 rfl rfl Tryd.ntmps3 rfl (Nat.le_of_ble_eq_true rfl) fun n0 => ?_
  refine AF fun K1 hK1 wK1 => ?_
  refine AW.region ?_
  refine AA.step rfl rfl rfl (AC (AI rfl (.inl rfl)) _) ?_
  refine AA.nil ?_
  refine hK1 _ ?_
  refine AF fun K2 hK2 wK2 => ?_
  refine AF fun K3 hK3 wK3 => ?_
  refine AW.region ?_
  refine AR h fun r1 er1 h1 => ?_
  refine AA.step rfl rfl rfl (Ap (r := .r (.bool r1)) (caps := []) (bs := []) rfl (.inl rfl) rfl trivial (fun _ => KF (er1)) rfl) ?_
  refine AA.step rfl rfl rfl (AC (Bk rfl (.inl rfl)) _) ?_
  refine AA.nil ?_
  refine hK3 _ ?_
  refine AW.cond rfl (fun hc1 => ?_) (fun hc1 => ?_)
  · have h2 := AZ hc1 h1
    refine AF fun K4 hK4 wK4 => ?_
    refine AW.region ?_
    refine AA.step rfl rfl rfl (AC (AI rfl (.inl rfl)) _) ?_
    refine AA.nil ?_
    refine hK4 _ ?_
    refine AW.ret ?_
    exact Ae (P := Tryd.prog) (fun (r : Bool) => .r (.bool r)) h2 (.inl rfl) (.t (.d rfl))
  · have h2 := Aa hc1 h1
    refine AW.skip ?_
    refine hK2 _ ?_
    refine AF fun K5 hK5 wK5 => ?_
    refine AW.region ?_
    refine AA.step rfl rfl rfl (DY (cs := [.cst (.slice none 0 0)]) 3 rfl Hh rfl rfl) ?_
    refine AA.step rfl rfl rfl (DY (cs := [.cst (.slice none 0 0)]) 4 rfl Hh rfl rfl) ?_
    refine AA.nil ?_
    refine hK5 _ ?_
    refine AF fun K6 hK6 wK6 => ?_
    refine AF fun K7 hK7 wK7 => ?_
    refine AW.region ?_
    refine AA.step rfl rfl rfl (AC (AD rfl (.inl rfl)) _) ?_
    refine AR h2 fun w1 ew1 h3 => ?_
    refine Ih [18] (hc := []) (bs := [.r (.sl (f1.map AE.row))]) (caps := []) rfl rfl rfl rfl (.inl rfl) rfl ⟨.inl ⟨(.inl rfl), rfl⟩, trivial⟩ trivial (by decide) (LI ew1) ?_
    intro i1 n1
    refine AA.weak (s' := ⟨[(0, .r (.sl (f1.map AE.row))), (2, .r (.bool false)), (3, .ptr 3 n0 0 0), (4, .ptr 4 (n0 + 1) 0 0), (15, .r (.bool r1)), (16, .r (.bool (!r1))), (17, .r (.sl (f1.map AE.row))), (18, .fn 13 [.ptr 18 (i1 0) 0 0])], [(3, some (.box n0 24 [.cst (.slice none 0 0)])), (4, some (.box (n0 + 1) 24 [.cst (.slice none 0 0)])), (18, some (.box (i1 0) 22 [.r (.sl (w1.map AE.row))]))], n1, 114⟩) (by exact AM ⟨.inl (.inl rfl), .inl (.inl rfl), .inl (.inl rfl), .inl (.inl rfl), .inl (.inl rfl), .inl (.inl rfl), .inl (.inl rfl), .inl (.inl rfl), trivial⟩ ⟨.inl rfl, .inl rfl, .inl rfl, trivial⟩ (Nat.le_refl _)) ?_
    refine AA.nil ?_
    refine hK7 _ ?_
    refine AW.block ?_
    refine AW.weak (s' := ⟨[(0, .r (.sl (f1.map AE.row))), (2, .r (.bool false)), (3, .ptr 3 n0 0 0), (4, .ptr 4 (n0 + 1) 0 0), (15, .r (.bool r1)), (16, .r (.bool (!r1))), (17, .r (.sl (f1.map AE.row))), (18, .fn 13 [.ptr 18 (i1 0) 0 0])], [(3, some (.box n0 24 [.own 25 n1])), (4, some (.box (n0 + 1) 24 [.cst (.slice none 0 0)])), (18, some (.box (i1 0) 22 [.r (.sl (w1.map AE.row))])), (25, some (.arr n1 3 1 (([] : List Int).map (AS .i64))))], (n1 + 1), 114⟩) (AG.trans (AG.trans (Io 3 0 25 3 1 (by decide) rfl rfl (by decide)) (by exact AM (e' := [(0, .r (.sl (f1.map AE.row))), (2, .r (.bool false)), (3, .ptr 3 n0 0 0), (4, .ptr 4 (n0 + 1) 0 0), (15, .r (.bool r1)), (16, .r (.bool (!r1))), (17, .r (.sl (f1.map AE.row))), (18, .fn 13 [.ptr 18 (i1 0) 0 0])]) (h' := [(3, some (.box n0 24 [.own 25 n1])), (4, some (.box (n0 + 1) 24 [.cst (.slice none 0 0)])), (18, some (.box (i1 0) 22 [.r (.sl (w1.map AE.row))])), (25, some (.arr n1 3 1 (([] : List Int).map (AS .i64))))]) ⟨.inl (.inl rfl), .inl (.inl rfl), .inl (.inl rfl), .inl (.inl rfl), .inl (.inl rfl), .inl (.inl rfl), .inl (.inl rfl), .inl (.inl rfl), trivial⟩ ⟨.inl rfl, .inl rfl, .inl rfl, .inl rfl, trivial⟩ (Nat.le_refl _))) (by exact AM ⟨.inl (.inl rfl), .inl (.inl rfl), .inl (.inl rfl), .inl (.inl rfl), .inl (.inl rfl), .inl (.inl rfl), .inl (.inl rfl), .inl (.inl rfl), trivial⟩ ⟨.inl rfl, .inl rfl, .inl rfl, .inl rfl, trivial⟩ (Nat.le_refl _))) ?_
    refine AR h3 fun a2 hx1 h7 => ?_
    refine AW.rng2 (it := fun A => DW A [] w1) (L := [18]) (hB := [(1001, some (.box (i1 0) 22 [.r (.sl (w1.map AE.row))]))]) (caps := [.ptr 1001 (i1 0) 0 0]) 0 (fun (a1 : (List Int)) i4 => [(3, some (.box n0 24 [.own 25 (i4 0)])), (4, some (.box (n0 + 1) 24 [.cst (.slice none 0 0)])), (25, some (.arr (i4 0) 3 1 (a1.map (AS .i64))))]) (fun i4 => ((n1 + 2) + (i4 1))) (AU [n1, 0]) hx1 rfl rfl (by exact ⟨rfl, rfl, rfl, trivial⟩) rfl (by decide) rfl (by exact ⟨.inr rfl, .inr rfl, .inr rfl, trivial⟩) rfl (fun _ _ => rfl) (Nat.le_refl _) (fun i => Nat.lt_of_lt_of_le (Nat.lt_succ_self _) (Nat.le_add_right _ _)) rfl rfl ⟨_, Tryd.func13, rfl, rfl⟩ (fun W ys hP hi => ⟨_, JC hi ⟨hP, rfl⟩, fun rr h' ⟨i, e1, e2⟩ => by rw [e2]; rfl⟩) ?_ ?_
    · intro E1 A0 B0 hA0 hB0 (a1) from1 to1 st1 i4 h4
      have h5 : Cu a1 from1 to1 = some st1 := h4; unfold Cu at h5
      refine AW.weak (s' := ⟨[(0, .r (.sl (f1.map AE.row))), (2, .r (.bool false)), (3, .ptr 3 n0 0 0), (4, .ptr 4 (n0 + 1) 0 0), (15, .r (.bool r1)), (16, .r (.bool (!r1))), (17, .r (.sl (f1.map AE.row))), (19, .r (.int .i64 from1)), (20, .r (.int .i64 to1))], [(0, some (.lp (n1 + 1) E1 114 [19, 20] A0 B0 .ready none)), (3, some (.box n0 24 [.own 25 (i4 0)])), (4, some (.box (n0 + 1) 24 [.cst (.slice none 0 0)])), (25, some (.arr (i4 0) 3 1 (a1.map (AS .i64))))], ((n1 + 2) + (i4 1)), 114⟩) (by exact AM ⟨.inl (.inl rfl), .inl (.inl rfl), .inl (.inl rfl), .inl (.inl rfl), .inl (.inl rfl), .inl (.inl rfl), .inl (.inl rfl), .inl (.inl rfl), .inl (.inl rfl), trivial⟩ ⟨.inl rfl, .inl rfl, .inl rfl, .inl rfl, trivial⟩ (Nat.le_refl _)) ?_
      refine AF fun K8 hK8 wK8 => ?_
      refine AW.region ?_
      refine AA.step rfl rfl rfl (AC (AI rfl (.inl rfl)) _) ?_
      refine AA.nil ?_
      refine hK8 _ ?_
      refine AW.region ?_
      refine AA.step rfl rfl rfl (AC (AI rfl (.inl rfl)) _) ?_
      refine AA.nil ?_
      refine Ij rfl (If ?_)
      refine AW.block ?_
      refine AW.region ?_
      refine AA.step rfl rfl rfl (AC (Ao (a := .own 25 (i4 0)) rfl FT (.inl rfl) rfl rfl) _) ?_
      refine AA.step rfl rfl rfl (AC (AD rfl (.inl rfl)) _) ?_
      refine AA.step rfl rfl rfl (AC (AD rfl (.inl rfl)) _) ?_
      refine AA.step rfl rfl rfl (DB 24 rfl Bd (f := (AS .i64)) (l := ([from1, to1] : List Int)) ⟨rfl, ⟨_, (.inl rfl), rfl⟩, rfl, ⟨_, (.inl rfl), rfl⟩, trivial⟩ rfl (fun _ => rfl) rfl) ?_
      refine AR h5 fun l1 el1 h6 => ?_
      refine AA.step rfl rfl rfl (D5 rfl Bd (.inl rfl) rfl (.inr (.inl ⟨_, _, (.inl rfl), rfl⟩)) el1) ?_
      refine Du rfl rfl (Df (ds := [.own 25 (((n1 + 2) + (i4 1)) + 1)]) rfl Hq (.inl rfl) rfl (.inl rfl) rfl rfl rfl rfl) ?_
      refine AA.nil ?_
      exact ⟨_, (show AG _ ⟨[], [(0, some (.lp (n1 + 1) E1 114 [19, 20] A0 B0 .busy none)), (3, some (.box n0 24 [.own 25 (((n1 + 2) + (i4 1)) + 1)])), (4, some (.box (n0 + 1) 24 [.cst (.slice none 0 0)])), (25, some (.arr (((n1 + 2) + (i4 1)) + 1) 3 1 (l1.map (AS .i64))))], (((n1 + 2) + (i4 1)) + 2), 114⟩ from (by exact AM trivial ⟨.inl rfl, .inl rfl, .inl rfl, .inl rfl, trivial⟩ (Nat.le_refl _))), Ik h6 (AU [(((n1 + 2) + (i4 1)) + 1), (((n1 + 2) + (i4 1)) + 2)]) rfl (Nat.le_add_left _ _)⟩
    intro i4
    refine hK6 _ ?_
    refine AF fun K9 hK9 wK9 => ?_
    refine AF fun K10 hK10 wK10 => ?_
    refine AW.region ?_
    refine AA.step rfl rfl rfl (AC (AD rfl (.inl rfl)) _) ?_
    refine AR h7 fun w2 ew2 h8 => ?_
    refine Ih [27] (hc := []) (bs := [.r (.sl (f1.map AE.row))]) (caps := []) rfl rfl rfl rfl (.inl rfl) rfl ⟨.inl ⟨(.inl rfl), rfl⟩, trivial⟩ trivial (by decide) (KV ew2) ?_
    intro i6 n2
    refine AA.weak (s' := ⟨[(0, .r (.sl (f1.map AE.row))), (2, .r (.bool false)), (3, .ptr 3 n0 0 0), (4, .ptr 4 (n0 + 1) 0 0), (15, .r (.bool r1)), (16, .r (.bool (!r1))), (17, .r (.sl (f1.map AE.row))), (26, .r (.sl (f1.map AE.row))), (27, .fn 14 [.ptr 27 (i6 0) 0 0])], [(3, some (.box n0 24 [.own 25 (i4 0)])), (4, some (.box (n0 + 1) 24 [.cst (.slice none 0 0)])), (25, some (.arr (i4 0) 3 1 (a2.map (AS .i64)))), (27, some (.box (i6 0) 22 [.r (.sl (w2.map AE.row))]))], n2, 114⟩) (by exact AM ⟨.inl (.inl rfl), .inl (.inl rfl), .inl (.inl rfl), .inl (.inl rfl), .inl (.inl rfl), .inl (.inl rfl), .inl (.inl rfl), .inl (.inl rfl), .inl (.inl rfl), trivial⟩ ⟨.inl rfl, .inl rfl, .inl rfl, .inl rfl, trivial⟩ (Nat.le_refl _)) ?_
    refine AA.nil ?_
    refine hK10 _ ?_
    refine AW.block ?_
    refine AW.weak (s' := ⟨[(0, .r (.sl (f1.map AE.row))), (2, .r (.bool false)), (3, .ptr 3 n0 0 0), (4, .ptr 4 (n0 + 1) 0 0), (15, .r (.bool r1)), (16, .r (.bool (!r1))), (17, .r (.sl (f1.map AE.row))), (26, .r (.sl (f1.map AE.row))), (27, .fn 14 [.ptr 27 (i6 0) 0 0])], [(3, some (.box n0 24 [.own 25 (i4 0)])), (4, some (.box (n0 + 1) 24 [.own 34 n2])), (25, some (.arr (i4 0) 3 1 (a2.map (AS .i64)))), (27, some (.box (i6 0) 22 [.r (.sl (w2.map AE.row))])), (34, some (.arr n2 3 1 (([] : List Int).map (AS .i64))))], (n2 + 1), 114⟩) (AG.trans (AG.trans (Io 4 0 34 3 1 (by decide) rfl rfl (by decide)) (by exact AM (e' := [(0, .r (.sl (f1.map AE.row))), (2, .r (.bool false)), (3, .ptr 3 n0 0 0), (4, .ptr 4 (n0 + 1) 0 0), (15, .r (.bool r1)), (16, .r (.bool (!r1))), (17, .r (.sl (f1.map AE.row))), (26, .r (.sl (f1.map AE.row))), (27, .fn 14 [.ptr 27 (i6 0) 0 0])]) (h' := [(3, some (.box n0 24 [.own 25 (i4 0)])), (4, some (.box (n0 + 1) 24 [.own 34 n2])), (25, some (.arr (i4 0) 3 1 (a2.map (AS .i64)))), (27, some (.box (i6 0) 22 [.r (.sl (w2.map AE.row))])), (34, some (.arr n2 3 1 (([] : List Int).map (AS .i64))))]) ⟨.inl (.inl rfl), .inl (.inl rfl), .inl (.inl rfl), .inl (.inl rfl), .inl (.inl rfl), .inl (.inl rfl), .inl (.inl rfl), .inl (.inl rfl), .inl (.inl rfl), trivial⟩ ⟨.inl rfl, .inl rfl, .inl rfl, .inl rfl, .inl rfl, trivial⟩ (Nat.le_refl _))) (by exact AM ⟨.inl (.inl rfl), .inl (.inl rfl), .inl (.inl rfl), .inl (.inl rfl), .inl (.inl rfl), .inl (.inl rfl), .inl (.inl rfl), .inl (.inl rfl), .inl (.inl rfl), trivial⟩ ⟨.inl rfl, .inl rfl, .inl rfl, .inl rfl, .inl rfl, trivial⟩ (Nat.le_refl _))) ?_
    refine AR h8 fun b2 hx2 h12 => ?_
    refine AW.rng2 (it := fun A => Dr A [] w2) (L := [27]) (hB := [(1001, some (.box (i6 0) 22 [.r (.sl (w2.map AE.row))]))]) (caps := [.ptr 1001 (i6 0) 0 0]) 0 (fun (b1 : (List Int)) i9 => [(3, some (.box n0 24 [.own 25 (i4 0)])), (4, some (.box (n0 + 1) 24 [.own 34 (i9 0)])), (25, some (.arr (i4 0) 3 1 (a2.map (AS .i64)))), (34, some (.arr (i9 0) 3 1 (b1.map (AS .i64))))]) (fun i9 => ((n2 + 2) + (i9 1))) (AU [n2, 0]) hx2 rfl rfl (by exact ⟨rfl, rfl, rfl, trivial⟩) rfl (by decide) rfl (by exact ⟨.inr rfl, .inr rfl, .inr rfl, .inr rfl, trivial⟩) rfl (fun _ _ => rfl) (Nat.le_refl _) (fun i => Nat.lt_of_lt_of_le (Nat.lt_succ_self _) (Nat.le_add_right _ _)) rfl rfl ⟨_, Tryd.func14, rfl, rfl⟩ (fun W ys hP hi => ⟨_, LL hi ⟨hP, rfl⟩, fun rr h' ⟨i, e1, e2⟩ => by rw [e2]; rfl⟩) ?_ ?_
    · intro E1 A0 B0 hA0 hB0 (b1) from2 to2 st2 i9 h9
      have h10 : Cz b1 from2 to2 = some st2 := h9; unfold Cz at h10
      refine AW.weak (s' := ⟨[(0, .r (.sl (f1.map AE.row))), (2, .r (.bool false)), (3, .ptr 3 n0 0 0), (4, .ptr 4 (n0 + 1) 0 0), (15, .r (.bool r1)), (16, .r (.bool (!r1))), (17, .r (.sl (f1.map AE.row))), (26, .r (.sl (f1.map AE.row))), (28, .r (.int .i64 from2)), (29, .r (.int .i64 to2))], [(0, some (.lp (n2 + 1) E1 114 [28, 29] A0 B0 .ready none)), (3, some (.box n0 24 [.own 25 (i4 0)])), (4, some (.box (n0 + 1) 24 [.own 34 (i9 0)])), (25, some (.arr (i4 0) 3 1 (a2.map (AS .i64)))), (34, some (.arr (i9 0) 3 1 (b1.map (AS .i64))))], ((n2 + 2) + (i9 1)), 114⟩) (by exact AM ⟨.inl (.inl rfl), .inl (.inl rfl), .inl (.inl rfl), .inl (.inl rfl), .inl (.inl rfl), .inl (.inl rfl), .inl (.inl rfl), .inl (.inl rfl), .inl (.inl rfl), .inl (.inl rfl), trivial⟩ ⟨.inl rfl, .inl rfl, .inl rfl, .inl rfl, .inl rfl, trivial⟩ (Nat.le_refl _)) ?_
      refine AF fun K11 hK11 wK11 => ?_
      refine AW.region ?_
      refine AA.step rfl rfl rfl (AC (AI rfl (.inl rfl)) _) ?_
      refine AA.nil ?_
      refine hK11 _ ?_
      refine AW.region ?_
      refine AA.step rfl rfl rfl (AC (AI rfl (.inl rfl)) _) ?_
      refine AA.nil ?_
      refine Ij rfl (If ?_)
      refine AW.block ?_
      refine AW.region ?_
      refine AA.step rfl rfl rfl (AC (Ao (a := .own 34 (i9 0)) rfl FT (.inl rfl) rfl rfl) _) ?_
      refine AA.step rfl rfl rfl (AC (AD rfl (.inl rfl)) _) ?_
      refine AA.step rfl rfl rfl (AC (AD rfl (.inl rfl)) _) ?_
      refine AA.step rfl rfl rfl (DB 33 rfl Bd (f := (AS .i64)) (l := ([from2, to2] : List Int)) ⟨rfl, ⟨_, (.inl rfl), rfl⟩, rfl, ⟨_, (.inl rfl), rfl⟩, trivial⟩ rfl (fun _ => rfl) rfl) ?_
      refine AR h10 fun l2 el2 h11 => ?_
      refine AA.step rfl rfl rfl (D5 rfl Bd (.inl rfl) rfl (.inr (.inl ⟨_, _, (.inl rfl), rfl⟩)) el2) ?_
      refine Du rfl rfl (Df (ds := [.own 34 (((n2 + 2) + (i9 1)) + 1)]) rfl Hq (.inl rfl) rfl (.inl rfl) rfl rfl rfl rfl) ?_
      refine AA.nil ?_
      exact ⟨_, (show AG _ ⟨[], [(0, some (.lp (n2 + 1) E1 114 [28, 29] A0 B0 .busy none)), (3, some (.box n0 24 [.own 25 (i4 0)])), (4, some (.box (n0 + 1) 24 [.own 34 (((n2 + 2) + (i9 1)) + 1)])), (25, some (.arr (i4 0) 3 1 (a2.map (AS .i64)))), (34, some (.arr (((n2 + 2) + (i9 1)) + 1) 3 1 (l2.map (AS .i64))))], (((n2 + 2) + (i9 1)) + 2), 114⟩ from (by exact AM trivial ⟨.inl rfl, .inl rfl, .inl rfl, .inl rfl, .inl rfl, trivial⟩ (Nat.le_refl _))), Ik h11 (AU [(((n2 + 2) + (i9 1)) + 1), (((n2 + 2) + (i9 1)) + 2)]) rfl (Nat.le_add_left _ _)⟩
    intro i9
    refine hK9 _ ?_
    refine AF fun K12 hK12 wK12 => ?_
    refine AW.region ?_
    refine AA.step rfl rfl rfl (AC (AI rfl (.inl rfl)) _) ?_
    refine AA.step rfl rfl rfl (AC (AI rfl (.inl rfl)) _) ?_
    refine AA.nil ?_
    refine hK12 _ ?_
    refine AF fun K13 hK13 wK13 => ?_
    refine AW.region ?_
    refine AA.step rfl rfl rfl (AC (AI rfl (.inl rfl)) _) ?_
    refine AA.nil ?_
    refine hK13 _ ?_
    refine AF fun K14 hK14 wK14 => ?_
    refine AF fun K15 hK15 wK15 => ?_
    refine AW.region ?_
    refine AA.step rfl rfl rfl (AC (AD rfl (.inl rfl)) _) ?_
    refine AA.step rfl rfl rfl (AC (BD rfl Am.slice (.inl rfl)) _) ?_
    refine AA.step rfl rfl rfl (AC (AD rfl (.inl rfl)) _) ?_
    refine AA.nil ?_
    refine hK15 _ ?_
    refine AW.block ?_
    refine Cq h12 fun o5 hit1 hk1 => ?_
    have J1 : ∀ (c4 : List Int) (i15 : Nat → Nat), o5 = c4 → K14 ⟨[(0, .r (.sl (f1.map AE.row))), (3, .ptr 3 n0 0 0), (4, .ptr 4 (n0 + 1) 0 0), (9, .own 5009 (i15 0)), (10, .cst (.slice none 0 0))], [(3, some (.box n0 24 [.own 25 (i4 0)])), (4, some (.box (n0 + 1) 24 [.own 34 (i9 0)])), (25, some (.arr (i4 0) 3 1 (a2.map (AS .i64)))), (34, some (.arr (i9 0) 3 1 (b2.map (AS .i64)))), (5009, some (.arr (i15 0) 3 1 (c4.map (AS .i64))))], (i15 1), 114⟩ := by
      intro c4 i15 e
      have h13 := hk1 _ e
      refine hK14 _ ?_
      refine AF fun K16 hK16 wK16 => ?_
      refine AF fun K17 hK17 wK17 => ?_
      refine AW.region ?_
      refine AA.step rfl rfl rfl (AC (AD rfl (.inl rfl)) _) ?_
      refine AA.step rfl rfl rfl (AC (BD rfl Am.slice (.inl rfl)) _) ?_
      refine AA.step rfl rfl rfl (AC (AD rfl (.inl rfl)) _) ?_
      refine AA.nil ?_
      refine hK17 _ ?_
      refine AW.block ?_
      refine Cq h13 fun o6 hit2 hk2 => ?_
      have J2 : ∀ (d4 : List Int) (i20 : Nat → Nat), o6 = d4 → K16 ⟨[(3, .ptr 3 n0 0 0), (4, .ptr 4 (n0 + 1) 0 0), (9, .own 5009 (i15 0)), (10, .own 5010 (i20 0))], [(3, some (.box n0 24 [.own 25 (i4 0)])), (4, some (.box (n0 + 1) 24 [.own 34 (i9 0)])), (25, some (.arr (i4 0) 3 1 (a2.map (AS .i64)))), (34, some (.arr (i9 0) 3 1 (b2.map (AS .i64)))), (5009, some (.arr (i15 0) 3 1 (c4.map (AS .i64)))), (5010, some (.arr (i20 0) 3 1 (d4.map (AS .i64))))], (i20 1), 114⟩ := by
        intro d4 i20 e
        have h14 := hk2 _ e
        refine hK16 _ ?_
        refine AF fun K18 hK18 wK18 => ?_
        refine AW.region ?_
        refine AA.step rfl rfl rfl (AC (Ao (a := .own 25 (i4 0)) rfl FT (.inl rfl) rfl rfl) _) ?_
        refine AA.step rfl rfl rfl (AC (AD rfl (.inl rfl)) _) ?_
        refine AR h14 fun r2 er2 h15 => ?_
        refine AA.step rfl rfl rfl (Ap (r := .r (.bool r2)) (caps := []) (bs := [.r (.sl (a2.map (AS .i64))), .r (.sl (c4.map (AS .i64)))]) rfl (.inl rfl) rfl ⟨⟨_, (.inl rfl), .one (.own rfl)⟩, ⟨_, (.inl rfl), .one (.own rfl)⟩, trivial⟩ (fun _ => HQ (er2)) rfl) ?_
        refine AA.step rfl rfl rfl (AC (AD rfl (.inl rfl)) _) ?_
        refine AA.stepW (.one rfl rfl rfl) rfl rfl (AC (Ao (a := .own 34 (i9 0)) rfl FT (.inl rfl) rfl rfl) _) ?_
        refine AA.stepW (.one rfl rfl rfl) rfl rfl (AC (AD rfl (.inl rfl)) _) ?_
        refine AR h15 fun r3 er3 h16 => ?_
        refine AA.stepW (.one rfl rfl rfl) rfl rfl (Ap (r := .r (.bool r3)) (caps := []) (bs := [.r (.sl (b2.map (AS .i64))), .r (.sl (d4.map (AS .i64)))]) rfl (.inl rfl) rfl ⟨⟨_, (.inr ⟨_, (by exact id), rfl⟩), .one (.own rfl)⟩, ⟨_, (.inr ⟨_, (by exact id), rfl⟩), .one (.own rfl)⟩, trivial⟩ (fun hg => HQ (Ak er3 hg)) rfl) ?_
        refine AA.step rfl rfl rfl (AC (Ad rfl (.inl rfl) (.inr ⟨_, (by exact id), rfl⟩)) _) ?_
        refine AA.step rfl rfl rfl (AC (AI rfl (.inl rfl)) _) ?_
        refine AA.nil ?_
        refine hK18 _ ?_
        refine AW.ret ?_
        exact Ae (P := Tryd.prog) (fun (r : Bool) => .r (.bool r)) h16 (.inl rfl) (.t (.d rfl))
      refine In (fun (x5 : Int) (d2 : List Int) i18 => ⟨[(0, .r (.sl (f1.map AE.row))), (3, .ptr 3 n0 0 0), (4, .ptr 4 (n0 + 1) 0 0), (9, .own 5009 (i15 0)), (10, .own 5010 (i18 0)), (64, .r (.int .i64 (f1.length : Int))), (65, .r (.int .i64 x5))], [(3, some (.box n0 24 [.own 25 (i4 0)])), (4, some (.box (n0 + 1) 24 [.own 34 (i9 0)])), (25, some (.arr (i4 0) 3 1 (a2.map (AS .i64)))), (34, some (.arr (i9 0) 3 1 (b2.map (AS .i64)))), (5009, some (.arr (i15 0) 3 1 (c4.map (AS .i64)))), (5010, some (.arr (i18 0) 3 1 (d2.map (AS .i64))))], (i18 1), 114⟩) (AU [(i15 1), ((i15 1) + 1)]) hit2 (AG.trans (AG.trans (Gt 10 5010 3 1 (by decide) rfl) (by exact AM (e' := [(0, .r (.sl (f1.map AE.row))), (3, .ptr 3 n0 0 0), (4, .ptr 4 (n0 + 1) 0 0), (9, .own 5009 (i15 0)), (10, .own 5010 (i15 1)), (63, .r (.sl (f1.map AE.row))), (64, .r (.int .i64 (f1.length : Int))), (65, .r (.int .i64 0))]) (h' := [(3, some (.box n0 24 [.own 25 (i4 0)])), (4, some (.box (n0 + 1) 24 [.own 34 (i9 0)])), (25, some (.arr (i4 0) 3 1 (a2.map (AS .i64)))), (34, some (.arr (i9 0) 3 1 (b2.map (AS .i64)))), (5009, some (.arr (i15 0) 3 1 (c4.map (AS .i64)))), (5010, some (.arr (i15 1) 3 1 (([] : List Int).map (AS .i64))))]) ⟨.inl (.inl rfl), .inl (.inl rfl), .inl (.inl rfl), .inl (.inl rfl), .inl (.inl rfl), .inl (.inl rfl), .inl (.inl rfl), .inl (.inl rfl), trivial⟩ ⟨.inl rfl, .inl rfl, .inl rfl, .inl rfl, .inl rfl, .inl rfl, trivial⟩ (Nat.le_refl _))) (by exact AM ⟨.inl (.inl rfl), .inl (.inl rfl), .inl (.inl rfl), .inl (.inl rfl), .inl (.inl rfl), .inl (.inl rfl), .inl (.inl rfl), trivial⟩ ⟨.inl rfl, .inl rfl, .inl rfl, .inl rfl, .inl rfl, .inl rfl, trivial⟩ (Nat.le_refl _))) ?_
      intro x5 d2 i18 v1 hv1 hx4
      have h17 : CU f1 x5 d2 = some v1 := hv1; unfold CU at h17
      refine AF fun K19 hK19 wK19 => ?_
      refine AW.region ?_
      refine AA.step rfl rfl rfl (AC (Ah rfl (.inl rfl) (.inl rfl)) _) ?_
      refine AA.nil ?_
      refine hK19 _ ?_
      refine AF fun K20 hK20 wK20 => ?_
      refine AW.cond rfl (fun hc2 => ?_) (fun hc2 => ?_)
      · have h18 := AZ hc2 h17
        refine AW.skip ?_
        refine hK20 _ ?_
        refine AF fun K21 hK21 wK21 => ?_
        refine AW.block ?_
        refine Cq h18 fun p1 hp1 hk3 => ?_
        have J3 : ∀ (d5 : List Int) (i21 : Nat → Nat), p1 = d5 → K21 ⟨[(0, .r (.sl (f1.map AE.row))), (3, .ptr 3 n0 0 0), (4, .ptr 4 (n0 + 1) 0 0), (9, .own 5009 (i15 0)), (10, .own 5010 (i21 0)), (64, .r (.int .i64 (f1.length : Int))), (65, .r (.int .i64 x5))], [(3, some (.box n0 24 [.own 25 (i4 0)])), (4, some (.box (n0 + 1) 24 [.own 34 (i9 0)])), (25, some (.arr (i4 0) 3 1 (a2.map (AS .i64)))), (34, some (.arr (i9 0) 3 1 (b2.map (AS .i64)))), (5009, some (.arr (i15 0) 3 1 (c4.map (AS .i64)))), (5010, some (.arr (i21 0) 3 1 (d5.map (AS .i64))))], (i21 1), 114⟩ := by
          intro d5 i21 e
          have h19 := hk3 _ e
          refine hK21 _ ?_
          refine AW.region ?_
          refine AR h19 fun x7 ex7 h20 => ?_
          refine AA.step rfl rfl rfl (AC (BB rfl (.inl rfl) (.inl rfl) (fun _ => ex7)) _) ?_
          refine AA.step rfl rfl rfl (AC (AD rfl (.inl rfl)) _) ?_
          refine AA.nil ?_
          exact ED.mk h20 (AU [(i21 0), (i21 1)]) ((by exact AM ⟨.inl (.inl rfl), .inl (.inl rfl), .inl (.inl rfl), .inl (.inl rfl), .inl (.inl rfl), .inl (.inl rfl), .inl (.inl rfl), trivial⟩ ⟨.inl rfl, .inl rfl, .inl rfl, .inl rfl, .inl rfl, .inl rfl, trivial⟩ (Nat.le_refl _)))
        refine AF fun K22 hK22 wK22 => ?_
        refine AW.region ?_
        refine AA.step rfl rfl rfl (AC (AD rfl (.inl rfl)) _) ?_
        refine AA.step rfl rfl rfl (AC (AI rfl (.inl rfl)) _) ?_
        refine AA.nil ?_
        refine hK22 _ ?_
        refine AF fun K23 hK23 wK23 => ?_
        refine AF fun K24 hK24 wK24 => ?_
        refine AW.region ?_
        refine AA.step rfl rfl rfl (AC (AD rfl (.inl rfl)) _) ?_
        refine AA.step rfl rfl rfl (AC (AD rfl (.inl rfl)) _) ?_
        refine AR hp1 fun x8 ex8 h21 => ?_
        refine AA.step rfl rfl rfl (AC (Ax rfl Am.slice (.inl rfl) (.inl rfl) (fun _ => rfl) (fun _ => ex8)) _) ?_
        refine AA.step rfl rfl rfl (AC (CW (cs := [.r (.int .i64 x8.Char), .r (.int .i64 x8.Ref), .r (.sl (x8.Attrs.map AK.row))]) rfl DJ (.inl rfl) rfl rfl) _) ?_
        refine AR h21 fun r4 er4 h22 => ?_
        refine AA.step rfl rfl rfl (Ap (r := .r (.bool r4)) (caps := []) (bs := [.agg [.r (.int .i64 x8.Char), .r (.int .i64 x8.Ref), .r (.sl (x8.Attrs.map AK.row))]]) rfl (.inl rfl) rfl ⟨⟨_, (.inl rfl), .g (cs := [.int .i64 x8.Char, .int .i64 x8.Ref, .sl (x8.Attrs.map AK.row)]) rfl rfl⟩, trivial⟩ (fun _ => Fr (er4)) rfl) ?_
        refine AA.step rfl rfl rfl (AC (Bk rfl (.inl rfl)) _) ?_
        refine AA.step rfl rfl rfl (AC (AD rfl (.inl rfl)) _) ?_
        refine AA.stepW (.one rfl rfl rfl) rfl rfl (AC (AD rfl (.inl rfl)) _) ?_
        refine AA.stepW (.one rfl rfl rfl) rfl rfl (AC (CL rfl (.inr ⟨_, (by exact id), rfl⟩) (.inl rfl)) _) ?_
        refine AA.stepW (.one rfl rfl rfl) rfl rfl (AC (AD rfl (.inr ⟨_, (by exact id), rfl⟩)) _) ?_
        refine AA.stepW (.two rfl rfl rfl) rfl rfl (AC (AD rfl (.inl rfl)) _) ?_
        refine AA.stepW (.two rfl rfl rfl) rfl rfl (AC (AD rfl (.inl rfl)) _) ?_
        refine AR h22 fun x9 ex9 h23 => ?_
        refine AA.stepW (.two rfl rfl rfl) rfl rfl (AC (Fs rfl (.inr ⟨_, (by exact id), rfl⟩) (.inl rfl) (Ak ex9)) _) ?_
        refine AR h23 fun x10 ex10 h24 => ?_
        refine AA.stepW (.two rfl rfl rfl) rfl rfl (AC (Ax rfl Am.slice (.inr ⟨_, (by exact id), rfl⟩) (.inr ⟨_, (by exact id), rfl⟩) (fun _ => rfl) (Ak ex10)) _) ?_
        refine AA.stepW (.two rfl rfl rfl) rfl rfl (AC (CW (cs := [.r (.int .i64 x10.Char), .r (.int .i64 x10.Ref), .r (.sl (x10.Attrs.map AK.row))]) rfl DJ (.inr ⟨_, (by exact id), rfl⟩) rfl rfl) _) ?_
        refine AR h24 fun r5 er5 h25 => ?_
        refine AA.stepW (.two rfl rfl rfl) rfl rfl (Ap (r := .r (.bool r5)) (caps := []) (bs := [.agg [.r (.int .i64 x10.Char), .r (.int .i64 x10.Ref), .r (.sl (x10.Attrs.map AK.row))]]) rfl (.inl rfl) rfl ⟨⟨_, (.inr ⟨_, (by exact id), rfl⟩), .g (cs := [.int .i64 x10.Char, .int .i64 x10.Ref, .sl (x10.Attrs.map AK.row)]) rfl rfl⟩, trivial⟩ (fun hg => Fr (Ak er5 hg)) rfl) ?_
        refine AA.stepW (.one rfl rfl rfl) rfl rfl (AC (Ad rfl (.inr ⟨_, (by exact id), rfl⟩) (.inr ⟨_, (by exact id), rfl⟩)) _) ?_
        refine AA.step rfl rfl rfl (AC (As rfl (.inl rfl) (.inr ⟨_, (by exact id), rfl⟩)) _) ?_
        refine AA.nil ?_
        refine hK24 _ ?_
        refine AW.cond rfl (fun hc3 => ?_) (fun hc3 => ?_)
        · have h26 := AZ hc3 h25
          refine AW.exit ?_
          exact wK21 _ _ ((by exact AM ⟨.inl (.inl rfl), .inl (.inl rfl), .inl (.inl rfl), .inl (.inl rfl), .inl (.inl rfl), .inl (.inl rfl), .inl (.inl rfl), trivial⟩ ⟨.inl rfl, .inl rfl, .inl rfl, .inl rfl, .inl rfl, .inl rfl, trivial⟩ (Nat.le_refl _))) (J3 _ (AU [(i18 0), (i18 1)]) (Option.some.inj h26).symm)
        · have h26 := Aa hc3 h25
          refine AW.skip ?_
          refine hK23 _ ?_
          refine AF fun K25 hK25 wK25 => ?_
          refine AW.weak (s' := ⟨[(0, .r (.sl (f1.map AE.row))), (3, .ptr 3 n0 0 0), (4, .ptr 4 (n0 + 1) 0 0), (9, .own 5009 (i15 0)), (10, .own 5010 (i18 0)), (13, .r (.int .i64 x5)), (64, .r (.int .i64 (f1.length : Int))), (65, .r (.int .i64 x5))], [(3, some (.box n0 24 [.own 25 (i4 0)])), (4, some (.box (n0 + 1) 24 [.own 34 (i9 0)])), (25, some (.arr (i4 0) 3 1 (a2.map (AS .i64)))), (34, some (.arr (i9 0) 3 1 (b2.map (AS .i64)))), (5009, some (.arr (i15 0) 3 1 (c4.map (AS .i64)))), (5010, some (.arr (i18 0) 3 1 (d2.map (AS .i64))))], (i18 1), 114⟩) (by exact AM ⟨.inl (.inl rfl), .inl (.inl rfl), .inl (.inl rfl), .inl (.inl rfl), .inl (.inl rfl), .inl (.inl rfl), .inl (.inl rfl), .inl (.inl rfl), trivial⟩ ⟨.inl rfl, .inl rfl, .inl rfl, .inl rfl, .inl rfl, .inl rfl, trivial⟩ (Nat.le_refl _)) ?_
          refine AW.region ?_
          refine AA.step rfl rfl rfl (AC (AD rfl (.inl rfl)) _) ?_
          refine AA.step rfl rfl rfl (AC (AI rfl (.inl rfl)) _) ?_
          refine AA.nil ?_
          refine hK25 _ ?_
          refine AF fun K26 hK26 wK26 => ?_
          refine AW.block ?_
          refine Cq h26 fun o7 hit3 hk4 => ?_
          have J4 : ∀ (k4 : Int) (i26 : Nat → Nat), o7 = k4 → K26 ⟨[(0, .r (.sl (f1.map AE.row))), (3, .ptr 3 n0 0 0), (4, .ptr 4 (n0 + 1) 0 0), (9, .own 5009 (i15 0)), (10, .own 5010 (i18 0)), (13, .r (.int .i64 x5)), (14, .r (.int .i64 k4)), (64, .r (.int .i64 (f1.length : Int))), (65, .r (.int .i64 x5))], [(3, some (.box n0 24 [.own 25 (i4 0)])), (4, some (.box (n0 + 1) 24 [.own 34 (i9 0)])), (25, some (.arr (i4 0) 3 1 (a2.map (AS .i64)))), (34, some (.arr (i9 0) 3 1 (b2.map (AS .i64)))), (5009, some (.arr (i15 0) 3 1 (c4.map (AS .i64)))), (5010, some (.arr (i18 0) 3 1 (d2.map (AS .i64))))], (i26 0), 114⟩ := by
            intro k4 i26 e
            have h27 := hk4 _ e
            refine hK26 _ ?_
            refine AW.region ?_
            refine AA.step rfl rfl rfl (AC (AD rfl (.inl rfl)) _) ?_
            refine AA.step rfl rfl rfl (AC (AD rfl (.inl rfl)) _) ?_
            refine AA.step rfl rfl rfl (AC (AD rfl (.inl rfl)) _) ?_
            refine AA.step rfl rfl rfl (DB 103 rfl Bd (f := (AS .i64)) (l := ([x5, k4] : List Int)) ⟨rfl, ⟨_, (.inl rfl), rfl⟩, rfl, ⟨_, (.inl rfl), rfl⟩, trivial⟩ rfl (fun _ => rfl) rfl) ?_
            refine AR h27 fun d6 ed6 h28 => ?_
            refine AA.step rfl rfl rfl (D5 rfl Bd (.inl rfl) rfl (.inr (.inl ⟨_, _, (.inl rfl), rfl⟩)) ed6) ?_
            refine AA.step rfl rfl rfl (AC (AI rfl (.inl rfl)) _) ?_
            refine AA.nil ?_
            exact wK21 _ _ ((by exact AM ⟨.inl (.inl rfl), .inl (.inl rfl), .inl (.inl rfl), .inl (.inl rfl), .inl (.inl rfl), .inl (.inl rfl), .inl (.inl rfl), trivial⟩ ⟨.inl rfl, .inl rfl, .inl rfl, .inl rfl, .inl rfl, .inl rfl, trivial⟩ (Nat.le_refl _))) (J3 _ (AU [((i26 0) + 1), ((i26 0) + 2)]) (Option.some.inj h28).symm)
          refine DN (fun (k2 : Int) i24 => ⟨[(0, .r (.sl (f1.map AE.row))), (3, .ptr 3 n0 0 0), (4, .ptr 4 (n0 + 1) 0 0), (9, .own 5009 (i15 0)), (10, .own 5010 (i18 0)), (13, .r (.int .i64 x5)), (14, .r (.int .i64 k2)), (64, .r (.int .i64 (f1.length : Int))), (65, .r (.int .i64 x5))], [(3, some (.box n0 24 [.own 25 (i4 0)])), (4, some (.box (n0 + 1) 24 [.own 34 (i9 0)])), (25, some (.arr (i4 0) 3 1 (a2.map (AS .i64)))), (34, some (.arr (i9 0) 3 1 (b2.map (AS .i64)))), (5009, some (.arr (i15 0) 3 1 (c4.map (AS .i64)))), (5010, some (.arr (i18 0) 3 1 (d2.map (AS .i64))))], (i24 0), 114⟩) (AU [(i18 1)]) hit3 ((by exact AM ⟨.inl (.inl rfl), .inl (.inl rfl), .inl (.inl rfl), .inl (.inl rfl), .inl (.inl rfl), .inl (.inl rfl), .inl (.inl rfl), .inl (.inl rfl), .inl (.inl rfl), trivial⟩ ⟨.inl rfl, .inl rfl, .inl rfl, .inl rfl, .inl rfl, .inl rfl, trivial⟩ (Nat.le_refl _))) ?_
          intro k2 i24 v2 hv2 hx5
          have h29 : CO f1 k2 = some v2 := hv2; unfold CO at h29
          refine AF fun K27 hK27 wK27 => ?_
          refine AF fun K28 hK28 wK28 => ?_
          refine AW.region ?_
          refine AA.step rfl rfl rfl (AC (AD rfl (.inl rfl)) _) ?_
          refine AA.step rfl rfl rfl (AC (AD rfl (.inl rfl)) _) ?_
          refine AA.step rfl rfl rfl (AC (BD rfl Am.slice (.inl rfl)) _) ?_
          refine AA.step rfl rfl rfl (AC (Ah rfl (.inl rfl) (.inl rfl)) _) ?_
          refine AA.step rfl rfl rfl (AC (AD rfl (.inl rfl)) _) ?_
          refine AA.stepW (.one rfl rfl rfl) rfl rfl (AC (AD rfl (.inl rfl)) _) ?_
          refine AA.stepW (.one rfl rfl rfl) rfl rfl (AC (AD rfl (.inl rfl)) _) ?_
          refine AR h29 fun x11 ex11 h30 => ?_
          refine AA.stepW (.one rfl rfl rfl) rfl rfl (AC (Ax rfl Am.slice (.inr ⟨_, (by exact id), rfl⟩) (.inr ⟨_, (by exact id), rfl⟩) (fun _ => rfl) (Ak ex11)) _) ?_
          refine AA.stepW (.one rfl rfl rfl) rfl rfl (AC (CW (cs := [.r (.int .i64 x11.Char), .r (.int .i64 x11.Ref), .r (.sl (x11.Attrs.map AK.row))]) rfl DJ (.inr ⟨_, (by exact id), rfl⟩) rfl rfl) _) ?_
          refine AR h30 fun r6 er6 h31 => ?_
          refine AA.stepW (.one rfl rfl rfl) rfl rfl (Ap (r := .r (.bool r6)) (caps := []) (bs := [.agg [.r (.int .i64 x11.Char), .r (.int .i64 x11.Ref), .r (.sl (x11.Attrs.map AK.row))]]) rfl (.inl rfl) rfl ⟨⟨_, (.inr ⟨_, (by exact id), rfl⟩), .g (cs := [.int .i64 x11.Char, .int .i64 x11.Ref, .sl (x11.Attrs.map AK.row)]) rfl rfl⟩, trivial⟩ (fun hg => Fr (Ak er6 hg)) rfl) ?_
          refine AA.step rfl rfl rfl (AC (Ad rfl (.inl rfl) (.inr ⟨_, (by exact id), rfl⟩)) _) ?_
          refine AA.nil ?_
          refine hK28 _ ?_
          refine AW.cond rfl (fun hc4 => ?_) (fun hc4 => ?_)
          · have h32 := AZ hc4 h31
            refine AW.skip ?_
            refine hK27 _ ?_
            refine AW.block ?_
            refine AW.region ?_
            refine AA.step rfl rfl rfl (AC (AD rfl (.inl rfl)) _) ?_
            refine AR h32 fun k5 ek5 h33 => ?_
            refine AA.step rfl rfl rfl (AC (BB rfl (.inl rfl) (.inl rfl) (fun _ => ek5)) _) ?_
            refine AA.step rfl rfl rfl (AC (AI rfl (.inl rfl)) _) ?_
            refine AA.nil ?_
            exact CP.mk h33 (AU [(i24 0)]) ((by exact AM ⟨.inl (.inl rfl), .inl (.inl rfl), .inl (.inl rfl), .inl (.inl rfl), .inl (.inl rfl), .inl (.inl rfl), .inl (.inl rfl), .inl (.inl rfl), .inl (.inl rfl), trivial⟩ ⟨.inl rfl, .inl rfl, .inl rfl, .inl rfl, .inl rfl, .inl rfl, trivial⟩ (Nat.le_refl _)))
          · have h32 := Aa hc4 h31
            refine AW.exit ?_
            exact wK26 _ _ ((by exact AM ⟨.inl (.inl rfl), .inl (.inl rfl), .inl (.inl rfl), .inl (.inl rfl), .inl (.inl rfl), .inl (.inl rfl), .inl (.inl rfl), .inl (.inl rfl), .inl (.inl rfl), trivial⟩ ⟨.inl rfl, .inl rfl, .inl rfl, .inl rfl, .inl rfl, .inl rfl, trivial⟩ (Nat.le_refl _))) (J4 _ (AU [(i24 0)]) (hx5 _ (Option.some.inj h32).symm))
      · have h18 := Aa hc2 h17
        refine AW.exit ?_
        exact wK16 _ _ ((by exact AM ⟨.inl (.inl rfl), .inl (.inl rfl), .inl (.inl rfl), .inl (.inl rfl), trivial⟩ ⟨.inl rfl, .inl rfl, .inl rfl, .inl rfl, .inl rfl, .inl rfl, trivial⟩ (Nat.le_refl _))) (J2 _ (AU [(i18 0), (i18 1)]) (hx4 _ (Option.some.inj h18).symm))
    refine Fq (fun (from4 : Int) (x2 : Int) (c2 : List Int) i13 => ⟨[(0, .r (.sl (f1.map AE.row))), (3, .ptr 3 n0 0 0), (4, .ptr 4 (n0 + 1) 0 0), (9, .own 5009 (i13 0)), (10, .cst (.slice none 0 0)), (11, .r (.int .i64 from4)), (36, .r (.int .i64 (f1.length : Int))), (37, .r (.int .i64 x2))], [(3, some (.box n0 24 [.own 25 (i4 0)])), (4, some (.box (n0 + 1) 24 [.own 34 (i9 0)])), (25, some (.arr (i4 0) 3 1 (a2.map (AS .i64)))), (34, some (.arr (i9 0) 3 1 (b2.map (AS .i64)))), (5009, some (.arr (i13 0) 3 1 (c2.map (AS .i64))))], (i13 1), 114⟩) (AU [((n2 + 2) + (i9 1)), (((n2 + 2) + (i9 1)) + 1)]) hit1 (AG.trans (AG.trans (Gt 9 5009 3 1 (by decide) rfl) (by exact AM (e' := [(0, .r (.sl (f1.map AE.row))), (2, .r (.bool false)), (3, .ptr 3 n0 0 0), (4, .ptr 4 (n0 + 1) 0 0), (9, .own 5009 ((n2 + 2) + (i9 1))), (10, .cst (.slice none 0 0)), (11, .r (.int .i64 0)), (15, .r (.bool r1)), (16, .r (.bool (!r1))), (17, .r (.sl (f1.map AE.row))), (26, .r (.sl (f1.map AE.row))), (35, .r (.sl (f1.map AE.row))), (36, .r (.int .i64 (f1.length : Int))), (37, .r (.int .i64 0))]) (h' := [(3, some (.box n0 24 [.own 25 (i4 0)])), (4, some (.box (n0 + 1) 24 [.own 34 (i9 0)])), (25, some (.arr (i4 0) 3 1 (a2.map (AS .i64)))), (34, some (.arr (i9 0) 3 1 (b2.map (AS .i64)))), (5009, some (.arr ((n2 + 2) + (i9 1)) 3 1 (([] : List Int).map (AS .i64))))]) ⟨.inl (.inl rfl), .inl (.inl rfl), .inl (.inl rfl), .inl (.inl rfl), .inl (.inl rfl), .inl (.inl rfl), .inl (.inl rfl), .inl (.inl rfl), .inl (.inl rfl), .inl (.inl rfl), .inl (.inl rfl), .inl (.inl rfl), .inl (.inl rfl), .inl (.inl rfl), trivial⟩ ⟨.inl rfl, .inl rfl, .inl rfl, .inl rfl, .inl rfl, trivial⟩ (Nat.le_refl _))) (by exact AM ⟨.inl (.inl rfl), .inl (.inl rfl), .inl (.inl rfl), .inl (.inl rfl), .inl (.inl rfl), .inl (.inl rfl), .inl (.inl rfl), .inl (.inl rfl), trivial⟩ ⟨.inl rfl, .inl rfl, .inl rfl, .inl rfl, .inl rfl, trivial⟩ (Nat.le_refl _))) ?_
    intro from4 x2 c2 i13 v3 hv3 hx3
    have h34 : Bx f1 from4 x2 c2 = some v3 := hv3; unfold Bx at h34
    refine AF fun K29 hK29 wK29 => ?_
    refine AW.region ?_
    refine AA.step rfl rfl rfl (AC (Ah rfl (.inl rfl) (.inl rfl)) _) ?_
    refine AA.nil ?_
    refine hK29 _ ?_
    refine AF fun K30 hK30 wK30 => ?_
    refine AW.cond rfl (fun hc5 => ?_) (fun hc5 => ?_)
    · have h35 := AZ hc5 h34
      refine AW.skip ?_
      refine hK30 _ ?_
      refine AF fun K31 hK31 wK31 => ?_
      refine AW.block ?_
      refine JK h35 fun p2 hp2 hk5 => ?_
      have J5 : ∀ (from6 : Int) (c5 : List Int) (i27 : Nat → Nat), p2 = (from6, c5) → K31 ⟨[(0, .r (.sl (f1.map AE.row))), (3, .ptr 3 n0 0 0), (4, .ptr 4 (n0 + 1) 0 0), (9, .own 5009 (i27 0)), (10, .cst (.slice none 0 0)), (11, .r (.int .i64 from6)), (36, .r (.int .i64 (f1.length : Int))), (37, .r (.int .i64 x2))], [(3, some (.box n0 24 [.own 25 (i4 0)])), (4, some (.box (n0 + 1) 24 [.own 34 (i9 0)])), (25, some (.arr (i4 0) 3 1 (a2.map (AS .i64)))), (34, some (.arr (i9 0) 3 1 (b2.map (AS .i64)))), (5009, some (.arr (i27 0) 3 1 (c5.map (AS .i64))))], (i27 1), 114⟩ := by
        intro from6 c5 i27 e
        have h36 := hk5 _ _ e
        refine hK31 _ ?_
        refine AW.region ?_
        refine AR h36 fun x12 ex12 h37 => ?_
        refine AA.step rfl rfl rfl (AC (BB rfl (.inl rfl) (.inl rfl) (fun _ => ex12)) _) ?_
        refine AA.step rfl rfl rfl (AC (AD rfl (.inl rfl)) _) ?_
        refine AA.nil ?_
        exact DC.mk h37 (AU [(i27 0), (i27 1)]) ((by exact AM ⟨.inl (.inl rfl), .inl (.inl rfl), .inl (.inl rfl), .inl (.inl rfl), .inl (.inl rfl), .inl (.inl rfl), .inl (.inl rfl), .inl (.inl rfl), trivial⟩ ⟨.inl rfl, .inl rfl, .inl rfl, .inl rfl, .inl rfl, trivial⟩ (Nat.le_refl _)))
      refine AF fun K32 hK32 wK32 => ?_
      refine AW.region ?_
      refine AA.step rfl rfl rfl (AC (AD rfl (.inl rfl)) _) ?_
      refine AA.step rfl rfl rfl (AC (AI rfl (.inl rfl)) _) ?_
      refine AA.nil ?_
      refine hK32 _ ?_
      refine AF fun K33 hK33 wK33 => ?_
      refine AW.region ?_
      refine AA.step rfl rfl rfl (AC (AD rfl (.inl rfl)) _) ?_
      refine AA.step rfl rfl rfl (AC (AD rfl (.inl rfl)) _) ?_
      refine AR hp2 fun x13 ex13 h38 => ?_
      refine AA.step rfl rfl rfl (AC (Ax rfl Am.slice (.inl rfl) (.inl rfl) (fun _ => rfl) (fun _ => ex13)) _) ?_
      refine AA.step rfl rfl rfl (AC (Bu rfl B3 (.inl rfl)) _) ?_
      refine AA.step rfl rfl rfl (AC (BS (d := .int .i64 x13.Char) rfl Aw (.inl rfl) rfl) _) ?_
      refine AA.step rfl rfl rfl (AC (BF rfl (.inl rfl) (.inl rfl)) _) ?_
      refine AA.step rfl rfl rfl (AC (AD rfl (.inl rfl)) _) ?_
      refine AA.stepW (.one rfl rfl rfl) rfl rfl (AC (AD rfl (.inl rfl)) _) ?_
      refine AA.stepW (.one rfl rfl rfl) rfl rfl (AC (AD rfl (.inl rfl)) _) ?_
      refine AA.stepW (.one rfl rfl rfl) rfl rfl (AC (Ax rfl Am.slice (.inr ⟨_, (by exact id), rfl⟩) (.inr ⟨_, (by exact id), rfl⟩) (fun _ => rfl) (fun _ => ex13)) _) ?_
      refine AA.stepW (.one rfl rfl rfl) rfl rfl (AC (Bu rfl CG (.inr ⟨_, (by exact id), rfl⟩)) _) ?_
      refine AA.stepW (.one rfl rfl rfl) rfl rfl (AC (BS (d := .int .i64 x13.Ref) rfl Aw (.inr ⟨_, (by exact id), rfl⟩) rfl) _) ?_
      refine AA.stepW (.one rfl rfl rfl) rfl rfl (AC (BF rfl (.inr ⟨_, (by exact id), rfl⟩) (.inl rfl)) _) ?_
      refine AA.step rfl rfl rfl (AC (Ad rfl (.inl rfl) (.inr ⟨_, (by exact id), rfl⟩)) _) ?_
      refine AA.nil ?_
      refine hK33 _ ?_
      refine AW.cond rfl (fun hc6 => ?_) (fun hc6 => ?_)
      · have h39 := AZ hc6 h38
        refine AF fun K34 hK34 wK34 => ?_
        refine AW.weak (s' := ⟨[(0, .r (.sl (f1.map AE.row))), (3, .ptr 3 n0 0 0), (4, .ptr 4 (n0 + 1) 0 0), (9, .own 5009 (i13 0)), (10, .cst (.slice none 0 0)), (11, .r (.int .i64 from4)), (12, .r (.int .i64 x2)), (36, .r (.int .i64 (f1.length : Int))), (37, .r (.int .i64 x2))], [(3, some (.box n0 24 [.own 25 (i4 0)])), (4, some (.box (n0 + 1) 24 [.own 34 (i9 0)])), (25, some (.arr (i4 0) 3 1 (a2.map (AS .i64)))), (34, some (.arr (i9 0) 3 1 (b2.map (AS .i64)))), (5009, some (.arr (i13 0) 3 1 (c2.map (AS .i64))))], (i13 1), 114⟩) (by exact AM ⟨.inl (.inl rfl), .inl (.inl rfl), .inl (.inl rfl), .inl (.inl rfl), .inl (.inl rfl), .inl (.inl rfl), .inl (.inl rfl), .inl (.inl rfl), .inl (.inl rfl), trivial⟩ ⟨.inl rfl, .inl rfl, .inl rfl, .inl rfl, .inl rfl, trivial⟩ (Nat.le_refl _)) ?_
        refine AW.region ?_
        refine AA.step rfl rfl rfl (AC (AD rfl (.inl rfl)) _) ?_
        refine AA.step rfl rfl rfl (AC (AD rfl (.inl rfl)) _) ?_
        refine AA.step rfl rfl rfl (AC (AD rfl (.inl rfl)) _) ?_
        refine AR h39 fun x14 ex14 h40 => ?_
        refine AA.step rfl rfl rfl (AC (BB rfl (.inl rfl) (.inl rfl) (fun _ => ex14)) _) ?_
        refine AA.step rfl rfl rfl (DB 58 rfl Bd (f := (AS .i64)) (l := ([from4, x14] : List Int)) ⟨rfl, ⟨_, (.inl rfl), rfl⟩, rfl, ⟨_, (.inl rfl), rfl⟩, trivial⟩ rfl (fun _ => rfl) rfl) ?_
        refine AR h40 fun c6 ec6 h41 => ?_
        refine AA.step rfl rfl rfl (D5 rfl Bd (.inl rfl) rfl (.inr (.inl ⟨_, _, (.inl rfl), rfl⟩)) ec6) ?_
        refine AA.step rfl rfl rfl (AC (AI rfl (.inl rfl)) _) ?_
        refine AA.nil ?_
        refine hK34 _ ?_
        refine AW.region ?_
        refine AA.step rfl rfl rfl (AC (AD rfl (.inl rfl)) _) ?_
        refine AA.step rfl rfl rfl (AC (BB rfl (.inl rfl) (.inl rfl) (fun _ => ex14)) _) ?_
        refine AA.step rfl rfl rfl (AC (AI rfl (.inl rfl)) _) ?_
        refine AA.nil ?_
        exact wK31 _ _ ((by exact AM ⟨.inl (.inl rfl), .inl (.inl rfl), .inl (.inl rfl), .inl (.inl rfl), .inl (.inl rfl), .inl (.inl rfl), .inl (.inl rfl), .inl (.inl rfl), trivial⟩ ⟨.inl rfl, .inl rfl, .inl rfl, .inl rfl, .inl rfl, trivial⟩ (Nat.le_refl _))) (J5 _ _ (AU [((i13 1) + 1), ((i13 1) + 2)]) (Option.some.inj h41).symm)
      · have h39 := Aa hc6 h38
        refine AW.skip ?_
        exact wK31 _ _ ((by exact AM ⟨.inl (.inl rfl), .inl (.inl rfl), .inl (.inl rfl), .inl (.inl rfl), .inl (.inl rfl), .inl (.inl rfl), .inl (.inl rfl), .inl (.inl rfl), trivial⟩ ⟨.inl rfl, .inl rfl, .inl rfl, .inl rfl, .inl rfl, trivial⟩ (Nat.le_refl _))) (J5 _ _ (AU [(i13 0), (i13 1)]) (Option.some.inj h39).symm)
    · have h35 := Aa hc5 h34
      refine AW.exit ?_
      exact wK14 _ _ ((by exact AM ⟨.inl (.inl rfl), .inl (.inl rfl), .inl (.inl rfl), .inl (.inl rfl), .inl (.inl rfl), trivial⟩ ⟨.inl rfl, .inl rfl, .inl rfl, .inl rfl, .inl rfl, trivial⟩ (Nat.le_refl _))) (J1 _ (AU [(i13 0), (i13 1)]) (hx3 _ (Option.some.inj h35).symm))
end Go.Proofs.YtmbjbecccheclaaDoor.Al
