/- Walks, as printed. -/
import Derived.Test.YtelkfhdgmbahgaaPL1
import Derived.Test.YtelkfhdgmbahgaaProg
set_option maxHeartbeats 4000000
set_option maxRecDepth 20000
set_option linter.unusedVariables false
namespace Go.Proofs.Ytelkfhdgmbahgaa.Al
open Go.Proofs
theorem BD : Try.prog.follows .mixedOrders = true := by kernel_rfl
theorem Il : (Try.prog.info? 22).map (fun i => (i.zero, i.size, i.bytes)) = some (some (.slice none 0 0), 1, 24) := by kernel_rfl
theorem LN : (Try.prog.info? 24).map (fun i => (i.zero, i.size, i.bytes)) = some (some (.slice none 0 0), 1, 24) := by kernel_rfl
theorem Ek : (Try.prog.info? 3).map (fun i => (i.zero, i.size, i.bytes)) = some (some (.int .i64 0), 1, 8) := by kernel_rfl
theorem TB : (Try.prog.info? 4).map (fun i => (i.zero, i.size, i.bytes)) = some (some (.bool false), 1, 1) := by kernel_rfl
theorem I6 : (Try.prog.info? 46).map (fun i => (i.zero, i.size, i.bytes)) = some (some (.agg #[.int .i64 0, .int .i64 0, .int .i64 0, .int .i64 0, .int .i64 0, .string ⟨#[]⟩, .string ⟨#[]⟩, .string ⟨#[]⟩]), 8, 88) := by kernel_rfl
theorem KU : (Try.prog.info? 53).map (fun i => (i.zero, i.size, i.bytes)) = some (some (.slice none 0 0), 1, 24) := by kernel_rfl
theorem IU : (Try.prog.info? 55).map (fun i => (i.zero, i.size, i.bytes)) = some (some (.agg #[.int .i64 0, .int .i64 0, .string ⟨#[]⟩, .slice none 0 0]), 4, 56) := by kernel_rfl
theorem LY : (Try.prog.info? 63).map (fun i => (i.zero, i.size, i.bytes)) = some (some (.map none), 1, 8) := by kernel_rfl
theorem SQ : (Try.prog.info? 66).map (fun i => (i.zero, i.size, i.bytes)) = some (some (.agg #[.slice none 0 0, .slice none 0 0]), 2, 48) := by kernel_rfl
theorem SG : (Try.prog.info? 67).map (fun i => (i.zero, i.size, i.bytes)) = some (some (.pointer none), 1, 8) := by kernel_rfl
theorem Sf : (Try.prog.info? 71).map (fun i => (i.zero, i.size, i.bytes)) = some (some (.pointer none), 1, 8) := by kernel_rfl
theorem Nu : (Try.prog.info? 73).map (fun i => (i.zero, i.size, i.bytes)) = some (some (.map none), 1, 8) := by kernel_rfl
theorem Ns : (Try.prog.info? 74).map (fun i => (i.zero, i.size, i.bytes)) = some (some (.map none), 1, 8) := by kernel_rfl
theorem R1 : (Try.prog.info? 76).map (fun i => (i.zero, i.size, i.bytes)) = some (some (.agg #[.map none, .map none]), 2, 16) := by kernel_rfl
theorem IJ : (Try.prog.info? 80).map (fun i => (i.zero, i.size, i.bytes)) = some (some (.agg #[.string ⟨#[]⟩, .string ⟨#[]⟩]), 2, 32) := by kernel_rfl
theorem Mj : (Try.prog.info? 82).map (fun i => (i.zero, i.size, i.bytes)) = some (some (.map none), 1, 8) := by kernel_rfl
theorem MG : (Try.prog.info? 83).map (fun i => (i.zero, i.size, i.bytes)) = some (some (.nilFunc), 1, 8) := by kernel_rfl
theorem GR : (Try.prog.info? 9).map (fun i => (i.zero, i.size, i.bytes)) = some (some (.string ⟨#[]⟩), 1, 16) := by kernel_rfl
theorem QW : Bk Try.prog 22 (.slice none 0 0) := Bk.of Il
theorem NG : Bk Try.prog 24 (.slice none 0 0) := Bk.of LN
theorem RQ : Bk Try.prog 4 (.bool false) := Bk.of TB
theorem Gy : Bk Try.prog 46 (.agg #[.int .i64 0, .int .i64 0, .int .i64 0, .int .i64 0, .int .i64 0, .string ⟨#[]⟩, .string ⟨#[]⟩, .string ⟨#[]⟩]) := Bk.of I6
theorem Hv : Bk Try.prog 53 (.slice none 0 0) := Bk.of KU
theorem HE : Bk Try.prog 55 (.agg #[.int .i64 0, .int .i64 0, .string ⟨#[]⟩, .slice none 0 0]) := Bk.of IU
theorem Ny : Bk Try.prog 63 (.map none) := Bk.of LY
theorem Kj : Bk Try.prog 71 (.pointer none) := Bk.of Sf
theorem UH : Bk Try.prog 80 (.agg #[.string ⟨#[]⟩, .string ⟨#[]⟩]) := Bk.of IJ
theorem T6 : Bk Try.prog 82 (.map none) := Bk.of Mj
theorem Oj : Bk Try.prog 83 (.nilFunc) := Bk.of MG
theorem B1 : CU Try.prog 46 8 := CU.of Try.underlying46 rfl I6
theorem DD : CU Try.prog 55 4 := CU.of Try.underlying55 rfl IU
theorem Bw : CU Try.prog 80 2 := CU.of Try.underlying80 rfl IJ
theorem Jf : EN Try.prog 46 [(0, 1), (1, 1), (2, 1), (3, 1), (4, 1), (5, 1), (6, 1), (7, 1)] [.int .i64 0, .int .i64 0, .int .i64 0, .int .i64 0, .int .i64 0, .string ⟨#[]⟩, .string ⟨#[]⟩, .string ⟨#[]⟩] := EN.of Try.underlying46 (fun w => by kernel_rfl) I6
theorem Iu : EN Try.prog 55 [(0, 1), (1, 1), (2, 1), (3, 1)] [.int .i64 0, .int .i64 0, .string ⟨#[]⟩, .slice none 0 0] := EN.of Try.underlying55 (fun w => by kernel_rfl) IU
theorem Uj : H5 Try.prog 66 [(0, 1), (1, 1)] [.slice none 0 0, .slice none 0 0] := H5.of (n := 2) (e := 22) Try.underlying66 Il (SZ (by decide)) SQ
theorem Np : EN Try.prog 76 [(0, 1), (1, 1)] [.map none, .map none] := EN.of Try.underlying76 (fun w => by kernel_rfl) R1
theorem FS : EN Try.prog 80 [(0, 1), (1, 1)] [.string ⟨#[]⟩, .string ⟨#[]⟩] := EN.of Try.underlying80 (fun w => by kernel_rfl) IJ
theorem Ur : FV Try.prog 46 [some (.int .i64), some (.int .i64), some (.int .i64), some (.int .i64), some (.int .i64), some .string, some .string, some .string] := FV.of Try.underlying46 (by kernel_rfl) (by kernel_rfl) (by exact ⟨rfl, rfl, Try.underlying3, rfl, rfl, Try.underlying3, rfl, rfl, Try.underlying3, rfl, rfl, Try.underlying3, rfl, rfl, Try.underlying3, rfl, rfl, Try.underlying9, rfl, rfl, Try.underlying9, rfl, rfl, Try.underlying9, trivial⟩)
theorem NN : FV Try.prog 80 [some .string, some .string] := FV.of Try.underlying80 (by kernel_rfl) (by kernel_rfl) (by exact ⟨rfl, rfl, Try.underlying9, rfl, rfl, Try.underlying9, trivial⟩)
theorem C8 : BG Try.prog 46 0 0 := BG.of Try.underlying46 rfl rfl Ek (by decide)
theorem D8 : BG Try.prog 46 1 1 := BG.of Try.underlying46 rfl rfl Ek (by decide)
theorem B3 : BG Try.prog 46 2 2 := BG.of Try.underlying46 rfl rfl Ek (by decide)
theorem B8 : BG Try.prog 46 3 3 := BG.of Try.underlying46 rfl rfl Ek (by decide)
theorem DC : BG Try.prog 46 4 4 := BG.of Try.underlying46 rfl rfl Ek (by decide)
theorem FY : BG Try.prog 46 5 5 := BG.of Try.underlying46 rfl rfl GR (by decide)
theorem GS : BG Try.prog 46 6 6 := BG.of Try.underlying46 rfl rfl GR (by decide)
theorem E5 : BG Try.prog 46 7 7 := BG.of Try.underlying46 rfl rfl GR (by decide)
theorem BT : BG Try.prog 55 0 0 := BG.of Try.underlying55 rfl rfl Ek (by decide)
theorem Ca : BG Try.prog 55 1 1 := BG.of Try.underlying55 rfl rfl Ek (by decide)
theorem DF : BG Try.prog 55 2 2 := BG.of Try.underlying55 rfl rfl GR (by decide)
theorem E4 : BG Try.prog 55 3 3 := BG.of Try.underlying55 rfl rfl KU (by decide)
theorem Ft : BG Try.prog 76 0 0 := BG.of Try.underlying76 rfl rfl Nu (by decide)
theorem Gb : BG Try.prog 76 1 1 := BG.of Try.underlying76 rfl rfl Ns (by decide)
theorem CI : BG Try.prog 80 0 0 := BG.of Try.underlying80 rfl rfl GR (by decide)
theorem I4 : BG Try.prog 80 1 1 := BG.of Try.underlying80 rfl rfl GR (by decide)
theorem Ak : CF Try.prog 22 46 8 88 := CF.of Try.underlying22 I6 rfl rfl (by decide)
theorem AZ : CF Try.prog 24 55 4 56 := CF.of Try.underlying24 IU rfl rfl (by decide)
theorem Bl : CF Try.prog 47 3 1 8 := CF.of Try.underlying47 Ek rfl rfl (by decide)
theorem Ah : CF Try.prog 53 80 2 32 := CF.of Try.underlying53 IJ rfl rfl (by decide)
theorem SC : G0 Try.prog 66 2 22 := G0.of Try.underlying66 (BK.of Try.underlying22 rfl Il)
theorem Hh : BK Try.prog 22 := BK.of Try.underlying22 rfl Il
theorem Ko : BK Try.prog 24 := BK.of Try.underlying24 rfl LN
theorem AP : BK Try.prog 3 := BK.of Try.underlying3 rfl Ek
theorem Dk : BK Try.prog 53 := BK.of Try.underlying53 rfl KU
theorem Jh : BK Try.prog 63 := BK.of Try.underlying63 rfl LY
theorem M8 : BK Try.prog 67 := BK.of Try.underlying67 rfl SG
theorem FZ : BK Try.prog 73 := BK.of Try.underlying73 rfl Nu
theorem Gp : BK Try.prog 74 := BK.of Try.underlying74 rfl Ns
theorem G7 : BK Try.prog 82 := BK.of Try.underlying82 rfl Mj
theorem KR : BK Try.prog 83 := BK.of Try.underlying83 rfl MG
theorem Aj : BK Try.prog 9 := BK.of Try.underlying9 rfl GR
theorem Sp : ∃ i, Try.prog.info? 22 = some i ∧ i.size = 1 := EV Il
theorem PA : ∃ i, Try.prog.info? 24 = some i ∧ i.size = 1 := EV LN
theorem O9 : ∃ i, Try.prog.info? 3 = some i ∧ i.size = 1 := EV Ek
theorem G9 : ∃ i, Try.prog.info? 46 = some i ∧ i.size = 8 := EV I6
theorem Gh : ∃ i, Try.prog.info? 53 = some i ∧ i.size = 1 := EV KU
theorem GE : ∃ i, Try.prog.info? 55 = some i ∧ i.size = 4 := EV IU
theorem PX : ∃ i, Try.prog.info? 63 = some i ∧ i.size = 1 := EV LY
theorem UG : ∃ i, Try.prog.info? 80 = some i ∧ i.size = 2 := EV IJ
theorem Rb : ∃ i, Try.prog.info? 82 = some i ∧ i.size = 1 := EV Mj
theorem OO : ∃ i, Try.prog.info? 83 = some i ∧ i.size = 1 := EV MG
@[reducible] def qa (l : List AD) : AV := .r (.sl (l.map AD.row))
@[reducible] def qb (l : List AC) : AV := .r (.sl (l.map AC.row))
@[reducible] def qc (l : List AB) : AV := .r (.sl (l.map AB.row))
set_option linter.defProp false
@[reducible] def ON : List AV := [rI (((AD.mk 1 1 0 5 0 [98] [] []).Clock)), rI (((AD.mk 1 1 0 5 0 [98] [] []).Site)), rI (((AD.mk 1 1 0 5 0 [98] [] []).Kind)), rI (((AD.mk 1 1 0 5 0 [98] [] []).Item)), rI (((AD.mk 1 1 0 5 0 [98] [] []).Parent)), .r (.str ((AD.mk 1 1 0 5 0 [98] [] []).Place)), .r (.str ((AD.mk 1 1 0 5 0 [98] [] []).Name)), .r (.str ((AD.mk 1 1 0 5 0 [98] [] []).Value))]
@[reducible] def Mi : List AV := [rI (((AB.mk 5 0 [98] []).Item)), rI (((AB.mk 5 0 [98] []).Parent)), .r (.str ((AB.mk 5 0 [98] []).Place)), .r (.sl (((AB.mk 5 0 [98] []).Attrs).map AC.row))]
@[reducible] def OV : List AV := [.agg [rI ((1 : Int)), rI ((1 : Int)), rI ((0 : Int)), rI ((5 : Int)), rI ((0 : Int)), .r (.str [98]), .r (.str []), .r (.str [])]]
@[reducible] def NR (x : AD) : List AV := [.agg [rI (x.Clock), rI (x.Site), rI (x.Kind), rI (x.Item), rI (x.Parent), .r (.str x.Place), .r (.str x.Name), .r (.str x.Value)]]
@[reducible] def C2 : List AV := [rI ((1 : Int)), rI ((1 : Int)), rI ((0 : Int)), rI ((5 : Int)), rI ((0 : Int)), .r (.str [98]), .r (.str []), .r (.str [])]
@[reducible] def Aa (x : AD) : List AV := [rI (x.Clock), rI (x.Site), rI (x.Kind), rI (x.Item), rI (x.Parent), .r (.str x.Place), .r (.str x.Name), .r (.str x.Value)]
@[reducible] def O7 : List AV := [rI ((0 : Int)), rI ((0 : Int)), rI ((0 : Int)), rI ((0 : Int)), rI ((0 : Int)), .r (.str []), .r (.str []), .r (.str [])]
@[reducible] def KA : List AV := [rI (0), rI (0), rI (0), rI (0), rI (0), .r (.str []), .r (.str []), .r (.str [])]
@[reducible] def B2 : List AV := [rI ((5 : Int)), rI ((0 : Int)), .r (.str [98]), .cst (.slice none 0 0)]
@[reducible] def Ly : List AV := [rI ((0 : Int)), rI ((0 : Int)), .r (.str []), .cst (.slice none 0 0)]
@[reducible] def Gu : List AV := [.r (.sl ([(AD.mk 1 1 0 5 0 [98] [] [])].map AD.row))]
@[reducible] def Cc : List AV := [rI ((5 : Int)), rI ((0 : Int)), .r (.str [98]), .r (.sl [])]
@[reducible] def Bu (x : AB) : List AV := [rI (x.Item), rI (x.Parent), .r (.str x.Place), qb x.Attrs]
@[reducible] def JQ : List AV := [rI (0), rI (0), .r (.str []), .cst (.slice none 0 0)]
@[reducible] def Vu (x : AC) : List AV := [.r (.str x.Name), .r (.str x.Value)]
@[reducible] def BI {T r : Int} {x : Exit} {s : St} {x0 : ResultVar} := @Dl Int Try.prog T r x s x0 fun r => rI r
@[reducible] def BH {T r : Bool} {x : Exit} {s : St} {x0 : ResultVar} := @Dl Bool Try.prog T r x s x0 fun r => rB r
@[reducible] def Za := @trivial
@[reducible] def Zb := @Option.some.inj
@[reducible] def Zc := @RN
@[reducible] def Zd := @Nl
@[reducible] def Ze := @Mv
@[reducible] def Zf := @AQ.stepW
@[reducible] def Zg := @AS.step
@[reducible] def Zh := @AQ.step
@[reducible] def Zi := @Nat.le_of_ble_eq_true
@[reducible] def Zj := @AW.block
@[reducible] def Zk := @QP
@[reducible] def Zl := @AW.skip
@[reducible] def Zm := @AS.nil
@[reducible] def Zn := @SH
@[reducible] def Zo := @VN
@[reducible] def Zp := @SI
@[reducible] def Zq := @Vp
@[reducible] def Zr := @AW.ret
@[reducible] def Zs := @RA
@[reducible] def Zt := @ST
@[reducible] def Zu := @QF
@[reducible] def Zv := @Hq
@[reducible] def Zw := @UZ
@[reducible] def Zx := @AW.exit
@[reducible] def Zy := @SM
@[reducible] def Zz := @Vq
@[reducible] def ZA := @S9
@[reducible] def ZB := @UQ
@[reducible] def ZC := @QB
@[reducible] def ZD := @S5
@[reducible] def ZE := @LJ
@[reducible] def ZF := @SL
@[reducible] def ZG := @Af.trans
@[reducible] def ZH := @T2
@[reducible] def ZI := @Sg
@[reducible] def ZJ := @Vb
@[reducible] def ZK := @Vm
@[reducible] def ZL := @TZ
@[reducible] def ZM := @U7
@[reducible] def ZN := @AF.step
@[reducible] def ZO := @P6
@[reducible] def ZP := @RD
@[reducible] def ZQ := @Ve
@[reducible] def R := @rfl
set_option maxHeartbeats 40000000 in
set_option maxRecDepth 100000 in
theorem VM:Aq Try.prog 13 [.r (.str [98])] (rB (true)):=by
 refine ZJ Try.func13 R R Try.ntmps13 R (Zi R) fun n0=>?_
 refine aS fun _ hK1 _=>(aR (sA R R (aZ (hK1 _ ?_))))
 refine aS fun _ hK2 _=>(aS fun _ hK3 _=>(aR (sM R R (sQ R (EP R iL iL) (sM R R ?_)))))
 refine Zq (.one R R R) R R R (Zv (Zd R (.inl R)) _) ?_
 refine Zq (.one R R R) R R R (Zv (CL R Try.underlying9 (.inl R)) _) ?_
 refine Zq (.one R R R) R R R (Zv (A7 R (.inl R) (.inl R)) _) ?_
 refine sQ R (ZF R iL iL) (sM R R ?_)
 refine Zq (.one R R R) R R R (Zv (Zd R (.inl R)) _) ?_
 refine Zq (.one R R R) R R R (Zv (Zd R (.inl R)) _) ?_
 refine Zq (.one R R R) R R R (Zv (CL R Try.underlying9 (.inl R)) _) ?_
 have e1:Ac .i64 (0)=some (0:Int):=by kernel_rfl
 refine Zq (.one R R R) R R R (Zv (D0 R (.inl R) (.inl R) (fun _=>e1)) _) ?_
 have e2 : @AN (UInt8) [98] 0=some (98:UInt8):=by kernel_rfl
 refine Zq (.one R R R) R R R (Zv (ZP R Try.underlying9 (.inl R) (.inl R) (fun _=>e2)) _) ?_
 refine Zq (.one R R R) R R R (Zv (ZM R (.inl R) (.inl R)) _) ?_
 refine sQ R (ZF R iL iL) (aZ (hK3 _ ?_))
 refine aC R (fun hc1=>by cases hc1) (fun hc1=>?_)
 refine Zl (hK2 _ ?_)
 refine aS fun _ hK4 _=>(aS fun _ hK5 _=>?_)
 refine aK (s':=⟨[(0,.r (.str [98]))],[],n0,35⟩) ?_
 refine aR (sM R R (sQ R (CL R Try.underlying9 iL) (sM R R (aZ (hK5 _ ?_)))))
 refine Zj ?_
 refine DP 9 ?_
 refine Bc.step ?_
 refine aS fun _ hK6 _=>(aR (sQ R (Zs R iL iL) (aZ (hK6 _ ?_))))
 refine aS fun _ hK7 _=>?_
 refine aC R (fun hc2=>?_) (fun hc2=>by cases hc2)
 refine Zl (hK7 _ ?_)
 refine aS fun _ hK8 _=>(Zj (aS fun _ hK9 _=>(aR (sM R R (sA R R (aZ (hK9 _ ?_)))))))
 refine aS fun _ hK10 _=>(aR (sM R R (sM R R ?_)))
 have e3 : @AN (UInt8) [98] 0=some (98:UInt8):=by kernel_rfl
 refine sQ R (ZP R Try.underlying9 iL iL (fun _=>e3)) (sQ R (Zs R iL iL) (sM R R ?_))
 refine Zq (.one R R R) R R R (Zv (Zd R (.inl R)) _) ?_
 refine Zq (.one R R R) R R R (Zv (Zd R (.inl R)) _) ?_
 have e4 : @AN (UInt8) [98] 0=some (98:UInt8):=by kernel_rfl
 refine Zq (.one R R R) R R R (Zv (ZP R Try.underlying9 (.inl R) (.inl R) (fun _=>e4)) _) ?_
 refine Zq (.one R R R) R R R (Zv (A7 R (.inl R) (.inl R)) _) ?_
 refine sQ R (ZF R iL iL) (aZ (hK10 _ ?_))
 refine aC R (fun hc3=>by cases hc3) (fun hc3=>?_)
 refine Zl (hK8 _ ?_)
 refine aK (s':=⟨[(0,.r (.str [98])),(20,rI ((1:Int))),(21,rI ((0:Int))),(29,.r (.str [98])),(30,rI ((0:Int))),(31,.r (.int .u8 (98:Int))),(32,rB (false))],[],n0,35⟩) ?_
 refine aR ?_
 have e5:Ac .i64 (1)=some (1:Int):=by kernel_rfl
 refine sQ R (ZA R iL iL (fun _=>e5)) (sM R R ?_)
 refine Zm ?_
 refine Bc.step ?_
 refine aS fun _ hK11 _=>(aR (sQ R (Zs R iL iL) (aZ (hK11 _ ?_))))
 refine aS fun _ hK12 _=>?_
 refine aC R (fun hc4=>by cases hc4) (fun hc4=>?_)
 refine Zx ?_
 refine hK4 _ ?_
 refine aS fun _ hK13 _=>?_
 refine aK (s':=⟨[],[],n0,35⟩) ?_
 refine aR (sA R R (aZ (hK13 _ ?_)))
 refine Zr ?_
 exact BH (R:some (true:Bool)=some true) iL (.t (.d R))
set_option maxHeartbeats 40000000 in
set_option maxRecDepth 100000 in
theorem Rn:Aq Try.prog 34 OV (rI ((0:Int))):=by
 refine ZJ Try.func34 R R Try.ntmps34 R (Zi R) fun n0=>?_
 refine aS fun _ hK1 _=>(aR (Zg R R R (CS (cs:=C2) 101 R iL R R) (sA R R (aZ (hK1 _ ?_)))))
 refine aS fun _ hK2 _=>(Zj (aS fun _ hK3 _=>(aR (sQ R (fB R B3 iL fR R) (sQ R (Zc (a:=rI ((0:Int))) R AP iL R R) (sQ R (BR R iL iL) (sM R R ?_)))))))
 refine ZK (.one R R R) R R R ?_
 refine ZK (.one R R R) R R R ?_
 refine ZK (.one R R R) R R R ?_
 refine sQ R (ZB R iL (iR R)) (sA R R (aZ (hK3 _ ?_)))
 refine aC R (fun hc1=>by cases hc1) (fun hc1=>?_)
 refine aS fun _ hK4 _=>?_
 refine aK (s':=⟨[(1,.ptr 101 n0 0 0)],[(101,some (.box n0 46 C2))],(n0+1),116⟩) ?_
 refine aR (sQ R (fB R C8 iL fR R) (sQ R (Zc (a:=rI ((1:Int))) R AP iL R R) (sQ R (Zs R iL iL) (sM R R ?_))))
 refine Zq (.one R R R) R R R (Zv (fB R C8 (.inl R) fR R) _) ?_
 refine Zq (.one R R R) R R R (Zv (Zc (a:=rI ((1:Int))) R AP (.inl R) R R) _) ?_
 refine Zq (.one R R R) R R R (Zv (A7 R (.inl R) (.inl R)) _) ?_
 refine sQ R (ZF R iL iL) (sM R R ?_)
 refine Zq (.one R R R) R R R (Zv (fB R D8 (.inl R) fR R) _) ?_
 refine Zq (.one R R R) R R R (Zv (Zc (a:=rI ((1:Int))) R AP (.inl R) R R) _) ?_
 refine Zq (.one R R R) R R R (Zv (Zs R (.inl R) (.inl R)) _) ?_
 refine sQ R (ZF R iL iL) (sM R R ?_)
 refine Zq (.one R R R) R R R (Zv (fB R D8 (.inl R) fR R) _) ?_
 refine Zq (.one R R R) R R R (Zv (Zc (a:=rI ((1:Int))) R AP (.inl R) R R) _) ?_
 refine Zq (.one R R R) R R R (Zv (A7 R (.inl R) (.inl R)) _) ?_
 refine sQ R (ZF R iL iL) (sM R R ?_)
 refine Zq (.one R R R) R R R (Zv (fB R B8 (.inl R) fR R) _) ?_
 refine Zq (.one R R R) R R R (Zv (Zc (a:=rI ((5:Int))) R AP (.inl R) R R) _) ?_
 refine Zq (.one R R R) R R R (Zv (Zs R (.inl R) (.inl R)) _) ?_
 refine sQ R (ZF R iL iL) (sM R R ?_)
 refine Zq (.one R R R) R R R (Zv (fB R B8 (.inl R) fR R) _) ?_
 refine Zq (.one R R R) R R R (Zv (Zc (a:=rI ((5:Int))) R AP (.inl R) R R) _) ?_
 refine Zq (.one R R R) R R R (Zv (A7 R (.inl R) (.inl R)) _) ?_
 refine sQ R (ZF R iL iL) (sA R R (aZ (hK4 _ ?_)))
 refine aC R (fun hc2=>by cases hc2) (fun hc2=>?_)
 refine aS fun _ hK5 _=>(aS fun _ hK6 _=>?_)
 refine aK (s':=⟨[(1,.ptr 101 n0 0 0)],[(101,some (.box n0 46 C2))],(n0+1),116⟩) ?_
 refine aR (sQ R (fB R B3 iL fR R) (sQ R (Zc (a:=rI ((0:Int))) R AP iL R R) (sQ R (ZM R iL iL) (sM R R ?_))))
 refine Zq (.one R R R) R R R (Zv (fB R GS (.inl R) fR R) _) ?_
 refine Zq (.one R R R) R R R (Zv (Zc (a:=.r (.str [])) R Aj (.inl R) R R) _) ?_
 refine Zq (.one R R R) R R R (Zv (C1 R (.inl R) (.inl R)) _) ?_
 refine Zq (.one R R R) R R R (Zv (Zd R (.inl R)) _) ?_
 refine Zq (.one R R R) R R R (Zv (fB R E5 (.inl R) fR R) _) ?_
 refine Zq (.one R R R) R R R (Zv (Zc (a:=.r (.str [])) R Aj (.inl R) R R) _) ?_
 refine Zq (.one R R R) R R R (Zv (C1 R (.inl R) (.inl R)) _) ?_
 refine Zq (.one R R R) R R R (Zv (ZF R (.inl R) (.inl R)) _) ?_
 refine sQ R (ZB R iL iL) (sA R R (aZ (hK6 _ ?_)))
 refine aC R (fun hc3=>by cases hc3) (fun hc3=>?_)
 refine aK (s':=⟨[(1,.ptr 101 n0 0 0)],[(101,some (.box n0 46 C2))],(n0+1),116⟩) ?_
 refine aR (sQ R (fB R B3 iL fR R) (sQ R (Zc (a:=rI ((0:Int))) R AP iL R R) (sQ R (ZM R iL iL) (sM R R ?_))))
 refine ZK (.one R R R) R R R ?_
 refine ZK (.one R R R) R R R ?_
 refine ZK (.one R R R) R R R ?_
 refine ZK (.one R R R) R R R ?_
 refine ZK (.two R R R) R R R ?_
 refine ZK (.two R R R) R R R ?_
 refine ZK (.two R R R) R R R ?_
 refine ZK (.one R R R) R R R ?_
 refine sQ R (ZB R iL (iR R)) (sA R R (aZ (hK5 _ ?_)))
 refine aC R (fun hc4=>by cases hc4) (fun hc4=>?_)
 refine aS fun _ hK7 _=>?_
 refine aK (s':=⟨[(1,.ptr 101 n0 0 0)],[(101,some (.box n0 46 C2))],(n0+1),116⟩) ?_
 refine aR (sQ R (fB R B3 iL fR R) (sQ R (Zc (a:=rI ((0:Int))) R AP iL R R) (sQ R (ZM R iL iL) (sM R R ?_))))
 refine Zq (.one R R R) R R R (Zv (fB R DC (.inl R) fR R) _) ?_
 refine Zq (.one R R R) R R R (Zv (Zc (a:=rI ((0:Int))) R AP (.inl R) R R) _) ?_
 refine Zq (.one R R R) R R R (Zv (Zs R (.inl R) (.inl R)) _) ?_
 refine Zq (.one R R R) R R R (Zv (Zd R (.inl R)) _) ?_
 refine Zq (.one R R R) R R R (Zv (fB R DC (.inl R) fR R) _) ?_
 refine Zq (.one R R R) R R R (Zv (Zc (a:=rI ((0:Int))) R AP (.inl R) R R) _) ?_
 refine Zq (.one R R R) R R R (Zv (A7 R (.inl R) (.inl R)) _) ?_
 refine Zq (.one R R R) R R R (Zv (ZF R (.inl R) (.inl R)) _) ?_
 refine sQ R (ZB R iL iL) (sA R R (aZ (hK7 _ ?_)))
 refine aC R (fun hc5=>by cases hc5) (fun hc5=>?_)
 refine aS fun _ hK8 _=>(aS fun _ hK9 _=>?_)
 refine aK (s':=⟨[(1,.ptr 101 n0 0 0)],[(101,some (.box n0 46 C2))],(n0+1),116⟩) ?_
 refine aR (sQ R (fB R B3 iL fR R) (sQ R (Zc (a:=rI ((0:Int))) R AP iL R R) (sQ R (ZM R iL iL) (sM R R ?_))))
 refine Zq (.one R R R) R R R (Zv (fB R FY (.inl R) fR R) _) ?_
 refine Zq (.one R R R) R R R (Zv (Zc (a:=.r (.str [98])) R Aj (.inl R) R R) _) ?_
 refine Zq (.one R R R) R R R (ZC (r:=rB (true)) (caps:=[]) (bs:=[.r (.str [98])]) R (.inl R) R ⟨⟨_,(.inl R),.d R⟩,Za⟩ (fun _=>(fun _:True=>VM) (True.intro)) R) ?_
 refine Zq (.one R R R) R R R (Zv (Bh R (.inl R)) _) ?_
 refine sQ R (ZB R iL iL) (sA R R (aZ (hK9 _ ?_)))
 refine aC R (fun hc6=>by cases hc6) (fun hc6=>?_)
 refine aK (s':=⟨[(1,.ptr 101 n0 0 0)],[(101,some (.box n0 46 C2))],(n0+1),116⟩) ?_
 refine aR (sQ R (fB R B3 iL fR R) (sQ R (Zc (a:=rI ((0:Int))) R AP iL R R) (sQ R (ZM R iL iL) (sM R R ?_))))
 refine ZK (.one R R R) R R R ?_
 refine ZK (.one R R R) R R R ?_
 refine ZK (.one R R R) R R R ?_
 refine ZK (.one R R R) R R R ?_
 refine sQ R (ZB R iL (iR R)) (sA R R (aZ (hK8 _ ?_)))
 refine aC R (fun hc7=>by cases hc7) (fun hc7=>?_)
 refine aS fun _ hK10 _=>?_
 refine aK (s':=⟨[(1,.ptr 101 n0 0 0)],[(101,some (.box n0 46 C2))],(n0+1),116⟩) ?_
 refine aR (sQ R (fB R B3 iL fR R) (sQ R (Zc (a:=rI ((0:Int))) R AP iL R R) (sQ R (ZM R iL iL) (sM R R ?_))))
 refine ZK (.one R R R) R R R ?_
 refine ZK (.one R R R) R R R ?_
 refine ZK (.one R R R) R R R ?_
 refine sQ R (ZB R iL (iR R)) (sM R R ?_)
 refine ZK (.one R R R) R R R ?_
 refine ZK (.one R R R) R R R ?_
 refine ZK (.one R R R) R R R ?_
 refine ZK (.one R R R) R R R ?_
 refine sQ R (ZB R iL (iR R)) (sA R R (aZ (hK10 _ ?_)))
 refine aC R (fun hc8=>by cases hc8) (fun hc8=>?_)
 refine Zl (hK2 _ ?_)
 refine aS fun _ hK11 _=>?_
 refine aK (s':=⟨[],[],(n0+1),116⟩) ?_
 refine aR (sA R R (aZ (hK11 _ ?_)))
 refine Zr ?_
 exact BI (R:some (0:Int)=some 0) iL (.t (.d R))
set_option maxHeartbeats 40000000 in
set_option maxRecDepth 100000 in
theorem Qg:Aq Try.prog 15 Gu (rI ((0:Int))):=by
 refine ZJ Try.func15 R R Try.ntmps15 R (Zi R) fun n0=>?_
 refine aS fun _ hK1 _=>(aR (sA R R (aZ (hK1 _ ?_))))
 refine aS fun _ hK2 _=>(aS fun _ hK3 _=>(aR (sM R R (sQ R (ZD R Ak.slice iL) (sM R R (aZ (hK3 _ ?_)))))))
 refine Zj ?_
 refine DP 9 ?_
 refine Bc.step ?_
 refine aS fun _ hK4 _=>(aR (sQ R (Zs R iL iL) (aZ (hK4 _ ?_))))
 refine aS fun _ hK5 _=>?_
 refine aC R (fun hc1=>?_) (fun hc1=>by cases hc1)
 refine Zl (hK5 _ ?_)
 refine aS fun _ hK6 _=>(Zj (aS fun _ hK7 _=>(aR (sM R R ?_))))
 have e1 : @AN (AD) [(AD.mk 1 1 0 5 0 [98] [] [])] 0=some (AD.mk 1 1 0 5 0 [98] [] []):=by kernel_rfl
 refine sQ R (Zt R Ak.slice iL iL (fun _=>R) (fun _=>e1)) (sQ R (ZH (cs:=ON) R B1 iL R R) (Zg R R R (Bz (cs:=O7) 101 R Gy R R) (sA R R (Zz R R (ZI (ds:=C2) R G9 iL R iL R R R R) (aZ (hK7 _ ?_))))))
 refine aS fun _ hK8 _=>(aS fun _ hK9 _=>(aR (sQ R (DM R B1 iL R R) (Zg R R R (ZC (r:=rI (0)) (caps:=[]) (bs:=OV) R iL R ⟨⟨_,iL,.g (cs:=[.int .i64 (1:Int),.int .i64 (1:Int),.int .i64 (0:Int),.int .i64 (5:Int),.int .i64 (0:Int),.str [98],.str [],.str []]) R R⟩,Za⟩ (fun _=>(fun _:True=>Rn) (True.intro)) R) (sA R R (aZ (hK9 _ ?_)))))))
 refine aS fun _ hK10 _=>(aR (sM R R (sQ R (BR R iL iL) (aZ (hK10 _ ?_)))))
 refine aC R (fun hc2=>by cases hc2) (fun hc2=>?_)
 refine Zl (hK8 _ ?_)
 refine aS fun _ hK11 _=>?_
 refine aK (s':=⟨[(0,.r (.sl ([(AD.mk 1 1 0 5 0 [98] [] [])].map AD.row))),(3,rI ((0:Int))),(4,.ptr 101 n0 0 0),(6,.r (.sl ([(AD.mk 1 1 0 5 0 [98] [] [])].map AD.row))),(7,rI ((1:Int))),(8,rI ((0:Int)))],[(101,some (.box n0 46 C2))],(n0+1),31⟩) ?_
 refine ZQ BD (by kernel_rfl) ?_
 refine Zh R R R (Zd R iL) (Zh R R R (A7 R iL iL) (Zh R R R (Zd R iL) ?_))
 refine Zf (.one R R R) R R (AX.no (v:=.any) R) ?_
 refine Zf (.one R R R) R R (AX.no (v:=.any) R) ?_
 refine Zf (.one R R R) R R (AX.no (v:=.any) R) ?_
 refine Zf (.one R R R) R R (AX.no (v:=.any) R) ?_
 refine Zf (.one R R R) R R (AX.no (v:=.any) R) ?_
 refine Zf (.one R R R) R R (AX.no (v:=.any) R) ?_
 refine Zf (.one R R R) R R (AX.no (v:=.any) R) ?_
 refine Zf (.one R R R) R R (AX.no (v:=rB (false)) R) ?_
 refine Zh R R R (ZB R iL (iR R)) ?_
 refine AQ.nil ?_
 refine hK11 _ ?_
 refine aC R (fun hc3=>by cases hc3) (fun hc3=>?_)
 refine Zl (hK6 _ ?_)
 refine aK (s':=⟨[(0,.r (.sl ([(AD.mk 1 1 0 5 0 [98] [] [])].map AD.row))),(6,.r (.sl ([(AD.mk 1 1 0 5 0 [98] [] [])].map AD.row))),(7,rI ((1:Int))),(8,rI ((0:Int)))],[],(n0+1),31⟩) ?_
 refine aR ?_
 have e3:Ac .i64 (1)=some (1:Int):=by kernel_rfl
 refine sQ R (ZA R iL iL (fun _=>e3)) (sM R R ?_)
 refine Zm ?_
 refine Bc.step ?_
 refine aS fun _ hK12 _=>(aR (sQ R (Zs R iL iL) (aZ (hK12 _ ?_))))
 refine aS fun _ hK13 _=>?_
 refine aC R (fun hc4=>by cases hc4) (fun hc4=>?_)
 refine Zx ?_
 refine hK2 _ ?_
 refine aS fun _ hK14 _=>(aR (sA R R (aZ (hK14 _ ?_))))
 refine Zr ?_
 exact BI (R:some (0:Int)=some 0) iL (.t (.d R))
set_option maxHeartbeats 40000000 in
set_option maxRecDepth 100000 in
theorem Sy:Aq Try.prog 79 [.r (.int .u64 (1:Int))] (rI ((1:Int))):=by
 refine ZJ Try.func79 R R Try.ntmps79 R (Zi R) fun n0=>?_
 refine aS fun _ hK1 _=>(aR (sA R R (aZ (hK1 _ ?_))))
 refine aS fun _ hK2 _=>(aS fun _ hK3 _=>(aR (sM R R (sQ R (Cf R iL iL) (aZ (hK3 _ ?_))))))
 refine aC R (fun hc1=>by cases hc1) (fun hc1=>?_)
 refine Zl (hK2 _ ?_)
 refine aS fun _ hK4 _=>(aS fun _ hK5 _=>(aR (sM R R (sQ R (Cf R iL iL) (aZ (hK5 _ ?_))))))
 refine aC R (fun hc2=>by cases hc2) (fun hc2=>?_)
 refine Zl (hK4 _ ?_)
 refine aS fun _ hK6 _=>(aS fun _ hK7 _=>(aR (sM R R (sQ R (Cf R iL iL) (aZ (hK7 _ ?_))))))
 refine aC R (fun hc3=>by cases hc3) (fun hc3=>?_)
 refine Zl (hK6 _ ?_)
 refine aS fun _ hK8 _=>(aR (sM R R (sM R R (sQ R (Gl R Try.underlying112 Try.underlying5 iL) ?_))))
 have e1 : @AN (UInt8) [0,1,2,2,3,3,3,3,4,4,4,4,4,4,4,4,5,5,5,5,5,5,5,5,5,5,5,5,5,5,5,5,6,6,6,6,6,6,6,6,6,6,6,6,6,6,6,6,6,6,6,6,6,6,6,6,6,6,6,6,6,6,6,6,7,7,7,7,7,7,7,7,7,7,7,7,7,7,7,7,7,7,7,7,7,7,7,7,7,7,7,7,7,7,7,7,7,7,7,7,7,7,7,7,7,7,7,7,7,7,7,7,7,7,7,7,7,7,7,7,7,7,7,7,7,7,7,7,8,8,8,8,8,8,8,8,8,8,8,8,8,8,8,8,8,8,8,8,8,8,8,8,8,8,8,8,8,8,8,8,8,8,8,8,8,8,8,8,8,8,8,8,8,8,8,8,8,8,8,8,8,8,8,8,8,8,8,8,8,8,8,8,8,8,8,8,8,8,8,8,8,8,8,8,8,8,8,8,8,8,8,8,8,8,8,8,8,8,8,8,8,8,8,8,8,8,8,8,8,8,8,8,8,8,8,8,8,8,8,8,8,8,8,8,8,8,8,8,8,8,8,8,8,8,8,8] 1=some (1:UInt8):=by kernel_rfl
 refine sQ R (ZP R Try.underlying9 iL iL (fun _=>e1)) (sQ R (Gl R Try.underlying5 Try.underlying3 iL) ?_)
 have e2:Ac .i64 (1)=some (1:Int):=by kernel_rfl
 refine sQ R (ZA R iL iL (fun _=>e2)) (sA R R (aZ (hK8 _ ?_)))
 refine Zr ?_
 exact BI (R:some (1:Int)=some 1) iL (.t (.d R))
set_option maxHeartbeats 40000000 in
set_option maxRecDepth 100000 in
theorem M7:Aq Try.prog 60 [.r (.int .u64 (1:Int))] (rI ((1:Int))):=by
 refine ZJ Try.func60 R R Try.ntmps60 R (Zi R) fun n0=>?_
 refine aS fun _ hK1 _=>(aR (sA R R (aZ (hK1 _ ?_))))
 refine aS fun _ hK2 _=>?_
 refine aC R (fun hc1=>by cases hc1) (fun hc1=>?_)
 refine Zl (hK2 _ ?_)
 refine aS fun _ hK3 _=>(aR (sM R R (Zg R R R (ZC (r:=rI (1)) (caps:=[]) (bs:=[.r (.int .u64 (1:Int))]) R iL R ⟨⟨_,iL,.d R⟩,Za⟩ (fun _=>(fun _:True=>Sy) (True.intro)) R) (sA R R (aZ (hK3 _ ?_))))))
 refine Zr ?_
 exact BI (R:some (1:Int)=some 1) iL (.t (.d R))
set_option maxHeartbeats 40000000 in
set_option maxRecDepth 100000 in
theorem Pz:Aq Try.prog 79 [.r (.int .u64 (0:Int))] (rI ((0:Int))):=by
 refine ZJ Try.func79 R R Try.ntmps79 R (Zi R) fun n0=>?_
 refine aS fun _ hK1 _=>(aR (sA R R (aZ (hK1 _ ?_))))
 refine aS fun _ hK2 _=>(aS fun _ hK3 _=>(aR (sM R R (sQ R (Cf R iL iL) (aZ (hK3 _ ?_))))))
 refine aC R (fun hc1=>by cases hc1) (fun hc1=>?_)
 refine Zl (hK2 _ ?_)
 refine aS fun _ hK4 _=>(aS fun _ hK5 _=>(aR (sM R R (sQ R (Cf R iL iL) (aZ (hK5 _ ?_))))))
 refine aC R (fun hc2=>by cases hc2) (fun hc2=>?_)
 refine Zl (hK4 _ ?_)
 refine aS fun _ hK6 _=>(aS fun _ hK7 _=>(aR (sM R R (sQ R (Cf R iL iL) (aZ (hK7 _ ?_))))))
 refine aC R (fun hc3=>by cases hc3) (fun hc3=>?_)
 refine Zl (hK6 _ ?_)
 refine aS fun _ hK8 _=>(aR (sM R R (sM R R (sQ R (Gl R Try.underlying112 Try.underlying5 iL) ?_))))
 have e1 : @AN (UInt8) [0,1,2,2,3,3,3,3,4,4,4,4,4,4,4,4,5,5,5,5,5,5,5,5,5,5,5,5,5,5,5,5,6,6,6,6,6,6,6,6,6,6,6,6,6,6,6,6,6,6,6,6,6,6,6,6,6,6,6,6,6,6,6,6,7,7,7,7,7,7,7,7,7,7,7,7,7,7,7,7,7,7,7,7,7,7,7,7,7,7,7,7,7,7,7,7,7,7,7,7,7,7,7,7,7,7,7,7,7,7,7,7,7,7,7,7,7,7,7,7,7,7,7,7,7,7,7,7,8,8,8,8,8,8,8,8,8,8,8,8,8,8,8,8,8,8,8,8,8,8,8,8,8,8,8,8,8,8,8,8,8,8,8,8,8,8,8,8,8,8,8,8,8,8,8,8,8,8,8,8,8,8,8,8,8,8,8,8,8,8,8,8,8,8,8,8,8,8,8,8,8,8,8,8,8,8,8,8,8,8,8,8,8,8,8,8,8,8,8,8,8,8,8,8,8,8,8,8,8,8,8,8,8,8,8,8,8,8,8,8,8,8,8,8,8,8,8,8,8,8,8,8,8,8,8,8] 0=some (0:UInt8):=by kernel_rfl
 refine sQ R (ZP R Try.underlying9 iL iL (fun _=>e1)) (sQ R (Gl R Try.underlying5 Try.underlying3 iL) ?_)
 have e2:Ac .i64 (0)=some (0:Int):=by kernel_rfl
 refine sQ R (ZA R iL iL (fun _=>e2)) (sA R R (aZ (hK8 _ ?_)))
 refine Zr ?_
 exact BI (R:some (0:Int)=some 0) iL (.t (.d R))
set_option maxHeartbeats 40000000 in
set_option maxRecDepth 100000 in
theorem RO:Aq Try.prog 60 [.r (.int .u64 (0:Int))] (rI ((0:Int))):=by
 refine ZJ Try.func60 R R Try.ntmps60 R (Zi R) fun n0=>?_
 refine aS fun _ hK1 _=>(aR (sA R R (aZ (hK1 _ ?_))))
 refine aS fun _ hK2 _=>?_
 refine aC R (fun hc1=>by cases hc1) (fun hc1=>?_)
 refine Zl (hK2 _ ?_)
 refine aS fun _ hK3 _=>(aR (sM R R (Zg R R R (ZC (r:=rI (0)) (caps:=[]) (bs:=[.r (.int .u64 (0:Int))]) R iL R ⟨⟨_,iL,.d R⟩,Za⟩ (fun _=>(fun _:True=>Pz) (True.intro)) R) (sA R R (aZ (hK3 _ ?_))))))
 refine Zr ?_
 exact BI (R:some (0:Int)=some 0) iL (.t (.d R))
set_option maxHeartbeats 40000000 in
set_option maxRecDepth 100000 in
theorem P0:Aq Try.prog 26 Gu (.r (.sl ([(AB.mk 5 0 [98] [])].map AB.row))):=by
 refine ZJ Try.func26 R R Try.ntmps26 R (Zi R) fun n0=>?_
 refine aS fun _ hK1 _=>(aR (sA R R (aZ (hK1 _ ?_))))
 refine aS fun _ hK2 _=>(aR (sM R R ?_))
 refine Dj [] Gu R R R R iL (by exact ⟨iL,Za⟩) Try.func37 R R Try.ntmps37 R fun _ hK3=>?_
 refine aS fun _ hK4 _=>?_
 refine aK (s':=⟨[(0,.r (.sl ([(AD.mk 1 1 0 5 0 [98] [] [])].map AD.row)))],[],n0,64⟩) ?_
 refine aR (sA R R (aZ (hK4 _ ?_)))
 refine aS fun _ hK5 _=>(aR (Zg R R R (H2 101 R) (Zg R R R (H2 102 R) ?_)))
 refine sQ R (CX R Np (q:=[(0,_),(1,_)]) (by exact ⟨R,R,R,iL,R,R,R,iL,Za⟩) (cs:=[.mref 101 n0,.mref 102 (n0+1)]) (by rfl)) ?_
 refine Zg R R R (CS (cs:=[.mref 101 n0,.mref 102 (n0+1)]) 103 R iL R R) (sA R R (aZ (hK5 _ ?_)))
 refine aS fun _ hK6 _=>(aS fun _ hK7 _=>(aR (sM R R (sQ R (ZD R Ak.slice iL) (sM R R (aZ (hK7 _ ?_)))))))
 refine Zj ?_
 refine DP 9 ?_
 refine Bc.step ?_
 refine aS fun _ hK8 _=>(aR (sQ R (Zs R iL iL) (aZ (hK8 _ ?_))))
 refine aS fun _ hK9 _=>?_
 refine aC R (fun hc1=>?_) (fun hc1=>by cases hc1)
 refine Zl (hK9 _ ?_)
 refine aS fun _ hK10 _=>(Zj (aS fun _ hK11 _=>(aR ?_)))
 have e1 : @AN (AD) [(AD.mk 1 1 0 5 0 [98] [] [])] 0=some (AD.mk 1 1 0 5 0 [98] [] []):=by kernel_rfl
 refine sQ R (Zt R Ak.slice iL iL (fun _=>R) (fun _=>e1)) (sQ R (ZH (cs:=ON) R B1 iL R R) (Zg R R R (Bz (cs:=O7) 104 R Gy R R) (Zz R R (ZI (ds:=C2) R G9 iL R iL R R R R) (aZ (hK11 _ ?_)))))
 refine Zj (aS fun _ hK12 _=>?_)
 refine aK (s':=⟨[(3,.ptr 103 (n0+2) 0 0),(5,.ptr 104 (n0+3) 0 0),(10,.r (.sl ([(AD.mk 1 1 0 5 0 [98] [] [])].map AD.row))),(11,rI ((1:Int))),(12,rI ((0:Int)))],[(101,some (.mp n0 [] [] 0)),(102,some (.mp (n0+1) [] [] 0)),(103,some (.box (n0+2) 76 [.mref 101 n0,.mref 102 (n0+1)])),(104,some (.box (n0+3) 46 C2))],(n0+4),64⟩) ?_
 refine aR (sQ R (fB R B3 iL fR R) (sQ R (Zc (a:=rI ((0:Int))) R AP iL R R) (sQ R (ZM R iL iL) (sA R R (aZ (hK12 _ ?_))))))
 refine aC R (fun hc2=>by cases hc2) (fun hc2=>?_)
 refine aS fun _ hK13 _=>(aR (sM R R (sQ R (fB R DC iL fR R) (sQ R (Zc (a:=rI ((0:Int))) R AP iL R R) (sQ R (fB R B8 iL fR R) (sQ R (Zc (a:=rI ((5:Int))) R AP iL R R) ?_))))))
 refine Dj [] [.ptr 103 (n0+2) 0 0,rI ((0:Int)),rI ((5:Int))] R R R R iL (by exact ⟨iL,iL,iL,Za⟩) Try.func57 R R Try.ntmps57 R fun _ hK14=>?_
 refine aS fun _ hK15 _=>?_
 refine aK (s':=⟨[(0,.ptr 103 (n0+2) 0 0),(1,rI ((0:Int))),(2,rI ((5:Int)))],[(101,some (.mp n0 [] [] 0)),(102,some (.mp (n0+1) [] [] 0)),(103,some (.box (n0+2) 76 [.mref 101 n0,.mref 102 (n0+1)])),(104,some (.box (n0+3) 46 C2))],(n0+4),29⟩) ?_
 refine aR (sA R R (aZ (hK15 _ ?_)))
 refine aS fun _ hK16 _=>(Zj ?_)
 refine DP 9 ?_
 refine Bc.step ?_
 refine aS fun _ hK17 _=>(aS fun _ hK18 _=>(aR (sM R R (sQ R (A7 R iL iL) (aZ (hK18 _ ?_))))))
 refine aC R (fun hc3=>by cases hc3) (fun hc3=>?_)
 refine Zx ?_
 refine hK16 _ ?_
 refine aS fun _ hK19 _=>(aR (sA R R (aZ (hK19 _ ?_))))
 refine Zr ?_
 refine B7.intro (rB (false)) (R) ?_
 refine hK14 _ _ _ ?_
 refine sQ R (Bh R iL) (sA R R (aZ (hK13 _ ?_)))
 refine aC R (fun hc4=>?_) (fun hc4=>by cases hc4)
 refine aK (s':=⟨[(3,.ptr 103 (n0+2) 0 0),(5,.ptr 104 (n0+3) 0 0),(10,.r (.sl ([(AD.mk 1 1 0 5 0 [98] [] [])].map AD.row))),(11,rI ((1:Int))),(12,rI ((0:Int)))],[(101,some (.mp n0 [] [] 0)),(102,some (.mp (n0+1) [] [] 0)),(103,some (.box (n0+2) 76 [.mref 101 n0,.mref 102 (n0+1)])),(104,some (.box (n0+3) 46 C2))],(n0+4),64⟩) ?_
 refine Ks [] [0,1,2,3,4,5,6,7,8,9,10,11,12] [13] 14 BD (by kernel_rfl) R R R R R ?_
 refine DZ.nil ?_
 refine ZN R R R (Zd R iL) ?_
 refine ZN R R R (ZL (ob:=.box _ _ _) R iL fR R) ?_
 refine ZN R R R (fB R Ft iL fR R) ?_
 refine ZN R R R (Zc (a:=.mref 101 n0) R FZ iL R R) ?_
 refine ZN R R R (fB R B8 iL fR R) ?_
 refine ZN R R R (Zc (a:=rI ((5:Int))) R AP iL R R) ?_
 refine ZN R R R (fB R B8 iL fR R) ?_
 refine ZN R R R (Zc (a:=rI ((5:Int))) R AP iL R R) ?_
 refine ZN R R R (fB R DC iL fR R) ?_
 refine ZN R R R (Zc (a:=rI ((0:Int))) R AP iL R R) ?_
 refine ZN R R R (fB R FY iL fR R) ?_
 refine ZN R R R (Zc (a:=.r (.str [98])) R Aj iL R R) ?_
 refine ZN R R R (CX R Iu (q:=[(0,_),(1,_),(2,_)]) (by exact ⟨R,R,R,iL,R,R,R,iL,R,R,R,iL,Za⟩) (cs:=B2) (by rfl)) ?_
 refine AF.nil ?_
 refine AA.step R R R (NJ (cs:=B2) 105 R iL R R) ?_
 refine AA.nil ?_
 refine Zz R R (JC (.inl rfl) Try.underlying73 Try.underlying3 (.inl rfl) (.inl rfl) (.inl rfl) R R) (aZ (hK10 _ ?_))
 refine aK (s':=⟨[(3,.ptr 103 (n0+2) 0 0),(10,.r (.sl ([(AD.mk 1 1 0 5 0 [98] [] [])].map AD.row))),(11,rI ((1:Int))),(12,rI ((0:Int)))],[(101,some (.mp n0 [(5,0)] [.ptr 105 (n0+4) 0 0] 1)),(102,some (.mp (n0+1) [] [] 0)),(103,some (.box (n0+2) 76 [.mref 101 n0,.mref 102 (n0+1)])),(105,some (.box (n0+4) 55 B2))],(n0+5),64⟩) ?_
 refine aR ?_
 have e2:Ac .i64 (1)=some (1:Int):=by kernel_rfl
 refine sQ R (ZA R iL iL (fun _=>e2)) (sM R R ?_)
 refine Zm ?_
 refine Bc.step ?_
 refine aS fun _ hK20 _=>(aR (sQ R (Zs R iL iL) (aZ (hK20 _ ?_))))
 refine aS fun _ hK21 _=>?_
 refine aC R (fun hc5=>by cases hc5) (fun hc5=>?_)
 refine Zx ?_
 refine hK6 _ ?_
 refine aS fun _ hK22 _=>(aR (sM R R (sA R R (aZ (hK22 _ ?_)))))
 refine Zr ?_
 refine B7.intro (.ptr 103 (n0+2) 0 0) (R) ?_
 refine hK3 _ _ _ ?_
 refine sA R R (aZ (hK2 _ ?_))
 refine aS fun _ hK23 _=>(aR (Zg R R R (H2 106 R) (Zg R R R (Bz (cs:=[.cst (.map none)]) 107 R T6 R R) (Zz R R (ZI (ds:=[.mref 106 (n0+5)]) R Rb iL R iL R R R R) (aZ (hK23 _ ?_))))))
 refine aS fun _ hK24 _=>(aR (sA R R (aZ (hK24 _ ?_))))
 refine aS fun _ hK25 _=>(aS fun _ hK26 _=>(aR (sM R R (sQ R (ZL (ob:=.box _ _ _) R iL fR R) (sQ R (fB R Ft iL fR R) (sQ R (Zc (a:=.mref 101 n0) R FZ iL R R) (Zg R R R (SE 108 R Try.underlying73 (.inl rfl) R) (aZ (hK26 _ ?_)))))))))
 refine Zj ?_
 refine DP 9 ?_
 refine Bc.step ?_
 refine aS fun _ hK27 _=>?_
 refine aK (s':=⟨[(3,.ptr 103 (n0+2) 0 0),(4,.ptr 107 (n0+6) 0 0),(5,cZ),(20,.ptr 108 (n0+7) 0 0)],[(101,some (.mp n0 [(5,0)] [.ptr 105 (n0+4) 0 0] 1)),(102,some (.mp (n0+1) [] [] 0)),(103,some (.box (n0+2) 76 [.mref 101 n0,.mref 102 (n0+1)])),(105,some (.box (n0+4) 55 B2)),(106,some (.mp (n0+5) [] [] 0)),(107,some (.box (n0+6) 82 [.mref 106 (n0+5)])),(108,some (.mi (n0+7) 101 n0 1 [] 1))],(n0+8),80⟩) ?_
 refine aR (Zg R R R (Qc R (.inl rfl) R R R R) (sQ R (ZE (a:=rB (true)) R iL R) (aZ (hK27 _ ?_))))
 refine aS fun _ hK28 _=>?_
 refine aC R (fun hc6=>?_) (fun hc6=>by cases hc6)
 refine Zl (hK28 _ ?_)
 refine Zj (aS fun _ hK29 _=>(aR (sQ R (TQ R (.inl rfl) R R) (sQ R (ZE (a:=rI ((5:Int))) R iL R) (sQ R (ZE (a:=.ptr 105 (n0+4) 0 0) R iL R) (sA R R (sA R R (aZ (hK29 _ ?_)))))))))
 refine aS fun _ hK30 _=>(aR (sM R R (sM R R (sQ R (ZL (ob:=.box _ _ _) R iL fR R) (sQ R (fB R Gb iL fR R) (sQ R (Zc (a:=.mref 102 (n0+1)) R Gp iL R R) (sM R R ?_)))))))
 refine sQ R (Kq (ks:=[]) (vs:=[]) (a:=cZ) false (.slice none 0 0) R Try.underlying74 Try.underlying3 (fun w=>by kernel_rfl) (fun y=>.cst _) (.inl rfl) (.inl rfl) R R) ?_
 refine sQ R (ZL (ob:=.box _ _ _) R iL fR R) (sQ R (fB R E4 iL fR R) (Zz R R (ZI (ds:=B2) R Gh iL R iL R R R R) (aZ (hK30 _ ?_))))
 refine aS fun _ hK31 _=>?_
 refine aK (s':=⟨[(3,.ptr 103 (n0+2) 0 0),(4,.ptr 107 (n0+6) 0 0),(5,cZ),(7,.ptr 105 (n0+4) 0 0),(20,.ptr 108 (n0+7) 0 0)],[(101,some (.mp n0 [(5,0)] [.ptr 105 (n0+4) 0 0] 1)),(102,some (.mp (n0+1) [] [] 0)),(103,some (.box (n0+2) 76 [.mref 101 n0,.mref 102 (n0+1)])),(105,some (.box (n0+4) 55 B2)),(106,some (.mp (n0+5) [] [] 0)),(107,some (.box (n0+6) 82 [.mref 106 (n0+5)])),(108,some (.mi (n0+7) 101 n0 1 [0] 1))],(n0+8),80⟩) ?_
 have e3 : @app (AB) 56 [] [(AB.mk 5 0 [98] [])]=some [(AB.mk 5 0 [98] [])]:=by kernel_rfl
 refine FR 16 [⟨some 35,(fun _=>.mref 106 (n0+5)),none,[]⟩,⟨some 36,(fun _=>.ptr 105 (n0+4) 0 0),none,[]⟩,⟨some 37,(fun _=>.ptr 105 (n0+4) 0 0),none,[]⟩,⟨some 38,(fun _=>.ptr 105 (n0+4) 0 1),none,[]⟩,⟨some 39,(fun _=>rI ((0:Int))),none,[]⟩,⟨some 40,(fun _=>.mref 106 (n0+5)),none,[]⟩,⟨some 41,(fun _=>.ptr 105 (n0+4) 0 0),none,[]⟩,⟨some 42,(fun _=>.ptr 105 (n0+4) 0 0),none,[]⟩,⟨some 43,(fun _=>.ptr 105 (n0+4) 0 1),none,[]⟩,⟨some 44,(fun _=>rI ((0:Int))),none,[]⟩,⟨some 45,(fun _=>cZ),none,[]⟩,⟨some 46,(fun _=>.ptr 105 (n0+4) 0 0),none,[]⟩,⟨some 47,(fun _=>.ptr 105 (n0+4) 0 0),none,[]⟩,⟨some 48,(fun _=>.agg B2),none,[]⟩,⟨some 49,(fun G1=>.own 109 (G1 14)),some (109,(fun G1=>some (.arr (G1 14) 55 4 ([(AB.mk 5 0 [98] [])].map AB.row)))),[14]⟩,⟨some 50,(fun G1=>.own 110 (G1 15)),some (110,(fun G1=>some (.arr (G1 15) 55 4 ([(AB.mk 5 0 [98] [])].map AB.row)))),[15]⟩] BD (by kernel_rfl) (by exact ⟨fun _ _ h=>⟨R,fun _ _ e=>by cases e⟩,fun _ _ h=>⟨R,fun _ _ e=>by cases e⟩,fun _ _ h=>⟨R,fun _ _ e=>by cases e⟩,fun _ _ h=>⟨R,fun _ _ e=>by cases e⟩,fun _ _ h=>⟨R,fun _ _ e=>by cases e⟩,fun _ _ h=>⟨R,fun _ _ e=>by cases e⟩,fun _ _ h=>⟨R,fun _ _ e=>by cases e⟩,fun _ _ h=>⟨R,fun _ _ e=>by cases e⟩,fun _ _ h=>⟨R,fun _ _ e=>by cases e⟩,fun _ _ h=>⟨R,fun _ _ e=>by cases e⟩,fun _ _ h=>⟨R,fun _ _ e=>by cases e⟩,fun _ _ h=>⟨R,fun _ _ e=>by cases e⟩,fun _ _ h=>⟨R,fun _ _ e=>by cases e⟩,fun _ _ h=>⟨R,fun _ _ e=>by cases e⟩,fun _ _ h=>⟨by simp only [h 14 R],fun _ _ e=>by cases e; simp only [h 14 R]⟩,fun _ _ h=>⟨by simp only [h 15 R],fun _ _ e=>by cases e; simp only [h 15 R]⟩,Za⟩) R (by exact ⟨oQ (fun _=>[(4,.ptr 107 (n0+6) 0 0)]) (fun _=>[(107,some (.box (n0+6) 82 [.mref 106 (n0+5)]))]) (fun D G1 hr=>⟨ZO R R,Za⟩) (fun D G1 hr=>⟨Zw R R,Za⟩) (fun G1 e h'=>Zc (a:=.mref 106 (n0+5)) R G7 (.inl R) R R),
   oQ (fun _=>[(7,.ptr 105 (n0+4) 0 0)]) (fun _=>[(105,some (.box (n0+4) 55 B2))]) (fun D G1 hr=>⟨ZO R R,Za⟩) (fun D G1 hr=>⟨Zw R R,Za⟩) (fun G1 e h'=>Zd R (.inl R)),
   oQ (fun _=>[(36,.ptr 105 (n0+4) 0 0)]) (fun _=>[(105,some (.box (n0+4) 55 B2))]) (fun D G1 hr=>⟨Zu hr 1 R R (by kernel_rfl) R R,Za⟩) (fun D G1 hr=>⟨Zw R R,Za⟩) (fun G1 e h'=>ZL (ob:=.box _ _ _) R (.inl R) (fun _=>R) R),
   oQ (fun _=>[(37,.ptr 105 (n0+4) 0 0)]) (fun _=>[(105,some (.box (n0+4) 55 B2))]) (fun D G1 hr=>⟨Zu hr 2 R R (by kernel_rfl) R R,Za⟩) (fun D G1 hr=>⟨Zw R R,Za⟩) (fun G1 e h'=>fB R Ca (.inl R) (fun _=>R) R),
   oQ (fun _=>[(38,.ptr 105 (n0+4) 0 1)]) (fun _=>[(105,some (.box (n0+4) 55 B2))]) (fun D G1 hr=>⟨Zu hr 3 R R (by kernel_rfl) R R,Za⟩) (fun D G1 hr=>⟨Zw R R,Za⟩) (fun G1 e h'=>Zc (a:=rI ((0:Int))) R AP (.inl R) R R),
   oQ (fun _=>[(4,.ptr 107 (n0+6) 0 0)]) (fun _=>[(107,some (.box (n0+6) 82 [.mref 106 (n0+5)]))]) (fun D G1 hr=>⟨ZO R R,Za⟩) (fun D G1 hr=>⟨Zw R R,Za⟩) (fun G1 e h'=>Zc (a:=.mref 106 (n0+5)) R G7 (.inl R) R R),
   oQ (fun _=>[(7,.ptr 105 (n0+4) 0 0)]) (fun _=>[(105,some (.box (n0+4) 55 B2))]) (fun D G1 hr=>⟨ZO R R,Za⟩) (fun D G1 hr=>⟨Zw R R,Za⟩) (fun G1 e h'=>Zd R (.inl R)),
   oQ (fun _=>[(41,.ptr 105 (n0+4) 0 0)]) (fun _=>[(105,some (.box (n0+4) 55 B2))]) (fun D G1 hr=>⟨Zu hr 6 R R (by kernel_rfl) R R,Za⟩) (fun D G1 hr=>⟨Zw R R,Za⟩) (fun G1 e h'=>ZL (ob:=.box _ _ _) R (.inl R) (fun _=>R) R),
   oQ (fun _=>[(42,.ptr 105 (n0+4) 0 0)]) (fun _=>[(105,some (.box (n0+4) 55 B2))]) (fun D G1 hr=>⟨Zu hr 7 R R (by kernel_rfl) R R,Za⟩) (fun D G1 hr=>⟨Zw R R,Za⟩) (fun G1 e h'=>fB R Ca (.inl R) (fun _=>R) R),
   oQ (fun _=>[(43,.ptr 105 (n0+4) 0 1)]) (fun _=>[(105,some (.box (n0+4) 55 B2))]) (fun D G1 hr=>⟨Zu hr 8 R R (by kernel_rfl) R R,Za⟩) (fun D G1 hr=>⟨Zw R R,Za⟩) (fun G1 e h'=>Zc (a:=rI ((0:Int))) R AP (.inl R) R R),
   oQ (fun _=>[(40,.mref 106 (n0+5)),(44,rI ((0:Int)))]) (fun _=>[(106,some (.mp (n0+5) [] [] 0))]) (fun D G1 hr=>⟨Zu hr 5 R R (by kernel_rfl) R R,Zu hr 9 R R (by kernel_rfl) R R,Za⟩) (fun D G1 hr=>⟨Zw R R,Za⟩) (fun G1 e h'=>Kq (ks:=[]) (vs:=[]) (a:=cZ) false (.slice none 0 0) R Try.underlying82 Try.underlying3 (fun w=>by kernel_rfl) (fun y=>.cst _) (.inl R) (.inl R) R R),
   oQ (fun _=>[(7,.ptr 105 (n0+4) 0 0)]) (fun _=>[(105,some (.box (n0+4) 55 B2))]) (fun D G1 hr=>⟨ZO R R,Za⟩) (fun D G1 hr=>⟨Zw R R,Za⟩) (fun G1 e h'=>Zd R (.inl R)),
   oQ (fun _=>[(46,.ptr 105 (n0+4) 0 0)]) (fun _=>[(105,some (.box (n0+4) 55 B2))]) (fun D G1 hr=>⟨Zu hr 11 R R (by kernel_rfl) R R,Za⟩) (fun D G1 hr=>⟨Zw R R,Za⟩) (fun G1 e h'=>ZL (ob:=.box _ _ _) R (.inl R) (fun _=>R) R),
   oQ (fun _=>[(47,.ptr 105 (n0+4) 0 0)]) (fun _=>[(105,some (.box (n0+4) 55 B2))]) (fun D G1 hr=>⟨Zu hr 12 R R (by kernel_rfl) R R,Za⟩) (fun D G1 hr=>⟨Zw R R,Za⟩) (fun G1 e h'=>DM R DD (.inl R) R R),
   D7 (n1:=fun n=>n+1) R R (by intro d h; cases h; rfl) R (fun _=>[(48,.agg B2)]) (fun _=>[]) (fun D G1 hr=>⟨Zu hr 13 R R (by kernel_rfl) R R,Za⟩) (fun D G1 hr=>Za) (fun G1 e h' n=>BW 109 R AZ (f:=AB.row) (l:=([(AB.mk 5 0 [98] [])]:List AB)) ⟨R,⟨_,(.inl R),R⟩,Za⟩ R (fun _=>R) R),
   D7 (n1:=fun n=>n+1) R R (by intro d h; cases h; rfl) R (fun G1=>[(45,cZ),(49,.own 109 (G1 14))]) (fun G1=>[(109,some (.arr (G1 14) 55 4 ([(AB.mk 5 0 [98] [])].map AB.row)))]) (fun D G1 hr=>⟨Zu hr 10 R R (by kernel_rfl) R R,Zu hr 14 R R (by kernel_rfl) R R,Za⟩) (fun D G1 hr=>⟨Ew hr 14 R R (by kernel_rfl) (by kernel_rfl) R,Za⟩) (fun G1 e h' n=>Lf 110 (f:=AB.row) R AZ (.inl R) (.inr (.inl ⟨_,_,(.inl R),R⟩)) e3),
   Za⟩) fun G1 n1=>?_
 refine BX (s':=⟨[(3,.ptr 103 (n0+2) 0 0),(4,.ptr 107 (n0+6) 0 0),(5,cZ),(7,.ptr 105 (n0+4) 0 0),(20,.ptr 108 (n0+7) 0 0),(35,.mref 106 (n0+5)),(36,.ptr 105 (n0+4) 0 0),(37,.ptr 105 (n0+4) 0 0),(38,.ptr 105 (n0+4) 0 1),(39,rI ((0:Int))),(40,.mref 106 (n0+5)),(41,.ptr 105 (n0+4) 0 0),(42,.ptr 105 (n0+4) 0 0),(43,.ptr 105 (n0+4) 0 1),(44,rI ((0:Int))),(45,cZ),(46,.ptr 105 (n0+4) 0 0),(47,.ptr 105 (n0+4) 0 0),(48,.agg B2),(49,.own 109 (G1 14)),(50,.own 110 (G1 15))],[(101,some (.mp n0 [(5,0)] [.ptr 105 (n0+4) 0 0] 1)),(102,some (.mp (n0+1) [] [] 0)),(103,some (.box (n0+2) 76 [.mref 101 n0,.mref 102 (n0+1)])),(105,some (.box (n0+4) 55 B2)),(106,some (.mp (n0+5) [] [] 0)),(107,some (.box (n0+6) 82 [.mref 106 (n0+5)])),(108,some (.mi (n0+7) 101 n0 1 [0] 1)),(109,some (.arr (G1 14) 55 4 ([(AB.mk 5 0 [98] [])].map AB.row))),(110,some (.arr (G1 15) 55 4 ([(AB.mk 5 0 [98] [])].map AB.row)))],n1,80⟩) ?_
 refine Zz R R (JC (.inl rfl) Try.underlying82 Try.underlying3 (.inl rfl) (.inl rfl) (.inl rfl) R R) (aZ (hK31 _ ?_))
 refine aK (s':=⟨[(3,.ptr 103 (n0+2) 0 0),(4,.ptr 107 (n0+6) 0 0),(5,cZ),(7,.ptr 105 (n0+4) 0 0),(20,.ptr 108 (n0+7) 0 0)],[(101,some (.mp n0 [(5,0)] [.ptr 105 (n0+4) 0 0] 1)),(102,some (.mp (n0+1) [] [] 0)),(103,some (.box (n0+2) 76 [.mref 101 n0,.mref 102 (n0+1)])),(105,some (.box (n0+4) 55 B2)),(106,some (.mp (n0+5) [(0,0)] [.own 110 (G1 15)] 1)),(107,some (.box (n0+6) 82 [.mref 106 (n0+5)])),(108,some (.mi (n0+7) 101 n0 1 [0] 1)),(110,some (.arr (G1 15) 55 4 ([(AB.mk 5 0 [98] [])].map AB.row)))],n1,80⟩) ?_
 refine aR (sM R R (sM R R (sQ R (ZL (ob:=.box _ _ _) R iL fR R) (sQ R (DM R DD iL R R) (Zg R R R (BW 111 R AZ (f:=AB.row) (l:=([(AB.mk 5 0 [98] [])]:List AB)) ⟨R,⟨_,iL,R⟩,Za⟩ R (fun _=>R) R) ?_)))))
 have e4 : @app (AB) 56 [] [(AB.mk 5 0 [98] [])]=some [(AB.mk 5 0 [98] [])]:=by kernel_rfl
 refine Zg R R R (Lf 112 (f:=AB.row) R AZ iL (.inr (.inl ⟨_,_,iL,R⟩)) e4) (sA R R ?_)
 refine Zm ?_
 refine Bc.step ?_
 refine aS fun _ hK32 _=>(aR (Zg R R R (QV (k:=0) (born:=0) R (.inl rfl) R R R R R) (sQ R (ZE (a:=rB (false)) R iL R) (aZ (hK32 _ ?_)))))
 refine aS fun _ hK33 _=>?_
 refine aC R (fun hc7=>by cases hc7) (fun hc7=>?_)
 refine Zx ?_
 refine hK25 _ ?_
 refine aS fun _ hK34 _=>?_
 refine aK (s':=⟨[(4,.ptr 107 (n0+6) 0 0),(5,.own 112 (n1+1))],[(106,some (.mp (n0+5) [(0,0)] [.own 110 (G1 15)] 1)),(107,some (.box (n0+6) 82 [.mref 106 (n0+5)])),(110,some (.arr (G1 15) 55 4 ([(AB.mk 5 0 [98] [])].map AB.row))),(112,some (.arr (n1+1) 55 4 ([(AB.mk 5 0 [98] [])].map AB.row)))],(n1+2),80⟩) ?_
 refine aR (Zg R R R (Bz (cs:=[cZ]) 113 R NG R R) (aZ (hK34 _ ?_)))
 refine aS fun _ hK35 _=>(aR (Zg R R R (H2 114 R) (Zg R R R (Bz (cs:=[.cst (.map none)]) 115 R Ny R R) (Zz R R (ZI (ds:=[.mref 114 (n1+3)]) R PX iL R iL R R R R) (aZ (hK35 _ ?_))))))
 refine aS fun _ hK36 _=>(aR (Zg R R R (Bz (cs:=[.cst (.nilFunc)]) 116 R Oj R R) (aZ (hK36 _ ?_))))
 refine aS fun _ hK37 _=>(aR ?_)
 refine sQ R (Ii (bs:=[.ptr 107 (n0+6) 0 0,.ptr 113 (n1+2) 0 0,.ptr 115 (n1+4) 0 0,.ptr 116 (n1+5) 0 0]) R (by exact ⟨iL,iL,iL,iL,Za⟩)) ?_
 refine Zz R R (ZI (ds:=[.fn 44 [.ptr 107 (n0+6) 0 0,.ptr 113 (n1+2) 0 0,.ptr 115 (n1+4) 0 0,.ptr 116 (n1+5) 0 0]]) R OO iL R iL R R R R) (aZ (hK37 _ ?_))
 refine aS fun _ hK38 _=>(aR (sQ R (Zc (a:=.fn 44 [.ptr 107 (n0+6) 0 0,.ptr 113 (n1+2) 0 0,.ptr 115 (n1+4) 0 0,.ptr 116 (n1+5) 0 0]) R KR iL R R) ?_))
 refine Dj [.ptr 107 (n0+6) 0 0,.ptr 113 (n1+2) 0 0,.ptr 115 (n1+4) 0 0,.ptr 116 (n1+5) 0 0] [rI ((0:Int))] R R R R iL (by exact ⟨iL,Za⟩) Try.func44 R R Try.ntmps44 R fun _ hK39=>?_
 refine aS fun _ hK40 _=>?_
 refine aK (s':=⟨[(0,rI ((0:Int))),(1,.ptr 107 (n0+6) 0 0),(2,.ptr 113 (n1+2) 0 0),(3,.ptr 115 (n1+4) 0 0),(4,.ptr 116 (n1+5) 0 0)],[(106,some (.mp (n0+5) [(0,0)] [.own 110 (G1 15)] 1)),(107,some (.box (n0+6) 82 [.mref 106 (n0+5)])),(110,some (.arr (G1 15) 55 4 ([(AB.mk 5 0 [98] [])].map AB.row))),(112,some (.arr (n1+1) 55 4 ([(AB.mk 5 0 [98] [])].map AB.row))),(113,some (.box (n1+2) 24 [cZ])),(114,some (.mp (n1+3) [] [] 0)),(115,some (.box (n1+4) 63 [.mref 114 (n1+3)])),(116,some (.box (n1+5) 83 [.fn 44 [.ptr 107 (n0+6) 0 0,.ptr 113 (n1+2) 0 0,.ptr 115 (n1+4) 0 0,.ptr 116 (n1+5) 0 0]]))],(n1+6),32⟩) ?_
 refine aR (sQ R (Zc (a:=.mref 106 (n0+5)) R G7 iL R R) (sM R R ?_))
 refine sQ R (Jq (ks:=[(0,0)]) (vs:=[.own 110 (G1 15)]) false (.slice none 0 0) R Try.underlying82 Try.underlying3 (fun w=>by kernel_rfl) (.inl rfl) (.inl rfl) R R R) ?_
 refine Dj [] [.own 110 (G1 15),.fn 46 []] R R R R iL (by exact ⟨iL,iL,Za⟩) Try.func45 R R Try.ntmps45 R fun _ hK41=>?_
 refine aS fun _ hK42 _=>?_
 refine aK (s':=⟨[(0,.own 110 (G1 15)),(1,.fn 46 [])],[(106,some (.mp (n0+5) [(0,0)] [.own 110 (G1 15)] 1)),(107,some (.box (n0+6) 82 [.mref 106 (n0+5)])),(110,some (.arr (G1 15) 55 4 ([(AB.mk 5 0 [98] [])].map AB.row))),(112,some (.arr (n1+1) 55 4 ([(AB.mk 5 0 [98] [])].map AB.row))),(113,some (.box (n1+2) 24 [cZ])),(114,some (.mp (n1+3) [] [] 0)),(115,some (.box (n1+4) 63 [.mref 114 (n1+3)])),(116,some (.box (n1+5) 83 [.fn 44 [.ptr 107 (n0+6) 0 0,.ptr 113 (n1+2) 0 0,.ptr 115 (n1+4) 0 0,.ptr 116 (n1+5) 0 0]]))],(n1+6),14⟩) ?_
 refine aR (sM R R (sQ R (DO R AZ.slice iL R) (sA R R (aZ (hK42 _ ?_)))))
 refine aR (sM R R (sM R R (sM R R (sQ R (Gl R Try.underlying3 Try.underlying94 iL) (Zg R R R (ZC (r:=rI (1)) (caps:=[]) (bs:=[.r (.int .u64 (1:Int))]) R iL R ⟨⟨_,iL,.d R⟩,Za⟩ (fun _=>(fun _:True=>M7) (True.intro)) R) (sM R R ?_))))))
 refine Dj [] [.own 110 (G1 15),rI ((0:Int)),rI ((1:Int)),rI ((1:Int)),.fn 46 []] R R R R iL (by exact ⟨iL,iL,iL,iL,iL,Za⟩) Try.func65 R R Try.ntmps65 R fun _ hK43=>?_
 refine aS fun _ hK44 _=>?_
 refine aK (s':=⟨[(0,.own 110 (G1 15)),(1,rI ((0:Int))),(2,rI ((1:Int))),(3,rI ((1:Int))),(4,.fn 46 [])],[(106,some (.mp (n0+5) [(0,0)] [.own 110 (G1 15)] 1)),(107,some (.box (n0+6) 82 [.mref 106 (n0+5)])),(110,some (.arr (G1 15) 55 4 ([(AB.mk 5 0 [98] [])].map AB.row))),(112,some (.arr (n1+1) 55 4 ([(AB.mk 5 0 [98] [])].map AB.row))),(113,some (.box (n1+2) 24 [cZ])),(114,some (.mp (n1+3) [] [] 0)),(115,some (.box (n1+4) 63 [.mref 114 (n1+3)])),(116,some (.box (n1+5) 83 [.fn 44 [.ptr 107 (n0+6) 0 0,.ptr 113 (n1+2) 0 0,.ptr 115 (n1+4) 0 0,.ptr 116 (n1+5) 0 0]]))],(n1+6),148⟩) ?_
 refine aR (sA R R (aZ (hK44 _ ?_)))
 refine aS fun _ hK45 _=>(aR (sA R R (aZ (hK45 _ ?_))))
 refine Zj ?_
 refine DP 9 ?_
 refine Bc.step ?_
 refine Zj (aS fun _ hK46 _=>(aR (sM R R (sM R R ?_))))
 have e5:Ac .i64 (1)=some (1:Int):=by kernel_rfl
 refine sQ R (D0 R iL iL (fun _=>e5)) (sA R R (aZ (hK46 _ ?_)))
 refine aS fun _ hK47 _=>(aS fun _ hK48 _=>(aR (sM R R (sQ R (FL R iL iL) (aZ (hK48 _ ?_))))))
 refine aC R (fun hc8=>?_) (fun hc8=>by cases hc8)
 refine aS fun _ hK49 _=>?_
 refine aK (s':=⟨[(0,.own 110 (G1 15)),(1,rI ((0:Int))),(2,rI ((1:Int))),(4,.fn 46 [])],[(106,some (.mp (n0+5) [(0,0)] [.own 110 (G1 15)] 1)),(107,some (.box (n0+6) 82 [.mref 106 (n0+5)])),(110,some (.arr (G1 15) 55 4 ([(AB.mk 5 0 [98] [])].map AB.row))),(112,some (.arr (n1+1) 55 4 ([(AB.mk 5 0 [98] [])].map AB.row))),(113,some (.box (n1+2) 24 [cZ])),(114,some (.mp (n1+3) [] [] 0)),(115,some (.box (n1+4) 63 [.mref 114 (n1+3)])),(116,some (.box (n1+5) 83 [.fn 44 [.ptr 107 (n0+6) 0 0,.ptr 113 (n1+2) 0 0,.ptr 115 (n1+4) 0 0,.ptr 116 (n1+5) 0 0]]))],(n1+6),148⟩) ?_
 refine aR (sM R R (sM R R (sM R R (sM R R ?_))))
 refine Dj [] [.own 110 (G1 15),rI ((0:Int)),rI ((1:Int)),.fn 46 []] R R R R iL (by exact ⟨iL,iL,iL,iL,Za⟩) Try.func80 R R Try.ntmps80 R fun _ hK50=>?_
 refine aS fun _ hK51 _=>?_
 refine aK (s':=⟨[(0,.own 110 (G1 15)),(1,rI ((0:Int))),(2,rI ((1:Int))),(3,.fn 46 [])],[(106,some (.mp (n0+5) [(0,0)] [.own 110 (G1 15)] 1)),(107,some (.box (n0+6) 82 [.mref 106 (n0+5)])),(110,some (.arr (G1 15) 55 4 ([(AB.mk 5 0 [98] [])].map AB.row))),(112,some (.arr (n1+1) 55 4 ([(AB.mk 5 0 [98] [])].map AB.row))),(113,some (.box (n1+2) 24 [cZ])),(114,some (.mp (n1+3) [] [] 0)),(115,some (.box (n1+4) 63 [.mref 114 (n1+3)])),(116,some (.box (n1+5) 83 [.fn 44 [.ptr 107 (n0+6) 0 0,.ptr 113 (n1+2) 0 0,.ptr 115 (n1+4) 0 0,.ptr 116 (n1+5) 0 0]]))],(n1+6),53⟩) ?_
 refine aR (sM R R ?_)
 have e6:Ac .i64 (1)=some (1:Int):=by kernel_rfl
 refine sQ R (ZA R iL iL (fun _=>e6)) (sA R R (aZ (hK51 _ ?_)))
 refine Zj ?_
 refine DP 9 ?_
 refine Bc.step ?_
 refine aS fun _ hK52 _=>(aS fun _ hK53 _=>(aR (sM R R (sM R R (sQ R (Zs R iL iL) (aZ (hK53 _ ?_)))))))
 refine aC R (fun hc9=>by cases hc9) (fun hc9=>?_)
 refine Zx ?_
 refine F8 (.tup []) (⟨_,R,Za⟩) ?_
 refine hK50 _ _ _ ?_
 refine aZ (hK49 _ ?_)
 refine Zr ?_
 refine B7.intro (.tup []) (⟨_,R,Za⟩) ?_
 refine hK43 _ _ _ ?_
 refine Zm ?_
 refine F8 (.tup []) (⟨_,R,Za⟩) ?_
 refine hK41 _ _ _ ?_
 refine aZ (hK40 _ ?_)
 refine aS fun _ hK54 _=>(aR (sQ R (Zc (a:=.mref 106 (n0+5)) R G7 iL R R) (sM R R ?_)))
 refine sQ R (Jq (ks:=[(0,0)]) (vs:=[.own 110 (G1 15)]) false (.slice none 0 0) R Try.underlying82 Try.underlying3 (fun w=>by kernel_rfl) (.inl rfl) (.inl rfl) R R R) ?_
 refine sQ R (DO R AZ.slice iL R) (sM R R (aZ (hK54 _ ?_)))
 refine Zj ?_
 refine DP 9 ?_
 refine Bc.step ?_
 refine aS fun _ hK55 _=>(aR (sQ R (Zs R iL iL) (aZ (hK55 _ ?_))))
 refine aS fun _ hK56 _=>?_
 refine aC R (fun hc10=>?_) (fun hc10=>by cases hc10)
 refine Zl (hK56 _ ?_)
 refine aS fun _ hK57 _=>(Zj (aS fun _ hK58 _=>?_))
 refine aK (s':=⟨[(2,.ptr 113 (n1+2) 0 0),(3,.ptr 115 (n1+4) 0 0),(4,.ptr 116 (n1+5) 0 0),(14,.own 110 (G1 15)),(15,rI ((1:Int))),(16,rI ((0:Int)))],[(106,some (.mp (n0+5) [(0,0)] [.own 110 (G1 15)] 1)),(107,some (.box (n0+6) 82 [.mref 106 (n0+5)])),(110,some (.arr (G1 15) 55 4 ([(AB.mk 5 0 [98] [])].map AB.row))),(112,some (.arr (n1+1) 55 4 ([(AB.mk 5 0 [98] [])].map AB.row))),(113,some (.box (n1+2) 24 [cZ])),(114,some (.mp (n1+3) [] [] 0)),(115,some (.box (n1+4) 63 [.mref 114 (n1+3)])),(116,some (.box (n1+5) 83 [.fn 44 [.ptr 107 (n0+6) 0 0,.ptr 113 (n1+2) 0 0,.ptr 115 (n1+4) 0 0,.ptr 116 (n1+5) 0 0]]))],(n1+6),32⟩) ?_
 refine aR ?_
 have e7 : @AN (AB) [(AB.mk 5 0 [98] [])] 0=some (AB.mk 5 0 [98] []):=by kernel_rfl
 refine sQ R (Du R AZ.slice iL R iL (fun _=>e7)) (sQ R (N1 (cs:=Mi) R DD iL fR (fun _=>e7) R) (Zg R R R (Bz (cs:=Ly) 117 R HE R R) (Zz R R (ZI (ds:=Cc) R GE iL R iL R R R R) (aZ (hK58 _ ?_)))))
 refine aS fun _ hK59 _=>?_
 have e8 : @app (AB) 56 [] [(AB.mk 5 0 [98] [])]=some [(AB.mk 5 0 [98] [])]:=by kernel_rfl
 refine FR 8 [⟨some 20,(fun _=>.mref 114 (n1+3)),none,[]⟩,⟨some 21,(fun _=>.ptr 117 (n1+6) 0 0),none,[]⟩,⟨some 22,(fun _=>rI ((5:Int))),none,[]⟩,⟨some 23,(fun _=>cZ),none,[]⟩,⟨some 24,(fun _=>.agg Cc),none,[]⟩,⟨some 25,(fun G2=>.own 118 (G2 5)),some (118,(fun G2=>some (.arr (G2 5) 55 4 ([(AB.mk 5 0 [98] [])].map AB.row)))),[5]⟩,⟨some 26,(fun G2=>.own 119 (G2 6)),some (119,(fun G2=>some (.arr (G2 6) 55 4 ([(AB.mk 5 0 [98] [])].map AB.row)))),[6]⟩,⟨none,(fun _=>.any),some (113,(fun G2=>some (.box (n1+2) 24 [.own 119 (G2 6)]))),[6]⟩] BD (by kernel_rfl) (by exact ⟨fun _ _ h=>⟨R,fun _ _ e=>by cases e⟩,fun _ _ h=>⟨R,fun _ _ e=>by cases e⟩,fun _ _ h=>⟨R,fun _ _ e=>by cases e⟩,fun _ _ h=>⟨R,fun _ _ e=>by cases e⟩,fun _ _ h=>⟨R,fun _ _ e=>by cases e⟩,fun _ _ h=>⟨by simp only [h 5 R],fun _ _ e=>by cases e; simp only [h 5 R]⟩,fun _ _ h=>⟨by simp only [h 6 R],fun _ _ e=>by cases e; simp only [h 6 R]⟩,fun _ _ h=>⟨R,fun _ _ e=>by cases e; simp only [h 6 R]⟩,Za⟩) R (by exact ⟨oQ (fun _=>[(3,.ptr 115 (n1+4) 0 0)]) (fun _=>[(115,some (.box (n1+4) 63 [.mref 114 (n1+3)]))]) (fun D G2 hr=>⟨ZO R R,Za⟩) (fun D G2 hr=>⟨Zw R R,Za⟩) (fun G2 e h'=>Zc (a:=.mref 114 (n1+3)) R Jh (.inl R) R R),
   oQ (fun _=>[(7,.ptr 117 (n1+6) 0 0)]) (fun _=>[(117,some (.box (n1+6) 55 Cc))]) (fun D G2 hr=>⟨ZO R R,Za⟩) (fun D G2 hr=>⟨Zw R R,Za⟩) (fun G2 e h'=>fB R BT (.inl R) (fun _=>R) R),
   oQ (fun _=>[(21,.ptr 117 (n1+6) 0 0)]) (fun _=>[(117,some (.box (n1+6) 55 Cc))]) (fun D G2 hr=>⟨Zu hr 1 R R (by kernel_rfl) R R,Za⟩) (fun D G2 hr=>⟨Zw R R,Za⟩) (fun G2 e h'=>Zc (a:=rI ((5:Int))) R AP (.inl R) R R),
   oQ (fun _=>[(2,.ptr 113 (n1+2) 0 0)]) (fun _=>[(113,some (.box (n1+2) 24 [cZ]))]) (fun D G2 hr=>⟨ZO R R,Za⟩) (fun D G2 hr=>⟨Ee hr (by kernel_rfl) R,Za⟩) (fun G2 e h'=>Zc (a:=cZ) R Ko (.inl R) R R),
   oQ (fun _=>[(7,.ptr 117 (n1+6) 0 0)]) (fun _=>[(117,some (.box (n1+6) 55 Cc))]) (fun D G2 hr=>⟨ZO R R,Za⟩) (fun D G2 hr=>⟨Zw R R,Za⟩) (fun G2 e h'=>DM R DD (.inl R) R R),
   D7 (n1:=fun n=>n+1) R R (by intro d h; cases h; rfl) R (fun _=>[(24,.agg Cc)]) (fun _=>[]) (fun D G2 hr=>⟨Zu hr 4 R R (by kernel_rfl) R R,Za⟩) (fun D G2 hr=>Za) (fun G2 e h' n=>BW 118 R AZ (f:=AB.row) (l:=([(AB.mk 5 0 [98] [])]:List AB)) ⟨R,⟨_,(.inl R),R⟩,Za⟩ R (fun _=>R) R),
   D7 (n1:=fun n=>n+1) R R (by intro d h; cases h; rfl) R (fun G2=>[(23,cZ),(25,.own 118 (G2 5))]) (fun G2=>[(118,some (.arr (G2 5) 55 4 ([(AB.mk 5 0 [98] [])].map AB.row)))]) (fun D G2 hr=>⟨Zu hr 3 R R (by kernel_rfl) R R,Zu hr 5 R R (by kernel_rfl) R R,Za⟩) (fun D G2 hr=>⟨Ew hr 5 R R (by kernel_rfl) (by kernel_rfl) R,Za⟩) (fun G2 e h' n=>Lf 119 (f:=AB.row) R AZ (.inl R) (.inr (.inl ⟨_,_,(.inl R),R⟩)) e8),
   D7 (n1:=fun n=>n) R R (by intro d h; cases h) R (fun G2=>[(2,.ptr 113 (n1+2) 0 0),(26,.own 119 (G2 6))]) (fun G2=>[(113,some (.box (n1+2) 24 [cZ])),(119,some (.arr (G2 6) 55 4 ([(AB.mk 5 0 [98] [])].map AB.row)))]) (fun D G2 hr=>⟨ZO R R,Zu hr 6 R R (by kernel_rfl) R R,Za⟩) (fun D G2 hr=>⟨Ee hr (by kernel_rfl) R,Ew hr 6 R R (by kernel_rfl) (by kernel_rfl) R,Za⟩) (fun G2 e h' n=>ZI (ds:=[.own 119 (G2 6)]) R PA (.inl R) R (.inl R) R R R R),
   Za⟩) fun G2 n2=>?_
 refine BX (s':=⟨[(2,.ptr 113 (n1+2) 0 0),(3,.ptr 115 (n1+4) 0 0),(4,.ptr 116 (n1+5) 0 0),(7,.ptr 117 (n1+6) 0 0),(14,.own 110 (G1 15)),(15,rI ((1:Int))),(16,rI ((0:Int))),(18,.ptr 110 (G1 15) (0:Int).toNat 0),(19,.agg Cc),(20,.mref 114 (n1+3)),(21,.ptr 117 (n1+6) 0 0),(22,rI ((5:Int))),(23,cZ),(24,.agg Cc),(25,.own 118 (G2 5)),(26,.own 119 (G2 6))],[(106,some (.mp (n0+5) [(0,0)] [.own 110 (G1 15)] 1)),(107,some (.box (n0+6) 82 [.mref 106 (n0+5)])),(110,some (.arr (G1 15) 55 4 ([(AB.mk 5 0 [98] [])].map AB.row))),(112,some (.arr (n1+1) 55 4 ([(AB.mk 5 0 [98] [])].map AB.row))),(113,some (.box (n1+2) 24 [.own 119 (G2 6)])),(114,some (.mp (n1+3) [] [] 0)),(115,some (.box (n1+4) 63 [.mref 114 (n1+3)])),(116,some (.box (n1+5) 83 [.fn 44 [.ptr 107 (n0+6) 0 0,.ptr 113 (n1+2) 0 0,.ptr 115 (n1+4) 0 0,.ptr 116 (n1+5) 0 0]])),(117,some (.box (n1+6) 55 Cc)),(118,some (.arr (G2 5) 55 4 ([(AB.mk 5 0 [98] [])].map AB.row))),(119,some (.arr (G2 6) 55 4 ([(AB.mk 5 0 [98] [])].map AB.row)))],n2,32⟩) ?_
 refine Zz R R (JC (.inl rfl) Try.underlying63 Try.underlying3 (.inl rfl) (.inl rfl) (.inl rfl) R R) (aZ (hK59 _ ?_))
 refine aK (s':=⟨[(2,.ptr 113 (n1+2) 0 0),(3,.ptr 115 (n1+4) 0 0),(4,.ptr 116 (n1+5) 0 0),(7,.ptr 117 (n1+6) 0 0),(14,.own 110 (G1 15)),(15,rI ((1:Int))),(16,rI ((0:Int)))],[(106,some (.mp (n0+5) [(0,0)] [.own 110 (G1 15)] 1)),(107,some (.box (n0+6) 82 [.mref 106 (n0+5)])),(110,some (.arr (G1 15) 55 4 ([(AB.mk 5 0 [98] [])].map AB.row))),(112,some (.arr (n1+1) 55 4 ([(AB.mk 5 0 [98] [])].map AB.row))),(113,some (.box (n1+2) 24 [.own 119 (G2 6)])),(114,some (.mp (n1+3) [(5,0)] [rB (true)] 1)),(115,some (.box (n1+4) 63 [.mref 114 (n1+3)])),(116,some (.box (n1+5) 83 [.fn 44 [.ptr 107 (n0+6) 0 0,.ptr 113 (n1+2) 0 0,.ptr 115 (n1+4) 0 0,.ptr 116 (n1+5) 0 0]])),(117,some (.box (n1+6) 55 Cc)),(119,some (.arr (G2 6) 55 4 ([(AB.mk 5 0 [98] [])].map AB.row)))],n2,32⟩) ?_
 refine aR (sQ R (Zc (a:=.fn 44 [.ptr 107 (n0+6) 0 0,.ptr 113 (n1+2) 0 0,.ptr 115 (n1+4) 0 0,.ptr 116 (n1+5) 0 0]) R KR iL R R) (sQ R (fB R BT iL fR R) (sQ R (Zc (a:=rI ((5:Int))) R AP iL R R) ?_)))
 refine Dj [.ptr 107 (n0+6) 0 0,.ptr 113 (n1+2) 0 0,.ptr 115 (n1+4) 0 0,.ptr 116 (n1+5) 0 0] [rI ((5:Int))] R R R R iL (by exact ⟨iL,Za⟩) Try.func44 R R Try.ntmps44 R fun _ hK60=>?_
 refine aS fun _ hK61 _=>?_
 refine aK (s':=⟨[(0,rI ((5:Int))),(1,.ptr 107 (n0+6) 0 0),(2,.ptr 113 (n1+2) 0 0),(3,.ptr 115 (n1+4) 0 0),(4,.ptr 116 (n1+5) 0 0)],[(106,some (.mp (n0+5) [(0,0)] [.own 110 (G1 15)] 1)),(107,some (.box (n0+6) 82 [.mref 106 (n0+5)])),(110,some (.arr (G1 15) 55 4 ([(AB.mk 5 0 [98] [])].map AB.row))),(112,some (.arr (n1+1) 55 4 ([(AB.mk 5 0 [98] [])].map AB.row))),(113,some (.box (n1+2) 24 [.own 119 (G2 6)])),(114,some (.mp (n1+3) [(5,0)] [rB (true)] 1)),(115,some (.box (n1+4) 63 [.mref 114 (n1+3)])),(116,some (.box (n1+5) 83 [.fn 44 [.ptr 107 (n0+6) 0 0,.ptr 113 (n1+2) 0 0,.ptr 115 (n1+4) 0 0,.ptr 116 (n1+5) 0 0]])),(117,some (.box (n1+6) 55 Cc)),(119,some (.arr (G2 6) 55 4 ([(AB.mk 5 0 [98] [])].map AB.row)))],n2,32⟩) ?_
 refine aR (sQ R (Zc (a:=.mref 106 (n0+5)) R G7 iL R R) (sM R R ?_))
 refine sQ R (Kq (ks:=[(0,0)]) (vs:=[.own 110 (G1 15)]) (a:=cZ) false (.slice none 0 0) R Try.underlying82 Try.underlying3 (fun w=>by kernel_rfl) (fun y=>.cst _) (.inl rfl) (.inl rfl) R R) ?_
 refine Dj [] [cZ,.fn 46 []] R R R R iL (by exact ⟨iL,iL,Za⟩) Try.func45 R R Try.ntmps45 R fun _ hK62=>?_
 refine aS fun _ hK63 _=>?_
 refine aK (s':=⟨[(0,cZ),(1,.fn 46 [])],[(106,some (.mp (n0+5) [(0,0)] [.own 110 (G1 15)] 1)),(107,some (.box (n0+6) 82 [.mref 106 (n0+5)])),(110,some (.arr (G1 15) 55 4 ([(AB.mk 5 0 [98] [])].map AB.row))),(112,some (.arr (n1+1) 55 4 ([(AB.mk 5 0 [98] [])].map AB.row))),(113,some (.box (n1+2) 24 [.own 119 (G2 6)])),(114,some (.mp (n1+3) [(5,0)] [rB (true)] 1)),(115,some (.box (n1+4) 63 [.mref 114 (n1+3)])),(116,some (.box (n1+5) 83 [.fn 44 [.ptr 107 (n0+6) 0 0,.ptr 113 (n1+2) 0 0,.ptr 115 (n1+4) 0 0,.ptr 116 (n1+5) 0 0]])),(117,some (.box (n1+6) 55 Cc)),(119,some (.arr (G2 6) 55 4 ([(AB.mk 5 0 [98] [])].map AB.row)))],n2,14⟩) ?_
 refine aR (sM R R (sQ R (Pa R AZ.slice iL) (sA R R (aZ (hK63 _ ?_)))))
 refine aR (sM R R (sM R R (sM R R (sQ R (Gl R Try.underlying3 Try.underlying94 iL) (Zg R R R (ZC (r:=rI (0)) (caps:=[]) (bs:=[.r (.int .u64 (0:Int))]) R iL R ⟨⟨_,iL,.d R⟩,Za⟩ (fun _=>(fun _:True=>RO) (True.intro)) R) (sM R R ?_))))))
 refine Dj [] [cZ,rI ((0:Int)),rI ((0:Int)),rI ((0:Int)),.fn 46 []] R R R R iL (by exact ⟨iL,iL,iL,iL,iL,Za⟩) Try.func65 R R Try.ntmps65 R fun _ hK64=>?_
 refine aS fun _ hK65 _=>?_
 refine aK (s':=⟨[(0,cZ),(1,rI ((0:Int))),(2,rI ((0:Int))),(3,rI ((0:Int))),(4,.fn 46 [])],[(106,some (.mp (n0+5) [(0,0)] [.own 110 (G1 15)] 1)),(107,some (.box (n0+6) 82 [.mref 106 (n0+5)])),(110,some (.arr (G1 15) 55 4 ([(AB.mk 5 0 [98] [])].map AB.row))),(112,some (.arr (n1+1) 55 4 ([(AB.mk 5 0 [98] [])].map AB.row))),(113,some (.box (n1+2) 24 [.own 119 (G2 6)])),(114,some (.mp (n1+3) [(5,0)] [rB (true)] 1)),(115,some (.box (n1+4) 63 [.mref 114 (n1+3)])),(116,some (.box (n1+5) 83 [.fn 44 [.ptr 107 (n0+6) 0 0,.ptr 113 (n1+2) 0 0,.ptr 115 (n1+4) 0 0,.ptr 116 (n1+5) 0 0]])),(117,some (.box (n1+6) 55 Cc)),(119,some (.arr (G2 6) 55 4 ([(AB.mk 5 0 [98] [])].map AB.row)))],n2,148⟩) ?_
 refine aR (sA R R (aZ (hK65 _ ?_)))
 refine aS fun _ hK66 _=>(aR (sA R R (aZ (hK66 _ ?_))))
 refine Zj ?_
 refine DP 9 ?_
 refine Bc.step ?_
 refine Zj (aS fun _ hK67 _=>(aR (sM R R (sM R R ?_))))
 have e9:Ac .i64 (0)=some (0:Int):=by kernel_rfl
 refine sQ R (D0 R iL iL (fun _=>e9)) (sA R R (aZ (hK67 _ ?_)))
 refine aS fun _ hK68 _=>(aS fun _ hK69 _=>(aR (sM R R (sQ R (FL R iL iL) (aZ (hK69 _ ?_))))))
 refine aC R (fun hc11=>?_) (fun hc11=>by cases hc11)
 refine aS fun _ hK70 _=>?_
 refine aK (s':=⟨[(0,cZ),(1,rI ((0:Int))),(2,rI ((0:Int))),(4,.fn 46 [])],[(106,some (.mp (n0+5) [(0,0)] [.own 110 (G1 15)] 1)),(107,some (.box (n0+6) 82 [.mref 106 (n0+5)])),(110,some (.arr (G1 15) 55 4 ([(AB.mk 5 0 [98] [])].map AB.row))),(112,some (.arr (n1+1) 55 4 ([(AB.mk 5 0 [98] [])].map AB.row))),(113,some (.box (n1+2) 24 [.own 119 (G2 6)])),(114,some (.mp (n1+3) [(5,0)] [rB (true)] 1)),(115,some (.box (n1+4) 63 [.mref 114 (n1+3)])),(116,some (.box (n1+5) 83 [.fn 44 [.ptr 107 (n0+6) 0 0,.ptr 113 (n1+2) 0 0,.ptr 115 (n1+4) 0 0,.ptr 116 (n1+5) 0 0]])),(117,some (.box (n1+6) 55 Cc)),(119,some (.arr (G2 6) 55 4 ([(AB.mk 5 0 [98] [])].map AB.row)))],n2,148⟩) ?_
 refine aR (sM R R (sM R R (sM R R (sM R R ?_))))
 refine Dj [] [cZ,rI ((0:Int)),rI ((0:Int)),.fn 46 []] R R R R iL (by exact ⟨iL,iL,iL,iL,Za⟩) Try.func80 R R Try.ntmps80 R fun _ hK71=>?_
 refine aS fun _ hK72 _=>?_
 refine aK (s':=⟨[(0,cZ),(1,rI ((0:Int))),(2,rI ((0:Int))),(3,.fn 46 [])],[(106,some (.mp (n0+5) [(0,0)] [.own 110 (G1 15)] 1)),(107,some (.box (n0+6) 82 [.mref 106 (n0+5)])),(110,some (.arr (G1 15) 55 4 ([(AB.mk 5 0 [98] [])].map AB.row))),(112,some (.arr (n1+1) 55 4 ([(AB.mk 5 0 [98] [])].map AB.row))),(113,some (.box (n1+2) 24 [.own 119 (G2 6)])),(114,some (.mp (n1+3) [(5,0)] [rB (true)] 1)),(115,some (.box (n1+4) 63 [.mref 114 (n1+3)])),(116,some (.box (n1+5) 83 [.fn 44 [.ptr 107 (n0+6) 0 0,.ptr 113 (n1+2) 0 0,.ptr 115 (n1+4) 0 0,.ptr 116 (n1+5) 0 0]])),(117,some (.box (n1+6) 55 Cc)),(119,some (.arr (G2 6) 55 4 ([(AB.mk 5 0 [98] [])].map AB.row)))],n2,53⟩) ?_
 refine aR (sM R R ?_)
 have e10:Ac .i64 (1)=some (1:Int):=by kernel_rfl
 refine sQ R (ZA R iL iL (fun _=>e10)) (sA R R (aZ (hK72 _ ?_)))
 refine Zj ?_
 refine DP 9 ?_
 refine Bc.step ?_
 refine aS fun _ hK73 _=>(aS fun _ hK74 _=>(aR (sM R R (sM R R (sQ R (Zs R iL iL) (aZ (hK74 _ ?_)))))))
 refine aC R (fun hc12=>by cases hc12) (fun hc12=>?_)
 refine Zx ?_
 refine F8 (.tup []) (⟨_,R,Za⟩) ?_
 refine hK71 _ _ _ ?_
 refine aZ (hK70 _ ?_)
 refine Zr ?_
 refine B7.intro (.tup []) (⟨_,R,Za⟩) ?_
 refine hK64 _ _ _ ?_
 refine Zm ?_
 refine F8 (.tup []) (⟨_,R,Za⟩) ?_
 refine hK62 _ _ _ ?_
 refine aZ (hK61 _ ?_)
 refine aS fun _ hK75 _=>(aR (sQ R (Zc (a:=.mref 106 (n0+5)) R G7 iL R R) (sM R R ?_)))
 refine sQ R (Kq (ks:=[(0,0)]) (vs:=[.own 110 (G1 15)]) (a:=cZ) false (.slice none 0 0) R Try.underlying82 Try.underlying3 (fun w=>by kernel_rfl) (fun y=>.cst _) (.inl rfl) (.inl rfl) R R) ?_
 refine sQ R (Pa R AZ.slice iL) (sM R R (aZ (hK75 _ ?_)))
 refine Zj ?_
 refine DP 9 ?_
 refine Bc.step ?_
 refine aS fun _ hK76 _=>(aR (sQ R (Zs R iL iL) (aZ (hK76 _ ?_))))
 refine aS fun _ hK77 _=>?_
 refine aC R (fun hc13=>by cases hc13) (fun hc13=>?_)
 refine Zx ?_
 refine F8 (.tup []) (⟨_,R,Za⟩) ?_
 refine hK60 _ _ _ ?_
 refine aZ (hK57 _ ?_)
 refine aR ?_
 have e11:Ac .i64 (1)=some (1:Int):=by kernel_rfl
 refine sQ R (ZA R iL iL (fun _=>e11)) (sM R R ?_)
 refine Zm ?_
 refine Bc.step ?_
 refine aS fun _ hK78 _=>(aR (sQ R (Zs R iL iL) (aZ (hK78 _ ?_))))
 refine aS fun _ hK79 _=>?_
 refine aC R (fun hc14=>by cases hc14) (fun hc14=>?_)
 refine Zx ?_
 refine F8 (.tup []) (⟨_,R,Za⟩) ?_
 refine hK39 _ _ _ ?_
 refine aZ (hK38 _ ?_)
 refine aS fun _ hK80 _=>?_
 refine aK (s':=⟨[(5,.own 112 (n1+1)),(8,.ptr 113 (n1+2) 0 0),(9,.ptr 115 (n1+4) 0 0)],[(112,some (.arr (n1+1) 55 4 ([(AB.mk 5 0 [98] [])].map AB.row))),(113,some (.box (n1+2) 24 [.own 119 (G2 6)])),(114,some (.mp (n1+3) [(5,0)] [rB (true)] 1)),(115,some (.box (n1+4) 63 [.mref 114 (n1+3)])),(119,some (.arr (G2 6) 55 4 ([(AB.mk 5 0 [98] [])].map AB.row)))],n2,80⟩) ?_
 refine aR (sM R R ?_)
 refine Dj [] [.own 112 (n1+1),.fn 50 []] R R R R iL (by exact ⟨iL,iL,Za⟩) Try.func45 R R Try.ntmps45 R fun _ hK81=>?_
 refine aS fun _ hK82 _=>?_
 refine aK (s':=⟨[(0,.own 112 (n1+1)),(1,.fn 50 [])],[(112,some (.arr (n1+1) 55 4 ([(AB.mk 5 0 [98] [])].map AB.row))),(113,some (.box (n1+2) 24 [.own 119 (G2 6)])),(114,some (.mp (n1+3) [(5,0)] [rB (true)] 1)),(115,some (.box (n1+4) 63 [.mref 114 (n1+3)])),(119,some (.arr (G2 6) 55 4 ([(AB.mk 5 0 [98] [])].map AB.row)))],n2,14⟩) ?_
 refine aR (sM R R (sQ R (DO R AZ.slice iL R) (sA R R (aZ (hK82 _ ?_)))))
 refine aR (sM R R (sM R R (sM R R (sQ R (Gl R Try.underlying3 Try.underlying94 iL) (Zg R R R (ZC (r:=rI (1)) (caps:=[]) (bs:=[.r (.int .u64 (1:Int))]) R iL R ⟨⟨_,iL,.d R⟩,Za⟩ (fun _=>(fun _:True=>M7) (True.intro)) R) (sM R R ?_))))))
 refine Dj [] [.own 112 (n1+1),rI ((0:Int)),rI ((1:Int)),rI ((1:Int)),.fn 50 []] R R R R iL (by exact ⟨iL,iL,iL,iL,iL,Za⟩) Try.func65 R R Try.ntmps65 R fun _ hK83=>?_
 refine aS fun _ hK84 _=>?_
 refine aK (s':=⟨[(0,.own 112 (n1+1)),(1,rI ((0:Int))),(2,rI ((1:Int))),(3,rI ((1:Int))),(4,.fn 50 [])],[(112,some (.arr (n1+1) 55 4 ([(AB.mk 5 0 [98] [])].map AB.row))),(113,some (.box (n1+2) 24 [.own 119 (G2 6)])),(114,some (.mp (n1+3) [(5,0)] [rB (true)] 1)),(115,some (.box (n1+4) 63 [.mref 114 (n1+3)])),(119,some (.arr (G2 6) 55 4 ([(AB.mk 5 0 [98] [])].map AB.row)))],n2,148⟩) ?_
 refine aR (sA R R (aZ (hK84 _ ?_)))
 refine aS fun _ hK85 _=>(aR (sA R R (aZ (hK85 _ ?_))))
 refine Zj ?_
 refine DP 9 ?_
 refine Bc.step ?_
 refine Zj (aS fun _ hK86 _=>(aR (sM R R (sM R R ?_))))
 have e12:Ac .i64 (1)=some (1:Int):=by kernel_rfl
 refine sQ R (D0 R iL iL (fun _=>e12)) (sA R R (aZ (hK86 _ ?_)))
 refine aS fun _ hK87 _=>(aS fun _ hK88 _=>(aR (sM R R (sQ R (FL R iL iL) (aZ (hK88 _ ?_))))))
 refine aC R (fun hc15=>?_) (fun hc15=>by cases hc15)
 refine aS fun _ hK89 _=>?_
 refine aK (s':=⟨[(0,.own 112 (n1+1)),(1,rI ((0:Int))),(2,rI ((1:Int))),(4,.fn 50 [])],[(112,some (.arr (n1+1) 55 4 ([(AB.mk 5 0 [98] [])].map AB.row))),(113,some (.box (n1+2) 24 [.own 119 (G2 6)])),(114,some (.mp (n1+3) [(5,0)] [rB (true)] 1)),(115,some (.box (n1+4) 63 [.mref 114 (n1+3)])),(119,some (.arr (G2 6) 55 4 ([(AB.mk 5 0 [98] [])].map AB.row)))],n2,148⟩) ?_
 refine aR (sM R R (sM R R (sM R R (sM R R ?_))))
 refine Dj [] [.own 112 (n1+1),rI ((0:Int)),rI ((1:Int)),.fn 50 []] R R R R iL (by exact ⟨iL,iL,iL,iL,Za⟩) Try.func80 R R Try.ntmps80 R fun _ hK90=>?_
 refine aS fun _ hK91 _=>?_
 refine aK (s':=⟨[(0,.own 112 (n1+1)),(1,rI ((0:Int))),(2,rI ((1:Int))),(3,.fn 50 [])],[(112,some (.arr (n1+1) 55 4 ([(AB.mk 5 0 [98] [])].map AB.row))),(113,some (.box (n1+2) 24 [.own 119 (G2 6)])),(114,some (.mp (n1+3) [(5,0)] [rB (true)] 1)),(115,some (.box (n1+4) 63 [.mref 114 (n1+3)])),(119,some (.arr (G2 6) 55 4 ([(AB.mk 5 0 [98] [])].map AB.row)))],n2,53⟩) ?_
 refine aR (sM R R ?_)
 have e13:Ac .i64 (1)=some (1:Int):=by kernel_rfl
 refine sQ R (ZA R iL iL (fun _=>e13)) (sA R R (aZ (hK91 _ ?_)))
 refine Zj ?_
 refine DP 9 ?_
 refine Bc.step ?_
 refine aS fun _ hK92 _=>(aS fun _ hK93 _=>(aR (sM R R (sM R R (sQ R (Zs R iL iL) (aZ (hK93 _ ?_)))))))
 refine aC R (fun hc16=>by cases hc16) (fun hc16=>?_)
 refine Zx ?_
 refine F8 (.tup []) (⟨_,R,Za⟩) ?_
 refine hK90 _ _ _ ?_
 refine aZ (hK89 _ ?_)
 refine Zr ?_
 refine B7.intro (.tup []) (⟨_,R,Za⟩) ?_
 refine hK83 _ _ _ ?_
 refine Zm ?_
 refine F8 (.tup []) (⟨_,R,Za⟩) ?_
 refine hK81 _ _ _ ?_
 refine aZ (hK80 _ ?_)
 refine aS fun _ hK94 _=>(aS fun _ hK95 _=>(aR (sM R R (sQ R (DO R AZ.slice iL R) (sM R R (aZ (hK95 _ ?_)))))))
 refine Zj ?_
 refine DP 9 ?_
 refine Bc.step ?_
 refine aS fun _ hK96 _=>(aR (sQ R (Zs R iL iL) (aZ (hK96 _ ?_))))
 refine aS fun _ hK97 _=>?_
 refine aC R (fun hc17=>?_) (fun hc17=>by cases hc17)
 refine Zl (hK97 _ ?_)
 refine aS fun _ hK98 _=>(Zj (aS fun _ hK99 _=>(aR ?_)))
 have e14 : @AN (AB) [(AB.mk 5 0 [98] [])] 0=some (AB.mk 5 0 [98] []):=by kernel_rfl
 refine sQ R (Du R AZ.slice iL R iL (fun _=>e14)) (sQ R (N1 (cs:=Mi) R DD iL fR (fun _=>e14) R) (Zg R R R (Bz (cs:=Ly) 120 R HE R R) (Zz R R (ZI (ds:=Cc) R GE iL R iL R R R R) (aZ (hK99 _ ?_)))))
 refine aS fun _ hK100 _=>(aR (sQ R (Zc (a:=.mref 114 (n1+3)) R Jh iL R R) (sQ R (fB R BT iL fR R) (sQ R (Zc (a:=rI ((5:Int))) R AP iL R R) ?_))))
 refine sQ R (Jq (ks:=[(5,0)]) (vs:=[rB (true)]) false (.bool false) R Try.underlying63 Try.underlying3 (fun w=>by kernel_rfl) (.inl rfl) (.inl rfl) R R R) ?_
 refine sQ R (Bh R iL) (aZ (hK100 _ ?_))
 refine aC R (fun hc18=>by cases hc18) (fun hc18=>?_)
 refine Zl (hK98 _ ?_)
 refine aK (s':=⟨[(8,.ptr 113 (n1+2) 0 0),(9,.ptr 115 (n1+4) 0 0),(63,.own 112 (n1+1)),(64,rI ((1:Int))),(65,rI ((0:Int)))],[(112,some (.arr (n1+1) 55 4 ([(AB.mk 5 0 [98] [])].map AB.row))),(113,some (.box (n1+2) 24 [.own 119 (G2 6)])),(114,some (.mp (n1+3) [(5,0)] [rB (true)] 1)),(115,some (.box (n1+4) 63 [.mref 114 (n1+3)])),(119,some (.arr (G2 6) 55 4 ([(AB.mk 5 0 [98] [])].map AB.row)))],(n2+1),80⟩) ?_
 refine aR ?_
 have e15:Ac .i64 (1)=some (1:Int):=by kernel_rfl
 refine sQ R (ZA R iL iL (fun _=>e15)) (sM R R ?_)
 refine Zm ?_
 refine Bc.step ?_
 refine aS fun _ hK101 _=>(aR (sQ R (Zs R iL iL) (aZ (hK101 _ ?_))))
 refine aS fun _ hK102 _=>?_
 refine aC R (fun hc19=>by cases hc19) (fun hc19=>?_)
 refine Zx ?_
 refine hK94 _ ?_
 refine aS fun _ hK103 _=>(aR (sQ R (Zc (a:=.own 119 (G2 6)) R Ko iL R R) (sA R R (aZ (hK103 _ ?_)))))
 refine Zr ?_
 exact Dl (P:=Try.prog) (fun (r:List AB)=>qc r) (R:some ([(AB.mk 5 0 [98] [])]:List AB)=some [(AB.mk 5 0 [98] [])]) iL (.t (.one (.own R)))
set_option maxHeartbeats 40000000 in
set_option maxRecDepth 100000 in
theorem VT:Aq Try.prog 8 Gu (.tup [.r (.sl ([(AB.mk 5 0 [98] [])].map AB.row)),rI ((0:Int))]):=by
 refine ZJ Try.func8 R R Try.ntmps8 R (Zi R) fun n0=>?_
 refine aS fun _ hK1 _=>(aR (sA R R (sA R R (aZ (hK1 _ ?_)))))
 refine aS fun _ hK2 _=>(aS fun _ hK3 _=>(aR (sM R R (Zg R R R (ZC (r:=rI (0)) (caps:=[]) (bs:=Gu) R iL R ⟨⟨_,iL,.d R⟩,Za⟩ (fun _=>(fun _:True=>Qg) (True.intro)) R) (sA R R (aZ (hK3 _ ?_)))))))
 refine aS fun _ hK4 _=>(aR (sM R R (sQ R (BR R iL iL) (aZ (hK4 _ ?_)))))
 refine aC R (fun hc1=>by cases hc1) (fun hc1=>?_)
 refine Zl (hK2 _ ?_)
 refine aS fun _ hK5 _=>(aR (sM R R (Zg R R R (B4 (r:=.r (.sl ([(AB.mk 5 0 [98] [])].map AB.row))) (caps:=[]) (bs:=Gu) R iL R ⟨.inl ⟨iL,R⟩,Za⟩ (fun _=>(fun _:True=>P0) (True.intro))) (sA R R (sA R R (aZ (hK5 _ ?_)))))))
 refine Zr ?_
 exact Dc (P:=Try.prog) (fun (r:(List AB) × Int)=>qc r.1) (fun (r:(List AB) × Int)=>rI (r.2)) (R:some (([(AB.mk 5 0 [98] [])],0):(List AB) × Int)=some ([(AB.mk 5 0 [98] [])],0)) iL (.t (.d R)) (.t (.d R))
set_option maxHeartbeats 40000000 in
set_option maxRecDepth 100000 in
theorem UU:Aq Try.prog 12 [.r (.sl ([(AB.mk 5 0 [98] [])].map AB.row))] (rI ((1:Int))):=by
 refine ZJ Try.func12 R R Try.ntmps12 R (Zi R) fun n0=>?_
 refine aS fun _ hK1 _=>(aR (sA R R (aZ (hK1 _ ?_))))
 refine aS fun _ hK2 _=>(aR (Zg R R R (H2 101 R) (Zz R R (JC (.inr R) Try.underlying63 Try.underlying3 (.inl rfl) (.inl rfl) (.inl rfl) R R) (sM R R (sA R R (aZ (hK2 _ ?_)))))))
 refine aS fun _ hK3 _=>(aS fun _ hK4 _=>(aR (sM R R (sQ R (ZD R AZ.slice iL) (sM R R (aZ (hK4 _ ?_)))))))
 refine Zj ?_
 refine DP 9 ?_
 refine Bc.step ?_
 refine aS fun _ hK5 _=>(aR (sQ R (Zs R iL iL) (aZ (hK5 _ ?_))))
 refine aS fun _ hK6 _=>?_
 refine aC R (fun hc1=>?_) (fun hc1=>by cases hc1)
 refine Zl (hK6 _ ?_)
 refine aS fun _ hK7 _=>(Zj (aS fun _ hK8 _=>(aR (sM R R ?_))))
 have e1 : @AN (AB) [(AB.mk 5 0 [98] [])] 0=some (AB.mk 5 0 [98] []):=by kernel_rfl
 refine sQ R (Zt R AZ.slice iL iL (fun _=>R) (fun _=>e1)) (sQ R (ZH (cs:=Mi) R DD iL R R) (Zg R R R (Bz (cs:=Ly) 102 R HE R R) (sA R R (Zz R R (ZI (ds:=Cc) R GE iL R iL R R R R) (aZ (hK8 _ ?_))))))
 refine aS fun _ hK9 _=>(aS fun _ hK10 _=>(aR (sM R R (sQ R (fB R Ca iL fR R) (sQ R (Zc (a:=rI ((0:Int))) R AP iL R R) ?_)))))
 refine sQ R (Jq (ks:=[(0,0)]) (vs:=[rB (true)]) false (.bool false) R Try.underlying63 Try.underlying3 (fun w=>by kernel_rfl) (.inl rfl) (.inl rfl) R R R) ?_
 refine sQ R (Bh R iL) (aZ (hK10 _ ?_))
 refine aC R (fun hc2=>by cases hc2) (fun hc2=>?_)
 refine Zl (hK9 _ ?_)
 refine aK (s':=⟨[(0,.r (.sl ([(AB.mk 5 0 [98] [])].map AB.row))),(3,.mref 101 n0),(5,.ptr 102 (n0+1) 0 0),(8,.r (.sl ([(AB.mk 5 0 [98] [])].map AB.row))),(9,rI ((1:Int))),(10,rI ((0:Int)))],[(101,some (.mp n0 [(0,0)] [rB (true)] 1)),(102,some (.box (n0+1) 55 Cc))],(n0+2),27⟩) ?_
 refine aR (sM R R (sQ R (fB R BT iL fR R) (sQ R (Zc (a:=rI ((5:Int))) R AP iL R R) (Zz R R (JC (.inl rfl) Try.underlying63 Try.underlying3 (.inl rfl) (.inl rfl) (.inl rfl) R R) (aZ (hK7 _ ?_))))))
 refine aR ?_
 have e2:Ac .i64 (1)=some (1:Int):=by kernel_rfl
 refine sQ R (ZA R iL iL (fun _=>e2)) (sM R R ?_)
 refine Zm ?_
 refine Bc.step ?_
 refine aS fun _ hK11 _=>(aR (sQ R (Zs R iL iL) (aZ (hK11 _ ?_))))
 refine aS fun _ hK12 _=>?_
 refine aC R (fun hc3=>by cases hc3) (fun hc3=>?_)
 refine Zx ?_
 refine hK3 _ ?_
 refine aS fun _ hK13 _=>?_
 refine aK (s':=⟨[(0,.r (.sl ([(AB.mk 5 0 [98] [])].map AB.row)))],[],(n0+2),27⟩) ?_
 refine aR (sM R R (sQ R (ZD R AZ.slice iL) (sA R R (aZ (hK13 _ ?_)))))
 refine Zr ?_
 exact BI (R:some (1:Int)=some 1) iL (.t (.d R))
set_option maxHeartbeats 40000000 in
set_option maxRecDepth 100000 in
theorem Qq {r:Bool} (h:Hn=some r):Aq Try.prog 7 [] (rB (r)):=by
 unfold Hn at h
 refine ZJ Try.func7 R R Try.ntmps7 R (Zi R) fun n0=>?_
 refine aS fun _ hK1 _=>(aR (sA R R (aZ (hK1 _ ?_))))
 refine aS fun _ hK2 _=>(aR ?_)
 refine sQ R (CX R Jf (q:=[(0,_),(1,_),(3,_),(5,_)]) (by exact ⟨R,R,R,iL,R,R,R,iL,R,R,R,iL,R,R,R,iL,Za⟩) (cs:=C2) (by rfl)) ?_
 refine Zg R R R (BW 101 R Ak (f:=AD.row) (l:=([(AD.mk 1 1 0 5 0 [98] [] [])]:List AD)) ⟨R,⟨_,iL,R⟩,Za⟩ R (fun _=>R) R) ?_
 refine AS.weak (by exact Af.frz (e':=[(0,rB (false)),(4,.agg C2),(5,.r (.sl ([(AD.mk 1 1 0 5 0 [98] [] [])].map AD.row)))]) (h':=[]) 101 R ⟨jL,jL,.inl (.inr (.inr ⟨R,R⟩)),Za⟩ Za) ?_
 refine Zg R R R (B4 (r:=.tup [.r (.sl ([(AB.mk 5 0 [98] [])].map AB.row)),rI (0)]) (caps:=[]) (bs:=Gu) R iL R ⟨.inl ⟨iL,R⟩,Za⟩ (fun _=>(fun _:True=>VT) (True.intro))) (sM R R (sQ R (ZE (a:=.r (.sl ([(AB.mk 5 0 [98] [])].map AB.row))) R iL R) (sQ R (ZE (a:=rI ((0:Int))) R iL R) (sA R R (sA R R (aZ (hK2 _ ?_)))))))
 refine aS fun _ hK3 _=>(aR (sM R R (sQ R (ZM R iL iL) (sM R R ?_))))
 refine Zq (.one R R R) R R R (Zv (Zd R (.inl R)) _) ?_
 refine Zq (.one R R R) R R R (Zv (ZD R AZ.slice (.inl R)) _) ?_
 refine Zq (.one R R R) R R R (Zv (ZM R (.inl R) (.inl R)) _) ?_
 refine sQ R (ZB R iL iL) (sM R R ?_)
 refine Zq (.one R R R) R R R (Zv (Zd R (.inl R)) _) ?_
 have e1 : @AN (AB) [(AB.mk 5 0 [98] [])] 0=some (AB.mk 5 0 [98] []):=by kernel_rfl
 refine Zq (.one R R R) R R R (Zv (Zt R AZ.slice (.inl R) (.inl R) (fun _=>R) (fun _=>e1)) _) ?_
 refine Zq (.one R R R) R R R (Zv (Zn R BT (.inl R)) _) ?_
 refine Zq (.one R R R) R R R (Zv (Zy (d:=.int .i64 ((AB.mk 5 0 [98] []).Item)) R AP (.inl R) R) _) ?_
 refine Zq (.one R R R) R R R (Zv (ZM R (.inl R) (.inl R)) _) ?_
 refine sQ R (ZB R iL iL) (sM R R ?_)
 refine Zq (.one R R R) R R R (Zv (Zd R (.inl R)) _) ?_
 refine Zq (.one R R R) R R R (ZC (r:=rI (1)) (caps:=[]) (bs:=[.r (.sl ([(AB.mk 5 0 [98] [])].map AB.row))]) R (.inl R) R ⟨⟨_,(.inl R),.d R⟩,Za⟩ (fun _=>(fun _:True=>UU) (True.intro)) R) ?_
 refine Zq (.one R R R) R R R (Zv (ZM R (.inl R) (.inl R)) _) ?_
 refine sQ R (ZB R iL iL) (sA R R (aZ (hK3 _ ?_)))
 refine Zr ?_
 exact BH h iL (.t (.d R))
theorem U9 {s1:List UInt8} {r:Bool} (h:JF s1=some r):Aq Try.prog 13 [.r (.str s1)] (rB (r)):=by
 unfold JF at h
 refine ZJ Try.func13 R R Try.ntmps13 R (Zi R) fun n0=>?_
 refine aS fun _ hK1 _=>(aR (sA R R (aZ (hK1 _ ?_))))
 refine aS fun _ hK2 _=>(aS fun _ hK3 _=>(aR (sM R R (sQ R (EP R iL iL) (sM R R (sV R R R (Zd R iL) (sV R R R (CL R Try.underlying9 (iR R)) (sV R R R (A7 R (iR R) iL) (sQ R (ZF R iL (iR R)) (sM R R (sV R R R (Zd R iL) (sV R R R (Zd R iL) (sV R R R (CL R Try.underlying9 (iR R)) (Zk h fun x1 ex1 h1=>(sV R R R (D0 R (iR R) iL (Ai ex1)) (Zk h1 fun ch1 ech1 h2=>(sV R R R (ZP R Try.underlying9 (iR R) (iR R) (Ai ech1)) (sV R R R (ZM R (iR R) iL) (sQ R (ZF R iL (iR R)) (aZ (hK3 _ ?_)))))))))))))))))))))
 refine aC R (fun hc1=>?_) (fun hc1=>?_)
 ·have h3:=Zo hc1 h2
  refine aS fun _ hK4 _=>?_
  refine aK (s':=⟨[],[],n0,35⟩) ?_
  refine aR (sA R R (aZ (hK4 _ ?_)))
  refine Zr ?_
  exact BH h3 iL (.t (.d R))
 ·have h3:=Zp hc1 h2
  refine Zl (hK2 _ ?_)
  refine aS fun K5 hK5 wK5=>(aS fun _ hK6 _=>?_)
  refine aK (s':=⟨[(0,.r (.str s1))],[],n0,35⟩) ?_
  refine aR (sM R R (sQ R (CL R Try.underlying9 iL) (sM R R (aZ (hK6 _ ?_)))))
  refine Zj ?_
  refine Be h3 fun o1 hit1 hk1 he1=>?_
  have J1 : ∀ (u2:Unit) (i5:Nat→Nat),o1 = .nrm u2→K5 ⟨[],[],(i5 0),35⟩:=by
   intro u2 i5 e
   have h4:=hk1 _ e
   refine hK5 _ ?_
   refine aS fun _ hK7 _=>(aR (sA R R (aZ (hK7 _ ?_))))
   refine Zr ?_
   exact BH h4 iL (.t (.d R))
  refine Cj (fun (x3:Int) i3=>⟨[(0,.r (.str s1)),(20,rI ((s1.length:Int))),(21,rI (x3))],[],(i3 0),35⟩) (AI [n0]) hit1 ((by exact Ze ⟨jL,jL,jL,Za⟩ Za nL)) ?_
  intro x3 i3 v1 hv1 hx1
  have h5:Hm s1 x3=some v1:=hv1; unfold Hm at h5
  refine aS fun _ hK8 _=>(aR (sQ R (Zs R iL iL) (aZ (hK8 _ ?_))))
  refine aS fun _ hK9 _=>?_
  refine aC R (fun hc2=>?_) (fun hc2=>?_)
  ·have h6:=Zo hc2 h5
   refine Zl (hK9 _ ?_)
   refine aS fun _ hK10 _=>(Zj (aS fun _ hK11 _=>(aR (sM R R (sA R R (aZ (hK11 _ ?_)))))))
   refine aS fun _ hK12 _=>(aR (sM R R (sM R R (Zk h6 fun ch2 ech2 h7=>(sQ R (ZP R Try.underlying9 iL iL (fun _=>ech2)) (sQ R (Zs R iL iL) (sM R R (sV R R R (Zd R iL) (sV R R R (Zd R iL) (sV R R R (ZP R Try.underlying9 (iR R) (iR R) (fun _=>ech2)) (sV R R R (A7 R (iR R) iL) (sQ R (ZF R iL (iR R)) (aZ (hK12 _ ?_))))))))))))))
   refine aC R (fun hc3=>?_) (fun hc3=>?_)
   ·have h8:=Zo hc3 h7
    refine aS fun _ hK13 _=>?_
    refine aK (s':=⟨[],[],(i3 0),35⟩) ?_
    refine aR (sA R R (aZ (hK13 _ ?_)))
    refine Zr ?_
    exact BH (he1 _ (hx1 _ (Zb h8).symm)) iL (.t (.d R))
   ·have h8:=Zp hc3 h7
    refine Zl (hK10 _ ?_)
    refine aK (s':=⟨[(0,.r (.str s1)),(20,rI ((s1.length:Int))),(21,rI (x3))],[],(i3 0),35⟩) ?_
    refine aR (Zk h8 fun x5 ex5 h9=>(sQ R (ZA R iL iL (fun _=>ex5)) (sM R R ?_)))
    refine Zm ?_
    exact CB.mk h9 (AI [(i3 0)]) ((by exact Ze ⟨jL,jL,jL,Za⟩ Za nL))
  ·have h6:=Zp hc2 h5
   refine Zx ?_
   exact wK5 _ _ ((by exact Ze Za Za nL)) (J1 _ (AI [(i3 0)]) (hx1 _ (Zb h6).symm))
theorem TS {s1:List UInt8} {r:Bool} (h:Hr s1=some r):Aq Try.prog 54 [.r (.str s1)] (rB (r)):=by
 unfold Hr at h
 refine ZJ Try.func54 R R Try.ntmps54 R (Zi R) fun n0=>?_
 refine aS fun _ hK1 _=>(aR (sA R R (aZ (hK1 _ ?_))))
 refine aS fun _ hK2 _=>(aS fun _ hK3 _=>(aR (sM R R (sQ R (EP R iL iL) (sM R R (sV R R R (Zd R iL) (sV R R R (CL R Try.underlying9 (iR R)) (sV R R R (A7 R (iR R) iL) (sQ R (ZF R iL (iR R)) (sM R R (sV R R R (Zd R iL) (Zk h fun ch1 ech1 h1=>(sV R R R (ZP R Try.underlying9 (iR R) iL (Ai ech1)) (sV R R R (Zs R (iR R) iL) (sQ R (ZF R iL (iR R)) (sM R R (sV R R R (Zd R iL) (Zk h1 fun ch2 ech2 h2=>(sV R R R (ZP R Try.underlying9 (iR R) iL (Ai ech2)) (sV R R R (A7 R (iR R) iL) (sQ R (ZF R iL (iR R)) (aZ (hK3 _ ?_)))))))))))))))))))))))
 refine aC R (fun hc1=>?_) (fun hc1=>?_)
 ·have h3:=Zo hc1 h2
  refine aS fun _ hK4 _=>?_
  refine aK (s':=⟨[],[],n0,53⟩) ?_
  refine aR (sA R R (aZ (hK4 _ ?_)))
  refine Zr ?_
  exact BH h3 iL (.t (.d R))
 ·have h3:=Zp hc1 h2
  refine Zl (hK2 _ ?_)
  refine aS fun K5 hK5 wK5=>(aS fun _ hK6 _=>?_)
  refine aK (s':=⟨[(0,.r (.str s1))],[],n0,53⟩) ?_
  refine aR (sM R R (sQ R (CL R Try.underlying9 iL) (sM R R (aZ (hK6 _ ?_)))))
  refine Zj ?_
  refine Be h3 fun o1 hit1 hk1 he1=>?_
  have J1 : ∀ (u2:Unit) (i5:Nat→Nat),o1 = .nrm u2→K5 ⟨[],[],(i5 0),53⟩:=by
   intro u2 i5 e
   have h4:=hk1 _ e
   refine hK5 _ ?_
   refine aS fun _ hK7 _=>(aR (sA R R (aZ (hK7 _ ?_))))
   refine Zr ?_
   exact BH h4 iL (.t (.d R))
  refine Cj (fun (x2:Int) i3=>⟨[(0,.r (.str s1)),(23,rI ((s1.length:Int))),(24,rI (x2))],[],(i3 0),53⟩) (AI [n0]) hit1 ((by exact Ze ⟨jL,jL,jL,Za⟩ Za nL)) ?_
  intro x2 i3 v1 hv1 hx1
  have h5:Hj s1 x2=some v1:=hv1; unfold Hj at h5
  refine aS fun _ hK8 _=>(aR (sQ R (Zs R iL iL) (aZ (hK8 _ ?_))))
  refine aS fun _ hK9 _=>?_
  refine aC R (fun hc2=>?_) (fun hc2=>?_)
  ·have h6:=Zo hc2 h5
   refine Zl (hK9 _ ?_)
   refine aS fun _ hK10 _=>(Zj (aS fun _ hK11 _=>(aR (sM R R (sA R R (aZ (hK11 _ ?_)))))))
   refine aS fun _ hK12 _=>(aR (sM R R (sM R R (Zk h6 fun c1 ec1 h7=>(sQ R (ZP R Try.underlying9 iL iL (fun _=>ec1)) (sA R R (aZ (hK12 _ ?_))))))))
   refine aS fun _ hK13 _=>(aR (sM R R (sQ R (Zs R iL iL) (sM R R (sV R R R (Zd R iL) (sV R R R (A7 R (iR R) iL) (sQ R (ZF R iL (iR R)) (sM R R (sV R R R (Zd R iL) (sV R R R (Zs R (iR R) iL) (sV R R R (Zd R (iR R)) ?_)))))))))))
   refine sW (.two R R R) R (Zd R iL) ?_
   refine sW (.two R R R) R (A7 R (iR R) iL) ?_
   refine sV R R R (ZF R (iR R) (iR R)) (sQ R (ZB R iL (iR R)) (sM R R (sV R R R (Zd R iL) (sV R R R (BR R (iR R) iL) (sQ R (ZB R iL (iR R)) (sM R R (sV R R R (Zd R iL) (sV R R R (BR R (iR R) iL) (sQ R (ZB R iL (iR R)) (aZ (hK13 _ ?_)))))))))))
   refine aC R (fun hc3=>?_) (fun hc3=>?_)
   ·have h8:=Zo hc3 h7
    refine aS fun _ hK14 _=>?_
    refine aK (s':=⟨[],[],(i3 0),53⟩) ?_
    refine aR (sA R R (aZ (hK14 _ ?_)))
    refine Zr ?_
    exact BH (he1 _ (hx1 _ (Zb h8).symm)) iL (.t (.d R))
   ·have h8:=Zp hc3 h7
    refine Zl (hK10 _ ?_)
    refine aK (s':=⟨[(0,.r (.str s1)),(23,rI ((s1.length:Int))),(24,rI (x2))],[],(i3 0),53⟩) ?_
    refine aR (Zk h8 fun x4 ex4 h9=>(sQ R (ZA R iL iL (fun _=>ex4)) (sM R R ?_)))
    refine Zm ?_
    exact CB.mk h9 (AI [(i3 0)]) ((by exact Ze ⟨jL,jL,jL,Za⟩ Za nL))
  ·have h6:=Zp hc2 h5
   refine Zx ?_
   exact wK5 _ _ ((by exact Ze Za Za nL)) (J1 _ (AI [(i3 0)]) (hx1 _ (Zb h6).symm))
theorem VS {s1:List UInt8} {r:Bool} (h:Ip s1=some r):Aq Try.prog 55 [.r (.str s1)] (rB (r)):=by
 unfold Ip at h
 refine ZJ Try.func55 R R Try.ntmps55 R (Zi R) fun n0=>?_
 refine aS fun _ hK1 _=>(aR (sA R R (aZ (hK1 _ ?_))))
 refine aS fun _ hK2 _=>(aS fun _ hK3 _=>(aR (sM R R (sQ R (EP R iL iL) (sM R R (sV R R R (Zd R iL) (sV R R R (CL R Try.underlying9 (iR R)) (sV R R R (A7 R (iR R) iL) (sQ R (ZF R iL (iR R)) (aZ (hK3 _ ?_)))))))))))
 refine aC R (fun hc1=>?_) (fun hc1=>?_)
 ·have h1:=Zo hc1 h
  refine aS fun _ hK4 _=>?_
  refine aK (s':=⟨[],[],n0,27⟩) ?_
  refine aR (sA R R (aZ (hK4 _ ?_)))
  refine Zr ?_
  exact BH h1 iL (.t (.d R))
 ·have h1:=Zp hc1 h
  refine Zl (hK2 _ ?_)
  refine aS fun K5 hK5 wK5=>(aS fun _ hK6 _=>(aR (sM R R (sQ R (CL R Try.underlying9 iL) (sM R R (aZ (hK6 _ ?_)))))))
  refine Zj ?_
  refine Be h1 fun o1 hit1 hk1 he1=>?_
  have J1 : ∀ (u2:Unit) (i5:Nat→Nat),o1 = .nrm u2→K5 ⟨[],[],(i5 0),27⟩:=by
   intro u2 i5 e
   have h2:=hk1 _ e
   refine hK5 _ ?_
   refine aS fun _ hK7 _=>(aR (sA R R (aZ (hK7 _ ?_))))
   refine Zr ?_
   exact BH h2 iL (.t (.d R))
  refine Cj (fun (x2:Int) i3=>⟨[(0,.r (.str s1)),(12,rI ((s1.length:Int))),(13,rI (x2))],[],(i3 0),27⟩) (AI [n0]) hit1 ((by exact Ze ⟨jL,jL,jL,Za⟩ Za nL)) ?_
  intro x2 i3 v1 hv1 hx1
  have h3:H4 s1 x2=some v1:=hv1; unfold H4 at h3
  refine aS fun _ hK8 _=>(aR (sQ R (Zs R iL iL) (aZ (hK8 _ ?_))))
  refine aS fun _ hK9 _=>?_
  refine aC R (fun hc2=>?_) (fun hc2=>?_)
  ·have h4:=Zo hc2 h3
   refine Zl (hK9 _ ?_)
   refine aS fun _ hK10 _=>(Zj (aS fun _ hK11 _=>(aR (sM R R (sA R R (aZ (hK11 _ ?_)))))))
   refine aS fun _ hK12 _=>(aR (sM R R (sM R R (Zk h4 fun ch1 ech1 h5=>(sQ R (ZP R Try.underlying9 iL iL (fun _=>ech1)) (sQ R (Zs R iL iL) (sM R R (sV R R R (Zd R iL) (sV R R R (Zd R iL) (sV R R R (ZP R Try.underlying9 (iR R) (iR R) (fun _=>ech1)) (sV R R R (A7 R (iR R) iL) (sQ R (ZF R iL (iR R)) (aZ (hK12 _ ?_))))))))))))))
   refine aC R (fun hc3=>?_) (fun hc3=>?_)
   ·have h6:=Zo hc3 h5
    refine aS fun _ hK13 _=>?_
    refine aK (s':=⟨[],[],(i3 0),27⟩) ?_
    refine aR (sA R R (aZ (hK13 _ ?_)))
    refine Zr ?_
    exact BH (he1 _ (hx1 _ (Zb h6).symm)) iL (.t (.d R))
   ·have h6:=Zp hc3 h5
    refine Zl (hK10 _ ?_)
    refine aK (s':=⟨[(0,.r (.str s1)),(12,rI ((s1.length:Int))),(13,rI (x2))],[],(i3 0),27⟩) ?_
    refine aR (Zk h6 fun x4 ex4 h7=>(sQ R (ZA R iL iL (fun _=>ex4)) (sM R R ?_)))
    refine Zm ?_
    exact CB.mk h7 (AI [(i3 0)]) ((by exact Ze ⟨jL,jL,jL,Za⟩ Za nL))
  ·have h4:=Zp hc2 h3
   refine Zx ?_
   exact wK5 _ _ ((by exact Ze Za Za nL)) (J1 _ (AI [(i3 0)]) (hx1 _ (Zb h4).symm))
theorem TY {o1:AD} {r:Int} (h:JJ o1=some r):Aq Try.prog 34 (NR o1) (rI (r)):=by
 unfold JJ at h
 refine ZJ Try.func34 R R Try.ntmps34 R (Zi R) fun n0=>?_
 refine aS fun _ hK1 _=>(aR (Zg R R R (CS (cs:=(Aa o1)) 1 R iL R R) (sA R R (aZ (hK1 _ ?_)))))
 refine aS fun _ hK2 _=>(Zj (aS fun _ hK3 _=>(aR (sQ R (fB R B3 iL fR R) (sQ R (Zc (a:=rI (o1.Kind)) R AP iL R R) (sQ R (BR R iL iL) (sM R R (sV R R R (fB R B3 iL fR R) (sV R R R (Zc (a:=rI (o1.Kind)) R AP (iR R) R R) (sV R R R (BR R (iR R) iL) (sQ R (ZB R iL (iR R)) (sA R R (aZ (hK3 _ ?_))))))))))))))
 refine aC R (fun hc1=>?_) (fun hc1=>?_)
 ·have h1:=Zo hc1 h
  refine aS fun _ hK4 _=>?_
  refine aK (s':=⟨[],[],(n0+1),116⟩) ?_
  refine aR (sA R R (aZ (hK4 _ ?_)))
  refine Zr ?_
  exact BI h1 iL (.t (.d R))
 ·have h1:=Zp hc1 h
  refine aS fun _ hK5 _=>?_
  refine aK (s':=⟨[(1,.ptr 1 n0 0 0)],[(1,some (.box n0 46 (Aa o1)))],(n0+1),116⟩) ?_
  refine aR (sQ R (fB R C8 iL fR R) (sQ R (Zc (a:=rI (o1.Clock)) R AP iL R R) (sQ R (Zs R iL iL) (sM R R (sV R R R (fB R C8 iL fR R) (sV R R R (Zc (a:=rI (o1.Clock)) R AP (iR R) R R) (sV R R R (A7 R (iR R) iL) (sQ R (ZF R iL (iR R)) (sM R R (sV R R R (fB R D8 iL fR R) (sV R R R (Zc (a:=rI (o1.Site)) R AP (iR R) R R) (sV R R R (Zs R (iR R) iL) (sQ R (ZF R iL (iR R)) (sM R R (sV R R R (fB R D8 iL fR R) (sV R R R (Zc (a:=rI (o1.Site)) R AP (iR R) R R) (sV R R R (A7 R (iR R) iL) (sQ R (ZF R iL (iR R)) (sM R R (sV R R R (fB R B8 iL fR R) (sV R R R (Zc (a:=rI (o1.Item)) R AP (iR R) R R) (sV R R R (Zs R (iR R) iL) (sQ R (ZF R iL (iR R)) (sM R R (sV R R R (fB R B8 iL fR R) (sV R R R (Zc (a:=rI (o1.Item)) R AP (iR R) R R) (sV R R R (A7 R (iR R) iL) (sQ R (ZF R iL (iR R)) (sA R R ?_)))))))))))))))))))))))))))))
  refine aZ (hK5 _ ?_)
  refine aC R (fun hc2=>?_) (fun hc2=>?_)
  ·have h2:=Zo hc2 h1
   refine aS fun _ hK6 _=>?_
   refine aK (s':=⟨[],[],(n0+1),116⟩) ?_
   refine aR (sA R R (aZ (hK6 _ ?_)))
   refine Zr ?_
   exact BI h2 iL (.t (.d R))
  ·have h2:=Zp hc2 h1
   refine aS fun K7 hK7 wK7=>(aS fun _ hK8 _=>?_)
   refine aK (s':=⟨[(1,.ptr 1 n0 0 0)],[(1,some (.box n0 46 (Aa o1)))],(n0+1),116⟩) ?_
   refine aR (sQ R (fB R B3 iL fR R) (sQ R (Zc (a:=rI (o1.Kind)) R AP iL R R) (sQ R (ZM R iL iL) (sM R R (sV R R R (fB R GS iL fR R) (sV R R R (Zc (a:=.r (.str o1.Name)) R Aj (iR R) R R) (sV R R R (C1 R (iR R) iL) (sV R R R (Zd R (iR R)) ?_))))))))
   refine sW (.two R R R) R (fB R E5 iL fR R) ?_
   refine sW (.two R R R) R (Zc (a:=.r (.str o1.Value)) R Aj (iR R) R R) ?_
   refine sW (.two R R R) R (C1 R (iR R) iL) ?_
   refine sV R R R (ZF R (iR R) (iR R)) (sQ R (ZB R iL (iR R)) (sA R R (aZ (hK8 _ ?_))))
   refine BB h2 fun p1 hp1 hk1=>?_
   have J1 : ∀ (x1:Bool) (i1:Nat→Nat),p1=x1→K7 ⟨[(1,.ptr 1 n0 0 0),(41,rB (x1))],[(1,some (.box n0 46 (Aa o1)))],(i1 0),116⟩:=by
    intro x1 i1 e
    have h3:=hk1 _ e
    refine hK7 _ ?_
    refine aC R (fun hc3=>?_) (fun hc3=>?_)
    ·have h4:=Zo hc3 h3
     refine aS fun _ hK9 _=>(aR (sA R R (aZ (hK9 _ ?_))))
     refine Zr ?_
     exact BI h4 iL (.t (.d R))
    ·have h4:=Zp hc3 h3
     refine aS fun _ hK10 _=>(aR (sQ R (fB R B3 iL fR R) (sQ R (Zc (a:=rI (o1.Kind)) R AP iL R R) (sQ R (ZM R iL iL) (sM R R (sV R R R (fB R DC iL fR R) (sV R R R (Zc (a:=rI (o1.Parent)) R AP (iR R) R R) (sV R R R (Zs R (iR R) iL) (sV R R R (Zd R (iR R)) ?_)))))))))
     refine sW (.two R R R) R (fB R DC iL fR R) ?_
     refine sW (.two R R R) R (Zc (a:=rI (o1.Parent)) R AP (iR R) R R) ?_
     refine sW (.two R R R) R (A7 R (iR R) iL) ?_
     refine sV R R R (ZF R (iR R) (iR R)) (sQ R (ZB R iL (iR R)) (sA R R (aZ (hK10 _ ?_))))
     refine aC R (fun hc4=>?_) (fun hc4=>?_)
     ·have h5:=Zo hc4 h4
      refine aS fun _ hK11 _=>?_
      refine aK (s':=⟨[],[],(i1 0),116⟩) ?_
      refine aR (sA R R (aZ (hK11 _ ?_)))
      refine Zr ?_
      exact BI h5 iL (.t (.d R))
     ·have h5:=Zp hc4 h4
      refine aS fun K12 hK12 wK12=>(aS fun _ hK13 _=>?_)
      refine aK (s':=⟨[(1,.ptr 1 n0 0 0)],[(1,some (.box n0 46 (Aa o1)))],(i1 0),116⟩) ?_
      refine aR (sQ R (fB R B3 iL fR R) (sQ R (Zc (a:=rI (o1.Kind)) R AP iL R R) (sQ R (ZM R iL iL) (sM R R (sV R R R (fB R FY iL fR R) (sV R R R (Zc (a:=.r (.str o1.Place)) R Aj (iR R) R R) (Zk h5 fun r1 er1 h6=>?_)))))))
      refine AS.stepW (.one R R R) R R (ZC (r:=rB (r1)) (caps:=[]) (bs:=[.r (.str o1.Place)]) R iL R ⟨⟨_,(iR R),.d R⟩,Za⟩ (fun hg=>U9 (Ai er1 hg)) R) ?_
      refine sV R R R (Bh R (iR R)) (sQ R (ZB R iL (iR R)) (sA R R (aZ (hK13 _ ?_))))
      refine BB h6 fun p2 hp2 hk2=>?_
      have J2 : ∀ (x2:Bool) (i2:Nat→Nat),p2=x2→K12 ⟨[(1,.ptr 1 n0 0 0),(82,rB (x2))],[(1,some (.box n0 46 (Aa o1)))],(i2 0),116⟩:=by
       intro x2 i2 e
       have h7:=hk2 _ e
       refine hK12 _ ?_
       refine aC R (fun hc5=>?_) (fun hc5=>?_)
       ·have h8:=Zo hc5 h7
        refine aS fun _ hK14 _=>(aR (sA R R (aZ (hK14 _ ?_))))
        refine Zr ?_
        exact BI h8 iL (.t (.d R))
       ·have h8:=Zp hc5 h7
        refine aS fun _ hK15 _=>(aR (sQ R (fB R B3 iL fR R) (sQ R (Zc (a:=rI (o1.Kind)) R AP iL R R) (sQ R (ZM R iL iL) (sM R R (sV R R R (fB R E5 iL fR R) (sV R R R (Zc (a:=.r (.str o1.Value)) R Aj (iR R) R R) (sV R R R (C1 R (iR R) iL) (sQ R (ZB R iL (iR R)) (sM R R (sV R R R (fB R E5 iL fR R) (sV R R R (Zc (a:=.r (.str o1.Value)) R Aj (iR R) R R) (Zk h8 fun r2 er2 h9=>?_)))))))))))))
        refine AS.stepW (.one R R R) R R (ZC (r:=rB (r2)) (caps:=[]) (bs:=[.r (.str o1.Value)]) R iL R ⟨⟨_,(iR R),.d R⟩,Za⟩ (fun hg=>VS (Ai er2 hg)) R) ?_
        refine sV R R R (Bh R (iR R)) (sQ R (ZB R iL (iR R)) (sA R R (aZ (hK15 _ ?_))))
        refine aC R (fun hc6=>?_) (fun hc6=>?_)
        ·have h10:=Zo hc6 h9
         refine aS fun _ hK16 _=>?_
         refine aK (s':=⟨[],[],(i2 0),116⟩) ?_
         refine aR (sA R R (aZ (hK16 _ ?_)))
         refine Zr ?_
         exact BI h10 iL (.t (.d R))
        ·have h10:=Zp hc6 h9
         refine Zl (hK2 _ ?_)
         refine aS fun _ hK17 _=>?_
         refine aK (s':=⟨[],[],(i2 0),116⟩) ?_
         refine aR (sA R R (aZ (hK17 _ ?_)))
         refine Zr ?_
         exact BI h10 iL (.t (.d R))
      refine aC R (fun hc7=>?_) (fun hc7=>?_)
      ·have h11:=Zo hc7 hp2
       refine Zl ?_
       exact wK12 _ _ ((by exact Ze ⟨jL,jL,Za⟩ ⟨.inl R,Za⟩ nL)) (J2 _ (AI [(i1 0)]) (Zb h11).symm)
      ·have h11:=Zp hc7 hp2
       refine aK (s':=⟨[(1,.ptr 1 n0 0 0)],[(1,some (.box n0 46 (Aa o1)))],(i1 0),116⟩) ?_
       refine aR (sQ R (fB R B3 iL fR R) (sQ R (Zc (a:=rI (o1.Kind)) R AP iL R R) (sQ R (ZM R iL iL) (sM R R (sV R R R (fB R GS iL fR R) (sV R R R (Zc (a:=.r (.str o1.Name)) R Aj (iR R) R R) (Zk h11 fun r3 er3 h12=>?_)))))))
       refine AS.stepW (.one R R R) R R (ZC (r:=rB (r3)) (caps:=[]) (bs:=[.r (.str o1.Name)]) R iL R ⟨⟨_,(iR R),.d R⟩,Za⟩ (fun hg=>TS (Ai er3 hg)) R) ?_
       refine sV R R R (Bh R (iR R)) (sQ R (ZB R iL (iR R)) (sA R R ?_))
       refine Zm ?_
       exact wK12 _ _ ((by exact Ze ⟨jL,jL,Za⟩ ⟨.inl R,Za⟩ nL)) (J2 _ (AI [(i1 0)]) (Zb h12).symm)
   refine aC R (fun hc8=>?_) (fun hc8=>?_)
   ·have h13:=Zo hc8 hp1
    refine Zl ?_
    exact wK7 _ _ ((by exact Ze ⟨jL,jL,Za⟩ ⟨.inl R,Za⟩ nL)) (J1 _ (AI [(n0+1)]) (Zb h13).symm)
   ·have h13:=Zp hc8 hp1
    refine aK (s':=⟨[(1,.ptr 1 n0 0 0)],[(1,some (.box n0 46 (Aa o1)))],(n0+1),116⟩) ?_
    refine aR (sQ R (fB R B3 iL fR R) (sQ R (Zc (a:=rI (o1.Kind)) R AP iL R R) (sQ R (ZM R iL iL) (sM R R (sV R R R (fB R DC iL fR R) (sV R R R (Zc (a:=rI (o1.Parent)) R AP (iR R) R R) (sV R R R (BR R (iR R) iL) (sV R R R (Zd R (iR R)) ?_))))))))
    refine sW (.two R R R) R (fB R FY iL fR R) ?_
    refine sW (.two R R R) R (Zc (a:=.r (.str o1.Place)) R Aj (iR R) R R) ?_
    refine sW (.two R R R) R (C1 R (iR R) iL) ?_
    refine sV R R R (ZF R (iR R) (iR R)) (sQ R (ZB R iL (iR R)) (sA R R ?_))
    refine Zm ?_
    exact wK7 _ _ ((by exact Ze ⟨jL,jL,Za⟩ ⟨.inl R,Za⟩ nL)) (J1 _ (AI [(n0+1)]) (Zb h13).symm)
theorem PJ {x1:Int} {r:Bool} (h:Ir x1=some r):Aq Try.prog 67 [rI (x1)] (rB (r)):=by
 unfold Ir at h
 refine ZJ Try.func67 R R Try.ntmps67 R (Zi R) fun n0=>?_
 refine aS fun _ hK1 _=>(aR (sA R R (aZ (hK1 _ ?_))))
 refine aS fun _ hK2 _=>(aR (sM R R (sM R R (sQ R (BR R iL iL) (sA R R (aZ (hK2 _ ?_)))))))
 refine Zr ?_
 exact BH h iL (.t (.d R))
theorem Ng {x1:Int} {y1:Int} {r:Int} (h:Hg x1 y1=some r):Aq Try.prog 49 [rI (x1),rI (y1)] (rI (r)):=by
 unfold Hg at h
 refine ZJ Try.func49 R R Try.ntmps49 R (Zi R) fun n0=>?_
 refine aS fun _ hK1 _=>(aR (sA R R (aZ (hK1 _ ?_))))
 refine aS fun _ hK2 _=>(aR (sM R R (Zk h fun xNaN1 exNaN1 h1=>(Zg R R R (ZC (r:=rB (xNaN1)) (caps:=[]) (bs:=[rI (x1)]) R iL R ⟨⟨_,iL,.d R⟩,Za⟩ (fun _=>PJ (exNaN1)) R) (sA R R (aZ (hK2 _ ?_)))))))
 refine aS fun _ hK3 _=>(aR (sM R R (Zk h1 fun yNaN1 eyNaN1 h2=>(Zg R R R (ZC (r:=rB (yNaN1)) (caps:=[]) (bs:=[rI (y1)]) R iL R ⟨⟨_,iL,.d R⟩,Za⟩ (fun _=>PJ (eyNaN1)) R) (sA R R (aZ (hK3 _ ?_)))))))
 refine aS fun _ hK4 _=>(aS fun _ hK5 _=>(aR (sM R R (aZ (hK5 _ ?_)))))
 refine aC R (fun hc1=>?_) (fun hc1=>?_)
 ·have h3:=Zo hc1 h2
  refine aS fun _ hK6 _=>(aS fun _ hK7 _=>?_)
  refine aK (s':=⟨[(6,rB (yNaN1))],[],n0,20⟩) ?_
  refine aR (sM R R (aZ (hK7 _ ?_)))
  refine aC R (fun hc2=>?_) (fun hc2=>?_)
  ·have h4:=Zo hc2 h3
   refine aS fun _ hK8 _=>(aR (sA R R (aZ (hK8 _ ?_))))
   refine Zr ?_
   exact BI h4 iL (.t (.d R))
  ·have h4:=Zp hc2 h3
   refine Zl (hK6 _ ?_)
   refine aS fun _ hK9 _=>(aR (sA R R (aZ (hK9 _ ?_))))
   refine Zr ?_
   exact BI h4 iL (.t (.d R))
 ·have h3:=Zp hc1 h2
  refine Zl (hK4 _ ?_)
  refine aS fun _ hK10 _=>(aS fun _ hK11 _=>(aR (sM R R (aZ (hK11 _ ?_)))))
  refine aC R (fun hc3=>?_) (fun hc3=>?_)
  ·have h5:=Zo hc3 h3
   refine aS fun _ hK12 _=>?_
   refine aK (s':=⟨[],[],n0,20⟩) ?_
   refine aR (sA R R (aZ (hK12 _ ?_)))
   refine Zr ?_
   exact BI h5 iL (.t (.d R))
  ·have h5:=Zp hc3 h3
   refine Zl (hK10 _ ?_)
   refine aS fun _ hK13 _=>(aS fun _ hK14 _=>?_)
   refine aK (s':=⟨[(0,rI (x1)),(1,rI (y1))],[],n0,20⟩) ?_
   refine aR (sM R R (sM R R (sQ R (Zs R iL iL) (aZ (hK14 _ ?_)))))
   refine aC R (fun hc4=>?_) (fun hc4=>?_)
   ·have h6:=Zo hc4 h5
    refine aS fun _ hK15 _=>(aR (sA R R (aZ (hK15 _ ?_))))
    refine Zr ?_
    exact BI h6 iL (.t (.d R))
   ·have h6:=Zp hc4 h5
    refine Zl (hK13 _ ?_)
    refine aS fun _ hK16 _=>(aS fun _ hK17 _=>(aR (sM R R (sM R R (sQ R (A7 R iL iL) (aZ (hK17 _ ?_)))))))
    refine aC R (fun hc5=>?_) (fun hc5=>?_)
    ·have h7:=Zo hc5 h6
     refine aS fun _ hK18 _=>(aR (sA R R (aZ (hK18 _ ?_))))
     refine Zr ?_
     exact BI h7 iL (.t (.d R))
    ·have h7:=Zp hc5 h6
     refine Zl (hK16 _ ?_)
     refine aS fun _ hK19 _=>(aR (sA R R (aZ (hK19 _ ?_))))
     refine Zr ?_
     exact BI h7 iL (.t (.d R))
theorem Ql {vals1:List Int} {r:Int} (h:H9 vals1=some r):Aq Try.prog 47 [.r (.sl (vals1.map (Ad .i64)))] (rI (r)):=by
 unfold H9 at h
 refine ZJ Try.func47 R R Try.ntmps47 R (Zi R) fun n0=>?_
 refine aS fun _ hK1 _=>(aR (sA R R (aZ (hK1 _ ?_))))
 refine aS fun _ hK2 _=>(aR (sA R R (aZ (hK2 _ ?_))))
 refine aS fun K3 hK3 wK3=>(aS fun _ hK4 _=>(aR (sM R R (sQ R (ZD R Bl.slice iL) (sM R R (aZ (hK4 _ ?_)))))))
 refine Zj ?_
 refine Be h fun o1 hit1 hk1 he1=>?_
 have J1 : ∀ (u2:Unit) (i5:Nat→Nat),o1 = .nrm u2→K3 ⟨[(3,rI (0))],[],(i5 0),18⟩:=by
  intro u2 i5 e
  have h1:=hk1 _ e
  refine hK3 _ ?_
  refine aS fun _ hK5 _=>(aR (sM R R (sA R R (aZ (hK5 _ ?_)))))
  refine Zr ?_
  exact BI h1 iL (.t (.d R))
 refine Cj (fun (x2:Int) i3=>⟨[(3,rI (0)),(6,.r (.sl (vals1.map (Ad .i64)))),(7,rI ((vals1.length:Int))),(8,rI (x2))],[],(i3 0),18⟩) (AI [n0]) hit1 ((by exact Ze ⟨jL,jL,jL,jL,Za⟩ Za nL)) ?_
 intro x2 i3 v1 hv1 hx1
 have h2:Ie vals1 x2=some v1:=hv1; unfold Ie at h2
 refine aS fun _ hK6 _=>(aR (sQ R (Zs R iL iL) (aZ (hK6 _ ?_))))
 refine aS fun _ hK7 _=>?_
 refine aC R (fun hc1=>?_) (fun hc1=>?_)
 ·have h3:=Zo hc1 h2
  refine Zl (hK7 _ ?_)
  refine aS fun _ hK8 _=>(Zj (aS fun _ hK9 _=>(aR (Zk h3 fun x4 ex4 h4=>(sQ R (Zt R Bl.slice iL iL (fun _=>R) (fun _=>ex4)) (sQ R (Zy (d:=.int .i64 x4) R AP iL R) (sA R R (aZ (hK9 _ ?_)))))))))
  refine aS fun _ hK10 _=>(aR (sM R R (sM R R (sQ R (BR R iL iL) (aZ (hK10 _ ?_))))))
  refine aC R (fun hc2=>?_) (fun hc2=>?_)
  ·have h5:=Zo hc2 h4
   refine aS fun _ hK11 _=>?_
   refine aK (s':=⟨[(5,rI (x4))],[],(i3 0),18⟩) ?_
   refine aR (sM R R (sA R R (aZ (hK11 _ ?_))))
   refine Zr ?_
   exact BI (he1 _ (hx1 _ (Zb h5).symm)) iL (.t (.d R))
  ·have h5:=Zp hc2 h4
   refine Zl (hK8 _ ?_)
   refine aR (Zk h5 fun x5 ex5 h6=>(sQ R (ZA R iL iL (fun _=>ex5)) (sM R R ?_)))
   refine Zm ?_
   exact CB.mk h6 (AI [(i3 0)]) ((by exact Ze ⟨jL,jL,jL,jL,Za⟩ Za nL))
 ·have h3:=Zp hc1 h2
  refine Zx ?_
  exact wK3 _ _ ((by exact Ze ⟨jL,Za⟩ Za nL)) (J1 _ (AI [(i3 0)]) (hx1 _ (Zb h3).symm))
theorem MU {a1:AD} {b1:AD} {r:Int} (h:GZ a1 b1=some r):Aq Try.prog 35 [.agg (Aa a1),.agg (Aa b1)] (rI (r)):=by
 unfold GZ at h
 refine ZJ Try.func35 R R Try.ntmps35 R (Zi R) fun n0=>?_
 refine aS fun _ hK1 _=>(aR (Zg R R R (CS (cs:=(Aa a1)) 2 R iL R R) (Zg R R R (CS (cs:=(Aa b1)) 3 R iL R R) (sA R R (aZ (hK1 _ ?_))))))
 refine aS fun _ hK2 _=>(Zk h fun r1 er1 h1=>?_)
 refine FR 9 [⟨some 5,(fun _=>.ptr 2 n0 0 0),none,[]⟩,⟨some 6,(fun _=>rI (a1.Clock)),none,[]⟩,⟨some 7,(fun _=>.ptr 3 (n0+1) 0 0),none,[]⟩,⟨some 8,(fun _=>rI (b1.Clock)),none,[]⟩,⟨some 9,(fun _=>rI (r1)),none,[]⟩,⟨some 10,(fun _=>.ptr 2 n0 0 1),none,[]⟩,⟨some 11,(fun _=>rI (a1.Site)),none,[]⟩,⟨some 12,(fun _=>.ptr 3 (n0+1) 0 1),none,[]⟩,⟨some 13,(fun _=>rI (b1.Site)),none,[]⟩] BD (by kernel_rfl) (by exact ⟨fun _ _ h=>⟨R,fun _ _ e=>by cases e⟩,fun _ _ h=>⟨R,fun _ _ e=>by cases e⟩,fun _ _ h=>⟨R,fun _ _ e=>by cases e⟩,fun _ _ h=>⟨R,fun _ _ e=>by cases e⟩,fun _ _ h=>⟨R,fun _ _ e=>by cases e⟩,fun _ _ h=>⟨R,fun _ _ e=>by cases e⟩,fun _ _ h=>⟨R,fun _ _ e=>by cases e⟩,fun _ _ h=>⟨R,fun _ _ e=>by cases e⟩,fun _ _ h=>⟨R,fun _ _ e=>by cases e⟩,Za⟩) R (by exact ⟨oQ (fun _=>[(2,.ptr 2 n0 0 0)]) (fun _=>[(2,some (.box n0 46 (Aa a1)))]) (fun D G1 hr=>⟨ZO R R,Za⟩) (fun D G1 hr=>⟨Zw R R,Za⟩) (fun G1 e h'=>fB R C8 (.inl R) (fun _=>R) R),
   oQ (fun _=>[(5,.ptr 2 n0 0 0)]) (fun _=>[(2,some (.box n0 46 (Aa a1)))]) (fun D G1 hr=>⟨Zu hr 0 R R (by kernel_rfl) R R,Za⟩) (fun D G1 hr=>⟨Zw R R,Za⟩) (fun G1 e h'=>Zc (a:=rI (a1.Clock)) R AP (.inl R) R R),
   oQ (fun _=>[(3,.ptr 3 (n0+1) 0 0)]) (fun _=>[(3,some (.box (n0+1) 46 (Aa b1)))]) (fun D G1 hr=>⟨ZO R R,Za⟩) (fun D G1 hr=>⟨Zw R R,Za⟩) (fun G1 e h'=>fB R C8 (.inl R) (fun _=>R) R),
   oQ (fun _=>[(7,.ptr 3 (n0+1) 0 0)]) (fun _=>[(3,some (.box (n0+1) 46 (Aa b1)))]) (fun D G1 hr=>⟨Zu hr 2 R R (by kernel_rfl) R R,Za⟩) (fun D G1 hr=>⟨Zw R R,Za⟩) (fun G1 e h'=>Zc (a:=rI (b1.Clock)) R AP (.inl R) R R),
   Kv (n1:=fun n=>n) R R (by intro d h; cases h; rfl) R (fun _=>[(6,rI (a1.Clock)),(8,rI (b1.Clock))]) (fun _=>[]) (fun D G1 hr=>⟨Zu hr 1 R R (by kernel_rfl) R R,Zu hr 3 R R (by kernel_rfl) R R,Za⟩) (fun D G1 hr=>Za) (fun _ _=>R) (fun G1 e h' n=>ZC (r:=rI (r1)) (caps:=[]) (bs:=[rI (a1.Clock),rI (b1.Clock)]) R (.inl R) R ⟨⟨_,(.inl R),.d R⟩,⟨_,(.inl R),.d R⟩,Za⟩ (fun _=>Ng (er1)) R),
   oQ (fun _=>[(2,.ptr 2 n0 0 0)]) (fun _=>[(2,some (.box n0 46 (Aa a1)))]) (fun D G1 hr=>⟨ZO R R,Za⟩) (fun D G1 hr=>⟨Zw R R,Za⟩) (fun G1 e h'=>fB R D8 (.inl R) (fun _=>R) R),
   oQ (fun _=>[(10,.ptr 2 n0 0 1)]) (fun _=>[(2,some (.box n0 46 (Aa a1)))]) (fun D G1 hr=>⟨Zu hr 5 R R (by kernel_rfl) R R,Za⟩) (fun D G1 hr=>⟨Zw R R,Za⟩) (fun G1 e h'=>Zc (a:=rI (a1.Site)) R AP (.inl R) R R),
   oQ (fun _=>[(3,.ptr 3 (n0+1) 0 0)]) (fun _=>[(3,some (.box (n0+1) 46 (Aa b1)))]) (fun D G1 hr=>⟨ZO R R,Za⟩) (fun D G1 hr=>⟨Zw R R,Za⟩) (fun G1 e h'=>fB R D8 (.inl R) (fun _=>R) R),
   oQ (fun _=>[(12,.ptr 3 (n0+1) 0 1)]) (fun _=>[(3,some (.box (n0+1) 46 (Aa b1)))]) (fun D G1 hr=>⟨Zu hr 7 R R (by kernel_rfl) R R,Za⟩) (fun D G1 hr=>⟨Zw R R,Za⟩) (fun G1 e h'=>Zc (a:=rI (b1.Site)) R AP (.inl R) R R),
   Za⟩) fun G1 n1=>?_
 refine BX (s':=⟨[(0,.agg (Aa a1)),(1,.agg (Aa b1)),(2,.ptr 2 n0 0 0),(3,.ptr 3 (n0+1) 0 0),(4,rI (0)),(5,.ptr 2 n0 0 0),(6,rI (a1.Clock)),(7,.ptr 3 (n0+1) 0 0),(8,rI (b1.Clock)),(9,rI (r1)),(10,.ptr 2 n0 0 1),(11,rI (a1.Site)),(12,.ptr 3 (n0+1) 0 1),(13,rI (b1.Site))],[(2,some (.box n0 46 (Aa a1))),(3,some (.box (n0+1) 46 (Aa b1)))],n1,17⟩) ?_
 refine Zk h1 fun r2 er2 h2=>(Zg R R R (ZC (r:=rI (r2)) (caps:=[]) (bs:=[rI (a1.Site),rI (b1.Site)]) R iL R ⟨⟨_,iL,.d R⟩,⟨_,iL,.d R⟩,Za⟩ (fun _=>Ng (er2)) R) (Zg R R R (BW 15 R Bl (f:=(Ad .i64)) (l:=([r1,r2]:List Int)) ⟨R,⟨_,iL,R⟩,R,⟨_,iL,R⟩,Za⟩ R (fun _=>R) R) (Zk h2 fun r3 er3 h3=>(Zg R R R (ZC (r:=rI (r3)) (caps:=[]) (bs:=[.r (.sl ([r1,r2].map (Ad .i64)))]) R iL R ⟨⟨_,iL,.one (.own R)⟩,Za⟩ (fun _=>Ql (er3)) R) (sA R R (aZ (hK2 _ ?_)))))))
 refine Zr ?_
 exact BI h3 iL (.t (.d R))
theorem LC {l1:List AD} {r:Int} (h:GP l1=some r):Aq Try.prog 15 [qa l1] (rI (r)):=by
 unfold GP at h
 refine ZJ Try.func15 R R Try.ntmps15 R (Zi R) fun n0=>?_
 refine aS fun _ hK1 _=>(aR (sA R R (aZ (hK1 _ ?_))))
 refine aS fun K2 hK2 wK2=>(aS fun _ hK3 _=>(aR (sM R R (sQ R (ZD R Ak.slice iL) (sM R R (aZ (hK3 _ ?_)))))))
 refine Zj ?_
 refine Be h fun o1 hit1 hk1 he1=>?_
 have J1 : ∀ (u2:Unit) (i5:Nat→Nat),o1 = .nrm u2→K2 ⟨[],[],(i5 0),31⟩:=by
  intro u2 i5 e
  have h1:=hk1 _ e
  refine hK2 _ ?_
  refine aS fun _ hK4 _=>(aR (sA R R (aZ (hK4 _ ?_))))
  refine Zr ?_
  exact BI h1 iL (.t (.d R))
 refine Cj (fun (x2:Int) i3=>⟨[(0,qa l1),(6,qa l1),(7,rI ((l1.length:Int))),(8,rI (x2))],[],(i3 0),31⟩) (AI [n0]) hit1 ((by exact Ze ⟨jL,jL,jL,jL,Za⟩ Za nL)) ?_
 intro x2 i3 v1 hv1 hx1
 have h2:IE l1 x2=some v1:=hv1; unfold IE at h2
 refine aS fun _ hK5 _=>(aR (sQ R (Zs R iL iL) (aZ (hK5 _ ?_))))
 refine aS fun _ hK6 _=>?_
 refine aC R (fun hc1=>?_) (fun hc1=>?_)
 ·have h3:=Zo hc1 h2
  refine Zl (hK6 _ ?_)
  refine aS fun _ hK7 _=>(Zj (aS fun _ hK8 _=>(aR (sM R R (Zk h3 fun x4 ex4 h4=>(sQ R (Zt R Ak.slice iL iL (fun _=>R) (fun _=>ex4)) (sQ R (ZH (cs:=(Aa x4)) R B1 iL R R) (Zg R R R (Bz (cs:=KA) 4 R Gy R R) (sA R R (Zz R R (ZI (ds:=(Aa x4)) R G9 iL R iL R R R R) (aZ (hK8 _ ?_))))))))))))
  refine aS fun _ hK9 _=>(aS fun _ hK10 _=>(aR (sQ R (DM R B1 iL R R) (Zk h4 fun e1 ee1 h5=>(Zg R R R (ZC (r:=rI (e1)) (caps:=[]) (bs:=(NR x4)) R iL R ⟨⟨_,iL,.g (cs:=[.int .i64 x4.Clock,.int .i64 x4.Site,.int .i64 x4.Kind,.int .i64 x4.Item,.int .i64 x4.Parent,.str x4.Place,.str x4.Name,.str x4.Value]) R R⟩,Za⟩ (fun _=>TY (ee1)) R) (sA R R (aZ (hK10 _ ?_))))))))
  refine aS fun _ hK11 _=>(aR (sM R R (sQ R (BR R iL iL) (aZ (hK11 _ ?_)))))
  refine aC R (fun hc2=>?_) (fun hc2=>?_)
  ·have h6:=Zo hc2 h5
   refine aS fun _ hK12 _=>?_
   refine aK (s':=⟨[(5,rI (e1))],[],((i3 0)+1),31⟩) ?_
   refine aR (sM R R (sA R R (aZ (hK12 _ ?_))))
   refine Zr ?_
   exact BI (he1 _ (hx1 _ (Zb h6).symm)) iL (.t (.d R))
  ·have h6:=Zp hc2 h5
   refine Zl (hK9 _ ?_)
   refine aS fun _ hK13 _=>?_
   refine aK (s':=⟨[(0,qa l1),(3,rI (x2)),(4,.ptr 4 (i3 0) 0 0),(6,qa l1),(7,rI ((l1.length:Int))),(8,rI (x2))],[(4,some (.box (i3 0) 46 (Aa x4)))],((i3 0)+1),31⟩) ?_
   refine ZQ BD (by kernel_rfl) ?_
   refine Zh R R R (Zd R iL) (Zh R R R (A7 R iL iL) (Zh R R R (Zd R iL) ?_))
   refine Zf (.one R R R) R R (Zd R iL) ?_
   refine Zf (.one R R R) R R (Zd R iL) ?_
   refine Zk h6 fun x5 ex5 h7=>?_
   refine Zf (.one R R R) R R (D0 R (iR R) iL (Ai ex5)) ?_
   refine Zk h7 fun x6 ex6 h8=>?_
   refine Zf (.one R R R) R R (Zt R Ak.slice (iR R) (iR R) (fun _=>R) (Ai ex6)) ?_
   refine Zf (.one R R R) R R (ZH (cs:=(Aa x6)) R B1 (iR R) R R) ?_
   refine Zf (.one R R R) R R (DM R B1 iL R R) ?_
   refine Zk h8 fun r1 er1 h9=>?_
   refine JN (.one R R R) R R (r:=rI (r1)) (caps:=[]) (bs:=[.agg (Aa x6),.agg (Aa x4)]) R iL R ⟨⟨_,(iR R),.g (cs:=[.int .i64 x6.Clock,.int .i64 x6.Site,.int .i64 x6.Kind,.int .i64 x6.Item,.int .i64 x6.Parent,.str x6.Place,.str x6.Name,.str x6.Value]) R R⟩,⟨_,(iR R),.g (cs:=[.int .i64 x4.Clock,.int .i64 x4.Site,.int .i64 x4.Kind,.int .i64 x4.Item,.int .i64 x4.Parent,.str x4.Place,.str x4.Name,.str x4.Value]) R R⟩,Za⟩ (fun hg=>MU (Ai er1 hg)) R ?_
   refine Zf (.one R R R) R R (Cf R (iR R) iL) ?_
   refine Zh R R R (ZB R iL (iR R)) ?_
   refine AQ.nil ?_
   refine hK13 _ ?_
   refine aC R (fun hc3=>?_) (fun hc3=>?_)
   ·have h10:=Zo hc3 h9
    refine aS fun _ hK14 _=>?_
    refine aK (s':=⟨[],[],((i3 0)+1),31⟩) ?_
    refine aR (sA R R (aZ (hK14 _ ?_)))
    refine Zr ?_
    exact BI (he1 _ (hx1 _ (Zb h10).symm)) iL (.t (.d R))
   ·have h10:=Zp hc3 h9
    refine Zl (hK7 _ ?_)
    refine aR (Zk h10 fun x7 ex7 h11=>(sQ R (ZA R iL iL (fun _=>ex7)) (sM R R ?_)))
    refine Zm ?_
    exact CB.mk h11 (AI [((i3 0)+1)]) ((by exact Ze ⟨jL,jL,jL,jL,Za⟩ Za nL))
 ·have h3:=Zp hc1 h2
  refine Zx ?_
  exact wK2 _ _ ((by exact Ze Za Za nL)) (J1 _ (AI [(i3 0)]) (hx1 _ (Zb h3).symm))
theorem MX {c1:List AC} {x1:AC} {y1:AC} {r:(List AC)} {gb1000:Nat} {ga1001:Nat} (h:GM c1 x1 y1=some r):A8 Try.prog 68 2 [.agg [.r (.str x1.Name), .r (.str x1.Value)],.agg [.r (.str y1.Name), .r (.str y1.Value)],.ptr 1000 gb1000 0 0] [(1000,some (.box gb1000 53 [.own 1001 ga1001])),(1001,some (.arr ga1001 80 2 (c1.map AC.row)))] (fun rr h'=>∃ (i:Nat→Nat),rr = .tup []∧h'=[(1000,some (.box gb1000 53 [.own 1001 (i 0)])),(1001,some (.arr (i 0) 80 2 (r.map AC.row)))]):=by
 unfold GM at h
 refine Es Try.func68 R R Try.ntmps68 (Zi R) fun n0=>?_
 refine aS fun _ hK1 _=>(aR (Zg R R R (CS (cs:=[.r (.str x1.Name), .r (.str x1.Value)]) 3 R iL R R) (Zg R R R (CS (cs:=[.r (.str y1.Name), .r (.str y1.Value)]) 4 R iL R R) (aZ (hK1 _ ?_)))))
 refine Zj (aS fun _ hK2 _=>(aR (sQ R (fB R CI iL fR R) (sQ R (Zc (a:=.r (.str y1.Name)) R Aj iL R R) (sQ R (EP R iL iL) (sA R R (aZ (hK2 _ ?_))))))))
 refine aC R (fun hc1=>?_) (fun hc1=>?_)
 ·have h1:=Zo hc1 h
  refine aR (sQ R (Zc (a:=.own 1001 ga1001) R Dk iL R R) (sQ R (DM R Bw iL R R) (Zg R R R (BW 11 R Ah (f:=AC.row) (l:=([x1]:List AC)) ⟨R,⟨_,iL,R⟩,Za⟩ R (fun _=>R) R) (Zk h1 fun l1 el1 h2=>(Zg R R R (Bg R Ah iL R (.inr (.inl ⟨_,_,iL,R⟩)) el1) (Zz R R (ZI (ds:=[.own 1001 (n0+3)]) R Gh iL R iL R R R R) ?_))))))
  refine Zm ?_
  exact CE.mk (s':=⟨[],[(1000,some (.box gb1000 53 [.own 1001 (n0+3)])),(1001,some (.arr (n0+3) 80 2 (l1.map AC.row)))],(n0+4),21⟩) ((by exact Ze Za ⟨.inl R,.inl R,Za⟩ nL)) (Cr (fun (r:(List AC)) rr h'=>∃ (i:Nat→Nat),rr = .tup []∧h'=[(1000,some (.box gb1000 53 [.own 1001 (i 0)])),(1001,some (.arr (i 0) 80 2 (r.map AC.row)))]) h2 (by exact ⟨.tup [],[(1000,some (.box gb1000 53 [.own 1001 (n0+3)])),(1001,some (.arr (n0+3) 80 2 (l1.map AC.row)))],⟨_,R,Za⟩,⟨.inr R,.inr R,Za⟩,R,R,AI [(n0+3)],R,R⟩))
 ·have h1:=Zp hc1 h
  refine aS fun _ hK3 _=>(aR (sQ R (fB R I4 iL fR R) (sQ R (Zc (a:=.r (.str y1.Value)) R Aj iL R R) (sQ R (C1 R iL iL) (sA R R (aZ (hK3 _ ?_)))))))
  refine aC R (fun hc2=>?_) (fun hc2=>?_)
  ·have h3:=Zo hc2 h1
   refine aK (s':=⟨[(2,.ptr 1000 gb1000 0 0),(4,.ptr 4 (n0+1) 0 0)],[(4,some (.box (n0+1) 80 [.r (.str y1.Name), .r (.str y1.Value)])),(1000,some (.box gb1000 53 [.own 1001 ga1001])),(1001,some (.arr ga1001 80 2 (c1.map AC.row)))],(n0+2),21⟩) ?_
   refine aR (sQ R (Zc (a:=.own 1001 ga1001) R Dk iL R R) (sQ R (DM R Bw iL R R) (Zg R R R (BW 19 R Ah (f:=AC.row) (l:=([y1]:List AC)) ⟨R,⟨_,iL,R⟩,Za⟩ R (fun _=>R) R) (Zk h3 fun l2 el2 h4=>(Zg R R R (Bg R Ah iL R (.inr (.inl ⟨_,_,iL,R⟩)) el2) (Zz R R (ZI (ds:=[.own 1001 (n0+3)]) R Gh iL R iL R R R R) ?_))))))
   refine Zm ?_
   exact CE.mk (s':=⟨[],[(1000,some (.box gb1000 53 [.own 1001 (n0+3)])),(1001,some (.arr (n0+3) 80 2 (l2.map AC.row)))],(n0+4),21⟩) ((by exact Ze Za ⟨.inl R,.inl R,Za⟩ nL)) (Cr (fun (r:(List AC)) rr h'=>∃ (i:Nat→Nat),rr = .tup []∧h'=[(1000,some (.box gb1000 53 [.own 1001 (i 0)])),(1001,some (.arr (i 0) 80 2 (r.map AC.row)))]) h4 (by exact ⟨.tup [],[(1000,some (.box gb1000 53 [.own 1001 (n0+3)])),(1001,some (.arr (n0+3) 80 2 (l2.map AC.row)))],⟨_,R,Za⟩,⟨.inr R,.inr R,Za⟩,R,R,AI [(n0+3)],R,R⟩))
  ·have h3:=Zp hc2 h1
   refine Zl ?_
   exact CE.mk (s':=⟨[],[(1000,some (.box gb1000 53 [.own 1001 ga1001])),(1001,some (.arr ga1001 80 2 (c1.map AC.row)))],(n0+2),21⟩) ((by exact Ze Za ⟨.inl R,.inl R,Za⟩ nL)) (Cr (fun (r:(List AC)) rr h'=>∃ (i:Nat→Nat),rr = .tup []∧h'=[(1000,some (.box gb1000 53 [.own 1001 (i 0)])),(1001,some (.arr (i 0) 80 2 (r.map AC.row)))]) h3 (by exact ⟨.tup [],[(1000,some (.box gb1000 53 [.own 1001 ga1001])),(1001,some (.arr ga1001 80 2 (c1.map AC.row)))],⟨_,R,Za⟩,⟨.inr R,.inr R,Za⟩,R,R,AI [ga1001],R,R⟩))
theorem SA {c1:List AC} {a1:List AC} {b1:List AC} {r:(List AC)} {gb1000:Nat} {ga1001:Nat} (h:Iw c1 a1 b1=some r):A8 Try.prog 61 2 [qb a1,qb b1,.fn 68 [.ptr 1000 gb1000 0 0]] [(1000,some (.box gb1000 53 [.own 1001 ga1001])),(1001,some (.arr ga1001 80 2 (c1.map AC.row)))] (fun rr h'=>∃ (i:Nat→Nat),rr = .tup []∧h'=[(1000,some (.box gb1000 53 [.own 1001 (i 0)])),(1001,some (.arr (i 0) 80 2 (r.map AC.row)))]):=by
 unfold Iw at h
 refine Es Try.func61 R R Try.ntmps61 (Zi R) fun n0=>?_
 refine aS fun _ hK1 _=>(aR (sA R R (sA R R (aZ (hK1 _ ?_)))))
 refine Zj ?_
 refine Be h fun o4 hit1 hk1 he1=>?_
 refine F9 (fun (i4:Int) (j2:Int) (o2:List AC) i5=>⟨[(0,qb a1),(1,qb b1),(2,.fn 68 [.ptr 1000 gb1000 0 0]),(6,rI (i4)),(7,rI (j2))],[(1000,some (.box gb1000 53 [.own 1001 (i5 0)])),(1001,some (.arr (i5 0) 80 2 (o2.map AC.row)))],(i5 1),92⟩) (AI [ga1001,n0]) hit1 ((by exact Ze ⟨jL,jL,jL,jL,jL,Za⟩ ⟨.inl R,.inl R,Za⟩ nL)) ?_
 intro i4 j2 o2 i5 v1 hv1 hx1
 have h1:Is a1 b1 i4 j2 o2=some v1:=hv1; unfold Is at h1
 refine aS fun _ hK2 _=>(aS fun _ hK3 _=>(aR (sM R R (sM R R (sQ R (ZD R Ah.slice iL) (sQ R (Zs R iL iL) (sM R R (sV R R R (Zd R iL) (sV R R R (Zd R iL) (sV R R R (ZD R Ah.slice (iR R)) (sV R R R (Zs R (iR R) (iR R)) (sQ R (ZF R iL (iR R)) (aZ (hK3 _ ?_))))))))))))))
 refine aC R (fun hc1=>?_) (fun hc1=>?_)
 ·have h2:=Zo hc1 h1
  refine Zl (hK2 _ ?_)
  refine Zj (Zj (aS fun _ hK4 _=>?_))
  refine ZQ BD (by kernel_rfl) ?_
  refine Zh R R R (Zd R iL) (Zh R R R (Zd R iL) (Zh R R R (ZD R Ah.slice iL) (Zh R R R (ZM R iL iL) (Zh R R R (Zd R iL) ?_))))
  refine Zf (.one R R R) R R (Zd R iL) ?_
  refine Zf (.one R R R) R R (Zd R iL) ?_
  refine Zf (.one R R R) R R (ZD R Ah.slice (iR R)) ?_
  refine Zf (.one R R R) R R (Zs R (iR R) (iR R)) ?_
  refine Zf (.one R R R) R R (Zd R (iR R)) ?_
  refine Zf (.two R R R) R R (Zd R iL) ?_
  refine Zf (.two R R R) R R (Zd R iL) ?_
  refine Zk h2 fun x1 ex1 h3=>?_
  refine Zf (.two R R R) R R (Zt R Ah.slice (iR R) (iR R) (fun _=>R) (Ai ex1)) ?_
  refine Zf (.two R R R) R R (Zn R CI (iR R)) ?_
  refine Zf (.two R R R) R R (Zy (d:=.str x1.Name) R Aj (iR R) R) ?_
  refine Zf (.two R R R) R R (Zd R iL) ?_
  refine Zf (.two R R R) R R (Zd R iL) ?_
  refine Zk h3 fun x2 ex2 h4=>?_
  refine Zf (.two R R R) R R (Zt R Ah.slice (iR R) (iR R) (fun _=>R) (Ai ex2)) ?_
  refine Zf (.two R R R) R R (Zn R CI (iR R)) ?_
  refine Zf (.two R R R) R R (Zy (d:=.str x2.Name) R Aj (iR R) R) ?_
  refine Zf (.two R R R) R R (HH R (iR R) (iR R)) ?_
  refine Zf (.one R R R) R R (ZB R (iR R) (iR R)) ?_
  refine Zh R R R (ZF R iL (iR R)) (Zh R R R (CZ R iL) ?_)
  refine AQ.nil ?_
  refine hK4 _ ?_
  refine aC R (fun hc2=>?_) (fun hc2=>?_)
  ·have h5:=Zo hc2 h4
   refine aS fun _ hK5 _=>?_
   refine aK (s':=⟨[(0,qb a1),(1,qb b1),(2,.fn 68 [.ptr 1000 gb1000 0 0]),(6,rI (i4)),(7,rI (j2))],[(1000,some (.box gb1000 53 [.own 1001 (i5 0)])),(1001,some (.arr (i5 0) 80 2 (o2.map AC.row)))],(i5 1),92⟩) ?_
   refine aR (sM R R (sM R R (sM R R (Zk h5 fun x3 ex3 h6=>(sQ R (Zt R Ah.slice iL iL (fun _=>R) (fun _=>ex3)) (sQ R (ZH (cs:=[.r (.str x3.Name), .r (.str x3.Value)]) R Bw iL R R) ?_))))))
   refine sQ R (CX R FS (q:=[]) (by exact Za) (cs:=[.r (.str []),.r (.str [])]) (by rfl)) ?_
   refine Zk h6 fun w1 ew1 h7=>?_
   refine CH [1000,1001] (hc:=[(1000,some (.box gb1000 53 [.own 1001 (i5 0)])),(1001,some (.arr (i5 0) 80 2 (o2.map AC.row)))]) (bs:=[.agg [.r (.str x3.Name), .r (.str x3.Value)],.agg [.r (.str []),.r (.str [])]]) (caps:=[.ptr 1000 gb1000 0 0]) R R R R iL R ⟨.inl ⟨iL,R⟩,.inl ⟨iL,R⟩,Za⟩ ⟨R,R,R,R,R,R,Za⟩ (by decide) (MX ew1) ?_
   intro i8 n1
   refine BX (s':=⟨[(0,qb a1),(1,qb b1),(2,.fn 68 [.ptr 1000 gb1000 0 0]),(6,rI (i4)),(7,rI (j2)),(56,.fn 68 [.ptr 1000 gb1000 0 0]),(57,qb a1),(58,rI (i4)),(59,.rop (AC.row x3) 0),(60,.agg [.r (.str x3.Name), .r (.str x3.Value)]),(61,.agg [.r (.str []),.r (.str [])]),(62,.tup [])],[(1000,some (.box gb1000 53 [.own 1001 (i8 0)])),(1001,some (.arr (i8 0) 80 2 (w1.map AC.row)))],n1,92⟩) ?_
   refine aZ (hK5 _ ?_)
   refine aR (sM R R (Zk h7 fun i9 ei9 h8=>(sQ R (ZA R iL iL (fun _=>ei9)) (sA R R ?_))))
   refine Zm ?_
   exact Cq.mk h8 (AI [(i8 0),n1]) ((by exact Ze ⟨jL,jL,jL,jL,jL,Za⟩ ⟨.inl R,.inl R,Za⟩ nL))
  ·have h5:=Zp hc2 h4
   refine aS fun _ hK6 _=>?_
   refine aK (s':=⟨[(0,qb a1),(1,qb b1),(2,.fn 68 [.ptr 1000 gb1000 0 0]),(6,rI (i4)),(7,rI (j2))],[(1000,some (.box gb1000 53 [.own 1001 (i5 0)])),(1001,some (.arr (i5 0) 80 2 (o2.map AC.row)))],(i5 1),92⟩) ?_
   refine ZQ BD (by kernel_rfl) ?_
   refine Zh R R R (Zd R iL) (Zh R R R (Zd R iL) (Zh R R R (ZD R Ah.slice iL) (Zh R R R (ZM R iL iL) (Zh R R R (Zd R iL) ?_))))
   refine Zf (.one R R R) R R (Zd R iL) ?_
   refine Zf (.one R R R) R R (Zd R iL) ?_
   refine Zk h5 fun x4 ex4 h9=>?_
   refine Zf (.one R R R) R R (Zt R Ah.slice (iR R) (iR R) (fun _=>R) (Ai ex4)) ?_
   refine Zf (.one R R R) R R (Zn R CI (iR R)) ?_
   refine Zf (.one R R R) R R (Zy (d:=.str x4.Name) R Aj (iR R) R) ?_
   refine Zf (.one R R R) R R (Zd R iL) ?_
   refine Zf (.one R R R) R R (Zd R iL) ?_
   refine Zk h9 fun x5 ex5 h10=>?_
   refine Zf (.one R R R) R R (Zt R Ah.slice (iR R) (iR R) (fun _=>R) (Ai ex5)) ?_
   refine Zf (.one R R R) R R (Zn R CI (iR R)) ?_
   refine Zf (.one R R R) R R (Zy (d:=.str x5.Name) R Aj (iR R) R) ?_
   refine Zf (.one R R R) R R (HH R (iR R) (iR R)) ?_
   refine Zh R R R (ZF R iL (iR R)) (Zh R R R (CZ R iL) ?_)
   refine AQ.nil ?_
   refine hK6 _ ?_
   refine aC R (fun hc3=>?_) (fun hc3=>?_)
   ·have h11:=Zo hc3 h10
    refine aS fun _ hK7 _=>(aR (sM R R ?_))
    refine sQ R (CX R FS (q:=[]) (by exact Za) (cs:=[.r (.str []),.r (.str [])]) (by rfl)) ?_
    refine sM R R (sM R R (Zk h11 fun x6 ex6 h12=>(sQ R (Zt R Ah.slice iL iL (fun _=>R) (fun _=>ex6)) (sQ R (ZH (cs:=[.r (.str x6.Name), .r (.str x6.Value)]) R Bw iL R R) (Zk h12 fun w2 ew2 h13=>?_)))))
    refine CH [1000,1001] (hc:=[(1000,some (.box gb1000 53 [.own 1001 (i5 0)])),(1001,some (.arr (i5 0) 80 2 (o2.map AC.row)))]) (bs:=[.agg [.r (.str []),.r (.str [])],.agg [.r (.str x6.Name), .r (.str x6.Value)]]) (caps:=[.ptr 1000 gb1000 0 0]) R R R R iL R ⟨.inl ⟨iL,R⟩,.inl ⟨iL,R⟩,Za⟩ ⟨R,R,R,R,R,R,Za⟩ (by decide) (MX ew2) ?_
    intro i10 n2
    refine BX (s':=⟨[(0,qb a1),(1,qb b1),(2,.fn 68 [.ptr 1000 gb1000 0 0]),(6,rI (i4)),(7,rI (j2)),(65,rB (((decide (i4=(a1.length:Int))) || (Ae x4.Name x5.Name)))),(66,rI (i4)),(67,qb a1),(68,rI ((a1.length:Int))),(69,rB ((decide (i4=(a1.length:Int))))),(70,rB ((decide (i4=(a1.length:Int))))),(82,rB (((decide (i4=(a1.length:Int))) || (Ae x4.Name x5.Name)))),(83,.fn 68 [.ptr 1000 gb1000 0 0]),(84,.agg [.r (.str []),.r (.str [])]),(85,qb b1),(86,rI (j2)),(87,.rop (AC.row x6) 0),(88,.agg [.r (.str x6.Name), .r (.str x6.Value)]),(89,.tup [])],[(1000,some (.box gb1000 53 [.own 1001 (i10 0)])),(1001,some (.arr (i10 0) 80 2 (w2.map AC.row)))],n2,92⟩) ?_
    refine aZ (hK7 _ ?_)
    refine aK (s':=⟨[(0,qb a1),(1,qb b1),(2,.fn 68 [.ptr 1000 gb1000 0 0]),(6,rI (i4)),(7,rI (j2))],[(1000,some (.box gb1000 53 [.own 1001 (i10 0)])),(1001,some (.arr (i10 0) 80 2 (w2.map AC.row)))],n2,92⟩) ?_
    refine aR (sM R R (Zk h13 fun j4 ej4 h14=>(sQ R (ZA R iL iL (fun _=>ej4)) (sA R R ?_))))
    refine Zm ?_
    exact Cq.mk h14 (AI [(i10 0),n2]) ((by exact Ze ⟨jL,jL,jL,jL,jL,Za⟩ ⟨.inl R,.inl R,Za⟩ nL))
   ·have h11:=Zp hc3 h10
    refine aS fun _ hK8 _=>?_
    refine Mu 9 BD (by kernel_rfl) R R ?_
    refine AT.step R R R (Zd R iL) ?_
    refine AT.step R R R (Zd R iL) ?_
    refine AT.step R R R (Zd R iL) ?_
    refine Zk h11 fun x7 ex7 h15=>?_
    refine AT.step R R R (Zt R Ah.slice iL iL (fun _=>R) (fun _=>ex7)) ?_
    refine AT.step R R R (ZH (cs:=[.r (.str x7.Name), .r (.str x7.Value)]) R Bw iL R R) ?_
    refine AT.step R R R (Zd R iL) ?_
    refine AT.step R R R (Zd R iL) ?_
    refine Zk h15 fun x8 ex8 h16=>?_
    refine AT.step R R R (Zt R Ah.slice iL iL (fun _=>R) (fun _=>ex8)) ?_
    refine AT.step R R R (ZH (cs:=[.r (.str x8.Name), .r (.str x8.Value)]) R Bw iL R R) ?_
    refine AT.nil ?_
    refine Zk h16 fun w3 ew3 h17=>?_
    refine CH [1000,1001] (hc:=[(1000,some (.box gb1000 53 [.own 1001 (i5 0)])),(1001,some (.arr (i5 0) 80 2 (o2.map AC.row)))]) (bs:=[.agg [.r (.str x7.Name), .r (.str x7.Value)],.agg [.r (.str x8.Name), .r (.str x8.Value)]]) (caps:=[.ptr 1000 gb1000 0 0]) R R R R iL R ⟨.inl ⟨iL,R⟩,.inl ⟨iL,R⟩,Za⟩ ⟨R,R,R,R,R,R,Za⟩ (by decide) (MX ew3) ?_
    intro i11 n3
    refine BX (s':=⟨[(0,qb a1),(1,qb b1),(2,.fn 68 [.ptr 1000 gb1000 0 0]),(6,rI (i4)),(7,rI (j2)),(18,.fn 68 [.ptr 1000 gb1000 0 0]),(19,qb a1),(20,rI (i4)),(21,.rop (AC.row x7) 0),(22,.agg [.r (.str x7.Name), .r (.str x7.Value)]),(23,qb b1),(24,rI (j2)),(25,.rop (AC.row x8) 0),(26,.agg [.r (.str x8.Name), .r (.str x8.Value)]),(27,.tup []),(65,rB (((decide (i4=(a1.length:Int))) || (Ae x4.Name x5.Name)))),(66,rI (i4)),(67,qb a1),(68,rI ((a1.length:Int))),(69,rB ((decide (i4=(a1.length:Int))))),(70,rB ((decide (i4=(a1.length:Int))))),(82,rB (((decide (i4=(a1.length:Int))) || (Ae x4.Name x5.Name))))],[(1000,some (.box gb1000 53 [.own 1001 (i11 0)])),(1001,some (.arr (i11 0) 80 2 (w3.map AC.row)))],n3,92⟩) ?_
    refine aZ (hK8 _ ?_)
    refine aK (s':=⟨[(0,qb a1),(1,qb b1),(2,.fn 68 [.ptr 1000 gb1000 0 0]),(6,rI (i4)),(7,rI (j2))],[(1000,some (.box gb1000 53 [.own 1001 (i11 0)])),(1001,some (.arr (i11 0) 80 2 (w3.map AC.row)))],n3,92⟩) ?_
    refine aR (sM R R (Zk h17 fun i12 ei12 h18=>(sQ R (ZA R iL iL (fun _=>ei12)) (sM R R (Zk h18 fun j5 ej5 h19=>(sQ R (ZA R iL iL (fun _=>ej5)) (sA R R (sA R R ?_))))))))
    refine Zm ?_
    exact Cq.mk h19 (AI [(i11 0),n3]) ((by exact Ze ⟨jL,jL,jL,jL,jL,Za⟩ ⟨.inl R,.inl R,Za⟩ nL))
 ·have h2:=Zp hc1 h1
  refine Zx ?_
  exact CE.mk (s':=⟨[],[(1000,some (.box gb1000 53 [.own 1001 (i5 0)])),(1001,some (.arr (i5 0) 80 2 (o2.map AC.row)))],(i5 1),92⟩) ((by exact Ze Za ⟨.inl R,.inl R,Za⟩ nL)) (Cr (fun (r:(List AC)) rr h'=>∃ (i:Nat→Nat),rr = .tup []∧h'=[(1000,some (.box gb1000 53 [.own 1001 (i 0)])),(1001,some (.arr (i 0) 80 2 (r.map AC.row)))]) (he1 _ (hx1 _ (Zb h2).symm)) (by exact ⟨.tup [],[(1000,some (.box gb1000 53 [.own 1001 (i5 0)])),(1001,some (.arr (i5 0) 80 2 (o2.map AC.row)))],⟨_,R,Za⟩,⟨.inr R,.inr R,Za⟩,R,R,AI [(i5 0)],R,R⟩))
theorem Sl {l1:List AC} {change1:List AC} {r:(List AC)} (h:HP l1 change1=some r):Aq Try.prog 56 [qb l1,qb change1] (qb r):=by
 unfold HP at h
 refine ZJ Try.func56 R R Try.ntmps56 R (Zi R) fun n0=>?_
 refine aS fun _ hK1 _=>(aR (sA R R (aZ (hK1 _ ?_))))
 refine aS fun _ hK2 _=>(aR (Zg R R R (Bz (cs:=[cZ]) 5 R Hv R R) (aZ (hK2 _ ?_))))
 refine aS fun _ hK3 _=>(aR (sM R R (sM R R ?_)))
 refine sQ R (Ii (bs:=[.ptr 5 n0 0 0]) R (by exact ⟨iL,Za⟩)) ?_
 refine AS.weak (ZG (Ku 5 0 3050 80 2 (by decide) R R (by decide)) (by exact Ze (e':=[(0,qb l1),(1,qb change1),(4,cZ),(5,.ptr 5 n0 0 0),(6,qb l1),(7,qb change1),(8,.fn 68 [.ptr 5 n0 0 0])]) (h':=[(5,some (.box n0 53 [.own 3050 (n0+1)])),(3050,some (.arr (n0+1) 80 2 (([]:List AC).map AC.row)))]) ⟨jL,jL,jL,jL,jL,jL,jL,Za⟩ ⟨.inl R,.inl R,Za⟩ nL)) ?_
 refine Zk h fun w1 ew1 h1=>?_
 refine CH [5,3050] (hc:=[(1000,some (.box n0 53 [.own 1001 (n0+1)])),(1001,some (.arr (n0+1) 80 2 (([]:List AC).map AC.row)))]) (bs:=[qb l1,qb change1,.fn 68 [.ptr 1000 n0 0 0]]) (caps:=[]) R R R R iL R ⟨.inl ⟨iL,R⟩,.inl ⟨iL,R⟩,.inl ⟨iL,R⟩,Za⟩ ⟨R,R,R,R,R,R,Za⟩ (by decide) (SA ew1) ?_
 intro i1 n1
 refine BX (s':=⟨[(0,qb l1),(1,qb change1),(4,cZ),(5,.ptr 5 n0 0 0),(6,qb l1),(7,qb change1),(8,.fn 68 [.ptr 5 n0 0 0]),(9,.tup [])],[(5,some (.box n0 53 [.own 3050 (i1 0)])),(3050,some (.arr (i1 0) 80 2 (w1.map AC.row)))],n1,11⟩) ?_
 refine aZ (hK3 _ ?_)
 refine aS fun _ hK4 _=>(aR (sQ R (Zc (a:=.own 3050 (i1 0)) R Dk iL R R) (sA R R (aZ (hK4 _ ?_)))))
 refine Zr ?_
 exact Dl (P:=Try.prog) (fun (r:(List AC))=>qb r) h1 iL (.t (.one (.own R)))
theorem Q6 {m1:List (Int × AB)} {m2:List (Int × (List AC))} {item1:Int} {top1:Int} {r:Bool} {gb1000:Nat} {gb1001:Nat} {gw1001:Nat} {gb1002:Nat} (h:JA m1 m2 item1 top1=some r):A8 Try.prog 57 3 [.ptr 1000 gb1000 0 0,rI (item1),rI (top1)] [(1000,some (.box gb1000 76 [.mref 1001 gb1001,.mref 1002 gb1002])),(1001,some (.mb gb1001 gw1001 55 (AE AB.row m1))),(1002,some (.md gb1002 (AE (fun (l:List AC)=>RV.sl (l.map AC.row)) m2)))] (fun rr h'=>∃ (i:Nat→Nat),rr=rB (r)∧h'=[(1000,some (.box gb1000 76 [.mref 1001 gb1001,.mref 1002 gb1002])),(1001,some (.mb gb1001 gw1001 55 (AE AB.row m1))),(1002,some (.md gb1002 (AE (fun (l:List AC)=>RV.sl (l.map AC.row)) m2)))]):=by
 unfold JA at h
 refine Es Try.func57 R R Try.ntmps57 (Zi R) fun n0=>?_
 refine aS fun _ hK1 _=>(aR (sA R R (aZ (hK1 _ ?_))))
 refine aS fun K2 hK2 wK2=>(Zj ?_)
 refine Be h fun o1 hit1 hk1 he1=>?_
 have J1 : ∀ (u2:Unit) (i5:Nat→Nat),o1 = .nrm u2→K2 ⟨[],[(1000,some (.box gb1000 76 [.mref 1001 gb1001,.mref 1002 gb1002])),(1001,some (.mb gb1001 gw1001 55 (AE AB.row m1))),(1002,some (.md gb1002 (AE (fun (l:List AC)=>RV.sl (l.map AC.row)) m2)))],(i5 0),29⟩:=by
  intro u2 i5 e
  have h1:=hk1 _ e
  refine hK2 _ ?_
  refine aS fun _ hK3 _=>(aR (sA R R (aZ (hK3 _ ?_))))
  refine Zr ?_
  exact CE.mk (s':=⟨[(6,rB (false))],[(1000,some (.box gb1000 76 [.mref 1001 gb1001,.mref 1002 gb1002])),(1001,some (.mb gb1001 gw1001 55 (AE AB.row m1))),(1002,some (.md gb1002 (AE (fun (l:List AC)=>RV.sl (l.map AC.row)) m2)))],(i5 0),29⟩) ((by exact Ze ⟨jL,Za⟩ ⟨.inl R,.inl R,.inl R,Za⟩ nL)) (Cr (fun (r:Bool) rr h'=>∃ (i:Nat→Nat),rr=rB (r)∧h'=[(1000,some (.box gb1000 76 [.mref 1001 gb1001,.mref 1002 gb1002])),(1001,some (.mb gb1001 gw1001 55 (AE AB.row m1))),(1002,some (.md gb1002 (AE (fun (l:List AC)=>RV.sl (l.map AC.row)) m2)))]) h1 (by exact ⟨rB (false),[(1000,some (.box gb1000 76 [.mref 1001 gb1001,.mref 1002 gb1002])),(1001,some (.mb gb1001 gw1001 55 (AE AB.row m1))),(1002,some (.md gb1002 (AE (fun (l:List AC)=>RV.sl (l.map AC.row)) m2)))],R,⟨.inr R,.inr R,.inr R,Za⟩,R,R,AI [],R,R⟩))
 refine Cj (fun (item3:Int) i3=>⟨[(0,.ptr 1000 gb1000 0 0),(1,rI (item3)),(2,rI (top1))],[(1000,some (.box gb1000 76 [.mref 1001 gb1001,.mref 1002 gb1002])),(1001,some (.mb gb1001 gw1001 55 (AE AB.row m1))),(1002,some (.md gb1002 (AE (fun (l:List AC)=>RV.sl (l.map AC.row)) m2)))],(i3 0),29⟩) (AI [n0]) hit1 ((by exact Ze ⟨jL,jL,jL,Za⟩ ⟨.inl R,.inl R,.inl R,Za⟩ nL)) ?_
 intro item3 i3 v1 hv1 hx1
 have h2:EU m1 top1 item3=some v1:=hv1; unfold EU at h2
 refine aS fun _ hK4 _=>(aS fun _ hK5 _=>(aR (sM R R (sQ R (A7 R iL iL) (aZ (hK5 _ ?_))))))
 refine aC R (fun hc1=>?_) (fun hc1=>?_)
 ·have h3:=Zo hc1 h2
  refine Zl (hK4 _ ?_)
  refine Zj (aS fun _ hK6 _=>(aS fun _ hK7 _=>(aR (sM R R (sM R R (sQ R (ZM R iL iL) (aZ (hK7 _ ?_))))))))
  refine aC R (fun hc2=>?_) (fun hc2=>?_)
  ·have h4:=Zo hc2 h3
   refine aS fun _ hK8 _=>(aR (sA R R (aZ (hK8 _ ?_))))
   refine Zr ?_
   exact CE.mk (s':=⟨[(6,rB (true))],[(1000,some (.box gb1000 76 [.mref 1001 gb1001,.mref 1002 gb1002])),(1001,some (.mb gb1001 gw1001 55 (AE AB.row m1))),(1002,some (.md gb1002 (AE (fun (l:List AC)=>RV.sl (l.map AC.row)) m2)))],(i3 0),29⟩) ((by exact Ze ⟨jL,Za⟩ ⟨.inl R,.inl R,.inl R,Za⟩ nL)) (Cr (fun (r:Bool) rr h'=>∃ (i:Nat→Nat),rr=rB (r)∧h'=[(1000,some (.box gb1000 76 [.mref 1001 gb1001,.mref 1002 gb1002])),(1001,some (.mb gb1001 gw1001 55 (AE AB.row m1))),(1002,some (.md gb1002 (AE (fun (l:List AC)=>RV.sl (l.map AC.row)) m2)))]) (he1 _ (hx1 _ (Zb h4).symm)) (by exact ⟨rB (true),[(1000,some (.box gb1000 76 [.mref 1001 gb1001,.mref 1002 gb1002])),(1001,some (.mb gb1001 gw1001 55 (AE AB.row m1))),(1002,some (.md gb1002 (AE (fun (l:List AC)=>RV.sl (l.map AC.row)) m2)))],R,⟨.inr R,.inr R,.inr R,Za⟩,R,R,AI [],R,R⟩))
  ·have h4:=Zp hc2 h3
   refine Zl (hK6 _ ?_)
   refine aS fun _ hK9 _=>(aR (sM R R (sQ R (ZL (ob:=.box _ _ _) R iL fR R) (sQ R (fB R Ft iL fR R) (sQ R (Zc (a:=.mref 1001 gb1001) R FZ iL R R) (sM R R (sQ R (KE true R Try.underlying73 Try.underlying3 (Fk Kj) (.inl rfl) (.inl rfl) R) (sM R R (sQ R (ZE (a:=.pk 1001 gb1001 gw1001 (At m1 item3) 0) R iL R) (sQ R (ZE (a:=rB (((AK m1 item3).isSome))) R iL R) (sA R R (sA R R (aZ (hK9 _ ?_))))))))))))))
   refine aS fun _ hK10 _=>(aS fun _ hK11 _=>?_)
   refine aK (s':=⟨[(0,.ptr 1000 gb1000 0 0),(2,rI (top1)),(7,.pk 1001 gb1001 gw1001 (At m1 item3) 0),(8,rB (((AK m1 item3).isSome)))],[(1000,some (.box gb1000 76 [.mref 1001 gb1001,.mref 1002 gb1002])),(1001,some (.mb gb1001 gw1001 55 (AE AB.row m1))),(1002,some (.md gb1002 (AE (fun (l:List AC)=>RV.sl (l.map AC.row)) m2)))],(i3 0),29⟩) ?_
   refine aR (sM R R (sQ R (Bh R iL) (aZ (hK11 _ ?_))))
   refine aC R (fun hc3=>?_) (fun hc3=>?_)
   ·have h5:=Zo hc3 h4
    refine aS fun _ hK12 _=>(aR (sA R R (aZ (hK12 _ ?_))))
    refine Zr ?_
    exact CE.mk (s':=⟨[(6,rB (false))],[(1000,some (.box gb1000 76 [.mref 1001 gb1001,.mref 1002 gb1002])),(1001,some (.mb gb1001 gw1001 55 (AE AB.row m1))),(1002,some (.md gb1002 (AE (fun (l:List AC)=>RV.sl (l.map AC.row)) m2)))],(i3 0),29⟩) ((by exact Ze ⟨jL,Za⟩ ⟨.inl R,.inl R,.inl R,Za⟩ nL)) (Cr (fun (r:Bool) rr h'=>∃ (i:Nat→Nat),rr=rB (r)∧h'=[(1000,some (.box gb1000 76 [.mref 1001 gb1001,.mref 1002 gb1002])),(1001,some (.mb gb1001 gw1001 55 (AE AB.row m1))),(1002,some (.md gb1002 (AE (fun (l:List AC)=>RV.sl (l.map AC.row)) m2)))]) (he1 _ (hx1 _ (Zb h5).symm)) (by exact ⟨rB (false),[(1000,some (.box gb1000 76 [.mref 1001 gb1001,.mref 1002 gb1002])),(1001,some (.mb gb1001 gw1001 55 (AE AB.row m1))),(1002,some (.md gb1002 (AE (fun (l:List AC)=>RV.sl (l.map AC.row)) m2)))],R,⟨.inr R,.inr R,.inr R,Za⟩,R,R,AI [],R,R⟩))
   ·have h5:=Zp hc3 h4
    refine Zl (hK10 _ ?_)
    refine aR (sM R R (Zk h5 fun x1 ex1 h6=>(sQ R (IF R (.inl rfl) R R (fun _=>ex1)) (sQ R (Jx R Ca (.inl rfl) R R (fun _=>ex1)) (sQ R (KB (a:=x1) (d:=.int .i64 x1.Parent) R AP (.inl rfl) R R (fun _=>ex1) R) (sA R R ?_))))))
    refine Zm ?_
    exact CB.mk h6 (AI [(i3 0)]) ((by exact Ze ⟨jL,jL,jL,Za⟩ ⟨.inl R,.inl R,.inl R,Za⟩ nL))
 ·have h3:=Zp hc1 h2
  refine Zx ?_
  exact wK2 _ _ ((by exact Ze Za ⟨.inl R,.inl R,.inl R,Za⟩ nL)) (J1 _ (AI [(i3 0)]) (hx1 _ (Zb h3).symm))
theorem PK {l1:List AD} {r:(List (Int × AB)) × (List (Int × (List AC)))} (h:DR l1=some r):A8 Try.prog 37 3 [qa l1] [] (fun rr h'=>∃ (i:Nat→Nat),rr = .ptr 1000 (i 0) 0 0∧h'=[(1000,some (.box (i 0) 76 [.mref 1001 (i 1),.mref 1002 (i 3)])),(1001,some (.mb (i 1) (i 2) 55 (AE AB.row r.1))),(1002,some (.md (i 3) (AE (fun (l:List AC)=>RV.sl (l.map AC.row)) r.2)))]):=by
 unfold DR at h
 refine Es Try.func37 R R Try.ntmps37 (Zi R) fun n0=>?_
 refine aS fun _ hK1 _=>(aR (sA R R (aZ (hK1 _ ?_))))
 refine aS fun _ hK2 _=>(aR (Zg R R R (SB AB.row 1001 55 R) (Zg R R R (LQ (fun (l:List AC)=>RV.sl (l.map AC.row)) 1002 R) ?_)))
 refine sQ R (CX R Np (q:=[(0,_),(1,_)]) (by exact ⟨R,R,R,iL,R,R,R,iL,Za⟩) (cs:=[.mref 1001 n0,.mref 1002 (n0+1)]) (by rfl)) ?_
 refine Zg R R R (CS (cs:=[.mref 1001 n0,.mref 1002 (n0+1)]) 1000 R iL R R) (sA R R (aZ (hK2 _ ?_)))
 refine aS fun K3 hK3 wK3=>(aS fun _ hK4 _=>(aR (sM R R (sQ R (ZD R Ak.slice iL) (sM R R (aZ (hK4 _ ?_)))))))
 refine Zj ?_
 refine FQ h fun o1 hit1 hk1=>?_
 have J1 : ∀ (m7:List (Int × AB)) (m8:List (Int × (List AC))) (i5:Nat→Nat),o1=(m7,m8)→K3 ⟨[(3,.ptr 1000 (n0+2) 0 0)],[(1000,some (.box (n0+2) 76 [.mref 1001 n0,.mref 1002 (n0+1)])),(1001,some (.mb n0 (i5 0) 55 (AE AB.row m7))),(1002,some (.md (n0+1) (AE (fun (l:List AC)=>RV.sl (l.map AC.row)) m8)))],(i5 1),64⟩:=by
  intro m7 m8 i5 e
  have h1:=hk1 _ _ e
  refine hK3 _ ?_
  refine aS fun _ hK5 _=>(aR (sM R R (sA R R (aZ (hK5 _ ?_)))))
  refine Zr ?_
  exact CE.mk (s':=⟨[(2,.ptr 1000 (n0+2) 0 0)],[(1000,some (.box (n0+2) 76 [.mref 1001 n0,.mref 1002 (n0+1)])),(1001,some (.mb n0 (i5 0) 55 (AE AB.row m7))),(1002,some (.md (n0+1) (AE (fun (l:List AC)=>RV.sl (l.map AC.row)) m8)))],(i5 1),64⟩) ((by exact Ze ⟨jL,Za⟩ ⟨.inl R,.inl R,.inl R,Za⟩ nL)) (Cr (fun (r:(List (Int × AB)) × (List (Int × (List AC)))) rr h'=>∃ (i:Nat→Nat),rr = .ptr 1000 (i 0) 0 0∧h'=[(1000,some (.box (i 0) 76 [.mref 1001 (i 1),.mref 1002 (i 3)])),(1001,some (.mb (i 1) (i 2) 55 (AE AB.row r.1))),(1002,some (.md (i 3) (AE (fun (l:List AC)=>RV.sl (l.map AC.row)) r.2)))]) h1 (by exact ⟨.ptr 1000 (n0+2) 0 0,[(1000,some (.box (n0+2) 76 [.mref 1001 n0,.mref 1002 (n0+1)])),(1001,some (.mb n0 (i5 0) 55 (AE AB.row m7))),(1002,some (.md (n0+1) (AE (fun (l:List AC)=>RV.sl (l.map AC.row)) m8)))],R,⟨.inr R,.inr R,.inr R,Za⟩,R,R,AI [(n0+2),n0,(i5 0),(n0+1)],R,R⟩))
 refine F9 (fun (x2:Int) (m3:List (Int × AB)) (m4:List (Int × (List AC))) i3=>⟨[(3,.ptr 1000 (n0+2) 0 0),(10,qa l1),(11,rI ((l1.length:Int))),(12,rI (x2))],[(1000,some (.box (n0+2) 76 [.mref 1001 n0,.mref 1002 (n0+1)])),(1001,some (.mb n0 (i3 0) 55 (AE AB.row m3))),(1002,some (.md (n0+1) (AE (fun (l:List AC)=>RV.sl (l.map AC.row)) m4)))],(i3 1),64⟩) (AI [n0,(n0+3)]) hit1 ((by exact Ze ⟨jL,jL,jL,jL,Za⟩ ⟨.inl R,.inl R,.inl R,Za⟩ nL)) ?_
 intro x2 m3 m4 i3 v1 hv1 hx1
 have h2:Dd l1 x2 m3 m4=some v1:=hv1; unfold Dd at h2
 refine aS fun _ hK6 _=>(aR (sQ R (Zs R iL iL) (aZ (hK6 _ ?_))))
 refine aS fun _ hK7 _=>?_
 refine aC R (fun hc1=>?_) (fun hc1=>?_)
 ·have h3:=Zo hc1 h2
  refine Zl (hK7 _ ?_)
  refine aS fun K8 hK8 wK8=>(Zj ?_)
  refine FQ h3 fun p1 hp1 hk2=>?_
  have J2 : ∀ (m9:List (Int × AB)) (m10:List (Int × (List AC))) (i6:Nat→Nat),p1=(m9,m10)→K8 ⟨[(3,.ptr 1000 (n0+2) 0 0),(10,qa l1),(11,rI ((l1.length:Int))),(12,rI (x2))],[(1000,some (.box (n0+2) 76 [.mref 1001 n0,.mref 1002 (n0+1)])),(1001,some (.mb n0 (i6 0) 55 (AE AB.row m9))),(1002,some (.md (n0+1) (AE (fun (l:List AC)=>RV.sl (l.map AC.row)) m10)))],(i6 1),64⟩:=by
   intro m9 m10 i6 e
   have h4:=hk2 _ _ e
   refine hK8 _ ?_
   refine aR (Zk h4 fun x4 ex4 h5=>(sQ R (ZA R iL iL (fun _=>ex4)) (sM R R ?_)))
   refine Zm ?_
   exact Cq.mk h5 (AI [(i6 0),(i6 1)]) ((by exact Ze ⟨jL,jL,jL,jL,Za⟩ ⟨.inl R,.inl R,.inl R,Za⟩ nL))
  refine aS fun _ hK9 _=>(aR (Zk hp1 fun x5 ex5 h6=>(sQ R (Zt R Ak.slice iL iL (fun _=>R) (fun _=>ex5)) (sQ R (ZH (cs:=(Aa x5)) R B1 iL R R) (Zg R R R (Bz (cs:=KA) 5 R Gy R R) (Zz R R (ZI (ds:=(Aa x5)) R G9 iL R iL R R R R) (aZ (hK9 _ ?_))))))))
  refine Zj (aS fun _ hK10 _=>(aR (sQ R (fB R B3 iL fR R) (sQ R (Zc (a:=rI (x5.Kind)) R AP iL R R) (sQ R (ZM R iL iL) (sA R R (aZ (hK10 _ ?_))))))))
  refine aC R (fun hc2=>?_) (fun hc2=>?_)
  ·have h7:=Zo hc2 h6
   refine Zk h7 fun r1 er1 h8=>?_
   refine FR 20 [⟨some 20,(fun _=>.ptr 1000 (n0+2) 0 0),none,[]⟩,⟨some 21,(fun _=>.ptr 1000 (n0+2) 0 0),none,[]⟩,⟨some 22,(fun _=>.ptr 1000 (n0+2) 0 1),none,[]⟩,⟨some 23,(fun _=>.mref 1002 (n0+1)),none,[]⟩,⟨some 24,(fun _=>.ptr 5 (i3 1) 0 3),none,[]⟩,⟨some 25,(fun _=>rI (x5.Item)),none,[]⟩,⟨some 26,(fun _=>.ptr 1000 (n0+2) 0 0),none,[]⟩,⟨some 27,(fun _=>.ptr 1000 (n0+2) 0 0),none,[]⟩,⟨some 28,(fun _=>.ptr 1000 (n0+2) 0 1),none,[]⟩,⟨some 29,(fun _=>.mref 1002 (n0+1)),none,[]⟩,⟨some 30,(fun _=>.ptr 5 (i3 1) 0 3),none,[]⟩,⟨some 31,(fun _=>rI (x5.Item)),none,[]⟩,⟨some 32,(fun _=>.r (.sl (((AK m4 x5.Item).getD []).map AC.row))),none,[]⟩,⟨some 33,(fun _=>.ptr 5 (i3 1) 0 6),none,[]⟩,⟨some 34,(fun _=>.r (.str x5.Name)),none,[]⟩,⟨some 35,(fun _=>.ptr 5 (i3 1) 0 7),none,[]⟩,⟨some 36,(fun _=>.r (.str x5.Value)),none,[]⟩,⟨some 37,(fun _=>.agg [.r (.str x5.Name), .r (.str x5.Value)]),none,[]⟩,⟨some 38,(fun _=>.r (.sl ([(AC.mk x5.Name x5.Value)].map AC.row))),some (38,(fun _=>none)),[]⟩,⟨some 39,(fun _=>qb r1),none,[]⟩] BD (by kernel_rfl) (by exact ⟨fun _ _ h=>⟨R,fun _ _ e=>by cases e⟩,fun _ _ h=>⟨R,fun _ _ e=>by cases e⟩,fun _ _ h=>⟨R,fun _ _ e=>by cases e⟩,fun _ _ h=>⟨R,fun _ _ e=>by cases e⟩,fun _ _ h=>⟨R,fun _ _ e=>by cases e⟩,fun _ _ h=>⟨R,fun _ _ e=>by cases e⟩,fun _ _ h=>⟨R,fun _ _ e=>by cases e⟩,fun _ _ h=>⟨R,fun _ _ e=>by cases e⟩,fun _ _ h=>⟨R,fun _ _ e=>by cases e⟩,fun _ _ h=>⟨R,fun _ _ e=>by cases e⟩,fun _ _ h=>⟨R,fun _ _ e=>by cases e⟩,fun _ _ h=>⟨R,fun _ _ e=>by cases e⟩,fun _ _ h=>⟨R,fun _ _ e=>by cases e⟩,fun _ _ h=>⟨R,fun _ _ e=>by cases e⟩,fun _ _ h=>⟨R,fun _ _ e=>by cases e⟩,fun _ _ h=>⟨R,fun _ _ e=>by cases e⟩,fun _ _ h=>⟨R,fun _ _ e=>by cases e⟩,fun _ _ h=>⟨R,fun _ _ e=>by cases e⟩,fun _ _ h=>⟨R,fun _ _ e=>by cases e; rfl⟩,fun _ _ h=>⟨R,fun _ _ e=>by cases e⟩,Za⟩) R (by exact ⟨oQ (fun _=>[(3,.ptr 1000 (n0+2) 0 0)]) (fun _=>[(1000,some (.box (n0+2) 76 [.mref 1001 n0,.mref 1002 (n0+1)]))]) (fun D G1 hr=>⟨ZO R R,Za⟩) (fun D G1 hr=>⟨Zw R R,Za⟩) (fun G1 e h'=>Zd R (.inl R)),
     oQ (fun _=>[(20,.ptr 1000 (n0+2) 0 0)]) (fun _=>[(1000,some (.box (n0+2) 76 [.mref 1001 n0,.mref 1002 (n0+1)]))]) (fun D G1 hr=>⟨Zu hr 0 R R (by kernel_rfl) R R,Za⟩) (fun D G1 hr=>⟨Zw R R,Za⟩) (fun G1 e h'=>ZL (ob:=.box _ _ _) R (.inl R) (fun _=>R) R),
     oQ (fun _=>[(21,.ptr 1000 (n0+2) 0 0)]) (fun _=>[(1000,some (.box (n0+2) 76 [.mref 1001 n0,.mref 1002 (n0+1)]))]) (fun D G1 hr=>⟨Zu hr 1 R R (by kernel_rfl) R R,Za⟩) (fun D G1 hr=>⟨Zw R R,Za⟩) (fun G1 e h'=>fB R Gb (.inl R) (fun _=>R) R),
     oQ (fun _=>[(22,.ptr 1000 (n0+2) 0 1)]) (fun _=>[(1000,some (.box (n0+2) 76 [.mref 1001 n0,.mref 1002 (n0+1)]))]) (fun D G1 hr=>⟨Zu hr 2 R R (by kernel_rfl) R R,Za⟩) (fun D G1 hr=>⟨Zw R R,Za⟩) (fun G1 e h'=>Zc (a:=.mref 1002 (n0+1)) R Gp (.inl R) R R),
     oQ (fun _=>[(5,.ptr 5 (i3 1) 0 0)]) (fun _=>[(5,some (.box (i3 1) 46 (Aa x5)))]) (fun D G1 hr=>⟨ZO R R,Za⟩) (fun D G1 hr=>⟨Zw R R,Za⟩) (fun G1 e h'=>fB R B8 (.inl R) (fun _=>R) R),
     oQ (fun _=>[(24,.ptr 5 (i3 1) 0 3)]) (fun _=>[(5,some (.box (i3 1) 46 (Aa x5)))]) (fun D G1 hr=>⟨Zu hr 4 R R (by kernel_rfl) R R,Za⟩) (fun D G1 hr=>⟨Zw R R,Za⟩) (fun G1 e h'=>Zc (a:=rI (x5.Item)) R AP (.inl R) R R),
     oQ (fun _=>[(3,.ptr 1000 (n0+2) 0 0)]) (fun _=>[(1000,some (.box (n0+2) 76 [.mref 1001 n0,.mref 1002 (n0+1)]))]) (fun D G1 hr=>⟨ZO R R,Za⟩) (fun D G1 hr=>⟨Zw R R,Za⟩) (fun G1 e h'=>Zd R (.inl R)),
     oQ (fun _=>[(26,.ptr 1000 (n0+2) 0 0)]) (fun _=>[(1000,some (.box (n0+2) 76 [.mref 1001 n0,.mref 1002 (n0+1)]))]) (fun D G1 hr=>⟨Zu hr 6 R R (by kernel_rfl) R R,Za⟩) (fun D G1 hr=>⟨Zw R R,Za⟩) (fun G1 e h'=>ZL (ob:=.box _ _ _) R (.inl R) (fun _=>R) R),
     oQ (fun _=>[(27,.ptr 1000 (n0+2) 0 0)]) (fun _=>[(1000,some (.box (n0+2) 76 [.mref 1001 n0,.mref 1002 (n0+1)]))]) (fun D G1 hr=>⟨Zu hr 7 R R (by kernel_rfl) R R,Za⟩) (fun D G1 hr=>⟨Zw R R,Za⟩) (fun G1 e h'=>fB R Gb (.inl R) (fun _=>R) R),
     oQ (fun _=>[(28,.ptr 1000 (n0+2) 0 1)]) (fun _=>[(1000,some (.box (n0+2) 76 [.mref 1001 n0,.mref 1002 (n0+1)]))]) (fun D G1 hr=>⟨Zu hr 8 R R (by kernel_rfl) R R,Za⟩) (fun D G1 hr=>⟨Zw R R,Za⟩) (fun G1 e h'=>Zc (a:=.mref 1002 (n0+1)) R Gp (.inl R) R R),
     oQ (fun _=>[(5,.ptr 5 (i3 1) 0 0)]) (fun _=>[(5,some (.box (i3 1) 46 (Aa x5)))]) (fun D G1 hr=>⟨ZO R R,Za⟩) (fun D G1 hr=>⟨Zw R R,Za⟩) (fun G1 e h'=>fB R B8 (.inl R) (fun _=>R) R),
     oQ (fun _=>[(30,.ptr 5 (i3 1) 0 3)]) (fun _=>[(5,some (.box (i3 1) 46 (Aa x5)))]) (fun D G1 hr=>⟨Zu hr 10 R R (by kernel_rfl) R R,Za⟩) (fun D G1 hr=>⟨Zw R R,Za⟩) (fun G1 e h'=>Zc (a:=rI (x5.Item)) R AP (.inl R) R R),
     oQ (fun _=>[(29,.mref 1002 (n0+1)),(31,rI (x5.Item))]) (fun _=>[(1002,some (.md (n0+1) (AE (fun (l:List AC)=>RV.sl (l.map AC.row)) m4)))]) (fun D G1 hr=>⟨Zu hr 9 R R (by kernel_rfl) R R,Zu hr 11 R R (by kernel_rfl) R R,Za⟩) (fun D G1 hr=>⟨Zw R R,Za⟩) (fun G1 e h'=>Ji (rd:=(fun (l:List AC)=>RV.sl (l.map AC.row))) false (.slice none 0 0) [] R Try.underlying74 Try.underlying3 (Fk Hv) (fun _ _=>.snil) (.inl R) (.inl R) R),
     oQ (fun _=>[(5,.ptr 5 (i3 1) 0 0)]) (fun _=>[(5,some (.box (i3 1) 46 (Aa x5)))]) (fun D G1 hr=>⟨ZO R R,Za⟩) (fun D G1 hr=>⟨Zw R R,Za⟩) (fun G1 e h'=>fB R GS (.inl R) (fun _=>R) R),
     oQ (fun _=>[(33,.ptr 5 (i3 1) 0 6)]) (fun _=>[(5,some (.box (i3 1) 46 (Aa x5)))]) (fun D G1 hr=>⟨Zu hr 13 R R (by kernel_rfl) R R,Za⟩) (fun D G1 hr=>⟨Zw R R,Za⟩) (fun G1 e h'=>Zc (a:=.r (.str x5.Name)) R Aj (.inl R) R R),
     oQ (fun _=>[(5,.ptr 5 (i3 1) 0 0)]) (fun _=>[(5,some (.box (i3 1) 46 (Aa x5)))]) (fun D G1 hr=>⟨ZO R R,Za⟩) (fun D G1 hr=>⟨Zw R R,Za⟩) (fun G1 e h'=>fB R E5 (.inl R) (fun _=>R) R),
     oQ (fun _=>[(35,.ptr 5 (i3 1) 0 7)]) (fun _=>[(5,some (.box (i3 1) 46 (Aa x5)))]) (fun D G1 hr=>⟨Zu hr 15 R R (by kernel_rfl) R R,Za⟩) (fun D G1 hr=>⟨Zw R R,Za⟩) (fun G1 e h'=>Zc (a:=.r (.str x5.Value)) R Aj (.inl R) R R),
     oQ (fun _=>[(34,.r (.str x5.Name)),(36,.r (.str x5.Value))]) (fun _=>[]) (fun D G1 hr=>⟨Zu hr 14 R R (by kernel_rfl) R R,Zu hr 16 R R (by kernel_rfl) R R,Za⟩) (fun D G1 hr=>Za) (fun G1 e h'=>CX R FS (q:=[(0,_),(1,_)]) (by exact ⟨R,R,R,(.inl R),R,R,R,(.inl R),Za⟩) (cs:=[.r (.str x5.Name), .r (.str x5.Value)]) (by rfl)),
     Pq R R (by intro d h; cases h; rfl) R (fun _=>[(37,.agg [.r (.str x5.Name), .r (.str x5.Value)])]) (fun _=>[]) (fun D G1 hr=>⟨Zu hr 17 R R (by kernel_rfl) R R,Za⟩) (fun D G1 hr=>Za) (fun G1 e h' n=>Ds.frz (A9.toN (BW 38 R Ah (f:=AC.row) (l:=([(AC.mk x5.Name x5.Value)]:List AC)) ⟨R,⟨_,(.inl R),R⟩,Za⟩ R (fun _=>R) R))),
     Kv (n1:=fun n=>n) R R (by intro d h; cases h; rfl) R (fun _=>[(32,.r (.sl (((AK m4 x5.Item).getD []).map AC.row))),(38,.r (.sl ([(AC.mk x5.Name x5.Value)].map AC.row)))]) (fun _=>[]) (fun D G1 hr=>⟨Zu hr 12 R R (by kernel_rfl) R R,Zu hr 18 R R (by kernel_rfl) R R,Za⟩) (fun D G1 hr=>Za) (fun _ _=>R) (fun G1 e h' n=>B4 (r:=qb r1) (caps:=[]) (bs:=[.r (.sl (((AK m4 x5.Item).getD []).map AC.row)),.r (.sl ([(AC.mk x5.Name x5.Value)].map AC.row))]) R (.inl R) R ⟨.inl ⟨(.inl R),R⟩,.inl ⟨(.inl R),R⟩,Za⟩ (fun _=>Sl (er1))),
     Za⟩) fun G1 n1=>?_
   refine BX (s':=⟨[(3,.ptr 1000 (n0+2) 0 0),(5,.ptr 5 (i3 1) 0 0),(10,qa l1),(11,rI ((l1.length:Int))),(12,rI (x2)),(13,rB ((decide (x2<(l1.length:Int))))),(14,.rop (AD.row x5) 0),(15,.agg (Aa x5)),(16,rB ((decide (x5.Kind=1)))),(17,.ptr 5 (i3 1) 0 2),(18,rI (x5.Kind)),(19,rB ((decide (x5.Kind=1)))),(20,.ptr 1000 (n0+2) 0 0),(21,.ptr 1000 (n0+2) 0 0),(22,.ptr 1000 (n0+2) 0 1),(23,.mref 1002 (n0+1)),(24,.ptr 5 (i3 1) 0 3),(25,rI (x5.Item)),(26,.ptr 1000 (n0+2) 0 0),(27,.ptr 1000 (n0+2) 0 0),(28,.ptr 1000 (n0+2) 0 1),(29,.mref 1002 (n0+1)),(30,.ptr 5 (i3 1) 0 3),(31,rI (x5.Item)),(32,.r (.sl (((AK m4 x5.Item).getD []).map AC.row))),(33,.ptr 5 (i3 1) 0 6),(34,.r (.str x5.Name)),(35,.ptr 5 (i3 1) 0 7),(36,.r (.str x5.Value)),(37,.agg [.r (.str x5.Name), .r (.str x5.Value)]),(38,.r (.sl ([(AC.mk x5.Name x5.Value)].map AC.row))),(39,qb r1)],[(5,some (.box (i3 1) 46 (Aa x5))),(1000,some (.box (n0+2) 76 [.mref 1001 n0,.mref 1002 (n0+1)])),(1001,some (.mb n0 (i3 0) 55 (AE AB.row m3))),(1002,some (.md (n0+1) (AE (fun (l:List AC)=>RV.sl (l.map AC.row)) m4)))],n1,64⟩) ?_
   refine Zz R R (KI (rd:=(fun (l:List AC)=>RV.sl (l.map AC.row))) (a:=r1) (.inl rfl) Try.underlying74 Try.underlying3 (.inl rfl) (.inl rfl) (.inl rfl) R) ?_
   refine Zm ?_
   exact wK8 _ _ ((by exact Ze ⟨jL,jL,jL,jL,Za⟩ ⟨.inl R,.inl R,.inl R,Za⟩ nL)) (J2 _ _ (AI [(i3 0),n1]) (Zb h8).symm)
  ·have h7:=Zp hc2 h6
   refine aS fun _ hK11 _=>(aR (sM R R (sQ R (fB R DC iL fR R) (sQ R (Zc (a:=rI (x5.Parent)) R AP iL R R) (sQ R (fB R B8 iL fR R) (sQ R (Zc (a:=rI (x5.Item)) R AP iL R R) (Zk h7 fun r2 er2 h9=>?_)))))))
   refine CH [1000,1001,1002] (hc:=[(1000,some (.box (n0+2) 76 [.mref 1001 n0,.mref 1002 (n0+1)])),(1001,some (.mb n0 (i3 0) 55 (AE AB.row m3))),(1002,some (.md (n0+1) (AE (fun (l:List AC)=>RV.sl (l.map AC.row)) m4)))]) (bs:=[.ptr 1000 (n0+2) 0 0,rI (x5.Parent),rI (x5.Item)]) (caps:=[]) R R R R iL R ⟨.inl ⟨iL,R⟩,.inl ⟨iL,R⟩,.inl ⟨iL,R⟩,Za⟩ ⟨R,R,R,R,R,R,R,R,R,Za⟩ (by decide) (Q6 er2) ?_
   intro i7 n2
   refine BX (s':=⟨[(3,.ptr 1000 (n0+2) 0 0),(5,.ptr 5 (i3 1) 0 0),(10,qa l1),(11,rI ((l1.length:Int))),(12,rI (x2)),(13,rB ((decide (x2<(l1.length:Int))))),(14,.rop (AD.row x5) 0),(15,.agg (Aa x5)),(16,rB ((decide (x5.Kind=1)))),(17,.ptr 5 (i3 1) 0 2),(18,rI (x5.Kind)),(19,rB ((decide (x5.Kind=1)))),(41,.ptr 1000 (n0+2) 0 0),(42,.ptr 5 (i3 1) 0 4),(43,rI (x5.Parent)),(44,.ptr 5 (i3 1) 0 3),(45,rI (x5.Item)),(46,rB (r2))],[(5,some (.box (i3 1) 46 (Aa x5))),(1000,some (.box (n0+2) 76 [.mref 1001 n0,.mref 1002 (n0+1)])),(1001,some (.mb n0 (i3 0) 55 (AE AB.row m3))),(1002,some (.md (n0+1) (AE (fun (l:List AC)=>RV.sl (l.map AC.row)) m4)))],n2,64⟩) ?_
   refine sQ R (Bh R iL) (sA R R (aZ (hK11 _ ?_)))
   refine aC R (fun hc3=>?_) (fun hc3=>?_)
   ·have h10:=Zo hc3 h9
    refine aK (s':=⟨[(3,.ptr 1000 (n0+2) 0 0),(5,.ptr 5 (i3 1) 0 0),(10,qa l1),(11,rI ((l1.length:Int))),(12,rI (x2))],[(5,some (.box (i3 1) 46 (Aa x5))),(1000,some (.box (n0+2) 76 [.mref 1001 n0,.mref 1002 (n0+1)])),(1001,some (.mb n0 (i3 0) 55 (AE AB.row m3))),(1002,some (.md (n0+1) (AE (fun (l:List AC)=>RV.sl (l.map AC.row)) m4)))],n2,64⟩) ?_
    refine Ks [] [0,1,2,3,4,5,6,7,8,9,10,11,12] [13] 14 BD (by kernel_rfl) R R R R R ?_
    refine DZ.nil ?_
    refine ZN R R R (Zd R iL) ?_
    refine ZN R R R (ZL (ob:=.box _ _ _) R iL fR R) ?_
    refine ZN R R R (fB R Ft iL fR R) ?_
    refine ZN R R R (Zc (a:=.mref 1001 n0) R FZ iL R R) ?_
    refine ZN R R R (fB R B8 iL fR R) ?_
    refine ZN R R R (Zc (a:=rI (x5.Item)) R AP iL R R) ?_
    refine ZN R R R (fB R B8 iL fR R) ?_
    refine ZN R R R (Zc (a:=rI (x5.Item)) R AP iL R R) ?_
    refine ZN R R R (fB R DC iL fR R) ?_
    refine ZN R R R (Zc (a:=rI (x5.Parent)) R AP iL R R) ?_
    refine ZN R R R (fB R FY iL fR R) ?_
    refine ZN R R R (Zc (a:=.r (.str x5.Place)) R Aj iL R R) ?_
    refine ZN R R R (CX R Iu (q:=[(0,_),(1,_),(2,_)]) (by exact ⟨R,R,R,iL,R,R,R,iL,R,R,R,iL,Za⟩) (cs:=[rI (x5.Item),rI (x5.Parent),.r (.str x5.Place),cZ]) (by rfl)) ?_
    refine AF.nil ?_
    refine AA.step R R R (NJ (cs:=[rI (x5.Item),rI (x5.Parent),.r (.str x5.Place),cZ]) 61 R iL R R) ?_
    refine AA.nil ?_
    refine AS.weak (by exact Ze (e':=[(3,.ptr 1000 (n0+2) 0 0),(5,.ptr 5 (i3 1) 0 0),(10,qa l1),(11,rI ((l1.length:Int))),(12,rI (x2)),(48,.ptr 1000 (n0+2) 0 0),(49,.ptr 1000 (n0+2) 0 0),(50,.ptr 1000 (n0+2) 0 0),(51,.mref 1001 n0),(52,.ptr 5 (i3 1) 0 3),(53,rI (x5.Item)),(54,.ptr 5 (i3 1) 0 3),(55,rI (x5.Item)),(56,.ptr 5 (i3 1) 0 4),(57,rI (x5.Parent)),(58,.ptr 5 (i3 1) 0 5),(59,.r (.str x5.Place)),(60,.agg [rI (x5.Item),rI (x5.Parent),.r (.str x5.Place),cZ]),(61,.ptr 61 n2 0 0)]) (h':=[(5,some (.box (i3 1) 46 (Aa x5))),(61,some (.box n2 55 [rI (x5.Item),rI (x5.Parent),.r (.str x5.Place),.r (.sl [])])),(1000,some (.box (n0+2) 76 [.mref 1001 n0,.mref 1002 (n0+1)])),(1001,some (.mb n0 (i3 0) 55 (AE AB.row m3))),(1002,some (.md (n0+1) (AE (fun (l:List AC)=>RV.sl (l.map AC.row)) m4)))]) ⟨jL,jL,jL,jL,jL,jL,jL,jL,jL,jL,jL,jL,jL,jL,jL,jL,jL,jL,jL,Za⟩ ⟨.inl R,.inr (.inr ⟨_,_,_,_,R,R,⟨.inl R,.inl R,.inl R,.inr (.inr ⟨R,R⟩),Za⟩⟩),.inl R,.inl R,.inl R,Za⟩ nL) ?_
    refine Zz R R (UV (a:=(AB.mk x5.Item x5.Parent x5.Place [])) (.inl rfl) Try.underlying73 Try.underlying3 (.inl rfl) (.inl rfl) (.inl rfl) R R) ?_
    refine Zm ?_
    exact wK8 _ _ ((by exact Ze ⟨jL,jL,jL,jL,Za⟩ ⟨.inl R,.inl R,.inl R,Za⟩ nL)) (J2 _ _ (AI [(n2+1),(n2+2)]) (Zb h10).symm)
   ·have h10:=Zp hc3 h9
    refine Zl ?_
    exact wK8 _ _ ((by exact Ze ⟨jL,jL,jL,jL,Za⟩ ⟨.inl R,.inl R,.inl R,Za⟩ nL)) (J2 _ _ (AI [(i3 0),n2]) (Zb h10).symm)
 ·have h3:=Zp hc1 h2
  refine Zx ?_
  exact wK3 _ _ ((by exact Ze ⟨jL,Za⟩ ⟨.inl R,.inl R,.inl R,Za⟩ nL)) (J1 _ _ (AI [(i3 0),(i3 1)]) (hx1 _ (Zb h3).symm))
theorem S6 {self:(List (Int × AB))→(List (Int × (List AC)))→(List (Int × Bool))→(List AB)→Int→Option ((List (Int × Bool)) × (List AB))} (hself : ∀ {m1:List (Int × AB)} {m2:List (Int × (List AC))} {m3:List (Int × Bool)} {c1:List AB} {id1:Int} {r:(List (Int × Bool)) × (List AB)} {gb1000:Nat} {gb1001:Nat} {gb1002:Nat} {gw1002:Nat} {gb1003:Nat} {gb1004:Nat} {gb1005:Nat} {gb1006:Nat} {gb1007:Nat} {ga1008:Nat},self m1 m2 m3 c1 id1=some r→A8 Try.prog 58 9 [rI (id1),.ptr 1000 gb1000 0 0,.ptr 1004 gb1004 0 0,.ptr 1006 gb1006 0 0,.ptr 1007 gb1007 0 0] [(1000,some (.box gb1000 67 [.ptr 1001 gb1001 0 0])),(1001,some (.box gb1001 76 [.mref 1002 gb1002,.mref 1003 gb1003])),(1002,some (.mb gb1002 gw1002 55 (AE AB.row m1))),(1003,some (.md gb1003 (AE (fun (l:List AC)=>RV.sl (l.map AC.row)) m2))),(1004,some (.box gb1004 63 [.mref 1005 gb1005])),(1005,some (.md gb1005 (AE RV.bool m3))),(1006,some (.box gb1006 83 [.fn 58 [.ptr 1000 gb1000 0 0,.ptr 1004 gb1004 0 0,.ptr 1006 gb1006 0 0,.ptr 1007 gb1007 0 0]])),(1007,some (.box gb1007 24 [.own 1008 ga1008])),(1008,some (.arr ga1008 55 4 (c1.map AB.row)))] (fun rr h'=>∃ (i:Nat→Nat),rr = .tup []∧h'=[(1000,some (.box gb1000 67 [.ptr 1001 gb1001 0 0])),(1001,some (.box gb1001 76 [.mref 1002 gb1002,.mref 1003 gb1003])),(1002,some (.mb gb1002 gw1002 55 (AE AB.row m1))),(1003,some (.md gb1003 (AE (fun (l:List AC)=>RV.sl (l.map AC.row)) m2))),(1004,some (.box gb1004 63 [.mref 1005 gb1005])),(1005,some (.md gb1005 (AE RV.bool r.1))),(1006,some (.box gb1006 83 [.fn 58 [.ptr 1000 gb1000 0 0,.ptr 1004 gb1004 0 0,.ptr 1006 gb1006 0 0,.ptr 1007 gb1007 0 0]])),(1007,some (.box gb1007 24 [.own 1008 (i 0)])),(1008,some (.arr (i 0) 55 4 (r.2.map AB.row)))])) {m1:List (Int × AB)} {m2:List (Int × (List AC))} {m3:List (Int × Bool)} {c1:List AB} {id1:Int} {r:(List (Int × Bool)) × (List AB)} {gb1000:Nat} {gb1001:Nat} {gb1002:Nat} {gw1002:Nat} {gb1003:Nat} {gb1004:Nat} {gb1005:Nat} {gb1006:Nat} {gb1007:Nat} {ga1008:Nat} (h:Fw self m1 m2 m3 c1 id1=some r):A8 Try.prog 58 9 [rI (id1),.ptr 1000 gb1000 0 0,.ptr 1004 gb1004 0 0,.ptr 1006 gb1006 0 0,.ptr 1007 gb1007 0 0] [(1000,some (.box gb1000 67 [.ptr 1001 gb1001 0 0])),(1001,some (.box gb1001 76 [.mref 1002 gb1002,.mref 1003 gb1003])),(1002,some (.mb gb1002 gw1002 55 (AE AB.row m1))),(1003,some (.md gb1003 (AE (fun (l:List AC)=>RV.sl (l.map AC.row)) m2))),(1004,some (.box gb1004 63 [.mref 1005 gb1005])),(1005,some (.md gb1005 (AE RV.bool m3))),(1006,some (.box gb1006 83 [.fn 58 [.ptr 1000 gb1000 0 0,.ptr 1004 gb1004 0 0,.ptr 1006 gb1006 0 0,.ptr 1007 gb1007 0 0]])),(1007,some (.box gb1007 24 [.own 1008 ga1008])),(1008,some (.arr ga1008 55 4 (c1.map AB.row)))] (fun rr h'=>∃ (i:Nat→Nat),rr = .tup []∧h'=[(1000,some (.box gb1000 67 [.ptr 1001 gb1001 0 0])),(1001,some (.box gb1001 76 [.mref 1002 gb1002,.mref 1003 gb1003])),(1002,some (.mb gb1002 gw1002 55 (AE AB.row m1))),(1003,some (.md gb1003 (AE (fun (l:List AC)=>RV.sl (l.map AC.row)) m2))),(1004,some (.box gb1004 63 [.mref 1005 gb1005])),(1005,some (.md gb1005 (AE RV.bool r.1))),(1006,some (.box gb1006 83 [.fn 58 [.ptr 1000 gb1000 0 0,.ptr 1004 gb1004 0 0,.ptr 1006 gb1006 0 0,.ptr 1007 gb1007 0 0]])),(1007,some (.box gb1007 24 [.own 1008 (i 0)])),(1008,some (.arr (i 0) 55 4 (r.2.map AB.row)))]):=by
 unfold Fw at h
 refine Es Try.func58 R R Try.ntmps58 (Zi R) fun n0=>?_
 refine aS fun _ hK1 _=>(aR (sQ R (Zc (a:=.ptr 1001 gb1001 0 0) R M8 iL R R) (sQ R (ZL (ob:=.box _ _ _) R iL fR R) (sQ R (fB R Ft iL fR R) (sQ R (Zc (a:=.mref 1002 gb1002) R FZ iL R R) (sM R R (sQ R (KE true R Try.underlying73 Try.underlying3 (Fk Kj) (.inl rfl) (.inl rfl) R) (sM R R (sQ R (ZE (a:=.pk 1002 gb1002 gw1002 (At m1 id1) 0) R iL R) (sQ R (ZE (a:=rB (((AK m1 id1).isSome))) R iL R) (sA R R (sA R R (aZ (hK1 _ ?_))))))))))))))
 refine aS fun _ hK2 _=>(aS fun _ hK3 _=>?_)
 refine aK (s':=⟨[(0,rI (id1)),(2,.ptr 1004 gb1004 0 0),(3,.ptr 1006 gb1006 0 0),(4,.ptr 1007 gb1007 0 0),(6,.pk 1002 gb1002 gw1002 (At m1 id1) 0),(7,rB (((AK m1 id1).isSome)))],[(1000,some (.box gb1000 67 [.ptr 1001 gb1001 0 0])),(1001,some (.box gb1001 76 [.mref 1002 gb1002,.mref 1003 gb1003])),(1002,some (.mb gb1002 gw1002 55 (AE AB.row m1))),(1003,some (.md gb1003 (AE (fun (l:List AC)=>RV.sl (l.map AC.row)) m2))),(1004,some (.box gb1004 63 [.mref 1005 gb1005])),(1005,some (.md gb1005 (AE RV.bool m3))),(1006,some (.box gb1006 83 [.fn 58 [.ptr 1000 gb1000 0 0,.ptr 1004 gb1004 0 0,.ptr 1006 gb1006 0 0,.ptr 1007 gb1007 0 0]])),(1007,some (.box gb1007 24 [.own 1008 ga1008])),(1008,some (.arr ga1008 55 4 (c1.map AB.row)))],n0,38⟩) ?_
 refine aR (sM R R (sQ R (Bh R iL) (sM R R (sV R R R (Zc (a:=.mref 1005 gb1005) R Jh iL R R) (sV R R R (Zd R iL) (sV R R R (Ji (rd:=RV.bool) false (.bool false) false R Try.underlying63 Try.underlying3 (Fk RQ) (fun _ _=>.bool _) (iR R) (iR R) R) (sQ R (ZF R iL (iR R)) (aZ (hK3 _ ?_)))))))))
 refine aC R (fun hc1=>?_) (fun hc1=>?_)
 ·have h1:=Zo hc1 h
  refine Zr ?_
  exact CE.mk (s':=⟨[],[(1000,some (.box gb1000 67 [.ptr 1001 gb1001 0 0])),(1001,some (.box gb1001 76 [.mref 1002 gb1002,.mref 1003 gb1003])),(1002,some (.mb gb1002 gw1002 55 (AE AB.row m1))),(1003,some (.md gb1003 (AE (fun (l:List AC)=>RV.sl (l.map AC.row)) m2))),(1004,some (.box gb1004 63 [.mref 1005 gb1005])),(1005,some (.md gb1005 (AE RV.bool m3))),(1006,some (.box gb1006 83 [.fn 58 [.ptr 1000 gb1000 0 0,.ptr 1004 gb1004 0 0,.ptr 1006 gb1006 0 0,.ptr 1007 gb1007 0 0]])),(1007,some (.box gb1007 24 [.own 1008 ga1008])),(1008,some (.arr ga1008 55 4 (c1.map AB.row)))],n0,38⟩) ((by exact Ze Za ⟨.inl R,.inl R,.inl R,.inl R,.inl R,.inl R,.inl R,.inl R,.inl R,Za⟩ nL)) (Cr (fun (r:(List (Int × Bool)) × (List AB)) rr h'=>∃ (i:Nat→Nat),rr = .tup []∧h'=[(1000,some (.box gb1000 67 [.ptr 1001 gb1001 0 0])),(1001,some (.box gb1001 76 [.mref 1002 gb1002,.mref 1003 gb1003])),(1002,some (.mb gb1002 gw1002 55 (AE AB.row m1))),(1003,some (.md gb1003 (AE (fun (l:List AC)=>RV.sl (l.map AC.row)) m2))),(1004,some (.box gb1004 63 [.mref 1005 gb1005])),(1005,some (.md gb1005 (AE RV.bool r.1))),(1006,some (.box gb1006 83 [.fn 58 [.ptr 1000 gb1000 0 0,.ptr 1004 gb1004 0 0,.ptr 1006 gb1006 0 0,.ptr 1007 gb1007 0 0]])),(1007,some (.box gb1007 24 [.own 1008 (i 0)])),(1008,some (.arr (i 0) 55 4 (r.2.map AB.row)))]) h1 (by exact ⟨.tup [],[(1000,some (.box gb1000 67 [.ptr 1001 gb1001 0 0])),(1001,some (.box gb1001 76 [.mref 1002 gb1002,.mref 1003 gb1003])),(1002,some (.mb gb1002 gw1002 55 (AE AB.row m1))),(1003,some (.md gb1003 (AE (fun (l:List AC)=>RV.sl (l.map AC.row)) m2))),(1004,some (.box gb1004 63 [.mref 1005 gb1005])),(1005,some (.md gb1005 (AE RV.bool m3))),(1006,some (.box gb1006 83 [.fn 58 [.ptr 1000 gb1000 0 0,.ptr 1004 gb1004 0 0,.ptr 1006 gb1006 0 0,.ptr 1007 gb1007 0 0]])),(1007,some (.box gb1007 24 [.own 1008 ga1008])),(1008,some (.arr ga1008 55 4 (c1.map AB.row)))],⟨_,R,Za⟩,⟨.inr R,.inr R,.inr R,.inr R,.inr R,.inr R,.inr R,.inr R,.inr R,Za⟩,R,R,AI [ga1008],R,R⟩))
 ·have h1:=Zp hc1 h
  refine Zl (hK2 _ ?_)
  refine aS fun _ hK4 _=>(aR (sQ R (Zc (a:=.mref 1005 gb1005) R Jh iL R R) (sM R R (Zz R R (KI (rd:=RV.bool) (a:=true) (.inl rfl) Try.underlying63 Try.underlying3 (.inl rfl) (.inl rfl) (.inl rfl) R) (aZ (hK4 _ ?_))))))
  refine aS fun _ hK5 _=>?_
  refine aK (s':=⟨[(3,.ptr 1006 gb1006 0 0),(4,.ptr 1007 gb1007 0 0),(6,.pk 1002 gb1002 gw1002 (At m1 id1) 0)],[(1000,some (.box gb1000 67 [.ptr 1001 gb1001 0 0])),(1001,some (.box gb1001 76 [.mref 1002 gb1002,.mref 1003 gb1003])),(1002,some (.mb gb1002 gw1002 55 (AE AB.row m1))),(1003,some (.md gb1003 (AE (fun (l:List AC)=>RV.sl (l.map AC.row)) m2))),(1004,some (.box gb1004 63 [.mref 1005 gb1005])),(1005,some (.md gb1005 (AE RV.bool (Aw m3 id1 true)))),(1006,some (.box gb1006 83 [.fn 58 [.ptr 1000 gb1000 0 0,.ptr 1004 gb1004 0 0,.ptr 1006 gb1006 0 0,.ptr 1007 gb1007 0 0]])),(1007,some (.box gb1007 24 [.own 1008 ga1008])),(1008,some (.arr ga1008 55 4 (c1.map AB.row)))],n0,38⟩) ?_
  refine Mu 5 BD (by kernel_rfl) R R ?_
  refine AT.step R R R (Zc (a:=.fn 58 [.ptr 1000 gb1000 0 0,.ptr 1004 gb1004 0 0,.ptr 1006 gb1006 0 0,.ptr 1007 gb1007 0 0]) R KR iL R R) ?_
  refine AT.step R R R (Zd R iL) ?_
  refine Zk h1 fun x1 ex1 h2=>?_
  refine AT.step R R R (IF R (.inl rfl) R R (fun _=>ex1)) ?_
  refine AT.step R R R (Jx R Ca (.inl rfl) R R (fun _=>ex1)) ?_
  refine AT.step R R R (KB (a:=x1) (d:=.int .i64 x1.Parent) R AP (.inl rfl) R R (fun _=>ex1) R) ?_
  refine AT.nil ?_
  refine DW h2 fun w1 w2 ew1 h3=>?_
  refine CH [1000,1001,1002,1003,1004,1005,1006,1007,1008] (hc:=[(1000,some (.box gb1000 67 [.ptr 1001 gb1001 0 0])),(1001,some (.box gb1001 76 [.mref 1002 gb1002,.mref 1003 gb1003])),(1002,some (.mb gb1002 gw1002 55 (AE AB.row m1))),(1003,some (.md gb1003 (AE (fun (l:List AC)=>RV.sl (l.map AC.row)) m2))),(1004,some (.box gb1004 63 [.mref 1005 gb1005])),(1005,some (.md gb1005 (AE RV.bool (Aw m3 id1 true)))),(1006,some (.box gb1006 83 [.fn 58 [.ptr 1000 gb1000 0 0,.ptr 1004 gb1004 0 0,.ptr 1006 gb1006 0 0,.ptr 1007 gb1007 0 0]])),(1007,some (.box gb1007 24 [.own 1008 ga1008])),(1008,some (.arr ga1008 55 4 (c1.map AB.row)))]) (bs:=[rI (x1.Parent)]) (caps:=[.ptr 1000 gb1000 0 0,.ptr 1004 gb1004 0 0,.ptr 1006 gb1006 0 0,.ptr 1007 gb1007 0 0]) R R R R iL R ⟨.inl ⟨iL,R⟩,Za⟩ ⟨R,R,R,R,R,R,R,R,R,R,R,R,R,R,R,R,R,R,R,R,R,R,R,R,R,R,R,Za⟩ (by decide) (hself ew1) ?_
  intro i1 n1
  refine BX (s':=⟨[(3,.ptr 1006 gb1006 0 0),(4,.ptr 1007 gb1007 0 0),(6,.pk 1002 gb1002 gw1002 (At m1 id1) 0),(26,.fn 58 [.ptr 1000 gb1000 0 0,.ptr 1004 gb1004 0 0,.ptr 1006 gb1006 0 0,.ptr 1007 gb1007 0 0]),(27,.pk 1002 gb1002 gw1002 (At m1 id1) 0),(28,.pk 1002 gb1002 gw1002 (At m1 id1) 0),(29,.pk 1002 gb1002 gw1002 (At m1 id1) 1),(30,rI (x1.Parent)),(31,.tup [])],[(1000,some (.box gb1000 67 [.ptr 1001 gb1001 0 0])),(1001,some (.box gb1001 76 [.mref 1002 gb1002,.mref 1003 gb1003])),(1002,some (.mb gb1002 gw1002 55 (AE AB.row m1))),(1003,some (.md gb1003 (AE (fun (l:List AC)=>RV.sl (l.map AC.row)) m2))),(1004,some (.box gb1004 63 [.mref 1005 gb1005])),(1005,some (.md gb1005 (AE RV.bool w1))),(1006,some (.box gb1006 83 [.fn 58 [.ptr 1000 gb1000 0 0,.ptr 1004 gb1004 0 0,.ptr 1006 gb1006 0 0,.ptr 1007 gb1007 0 0]])),(1007,some (.box gb1007 24 [.own 1008 (i1 0)])),(1008,some (.arr (i1 0) 55 4 (w2.map AB.row)))],n1,38⟩) ?_
  refine aZ (hK5 _ ?_)
  refine Ks [] [0,1,2,3] [4] 5 BD (by kernel_rfl) R R R R R ?_
  refine DZ.nil ?_
  refine ZN R R R (Zc (a:=.own 1008 (i1 0)) R Ko iL R R) ?_
  refine ZN R R R (Zd R iL) ?_
  refine ZN R R R (IF R (.inl rfl) R R (fun _=>ex1)) ?_
  refine ZN R R R (Rx (a:=x1) (cs:=(Bu x1)) R DD (.inl rfl) R R (fun _=>ex1) R R) ?_
  refine AF.nil ?_
  refine AA.step R R R (OS 36 R AZ (f:=AB.row) (l:=([x1]:List AB)) ⟨R,⟨_,iL,R⟩,Za⟩ R (fun _=>R) R) ?_
  refine AA.nil ?_
  refine Zk h3 fun l1 el1 h4=>(Zg R R R (Bg R AZ iL R (.inr (.inl ⟨_,_,iL,R⟩)) el1) (Zz R R (ZI (ds:=[.own 1008 (n1+1)]) R PA iL R iL R R R R) ?_))
  refine Zm ?_
  exact CE.mk (s':=⟨[],[(1000,some (.box gb1000 67 [.ptr 1001 gb1001 0 0])),(1001,some (.box gb1001 76 [.mref 1002 gb1002,.mref 1003 gb1003])),(1002,some (.mb gb1002 gw1002 55 (AE AB.row m1))),(1003,some (.md gb1003 (AE (fun (l:List AC)=>RV.sl (l.map AC.row)) m2))),(1004,some (.box gb1004 63 [.mref 1005 gb1005])),(1005,some (.md gb1005 (AE RV.bool w1))),(1006,some (.box gb1006 83 [.fn 58 [.ptr 1000 gb1000 0 0,.ptr 1004 gb1004 0 0,.ptr 1006 gb1006 0 0,.ptr 1007 gb1007 0 0]])),(1007,some (.box gb1007 24 [.own 1008 (n1+1)])),(1008,some (.arr (n1+1) 55 4 (l1.map AB.row)))],(n1+2),38⟩) ((by exact Ze Za ⟨.inl R,.inl R,.inl R,.inl R,.inl R,.inl R,.inl R,.inl R,.inl R,Za⟩ nL)) (Cr (fun (r:(List (Int × Bool)) × (List AB)) rr h'=>∃ (i:Nat→Nat),rr = .tup []∧h'=[(1000,some (.box gb1000 67 [.ptr 1001 gb1001 0 0])),(1001,some (.box gb1001 76 [.mref 1002 gb1002,.mref 1003 gb1003])),(1002,some (.mb gb1002 gw1002 55 (AE AB.row m1))),(1003,some (.md gb1003 (AE (fun (l:List AC)=>RV.sl (l.map AC.row)) m2))),(1004,some (.box gb1004 63 [.mref 1005 gb1005])),(1005,some (.md gb1005 (AE RV.bool r.1))),(1006,some (.box gb1006 83 [.fn 58 [.ptr 1000 gb1000 0 0,.ptr 1004 gb1004 0 0,.ptr 1006 gb1006 0 0,.ptr 1007 gb1007 0 0]])),(1007,some (.box gb1007 24 [.own 1008 (i 0)])),(1008,some (.arr (i 0) 55 4 (r.2.map AB.row)))]) h4 (by exact ⟨.tup [],[(1000,some (.box gb1000 67 [.ptr 1001 gb1001 0 0])),(1001,some (.box gb1001 76 [.mref 1002 gb1002,.mref 1003 gb1003])),(1002,some (.mb gb1002 gw1002 55 (AE AB.row m1))),(1003,some (.md gb1003 (AE (fun (l:List AC)=>RV.sl (l.map AC.row)) m2))),(1004,some (.box gb1004 63 [.mref 1005 gb1005])),(1005,some (.md gb1005 (AE RV.bool w1))),(1006,some (.box gb1006 83 [.fn 58 [.ptr 1000 gb1000 0 0,.ptr 1004 gb1004 0 0,.ptr 1006 gb1006 0 0,.ptr 1007 gb1007 0 0]])),(1007,some (.box gb1007 24 [.own 1008 (n1+1)])),(1008,some (.arr (n1+1) 55 4 (l1.map AB.row)))],⟨_,R,Za⟩,⟨.inr R,.inr R,.inr R,.inr R,.inr R,.inr R,.inr R,.inr R,.inr R,Za⟩,R,R,AI [(n1+1)],R,R⟩))
theorem Sw (n:Nat) : ∀ {m1:List (Int × AB)} {m2:List (Int × (List AC))} {m3:List (Int × Bool)} {c1:List AB} {id1:Int} {r:(List (Int × Bool)) × (List AB)} {gb1000:Nat} {gb1001:Nat} {gb1002:Nat} {gw1002:Nat} {gb1003:Nat} {gb1004:Nat} {gb1005:Nat} {gb1006:Nat} {gb1007:Nat} {ga1008:Nat},Ct n m1 m2 m3 c1 id1=some r→A8 Try.prog 58 9 [rI (id1),.ptr 1000 gb1000 0 0,.ptr 1004 gb1004 0 0,.ptr 1006 gb1006 0 0,.ptr 1007 gb1007 0 0] [(1000,some (.box gb1000 67 [.ptr 1001 gb1001 0 0])),(1001,some (.box gb1001 76 [.mref 1002 gb1002,.mref 1003 gb1003])),(1002,some (.mb gb1002 gw1002 55 (AE AB.row m1))),(1003,some (.md gb1003 (AE (fun (l:List AC)=>RV.sl (l.map AC.row)) m2))),(1004,some (.box gb1004 63 [.mref 1005 gb1005])),(1005,some (.md gb1005 (AE RV.bool m3))),(1006,some (.box gb1006 83 [.fn 58 [.ptr 1000 gb1000 0 0,.ptr 1004 gb1004 0 0,.ptr 1006 gb1006 0 0,.ptr 1007 gb1007 0 0]])),(1007,some (.box gb1007 24 [.own 1008 ga1008])),(1008,some (.arr ga1008 55 4 (c1.map AB.row)))] (fun rr h'=>∃ (i:Nat→Nat),rr = .tup []∧h'=[(1000,some (.box gb1000 67 [.ptr 1001 gb1001 0 0])),(1001,some (.box gb1001 76 [.mref 1002 gb1002,.mref 1003 gb1003])),(1002,some (.mb gb1002 gw1002 55 (AE AB.row m1))),(1003,some (.md gb1003 (AE (fun (l:List AC)=>RV.sl (l.map AC.row)) m2))),(1004,some (.box gb1004 63 [.mref 1005 gb1005])),(1005,some (.md gb1005 (AE RV.bool r.1))),(1006,some (.box gb1006 83 [.fn 58 [.ptr 1000 gb1000 0 0,.ptr 1004 gb1004 0 0,.ptr 1006 gb1006 0 0,.ptr 1007 gb1007 0 0]])),(1007,some (.box gb1007 24 [.own 1008 (i 0)])),(1008,some (.arr (i 0) 55 4 (r.2.map AB.row)))]):=by
 induction n with
 | zero=>intro m1 m2 m3 c1 id1 r gb1000 gb1001 gb1002 gw1002 gb1003 gb1004 gb1005 gb1006 gb1007 ga1008 h; exact absurd (show (none:Option ((List (Int × Bool)) × (List AB)))=some r from h) (by simp)
 | succ n ih=>intro m1 m2 m3 c1 id1 r gb1000 gb1001 gb1002 gw1002 gb1003 gb1004 gb1005 gb1006 gb1007 ga1008 h; exact S6 (self:=fun m1 m2 m3 c1 id1=>Ct n m1 m2 m3 c1 id1) (fun h2=>ih h2) h
theorem Tx {m1:List (Int × AB)} {m2:List (Int × (List AC))} {m3:List (Int × Bool)} {c1:List AB} {id1:Int} {r:(List (Int × Bool)) × (List AB)} {gb1000:Nat} {gb1001:Nat} {gb1002:Nat} {gw1002:Nat} {gb1003:Nat} {gb1004:Nat} {gb1005:Nat} {gb1006:Nat} {gb1007:Nat} {ga1008:Nat} (h:H0 m1 m2 m3 c1 id1=some r):A8 Try.prog 58 9 [rI (id1),.ptr 1000 gb1000 0 0,.ptr 1004 gb1004 0 0,.ptr 1006 gb1006 0 0,.ptr 1007 gb1007 0 0] [(1000,some (.box gb1000 67 [.ptr 1001 gb1001 0 0])),(1001,some (.box gb1001 76 [.mref 1002 gb1002,.mref 1003 gb1003])),(1002,some (.mb gb1002 gw1002 55 (AE AB.row m1))),(1003,some (.md gb1003 (AE (fun (l:List AC)=>RV.sl (l.map AC.row)) m2))),(1004,some (.box gb1004 63 [.mref 1005 gb1005])),(1005,some (.md gb1005 (AE RV.bool m3))),(1006,some (.box gb1006 83 [.fn 58 [.ptr 1000 gb1000 0 0,.ptr 1004 gb1004 0 0,.ptr 1006 gb1006 0 0,.ptr 1007 gb1007 0 0]])),(1007,some (.box gb1007 24 [.own 1008 ga1008])),(1008,some (.arr ga1008 55 4 (c1.map AB.row)))] (fun rr h'=>∃ (i:Nat→Nat),rr = .tup []∧h'=[(1000,some (.box gb1000 67 [.ptr 1001 gb1001 0 0])),(1001,some (.box gb1001 76 [.mref 1002 gb1002,.mref 1003 gb1003])),(1002,some (.mb gb1002 gw1002 55 (AE AB.row m1))),(1003,some (.md gb1003 (AE (fun (l:List AC)=>RV.sl (l.map AC.row)) m2))),(1004,some (.box gb1004 63 [.mref 1005 gb1005])),(1005,some (.md gb1005 (AE RV.bool r.1))),(1006,some (.box gb1006 83 [.fn 58 [.ptr 1000 gb1000 0 0,.ptr 1004 gb1004 0 0,.ptr 1006 gb1006 0 0,.ptr 1007 gb1007 0 0]])),(1007,some (.box gb1007 24 [.own 1008 (i 0)])),(1008,some (.arr (i 0) 55 4 (r.2.map AB.row)))]):=by
 unfold H0 at h
 by_cases hh : ∃ n r,Ct n m1 m2 m3 c1 id1=some r
 ·rw [dif_pos hh] at h; exact Sw _ h
 ·rw [dif_neg hh] at h; cases h
theorem Nq {m1:List (Int × AB)} {m2:List (Int × (List AC))} {r:(List AB)} {gb1000:Nat} {gb1001:Nat} {gw1001:Nat} {gb1002:Nat} (h:Fx m1 m2=some r):A8 Try.prog 39 3 [.ptr 1000 gb1000 0 0] [(1000,some (.box gb1000 76 [.mref 1001 gb1001,.mref 1002 gb1002])),(1001,some (.mb gb1001 gw1001 55 (AE AB.row m1))),(1002,some (.md gb1002 (AE (fun (l:List AC)=>RV.sl (l.map AC.row)) m2)))] (fun rr h'=>∃ (i:Nat→Nat),rr=qc r∧h'=[(1000,some (.box gb1000 76 [.mref 1001 gb1001,.mref 1002 gb1002])),(1001,some (.mb gb1001 gw1001 55 (AE AB.row m1))),(1002,some (.md gb1002 (AE (fun (l:List AC)=>RV.sl (l.map AC.row)) m2)))]):=by
 unfold Fx at h
 refine Es Try.func39 R R Try.ntmps39 (Zi R) fun n0=>?_
 refine aS fun _ hK1 _=>(aR (Zg R R R (CS (cs:=[.ptr 1000 gb1000 0 0]) 1 R iL R R) (sA R R (aZ (hK1 _ ?_)))))
 refine aS fun _ hK2 _=>(aR (sA R R (aZ (hK2 _ ?_))))
 refine aS fun _ hK3 _=>(aS fun _ hK4 _=>(aR (sQ R (Zc (a:=.ptr 1000 gb1000 0 0) R M8 iL R R) (sQ R (ZL (ob:=.box _ _ _) R iL fR R) (sQ R (fB R Ft iL fR R) (sQ R (Zc (a:=.mref 1001 gb1001) R FZ iL R R) (Zg R R R (Jk (ob:=.mb gb1001 gw1001 55 (AE AB.row m1)) 14 R Try.underlying73 (.inl rfl) R (Mf _ _ _ _ _) R) (aZ (hK4 _ ?_)))))))))
 refine AW.weak (s':=⟨[(1,.ptr 1 n0 0 0),(3,.own 5003 (n0+2)),(14,.ptr 14 (n0+1) 0 0)],[(1,some (.box n0 67 [.ptr 1000 gb1000 0 0])),(14,some (.mj (n0+1) 1001 gb1001 ((m1.map (·.1)).length) [])),(1000,some (.box gb1000 76 [.mref 1001 gb1001,.mref 1002 gb1002])),(1001,some (.mb gb1001 gw1001 55 (AE AB.row m1))),(1002,some (.md gb1002 (AE (fun (l:List AC)=>RV.sl (l.map AC.row)) m2))),(5003,some (.arr (n0+2) 3 1 (([]:List Int).map (Ad .i64))))],(n0+3),38⟩) (ZG (ZG (EW 3 5003 3 1 (by decide) R) (by exact Ze (e':=[(0,.ptr 1000 gb1000 0 0),(1,.ptr 1 n0 0 0),(2,cZ),(3,.own 5003 (n0+2)),(10,.ptr 1000 gb1000 0 0),(11,.ptr 1000 gb1000 0 0),(12,.ptr 1000 gb1000 0 0),(13,.mref 1001 gb1001),(14,.ptr 14 (n0+1) 0 0)]) (h':=[(1,some (.box n0 67 [.ptr 1000 gb1000 0 0])),(14,some (.mj (n0+1) 1001 gb1001 ((m1.map (·.1)).length) [])),(1000,some (.box gb1000 76 [.mref 1001 gb1001,.mref 1002 gb1002])),(1001,some (.mb gb1001 gw1001 55 (AE AB.row m1))),(1002,some (.md gb1002 (AE (fun (l:List AC)=>RV.sl (l.map AC.row)) m2))),(5003,some (.arr (n0+2) 3 1 (([]:List Int).map (Ad .i64))))]) ⟨jL,jL,jL,jL,jL,jL,jL,jL,jL,Za⟩ ⟨.inl R,.inl R,.inl R,.inl R,.inl R,.inl R,Za⟩ nL)) (by exact Ze ⟨jL,jL,jL,Za⟩ ⟨.inl R,.inl R,.inl R,.inl R,.inl R,.inl R,Za⟩ nL)) ?_
 refine Kt (mid:=1001) (mg:=gb1001) (key:=fun (_:(List Int))=>m1.map (·.1)) (F:=fun (a:(List Int)) (k1:Int)=>ES a k1) (st0:=[]) 14 (fun (a:(List Int)) i3=>[(1,.ptr 1 n0 0 0),(3,.own 5003 (i3 0)),(14,.ptr 14 (n0+1) 0 0)]) (fun (a:(List Int)) i3=>[(1,some (.box n0 67 [.ptr 1000 gb1000 0 0])),(1000,some (.box gb1000 76 [.mref 1001 gb1001,.mref 1002 gb1002])),(1001,some (.mb gb1001 gw1001 55 (AE AB.row m1))),(1002,some (.md gb1002 (AE (fun (l:List AC)=>RV.sl (l.map AC.row)) m2))),(5003,some (.arr (i3 0) 3 1 (a.map (Ad .i64))))]) (fun i3=>(i3 1)) h ⟨(AI [(n0+2),(n0+3)]),(by exact Ze ⟨jL,jL,jL,Za⟩ ⟨.inl R,.inl R,.inl R,.inl R,.inl R,.inl R,Za⟩ nL)⟩ R R R R R R R R (fun _ _=>.inl R) (fun _ _=>R) (fun _ _=>R) (fun _ _=>⟨_,R,R,Mf _ _ _ _ _⟩) R (fun _ _=>R) ?_ ?_
 ·intro ids2 k1 j1 ys1 st1 i3 hF1 hk1 hnd1 hl1
  have h1:ES ids2 k1=some st1:=hF1; unfold ES at h1
  refine aK (s':=⟨[(1,.ptr 1 n0 0 0),(3,.own 5003 (i3 0)),(14,.ptr 14 (n0+1) 0 0)],[(1,some (.box n0 67 [.ptr 1000 gb1000 0 0])),(14,some (.mj (n0+1) 1001 gb1001 ((m1.map (·.1)).length) (ys1++[j1]))),(1000,some (.box gb1000 76 [.mref 1001 gb1001,.mref 1002 gb1002])),(1001,some (.mb gb1001 gw1001 55 (AE AB.row m1))),(1002,some (.md gb1002 (AE (fun (l:List AC)=>RV.sl (l.map AC.row)) m2))),(5003,some (.arr (i3 0) 3 1 (ids2.map (Ad .i64))))],(i3 1),38⟩) ?_
  refine Zj (aS fun _ hK5 _=>(aR (sQ R (Tc R (.inl rfl) R R hl1 hk1 hnd1) (sQ R (ZE (a:=rI (k1)) R iL R) (sA R R (aZ (hK5 _ ?_)))))))
  refine aR (sM R R (sM R R (Zg R R R (BW 21 R Bl (f:=(Ad .i64)) (l:=([k1]:List Int)) ⟨R,⟨_,iL,R⟩,Za⟩ R (fun _=>R) R) (Zk h1 fun ids4 eids4 h2=>(Zg R R R (Bg R Bl iL R (.inr (.inl ⟨_,_,iL,R⟩)) eids4) (sA R R ?_))))))
  refine Zm ?_
  show Exit.normal=Exit.normal ∧ ∃ i':Nat→Nat,Af _ _
  have hfin:=Zb h2; subst hfin
  exact ⟨R,(AI [((i3 1)+1),((i3 1)+2)]),(ZG (show Af _ ⟨[(1,.ptr 1 n0 0 0),(3,.own 5003 ((i3 1)+1)),(14,.ptr 14 (n0+1) 0 0)],[(1,some (.box n0 67 [.ptr 1000 gb1000 0 0])),(14,some (.mj (n0+1) 1001 gb1001 ((m1.map (·.1)).length) (ys1++[j1]))),(1000,some (.box gb1000 76 [.mref 1001 gb1001,.mref 1002 gb1002])),(1001,some (.mb gb1001 gw1001 55 (AE AB.row m1))),(1002,some (.md gb1002 (AE (fun (l:List AC)=>RV.sl (l.map AC.row)) m2))),(5003,some (.arr ((i3 1)+1) 3 1 (ids4.map (Ad .i64))))],((i3 1)+2),38⟩ from (by exact Ze ⟨jL,jL,jL,Za⟩ ⟨.inl R,.inl R,.inl R,.inl R,.inl R,.inl R,Za⟩ nL)) (by exact Ze ⟨jL,jL,jL,Za⟩ ⟨.inl R,.inl R,.inl R,.inl R,.inl R,.inl R,Za⟩ nL))⟩
 intro ids2 i3 h30
 have h3:=KK h30
 refine hK3 _ ?_
 refine aS fun _ hK6 _=>(aR (sM R R (Zk h3 fun w1 ew1 h4=>?_)))
 refine CH [5003] (hc:=[(1000,some (.arr (i3 0) 3 1 (ids2.map (Ad .i64))))]) (bs:=[.own 1000 (i3 0)]) (caps:=[]) R R R R iL R ⟨.inl ⟨iL,R⟩,Za⟩ ⟨R,R,R,Za⟩ (by decide) ((Pp Ol) ew1) ?_
 intro i5 n1
 refine BX (s':=⟨[(1,.ptr 1 n0 0 0),(3,.own 5003 (i3 0)),(23,.own 5003 (i3 0)),(24,.tup [])],[(1,some (.box n0 67 [.ptr 1000 gb1000 0 0])),(1000,some (.box gb1000 76 [.mref 1001 gb1001,.mref 1002 gb1002])),(1001,some (.mb gb1001 gw1001 55 (AE AB.row m1))),(1002,some (.md gb1002 (AE (fun (l:List AC)=>RV.sl (l.map AC.row)) m2))),(5003,some (.arr (i3 0) 3 1 (w1.map (Ad .i64))))],n1,38⟩) ?_
 refine aZ (hK6 _ ?_)
 refine aS fun _ hK7 _=>(aR (Zg R R R (Bz (cs:=[cZ]) 5 R NG R R) (aZ (hK7 _ ?_))))
 refine aS fun _ hK8 _=>(aR (Zg R R R (LQ RV.bool 25 R) (Zg R R R (Bz (cs:=[.cst (.map none)]) 6 R Ny R R) (Zz R R (ZI (ds:=[.mref 25 (n1+1)]) R PX iL R iL R R R R) (aZ (hK8 _ ?_))))))
 refine aS fun _ hK9 _=>(aR (Zg R R R (Bz (cs:=[.cst (.nilFunc)]) 7 R Oj R R) (aZ (hK9 _ ?_))))
 refine aS fun _ hK10 _=>(aR ?_)
 refine sQ R (Ii (bs:=[.ptr 1 n0 0 0,.ptr 6 (n1+2) 0 0,.ptr 7 (n1+3) 0 0,.ptr 5 n1 0 0]) R (by exact ⟨iL,iL,iL,iL,Za⟩)) ?_
 refine Zz R R (ZI (ds:=[.fn 58 [.ptr 1 n0 0 0,.ptr 6 (n1+2) 0 0,.ptr 7 (n1+3) 0 0,.ptr 5 n1 0 0]]) R OO iL R iL R R R R) (aZ (hK10 _ ?_))
 refine aS fun K11 hK11 wK11=>(aS fun _ hK12 _=>(aR (sM R R (sQ R (DO R Bl.slice iL R) (sM R R (aZ (hK12 _ ?_)))))))
 refine Zj ?_
 refine BB h4 fun o1 hit1 hk2=>?_
 have J1 : ∀ (out4:List AB) (i10:Nat→Nat),o1=out4→K11 ⟨[(5,.ptr 5 n1 0 0)],[(5,some (.box n1 24 [.own 3050 (i10 0)])),(1000,some (.box gb1000 76 [.mref 1001 gb1001,.mref 1002 gb1002])),(1001,some (.mb gb1001 gw1001 55 (AE AB.row m1))),(1002,some (.md gb1002 (AE (fun (l:List AC)=>RV.sl (l.map AC.row)) m2))),(3050,some (.arr (i10 0) 55 4 (out4.map AB.row)))],(i10 1),38⟩:=by
  intro out4 i10 e
  have h5:=hk2 _ e
  refine hK11 _ ?_
  refine aS fun _ hK13 _=>(aR (sQ R (Zc (a:=.own 3050 (i10 0)) R Ko iL R R) (sA R R (aZ (hK13 _ ?_)))))
  refine Zr ?_
  exact CE.mk (s':=⟨[(2,qc out4)],[(1000,some (.box gb1000 76 [.mref 1001 gb1001,.mref 1002 gb1002])),(1001,some (.mb gb1001 gw1001 55 (AE AB.row m1))),(1002,some (.md gb1002 (AE (fun (l:List AC)=>RV.sl (l.map AC.row)) m2)))],(i10 1),38⟩) (ZG (by exact Af.frz (e':=[(2,qc out4),(5,.ptr 5 n1 0 0),(37,qc out4)]) (h':=[(5,some (.box n1 24 [qc out4])),(1000,some (.box gb1000 76 [.mref 1001 gb1001,.mref 1002 gb1002])),(1001,some (.mb gb1001 gw1001 55 (AE AB.row m1))),(1002,some (.md gb1002 (AE (fun (l:List AC)=>RV.sl (l.map AC.row)) m2)))]) 3050 R ⟨.inl (.inr (.inr ⟨R,R⟩)),jL,.inl (.inr (.inr ⟨R,R⟩)),Za⟩ ⟨R,.inr (.inr (.inl ⟨_,_,_,_,R,R,⟨.inr (.inr ⟨R,R⟩),Za⟩⟩)),R,.inl R,R,.inl R,R,.inl R,Za⟩) (by exact Ze ⟨jL,Za⟩ ⟨.inl R,.inl R,.inl R,Za⟩ nL)) (Cr (fun (r:(List AB)) rr h'=>∃ (i:Nat→Nat),rr=qc r∧h'=[(1000,some (.box gb1000 76 [.mref 1001 gb1001,.mref 1002 gb1002])),(1001,some (.mb gb1001 gw1001 55 (AE AB.row m1))),(1002,some (.md gb1002 (AE (fun (l:List AC)=>RV.sl (l.map AC.row)) m2)))]) h5 (by exact ⟨qc out4,[(1000,some (.box gb1000 76 [.mref 1001 gb1001,.mref 1002 gb1002])),(1001,some (.mb gb1001 gw1001 55 (AE AB.row m1))),(1002,some (.md gb1002 (AE (fun (l:List AC)=>RV.sl (l.map AC.row)) m2)))],R,⟨.inr R,.inr R,.inr R,Za⟩,R,R,AI [],R,R⟩))
 refine F9 (fun (x2:Int) (out2:List AB) (m4:List (Int × Bool)) i8=>⟨[(5,.ptr 5 n1 0 0),(7,.ptr 7 (n1+3) 0 0),(27,.own 5003 (i3 0)),(28,rI ((w1.length:Int))),(29,rI (x2))],[(1,some (.box n0 67 [.ptr 1000 gb1000 0 0])),(5,some (.box n1 24 [.own 3050 (i8 0)])),(6,some (.box (n1+2) 63 [.mref 25 (n1+1)])),(7,some (.box (n1+3) 83 [.fn 58 [.ptr 1 n0 0 0,.ptr 6 (n1+2) 0 0,.ptr 7 (n1+3) 0 0,.ptr 5 n1 0 0]])),(25,some (.md (n1+1) (AE RV.bool m4))),(1000,some (.box gb1000 76 [.mref 1001 gb1001,.mref 1002 gb1002])),(1001,some (.mb gb1001 gw1001 55 (AE AB.row m1))),(1002,some (.md gb1002 (AE (fun (l:List AC)=>RV.sl (l.map AC.row)) m2))),(3050,some (.arr (i8 0) 55 4 (out2.map AB.row))),(5003,some (.arr (i3 0) 3 1 (w1.map (Ad .i64))))],(i8 1),38⟩) (AI [(n1+4),(n1+5)]) hit1 (ZG (ZG (Ku 5 0 3050 55 4 (by decide) R R (by decide)) (by exact Ze (e':=[(1,.ptr 1 n0 0 0),(3,.own 5003 (i3 0)),(5,.ptr 5 n1 0 0),(6,.ptr 6 (n1+2) 0 0),(7,.ptr 7 (n1+3) 0 0),(23,.own 5003 (i3 0)),(24,.tup []),(25,.mref 25 (n1+1)),(26,.fn 58 [.ptr 1 n0 0 0,.ptr 6 (n1+2) 0 0,.ptr 7 (n1+3) 0 0,.ptr 5 n1 0 0]),(27,.own 5003 (i3 0)),(28,rI ((w1.length:Int))),(29,rI (0))]) (h':=[(1,some (.box n0 67 [.ptr 1000 gb1000 0 0])),(5,some (.box n1 24 [.own 3050 (n1+4)])),(6,some (.box (n1+2) 63 [.mref 25 (n1+1)])),(7,some (.box (n1+3) 83 [.fn 58 [.ptr 1 n0 0 0,.ptr 6 (n1+2) 0 0,.ptr 7 (n1+3) 0 0,.ptr 5 n1 0 0]])),(25,some (.md (n1+1) (AE RV.bool ([]:List (Int × Bool))))),(1000,some (.box gb1000 76 [.mref 1001 gb1001,.mref 1002 gb1002])),(1001,some (.mb gb1001 gw1001 55 (AE AB.row m1))),(1002,some (.md gb1002 (AE (fun (l:List AC)=>RV.sl (l.map AC.row)) m2))),(3050,some (.arr (n1+4) 55 4 (([]:List AB).map AB.row))),(5003,some (.arr (i3 0) 3 1 (w1.map (Ad .i64))))]) ⟨jL,jL,jL,jL,jL,jL,jL,jL,jL,jL,jL,jL,Za⟩ ⟨.inl R,.inl R,.inl R,.inl R,.inl R,.inl R,.inl R,.inl R,.inl R,.inl R,Za⟩ nL)) (by exact Ze ⟨jL,jL,jL,jL,jL,Za⟩ ⟨.inl R,.inl R,.inl R,.inl R,.inl R,.inl R,.inl R,.inl R,.inl R,.inl R,Za⟩ nL)) ?_
 intro x2 out2 m4 i8 v1 hv1 hx1
 have h6:Ey m1 m2 w1 x2 out2 m4=some v1:=hv1; unfold Ey at h6
 refine aS fun _ hK14 _=>(aR (sQ R (Zs R iL iL) (aZ (hK14 _ ?_))))
 refine aS fun _ hK15 _=>?_
 refine aC R (fun hc1=>?_) (fun hc1=>?_)
 ·have h7:=Zo hc1 h6
  refine Zl (hK15 _ ?_)
  refine aS fun _ hK16 _=>(Zj (aS fun _ hK17 _=>(aR (Zk h7 fun x4 ex4 h8=>(sQ R (Du R Bl.slice iL R iL (fun _=>ex4)) (sQ R (Gj (d:=.int .i64 x4) R AP iL fR (fun _=>ex4) R) (sA R R (aZ (hK17 _ ?_)))))))))
  refine aR (sQ R (Zc (a:=.fn 58 [.ptr 1 n0 0 0,.ptr 6 (n1+2) 0 0,.ptr 7 (n1+3) 0 0,.ptr 5 n1 0 0]) R KR iL R R) (sM R R (DW h8 fun w2 w3 ew2 h9=>?_)))
  refine CH [1,1000,1001,1002,6,25,7,5,3050] (hc:=[(1000,some (.box n0 67 [.ptr 1001 gb1000 0 0])),(1001,some (.box gb1000 76 [.mref 1002 gb1001,.mref 1003 gb1002])),(1002,some (.mb gb1001 gw1001 55 (AE AB.row m1))),(1003,some (.md gb1002 (AE (fun (l:List AC)=>RV.sl (l.map AC.row)) m2))),(1004,some (.box (n1+2) 63 [.mref 1005 (n1+1)])),(1005,some (.md (n1+1) (AE RV.bool m4))),(1006,some (.box (n1+3) 83 [.fn 58 [.ptr 1000 n0 0 0,.ptr 1004 (n1+2) 0 0,.ptr 1006 (n1+3) 0 0,.ptr 1007 n1 0 0]])),(1007,some (.box n1 24 [.own 1008 (i8 0)])),(1008,some (.arr (i8 0) 55 4 (out2.map AB.row)))]) (bs:=[rI (x4)]) (caps:=[.ptr 1000 n0 0 0,.ptr 1004 (n1+2) 0 0,.ptr 1006 (n1+3) 0 0,.ptr 1007 n1 0 0]) R R R R iL R ⟨.inl ⟨iL,R⟩,Za⟩ ⟨R,R,R,R,R,R,R,R,R,R,R,R,R,R,R,R,R,R,R,R,R,R,R,R,R,R,R,Za⟩ (by decide) (Tx ew2) ?_
  intro i11 n2
  refine BX (s':=⟨[(5,.ptr 5 n1 0 0),(7,.ptr 7 (n1+3) 0 0),(9,rI (x4)),(27,.own 5003 (i3 0)),(28,rI ((w1.length:Int))),(29,rI (x2)),(30,rB ((decide (x2<(w1.length:Int))))),(32,rI (x4)),(33,.fn 58 [.ptr 1 n0 0 0,.ptr 6 (n1+2) 0 0,.ptr 7 (n1+3) 0 0,.ptr 5 n1 0 0]),(34,rI (x4)),(35,.tup [])],[(1,some (.box n0 67 [.ptr 1000 gb1000 0 0])),(5,some (.box n1 24 [.own 3050 (i11 0)])),(6,some (.box (n1+2) 63 [.mref 25 (n1+1)])),(7,some (.box (n1+3) 83 [.fn 58 [.ptr 1 n0 0 0,.ptr 6 (n1+2) 0 0,.ptr 7 (n1+3) 0 0,.ptr 5 n1 0 0]])),(25,some (.md (n1+1) (AE RV.bool w2))),(1000,some (.box gb1000 76 [.mref 1001 gb1001,.mref 1002 gb1002])),(1001,some (.mb gb1001 gw1001 55 (AE AB.row m1))),(1002,some (.md gb1002 (AE (fun (l:List AC)=>RV.sl (l.map AC.row)) m2))),(3050,some (.arr (i11 0) 55 4 (w3.map AB.row))),(5003,some (.arr (i3 0) 3 1 (w1.map (Ad .i64))))],n2,38⟩) ?_
  refine aZ (hK16 _ ?_)
  refine aR (Zk h9 fun x5 ex5 h10=>(sQ R (ZA R iL iL (fun _=>ex5)) (sM R R ?_)))
  refine Zm ?_
  exact Cq.mk h10 (AI [(i11 0),n2]) ((by exact Ze ⟨jL,jL,jL,jL,jL,Za⟩ ⟨.inl R,.inl R,.inl R,.inl R,.inl R,.inl R,.inl R,.inl R,.inl R,.inl R,Za⟩ nL))
 ·have h7:=Zp hc1 h6
  refine Zx ?_
  exact wK11 _ _ ((by exact Ze ⟨jL,Za⟩ ⟨.inl R,.inl R,.inl R,.inl R,.inl R,Za⟩ nL)) (J1 _ (AI [(i8 0),(i8 1)]) (hx1 _ (Zb h7).symm))
theorem Lh {c1:Int} {c2:List AD} {c3:Int} {o1:AD} {r:(List AD)} {gb1000:Nat} {gb1001:Nat} {ga1002:Nat} {gb1003:Nat} (h:Ge c1 c2 c3 o1=some r):A8 Try.prog 38 4 [.agg (Aa o1),.ptr 1000 gb1000 0 0,.ptr 1001 gb1001 0 0,.ptr 1003 gb1003 0 0] [(1000,some (.box gb1000 3 [rI (c1)])),(1001,some (.box gb1001 22 [.own 1002 ga1002])),(1002,some (.arr ga1002 46 8 (c2.map AD.row))),(1003,some (.box gb1003 3 [rI (c3)]))] (fun rr h'=>∃ (i:Nat→Nat),rr = .tup []∧h'=[(1000,some (.box gb1000 3 [rI (c1)])),(1001,some (.box gb1001 22 [.own 1002 (i 0)])),(1002,some (.arr (i 0) 46 8 (r.map AD.row))),(1003,some (.box gb1003 3 [rI (c3)]))]):=by
 unfold Ge at h
 refine Es Try.func38 R R Try.ntmps38 (Zi R) fun n0=>?_
 refine aS fun _ hK1 _=>(aR (Zg R R R (CS (cs:=(Aa o1)) 4 R iL R R) (aZ (hK1 _ ?_))))
 refine aS fun _ hK2 _=>(Zk h fun x1 ex1 h1=>?_)
 refine FR 7 [⟨some 5,(fun _=>rI (c1)),none,[]⟩,⟨some 6,(fun _=>.own 1002 ga1002),none,[]⟩,⟨some 7,(fun _=>rI ((c2.length:Int))),none,[]⟩,⟨some 8,(fun _=>rI (x1)),none,[]⟩,⟨some 9,(fun _=>rI (c3)),none,[]⟩,⟨some 10,(fun _=>.ptr 4 n0 0 0),none,[]⟩,⟨none,(fun _=>.any),some (4,(fun _=>some (.box n0 46 [rI (x1),rI (o1.Site),rI (o1.Kind),rI (o1.Item),rI (o1.Parent),.r (.str o1.Place),.r (.str o1.Name),.r (.str o1.Value)]))),[]⟩] BD (by kernel_rfl) (by exact ⟨fun _ _ h=>⟨R,fun _ _ e=>by cases e⟩,fun _ _ h=>⟨R,fun _ _ e=>by cases e⟩,fun _ _ h=>⟨R,fun _ _ e=>by cases e⟩,fun _ _ h=>⟨R,fun _ _ e=>by cases e⟩,fun _ _ h=>⟨R,fun _ _ e=>by cases e⟩,fun _ _ h=>⟨R,fun _ _ e=>by cases e⟩,fun _ _ h=>⟨R,fun _ _ e=>by cases e; rfl⟩,Za⟩) R (by exact ⟨oQ (fun _=>[(1,.ptr 1000 gb1000 0 0)]) (fun _=>[(1000,some (.box gb1000 3 [rI (c1)]))]) (fun D G1 hr=>⟨ZO R R,Za⟩) (fun D G1 hr=>⟨Zw R R,Za⟩) (fun G1 e h'=>Zc (a:=rI (c1)) R AP (.inl R) R R),
   oQ (fun _=>[(2,.ptr 1001 gb1001 0 0)]) (fun _=>[(1001,some (.box gb1001 22 [.own 1002 ga1002]))]) (fun D G1 hr=>⟨ZO R R,Za⟩) (fun D G1 hr=>⟨Zw R R,Za⟩) (fun G1 e h'=>Zc (a:=.own 1002 ga1002) R Hh (.inl R) R R),
   oQ (fun _=>[(6,.own 1002 ga1002)]) (fun _=>[(1002,some (.arr ga1002 46 8 (c2.map AD.row)))]) (fun D G1 hr=>⟨Zu hr 1 R R (by kernel_rfl) R R,Za⟩) (fun D G1 hr=>⟨Zw R R,Za⟩) (fun G1 e h'=>DO R Ak.slice (.inl R) R),
   oQ (fun _=>[(5,rI (c1)),(7,rI ((c2.length:Int)))]) (fun _=>[]) (fun D G1 hr=>⟨Zu hr 0 R R (by kernel_rfl) R R,Zu hr 2 R R (by kernel_rfl) R R,Za⟩) (fun D G1 hr=>Za) (fun G1 e h'=>ZA R (.inl R) (.inl R) (fun _=>ex1)),
   oQ (fun _=>[(3,.ptr 1003 gb1003 0 0)]) (fun _=>[(1003,some (.box gb1003 3 [rI (c3)]))]) (fun D G1 hr=>⟨ZO R R,Za⟩) (fun D G1 hr=>⟨Zw R R,Za⟩) (fun G1 e h'=>Zc (a:=rI (c3)) R AP (.inl R) R R),
   oQ (fun _=>[(4,.ptr 4 n0 0 0)]) (fun _=>[(4,some (.box n0 46 (Aa o1)))]) (fun D G1 hr=>⟨ZO R R,Za⟩) (fun D G1 hr=>⟨Ee hr (by kernel_rfl) R,Za⟩) (fun G1 e h'=>fB R C8 (.inl R) (fun _=>R) R),
   D7 (n1:=fun n=>n) R R (by intro d h; cases h) R (fun _=>[(8,rI (x1)),(10,.ptr 4 n0 0 0)]) (fun _=>[(4,some (.box n0 46 (Aa o1)))]) (fun D G1 hr=>⟨Zu hr 3 R R (by kernel_rfl) R R,Zu hr 5 R R (by kernel_rfl) R R,Za⟩) (fun D G1 hr=>⟨Ee hr (by kernel_rfl) R,Za⟩) (fun G1 e h' n=>ZI (ds:=[rI (x1),rI (o1.Site),rI (o1.Kind),rI (o1.Item),rI (o1.Parent),.r (.str o1.Place),.r (.str o1.Name),.r (.str o1.Value)]) R O9 (.inl R) R (.inl R) R R R R),
   Za⟩) fun G1 n1=>?_
 refine BX (s':=⟨[(0,.agg (Aa o1)),(1,.ptr 1000 gb1000 0 0),(2,.ptr 1001 gb1001 0 0),(3,.ptr 1003 gb1003 0 0),(4,.ptr 4 n0 0 0),(5,rI (c1)),(6,.own 1002 ga1002),(7,rI ((c2.length:Int))),(8,rI (x1)),(9,rI (c3)),(10,.ptr 4 n0 0 0)],[(4,some (.box n0 46 [rI (x1),rI (o1.Site),rI (o1.Kind),rI (o1.Item),rI (o1.Parent),.r (.str o1.Place),.r (.str o1.Name),.r (.str o1.Value)])),(1000,some (.box gb1000 3 [rI (c1)])),(1001,some (.box gb1001 22 [.own 1002 ga1002])),(1002,some (.arr ga1002 46 8 (c2.map AD.row))),(1003,some (.box gb1003 3 [rI (c3)]))],n1,16⟩) ?_
 refine sQ R (fB R D8 iL fR R) (Zz R R (ZI (ds:=[rI (x1),rI (c3),rI (o1.Kind),rI (o1.Item),rI (o1.Parent),.r (.str o1.Place),.r (.str o1.Name),.r (.str o1.Value)]) R O9 iL R iL R R R R) (aZ (hK2 _ ?_)))
 refine aK (s':=⟨[(2,.ptr 1001 gb1001 0 0),(4,.ptr 4 n0 0 0)],[(4,some (.box n0 46 [rI (x1),rI (c3),rI (o1.Kind),rI (o1.Item),rI (o1.Parent),.r (.str o1.Place),.r (.str o1.Name),.r (.str o1.Value)])),(1000,some (.box gb1000 3 [rI (c1)])),(1001,some (.box gb1001 22 [.own 1002 ga1002])),(1002,some (.arr ga1002 46 8 (c2.map AD.row))),(1003,some (.box gb1003 3 [rI (c3)]))],n1,16⟩) ?_
 refine aR (sQ R (Zc (a:=.own 1002 ga1002) R Hh iL R R) (sQ R (DM R B1 iL R R) (Zg R R R (BW 14 R Ak (f:=AD.row) (l:=([(AD.mk x1 c3 o1.Kind o1.Item o1.Parent o1.Place o1.Name o1.Value)]:List AD)) ⟨R,⟨_,iL,R⟩,Za⟩ R (fun _=>R) R) (Zk h1 fun l1 el1 h2=>(Zg R R R (Bg R Ak iL R (.inr (.inl ⟨_,_,iL,R⟩)) el1) (Zz R R (ZI (ds:=[.own 1002 (n1+1)]) R Sp iL R iL R R R R) ?_))))))
 refine Zm ?_
 exact CE.mk (s':=⟨[],[(1000,some (.box gb1000 3 [rI (c1)])),(1001,some (.box gb1001 22 [.own 1002 (n1+1)])),(1002,some (.arr (n1+1) 46 8 (l1.map AD.row))),(1003,some (.box gb1003 3 [rI (c3)]))],(n1+2),16⟩) ((by exact Ze Za ⟨.inl R,.inl R,.inl R,.inl R,Za⟩ nL)) (Cr (fun (r:(List AD)) rr h'=>∃ (i:Nat→Nat),rr = .tup []∧h'=[(1000,some (.box gb1000 3 [rI (c1)])),(1001,some (.box gb1001 22 [.own 1002 (i 0)])),(1002,some (.arr (i 0) 46 8 (r.map AD.row))),(1003,some (.box gb1003 3 [rI (c3)]))]) h2 (by exact ⟨.tup [],[(1000,some (.box gb1000 3 [rI (c1)])),(1001,some (.box gb1001 22 [.own 1002 (n1+1)])),(1002,some (.arr (n1+1) 46 8 (l1.map AD.row))),(1003,some (.box gb1003 3 [rI (c3)]))],⟨_,R,Za⟩,⟨.inr R,.inr R,.inr R,.inr R,Za⟩,R,R,AI [(n1+1)],R,R⟩))
theorem Mc {c1:List AC} {x1:AC} {y1:AC} {r:(List AC)} {gb1000:Nat} {ga1001:Nat} (h:Gq c1 x1 y1=some r):A8 Try.prog 62 2 [.agg [.r (.str x1.Name), .r (.str x1.Value)],.agg [.r (.str y1.Name), .r (.str y1.Value)],.ptr 1000 gb1000 0 0] [(1000,some (.box gb1000 53 [.own 1001 ga1001])),(1001,some (.arr ga1001 80 2 (c1.map AC.row)))] (fun rr h'=>∃ (i:Nat→Nat),rr = .tup []∧h'=[(1000,some (.box gb1000 53 [.own 1001 (i 0)])),(1001,some (.arr (i 0) 80 2 (r.map AC.row)))]):=by
 unfold Gq at h
 refine Es Try.func62 R R Try.ntmps62 (Zi R) fun n0=>?_
 refine aS fun _ hK1 _=>(aR (Zg R R R (CS (cs:=[.r (.str x1.Name), .r (.str x1.Value)]) 3 R iL R R) (Zg R R R (CS (cs:=[.r (.str y1.Name), .r (.str y1.Value)]) 4 R iL R R) (aZ (hK1 _ ?_)))))
 refine Zj (aS fun _ hK2 _=>(aR (sQ R (fB R CI iL fR R) (sQ R (Zc (a:=.r (.str y1.Name)) R Aj iL R R) (sQ R (EP R iL iL) (sA R R (aZ (hK2 _ ?_))))))))
 refine aC R (fun hc1=>?_) (fun hc1=>?_)
 ·have h1:=Zo hc1 h
  refine aR (sQ R (Zc (a:=.own 1001 ga1001) R Dk iL R R) (sQ R (fB R CI iL fR R) (sQ R (Zc (a:=.r (.str x1.Name)) R Aj iL R R) ?_)))
  refine sQ R (CX R FS (q:=[(0,_)]) (by exact ⟨R,R,R,iL,Za⟩) (cs:=[.r (.str x1.Name),.r (.str [])]) (by rfl)) ?_
  refine Zg R R R (BW 13 R Ah (f:=AC.row) (l:=([(AC.mk x1.Name [])]:List AC)) ⟨R,⟨_,iL,R⟩,Za⟩ R (fun _=>R) R) (Zk h1 fun l1 el1 h2=>(Zg R R R (Bg R Ah iL R (.inr (.inl ⟨_,_,iL,R⟩)) el1) (Zz R R (ZI (ds:=[.own 1001 (n0+3)]) R Gh iL R iL R R R R) ?_)))
  refine Zm ?_
  exact CE.mk (s':=⟨[],[(1000,some (.box gb1000 53 [.own 1001 (n0+3)])),(1001,some (.arr (n0+3) 80 2 (l1.map AC.row)))],(n0+4),23⟩) ((by exact Ze Za ⟨.inl R,.inl R,Za⟩ nL)) (Cr (fun (r:(List AC)) rr h'=>∃ (i:Nat→Nat),rr = .tup []∧h'=[(1000,some (.box gb1000 53 [.own 1001 (i 0)])),(1001,some (.arr (i 0) 80 2 (r.map AC.row)))]) h2 (by exact ⟨.tup [],[(1000,some (.box gb1000 53 [.own 1001 (n0+3)])),(1001,some (.arr (n0+3) 80 2 (l1.map AC.row)))],⟨_,R,Za⟩,⟨.inr R,.inr R,Za⟩,R,R,AI [(n0+3)],R,R⟩))
 ·have h1:=Zp hc1 h
  refine aS fun _ hK3 _=>(aR (sQ R (DM R Bw iL R R) (sQ R (DM R Bw iL R R) (sQ R (LR R NN iL iL R) (sA R R (aZ (hK3 _ ?_)))))))
  refine aC R (fun hc2=>?_) (fun hc2=>?_)
  ·have h3:=Zo hc2 h1
   refine aK (s':=⟨[(2,.ptr 1000 gb1000 0 0),(4,.ptr 4 (n0+1) 0 0)],[(4,some (.box (n0+1) 80 [.r (.str y1.Name), .r (.str y1.Value)])),(1000,some (.box gb1000 53 [.own 1001 ga1001])),(1001,some (.arr ga1001 80 2 (c1.map AC.row)))],(n0+2),23⟩) ?_
   refine aR (sQ R (Zc (a:=.own 1001 ga1001) R Dk iL R R) (sQ R (DM R Bw iL R R) (Zg R R R (BW 21 R Ah (f:=AC.row) (l:=([y1]:List AC)) ⟨R,⟨_,iL,R⟩,Za⟩ R (fun _=>R) R) (Zk h3 fun l2 el2 h4=>(Zg R R R (Bg R Ah iL R (.inr (.inl ⟨_,_,iL,R⟩)) el2) (Zz R R (ZI (ds:=[.own 1001 (n0+3)]) R Gh iL R iL R R R R) ?_))))))
   refine Zm ?_
   exact CE.mk (s':=⟨[],[(1000,some (.box gb1000 53 [.own 1001 (n0+3)])),(1001,some (.arr (n0+3) 80 2 (l2.map AC.row)))],(n0+4),23⟩) ((by exact Ze Za ⟨.inl R,.inl R,Za⟩ nL)) (Cr (fun (r:(List AC)) rr h'=>∃ (i:Nat→Nat),rr = .tup []∧h'=[(1000,some (.box gb1000 53 [.own 1001 (i 0)])),(1001,some (.arr (i 0) 80 2 (r.map AC.row)))]) h4 (by exact ⟨.tup [],[(1000,some (.box gb1000 53 [.own 1001 (n0+3)])),(1001,some (.arr (n0+3) 80 2 (l2.map AC.row)))],⟨_,R,Za⟩,⟨.inr R,.inr R,Za⟩,R,R,AI [(n0+3)],R,R⟩))
  ·have h3:=Zp hc2 h1
   refine Zl ?_
   exact CE.mk (s':=⟨[],[(1000,some (.box gb1000 53 [.own 1001 ga1001])),(1001,some (.arr ga1001 80 2 (c1.map AC.row)))],(n0+2),23⟩) ((by exact Ze Za ⟨.inl R,.inl R,Za⟩ nL)) (Cr (fun (r:(List AC)) rr h'=>∃ (i:Nat→Nat),rr = .tup []∧h'=[(1000,some (.box gb1000 53 [.own 1001 (i 0)])),(1001,some (.arr (i 0) 80 2 (r.map AC.row)))]) h3 (by exact ⟨.tup [],[(1000,some (.box gb1000 53 [.own 1001 ga1001])),(1001,some (.arr ga1001 80 2 (c1.map AC.row)))],⟨_,R,Za⟩,⟨.inr R,.inr R,Za⟩,R,R,AI [ga1001],R,R⟩))
theorem Qh {c1:List AC} {a1:List AC} {b1:List AC} {r:(List AC)} {gb1000:Nat} {ga1001:Nat} (h:Hz c1 a1 b1=some r):A8 Try.prog 61 2 [qb a1,qb b1,.fn 62 [.ptr 1000 gb1000 0 0]] [(1000,some (.box gb1000 53 [.own 1001 ga1001])),(1001,some (.arr ga1001 80 2 (c1.map AC.row)))] (fun rr h'=>∃ (i:Nat→Nat),rr = .tup []∧h'=[(1000,some (.box gb1000 53 [.own 1001 (i 0)])),(1001,some (.arr (i 0) 80 2 (r.map AC.row)))]):=by
 unfold Hz at h
 refine Es Try.func61 R R Try.ntmps61 (Zi R) fun n0=>?_
 refine aS fun _ hK1 _=>(aR (sA R R (sA R R (aZ (hK1 _ ?_)))))
 refine Zj ?_
 refine Be h fun o4 hit1 hk1 he1=>?_
 refine F9 (fun (i4:Int) (j2:Int) (o2:List AC) i5=>⟨[(0,qb a1),(1,qb b1),(2,.fn 62 [.ptr 1000 gb1000 0 0]),(6,rI (i4)),(7,rI (j2))],[(1000,some (.box gb1000 53 [.own 1001 (i5 0)])),(1001,some (.arr (i5 0) 80 2 (o2.map AC.row)))],(i5 1),92⟩) (AI [ga1001,n0]) hit1 ((by exact Ze ⟨jL,jL,jL,jL,jL,Za⟩ ⟨.inl R,.inl R,Za⟩ nL)) ?_
 intro i4 j2 o2 i5 v1 hv1 hx1
 have h1:Hs a1 b1 i4 j2 o2=some v1:=hv1; unfold Hs at h1
 refine aS fun _ hK2 _=>(aS fun _ hK3 _=>(aR (sM R R (sM R R (sQ R (ZD R Ah.slice iL) (sQ R (Zs R iL iL) (sM R R (sV R R R (Zd R iL) (sV R R R (Zd R iL) (sV R R R (ZD R Ah.slice (iR R)) (sV R R R (Zs R (iR R) (iR R)) (sQ R (ZF R iL (iR R)) (aZ (hK3 _ ?_))))))))))))))
 refine aC R (fun hc1=>?_) (fun hc1=>?_)
 ·have h2:=Zo hc1 h1
  refine Zl (hK2 _ ?_)
  refine Zj (Zj (aS fun _ hK4 _=>?_))
  refine ZQ BD (by kernel_rfl) ?_
  refine Zh R R R (Zd R iL) (Zh R R R (Zd R iL) (Zh R R R (ZD R Ah.slice iL) (Zh R R R (ZM R iL iL) (Zh R R R (Zd R iL) ?_))))
  refine Zf (.one R R R) R R (Zd R iL) ?_
  refine Zf (.one R R R) R R (Zd R iL) ?_
  refine Zf (.one R R R) R R (ZD R Ah.slice (iR R)) ?_
  refine Zf (.one R R R) R R (Zs R (iR R) (iR R)) ?_
  refine Zf (.one R R R) R R (Zd R (iR R)) ?_
  refine Zf (.two R R R) R R (Zd R iL) ?_
  refine Zf (.two R R R) R R (Zd R iL) ?_
  refine Zk h2 fun x1 ex1 h3=>?_
  refine Zf (.two R R R) R R (Zt R Ah.slice (iR R) (iR R) (fun _=>R) (Ai ex1)) ?_
  refine Zf (.two R R R) R R (Zn R CI (iR R)) ?_
  refine Zf (.two R R R) R R (Zy (d:=.str x1.Name) R Aj (iR R) R) ?_
  refine Zf (.two R R R) R R (Zd R iL) ?_
  refine Zf (.two R R R) R R (Zd R iL) ?_
  refine Zk h3 fun x2 ex2 h4=>?_
  refine Zf (.two R R R) R R (Zt R Ah.slice (iR R) (iR R) (fun _=>R) (Ai ex2)) ?_
  refine Zf (.two R R R) R R (Zn R CI (iR R)) ?_
  refine Zf (.two R R R) R R (Zy (d:=.str x2.Name) R Aj (iR R) R) ?_
  refine Zf (.two R R R) R R (HH R (iR R) (iR R)) ?_
  refine Zf (.one R R R) R R (ZB R (iR R) (iR R)) ?_
  refine Zh R R R (ZF R iL (iR R)) (Zh R R R (CZ R iL) ?_)
  refine AQ.nil ?_
  refine hK4 _ ?_
  refine aC R (fun hc2=>?_) (fun hc2=>?_)
  ·have h5:=Zo hc2 h4
   refine aS fun _ hK5 _=>?_
   refine aK (s':=⟨[(0,qb a1),(1,qb b1),(2,.fn 62 [.ptr 1000 gb1000 0 0]),(6,rI (i4)),(7,rI (j2))],[(1000,some (.box gb1000 53 [.own 1001 (i5 0)])),(1001,some (.arr (i5 0) 80 2 (o2.map AC.row)))],(i5 1),92⟩) ?_
   refine aR (sM R R (sM R R (sM R R (Zk h5 fun x3 ex3 h6=>(sQ R (Zt R Ah.slice iL iL (fun _=>R) (fun _=>ex3)) (sQ R (ZH (cs:=[.r (.str x3.Name), .r (.str x3.Value)]) R Bw iL R R) ?_))))))
   refine sQ R (CX R FS (q:=[]) (by exact Za) (cs:=[.r (.str []),.r (.str [])]) (by rfl)) ?_
   refine Zk h6 fun w1 ew1 h7=>?_
   refine CH [1000,1001] (hc:=[(1000,some (.box gb1000 53 [.own 1001 (i5 0)])),(1001,some (.arr (i5 0) 80 2 (o2.map AC.row)))]) (bs:=[.agg [.r (.str x3.Name), .r (.str x3.Value)],.agg [.r (.str []),.r (.str [])]]) (caps:=[.ptr 1000 gb1000 0 0]) R R R R iL R ⟨.inl ⟨iL,R⟩,.inl ⟨iL,R⟩,Za⟩ ⟨R,R,R,R,R,R,Za⟩ (by decide) (Mc ew1) ?_
   intro i8 n1
   refine BX (s':=⟨[(0,qb a1),(1,qb b1),(2,.fn 62 [.ptr 1000 gb1000 0 0]),(6,rI (i4)),(7,rI (j2)),(56,.fn 62 [.ptr 1000 gb1000 0 0]),(57,qb a1),(58,rI (i4)),(59,.rop (AC.row x3) 0),(60,.agg [.r (.str x3.Name), .r (.str x3.Value)]),(61,.agg [.r (.str []),.r (.str [])]),(62,.tup [])],[(1000,some (.box gb1000 53 [.own 1001 (i8 0)])),(1001,some (.arr (i8 0) 80 2 (w1.map AC.row)))],n1,92⟩) ?_
   refine aZ (hK5 _ ?_)
   refine aR (sM R R (Zk h7 fun i9 ei9 h8=>(sQ R (ZA R iL iL (fun _=>ei9)) (sA R R ?_))))
   refine Zm ?_
   exact Cq.mk h8 (AI [(i8 0),n1]) ((by exact Ze ⟨jL,jL,jL,jL,jL,Za⟩ ⟨.inl R,.inl R,Za⟩ nL))
  ·have h5:=Zp hc2 h4
   refine aS fun _ hK6 _=>?_
   refine aK (s':=⟨[(0,qb a1),(1,qb b1),(2,.fn 62 [.ptr 1000 gb1000 0 0]),(6,rI (i4)),(7,rI (j2))],[(1000,some (.box gb1000 53 [.own 1001 (i5 0)])),(1001,some (.arr (i5 0) 80 2 (o2.map AC.row)))],(i5 1),92⟩) ?_
   refine ZQ BD (by kernel_rfl) ?_
   refine Zh R R R (Zd R iL) (Zh R R R (Zd R iL) (Zh R R R (ZD R Ah.slice iL) (Zh R R R (ZM R iL iL) (Zh R R R (Zd R iL) ?_))))
   refine Zf (.one R R R) R R (Zd R iL) ?_
   refine Zf (.one R R R) R R (Zd R iL) ?_
   refine Zk h5 fun x4 ex4 h9=>?_
   refine Zf (.one R R R) R R (Zt R Ah.slice (iR R) (iR R) (fun _=>R) (Ai ex4)) ?_
   refine Zf (.one R R R) R R (Zn R CI (iR R)) ?_
   refine Zf (.one R R R) R R (Zy (d:=.str x4.Name) R Aj (iR R) R) ?_
   refine Zf (.one R R R) R R (Zd R iL) ?_
   refine Zf (.one R R R) R R (Zd R iL) ?_
   refine Zk h9 fun x5 ex5 h10=>?_
   refine Zf (.one R R R) R R (Zt R Ah.slice (iR R) (iR R) (fun _=>R) (Ai ex5)) ?_
   refine Zf (.one R R R) R R (Zn R CI (iR R)) ?_
   refine Zf (.one R R R) R R (Zy (d:=.str x5.Name) R Aj (iR R) R) ?_
   refine Zf (.one R R R) R R (HH R (iR R) (iR R)) ?_
   refine Zh R R R (ZF R iL (iR R)) (Zh R R R (CZ R iL) ?_)
   refine AQ.nil ?_
   refine hK6 _ ?_
   refine aC R (fun hc3=>?_) (fun hc3=>?_)
   ·have h11:=Zo hc3 h10
    refine aS fun _ hK7 _=>(aR (sM R R ?_))
    refine sQ R (CX R FS (q:=[]) (by exact Za) (cs:=[.r (.str []),.r (.str [])]) (by rfl)) ?_
    refine sM R R (sM R R (Zk h11 fun x6 ex6 h12=>(sQ R (Zt R Ah.slice iL iL (fun _=>R) (fun _=>ex6)) (sQ R (ZH (cs:=[.r (.str x6.Name), .r (.str x6.Value)]) R Bw iL R R) (Zk h12 fun w2 ew2 h13=>?_)))))
    refine CH [1000,1001] (hc:=[(1000,some (.box gb1000 53 [.own 1001 (i5 0)])),(1001,some (.arr (i5 0) 80 2 (o2.map AC.row)))]) (bs:=[.agg [.r (.str []),.r (.str [])],.agg [.r (.str x6.Name), .r (.str x6.Value)]]) (caps:=[.ptr 1000 gb1000 0 0]) R R R R iL R ⟨.inl ⟨iL,R⟩,.inl ⟨iL,R⟩,Za⟩ ⟨R,R,R,R,R,R,Za⟩ (by decide) (Mc ew2) ?_
    intro i10 n2
    refine BX (s':=⟨[(0,qb a1),(1,qb b1),(2,.fn 62 [.ptr 1000 gb1000 0 0]),(6,rI (i4)),(7,rI (j2)),(65,rB (((decide (i4=(a1.length:Int))) || (Ae x4.Name x5.Name)))),(66,rI (i4)),(67,qb a1),(68,rI ((a1.length:Int))),(69,rB ((decide (i4=(a1.length:Int))))),(70,rB ((decide (i4=(a1.length:Int))))),(82,rB (((decide (i4=(a1.length:Int))) || (Ae x4.Name x5.Name)))),(83,.fn 62 [.ptr 1000 gb1000 0 0]),(84,.agg [.r (.str []),.r (.str [])]),(85,qb b1),(86,rI (j2)),(87,.rop (AC.row x6) 0),(88,.agg [.r (.str x6.Name), .r (.str x6.Value)]),(89,.tup [])],[(1000,some (.box gb1000 53 [.own 1001 (i10 0)])),(1001,some (.arr (i10 0) 80 2 (w2.map AC.row)))],n2,92⟩) ?_
    refine aZ (hK7 _ ?_)
    refine aK (s':=⟨[(0,qb a1),(1,qb b1),(2,.fn 62 [.ptr 1000 gb1000 0 0]),(6,rI (i4)),(7,rI (j2))],[(1000,some (.box gb1000 53 [.own 1001 (i10 0)])),(1001,some (.arr (i10 0) 80 2 (w2.map AC.row)))],n2,92⟩) ?_
    refine aR (sM R R (Zk h13 fun j4 ej4 h14=>(sQ R (ZA R iL iL (fun _=>ej4)) (sA R R ?_))))
    refine Zm ?_
    exact Cq.mk h14 (AI [(i10 0),n2]) ((by exact Ze ⟨jL,jL,jL,jL,jL,Za⟩ ⟨.inl R,.inl R,Za⟩ nL))
   ·have h11:=Zp hc3 h10
    refine aS fun _ hK8 _=>?_
    refine Mu 9 BD (by kernel_rfl) R R ?_
    refine AT.step R R R (Zd R iL) ?_
    refine AT.step R R R (Zd R iL) ?_
    refine AT.step R R R (Zd R iL) ?_
    refine Zk h11 fun x7 ex7 h15=>?_
    refine AT.step R R R (Zt R Ah.slice iL iL (fun _=>R) (fun _=>ex7)) ?_
    refine AT.step R R R (ZH (cs:=[.r (.str x7.Name), .r (.str x7.Value)]) R Bw iL R R) ?_
    refine AT.step R R R (Zd R iL) ?_
    refine AT.step R R R (Zd R iL) ?_
    refine Zk h15 fun x8 ex8 h16=>?_
    refine AT.step R R R (Zt R Ah.slice iL iL (fun _=>R) (fun _=>ex8)) ?_
    refine AT.step R R R (ZH (cs:=[.r (.str x8.Name), .r (.str x8.Value)]) R Bw iL R R) ?_
    refine AT.nil ?_
    refine Zk h16 fun w3 ew3 h17=>?_
    refine CH [1000,1001] (hc:=[(1000,some (.box gb1000 53 [.own 1001 (i5 0)])),(1001,some (.arr (i5 0) 80 2 (o2.map AC.row)))]) (bs:=[.agg [.r (.str x7.Name), .r (.str x7.Value)],.agg [.r (.str x8.Name), .r (.str x8.Value)]]) (caps:=[.ptr 1000 gb1000 0 0]) R R R R iL R ⟨.inl ⟨iL,R⟩,.inl ⟨iL,R⟩,Za⟩ ⟨R,R,R,R,R,R,Za⟩ (by decide) (Mc ew3) ?_
    intro i11 n3
    refine BX (s':=⟨[(0,qb a1),(1,qb b1),(2,.fn 62 [.ptr 1000 gb1000 0 0]),(6,rI (i4)),(7,rI (j2)),(18,.fn 62 [.ptr 1000 gb1000 0 0]),(19,qb a1),(20,rI (i4)),(21,.rop (AC.row x7) 0),(22,.agg [.r (.str x7.Name), .r (.str x7.Value)]),(23,qb b1),(24,rI (j2)),(25,.rop (AC.row x8) 0),(26,.agg [.r (.str x8.Name), .r (.str x8.Value)]),(27,.tup []),(65,rB (((decide (i4=(a1.length:Int))) || (Ae x4.Name x5.Name)))),(66,rI (i4)),(67,qb a1),(68,rI ((a1.length:Int))),(69,rB ((decide (i4=(a1.length:Int))))),(70,rB ((decide (i4=(a1.length:Int))))),(82,rB (((decide (i4=(a1.length:Int))) || (Ae x4.Name x5.Name))))],[(1000,some (.box gb1000 53 [.own 1001 (i11 0)])),(1001,some (.arr (i11 0) 80 2 (w3.map AC.row)))],n3,92⟩) ?_
    refine aZ (hK8 _ ?_)
    refine aK (s':=⟨[(0,qb a1),(1,qb b1),(2,.fn 62 [.ptr 1000 gb1000 0 0]),(6,rI (i4)),(7,rI (j2))],[(1000,some (.box gb1000 53 [.own 1001 (i11 0)])),(1001,some (.arr (i11 0) 80 2 (w3.map AC.row)))],n3,92⟩) ?_
    refine aR (sM R R (Zk h17 fun i12 ei12 h18=>(sQ R (ZA R iL iL (fun _=>ei12)) (sM R R (Zk h18 fun j5 ej5 h19=>(sQ R (ZA R iL iL (fun _=>ej5)) (sA R R (sA R R ?_))))))))
    refine Zm ?_
    exact Cq.mk h19 (AI [(i11 0),n3]) ((by exact Ze ⟨jL,jL,jL,jL,jL,Za⟩ ⟨.inl R,.inl R,Za⟩ nL))
 ·have h2:=Zp hc1 h1
  refine Zx ?_
  exact CE.mk (s':=⟨[],[(1000,some (.box gb1000 53 [.own 1001 (i5 0)])),(1001,some (.arr (i5 0) 80 2 (o2.map AC.row)))],(i5 1),92⟩) ((by exact Ze Za ⟨.inl R,.inl R,Za⟩ nL)) (Cr (fun (r:(List AC)) rr h'=>∃ (i:Nat→Nat),rr = .tup []∧h'=[(1000,some (.box gb1000 53 [.own 1001 (i 0)])),(1001,some (.arr (i 0) 80 2 (r.map AC.row)))]) (he1 _ (hx1 _ (Zb h2).symm)) (by exact ⟨.tup [],[(1000,some (.box gb1000 53 [.own 1001 (i5 0)])),(1001,some (.arr (i5 0) 80 2 (o2.map AC.row)))],⟨_,R,Za⟩,⟨.inr R,.inr R,Za⟩,R,R,AI [(i5 0)],R,R⟩))
theorem UB {a1:List AC} {b1:List AC} {r:(List AC)} (h:I9 a1 b1=some r):Aq Try.prog 41 [qb a1,qb b1] (qb r):=by
 unfold I9 at h
 refine ZJ Try.func41 R R Try.ntmps41 R (Zi R) fun n0=>?_
 refine aS fun _ hK1 _=>(aR (sA R R (aZ (hK1 _ ?_))))
 refine aS fun _ hK2 _=>(aR (Zg R R R (Bz (cs:=[cZ]) 5 R Hv R R) (aZ (hK2 _ ?_))))
 refine aS fun _ hK3 _=>(aR (sM R R (sM R R ?_)))
 refine sQ R (Ii (bs:=[.ptr 5 n0 0 0]) R (by exact ⟨iL,Za⟩)) ?_
 refine AS.weak (ZG (Ku 5 0 3050 80 2 (by decide) R R (by decide)) (by exact Ze (e':=[(0,qb a1),(1,qb b1),(4,cZ),(5,.ptr 5 n0 0 0),(6,qb a1),(7,qb b1),(8,.fn 62 [.ptr 5 n0 0 0])]) (h':=[(5,some (.box n0 53 [.own 3050 (n0+1)])),(3050,some (.arr (n0+1) 80 2 (([]:List AC).map AC.row)))]) ⟨jL,jL,jL,jL,jL,jL,jL,Za⟩ ⟨.inl R,.inl R,Za⟩ nL)) ?_
 refine Zk h fun w1 ew1 h1=>?_
 refine CH [5,3050] (hc:=[(1000,some (.box n0 53 [.own 1001 (n0+1)])),(1001,some (.arr (n0+1) 80 2 (([]:List AC).map AC.row)))]) (bs:=[qb a1,qb b1,.fn 62 [.ptr 1000 n0 0 0]]) (caps:=[]) R R R R iL R ⟨.inl ⟨iL,R⟩,.inl ⟨iL,R⟩,.inl ⟨iL,R⟩,Za⟩ ⟨R,R,R,R,R,R,Za⟩ (by decide) (Qh ew1) ?_
 intro i1 n1
 refine BX (s':=⟨[(0,qb a1),(1,qb b1),(4,cZ),(5,.ptr 5 n0 0 0),(6,qb a1),(7,qb b1),(8,.fn 62 [.ptr 5 n0 0 0]),(9,.tup [])],[(5,some (.box n0 53 [.own 3050 (i1 0)])),(3050,some (.arr (i1 0) 80 2 (w1.map AC.row)))],n1,11⟩) ?_
 refine aZ (hK3 _ ?_)
 refine aS fun _ hK4 _=>(aR (sQ R (Zc (a:=.own 3050 (i1 0)) R Dk iL R R) (sA R R (aZ (hK4 _ ?_)))))
 refine Zr ?_
 exact Dl (P:=Try.prog) (fun (r:(List AC))=>qb r) h1 iL (.t (.one (.own R)))
theorem SD {l1:List AD} {want1:List AD} {clock1:Int} {site1:Int} {r:(List AD) × Int} (h:Fu l1 want1 clock1 site1=some r):Aq Try.prog 20 [qa l1,qa want1,rI (clock1),rI (site1)] (.tup [qa r.1,rI (r.2)]):=by
 unfold Fu at h
 refine ZJ Try.func20 R R Try.ntmps20 R (Zi R) fun n0=>?_
 refine aS fun _ hK1 _=>(aR (Zg R R R (CS (cs:=[rI (clock1)]) 6 R iL R R) (Zg R R R (CS (cs:=[rI (site1)]) 7 R iL R R) (sA R R (sA R R (aZ (hK1 _ ?_)))))))
 refine aS fun K2 hK2 wK2=>(aS fun _ hK3 _=>(aR (sM R R (sM R R ?_))))
 refine sQ R (QC R Uj (q:=[(0,_),(1,_)]) (by exact ⟨R,R,R,iL,R,R,R,iL,Za⟩) (cs:=[qa l1,qa want1]) (by rfl)) ?_
 refine sM R R (aZ (hK3 _ ?_))
 refine Zj ?_
 refine Be h fun o1 hit1 hk1 he1=>?_
 have J1 : ∀ (u2:Unit) (i5:Nat→Nat),o1 = .nrm u2→K2 ⟨[(0,qa l1),(1,qa want1),(6,.ptr 6 n0 0 0),(7,.ptr 7 (n0+1) 0 0)],[(6,some (.box n0 3 [rI (clock1)])),(7,some (.box (n0+1) 3 [rI (site1)]))],(i5 0),243⟩:=by
  intro u2 i5 e
  have h1:=hk1 _ e
  refine hK2 _ ?_
  refine aS fun _ hK4 _=>(aS fun _ hK5 _=>?_)
  refine ZQ BD (by kernel_rfl) ?_
  refine Zh R R R (Zc (a:=rI (clock1)) R AP iL R R) (Zh R R R (Zs R iL iL) (Zh R R R (Zd R iL) ?_))
  refine Zf (.one R R R) R R (Zc (a:=rI (clock1)) R AP iL R R) ?_
  refine Zf (.one R R R) R R (A7 R (iR R) iL) ?_
  refine Zh R R R (ZF R iL (iR R)) (Zh R R R (Zd R iL) ?_)
  refine Zf (.one R R R) R R (Zc (a:=rI (site1)) R AP iL R R) ?_
  refine Zf (.one R R R) R R (Zs R (iR R) iL) ?_
  refine Zh R R R (ZF R iL (iR R)) (Zh R R R (Zd R iL) ?_)
  refine Zf (.one R R R) R R (Zc (a:=rI (site1)) R AP iL R R) ?_
  refine Zf (.one R R R) R R (A7 R (iR R) iL) ?_
  refine Zh R R R (ZF R iL (iR R)) (Zh R R R (Zd R iL) ?_)
  refine Zf (.one R R R) R R (Zd R iL) ?_
  refine Zf (.one R R R) R R (ZD R Ak.slice (iR R)) ?_
  refine Zf (.one R R R) R R (A7 R (iR R) iL) ?_
  refine Zf (.one R R R) R R (Zd R (iR R)) ?_
  refine Zf (.two R R R) R R (Zd R iL) ?_
  refine Zf (.two R R R) R R (Zd R iL) ?_
  refine Zf (.two R R R) R R (ZD R Ak.slice (iR R)) ?_
  refine Zk h1 fun x4 ex4 h2=>?_
  refine Zf (.two R R R) R R (D0 R (iR R) iL (Ai ex4)) ?_
  refine Zk h2 fun x5 ex5 h3=>?_
  refine Zf (.two R R R) R R (Zt R Ak.slice (iR R) (iR R) (fun _=>R) (Ai ex5)) ?_
  refine Zf (.two R R R) R R (Zn R C8 (iR R)) ?_
  refine Zf (.two R R R) R R (Zy (d:=.int .i64 x5.Clock) R AP (iR R) R) ?_
  refine Zf (.two R R R) R R (Zc (a:=rI (clock1)) R AP iL R R) ?_
  refine Zf (.two R R R) R R (Cf R (iR R) (iR R)) ?_
  refine Zf (.one R R R) R R (ZB R (iR R) (iR R)) ?_
  refine Zh R R R (ZF R iL (iR R)) ?_
  refine AQ.nil ?_
  refine hK5 _ ?_
  refine aC R (fun hc1=>?_) (fun hc1=>?_)
  ·have h4:=Zo hc1 h3
   refine aS fun _ hK6 _=>?_
   refine aK (s':=⟨[],[],(i5 0),243⟩) ?_
   refine aR (sA R R (sA R R (aZ (hK6 _ ?_))))
   refine Zr ?_
   exact Dc (P:=Try.prog) (fun (r:(List AD) × Int)=>qa r.1) (fun (r:(List AD) × Int)=>rI (r.2)) h4 iL (.t (.one (.nil))) (.t (.d R))
  ·have h4:=Zp hc1 h3
   refine Zl (hK4 _ ?_)
   refine aS fun _ hK7 _=>?_
   refine aK (s':=⟨[(0,qa l1),(1,qa want1),(6,.ptr 6 n0 0 0),(7,.ptr 7 (n0+1) 0 0)],[(6,some (.box n0 3 [rI (clock1)])),(7,some (.box (n0+1) 3 [rI (site1)]))],(i5 0),243⟩) ?_
   refine aR (sM R R (DW h4 fun w1 w2 ew1 h5=>?_))
   refine CH [77,9233,9234] (hc:=[]) (bs:=[qa l1]) (caps:=[]) R R R R iL R ⟨.inl ⟨iL,R⟩,Za⟩ Za (by decide) (PK ew1) ?_
   intro i6 n1
   refine BX (s':=⟨[(0,qa l1),(1,qa want1),(6,.ptr 6 n0 0 0),(7,.ptr 7 (n0+1) 0 0),(76,qa l1),(77,.ptr 77 (i6 0) 0 0)],[(6,some (.box n0 3 [rI (clock1)])),(7,some (.box (n0+1) 3 [rI (site1)])),(77,some (.box (i6 0) 76 [.mref 9233 (i6 1),.mref 9234 (i6 3)])),(9233,some (.mb (i6 1) (i6 2) 55 (AE AB.row w1))),(9234,some (.md (i6 3) (AE (fun (l:List AC)=>RV.sl (l.map AC.row)) w2)))],n1,243⟩) ?_
   refine sM R R (DW h5 fun w3 w4 ew3 h6=>?_)
   refine CH [79,9265,9266] (hc:=[]) (bs:=[qa want1]) (caps:=[]) R R R R iL R ⟨.inl ⟨iL,R⟩,Za⟩ Za (by decide) (PK ew3) ?_
   intro i7 n2
   refine BX (s':=⟨[(0,qa l1),(1,qa want1),(6,.ptr 6 n0 0 0),(7,.ptr 7 (n0+1) 0 0),(76,qa l1),(77,.ptr 77 (i6 0) 0 0),(78,qa want1),(79,.ptr 79 (i7 0) 0 0)],[(6,some (.box n0 3 [rI (clock1)])),(7,some (.box (n0+1) 3 [rI (site1)])),(77,some (.box (i6 0) 76 [.mref 9233 (i6 1),.mref 9234 (i6 3)])),(79,some (.box (i7 0) 76 [.mref 9265 (i7 1),.mref 9266 (i7 3)])),(9233,some (.mb (i6 1) (i6 2) 55 (AE AB.row w1))),(9234,some (.md (i6 3) (AE (fun (l:List AC)=>RV.sl (l.map AC.row)) w2))),(9265,some (.mb (i7 1) (i7 2) 55 (AE AB.row w3))),(9266,some (.md (i7 3) (AE (fun (l:List AC)=>RV.sl (l.map AC.row)) w4)))],n2,243⟩) ?_
   refine sA R R (sA R R (aZ (hK7 _ ?_)))
   refine aS fun _ hK8 _=>(aR (Zg R R R (Bz (cs:=[cZ]) 15 R QW R R) (aZ (hK8 _ ?_))))
   refine aS fun _ hK9 _=>(aR ?_)
   refine sQ R (Ii (bs:=[.ptr 6 n0 0 0,.ptr 15 n2 0 0,.ptr 7 (n0+1) 0 0]) R (by exact ⟨iL,iL,iL,Za⟩)) ?_
   refine sA R R (aZ (hK9 _ ?_))
   refine aS fun K10 hK10 wK10=>(aS fun _ hK11 _=>?_)
   refine aK (s':=⟨[(13,.ptr 77 (i6 0) 0 0),(14,.ptr 79 (i7 0) 0 0),(15,.ptr 15 n2 0 0),(16,.fn 38 [.ptr 6 n0 0 0,.ptr 15 n2 0 0,.ptr 7 (n0+1) 0 0])],[(6,some (.box n0 3 [rI (clock1)])),(7,some (.box (n0+1) 3 [rI (site1)])),(15,some (.box n2 22 [cZ])),(77,some (.box (i6 0) 76 [.mref 9233 (i6 1),.mref 9234 (i6 3)])),(79,some (.box (i7 0) 76 [.mref 9265 (i7 1),.mref 9266 (i7 3)])),(9233,some (.mb (i6 1) (i6 2) 55 (AE AB.row w1))),(9234,some (.md (i6 3) (AE (fun (l:List AC)=>RV.sl (l.map AC.row)) w2))),(9265,some (.mb (i7 1) (i7 2) 55 (AE AB.row w3))),(9266,some (.md (i7 3) (AE (fun (l:List AC)=>RV.sl (l.map AC.row)) w4)))],(n2+1),243⟩) ?_
   refine aR (sM R R (Zk h6 fun r1 er1 h7=>?_))
   refine CH [77,9233,9234] (hc:=[(1000,some (.box (i6 0) 76 [.mref 1001 (i6 1),.mref 1002 (i6 3)])),(1001,some (.mb (i6 1) (i6 2) 55 (AE AB.row w1))),(1002,some (.md (i6 3) (AE (fun (l:List AC)=>RV.sl (l.map AC.row)) w2)))]) (bs:=[.ptr 1000 (i6 0) 0 0]) (caps:=[]) R R R R iL R ⟨.inl ⟨iL,R⟩,Za⟩ ⟨R,R,R,R,R,R,R,R,R,Za⟩ (by decide) (Nq er1) ?_
   intro i8 n3
   refine BX (s':=⟨[(13,.ptr 77 (i6 0) 0 0),(14,.ptr 79 (i7 0) 0 0),(15,.ptr 15 n2 0 0),(16,.fn 38 [.ptr 6 n0 0 0,.ptr 15 n2 0 0,.ptr 7 (n0+1) 0 0]),(81,.ptr 77 (i6 0) 0 0),(82,qc r1)],[(6,some (.box n0 3 [rI (clock1)])),(7,some (.box (n0+1) 3 [rI (site1)])),(15,some (.box n2 22 [cZ])),(77,some (.box (i6 0) 76 [.mref 9233 (i6 1),.mref 9234 (i6 3)])),(79,some (.box (i7 0) 76 [.mref 9265 (i7 1),.mref 9266 (i7 3)])),(9233,some (.mb (i6 1) (i6 2) 55 (AE AB.row w1))),(9234,some (.md (i6 3) (AE (fun (l:List AC)=>RV.sl (l.map AC.row)) w2))),(9265,some (.mb (i7 1) (i7 2) 55 (AE AB.row w3))),(9266,some (.md (i7 3) (AE (fun (l:List AC)=>RV.sl (l.map AC.row)) w4)))],n3,243⟩) ?_
   refine sQ R (ZD R AZ.slice iL) (sM R R (aZ (hK11 _ ?_)))
   refine Zj ?_
   refine BB h7 fun o2 hit2 hk2=>?_
   have J2 : ∀ (out4:List AD) (i13:Nat→Nat),o2=out4→K10 ⟨[(13,.ptr 77 (i6 0) 0 0),(14,.ptr 79 (i7 0) 0 0),(15,.ptr 15 n2 0 0),(16,.fn 38 [.ptr 6 n0 0 0,.ptr 15 n2 0 0,.ptr 7 (n0+1) 0 0])],[(6,some (.box n0 3 [rI (clock1)])),(7,some (.box (n0+1) 3 [rI (site1)])),(15,some (.box n2 22 [.own 3150 (i13 0)])),(77,some (.box (i6 0) 76 [.mref 9233 (i6 1),.mref 9234 (i6 3)])),(79,some (.box (i7 0) 76 [.mref 9265 (i7 1),.mref 9266 (i7 3)])),(3150,some (.arr (i13 0) 46 8 (out4.map AD.row))),(9233,some (.mb (i6 1) (i6 2) 55 (AE AB.row w1))),(9234,some (.md (i6 3) (AE (fun (l:List AC)=>RV.sl (l.map AC.row)) w2))),(9265,some (.mb (i7 1) (i7 2) 55 (AE AB.row w3))),(9266,some (.md (i7 3) (AE (fun (l:List AC)=>RV.sl (l.map AC.row)) w4)))],(i13 1),243⟩:=by
    intro out4 i13 e
    have h8:=hk2 _ e
    refine hK10 _ ?_
    refine aS fun K12 hK12 wK12=>(aS fun _ hK13 _=>(aR (sM R R (Zk h8 fun r2 er2 h9=>?_))))
    refine CH [79,9265,9266] (hc:=[(1000,some (.box (i7 0) 76 [.mref 1001 (i7 1),.mref 1002 (i7 3)])),(1001,some (.mb (i7 1) (i7 2) 55 (AE AB.row w3))),(1002,some (.md (i7 3) (AE (fun (l:List AC)=>RV.sl (l.map AC.row)) w4)))]) (bs:=[.ptr 1000 (i7 0) 0 0]) (caps:=[]) R R R R iL R ⟨.inl ⟨iL,R⟩,Za⟩ ⟨R,R,R,R,R,R,R,R,R,Za⟩ (by decide) (Nq er2) ?_
    intro i14 n4
    refine BX (s':=⟨[(13,.ptr 77 (i6 0) 0 0),(14,.ptr 79 (i7 0) 0 0),(15,.ptr 15 n2 0 0),(16,.fn 38 [.ptr 6 n0 0 0,.ptr 15 n2 0 0,.ptr 7 (n0+1) 0 0]),(113,.ptr 79 (i7 0) 0 0),(114,qc r2)],[(6,some (.box n0 3 [rI (clock1)])),(7,some (.box (n0+1) 3 [rI (site1)])),(15,some (.box n2 22 [.own 3150 (i13 0)])),(77,some (.box (i6 0) 76 [.mref 9233 (i6 1),.mref 9234 (i6 3)])),(79,some (.box (i7 0) 76 [.mref 9265 (i7 1),.mref 9266 (i7 3)])),(3150,some (.arr (i13 0) 46 8 (out4.map AD.row))),(9233,some (.mb (i6 1) (i6 2) 55 (AE AB.row w1))),(9234,some (.md (i6 3) (AE (fun (l:List AC)=>RV.sl (l.map AC.row)) w2))),(9265,some (.mb (i7 1) (i7 2) 55 (AE AB.row w3))),(9266,some (.md (i7 3) (AE (fun (l:List AC)=>RV.sl (l.map AC.row)) w4)))],n4,243⟩) ?_
    refine sQ R (ZD R AZ.slice iL) (sM R R (aZ (hK13 _ ?_)))
    refine Zj ?_
    refine BB h9 fun o3 hit3 hk3=>?_
    have J3 : ∀ (out8:List AD) (i19:Nat→Nat),o3=out8→K12 ⟨[(13,.ptr 77 (i6 0) 0 0),(14,.ptr 79 (i7 0) 0 0),(15,.ptr 15 n2 0 0),(16,.fn 38 [.ptr 6 n0 0 0,.ptr 15 n2 0 0,.ptr 7 (n0+1) 0 0])],[(6,some (.box n0 3 [rI (clock1)])),(7,some (.box (n0+1) 3 [rI (site1)])),(15,some (.box n2 22 [.own 3150 (i19 0)])),(77,some (.box (i6 0) 76 [.mref 9233 (i6 1),.mref 9234 (i6 3)])),(79,some (.box (i7 0) 76 [.mref 9265 (i7 1),.mref 9266 (i7 3)])),(3150,some (.arr (i19 0) 46 8 (out8.map AD.row))),(9233,some (.mb (i6 1) (i6 2) 55 (AE AB.row w1))),(9234,some (.md (i6 3) (AE (fun (l:List AC)=>RV.sl (l.map AC.row)) w2))),(9265,some (.mb (i7 1) (i7 2) 55 (AE AB.row w3))),(9266,some (.md (i7 3) (AE (fun (l:List AC)=>RV.sl (l.map AC.row)) w4)))],(i19 1),243⟩:=by
     intro out8 i19 e
     have h10:=hk3 _ e
     refine hK12 _ ?_
     refine aS fun _ hK14 _=>(aR (Zg R R R (LQ RV.bool 160 R) (sA R R (aZ (hK14 _ ?_)))))
     refine aS fun _ hK15 _=>(aS fun _ hK16 _=>(aR (sM R R (sQ R (ZL (ob:=.box _ _ _) R iL fR R) (sQ R (fB R Gb iL fR R) (sQ R (Zc (a:=.mref 9234 (i6 3)) R Gp iL R R) (Zg R R R (Jk (ob:=.md (i6 3) (AE (fun (l:List AC)=>RV.sl (l.map AC.row)) w2)) 165 R Try.underlying74 (.inl rfl) R (Gk _ _ _) R) (aZ (hK16 _ ?_)))))))))
     refine AW.weak (s':=⟨[(13,.ptr 77 (i6 0) 0 0),(14,.ptr 79 (i7 0) 0 0),(15,.ptr 15 n2 0 0),(16,.fn 38 [.ptr 6 n0 0 0,.ptr 15 n2 0 0,.ptr 7 (n0+1) 0 0]),(25,.mref 160 (i19 1)),(165,.ptr 165 ((i19 1)+1) 0 0)],[(6,some (.box n0 3 [rI (clock1)])),(7,some (.box (n0+1) 3 [rI (site1)])),(15,some (.box n2 22 [.own 3150 (i19 0)])),(77,some (.box (i6 0) 76 [.mref 9233 (i6 1),.mref 9234 (i6 3)])),(79,some (.box (i7 0) 76 [.mref 9265 (i7 1),.mref 9266 (i7 3)])),(160,some (.md (i19 1) (AE RV.bool ([]:List (Int × Bool))))),(165,some (.mj ((i19 1)+1) 9234 (i6 3) ((w2.map (·.1)).length) [])),(3150,some (.arr (i19 0) 46 8 (out8.map AD.row))),(9233,some (.mb (i6 1) (i6 2) 55 (AE AB.row w1))),(9234,some (.md (i6 3) (AE (fun (l:List AC)=>RV.sl (l.map AC.row)) w2))),(9265,some (.mb (i7 1) (i7 2) 55 (AE AB.row w3))),(9266,some (.md (i7 3) (AE (fun (l:List AC)=>RV.sl (l.map AC.row)) w4)))],((i19 1)+2),243⟩) ((by exact Ze ⟨jL,jL,jL,jL,jL,jL,Za⟩ ⟨.inl R,.inl R,.inl R,.inl R,.inl R,.inl R,.inl R,.inl R,.inl R,.inl R,.inl R,.inl R,Za⟩ nL)) ?_
     refine Kt (mid:=9234) (mg:=(i6 3)) (key:=fun (_:(List (Int × Bool)))=>w2.map (·.1)) (F:=fun (a:(List (Int × Bool))) (k1:Int)=>Gd w2 a k1) (st0:=[]) 165 (fun (a:(List (Int × Bool))) i22=>[(13,.ptr 77 (i6 0) 0 0),(14,.ptr 79 (i7 0) 0 0),(15,.ptr 15 n2 0 0),(16,.fn 38 [.ptr 6 n0 0 0,.ptr 15 n2 0 0,.ptr 7 (n0+1) 0 0]),(25,.mref 160 (i19 1)),(165,.ptr 165 ((i19 1)+1) 0 0)]) (fun (a:(List (Int × Bool))) i22=>[(6,some (.box n0 3 [rI (clock1)])),(7,some (.box (n0+1) 3 [rI (site1)])),(15,some (.box n2 22 [.own 3150 (i19 0)])),(77,some (.box (i6 0) 76 [.mref 9233 (i6 1),.mref 9234 (i6 3)])),(79,some (.box (i7 0) 76 [.mref 9265 (i7 1),.mref 9266 (i7 3)])),(160,some (.md (i19 1) (AE RV.bool a))),(3150,some (.arr (i19 0) 46 8 (out8.map AD.row))),(9233,some (.mb (i6 1) (i6 2) 55 (AE AB.row w1))),(9234,some (.md (i6 3) (AE (fun (l:List AC)=>RV.sl (l.map AC.row)) w2))),(9265,some (.mb (i7 1) (i7 2) 55 (AE AB.row w3))),(9266,some (.md (i7 3) (AE (fun (l:List AC)=>RV.sl (l.map AC.row)) w4)))]) (fun i22=>(i22 0)) h10 ⟨(AI [((i19 1)+2)]),(by exact Ze ⟨jL,jL,jL,jL,jL,jL,Za⟩ ⟨.inl R,.inl R,.inl R,.inl R,.inl R,.inl R,.inl R,.inl R,.inl R,.inl R,.inl R,.inl R,Za⟩ nL)⟩ R R R R R R R R (fun _ _=>.inl R) (fun _ _=>R) (fun _ _=>R) (fun _ _=>⟨_,R,R,Gk _ _ _⟩) R (fun _ _=>R) ?_ ?_
     ·intro m2 k1 j1 ys1 st1 i22 hF1 hk4 hnd1 hl1
      have h11:Gd w2 m2 k1=some st1:=hF1; unfold Gd at h11
      refine aK (s':=⟨[(13,.ptr 77 (i6 0) 0 0),(14,.ptr 79 (i7 0) 0 0),(15,.ptr 15 n2 0 0),(16,.fn 38 [.ptr 6 n0 0 0,.ptr 15 n2 0 0,.ptr 7 (n0+1) 0 0]),(25,.mref 160 (i19 1)),(165,.ptr 165 ((i19 1)+1) 0 0)],[(6,some (.box n0 3 [rI (clock1)])),(7,some (.box (n0+1) 3 [rI (site1)])),(15,some (.box n2 22 [.own 3150 (i19 0)])),(77,some (.box (i6 0) 76 [.mref 9233 (i6 1),.mref 9234 (i6 3)])),(79,some (.box (i7 0) 76 [.mref 9265 (i7 1),.mref 9266 (i7 3)])),(160,some (.md (i19 1) (AE RV.bool m2))),(165,some (.mj ((i19 1)+1) 9234 (i6 3) ((w2.map (·.1)).length) (ys1++[j1]))),(3150,some (.arr (i19 0) 46 8 (out8.map AD.row))),(9233,some (.mb (i6 1) (i6 2) 55 (AE AB.row w1))),(9234,some (.md (i6 3) (AE (fun (l:List AC)=>RV.sl (l.map AC.row)) w2))),(9265,some (.mb (i7 1) (i7 2) 55 (AE AB.row w3))),(9266,some (.md (i7 3) (AE (fun (l:List AC)=>RV.sl (l.map AC.row)) w4)))],(i22 0),243⟩) ?_
      refine Zj (aS fun _ hK17 _=>(aR (Zk h11 fun v1 ev1 h12=>(sQ R (Mm R (.inl rfl) R R hl1 hk4 hnd1 (fun _=>ev1)) (sQ R (ZE (a:=rI (k1)) R iL R) (sA R R (aZ (hK17 _ ?_))))))))
      refine aR (sM R R (sM R R (Zz R R (KI (rd:=RV.bool) (a:=true) (.inl rfl) Try.underlying63 Try.underlying3 (.inl rfl) (.inl rfl) (.inl rfl) R) ?_)))
      refine Zm ?_
      show Exit.normal=Exit.normal ∧ ∃ i':Nat→Nat,Af _ _
      have hfin:=Zb h12; subst hfin
      exact ⟨R,(AI [(i22 0)]),(ZG (show Af _ ⟨[(13,.ptr 77 (i6 0) 0 0),(14,.ptr 79 (i7 0) 0 0),(15,.ptr 15 n2 0 0),(16,.fn 38 [.ptr 6 n0 0 0,.ptr 15 n2 0 0,.ptr 7 (n0+1) 0 0]),(25,.mref 160 (i19 1)),(165,.ptr 165 ((i19 1)+1) 0 0)],[(6,some (.box n0 3 [rI (clock1)])),(7,some (.box (n0+1) 3 [rI (site1)])),(15,some (.box n2 22 [.own 3150 (i19 0)])),(77,some (.box (i6 0) 76 [.mref 9233 (i6 1),.mref 9234 (i6 3)])),(79,some (.box (i7 0) 76 [.mref 9265 (i7 1),.mref 9266 (i7 3)])),(160,some (.md (i19 1) (AE RV.bool (Aw m2 k1 true)))),(165,some (.mj ((i19 1)+1) 9234 (i6 3) ((w2.map (·.1)).length) (ys1++[j1]))),(3150,some (.arr (i19 0) 46 8 (out8.map AD.row))),(9233,some (.mb (i6 1) (i6 2) 55 (AE AB.row w1))),(9234,some (.md (i6 3) (AE (fun (l:List AC)=>RV.sl (l.map AC.row)) w2))),(9265,some (.mb (i7 1) (i7 2) 55 (AE AB.row w3))),(9266,some (.md (i7 3) (AE (fun (l:List AC)=>RV.sl (l.map AC.row)) w4)))],(i22 0),243⟩ from (by exact Ze ⟨jL,jL,jL,jL,jL,jL,Za⟩ ⟨.inl R,.inl R,.inl R,.inl R,.inl R,.inl R,.inl R,.inl R,.inl R,.inl R,.inl R,.inl R,Za⟩ nL)) (by exact Ze ⟨jL,jL,jL,jL,jL,jL,Za⟩ ⟨.inl R,.inl R,.inl R,.inl R,.inl R,.inl R,.inl R,.inl R,.inl R,.inl R,.inl R,.inl R,Za⟩ nL))⟩
     intro m2 i22 h130
     have h13:=KK h130
     refine hK15 _ ?_
     refine aS fun _ hK18 _=>(aS fun _ hK19 _=>(aR (sM R R (sQ R (ZL (ob:=.box _ _ _) R iL fR R) (sQ R (fB R Gb iL fR R) (sQ R (Zc (a:=.mref 9266 (i7 3)) R Gp iL R R) (Zg R R R (Jk (ob:=.md (i7 3) (AE (fun (l:List AC)=>RV.sl (l.map AC.row)) w4)) 176 R Try.underlying74 (.inl rfl) R (Gk _ _ _) R) (aZ (hK19 _ ?_)))))))))
     refine AW.weak (s':=⟨[(13,.ptr 77 (i6 0) 0 0),(14,.ptr 79 (i7 0) 0 0),(15,.ptr 15 n2 0 0),(16,.fn 38 [.ptr 6 n0 0 0,.ptr 15 n2 0 0,.ptr 7 (n0+1) 0 0]),(25,.mref 160 (i19 1)),(176,.ptr 176 (i22 0) 0 0)],[(6,some (.box n0 3 [rI (clock1)])),(7,some (.box (n0+1) 3 [rI (site1)])),(15,some (.box n2 22 [.own 3150 (i19 0)])),(77,some (.box (i6 0) 76 [.mref 9233 (i6 1),.mref 9234 (i6 3)])),(79,some (.box (i7 0) 76 [.mref 9265 (i7 1),.mref 9266 (i7 3)])),(160,some (.md (i19 1) (AE RV.bool m2))),(176,some (.mj (i22 0) 9266 (i7 3) ((w4.map (·.1)).length) [])),(3150,some (.arr (i19 0) 46 8 (out8.map AD.row))),(9233,some (.mb (i6 1) (i6 2) 55 (AE AB.row w1))),(9234,some (.md (i6 3) (AE (fun (l:List AC)=>RV.sl (l.map AC.row)) w2))),(9265,some (.mb (i7 1) (i7 2) 55 (AE AB.row w3))),(9266,some (.md (i7 3) (AE (fun (l:List AC)=>RV.sl (l.map AC.row)) w4)))],((i22 0)+1),243⟩) ((by exact Ze ⟨jL,jL,jL,jL,jL,jL,Za⟩ ⟨.inl R,.inl R,.inl R,.inl R,.inl R,.inl R,.inl R,.inl R,.inl R,.inl R,.inl R,.inl R,Za⟩ nL)) ?_
     refine Kt (mid:=9266) (mg:=(i7 3)) (key:=fun (_:(List (Int × Bool)))=>w4.map (·.1)) (F:=fun (a:(List (Int × Bool))) (k2:Int)=>GA w4 a k2) (st0:=m2) 176 (fun (a:(List (Int × Bool))) i26=>[(13,.ptr 77 (i6 0) 0 0),(14,.ptr 79 (i7 0) 0 0),(15,.ptr 15 n2 0 0),(16,.fn 38 [.ptr 6 n0 0 0,.ptr 15 n2 0 0,.ptr 7 (n0+1) 0 0]),(25,.mref 160 (i19 1)),(176,.ptr 176 (i22 0) 0 0)]) (fun (a:(List (Int × Bool))) i26=>[(6,some (.box n0 3 [rI (clock1)])),(7,some (.box (n0+1) 3 [rI (site1)])),(15,some (.box n2 22 [.own 3150 (i19 0)])),(77,some (.box (i6 0) 76 [.mref 9233 (i6 1),.mref 9234 (i6 3)])),(79,some (.box (i7 0) 76 [.mref 9265 (i7 1),.mref 9266 (i7 3)])),(160,some (.md (i19 1) (AE RV.bool a))),(3150,some (.arr (i19 0) 46 8 (out8.map AD.row))),(9233,some (.mb (i6 1) (i6 2) 55 (AE AB.row w1))),(9234,some (.md (i6 3) (AE (fun (l:List AC)=>RV.sl (l.map AC.row)) w2))),(9265,some (.mb (i7 1) (i7 2) 55 (AE AB.row w3))),(9266,some (.md (i7 3) (AE (fun (l:List AC)=>RV.sl (l.map AC.row)) w4)))]) (fun i26=>(i26 0)) h13 ⟨(AI [((i22 0)+1)]),(by exact Ze ⟨jL,jL,jL,jL,jL,jL,Za⟩ ⟨.inl R,.inl R,.inl R,.inl R,.inl R,.inl R,.inl R,.inl R,.inl R,.inl R,.inl R,.inl R,Za⟩ nL)⟩ R R R R R R R R (fun _ _=>.inl R) (fun _ _=>R) (fun _ _=>R) (fun _ _=>⟨_,R,R,Gk _ _ _⟩) R (fun _ _=>R) ?_ ?_
     ·intro m5 k2 j2 ys2 st2 i26 hF2 hk5 hnd2 hl2
      have h14:GA w4 m5 k2=some st2:=hF2; unfold GA at h14
      refine aK (s':=⟨[(13,.ptr 77 (i6 0) 0 0),(14,.ptr 79 (i7 0) 0 0),(15,.ptr 15 n2 0 0),(16,.fn 38 [.ptr 6 n0 0 0,.ptr 15 n2 0 0,.ptr 7 (n0+1) 0 0]),(25,.mref 160 (i19 1)),(176,.ptr 176 (i22 0) 0 0)],[(6,some (.box n0 3 [rI (clock1)])),(7,some (.box (n0+1) 3 [rI (site1)])),(15,some (.box n2 22 [.own 3150 (i19 0)])),(77,some (.box (i6 0) 76 [.mref 9233 (i6 1),.mref 9234 (i6 3)])),(79,some (.box (i7 0) 76 [.mref 9265 (i7 1),.mref 9266 (i7 3)])),(160,some (.md (i19 1) (AE RV.bool m5))),(176,some (.mj (i22 0) 9266 (i7 3) ((w4.map (·.1)).length) (ys2++[j2]))),(3150,some (.arr (i19 0) 46 8 (out8.map AD.row))),(9233,some (.mb (i6 1) (i6 2) 55 (AE AB.row w1))),(9234,some (.md (i6 3) (AE (fun (l:List AC)=>RV.sl (l.map AC.row)) w2))),(9265,some (.mb (i7 1) (i7 2) 55 (AE AB.row w3))),(9266,some (.md (i7 3) (AE (fun (l:List AC)=>RV.sl (l.map AC.row)) w4)))],(i26 0),243⟩) ?_
      refine Zj (aS fun _ hK20 _=>(aR (Zk h14 fun v2 ev2 h15=>(sQ R (Mm R (.inl rfl) R R hl2 hk5 hnd2 (fun _=>ev2)) (sQ R (ZE (a:=rI (k2)) R iL R) (sA R R (aZ (hK20 _ ?_))))))))
      refine aR (sM R R (sM R R (Zz R R (KI (rd:=RV.bool) (a:=true) (.inl rfl) Try.underlying63 Try.underlying3 (.inl rfl) (.inl rfl) (.inl rfl) R) ?_)))
      refine Zm ?_
      show Exit.normal=Exit.normal ∧ ∃ i':Nat→Nat,Af _ _
      have hfin:=Zb h15; subst hfin
      exact ⟨R,(AI [(i26 0)]),(ZG (show Af _ ⟨[(13,.ptr 77 (i6 0) 0 0),(14,.ptr 79 (i7 0) 0 0),(15,.ptr 15 n2 0 0),(16,.fn 38 [.ptr 6 n0 0 0,.ptr 15 n2 0 0,.ptr 7 (n0+1) 0 0]),(25,.mref 160 (i19 1)),(176,.ptr 176 (i22 0) 0 0)],[(6,some (.box n0 3 [rI (clock1)])),(7,some (.box (n0+1) 3 [rI (site1)])),(15,some (.box n2 22 [.own 3150 (i19 0)])),(77,some (.box (i6 0) 76 [.mref 9233 (i6 1),.mref 9234 (i6 3)])),(79,some (.box (i7 0) 76 [.mref 9265 (i7 1),.mref 9266 (i7 3)])),(160,some (.md (i19 1) (AE RV.bool (Aw m5 k2 true)))),(176,some (.mj (i22 0) 9266 (i7 3) ((w4.map (·.1)).length) (ys2++[j2]))),(3150,some (.arr (i19 0) 46 8 (out8.map AD.row))),(9233,some (.mb (i6 1) (i6 2) 55 (AE AB.row w1))),(9234,some (.md (i6 3) (AE (fun (l:List AC)=>RV.sl (l.map AC.row)) w2))),(9265,some (.mb (i7 1) (i7 2) 55 (AE AB.row w3))),(9266,some (.md (i7 3) (AE (fun (l:List AC)=>RV.sl (l.map AC.row)) w4)))],(i26 0),243⟩ from (by exact Ze ⟨jL,jL,jL,jL,jL,jL,Za⟩ ⟨.inl R,.inl R,.inl R,.inl R,.inl R,.inl R,.inl R,.inl R,.inl R,.inl R,.inl R,.inl R,Za⟩ nL)) (by exact Ze ⟨jL,jL,jL,jL,jL,jL,Za⟩ ⟨.inl R,.inl R,.inl R,.inl R,.inl R,.inl R,.inl R,.inl R,.inl R,.inl R,.inl R,.inl R,Za⟩ nL))⟩
     intro m5 i26 h160
     have h16:=KK h160
     refine hK18 _ ?_
     refine aS fun _ hK21 _=>(aR (sA R R (aZ (hK21 _ ?_))))
     refine aS fun _ hK22 _=>(aS fun _ hK23 _=>(aR (sM R R (Zg R R R (Jk (ob:=.md (i19 1) (AE RV.bool m5)) 184 R Try.underlying63 (.inl rfl) R (Gk _ _ _) R) (aZ (hK23 _ ?_))))))
     refine AW.weak (s':=⟨[(13,.ptr 77 (i6 0) 0 0),(14,.ptr 79 (i7 0) 0 0),(15,.ptr 15 n2 0 0),(16,.fn 38 [.ptr 6 n0 0 0,.ptr 15 n2 0 0,.ptr 7 (n0+1) 0 0]),(28,.own 5028 ((i26 0)+1)),(184,.ptr 184 (i26 0) 0 0)],[(6,some (.box n0 3 [rI (clock1)])),(7,some (.box (n0+1) 3 [rI (site1)])),(15,some (.box n2 22 [.own 3150 (i19 0)])),(77,some (.box (i6 0) 76 [.mref 9233 (i6 1),.mref 9234 (i6 3)])),(79,some (.box (i7 0) 76 [.mref 9265 (i7 1),.mref 9266 (i7 3)])),(160,some (.md (i19 1) (AE RV.bool m5))),(184,some (.mj (i26 0) 160 (i19 1) ((m5.map (·.1)).length) [])),(3150,some (.arr (i19 0) 46 8 (out8.map AD.row))),(5028,some (.arr ((i26 0)+1) 3 1 (([]:List Int).map (Ad .i64)))),(9233,some (.mb (i6 1) (i6 2) 55 (AE AB.row w1))),(9234,some (.md (i6 3) (AE (fun (l:List AC)=>RV.sl (l.map AC.row)) w2))),(9265,some (.mb (i7 1) (i7 2) 55 (AE AB.row w3))),(9266,some (.md (i7 3) (AE (fun (l:List AC)=>RV.sl (l.map AC.row)) w4)))],((i26 0)+2),243⟩) (ZG (ZG (EW 28 5028 3 1 (by decide) R) (by exact Ze (e':=[(13,.ptr 77 (i6 0) 0 0),(14,.ptr 79 (i7 0) 0 0),(15,.ptr 15 n2 0 0),(16,.fn 38 [.ptr 6 n0 0 0,.ptr 15 n2 0 0,.ptr 7 (n0+1) 0 0]),(25,.mref 160 (i19 1)),(28,.own 5028 ((i26 0)+1)),(183,.mref 160 (i19 1)),(184,.ptr 184 (i26 0) 0 0)]) (h':=[(6,some (.box n0 3 [rI (clock1)])),(7,some (.box (n0+1) 3 [rI (site1)])),(15,some (.box n2 22 [.own 3150 (i19 0)])),(77,some (.box (i6 0) 76 [.mref 9233 (i6 1),.mref 9234 (i6 3)])),(79,some (.box (i7 0) 76 [.mref 9265 (i7 1),.mref 9266 (i7 3)])),(160,some (.md (i19 1) (AE RV.bool m5))),(184,some (.mj (i26 0) 160 (i19 1) ((m5.map (·.1)).length) [])),(3150,some (.arr (i19 0) 46 8 (out8.map AD.row))),(5028,some (.arr ((i26 0)+1) 3 1 (([]:List Int).map (Ad .i64)))),(9233,some (.mb (i6 1) (i6 2) 55 (AE AB.row w1))),(9234,some (.md (i6 3) (AE (fun (l:List AC)=>RV.sl (l.map AC.row)) w2))),(9265,some (.mb (i7 1) (i7 2) 55 (AE AB.row w3))),(9266,some (.md (i7 3) (AE (fun (l:List AC)=>RV.sl (l.map AC.row)) w4)))]) ⟨jL,jL,jL,jL,jL,jL,jL,jL,Za⟩ ⟨.inl R,.inl R,.inl R,.inl R,.inl R,.inl R,.inl R,.inl R,.inl R,.inl R,.inl R,.inl R,.inl R,Za⟩ nL)) (by exact Ze ⟨jL,jL,jL,jL,jL,jL,Za⟩ ⟨.inl R,.inl R,.inl R,.inl R,.inl R,.inl R,.inl R,.inl R,.inl R,.inl R,.inl R,.inl R,.inl R,Za⟩ nL)) ?_
     refine Kt (mid:=160) (mg:=(i19 1)) (key:=fun (_:(List Int))=>m5.map (·.1)) (F:=fun (a:(List Int)) (k3:Int)=>D1 m5 a k3) (st0:=[]) 184 (fun (a:(List Int)) i30=>[(13,.ptr 77 (i6 0) 0 0),(14,.ptr 79 (i7 0) 0 0),(15,.ptr 15 n2 0 0),(16,.fn 38 [.ptr 6 n0 0 0,.ptr 15 n2 0 0,.ptr 7 (n0+1) 0 0]),(28,.own 5028 (i30 0)),(184,.ptr 184 (i26 0) 0 0)]) (fun (a:(List Int)) i30=>[(6,some (.box n0 3 [rI (clock1)])),(7,some (.box (n0+1) 3 [rI (site1)])),(15,some (.box n2 22 [.own 3150 (i19 0)])),(77,some (.box (i6 0) 76 [.mref 9233 (i6 1),.mref 9234 (i6 3)])),(79,some (.box (i7 0) 76 [.mref 9265 (i7 1),.mref 9266 (i7 3)])),(160,some (.md (i19 1) (AE RV.bool m5))),(3150,some (.arr (i19 0) 46 8 (out8.map AD.row))),(5028,some (.arr (i30 0) 3 1 (a.map (Ad .i64)))),(9233,some (.mb (i6 1) (i6 2) 55 (AE AB.row w1))),(9234,some (.md (i6 3) (AE (fun (l:List AC)=>RV.sl (l.map AC.row)) w2))),(9265,some (.mb (i7 1) (i7 2) 55 (AE AB.row w3))),(9266,some (.md (i7 3) (AE (fun (l:List AC)=>RV.sl (l.map AC.row)) w4)))]) (fun i30=>(i30 1)) h16 ⟨(AI [((i26 0)+1),((i26 0)+2)]),(by exact Ze ⟨jL,jL,jL,jL,jL,jL,Za⟩ ⟨.inl R,.inl R,.inl R,.inl R,.inl R,.inl R,.inl R,.inl R,.inl R,.inl R,.inl R,.inl R,.inl R,Za⟩ nL)⟩ R R R R R R R R (fun _ _=>.inl R) (fun _ _=>R) (fun _ _=>R) (fun _ _=>⟨_,R,R,Gk _ _ _⟩) R (fun _ _=>R) ?_ ?_
     ·intro all2 k3 j3 ys3 st3 i30 hF3 hk6 hnd3 hl3
      have h17:D1 m5 all2 k3=some st3:=hF3; unfold D1 at h17
      refine aK (s':=⟨[(13,.ptr 77 (i6 0) 0 0),(14,.ptr 79 (i7 0) 0 0),(15,.ptr 15 n2 0 0),(16,.fn 38 [.ptr 6 n0 0 0,.ptr 15 n2 0 0,.ptr 7 (n0+1) 0 0]),(28,.own 5028 (i30 0)),(184,.ptr 184 (i26 0) 0 0)],[(6,some (.box n0 3 [rI (clock1)])),(7,some (.box (n0+1) 3 [rI (site1)])),(15,some (.box n2 22 [.own 3150 (i19 0)])),(77,some (.box (i6 0) 76 [.mref 9233 (i6 1),.mref 9234 (i6 3)])),(79,some (.box (i7 0) 76 [.mref 9265 (i7 1),.mref 9266 (i7 3)])),(160,some (.md (i19 1) (AE RV.bool m5))),(184,some (.mj (i26 0) 160 (i19 1) ((m5.map (·.1)).length) (ys3++[j3]))),(3150,some (.arr (i19 0) 46 8 (out8.map AD.row))),(5028,some (.arr (i30 0) 3 1 (all2.map (Ad .i64)))),(9233,some (.mb (i6 1) (i6 2) 55 (AE AB.row w1))),(9234,some (.md (i6 3) (AE (fun (l:List AC)=>RV.sl (l.map AC.row)) w2))),(9265,some (.mb (i7 1) (i7 2) 55 (AE AB.row w3))),(9266,some (.md (i7 3) (AE (fun (l:List AC)=>RV.sl (l.map AC.row)) w4)))],(i30 1),243⟩) ?_
      refine Zj (aS fun _ hK24 _=>(aR (Zk h17 fun v3 ev3 h18=>(sQ R (Mm R (.inl rfl) R R hl3 hk6 hnd3 (fun _=>ev3)) (sQ R (ZE (a:=rI (k3)) R iL R) (sA R R (aZ (hK24 _ ?_))))))))
      refine aR (sM R R (sM R R (Zg R R R (BW 191 R Bl (f:=(Ad .i64)) (l:=([k3]:List Int)) ⟨R,⟨_,iL,R⟩,Za⟩ R (fun _=>R) R) (Zk h18 fun all4 eall4 h19=>(Zg R R R (Bg R Bl iL R (.inr (.inl ⟨_,_,iL,R⟩)) eall4) (sA R R ?_))))))
      refine Zm ?_
      show Exit.normal=Exit.normal ∧ ∃ i':Nat→Nat,Af _ _
      have hfin:=Zb h19; subst hfin
      exact ⟨R,(AI [((i30 1)+1),((i30 1)+2)]),(ZG (show Af _ ⟨[(13,.ptr 77 (i6 0) 0 0),(14,.ptr 79 (i7 0) 0 0),(15,.ptr 15 n2 0 0),(16,.fn 38 [.ptr 6 n0 0 0,.ptr 15 n2 0 0,.ptr 7 (n0+1) 0 0]),(28,.own 5028 ((i30 1)+1)),(184,.ptr 184 (i26 0) 0 0)],[(6,some (.box n0 3 [rI (clock1)])),(7,some (.box (n0+1) 3 [rI (site1)])),(15,some (.box n2 22 [.own 3150 (i19 0)])),(77,some (.box (i6 0) 76 [.mref 9233 (i6 1),.mref 9234 (i6 3)])),(79,some (.box (i7 0) 76 [.mref 9265 (i7 1),.mref 9266 (i7 3)])),(160,some (.md (i19 1) (AE RV.bool m5))),(184,some (.mj (i26 0) 160 (i19 1) ((m5.map (·.1)).length) (ys3++[j3]))),(3150,some (.arr (i19 0) 46 8 (out8.map AD.row))),(5028,some (.arr ((i30 1)+1) 3 1 (all4.map (Ad .i64)))),(9233,some (.mb (i6 1) (i6 2) 55 (AE AB.row w1))),(9234,some (.md (i6 3) (AE (fun (l:List AC)=>RV.sl (l.map AC.row)) w2))),(9265,some (.mb (i7 1) (i7 2) 55 (AE AB.row w3))),(9266,some (.md (i7 3) (AE (fun (l:List AC)=>RV.sl (l.map AC.row)) w4)))],((i30 1)+2),243⟩ from (by exact Ze ⟨jL,jL,jL,jL,jL,jL,Za⟩ ⟨.inl R,.inl R,.inl R,.inl R,.inl R,.inl R,.inl R,.inl R,.inl R,.inl R,.inl R,.inl R,.inl R,Za⟩ nL)) (by exact Ze ⟨jL,jL,jL,jL,jL,jL,Za⟩ ⟨.inl R,.inl R,.inl R,.inl R,.inl R,.inl R,.inl R,.inl R,.inl R,.inl R,.inl R,.inl R,.inl R,Za⟩ nL))⟩
     intro all2 i30 h200
     have h20:=KK h200
     refine hK22 _ ?_
     refine aS fun _ hK25 _=>(aR (sM R R (Zk h20 fun w5 ew5 h21=>?_)))
     refine CH [5028] (hc:=[(1000,some (.arr (i30 0) 3 1 (all2.map (Ad .i64))))]) (bs:=[.own 1000 (i30 0)]) (caps:=[]) R R R R iL R ⟨.inl ⟨iL,R⟩,Za⟩ ⟨R,R,R,Za⟩ (by decide) ((Pp Ol) ew5) ?_
     intro i32 n5
     refine BX (s':=⟨[(13,.ptr 77 (i6 0) 0 0),(14,.ptr 79 (i7 0) 0 0),(15,.ptr 15 n2 0 0),(16,.fn 38 [.ptr 6 n0 0 0,.ptr 15 n2 0 0,.ptr 7 (n0+1) 0 0]),(28,.own 5028 (i30 0)),(193,.own 5028 (i30 0)),(194,.tup [])],[(6,some (.box n0 3 [rI (clock1)])),(7,some (.box (n0+1) 3 [rI (site1)])),(15,some (.box n2 22 [.own 3150 (i19 0)])),(77,some (.box (i6 0) 76 [.mref 9233 (i6 1),.mref 9234 (i6 3)])),(79,some (.box (i7 0) 76 [.mref 9265 (i7 1),.mref 9266 (i7 3)])),(160,some (.md (i19 1) (AE RV.bool m5))),(3150,some (.arr (i19 0) 46 8 (out8.map AD.row))),(5028,some (.arr (i30 0) 3 1 (w5.map (Ad .i64)))),(9233,some (.mb (i6 1) (i6 2) 55 (AE AB.row w1))),(9234,some (.md (i6 3) (AE (fun (l:List AC)=>RV.sl (l.map AC.row)) w2))),(9265,some (.mb (i7 1) (i7 2) 55 (AE AB.row w3))),(9266,some (.md (i7 3) (AE (fun (l:List AC)=>RV.sl (l.map AC.row)) w4)))],n5,243⟩) ?_
     refine aZ (hK25 _ ?_)
     refine aS fun K26 hK26 wK26=>(aS fun _ hK27 _=>(aR (sM R R (sQ R (DO R Bl.slice iL R) (sM R R (aZ (hK27 _ ?_)))))))
     refine Zj ?_
     refine BB h21 fun o4 hit4 hk7=>?_
     have J4 : ∀ (out12:List AD) (i37:Nat→Nat),o4=out12→K26 ⟨[(15,.ptr 15 n2 0 0)],[(15,some (.box n2 22 [.own 3150 (i37 0)])),(3150,some (.arr (i37 0) 46 8 (out12.map AD.row)))],(i37 1),243⟩:=by
      intro out12 i37 e
      have h22:=hk7 _ e
      refine hK26 _ ?_
      refine aS fun _ hK28 _=>(aS fun _ hK29 _=>(aR (sQ R (Zc (a:=.own 3150 (i37 0)) R Hh iL R R) (sQ R (DO R Ak.slice iL R) (sQ R (A7 R iL iL) (sM R R (sV R R R (Zc (a:=.own 3150 (i37 0)) R Hh iL R R) (sV R R R (Zc (a:=.own 3150 (i37 0)) R Hh iL R R) (sV R R R (DO R Ak.slice (iR R) R) (Zk h22 fun x15 ex15 h23=>(sV R R R (D0 R (iR R) iL (Ai ex15)) (Zk h23 fun x16 ex16 h24=>(sV R R R (Du R Ak.slice (iR R) R (iR R) (Ai ex16)) (sV R R R (Fa (ob:=.arr _ _ _ _) R C8 (iR R) fR R) (sV R R R (Gj (d:=.int .i64 x16.Clock) R AP (iR R) fR (Ai ex16) R) (sV R R R (A7 R (iR R) iL) (sQ R (ZB R iL (iR R)) (aZ (hK29 _ ?_)))))))))))))))))))
      refine aC R (fun hc2=>?_) (fun hc2=>?_)
      ·have h25:=Zo hc2 h24
       refine aS fun _ hK30 _=>?_
       refine aK (s':=⟨[],[],(i37 1),243⟩) ?_
       refine aR (sA R R (sA R R (aZ (hK30 _ ?_))))
       refine Zr ?_
       exact Dc (P:=Try.prog) (fun (r:(List AD) × Int)=>qa r.1) (fun (r:(List AD) × Int)=>rI (r.2)) h25 iL (.t (.one (.nil))) (.t (.d R))
      ·have h25:=Zp hc2 h24
       refine Zl (hK28 _ ?_)
       refine aS fun _ hK31 _=>?_
       refine aK (s':=⟨[(15,.ptr 15 n2 0 0)],[(15,some (.box n2 22 [.own 3150 (i37 0)])),(3150,some (.arr (i37 0) 46 8 (out12.map AD.row)))],(i37 1),243⟩) ?_
       refine aR (sQ R (Zc (a:=.own 3150 (i37 0)) R Hh iL R R) (sA R R (sA R R (aZ (hK31 _ ?_)))))
       refine Zr ?_
       exact Dc (P:=Try.prog) (fun (r:(List AD) × Int)=>qa r.1) (fun (r:(List AD) × Int)=>rI (r.2)) h25 iL (.t (.one (.own R))) (.t (.d R))
     refine B0 (fun (x13:Int) (out10:List AD) i35=>⟨[(13,.ptr 77 (i6 0) 0 0),(14,.ptr 79 (i7 0) 0 0),(15,.ptr 15 n2 0 0),(16,.fn 38 [.ptr 6 n0 0 0,.ptr 15 n2 0 0,.ptr 7 (n0+1) 0 0]),(195,.own 5028 (i30 0)),(196,rI ((w5.length:Int))),(197,rI (x13))],[(6,some (.box n0 3 [rI (clock1)])),(7,some (.box (n0+1) 3 [rI (site1)])),(15,some (.box n2 22 [.own 3150 (i35 0)])),(77,some (.box (i6 0) 76 [.mref 9233 (i6 1),.mref 9234 (i6 3)])),(79,some (.box (i7 0) 76 [.mref 9265 (i7 1),.mref 9266 (i7 3)])),(3150,some (.arr (i35 0) 46 8 (out10.map AD.row))),(5028,some (.arr (i30 0) 3 1 (w5.map (Ad .i64)))),(9233,some (.mb (i6 1) (i6 2) 55 (AE AB.row w1))),(9234,some (.md (i6 3) (AE (fun (l:List AC)=>RV.sl (l.map AC.row)) w2))),(9265,some (.mb (i7 1) (i7 2) 55 (AE AB.row w3))),(9266,some (.md (i7 3) (AE (fun (l:List AC)=>RV.sl (l.map AC.row)) w4)))],(i35 1),243⟩) (AI [(i19 0),n5]) hit4 ((by exact Ze ⟨jL,jL,jL,jL,jL,jL,jL,Za⟩ ⟨.inl R,.inl R,.inl R,.inl R,.inl R,.inl R,.inl R,.inl R,.inl R,.inl R,.inl R,Za⟩ nL)) ?_
     intro x13 out10 i35 v4 hv1 hx4
     have h26:EJ clock1 site1 w2 w4 w5 x13 out10=some v4:=hv1; unfold EJ at h26
     refine aS fun _ hK32 _=>(aR (sQ R (Zs R iL iL) (aZ (hK32 _ ?_))))
     refine aS fun _ hK33 _=>?_
     refine aC R (fun hc3=>?_) (fun hc3=>?_)
     ·have h27:=Zo hc3 h26
      refine Zl (hK33 _ ?_)
      refine aS fun K34 hK34 wK34=>(Zj (aS fun _ hK35 _=>(aR (Zk h27 fun x17 ex17 h28=>(sQ R (Du R Bl.slice iL R iL (fun _=>ex17)) (sQ R (Gj (d:=.int .i64 x17) R AP iL fR (fun _=>ex17) R) (sA R R (aZ (hK35 _ ?_)))))))))
      refine aS fun _ hK36 _=>(Zk h28 fun r3 er3 h29=>?_)
      refine FR 15 [⟨some 201,(fun _=>.ptr 77 (i6 0) 0 0),none,[]⟩,⟨some 202,(fun _=>.ptr 77 (i6 0) 0 0),none,[]⟩,⟨some 203,(fun _=>.ptr 77 (i6 0) 0 1),none,[]⟩,⟨some 204,(fun _=>.mref 9234 (i6 3)),none,[]⟩,⟨some 205,(fun _=>rI (x17)),none,[]⟩,⟨some 206,(fun _=>.r (.sl (((AK w2 x17).getD []).map AC.row))),none,[]⟩,⟨some 207,(fun _=>.ptr 79 (i7 0) 0 0),none,[]⟩,⟨some 208,(fun _=>.ptr 79 (i7 0) 0 0),none,[]⟩,⟨some 209,(fun _=>.ptr 79 (i7 0) 0 1),none,[]⟩,⟨some 210,(fun _=>.mref 9266 (i7 3)),none,[]⟩,⟨some 211,(fun _=>rI (x17)),none,[]⟩,⟨some 212,(fun _=>.r (.sl (((AK w4 x17).getD []).map AC.row))),none,[]⟩,⟨some 213,(fun _=>qb r3),none,[]⟩,⟨some 214,(fun _=>rI ((r3.length:Int))),none,[]⟩,⟨some 215,(fun _=>rI (0)),none,[]⟩] BD (by kernel_rfl) (by exact ⟨fun _ _ h=>⟨R,fun _ _ e=>by cases e⟩,fun _ _ h=>⟨R,fun _ _ e=>by cases e⟩,fun _ _ h=>⟨R,fun _ _ e=>by cases e⟩,fun _ _ h=>⟨R,fun _ _ e=>by cases e⟩,fun _ _ h=>⟨R,fun _ _ e=>by cases e⟩,fun _ _ h=>⟨R,fun _ _ e=>by cases e⟩,fun _ _ h=>⟨R,fun _ _ e=>by cases e⟩,fun _ _ h=>⟨R,fun _ _ e=>by cases e⟩,fun _ _ h=>⟨R,fun _ _ e=>by cases e⟩,fun _ _ h=>⟨R,fun _ _ e=>by cases e⟩,fun _ _ h=>⟨R,fun _ _ e=>by cases e⟩,fun _ _ h=>⟨R,fun _ _ e=>by cases e⟩,fun _ _ h=>⟨R,fun _ _ e=>by cases e⟩,fun _ _ h=>⟨R,fun _ _ e=>by cases e⟩,fun _ _ h=>⟨R,fun _ _ e=>by cases e⟩,Za⟩) R (by exact ⟨oQ (fun _=>[(13,.ptr 77 (i6 0) 0 0)]) (fun _=>[(77,some (.box (i6 0) 76 [.mref 9233 (i6 1),.mref 9234 (i6 3)]))]) (fun D G1 hr=>⟨ZO R R,Za⟩) (fun D G1 hr=>⟨Zw R R,Za⟩) (fun G1 e h'=>Zd R (.inl R)),
        oQ (fun _=>[(201,.ptr 77 (i6 0) 0 0)]) (fun _=>[(77,some (.box (i6 0) 76 [.mref 9233 (i6 1),.mref 9234 (i6 3)]))]) (fun D G1 hr=>⟨Zu hr 0 R R (by kernel_rfl) R R,Za⟩) (fun D G1 hr=>⟨Zw R R,Za⟩) (fun G1 e h'=>ZL (ob:=.box _ _ _) R (.inl R) (fun _=>R) R),
        oQ (fun _=>[(202,.ptr 77 (i6 0) 0 0)]) (fun _=>[(77,some (.box (i6 0) 76 [.mref 9233 (i6 1),.mref 9234 (i6 3)]))]) (fun D G1 hr=>⟨Zu hr 1 R R (by kernel_rfl) R R,Za⟩) (fun D G1 hr=>⟨Zw R R,Za⟩) (fun G1 e h'=>fB R Gb (.inl R) (fun _=>R) R),
        oQ (fun _=>[(203,.ptr 77 (i6 0) 0 1)]) (fun _=>[(77,some (.box (i6 0) 76 [.mref 9233 (i6 1),.mref 9234 (i6 3)]))]) (fun D G1 hr=>⟨Zu hr 2 R R (by kernel_rfl) R R,Za⟩) (fun D G1 hr=>⟨Zw R R,Za⟩) (fun G1 e h'=>Zc (a:=.mref 9234 (i6 3)) R Gp (.inl R) R R),
        oQ (fun _=>[(31,rI (x17))]) (fun _=>[]) (fun D G1 hr=>⟨ZO R R,Za⟩) (fun D G1 hr=>Za) (fun G1 e h'=>Zd R (.inl R)),
        oQ (fun _=>[(204,.mref 9234 (i6 3)),(205,rI (x17))]) (fun _=>[(9234,some (.md (i6 3) (AE (fun (l:List AC)=>RV.sl (l.map AC.row)) w2)))]) (fun D G1 hr=>⟨Zu hr 3 R R (by kernel_rfl) R R,Zu hr 4 R R (by kernel_rfl) R R,Za⟩) (fun D G1 hr=>⟨Zw R R,Za⟩) (fun G1 e h'=>Ji (rd:=(fun (l:List AC)=>RV.sl (l.map AC.row))) false (.slice none 0 0) [] R Try.underlying74 Try.underlying3 (Fk Hv) (fun _ _=>.snil) (.inl R) (.inl R) R),
        oQ (fun _=>[(14,.ptr 79 (i7 0) 0 0)]) (fun _=>[(79,some (.box (i7 0) 76 [.mref 9265 (i7 1),.mref 9266 (i7 3)]))]) (fun D G1 hr=>⟨ZO R R,Za⟩) (fun D G1 hr=>⟨Zw R R,Za⟩) (fun G1 e h'=>Zd R (.inl R)),
        oQ (fun _=>[(207,.ptr 79 (i7 0) 0 0)]) (fun _=>[(79,some (.box (i7 0) 76 [.mref 9265 (i7 1),.mref 9266 (i7 3)]))]) (fun D G1 hr=>⟨Zu hr 6 R R (by kernel_rfl) R R,Za⟩) (fun D G1 hr=>⟨Zw R R,Za⟩) (fun G1 e h'=>ZL (ob:=.box _ _ _) R (.inl R) (fun _=>R) R),
        oQ (fun _=>[(208,.ptr 79 (i7 0) 0 0)]) (fun _=>[(79,some (.box (i7 0) 76 [.mref 9265 (i7 1),.mref 9266 (i7 3)]))]) (fun D G1 hr=>⟨Zu hr 7 R R (by kernel_rfl) R R,Za⟩) (fun D G1 hr=>⟨Zw R R,Za⟩) (fun G1 e h'=>fB R Gb (.inl R) (fun _=>R) R),
        oQ (fun _=>[(209,.ptr 79 (i7 0) 0 1)]) (fun _=>[(79,some (.box (i7 0) 76 [.mref 9265 (i7 1),.mref 9266 (i7 3)]))]) (fun D G1 hr=>⟨Zu hr 8 R R (by kernel_rfl) R R,Za⟩) (fun D G1 hr=>⟨Zw R R,Za⟩) (fun G1 e h'=>Zc (a:=.mref 9266 (i7 3)) R Gp (.inl R) R R),
        oQ (fun _=>[(31,rI (x17))]) (fun _=>[]) (fun D G1 hr=>⟨ZO R R,Za⟩) (fun D G1 hr=>Za) (fun G1 e h'=>Zd R (.inl R)),
        oQ (fun _=>[(210,.mref 9266 (i7 3)),(211,rI (x17))]) (fun _=>[(9266,some (.md (i7 3) (AE (fun (l:List AC)=>RV.sl (l.map AC.row)) w4)))]) (fun D G1 hr=>⟨Zu hr 9 R R (by kernel_rfl) R R,Zu hr 10 R R (by kernel_rfl) R R,Za⟩) (fun D G1 hr=>⟨Zw R R,Za⟩) (fun G1 e h'=>Ji (rd:=(fun (l:List AC)=>RV.sl (l.map AC.row))) false (.slice none 0 0) [] R Try.underlying74 Try.underlying3 (Fk Hv) (fun _ _=>.snil) (.inl R) (.inl R) R),
        Kv (n1:=fun n=>n) R R (by intro d h; cases h; rfl) R (fun _=>[(206,.r (.sl (((AK w2 x17).getD []).map AC.row))),(212,.r (.sl (((AK w4 x17).getD []).map AC.row)))]) (fun _=>[]) (fun D G1 hr=>⟨Zu hr 5 R R (by kernel_rfl) R R,Zu hr 11 R R (by kernel_rfl) R R,Za⟩) (fun D G1 hr=>Za) (fun _ _=>R) (fun G1 e h' n=>B4 (r:=qb r3) (caps:=[]) (bs:=[.r (.sl (((AK w2 x17).getD []).map AC.row)),.r (.sl (((AK w4 x17).getD []).map AC.row))]) R (.inl R) R ⟨.inl ⟨(.inl R),R⟩,.inl ⟨(.inl R),R⟩,Za⟩ (fun _=>UB (er3))),
        oQ (fun _=>[(213,qb r3)]) (fun _=>[]) (fun D G1 hr=>⟨Zu hr 12 R R (by kernel_rfl) R R,Za⟩) (fun D G1 hr=>Za) (fun G1 e h'=>ZD R Ah.slice (.inl R)),
        oQ (fun _=>[]) (fun _=>[]) (fun D G1 hr=>Za) (fun D G1 hr=>Za) (fun G1 e h'=>Zd R (.inl R)),
        Za⟩) fun G1 n6=>?_
      refine BX (s':=⟨[(13,.ptr 77 (i6 0) 0 0),(14,.ptr 79 (i7 0) 0 0),(15,.ptr 15 n2 0 0),(16,.fn 38 [.ptr 6 n0 0 0,.ptr 15 n2 0 0,.ptr 7 (n0+1) 0 0]),(31,rI (x17)),(195,.own 5028 (i30 0)),(196,rI ((w5.length:Int))),(197,rI (x13)),(198,rB ((decide (x13<(w5.length:Int))))),(199,.ptr 5028 (i30 0) x13.toNat 0),(200,rI (x17)),(201,.ptr 77 (i6 0) 0 0),(202,.ptr 77 (i6 0) 0 0),(203,.ptr 77 (i6 0) 0 1),(204,.mref 9234 (i6 3)),(205,rI (x17)),(206,.r (.sl (((AK w2 x17).getD []).map AC.row))),(207,.ptr 79 (i7 0) 0 0),(208,.ptr 79 (i7 0) 0 0),(209,.ptr 79 (i7 0) 0 1),(210,.mref 9266 (i7 3)),(211,rI (x17)),(212,.r (.sl (((AK w4 x17).getD []).map AC.row))),(213,qb r3),(214,rI ((r3.length:Int))),(215,rI (0))],[(6,some (.box n0 3 [rI (clock1)])),(7,some (.box (n0+1) 3 [rI (site1)])),(15,some (.box n2 22 [.own 3150 (i35 0)])),(77,some (.box (i6 0) 76 [.mref 9233 (i6 1),.mref 9234 (i6 3)])),(79,some (.box (i7 0) 76 [.mref 9265 (i7 1),.mref 9266 (i7 3)])),(3150,some (.arr (i35 0) 46 8 (out10.map AD.row))),(5028,some (.arr (i30 0) 3 1 (w5.map (Ad .i64)))),(9233,some (.mb (i6 1) (i6 2) 55 (AE AB.row w1))),(9234,some (.md (i6 3) (AE (fun (l:List AC)=>RV.sl (l.map AC.row)) w2))),(9265,some (.mb (i7 1) (i7 2) 55 (AE AB.row w3))),(9266,some (.md (i7 3) (AE (fun (l:List AC)=>RV.sl (l.map AC.row)) w4)))],n6,243⟩) ?_
      refine aZ (hK36 _ ?_)
      refine Zj ?_
      refine BB h29 fun o5 hit5 hk8=>?_
      have J5 : ∀ (out16:List AD) (i42:Nat→Nat),o5=out16→K34 ⟨[(13,.ptr 77 (i6 0) 0 0),(14,.ptr 79 (i7 0) 0 0),(15,.ptr 15 n2 0 0),(16,.fn 38 [.ptr 6 n0 0 0,.ptr 15 n2 0 0,.ptr 7 (n0+1) 0 0]),(195,.own 5028 (i30 0)),(196,rI ((w5.length:Int))),(197,rI (x13))],[(6,some (.box n0 3 [rI (clock1)])),(7,some (.box (n0+1) 3 [rI (site1)])),(15,some (.box n2 22 [.own 3150 (i42 0)])),(77,some (.box (i6 0) 76 [.mref 9233 (i6 1),.mref 9234 (i6 3)])),(79,some (.box (i7 0) 76 [.mref 9265 (i7 1),.mref 9266 (i7 3)])),(3150,some (.arr (i42 0) 46 8 (out16.map AD.row))),(5028,some (.arr (i30 0) 3 1 (w5.map (Ad .i64)))),(9233,some (.mb (i6 1) (i6 2) 55 (AE AB.row w1))),(9234,some (.md (i6 3) (AE (fun (l:List AC)=>RV.sl (l.map AC.row)) w2))),(9265,some (.mb (i7 1) (i7 2) 55 (AE AB.row w3))),(9266,some (.md (i7 3) (AE (fun (l:List AC)=>RV.sl (l.map AC.row)) w4)))],(i42 1),243⟩:=by
       intro out16 i42 e
       have h30:=hk8 _ e
       refine hK34 _ ?_
       refine aR (Zk h30 fun x21 ex21 h31=>(sQ R (ZA R iL iL (fun _=>ex21)) (sM R R ?_)))
       refine Zm ?_
       exact Bo.mk h31 (AI [(i42 0),(i42 1)]) ((by exact Ze ⟨jL,jL,jL,jL,jL,jL,jL,Za⟩ ⟨.inl R,.inl R,.inl R,.inl R,.inl R,.inl R,.inl R,.inl R,.inl R,.inl R,.inl R,Za⟩ nL))
      refine B0 (fun (x19:Int) (out14:List AD) i40=>⟨[(13,.ptr 77 (i6 0) 0 0),(14,.ptr 79 (i7 0) 0 0),(15,.ptr 15 n2 0 0),(16,.fn 38 [.ptr 6 n0 0 0,.ptr 15 n2 0 0,.ptr 7 (n0+1) 0 0]),(31,rI (x17)),(195,.own 5028 (i30 0)),(196,rI ((w5.length:Int))),(197,rI (x13)),(213,qb r3),(214,rI ((r3.length:Int))),(215,rI (x19))],[(6,some (.box n0 3 [rI (clock1)])),(7,some (.box (n0+1) 3 [rI (site1)])),(15,some (.box n2 22 [.own 3150 (i40 0)])),(77,some (.box (i6 0) 76 [.mref 9233 (i6 1),.mref 9234 (i6 3)])),(79,some (.box (i7 0) 76 [.mref 9265 (i7 1),.mref 9266 (i7 3)])),(3150,some (.arr (i40 0) 46 8 (out14.map AD.row))),(5028,some (.arr (i30 0) 3 1 (w5.map (Ad .i64)))),(9233,some (.mb (i6 1) (i6 2) 55 (AE AB.row w1))),(9234,some (.md (i6 3) (AE (fun (l:List AC)=>RV.sl (l.map AC.row)) w2))),(9265,some (.mb (i7 1) (i7 2) 55 (AE AB.row w3))),(9266,some (.md (i7 3) (AE (fun (l:List AC)=>RV.sl (l.map AC.row)) w4)))],(i40 1),243⟩) (AI [(i35 0),n6]) hit5 ((by exact Ze ⟨jL,jL,jL,jL,jL,jL,jL,jL,jL,jL,jL,Za⟩ ⟨.inl R,.inl R,.inl R,.inl R,.inl R,.inl R,.inl R,.inl R,.inl R,.inl R,.inl R,Za⟩ nL)) ?_
      intro x19 out14 i40 v5 hv2 hx5
      have h32:Ed clock1 site1 x17 r3 x19 out14=some v5:=hv2; unfold Ed at h32
      refine aS fun _ hK37 _=>(aR (sQ R (Zs R iL iL) (aZ (hK37 _ ?_))))
      refine aS fun _ hK38 _=>?_
      refine aC R (fun hc4=>?_) (fun hc4=>?_)
      ·have h33:=Zo hc4 h32
       refine Zl (hK38 _ ?_)
       refine aS fun _ hK39 _=>(Zj (aS fun _ hK40 _=>(aR (Zk h33 fun x22 ex22 h34=>(sQ R (Zt R Ah.slice iL iL (fun _=>R) (fun _=>ex22)) (sQ R (ZH (cs:=[.r (.str x22.Name), .r (.str x22.Value)]) R Bw iL R R) (Zg R R R (Bz (cs:=[.r (.str []),.r (.str [])]) 33 R UH R R) (Zz R R (ZI (ds:=[.r (.str x22.Name), .r (.str x22.Value)]) R UG iL R iL R R R R) (aZ (hK40 _ ?_))))))))))
       refine aR (sM R R (sM R R (sQ R (fB R CI iL fR R) (sQ R (Zc (a:=.r (.str x22.Name)) R Aj iL R R) (sQ R (fB R I4 iL fR R) (sQ R (Zc (a:=.r (.str x22.Value)) R Aj iL R R) ?_))))))
       refine sQ R (CX R Jf (q:=[(2,_),(3,_),(6,_),(7,_)]) (by exact ⟨R,R,R,iL,R,R,R,iL,R,R,R,iL,R,R,R,iL,Za⟩) (cs:=[rI (0),rI (0),rI (1),rI (x17),rI (0),.r (.str []),.r (.str x22.Name),.r (.str x22.Value)]) (by rfl)) ?_
       refine Zk h34 fun w6 ew6 h35=>?_
       refine CH [6,15,3150,7] (hc:=[(1000,some (.box n0 3 [rI (clock1)])),(1001,some (.box n2 22 [.own 1002 (i40 0)])),(1002,some (.arr (i40 0) 46 8 (out14.map AD.row))),(1003,some (.box (n0+1) 3 [rI (site1)]))]) (bs:=[.agg [rI (0),rI (0),rI (1),rI (x17),rI (0),.r (.str []),.r (.str x22.Name),.r (.str x22.Value)]]) (caps:=[.ptr 1000 n0 0 0,.ptr 1001 n2 0 0,.ptr 1003 (n0+1) 0 0]) R R R R iL R ⟨.inl ⟨iL,R⟩,Za⟩ ⟨R,R,R,R,R,R,R,R,R,R,R,R,Za⟩ (by decide) (Lh ew6) ?_
       intro i43 n7
       refine BX (s':=⟨[(13,.ptr 77 (i6 0) 0 0),(14,.ptr 79 (i7 0) 0 0),(15,.ptr 15 n2 0 0),(16,.fn 38 [.ptr 6 n0 0 0,.ptr 15 n2 0 0,.ptr 7 (n0+1) 0 0]),(31,rI (x17)),(33,.ptr 33 (i40 1) 0 0),(195,.own 5028 (i30 0)),(196,rI ((w5.length:Int))),(197,rI (x13)),(213,qb r3),(214,rI ((r3.length:Int))),(215,rI (x19)),(216,rB ((decide (x19<(r3.length:Int))))),(217,.rop (AC.row x22) 0),(218,.agg [.r (.str x22.Name), .r (.str x22.Value)]),(219,.fn 38 [.ptr 6 n0 0 0,.ptr 15 n2 0 0,.ptr 7 (n0+1) 0 0]),(220,rI (x17)),(221,.ptr 33 (i40 1) 0 0),(222,.r (.str x22.Name)),(223,.ptr 33 (i40 1) 0 1),(224,.r (.str x22.Value)),(225,.agg [rI (0),rI (0),rI (1),rI (x17),rI (0),.r (.str []),.r (.str x22.Name),.r (.str x22.Value)]),(226,.tup [])],[(6,some (.box n0 3 [rI (clock1)])),(7,some (.box (n0+1) 3 [rI (site1)])),(15,some (.box n2 22 [.own 3150 (i43 0)])),(33,some (.box (i40 1) 80 [.r (.str x22.Name), .r (.str x22.Value)])),(77,some (.box (i6 0) 76 [.mref 9233 (i6 1),.mref 9234 (i6 3)])),(79,some (.box (i7 0) 76 [.mref 9265 (i7 1),.mref 9266 (i7 3)])),(3150,some (.arr (i43 0) 46 8 (w6.map AD.row))),(5028,some (.arr (i30 0) 3 1 (w5.map (Ad .i64)))),(9233,some (.mb (i6 1) (i6 2) 55 (AE AB.row w1))),(9234,some (.md (i6 3) (AE (fun (l:List AC)=>RV.sl (l.map AC.row)) w2))),(9265,some (.mb (i7 1) (i7 2) 55 (AE AB.row w3))),(9266,some (.md (i7 3) (AE (fun (l:List AC)=>RV.sl (l.map AC.row)) w4)))],n7,243⟩) ?_
       refine aZ (hK39 _ ?_)
       refine aK (s':=⟨[(13,.ptr 77 (i6 0) 0 0),(14,.ptr 79 (i7 0) 0 0),(15,.ptr 15 n2 0 0),(16,.fn 38 [.ptr 6 n0 0 0,.ptr 15 n2 0 0,.ptr 7 (n0+1) 0 0]),(31,rI (x17)),(195,.own 5028 (i30 0)),(196,rI ((w5.length:Int))),(197,rI (x13)),(213,qb r3),(214,rI ((r3.length:Int))),(215,rI (x19))],[(6,some (.box n0 3 [rI (clock1)])),(7,some (.box (n0+1) 3 [rI (site1)])),(15,some (.box n2 22 [.own 3150 (i43 0)])),(77,some (.box (i6 0) 76 [.mref 9233 (i6 1),.mref 9234 (i6 3)])),(79,some (.box (i7 0) 76 [.mref 9265 (i7 1),.mref 9266 (i7 3)])),(3150,some (.arr (i43 0) 46 8 (w6.map AD.row))),(5028,some (.arr (i30 0) 3 1 (w5.map (Ad .i64)))),(9233,some (.mb (i6 1) (i6 2) 55 (AE AB.row w1))),(9234,some (.md (i6 3) (AE (fun (l:List AC)=>RV.sl (l.map AC.row)) w2))),(9265,some (.mb (i7 1) (i7 2) 55 (AE AB.row w3))),(9266,some (.md (i7 3) (AE (fun (l:List AC)=>RV.sl (l.map AC.row)) w4)))],n7,243⟩) ?_
       refine aR (Zk h35 fun x23 ex23 h36=>(sQ R (ZA R iL iL (fun _=>ex23)) (sM R R ?_)))
       refine Zm ?_
       exact Bo.mk h36 (AI [(i43 0),n7]) ((by exact Ze ⟨jL,jL,jL,jL,jL,jL,jL,jL,jL,jL,jL,Za⟩ ⟨.inl R,.inl R,.inl R,.inl R,.inl R,.inl R,.inl R,.inl R,.inl R,.inl R,.inl R,Za⟩ nL))
      ·have h33:=Zp hc4 h32
       refine Zx ?_
       exact wK34 _ _ ((by exact Ze ⟨jL,jL,jL,jL,jL,jL,jL,Za⟩ ⟨.inl R,.inl R,.inl R,.inl R,.inl R,.inl R,.inl R,.inl R,.inl R,.inl R,.inl R,Za⟩ nL)) (J5 _ (AI [(i40 0),(i40 1)]) (hx5 _ (Zb h33).symm))
     ·have h27:=Zp hc3 h26
      refine Zx ?_
      exact wK26 _ _ ((by exact Ze ⟨jL,Za⟩ ⟨.inl R,.inl R,Za⟩ nL)) (J4 _ (AI [(i35 0),(i35 1)]) (hx4 _ (Zb h27).symm))
    refine B0 (fun (x10:Int) (out6:List AD) i17=>⟨[(13,.ptr 77 (i6 0) 0 0),(14,.ptr 79 (i7 0) 0 0),(15,.ptr 15 n2 0 0),(16,.fn 38 [.ptr 6 n0 0 0,.ptr 15 n2 0 0,.ptr 7 (n0+1) 0 0]),(114,qc r2),(115,rI ((r2.length:Int))),(116,rI (x10))],[(6,some (.box n0 3 [rI (clock1)])),(7,some (.box (n0+1) 3 [rI (site1)])),(15,some (.box n2 22 [.own 3150 (i17 0)])),(77,some (.box (i6 0) 76 [.mref 9233 (i6 1),.mref 9234 (i6 3)])),(79,some (.box (i7 0) 76 [.mref 9265 (i7 1),.mref 9266 (i7 3)])),(3150,some (.arr (i17 0) 46 8 (out6.map AD.row))),(9233,some (.mb (i6 1) (i6 2) 55 (AE AB.row w1))),(9234,some (.md (i6 3) (AE (fun (l:List AC)=>RV.sl (l.map AC.row)) w2))),(9265,some (.mb (i7 1) (i7 2) 55 (AE AB.row w3))),(9266,some (.md (i7 3) (AE (fun (l:List AC)=>RV.sl (l.map AC.row)) w4)))],(i17 1),243⟩) (AI [(i13 0),n4]) hit3 ((by exact Ze ⟨jL,jL,jL,jL,jL,jL,jL,Za⟩ ⟨.inl R,.inl R,.inl R,.inl R,.inl R,.inl R,.inl R,.inl R,.inl R,.inl R,Za⟩ nL)) ?_
    intro x10 out6 i17 v6 hv3 hx3
    have h37:Er clock1 site1 w1 r2 x10 out6=some v6:=hv3; unfold Er at h37
    refine aS fun _ hK41 _=>(aR (sQ R (Zs R iL iL) (aZ (hK41 _ ?_))))
    refine aS fun _ hK42 _=>?_
    refine aC R (fun hc5=>?_) (fun hc5=>?_)
    ·have h38:=Zo hc5 h37
     refine Zl (hK42 _ ?_)
     refine aS fun K43 hK43 wK43=>(Zj ?_)
     refine BB h38 fun p1 hp1 hk9=>?_
     have J6 : ∀ (out17:List AD) (i44:Nat→Nat),p1=out17→K43 ⟨[(13,.ptr 77 (i6 0) 0 0),(14,.ptr 79 (i7 0) 0 0),(15,.ptr 15 n2 0 0),(16,.fn 38 [.ptr 6 n0 0 0,.ptr 15 n2 0 0,.ptr 7 (n0+1) 0 0]),(114,qc r2),(115,rI ((r2.length:Int))),(116,rI (x10))],[(6,some (.box n0 3 [rI (clock1)])),(7,some (.box (n0+1) 3 [rI (site1)])),(15,some (.box n2 22 [.own 3150 (i44 0)])),(77,some (.box (i6 0) 76 [.mref 9233 (i6 1),.mref 9234 (i6 3)])),(79,some (.box (i7 0) 76 [.mref 9265 (i7 1),.mref 9266 (i7 3)])),(3150,some (.arr (i44 0) 46 8 (out17.map AD.row))),(9233,some (.mb (i6 1) (i6 2) 55 (AE AB.row w1))),(9234,some (.md (i6 3) (AE (fun (l:List AC)=>RV.sl (l.map AC.row)) w2))),(9265,some (.mb (i7 1) (i7 2) 55 (AE AB.row w3))),(9266,some (.md (i7 3) (AE (fun (l:List AC)=>RV.sl (l.map AC.row)) w4)))],(i44 1),243⟩:=by
      intro out17 i44 e
      have h39:=hk9 _ e
      refine hK43 _ ?_
      refine aR (Zk h39 fun x24 ex24 h40=>(sQ R (ZA R iL iL (fun _=>ex24)) (sM R R ?_)))
      refine Zm ?_
      exact Bo.mk h40 (AI [(i44 0),(i44 1)]) ((by exact Ze ⟨jL,jL,jL,jL,jL,jL,jL,Za⟩ ⟨.inl R,.inl R,.inl R,.inl R,.inl R,.inl R,.inl R,.inl R,.inl R,.inl R,Za⟩ nL))
     refine aS fun _ hK44 _=>(aR (Zk hp1 fun x25 ex25 h41=>(sQ R (Zt R AZ.slice iL iL (fun _=>R) (fun _=>ex25)) (sQ R (ZH (cs:=(Bu x25)) R DD iL R R) (Zg R R R (Bz (cs:=JQ) 22 R HE R R) (Zz R R (ZI (ds:=(Bu x25)) R GE iL R iL R R R R) (aZ (hK44 _ ?_))))))))
     refine aS fun _ hK45 _=>?_
     refine ZQ BD (by kernel_rfl) ?_
     refine Zh R R R (Zd R iL) (Zh R R R (ZL (ob:=.box _ _ _) R iL fR R) (Zh R R R (fB R Ft iL fR R) (Zh R R R (Zc (a:=.mref 9233 (i6 1)) R FZ iL R R) (Zh R R R (fB R BT iL fR R) (Zh R R R (Zc (a:=rI (x25.Item)) R AP iL R R) (Zh R R R (KE true R Try.underlying73 Try.underlying3 (Fk Kj) (.inl rfl) (.inl rfl) R) (Zh R R R (Zd R iL) (Zh R R R (ZE (a:=.pk 9233 (i6 1) (i6 2) (At w1 x25.Item) 0) R iL R) (Zh R R R (ZE (a:=rB (((AK w1 x25.Item).isSome))) R iL R) (Zh R R R (CZ R iL) (Zh R R R (CZ R iL) ?_)))))))))))
     refine AQ.nil ?_
     refine hK45 _ ?_
     refine aS fun _ hK46 _=>?_
     refine aK (s':=⟨[(13,.ptr 77 (i6 0) 0 0),(14,.ptr 79 (i7 0) 0 0),(15,.ptr 15 n2 0 0),(16,.fn 38 [.ptr 6 n0 0 0,.ptr 15 n2 0 0,.ptr 7 (n0+1) 0 0]),(22,.ptr 22 (i17 1) 0 0),(23,.pk 9233 (i6 1) (i6 2) (At w1 x25.Item) 0),(24,rB (((AK w1 x25.Item).isSome))),(114,qc r2),(115,rI ((r2.length:Int))),(116,rI (x10))],[(6,some (.box n0 3 [rI (clock1)])),(7,some (.box (n0+1) 3 [rI (site1)])),(15,some (.box n2 22 [.own 3150 (i17 0)])),(22,some (.box (i17 1) 55 (Bu x25))),(77,some (.box (i6 0) 76 [.mref 9233 (i6 1),.mref 9234 (i6 3)])),(79,some (.box (i7 0) 76 [.mref 9265 (i7 1),.mref 9266 (i7 3)])),(3150,some (.arr (i17 0) 46 8 (out6.map AD.row))),(9233,some (.mb (i6 1) (i6 2) 55 (AE AB.row w1))),(9234,some (.md (i6 3) (AE (fun (l:List AC)=>RV.sl (l.map AC.row)) w2))),(9265,some (.mb (i7 1) (i7 2) 55 (AE AB.row w3))),(9266,some (.md (i7 3) (AE (fun (l:List AC)=>RV.sl (l.map AC.row)) w4)))],((i17 1)+1),243⟩) ?_
     refine ZQ BD (by kernel_rfl) ?_
     refine Zh R R R (Zd R iL) (Zh R R R (Bh R iL) (Zh R R R (Zd R iL) ?_))
     refine Zf (.one R R R) R R (Zd R iL) ?_
     refine Zk h41 fun x26 ex26 h42=>?_
     refine Zf (.one R R R) R R (IF R (iR R) R R (Ai ex26)) ?_
     refine Zf (.one R R R) R R (Jx R Ca (iR R) R R (Ai ex26)) ?_
     refine Zf (.one R R R) R R (KB (a:=x26) (d:=.int .i64 x26.Parent) R AP (iR R) R R (Ai ex26) R) ?_
     refine Zf (.one R R R) R R (fB R Ca iL fR R) ?_
     refine Zf (.one R R R) R R (Zc (a:=rI (x25.Parent)) R AP (iR R) R R) ?_
     refine Zf (.one R R R) R R (BR R (iR R) (iR R)) ?_
     refine Zh R R R (ZF R iL (iR R)) (Zh R R R (Zd R iL) ?_)
     refine Zf (.one R R R) R R (Zd R iL) ?_
     refine Zk h42 fun x27 ex27 h43=>?_
     refine Zf (.one R R R) R R (IF R (iR R) R R (Ai ex27)) ?_
     refine Zf (.one R R R) R R (Jx R DF (iR R) R R (Ai ex27)) ?_
     refine Zf (.one R R R) R R (KB (a:=x27) (d:=.str x27.Place) R Aj (iR R) R R (Ai ex27) R) ?_
     refine Zf (.one R R R) R R (fB R DF iL fR R) ?_
     refine Zf (.one R R R) R R (Zc (a:=.r (.str x25.Place)) R Aj (iR R) R R) ?_
     refine Zf (.one R R R) R R (C1 R (iR R) (iR R)) ?_
     refine Zh R R R (ZF R iL (iR R)) ?_
     refine AQ.nil ?_
     refine hK46 _ ?_
     refine aC R (fun hc6=>?_) (fun hc6=>?_)
     ·have h44:=Zo hc6 h43
      refine aR (sM R R (sQ R (fB R BT iL fR R) (sQ R (Zc (a:=rI (x25.Item)) R AP iL R R) (sQ R (fB R Ca iL fR R) (sQ R (Zc (a:=rI (x25.Parent)) R AP iL R R) (sQ R (fB R DF iL fR R) (sQ R (Zc (a:=.r (.str x25.Place)) R Aj iL R R) ?_)))))))
      refine sQ R (CX R Jf (q:=[(2,_),(3,_),(4,_),(5,_)]) (by exact ⟨R,R,R,iL,R,R,R,iL,R,R,R,iL,R,R,R,iL,Za⟩) (cs:=[rI (0),rI (0),rI (0),rI (x25.Item),rI (x25.Parent),.r (.str x25.Place),.r (.str []),.r (.str [])]) (by rfl)) ?_
      refine Zk h44 fun w7 ew7 h45=>?_
      refine CH [6,15,3150,7] (hc:=[(1000,some (.box n0 3 [rI (clock1)])),(1001,some (.box n2 22 [.own 1002 (i17 0)])),(1002,some (.arr (i17 0) 46 8 (out6.map AD.row))),(1003,some (.box (n0+1) 3 [rI (site1)]))]) (bs:=[.agg [rI (0),rI (0),rI (0),rI (x25.Item),rI (x25.Parent),.r (.str x25.Place),.r (.str []),.r (.str [])]]) (caps:=[.ptr 1000 n0 0 0,.ptr 1001 n2 0 0,.ptr 1003 (n0+1) 0 0]) R R R R iL R ⟨.inl ⟨iL,R⟩,Za⟩ ⟨R,R,R,R,R,R,R,R,R,R,R,R,Za⟩ (by decide) (Lh ew7) ?_
      intro i45 n8
      refine BX (s':=⟨[(13,.ptr 77 (i6 0) 0 0),(14,.ptr 79 (i7 0) 0 0),(15,.ptr 15 n2 0 0),(16,.fn 38 [.ptr 6 n0 0 0,.ptr 15 n2 0 0,.ptr 7 (n0+1) 0 0]),(22,.ptr 22 (i17 1) 0 0),(23,.pk 9233 (i6 1) (i6 2) (At w1 x25.Item) 0),(24,rB (((AK w1 x25.Item).isSome))),(114,qc r2),(115,rI ((r2.length:Int))),(116,rI (x10)),(130,rB (((AK w1 x25.Item).isSome))),(131,rB ((!((AK w1 x25.Item).isSome)))),(132,rB ((!((AK w1 x25.Item).isSome)))),(140,rB (((!((AK w1 x25.Item).isSome)) || (!decide (x26.Parent=x25.Parent))))),(141,rB (((!((AK w1 x25.Item).isSome)) || (!decide (x26.Parent=x25.Parent))))),(149,rB ((((!((AK w1 x25.Item).isSome)) || (!decide (x26.Parent=x25.Parent))) || (!decide (x27.Place=x25.Place))))),(150,.fn 38 [.ptr 6 n0 0 0,.ptr 15 n2 0 0,.ptr 7 (n0+1) 0 0]),(151,.ptr 22 (i17 1) 0 0),(152,rI (x25.Item)),(153,.ptr 22 (i17 1) 0 1),(154,rI (x25.Parent)),(155,.ptr 22 (i17 1) 0 2),(156,.r (.str x25.Place)),(157,.agg [rI (0),rI (0),rI (0),rI (x25.Item),rI (x25.Parent),.r (.str x25.Place),.r (.str []),.r (.str [])]),(158,.tup [])],[(6,some (.box n0 3 [rI (clock1)])),(7,some (.box (n0+1) 3 [rI (site1)])),(15,some (.box n2 22 [.own 3150 (i45 0)])),(22,some (.box (i17 1) 55 (Bu x25))),(77,some (.box (i6 0) 76 [.mref 9233 (i6 1),.mref 9234 (i6 3)])),(79,some (.box (i7 0) 76 [.mref 9265 (i7 1),.mref 9266 (i7 3)])),(3150,some (.arr (i45 0) 46 8 (w7.map AD.row))),(9233,some (.mb (i6 1) (i6 2) 55 (AE AB.row w1))),(9234,some (.md (i6 3) (AE (fun (l:List AC)=>RV.sl (l.map AC.row)) w2))),(9265,some (.mb (i7 1) (i7 2) 55 (AE AB.row w3))),(9266,some (.md (i7 3) (AE (fun (l:List AC)=>RV.sl (l.map AC.row)) w4)))],n8,243⟩) ?_
      refine Zm ?_
      exact wK43 _ _ ((by exact Ze ⟨jL,jL,jL,jL,jL,jL,jL,Za⟩ ⟨.inl R,.inl R,.inl R,.inl R,.inl R,.inl R,.inl R,.inl R,.inl R,.inl R,Za⟩ nL)) (J6 _ (AI [(i45 0),n8]) (Zb h45).symm)
     ·have h44:=Zp hc6 h43
      refine Zl ?_
      exact wK43 _ _ ((by exact Ze ⟨jL,jL,jL,jL,jL,jL,jL,Za⟩ ⟨.inl R,.inl R,.inl R,.inl R,.inl R,.inl R,.inl R,.inl R,.inl R,.inl R,Za⟩ nL)) (J6 _ (AI [(i17 0),((i17 1)+1)]) (Zb h44).symm)
    ·have h38:=Zp hc5 h37
     refine Zx ?_
     exact wK12 _ _ ((by exact Ze ⟨jL,jL,jL,jL,Za⟩ ⟨.inl R,.inl R,.inl R,.inl R,.inl R,.inl R,.inl R,.inl R,.inl R,.inl R,Za⟩ nL)) (J3 _ (AI [(i17 0),(i17 1)]) (hx3 _ (Zb h38).symm))
   refine B0 (fun (x7:Int) (out2:List AD) i11=>⟨[(13,.ptr 77 (i6 0) 0 0),(14,.ptr 79 (i7 0) 0 0),(15,.ptr 15 n2 0 0),(16,.fn 38 [.ptr 6 n0 0 0,.ptr 15 n2 0 0,.ptr 7 (n0+1) 0 0]),(82,qc r1),(83,rI ((r1.length:Int))),(84,rI (x7))],[(6,some (.box n0 3 [rI (clock1)])),(7,some (.box (n0+1) 3 [rI (site1)])),(15,some (.box n2 22 [.own 3150 (i11 0)])),(77,some (.box (i6 0) 76 [.mref 9233 (i6 1),.mref 9234 (i6 3)])),(79,some (.box (i7 0) 76 [.mref 9265 (i7 1),.mref 9266 (i7 3)])),(3150,some (.arr (i11 0) 46 8 (out2.map AD.row))),(9233,some (.mb (i6 1) (i6 2) 55 (AE AB.row w1))),(9234,some (.md (i6 3) (AE (fun (l:List AC)=>RV.sl (l.map AC.row)) w2))),(9265,some (.mb (i7 1) (i7 2) 55 (AE AB.row w3))),(9266,some (.md (i7 3) (AE (fun (l:List AC)=>RV.sl (l.map AC.row)) w4)))],(i11 1),243⟩) (AI [n3,(n3+1)]) hit2 (ZG (ZG (Ku 15 0 3150 46 8 (by decide) R R (by decide)) (by exact Ze (e':=[(13,.ptr 77 (i6 0) 0 0),(14,.ptr 79 (i7 0) 0 0),(15,.ptr 15 n2 0 0),(16,.fn 38 [.ptr 6 n0 0 0,.ptr 15 n2 0 0,.ptr 7 (n0+1) 0 0]),(81,.ptr 77 (i6 0) 0 0),(82,qc r1),(83,rI ((r1.length:Int))),(84,rI (0))]) (h':=[(6,some (.box n0 3 [rI (clock1)])),(7,some (.box (n0+1) 3 [rI (site1)])),(15,some (.box n2 22 [.own 3150 n3])),(77,some (.box (i6 0) 76 [.mref 9233 (i6 1),.mref 9234 (i6 3)])),(79,some (.box (i7 0) 76 [.mref 9265 (i7 1),.mref 9266 (i7 3)])),(3150,some (.arr n3 46 8 (([]:List AD).map AD.row))),(9233,some (.mb (i6 1) (i6 2) 55 (AE AB.row w1))),(9234,some (.md (i6 3) (AE (fun (l:List AC)=>RV.sl (l.map AC.row)) w2))),(9265,some (.mb (i7 1) (i7 2) 55 (AE AB.row w3))),(9266,some (.md (i7 3) (AE (fun (l:List AC)=>RV.sl (l.map AC.row)) w4)))]) ⟨jL,jL,jL,jL,jL,jL,jL,jL,Za⟩ ⟨.inl R,.inl R,.inl R,.inl R,.inl R,.inl R,.inl R,.inl R,.inl R,.inl R,Za⟩ nL)) (by exact Ze ⟨jL,jL,jL,jL,jL,jL,jL,Za⟩ ⟨.inl R,.inl R,.inl R,.inl R,.inl R,.inl R,.inl R,.inl R,.inl R,.inl R,Za⟩ nL)) ?_
   intro x7 out2 i11 v7 hv4 hx2
   have h46:Dr clock1 site1 w3 r1 x7 out2=some v7:=hv4; unfold Dr at h46
   refine aS fun _ hK47 _=>(aR (sQ R (Zs R iL iL) (aZ (hK47 _ ?_))))
   refine aS fun _ hK48 _=>?_
   refine aC R (fun hc7=>?_) (fun hc7=>?_)
   ·have h47:=Zo hc7 h46
    refine Zl (hK48 _ ?_)
    refine aS fun K49 hK49 wK49=>(Zj ?_)
    refine BB h47 fun p2 hp2 hk10=>?_
    have J7 : ∀ (out18:List AD) (i46:Nat→Nat),p2=out18→K49 ⟨[(13,.ptr 77 (i6 0) 0 0),(14,.ptr 79 (i7 0) 0 0),(15,.ptr 15 n2 0 0),(16,.fn 38 [.ptr 6 n0 0 0,.ptr 15 n2 0 0,.ptr 7 (n0+1) 0 0]),(82,qc r1),(83,rI ((r1.length:Int))),(84,rI (x7))],[(6,some (.box n0 3 [rI (clock1)])),(7,some (.box (n0+1) 3 [rI (site1)])),(15,some (.box n2 22 [.own 3150 (i46 0)])),(77,some (.box (i6 0) 76 [.mref 9233 (i6 1),.mref 9234 (i6 3)])),(79,some (.box (i7 0) 76 [.mref 9265 (i7 1),.mref 9266 (i7 3)])),(3150,some (.arr (i46 0) 46 8 (out18.map AD.row))),(9233,some (.mb (i6 1) (i6 2) 55 (AE AB.row w1))),(9234,some (.md (i6 3) (AE (fun (l:List AC)=>RV.sl (l.map AC.row)) w2))),(9265,some (.mb (i7 1) (i7 2) 55 (AE AB.row w3))),(9266,some (.md (i7 3) (AE (fun (l:List AC)=>RV.sl (l.map AC.row)) w4)))],(i46 1),243⟩:=by
     intro out18 i46 e
     have h48:=hk10 _ e
     refine hK49 _ ?_
     refine aR (Zk h48 fun x28 ex28 h49=>(sQ R (ZA R iL iL (fun _=>ex28)) (sM R R ?_)))
     refine Zm ?_
     exact Bo.mk h49 (AI [(i46 0),(i46 1)]) ((by exact Ze ⟨jL,jL,jL,jL,jL,jL,jL,Za⟩ ⟨.inl R,.inl R,.inl R,.inl R,.inl R,.inl R,.inl R,.inl R,.inl R,.inl R,Za⟩ nL))
    refine aS fun _ hK50 _=>(aR (Zk hp2 fun x29 ex29 h50=>(sQ R (Zt R AZ.slice iL iL (fun _=>R) (fun _=>ex29)) (sQ R (ZH (cs:=(Bu x29)) R DD iL R R) (Zg R R R (Bz (cs:=JQ) 18 R HE R R) (Zz R R (ZI (ds:=(Bu x29)) R GE iL R iL R R R R) (aZ (hK50 _ ?_))))))))
    refine aS fun _ hK51 _=>?_
    refine ZQ BD (by kernel_rfl) ?_
    refine Zh R R R (Zd R iL) (Zh R R R (ZL (ob:=.box _ _ _) R iL fR R) (Zh R R R (fB R Ft iL fR R) (Zh R R R (Zc (a:=.mref 9265 (i7 1)) R FZ iL R R) (Zh R R R (fB R BT iL fR R) (Zh R R R (Zc (a:=rI (x29.Item)) R AP iL R R) (Zh R R R (KE true R Try.underlying73 Try.underlying3 (Fk Kj) (.inl rfl) (.inl rfl) R) (Zh R R R (Zd R iL) (Zh R R R (ZE (a:=.pk 9265 (i7 1) (i7 2) (At w3 x29.Item) 0) R iL R) (Zh R R R (ZE (a:=rB (((AK w3 x29.Item).isSome))) R iL R) (Zh R R R (CZ R iL) (Zh R R R (CZ R iL) ?_)))))))))))
    refine AQ.nil ?_
    refine hK51 _ ?_
    refine aS fun _ hK52 _=>?_
    refine aK (s':=⟨[(13,.ptr 77 (i6 0) 0 0),(14,.ptr 79 (i7 0) 0 0),(15,.ptr 15 n2 0 0),(16,.fn 38 [.ptr 6 n0 0 0,.ptr 15 n2 0 0,.ptr 7 (n0+1) 0 0]),(18,.ptr 18 (i11 1) 0 0),(20,rB (((AK w3 x29.Item).isSome))),(82,qc r1),(83,rI ((r1.length:Int))),(84,rI (x7))],[(6,some (.box n0 3 [rI (clock1)])),(7,some (.box (n0+1) 3 [rI (site1)])),(15,some (.box n2 22 [.own 3150 (i11 0)])),(18,some (.box (i11 1) 55 (Bu x29))),(77,some (.box (i6 0) 76 [.mref 9233 (i6 1),.mref 9234 (i6 3)])),(79,some (.box (i7 0) 76 [.mref 9265 (i7 1),.mref 9266 (i7 3)])),(3150,some (.arr (i11 0) 46 8 (out2.map AD.row))),(9233,some (.mb (i6 1) (i6 2) 55 (AE AB.row w1))),(9234,some (.md (i6 3) (AE (fun (l:List AC)=>RV.sl (l.map AC.row)) w2))),(9265,some (.mb (i7 1) (i7 2) 55 (AE AB.row w3))),(9266,some (.md (i7 3) (AE (fun (l:List AC)=>RV.sl (l.map AC.row)) w4)))],((i11 1)+1),243⟩) ?_
    refine aR (sM R R (sQ R (Bh R iL) (sM R R (sV R R R (fB R Ca iL fR R) (sV R R R (Zc (a:=rI (x29.Parent)) R AP (iR R) R R) (sV R R R (BR R (iR R) iL) (sQ R (ZB R iL (iR R)) (aZ (hK52 _ ?_)))))))))
    refine aC R (fun hc8=>?_) (fun hc8=>?_)
    ·have h51:=Zo hc8 h50
     refine aR (sM R R (sQ R (fB R BT iL fR R) (sQ R (Zc (a:=rI (x29.Item)) R AP iL R R) (sQ R (fB R DF iL fR R) (sQ R (Zc (a:=.r (.str x29.Place)) R Aj iL R R) ?_)))))
     refine sQ R (CX R Jf (q:=[(2,_),(3,_),(4,_),(5,_)]) (by exact ⟨R,R,R,iL,R,R,R,iL,R,R,R,iL,R,R,R,iL,Za⟩) (cs:=[rI (0),rI (0),rI (0),rI (x29.Item),rI ((-1)),.r (.str x29.Place),.r (.str []),.r (.str [])]) (by rfl)) ?_
     refine Zk h51 fun w8 ew8 h52=>?_
     refine CH [6,15,3150,7] (hc:=[(1000,some (.box n0 3 [rI (clock1)])),(1001,some (.box n2 22 [.own 1002 (i11 0)])),(1002,some (.arr (i11 0) 46 8 (out2.map AD.row))),(1003,some (.box (n0+1) 3 [rI (site1)]))]) (bs:=[.agg [rI (0),rI (0),rI (0),rI (x29.Item),rI ((-1)),.r (.str x29.Place),.r (.str []),.r (.str [])]]) (caps:=[.ptr 1000 n0 0 0,.ptr 1001 n2 0 0,.ptr 1003 (n0+1) 0 0]) R R R R iL R ⟨.inl ⟨iL,R⟩,Za⟩ ⟨R,R,R,R,R,R,R,R,R,R,R,R,Za⟩ (by decide) (Lh ew8) ?_
     intro i47 n9
     refine BX (s':=⟨[(13,.ptr 77 (i6 0) 0 0),(14,.ptr 79 (i7 0) 0 0),(15,.ptr 15 n2 0 0),(16,.fn 38 [.ptr 6 n0 0 0,.ptr 15 n2 0 0,.ptr 7 (n0+1) 0 0]),(18,.ptr 18 (i11 1) 0 0),(20,rB (((AK w3 x29.Item).isSome))),(82,qc r1),(83,rI ((r1.length:Int))),(84,rI (x7)),(98,rB (((AK w3 x29.Item).isSome))),(99,rB ((!((AK w3 x29.Item).isSome)))),(100,rB ((!((AK w3 x29.Item).isSome)))),(104,rB (((!((AK w3 x29.Item).isSome)) && (!decide (x29.Parent=(-1)))))),(105,.fn 38 [.ptr 6 n0 0 0,.ptr 15 n2 0 0,.ptr 7 (n0+1) 0 0]),(106,.ptr 18 (i11 1) 0 0),(107,rI (x29.Item)),(108,.ptr 18 (i11 1) 0 2),(109,.r (.str x29.Place)),(110,.agg [rI (0),rI (0),rI (0),rI (x29.Item),rI ((-1)),.r (.str x29.Place),.r (.str []),.r (.str [])]),(111,.tup [])],[(6,some (.box n0 3 [rI (clock1)])),(7,some (.box (n0+1) 3 [rI (site1)])),(15,some (.box n2 22 [.own 3150 (i47 0)])),(18,some (.box (i11 1) 55 (Bu x29))),(77,some (.box (i6 0) 76 [.mref 9233 (i6 1),.mref 9234 (i6 3)])),(79,some (.box (i7 0) 76 [.mref 9265 (i7 1),.mref 9266 (i7 3)])),(3150,some (.arr (i47 0) 46 8 (w8.map AD.row))),(9233,some (.mb (i6 1) (i6 2) 55 (AE AB.row w1))),(9234,some (.md (i6 3) (AE (fun (l:List AC)=>RV.sl (l.map AC.row)) w2))),(9265,some (.mb (i7 1) (i7 2) 55 (AE AB.row w3))),(9266,some (.md (i7 3) (AE (fun (l:List AC)=>RV.sl (l.map AC.row)) w4)))],n9,243⟩) ?_
     refine Zm ?_
     exact wK49 _ _ ((by exact Ze ⟨jL,jL,jL,jL,jL,jL,jL,Za⟩ ⟨.inl R,.inl R,.inl R,.inl R,.inl R,.inl R,.inl R,.inl R,.inl R,.inl R,Za⟩ nL)) (J7 _ (AI [(i47 0),n9]) (Zb h52).symm)
    ·have h51:=Zp hc8 h50
     refine Zl ?_
     exact wK49 _ _ ((by exact Ze ⟨jL,jL,jL,jL,jL,jL,jL,Za⟩ ⟨.inl R,.inl R,.inl R,.inl R,.inl R,.inl R,.inl R,.inl R,.inl R,.inl R,Za⟩ nL)) (J7 _ (AI [(i11 0),((i11 1)+1)]) (Zb h51).symm)
   ·have h47:=Zp hc7 h46
    refine Zx ?_
    exact wK10 _ _ ((by exact Ze ⟨jL,jL,jL,jL,Za⟩ ⟨.inl R,.inl R,.inl R,.inl R,.inl R,.inl R,.inl R,.inl R,.inl R,.inl R,Za⟩ nL)) (J2 _ (AI [(i11 0),(i11 1)]) (hx2 _ (Zb h47).symm))
 refine Cj (fun (x2:Int) i3=>⟨[(0,qa l1),(1,qa want1),(6,.ptr 6 n0 0 0),(7,.ptr 7 (n0+1) 0 0),(36,.agg [qa l1,qa want1]),(37,rI (x2))],[(6,some (.box n0 3 [rI (clock1)])),(7,some (.box (n0+1) 3 [rI (site1)]))],(i3 0),243⟩) (AI [(n0+2)]) hit1 ((by exact Ze ⟨jL,jL,jL,jL,jL,jL,Za⟩ ⟨.inl R,.inl R,Za⟩ nL)) ?_
 intro x2 i3 v8 hv5 hx1
 have h53:Bq l1 want1 x2=some v8:=hv5; unfold Bq at h53
 refine aS fun _ hK53 _=>(aR (sQ R (Zs R iL iL) (aZ (hK53 _ ?_))))
 refine aS fun _ hK54 _=>?_
 refine aC R (fun hc9=>?_) (fun hc9=>?_)
 ·have h54:=Zo hc9 h53
  refine Zl (hK54 _ ?_)
  refine aS fun _ hK55 _=>(Zj (aS fun _ hK56 _=>(aR (Zk h54 fun x30 ex30 h55=>(sQ R (Uf (f:=fun a=>qa a) (l:=[l1,want1]) R SC (.inl R) (.inl R) R (fun _=>ex30)) (sA R R (aZ (hK56 _ ?_))))))))
  refine aS fun _ hK57 _=>(aR (sM R R (Zk h55 fun e1 ee1 h56=>(Zg R R R (ZC (r:=rI (e1)) (caps:=[]) (bs:=[qa x30]) R iL R ⟨⟨_,iL,.d R⟩,Za⟩ (fun _=>LC (ee1)) R) (sA R R (aZ (hK57 _ ?_)))))))
  refine aS fun _ hK58 _=>(aR (sM R R (sQ R (BR R iL iL) (aZ (hK58 _ ?_)))))
  refine aC R (fun hc10=>?_) (fun hc10=>?_)
  ·have h57:=Zo hc10 h56
   refine aS fun _ hK59 _=>?_
   refine aK (s':=⟨[(12,rI (e1))],[],(i3 0),243⟩) ?_
   refine aR (sM R R (sA R R (sA R R (aZ (hK59 _ ?_)))))
   refine Zr ?_
   exact Dc (P:=Try.prog) (fun (r:(List AD) × Int)=>qa r.1) (fun (r:(List AD) × Int)=>rI (r.2)) (he1 _ (hx1 _ (Zb h57).symm)) iL (.t (.one (.nil))) (.t (.d R))
  ·have h57:=Zp hc10 h56
   refine Zl (hK55 _ ?_)
   refine aR (Zk h57 fun x31 ex31 h58=>(sQ R (ZA R iL iL (fun _=>ex31)) (sM R R ?_)))
   refine Zm ?_
   exact CB.mk h58 (AI [(i3 0)]) ((by exact Ze ⟨jL,jL,jL,jL,jL,jL,Za⟩ ⟨.inl R,.inl R,Za⟩ nL))
 ·have h54:=Zp hc9 h53
  refine Zx ?_
  exact wK2 _ _ ((by exact Ze ⟨jL,jL,jL,jL,Za⟩ ⟨.inl R,.inl R,Za⟩ nL)) (J1 _ (AI [(i3 0)]) (hx1 _ (Zb h54).symm))
theorem G5 {x1:Int} {low1:Int} {high1:Int} {r:Bool} (h:D4 x1 low1 high1=some r):Aq Try.prog 21 [rI (x1),rI (low1),rI (high1)] (rB (r)):=by
 unfold D4 at h
 refine ZJ Try.func21 R R Try.ntmps21 R (Zi R) fun n0=>?_
 refine aS fun _ hK1 _=>(aR (sA R R (aZ (hK1 _ ?_))))
 refine aS fun _ hK2 _=>(aR (sM R R (sM R R (sQ R (Cf R iL iL) (sM R R (sV R R R (Zd R iL) (sV R R R (Zd R iL) (sV R R R (FL R (iR R) (iR R)) (sQ R (ZB R iL (iR R)) (sA R R (aZ (hK2 _ ?_))))))))))))
 refine Zr ?_
 exact BH h iL (.t (.d R))
theorem RU {s1:List UInt8} {r:Bool} (h:I5 s1=some r):Aq Try.prog 14 [.r (.str s1)] (rB (r)):=by
 unfold I5 at h
 refine ZJ Try.func14 R R Try.ntmps14 R (Zi R) fun n0=>?_
 refine aS fun _ hK1 _=>(aR (sA R R (aZ (hK1 _ ?_))))
 refine aS fun K2 hK2 wK2=>(aS fun _ hK3 _=>(aR (sM R R (sQ R (CL R Try.underlying9 iL) (sM R R (aZ (hK3 _ ?_)))))))
 refine Zj ?_
 refine Be h fun o1 hit1 hk1 he1=>?_
 have J1 : ∀ (u2:Unit) (i5:Nat→Nat),o1 = .nrm u2→K2 ⟨[(0,.r (.str s1))],[],(i5 0),36⟩:=by
  intro u2 i5 e
  have h1:=hk1 _ e
  refine hK2 _ ?_
  refine aS fun _ hK4 _=>(aR (sM R R (sQ R (CL R Try.underlying9 iL) (sQ R (Cf R iL iL) (sM R R (sV R R R (Zd R iL) (sV R R R (CL R Try.underlying9 (iR R)) (sV R R R (FL R (iR R) iL) (sQ R (ZB R iL (iR R)) (sM R R (sV R R R (Zd R iL) (sV R R R (Zd R iL) (sV R R R (CL R Try.underlying9 (iR R)) (Zk h1 fun x4 ex4 h2=>(sV R R R (D0 R (iR R) iL (Ai ex4)) (Zk h2 fun ch1 ech1 h3=>(sV R R R (ZP R Try.underlying9 (iR R) (iR R) (Ai ech1)) (sV R R R (BR R (iR R) iL) (sQ R (ZB R iL (iR R)) (sA R R (aZ (hK4 _ ?_))))))))))))))))))))))
  refine Zr ?_
  exact BH h3 iL (.t (.d R))
 refine Cj (fun (x2:Int) i3=>⟨[(0,.r (.str s1)),(5,rI ((s1.length:Int))),(6,rI (x2))],[],(i3 0),36⟩) (AI [n0]) hit1 ((by exact Ze ⟨jL,jL,jL,Za⟩ Za nL)) ?_
 intro x2 i3 v1 hv1 hx1
 have h4:KN s1 x2=some v1:=hv1; unfold KN at h4
 refine aS fun _ hK5 _=>(aR (sQ R (Zs R iL iL) (aZ (hK5 _ ?_))))
 refine aS fun _ hK6 _=>?_
 refine aC R (fun hc1=>?_) (fun hc1=>?_)
 ·have h5:=Zo hc1 h4
  refine Zl (hK6 _ ?_)
  refine aS fun _ hK7 _=>(Zj (aS fun _ hK8 _=>(aR (sM R R (sA R R (aZ (hK8 _ ?_)))))))
  refine aS fun _ hK9 _=>(aR (sM R R (sM R R (Zk h5 fun ch2 ech2 h6=>(sQ R (ZP R Try.underlying9 iL iL (fun _=>ech2)) (sQ R (Zs R iL iL) (sM R R (sV R R R (Zd R iL) (sV R R R (Zd R iL) (sV R R R (ZP R Try.underlying9 (iR R) (iR R) (fun _=>ech2)) (sV R R R (A7 R (iR R) iL) (sQ R (ZF R iL (iR R)) (aZ (hK9 _ ?_))))))))))))))
  refine aC R (fun hc2=>?_) (fun hc2=>?_)
  ·have h7:=Zo hc2 h6
   refine aS fun _ hK10 _=>?_
   refine aK (s':=⟨[],[],(i3 0),36⟩) ?_
   refine aR (sA R R (aZ (hK10 _ ?_)))
   refine Zr ?_
   exact BH (he1 _ (hx1 _ (Zb h7).symm)) iL (.t (.d R))
  ·have h7:=Zp hc2 h6
   refine Zl (hK7 _ ?_)
   refine aK (s':=⟨[(0,.r (.str s1)),(5,rI ((s1.length:Int))),(6,rI (x2))],[],(i3 0),36⟩) ?_
   refine aR (Zk h7 fun x5 ex5 h8=>(sQ R (ZA R iL iL (fun _=>ex5)) (sM R R ?_)))
   refine Zm ?_
   exact CB.mk h8 (AI [(i3 0)]) ((by exact Ze ⟨jL,jL,jL,Za⟩ Za nL))
 ·have h5:=Zp hc1 h4
  refine Zx ?_
  exact wK2 _ _ ((by exact Ze ⟨jL,Za⟩ Za nL)) (J1 _ (AI [(i3 0)]) (hx1 _ (Zb h5).symm))
theorem Uc {s1:List UInt8} {r:Bool} (h:IS s1=some r):Aq Try.prog 27 [.r (.str s1)] (rB (r)):=by
 unfold IS at h
 refine ZJ Try.func27 R R Try.ntmps27 R (Zi R) fun n0=>?_
 refine aS fun _ hK1 _=>(aR (sA R R (aZ (hK1 _ ?_))))
 refine aS fun K2 hK2 wK2=>(aS fun _ hK3 _=>(aR (sM R R (sQ R (CL R Try.underlying9 iL) (sM R R (aZ (hK3 _ ?_)))))))
 refine Zj ?_
 refine Be h fun o1 hit1 hk1 he1=>?_
 have J1 : ∀ (u2:Unit) (i5:Nat→Nat),o1 = .nrm u2→K2 ⟨[(0,.r (.str s1))],[],(i5 0),59⟩:=by
  intro u2 i5 e
  have h1:=hk1 _ e
  refine hK2 _ ?_
  refine aS fun _ hK4 _=>(aR (sM R R (sQ R (CL R Try.underlying9 iL) (sQ R (Cf R iL iL) (sM R R (sV R R R (Zd R iL) (sV R R R (CL R Try.underlying9 (iR R)) (sV R R R (FL R (iR R) iL) (sQ R (ZB R iL (iR R)) (sA R R (aZ (hK4 _ ?_))))))))))))
  refine Zr ?_
  exact BH h1 iL (.t (.d R))
 refine Cj (fun (x2:Int) i3=>⟨[(0,.r (.str s1)),(6,rI ((s1.length:Int))),(7,rI (x2))],[],(i3 0),59⟩) (AI [n0]) hit1 ((by exact Ze ⟨jL,jL,jL,Za⟩ Za nL)) ?_
 intro x2 i3 v1 hv1 hx1
 have h2:HT s1 x2=some v1:=hv1; unfold HT at h2
 refine aS fun _ hK5 _=>(aR (sQ R (Zs R iL iL) (aZ (hK5 _ ?_))))
 refine aS fun _ hK6 _=>?_
 refine aC R (fun hc1=>?_) (fun hc1=>?_)
 ·have h3:=Zo hc1 h2
  refine Zl (hK6 _ ?_)
  refine aS fun _ hK7 _=>(Zj (aS fun _ hK8 _=>(aR (sM R R (sA R R (aZ (hK8 _ ?_)))))))
  refine aS fun _ hK9 _=>(aR (sM R R (sM R R (Zk h3 fun ch1 ech1 h4=>(sQ R (ZP R Try.underlying9 iL iL (fun _=>ech1)) (sQ R (Cf R iL iL) (sM R R (sV R R R (Zd R iL) (sV R R R (Zd R iL) (sV R R R (ZP R Try.underlying9 (iR R) (iR R) (fun _=>ech1)) (sV R R R (FL R (iR R) iL) (sQ R (ZB R iL (iR R)) (sA R R (aZ (hK9 _ ?_)))))))))))))))
  refine aS fun _ hK10 _=>(aR (sM R R (sQ R (Bh R iL) (sM R R (sV R R R (Zd R iL) (sV R R R (ZM R (iR R) iL) (sV R R R (Zd R (iR R)) ?_)))))))
  refine sW (.two R R R) R (Zd R iL) ?_
  refine sW (.two R R R) R (Zd R iL) ?_
  refine sW (.two R R R) R (ZP R Try.underlying9 (iR R) (iR R) (fun _=>ech1)) ?_
  refine sW (.two R R R) R (BR R (iR R) iL) ?_
  refine sW (.two R R R) R (Zd R (iR R)) ?_
  refine sW (.two R R R) R (Zd R iL) ?_
  refine sW (.two R R R) R (Zd R iL) ?_
  refine sW (.two R R R) R (ZP R Try.underlying9 (iR R) (iR R) (fun _=>ech1)) ?_
  refine sW (.two R R R) R (BR R (iR R) iL) ?_
  refine sW (.two R R R) R (ZB R (iR R) (iR R)) ?_
  refine sW (.two R R R) R (Zd R (iR R)) ?_
  refine sW (.two R R R) R (Zd R iL) ?_
  refine sW (.two R R R) R (Zd R iL) ?_
  refine sW (.two R R R) R (ZP R Try.underlying9 (iR R) (iR R) (fun _=>ech1)) ?_
  refine sW (.two R R R) R (Zs R (iR R) iL) ?_
  refine sW (.two R R R) R (Zd R (iR R)) ?_
  refine sW (.two R R R) R (Zd R iL) ?_
  refine sW (.two R R R) R (Zd R iL) ?_
  refine sW (.two R R R) R (ZP R Try.underlying9 (iR R) (iR R) (fun _=>ech1)) ?_
  refine sW (.two R R R) R (A7 R (iR R) iL) ?_
  refine sW (.two R R R) R (ZF R (iR R) (iR R)) ?_
  refine sW (.two R R R) R (ZB R (iR R) (iR R)) ?_
  refine sV R R R (ZF R (iR R) (iR R)) (sQ R (ZB R iL (iR R)) (aZ (hK10 _ ?_)))
  refine aC R (fun hc2=>?_) (fun hc2=>?_)
  ·have h5:=Zo hc2 h4
   refine aS fun _ hK11 _=>?_
   refine aK (s':=⟨[],[],(i3 0),59⟩) ?_
   refine aR (sA R R (aZ (hK11 _ ?_)))
   refine Zr ?_
   exact BH (he1 _ (hx1 _ (Zb h5).symm)) iL (.t (.d R))
  ·have h5:=Zp hc2 h4
   refine Zl (hK7 _ ?_)
   refine aK (s':=⟨[(0,.r (.str s1)),(6,rI ((s1.length:Int))),(7,rI (x2))],[],(i3 0),59⟩) ?_
   refine aR (Zk h5 fun x4 ex4 h6=>(sQ R (ZA R iL iL (fun _=>ex4)) (sM R R ?_)))
   refine Zm ?_
   exact CB.mk h6 (AI [(i3 0)]) ((by exact Ze ⟨jL,jL,jL,Za⟩ Za nL))
 ·have h3:=Zp hc1 h2
  refine Zx ?_
  exact wK2 _ _ ((by exact Ze ⟨jL,Za⟩ Za nL)) (J1 _ (AI [(i3 0)]) (hx1 _ (Zb h3).symm))
theorem Ss {s1:List UInt8} {r:Bool} (h:Ic s1=some r):Aq Try.prog 28 [.r (.str s1)] (rB (r)):=by
 unfold Ic at h
 refine ZJ Try.func28 R R Try.ntmps28 R (Zi R) fun n0=>?_
 refine aS fun _ hK1 _=>(aR (sA R R (aZ (hK1 _ ?_))))
 refine aS fun K2 hK2 wK2=>(aS fun _ hK3 _=>(aR (sM R R (sQ R (CL R Try.underlying9 iL) (sM R R (aZ (hK3 _ ?_)))))))
 refine Zj ?_
 refine Be h fun o1 hit1 hk1 he1=>?_
 have J1 : ∀ (u2:Unit) (i5:Nat→Nat),o1 = .nrm u2→K2 ⟨[(0,.r (.str s1))],[],(i5 0),28⟩:=by
  intro u2 i5 e
  have h1:=hk1 _ e
  refine hK2 _ ?_
  refine aS fun _ hK4 _=>(aR (sM R R (sQ R (CL R Try.underlying9 iL) (sQ R (Cf R iL iL) (sM R R (sV R R R (Zd R iL) (sV R R R (CL R Try.underlying9 (iR R)) (sV R R R (FL R (iR R) iL) (sQ R (ZB R iL (iR R)) (sA R R (aZ (hK4 _ ?_))))))))))))
  refine Zr ?_
  exact BH h1 iL (.t (.d R))
 refine Cj (fun (x2:Int) i3=>⟨[(0,.r (.str s1)),(5,rI ((s1.length:Int))),(6,rI (x2))],[],(i3 0),28⟩) (AI [n0]) hit1 ((by exact Ze ⟨jL,jL,jL,Za⟩ Za nL)) ?_
 intro x2 i3 v1 hv1 hx1
 have h2:Hx s1 x2=some v1:=hv1; unfold Hx at h2
 refine aS fun _ hK5 _=>(aR (sQ R (Zs R iL iL) (aZ (hK5 _ ?_))))
 refine aS fun _ hK6 _=>?_
 refine aC R (fun hc1=>?_) (fun hc1=>?_)
 ·have h3:=Zo hc1 h2
  refine Zl (hK6 _ ?_)
  refine aS fun _ hK7 _=>(Zj (aS fun _ hK8 _=>(aR (sM R R (sA R R (aZ (hK8 _ ?_)))))))
  refine aS fun _ hK9 _=>(aR (sM R R (sM R R (Zk h3 fun ch1 ech1 h4=>(sQ R (ZP R Try.underlying9 iL iL (fun _=>ech1)) (sQ R (Zs R iL iL) (sM R R (sV R R R (Zd R iL) (sV R R R (Zd R iL) (sV R R R (ZP R Try.underlying9 (iR R) (iR R) (fun _=>ech1)) (sV R R R (A7 R (iR R) iL) (sQ R (ZF R iL (iR R)) (aZ (hK9 _ ?_))))))))))))))
  refine aC R (fun hc2=>?_) (fun hc2=>?_)
  ·have h5:=Zo hc2 h4
   refine aS fun _ hK10 _=>?_
   refine aK (s':=⟨[],[],(i3 0),28⟩) ?_
   refine aR (sA R R (aZ (hK10 _ ?_)))
   refine Zr ?_
   exact BH (he1 _ (hx1 _ (Zb h5).symm)) iL (.t (.d R))
  ·have h5:=Zp hc2 h4
   refine Zl (hK7 _ ?_)
   refine aK (s':=⟨[(0,.r (.str s1)),(5,rI ((s1.length:Int))),(6,rI (x2))],[],(i3 0),28⟩) ?_
   refine aR (Zk h5 fun x4 ex4 h6=>(sQ R (ZA R iL iL (fun _=>ex4)) (sM R R ?_)))
   refine Zm ?_
   exact CB.mk h6 (AI [(i3 0)]) ((by exact Ze ⟨jL,jL,jL,Za⟩ Za nL))
 ·have h3:=Zp hc1 h2
  refine Zx ?_
  exact wK2 _ _ ((by exact Ze ⟨jL,Za⟩ Za nL)) (J1 _ (AI [(i3 0)]) (hx1 _ (Zb h3).symm))
theorem QR {a1:AD} {b1:AD} {r:Bool} (h:IG a1 b1=some r):Aq Try.prog 29 [.agg (Aa a1),.agg (Aa b1)] (rB (r)):=by
 unfold IG at h
 refine ZJ Try.func29 R R Try.ntmps29 R (Zi R) fun n0=>?_
 refine aS fun _ hK1 _=>(aR (Zg R R R (CS (cs:=(Aa a1)) 2 R iL R R) (Zg R R R (CS (cs:=(Aa b1)) 3 R iL R R) (sA R R (aZ (hK1 _ ?_))))))
 refine aS fun _ hK2 _=>(aR (sQ R (fB R C8 iL fR R) (sQ R (Zc (a:=rI (a1.Clock)) R AP iL R R) (sQ R (fB R C8 iL fR R) (sQ R (Zc (a:=rI (b1.Clock)) R AP iL R R) (sQ R (Zs R iL iL) (sM R R (sV R R R (fB R C8 iL fR R) (sV R R R (Zc (a:=rI (a1.Clock)) R AP (iR R) R R) (sV R R R (fB R C8 iL fR R) (sV R R R (Zc (a:=rI (b1.Clock)) R AP (iR R) R R) (sV R R R (ZM R (iR R) (iR R)) (sV R R R (Zd R (iR R)) ?_)))))))))))))
 refine sW (.two R R R) R (fB R D8 iL fR R) ?_
 refine sW (.two R R R) R (Zc (a:=rI (a1.Site)) R AP (iR R) R R) ?_
 refine sW (.two R R R) R (fB R D8 iL fR R) ?_
 refine sW (.two R R R) R (Zc (a:=rI (b1.Site)) R AP (iR R) R R) ?_
 refine sW (.two R R R) R (Zs R (iR R) (iR R)) ?_
 refine sV R R R (ZB R (iR R) (iR R)) (sQ R (ZF R iL (iR R)) (sA R R (aZ (hK2 _ ?_))))
 refine Zr ?_
 exact BH h iL (.t (.d R))
end Go.Proofs.Ytelkfhdgmbahgaa.Al
