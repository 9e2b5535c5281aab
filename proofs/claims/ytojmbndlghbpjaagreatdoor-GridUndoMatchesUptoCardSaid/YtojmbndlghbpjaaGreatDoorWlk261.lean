/- Walks, as printed. -/
import Derived.Test.YtojmbndlghbpjaaGreatDoorPL2
import Derived.Test.YtojmbndlghbpjaaGreatDoorProg
set_option linter.all false
set_option maxHeartbeats 4000000
set_option maxRecDepth 20000
set_option linter.unusedVariables false
namespace Go.Proofs.YtojmbndlghbpjaaGreatDoor.Al
open Go.Proofs
theorem BG : Tryz.prog.follows .mixedOrders = true := by kernel_rfl
theorem Mu : (Tryz.prog.info? 103).map (fun i => (i.zero, i.size, i.bytes)) = some (some (.agg #[.string ⟨#[]⟩, .string ⟨#[]⟩]), 2, 32) := by kernel_rfl
theorem Vj : (Tryz.prog.info? 105).map (fun i => (i.zero, i.size, i.bytes)) = some (some (.agg #[.slice none 0 0, .slice none 0 0]), 2, 48) := by kernel_rfl
theorem Mg : (Tryz.prog.info? 133).map (fun i => (i.zero, i.size, i.bytes)) = some (some (.agg #[.int .u8 0, .int .u8 0]), 2, 2) := by kernel_rfl
theorem M5 : (Tryz.prog.info? 22).map (fun i => (i.zero, i.size, i.bytes)) = some (some (.slice none 0 0), 1, 24) := by kernel_rfl
theorem IW : (Tryz.prog.info? 23).map (fun i => (i.zero, i.size, i.bytes)) = some (some (.slice none 0 0), 1, 24) := by kernel_rfl
theorem M7 : (Tryz.prog.info? 25).map (fun i => (i.zero, i.size, i.bytes)) = some (some (.agg #[.int .i64 0, .int .i64 0, .slice none 0 0, .slice none 0 0]), 4, 64) := by kernel_rfl
theorem Hn : (Tryz.prog.info? 26).map (fun i => (i.zero, i.size, i.bytes)) = some (some (.slice none 0 0), 1, 24) := by kernel_rfl
theorem Nl : (Tryz.prog.info? 28).map (fun i => (i.zero, i.size, i.bytes)) = some (some (.agg #[.slice none 0 0, .slice none 0 0, .slice none 0 0, .slice none 0 0, .slice none 0 0]), 5, 120) := by kernel_rfl
theorem Dc : (Tryz.prog.info? 3).map (fun i => (i.zero, i.size, i.bytes)) = some (some (.int .i64 0), 1, 8) := by kernel_rfl
theorem O7 : (Tryz.prog.info? 41).map (fun i => (i.zero, i.size, i.bytes)) = some (some (.slice none 0 0), 1, 24) := by kernel_rfl
theorem J0 : (Tryz.prog.info? 43).map (fun i => (i.zero, i.size, i.bytes)) = some (some (.agg #[.int .i64 0, .int .i64 0, .string ⟨#[]⟩, .int .i64 0, .slice none 0 0]), 5, 64) := by kernel_rfl
theorem Jn : (Tryz.prog.info? 47).map (fun i => (i.zero, i.size, i.bytes)) = some (some (.agg #[.int .i64 0, .int .i64 0, .int .i64 0, .int .i64 0]), 4, 32) := by kernel_rfl
theorem Mo : (Tryz.prog.info? 5).map (fun i => (i.zero, i.size, i.bytes)) = some (some (.int .u8 0), 1, 1) := by kernel_rfl
theorem KF : (Tryz.prog.info? 52).map (fun i => (i.zero, i.size, i.bytes)) = some (some (.agg #[.int .i64 0, .int .i64 0]), 2, 16) := by kernel_rfl
theorem ba : (Tryz.prog.info? 68).map (fun i => (i.zero, i.size, i.bytes)) = some (some (.agg #[.slice none 0 0, .int .i64 0, .int .i64 0]), 3, 40) := by kernel_rfl
theorem U5 : (Tryz.prog.info? 83).map (fun i => (i.zero, i.size, i.bytes)) = some (some (.agg #[.slice none 0 0, .slice none 0 0]), 2, 48) := by kernel_rfl
theorem MQ : (Tryz.prog.info? 9).map (fun i => (i.zero, i.size, i.bytes)) = some (some (.string ⟨#[]⟩), 1, 16) := by kernel_rfl
theorem Xw : Cw Tryz.prog 103 (.agg #[.string ⟨#[]⟩, .string ⟨#[]⟩]) := Cw.of Mu
theorem bB : Cw Tryz.prog 133 (.agg #[.int .u8 0, .int .u8 0]) := Cw.of Mg
theorem Hl : Cw Tryz.prog 25 (.agg #[.int .i64 0, .int .i64 0, .slice none 0 0, .slice none 0 0]) := Cw.of M7
theorem Kx : Cw Tryz.prog 28 (.agg #[.slice none 0 0, .slice none 0 0, .slice none 0 0, .slice none 0 0, .slice none 0 0]) := Cw.of Nl
theorem EU : Cw Tryz.prog 43 (.agg #[.int .i64 0, .int .i64 0, .string ⟨#[]⟩, .int .i64 0, .slice none 0 0]) := Cw.of J0
theorem DZ : Cw Tryz.prog 47 (.agg #[.int .i64 0, .int .i64 0, .int .i64 0, .int .i64 0]) := Cw.of Jn
theorem KW : Cw Tryz.prog 52 (.agg #[.int .i64 0, .int .i64 0]) := Cw.of KF
theorem YP : Cw Tryz.prog 68 (.agg #[.slice none 0 0, .int .i64 0, .int .i64 0]) := Cw.of ba
theorem Kk : Bu Tryz.prog 103 2 := Bu.of Tryz.underlying103 rfl Mu
theorem V0 : Bu Tryz.prog 133 2 := Bu.of Tryz.underlying133 rfl Mg
theorem Cf : Bu Tryz.prog 25 4 := Bu.of Tryz.underlying25 rfl M7
theorem DL : Bu Tryz.prog 28 5 := Bu.of Tryz.underlying28 rfl Nl
theorem BC : Bu Tryz.prog 43 5 := Bu.of Tryz.underlying43 rfl J0
theorem Au : Bu Tryz.prog 47 4 := Bu.of Tryz.underlying47 rfl Jn
theorem IO : Bu Tryz.prog 52 2 := Bu.of Tryz.underlying52 rfl KF
theorem bK : FW 0 = some (Ed.flatMap (AU .u8)) := by kernel_rfl
theorem Z5 : FW 1 = some (Mr.flatMap GN.row) := by kernel_rfl
theorem Xx : Hh Tryz.prog 105 [(0, 1), (1, 1)] [.slice none 0 0, .slice none 0 0] := Hh.of (n := 2) (e := 26) Tryz.underlying105 Hn (Tz (by decide)) Vj
theorem M4 : ES Tryz.prog 25 [(0, 1), (1, 1), (2, 1), (3, 1)] [.int .i64 0, .int .i64 0, .slice none 0 0, .slice none 0 0] := ES.of Tryz.underlying25 (fun w => by kernel_rfl) M7
theorem Il : ES Tryz.prog 28 [(0, 1), (1, 1), (2, 1), (3, 1), (4, 1)] [.slice none 0 0, .slice none 0 0, .slice none 0 0, .slice none 0 0, .slice none 0 0] := ES.of Tryz.underlying28 (fun w => by kernel_rfl) Nl
theorem H9 : ES Tryz.prog 43 [(0, 1), (1, 1), (2, 1), (3, 1), (4, 1)] [.int .i64 0, .int .i64 0, .string ⟨#[]⟩, .int .i64 0, .slice none 0 0] := ES.of Tryz.underlying43 (fun w => by kernel_rfl) J0
theorem QH : ES Tryz.prog 47 [(0, 1), (1, 1), (2, 1), (3, 1)] [.int .i64 0, .int .i64 0, .int .i64 0, .int .i64 0] := ES.of Tryz.underlying47 (fun w => by kernel_rfl) Jn
theorem Ic : ES Tryz.prog 52 [(0, 1), (1, 1)] [.int .i64 0, .int .i64 0] := ES.of Tryz.underlying52 (fun w => by kernel_rfl) KF
theorem Rw : Hh Tryz.prog 83 [(0, 1), (1, 1)] [.slice none 0 0, .slice none 0 0] := Hh.of (n := 2) (e := 23) Tryz.underlying83 IW (Tz (by decide)) U5
theorem Qh : FA Tryz.prog 103 [some .string, some .string] := FA.of Tryz.underlying103 (by kernel_rfl) (by kernel_rfl) (by exact ⟨rfl, rfl, Tryz.underlying9, rfl, rfl, Tryz.underlying9, trivial⟩)
theorem Jw : FA Tryz.prog 47 [some (.int .i64), some (.int .i64), some (.int .i64), some (.int .i64)] := FA.of Tryz.underlying47 (by kernel_rfl) (by kernel_rfl) (by exact ⟨rfl, rfl, Tryz.underlying3, rfl, rfl, Tryz.underlying3, rfl, rfl, Tryz.underlying3, rfl, rfl, Tryz.underlying3, trivial⟩)
theorem Z8 : FA Tryz.prog 52 [some (.int .i64), some (.int .i64)] := FA.of Tryz.underlying52 (by kernel_rfl) (by kernel_rfl) (by exact ⟨rfl, rfl, Tryz.underlying3, rfl, rfl, Tryz.underlying3, trivial⟩)
theorem Ih : Ax Tryz.prog 103 0 0 := Ax.of Tryz.underlying103 rfl rfl MQ (by decide)
theorem NS : Ax Tryz.prog 103 1 1 := Ax.of Tryz.underlying103 rfl rfl MQ (by decide)
theorem aO : Ax Tryz.prog 133 0 0 := Ax.of Tryz.underlying133 rfl rfl Mo (by decide)
theorem Vg : Ax Tryz.prog 133 1 1 := Ax.of Tryz.underlying133 rfl rfl Mo (by decide)
theorem Dw : Ax Tryz.prog 25 0 0 := Ax.of Tryz.underlying25 rfl rfl Dc (by decide)
theorem EC : Ax Tryz.prog 25 1 1 := Ax.of Tryz.underlying25 rfl rfl Dc (by decide)
theorem Ef : Ax Tryz.prog 25 2 2 := Ax.of Tryz.underlying25 rfl rfl M5 (by decide)
theorem Bb : Ax Tryz.prog 25 3 3 := Ax.of Tryz.underlying25 rfl rfl IW (by decide)
theorem D2 : Ax Tryz.prog 28 0 0 := Ax.of Tryz.underlying28 rfl rfl Hn (by decide)
theorem Dm : Ax Tryz.prog 28 1 1 := Ax.of Tryz.underlying28 rfl rfl Hn (by decide)
theorem Du : Ax Tryz.prog 28 2 2 := Ax.of Tryz.underlying28 rfl rfl M5 (by decide)
theorem Dr : Ax Tryz.prog 28 3 3 := Ax.of Tryz.underlying28 rfl rfl IW (by decide)
theorem DH : Ax Tryz.prog 28 4 4 := Ax.of Tryz.underlying28 rfl rfl IW (by decide)
theorem CP : Ax Tryz.prog 43 0 0 := Ax.of Tryz.underlying43 rfl rfl Dc (by decide)
theorem Cs : Ax Tryz.prog 43 1 1 := Ax.of Tryz.underlying43 rfl rfl Dc (by decide)
theorem Gs : Ax Tryz.prog 43 2 2 := Ax.of Tryz.underlying43 rfl rfl MQ (by decide)
theorem Ga : Ax Tryz.prog 43 3 3 := Ax.of Tryz.underlying43 rfl rfl Dc (by decide)
theorem Ff : Ax Tryz.prog 43 4 4 := Ax.of Tryz.underlying43 rfl rfl O7 (by decide)
theorem Bj : Ax Tryz.prog 47 0 0 := Ax.of Tryz.underlying47 rfl rfl Dc (by decide)
theorem Br : Ax Tryz.prog 47 1 1 := Ax.of Tryz.underlying47 rfl rfl Dc (by decide)
theorem DF : Ax Tryz.prog 47 2 2 := Ax.of Tryz.underlying47 rfl rfl Dc (by decide)
theorem DR : Ax Tryz.prog 47 3 3 := Ax.of Tryz.underlying47 rfl rfl Dc (by decide)
theorem B8 : Ax Tryz.prog 52 0 0 := Ax.of Tryz.underlying52 rfl rfl Dc (by decide)
theorem CI : Ax Tryz.prog 52 1 1 := Ax.of Tryz.underlying52 rfl rfl Dc (by decide)
theorem FB : Ax Tryz.prog 68 0 0 := Ax.of Tryz.underlying68 rfl rfl Hn (by decide)
theorem KH : Ax Tryz.prog 68 1 1 := Ax.of Tryz.underlying68 rfl rfl Dc (by decide)
theorem Lb : Ax Tryz.prog 68 2 2 := Ax.of Tryz.underlying68 rfl rfl Dc (by decide)
theorem Aq : B3 Tryz.prog 22 43 5 64 := B3.of Tryz.underlying22 J0 rfl rfl (by decide)
theorem Ag : B3 Tryz.prog 23 47 4 32 := B3.of Tryz.underlying23 Jn rfl rfl (by decide)
theorem A5 : B3 Tryz.prog 26 52 2 16 := B3.of Tryz.underlying26 KF rfl rfl (by decide)
theorem Cd : B3 Tryz.prog 41 103 2 32 := B3.of Tryz.underlying41 Mu rfl rfl (by decide)
theorem BS : B3 Tryz.prog 70 3 1 8 := B3.of Tryz.underlying70 Dc rfl rfl (by decide)
theorem XG : G0 Tryz.prog 105 2 26 := G0.of Tryz.underlying105 (Bl.of Tryz.underlying26 rfl Hn)
theorem Qe : G0 Tryz.prog 83 2 23 := G0.of Tryz.underlying83 (Bl.of Tryz.underlying23 rfl IW)
theorem UJ : Ji Tryz.prog 47 [.int .i64 0, .int .i64 0, .int .i64 0, .int .i64 0] := Ji.of Jn rfl
theorem CD : Bl Tryz.prog 22 := Bl.of Tryz.underlying22 rfl M5
theorem Aw : Bl Tryz.prog 23 := Bl.of Tryz.underlying23 rfl IW
theorem Bd : Bl Tryz.prog 26 := Bl.of Tryz.underlying26 rfl Hn
theorem AI : Bl Tryz.prog 3 := Bl.of Tryz.underlying3 rfl Dc
theorem Fy : Bl Tryz.prog 41 := Bl.of Tryz.underlying41 rfl O7
theorem N4 : Bl Tryz.prog 5 := Bl.of Tryz.underlying5 rfl Mo
theorem DK : Bl Tryz.prog 9 := Bl.of Tryz.underlying9 rfl MQ
theorem UY : Oe Tryz.prog 131 256 5 1 := ⟨Tryz.underlying131, D0 Mo⟩
theorem Wm : Oe Tryz.prog 134 16 133 2 := ⟨Tryz.underlying134, D0 Mg⟩
theorem bh : ∃ i, Tryz.prog.info? 103 = some i ∧ i.size = 2 := D0 Mu
theorem Vs : ∃ i, Tryz.prog.info? 133 = some i ∧ i.size = 2 := D0 Mg
theorem Tw : ∃ i, Tryz.prog.info? 22 = some i ∧ i.size = 1 := D0 M5
theorem HJ : ∃ i, Tryz.prog.info? 23 = some i ∧ i.size = 1 := D0 IW
theorem HE : ∃ i, Tryz.prog.info? 25 = some i ∧ i.size = 4 := D0 M7
theorem Lw : ∃ i, Tryz.prog.info? 26 = some i ∧ i.size = 1 := D0 Hn
theorem I2 : ∃ i, Tryz.prog.info? 28 = some i ∧ i.size = 5 := D0 Nl
theorem EL : ∃ i, Tryz.prog.info? 3 = some i ∧ i.size = 1 := D0 Dc
theorem XQ : ∃ i, Tryz.prog.info? 41 = some i ∧ i.size = 1 := D0 O7
theorem DI : ∃ i, Tryz.prog.info? 43 = some i ∧ i.size = 5 := D0 J0
theorem DE : ∃ i, Tryz.prog.info? 47 = some i ∧ i.size = 4 := D0 Jn
theorem LV : ∃ i, Tryz.prog.info? 52 = some i ∧ i.size = 2 := D0 KF
@[reducible] def qa (l : List AD) : AV := .r (.sl (l.map AD.row))
@[reducible] def qb (l : List AG) : AV := .r (.sl (l.map AG.row))
@[reducible] def qc (l : List AC) : AV := .r (.sl (l.map AC.row))
@[reducible] def qd (l : List Ak) : AV := .r (.sl (l.map Ak.row))
set_option linter.defProp false
@[reducible] def TG : List AV := [.r (.sl ([(AG.mk 1 1), (AG.mk 0 2)].map AG.row)), .cst (.slice none 0 0), .cst (.slice none 0 0), .cst (.slice none 0 0), .cst (.slice none 0 0)]
@[reducible] def Pi : List AV := [.r (.sl ([(AG.mk 1 1), (AG.mk 0 2)].map AG.row)), .r (.sl []), .r (.sl []), .r (.sl []), .r (.sl [])]
@[reducible] def DB : List AV := [.cst (.slice none 0 0), .cst (.slice none 0 0), .cst (.slice none 0 0), .cst (.slice none 0 0), .cst (.slice none 0 0)]
@[reducible] def dB (x : AD) : List AV := [.agg [rI (x.Row), rI (x.Col), rI (x.H), rI (x.W)], rI (2147483647), rI (2147483647)]
@[reducible] def OD : List AV := [rI (2), rI (1), .r (.sl ([(AC.mk 1 0 [120] 0 [])].map AC.row)), .r (.sl [])]
@[reducible] def Hz (x : AC) : List AV := [.agg [rI (x.Row), rI (x.Col), .r (.str x.Text), rI (x.Ref), qd x.Attrs]]
@[reducible] def AY (x : AC) : List AV := [rI (x.Row), rI (x.Col), .r (.str x.Text), rI (x.Ref), qd x.Attrs]
@[reducible] def Q1 (x : AK) : List AV := [.agg [qb x.Rows, qb x.Cols, qc x.Cells, qa x.Split, qa x.Merge]]
@[reducible] def LR : List AV := [rI (1), rI (0), .r (.str [120]), rI (0), .cst (.slice none 0 0)]
@[reducible] def BB : List AV := [rI (0), rI (0), .cst (.slice none 0 0), .cst (.slice none 0 0)]
@[reducible] def DV : List AV := [rI (0), rI (0), .r (.str []), rI (0), .cst (.slice none 0 0)]
@[reducible] def Sx (x : AJ) : List AV := [.agg [rI (x.Rows), rI (x.Cols), qc x.Cells, qa x.Merges]]
@[reducible] def AZ (x : AK) : List AV := [qb x.Rows, qb x.Cols, qc x.Cells, qa x.Split, qa x.Merge]
@[reducible] def Mk (x : AD) : List AV := [.agg [rI (x.Row), rI (x.Col), rI (x.H), rI (x.W)]]
@[reducible] def AP (x : AJ) : List AV := [rI (x.Rows), rI (x.Cols), qc x.Cells, qa x.Merges]
@[reducible] def AL (x : AD) : List AV := [rI (x.Row), rI (x.Col), rI (x.H), rI (x.W)]
@[reducible] def Jp (x : Ak) : List AV := [.r (.str x.Name), .r (.str x.Value)]
@[reducible] def Ca : List AV := [rI (0), rI (0), rI (0), rI (0)]
@[reducible] def cy {T r : Int} {x : Exit} {s : St} {x0 : ResultVar} := @Cp Int Tryz.prog T r x s x0 fun r => rI r
@[reducible] def cw {T r : Bool} {x : Exit} {s : St} {x0 : ResultVar} := @Cp Bool Tryz.prog T r x s x0 fun r => rB r
@[reducible] def yI := @Qq Tryz.prog
@[reducible] def yB := @RK Tryz.prog
@[reducible] def Za := @trivial
@[reducible] def Zb := @Option.some.inj
@[reducible] def Zc := @XO
@[reducible] def Zd := @AW.skip
@[reducible] def Ze := @AW.block
@[reducible] def Zf := @Oc
@[reducible] def Zg := @AR.nil
@[reducible] def Zh := @bg
@[reducible] def Zi := @ci
@[reducible] def Zj := @N7
@[reducible] def Zk := @AW.ret
@[reducible] def Zl := @Y5
@[reducible] def Zm := @AW.exit
@[reducible] def Zn := @Ae.trans
@[reducible] def Zo := @Wq
@[reducible] def Zp := @Pu
@[reducible] def Zq := @Tk
@[reducible] def Zr := @AF.step
@[reducible] def Zs := @NI.mk
@[reducible] def Zt := @WE
@[reducible] def Zu := @VW
@[reducible] def Zv := @cF
@[reducible] def Zw := @We
@[reducible] def Zx := @Mb.mk
@[reducible] def Zy := @cR
@[reducible] def Zz := @UQ
@[reducible] def R := @rfl
theorem VL {s1 r} (h:KA s1=some r):Ad Tryz.prog 107 [rS s1] (.tup [.r (.int .i32 r.1),rI r.2]):=by
 unfold KA at h
 refine mF Tryz.func107 Tryz.ntmps107 R fun n0=>aU (mA R (mA R (aZ (aU (mM R (sQ R (FM R Tryz.underlying9 iL) (mA R (aZ (aT fun c3=>(aU (mM R (xS R (aZ (cI R h (fun h1=>?_) fun h1=>?_))))))))))))))
 ·exact aU (mA R (mA R (aZ (Zk (Bq (P:=Tryz.prog) (fun (r:Int × Int)=>.r (.int .i32 r.1)) (fun (r:Int × Int)=>rI r.2) h1 iL (.t (.d R)) (.t (.d R)))))))
 refine Zd (c3 _ (aU (mM R (Zc h1 fun s01 es01 h2=>(sQ R (Cv R Tryz.underlying9 iL iL (fun _=>es01)) (mA R (aZ (aT fun c7=>(aR (mM R (Zc h2 fun x1 ex1 h3=>?_)))))))))))
 refine sQ R (Tv (f:=(AU .u8)) (l:=Ed) R UY bK (by kernel_rfl) iL (fun _=>R) (by decide) (fun _=>ex1)) ?_
 refine xV (.int .u8 x1) N4 R (mA R (aZ (c7 _ (aT fun c8=>(aT fun c9=>(aF [0,4,5,6] ?_))))))
 refine aR (mM R (sQ R (B4 R iL iL) (aZ (c9 _ (cI R h3 (fun h4=>?_) fun h4=>?_)))))
 ·refine aU (mM R (sQ R (Zz R Tryz.underlying5 Tryz.underlying21 iL) (sQ R (IE (b:=31) R iL iL) (sQ R (O6 (b:=31) R iL iL) (mA R (aZ (aT fun c11=>(aF [0,7] ?_))))))))
  exact aR (mM R (sQ R (Cv R Tryz.underlying9 iL iL (fun _=>es01)) (sQ R (Zz R Tryz.underlying5 Tryz.underlying21 iL) (mM R (sQ R (YC R iL iL) (mM R (sQ R (FJ R iL iL) (sQ R (H1 R iL iL) (mA R (mA R (aZ (c11 _ (Zk (Bq (P:=Tryz.prog) (fun (r:Int × Int)=>.r (.int .i32 r.1)) (fun (r:Int × Int)=>rI r.2) h4 iL (.t (.d R)) (.t (.d R))))))))))))))))
 refine Zd (c8 _ (aU (mM R (sQ R (FJ R iL iL) (sQ R (Zz R Tryz.underlying5 Tryz.underlying3 iL) (mA R (aZ (aT fun c13=>(aR (mM R (sQ R (O6 (b:=4) R iL iL) (Zc h4 fun x2 ex2 h5=>?_))))))))))))
 refine sQ R (Tv (f:=GN.row) (l:=Mr) R Wm Z5 (by kernel_rfl) iL (fun _=>R) (by decide) (fun _=>ex2)) ?_
 refine xB ([.r (.int .u8 x2.lo),.r (.int .u8 x2.hi)]) V0 R (sS R (Zo (cs:=[.r (.int .u8 0),.r (.int .u8 0)]) 9 R bB R R) (Zi R R (Zh (ds:=[.r (.int .u8 x2.lo),.r (.int .u8 x2.hi)]) R Vs iL R iL R R R R) (aZ (c13 _ (aT fun c14=>(aT fun c15=>(aG [0,4,5,8,9] [9] ?_)))))))
 refine aR (mM R (mM R (xS R (aZ (c15 _ (cI R h5 (fun h6=>?_) fun h6=>?_))))))
 ·exact aU (mA R (mA R (aZ (Zk (Bq (P:=Tryz.prog) (fun (r:Int × Int)=>.r (.int .i32 r.1)) (fun (r:Int × Int)=>rI r.2) h6 iL (.t (.d R)) (.t (.d R)))))))
 refine Zd (c14 _ (aU (mM R (Zc h6 fun s11 es11 h7=>(sQ R (Cv R Tryz.underlying9 iL iL (fun _=>es11)) (mA R (aZ (aT fun c18=>(aU (mM R (lF aO N4 R R (xS R (mM R (vF Vg N4 R R (vM R (vQ R (Bh R (iR R) (iR R)) (xO R (aZ (cI R h7 (fun h8=>?_) fun h8=>?_)))))))))))))))))))
 ·refine aT fun c20=>(aF [] ?_)
  exact aR (mA R (mA R (aZ (c20 _ (Zk (Bq (P:=Tryz.prog) (fun (r:Int × Int)=>.r (.int .i32 r.1)) (fun (r:Int × Int)=>rI r.2) h8 iL (.t (.d R)) (.t (.d R))))))))
 refine Zd (c18 _ (aT fun c21=>(aT fun c22=>(aF [0,5,8,10] ?_))))
 refine aR (mM R (sQ R (Dp R iL iL) (aZ (c22 _ (cI R h8 (fun h9=>?_) fun h9=>?_)))))
 ·exact aU (mM R (sQ R (FJ R iL iL) (sQ R (Zz R Tryz.underlying5 Tryz.underlying21 iL) (sQ R (IE (b:=6) R iL iL) (mM R (sQ R (FJ R iL iL) (sQ R (Zz R Tryz.underlying5 Tryz.underlying21 iL) (sQ R (H1 R iL iL) (mA R (mA R (aZ (Zk (Bq (P:=Tryz.prog) (fun (r:Int × Int)=>.r (.int .i32 r.1)) (fun (r:Int × Int)=>rI r.2) h9 iL (.t (.d R)) (.t (.d R)))))))))))))))
 refine Zd (c21 _ (aU (mM R (Zc h9 fun s21 es21 h10=>(sQ R (Cv R Tryz.underlying9 iL iL (fun _=>es21)) (mA R (aZ (aT fun c25=>(aU (mM R (xS R (mM R (vM R (vQ R (Bh R iL (iR R)) (xO R (aZ (cI R h10 (fun h11=>?_) fun h11=>?_)))))))))))))))))
 ·refine aT fun c27=>(aF [] ?_)
  exact aR (mA R (mA R (aZ (c27 _ (Zk (Bq (P:=Tryz.prog) (fun (r:Int × Int)=>.r (.int .i32 r.1)) (fun (r:Int × Int)=>rI r.2) h11 iL (.t (.d R)) (.t (.d R))))))))
 refine Zd (c25 _ (aT fun c28=>(aT fun c29=>(aF [0,5,8,10,11] ?_))))
 refine aR (mM R (sQ R (Dp R iL iL) (aZ (c29 _ (cI R h11 (fun h12=>?_) fun h12=>?_)))))
 ·exact aU (mM R (sQ R (FJ R iL iL) (sQ R (Zz R Tryz.underlying5 Tryz.underlying21 iL) (sQ R (IE (b:=12) R iL iL) (mM R (sQ R (FJ R iL iL) (sQ R (Zz R Tryz.underlying5 Tryz.underlying21 iL) (sQ R (IE (b:=6) R iL iL) (sQ R (H1 R iL iL) (mM R (sQ R (FJ R iL iL) (sQ R (Zz R Tryz.underlying5 Tryz.underlying21 iL) (sQ R (H1 R iL iL) (mA R (mA R (aZ (Zk (Bq (P:=Tryz.prog) (fun (r:Int × Int)=>.r (.int .i32 r.1)) (fun (r:Int × Int)=>rI r.2) h12 iL (.t (.d R)) (.t (.d R))))))))))))))))))))
 refine Zd (c28 _ (aU (mM R (Zc h12 fun s31 es31 h13=>(sQ R (Cv R Tryz.underlying9 iL iL (fun _=>es31)) (mA R (aZ (aT fun c32=>(aU (mM R (xS R (mM R (vM R (vQ R (Bh R iL (iR R)) (xO R (aZ (cI R h13 (fun h14=>?_) fun h14=>?_)))))))))))))))))
 ·refine aT fun c34=>(aF [] ?_)
  exact aR (mA R (mA R (aZ (c34 _ (Zk (Bq (P:=Tryz.prog) (fun (r:Int × Int)=>.r (.int .i32 r.1)) (fun (r:Int × Int)=>rI r.2) h14 iL (.t (.d R)) (.t (.d R))))))))
 refine Zd (c32 _ (aT fun c35=>(aF [5,10,11,12] ?_)))
 exact aR (mM R (sQ R (FJ R iL iL) (sQ R (Zz R Tryz.underlying5 Tryz.underlying21 iL) (sQ R (IE (b:=18) R iL iL) (mM R (sQ R (FJ R iL iL) (sQ R (Zz R Tryz.underlying5 Tryz.underlying21 iL) (sQ R (IE (b:=12) R iL iL) (sQ R (H1 R iL iL) (mM R (sQ R (FJ R iL iL) (sQ R (Zz R Tryz.underlying5 Tryz.underlying21 iL) (sQ R (IE (b:=6) R iL iL) (sQ R (H1 R iL iL) (mM R (sQ R (FJ R iL iL) (sQ R (Zz R Tryz.underlying5 Tryz.underlying21 iL) (sQ R (H1 R iL iL) (mA R (mA R (aZ (c35 _ (Zk (Bq (P:=Tryz.prog) (fun (r:Int × Int)=>.r (.int .i32 r.1)) (fun (r:Int × Int)=>rI r.2) h14 iL (.t (.d R)) (.t (.d R))))))))))))))))))))))))))
theorem XX {s1 r} (h:K0 s1=some r):Ad Tryz.prog 99 [rS s1] (.tup [.r (.int .i32 r.1),rI r.2]):=by
 unfold K0 at h
 refine mF Tryz.func99 Tryz.ntmps99 R fun n0=>aU (mA R (mA R (aZ (aT fun c2=>(aU (mM R (sQ R (O0 R iL iL) (mM R (vM R (Zc h fun ch1 ech1 h1=>(vQ R (Cv R Tryz.underlying9 (iR R) iL (Ai ech1)) (vQ R (Bh R (iR R) iL) (xN R (aZ (cI R h1 (fun h2=>?_) fun h2=>?_)))))))))))))))
 ·refine aT fun c4=>(aF [0] ?_)
  exact aR (mM R (Zc h2 fun ch2 ech2 h3=>(sQ R (Cv R Tryz.underlying9 iL iL (fun _=>ech2)) (sQ R (Zz R Tryz.underlying5 Tryz.underlying21 iL) (mA R (mA R (aZ (c4 _ (Zk (Bq (P:=Tryz.prog) (fun (r:Int × Int)=>.r (.int .i32 r.1)) (fun (r:Int × Int)=>rI r.2) h3 iL (.t (.d R)) (.t (.d R))))))))))))
 refine aF [0] ?_
 exact aR (mM R (Bw h2 fun r1 r2 er1 h4=>(cL (VL (er1)) R (mM R (xX R (xX R (mA R (mA R (aZ (c2 _ (Zk (Bq (P:=Tryz.prog) (fun (r:Int × Int)=>.r (.int .i32 r.1)) (fun (r:Int × Int)=>rI r.2) h4 iL (.t (.d R)) (.t (.d R))))))))))))))
theorem aY {c1 r} (h:KR c1=some r):Ad Tryz.prog 100 [rI c1] (rB r):=by
 unfold KR at h
 exact mF Tryz.func100 Tryz.ntmps100 R fun n0=>aU (mA R (aZ (aU (mM R (xQ R (mM R (vM R (vQ R (BT R (iR R) iL) (xO R (mM R (vM R (vQ R (B4 R (iR R) iL) (vQ R (Zf R (iR R)) (wQ R (Zf R iL) (wQ R (Bh R (iR R) iL) (vQ R (Bt R (iR R) (iR R)) (xO R (mM R (vM R (vQ R (B4 R (iR R) iL) (vQ R (Zf R (iR R)) (wQ R (Zf R iL) (wQ R (Bh R (iR R) iL) (vQ R (Bt R (iR R) (iR R)) (xO R (mM R (vM R (vQ R (BM R (iR R) iL) (vQ R (Zf R (iR R)) (wQ R (Zf R iL) (wQ R (Dp R (iR R) iL) (vQ R (Bt R (iR R) (iR R)) (xO R (mA R (aZ (Zk (yB h R)))))))))))))))))))))))))))))))))))))
theorem YU {s1 r} (h:LW s1=some r):Ad Tryz.prog 83 [rS s1] (rB r):=by
 unfold LW at h
 refine mF Tryz.func83 Tryz.ntmps83 R fun n0=>aU (mA R (aZ (aS fun K2 c2 wK2=>(Ze (BH h fun o1 hit1 hk1 he1=>?_)))))
 have J1 : ∀ (u2:Unit) (i5:NN),o1 = .nrm u2→K2 ⟨[],[],(i5 0),31⟩:=by
  intro u2 i5 e
  have h1:=hk1 _ e
  exact c2 _ (zB h1 R id)
 refine Zv (fun (s3:List UInt8) i3=>⟨[(0,rS s3)],[],(i3 0),31⟩) (AH [n0]) hit1 wk ?_
 intro s3 i3 v1 hv1 hx1
 have h2:EB s3=some v1:=hv1; unfold EB at h2
 refine aT fun c4=>(aU (mM R (sQ R (O0 R iL iL) (aZ (cI R h2 (fun h3=>?_) fun h3=>?_)))))
 ·refine Zd (c4 _ (Ze (aU (mM R (Bw h3 fun r1 r2 er1 h4=>(cL (XX (er1)) R (mM R (xX R (xX R (mA R (mA R (aZ (aT fun c7=>(aU (mM R (xQ R (mM R (vM R (vQ R (BT R (iR R) iL) (xN R (mM R (vM R (vQ R (BT R (iR R) iL) (xO R (mM R (vM R (vQ R (Zz R Tryz.underlying21 Tryz.underlying3 (iR R)) (Zc h4 fun r3 er3 h5=>vL (fun hg=>aY (Ai er3 hg)) R (vQ R (BI R (iR R)) (xO R (aZ (cI R h5 (fun h6=>?_) fun h6=>?_))))))))))))))))))))))))))))))))
  ·exact zB (he1 _ (xH hx1 h6)) R id
  refine Zd (c7 _ (aF [0,4] ?_))
  refine aR (mM R (mM R (Zc h6 fun s5 es5 h7=>?_)))
  refine sQ R (aJ R Tryz.underlying9 iL (by exact ⟨_,iL⟩) (by exact R) (fun _=>es5)) ?_
  exact mA R (Zg (Zs h7 (AH [(i3 0)]) wk))
 exact Zm (wK2 _ _ wk (J1 _ (AH [(i3 0)]) (xH hx1 h3)))
theorem cC {s1 r} (h:KP s1=some r):Ad Tryz.prog 108 [rS s1] (rB r):=by
 unfold KP at h
 refine mF Tryz.func108 Tryz.ntmps108 R fun n0=>aU (mA R (aZ (aT fun C2=>(aU (mM R (sQ R (IG R iL iL) (mM R (vM R (vQ R (FM R Tryz.underlying9 (iR R)) (vQ R (BM R (iR R) iL) (xO R (mM R (vM R (Zc h fun ch1 ech1 h1=>(vQ R (Cv R Tryz.underlying9 (iR R) iL (Ai ech1)) (vQ R (Bh R (iR R) iL) (xO R (mM R (vM R (Zc h1 fun ch2 ech2 h2=>(vQ R (Cv R Tryz.underlying9 (iR R) iL (Ai ech2)) (vQ R (BM R (iR R) iL) (xO R (aZ (cI R h2 (fun h3=>?_) fun h3=>?_)))))))))))))))))))))))))
 ·exact zB h3 R id
 refine Zd (C2 _ (aS fun K5 C5 wK5=>(aT fun C6=>(aF [0] ?_))))
 refine aR (mM R (sQ R (FM R Tryz.underlying9 iL) (mM R (aZ (C6 _ (Ze (BH h3 fun o1 hit1 hk1 he1=>?_)))))))
 have J1 : ∀ (u2:Unit) (i5:NN),o1 = .nrm u2→K5 ⟨[],[],(i5 0),53⟩:=by
  intro u2 i5 e
  have h4:=hk1 _ e
  exact C5 _ (zB h4 R id)
 refine Zv (fun (x2:Int) i3=>⟨[(0,rS s1),(23,rL s1),(24,rI x2)],[],(i3 0),53⟩) (AH [n0]) hit1 wk ?_
 intro x2 i3 v1 hv1 hx1
 have h5:JA s1 x2=some v1:=hv1; unfold JA at h5
 refine aU (xS R (aZ (aT fun C9=>(cI R h5 (fun h6=>?_) fun h6=>?_))))
 ·refine Zd (C9 _ (aT fun C10=>(Ze (aU (mM R (mA R (aZ (aU (mM R (mM R (Zc h6 fun c1 ec1 h7=>(sQ R (Cv R Tryz.underlying9 iL iL (fun _=>ec1)) (mA R (aZ (aU (mM R (xS R (mM R (vM R (vQ R (BM R (iR R) iL) (xO R (mM R (vM R (vQ R (Bh R (iR R) iL) (vQ R (Zf R (iR R)) (wQ R (Zf R iL) (wQ R (BM R (iR R) iL) (vQ R (Ge R (iR R) (iR R)) (xN R (mM R (vM R (vQ R (MA R (iR R) iL) (xN R (mM R (vM R (vQ R (MA R (iR R) iL) (xN R (aZ (cI R h7 (fun h8=>?_) fun h8=>?_)))))))))))))))))))))))))))))))))))))))
  ·exact zB (he1 _ (xH hx1 h8)) R id
  refine Zd (C10 _ (aF [0,23,24] ?_))
  exact aR (Zc h8 fun x4 ex4 h9=>(xA R ex4 (mM R (Zg (Zs h9 (AH [(i3 0)]) wk)))))
 exact Zm (wK5 _ _ wk (J1 _ (AH [(i3 0)]) (xH hx1 h6)))
theorem Uk {s1 r} (h:KI s1=some r):Ad Tryz.prog 109 [rS s1] (rB r):=by
 unfold KI at h
 refine mF Tryz.func109 Tryz.ntmps109 R fun n0=>aU (mA R (aZ (aT fun c2=>(aU (mM R (sQ R (IG R iL iL) (mM R (vM R (vQ R (FM R Tryz.underlying9 (iR R)) (vQ R (BM R (iR R) iL) (xO R (aZ (cI R h (fun h1=>?_) fun h1=>?_)))))))))))))
 ·exact zB h1 R id
 refine Zd (c2 _ (aS fun K5 c5 wK5=>(aU (mM R (sQ R (FM R Tryz.underlying9 iL) (mM R (aZ (Ze (BH h1 fun o1 hit1 hk1 he1=>?_)))))))))
 have J1 : ∀ (u2:Unit) (i5:NN),o1 = .nrm u2→K5 ⟨[],[],(i5 0),27⟩:=by
  intro u2 i5 e
  have h2:=hk1 _ e
  exact c5 _ (zB h2 R id)
 refine Zv (fun (x2:Int) i3=>⟨[(0,rS s1),(12,rL s1),(13,rI x2)],[],(i3 0),27⟩) (AH [n0]) hit1 wk ?_
 intro x2 i3 v1 hv1 hx1
 have h3:KZ s1 x2=some v1:=hv1; unfold KZ at h3
 refine aU (xS R (aZ (aT fun c9=>(cI R h3 (fun h4=>?_) fun h4=>?_))))
 ·refine Zd (c9 _ (aT fun c10=>(Ze (aU (mM R (mA R (aZ (aU (mM R (mM R (Zc h4 fun ch1 ech1 h5=>(sQ R (Cv R Tryz.underlying9 iL iL (fun _=>ech1)) (xS R (mM R (vM R (vM R (vQ R (Cv R Tryz.underlying9 (iR R) (iR R) (fun _=>ech1)) (vQ R (BM R (iR R) iL) (xO R (aZ (cI R h5 (fun h6=>?_) fun h6=>?_)))))))))))))))))))))
  ·exact zB (he1 _ (xH hx1 h6)) R id
  refine Zd (c10 _ (aF [0,12,13] ?_))
  exact aR (Zc h6 fun x4 ex4 h7=>(xA R ex4 (mM R (Zg (Zs h7 (AH [(i3 0)]) wk)))))
 exact Zm (wK5 _ _ wk (J1 _ (AH [(i3 0)]) (xH hx1 h4)))
theorem UE {l1 b r} (h:LA l1 b=some r):Ad Tryz.prog 101 [qd l1,rB b] (rI r):=by
 unfold LA at h
 refine mF Tryz.func101 Tryz.ntmps101 R fun n0=>aU (mA R (aZ (aS fun K2 c2 wK2=>(aU (mM R (xL Cd R (mM R (aZ (Ze (BH h fun o1 hit1 hk1 he1=>?_))))))))))
 have J1 : ∀ (u2:Unit) (i5:NN),o1 = .nrm u2→K2 ⟨[],[],(i5 0),48⟩:=by
  intro u2 i5 e
  have h1:=hk1 _ e
  exact c2 _ (zI h1 R id)
 refine Zv (fun (x2:Int) i3=>⟨[(0,qd l1),(1,rB b),(7,qd l1),(8,rL l1),(9,rI x2)],[],(i3 0),48⟩) (AH [n0]) hit1 wk ?_
 intro x2 i3 v1 hv1 hx1
 have h2:JH l1 b x2=some v1:=hv1; unfold JH at h2
 refine aU (xS R (aZ (aT fun c6=>(cI R h2 (fun h3=>?_) fun h3=>?_))))
 ·refine Zd (c6 _ (aT fun c7=>(Ze (aU (mM R (Zc h3 fun x4 ex4 h4=>(xI Cd R ex4 (xB ((Jp x4)) Kk R (sS R (Zo (cs:=[.r (.str []),.r (.str [])]) 6 R Xw R R) (mA R (Zi R R (Zh (ds:=(Jp x4)) R bh iL R iL R R R R) (aZ (Ze (aU (lF Ih DK R R (Zc h4 fun r1 er1 h5=>(cL (cC (er1)) R (sQ R (BI R iL) (mA R (aZ (cI R h5 (fun h6=>?_) fun h6=>?_)))))))))))))))))))))
  ·exact zI (he1 _ (xH hx1 h6)) R id
  refine aT fun c11=>(aG [0,1,5,6,7,8,9] [6] ?_)
  refine aR (lF NS DK R R (Zc h6 fun r2 er2 h7=>(cL (Uk (er2)) R (sQ R (BI R iL) (mM R (vM R (vQ R (Zf R (iR R)) (wQ R (fB R NS iL fR R) (wQ R (Zj (a:=rS x4.Value) R DK (iR R) R R) (wQ R (IG R (iR R) iL) (vQ R (Bt R (iR R) (iR R)) (vQ R (BI R (iR R)) (xN R (mA R (aZ (c11 _ (cI R h7 (fun h8=>?_) fun h8=>?_)))))))))))))))))
  ·exact zI (he1 _ (xH hx1 h8)) R id
  refine aT fun c13=>?_
  refine Zy BG (by kernel_rfl) ?_
  refine qP R (Zf R iL) (qP R (BM R iL iL) (qP R (Zf R iL) (qO R (fB R Ih iL fR R) (qO R (Zj (a:=rS x4.Name) R DK (iR R) R R) (qO R (Zf R iL) (qO R (Zf R iL) (Zc h8 fun x5 ex5 h9=>qO R (Ba R (iR R) iL (Ai ex5)) (Zc h9 fun x6 ex6 h10=>qO R (Zp R Cd.slice (iR R) (iR R) (fun _=>R) (Ai ex6)) (qO R (Zl R Ih (iR R)) (qO R (Bk (d:=.str x6.Name) R DK (iR R) R) (qO R (bM R (iR R) (iR R)) (qP R (Bt R iL (iR R)) (qP R (D8 R iL) (AQ.nil (c13 _ (cI R h10 (fun h11=>?_) fun h11=>?_))))))))))))))))
  ·exact zI (he1 _ (xH hx1 h11)) R id
  refine Zd (c7 _ (aF [0,1,7,8,9] ?_))
  exact aR (Zc h11 fun x7 ex7 h12=>(xA R ex7 (mM R (Zg (Zs h12 (AH [((i3 0)+1)]) wk)))))
 exact Zm (wK2 _ _ wk (J1 _ (AH [(i3 0)]) (xH hx1 h3)))
theorem Va {l1 r} (h:Jz l1=some r):Ad Tryz.prog 84 [qd l1] (rI r):=by
 unfold Jz at h
 exact mF Tryz.func84 Tryz.ntmps84 R fun n0=>aU (mA R (aZ (aU (mM R (Zc h fun r1 er1 h1=>(cL (UE (er1)) R (mA R (aZ (Zk (yI h1 R))))))))))
theorem Sl {c1 r} (h:HA c1=some r):Ad Tryz.prog 71 (Hz c1) (rB r):=by
 unfold HA at h
 exact mF Tryz.func71 Tryz.ntmps71 R fun n0=>aU (sS R (Zu (cs:=(AY c1)) 1 R iL R R) (mA R (aZ (aU (lF Gs DK R R (sQ R (IG R iL iL) (mM R (vF Ga AI R R (vQ R (BT R (iR R) iL) (xN R (mM R (vF Ff Fy R R (vQ R (HH R Cd.slice (iR R)) (vQ R (BT R (iR R) iL) (xN R (mA R (aZ (Zk (yB h R)))))))))))))))))))
theorem TJ {x1 r} (h:Lp x1=some r):Ad Tryz.prog 77 [rI x1] (rB r):=by
 unfold Lp at h
 exact mF Tryz.func77 Tryz.ntmps77 R fun n0=>aU (mA R (aZ (aU (mM R (mM R (xU R (mA R (aZ (Zk (yB h R))))))))))
theorem MP {x1 y1 r} (h:Ha x1 y1=some r):Ad Tryz.prog 56 [rI x1,rI y1] (rI r):=by
 unfold Ha at h
 refine mF Tryz.func56 Tryz.ntmps56 R fun n0=>aU (mA R (aZ (aU (mM R (Zc h fun xNaN1 exNaN1 h1=>(cL (TJ (exNaN1)) R (mA R (aZ (aU (mM R (Zc h1 fun yNaN1 eyNaN1 h2=>(cL (TJ (eyNaN1)) R (mA R (aZ (aT fun c4=>(aU (mM R (aZ (cI R h2 (fun h3=>?_) fun h3=>?_)))))))))))))))))))
 ·refine aT fun c6=>(aT fun c7=>(aF [6] ?_))
  refine aR (mM R (aZ (c7 _ (cI R h3 (fun h4=>?_) fun h4=>?_))))
  ·exact zI h4 R id
  exact Zd (c6 _ (zI h4 R id))
 refine Zd (c4 _ (aT fun c10=>(aU (mM R (aZ (cI R h3 (fun h5=>?_) fun h5=>?_))))))
 ·exact zI h5 R id
 refine Zd (c10 _ (aT fun c13=>(aT fun c14=>(aF [0,1] ?_))))
 refine aR (mM R (mM R (xS R (aZ (c14 _ (cI R h5 (fun h6=>?_) fun h6=>?_))))))
 ·exact zI h6 R id
 refine Zd (c13 _ (aT fun c16=>(aU (mM R (mM R (sQ R (BM R iL iL) (aZ (cI R h6 (fun h7=>?_) fun h7=>?_))))))))
 ·exact zI h7 R id
 exact Zd (c16 _ (zI h7 R id))
theorem Te {v r} (h:Jf v=some r):Ad Tryz.prog 55 [.r (.sl (v.map (AU .i64)))] (rI r):=by
 unfold Jf at h
 refine mF Tryz.func55 Tryz.ntmps55 R fun n0=>aU (mA R (aZ (aU (mA R (aZ (aS fun K3 c3 wK3=>(aU (mM R (xL BS R (mM R (aZ (Ze (BH h fun o1 hit1 hk1 he1=>?_)))))))))))))
 have J1 : ∀ (u2:Unit) (i5:NN),o1 = .nrm u2→K3 ⟨[(3,rI 0)],[],(i5 0),18⟩:=by
  intro u2 i5 e
  have h1:=hk1 _ e
  exact c3 _ (aU (mM R (mA R (aZ (Zk (yI h1 R))))))
 refine Zv (fun (x2:Int) i3=>⟨[(3,rI 0),(6,.r (.sl (v.map (AU .i64)))),(7,rL v),(8,rI x2)],[],(i3 0),18⟩) (AH [n0]) hit1 wk ?_
 intro x2 i3 v1 hv1 hx1
 have h2:DG v x2=some v1:=hv1; unfold DG at h2
 refine aU (xS R (aZ (aT fun c7=>(cI R h2 (fun h3=>?_) fun h3=>?_))))
 ·refine Zd (c7 _ (aT fun c8=>(Ze (aU (Zc h3 fun x4 ex4 h4=>(xI BS R ex4 (xV (.int .i64 x4) AI R (mA R (aZ (aU (mM R (mM R (xU R (aZ (cI R h4 (fun h5=>?_) fun h5=>?_)))))))))))))))
  ·refine aT fun c11=>(aF [5] ?_)
   exact aR (mM R (mA R (aZ (c11 _ (Zk (yI (he1 _ (xH hx1 h5)) R))))))
  exact Zd (c8 _ (aR (Zc h5 fun x5 ex5 h6=>(xA R ex5 (mM R (Zg (Zs h6 (AH [(i3 0)]) wk)))))))
 exact Zm (wK3 _ _ wk (J1 _ (AH [(i3 0)]) (xH hx1 h3)))
theorem H5 {a1 b1 r} (h:EF a1 b1=some r):Ad Tryz.prog 63 [.agg (AY a1),.agg (AY b1)] (rI r):=by
 unfold EF at h
 refine mF Tryz.func63 Tryz.ntmps63 R fun n0=>aU (sS R (Zu (cs:=(AY a1)) 2 R iL R R) (sS R (Zu (cs:=(AY b1)) 3 R iL R R) (mA R (aZ (aT fun c2=>(Zc h fun r1 er1 h1=>?_))))))
 refine rP 9 [pO 5 (.ptr 2 n0 0 0),pO 6 (rI a1.Row),pO 7 (.ptr 3 (n0+1) 0 0),pO 8 (rI b1.Row),pO 9 (rI r1),pO 10 (.ptr 2 n0 0 1),pO 11 (rI a1.Col),pO 12 (.ptr 3 (n0+1) 0 1),pO 13 (rI b1.Col)] BG R (by exact ⟨oB [(2,.ptr 2 n0 0 0)] [(2,some (.box n0 43 (AY a1)))] (fB R CP (.inl R) (fun _=>R) R),oB [(5,.ptr 2 n0 0 0)] [(2,some (.box n0 43 (AY a1)))] (Zj (a:=rI a1.Row) R AI (.inl R) R R),oB [(3,.ptr 3 (n0+1) 0 0)] [(3,some (.box (n0+1) 43 (AY b1)))] (fB R CP (.inl R) (fun _=>R) R),oB [(7,.ptr 3 (n0+1) 0 0)] [(3,some (.box (n0+1) 43 (AY b1)))] (Zj (a:=rI b1.Row) R AI (.inl R) R R),oD (fun _=>[(6,rI a1.Row),(8,rI b1.Row)]) (fun _=>[]) (fun G1 e h' n=>HB (r:=rI r1) (caps:=[]) (bs:=[rI a1.Row,rI b1.Row]) R (.inl R) R ⟨⟨_,(.inl R),.d R⟩,⟨_,(.inl R),.d R⟩,Za⟩ (fun _=>MP (er1)) R),oB [(2,.ptr 2 n0 0 0)] [(2,some (.box n0 43 (AY a1)))] (fB R Cs (.inl R) (fun _=>R) R),oB [(10,.ptr 2 n0 0 1)] [(2,some (.box n0 43 (AY a1)))] (Zj (a:=rI a1.Col) R AI (.inl R) R R),oB [(3,.ptr 3 (n0+1) 0 0)] [(3,some (.box (n0+1) 43 (AY b1)))] (fB R Cs (.inl R) (fun _=>R) R),oB [(12,.ptr 3 (n0+1) 0 1)] [(3,some (.box (n0+1) 43 (AY b1)))] (Zj (a:=rI b1.Col) R AI (.inl R) R R),Za⟩) fun G1 n1=>?_
 refine CB [0,1,2,3,4,5,6,7,8,9,10,11,12,13] [2,3] ?_
 exact Zc h1 fun r2 er2 h2=>(cL (MP (er2)) R (sS R (Bp 15 R BS (f:=(AU .i64)) (l:=([r1,r2]:List Int)) ⟨R,⟨_,iL,R⟩,R,⟨_,iL,R⟩,Za⟩ R (fun _=>R) R) (Zc h2 fun r3 er3 h3=>(cL (Te (er3)) R (mA R (aZ (c2 _ (Zk (yI h3 R)))))))))
theorem RL {l1 a c n r} (h:Jd l1 a c n=some r):Ad Tryz.prog 64 [qc l1,rI a,rI c,rB n] (rI r):=by
 unfold Jd at h
 refine mF Tryz.func64 Tryz.ntmps64 R fun n0=>aU (mA R (aZ (aS fun K2 c2 wK2=>(aU (mM R (xL Aq R (mM R (aZ (Ze (BH h fun o1 hit1 hk1 he1=>?_))))))))))
 have J1 : ∀ (u2:Unit) (i5:NN),o1 = .nrm u2→K2 ⟨[],[],(i5 0),79⟩:=by
  intro u2 i5 e
  have h1:=hk1 _ e
  exact c2 _ (zI h1 R id)
 refine Zv (fun (x2:Int) i3=>⟨[(0,qc l1),(1,rI a),(2,rI c),(3,rB n),(12,qc l1),(13,rL l1),(14,rI x2)],[],(i3 0),79⟩) (AH [n0]) hit1 wk ?_
 intro x2 i3 v1 hv1 hx1
 have h2:LK l1 a c n x2=some v1:=hv1; unfold LK at h2
 refine aU (xS R (aZ (aT fun c6=>(cI R h2 (fun h3=>?_) fun h3=>?_))))
 ·refine Zd (c6 _ (aT fun c7=>(Ze (aU (mM R (Zc h3 fun x4 ex4 h4=>(xI Aq R ex4 (xB ((AY x4)) BC R (sS R (Zo (cs:=DV) 10 R EU R R) (mA R (Zi R R (Zh (ds:=(AY x4)) R DI iL R iL R R R R) (aZ (aT fun c9=>(Ze (aU (lF CP AI R R (xS R (mM R (vF CP AI R R (vM R (vQ R (B4 R (iR R) (iR R)) (xO R (mM R (vF Cs AI R R (vQ R (Bh R (iR R) iL) (xO R (mM R (vF Cs AI R R (vM R (vQ R (B4 R (iR R) (iR R)) (xO R (mA R (aZ (cI R h4 (fun h5=>?_) fun h5=>?_))))))))))))))))))))))))))))))))))
  ·exact zI (he1 _ (xH hx1 h5)) R id
  refine aT fun c12=>(aG [0,1,2,3,9,10,12,13,14] [10] ?_)
  refine aR (lF Ga AI R R (xS R (mM R (vF Ga AI R R (vQ R (BM R (iR R) iL) (xO R (mA R (aZ (c12 _ (cI R h5 (fun h6=>?_) fun h6=>?_))))))))))
  ·exact zI (he1 _ (xH hx1 h6)) R id
  refine aU (lF Gs DK R R (Zc h6 fun r1 er1 h7=>(cL (YU (er1)) R (sQ R (BI R iL) (mA R (aZ (cI R h7 (fun h8=>?_) fun h8=>?_)))))))
  ·exact zI (he1 _ (xH hx1 h8)) R id
  refine Zd (c9 _ (aT fun c16=>(aT fun c17=>(aG [0,1,2,3,9,10,12,13,14] [10] ?_))))
  refine aR (lF Ff Fy R R (Zc h8 fun e1 ee1 h9=>(cL (Va (ee1)) R (mA R (aZ (c17 _ (aU (mM R (xU R (aZ (cI R h9 (fun h10=>?_) fun h10=>?_)))))))))))
  ·refine aT fun c19=>(aF [11] ?_)
   exact aR (mM R (mA R (aZ (c19 _ (Zk (yI (he1 _ (xH hx1 h10)) R))))))
  refine Zd (c16 _ (aT fun c20=>(aU (xC BC R (Zc h10 fun r2 er2 h11=>(cL (Sl (er2)) R (mM R (vM R (vQ R (BI R (iR R)) (xN R (aZ (cI R h11 (fun h12=>?_) fun h12=>?_))))))))))))
  ·exact zI (he1 _ (xH hx1 h12)) R id
  refine Zd (c20 _ (aT fun c23=>(aG [0,1,2,3,9,10,12,13,14] [10] ?_)))
  refine Zy BG (by kernel_rfl) ?_
  refine qP R (Zf R iL) (qP R (BM R iL iL) (qP R (Zf R iL) (qO R (Zf R iL) (qO R (Zf R iL) (Zc h12 fun x5 ex5 h13=>qO R (Ba R (iR R) iL (Ai ex5)) (Zc h13 fun x6 ex6 h14=>qO R (Zp R Aq.slice (iR R) (iR R) (fun _=>R) (Ai ex6)) (qO R (Bz (cs:=(AY x6)) R BC (iR R) R R) (qO R (Zq R BC iL R R) (Zc h14 fun r3 er3 h15=>Jr (.one R R R) R R (r:=rI r3) (caps:=[]) (bs:=[.agg (AY x6),.agg (AY x4)]) R iL R ⟨⟨_,(iR R),.g (cs:=[.int .i64 x6.Row,.int .i64 x6.Col,.str x6.Text,.int .i64 x6.Ref,.sl (x6.Attrs.map Ak.row)]) R R⟩,⟨_,(iR R),.g (cs:=[.int .i64 x4.Row,.int .i64 x4.Col,.str x4.Text,.int .i64 x4.Ref,.sl (x4.Attrs.map Ak.row)]) R R⟩,Za⟩ (fun hg=>H5 (Ai er3 hg)) R (qO R (B4 R (iR R) iL) (qP R (Bt R iL (iR R)) (AQ.nil (c23 _ (cI R h15 (fun h16=>?_) fun h16=>?_))))))))))))))
  ·exact zI (he1 _ (xH hx1 h16)) R id
  exact Zd (c7 _ (aR (Zc h16 fun x7 ex7 h17=>(xA R ex7 (mM R (Zg (Zs h17 (AH [((i3 0)+1)]) wk)))))))
 exact Zm (wK2 _ _ wk (J1 _ (AH [(i3 0)]) (xH hx1 h3)))
theorem PE {r1 a c r} (h:IK r1 a c=some r):Ad Tryz.prog 44 [.agg (AL r1),rI a,rI c] (rB r):=by
 unfold IK at h
 refine mF Tryz.func44 Tryz.ntmps44 R fun n0=>aU (sS R (Zu (cs:=(AL r1)) 3 R iL R R) (mA R (aZ (aU (lF Bj AI R R (sQ R (B4 R iL iL) (mM R (vF Br AI R R (vQ R (B4 R (iR R) iL) (xN R (mM R (vF DF AI R R (vQ R (B4 R (iR R) iL) (xN R (mM R (vF DR AI R R (vQ R (B4 R (iR R) iL) (xN R (mM R (vF Bj AI R R (vM R (vQ R (Bh R (iR R) (iR R)) (xN R (mM R (vF Br AI R R (vM R (vQ R (Bh R (iR R) (iR R)) (xN R (mM R (vF DF AI R R (vM R (vF Bj AI R R (Zc h fun x1 ex1 h1=>(vQ R (Ba R (iR R) (iR R) (Ai ex1)) (vQ R (Dp R (iR R) (iR R)) (xN R (mM R (vF DR AI R R (vM R (vF Br AI R R (Zc h1 fun x2 ex2 h2=>(vQ R (Ba R (iR R) (iR R) (Ai ex2)) (vQ R (Dp R (iR R) (iR R)) (xN R (mA R (aZ ?_))))))))))))))))))))))))))))))))))))))))))))))
 exact Zk (yB h2 R)
theorem Yd {a1 b1 r} (h:Lx a1 b1=some r):Ad Tryz.prog 65 [.agg (AL a1),.agg (AL b1)] (rB r):=by
 unfold Lx at h
 exact mF Tryz.func65 Tryz.ntmps65 R fun n0=>aU (sS R (Zu (cs:=(AL a1)) 2 R iL R R) (sS R (Zu (cs:=(AL b1)) 3 R iL R R) (mA R (aZ (aU (lF Bj AI R R (lF Bj AI R R (xS R (mM R (vF Bj AI R R (vF Bj AI R R (vQ R (BT R (iR R) (iR R)) (vQ R (Zf R (iR R)) (wQ R (fB R Br iL fR R) (wQ R (Zj (a:=rI a1.Col) R AI (iR R) R R) (wQ R (fB R Br iL fR R) (wQ R (Zj (a:=rI b1.Col) R AI (iR R) R R) (wQ R (Bh R (iR R) (iR R)) (vQ R (Bt R (iR R) (iR R)) (xO R (mA R (aZ (Zk (yB h R))))))))))))))))))))))))
theorem QQ {a1 b1 r} (h:JN a1 b1=some r):Ad Tryz.prog 52 [.agg (AL a1),.agg (AL b1)] (rB r):=by
 unfold JN at h
 exact mF Tryz.func52 Tryz.ntmps52 R fun n0=>aU (sS R (Zu (cs:=(AL a1)) 2 R iL R R) (sS R (Zu (cs:=(AL b1)) 3 R iL R R) (mA R (aZ (aU (lF Bj AI R R (lF Bj AI R R (lF DF AI R R (Zc h fun x1 ex1 h1=>(xA R ex1 (xS R (mM R (vF Bj AI R R (vF Bj AI R R (vF DF AI R R (Zc h1 fun x2 ex2 h2=>(vQ R (Fg R (iR R) (iR R) (Ai ex2)) (vQ R (Bh R (iR R) (iR R)) (xN R (mM R (vF Br AI R R (vF Br AI R R (vF DR AI R R (Zc h2 fun x3 ex3 h3=>vQ R (Fg R (iR R) (iR R) (Ai ex3)) (vQ R (Bh R (iR R) (iR R)) (xN R (mM R (vF Br AI R R (vF Br AI R R (vF DR AI R R (Zc h3 fun x4 ex4 h4=>(vQ R (Fg R (iR R) (iR R) (Ai ex4)) (vQ R (Bh R (iR R) (iR R)) (xN R (mA R (aZ (Zk (yB h4 R))))))))))))))))))))))))))))))))))))))
theorem Xm {w1:AD} {q1:AD} {r:Bool} {gb1000:Nat} (h:MJ w1 q1=some r):Bo Tryz.prog 67 1 [.agg (AL q1),.ptr 1000 gb1000 0 0] [(1000,some (.box gb1000 47 (AL w1)))] (fun rr h'=>∃ (i:Nat→Nat),rr=rB r∧h'=[(1000,some (.box gb1000 47 (AL w1)))]):=by
 unfold MJ at h
 refine Ft Tryz.func67 R R Tryz.ntmps67 (Nat.le_of_ble_eq_true R) fun n0=>aU (sS R (Zu (cs:=(AL q1)) 2 R iL R R) (mA R (aZ (aU (xC Au R (xC Au R (Zc h fun r1 er1 h1=>(cL (QQ (er1)) R (mA R (aZ ?_))))))))))
 exact Zk (CW.mk (s':=⟨[(3,rB r1)],[(1000,some (.box gb1000 47 (AL w1)))],(n0+1),7⟩) wk (DC (fun (r:Bool) rr h'=>∃ (i:Nat→Nat),rr=rB r∧h'=[(1000,some (.box gb1000 47 (AL w1)))]) h1 (by exact ⟨rB r1,[(1000,some (.box gb1000 47 (AL w1)))],R,⟨.inr R,Za⟩,R,R,AH [],R,R⟩)))
theorem Vk {w1:AD} {s1:List AD} {r:Int} {gb1000:Nat} (h:Nk w1 s1=some r):Bo Tryz.prog 74 1 [qa s1,.fn 67 [.ptr 1000 gb1000 0 0]] [(1000,some (.box gb1000 47 (AL w1)))] (fun rr h'=>∃ (i:Nat→Nat),rr=rI r∧h'=[(1000,some (.box gb1000 47 (AL w1)))]):=by
 unfold Nk at h
 refine Ft Tryz.func74 R R Tryz.ntmps74 (Nat.le_of_ble_eq_true R) fun n0=>aU (mA R (aZ (aS fun K2 c2 wK2=>(aU (mM R (xL Ag R (mM R (aZ (Ze (BH h fun o1 hit1 hk1 he1=>?_))))))))))
 have J1 : ∀ (u2:Unit) (i5:NN),o1 = .nrm u2→K2 ⟨[],[(1000,some (.box gb1000 47 (AL w1)))],(i5 0),19⟩:=by
  intro u2 i5 e
  have h1:=hk1 _ e
  refine c2 _ (aU (mA R (aZ ?_)))
  exact Zk (CW.mk (s':=⟨[(4,rI ((-1)))],[(1000,some (.box gb1000 47 (AL w1)))],(i5 0),19⟩) wk (DC (fun (r:Int) rr h'=>∃ (i:Nat→Nat),rr=rI r∧h'=[(1000,some (.box gb1000 47 (AL w1)))]) h1 (by exact ⟨rI ((-1)),[(1000,some (.box gb1000 47 (AL w1)))],R,⟨.inr R,Za⟩,R,R,AH [],R,R⟩)))
 refine Zv (fun (x2:Int) i3=>⟨[(0,qa s1),(1,.fn 67 [.ptr 1000 gb1000 0 0]),(7,rL s1),(8,rI x2)],[(1000,some (.box gb1000 47 (AL w1)))],(i3 0),19⟩) (AH [n0]) hit1 wk ?_
 intro x2 i3 v1 hv1 hx1
 have h2:Lh w1 s1 x2=some v1:=hv1; unfold Lh at h2
 refine aU (xS R (aZ (aT fun c6=>(cI R h2 (fun h3=>?_) fun h3=>?_))))
 ·refine Zd (c6 _ (aT fun c7=>(Ze (aU (mM R (mA R (aZ (aT fun c9=>(aR (mM R (mM R (mM R (Zc h3 fun x4 ex4 h4=>(xI Ag R ex4 (xB ((AL x4)) Au R (Zc h4 fun r1 er1 h5=>?_))))))))))))))))
  refine EZ [1000] (hc:=[(1000,some (.box gb1000 47 (AL w1)))]) (bs:=(Mk x4)) (caps:=[.ptr 1000 gb1000 0 0]) R R R R iL R ⟨.inl ⟨iL,R⟩,Za⟩ ⟨R,R,R,Za⟩ (by decide) (Xm er1) ?_
  intro i6 n1
  refine CB [0,1,5,7,8,9,10,11,12,13,14,15,16] [1000] ?_
  refine aZ (c9 _ (cI R h5 (fun h6=>?_) fun h6=>?_))
  ·refine aT fun c10=>(aG [5] [1000] ?_)
   refine aR (mM R (mA R (oZ c10 ?_)))
   exact Zk (CW.mk (s':=⟨[(4,rI x2)],[(1000,some (.box gb1000 47 (AL w1)))],n1,19⟩) wk (DC (fun (r:Int) rr h'=>∃ (i:Nat→Nat),rr=rI r∧h'=[(1000,some (.box gb1000 47 (AL w1)))]) (he1 _ (xH hx1 h6)) (by exact ⟨rI x2,[(1000,some (.box gb1000 47 (AL w1)))],R,⟨.inr R,Za⟩,R,R,AH [],R,R⟩)))
  refine Zd (c7 _ (aG [0,1,7,8] [1000] ?_))
  exact aR (Zc h6 fun x5 ex5 h7=>(xA R ex5 (mM R (Zg (Zs h7 (AH [n1]) wk)))))
 exact Zm (wK2 _ _ wk (J1 _ (AH [(i3 0)]) (xH hx1 h3)))
theorem aj {w1:AD} {s1:List AD} {r:Bool} {gb1000:Nat} (h:Iq w1 s1=some r):Bo Tryz.prog 66 1 [qa s1,.fn 67 [.ptr 1000 gb1000 0 0]] [(1000,some (.box gb1000 47 (AL w1)))] (fun rr h'=>∃ (i:Nat→Nat),rr=rB r∧h'=[(1000,some (.box gb1000 47 (AL w1)))]):=by
 unfold Iq at h
 refine Ft Tryz.func66 R R Tryz.ntmps66 (Nat.le_of_ble_eq_true R) fun n0=>aU (mA R (aZ (aT fun c2=>(aR (mM R (mM R (Zc h fun r1 er1 h1=>?_)))))))
 refine EZ [1000] (hc:=[(1000,some (.box gb1000 47 (AL w1)))]) (bs:=[qa s1,.fn 67 [.ptr 1000 gb1000 0 0]]) (caps:=[]) R R R R iL R ⟨.inl ⟨iL,R⟩,.inl ⟨iL,R⟩,Za⟩ ⟨R,R,R,Za⟩ (by decide) (Vk er1) ?_
 intro i1 n1
 refine CB [0,1,4,5,6,7] [1000] ?_
 refine sQ R (B4 R iL iL) (mA R (oZ c2 ?_))
 exact Zk (CW.mk (s':=⟨[(4,rB ((decide (0≤r1))))],[(1000,some (.box gb1000 47 (AL w1)))],n1,9⟩) wk (DC (fun (r:Bool) rr h'=>∃ (i:Nat→Nat),rr=rB r∧h'=[(1000,some (.box gb1000 47 (AL w1)))]) h1 (by exact ⟨rB ((decide (0≤r1))),[(1000,some (.box gb1000 47 (AL w1)))],R,⟨.inr R,Za⟩,R,R,AH [],R,R⟩)))
theorem Uj {g1 r} (h:Kp g1=some r):Ad Tryz.prog 41 (Sx g1) (rI r):=by
 unfold Kp at h
 refine mF Tryz.func41 Tryz.ntmps41 R fun n0=>aU (sS R (Zu (cs:=(AP g1)) 1 R iL R R) (mA R (aZ (aT fun c2=>(aU (lF Dw AI R R (xS R (mM R (vF Dw AI R R (vQ R (BM R (iR R) iL) (xO R (mM R (vF EC AI R R (vQ R (Bh R (iR R) iL) (xO R (mM R (vF EC AI R R (vQ R (BM R (iR R) iL) (xO R (aZ (cI R h (fun h1=>?_) fun h1=>?_)))))))))))))))))))))
 ·exact zI h1 R id
 refine Zd (c2 _ (aT fun c5=>(aT fun c6=>(aG [1] [1] ?_))))
 refine aR (lF Ef CD R R (lF Dw AI R R (lF EC AI R R (Zc h1 fun e1 ee1 h2=>(cL (RL (ee1)) R (mA R (aZ (c6 _ (aU (mM R (xU R (aZ (cI R h2 (fun h3=>?_) fun h3=>?_)))))))))))))
 ·refine aT fun c8=>(aF [3] ?_)
  exact aR (mM R (mA R (aZ (c8 _ (Zk (yI h3 R))))))
 refine Zd (c5 _ (aS fun K9 c9 wK9=>(aT fun c10=>(aG [1] [1] ?_))))
 refine aR (lF Bb Aw R R (xL Ag R (mM R (aZ (c10 _ (Ze (BH h3 fun o1 hit1 hk1 he1=>?_)))))))
 have J1 : ∀ (u2:Unit) (i5:NN),o1 = .nrm u2→K9 ⟨[],[],(i5 0),81⟩:=by
  intro u2 i5 e
  have h4:=hk1 _ e
  exact c9 _ (zI h4 R id)
 refine Zv (fun (x2:Int) i3=>⟨[(1,.ptr 1 n0 0 0),(35,qa g1.Merges),(36,rL g1.Merges),(37,rI x2)],[(1,some (.box n0 25 (AP g1)))],(i3 0),81⟩) (AH [(n0+1)]) hit1 wk ?_
 intro x2 i3 v1 hv1 hx1
 have h5:Ka g1 x2=some v1:=hv1; unfold Ka at h5
 refine aU (xS R (aZ (aT fun c13=>(cI R h5 (fun h6=>?_) fun h6=>?_))))
 ·refine Zd (c13 _ (aT fun c14=>(Ze (aU (mM R (Zc h6 fun x4 ex4 h7=>(xI Ag R ex4 (xB ((AL x4)) Au R (sS R (Zo (cs:=Ca) 5 R DZ R R) (mA R (Zi R R (Zh (ds:=(AL x4)) R DE iL R iL R R R R) (aZ (Ze (aU (xC Au R (lF Dw AI R R (lF EC AI R R (Zc h7 fun r1 er1 h8=>(cL (PE (er1)) R (sQ R (BI R iL) (mA R (aZ (cI R h8 (fun h9=>?_) fun h9=>?_)))))))))))))))))))))))
  ·exact zI (he1 _ (xH hx1 h9)) R id
  refine aT fun c18=>(aG [1,4,5,35,36,37] [1,5] ?_)
  refine aR (lF DF AI R R (xQ R (mM R (vF DR AI R R (vQ R (BT R (iR R) iL) (xN R (mA R (aZ (c18 _ (cI R h9 (fun h10=>?_) fun h10=>?_))))))))))
  ·exact zI (he1 _ (xH hx1 h10)) R id
  refine aT fun c20=>?_
  refine Zy BG (by kernel_rfl) ?_
  refine qP R (Zf R iL) (qP R (BM R iL iL) (qP R (Zf R iL) (qO R (fB R Bb iL fR R) (qO R (Zj (a:=qa g1.Merges) R Aw (iR R) R R) (qO R (Zf R iL) (Zc h10 fun x5 ex5 h11=>qO R (Ba R (iR R) iL (Ai ex5)) (Zc h11 fun x6 ex6 h12=>qO R (Zp R Ag.slice (iR R) (iR R) (fun _=>R) (Ai ex6)) (qO R (Bz (cs:=(AL x6)) R Au (iR R) R R) (qO R (Zq R Au iL R R) (Zc h12 fun r2 er2 h13=>Jr (.one R R R) R R (r:=rB r2) (caps:=[]) (bs:=[.agg (AL x6),.agg (AL x4)]) R iL R ⟨⟨_,(iR R),.g (cs:=[.int .i64 x6.Row,.int .i64 x6.Col,.int .i64 x6.H,.int .i64 x6.W]) R R⟩,⟨_,(iR R),.g (cs:=[.int .i64 x4.Row,.int .i64 x4.Col,.int .i64 x4.H,.int .i64 x4.W]) R R⟩,Za⟩ (fun hg=>Yd (Ai er2 hg)) R (qO R (BI R (iR R)) (qP R (Bt R iL (iR R)) (qP R (D8 R iL) (AQ.nil (c20 _ (cI R h13 (fun h14=>?_) fun h14=>?_))))))))))))))))
  ·exact zI (he1 _ (xH hx1 h14)) R id
  refine aT fun c22=>(aG [1,4,5,35,36,37] [1,5] ?_)
  refine aR (lF Bb Aw R R (mM R (Zc h14 fun l1 el1 h15=>?_)))
  refine sQ R (OU R Ag.slice iL (by exact R) (by exact ⟨_,iL⟩) (fun _=>R) (fun _=>el1)) ?_
  refine sQ R (TW (bs:=[.ptr 5 (i3 0) 0 0]) R (by exact ⟨iL,Za⟩)) ?_
  refine Zc h15 fun r3 er3 h16=>?_
  refine EZ [5] (hc:=[(1000,some (.box (i3 0) 47 (AL x4)))]) (bs:=[qa l1,.fn 67 [.ptr 1000 (i3 0) 0 0]]) (caps:=[]) R R R R iL R ⟨.inl ⟨iL,R⟩,.inl ⟨iL,R⟩,Za⟩ ⟨R,R,R,Za⟩ (by decide) (aj er3) ?_
  intro i6 n1
  refine CB [1,4,5,35,36,37,74,75,76,77,78,79] [1,5] ?_
  refine mA R (aZ (c22 _ (cI R h16 (fun h17=>?_) fun h17=>?_)))
  ·exact zI (he1 _ (xH hx1 h17)) R id
  refine Zd (c14 _ (aG [1,35,36,37] [1] ?_))
  exact aR (Zc h17 fun x7 ex7 h18=>(xA R ex7 (mM R (Zg (Zs h18 (AH [n1]) wk)))))
 exact Zm (wK9 _ _ wk (J1 _ (AH [(i3 0)]) (xH hx1 h6)))
theorem La {a1 r} (h:Gf a1=some r):Ad Tryz.prog 30 [qb a1] (rI r):=by
 unfold Gf at h
 refine mF Tryz.func30 Tryz.ntmps30 R fun n0=>aU (mA R (aZ (aU (mA R (mA R (aZ (aS fun K3 c3 wK3=>(aU (mM R (xL A5 R (mM R (aZ (Ze (KD h fun o1 hit1 hk1 he1=>?_))))))))))))))
 have J1 : ∀ (before4:Int) (after4:Int) (i5:NN),o1 = .nrm (before4,after4)→K3 ⟨[(3,rI before4),(4,rI after4)],[],(i5 0),83⟩:=by
  intro before4 after4 i5 e
  have h1:=hk1 _ _ e
  refine c3 _ (aT fun c5=>(aU (mM R (sQ R (BM R iL iL) (mM R (vM R (vQ R (BM R (iR R) iL) (xO R (aZ (cI R h1 (fun h2=>?_) fun h2=>?_))))))))))
  ·exact zI h2 R id
  exact Zd (c5 _ (zI h2 R id))
 refine Gr (fun (before2:Int) (after2:Int) (x2:Int) i3=>⟨[(0,qb a1),(3,rI before2),(4,rI after2),(7,qb a1),(8,rL a1),(9,rI x2)],[],(i3 0),83⟩) (AH [n0]) hit1 wk ?_
 intro before2 after2 x2 i3 v1 hv1 hx1
 have h3:JZ a1 before2 after2 x2=some v1:=hv1; unfold JZ at h3
 refine aU (xS R (aZ (aT fun c10=>(cI R h3 (fun h4=>?_) fun h4=>?_))))
 ·refine Zd (c10 _ (aS fun K11 c11 wK11=>(Ze (KD h4 fun p1 hp1 hk2 he2=>?_))))
  have J2 : ∀ (before5:Int) (after5:Int) (i6:NN),p1 = .nrm (before5,after5)→K11 ⟨[(0,qb a1),(3,rI before5),(4,rI after5),(7,qb a1),(8,rL a1),(9,rI x2)],[],(i6 0),83⟩:=by
   intro before5 after5 i6 e
   have h5:=hk2 _ _ e
   exact c11 _ (aR (Zc h5 fun x4 ex4 h6=>(xA R ex4 (mM R (Zg (Es.mk h6 (AH [(i6 0)]) wk))))))
  refine aU (mM R (Zc hp1 fun x5 ex5 h7=>(xI A5 R ex5 (xB ([rI x5.Kind,rI x5.N]) IO R (sS R (Zo (cs:=[rI 0,rI 0]) 6 R KW R R) (mA R (Zi R R (Zh (ds:=[rI x5.Kind,rI x5.N]) R LV iL R iL R R R R) (aZ (aT fun c13=>(Ze (aU (lF B8 AI R R (xS R (mM R (vF B8 AI R R (vQ R (BM R (iR R) iL) (xO R (mA R (aZ (cI R h7 (fun h8=>?_) fun h8=>?_))))))))))))))))))))
  ·refine aT fun c15=>(aF [] ?_)
   exact aR (mA R (aZ (c15 _ (Zk (yI (he1 _ (hx1 _ (Zb (he2 _ (Zb h8).symm)).symm)) R)))))
  refine aT fun c16=>(aG [0,3,4,5,6,7,8,9] [6] ?_)
  refine aR (lF CI AI R R (xS R (mM R (vF CI AI R R (vQ R (BM R (iR R) iL) (xO R (mA R (aZ (c16 _ (cI R h8 (fun h9=>?_) fun h9=>?_))))))))))
  ·refine aT fun c17=>(aF [] ?_)
   exact aR (mA R (aZ (c17 _ (Zk (yI (he1 _ (hx1 _ (Zb (he2 _ (Zb h9).symm)).symm)) R)))))
  refine aT fun c18=>?_
  refine Zy BG (by kernel_rfl) ?_
  refine qP R (Zf R iL) (qP R (BM R iL iL) (qP R (Zf R iL) (qO R (Zf R iL) (qO R (Zf R iL) (Zc h9 fun x6 ex6 h10=>qO R (Ba R (iR R) iL (Ai ex6)) (Zc h10 fun x7 ex7 h11=>qO R (Zp R A5.slice (iR R) (iR R) (fun _=>R) (Ai ex7)) (qO R (Zl R B8 (iR R)) (qO R (Bk (d:=.int .i64 x7.Kind) R AI (iR R) R) (qO R (fB R B8 iL fR R) (qO R (Zj (a:=rI x5.Kind) R AI (iR R) R R) (qO R (BT R (iR R) (iR R)) (qO R (Zf R (iR R)) (qT R (Zf R iL) (qT R (Zf R iL) (qT R (Ba R (iR R) iL (fun h=>Ai ex6 (Bool.and_eq_true_iff.1 h).1)) (qT R (Zp R A5.slice (iR R) (iR R) (fun _=>R) (fun h=>Ai ex7 (Bool.and_eq_true_iff.1 h).1)) (qT R (Zl R B8 (iR R)) (qT R (Bk (d:=.int .i64 x7.Kind) R AI (iR R) R) (qT R (BT R (iR R) iL) (qT R (Zf R (iR R)) (qT R (fB R B8 iL fR R) (qT R (Zj (a:=rI x5.Kind) R AI (iR R) R R) (qT R (BT R (iR R) iL) (qT R (Bt R (iR R) (iR R)) (qO R (Ge R (iR R) (iR R)) (qP R (Bt R iL (iR R)) (qP R (D8 R iL) (AQ.nil (c18 _ (cI R h11 (fun h12=>?_) fun h12=>?_))))))))))))))))))))))))))))))
  ·refine aT fun c19=>(aF [] ?_)
   exact aR (mA R (aZ (c19 _ (Zk (yI (he1 _ (hx1 _ (Zb (he2 _ (Zb h12).symm)).symm)) R)))))
  refine Zd (c13 _ (aS fun K20 c20 wK20=>(aT fun c21=>(aG [0,3,4,6,7,8,9] [6] ?_))))
  refine aR (lF B8 AI R R (xU R (aZ (c21 _ (A7 h12 fun p2 hp2 hk3=>?_)))))
  have J3 : ∀ (before6:Int) (i7:NN),p2=before6→K20 ⟨[(0,qb a1),(3,rI before6),(4,rI after2),(6,.ptr 6 (i3 0) 0 0),(7,qb a1),(8,rL a1),(9,rI x2)],[(6,some (.box (i3 0) 52 [rI x5.Kind,rI x5.N]))],(i7 0),83⟩:=by
   intro before6 i7 e
   have h13:=hk3 _ e
   refine c20 _ (aU (lF B8 AI R R (xU R (aZ (cI R h13 (fun h14=>?_) fun h14=>?_)))))
   ·exact aR (mM R (lF CI AI R R (Zc h14 fun x8 ex8 h15=>(xA R ex8 (sQ R (LO R iL iL) (mA R (Zg (wK11 _ _ wk (J2 _ _ (AH [(i7 0)]) (Zb h15).symm)))))))))
   exact Zd (wK11 _ _ wk (J2 _ _ (AH [(i7 0)]) (Zb h14).symm))
  refine aC R (fun hc7=>?_) (fun hc7=>?_)
  ·have h16:=CE hc7 hp2
   exact aR (mM R (lF CI AI R R (Zc h16 fun x9 ex9 h17=>(xA R ex9 (sQ R (LO R iL iL) (mA R (Zg (wK20 _ _ wk (J3 _ (AH [((i3 0)+1)]) (Zb h17).symm)))))))))
  ·have h16:=CA hc7 hp2
   exact Zd (wK20 _ _ wk (J3 _ (AH [((i3 0)+1)]) (Zb h16).symm))
 exact Zm (wK3 _ _ wk (J1 _ _ (AH [(i3 0)]) (xH hx1 h4)))
theorem Xs {e1 r} (h:Ki e1=some r):Ad Tryz.prog 42 (Q1 e1) (rI r):=by
 unfold Ki at h
 refine mF Tryz.func42 Tryz.ntmps42 R fun n0=>aU (sS R (Zu (cs:=(AZ e1)) 1 R iL R R) (mA R (aZ (aS fun K2 c2 wK2=>(aT fun c3=>(aR (lF D2 Bd R R (lF Dm Bd R R ?_))))))))
 refine sQ R (PI R Xx (q:=[(0,_),(1,_)]) (by exact ⟨R,R,R,iL,R,R,R,iL,Za⟩) (cs:=[qb e1.Rows,qb e1.Cols]) (by rfl)) ?_
 refine mM R (aZ (c3 _ (Ze (BH h fun o1 hit1 hk1 he1=>?_))))
 have J1 : ∀ (u2:Unit) (i5:NN),o1 = .nrm u2→K2 ⟨[(1,.ptr 1 n0 0 0)],[(1,some (.box n0 28 (AZ e1)))],(i5 0),63⟩:=by
  intro u2 i5 e
  have h1:=hk1 _ e
  refine c2 _ (aT fun c4=>(aU (lF Du CD R R (Zc h1 fun f1 ef1 h2=>(cL (RL (ef1)) R (mA R (aZ (aU (mM R (xU R (aZ (cI R h2 (fun h3=>?_) fun h3=>?_))))))))))))
  ·exact aU (mM R (mA R (aZ (Zk (yI h3 R)))))
  refine Zd (c4 _ (aS fun K8 c8 wK8=>(aT fun c9=>(aR (lF Dr Aw R R (lF DH Aw R R ?_))))))
  refine sQ R (PI R Rw (q:=[(0,_),(1,_)]) (by exact ⟨R,R,R,iL,R,R,R,iL,Za⟩) (cs:=[qa e1.Split,qa e1.Merge]) (by rfl)) ?_
  refine mM R (aZ (c9 _ (Ze (BH h3 fun o2 hit2 hk2 he2=>?_))))
  have J2 : ∀ (u4:Unit) (i10:NN),o2 = .nrm u4→K8 ⟨[],[],(i10 0),63⟩:=by
   intro u4 i10 e
   have h4:=hk2 _ e
   exact c8 _ (zI h4 R id)
  refine Zv (fun (x5:Int) i8=>⟨[(35,.agg [qa e1.Split,qa e1.Merge]),(36,rI x5)],[],(i8 0),63⟩) (AH [(i5 0)]) hit2 wk ?_
  intro x5 i8 v1 hv1 hx2
  have h5:Dy e1 x5=some v1:=hv1; unfold Dy at h5
  refine aU (xS R (aZ (aT fun c12=>(cI R h5 (fun h6=>?_) fun h6=>?_))))
  ·refine Zd (c12 _ (aS fun K13 c13 wK13=>(Ze (aU (mM R (Zc h6 fun l1 el1 h7=>(sQ R (Oj (f:=fun a=>qa a) (l:=[e1.Split,e1.Merge]) R Qe (.inl R) (.inl R) R (fun _=>el1)) (mA R (mA R (aZ (aU (mM R (xL Ag R (mM R (aZ (Ze (BH h7 fun o3 hit3 hk3 he3=>?_)))))))))))))))))
   have J3 : ∀ (u6:Unit) (i15:NN),o3 = .nrm u6→K13 ⟨[(35,.agg [qa e1.Split,qa e1.Merge]),(36,rI x5)],[],(i15 0),63⟩:=by
    intro u6 i15 e
    have h8:=hk3 _ e
    exact c13 _ (aR (Zc h8 fun x10 ex10 h9=>(xA R ex10 (mM R (Zg (Zs h9 (AH [(i15 0)]) wk))))))
   refine Zv (fun (x8:Int) i13=>⟨[(7,rI x5),(35,.agg [qa e1.Split,qa e1.Merge]),(36,rI x5),(40,qa l1),(41,rL l1),(42,rI x8)],[],(i13 0),63⟩) (AH [(i8 0)]) hit3 wk ?_
   intro x8 i13 v2 hv2 hx3
   have h10:EX x5 l1 x8=some v2:=hv2; unfold EX at h10
   refine aU (xS R (aZ (aT fun c17=>(cI R h10 (fun h11=>?_) fun h11=>?_))))
   ·refine Zd (c17 _ (aT fun c18=>(Ze (aU (Zc h11 fun x11 ex11 h12=>(xI Ag R ex11 (xB ((AL x11)) Au R (sS R (Zo (cs:=Ca) 10 R DZ R R) (Zi R R (Zh (ds:=(AL x11)) R DE iL R iL R R R R) (aZ (aT fun c20=>(aU (xC Au R (Zc h12 fun r1 er1 h13=>(cL (PE (er1)) R (sQ R (BI R iL) (aZ (cI R h13 (fun h14=>?_) fun h14=>?_))))))))))))))))))
    ·refine aT fun c22=>(aF [] ?_)
     exact aR (mA R (aZ (c22 _ (Zk (yI (he2 _ (hx2 _ (Zb (he3 _ (xH hx3 h14))).symm)) R)))))
    refine Zd (c20 _ (aU (mM R (xQ R (mM R (vF DF AI R R (vQ R (BT R (iR R) iL) (xN R (mM R (vF DR AI R R (vQ R (BT R (iR R) iL) (xN R (aZ (cI R h14 (fun h15=>?_) fun h15=>?_))))))))))))))
    ·refine aT fun c24=>(aF [] ?_)
     exact aR (mA R (aZ (c24 _ (Zk (yI (he2 _ (hx2 _ (Zb (he3 _ (xH hx3 h15))).symm)) R)))))
    refine Zd (c18 _ (aF [7,35,36,40,41,42] ?_))
    exact aR (Zc h15 fun x12 ex12 h16=>(xA R ex12 (mM R (Zg (Zs h16 (AH [((i13 0)+1)]) wk)))))
   exact Zm (wK13 _ _ wk (J3 _ (AH [(i13 0)]) (xH hx3 h11)))
  exact Zm (wK8 _ _ wk (J2 _ (AH [(i8 0)]) (xH hx2 h6)))
 refine Zv (fun (x2:Int) i3=>⟨[(1,.ptr 1 n0 0 0),(15,.agg [qb e1.Rows,qb e1.Cols]),(16,rI x2)],[(1,some (.box n0 28 (AZ e1)))],(i3 0),63⟩) (AH [(n0+1)]) hit1 wk ?_
 intro x2 i3 v3 hv3 hx1
 have h17:EE e1 x2=some v3:=hv3; unfold EE at h17
 refine aU (xS R (aZ (aT fun c26=>(cI R h17 (fun h18=>?_) fun h18=>?_))))
 ·refine Zd (c26 _ (aT fun c27=>(Ze (aU (Zc h18 fun a1 ea1 h19=>(sQ R (Oj (f:=fun a=>qb a) (l:=[e1.Rows,e1.Cols]) R XG (.inl R) (.inl R) R (fun _=>ea1)) (mA R (aZ (aU (mM R (Zc h19 fun f2 ef2 h20=>(cL (La (ef2)) R (mA R (aZ (aU (mM R (xU R (aZ (cI R h20 (fun h21=>?_) fun h21=>?_)))))))))))))))))))
  ·refine aT fun c31=>(aF [5] ?_)
   exact aR (mM R (mA R (aZ (c31 _ (Zk (yI (he1 _ (xH hx1 h21)) R))))))
  exact Zd (c27 _ (aR (Zc h21 fun x13 ex13 h22=>(xA R ex13 (mM R (Zg (Zs h22 (AH [(i3 0)]) wk)))))))
 exact Zm (wK2 _ _ wk (J1 _ (AH [(i3 0)]) (xH hx1 h18)))
theorem SK {a1 r} (h:Ij a1=some r):Ad Tryz.prog 85 [qb a1] (.tup [rI r.1,rI r.2]):=by
 unfold Ij at h
 refine mF Tryz.func85 Tryz.ntmps85 R fun n0=>aU (mA R (mA R (aZ (aU (mA R (mA R (aZ (aS fun K3 c3 wK3=>(aU (mM R (xL A5 R (mM R (aZ (Ze (DW h fun o1 hit1 hk1=>?_)))))))))))))))
 have J1 : ∀ (before4:Int) (after4:Int) (i5:NN),o1=(before4,after4)→K3 ⟨[(4,rI before4),(5,rI after4)],[],(i5 0),31⟩:=by
  intro before4 after4 i5 e
  have h1:=hk1 _ _ e
  exact c3 _ (aU (mM R (mM R (mA R (mA R (aZ (Zk (Bq (P:=Tryz.prog) (fun (r:Int × Int)=>rI r.1) (fun (r:Int × Int)=>rI r.2) h1 iL (.t (.d R)) (.t (.d R))))))))))
 refine Gr (fun (before2:Int) (after2:Int) (x2:Int) i3=>⟨[(4,rI before2),(5,rI after2),(8,qb a1),(9,rL a1),(10,rI x2)],[],(i3 0),31⟩) (AH [n0]) hit1 wk ?_
 intro before2 after2 x2 i3 v1 hv1 hx1
 have h2:Jg a1 before2 after2 x2=some v1:=hv1; unfold Jg at h2
 refine aU (xS R (aZ (aT fun c7=>(cI R h2 (fun h3=>?_) fun h3=>?_))))
 ·refine Zd (c7 _ (aS fun K8 c8 wK8=>(Ze (DW h3 fun p1 hp1 hk2=>?_))))
  have J2 : ∀ (before5:Int) (after5:Int) (i6:NN),p1=(before5,after5)→K8 ⟨[(4,rI before5),(5,rI after5),(8,qb a1),(9,rL a1),(10,rI x2)],[],(i6 0),31⟩:=by
   intro before5 after5 i6 e
   have h4:=hk2 _ _ e
   exact c8 _ (aR (Zc h4 fun x4 ex4 h5=>(xA R ex4 (mM R (Zg (Es.mk h5 (AH [(i6 0)]) wk))))))
  refine aU (Zc hp1 fun x5 ex5 h6=>(xI A5 R ex5 (xB ([rI x5.Kind,rI x5.N]) IO R (sS R (Zo (cs:=[rI 0,rI 0]) 7 R KW R R) (Zi R R (Zh (ds:=[rI x5.Kind,rI x5.N]) R LV iL R iL R R R R) (aZ (aS fun K10 c10 wK10=>(aU (lF B8 AI R R (xU R (aZ (A7 h6 fun p2 hp2 hk3=>?_))))))))))))
  have J3 : ∀ (before6:Int) (i7:NN),p2=before6→K10 ⟨[(4,rI before6),(5,rI after2),(7,.ptr 7 (i3 0) 0 0),(8,qb a1),(9,rL a1),(10,rI x2)],[(7,some (.box (i3 0) 52 [rI x5.Kind,rI x5.N]))],(i7 0),31⟩:=by
   intro before6 i7 e
   have h7:=hk3 _ e
   refine c10 _ (aU (lF B8 AI R R (xU R (aZ (cI R h7 (fun h8=>?_) fun h8=>?_)))))
   ·exact aR (mM R (lF CI AI R R (Zc h8 fun after6 eafter6 h9=>(xA R eafter6 (mA R (Zg (wK8 _ _ wk (J2 _ _ (AH [(i7 0)]) (Zb h9).symm))))))))
   exact Zd (wK8 _ _ wk (J2 _ _ (AH [(i7 0)]) (Zb h8).symm))
  refine aC R (fun hc3=>?_) (fun hc3=>?_)
  ·have h10:=CE hc3 hp2
   exact aR (mM R (lF CI AI R R (Zc h10 fun before7 ebefore7 h11=>(xA R ebefore7 (mA R (Zg (wK10 _ _ wk (J3 _ (AH [((i3 0)+1)]) (Zb h11).symm))))))))
  ·have h10:=CA hc3 hp2
   exact Zd (wK10 _ _ wk (J3 _ (AH [((i3 0)+1)]) (Zb h10).symm))
 exact Zm (wK3 _ _ wk (J1 _ _ (AH [(i3 0)]) (xH hx1 h3)))
theorem bY {a1 r} (h:Lf a1=some r):Ad Tryz.prog 68 [qb a1] (.tup [rI r.1,rI r.2.1,rI r.2.2]):=by
 unfold Lf at h
 refine mF Tryz.func68 Tryz.ntmps68 R fun n0=>aU (mA R (mA R (mA R (aZ (aT fun c2=>(aU (mM R (Zc h fun e1 ee1 h1=>(cL (La (ee1)) R (mA R (aZ (aU (mM R (xU R (aZ (cI R h1 (fun h2=>?_) fun h2=>?_))))))))))))))))
 ·exact aU (mM R (mA R (mA R (mA R (aZ (Zk (HL (P:=Tryz.prog) (fun (r:Int × Int × Int)=>rI r.1) (fun (r:Int × Int × Int)=>rI r.2.1) (fun (r:Int × Int × Int)=>rI r.2.2) h2 iL (.t (.d R)) (.t (.d R)) (.t (.d R)))))))))
 refine Zd (c2 _ (aU (mM R (Bw h2 fun r1 r2 er1 h3=>(cL (SK (er1)) R (mM R (xX R (xX R (mA R (mA R (aZ (aT fun c7=>(aF [6,7] ?_)))))))))))))
 exact aR (mM R (mM R (mA R (mA R (mA R (aZ (c7 _ (Zk (HL (P:=Tryz.prog) (fun (r:Int × Int × Int)=>rI r.1) (fun (r:Int × Int × Int)=>rI r.2.1) (fun (r:Int × Int × Int)=>rI r.2.2) h3 iL (.t (.d R)) (.t (.d R)) (.t (.d R)))))))))))
theorem Nh {n1 a1 r} (h:Dl n1 a1=some r):Ad Tryz.prog 43 [rI n1,qb a1] (.tup [rI r.1,rB r.2]):=by
 unfold Dl at h
 refine mF Tryz.func43 Tryz.ntmps43 R fun n0=>aU (mA R (mA R (aZ (aT fun c2=>(aU (mM R (xL A5 R (xQ R (aZ (cI R h (fun h1=>?_) fun h1=>?_))))))))))
 ·exact aU (mM R (mA R (mA R (aZ (Zk (Bq (P:=Tryz.prog) (fun (r:Int × Bool)=>rI r.1) (fun (r:Int × Bool)=>rB r.2) h1 iL (.t (.d R)) (.t (.d R))))))))
 refine Zd (c2 _ (aU (mM R (M2 h1 fun r1 r2 r3 er1 h2=>(cL (bY (er1)) R (mM R (xX R (xX R (xX R (mA R (mA R (mA R (aZ (aT fun c6=>(aF [0,6,7] ?_)))))))))))))))
 exact aR (mM R (mM R (mM R (xQ R (mA R (mA R (aZ (c6 _ (Zk (Bq (P:=Tryz.prog) (fun (r:Int × Bool)=>rI r.1) (fun (r:Int × Bool)=>rB r.2) h2 iL (.t (.d R)) (.t (.d R))))))))))))
theorem Q2 {g1 e1 r} (h:Ea g1 e1=some r):Ad Tryz.prog 17 [.agg (AP g1),.agg (AZ e1)] (.tup [rI r.1,rI r.2.1,rI r.2.2]):=by
 unfold Ea at h
 refine mF Tryz.func17 Tryz.ntmps17 R fun n0=>aU (sS R (Zu (cs:=(AP g1)) 2 R iL R R) (sS R (Zu (cs:=(AZ e1)) 3 R iL R R) (mA R (mA R (mA R (aZ (aT fun c2=>(aU (xC Cf R (Zc h fun f1 ef1 h1=>(cL (Uj (ef1)) R (mA R (aZ (aU (mM R (xU R (aZ (cI R h1 (fun h2=>?_) fun h2=>?_))))))))))))))))))
 ·refine aT fun c5=>(aF [7] ?_)
  exact aR (mM R (mA R (mA R (mA R (aZ (c5 _ (Zk (HL (P:=Tryz.prog) (fun (r:Int × Int × Int)=>rI r.1) (fun (r:Int × Int × Int)=>rI r.2.1) (fun (r:Int × Int × Int)=>rI r.2.2) h2 iL (.t (.d R)) (.t (.d R)) (.t (.d R))))))))))
 refine Zd (c2 _ (aT fun c6=>(aT fun c7=>(aG [2,3] [2,3] ?_))))
 refine aR (xC DL R (Zc h2 fun f2 ef2 h3=>(cL (Xs (ef2)) R (mA R (aZ (c7 _ (aU (mM R (xU R (aZ (cI R h3 (fun h4=>?_) fun h4=>?_)))))))))))
 ·exact aU (mM R (mA R (mA R (mA R (aZ (Zk (HL (P:=Tryz.prog) (fun (r:Int × Int × Int)=>rI r.1) (fun (r:Int × Int × Int)=>rI r.2.1) (fun (r:Int × Int × Int)=>rI r.2.2) h4 iL (.t (.d R)) (.t (.d R)) (.t (.d R)))))))))
 refine Zd (c6 _ (aU (lF Dw AI R R (lF D2 Bd R R (Bw h4 fun r1 r2 er1 h5=>(cL (Nh (er1)) R (mM R (xX R (xX R (mA R (mA R (aZ (aT fun c11=>(aG [2,3,9,10] [2,3] ?_))))))))))))))
 refine aR (lF EC AI R R (lF Dm Bd R R (Bw h5 fun r3 r4 er3 h6=>(cL (Nh (er3)) R (mM R (xX R (xX R (mA R (mA R (aZ (c11 _ (aT fun c12=>(aT fun c13=>(aG [3,9,10,11,12] [3] ?_))))))))))))))
 refine aR (mM R (sQ R (BI R iL) (mM R (vM R (vQ R (BI R (iR R)) (xO R (aZ (c13 _ (cI R h6 (fun h7=>?_) fun h7=>?_)))))))))
 ·refine aT fun c14=>(aF [] ?_)
  exact aR (mA R (mA R (mA R (aZ (c14 _ (Zk (HL (P:=Tryz.prog) (fun (r:Int × Int × Int)=>rI r.1) (fun (r:Int × Int × Int)=>rI r.2.1) (fun (r:Int × Int × Int)=>rI r.2.2) h7 iL (.t (.d R)) (.t (.d R)) (.t (.d R)))))))))
 refine Zd (c12 _ (aS fun K15 c15 wK15=>(aU (lF Du CD R R (xL Aq R (mM R (aZ (Ze (BH h7 fun o1 hit1 hk1 he1=>?_)))))))))
 have J1 : ∀ (u2:Unit) (i5:NN),o1 = .nrm u2→K15 ⟨[(3,.ptr 3 (n0+1) 0 0),(9,rI r1),(11,rI r3)],[(3,some (.box (n0+1) 28 (AZ e1)))],(i5 0),92⟩:=by
  intro u2 i5 e
  have h8:=hk1 _ e
  refine c15 _ (aS fun K17 c17 wK17=>(aT fun c18=>(aR (lF Dr Aw R R (lF DH Aw R R ?_)))))
  refine sQ R (PI R Rw (q:=[(0,_),(1,_)]) (by exact ⟨R,R,R,iL,R,R,R,iL,Za⟩) (cs:=[qa e1.Split,qa e1.Merge]) (by rfl)) ?_
  refine mM R (aZ (c18 _ (Ze (BH h8 fun o2 hit2 hk2 he2=>?_))))
  have J2 : ∀ (u4:Unit) (i10:NN),o2 = .nrm u4→K17 ⟨[(9,rI r1),(11,rI r3)],[],(i10 0),92⟩:=by
   intro u4 i10 e
   have h9:=hk2 _ e
   exact c17 _ (aU (mM R (mM R (mA R (mA R (mA R (aZ (Zk (HL (P:=Tryz.prog) (fun (r:Int × Int × Int)=>rI r.1) (fun (r:Int × Int × Int)=>rI r.2.1) (fun (r:Int × Int × Int)=>rI r.2.2) h9 iL (.t (.d R)) (.t (.d R)) (.t (.d R)))))))))))
  refine Zv (fun (x5:Int) i8=>⟨[(9,rI r1),(11,rI r3),(73,.agg [qa e1.Split,qa e1.Merge]),(74,rI x5)],[],(i8 0),92⟩) (AH [(i5 0)]) hit2 wk ?_
  intro x5 i8 v1 hv1 hx2
  have h10:CN e1 r1 r3 x5=some v1:=hv1; unfold CN at h10
  refine aU (xS R (aZ (aT fun c21=>(cI R h10 (fun h11=>?_) fun h11=>?_))))
  ·refine Zd (c21 _ (aS fun K22 c22 wK22=>(Ze (aU (Zc h11 fun l1 el1 h12=>(sQ R (Oj (f:=fun a=>qa a) (l:=[e1.Split,e1.Merge]) R Qe (.inl R) (.inl R) R (fun _=>el1)) (mA R (aZ (aU (mM R (xL Ag R (mM R (aZ (Ze (BH h12 fun o3 hit3 hk3 he3=>?_)))))))))))))))
   have J3 : ∀ (u6:Unit) (i15:NN),o3 = .nrm u6→K22 ⟨[(9,rI r1),(11,rI r3),(73,.agg [qa e1.Split,qa e1.Merge]),(74,rI x5)],[],(i15 0),92⟩:=by
    intro u6 i15 e
    have h13:=hk3 _ e
    exact c22 _ (aR (Zc h13 fun x10 ex10 h14=>(xA R ex10 (mM R (Zg (Zs h14 (AH [(i15 0)]) wk))))))
   refine Zv (fun (x8:Int) i13=>⟨[(9,rI r1),(11,rI r3),(73,.agg [qa e1.Split,qa e1.Merge]),(74,rI x5),(77,qa l1),(78,rL l1),(79,rI x8)],[],(i13 0),92⟩) (AH [(i8 0)]) hit3 wk ?_
   intro x8 i13 v2 hv2 hx3
   have h15:FR r1 r3 l1 x8=some v2:=hv2; unfold FR at h15
   refine aU (xS R (aZ (aT fun c26=>(cI R h15 (fun h16=>?_) fun h16=>?_))))
   ·refine Zd (c26 _ (aT fun c27=>(Ze (aU (Zc h16 fun x11 ex11 h17=>(xI Ag R ex11 (xB ((AL x11)) Au R (sS R (Zo (cs:=Ca) 18 R DZ R R) (Zi R R (Zh (ds:=(AL x11)) R DE iL R iL R R R R) (aZ (aU (xC Au R (mM R (mM R (Zc h17 fun r5 er5 h18=>(cL (PE (er5)) R (sQ R (BI R iL) (aZ (cI R h18 (fun h19=>?_) fun h19=>?_)))))))))))))))))))
    ·refine aT fun c30=>(aF [] ?_)
     exact aR (mA R (mA R (mA R (aZ (c30 _ (Zk (HL (P:=Tryz.prog) (fun (r:Int × Int × Int)=>rI r.1) (fun (r:Int × Int × Int)=>rI r.2.1) (fun (r:Int × Int × Int)=>rI r.2.2) (he2 _ (hx2 _ (Zb (he3 _ (xH hx3 h19))).symm)) iL (.t (.d R)) (.t (.d R)) (.t (.d R)))))))))
    refine Zd (c27 _ (aF [9,11,73,74,77,78,79] ?_))
    exact aR (Zc h19 fun x12 ex12 h20=>(xA R ex12 (mM R (Zg (Zs h20 (AH [((i13 0)+1)]) wk)))))
   exact Zm (wK22 _ _ wk (J3 _ (AH [(i13 0)]) (xH hx3 h16)))
  exact Zm (wK17 _ _ wk (J2 _ (AH [(i8 0)]) (xH hx2 h11)))
 refine Zv (fun (x2:Int) i3=>⟨[(3,.ptr 3 (n0+1) 0 0),(9,rI r1),(11,rI r3),(52,qc e1.Cells),(53,rL e1.Cells),(54,rI x2)],[(3,some (.box (n0+1) 28 (AZ e1)))],(i3 0),92⟩) (AH [(n0+2)]) hit1 wk ?_
 intro x2 i3 v3 hv3 hx1
 have h21:GD e1 r1 r3 x2=some v3:=hv3; unfold GD at h21
 refine aU (xS R (aZ (aT fun c32=>(cI R h21 (fun h22=>?_) fun h22=>?_))))
 ·refine Zd (c32 _ (aT fun c33=>(Ze (aU (Zc h22 fun x13 ex13 h23=>(xI Aq R ex13 (xB ((AY x13)) BC R (sS R (Zo (cs:=DV) 14 R EU R R) (Zi R R (Zh (ds:=(AY x13)) R DI iL R iL R R R R) (aZ (aU (lF CP AI R R (mM R (sQ R (B4 R iL iL) (mM R (vF Cs AI R R (vM R (vQ R (B4 R (iR R) (iR R)) (xO R (aZ (cI R h23 (fun h24=>?_) fun h24=>?_)))))))))))))))))))))
  ·refine aT fun c36=>(aF [] ?_)
   exact aR (mA R (mA R (mA R (aZ (c36 _ (Zk (HL (P:=Tryz.prog) (fun (r:Int × Int × Int)=>rI r.1) (fun (r:Int × Int × Int)=>rI r.2.1) (fun (r:Int × Int × Int)=>rI r.2.2) (he1 _ (xH hx1 h24)) iL (.t (.d R)) (.t (.d R)) (.t (.d R)))))))))
  refine Zd (c33 _ (aG [3,9,11,52,53,54] [3] ?_))
  exact aR (Zc h24 fun x14 ex14 h25=>(xA R ex14 (mM R (Zg (Zs h25 (AH [((i3 0)+1)]) wk)))))
 exact Zm (wK15 _ _ wk (J1 _ (AH [(i3 0)]) (xH hx1 h22)))
theorem M1 {c1 r} (h:FQ c1=some r):Ad Tryz.prog 39 (Hz c1) (.agg (AY r)):=by
 unfold FQ at h
 refine mF Tryz.func39 Tryz.ntmps39 R fun n0=>aU (sS R (Zu (cs:=(AY c1)) 1 R iL R R) (sS R (Zo (cs:=DV) 2 R EU R R) (aZ (aU (lF Ff Fy R R (Zc h fun l1 el1 h1=>(sS R (YH 5 (f:=Ak.row) R Cd iL (.inl ⟨iL,fun _=>R⟩) el1) (sQ R (fB R Ff iL fR R) (Zi R R (Zh (ds:=[rI c1.Row,rI c1.Col,rS c1.Text,rI c1.Ref,.own 5 (n0+2)]) R XQ iL R iL R R R R) (aZ (aU (xC BC R (Zi R R (Zh (ds:=[rI c1.Row,rI c1.Col,rS c1.Text,rI c1.Ref,.own 5 (n0+2)]) R DI iL R iL R R R R) (aZ ?_))))))))))))))
 exact Zk (Cp (P:=Tryz.prog) (fun (r:AC)=>.agg (AY r)) h1 iL (.a BC R R R (.agg (by exact ⟨.closed _ R,.closed _ R,.closed _ R,.closed _ R,.own R,Za⟩))))
theorem W4 {a1 p1 r} (h:LX a1 p1=some r):Ad Tryz.prog 87 [qb a1,rI p1] (rI r):=by
 unfold LX at h
 refine mF Tryz.func87 Tryz.ntmps87 R fun n0=>aU (mA R (aZ (aU (mA R (mA R (aZ (aS fun K3 c3 wK3=>(aU (mM R (xL A5 R (mM R (aZ (Ze (BH h fun o1 hit1 hk1 he1=>?_))))))))))))))
 have J1 : ∀ (u2:Unit) (i5:NN),o1 = .nrm u2→K3 ⟨[],[],(i5 0),51⟩:=by
  intro u2 i5 e
  have h1:=hk1 _ e
  exact c3 _ (zI h1 R id)
 refine Gr (fun (from2:Int) (to2:Int) (x2:Int) i3=>⟨[(1,rI p1),(5,rI from2),(6,rI to2),(9,qb a1),(10,rL a1),(11,rI x2)],[],(i3 0),51⟩) (AH [n0]) hit1 wk ?_
 intro from2 to2 x2 i3 v1 hv1 hx1
 have h2:Ix a1 p1 from2 to2 x2=some v1:=hv1; unfold Ix at h2
 refine aU (xS R (aZ (aT fun c7=>(cI R h2 (fun h3=>?_) fun h3=>?_))))
 ·refine Zd (c7 _ (aS fun K8 c8 wK8=>(Ze (KD h3 fun p2 hp1 hk2 he2=>?_))))
  have J2 : ∀ (from4:Int) (to4:Int) (i6:NN),p2 = .nrm (from4,to4)→K8 ⟨[(1,rI p1),(5,rI from4),(6,rI to4),(9,qb a1),(10,rL a1),(11,rI x2)],[],(i6 0),51⟩:=by
   intro from4 to4 i6 e
   have h4:=hk2 _ _ e
   exact c8 _ (aR (Zc h4 fun x4 ex4 h5=>(xA R ex4 (mM R (Zg (Es.mk h5 (AH [(i6 0)]) wk))))))
  refine aU (Zc hp1 fun x5 ex5 h6=>(xI A5 R ex5 (xB ([rI x5.Kind,rI x5.N]) IO R (sS R (Zo (cs:=[rI 0,rI 0]) 8 R KW R R) (Zi R R (Zh (ds:=[rI x5.Kind,rI x5.N]) R LV iL R iL R R R R) (aZ (aS fun K10 c10 wK10=>(aU (lF B8 AI R R (aZ (Ze (BH h6 fun p3 hp2 hk3 he3=>?_))))))))))))
  have J3 : ∀ (to5:Int) (i7:NN),p3 = .nrm to5→K10 ⟨[(1,rI p1),(5,rI from2),(6,rI to5),(8,.ptr 8 (i3 0) 0 0),(9,qb a1),(10,rL a1),(11,rI x2)],[(8,some (.box (i3 0) 52 [rI x5.Kind,rI x5.N]))],(i7 0),51⟩:=by
   intro to5 i7 e
   have h7:=hk3 _ e
   exact c10 _ (aR (mM R (lF CI AI R R (Zc h7 fun from5 efrom5 h8=>(xA R efrom5 (mA R (Zg (wK8 _ _ wk (J2 _ _ (AH [(i7 0)]) (Zb h8).symm)))))))))
  refine aU (xQ R (mA R (aZ (aC R (fun hc2=>?_) (fun hc2=>?_)))))
  ·have h9:=CE hc2 hp2
   exact aU (mM R (lF CI AI R R (Zc h9 fun to6 eto6 h10=>(xA R eto6 (mA R (aZ (Zm (wK8 _ _ wk (J2 _ _ (AH [((i3 0)+1)]) (Zb (he3 _ (Zb h10).symm)).symm)))))))))
  ·have h9:=CA hc2 hp2
   refine aU (xQ R (mA R (aZ (cI R h9 (fun h11=>?_) fun h11=>?_))))
   ·refine aT fun c15=>(aT fun c16=>(aG [1,5,6,8,9,10,11] [8] ?_))
    refine aR (mM R (mM R (lF CI AI R R (Zc h11 fun x6 ex6 h12=>(xA R ex6 (xS R (aZ (c16 _ (cI R h12 (fun h13=>?_) fun h13=>?_)))))))))
    ·refine aT fun c17=>(aF [1,5,6] ?_)
     exact aR (mM R (mM R (Zc h13 fun x7 ex7 h14=>(xA R ex7 (mM R (Zc h14 fun x8 ex8 h15=>(sQ R (Ba R iL iL (fun _=>ex8)) (mA R (aZ (c17 _ (Zk (yI (he1 _ (hx1 _ (Zb (he2 _ (Zb (he3 _ (Zb h15).symm)).symm)).symm)) R))))))))))))
    exact Zd (c15 _ (aR (mM R (lF CI AI R R (Zc h13 fun to7 eto7 h16=>(xA R eto7 (mA R (Zg (wK10 _ _ wk (J3 _ (AH [((i3 0)+1)]) (Zb h16).symm))))))))))
   refine aT fun c18=>(aG [1,5,6,8,9,10,11] [8] ?_)
   refine aR (mM R (mM R (lF CI AI R R (Zc h11 fun x9 ex9 h17=>(xA R ex9 (xS R (aZ (c18 _ (cI R h17 (fun h18=>?_) fun h18=>?_)))))))))
   ·refine aT fun c19=>(aF [] ?_)
    exact aR (mA R (aZ (c19 _ (Zk (yI (he1 _ (hx1 _ (Zb (he2 _ (Zb (he3 _ (Zb h18).symm)).symm)).symm)) R)))))
   exact Zd (wK10 _ _ wk (J3 _ (AH [((i3 0)+1)]) (Zb h18).symm))
 exact Zm (wK3 _ _ wk (J1 _ (AH [(i3 0)]) (xH hx1 h3)))
theorem SD {a1 p r} (h:E4 a1 p=some r):Ad Tryz.prog 72 [qb a1,.r (.sl (p.map (AU .i64)))] (.tup [.r (.sl (r.1.map (AU .i64))),rI r.2]):=by
 unfold E4 at h
 refine mF Tryz.func72 Tryz.ntmps72 R fun n0=>aU (mA R (mA R (aZ (aT fun c2=>(aU (mM R (Zc h fun e1 ee1 h1=>(cL (La (ee1)) R (mA R (aZ (aU (mM R (xU R (aZ (cI R h1 (fun h2=>?_) fun h2=>?_)))))))))))))))
 ·exact aU (mM R (mA R (mA R (aZ (Zk (Bq (P:=Tryz.prog) (fun (r:(List Int) × Int)=>.r (.sl (r.1.map (AU .i64)))) (fun (r:(List Int) × Int)=>rI r.2) h2 iL (.t (.one (.nil))) (.t (.d R))))))))
 refine Zd (c2 _ (aU (mM R (Bw h2 fun r1 r2 er1 h3=>(cL (SK (er1)) R (mM R (xX R (xX R (mA R (mA R (aZ (aT fun c7=>(aF [0,1,7] ?_)))))))))))))
 refine aR (mA R (aZ (c7 _ (aS fun K8 c8 wK8=>(aU (mM R (xL BS R (mM R (aZ (Ze (BH h3 fun o1 hit1 hk1 he1=>?_)))))))))))
 have J1 : ∀ (out4:List Int) (i5:NN),o1 = .nrm out4→K8 ⟨[(9,.own 5009 (i5 0))],[(5009,some (.arr (i5 0) 3 1 (out4.map (AU .i64))))],(i5 1),43⟩:=by
  intro out4 i5 e
  have h4:=hk1 _ e
  exact c8 _ (aU (mM R (mA R (mA R (aZ (Zk (Bq (P:=Tryz.prog) (fun (r:(List Int) × Int)=>.r (.sl (r.1.map (AU .i64)))) (fun (r:(List Int) × Int)=>rI r.2) h4 iL (.t (.one (.own R))) (.t (.d R)))))))))
 refine B0 (fun (x2:Int) (out2:List Int) i3=>⟨[(0,qb a1),(7,rI r1),(9,.own 5009 (i3 0)),(22,.r (.sl (p.map (AU .i64)))),(23,rL p),(24,rI x2)],[(5009,some (.arr (i3 0) 3 1 (out2.map (AU .i64))))],(i3 1),43⟩) (AH [n0,(n0+1)]) hit1 (Zn (Zn (Gp 9 5009 3 1 (by decide) R) (by exact Ae.cv (e':=[(0,qb a1),(1,.r (.sl (p.map (AU .i64)))),(7,rI r1),(9,.own 5009 n0),(22,.r (.sl (p.map (AU .i64)))),(23,rL p),(24,rI 0)]) (h':=[(5009,some (.arr n0 3 1 (([]:List Int).map (AU .i64))))]) ⟨jL,jL,jL,jL,jL,jL,jL,Za⟩ ⟨.inl R,Za⟩ nL)) wk) ?_
 intro x2 out2 i3 v1 hv1 hx1
 have h5:JL a1 p r1 x2 out2=some v1:=hv1; unfold JL at h5
 refine aU (xS R (aZ (aT fun c12=>(cI R h5 (fun h6=>?_) fun h6=>?_))))
 ·refine Zd (c12 _ (aT fun c13=>(Ze (aU (Zc h6 fun x4 ex4 h7=>(xI BS R ex4 (xV (.int .i64 x4) AI R (mA R (aZ (aT fun c15=>(aU (mM R (xS R (mM R (vM R (vM R (vQ R (B4 R (iR R) (iR R)) (xO R (aZ (cI R h7 (fun h8=>?_) fun h8=>?_))))))))))))))))))))
  ·refine aT fun c17=>(aF [] ?_)
   exact aR (mA R (mA R (aZ (c17 _ (Zk (Bq (P:=Tryz.prog) (fun (r:(List Int) × Int)=>.r (.sl (r.1.map (AU .i64)))) (fun (r:(List Int) × Int)=>rI r.2) (he1 _ (xH hx1 h8)) iL (.t (.one (.nil))) (.t (.d R))))))))
  refine Zd (c15 _ (aR (mM R (mM R (mM R (Zc h8 fun r3 er3 h9=>(cL (W4 (er3)) R (sS R (Bp 39 R BS (f:=(AU .i64)) (l:=([r3]:List Int)) ⟨R,⟨_,iL,R⟩,Za⟩ R (fun _=>R) R) (Zc h9 fun out5 eout5 h10=>(sS R (Bv R BS iL R (.inr (.inl ⟨_,_,iL,R⟩)) eout5) (mA R (aZ (c13 _ (aG [0,7,9,22,23,24] [5009] ?_))))))))))))))
  exact aR (Zc h10 fun x5 ex5 h11=>(xA R ex5 (mM R (Zg (Zx h11 (AH [((i3 1)+1),((i3 1)+2)]) wk)))))
 exact Zm (wK8 _ _ wk (J1 _ (AH [(i3 0),(i3 1)]) (xH hx1 h6)))
theorem U2 {l1 a c r} (h:HG l1 a c=some r):Ad Tryz.prog 48 [qc l1,qb a,qb c] (qc r):=by
 unfold HG at h
 refine mF Tryz.func48 Tryz.ntmps48 R fun n0=>aU (mA R (aZ (aU (mA R (aZ (aS fun K3 C3 wK3=>(aU (mM R (xL Aq R (mM R (aZ (Ze (A7 h fun o1 hit1 hk1=>?_)))))))))))))
 have J1 : ∀ (out4:List AC) (i5:NN),o1=out4→K3 ⟨[(7,.own 5007 (i5 0))],[(5007,some (.arr (i5 0) 43 5 (out4.map AC.row)))],(i5 1),74⟩:=by
  intro out4 i5 e
  have h1:=hk1 _ e
  exact C3 _ (aU (mM R (mA R (aZ (Zk (Cp (P:=Tryz.prog) (fun (r:(List AC))=>qc r) h1 iL (.t (.one (.own R)))))))))
 refine B0 (fun (x2:Int) (out2:List AC) i3=>⟨[(1,qb a),(2,qb c),(7,.own 5007 (i3 0)),(14,qc l1),(15,rL l1),(16,rI x2)],[(5007,some (.arr (i3 0) 43 5 (out2.map AC.row)))],(i3 1),74⟩) (AH [n0,(n0+1)]) hit1 (Zn (Zn (Gp 7 5007 43 5 (by decide) R) (by exact Ae.cv (e':=[(0,qc l1),(1,qb a),(2,qb c),(6,cZ),(7,.own 5007 n0),(14,qc l1),(15,rL l1),(16,rI 0)]) (h':=[(5007,some (.arr n0 43 5 (([]:List AC).map AC.row)))]) ⟨jL,jL,jL,jL,jL,jL,jL,jL,Za⟩ ⟨.inl R,Za⟩ nL)) wk) ?_
 intro x2 out2 i3 v1 hv1 hx1
 have h2:D1 l1 a c x2 out2=some v1:=hv1; unfold D1 at h2
 refine aU (xS R (aZ (aT fun C7=>(cI R h2 (fun h3=>?_) fun h3=>?_))))
 ·refine Zd (C7 _ (aS fun K8 C8 wK8=>(Ze (A7 h3 fun p1 hp1 hk2=>?_))))
  have J2 : ∀ (out5:List AC) (i6:NN),p1=out5→K8 ⟨[(1,qb a),(2,qb c),(7,.own 5007 (i6 0)),(14,qc l1),(15,rL l1),(16,rI x2)],[(5007,some (.arr (i6 0) 43 5 (out5.map AC.row)))],(i6 1),74⟩:=by
   intro out5 i6 e
   have h4:=hk2 _ e
   exact C8 _ (aR (Zc h4 fun x4 ex4 h5=>(xA R ex4 (mM R (Zg (Zx h5 (AH [(i6 0),(i6 1)]) wk))))))
  refine aU (Zc hp1 fun x5 ex5 h6=>(xI Aq R ex5 (xB ((AY x5)) BC R (sS R (Zo (cs:=DV) 9 R EU R R) (Zi R R (Zh (ds:=(AY x5)) R DI iL R iL R R R R) (aZ (aU (xC BC R (Zc h6 fun r1 er1 h7=>(sS R (Zw (r:=.agg (AY r1)) (caps:=[]) (bs:=(Hz x5)) R iL R ⟨.inl ⟨iL,R⟩,Za⟩ (fun _=>M1 (er1))) (Zi R R (Zh (ds:=(AY r1)) R DI iL R iL R R R R) (aZ (aS fun K11 C11 wK11=>(aU (mM R (xL A5 R (sQ R (BM R iL iL) (aZ (BH h7 fun p2 hp2 hk3 he3=>?_)))))))))))))))))))
  have J3 : ∀ (c1:AC) (i7:NN),p2 = .nrm c1→K11 ⟨[(1,qb a),(2,qb c),(7,.own 5007 (i3 0)),(9,.ptr 9 (i3 1) 0 0),(14,qc l1),(15,rL l1),(16,rI x2)],[(9,some (.box (i3 1) 43 (AY c1))),(5007,some (.arr (i3 0) 43 5 (out2.map AC.row)))],(i7 0),74⟩:=by
   intro c1 i7 e
   have h8:=hk3 _ e
   refine C11 _ (aS fun K13 C13 wK13=>(aU (mM R (xL A5 R (sQ R (BM R iL iL) (aZ (BH h8 fun p3 hp3 hk4 he4=>?_)))))))
   have J4 : ∀ (c2:AC) (i8:NN),p3 = .nrm c2→K13 ⟨[(1,qb a),(2,qb c),(7,.own 5007 (i3 0)),(9,.ptr 9 (i3 1) 0 0),(14,qc l1),(15,rL l1),(16,rI x2)],[(9,some (.box (i3 1) 43 (AY c2))),(5007,some (.arr (i3 0) 43 5 (out2.map AC.row)))],(i8 0),74⟩:=by
    intro c2 i8 e
    have h9:=hk4 _ e
    exact C13 _ (aR (mM R (xC BC R (sS R (Bp 70 R Aq (f:=AC.row) (l:=([c2]:List AC)) ⟨R,⟨_,iL,R⟩,Za⟩ R (fun _=>R) R) (Zc h9 fun out6 eout6 h10=>(sS R (Bv R Aq iL R (.inr (.inl ⟨_,_,iL,R⟩)) eout6) (mA R (Zg (wK8 _ _ wk (J2 _ (AH [((i8 0)+1),((i8 0)+2)]) (Zb h10).symm))))))))))
   refine aC R (fun hc2=>?_) (fun hc2=>?_)
   ·have h11:=CE hc2 hp3
    refine aT fun C15=>(aR (mM R (lF Cs AI R R (sS R (Bp 52 R BS (f:=(AU .i64)) (l:=([c1.Col]:List Int)) ⟨R,⟨_,iL,R⟩,Za⟩ R (fun _=>R) R) ?_))))
    refine AR.weak (by exact Ib (e':=[(1,qb a),(2,qb c),(7,.own 5007 (i3 0)),(9,.ptr 9 (i3 1) 0 0),(14,qc l1),(15,rL l1),(16,rI x2),(45,qb c),(46,rL c),(47,rB ((decide (0<(c.length:Int))))),(49,qb c),(50,.ptr 9 (i3 1) 0 1),(51,rI c1.Col),(52,.r (.sl ([c1.Col].map (AU .i64))))]) (h':=[(9,some (.box (i3 1) 43 (AY c1))),(5007,some (.arr (i3 0) 43 5 (out2.map AC.row)))]) 52 R ⟨jL,jL,jL,jL,jL,jL,jL,jL,jL,jL,jL,jL,jL,.inl (.inr (.inr ⟨R,R⟩)),Za⟩ ⟨R,.inl R,R,.inl R,Za⟩) ?_
    refine Bw h11 fun r2 r3 er2 h12=>(sS R (Zw (r:=.tup [.r (.sl (r2.map (AU .i64))),rI r3]) (caps:=[]) (bs:=[qb c,.r (.sl ([c1.Col].map (AU .i64)))]) R iL R ⟨.inl ⟨iL,R⟩,.inl ⟨iL,R⟩,Za⟩ (fun _=>SD (er2))) (mM R (xX R (xX R (mA R (mA R (aZ (C15 _ (aT fun C16=>(aT fun C17=>(aG [1,2,7,9,12,13,14,15,16] [9,5007] ?_)))))))))))
    refine aR (mM R (xU R (mM R (vM R (Zc h12 fun x6 ex6 h13=>(vQ R (Zp R BS.slice (iR R) iL (fun _=>R) (Ai ex6)) (vQ R (Bk (d:=.int .i64 x6) R AI (iR R) R) (vQ R (Bh R (iR R) iL) (xO R (aZ (C17 _ (cI R h13 (fun h14=>?_) fun h14=>?_))))))))))))
    ·exact Zm (wK8 _ _ wk (J2 _ (AH [(i3 0),((i7 0)+1)]) (Zb (he4 _ (Zb h14).symm)).symm))
    exact Zd (C16 _ (aR (mM R (Zc h14 fun x7 ex7 h15=>(xI BS R ex7 (xV (.int .i64 x7) AI R (sQ R (fB R Cs iL fR R) (Zi R R (Zh (ds:=[rI c1.Row,rI x7,rS c1.Text,rI c1.Ref,qd c1.Attrs]) R EL iL R iL R R R R) (Zg (wK13 _ _ wk (J4 _ (AH [((i7 0)+1)]) (Zb h15).symm)))))))))))
   ·have h11:=CA hc2 hp3
    exact Zd (wK13 _ _ wk (J4 _ (AH [(i7 0)]) (Zb h11).symm))
  refine aC R (fun hc4=>?_) (fun hc4=>?_)
  ·have h16:=CE hc4 hp2
   refine aT fun C18=>(aR (mM R (lF CP AI R R (sS R (Bp 29 R BS (f:=(AU .i64)) (l:=([r1.Row]:List Int)) ⟨R,⟨_,iL,R⟩,Za⟩ R (fun _=>R) R) ?_))))
   refine AR.weak (by exact Ib (e':=[(1,qb a),(2,qb c),(7,.own 5007 (i3 0)),(9,.ptr 9 (i3 1) 0 0),(14,qc l1),(15,rL l1),(16,rI x2),(17,rB ((decide (x2<(l1.length:Int))))),(18,.rop (AC.row x5) 0),(19,.agg (AY x5)),(20,.agg (AY x5)),(21,.agg (AY r1)),(22,qb a),(23,rL a),(24,rB ((decide (0<(a.length:Int))))),(26,qb a),(27,.ptr 9 (i3 1) 0 0),(28,rI r1.Row),(29,.r (.sl ([r1.Row].map (AU .i64))))]) (h':=[(9,some (.box (i3 1) 43 (AY r1))),(5007,some (.arr (i3 0) 43 5 (out2.map AC.row)))]) 29 R ⟨jL,jL,jL,jL,jL,jL,jL,jL,jL,jL,jL,jL,jL,jL,jL,jL,jL,jL,.inl (.inr (.inr ⟨R,R⟩)),Za⟩ ⟨R,.inl R,R,.inl R,Za⟩) ?_
   refine Bw h16 fun r4 r5 er4 h17=>(sS R (Zw (r:=.tup [.r (.sl (r4.map (AU .i64))),rI r5]) (caps:=[]) (bs:=[qb a,.r (.sl ([r1.Row].map (AU .i64)))]) R iL R ⟨.inl ⟨iL,R⟩,.inl ⟨iL,R⟩,Za⟩ (fun _=>SD (er4))) (mM R (xX R (xX R (mA R (mA R (aZ (C18 _ (aT fun C19=>(aT fun C20=>(aG [1,2,7,9,10,11,14,15,16] [9,5007] ?_)))))))))))
   refine aR (mM R (xU R (mM R (vM R (Zc h17 fun x8 ex8 h18=>(vQ R (Zp R BS.slice (iR R) iL (fun _=>R) (Ai ex8)) (vQ R (Bk (d:=.int .i64 x8) R AI (iR R) R) (vQ R (Bh R (iR R) iL) (xO R (aZ (C20 _ (cI R h18 (fun h19=>?_) fun h19=>?_))))))))))))
   ·exact Zm (wK8 _ _ wk (J2 _ (AH [(i3 0),((i3 1)+2)]) (Zb (he3 _ (Zb h19).symm)).symm))
   exact Zd (C19 _ (aR (mM R (Zc h19 fun x9 ex9 h20=>(xI BS R ex9 (xV (.int .i64 x9) AI R (sQ R (fB R CP iL fR R) (Zi R R (Zh (ds:=[rI x9,rI r1.Col,rS r1.Text,rI r1.Ref,qd r1.Attrs]) R EL iL R iL R R R R) (Zg (wK11 _ _ wk (J3 _ (AH [((i3 1)+2)]) (Zb h20).symm)))))))))))
  ·have h16:=CA hc4 hp2
   exact Zd (wK11 _ _ wk (J3 _ (AH [((i3 1)+1)]) (Zb h16).symm))
 exact Zm (wK3 _ _ wk (J1 _ (AH [(i3 0),(i3 1)]) (xH hx1 h3)))
theorem Vn {l1 n r} (h:HZ l1 n=some r):Ad Tryz.prog 47 [qc l1,qc n] (qc r):=by
 unfold HZ at h
 refine mF Tryz.func47 Tryz.ntmps47 R fun n0=>aU (mA R (aZ (aU (mA R (aZ (aU (mA R (aZ (aS fun K4 c4 wK4=>(aU (mM R (xL Aq R (mM R (aZ (Ze (DW h fun o1 hit1 hk1=>?_))))))))))))))))
 have J1 : ∀ (i8:Int) (out4:List AC) (i9:NN),o1=(i8,out4)→K4 ⟨[(0,qc l1),(5,.own 5005 (i9 0)),(6,rI i8)],[(5005,some (.arr (i9 0) 43 5 (out4.map AC.row)))],(i9 1),66⟩:=by
  intro i8 out4 i9 e
  have h1:=hk1 _ _ e
  refine c4 _ (aT fun c6=>(aR (mM R (mM R (mM R (Zc h1 fun l2 el2 h2=>?_))))))
  refine sQ R (OU R Aq.slice iL (by exact ⟨_,iL⟩) (by exact R) (fun _=>R) (fun _=>el2)) ?_
  exact Zc h2 fun l3 el3 h3=>(sS R (Bv R Aq iL R (.inl ⟨iL,fun _=>R⟩) el3) (mA R (aZ (c6 _ (Zk (Cp (P:=Tryz.prog) (fun (r:(List AC))=>qc r) h3 iL (.t (.one (.own R)))))))))
 refine Gr (fun (i4:Int) (x2:Int) (out2:List AC) i5=>⟨[(0,qc l1),(5,.own 5005 (i5 0)),(6,rI i4),(9,qc n),(10,rL n),(11,rI x2)],[(5005,some (.arr (i5 0) 43 5 (out2.map AC.row)))],(i5 1),66⟩) (AH [n0,(n0+1)]) hit1 (Zn (Zn (Gp 5 5005 43 5 (by decide) R) (by exact Ae.cv (e':=[(0,qc l1),(1,qc n),(4,cZ),(5,.own 5005 n0),(6,rI 0),(9,qc n),(10,rL n),(11,rI 0)]) (h':=[(5005,some (.arr n0 43 5 (([]:List AC).map AC.row)))]) ⟨jL,jL,jL,jL,jL,jL,jL,jL,Za⟩ ⟨.inl R,Za⟩ nL)) wk) ?_
 intro i4 x2 out2 i5 v1 hv1 hx1
 have h4:GY l1 n i4 x2 out2=some v1:=hv1; unfold GY at h4
 refine aU (xS R (aZ (aT fun c8=>(cI R h4 (fun h5=>?_) fun h5=>?_))))
 ·refine Zd (c8 _ (aS fun K9 c9 wK9=>(Ze (DW h5 fun p1 hp1 hk2=>?_))))
  have J2 : ∀ (i10:Int) (out5:List AC) (i11:NN),p1=(i10,out5)→K9 ⟨[(0,qc l1),(5,.own 5005 (i11 0)),(6,rI i10),(9,qc n),(10,rL n),(11,rI x2)],[(5005,some (.arr (i11 0) 43 5 (out5.map AC.row)))],(i11 1),66⟩:=by
   intro i10 out5 i11 e
   have h6:=hk2 _ _ e
   exact c9 _ (aR (Zc h6 fun x4 ex4 h7=>(xA R ex4 (mM R (Zg (Es.mk h7 (AH [(i11 0),(i11 1)]) wk))))))
  refine aU (Zc hp1 fun x5 ex5 h8=>(xI Aq R ex5 (xB ((AY x5)) BC R (sS R (Zo (cs:=DV) 8 R EU R R) (Zi R R (Zh (ds:=(AY x5)) R DI iL R iL R R R R) (aZ (aS fun K11 c11 wK11=>(Ze (DW h8 fun o2 hit2 hk3=>?_)))))))))
  have J3 : ∀ (i19:Int) (out9:List AC) (i20:NN),o2=(i19,out9)→K11 ⟨[(0,qc l1),(5,.own 5005 (i20 0)),(6,rI i19),(8,.ptr 8 (i5 1) 0 0),(9,qc n),(10,rL n),(11,rI x2)],[(8,some (.box (i5 1) 43 (AY x5))),(5005,some (.arr (i20 0) 43 5 (out9.map AC.row)))],(i20 1),66⟩:=by
   intro i19 out9 i20 e
   have h9:=hk3 _ _ e
   refine c11 _ (aS fun K12 c12 wK12=>(aT fun c13=>?_))
   refine Zy BG (by kernel_rfl) ?_
   refine qP R (Zf R iL) (qP R (Zf R iL) (qP R (HH R Aq.slice iL) (qP R (Bh R iL iL) (qP R (Zf R iL) (qO R (Zf R iL) (qO R (Zf R iL) (Zc h9 fun x6 ex6 h10=>qO R (Zp R Aq.slice (iR R) (iR R) (fun _=>R) (Ai ex6)) (qO R (Bz (cs:=(AY x6)) R BC (iR R) R R) (qO R (Zq R BC iL R R) (Zc h10 fun r1 er1 h11=>Jr (.one R R R) R R (r:=rI r1) (caps:=[]) (bs:=[.agg (AY x6),.agg (AY x5)]) R iL R ⟨⟨_,(iR R),.g (cs:=[.int .i64 x6.Row,.int .i64 x6.Col,.str x6.Text,.int .i64 x6.Ref,.sl (x6.Attrs.map Ak.row)]) R R⟩,⟨_,(iR R),.g (cs:=[.int .i64 x5.Row,.int .i64 x5.Col,.str x5.Text,.int .i64 x5.Ref,.sl (x5.Attrs.map Ak.row)]) R R⟩,Za⟩ (fun hg=>H5 (Ai er1 hg)) R (qO R (BT R (iR R) iL) (qP R (Bt R iL (iR R)) (AQ.nil (c13 _ (A7 h11 fun p2 hp2 hk4=>?_)))))))))))))))
   have J4 : ∀ (i21:Int) (i22:NN),p2=i21→K12 ⟨[(0,qc l1),(5,.own 5005 (i20 0)),(6,rI i21),(8,.ptr 8 (i5 1) 0 0),(9,qc n),(10,rL n),(11,rI x2)],[(8,some (.box (i5 1) 43 (AY x5))),(5005,some (.arr (i20 0) 43 5 (out9.map AC.row)))],(i22 0),66⟩:=by
    intro i21 i22 e
    have h12:=hk4 _ e
    refine c12 _ (aU (xC BC R (Zc h12 fun r2 er2 h13=>(cL (Sl (er2)) R (sQ R (BI R iL) (aZ (cI R h13 (fun h14=>?_) fun h14=>?_)))))))
    ·exact aR (mM R (xC BC R (Zc h14 fun r3 er3 h15=>(sS R (Zw (r:=.agg (AY r3)) (caps:=[]) (bs:=(Hz x5)) R iL R ⟨.inl ⟨iL,R⟩,Za⟩ (fun _=>M1 (er3))) (sS R (Bp 58 R Aq (f:=AC.row) (l:=([r3]:List AC)) ⟨R,⟨_,iL,R⟩,Za⟩ R (fun _=>R) R) (Zc h15 fun out10 eout10 h16=>(sS R (Bv R Aq iL R (.inr (.inl ⟨_,_,iL,R⟩)) eout10) (mA R (Zg (wK9 _ _ wk (J2 _ _ (AH [((i22 0)+1),((i22 0)+2)]) (Zb h16).symm)))))))))))
    exact Zd (wK9 _ _ wk (J2 _ _ (AH [(i20 0),(i22 0)]) (Zb h14).symm))
   refine aC R (fun hc3=>?_) (fun hc3=>?_)
   ·have h17:=CE hc3 hp2
    exact aR (mM R (Zc h17 fun i23 ei23 h18=>(xA R ei23 (mA R (Zg (wK12 _ _ wk (J4 _ (AH [(i20 1)]) (Zb h18).symm)))))))
   ·have h17:=CA hc3 hp2
    exact Zd (wK12 _ _ wk (J4 _ (AH [(i20 1)]) (Zb h17).symm))
  refine B0 (fun (i15:Int) (out7:List AC) i16=>⟨[(0,qc l1),(5,.own 5005 (i16 0)),(6,rI i15),(8,.ptr 8 (i5 1) 0 0),(9,qc n),(10,rL n),(11,rI x2)],[(8,some (.box (i5 1) 43 (AY x5))),(5005,some (.arr (i16 0) 43 5 (out7.map AC.row)))],(i16 1),66⟩) (AH [(i5 0),((i5 1)+1)]) hit2 wk ?_
  intro i15 out7 i16 v2 hv2 hx2
  have h19:Hb l1 x5 i15 out7=some v2:=hv2; unfold Hb at h19
  refine aT fun c15=>(aT fun c16=>?_)
  refine Zy BG (by kernel_rfl) ?_
  refine qP R (Zf R iL) (qP R (Zf R iL) (qP R (HH R Aq.slice iL) (qP R (Bh R iL iL) (qP R (Zf R iL) (qO R (Zf R iL) (qO R (Zf R iL) (Zc h19 fun x7 ex7 h20=>qO R (Zp R Aq.slice (iR R) (iR R) (fun _=>R) (Ai ex7)) (qO R (Bz (cs:=(AY x7)) R BC (iR R) R R) (qO R (Zq R BC iL R R) (Zc h20 fun r4 er4 h21=>Jr (.one R R R) R R (r:=rI r4) (caps:=[]) (bs:=[.agg (AY x7),.agg (AY x5)]) R iL R ⟨⟨_,(iR R),.g (cs:=[.int .i64 x7.Row,.int .i64 x7.Col,.str x7.Text,.int .i64 x7.Ref,.sl (x7.Attrs.map Ak.row)]) R R⟩,⟨_,(iR R),.g (cs:=[.int .i64 x5.Row,.int .i64 x5.Col,.str x5.Text,.int .i64 x5.Ref,.sl (x5.Attrs.map Ak.row)]) R R⟩,Za⟩ (fun hg=>H5 (Ai er4 hg)) R (qO R (Bh R (iR R) iL) (qP R (Bt R iL (iR R)) (AQ.nil (c16 _ (cI R h21 (fun h22=>?_) fun h22=>?_)))))))))))))))
  ·refine Zd (c15 _ (Ze (aU (mM R (mM R (mM R (Zc h22 fun x8 ex8 h23=>(xI Aq R ex8 (xB ((AY x8)) BC R (sS R (Bp 33 R Aq (f:=AC.row) (l:=([x8]:List AC)) ⟨R,⟨_,iL,R⟩,Za⟩ R (fun _=>R) R) (Zc h23 fun out11 eout11 h24=>(sS R (Bv R Aq iL R (.inr (.inl ⟨_,_,iL,R⟩)) eout11) (mA R (aZ (aG [0,5,6,8,9,10,11] [8,5005] ?_)))))))))))))))
   exact aR (mM R (Zc h24 fun i24 ei24 h25=>(xA R ei24 (mA R (Zg (Zx h25 (AH [((i16 1)+1),((i16 1)+2)]) wk))))))
  exact Zm (wK11 _ _ wk (J3 _ _ (AH [(i16 0),(i16 1)]) (xH hx2 h22)))
 exact Zm (wK4 _ _ wk (J1 _ _ (AH [(i5 0),(i5 1)]) (xH hx1 h5)))
theorem Sn {a1 f b r} (h:E8 a1 f b=some r):Ad Tryz.prog 73 [qb a1,rI f,rI b] (.tup [rI r.1,rI r.2]):=by
 unfold E8 at h
 refine mF Tryz.func73 Tryz.ntmps73 R fun n0=>aU (mA R (mA R (aZ (aU (mA R (mA R (mA R (mA R (aZ (aS fun K3 c3 wK3=>(aU (mM R (xL A5 R (mM R (aZ (Ze (DW h fun o1 hit1 hk1=>?_)))))))))))))))))
 have J1 : ∀ (first4:Int) (last4:Int) (i5:NN),o1=(first4,last4)→K3 ⟨[(8,rI first4),(9,rI last4)],[],(i5 0),68⟩:=by
  intro first4 last4 i5 e
  have h1:=hk1 _ _ e
  exact c3 _ (aU (mM R (mM R (mA R (mA R (aZ (Zk (Bq (P:=Tryz.prog) (fun (r:Int × Int)=>rI r.1) (fun (r:Int × Int)=>rI r.2) h1 iL (.t (.d R)) (.t (.d R))))))))))
 refine cU (fun (first2:Int) (last2:Int) (old2:Int) (now2:Int) (x2:Int) i3=>⟨[(1,rI f),(2,rI b),(8,rI first2),(9,rI last2),(10,rI old2),(11,rI now2),(16,qb a1),(17,rL a1),(18,rI x2)],[],(i3 0),68⟩) (AH [n0]) hit1 wk ?_
 intro first2 last2 old2 now2 x2 i3 v1 hv1 hx1
 have h2:Iy a1 f b first2 last2 old2 now2 x2=some v1:=hv1; unfold Iy at h2
 refine aU (xS R (aZ (aT fun c7=>(cI R h2 (fun h3=>?_) fun h3=>?_))))
 ·refine Zd (c7 _ (aS fun K8 c8 wK8=>(Ze (ZG h3 fun p1 hp1 hk2=>?_))))
  have J2 : ∀ (first5:Int) (last5:Int) (old4:Int) (now4:Int) (i6:NN),p1=(first5,last5,old4,now4)→K8 ⟨[(1,rI f),(2,rI b),(8,rI first5),(9,rI last5),(10,rI old4),(11,rI now4),(16,qb a1),(17,rL a1),(18,rI x2)],[],(i6 0),68⟩:=by
   intro first5 last5 old4 now4 i6 e
   have h4:=hk2 _ _ _ _ e
   exact c8 _ (aR (Zc h4 fun x4 ex4 h5=>(xA R ex4 (mM R (Zg (NE.mk h5 (AH [(i6 0)]) wk))))))
  refine aU (Zc hp1 fun x5 ex5 h6=>(xI A5 R ex5 (xB ([rI x5.Kind,rI x5.N]) IO R (sS R (Zo (cs:=[rI 0,rI 0]) 13 R KW R R) (Zi R R (Zh (ds:=[rI x5.Kind,rI x5.N]) R LV iL R iL R R R R) (aZ (aT fun c10=>?_)))))))
  refine Zy BG (by kernel_rfl) ?_
  refine qP R (Zf R iL) (qP R (Zf R iL) (qP R (PD R iL iL) (qP R (Zf R iL) (qP R (Zf R iL) (qP R (fB R CI iL fR R) (qP R (Zj (a:=rI x5.N) R AI iL R R) (Zc h6 fun x6 ex6 h7=>(qP R (Fg R iL iL (fun _=>ex6)) (qP R (LO R iL iL) (qP R (D8 R iL) (qP R (D8 R iL) (AQ.nil (c10 _ (aS fun K11 c11 wK11=>(aT fun c12=>(aG [1,2,8,9,10,11,13,14,15,16,17,18] [13] ?_))))))))))))))))
  refine aR (lF B8 AI R R (xQ R (mM R (vM R (vM R (vQ R (Bh R (iR R) (iR R)) (xN R (aZ (c12 _ (DW h7 fun p2 hp2 hk3=>?_))))))))))
  have J3 : ∀ (first6:Int) (last6:Int) (i7:NN),p2=(first6,last6)→K11 ⟨[(1,rI f),(2,rI b),(8,rI first6),(9,rI last6),(10,rI old2),(11,rI now2),(13,.ptr 13 (i3 0) 0 0),(16,qb a1),(17,rL a1),(18,rI x2)],[(13,some (.box (i3 0) 52 [rI x5.Kind,rI x5.N]))],(i7 0),68⟩:=by
   intro first6 last6 i7 e
   have h8:=hk3 _ _ e
   refine c11 _ (aS fun K13 c13 wK13=>(aU (lF B8 AI R R (xU R (aZ (A7 h8 fun p3 hp3 hk4=>?_))))))
   have J4 : ∀ (now5:Int) (i8:NN),p3=now5→K13 ⟨[(1,rI f),(2,rI b),(8,rI first6),(9,rI last6),(10,rI old2),(11,rI now5),(13,.ptr 13 (i3 0) 0 0),(16,qb a1),(17,rL a1),(18,rI x2)],[(13,some (.box (i3 0) 52 [rI x5.Kind,rI x5.N]))],(i8 0),68⟩:=by
    intro now5 i8 e
    have h9:=hk4 _ e
    refine c13 _ (aU (lF B8 AI R R (xU R (aZ (cI R h9 (fun h10=>?_) fun h10=>?_)))))
    ·exact aR (mM R (lF CI AI R R (xA R ex6 (mA R (Zg (wK8 _ _ wk (J2 _ _ _ _ (AH [(i8 0)]) (Zb h10).symm)))))))
    exact Zd (wK8 _ _ wk (J2 _ _ _ _ (AH [(i8 0)]) (Zb h10).symm))
   refine aC R (fun hc3=>?_) (fun hc3=>?_)
   ·have h11:=CE hc3 hp3
    exact aR (mM R (lF CI AI R R (Zc h11 fun now6 enow6 h12=>(xA R enow6 (mA R (Zg (wK13 _ _ wk (J4 _ (AH [(i7 0)]) (Zb h12).symm))))))))
   ·have h11:=CA hc3 hp3
    exact Zd (wK13 _ _ wk (J4 _ (AH [(i7 0)]) (Zb h11).symm))
  refine aC R (fun hc4=>?_) (fun hc4=>?_)
  ·have h13:=CE hc4 hp2
   refine aS fun K16 c16 wK16=>(aU (mM R (xQ R (aZ (A7 h13 fun p4 hp4 hk5=>?_)))))
   have J5 : ∀ (first7:Int) (i9:NN),p4=first7→K16 ⟨[(1,rI f),(2,rI b),(8,rI first7),(10,rI old2),(11,rI now2),(13,.ptr 13 (i3 0) 0 0),(15,rI ((min b x6))),(16,qb a1),(17,rL a1),(18,rI x2)],[(13,some (.box (i3 0) 52 [rI x5.Kind,rI x5.N]))],(i9 0),68⟩:=by
    intro first7 i9 e
    have h14:=hk5 _ e
    exact c16 _ (aR (mM R (mM R (Zc h14 fun x7 ex7 h15=>(xA R ex7 (mM R (Zc h15 fun last7 elast7 h16=>(sQ R (Ba R iL iL (fun _=>elast7)) (mA R (Zg (wK11 _ _ wk (J3 _ _ (AH [(i9 0)]) (Zb h16).symm))))))))))))
   refine aC R (fun hc5=>?_) (fun hc5=>?_)
   ·have h17:=CE hc5 hp4
    refine aG [1,2,10,11,13,14,15,16,17,18] [13] ?_
    exact aR (mM R (mM R (Zc h17 fun x8 ex8 h18=>(xA R ex8 (mM R (Zc h18 fun first8 efirst8 h19=>(sQ R (Ba R iL iL (fun _=>efirst8)) (mA R (Zg (wK16 _ _ wk (J5 _ (AH [((i3 0)+1)]) (Zb h19).symm)))))))))))
   ·have h17:=CA hc5 hp4
    exact Zd (wK16 _ _ wk (J5 _ (AH [((i3 0)+1)]) (Zb h17).symm))
  ·have h13:=CA hc4 hp2
   exact Zd (wK11 _ _ wk (J3 _ _ (AH [((i3 0)+1)]) (Zb h13).symm))
 exact Zm (wK3 _ _ wk (J1 _ _ (AH [(i3 0)]) (xH hx1 h3)))
theorem WT {r1 b c r} (h:Lv r1 b c=some r):Ad Tryz.prog 49 [.agg (AL r1),qb b,qb c] (.tup [.agg (AL r.1),rB r.2]):=by
 unfold Lv at h
 refine mF Tryz.func49 Tryz.ntmps49 R fun n0=>aU (sS R (Zu (cs:=(AL r1)) 3 R iL R R) (sS R (Zo (cs:=Ca) 6 R DZ R R) (mA R (aZ (aS fun K2 c2 wK2=>(aU (mM R (xL A5 R (sQ R (BM R iL iL) (aZ (A7 h fun p1 hp1 hk1=>?_)))))))))))
 have J1 : ∀ (r2:AD) (i1:NN),p1=r2→K2 ⟨[(2,qb c),(3,.ptr 3 n0 0 0),(6,.ptr 6 (n0+1) 0 0)],[(3,some (.box n0 47 (AL r2))),(6,some (.box (n0+1) 47 Ca))],(i1 0),71⟩:=by
  intro r2 i1 e
  have h1:=hk1 _ e
  refine c2 _ (aS fun K4 c4 wK4=>(aU (mM R (xL A5 R (sQ R (BM R iL iL) (aZ (A7 h1 fun p2 hp2 hk2=>?_)))))))
  have J2 : ∀ (r3:AD) (i2:NN),p2=r3→K4 ⟨[(3,.ptr 3 n0 0 0),(6,.ptr 6 (n0+1) 0 0)],[(3,some (.box n0 47 (AL r3))),(6,some (.box (n0+1) 47 Ca))],(i2 0),71⟩:=by
   intro r3 i2 e
   have h2:=hk2 _ e
   refine c4 _ (aT fun c6=>(Zc h2 fun x1 ex1 h3=>?_))
   refine rP 18 [pO 54 (.agg (AL r3)),pO 55 (.ptr 3 n0 0 2),pO 56 (rI r3.H),pO 57 (rB ((decide (0<r3.H)))),pO 58 (rB ((decide (0<r3.H)))),pO 59 (.whn ((decide (0<r3.H)) == true) (.ptr 3 n0 0 3)),pO 60 (.whn ((decide (0<r3.H)) == true) (rI r3.W)),pO 61 (.whn ((decide (0<r3.H)) == true) (rB ((decide (0<r3.W))))),pO 62 (rB (((decide (0<r3.H)) && (decide (0<r3.W))))),pO 63 (rB (((decide (0<r3.H)) && (decide (0<r3.W))))),pO 64 (.whn (((decide (0<r3.H)) && (decide (0<r3.W))) == true) (.ptr 3 n0 0 2)),pO 65 (.whn (((decide (0<r3.H)) && (decide (0<r3.W))) == true) (rI r3.H)),pO 66 (.whn (((decide (0<r3.H)) && (decide (0<r3.W))) == true) (.ptr 3 n0 0 3)),pO 67 (.whn (((decide (0<r3.H)) && (decide (0<r3.W))) == true) (rI r3.W)),pO 68 (.whn (((decide (0<r3.H)) && (decide (0<r3.W))) == true) (rI x1)),pO 69 (.whn (((decide (0<r3.H)) && (decide (0<r3.W))) == true) (rB ((decide (2<x1))))),pO 70 (rB ((((decide (0<r3.H)) && (decide (0<r3.W))) && (decide (2<x1))))),⟨none,(fun _=>.any),some (6,(fun _=>some (.box (n0+1) 47 (AL r3)))),[]⟩] BG R (by exact ⟨oB [(3,.ptr 3 n0 0 0)] [(3,some (.box n0 47 (AL r3)))] (Zq R Au (.inl R) R R),oB [(3,.ptr 3 n0 0 0)] [(3,some (.box n0 47 (AL r3)))] (fB R DF (.inl R) (fun _=>R) R),oB [(55,.ptr 3 n0 0 2)] [(3,some (.box n0 47 (AL r3)))] (Zj (a:=rI r3.H) R AI (.inl R) R R),oB [(56,rI r3.H)] [] (BM R (.inl R) (.inl R)),oB [(57,rB ((decide (0<r3.H))))] [] (Zf R (.inl R)),oG [(3,.ptr 3 n0 0 0),(58,rB ((decide (0<r3.H))))] [(3,some (.box n0 47 (AL r3)))] (fun _ _=>R) (fB R DR (.inl R) (fun _=>R) R),oG [(58,rB ((decide (0<r3.H)))),(59,.whn ((decide (0<r3.H)) == true) (.ptr 3 n0 0 3))] [(3,some (.box n0 47 (AL r3)))] (fun _ _=>R) (Zj (a:=rI r3.W) R AI (.inr ⟨_,(by exact id),R⟩) R R),oG [(58,rB ((decide (0<r3.H)))),(60,.whn ((decide (0<r3.H)) == true) (rI r3.W))] [] (fun _ _=>R) (BM R (.inr ⟨_,(by exact id),R⟩) (.inl R)),oB [(58,rB ((decide (0<r3.H)))),(61,.whn ((decide (0<r3.H)) == true) (rB ((decide (0<r3.W)))))] [] (Bt R (.inl R) (.inr ⟨_,(by exact id),R⟩)),oB [(62,rB (((decide (0<r3.H)) && (decide (0<r3.W)))))] [] (Zf R (.inl R)),oG [(3,.ptr 3 n0 0 0),(63,rB (((decide (0<r3.H)) && (decide (0<r3.W)))))] [(3,some (.box n0 47 (AL r3)))] (fun _ _=>R) (fB R DF (.inl R) (fun _=>R) R),oG [(63,rB (((decide (0<r3.H)) && (decide (0<r3.W))))),(64,.whn (((decide (0<r3.H)) && (decide (0<r3.W))) == true) (.ptr 3 n0 0 2))] [(3,some (.box n0 47 (AL r3)))] (fun _ _=>R) (Zj (a:=rI r3.H) R AI (.inr ⟨_,(by exact id),R⟩) R R),oG [(3,.ptr 3 n0 0 0),(63,rB (((decide (0<r3.H)) && (decide (0<r3.W)))))] [(3,some (.box n0 47 (AL r3)))] (fun _ _=>R) (fB R DR (.inl R) (fun _=>R) R),oG [(63,rB (((decide (0<r3.H)) && (decide (0<r3.W))))),(66,.whn (((decide (0<r3.H)) && (decide (0<r3.W))) == true) (.ptr 3 n0 0 3))] [(3,some (.box n0 47 (AL r3)))] (fun _ _=>R) (Zj (a:=rI r3.W) R AI (.inr ⟨_,(by exact id),R⟩) R R),oG [(63,rB (((decide (0<r3.H)) && (decide (0<r3.W))))),(65,.whn (((decide (0<r3.H)) && (decide (0<r3.W))) == true) (rI r3.H)),(67,.whn (((decide (0<r3.H)) && (decide (0<r3.W))) == true) (rI r3.W))] [] (fun _ _=>R) (Fg R (.inr ⟨_,(by exact id),R⟩) (.inr ⟨_,(by exact id),R⟩) (Ai ex1)),oG [(63,rB (((decide (0<r3.H)) && (decide (0<r3.W))))),(68,.whn (((decide (0<r3.H)) && (decide (0<r3.W))) == true) (rI x1))] [] (fun _ _=>R) (BM R (.inr ⟨_,(by exact id),R⟩) (.inl R)),oB [(63,rB (((decide (0<r3.H)) && (decide (0<r3.W))))),(69,.whn (((decide (0<r3.H)) && (decide (0<r3.W))) == true) (rB ((decide (2<x1)))))] [] (Bt R (.inl R) (.inr ⟨_,(by exact id),R⟩)),oM (fun _=>[(6,.ptr 6 (n0+1) 0 0),(54,.agg (AL r3))]) (fun _=>[(6,some (.box (n0+1) 47 Ca))]) R (fun G1 e h' n=>Zh (ds:=(AL r3)) R DE (.inl R) R (.inl R) R R R R),Za⟩) fun G1 n1=>?_
   refine CB [3,6,54,55,56,57,58,59,60,61,62,63,64,65,66,67,68,69,70] [3,6] ?_
   exact mA R (aZ (c6 _ (Zk (Bq (P:=Tryz.prog) (fun (r:AD × Bool)=>.agg (AL r.1)) (fun (r:AD × Bool)=>rB r.2) h3 iL (.a Au R R R (.g (cs:=[.int .i64 r3.Row,.int .i64 r3.Col,.int .i64 r3.H,.int .i64 r3.W]) R R)) (.t (.d R))))))
  refine aC R (fun hc1=>?_) (fun hc1=>?_)
  ·have h4:=CE hc1 hp2
   refine aU (mM R (lF Br AI R R (lF Br AI R R (lF DR AI R R (Zc h4 fun x2 ex2 h5=>(xA R ex2 (Bw h5 fun r4 r5 er4 h6=>(cL (Sn (er4)) R (mM R (xX R (xX R (mA R (mA R (aZ (aG [3,6,10,11] [3,6] ?_)))))))))))))))
   exact aR (mM R (mM R (mM R (Zc h6 fun x3 ex3 h7=>(sQ R (Ba R iL iL (fun _=>ex3)) (sQ R (fB R Br iL fR R) (Zi R R (Zh (ds:=[rI r2.Row,rI r4,rI r2.H,rI r2.W]) R EL iL R iL R R R R) (sQ R (fB R DR iL fR R) (Zi R R (Zh (ds:=[rI r2.Row,rI r4,rI r2.H,rI x3]) R EL iL R iL R R R R) (Zg (wK4 _ _ wk (J2 _ (AH [(i1 0)]) (Zb h7).symm))))))))))))
  ·have h4:=CA hc1 hp2
   exact Zd (wK4 _ _ wk (J2 _ (AH [(i1 0)]) (Zb h4).symm))
 refine aC R (fun hc2=>?_) (fun hc2=>?_)
 ·have h8:=CE hc2 hp1
  refine aU (mM R (lF Bj AI R R (lF Bj AI R R (lF DF AI R R (Zc h8 fun x4 ex4 h9=>(xA R ex4 (Bw h9 fun r6 r7 er6 h10=>(cL (Sn (er6)) R (mM R (xX R (xX R (mA R (mA R (aZ (aG [2,3,6,8,9] [3,6] ?_)))))))))))))))
  exact aR (mM R (mM R (mM R (Zc h10 fun x5 ex5 h11=>(sQ R (Ba R iL iL (fun _=>ex5)) (sQ R (fB R Bj iL fR R) (Zi R R (Zh (ds:=[rI r6,rI r1.Col,rI r1.H,rI r1.W]) R EL iL R iL R R R R) (sQ R (fB R DF iL fR R) (Zi R R (Zh (ds:=[rI r6,rI r1.Col,rI x5,rI r1.W]) R EL iL R iL R R R R) (Zg (wK2 _ _ wk (J1 _ (AH [(n0+2)]) (Zb h11).symm))))))))))))
 ·have h8:=CA hc2 hp1
  exact Zd (wK2 _ _ wk (J1 _ (AH [(n0+2)]) (Zb h8).symm))
theorem Um {s1 v1 r} (h:NK s1 v1=some r):Ad Tryz.prog 70 [qa s1,.agg (AL v1)] (rI r):=by
 unfold NK at h
 refine mF Tryz.func70 Tryz.ntmps70 R fun n0=>aU (sS R (Zu (cs:=(AL v1)) 3 R iL R R) (mA R (aZ (aS fun K2 c2 wK2=>(aU (mM R (xL Ag R (mM R (aZ (Ze (BH h fun o1 hit1 hk1 he1=>?_)))))))))))
 have J1 : ∀ (u2:Unit) (i5:NN),o1 = .nrm u2→K2 ⟨[],[],(i5 0),19⟩:=by
  intro u2 i5 e
  have h1:=hk1 _ e
  exact c2 _ (zI h1 R id)
 refine Zv (fun (x2:Int) i3=>⟨[(0,qa s1),(3,.ptr 3 n0 0 0),(7,rL s1),(8,rI x2)],[(3,some (.box n0 47 (AL v1)))],(i3 0),19⟩) (AH [(n0+1)]) hit1 wk ?_
 intro x2 i3 v2 hv1 hx1
 have h2:MB s1 v1 x2=some v2:=hv1; unfold MB at h2
 refine aU (xS R (aZ (aT fun c6=>(cI R h2 (fun h3=>?_) fun h3=>?_))))
 ·refine Zd (c6 _ (aT fun c7=>(Ze (aU (mM R (mA R (aZ (aT fun c9=>?_))))))))
  refine Zy BG (by kernel_rfl) ?_
  refine qP R (Zq R Au iL R R) (qP R (Zf R iL) (qP R (Zf R iL) (Zc h3 fun x4 ex4 h4=>(qP R (Zp R Ag.slice iL iL (fun _=>R) (fun _=>ex4)) (qP R (Bz (cs:=(AL x4)) R Au iL R R) (qP R (Wa R Jw (.inl R) (.inl R) R) (AQ.nil (c9 _ (cI R h4 (fun h5=>?_) fun h5=>?_)))))))))
  ·refine aT fun c10=>(aF [5] ?_)
   exact aR (mM R (mA R (aZ (c10 _ (Zk (yI (he1 _ (xH hx1 h5)) R))))))
  refine Zd (c7 _ (aG [0,3,7,8] [3] ?_))
  exact aR (Zc h5 fun x5 ex5 h6=>(xA R ex5 (mM R (Zg (Zs h6 (AH [(i3 0)]) wk)))))
 exact Zm (wK2 _ _ wk (J1 _ (AH [(i3 0)]) (xH hx1 h3)))
theorem PN {s1 v1 r} (h:IV s1 v1=some r):Ad Tryz.prog 46 [qa s1,.agg (AL v1)] (rB r):=by
 unfold IV at h
 exact mF Tryz.func46 Tryz.ntmps46 R fun n0=>aU (sS R (Zu (cs:=(AL v1)) 3 R iL R R) (mA R (aZ (aU (mM R (xC Au R (Zc h fun r1 er1 h1=>(cL (Um (er1)) R (sQ R (B4 R iL iL) (mA R (aZ (Zk (yB h1 R)))))))))))))
theorem N9 {w1:AD} {q1:AD} {r:Bool} {gb1000:Nat} (h:GW w1 q1=some r):Bo Tryz.prog 51 1 [.agg (AL q1),.ptr 1000 gb1000 0 0] [(1000,some (.box gb1000 47 (AL w1)))] (fun rr h'=>∃ (i:Nat→Nat),rr=rB r∧h'=[(1000,some (.box gb1000 47 (AL w1)))]):=by
 unfold GW at h
 refine Ft Tryz.func51 R R Tryz.ntmps51 (Nat.le_of_ble_eq_true R) fun n0=>aU (sS R (Zu (cs:=(AL q1)) 2 R iL R R) (mA R (aZ (aU (xC Au R (xC Au R (Zc h fun r1 er1 h1=>(cL (QQ (er1)) R (mA R (aZ ?_))))))))))
 exact Zk (CW.mk (s':=⟨[(3,rB r1)],[(1000,some (.box gb1000 47 (AL w1)))],(n0+1),7⟩) wk (DC (fun (r:Bool) rr h'=>∃ (i:Nat→Nat),rr=rB r∧h'=[(1000,some (.box gb1000 47 (AL w1)))]) h1 (by exact ⟨rB r1,[(1000,some (.box gb1000 47 (AL w1)))],R,⟨.inr R,Za⟩,R,R,AH [],R,R⟩)))
theorem cx {w1:AD} {s1:List AD} {r:Int} {gb1000:Nat} (h:S3 w1 s1=some r):Bo Tryz.prog 74 1 [qa s1,.fn 51 [.ptr 1000 gb1000 0 0]] [(1000,some (.box gb1000 47 (AL w1)))] (fun rr h'=>∃ (i:Nat→Nat),rr=rI r∧h'=[(1000,some (.box gb1000 47 (AL w1)))]):=by
 unfold S3 at h
 refine Ft Tryz.func74 R R Tryz.ntmps74 (Nat.le_of_ble_eq_true R) fun n0=>aU (mA R (aZ (aS fun K2 c2 wK2=>(aU (mM R (xL Ag R (mM R (aZ (Ze (BH h fun o1 hit1 hk1 he1=>?_))))))))))
 have J1 : ∀ (u2:Unit) (i5:NN),o1 = .nrm u2→K2 ⟨[],[(1000,some (.box gb1000 47 (AL w1)))],(i5 0),19⟩:=by
  intro u2 i5 e
  have h1:=hk1 _ e
  refine c2 _ (aU (mA R (aZ ?_)))
  exact Zk (CW.mk (s':=⟨[(4,rI ((-1)))],[(1000,some (.box gb1000 47 (AL w1)))],(i5 0),19⟩) wk (DC (fun (r:Int) rr h'=>∃ (i:Nat→Nat),rr=rI r∧h'=[(1000,some (.box gb1000 47 (AL w1)))]) h1 (by exact ⟨rI ((-1)),[(1000,some (.box gb1000 47 (AL w1)))],R,⟨.inr R,Za⟩,R,R,AH [],R,R⟩)))
 refine Zv (fun (x2:Int) i3=>⟨[(0,qa s1),(1,.fn 51 [.ptr 1000 gb1000 0 0]),(7,rL s1),(8,rI x2)],[(1000,some (.box gb1000 47 (AL w1)))],(i3 0),19⟩) (AH [n0]) hit1 wk ?_
 intro x2 i3 v1 hv1 hx1
 have h2:Ox w1 s1 x2=some v1:=hv1; unfold Ox at h2
 refine aU (xS R (aZ (aT fun c6=>(cI R h2 (fun h3=>?_) fun h3=>?_))))
 ·refine Zd (c6 _ (aT fun c7=>(Ze (aU (mM R (mA R (aZ (aT fun c9=>(aR (mM R (mM R (mM R (Zc h3 fun x4 ex4 h4=>(xI Ag R ex4 (xB ((AL x4)) Au R (Zc h4 fun r1 er1 h5=>?_))))))))))))))))
  refine EZ [1000] (hc:=[(1000,some (.box gb1000 47 (AL w1)))]) (bs:=(Mk x4)) (caps:=[.ptr 1000 gb1000 0 0]) R R R R iL R ⟨.inl ⟨iL,R⟩,Za⟩ ⟨R,R,R,Za⟩ (by decide) (N9 er1) ?_
  intro i6 n1
  refine CB [0,1,5,7,8,9,10,11,12,13,14,15,16] [1000] ?_
  refine aZ (c9 _ (cI R h5 (fun h6=>?_) fun h6=>?_))
  ·refine aT fun c10=>(aG [5] [1000] ?_)
   refine aR (mM R (mA R (oZ c10 ?_)))
   exact Zk (CW.mk (s':=⟨[(4,rI x2)],[(1000,some (.box gb1000 47 (AL w1)))],n1,19⟩) wk (DC (fun (r:Int) rr h'=>∃ (i:Nat→Nat),rr=rI r∧h'=[(1000,some (.box gb1000 47 (AL w1)))]) (he1 _ (xH hx1 h6)) (by exact ⟨rI x2,[(1000,some (.box gb1000 47 (AL w1)))],R,⟨.inr R,Za⟩,R,R,AH [],R,R⟩)))
  refine Zd (c7 _ (aG [0,1,7,8] [1000] ?_))
  exact aR (Zc h6 fun x5 ex5 h7=>(xA R ex5 (mM R (Zg (Zs h7 (AH [n1]) wk)))))
 exact Zm (wK2 _ _ wk (J1 _ (AH [(i3 0)]) (xH hx1 h3)))
theorem U9 {s1:List AD} {w1:AD} {r:Int} {ga1000:Nat} {gb1001:Nat} (h:I6 s1 w1=some r):Bo Tryz.prog 74 2 [.own 1000 ga1000,.fn 51 [.ptr 1001 gb1001 0 0]] [(1000,some (.arr ga1000 47 4 (s1.map AD.row))),(1001,some (.box gb1001 47 (AL w1)))] (fun rr h'=>∃ (i:Nat→Nat),rr=rI r∧h'=[(1000,some (.arr ga1000 47 4 (s1.map AD.row))),(1001,some (.box gb1001 47 (AL w1)))]):=by
 unfold I6 at h
 refine Ft Tryz.func74 R R Tryz.ntmps74 (Nat.le_of_ble_eq_true R) fun n0=>aU (mA R (aZ (aS fun K2 c2 wK2=>(aU (mM R (sQ R (L7 R Ag.slice iL R) (mM R (aZ (Ze (BH h fun o1 hit1 hk1 he1=>?_))))))))))
 have J1 : ∀ (u2:Unit) (i5:NN),o1 = .nrm u2→K2 ⟨[],[(1000,some (.arr ga1000 47 4 (s1.map AD.row))),(1001,some (.box gb1001 47 (AL w1)))],(i5 0),19⟩:=by
  intro u2 i5 e
  have h1:=hk1 _ e
  refine c2 _ (aU (mA R (aZ ?_)))
  exact Zk (CW.mk (s':=⟨[(4,rI ((-1)))],[(1000,some (.arr ga1000 47 4 (s1.map AD.row))),(1001,some (.box gb1001 47 (AL w1)))],(i5 0),19⟩) wk (DC (fun (r:Int) rr h'=>∃ (i:Nat→Nat),rr=rI r∧h'=[(1000,some (.arr ga1000 47 4 (s1.map AD.row))),(1001,some (.box gb1001 47 (AL w1)))]) h1 (by exact ⟨rI ((-1)),[(1000,some (.arr ga1000 47 4 (s1.map AD.row))),(1001,some (.box gb1001 47 (AL w1)))],R,⟨.inr R,.inr R,Za⟩,R,R,AH [],R,R⟩)))
 refine Zv (fun (x2:Int) i3=>⟨[(0,.own 1000 ga1000),(1,.fn 51 [.ptr 1001 gb1001 0 0]),(7,rL s1),(8,rI x2)],[(1000,some (.arr ga1000 47 4 (s1.map AD.row))),(1001,some (.box gb1001 47 (AL w1)))],(i3 0),19⟩) (AH [n0]) hit1 wk ?_
 intro x2 i3 v1 hv1 hx1
 have h2:Ie s1 w1 x2=some v1:=hv1; unfold Ie at h2
 refine aU (xS R (aZ (aT fun c6=>(cI R h2 (fun h3=>?_) fun h3=>?_))))
 ·refine Zd (c6 _ (aT fun c7=>(Ze (aU (mM R (mA R (aZ (aT fun c9=>(aR (mM R (mM R (mM R (Zc h3 fun x4 ex4 h4=>(sQ R (Eg R Ag.slice iL R iL (fun _=>ex4)) (sQ R (Kb (cs:=(AL x4)) R Au iL fR (fun _=>ex4) R) (Zc h4 fun r1 er1 h5=>?_))))))))))))))))
  refine EZ [1001] (hc:=[(1000,some (.box gb1001 47 (AL w1)))]) (bs:=(Mk x4)) (caps:=[.ptr 1000 gb1001 0 0]) R R R R iL R ⟨.inl ⟨iL,R⟩,Za⟩ ⟨R,R,R,Za⟩ (by decide) (N9 er1) ?_
  intro i6 n1
  refine CB [0,1,5,7,8,9,10,11,12,13,15,16] [1000,1001] ?_
  refine aZ (c9 _ (cI R h5 (fun h6=>?_) fun h6=>?_))
  ·refine aT fun c10=>(aG [5] [1000,1001] ?_)
   refine aR (mM R (mA R (oZ c10 ?_)))
   exact Zk (CW.mk (s':=⟨[(4,rI x2)],[(1000,some (.arr ga1000 47 4 (s1.map AD.row))),(1001,some (.box gb1001 47 (AL w1)))],n1,19⟩) wk (DC (fun (r:Int) rr h'=>∃ (i:Nat→Nat),rr=rI r∧h'=[(1000,some (.arr ga1000 47 4 (s1.map AD.row))),(1001,some (.box gb1001 47 (AL w1)))]) (he1 _ (xH hx1 h6)) (by exact ⟨rI x2,[(1000,some (.arr ga1000 47 4 (s1.map AD.row))),(1001,some (.box gb1001 47 (AL w1)))],R,⟨.inr R,.inr R,Za⟩,R,R,AH [],R,R⟩)))
  exact Zd (c7 _ (aR (Zc h6 fun x5 ex5 h7=>(xA R ex5 (mM R (Zg (Zs h7 (AH [n1]) wk)))))))
 exact Zm (wK2 _ _ wk (J1 _ (AH [(i3 0)]) (xH hx1 h3)))
theorem Vf {s1:List AD} {w1:AD} {r:(List AD)} {ga1000:Nat} {gb1001:Nat} (h:Ln s1 w1=some r):Bo Tryz.prog 50 2 [.own 1000 ga1000,.fn 51 [.ptr 1001 gb1001 0 0]] [(1000,some (.arr ga1000 47 4 (s1.map AD.row))),(1001,some (.box gb1001 47 (AL w1)))] (fun rr h'=>∃ (i:Nat→Nat),rr = .own 1000 (i 0)∧h'=[(1000,some (.arr (i 0) 47 4 (r.map AD.row))),(1001,some (.box gb1001 47 (AL w1)))]):=by
 unfold Ln at h
 refine Ft Tryz.func50 R R Tryz.ntmps50 (Nat.le_of_ble_eq_true R) fun n0=>aU (mA R (aZ (aT fun c2=>(aR (mM R (mM R (Zc h fun i1 ei1 h1=>?_)))))))
 refine EZ [1000,1001] (hc:=[(1000,some (.arr ga1000 47 4 (s1.map AD.row))),(1001,some (.box gb1001 47 (AL w1)))]) (bs:=[.own 1000 ga1000,.fn 51 [.ptr 1001 gb1001 0 0]]) (caps:=[]) R R R R iL R ⟨.inl ⟨iL,R⟩,.inl ⟨iL,R⟩,Za⟩ ⟨R,R,R,R,R,R,Za⟩ (by decide) (U9 ei1) ?_
 intro i2 n1
 refine CB [0,1,4,8,9,10] [1000,1001] ?_
 refine mA R (aZ (c2 _ (aT fun c3=>(aU (mM R (xQ R (aZ (cI R h1 (fun h2=>?_) fun h2=>?_))))))))
 ·refine aU (mM R (mA R (aZ ?_)))
  exact Zk (CW.mk (s':=⟨[(4,.own 1000 ga1000)],[(1000,some (.arr ga1000 47 4 (s1.map AD.row))),(1001,some (.box gb1001 47 (AL w1)))],n1,42⟩) wk (DC (fun (r:(List AD)) rr h'=>∃ (i:Nat→Nat),rr = .own 1000 (i 0)∧h'=[(1000,some (.arr (i 0) 47 4 (r.map AD.row))),(1001,some (.box gb1001 47 (AL w1)))]) h2 (by exact ⟨.own 1000 ga1000,[(1000,some (.arr ga1000 47 4 (s1.map AD.row))),(1001,some (.box gb1001 47 (AL w1)))],R,⟨.inr R,.inr R,Za⟩,R,R,AH [ga1000],R,R⟩)))
 refine Zd (c3 _ (aS fun K6 c6 wK6=>(aU (mM R (Zc h2 fun j1 ej1 h3=>(xA R ej1 (mA R (aZ (Ze (DW h3 fun o1 hit1 hk1=>?_))))))))))
 have J1 : ∀ (i10:Int) (s5:List AD) (i11:NN),o1=(i10,s5)→K6 ⟨[(0,.own 1000 (i11 0)),(5,rI i10)],[(1000,some (.arr (i11 0) 47 4 (s5.map AD.row))),(1001,some (.box gb1001 47 (AL w1)))],(i11 1),42⟩:=by
  intro i10 s5 i11 e
  have h4:=hk1 _ _ e
  refine c6 _ (aU (mM R (mM R (Zc h4 fun l1 el1 h5=>cd (f:=AD.row) (z0:=(AD.mk 0 0 0 0)) R R R R R R R Ag UJ iL R ⟨_,iL⟩ el1 (aZ (aT fun c9=>(aR (mM R (mM R (Zc h5 fun l2 el2 h6=>(sQ R (WX R Ag.slice iL R ⟨_,iL⟩ (fun _=>el2)) (AR.weak (cP (f:=AD.row) 41 1000 el2 R R) ?_))))))))))))
  refine mA R (oZ c9 ?_)
  exact Zk (CW.mk (s':=⟨[(4,.own 1000 (i11 1))],[(1000,some (.arr (i11 1) 47 4 (l2.map AD.row))),(1001,some (.box gb1001 47 (AL w1)))],((i11 1)+1),42⟩) wk (DC (fun (r:(List AD)) rr h'=>∃ (i:Nat→Nat),rr = .own 1000 (i 0)∧h'=[(1000,some (.arr (i 0) 47 4 (r.map AD.row))),(1001,some (.box gb1001 47 (AL w1)))]) h6 (by exact ⟨.own 1000 (i11 1),[(1000,some (.arr (i11 1) 47 4 (l2.map AD.row))),(1001,some (.box gb1001 47 (AL w1)))],R,⟨.inr R,.inr R,Za⟩,R,R,AH [(i11 1)],R,R⟩)))
 refine Gr (fun (i6:Int) (j3:Int) (s3:List AD) i7=>⟨[(0,.own 1000 (i7 0)),(1,.fn 51 [.ptr 1001 gb1001 0 0]),(5,rI i6),(6,rI j3)],[(1000,some (.arr (i7 0) 47 4 (s3.map AD.row))),(1001,some (.box gb1001 47 (AL w1)))],(i7 1),42⟩) (AH [ga1000,n1]) hit1 wk ?_
 intro i6 j3 s3 i7 v1 hv1 hx1
 have h7:IY w1 i6 j3 s3=some v1:=hv1; unfold IY at h7
 refine aT fun c10=>(aU (mM R (mM R (sQ R (L7 R Ag.slice iL R) (xS R (aZ (cI R h7 (fun h8=>?_) fun h8=>?_)))))))
 ·refine Zd (c10 _ (aS fun K12 c12 wK12=>(Ze (DW h8 fun p1 hp1 hk2=>?_))))
  have J2 : ∀ (i12:Int) (s6:List AD) (i13:NN),p1=(i12,s6)→K12 ⟨[(0,.own 1000 (i13 0)),(1,.fn 51 [.ptr 1001 gb1001 0 0]),(5,rI i12),(6,rI j3)],[(1000,some (.arr (i13 0) 47 4 (s6.map AD.row))),(1001,some (.box gb1001 47 (AL w1)))],(i13 1),42⟩:=by
   intro i12 s6 i13 e
   have h9:=hk2 _ _ e
   exact c12 _ (aR (mM R (Zc h9 fun j5 ej5 h10=>(xA R ej5 (mA R (Zg (Es.mk h10 (AH [(i13 0),(i13 1)]) wk)))))))
  refine aU (mM R (mM R (Zc hp1 fun x1 ex1 h11=>(sQ R (Eg R Ag.slice iL R iL (fun _=>ex1)) (sQ R (Kb (cs:=(AL x1)) R Au iL fR (fun _=>ex1) R) (sS R (Zo (cs:=Ca) 7 R DZ R R) (Zi R R (Zh (ds:=(AL x1)) R DE iL R iL R R R R) (aZ (aT fun c14=>(aR (mM R (xC Au R (Zc h11 fun r1 er1 h12=>?_)))))))))))))
  refine EZ [1001] (hc:=[(1000,some (.box gb1001 47 (AL w1)))]) (bs:=(Mk x1)) (caps:=[.ptr 1000 gb1001 0 0]) R R R R iL R ⟨.inl ⟨iL,R⟩,Za⟩ ⟨R,R,R,Za⟩ (by decide) (N9 er1) ?_
  intro i14 n2
  refine CB [0,1,5,6,7,16,17,18,19,22,23,25,26,27,28] [7,1000,1001] ?_
  refine sQ R (BI R iL) (aZ (c14 _ (cI R h12 (fun h13=>?_) fun h13=>?_)))
  ·refine aT fun c15=>(aG [0,1,5,6,7] [7,1000,1001] ?_)
   exact aR (mM R (mM R (xC Au R (Zc h13 fun x2 ex2 h14=>(sQ R (Eg R Ag.slice iL R iL (fun _=>ex2)) (Zi R R (Ue (v:=x1) R DE iL R ex2 iL R R R R) (aZ (c15 _ (aR (mM R (Zc h14 fun i15 ei15 h15=>(xA R ei15 (mA R (Zg (wK12 _ _ wk (J2 _ _ (AH [(i7 0),n2]) (Zb h15).symm))))))))))))))))
  exact Zd (wK12 _ _ wk (J2 _ _ (AH [(i7 0),n2]) (Zb h13).symm))
 exact Zm (wK6 _ _ wk (J1 _ _ (AH [(i7 0),(i7 1)]) (xH hx1 h8)))
theorem cE {a1 b1 r} (h:G5 a1 b1=some r):Ad Tryz.prog 54 [.agg (AL a1),.agg (AL b1)] (rI r):=by
 unfold G5 at h
 refine mF Tryz.func54 Tryz.ntmps54 R fun n0=>aU (sS R (Zu (cs:=(AL a1)) 2 R iL R R) (sS R (Zu (cs:=(AL b1)) 3 R iL R R) (mA R (aZ (aT fun c2=>(Zc h fun r1 er1 h1=>?_))))))
 refine rP 9 [pO 5 (.ptr 2 n0 0 0),pO 6 (rI a1.Row),pO 7 (.ptr 3 (n0+1) 0 0),pO 8 (rI b1.Row),pO 9 (rI r1),pO 10 (.ptr 2 n0 0 1),pO 11 (rI a1.Col),pO 12 (.ptr 3 (n0+1) 0 1),pO 13 (rI b1.Col)] BG R (by exact ⟨oB [(2,.ptr 2 n0 0 0)] [(2,some (.box n0 47 (AL a1)))] (fB R Bj (.inl R) (fun _=>R) R),oB [(5,.ptr 2 n0 0 0)] [(2,some (.box n0 47 (AL a1)))] (Zj (a:=rI a1.Row) R AI (.inl R) R R),oB [(3,.ptr 3 (n0+1) 0 0)] [(3,some (.box (n0+1) 47 (AL b1)))] (fB R Bj (.inl R) (fun _=>R) R),oB [(7,.ptr 3 (n0+1) 0 0)] [(3,some (.box (n0+1) 47 (AL b1)))] (Zj (a:=rI b1.Row) R AI (.inl R) R R),oD (fun _=>[(6,rI a1.Row),(8,rI b1.Row)]) (fun _=>[]) (fun G1 e h' n=>HB (r:=rI r1) (caps:=[]) (bs:=[rI a1.Row,rI b1.Row]) R (.inl R) R ⟨⟨_,(.inl R),.d R⟩,⟨_,(.inl R),.d R⟩,Za⟩ (fun _=>MP (er1)) R),oB [(2,.ptr 2 n0 0 0)] [(2,some (.box n0 47 (AL a1)))] (fB R Br (.inl R) (fun _=>R) R),oB [(10,.ptr 2 n0 0 1)] [(2,some (.box n0 47 (AL a1)))] (Zj (a:=rI a1.Col) R AI (.inl R) R R),oB [(3,.ptr 3 (n0+1) 0 0)] [(3,some (.box (n0+1) 47 (AL b1)))] (fB R Br (.inl R) (fun _=>R) R),oB [(12,.ptr 3 (n0+1) 0 1)] [(3,some (.box (n0+1) 47 (AL b1)))] (Zj (a:=rI b1.Col) R AI (.inl R) R R),Za⟩) fun G1 n1=>?_
 refine CB [0,1,2,3,4,5,6,7,8,9,10,11,12,13] [2,3] ?_
 exact Zc h1 fun r2 er2 h2=>(cL (MP (er2)) R (sS R (Bp 15 R BS (f:=(AU .i64)) (l:=([r1,r2]:List Int)) ⟨R,⟨_,iL,R⟩,R,⟨_,iL,R⟩,Za⟩ R (fun _=>R) R) (Zc h2 fun r3 er3 h3=>(cL (Te (er3)) R (mA R (aZ (c2 _ (Zk (yI h3 R)))))))))
theorem N5 {g1 e1 r} (h:FS g1 e1=some r):Ad Tryz.prog 19 [.agg (AP g1),.agg (AZ e1)] (.agg (AP r)):=by
 unfold FS at h
 refine mF Tryz.func19 Tryz.ntmps19 R fun n0=>aU (sS R (Zu (cs:=(AP g1)) 2 R iL R R) (sS R (Zu (cs:=(AZ e1)) 3 R iL R R) (sS R (Zo (cs:=BB) 4 R Hl R R) (aZ (aU (lF Dw AI R R (lF D2 Bd R R (Bw h fun r1 r2 er1 h1=>(cL (Nh (er1)) R (mM R (xX R (xX R (mA R (mA R (aZ (aT fun c3=>(aG [2,3,4,5] [2,3,4] ?_)))))))))))))))))
 refine aR (lF EC AI R R (lF Dm Bd R R (Bw h1 fun r3 r4 er3 h2=>(cL (Nh (er3)) R (mM R (xX R (xX R (mA R (mA R (aZ (c3 _ (aT fun c4=>(aG [2,3,4,5,7] [2,3,4] ?_)))))))))))))
 refine Zc h2 fun r5 er5 h3=>(Zc h3 fun r6 er6 h4=>?_)
 refine MG 14 [pO 32 (rI r1),pO 33 (rI r3),pO 34 (.ptr 2 n0 0 2),pO 35 (qc g1.Cells),pO 36 (.ptr 3 (n0+1) 0 0),pO 37 (qb e1.Rows),pO 38 (.ptr 3 (n0+1) 0 1),pO 39 (qb e1.Cols),pO 40 (qc r5),pO 41 (.ptr 3 (n0+1) 0 2),pO 42 (qc e1.Cells),pO 43 (qc r6),pO 44 (.agg [rI r1,rI r3,qc r6,cZ]),⟨some 9,(fun G1=>.ptr 9 (G1 13) 0 0),some (9,(fun G1=>some (.box (G1 13) 25 BB))),[13]⟩] BG (by kernel_rfl) (by exact ⟨fun _ _ h=>⟨R,fun _ _ e=>by cases e⟩,fun _ _ h=>⟨R,fun _ _ e=>by cases e⟩,fun _ _ h=>⟨R,fun _ _ e=>by cases e⟩,fun _ _ h=>⟨R,fun _ _ e=>by cases e⟩,fun _ _ h=>⟨R,fun _ _ e=>by cases e⟩,fun _ _ h=>⟨R,fun _ _ e=>by cases e⟩,fun _ _ h=>⟨R,fun _ _ e=>by cases e⟩,fun _ _ h=>⟨R,fun _ _ e=>by cases e⟩,fun _ _ h=>⟨R,fun _ _ e=>by cases e⟩,fun _ _ h=>⟨R,fun _ _ e=>by cases e⟩,fun _ _ h=>⟨R,fun _ _ e=>by cases e⟩,fun _ _ h=>⟨R,fun _ _ e=>by cases e⟩,fun _ _ h=>⟨R,fun _ _ e=>by cases e⟩,fun _ _ h=>⟨by simp only [h 13 R],fun _ _ e=>by cases e; simp only [h 13 R]⟩,Za⟩) R (by exact ⟨oB [(5,rI r1)] [] (Zf R (.inl R)),oB [(7,rI r3)] [] (Zf R (.inl R)),oB [(2,.ptr 2 n0 0 0)] [(2,some (.box n0 25 (AP g1)))] (fB R Ef (.inl R) (fun _=>R) R),oB [(34,.ptr 2 n0 0 2)] [(2,some (.box n0 25 (AP g1)))] (Zj (a:=qc g1.Cells) R CD (.inl R) R R),oB [(3,.ptr 3 (n0+1) 0 0)] [(3,some (.box (n0+1) 28 (AZ e1)))] (fB R D2 (.inl R) (fun _=>R) R),oB [(36,.ptr 3 (n0+1) 0 0)] [(3,some (.box (n0+1) 28 (AZ e1)))] (Zj (a:=qb e1.Rows) R Bd (.inl R) R R),oB [(3,.ptr 3 (n0+1) 0 0)] [(3,some (.box (n0+1) 28 (AZ e1)))] (fB R Dm (.inl R) (fun _=>R) R),oB [(38,.ptr 3 (n0+1) 0 1)] [(3,some (.box (n0+1) 28 (AZ e1)))] (Zj (a:=qb e1.Cols) R Bd (.inl R) R R),oD (fun _=>[(35,qc g1.Cells),(37,qb e1.Rows),(39,qb e1.Cols)]) (fun _=>[]) (fun G1 e h' n=>Zw (r:=qc r5) (caps:=[]) (bs:=[qc g1.Cells,qb e1.Rows,qb e1.Cols]) R (.inl R) R ⟨.inl ⟨(.inl R),R⟩,.inl ⟨(.inl R),R⟩,.inl ⟨(.inl R),R⟩,Za⟩ (fun _=>U2 (er5))),oB [(3,.ptr 3 (n0+1) 0 0)] [(3,some (.box (n0+1) 28 (AZ e1)))] (fB R Du (.inl R) (fun _=>R) R),oB [(41,.ptr 3 (n0+1) 0 2)] [(3,some (.box (n0+1) 28 (AZ e1)))] (Zj (a:=qc e1.Cells) R CD (.inl R) R R),oD (fun _=>[(40,qc r5),(42,qc e1.Cells)]) (fun _=>[]) (fun G1 e h' n=>Zw (r:=qc r6) (caps:=[]) (bs:=[qc r5,qc e1.Cells]) R (.inl R) R ⟨.inl ⟨(.inl R),R⟩,.inl ⟨(.inl R),R⟩,Za⟩ (fun _=>Vn (er6))),oB [(32,rI r1),(33,rI r3),(43,qc r6)] [] (CF R M4 (q:=[(0,_),(1,_),(2,_)]) (by exact ⟨R,R,R,(.inl R),R,R,R,(.inl R),R,R,R,(.inl R),Za⟩) (cs:=[rI r1,rI r3,qc r6,cZ]) (by rfl)),oM (fun _=>[]) (fun _=>[]) R (fun G1 e h' n=>Zo (cs:=BB) 9 R Hl R R),Za⟩) fun G1 n1=>?_
 refine CB [2,3,4,5,7,9,32,33,34,35,36,37,38,39,40,41,42,43,44] [2,3,4,9] ?_
 refine Zi R R (Zh (ds:=[rI r1,rI r3,qc r6,cZ]) R HE iL R iL R R R R) (aZ (c4 _ (aS fun K5 c5 wK5=>(aT fun c6=>(aG [2,3,4,9] [2,3,4,9] ?_)))))
 refine aR (lF Bb Aw R R (xL Ag R (mM R (aZ (c6 _ (Ze (A7 h4 fun o1 hit1 hk1=>?_)))))))
 have J1 : ∀ (out4:AJ) (i5:NN),o1=out4→K5 ⟨[(3,.ptr 3 (n0+1) 0 0),(4,.ptr 4 (n0+2) 0 0),(9,.ptr 9 (G1 13) 0 0)],[(3,some (.box (n0+1) 28 (AZ e1))),(4,some (.box (n0+2) 25 BB)),(9,some (.box (G1 13) 25 [rI out4.Rows,rI out4.Cols,qc out4.Cells,.own 73 (i5 0)])),(73,some (.arr (i5 0) 47 4 (out4.Merges.map AD.row)))],(i5 1),99⟩:=by
  intro out4 i5 e
  have h5:=hk1 _ e
  refine c5 _ (aS fun K7 c7 wK7=>(aU (lF DH Aw R R (xL Ag R (mM R (aZ (Ze (A7 h5 fun o2 hit2 hk2=>?_))))))))
  have J2 : ∀ (out8:AJ) (i10:NN),o2=out8→K7 ⟨[(4,.ptr 4 (n0+2) 0 0),(9,.ptr 9 (G1 13) 0 0)],[(4,some (.box (n0+2) 25 BB)),(9,some (.box (G1 13) 25 [rI out8.Rows,rI out8.Cols,qc out8.Cells,.own 73 (i10 0)])),(73,some (.arr (i10 0) 47 4 (out8.Merges.map AD.row)))],(i10 1),99⟩:=by
   intro out8 i10 e
   have h6:=hk2 _ e
   refine c7 _ (aT fun c9=>(aR (lF Bb Aw R R (Zc h6 fun w1 ew1 h7=>?_))))
   refine EZ [73] (hc:=[(1000,some (.arr (i10 0) 47 4 (out8.Merges.map AD.row)))]) (bs:=[.own 1000 (i10 0),.fn 54 []]) (caps:=[]) R R R R iL R ⟨.inl ⟨iL,R⟩,.inl ⟨iL,R⟩,Za⟩ ⟨R,R,R,Za⟩ (by decide) ((cG (row:=AD.row) U3 (by decide) (fun _=>R) ⟨_,Tryz.func54,R,R⟩ (fun _ _ _ h=>cE h)) ew1) ?_
   intro i11 n2
   refine CB [4,9,95,96,97] [4,9,73] ?_
   refine aZ (c9 _ (aU (xC Cf R (Zi R R (Zh (ds:=[rI out8.Rows,rI out8.Cols,qc out8.Cells,.own 73 (i10 0)]) R HE iL R iL R R R R) (aZ ?_)))))
   exact Zk (Cp (P:=Tryz.prog) (fun (r:AJ)=>.agg (AP r)) h7 iL (.a Cf R R R (.agg (by exact ⟨.closed _ R,.closed _ R,.closed _ R,.own R,Za⟩))))
  refine B0 (fun (x5:Int) (out6:AJ) i8=>⟨[(4,.ptr 4 (n0+2) 0 0),(9,.ptr 9 (G1 13) 0 0),(77,qa e1.Merge),(78,rL e1.Merge),(79,rI x5)],[(4,some (.box (n0+2) 25 BB)),(9,some (.box (G1 13) 25 [rI out6.Rows,rI out6.Cols,qc out6.Cells,.own 73 (i8 0)])),(73,some (.arr (i8 0) 47 4 (out6.Merges.map AD.row)))],(i8 1),99⟩) (AH [(i5 0),(i5 1)]) hit2 wk ?_
  intro x5 out6 i8 v1 hv1 hx2
  have h8:Ey e1 x5 out6=some v1:=hv1; unfold Ey at h8
  refine aU (xS R (aZ (aT fun c12=>(cI R h8 (fun h9=>?_) fun h9=>?_))))
  ·refine Zd (c12 _ (aT fun c13=>(Ze (aU (Zc h9 fun x7 ex7 h10=>(xI Ag R ex7 (xB ((AL x7)) Au R (sS R (Zo (cs:=Ca) 15 R DZ R R) (Zi R R (Zh (ds:=(AL x7)) R DE iL R iL R R R R) (aZ (aT fun c15=>(aR (lF Bb Aw R R ?_)))))))))))))
   refine sQ R (TW (bs:=[.ptr 15 (i8 1) 0 0]) R (by exact ⟨iL,Za⟩)) ?_
   refine Zc h10 fun w2 ew2 h11=>?_
   refine EZ [73,15] (hc:=[(1000,some (.arr (i8 0) 47 4 (out6.Merges.map AD.row))),(1001,some (.box (i8 1) 47 (AL x7)))]) (bs:=[.own 1000 (i8 0),.fn 51 [.ptr 1001 (i8 1) 0 0]]) (caps:=[]) R R R R iL R ⟨.inl ⟨iL,R⟩,.inl ⟨iL,R⟩,Za⟩ ⟨R,R,R,R,R,R,Za⟩ (by decide) (Vf ew2) ?_
   intro i12 n3
   refine CB [4,9,15,77,78,79,80,81,82,83,85,86] [4,9,15,73] ?_
   refine sQ R (fB R Bb iL fR R) (Zi R R (Zh (ds:=[rI out6.Rows,rI out6.Cols,qc out6.Cells,.own 73 (i12 0)]) R HJ iL R iL R R R R) (aZ (c15 _ (aR (lF Bb Aw R R (xC Au R (sS R (Bp 91 R Ag (f:=AD.row) (l:=([x7]:List AD)) ⟨R,⟨_,iL,R⟩,Za⟩ R (fun _=>R) R) (Zc h11 fun l1 el1 h12=>(sS R (Bv R Ag iL R (.inr (.inl ⟨_,_,iL,R⟩)) el1) (sQ R (fB R Bb iL fR R) (Zi R R (Zh (ds:=[rI out6.Rows,rI out6.Cols,qc out6.Cells,.own 73 (n3+1)]) R HJ iL R iL R R R R) (aZ (c13 _ (aG [4,9,77,78,79] [4,9,73] ?_))))))))))))))
   exact aR (Zc h12 fun x8 ex8 h13=>(xA R ex8 (mM R (Zg (Zx h13 (AH [(n3+1),(n3+2)]) wk)))))
  exact Zm (wK7 _ _ wk (J2 _ (AH [(i8 0),(i8 1)]) (xH hx2 h9)))
 refine B0 (fun (x2:Int) (out2:AJ) i3=>⟨[(3,.ptr 3 (n0+1) 0 0),(4,.ptr 4 (n0+2) 0 0),(9,.ptr 9 (G1 13) 0 0),(46,qa g1.Merges),(47,rL g1.Merges),(48,rI x2)],[(3,some (.box (n0+1) 28 (AZ e1))),(4,some (.box (n0+2) 25 BB)),(9,some (.box (G1 13) 25 [rI out2.Rows,rI out2.Cols,qc out2.Cells,.own 73 (i3 0)])),(73,some (.arr (i3 0) 47 4 (out2.Merges.map AD.row)))],(i3 1),99⟩) (AH [n1,(n1+1)]) hit1 (Zn (Zn (Gq 9 3 73 47 4 (by decide) R R (by decide)) (by exact Ae.cv (e':=[(2,.ptr 2 n0 0 0),(3,.ptr 3 (n0+1) 0 0),(4,.ptr 4 (n0+2) 0 0),(9,.ptr 9 (G1 13) 0 0),(45,.ptr 2 n0 0 3),(46,qa g1.Merges),(47,rL g1.Merges),(48,rI 0)]) (h':=[(2,some (.box n0 25 (AP g1))),(3,some (.box (n0+1) 28 (AZ e1))),(4,some (.box (n0+2) 25 BB)),(9,some (.box (G1 13) 25 [rI r1,rI r3,qc r6,.own 73 n1])),(73,some (.arr n1 47 4 (([]:List AD).map AD.row)))]) ⟨jL,jL,jL,jL,jL,jL,jL,jL,Za⟩ ⟨.inl R,.inl R,.inl R,.inl R,.inl R,Za⟩ nL)) wk) ?_
 intro x2 out2 i3 v2 hv2 hx1
 have h14:Eb g1 e1 x2 out2=some v2:=hv2; unfold Eb at h14
 refine aU (xS R (aZ (aT fun c17=>(cI R h14 (fun h15=>?_) fun h15=>?_))))
 ·refine Zd (c17 _ (aS fun K18 c18 wK18=>(Ze (A7 h15 fun p1 hp1 hk3=>?_))))
  have J3 : ∀ (out9:AJ) (i13:NN),p1=out9→K18 ⟨[(3,.ptr 3 (n0+1) 0 0),(4,.ptr 4 (n0+2) 0 0),(9,.ptr 9 (G1 13) 0 0),(46,qa g1.Merges),(47,rL g1.Merges),(48,rI x2)],[(3,some (.box (n0+1) 28 (AZ e1))),(4,some (.box (n0+2) 25 BB)),(9,some (.box (G1 13) 25 [rI out9.Rows,rI out9.Cols,qc out9.Cells,.own 73 (i13 0)])),(73,some (.arr (i13 0) 47 4 (out9.Merges.map AD.row)))],(i13 1),99⟩:=by
   intro out9 i13 e
   have h16:=hk3 _ e
   exact c18 _ (aR (Zc h16 fun x9 ex9 h17=>(xA R ex9 (mM R (Zg (Zx h17 (AH [(i13 0),(i13 1)]) wk))))))
  refine aU (Zc hp1 fun x10 ex10 h18=>(xI Ag R ex10 (xB ((AL x10)) Au R (sS R (Zo (cs:=Ca) 11 R DZ R R) (Zi R R (Zh (ds:=(AL x10)) R DE iL R iL R R R R) (aZ (aU (xC Au R (lF D2 Bd R R (lF Dm Bd R R (Bw h18 fun r7 r8 er7 h19=>(sS R (Zw (r:=.tup [.agg (AL r7),rB r8]) (caps:=[]) (bs:=[.agg (AL x10),qb e1.Rows,qb e1.Cols]) R iL R ⟨.inl ⟨iL,R⟩,.inl ⟨iL,R⟩,.inl ⟨iL,R⟩,Za⟩ (fun _=>WT (er7))) (mM R (xX R (xX R (sS R (Zo (cs:=Ca) 12 R DZ R R) (Zi R R (Zh (ds:=(AL r7)) R DE iL R iL R R R R) (mA R (aZ (aT fun c21=>(aG [3,4,9,12,13,46,47,48] [3,4,9,12,73] ?_)))))))))))))))))))))
  refine aR (mM R (mM R (vF Dr Aw R R (vQ R (Zq R Au iL R R) (Zc h19 fun r9 er9 h20=>vL (fun hg=>PN (Ai er9 hg)) R (vQ R (BI R (iR R)) (xN R (aZ (c21 _ (cI R h20 (fun h21=>?_) fun h21=>?_))))))))))
  ·exact aR (lF Bb Aw R R (xC Au R (sS R (Bp 72 R Ag (f:=AD.row) (l:=([r7]:List AD)) ⟨R,⟨_,iL,R⟩,Za⟩ R (fun _=>R) R) (Zc h21 fun l2 el2 h22=>(sS R (Bv R Ag iL R (.inr (.inl ⟨_,_,iL,R⟩)) el2) (sQ R (fB R Bb iL fR R) (Zi R R (Zh (ds:=[rI out2.Rows,rI out2.Cols,qc out2.Cells,.own 73 ((i3 1)+3)]) R HJ iL R iL R R R R) (Zg (wK18 _ _ wk (J3 _ (AH [((i3 1)+3),((i3 1)+4)]) (Zb h22).symm))))))))))
  exact Zd (wK18 _ _ wk (J3 _ (AH [(i3 0),((i3 1)+2)]) (Zb h21).symm))
 exact Zm (wK5 _ _ wk (J1 _ (AH [(i3 0),(i3 1)]) (xH hx1 h15)))
theorem Ut {g1 e1 r} (h:LM g1 e1=some r):Ad Tryz.prog 16 [.agg (AP g1),.agg (AZ e1)] (.tup [.agg (AP r.1),rI r.2]):=by
 unfold LM at h
 refine mF Tryz.func16 Tryz.ntmps16 R fun n0=>aU (sS R (Zu (cs:=(AP g1)) 2 R iL R R) (sS R (Zu (cs:=(AZ e1)) 3 R iL R R) (sS R (Zo (cs:=BB) 4 R Hl R R) (mA R (aZ (aT fun c2=>(aU (xC Cf R (xC DL R (M2 h fun r1 r2 r3 er1 h1=>(cL (Q2 (er1)) R (mM R (xX R (xX R (xX R (mA R (mA R (mA R (aZ (aT fun c4=>(aG [2,3,4,8] [2,3,4] ?_)))))))))))))))))))))
 refine aR (mM R (xU R (aZ (c4 _ (cI R h1 (fun h2=>?_) fun h2=>?_)))))
 ·refine aT fun c5=>(aR ?_)
  refine sQ R (CF R M4 (q:=[]) (by exact Za) (cs:=BB) (by rfl)) ?_
  refine mM R (Zi R R (Zh (ds:=BB) R HE iL R iL R R R R) (mA R (oZ c5 ?_)))
  exact Zk (Bq (P:=Tryz.prog) (fun (r:AJ × Int)=>.agg (AP r.1)) (fun (r:AJ × Int)=>rI r.2) h2 iL (.a Cf R R R (.agg (by exact ⟨.closed _ R,.closed _ R,.nil,.nil,Za⟩))) (.t (.d R)))
 exact Zd (c2 _ (aU (xC Cf R (xC DL R (Zc h2 fun r4 er4 h3=>(sS R (Zw (r:=.agg (AP r4)) (caps:=[]) (bs:=[.agg (AP g1),.agg (AZ e1)]) R iL R ⟨.inl ⟨iL,R⟩,.inl ⟨iL,R⟩,Za⟩ (fun _=>N5 (er4))) (Zi R R (Zh (ds:=(AP r4)) R HE iL R iL R R R R) (mA R (aZ (Zk (Bq (P:=Tryz.prog) (fun (r:AJ × Int)=>.agg (AP r.1)) (fun (r:AJ × Int)=>rI r.2) h3 iL (.a Cf R R R (.g (cs:=[.int .i64 r4.Rows,.int .i64 r4.Cols,.sl (r4.Cells.map AC.row),.sl (r4.Merges.map AD.row)]) R R)) (.t (.d R)))))))))))))
theorem af {r} (h:Kl=some r):Ad Tryz.prog 4 [] (rB r):=by
 unfold Kl at h
 refine mF Tryz.func4 Tryz.ntmps4 R fun n0=>aU (mA R (aZ (aT fun c2=>(aR ?_))))
 refine sQ R (CF R H9 (q:=[(0,_),(2,_)]) (by exact ⟨R,R,R,iL,R,R,R,iL,Za⟩) (cs:=LR) (by rfl)) ?_
 refine sS R (Bp 5 R Aq (f:=AC.row) (l:=([(AC.mk 1 0 [120] 0 [])]:List AC)) ⟨R,⟨_,iL,R⟩,Za⟩ R (fun _=>R) R) ?_
 refine sQ R (CF R M4 (q:=[(0,_),(1,_),(2,_)]) (by exact ⟨R,R,R,iL,R,R,R,iL,R,R,R,iL,Za⟩) (cs:=[rI 2,rI 1,.own 5 n0,cZ]) (by rfl)) ?_
 refine sQ R (CF R Ic (q:=[(0,_),(1,_)]) (by exact ⟨R,R,R,iL,R,R,R,iL,Za⟩) (cs:=[rI 1,rI 1]) (by rfl)) ?_
 refine sQ R (CF R Ic (q:=[(0,_),(1,_)]) (by exact ⟨R,R,R,iL,R,R,R,iL,Za⟩) (cs:=[rI 0,rI 2]) (by rfl)) ?_
 refine sS R (Bp 9 R A5 (f:=AG.row) (l:=([(AG.mk 1 1),(AG.mk 0 2)]:List AG)) ⟨R,⟨_,iL,R⟩,R,⟨_,iL,R⟩,Za⟩ R (fun _=>R) R) ?_
 refine sQ R (CF R Il (q:=[(0,_)]) (by exact ⟨R,R,R,iL,Za⟩) (cs:=[.own 9 (n0+1),cZ,cZ,cZ,cZ]) (by rfl)) ?_
 refine AR.weak (by exact Ib (e':=[(0,rB false),(4,.agg LR),(5,.r (.sl ([(AC.mk 1 0 [120] 0 [])].map AC.row))),(6,.agg [rI 2,rI 1,.r (.sl ([(AC.mk 1 0 [120] 0 [])].map AC.row)),cZ]),(7,.agg [rI 1,rI 1]),(8,.agg [rI 0,rI 2]),(9,.own 9 (n0+1)),(10,.agg [.own 9 (n0+1),cZ,cZ,cZ,cZ])]) (h':=[(9,some (.arr (n0+1) 52 2 ([(AG.mk 1 1),(AG.mk 0 2)].map AG.row)))]) 5 R ⟨jL,jL,.inl (.inr (.inr ⟨R,R⟩)),.inr ⟨_,_,R,R,⟨.inl R,.inl R,.inr (.inr ⟨R,R⟩),.inl R,Za⟩⟩,jL,jL,jL,jL,Za⟩ ⟨R,.inl R,Za⟩) ?_
 refine AR.weak (by exact Ib (e':=[(0,rB false),(4,.agg LR),(5,.r (.sl ([(AC.mk 1 0 [120] 0 [])].map AC.row))),(6,.agg [rI 2,rI 1,.r (.sl ([(AC.mk 1 0 [120] 0 [])].map AC.row)),cZ]),(7,.agg [rI 1,rI 1]),(8,.agg [rI 0,rI 2]),(9,.r (.sl ([(AG.mk 1 1),(AG.mk 0 2)].map AG.row))),(10,.agg TG)]) (h':=[]) 9 R ⟨jL,jL,jL,jL,jL,jL,.inl (.inr (.inr ⟨R,R⟩)),.inr ⟨_,_,R,R,⟨.inr (.inr ⟨R,R⟩),.inl R,.inl R,.inl R,.inl R,Za⟩⟩,Za⟩ Za) ?_
 refine AR.weak (by exact Ae.cv (e':=[(0,rB false),(4,.agg LR),(5,.r (.sl ([(AC.mk 1 0 [120] 0 [])].map AC.row))),(6,.agg OD),(7,.agg [rI 1,rI 1]),(8,.agg [rI 0,rI 2]),(9,.r (.sl ([(AG.mk 1 1),(AG.mk 0 2)].map AG.row))),(10,.agg TG)]) (h':=[]) ⟨jL,jL,jL,.inr ⟨_,_,R,R,⟨.inl R,.inl R,.inl R,.inr (.inr ⟨R,R⟩),Za⟩⟩,jL,jL,jL,jL,Za⟩ Za nL) ?_
 refine AR.weak (by exact Ae.cv (e':=[(0,rB false),(4,.agg LR),(5,.r (.sl ([(AC.mk 1 0 [120] 0 [])].map AC.row))),(6,.agg OD),(7,.agg [rI 1,rI 1]),(8,.agg [rI 0,rI 2]),(9,.r (.sl ([(AG.mk 1 1),(AG.mk 0 2)].map AG.row))),(10,.agg Pi)]) (h':=[]) ⟨jL,jL,jL,jL,jL,jL,jL,.inr ⟨_,_,R,R,⟨.inl R,.inr (.inr ⟨R,R⟩),.inr (.inr ⟨R,R⟩),.inr (.inr ⟨R,R⟩),.inr (.inr ⟨R,R⟩),Za⟩⟩,Za⟩ Za nL) ?_
 refine Bw h fun r1 r2 er1 h1=>(sS R (Zw (r:=.tup [.agg (AP r1),rI r2]) (caps:=[]) (bs:=[.agg OD,.agg Pi]) R iL R ⟨.inl ⟨iL,R⟩,.inl ⟨iL,R⟩,Za⟩ (fun _=>Ut (er1))) (mM R (xX R (xX R (sS R (Zo (cs:=BB) 1 R Hl R R) (Zi R R (Zh (ds:=(AP r1)) R HE iL R iL R R R R) (mA R (aZ (c2 _ (aT fun c3=>(aG [1,2] [1] ?_)))))))))))
 exact aR (mM R (xQ R (mM R (vF Dw AI R R (vQ R (BT R (iR R) iL) (xN R (mM R (vF Ef CD R R (vQ R (HH R Aq.slice (iR R)) (vQ R (BT R (iR R) iL) (xN R (mM R (vF Ef CD R R (Zc h1 fun x1 ex1 h2=>(vQ R (Zp R Aq.slice (iR R) iL (fun _=>R) (Ai ex1)) (vQ R (Zl R CP (iR R)) (vQ R (Bk (d:=.int .i64 x1.Row) R AI (iR R) R) (vQ R (BT R (iR R) iL) (xN R (mA R (aZ (c3 _ (Zk (yB h2 R))))))))))))))))))))))))
theorem RY {w1:Ar} {r:Ar} {gb1000:Nat} {ga1001:Nat} (h:Ii w1=some r):Bo Tryz.prog 59 2 [.ptr 1000 gb1000 0 0] [(1000,some (.box gb1000 68 [.own 1001 ga1001,rI w1.add,rI w1.cut])),(1001,some (.arr ga1001 52 2 (w1.out.map AG.row)))] (fun rr h'=>∃ (i:Nat→Nat),rr = .tup []∧h'=[(1000,some (.box gb1000 68 [.own 1001 (i 0),rI r.add,rI r.cut])),(1001,some (.arr (i 0) 52 2 (r.out.map AG.row)))]):=by
 unfold Ii at h
 refine Ft Tryz.func59 R R Tryz.ntmps59 (Nat.le_of_ble_eq_true R) fun n0=>aS fun K1 c1 wK1=>(aU (mM R (sQ R (Zt (ob:=.box _ _ _) R iL fR R) (lF KH AI R R (sQ R (BM R iL iL) (aZ (A7 h fun p1 hp1 hk1=>?_)))))))
 have J1 : ∀ (w2:Ar) (i1:NN),p1=w2→K1 ⟨[(0,.ptr 1000 gb1000 0 0)],[(1000,some (.box gb1000 68 [.own 1001 (i1 0),rI w2.add,rI w2.cut])),(1001,some (.arr (i1 0) 52 2 (w2.out.map AG.row)))],(i1 1),46⟩:=by
  intro w2 i1 e
  have h1:=hk1 _ e
  refine c1 _ (aS fun K3 c3 wK3=>(aU (mM R (sQ R (Zt (ob:=.box _ _ _) R iL fR R) (lF Lb AI R R (sQ R (BM R iL iL) (aZ (A7 h1 fun p2 hp2 hk2=>?_))))))))
  have J2 : ∀ (w3:Ar) (i2:NN),p2=w3→K3 ⟨[(0,.ptr 1000 gb1000 0 0)],[(1000,some (.box gb1000 68 [.own 1001 (i2 0),rI w3.add,rI w3.cut])),(1001,some (.arr (i2 0) 52 2 (w3.out.map AG.row)))],(i2 1),46⟩:=by
   intro w3 i2 e
   have h2:=hk2 _ e
   refine c3 _ (aR (mM R (mM R (sQ R (Zt (ob:=.box _ _ _) R iL fR R) (sQ R (fB R KH iL fR R) (Zi R R (Zh (ds:=[.own 1001 (i2 0),rI 0,rI w3.cut]) R EL iL R iL R R R R) (sQ R (Zt (ob:=.box _ _ _) R iL fR R) (sQ R (fB R Lb iL fR R) (Zi R R (Zh (ds:=[.own 1001 (i2 0),rI 0,rI 0]) R EL iL R iL R R R R) (Zg ?_))))))))))
   exact CW.mk (s':=⟨[],[(1000,some (.box gb1000 68 [.own 1001 (i2 0),rI 0,rI 0])),(1001,some (.arr (i2 0) 52 2 (w3.out.map AG.row)))],(i2 1),46⟩) wk (DC (fun (r:Ar) rr h'=>∃ (i:Nat→Nat),rr = .tup []∧h'=[(1000,some (.box gb1000 68 [.own 1001 (i 0),rI r.add,rI r.cut])),(1001,some (.arr (i 0) 52 2 (r.out.map AG.row)))]) h2 (by exact ⟨.tup [],[(1000,some (.box gb1000 68 [.own 1001 (i2 0),rI 0,rI 0])),(1001,some (.arr (i2 0) 52 2 (w3.out.map AG.row)))],⟨_,R,Za⟩,⟨.inr R,.inr R,Za⟩,R,R,AH [(i2 0)],R,R⟩))
  refine aC R (fun hc1=>?_) (fun hc1=>?_)
  ·have h3:=CE hc1 hp2
   refine Jq [0] [1,2,3,4,5,6,7,8,9] [10] 11 BG (by kernel_rfl) R R R R R ?_
   refine Dg.move R R R R (Dg.nil (Zr R R R (Zf R iL) (Zr R R R (Zt (ob:=.box _ _ _) R iL fR R) (Zr R R R (fB R FB iL fR R) (Zr R R R (Zj (a:=.own 1001 (i1 0)) R Bd iL R R) (Zr R R R (Zf R iL) (Zr R R R (Zt (ob:=.box _ _ _) R iL fR R) (Zr R R R (fB R Lb iL fR R) (Zr R R R (Zj (a:=rI w2.cut) R AI iL R R) ?_)))))))))
   refine Zr R R R (CF R Ic (q:=[(0,_),(1,_)]) (by exact ⟨R,R,R,iL,R,R,R,iL,Za⟩) (cs:=[rI 2,rI w2.cut]) (by rfl)) ?_
   exact AF.nil (AA.step R R R (Kc 36 R A5 (f:=AG.row) (l:=([(AG.mk 2 w2.cut)]:List AG)) ⟨R,⟨_,iL,R⟩,Za⟩ R (fun _=>R) R) (AA.nil (Zc h3 fun l1 el1 h4=>(AR.step R R R (Bv R A5 iL R (.inr (.inl ⟨_,_,iL,R⟩)) el1) (sQ R (Zt (ob:=.box _ _ _) R iL fR R) (sQ R (fB R FB iL fR R) (Zi R R (Zh (ds:=[.own 1001 ((i1 1)+1),rI w2.add,rI w2.cut]) R Lw iL R iL R R R R) (Zg (wK3 _ _ wk (J2 _ (AH [((i1 1)+1),((i1 1)+2)]) (Zb h4).symm))))))))))
  ·have h3:=CA hc1 hp2
   exact Zd (wK3 _ _ wk (J2 _ (AH [(i1 0),(i1 1)]) (Zb h3).symm))
 refine aC R (fun hc2=>?_) (fun hc2=>?_)
 ·have h5:=CE hc2 hp1
  refine Jq [0] [1,2,3,4,5,6,7,8,9] [10] 11 BG (by kernel_rfl) R R R R R ?_
  refine Dg.move R R R R (Dg.nil (Zr R R R (Zf R iL) (Zr R R R (Zt (ob:=.box _ _ _) R iL fR R) (Zr R R R (fB R FB iL fR R) (Zr R R R (Zj (a:=.own 1001 ga1001) R Bd iL R R) (Zr R R R (Zf R iL) (Zr R R R (Zt (ob:=.box _ _ _) R iL fR R) (Zr R R R (fB R KH iL fR R) (Zr R R R (Zj (a:=rI w1.add) R AI iL R R) ?_)))))))))
  refine Zr R R R (CF R Ic (q:=[(0,_),(1,_)]) (by exact ⟨R,R,R,iL,R,R,R,iL,Za⟩) (cs:=[rI 1,rI w1.add]) (by rfl)) ?_
  exact AF.nil (AA.step R R R (Kc 17 R A5 (f:=AG.row) (l:=([(AG.mk 1 w1.add)]:List AG)) ⟨R,⟨_,iL,R⟩,Za⟩ R (fun _=>R) R) (AA.nil (Zc h5 fun l2 el2 h6=>(AR.step R R R (Bv R A5 iL R (.inr (.inl ⟨_,_,iL,R⟩)) el2) (sQ R (Zt (ob:=.box _ _ _) R iL fR R) (sQ R (fB R FB iL fR R) (Zi R R (Zh (ds:=[.own 1001 (n0+1),rI w1.add,rI w1.cut]) R Lw iL R iL R R R R) (Zg (wK1 _ _ wk (J1 _ (AH [(n0+1),(n0+2)]) (Zb h6).symm))))))))))
 ·have h5:=CA hc2 hp1
  exact Zd (wK1 _ _ wk (J1 _ (AH [ga1001,n0]) (Zb h5).symm))
theorem Z7 {w1:Ar} {kind1:Int} {n1:Int} {r:Ar} {gb1000:Nat} {ga1001:Nat} (h:JC w1 kind1 n1=some r):Bo Tryz.prog 31 2 [.ptr 1000 gb1000 0 0,rI kind1,rI n1] [(1000,some (.box gb1000 68 [.own 1001 ga1001,rI w1.add,rI w1.cut])),(1001,some (.arr ga1001 52 2 (w1.out.map AG.row)))] (fun rr h'=>∃ (i:Nat→Nat),rr = .tup []∧h'=[(1000,some (.box gb1000 68 [.own 1001 (i 0),rI r.add,rI r.cut])),(1001,some (.arr (i 0) 52 2 (r.out.map AG.row)))]):=by
 unfold JC at h
 refine Ft Tryz.func31 R R Tryz.ntmps31 (Nat.le_of_ble_eq_true R) fun n0=>Ze (aU (mM R (xQ R (mA R (aZ (cI R h (fun h1=>?_) fun h1=>?_))))))
 ·refine Zd ?_
  exact CW.mk (s':=⟨[],[(1000,some (.box gb1000 68 [.own 1001 ga1001,rI w1.add,rI w1.cut])),(1001,some (.arr ga1001 52 2 (w1.out.map AG.row)))],n0,76⟩) wk (DC (fun (r:Ar) rr h'=>∃ (i:Nat→Nat),rr = .tup []∧h'=[(1000,some (.box gb1000 68 [.own 1001 (i 0),rI r.add,rI r.cut])),(1001,some (.arr (i 0) 52 2 (r.out.map AG.row)))]) h1 (by exact ⟨.tup [],[(1000,some (.box gb1000 68 [.own 1001 ga1001,rI w1.add,rI w1.cut])),(1001,some (.arr ga1001 52 2 (w1.out.map AG.row)))],⟨_,R,Za⟩,⟨.inr R,.inr R,Za⟩,R,R,AH [ga1001],R,R⟩))
 refine aU (mM R (xQ R (mA R (aZ (cI R h1 (fun h2=>?_) fun h2=>?_)))))
 ·refine aR (mM R (sQ R (Zt (ob:=.box _ _ _) R iL fR R) (lF KH AI R R (mM R (Zc h2 fun x1 ex1 h3=>(xA R ex1 (sQ R (Zt (ob:=.box _ _ _) R iL fR R) (sQ R (fB R KH iL fR R) (Zi R R (Zh (ds:=[.own 1001 ga1001,rI x1,rI w1.cut]) R EL iL R iL R R R R) (Zg ?_))))))))))
  exact CW.mk (s':=⟨[],[(1000,some (.box gb1000 68 [.own 1001 ga1001,rI x1,rI w1.cut])),(1001,some (.arr ga1001 52 2 (w1.out.map AG.row)))],n0,76⟩) wk (DC (fun (r:Ar) rr h'=>∃ (i:Nat→Nat),rr = .tup []∧h'=[(1000,some (.box gb1000 68 [.own 1001 (i 0),rI r.add,rI r.cut])),(1001,some (.arr (i 0) 52 2 (r.out.map AG.row)))]) h3 (by exact ⟨.tup [],[(1000,some (.box gb1000 68 [.own 1001 ga1001,rI x1,rI w1.cut])),(1001,some (.arr ga1001 52 2 (w1.out.map AG.row)))],⟨_,R,Za⟩,⟨.inr R,.inr R,Za⟩,R,R,AH [ga1001],R,R⟩))
 refine aU (mM R (xQ R (mA R (aZ (cI R h2 (fun h4=>?_) fun h4=>?_)))))
 ·refine aG [0,2] [1000,1001] ?_
  refine aR (mM R (sQ R (Zt (ob:=.box _ _ _) R iL fR R) (lF Lb AI R R (mM R (Zc h4 fun x2 ex2 h5=>(xA R ex2 (sQ R (Zt (ob:=.box _ _ _) R iL fR R) (sQ R (fB R Lb iL fR R) (Zi R R (Zh (ds:=[.own 1001 ga1001,rI w1.add,rI x2]) R EL iL R iL R R R R) (Zg ?_))))))))))
  exact CW.mk (s':=⟨[],[(1000,some (.box gb1000 68 [.own 1001 ga1001,rI w1.add,rI x2])),(1001,some (.arr ga1001 52 2 (w1.out.map AG.row)))],n0,76⟩) wk (DC (fun (r:Ar) rr h'=>∃ (i:Nat→Nat),rr = .tup []∧h'=[(1000,some (.box gb1000 68 [.own 1001 (i 0),rI r.add,rI r.cut])),(1001,some (.arr (i 0) 52 2 (r.out.map AG.row)))]) h5 (by exact ⟨.tup [],[(1000,some (.box gb1000 68 [.own 1001 ga1001,rI w1.add,rI x2])),(1001,some (.arr ga1001 52 2 (w1.out.map AG.row)))],⟨_,R,Za⟩,⟨.inr R,.inr R,Za⟩,R,R,AH [ga1001],R,R⟩))
 refine aT fun c4=>(aG [0,2] [1000,1001] ?_)
 refine aR (mM R (Zc h4 fun w2 ew2 h6=>?_))
 refine EZ [1000,1001] (hc:=[(1000,some (.box gb1000 68 [.own 1001 ga1001,rI w1.add,rI w1.cut])),(1001,some (.arr ga1001 52 2 (w1.out.map AG.row)))]) (bs:=[.ptr 1000 gb1000 0 0]) (caps:=[]) R R R R iL R ⟨.inl ⟨iL,R⟩,Za⟩ ⟨R,R,R,R,R,R,Za⟩ (by decide) (RY ew2) ?_
 intro i1 n2
 refine CB [0,2,7,8] [1000,1001] ?_
 refine aZ (c4 _ (aT fun c5=>(aU (mM R (sQ R (Zt (ob:=.box _ _ _) R iL fR R) (lF FB Bd R R (sQ R (L7 R A5.slice iL R) (Zc h6 fun k1 ek1 h7=>(sQ R (Ba R iL iL (fun _=>ek1)) (mA R (aZ (aU (mM R (sQ R (B4 R iL iL) (mM R (vM R (vQ R (Zt (ob:=.box _ _ _) R (iR R) fR R) (vQ R (fB R FB (iR R) fR R) (vQ R (Zj (a:=.own 1001 (i1 0)) R Bd (iR R) R R) (vM R (Zc h7 fun x3 ex3 h8=>(vQ R (Eg R A5.slice (iR R) R (iR R) (Ai ex3)) (vQ R (HN (ob:=.arr _ _ _ _) R B8 (iR R) fR R) (vQ R (KX (d:=.int .i64 x3.Kind) R AI (iR R) fR (Ai ex3) R) (vQ R (BT R (iR R) iL) (xN R (aZ (cI R h8 (fun h9=>?_) fun h9=>?_))))))))))))))))))))))))))))
 ·refine aT fun c8=>(aG [0,2,6] [1000,1001] ?_)
  refine aR (mM R (sQ R (Zt (ob:=.box _ _ _) R iL fR R) (lF FB Bd R R (mM R (Zc h9 fun x4 ex4 h10=>(sQ R (Eg R A5.slice iL R iL (fun _=>ex4)) (sQ R (HN (ob:=.arr _ _ _ _) R CI iL fR R) (sQ R (KX (d:=.int .i64 x4.N) R AI iL fR (fun _=>ex4) R) (mM R (Zc h10 fun x5 ex5 h11=>(xA R ex5 (sQ R (Eg R A5.slice iL R iL (fun _=>ex4)) (sQ R (HN (ob:=.arr _ _ _ _) R CI iL fR R) (Zi R R (V1 (v:=(AG.mk x4.Kind x5)) R EL iL R ex4 iL R R R R) (oZ c8 ?_)))))))))))))))
  exact Zk (CW.mk (s':=⟨[],[(1000,some (.box gb1000 68 [.own 1001 (i1 0),rI w2.add,rI w2.cut])),(1001,some (.arr (i1 0) 52 2 ((w2.out.set k1.toNat (AG.mk x4.Kind x5)).map AG.row)))],n2,76⟩) wk (DC (fun (r:Ar) rr h'=>∃ (i:Nat→Nat),rr = .tup []∧h'=[(1000,some (.box gb1000 68 [.own 1001 (i 0),rI r.add,rI r.cut])),(1001,some (.arr (i 0) 52 2 (r.out.map AG.row)))]) h11 (by exact ⟨.tup [],[(1000,some (.box gb1000 68 [.own 1001 (i1 0),rI w2.add,rI w2.cut])),(1001,some (.arr (i1 0) 52 2 ((w2.out.set k1.toNat (AG.mk x4.Kind x5)).map AG.row)))],⟨_,R,Za⟩,⟨.inr R,.inr R,Za⟩,R,R,AH [(i1 0)],R,R⟩)))
 refine Zd (c5 _ (aG [0,2] [1000,1001] ?_))
 refine aR (mM R (mM R (sQ R (Zt (ob:=.box _ _ _) R iL fR R) (lF FB Bd R R (mM R ?_)))))
 refine sQ R (CF R Ic (q:=[(0,_),(1,_)]) (by exact ⟨R,R,R,iL,R,R,R,iL,Za⟩) (cs:=[rI 0,rI n1]) (by rfl)) ?_
 refine sS R (Bp 47 R A5 (f:=AG.row) (l:=([(AG.mk 0 n1)]:List AG)) ⟨R,⟨_,iL,R⟩,Za⟩ R (fun _=>R) R) (Zc h9 fun l1 el1 h12=>(sS R (Bv R A5 iL R (.inr (.inl ⟨_,_,iL,R⟩)) el1) (sQ R (Zt (ob:=.box _ _ _) R iL fR R) (sQ R (fB R FB iL fR R) (Zi R R (Zh (ds:=[.own 1001 (n2+1),rI w2.add,rI w2.cut]) R Lw iL R iL R R R R) (Zg ?_))))))
 exact CW.mk (s':=⟨[],[(1000,some (.box gb1000 68 [.own 1001 (n2+1),rI w2.add,rI w2.cut])),(1001,some (.arr (n2+1) 52 2 (l1.map AG.row)))],(n2+2),76⟩) wk (DC (fun (r:Ar) rr h'=>∃ (i:Nat→Nat),rr = .tup []∧h'=[(1000,some (.box gb1000 68 [.own 1001 (i 0),rI r.add,rI r.cut])),(1001,some (.arr (i 0) 52 2 (r.out.map AG.row)))]) h12 (by exact ⟨.tup [],[(1000,some (.box gb1000 68 [.own 1001 (n2+1),rI w2.add,rI w2.cut])),(1001,some (.arr (n2+1) 52 2 (l1.map AG.row)))],⟨_,R,Za⟩,⟨.inr R,.inr R,Za⟩,R,R,AH [(n2+1)],R,R⟩))
theorem bc {w1:Ar} {r:(List AG) × Int × Ar} {gb1000:Nat} {ga1001:Nat} (h:LN w1=some r):Bo Tryz.prog 32 2 [.ptr 1000 gb1000 0 0] [(1000,some (.box gb1000 68 [.own 1001 ga1001,rI w1.add,rI w1.cut])),(1001,some (.arr ga1001 52 2 (w1.out.map AG.row)))] (fun rr h'=>∃ (i:Nat→Nat),rr = .tup [qb r.1,rI r.2.1]∧h'=[(1000,some (.box gb1000 68 [qb r.2.2.out,rI r.2.2.add,rI r.2.2.cut]))]):=by
 unfold LN at h
 refine Ft Tryz.func32 R R Tryz.ntmps32 (Nat.le_of_ble_eq_true R) fun n0=>aU (mA R (mA R (aZ (aT fun c2=>(aR (mM R (Zc h fun w2 ew2 h1=>?_)))))))
 refine EZ [1000,1001] (hc:=[(1000,some (.box gb1000 68 [.own 1001 ga1001,rI w1.add,rI w1.cut])),(1001,some (.arr ga1001 52 2 (w1.out.map AG.row)))]) (bs:=[.ptr 1000 gb1000 0 0]) (caps:=[]) R R R R iL R ⟨.inl ⟨iL,R⟩,Za⟩ ⟨R,R,R,R,R,R,Za⟩ (by decide) (RY ew2) ?_
 intro i1 n1
 refine CB [0,2,3,4,5] [1000,1001] ?_
 refine aZ (c2 _ (aT fun c3=>(aU (mM R (sQ R (Zt (ob:=.box _ _ _) R iL fR R) (lF FB Bd R R (Zc h1 fun r1 er1 h2=>(cL (La (er1)) R (xU R (aZ (cI R h2 (fun h3=>?_) fun h3=>?_)))))))))))
 ·refine aT fun c5=>(aG [] [1000,1001] ?_)
  refine aR (mA R (mA R (oZ c5 ?_)))
  exact Zk (CW.mk (s':=⟨[(2,.r (.sl [])),(3,rI 3)],[(1000,some (.box gb1000 68 [qb w2.out,rI w2.add,rI w2.cut]))],n1,16⟩) (Zn (by exact Ib (e':=[(2,cZ),(3,rI 3)]) (h':=[(1000,some (.box gb1000 68 [qb w2.out,rI w2.add,rI w2.cut]))]) 1001 R ⟨jL,jL,Za⟩ ⟨R,.inr (.inr (.inl ⟨_,_,_,_,R,R,⟨.inr (.inr ⟨R,R⟩),.inl R,.inl R,Za⟩⟩)),Za⟩) (by exact Ae.cv ⟨.inl (.inr (.inr ⟨R,R⟩)),jL,Za⟩ ⟨.inl R,Za⟩ nL)) (DC (fun (r:(List AG) × Int × Ar) rr h'=>∃ (i:Nat→Nat),rr = .tup [qb r.1,rI r.2.1]∧h'=[(1000,some (.box gb1000 68 [qb r.2.2.out,rI r.2.2.add,rI r.2.2.cut]))]) h3 (by exact ⟨.tup [.r (.sl []),rI 3],[(1000,some (.box gb1000 68 [qb w2.out,rI w2.add,rI w2.cut]))],⟨_,R,⟨R,R,Za⟩⟩,⟨.inr R,Za⟩,R,R,AH [],R,R⟩)))
 refine Zd (c3 _ (aT fun c6=>(aG [0] [1000,1001] ?_)))
 refine aR (mM R (sQ R (Zt (ob:=.box _ _ _) R iL fR R) (lF FB Bd R R (mA R (mA R (oZ c6 ?_))))))
 exact Zk (CW.mk (s':=⟨[(2,qb w2.out),(3,rI 0)],[(1000,some (.box gb1000 68 [qb w2.out,rI w2.add,rI w2.cut]))],n1,16⟩) (Zn (by exact Ib (e':=[(0,.ptr 1000 gb1000 0 0),(2,qb w2.out),(3,rI 0),(12,.ptr 1000 gb1000 0 0),(13,.ptr 1000 gb1000 0 0),(14,.ptr 1000 gb1000 0 0),(15,qb w2.out)]) (h':=[(1000,some (.box gb1000 68 [qb w2.out,rI w2.add,rI w2.cut]))]) 1001 R ⟨jL,.inl (.inr (.inr ⟨R,R⟩)),jL,jL,jL,jL,.inl (.inr (.inr ⟨R,R⟩)),Za⟩ ⟨R,.inr (.inr (.inl ⟨_,_,_,_,R,R,⟨.inr (.inr ⟨R,R⟩),.inl R,.inl R,Za⟩⟩)),Za⟩) wk) (DC (fun (r:(List AG) × Int × Ar) rr h'=>∃ (i:Nat→Nat),rr = .tup [qb r.1,rI r.2.1]∧h'=[(1000,some (.box gb1000 68 [qb r.2.2.out,rI r.2.2.add,rI r.2.2.cut]))]) h3 (by exact ⟨.tup [qb w2.out,rI 0],[(1000,some (.box gb1000 68 [qb w2.out,rI w2.add,rI w2.cut]))],⟨_,R,⟨R,R,Za⟩⟩,⟨.inr R,Za⟩,R,R,AH [],R,R⟩)))
theorem NT {a1 r} (h:Gi a1=some r):Ad Tryz.prog 11 [qb a1] (.tup [qb r.1,rI r.2]):=by
 unfold Gi at h
 refine mF Tryz.func11 Tryz.ntmps11 R fun n0=>aU (mA R (mA R (aZ (aT fun c2=>(aU (mM R (Zc h fun e1 ee1 h1=>(cL (La (ee1)) R (mA R (aZ (aU (mM R (xU R (aZ (cI R h1 (fun h2=>?_) fun h2=>?_)))))))))))))))
 ·exact aU (mM R (mA R (mA R (aZ (Zk (Bq (P:=Tryz.prog) (fun (r:(List AG) × Int)=>qb r.1) (fun (r:(List AG) × Int)=>rI r.2) h2 iL (.t (.one (.nil))) (.t (.d R))))))))
 refine Zd (c2 _ (aU (sS R (Zo (cs:=[cZ,rI 0,rI 0]) 5 R YP R R) (aZ (aS fun K7 c7 wK7=>(aU (mM R (xL A5 R (mM R (aZ (Ze (A7 h2 fun o1 hit1 hk1=>?_))))))))))))
 have J1 : ∀ (w4:Ar) (i5:NN),o1=w4→K7 ⟨[(5,.ptr 5 n0 0 0)],[(5,some (.box n0 68 [.own 3050 (i5 0),rI w4.add,rI w4.cut])),(3050,some (.arr (i5 0) 52 2 (w4.out.map AG.row)))],(i5 1),31⟩:=by
  intro w4 i5 e
  have h3:=hk1 _ e
  refine c7 _ (aT fun c9=>(aR (M2 h3 fun r1 r2 w5 er1 h4=>?_)))
  refine EZ [5,3050] (hc:=[(1000,some (.box n0 68 [.own 1001 (i5 0),rI w4.add,rI w4.cut])),(1001,some (.arr (i5 0) 52 2 (w4.out.map AG.row)))]) (bs:=[.ptr 1000 n0 0 0]) (caps:=[]) R R R R iL R ⟨.inl ⟨iL,R⟩,Za⟩ ⟨R,R,R,R,R,R,Za⟩ (by decide) (bc er1) ?_
  intro i6 n1
  refine CB [5,28] [5] ?_
  exact xX R (xX R (mA R (mA R (aZ (c9 _ (Zk (Bq (P:=Tryz.prog) (fun (r:(List AG) × Int)=>qb r.1) (fun (r:(List AG) × Int)=>rI r.2) h4 iL (.t (.d R)) (.t (.d R)))))))))
 refine B0 (fun (x2:Int) (w2:Ar) i3=>⟨[(5,.ptr 5 n0 0 0),(13,qb a1),(14,rL a1),(15,rI x2)],[(5,some (.box n0 68 [.own 3050 (i3 0),rI w2.add,rI w2.cut])),(3050,some (.arr (i3 0) 52 2 (w2.out.map AG.row)))],(i3 1),31⟩) (AH [(n0+1),(n0+2)]) hit1 (Zn (Zn (Gq 5 0 3050 52 2 (by decide) R R (by decide)) (by exact Ae.cv (e':=[(0,qb a1),(2,cZ),(3,rI 0),(4,rI e1),(5,.ptr 5 n0 0 0),(8,qb a1),(9,rI e1),(10,rI e1),(11,rB ((!decide (e1=0)))),(13,qb a1),(14,rL a1),(15,rI 0)]) (h':=[(5,some (.box n0 68 [.own 3050 (n0+1),rI 0,rI 0])),(3050,some (.arr (n0+1) 52 2 (([]:List AG).map AG.row)))]) ⟨jL,jL,jL,jL,jL,jL,jL,jL,jL,jL,jL,jL,Za⟩ ⟨.inl R,.inl R,Za⟩ nL)) wk) ?_
 intro x2 w2 i3 v1 hv1 hx1
 have h5:GO a1 x2 w2=some v1:=hv1; unfold GO at h5
 refine aU (xS R (aZ (aT fun c11=>(cI R h5 (fun h6=>?_) fun h6=>?_))))
 ·refine Zd (c11 _ (aT fun c12=>(Ze (aU (Zc h6 fun x4 ex4 h7=>(xI A5 R ex4 (xB ([rI x4.Kind,rI x4.N]) IO R (sS R (Zo (cs:=[rI 0,rI 0]) 7 R KW R R) (Zi R R (Zh (ds:=[rI x4.Kind,rI x4.N]) R LV iL R iL R R R R) (aZ (Zc h7 fun x5 ex5 h8=>?_)))))))))))
  refine MG 7 [⟨some 19,(fun G1=>.own 19 (G1 0)),some (19,(fun G1=>some (.arr (G1 0) 3 1 ([0,2,1].map (AU .i64))))),[0]⟩,pO 20 (.ptr 7 (i3 1) 0 0),pO 21 (rI x4.Kind),⟨some 22,(fun G1=>.ptr 19 (G1 0) x4.Kind.toNat 0),none,[0]⟩,pO 23 (rI x5),pO 24 (.ptr 7 (i3 1) 0 1),pO 25 (rI x4.N)] BG (by kernel_rfl) (by exact ⟨fun _ _ h=>⟨by simp only [h 0 R],fun _ _ e=>by cases e; simp only [h 0 R]⟩,fun _ _ h=>⟨R,fun _ _ e=>by cases e⟩,fun _ _ h=>⟨R,fun _ _ e=>by cases e⟩,fun _ _ h=>⟨by simp only [h 0 R],fun _ _ e=>by cases e⟩,fun _ _ h=>⟨R,fun _ _ e=>by cases e⟩,fun _ _ h=>⟨R,fun _ _ e=>by cases e⟩,fun _ _ h=>⟨R,fun _ _ e=>by cases e⟩,Za⟩) R (by exact ⟨oM (fun _=>[]) (fun _=>[]) R (fun G1 e h' n=>Bp 19 R BS (f:=(AU .i64)) (l:=([0,2,1]:List Int)) ⟨R,⟨_,(.inl R),R⟩,R,⟨_,(.inl R),R⟩,R,⟨_,(.inl R),R⟩,Za⟩ R (fun _=>R) R),oB [(7,.ptr 7 (i3 1) 0 0)] [(7,some (.box (i3 1) 52 [rI x4.Kind,rI x4.N]))] (fB R B8 (.inl R) (fun _=>R) R),oB [(20,.ptr 7 (i3 1) 0 0)] [(7,some (.box (i3 1) 52 [rI x4.Kind,rI x4.N]))] (Zj (a:=rI x4.Kind) R AI (.inl R) R R),oC (fun G1=>[(19,.own 19 (G1 0)),(21,rI x4.Kind)]) (fun G1=>[(19,some (.arr (G1 0) 3 1 ([0,2,1].map (AU .i64))))]) (fun G1 e h'=>Eg R BS.slice (.inl R) R (.inl R) (fun _=>ex5)),oC (fun G1=>[(22,.ptr 19 (G1 0) x4.Kind.toNat 0)]) (fun G1=>[(19,some (.arr (G1 0) 3 1 ([0,2,1].map (AU .i64))))]) (fun G1 e h'=>KX (d:=.int .i64 x5) R AI (.inl R) (fun _=>R) (fun _=>ex5) R),oB [(7,.ptr 7 (i3 1) 0 0)] [(7,some (.box (i3 1) 52 [rI x4.Kind,rI x4.N]))] (fB R CI (.inl R) (fun _=>R) R),oB [(24,.ptr 7 (i3 1) 0 1)] [(7,some (.box (i3 1) 52 [rI x4.Kind,rI x4.N]))] (Zj (a:=rI x4.N) R AI (.inl R) R R),Za⟩) fun G1 n2=>?_
  refine CB [5,7,13,14,15,16,17,18,19,20,21,22,23,24,25] [5,7,19,3050] ?_
  refine Zc h8 fun w6 ew6 h9=>?_
  refine EZ [5,3050] (hc:=[(1000,some (.box n0 68 [.own 1001 (i3 0),rI w2.add,rI w2.cut])),(1001,some (.arr (i3 0) 52 2 (w2.out.map AG.row)))]) (bs:=[.ptr 1000 n0 0 0,rI x5,rI x4.N]) (caps:=[]) R R R R iL R ⟨.inl ⟨iL,R⟩,.inl ⟨iL,R⟩,.inl ⟨iL,R⟩,Za⟩ ⟨R,R,R,R,R,R,Za⟩ (by decide) (Z7 ew6) ?_
  intro i7 n3
  refine CB [5,7,13,14,15,16,17,18,19,20,21,23,24,25,26] [5,7,19,3050] ?_
  refine aZ (c12 _ (aG [5,13,14,15] [5,3050] ?_))
  exact aR (Zc h9 fun x6 ex6 h10=>(xA R ex6 (mM R (Zg (Zx h10 (AH [(i7 0),n3]) wk)))))
 exact Zm (wK7 _ _ wk (J1 _ (AH [(i3 0),(i3 1)]) (xH hx1 h6)))
theorem bT {a1 b1 r} (h:Ld a1 b1=some r):Ad Tryz.prog 86 [qd a1,qd b1] (rB r):=by
 unfold Ld at h
 refine mF Tryz.func86 Tryz.ntmps86 R fun n0=>aU (mA R (aZ (aT fun c2=>(aU (mM R (xL Cd R (mM R (xL Cd R (xU R (aZ (cI R h (fun h1=>?_) fun h1=>?_)))))))))))
 ·exact zB h1 R id
 refine Zd (c2 _ (aS fun K5 c5 wK5=>(aU (mM R (xL Cd R (mM R (aZ (Ze (BH h1 fun o1 hit1 hk1 he1=>?_)))))))))
 have J1 : ∀ (u2:Unit) (i5:NN),o1 = .nrm u2→K5 ⟨[],[],(i5 0),26⟩:=by
  intro u2 i5 e
  have h2:=hk1 _ e
  exact c5 _ (zB h2 R id)
 refine Zv (fun (x2:Int) i3=>⟨[(0,qd a1),(1,qd b1),(12,rL a1),(13,rI x2)],[],(i3 0),26⟩) (AH [n0]) hit1 wk ?_
 intro x2 i3 v1 hv1 hx1
 have h3:Kq a1 b1 x2=some v1:=hv1; unfold Kq at h3
 refine aU (xS R (aZ (aT fun c9=>(cI R h3 (fun h4=>?_) fun h4=>?_))))
 ·refine Zd (c9 _ (aT fun c10=>(Ze (aU (mM R (mA R (aZ (aT fun c12=>?_))))))))
  refine Zy BG (by kernel_rfl) ?_
  refine qP R (Zf R iL) (qP R (Zf R iL) (Zc h4 fun x4 ex4 h5=>(qP R (Zp R Cd.slice iL iL (fun _=>R) (fun _=>ex4)) (qP R (Bz (cs:=(Jp x4)) R Kk iL R R) (qP R (Zf R iL) (qP R (Zf R iL) (Zc h5 fun x5 ex5 h6=>(qP R (Zp R Cd.slice iL iL (fun _=>R) (fun _=>ex5)) (qP R (Bz (cs:=(Jp x5)) R Kk iL R R) (qP R (Hi R Qh iL iL R) (AQ.nil (c12 _ (cI R h6 (fun h7=>?_) fun h7=>?_)))))))))))))
  ·exact zB (he1 _ (xH hx1 h7)) R id
  refine Zd (c10 _ (aF [0,1,12,13] ?_))
  exact aR (Zc h7 fun x6 ex6 h8=>(xA R ex6 (mM R (Zg (Zs h8 (AH [(i3 0)]) wk)))))
 exact Zm (wK5 _ _ wk (J1 _ (AH [(i3 0)]) (xH hx1 h4)))
theorem U6 {a1 b1 r} (h:Gu a1 b1=some r):Ad Tryz.prog 69 [.agg (AY a1),.agg (AY b1)] (rB r):=by
 unfold Gu at h
 exact mF Tryz.func69 Tryz.ntmps69 R fun n0=>aU (sS R (Zu (cs:=(AY a1)) 2 R iL R R) (sS R (Zu (cs:=(AY b1)) 3 R iL R R) (mA R (aZ (aT fun c2=>(aR (lF CP AI R R (lF CP AI R R (xQ R (mM R (vF Cs AI R R (vF Cs AI R R (vQ R (BT R (iR R) (iR R)) (xN R (mM R (vF Gs DK R R (vF Gs DK R R (vQ R (IG R (iR R) (iR R)) (xN R (mM R (vF Ga AI R R (vF Ga AI R R (vQ R (BT R (iR R) (iR R)) (xN R (mM R (vF Ff Fy R R (vF Ff Fy R R (Zc h fun r1 er1 h1=>vL (fun hg=>bT (Ai er1 hg)) R (xN R (mA R (aZ (c2 _ (Zk (yB h1 R))))))))))))))))))))))))))))))))))
theorem aW {a b r} (h:L2 a b=some r):Ad Tryz.prog 45 [qc a,qc b] (qc r):=by
 unfold L2 at h
 refine mF Tryz.func45 Tryz.ntmps45 R fun n0=>aU (mA R (aZ (aU (mA R (aZ (aU (mA R (aZ (aS fun K4 c4 wK4=>(aU (mM R (xL Aq R (mM R (aZ (Ze (DW h fun o1 hit1 hk1=>?_))))))))))))))))
 have J1 : ∀ (i8:Int) (out4:List AC) (i9:NN),o1=(i8,out4)→K4 ⟨[(0,qc a),(5,.own 5005 (i9 0)),(6,rI i8)],[(5005,some (.arr (i9 0) 43 5 (out4.map AC.row)))],(i9 1),92⟩:=by
  intro i8 out4 i9 e
  have h1:=hk1 _ _ e
  refine c4 _ (aS fun K6 c6 wK6=>(aT fun c7=>(aR (mM R (mM R (Zc h1 fun l1 el1 h2=>?_))))))
  refine sQ R (OU R Aq.slice iL (by exact ⟨_,iL⟩) (by exact R) (fun _=>R) (fun _=>el1)) ?_
  refine xL Aq R (mM R (aZ (c7 _ (Ze (A7 h2 fun o2 hit2 hk2=>?_)))))
  have J2 : ∀ (out8:List AC) (i14:NN),o2=out8→K6 ⟨[(5,.own 5005 (i14 0))],[(5005,some (.arr (i14 0) 43 5 (out8.map AC.row)))],(i14 1),92⟩:=by
   intro out8 i14 e
   have h3:=hk2 _ e
   exact c6 _ (aU (mM R (mA R (aZ (Zk (Cp (P:=Tryz.prog) (fun (r:(List AC))=>qc r) h3 iL (.t (.one (.own R)))))))))
  refine B0 (fun (x5:Int) (out6:List AC) i12=>⟨[(5,.own 5005 (i12 0)),(76,qc l1),(77,rL l1),(78,rI x5)],[(5005,some (.arr (i12 0) 43 5 (out6.map AC.row)))],(i12 1),92⟩) (AH [(i9 0),(i9 1)]) hit2 wk ?_
  intro x5 out6 i12 v1 hv1 hx2
  have h4:F6 l1 x5 out6=some v1:=hv1; unfold F6 at h4
  refine aU (xS R (aZ (aT fun c10=>(cI R h4 (fun h5=>?_) fun h5=>?_))))
  ·refine Zd (c10 _ (aT fun c11=>(Ze (aU (Zc h5 fun x7 ex7 h6=>(xI Aq R ex7 (xB ((AY x7)) BC R (sS R (Zo (cs:=DV) 10 R EU R R) (Zi R R (Zh (ds:=(AY x7)) R DI iL R iL R R R R) (aZ (aR (mM R (lF CP AI R R (lF Cs AI R R ?_))))))))))))))
   refine sQ R (CF R H9 (q:=[(0,_),(1,_)]) (by exact ⟨R,R,R,iL,R,R,R,iL,Za⟩) (cs:=[rI x7.Row,rI x7.Col,.r (.str []),rI 0,cZ]) (by rfl)) ?_
   refine sS R (Bp 88 R Aq (f:=AC.row) (l:=([(AC.mk x7.Row x7.Col [] 0 [])]:List AC)) ⟨R,⟨_,iL,R⟩,Za⟩ R (fun _=>R) R) (Zc h6 fun out9 eout9 h7=>(sS R (Bv R Aq iL R (.inr (.inl ⟨_,_,iL,R⟩)) eout9) (mA R (aZ (c11 _ (aG [5,76,77,78] [5005] ?_))))))
   exact aR (Zc h7 fun x8 ex8 h8=>(xA R ex8 (mM R (Zg (Zx h8 (AH [((i12 1)+2),((i12 1)+3)]) wk)))))
  exact Zm (wK6 _ _ wk (J2 _ (AH [(i12 0),(i12 1)]) (xH hx2 h5)))
 refine Gr (fun (i4:Int) (x2:Int) (out2:List AC) i5=>⟨[(0,qc a),(5,.own 5005 (i5 0)),(6,rI i4),(11,qc b),(12,rL b),(13,rI x2)],[(5005,some (.arr (i5 0) 43 5 (out2.map AC.row)))],(i5 1),92⟩) (AH [n0,(n0+1)]) hit1 (Zn (Zn (Gp 5 5005 43 5 (by decide) R) (by exact Ae.cv (e':=[(0,qc a),(1,qc b),(4,cZ),(5,.own 5005 n0),(6,rI 0),(11,qc b),(12,rL b),(13,rI 0)]) (h':=[(5005,some (.arr n0 43 5 (([]:List AC).map AC.row)))]) ⟨jL,jL,jL,jL,jL,jL,jL,jL,Za⟩ ⟨.inl R,Za⟩ nL)) wk) ?_
 intro i4 x2 out2 i5 v2 hv2 hx1
 have h9:Ig a b i4 x2 out2=some v2:=hv2; unfold Ig at h9
 refine aU (xS R (aZ (aT fun c14=>(cI R h9 (fun h10=>?_) fun h10=>?_))))
 ·refine Zd (c14 _ (aS fun K15 c15 wK15=>(Ze (DW h10 fun p1 hp1 hk3=>?_))))
  have J3 : ∀ (i15:Int) (out10:List AC) (i16:NN),p1=(i15,out10)→K15 ⟨[(0,qc a),(5,.own 5005 (i16 0)),(6,rI i15),(11,qc b),(12,rL b),(13,rI x2)],[(5005,some (.arr (i16 0) 43 5 (out10.map AC.row)))],(i16 1),92⟩:=by
   intro i15 out10 i16 e
   have h11:=hk3 _ _ e
   exact c15 _ (aR (Zc h11 fun x9 ex9 h12=>(xA R ex9 (mM R (Zg (Es.mk h12 (AH [(i16 0),(i16 1)]) wk))))))
  refine aU (Zc hp1 fun x10 ex10 h13=>(xI Aq R ex10 (xB ((AY x10)) BC R (sS R (Zo (cs:=DV) 8 R EU R R) (Zi R R (Zh (ds:=(AY x10)) R DI iL R iL R R R R) (aZ (aS fun K17 c17 wK17=>(Ze (DW h13 fun o3 hit3 hk4=>?_)))))))))
  have J4 : ∀ (i24:Int) (out14:List AC) (i25:NN),o3=(i24,out14)→K17 ⟨[(0,qc a),(5,.own 5005 (i25 0)),(6,rI i24),(8,.ptr 8 (i5 1) 0 0),(11,qc b),(12,rL b),(13,rI x2)],[(8,some (.box (i5 1) 43 (AY x10))),(5005,some (.arr (i25 0) 43 5 (out14.map AC.row)))],(i25 1),92⟩:=by
   intro i24 out14 i25 e
   have h14:=hk4 _ _ e
   refine c17 _ (aS fun K18 c18 wK18=>(aT fun c19=>?_))
   refine Zy BG (by kernel_rfl) ?_
   refine qP R (Zf R iL) (qP R (Zf R iL) (qP R (HH R Aq.slice iL) (qP R (Bh R iL iL) (qP R (Zf R iL) (qO R (Zf R iL) (qO R (Zf R iL) (Zc h14 fun x11 ex11 h15=>qO R (Zp R Aq.slice (iR R) (iR R) (fun _=>R) (Ai ex11)) (qO R (Bz (cs:=(AY x11)) R BC (iR R) R R) (qO R (Zq R BC iL R R) (Zc h15 fun r1 er1 h16=>Jr (.one R R R) R R (r:=rI r1) (caps:=[]) (bs:=[.agg (AY x11),.agg (AY x10)]) R iL R ⟨⟨_,(iR R),.g (cs:=[.int .i64 x11.Row,.int .i64 x11.Col,.str x11.Text,.int .i64 x11.Ref,.sl (x11.Attrs.map Ak.row)]) R R⟩,⟨_,(iR R),.g (cs:=[.int .i64 x10.Row,.int .i64 x10.Col,.str x10.Text,.int .i64 x10.Ref,.sl (x10.Attrs.map Ak.row)]) R R⟩,Za⟩ (fun hg=>H5 (Ai er1 hg)) R (qO R (BT R (iR R) iL) (qP R (Bt R iL (iR R)) (AQ.nil (c19 _ (BH h16 fun p2 hp2 hk5 he5=>?_)))))))))))))))
   have J5 : ∀ (i26:Int) (i27:NN),p2 = .nrm i26→K18 ⟨[(0,qc a),(5,.own 5005 (i25 0)),(6,rI i26),(8,.ptr 8 (i5 1) 0 0),(11,qc b),(12,rL b),(13,rI x2)],[(8,some (.box (i5 1) 43 (AY x10))),(5005,some (.arr (i25 0) 43 5 (out14.map AC.row)))],(i27 0),92⟩:=by
    intro i26 i27 e
    have h17:=hk5 _ e
    exact c18 _ (aR (mM R (xC BC R (Zc h17 fun r2 er2 h18=>(sS R (Zw (r:=.agg (AY r2)) (caps:=[]) (bs:=(Hz x10)) R iL R ⟨.inl ⟨iL,R⟩,Za⟩ (fun _=>M1 (er2))) (sS R (Bp 71 R Aq (f:=AC.row) (l:=([r2]:List AC)) ⟨R,⟨_,iL,R⟩,Za⟩ R (fun _=>R) R) (Zc h18 fun out15 eout15 h19=>(sS R (Bv R Aq iL R (.inr (.inl ⟨_,_,iL,R⟩)) eout15) (mA R (Zg (wK15 _ _ wk (J3 _ _ (AH [((i27 0)+1),((i27 0)+2)]) (Zb h19).symm))))))))))))
   refine aC R (fun hc3=>?_) (fun hc3=>?_)
   ·have h20:=CE hc3 hp2
    refine aU (mM R (Zc h20 fun i28 ei28 h21=>(xA R ei28 (mA R (aZ (aT fun c21=>?_))))))
    refine Zy BG (by kernel_rfl) ?_
    refine qP R (Zf R iL) (qP R (Zf R iL) (Zc h21 fun x12 ex12 h22=>(qP R (Ba R iL iL (fun _=>ex12)) (Zc h22 fun x13 ex13 h23=>(qP R (Zp R Aq.slice iL iL (fun _=>R) (fun _=>ex13)) (qP R (Bz (cs:=(AY x13)) R BC iL R R) (qP R (Zq R BC iL R R) (Zc h23 fun r3 er3 h24=>No R R R (r:=rB r3) (caps:=[]) (bs:=[.agg (AY x13),.agg (AY x10)]) R iL R ⟨⟨_,iL,.g (cs:=[.int .i64 x13.Row,.int .i64 x13.Col,.str x13.Text,.int .i64 x13.Ref,.sl (x13.Attrs.map Ak.row)]) R R⟩,⟨_,iL,.g (cs:=[.int .i64 x10.Row,.int .i64 x10.Col,.str x10.Text,.int .i64 x10.Ref,.sl (x10.Attrs.map Ak.row)]) R R⟩,Za⟩ (fun _=>U6 (er3)) R (AQ.nil (c21 _ (cI R h24 (fun h25=>?_) fun h25=>?_)))))))))))
    ·exact Zm (wK15 _ _ wk (J3 _ _ (AH [(i25 0),(i25 1)]) (Zb (he5 _ (Zb h25).symm)).symm))
    exact Zd (wK18 _ _ wk (J5 _ (AH [(i25 1)]) (Zb h25).symm))
   ·have h20:=CA hc3 hp2
    exact Zd (wK18 _ _ wk (J5 _ (AH [(i25 1)]) (Zb h20).symm))
  refine B0 (fun (i20:Int) (out12:List AC) i21=>⟨[(0,qc a),(5,.own 5005 (i21 0)),(6,rI i20),(8,.ptr 8 (i5 1) 0 0),(11,qc b),(12,rL b),(13,rI x2)],[(8,some (.box (i5 1) 43 (AY x10))),(5005,some (.arr (i21 0) 43 5 (out12.map AC.row)))],(i21 1),92⟩) (AH [(i5 0),((i5 1)+1)]) hit3 wk ?_
  intro i20 out12 i21 v3 hv3 hx3
  have h26:Gx a x10 i20 out12=some v3:=hv3; unfold Gx at h26
  refine aT fun c22=>(aT fun c23=>?_)
  refine Zy BG (by kernel_rfl) ?_
  refine qP R (Zf R iL) (qP R (Zf R iL) (qP R (HH R Aq.slice iL) (qP R (Bh R iL iL) (qP R (Zf R iL) (qO R (Zf R iL) (qO R (Zf R iL) (Zc h26 fun x14 ex14 h27=>qO R (Zp R Aq.slice (iR R) (iR R) (fun _=>R) (Ai ex14)) (qO R (Bz (cs:=(AY x14)) R BC (iR R) R R) (qO R (Zq R BC iL R R) (Zc h27 fun r4 er4 h28=>Jr (.one R R R) R R (r:=rI r4) (caps:=[]) (bs:=[.agg (AY x14),.agg (AY x10)]) R iL R ⟨⟨_,(iR R),.g (cs:=[.int .i64 x14.Row,.int .i64 x14.Col,.str x14.Text,.int .i64 x14.Ref,.sl (x14.Attrs.map Ak.row)]) R R⟩,⟨_,(iR R),.g (cs:=[.int .i64 x10.Row,.int .i64 x10.Col,.str x10.Text,.int .i64 x10.Ref,.sl (x10.Attrs.map Ak.row)]) R R⟩,Za⟩ (fun hg=>H5 (Ai er4 hg)) R (qO R (Bh R (iR R) iL) (qP R (Bt R iL (iR R)) (AQ.nil (c23 _ (cI R h28 (fun h29=>?_) fun h29=>?_)))))))))))))))
  ·refine Zd (c22 _ (Ze (aT fun c24=>?_)))
   refine Jq [0] [1,2,3,4,5,6,7,8,9,10] [] 11 BG (by kernel_rfl) R R R R R ?_
   refine Dg.move R R R R (Dg.nil (Zr R R R (Zf R iL) (Zr R R R (Zf R iL) (Zc h29 fun x15 ex15 h30=>Zr R R R (Zp R Aq.slice iL iL (fun _=>R) (fun _=>ex15)) (Zr R R R (Zl R CP iL) (Zr R R R (Bk (d:=.int .i64 x15.Row) R AI iL R) (Zr R R R (Zf R iL) (Zr R R R (Zf R iL) (Zr R R R (Zp R Aq.slice iL iL (fun _=>R) (fun _=>ex15)) (Zr R R R (Zl R Cs iL) (Zr R R R (Bk (d:=.int .i64 x15.Col) R AI iL R) (AF.nil (AA.nil ?_)))))))))))))
   refine sQ R (CF R H9 (q:=[(0,_),(1,_)]) (by exact ⟨R,R,R,iL,R,R,R,iL,Za⟩) (cs:=[rI x15.Row,rI x15.Col,.r (.str []),rI 0,cZ]) (by rfl)) ?_
   refine sS R (Bp 42 R Aq (f:=AC.row) (l:=([(AC.mk x15.Row x15.Col [] 0 [])]:List AC)) ⟨R,⟨_,iL,R⟩,Za⟩ R (fun _=>R) R) (Zc h30 fun out16 eout16 h31=>(sS R (Bv R Aq iL R (.inr (.inl ⟨_,_,iL,R⟩)) eout16) (mA R (aZ (c24 _ (aG [0,5,6,8,11,12,13] [8,5005] ?_))))))
   exact aR (mM R (Zc h31 fun i29 ei29 h32=>(xA R ei29 (mA R (Zg (Zx h32 (AH [((i21 1)+1),((i21 1)+2)]) wk))))))
  exact Zm (wK17 _ _ wk (J4 _ _ (AH [(i21 0),(i21 1)]) (xH hx3 h29)))
 exact Zm (wK4 _ _ wk (J1 _ _ (AH [(i5 0),(i5 1)]) (xH hx1 h10)))
theorem Yr {b g1 c d r} (h:Kd b g1 c d=some r):Ad Tryz.prog 18 [.agg (AP b),.agg (AP g1),qb c,qb d] (.agg (AZ r)):=by
 unfold Kd at h
 refine mF Tryz.func18 Tryz.ntmps18 R fun n0=>aU (sS R (Zu (cs:=(AP b)) 4 R iL R R) (sS R (Zu (cs:=(AP g1)) 5 R iL R R) (sS R (Zo (cs:=DB) 8 R Kx R R) (aZ (aT fun c2=>(aR (mM R (mM R (lF Ef CD R R (lF Ef CD R R (Zc h fun r1 er1 h1=>(sS R (Zw (r:=qc r1) (caps:=[]) (bs:=[qc b.Cells,qc g1.Cells]) R iL R ⟨.inl ⟨iL,R⟩,.inl ⟨iL,R⟩,Za⟩ (fun _=>aW (er1))) ?_))))))))))))
 refine sQ R (CF R Il (q:=[(0,_),(1,_),(2,_)]) (by exact ⟨R,R,R,iL,R,R,R,iL,R,R,R,iL,Za⟩) (cs:=[qb c,qb d,qc r1,cZ,cZ]) (by rfl)) ?_
 refine sS R (Zo (cs:=DB) 9 R Kx R R) (Zi R R (Zh (ds:=[qb c,qb d,qc r1,cZ,cZ]) R I2 iL R iL R R R R) (aZ (c2 _ (aS fun K3 c3 wK3=>(aT fun c4=>(aG [4,5,8,9] [4,5,8,9] ?_))))))
 refine aR (lF Bb Aw R R (xL Ag R (mM R (aZ (c4 _ (Ze (A7 h1 fun o1 hit1 hk1=>?_)))))))
 have J1 : ∀ (out4:AK) (i5:NN),o1=out4→K3 ⟨[(4,.ptr 4 n0 0 0),(5,.ptr 5 (n0+1) 0 0),(8,.ptr 8 (n0+2) 0 0),(9,.ptr 9 (n0+3) 0 0)],[(4,some (.box n0 25 (AP b))),(5,some (.box (n0+1) 25 (AP g1))),(8,some (.box (n0+2) 28 DB)),(9,some (.box (n0+3) 28 [qb out4.Rows,qb out4.Cols,qc out4.Cells,.own 38 (i5 0),cZ])),(38,some (.arr (i5 0) 47 4 (out4.Split.map AD.row)))],(i5 1),61⟩:=by
  intro out4 i5 e
  have h2:=hk1 _ e
  refine c3 _ (aS fun K5 c5 wK5=>(aU (lF Bb Aw R R (xL Ag R (mM R (aZ (Ze (A7 h2 fun o2 hit2 hk2=>?_))))))))
  have J2 : ∀ (out8:AK) (i10:NN),o2=out8→K5 ⟨[(8,.ptr 8 (n0+2) 0 0),(9,.ptr 9 (n0+3) 0 0)],[(8,some (.box (n0+2) 28 DB)),(9,some (.box (n0+3) 28 [qb out8.Rows,qb out8.Cols,qc out8.Cells,.own 38 (i10 0),.own 57 (i10 1)])),(38,some (.arr (i10 0) 47 4 (out8.Split.map AD.row))),(57,some (.arr (i10 1) 47 4 (out8.Merge.map AD.row)))],(i10 2),61⟩:=by
   intro out8 i10 e
   have h3:=hk2 _ e
   refine c5 _ (aU (xC DL R (Zi R R (Zh (ds:=[qb out8.Rows,qb out8.Cols,qc out8.Cells,.own 38 (i10 0),.own 57 (i10 1)]) R I2 iL R iL R R R R) (aZ ?_))))
   exact Zk (Cp (P:=Tryz.prog) (fun (r:AK)=>.agg (AZ r)) h3 iL (.a DL R R R (.agg (by exact ⟨.closed _ R,.closed _ R,.closed _ R,.own R,.own R,Za⟩))))
  refine B0 (fun (x5:Int) (out6:AK) i8=>⟨[(4,.ptr 4 n0 0 0),(8,.ptr 8 (n0+2) 0 0),(9,.ptr 9 (n0+3) 0 0),(42,qa g1.Merges),(43,rL g1.Merges),(44,rI x5)],[(4,some (.box n0 25 (AP b))),(8,some (.box (n0+2) 28 DB)),(9,some (.box (n0+3) 28 [qb out6.Rows,qb out6.Cols,qc out6.Cells,.own 38 (i8 0),.own 57 (i8 1)])),(38,some (.arr (i8 0) 47 4 (out6.Split.map AD.row))),(57,some (.arr (i8 1) 47 4 (out6.Merge.map AD.row)))],(i8 2),61⟩) (AH [(i5 0),(i5 1),((i5 1)+1)]) hit2 (Zn (Zn (Gq 9 4 57 47 4 (by decide) R R (by decide)) (by exact Ae.cv (e':=[(4,.ptr 4 n0 0 0),(5,.ptr 5 (n0+1) 0 0),(8,.ptr 8 (n0+2) 0 0),(9,.ptr 9 (n0+3) 0 0),(41,.ptr 5 (n0+1) 0 3),(42,qa g1.Merges),(43,rL g1.Merges),(44,rI 0)]) (h':=[(4,some (.box n0 25 (AP b))),(5,some (.box (n0+1) 25 (AP g1))),(8,some (.box (n0+2) 28 DB)),(9,some (.box (n0+3) 28 [qb out4.Rows,qb out4.Cols,qc out4.Cells,.own 38 (i5 0),.own 57 (i5 1)])),(38,some (.arr (i5 0) 47 4 (out4.Split.map AD.row))),(57,some (.arr (i5 1) 47 4 (([]:List AD).map AD.row)))]) ⟨jL,jL,jL,jL,jL,jL,jL,jL,Za⟩ ⟨.inl R,.inl R,.inl R,.inl R,.inl R,.inl R,Za⟩ nL)) wk) ?_
  intro x5 out6 i8 v1 hv1 hx2
  have h4:Fv b g1 x5 out6=some v1:=hv1; unfold Fv at h4
  refine aU (xS R (aZ (aT fun c9=>(cI R h4 (fun h5=>?_) fun h5=>?_))))
  ·refine Zd (c9 _ (aS fun K10 c10 wK10=>(Ze (A7 h5 fun p1 hp1 hk3=>?_))))
   have J3 : ∀ (out9:AK) (i11:NN),p1=out9→K10 ⟨[(4,.ptr 4 n0 0 0),(8,.ptr 8 (n0+2) 0 0),(9,.ptr 9 (n0+3) 0 0),(42,qa g1.Merges),(43,rL g1.Merges),(44,rI x5)],[(4,some (.box n0 25 (AP b))),(8,some (.box (n0+2) 28 DB)),(9,some (.box (n0+3) 28 [qb out9.Rows,qb out9.Cols,qc out9.Cells,.own 38 (i11 0),.own 57 (i11 1)])),(38,some (.arr (i11 0) 47 4 (out9.Split.map AD.row))),(57,some (.arr (i11 1) 47 4 (out9.Merge.map AD.row)))],(i11 2),61⟩:=by
    intro out9 i11 e
    have h6:=hk3 _ e
    exact c10 _ (aR (Zc h6 fun x7 ex7 h7=>(xA R ex7 (mM R (Zg (Zx h7 (AH [(i11 0),(i11 1),(i11 2)]) wk))))))
   refine aU (Zc hp1 fun x8 ex8 h8=>(xI Ag R ex8 (xB ((AL x8)) Au R (sS R (Zo (cs:=Ca) 13 R DZ R R) (Zi R R (Zh (ds:=(AL x8)) R DE iL R iL R R R R) (aZ (aU (lF Bb Aw R R (xC Au R (Zc h8 fun r2 er2 h9=>(cL (PN (er2)) R (sQ R (BI R iL) (aZ (cI R h9 (fun h10=>?_) fun h10=>?_))))))))))))))
   ·exact aR (lF DH Aw R R (xC Au R (sS R (Bp 56 R Ag (f:=AD.row) (l:=([x8]:List AD)) ⟨R,⟨_,iL,R⟩,Za⟩ R (fun _=>R) R) (Zc h10 fun l1 el1 h11=>(sS R (Bv R Ag iL R (.inr (.inl ⟨_,_,iL,R⟩)) el1) (sQ R (fB R DH iL fR R) (Zi R R (Zh (ds:=[qb out6.Rows,qb out6.Cols,qc out6.Cells,.own 38 (i8 0),.own 57 ((i8 2)+2)]) R HJ iL R iL R R R R) (Zg (wK10 _ _ wk (J3 _ (AH [(i8 0),((i8 2)+2),((i8 2)+3)]) (Zb h11).symm))))))))))
   exact Zd (wK10 _ _ wk (J3 _ (AH [(i8 0),(i8 1),((i8 2)+1)]) (Zb h10).symm))
  exact Zm (wK5 _ _ wk (J2 _ (AH [(i8 0),(i8 1),(i8 2)]) (xH hx2 h5)))
 refine B0 (fun (x2:Int) (out2:AK) i3=>⟨[(4,.ptr 4 n0 0 0),(5,.ptr 5 (n0+1) 0 0),(8,.ptr 8 (n0+2) 0 0),(9,.ptr 9 (n0+3) 0 0),(23,qa b.Merges),(24,rL b.Merges),(25,rI x2)],[(4,some (.box n0 25 (AP b))),(5,some (.box (n0+1) 25 (AP g1))),(8,some (.box (n0+2) 28 DB)),(9,some (.box (n0+3) 28 [qb out2.Rows,qb out2.Cols,qc out2.Cells,.own 38 (i3 0),cZ])),(38,some (.arr (i3 0) 47 4 (out2.Split.map AD.row)))],(i3 1),61⟩) (AH [(n0+4),(n0+5)]) hit1 (Zn (Zn (Gq 9 3 38 47 4 (by decide) R R (by decide)) (by exact Ae.cv (e':=[(4,.ptr 4 n0 0 0),(5,.ptr 5 (n0+1) 0 0),(8,.ptr 8 (n0+2) 0 0),(9,.ptr 9 (n0+3) 0 0),(22,.ptr 4 n0 0 3),(23,qa b.Merges),(24,rL b.Merges),(25,rI 0)]) (h':=[(4,some (.box n0 25 (AP b))),(5,some (.box (n0+1) 25 (AP g1))),(8,some (.box (n0+2) 28 DB)),(9,some (.box (n0+3) 28 [qb c,qb d,qc r1,.own 38 (n0+4),cZ])),(38,some (.arr (n0+4) 47 4 (([]:List AD).map AD.row)))]) ⟨jL,jL,jL,jL,jL,jL,jL,jL,Za⟩ ⟨.inl R,.inl R,.inl R,.inl R,.inl R,Za⟩ nL)) wk) ?_
 intro x2 out2 i3 v2 hv2 hx1
 have h12:Fu b g1 x2 out2=some v2:=hv2; unfold Fu at h12
 refine aU (xS R (aZ (aT fun c14=>(cI R h12 (fun h13=>?_) fun h13=>?_))))
 ·refine Zd (c14 _ (aS fun K15 c15 wK15=>(Ze (A7 h13 fun p2 hp2 hk4=>?_))))
  have J4 : ∀ (out10:AK) (i12:NN),p2=out10→K15 ⟨[(4,.ptr 4 n0 0 0),(5,.ptr 5 (n0+1) 0 0),(8,.ptr 8 (n0+2) 0 0),(9,.ptr 9 (n0+3) 0 0),(23,qa b.Merges),(24,rL b.Merges),(25,rI x2)],[(4,some (.box n0 25 (AP b))),(5,some (.box (n0+1) 25 (AP g1))),(8,some (.box (n0+2) 28 DB)),(9,some (.box (n0+3) 28 [qb out10.Rows,qb out10.Cols,qc out10.Cells,.own 38 (i12 0),cZ])),(38,some (.arr (i12 0) 47 4 (out10.Split.map AD.row)))],(i12 1),61⟩:=by
   intro out10 i12 e
   have h14:=hk4 _ e
   exact c15 _ (aR (Zc h14 fun x9 ex9 h15=>(xA R ex9 (mM R (Zg (Zx h15 (AH [(i12 0),(i12 1)]) wk))))))
  refine aU (Zc hp2 fun x10 ex10 h16=>(xI Ag R ex10 (xB ((AL x10)) Au R (sS R (Zo (cs:=Ca) 11 R DZ R R) (Zi R R (Zh (ds:=(AL x10)) R DE iL R iL R R R R) (aZ (aU (lF Bb Aw R R (xC Au R (Zc h16 fun r3 er3 h17=>(cL (PN (er3)) R (sQ R (BI R iL) (aZ (cI R h17 (fun h18=>?_) fun h18=>?_))))))))))))))
  ·exact aR (lF Dr Aw R R (xC Au R (sS R (Bp 37 R Ag (f:=AD.row) (l:=([x10]:List AD)) ⟨R,⟨_,iL,R⟩,Za⟩ R (fun _=>R) R) (Zc h18 fun l2 el2 h19=>(sS R (Bv R Ag iL R (.inr (.inl ⟨_,_,iL,R⟩)) el2) (sQ R (fB R Dr iL fR R) (Zi R R (Zh (ds:=[qb out2.Rows,qb out2.Cols,qc out2.Cells,.own 38 ((i3 1)+2),cZ]) R HJ iL R iL R R R R) (Zg (wK15 _ _ wk (J4 _ (AH [((i3 1)+2),((i3 1)+3)]) (Zb h19).symm))))))))))
  exact Zd (wK15 _ _ wk (J4 _ (AH [(i3 0),((i3 1)+1)]) (Zb h18).symm))
 exact Zm (wK3 _ _ wk (J1 _ (AH [(i3 0),(i3 1)]) (xH hx1 h13)))
theorem Z1 {g1 e1 r} (h:MY g1 e1=some r):Ad Tryz.prog 5 [.agg (AP g1),.agg (AZ e1)] (.tup [.agg (AZ r.1),rI r.2]):=by
 unfold MY at h
 refine mF Tryz.func5 Tryz.ntmps5 R fun n0=>aU (sS R (Zu (cs:=(AP g1)) 2 R iL R R) (sS R (Zu (cs:=(AZ e1)) 3 R iL R R) (sS R (Zo (cs:=DB) 4 R Kx R R) (mA R (aZ (aT fun c2=>(aU (xC Cf R (xC DL R (M2 h fun r1 r2 r3 er1 h1=>(cL (Q2 (er1)) R (mM R (xX R (xX R (xX R (mA R (mA R (mA R (aZ (aT fun c4=>(aG [2,3,4,8] [2,3,4] ?_)))))))))))))))))))))
 refine aR (mM R (xU R (aZ (c4 _ (cI R h1 (fun h2=>?_) fun h2=>?_)))))
 ·refine aT fun c5=>(aR ?_)
  refine sQ R (CF R Il (q:=[]) (by exact Za) (cs:=DB) (by rfl)) ?_
  refine mM R (Zi R R (Zh (ds:=DB) R I2 iL R iL R R R R) (mA R (oZ c5 ?_)))
  exact Zk (Bq (P:=Tryz.prog) (fun (r:AK × Int)=>.agg (AZ r.1)) (fun (r:AK × Int)=>rI r.2) h2 iL (.a DL R R R (.agg (by exact ⟨.nil,.nil,.nil,.nil,.nil,Za⟩))) (.t (.d R)))
 refine Zd (c2 _ (aU (lF D2 Bd R R (Bw h2 fun r4 r5 er4 h3=>(sS R (Zw (r:=.tup [qb r4,rI r5]) (caps:=[]) (bs:=[qb e1.Rows]) R iL R ⟨.inl ⟨iL,R⟩,Za⟩ (fun _=>NT (er4))) (mM R (xX R (xX R (mA R (mA R (aZ (aT fun c7=>(aG [2,3,4,9] [2,3,4] ?_)))))))))))))
 refine aR (lF Dm Bd R R (Bw h3 fun r6 r7 er6 h4=>(sS R (Zw (r:=.tup [qb r6,rI r7]) (caps:=[]) (bs:=[qb e1.Cols]) R iL R ⟨.inl ⟨iL,R⟩,Za⟩ (fun _=>NT (er6))) (mM R (xX R (xX R (mA R (mA R (aZ (c7 _ (aT fun c8=>(Zc h4 fun r8 er8 h5=>(Zc h5 fun r9 er9 h6=>?_)))))))))))))
 refine rP 10 [pO 36 (.agg (AP g1)),pO 37 (.agg (AZ e1)),pO 38 (.agg (AP r8)),pO 39 (qb r4),pO 40 (qb r6),pO 41 (.agg [qb r4,qb r6,.r (.sl []),.r (.sl []),.r (.sl [])]),pO 42 (.agg (AP r9)),pO 43 (.agg (AP g1)),pO 44 (qb r4),pO 45 (qb r6)] BG R (by exact ⟨oB [(2,.ptr 2 n0 0 0)] [(2,some (.box n0 25 (AP g1)))] (Zq R Cf (.inl R) R R),oB [(3,.ptr 3 (n0+1) 0 0)] [(3,some (.box (n0+1) 28 (AZ e1)))] (Zq R DL (.inl R) R R),oD (fun _=>[(36,.agg (AP g1)),(37,.agg (AZ e1))]) (fun _=>[]) (fun G1 e h' n=>Zw (r:=.agg (AP r8)) (caps:=[]) (bs:=[.agg (AP g1),.agg (AZ e1)]) R (.inl R) R ⟨.inl ⟨(.inl R),R⟩,.inl ⟨(.inl R),R⟩,Za⟩ (fun _=>N5 (er8))),oB [(9,qb r4)] [] (Zf R (.inl R)),oB [(11,qb r6)] [] (Zf R (.inl R)),oD (fun _=>[(39,qb r4),(40,qb r6)]) (fun _=>[]) (fun G1 e h' n=>T1 (v:=.agg [qb r4,qb r6,cZ,cZ,cZ]) (.inr ⟨_,_,R,R,⟨.inl R,.inl R,.inr (.inr ⟨R,R⟩),.inr (.inr ⟨R,R⟩),.inr (.inr ⟨R,R⟩),Za⟩⟩) (DP (v:=.agg [qb r4,qb r6,cZ,cZ,cZ]) (CF R Il (q:=[(0,_),(1,_)]) (by exact ⟨R,R,R,(.inl R),R,R,R,(.inl R),Za⟩) (cs:=[qb r4,qb r6,cZ,cZ,cZ]) (by rfl)) _)),oD (fun _=>[(38,.agg (AP r8)),(41,.agg [qb r4,qb r6,.r (.sl []),.r (.sl []),.r (.sl [])])]) (fun _=>[]) (fun G1 e h' n=>Zw (r:=.agg (AP r9)) (caps:=[]) (bs:=[.agg (AP r8),.agg [qb r4,qb r6,.r (.sl []),.r (.sl []),.r (.sl [])]]) R (.inl R) R ⟨.inl ⟨(.inl R),R⟩,.inl ⟨(.inl R),R⟩,Za⟩ (fun _=>N5 (er9))),oB [(2,.ptr 2 n0 0 0)] [(2,some (.box n0 25 (AP g1)))] (Zq R Cf (.inl R) R R),oB [(9,qb r4)] [] (Zf R (.inl R)),oB [(11,qb r6)] [] (Zf R (.inl R)),Za⟩) fun G1 n1=>?_
 refine CB [2,3,4,9,11,12,30,31,32,33,34,35,36,37,38,39,40,41,42,43,44,45] [2,3,4] ?_
 exact Zc h6 fun r10 er10 h7=>(sS R (Zw (r:=.agg (AZ r10)) (caps:=[]) (bs:=[.agg (AP r9),.agg (AP g1),qb r4,qb r6]) R iL R ⟨.inl ⟨iL,R⟩,.inl ⟨iL,R⟩,.inl ⟨iL,R⟩,.inl ⟨iL,R⟩,Za⟩ (fun _=>Yr (er10))) (Zi R R (Zh (ds:=(AZ r10)) R I2 iL R iL R R R R) (mA R (aZ (c8 _ (Zk (Bq (P:=Tryz.prog) (fun (r:AK × Int)=>.agg (AZ r.1)) (fun (r:AK × Int)=>rI r.2) h7 iL (.a DL R R R (.g (cs:=[.sl (r10.Rows.map AG.row),.sl (r10.Cols.map AG.row),.sl (r10.Cells.map AC.row),.sl (r10.Split.map AD.row),.sl (r10.Merge.map AD.row)]) R R)) (.t (.d R)))))))))
theorem Dj {x1 l a r} (h:Ck x1 l a=some r):Ad Tryz.prog 20 [rI x1,rI l,rI a] (rB r):=by
 unfold Ck at h
 exact mF Tryz.func20 Tryz.ntmps20 R fun n0=>aU (mA R (aZ (aU (mM R (mM R (sQ R (B4 R iL iL) (mM R (vM R (vM R (vQ R (Dp R (iR R) (iR R)) (xN R (mA R (aZ (Zk (yB h R)))))))))))))))
theorem Ys {s1 r} (h:Mh s1=some r):Ad Tryz.prog 78 [rS s1] (rB r):=by
 unfold Mh at h
 exact cN bx R R R ⟨_,Tryz.func78,R,R⟩ h
theorem XJ {c1 r} (h:Lr c1=some r):Ad Tryz.prog 79 [rI c1] (rB r):=by
 unfold Lr at h
 exact mF Tryz.func79 Tryz.ntmps79 R fun n0=>aU (mA R (aZ (aU (mM R (xQ R (mM R (vM R (vQ R (BT R (iR R) iL) (xO R (mM R (vM R (Zc h fun r1 er1 h1=>vL (fun hg=>Dj (Ai er1 hg)) R (xO R (mM R (vM R (Zc h1 fun r2 er2 h2=>vL (fun hg=>Dj (Ai er2 hg)) R (xO R (mM R (vM R (Zc h2 fun r3 er3 h3=>vL (fun hg=>Dj (Ai er3 hg)) R (xO R (mA R (aZ (Zk (yB h3 R)))))))))))))))))))))))))
theorem XF {s1 r} (h:KO s1=some r):Ad Tryz.prog 57 [rS s1] (rB r):=by
 unfold KO at h
 refine mF Tryz.func57 Tryz.ntmps57 R fun n0=>aU (mA R (aZ (aT fun c2=>(aU (mM R (Zc h fun r1 er1 h1=>(cL (Ys (er1)) R (sQ R (BI R iL) (aZ (cI R h1 (fun h2=>?_) fun h2=>?_))))))))))
 ·exact zB h2 R id
 refine Zd (c2 _ (aS fun K5 c5 wK5=>(aU (mM R (sS R (bG 9 R Tryz.underlying9 iL) (aZ (Ze (BH h2 fun o1 hit1 hk1 he1=>?_))))))))
 have J1 : ∀ (u2:Unit) (i5:NN),o1 = .nrm u2→K5 ⟨[],[],(i5 0),21⟩:=by
  intro u2 i5 e
  have h3:=hk1 _ e
  exact c5 _ (zB h3 R id)
 refine Zv (fun (p2:(Nat)) i3=>⟨[(9,.ptr 9 n0 0 0)],[(9,some (.it n0 s1 p2))],(i3 0),21⟩) (AH [(n0+1)]) hit1 wk ?_
 intro p2 i3 v1 hv1 hx1
 have h4:EG s1 p2=some v1:=hv1; unfold EG at h4
 refine aT fun c8=>(AW.split (decide (p2<s1.length)) (fun hg1=>?_) (fun hg1=>?_))
 ·have h5:=CE hg1 h4
  refine aR (sS R (ZM R iL R (fun _=>hg1)) (xX R (aZ (c8 _ (aT fun c9=>(aC R (fun hc2=>?_) (fun hc2=>by cases hc2)))))))
  refine Zd (c9 _ (Ze (aU (xX R (mA R (aZ (aU (mM R (xQ R (mM R (vM R (vQ R (Zz R Tryz.underlying21 Tryz.underlying3 (iR R)) (Zc h5 fun r2 er2 h6=>vL (fun hg=>XJ (Ai er2 hg)) R (vQ R (BI R (iR R)) (xO R (aZ (cI R h6 (fun h7=>?_) fun h7=>?_)))))))))))))))))
  ·exact zB (he1 _ (xH hx1 h7)) R id
  exact Zd (Zs h7 (AH [(i3 0)]) wk)
 ·have h5:=CA hg1 h4
  exact aR (sS R (Vb R iL R (fun _=>hg1)) (xX R (aZ (c8 _ (aT fun c13=>(aC R (fun hc4=>by cases hc4) (fun hc4=>Zm (wK5 _ _ wk (J1 _ (AH [(i3 0)]) (xH hx1 h5))))))))))
theorem Yb {s1 r} (h:LD s1=some r):Ad Tryz.prog 80 [rS s1] (rB r):=by
 unfold LD at h
 refine mF Tryz.func80 Tryz.ntmps80 R fun n0=>aU (mA R (aZ (aS fun K2 c2 wK2=>(aU (mM R (sQ R (FM R Tryz.underlying9 iL) (mM R (aZ (Ze (BH h fun o1 hit1 hk1 he1=>?_))))))))))
 have J1 : ∀ (u2:Unit) (i5:NN),o1 = .nrm u2→K2 ⟨[(0,rS s1)],[],(i5 0),59⟩:=by
  intro u2 i5 e
  have h1:=hk1 _ e
  exact c2 _ (aU (mM R (sQ R (FM R Tryz.underlying9 iL) (sQ R (B4 R iL iL) (mM R (vM R (vQ R (FM R Tryz.underlying9 (iR R)) (vQ R (Dp R (iR R) iL) (xN R (mA R (aZ (Zk (yB h1 R)))))))))))))
 refine Zv (fun (x2:Int) i3=>⟨[(0,rS s1),(6,rL s1),(7,rI x2)],[],(i3 0),59⟩) (AH [n0]) hit1 wk ?_
 intro x2 i3 v1 hv1 hx1
 have h2:Ja s1 x2=some v1:=hv1; unfold Ja at h2
 refine aU (xS R (aZ (aT fun c6=>(cI R h2 (fun h3=>?_) fun h3=>?_))))
 ·refine Zd (c6 _ (aT fun c7=>(Ze (aU (mM R (mA R (aZ (aU (mM R (mM R (Zc h3 fun ch1 ech1 h4=>(sQ R (Cv R Tryz.underlying9 iL iL (fun _=>ech1)) (sQ R (B4 R iL iL) (mM R (vM R (vM R (vQ R (Cv R Tryz.underlying9 (iR R) (iR R) (fun _=>ech1)) (vQ R (Dp R (iR R) iL) (xN R (mA R (aZ (aT fun c10=>(aR (mM R (sQ R (BI R iL) (mM R (vM R (vQ R (BT R (iR R) iL) (vQ R (Zf R (iR R)) (wQ R (Zf R iL) (wQ R (Zf R iL) (wQ R (Cv R Tryz.underlying9 (iR R) (iR R) (fun _=>ech1)) (wQ R (MA R (iR R) iL) (wQ R (Zf R (iR R)) (wQ R (Zf R iL) (wQ R (Zf R iL) (wQ R (Cv R Tryz.underlying9 (iR R) (iR R) (fun _=>ech1)) (wQ R (MA R (iR R) iL) (wQ R (Bt R (iR R) (iR R)) (wQ R (Zf R (iR R)) (wQ R (Zf R iL) (wQ R (Zf R iL) (wQ R (Cv R Tryz.underlying9 (iR R) (iR R) (fun _=>ech1)) (wQ R (Bh R (iR R) iL) (wQ R (Zf R (iR R)) (wQ R (Zf R iL) (wQ R (Zf R iL) (wQ R (Cv R Tryz.underlying9 (iR R) (iR R) (fun _=>ech1)) (wQ R (BM R (iR R) iL) (wQ R (Ge R (iR R) (iR R)) (wQ R (Bt R (iR R) (iR R)) (vQ R (Ge R (iR R) (iR R)) (xN R (aZ (c10 _ (cI R h4 (fun h5=>?_) fun h5=>?_))))))))))))))))))))))))))))))))))))))))))))))))))))))))
  ·exact zB (he1 _ (xH hx1 h5)) R id
  refine Zd (c7 _ (aF [0,6,7] ?_))
  exact aR (Zc h5 fun x4 ex4 h6=>(xA R ex4 (mM R (Zg (Zs h6 (AH [(i3 0)]) wk)))))
 exact Zm (wK2 _ _ wk (J1 _ (AH [(i3 0)]) (xH hx1 h3)))
theorem WM {s1 r} (h:LY s1=some r):Ad Tryz.prog 81 [rS s1] (rB r):=by
 unfold LY at h
 refine mF Tryz.func81 Tryz.ntmps81 R fun n0=>aU (mA R (aZ (aS fun K2 c2 wK2=>(aU (mM R (sQ R (FM R Tryz.underlying9 iL) (mM R (aZ (Ze (BH h fun o1 hit1 hk1 he1=>?_))))))))))
 have J1 : ∀ (u2:Unit) (i5:NN),o1 = .nrm u2→K2 ⟨[(0,rS s1)],[],(i5 0),28⟩:=by
  intro u2 i5 e
  have h1:=hk1 _ e
  exact c2 _ (aU (mM R (sQ R (FM R Tryz.underlying9 iL) (sQ R (B4 R iL iL) (mM R (vM R (vQ R (FM R Tryz.underlying9 (iR R)) (vQ R (Dp R (iR R) iL) (xN R (mA R (aZ (Zk (yB h1 R)))))))))))))
 refine Zv (fun (x2:Int) i3=>⟨[(0,rS s1),(5,rL s1),(6,rI x2)],[],(i3 0),28⟩) (AH [n0]) hit1 wk ?_
 intro x2 i3 v1 hv1 hx1
 have h2:Ko s1 x2=some v1:=hv1; unfold Ko at h2
 refine aU (xS R (aZ (aT fun c6=>(cI R h2 (fun h3=>?_) fun h3=>?_))))
 ·refine Zd (c6 _ (aT fun c7=>(Ze (aU (mM R (mA R (aZ (aU (mM R (mM R (Zc h3 fun ch1 ech1 h4=>(sQ R (Cv R Tryz.underlying9 iL iL (fun _=>ech1)) (xS R (mM R (vM R (vM R (vQ R (Cv R Tryz.underlying9 (iR R) (iR R) (fun _=>ech1)) (vQ R (BM R (iR R) iL) (xO R (aZ (cI R h4 (fun h5=>?_) fun h5=>?_)))))))))))))))))))))
  ·exact zB (he1 _ (xH hx1 h5)) R id
  refine Zd (c7 _ (aF [0,5,6] ?_))
  exact aR (Zc h5 fun x4 ex4 h6=>(xA R ex4 (mM R (Zg (Zs h6 (AH [(i3 0)]) wk)))))
 exact Zm (wK2 _ _ wk (J1 _ (AH [(i3 0)]) (xH hx1 h3)))
theorem ZH {l1 c r} (h:LZ l1 c=some r):Ad Tryz.prog 58 [qd l1,rB c] (rI r):=by
 unfold LZ at h
 refine mF Tryz.func58 Tryz.ntmps58 R fun n0=>aU (mA R (aZ (aS fun K2 c2 wK2=>(aU (mM R (xL Cd R (mM R (aZ (Ze (BH h fun o1 hit1 hk1 he1=>?_))))))))))
 have J1 : ∀ (u2:Unit) (i5:NN),o1 = .nrm u2→K2 ⟨[],[],(i5 0),54⟩:=by
  intro u2 i5 e
  have h1:=hk1 _ e
  exact c2 _ (zI h1 R id)
 refine Zv (fun (x2:Int) i3=>⟨[(0,qd l1),(1,rB c),(7,rL l1),(8,rI x2)],[],(i3 0),54⟩) (AH [n0]) hit1 wk ?_
 intro x2 i3 v1 hv1 hx1
 have h2:Iv l1 c x2=some v1:=hv1; unfold Iv at h2
 refine aU (xS R (aZ (aT fun c6=>(cI R h2 (fun h3=>?_) fun h3=>?_))))
 ·refine Zd (c6 _ (aT fun c7=>(Ze (aU (mM R (mA R (aZ (aT fun c9=>(aU (mM R (mM R (Zc h3 fun x4 ex4 h4=>(xI Cd R ex4 (sQ R (Zl R Ih iL) (xV (.str x4.Name) DK R (Zc h4 fun r1 er1 h5=>(cL (Yb (er1)) R (sQ R (BI R iL) (aZ (cI R h5 (fun h6=>?_) fun h6=>?_))))))))))))))))))))
  ·exact zI (he1 _ (xH hx1 h6)) R id
  refine Zd (c9 _ (aT fun c12=>(aT fun c13=>(aF [0,1,5,7,8] ?_))))
  refine aR (mM R (mM R (xI Cd R ex4 (sQ R (Zl R NS iL) (xV (.str x4.Value) DK R (Zc h6 fun r2 er2 h7=>(cL (WM (er2)) R (sQ R (BI R iL) (mM R (vM R (vM R (vQ R (Zp R Cd.slice (iR R) (iR R) (fun _=>R) (fun _=>ex4)) (vQ R (Zl R NS (iR R)) (vQ R (Bk (d:=.str x4.Value) R DK (iR R) R) (vQ R (O0 R (iR R) iL) (vQ R (Zf R (iR R)) (wQ R (Zf R iL) (wQ R (BI R (iR R)) (vQ R (Ge R (iR R) (iR R)) (xN R (aZ (c13 _ (cI R h7 (fun h8=>?_) fun h8=>?_)))))))))))))))))))))))
  ·exact zI (he1 _ (xH hx1 h8)) R id
  refine Zd (c12 _ (aT fun c15=>(aF [0,1,5,7,8] ?_)))
  refine Zy BG (by kernel_rfl) ?_
  refine qP R (Zf R iL) (qP R (BM R iL iL) (qP R (Zf R iL) (qO R (Zf R iL) (qO R (Zf R iL) (Zc h8 fun x5 ex5 h9=>qO R (Ba R (iR R) iL (Ai ex5)) (Zc h9 fun x6 ex6 h10=>qO R (Zp R Cd.slice (iR R) (iR R) (fun _=>R) (Ai ex6)) (qO R (Zl R Ih (iR R)) (qO R (Bk (d:=.str x6.Name) R DK (iR R) R) (qO R (Zf R iL) (qO R (Zf R iL) (qO R (Zp R Cd.slice (iR R) (iR R) (fun _=>R) (fun _=>ex4)) (qO R (Zl R Ih (iR R)) (qO R (Bk (d:=.str x4.Name) R DK (iR R) R) (qO R (VU R (iR R) (iR R)) (qP R (Bt R iL (iR R)) (AQ.nil (c15 _ (cI R h10 (fun h11=>?_) fun h11=>?_))))))))))))))))))
  ·exact zI (he1 _ (xH hx1 h11)) R id
  exact Zd (c7 _ (aR (Zc h11 fun x7 ex7 h12=>(xA R ex7 (mM R (Zg (Zs h12 (AH [(i3 0)]) wk)))))))
 exact Zm (wK2 _ _ wk (J1 _ (AH [(i3 0)]) (xH hx1 h3)))
theorem Py {c1 r} (h:Fh c1=some r):Ad Tryz.prog 36 (Hz c1) (rB r):=by
 unfold Fh at h
 exact mF Tryz.func36 Tryz.ntmps36 R fun n0=>aU (sS R (Zu (cs:=(AY c1)) 1 R iL R R) (mA R (aZ (aU (lF Gs DK R R (sQ R (IG R iL iL) (mM R (vF Ga AI R R (vQ R (BT R (iR R) iL) (xN R (mM R (vF Ff Fy R R (vQ R (HH R Cd.slice (iR R)) (vQ R (BT R (iR R) iL) (xN R (mA R (aZ (Zk (yB h R)))))))))))))))))))
theorem Sc {l1 b c n r} (h:Jh l1 b c n=some r):Ad Tryz.prog 21 [qc l1,rI b,rI c,rB n] (rI r):=by
 unfold Jh at h
 refine mF Tryz.func21 Tryz.ntmps21 R fun n0=>aU (mA R (aZ (aS fun K2 c2 wK2=>(aU (mM R (xL Aq R (mM R (aZ (Ze (BH h fun o1 hit1 hk1 he1=>?_))))))))))
 have J1 : ∀ (u2:Unit) (i5:NN),o1 = .nrm u2→K2 ⟨[],[],(i5 0),93⟩:=by
  intro u2 i5 e
  have h1:=hk1 _ e
  exact c2 _ (zI h1 R id)
 refine Zv (fun (x2:Int) i3=>⟨[(0,qc l1),(1,rI b),(2,rI c),(3,rB n),(13,rL l1),(14,rI x2)],[],(i3 0),93⟩) (AH [n0]) hit1 wk ?_
 intro x2 i3 v1 hv1 hx1
 have h2:Kz l1 b c n x2=some v1:=hv1; unfold Kz at h2
 refine aU (xS R (aZ (aT fun c6=>(cI R h2 (fun h3=>?_) fun h3=>?_))))
 ·refine Zd (c6 _ (aT fun c7=>(Ze (aU (mM R (mA R (aZ (aU (mM R (mM R (Zc h3 fun x4 ex4 h4=>(xI Aq R ex4 (xB ((AY x4)) BC R (sS R (Zo (cs:=DV) 10 R EU R R) (Zi R R (Zh (ds:=(AY x4)) R DI iL R iL R R R R) (aZ (aT fun c10=>(aT fun c11=>(aR (lF CP AI R R (mM R (Zc h4 fun x5 ex5 h5=>(sQ R (Ba R iL iL (fun _=>ex5)) (Zc h5 fun r1 er1 h6=>(cL (Dj (er1)) R (sQ R (BI R iL) (mM R (vF Cs AI R R (vM R (Zc h6 fun x6 ex6 h7=>(vQ R (Ba R (iR R) iL (Ai ex6)) (Zc h7 fun r2 er2 h8=>vL (fun hg=>Dj (Ai er2 hg)) R (vQ R (BI R (iR R)) (xO R (mM R (vF Ga AI R R (Zc h8 fun r3 er3 h9=>vL (fun hg=>Dj (Ai er3 hg)) R (vQ R (BI R (iR R)) (xO R (aZ (c11 _ (cI R h9 (fun h10=>?_) fun h10=>?_))))))))))))))))))))))))))))))))))))))))))
  ·exact zI (he1 _ (xH hx1 h10)) R id
  refine Zd (c10 _ (aT fun c13=>(aT fun c14=>(aG [0,1,2,3,9,10,13,14] [10] ?_))))
  refine aR (lF Gs DK R R (Zc h10 fun r4 er4 h11=>(cL (XF (er4)) R (sQ R (BI R iL) (aZ (c14 _ (cI R h11 (fun h12=>?_) fun h12=>?_)))))))
  ·exact zI (he1 _ (xH hx1 h12)) R id
  refine Zd (c13 _ (aT fun c16=>(aU (lF Ff Fy R R (Zc h12 fun e1 ee1 h13=>(cL (ZH (ee1)) R (mA R (aZ (aU (mM R (xU R (aZ (cI R h13 (fun h14=>?_) fun h14=>?_)))))))))))))
  ·refine aT fun c19=>(aF [11] ?_)
   exact aR (mM R (mA R (aZ (c19 _ (Zk (yI (he1 _ (xH hx1 h14)) R))))))
  refine Zd (c16 _ (aT fun c20=>(aT fun c21=>(aG [0,1,2,3,9,10,13,14] [10] ?_))))
  refine aR (mM R (sQ R (BI R iL) (mM R (vQ R (Zq R BC iL R R) (Zc h14 fun r5 er5 h15=>vL (fun hg=>Py (Ai er5 hg)) R (xN R (aZ (c21 _ (cI R h15 (fun h16=>?_) fun h16=>?_)))))))))
  ·exact zI (he1 _ (xH hx1 h16)) R id
  refine Zd (c20 _ (aT fun c23=>?_))
  refine Zy BG (by kernel_rfl) ?_
  refine qP R (Zf R iL) (qP R (BM R iL iL) (qP R (Zf R iL) (qO R (fB R CP iL fR R) (qO R (Zj (a:=rI x4.Row) R AI (iR R) R R) (qO R (Zf R iL) (qO R (Zf R iL) (Zc h16 fun x7 ex7 h17=>qO R (Ba R (iR R) iL (Ai ex7)) (Zc h17 fun x8 ex8 h18=>qO R (Zp R Aq.slice (iR R) (iR R) (fun _=>R) (Ai ex8)) (qO R (Zl R CP (iR R)) (qO R (Bk (d:=.int .i64 x8.Row) R AI (iR R) R) (qO R (Bh R (iR R) (iR R)) (qO R (Zf R (iR R)) (qT R (fB R CP iL fR R) (qT R (Zj (a:=rI x4.Row) R AI (iR R) R R) (qT R (Zf R iL) (qT R (Zf R iL) (qT R (Ba R (iR R) iL (fun h=>Ai ex7 (Bool.and_eq_true_iff.1 h).1)) (qT R (Zp R Aq.slice (iR R) (iR R) (fun _=>R) (fun h=>Ai ex8 (Bool.and_eq_true_iff.1 h).1)) (qT R (Zl R CP (iR R)) (qT R (Bk (d:=.int .i64 x8.Row) R AI (iR R) R) (qT R (BT R (iR R) (iR R)) (qT R (Zf R (iR R)) (qT R (fB R Cs iL fR R) (qT R (Zj (a:=rI x4.Col) R AI (iR R) R R) (qT R (Zf R iL) (qT R (Zf R iL) (Zc h18 fun x9 ex9 h19=>qT R (Ba R (iR R) iL (Ai ex9)) (Zc h19 fun x10 ex10 h20=>qT R (Zp R Aq.slice (iR R) (iR R) (fun _=>R) (Ai ex10)) (qT R (Zl R Cs (iR R)) (qT R (Bk (d:=.int .i64 x10.Col) R AI (iR R) R) (qT R (Dp R (iR R) (iR R)) (qT R (Bt R (iR R) (iR R)) (qO R (Ge R (iR R) (iR R)) (qP R (Bt R iL (iR R)) (AQ.nil (c23 _ (cI R h20 (fun h21=>?_) fun h21=>?_)))))))))))))))))))))))))))))))))))))
  ·exact zI (he1 _ (xH hx1 h21)) R id
  refine Zd (c7 _ (aF [0,1,2,3,13,14] ?_))
  exact aR (Zc h21 fun x11 ex11 h22=>(xA R ex11 (mM R (Zg (Zs h22 (AH [((i3 0)+1)]) wk)))))
 exact Zm (wK2 _ _ wk (J1 _ (AH [(i3 0)]) (xH hx1 h3)))
theorem Lc {r1 a c r} (h:GA r1 a c=some r):Ad Tryz.prog 22 [.agg (AL r1),rI a,rI c] (rB r):=by
 unfold GA at h
 exact mF Tryz.func22 Tryz.ntmps22 R fun n0=>aU (sS R (Zu (cs:=(AL r1)) 3 R iL R R) (mA R (aZ (aT fun c2=>(aR (lF Bj AI R R (mM R (Zc h fun x1 ex1 h1=>(sQ R (Ba R iL iL (fun _=>ex1)) (Zc h1 fun r2 er2 h2=>(cL (Dj (er2)) R (mM R (vF Br AI R R (vM R (Zc h2 fun x2 ex2 h3=>(vQ R (Ba R (iR R) iL (Ai ex2)) (Zc h3 fun r3 er3 h4=>vL (fun hg=>Dj (Ai er3 hg)) R (xN R (mM R (vF DF AI R R (vM R (vF Bj AI R R (Zc h4 fun x3 ex3 h5=>(vQ R (Ba R (iR R) (iR R) (Ai ex3)) (Zc h5 fun r4 er4 h6=>vL (fun hg=>Dj (Ai er4 hg)) R (xN R (mM R (vF DR AI R R (vM R (vF Br AI R R (Zc h6 fun x4 ex4 h7=>(vQ R (Ba R (iR R) (iR R) (Ai ex4)) (Zc h7 fun r5 er5 h8=>vL (fun hg=>Dj (Ai er5 hg)) R (xN R (mA R (aZ (c2 _ (Zk (yB h8 R)))))))))))))))))))))))))))))))))))))))
theorem TQ {a1 b1 r} (h:Iz a1 b1=some r):Ad Tryz.prog 23 [.agg (AL a1),.agg (AL b1)] (rB r):=by
 unfold Iz at h
 refine mF Tryz.func23 Tryz.ntmps23 R fun n0=>aU (sS R (Zu (cs:=(AL a1)) 2 R iL R R) (sS R (Zu (cs:=(AL b1)) 3 R iL R R) (mA R (aZ (aT fun c2=>?_)))))
 refine Zy BG (by kernel_rfl) ?_
 refine qP R (fB R Bj iL fR R) (qP R (Zj (a:=rI a1.Row) R AI iL R R) (qP R (fB R Bj iL fR R) (qP R (Zj (a:=rI b1.Row) R AI iL R R) (qP R (PD R iL iL) (qP R (fB R Br iL fR R) (qP R (Zj (a:=rI a1.Col) R AI iL R R) (qP R (fB R Br iL fR R) (qP R (Zj (a:=rI b1.Col) R AI iL R R) (qP R (PD R iL iL) (qP R (D8 R iL) (qP R (D8 R iL) (AQ.nil (c2 _ (aT fun c3=>(aG [2,3,5,6] [2,3] ?_)))))))))))))))
 exact aR (mM R (lF Bj AI R R (lF DF AI R R (Zc h fun x1 ex1 h1=>(xA R ex1 (lF Bj AI R R (lF DF AI R R (Zc h1 fun x2 ex2 h2=>(xA R ex2 (sQ R (LO R iL iL) (xS R (mM R (vM R (vF Br AI R R (vF DR AI R R (Zc h2 fun x3 ex3 h3=>(vQ R (Fg R (iR R) (iR R) (Ai ex3)) (vF Br AI R R (vF DR AI R R (Zc h3 fun x4 ex4 h4=>(vQ R (Fg R (iR R) (iR R) (Ai ex4)) (vQ R (LO R (iR R) (iR R)) (vQ R (Bh R (iR R) (iR R)) (xN R (mA R (aZ (c3 _ (Zk (yB h4 R)))))))))))))))))))))))))))))
theorem UB {g1 r} (h:LG g1=some r):Ad Tryz.prog 6 (Sx g1) (rI r):=by
 unfold LG at h
 refine mF Tryz.func6 Tryz.ntmps6 R fun n0=>aU (sS R (Zu (cs:=(AP g1)) 1 R iL R R) (mA R (aZ (aT fun c2=>(aU (lF Dw AI R R (Zc h fun r1 er1 h1=>(cL (Dj (er1)) R (sQ R (BI R iL) (mM R (vF EC AI R R (Zc h1 fun r2 er2 h2=>vL (fun hg=>Dj (Ai er2 hg)) R (vQ R (BI R (iR R)) (xO R (aZ (cI R h2 (fun h3=>?_) fun h3=>?_))))))))))))))))
 ·exact zI h3 R id
 refine Zd (c2 _ (aT fun c5=>(aT fun c6=>(aG [1] [1] ?_))))
 refine aR (lF Ef CD R R (lF Dw AI R R (lF EC AI R R (Zc h3 fun e1 ee1 h4=>(cL (Sc (ee1)) R (mA R (aZ (c6 _ (aU (mM R (xU R (aZ (cI R h4 (fun h5=>?_) fun h5=>?_)))))))))))))
 ·refine aT fun c8=>(aF [3] ?_)
  exact aR (mM R (mA R (aZ (c8 _ (Zk (yI h5 R))))))
 refine Zd (c5 _ (aS fun K9 c9 wK9=>(aT fun c10=>(aG [1] [1] ?_))))
 refine aR (lF Bb Aw R R (xL Ag R (mM R (aZ (c10 _ (Ze (BH h5 fun o1 hit1 hk1 he1=>?_)))))))
 have J1 : ∀ (u2:Unit) (i5:NN),o1 = .nrm u2→K9 ⟨[],[],(i5 0),104⟩:=by
  intro u2 i5 e
  have h6:=hk1 _ e
  exact c9 _ (zI h6 R id)
 refine Zv (fun (x2:Int) i3=>⟨[(1,.ptr 1 n0 0 0),(29,rL g1.Merges),(30,rI x2)],[(1,some (.box n0 25 (AP g1)))],(i3 0),104⟩) (AH [(n0+1)]) hit1 wk ?_
 intro x2 i3 v1 hv1 hx1
 have h7:Ls g1 x2=some v1:=hv1; unfold Ls at h7
 refine aU (xS R (aZ (aT fun c13=>(cI R h7 (fun h8=>?_) fun h8=>?_))))
 ·refine Zd (c13 _ (aS fun K14 c14 wK14=>(Ze (aU (mM R (mA R (aZ (aU (lF Bb Aw R R (mM R (Zc h8 fun x4 ex4 h9=>(xI Ag R ex4 (xB ((AL x4)) Au R (sS R (Zo (cs:=Ca) 5 R DZ R R) (Zi R R (Zh (ds:=(AL x4)) R DE iL R iL R R R R) (aZ (aT fun c17=>(aU (xC Au R (lF Dw AI R R (lF EC AI R R (Zc h9 fun r3 er3 h10=>(cL (Lc (er3)) R (sQ R (BI R iL) (aZ (cI R h10 (fun h11=>?_) fun h11=>?_))))))))))))))))))))))))))
  ·exact zI (he1 _ (xH hx1 h11)) R id
  refine Zd (c17 _ (aT fun c20=>(aT fun c21=>(aG [1,4,5,29,30] [1,5] ?_))))
  refine aR (lF DF AI R R (xQ R (mM R (vF DR AI R R (vQ R (BT R (iR R) iL) (xN R (aZ (c21 _ (cI R h11 (fun h12=>?_) fun h12=>?_)))))))))
  ·exact zI (he1 _ (xH hx1 h12)) R id
  refine Zd (c20 _ (aT fun c23=>(aT fun c24=>?_)))
  refine Zy BG (by kernel_rfl) ?_
  refine qP R (Zf R iL) (qP R (BM R iL iL) (qP R (Zf R iL) (qO R (fB R Bj iL fR R) (qO R (Zj (a:=rI x4.Row) R AI (iR R) R R) (qO R (fB R Bb iL fR R) (qO R (Zj (a:=qa g1.Merges) R Aw (iR R) R R) (qO R (Zf R iL) (Zc h12 fun x5 ex5 h13=>qO R (Ba R (iR R) iL (Ai ex5)) (Zc h13 fun x6 ex6 h14=>qO R (Zp R Ag.slice (iR R) (iR R) (fun _=>R) (Ai ex6)) (qO R (Zl R Bj (iR R)) (qO R (Bk (d:=.int .i64 x6.Row) R AI (iR R) R) (qO R (Bh R (iR R) (iR R)) (qO R (Zf R (iR R)) (qT R (fB R Bj iL fR R) (qT R (Zj (a:=rI x4.Row) R AI (iR R) R R) (qT R (fB R Bb iL fR R) (qT R (Zj (a:=qa g1.Merges) R Aw (iR R) R R) (qT R (Zf R iL) (qT R (Ba R (iR R) iL (fun h=>Ai ex5 (Bool.and_eq_true_iff.1 h).1)) (qT R (Zp R Ag.slice (iR R) (iR R) (fun _=>R) (fun h=>Ai ex6 (Bool.and_eq_true_iff.1 h).1)) (qT R (Zl R Bj (iR R)) (qT R (Bk (d:=.int .i64 x6.Row) R AI (iR R) R) (qT R (BT R (iR R) (iR R)) (qT R (Zf R (iR R)) (qT R (fB R Br iL fR R) (qT R (Zj (a:=rI x4.Col) R AI (iR R) R R) (qT R (fB R Bb iL fR R) (qT R (Zj (a:=qa g1.Merges) R Aw (iR R) R R) (qT R (Zf R iL) (Zc h14 fun x7 ex7 h15=>qT R (Ba R (iR R) iL (Ai ex7)) (Zc h15 fun x8 ex8 h16=>qT R (Zp R Ag.slice (iR R) (iR R) (fun _=>R) (Ai ex8)) (qT R (Zl R Br (iR R)) (qT R (Bk (d:=.int .i64 x8.Col) R AI (iR R) R) (qT R (Dp R (iR R) (iR R)) (qT R (Bt R (iR R) (iR R)) (qO R (Ge R (iR R) (iR R)) (qP R (Bt R iL (iR R)) (AQ.nil (c24 _ (cI R h16 (fun h17=>?_) fun h17=>?_))))))))))))))))))))))))))))))))))))))))
  ·exact zI (he1 _ (xH hx1 h17)) R id
  refine Zd (c23 _ (aT fun c26=>(aG [1,4,5,29,30] [1,5] ?_)))
  refine aR (mM R (mM R (aZ (c26 _ (Ze (BH h17 fun o2 hit2 hk2 he2=>?_))))))
  have J2 : ∀ (u4:Unit) (i10:NN),o2 = .nrm u4→K14 ⟨[(1,.ptr 1 n0 0 0),(29,rL g1.Merges),(30,rI x2)],[(1,some (.box n0 25 (AP g1)))],(i10 0),104⟩:=by
   intro u4 i10 e
   have h18:=hk2 _ e
   exact c14 _ (aR (Zc h18 fun x12 ex12 h19=>(xA R ex12 (mM R (Zg (Zs h19 (AH [(i10 0)]) wk))))))
  refine Zv (fun (x10:Int) i8=>⟨[(1,.ptr 1 n0 0 0),(5,.ptr 5 (i3 0) 0 0),(29,rL g1.Merges),(30,rI x2),(91,rI x2),(92,rI x10)],[(1,some (.box n0 25 (AP g1))),(5,some (.box (i3 0) 47 (AL x4)))],(i8 0),104⟩) (AH [((i3 0)+1)]) hit2 wk ?_
  intro x10 i8 v2 hv2 hx2
  have h20:LF g1 x2 x4 x10=some v2:=hv2; unfold LF at h20
  refine aU (xS R (aZ (aT fun c28=>(cI R h20 (fun h21=>?_) fun h21=>?_))))
  ·refine Zd (c28 _ (aT fun c29=>(Ze (aU (mM R (mA R (aZ (aT fun c31=>?_))))))))
   refine Zy BG (by kernel_rfl) ?_
   refine qP R (Zq R Au iL R R) (qP R (fB R Bb iL fR R) (qP R (Zj (a:=qa g1.Merges) R Aw iL R R) (qP R (Zf R iL) (Zc h21 fun x13 ex13 h22=>(qP R (Zp R Ag.slice iL iL (fun _=>R) (fun _=>ex13)) (qP R (Bz (cs:=(AL x13)) R Au iL R R) (Zc h22 fun r4 er4 h23=>No R R R (r:=rB r4) (caps:=[]) (bs:=[.agg (AL x4),.agg (AL x13)]) R iL R ⟨⟨_,iL,.g (cs:=[.int .i64 x4.Row,.int .i64 x4.Col,.int .i64 x4.H,.int .i64 x4.W]) R R⟩,⟨_,iL,.g (cs:=[.int .i64 x13.Row,.int .i64 x13.Col,.int .i64 x13.H,.int .i64 x13.W]) R R⟩,Za⟩ (fun _=>TQ (er4)) R (AQ.nil (c31 _ (cI R h23 (fun h24=>?_) fun h24=>?_))))))))))
   ·refine aT fun c32=>(aF [] ?_)
    exact aR (mA R (aZ (c32 _ (Zk (yI (he1 _ (hx1 _ (Zb (he2 _ (xH hx2 h24))).symm)) R)))))
   refine Zd (c29 _ (aG [1,5,29,30,91,92] [1,5] ?_))
   exact aR (Zc h24 fun x14 ex14 h25=>(xA R ex14 (mM R (Zg (Zs h25 (AH [(i8 0)]) wk)))))
  exact Zm (wK14 _ _ wk (J2 _ (AH [(i8 0)]) (xH hx2 h21)))
 exact Zm (wK9 _ _ wk (J1 _ (AH [(i3 0)]) (xH hx1 h8)))
theorem Qd {a1 r} (h:Je a1=some r):Ad Tryz.prog 24 [qb a1] (rI r):=by
 unfold Je at h
 refine mF Tryz.func24 Tryz.ntmps24 R fun n0=>aU (mA R (aZ (aU (mA R (mA R (aZ (aS fun K3 c3 wK3=>(aU (mM R (xL A5 R (mM R (aZ (Ze (KD h fun o1 hit1 hk1 he1=>?_))))))))))))))
 have J1 : ∀ (old4:Int) (now4:Int) (i5:NN),o1 = .nrm (old4,now4)→K3 ⟨[(3,rI old4),(4,rI now4)],[],(i5 0),99⟩:=by
  intro old4 now4 i5 e
  have h1:=hk1 _ _ e
  refine c3 _ (aT fun c5=>(aU (mM R (sQ R (BM R iL iL) (mM R (vM R (vQ R (BM R (iR R) iL) (xO R (aZ (cI R h1 (fun h2=>?_) fun h2=>?_))))))))))
  ·exact zI h2 R id
  exact Zd (c5 _ (zI h2 R id))
 refine Gr (fun (old2:Int) (now2:Int) (x2:Int) i3=>⟨[(0,qb a1),(3,rI old2),(4,rI now2),(7,rL a1),(8,rI x2)],[],(i3 0),99⟩) (AH [n0]) hit1 wk ?_
 intro old2 now2 x2 i3 v1 hv1 hx1
 have h3:JK a1 old2 now2 x2=some v1:=hv1; unfold JK at h3
 refine aU (xS R (aZ (aT fun c10=>(cI R h3 (fun h4=>?_) fun h4=>?_))))
 ·refine Zd (c10 _ (aS fun K11 c11 wK11=>(Ze (KD h4 fun p1 hp1 hk2 he2=>?_))))
  have J2 : ∀ (old5:Int) (now5:Int) (i6:NN),p1 = .nrm (old5,now5)→K11 ⟨[(0,qb a1),(3,rI old5),(4,rI now5),(7,rL a1),(8,rI x2)],[],(i6 0),99⟩:=by
   intro old5 now5 i6 e
   have h5:=hk2 _ _ e
   exact c11 _ (aR (Zc h5 fun x4 ex4 h6=>(xA R ex4 (mM R (Zg (Es.mk h6 (AH [(i6 0)]) wk))))))
  refine aU (mM R (mA R (aZ (aT fun c13=>(aU (mM R (mM R (Zc hp1 fun x5 ex5 h7=>(xI A5 R ex5 (sQ R (Zl R B8 iL) (xV (.int .i64 x5.Kind) AI R (Zc h7 fun r1 er1 h8=>(cL (Dj (er1)) R (sQ R (BI R iL) (aZ (cI R h8 (fun h9=>?_) fun h9=>?_))))))))))))))))
  ·refine aT fun c15=>(aF [] ?_)
   exact aR (mA R (aZ (c15 _ (Zk (yI (he1 _ (hx1 _ (Zb (he2 _ (Zb h9).symm)).symm)) R)))))
  refine Zd (c13 _ (aT fun c16=>(aT fun c17=>(aF [0,3,4,5,7,8] ?_))))
  refine aR (mM R (mM R (xI A5 R ex5 (sQ R (Zl R CI iL) (xV (.int .i64 x5.N) AI R (Zc h9 fun r2 er2 h10=>(cL (Dj (er2)) R (sQ R (BI R iL) (aZ (c17 _ (cI R h10 (fun h11=>?_) fun h11=>?_)))))))))))
  ·refine aT fun c18=>(aF [] ?_)
   exact aR (mA R (aZ (c18 _ (Zk (yI (he1 _ (hx1 _ (Zb (he2 _ (Zb h11).symm)).symm)) R)))))
  refine Zd (c16 _ (aT fun c19=>(aT fun c20=>?_)))
  refine Zy BG (by kernel_rfl) ?_
  refine qP R (Zf R iL) (qP R (BM R iL iL) (qP R (Zf R iL) (qO R (Zf R iL) (qO R (Zf R iL) (qO R (Zp R A5.slice (iR R) (iR R) (fun _=>R) (fun _=>ex5)) (qO R (Zl R B8 (iR R)) (qO R (Bk (d:=.int .i64 x5.Kind) R AI (iR R) R) (qO R (Zf R iL) (qO R (Zf R iL) (Zc h11 fun x6 ex6 h12=>qO R (Ba R (iR R) iL (Ai ex6)) (Zc h12 fun x7 ex7 h13=>qO R (Zp R A5.slice (iR R) (iR R) (fun _=>R) (Ai ex7)) (qO R (Zl R B8 (iR R)) (qO R (Bk (d:=.int .i64 x7.Kind) R AI (iR R) R) (qO R (BT R (iR R) (iR R)) (qO R (Zf R (iR R)) (qT R (Zf R iL) (qT R (Zf R iL) (qT R (Zp R A5.slice (iR R) (iR R) (fun _=>R) (fun _=>ex5)) (qT R (Zl R B8 (iR R)) (qT R (Bk (d:=.int .i64 x5.Kind) R AI (iR R) R) (qT R (BT R (iR R) iL) (qT R (Zf R (iR R)) (qT R (Zf R iL) (qT R (Zf R iL) (Zc h13 fun x8 ex8 h14=>qT R (Ba R (iR R) iL (Ai ex8)) (Zc h14 fun x9 ex9 h15=>qT R (Zp R A5.slice (iR R) (iR R) (fun _=>R) (Ai ex9)) (qT R (Zl R B8 (iR R)) (qT R (Bk (d:=.int .i64 x9.Kind) R AI (iR R) R) (qT R (BT R (iR R) iL) (qT R (Bt R (iR R) (iR R)) (qO R (Ge R (iR R) (iR R)) (qP R (Bt R iL (iR R)) (AQ.nil (c20 _ (cI R h15 (fun h16=>?_) fun h16=>?_)))))))))))))))))))))))))))))))))))
  ·refine aT fun c21=>(aF [] ?_)
   exact aR (mA R (aZ (c21 _ (Zk (yI (he1 _ (hx1 _ (Zb (he2 _ (Zb h16).symm)).symm)) R)))))
  refine Zd (c19 _ (aS fun K22 c22 wK22=>(aT fun c23=>(aF [0,3,4,5,7,8] ?_))))
  refine aR (mM R (mM R (xI A5 R ex5 (sQ R (Zl R B8 iL) (xV (.int .i64 x5.Kind) AI R (xU R (mM R (vM R (vQ R (Bh R (iR R) iL) (xN R (aZ (c23 _ (A7 h16 fun p2 hp2 hk3=>?_)))))))))))))
  have J3 : ∀ (old6:Int) (i7:NN),p2=old6→K22 ⟨[(0,qb a1),(3,rI old6),(4,rI now2),(5,rI x2),(7,rL a1),(8,rI x2)],[],(i7 0),99⟩:=by
   intro old6 i7 e
   have h17:=hk3 _ e
   refine c22 _ (aU (mM R (mM R (xI A5 R ex5 (sQ R (Zl R B8 iL) (xV (.int .i64 x5.Kind) AI R (xU R (mM R (vM R (vQ R (Bh R (iR R) iL) (xN R (aZ (cI R h17 (fun h18=>?_) fun h18=>?_)))))))))))))
   ·exact aR (mM R (mM R (mM R (xI A5 R ex5 (sQ R (Zl R CI iL) (xV (.int .i64 x5.N) AI R (Zc h18 fun now6 enow6 h19=>(xA R enow6 (mA R (Zg (wK11 _ _ wk (J2 _ _ (AH [(i7 0)]) (Zb h19).symm))))))))))))
   exact Zd (wK11 _ _ wk (J2 _ _ (AH [(i7 0)]) (Zb h18).symm))
  refine aC R (fun hc7=>?_) (fun hc7=>?_)
  ·have h20:=CE hc7 hp2
   exact aR (mM R (mM R (mM R (xI A5 R ex5 (sQ R (Zl R CI iL) (xV (.int .i64 x5.N) AI R (Zc h20 fun old7 eold7 h21=>(xA R eold7 (mA R (Zg (wK22 _ _ wk (J3 _ (AH [(i3 0)]) (Zb h21).symm))))))))))))
  ·have h20:=CA hc7 hp2
   exact Zd (wK22 _ _ wk (J3 _ (AH [(i3 0)]) (Zb h20).symm))
 exact Zm (wK3 _ _ wk (J1 _ _ (AH [(i3 0)]) (xH hx1 h4)))
theorem V3 {e1 r} (h:Ju e1=some r):Ad Tryz.prog 7 (Q1 e1) (rI r):=by
 unfold Ju at h
 refine mF Tryz.func7 Tryz.ntmps7 R fun n0=>aU (sS R (Zu (cs:=(AZ e1)) 1 R iL R R) (mA R (aZ (aT fun c2=>(aU (lF D2 Bd R R (Zc h fun f1 ef1 h1=>(cL (Qd (ef1)) R (mA R (aZ (aU (mM R (xU R (aZ (cI R h1 (fun h2=>?_) fun h2=>?_)))))))))))))))
 ·exact aU (mM R (mA R (aZ (Zk (yI h2 R)))))
 refine Zd (c2 _ (aT fun c6=>(aU (lF Dm Bd R R (Zc h2 fun f2 ef2 h3=>(cL (Qd (ef2)) R (mA R (aZ (aT fun c8=>(aG [1,4] [1] ?_))))))))))
 refine aR (mM R (xU R (aZ (c8 _ (cI R h3 (fun h4=>?_) fun h4=>?_)))))
 ·exact aU (mM R (mA R (aZ (Zk (yI h4 R)))))
 refine Zd (c6 _ (aT fun c10=>(aU (lF Du CD R R (Zc h4 fun f3 ef3 h5=>(cL (Sc (ef3)) R (mA R (aZ (aU (mM R (xU R (aZ (cI R h5 (fun h6=>?_) fun h6=>?_)))))))))))))
 ·refine aT fun c13=>(aF [5] ?_)
  exact aR (mM R (mA R (aZ (c13 _ (Zk (yI h6 R))))))
 refine Zd (c10 _ (aS fun K14 c14 wK14=>(aT fun c15=>(aG [1] [1] ?_))))
 refine aR (lF Dr Aw R R (xL Ag R (mM R (aZ (c15 _ (Ze (BH h6 fun o1 hit1 hk1 he1=>?_)))))))
 have J1 : ∀ (u2:Unit) (i5:NN),o1 = .nrm u2→K14 ⟨[(1,.ptr 1 n0 0 0)],[(1,some (.box n0 28 (AZ e1)))],(i5 0),70⟩:=by
  intro u2 i5 e
  have h7:=hk1 _ e
  refine c14 _ (aS fun K16 c16 wK16=>(aU (lF DH Aw R R (xL Ag R (mM R (aZ (Ze (BH h7 fun o2 hit2 hk2 he2=>?_))))))))
  have J2 : ∀ (u4:Unit) (i10:NN),o2 = .nrm u4→K16 ⟨[],[],(i10 0),70⟩:=by
   intro u4 i10 e
   have h8:=hk2 _ e
   exact c16 _ (zI h8 R id)
  refine Zv (fun (x5:Int) i8=>⟨[(1,.ptr 1 n0 0 0),(42,rL e1.Merge),(43,rI x5)],[(1,some (.box n0 28 (AZ e1)))],(i8 0),70⟩) (AH [(i5 0)]) hit2 wk ?_
  intro x5 i8 v1 hv1 hx2
  have h9:HX e1 x5=some v1:=hv1; unfold HX at h9
  refine aU (xS R (aZ (aT fun c20=>(cI R h9 (fun h10=>?_) fun h10=>?_))))
  ·refine Zd (c20 _ (aT fun c21=>(Ze (aU (mM R (mA R (aZ (aT fun c23=>(aU (lF DH Aw R R (mM R (Zc h10 fun x7 ex7 h11=>(xI Ag R ex7 (xB ((AL x7)) Au R (Zc h11 fun r1 er1 h12=>(cL (Lc (er1)) R (sQ R (BI R iL) (aZ (cI R h12 (fun h13=>?_) fun h13=>?_)))))))))))))))))))
   ·exact zI (he2 _ (xH hx2 h13)) R id
   refine Zd (c23 _ (aT fun c26=>(aG [1,7,42,43] [1] ?_)))
   refine aR (lF DH Aw R R (mM R (xI Ag R ex7 (sQ R (Zl R DF iL) (xV (.int .i64 x7.H) AI R (xQ R (mM R (vF DH Aw R R (vM R (vQ R (Zp R Ag.slice (iR R) (iR R) (fun _=>R) (fun _=>ex7)) (vQ R (Zl R DR (iR R)) (vQ R (Bk (d:=.int .i64 x7.W) R AI (iR R) R) (vQ R (BT R (iR R) iL) (xN R (aZ (c26 _ (cI R h13 (fun h14=>?_) fun h14=>?_)))))))))))))))))
   ·exact zI (he2 _ (xH hx2 h14)) R id
   refine Zd (c21 _ (aG [1,42,43] [1] ?_))
   exact aR (Zc h14 fun x8 ex8 h15=>(xA R ex8 (mM R (Zg (Zs h15 (AH [(i8 0)]) wk)))))
  exact Zm (wK16 _ _ wk (J2 _ (AH [(i8 0)]) (xH hx2 h10)))
 refine Zv (fun (x2:Int) i3=>⟨[(1,.ptr 1 n0 0 0),(28,rL e1.Split),(29,rI x2)],[(1,some (.box n0 28 (AZ e1)))],(i3 0),70⟩) (AH [(n0+1)]) hit1 wk ?_
 intro x2 i3 v2 hv2 hx1
 have h16:HQ e1 x2=some v2:=hv2; unfold HQ at h16
 refine aU (xS R (aZ (aT fun c29=>(cI R h16 (fun h17=>?_) fun h17=>?_))))
 ·refine Zd (c29 _ (aT fun c30=>(Ze (aU (mM R (mA R (aZ (aU (lF Dr Aw R R (mM R (Zc h17 fun x9 ex9 h18=>(xI Ag R ex9 (xB ((AL x9)) Au R (Zc h18 fun r2 er2 h19=>(cL (Lc (er2)) R (sQ R (BI R iL) (aZ (cI R h19 (fun h20=>?_) fun h20=>?_))))))))))))))))))
  ·exact zI (he1 _ (xH hx1 h20)) R id
  refine Zd (c30 _ (aG [1,28,29] [1] ?_))
  exact aR (Zc h20 fun x10 ex10 h21=>(xA R ex10 (mM R (Zg (Zs h21 (AH [(i3 0)]) wk)))))
 exact Zm (wK14 _ _ wk (J1 _ (AH [(i3 0)]) (xH hx1 h17)))
theorem Ql {a1 r} (h:IX a1=some r):Ad Tryz.prog 25 [qb a1] (.tup [rI r.1,rI r.2]):=by
 unfold IX at h
 refine mF Tryz.func25 Tryz.ntmps25 R fun n0=>aU (mA R (mA R (aZ (aU (mA R (mA R (aZ (aS fun K3 c3 wK3=>(aU (mM R (xL A5 R (mM R (aZ (Ze (DW h fun o1 hit1 hk1=>?_)))))))))))))))
 have J1 : ∀ (old4:Int) (now4:Int) (i5:NN),o1=(old4,now4)→K3 ⟨[(4,rI old4),(5,rI now4)],[],(i5 0),41⟩:=by
  intro old4 now4 i5 e
  have h1:=hk1 _ _ e
  exact c3 _ (aU (mM R (mM R (mA R (mA R (aZ (Zk (Bq (P:=Tryz.prog) (fun (r:Int × Int)=>rI r.1) (fun (r:Int × Int)=>rI r.2) h1 iL (.t (.d R)) (.t (.d R))))))))))
 refine Gr (fun (old2:Int) (now2:Int) (x2:Int) i3=>⟨[(0,qb a1),(4,rI old2),(5,rI now2),(8,rL a1),(9,rI x2)],[],(i3 0),41⟩) (AH [n0]) hit1 wk ?_
 intro old2 now2 x2 i3 v1 hv1 hx1
 have h2:JB a1 old2 now2 x2=some v1:=hv1; unfold JB at h2
 refine aU (xS R (aZ (aT fun c7=>(cI R h2 (fun h3=>?_) fun h3=>?_))))
 ·refine Zd (c7 _ (aS fun K8 c8 wK8=>(Ze (DW h3 fun p1 hp1 hk2=>?_))))
  have J2 : ∀ (old5:Int) (now5:Int) (i6:NN),p1=(old5,now5)→K8 ⟨[(0,qb a1),(4,rI old5),(5,rI now5),(8,rL a1),(9,rI x2)],[],(i6 0),41⟩:=by
   intro old5 now5 i6 e
   have h4:=hk2 _ _ e
   exact c8 _ (aR (Zc h4 fun x4 ex4 h5=>(xA R ex4 (mM R (Zg (Es.mk h5 (AH [(i6 0)]) wk))))))
  refine aU (mM R (mA R (aZ (aS fun K10 c10 wK10=>(aU (mM R (mM R (Zc hp1 fun x5 ex5 h6=>(xI A5 R ex5 (sQ R (Zl R B8 iL) (xV (.int .i64 x5.Kind) AI R (xU R (aZ (A7 h6 fun p2 hp2 hk3=>?_))))))))))))))
  have J3 : ∀ (old6:Int) (i7:NN),p2=old6→K10 ⟨[(0,qb a1),(4,rI old6),(5,rI now2),(6,rI x2),(8,rL a1),(9,rI x2)],[],(i7 0),41⟩:=by
   intro old6 i7 e
   have h7:=hk3 _ e
   refine c10 _ (aU (mM R (mM R (xI A5 R ex5 (sQ R (Zl R B8 iL) (xV (.int .i64 x5.Kind) AI R (xU R (aZ (cI R h7 (fun h8=>?_) fun h8=>?_)))))))))
   ·exact aR (mM R (mM R (mM R (xI A5 R ex5 (sQ R (Zl R CI iL) (xV (.int .i64 x5.N) AI R (Zc h8 fun now6 enow6 h9=>(xA R enow6 (mA R (Zg (wK8 _ _ wk (J2 _ _ (AH [(i7 0)]) (Zb h9).symm))))))))))))
   exact Zd (wK8 _ _ wk (J2 _ _ (AH [(i7 0)]) (Zb h8).symm))
  refine aC R (fun hc3=>?_) (fun hc3=>?_)
  ·have h10:=CE hc3 hp2
   exact aR (mM R (mM R (mM R (xI A5 R ex5 (sQ R (Zl R CI iL) (xV (.int .i64 x5.N) AI R (Zc h10 fun old7 eold7 h11=>(xA R eold7 (mA R (Zg (wK10 _ _ wk (J3 _ (AH [(i3 0)]) (Zb h11).symm))))))))))))
  ·have h10:=CA hc3 hp2
   exact Zd (wK10 _ _ wk (J3 _ (AH [(i3 0)]) (Zb h10).symm))
 exact Zm (wK3 _ _ wk (J1 _ _ (AH [(i3 0)]) (xH hx1 h3)))
theorem VN {g1 e1 r} (h:KE g1 e1=some r):Ad Tryz.prog 8 [.agg (AP g1),.agg (AZ e1)] (rI r):=by
 unfold KE at h
 refine mF Tryz.func8 Tryz.ntmps8 R fun n0=>aU (sS R (Zu (cs:=(AP g1)) 2 R iL R R) (sS R (Zu (cs:=(AZ e1)) 3 R iL R R) (mA R (aZ (aT fun c2=>?_)))))
 refine Zy BG (by kernel_rfl) ?_
 refine qP R (fB R Dw iL fR R) (qP R (Zj (a:=rI g1.Rows) R AI iL R R) (qP R (fB R EC iL fR R) (qP R (Zj (a:=rI g1.Cols) R AI iL R R) (qP R (D8 R iL) (qP R (D8 R iL) (AQ.nil (c2 _ (aS fun K3 c3 wK3=>(aU (lF D2 Bd R R (xL A5 R (sQ R (BM R iL iL) (aZ (BH h fun p1 hp1 hk1 he1=>?_))))))))))))))
 have J1 : ∀ (rows1:Int) (i1:NN),p1 = .nrm rows1→K3 ⟨[(3,.ptr 3 (n0+1) 0 0),(5,rI rows1),(6,rI g1.Cols)],[(3,some (.box (n0+1) 28 (AZ e1)))],(i1 0),103⟩:=by
  intro rows1 i1 e
  have h1:=hk1 _ e
  refine c3 _ (aS fun K5 c5 wK5=>(aU (lF Dm Bd R R (xL A5 R (sQ R (BM R iL iL) (aZ (BH h1 fun p2 hp2 hk2 he2=>?_)))))))
  have J2 : ∀ (cols1:Int) (i2:NN),p2 = .nrm cols1→K5 ⟨[(3,.ptr 3 (n0+1) 0 0),(5,rI rows1),(6,rI cols1)],[(3,some (.box (n0+1) 28 (AZ e1)))],(i2 0),103⟩:=by
   intro cols1 i2 e
   have h2:=hk2 _ e
   refine c5 _ (aS fun K7 c7 wK7=>(aU (lF Du CD R R (xL Aq R (mM R (aZ (Ze (BH h2 fun o1 hit1 hk3 he3=>?_))))))))
   have J3 : ∀ (u2:Unit) (i7:NN),o1 = .nrm u2→K7 ⟨[(3,.ptr 3 (n0+1) 0 0),(5,rI rows1),(6,rI cols1)],[(3,some (.box (n0+1) 28 (AZ e1)))],(i7 0),103⟩:=by
    intro u2 i7 e
    have h3:=hk3 _ e
    refine c7 _ (aS fun K9 c9 wK9=>(aU (lF Dr Aw R R (xL Ag R (mM R (aZ (Ze (BH h3 fun o2 hit2 hk4 he4=>?_))))))))
    have J4 : ∀ (u4:Unit) (i12:NN),o2 = .nrm u4→K9 ⟨[(3,.ptr 3 (n0+1) 0 0),(5,rI rows1),(6,rI cols1)],[(3,some (.box (n0+1) 28 (AZ e1)))],(i12 0),103⟩:=by
     intro u4 i12 e
     have h4:=hk4 _ e
     refine c9 _ (aS fun K11 c11 wK11=>(aU (lF DH Aw R R (xL Ag R (mM R (aZ (Ze (BH h4 fun o3 hit3 hk5 he5=>?_))))))))
     have J5 : ∀ (u6:Unit) (i17:NN),o3 = .nrm u6→K11 ⟨[],[],(i17 0),103⟩:=by
      intro u6 i17 e
      have h5:=hk5 _ e
      exact c11 _ (zI h5 R id)
     refine Zv (fun (x8:Int) i15=>⟨[(3,.ptr 3 (n0+1) 0 0),(5,rI rows1),(6,rI cols1),(89,rL e1.Merge),(90,rI x8)],[(3,some (.box (n0+1) 28 (AZ e1)))],(i15 0),103⟩) (AH [(i12 0)]) hit3 wk ?_
     intro x8 i15 v1 hv1 hx3
     have h6:I3 e1 rows1 cols1 x8=some v1:=hv1; unfold I3 at h6
     refine aU (xS R (aZ (aT fun c15=>(cI R h6 (fun h7=>?_) fun h7=>?_))))
     ·refine Zd (c15 _ (aT fun c16=>(Ze (aU (mM R (mA R (aZ (aU (lF DH Aw R R (mM R (Zc h7 fun x10 ex10 h8=>(xI Ag R ex10 (xB ((AL x10)) Au R (mM R (mM R (Zc h8 fun r1 er1 h9=>(cL (Lc (er1)) R (sQ R (BI R iL) (aZ (cI R h9 (fun h10=>?_) fun h10=>?_))))))))))))))))))))
      ·exact zI (he5 _ (xH hx3 h10)) R id
      refine Zd (c16 _ (aG [3,5,6,89,90] [3] ?_))
      exact aR (Zc h10 fun x11 ex11 h11=>(xA R ex11 (mM R (Zg (Zs h11 (AH [(i15 0)]) wk)))))
     exact Zm (wK11 _ _ wk (J5 _ (AH [(i15 0)]) (xH hx3 h7)))
    refine Zv (fun (x5:Int) i10=>⟨[(3,.ptr 3 (n0+1) 0 0),(5,rI rows1),(6,rI cols1),(73,rL e1.Split),(74,rI x5)],[(3,some (.box (n0+1) 28 (AZ e1)))],(i10 0),103⟩) (AH [(i7 0)]) hit2 wk ?_
    intro x5 i10 v2 hv2 hx2
    have h12:Io e1 rows1 cols1 x5=some v2:=hv2; unfold Io at h12
    refine aU (xS R (aZ (aT fun c21=>(cI R h12 (fun h13=>?_) fun h13=>?_))))
    ·refine Zd (c21 _ (aT fun c22=>(Ze (aU (mM R (mA R (aZ (aU (lF Dr Aw R R (mM R (Zc h13 fun x12 ex12 h14=>(xI Ag R ex12 (xB ((AL x12)) Au R (mM R (mM R (Zc h14 fun r2 er2 h15=>(cL (Lc (er2)) R (sQ R (BI R iL) (aZ (cI R h15 (fun h16=>?_) fun h16=>?_))))))))))))))))))))
     ·exact zI (he4 _ (xH hx2 h16)) R id
     refine Zd (c22 _ (aG [3,5,6,73,74] [3] ?_))
     exact aR (Zc h16 fun x13 ex13 h17=>(xA R ex13 (mM R (Zg (Zs h17 (AH [(i10 0)]) wk)))))
    exact Zm (wK9 _ _ wk (J4 _ (AH [(i10 0)]) (xH hx2 h13)))
   refine Zv (fun (x2:Int) i5=>⟨[(3,.ptr 3 (n0+1) 0 0),(5,rI rows1),(6,rI cols1),(48,rL e1.Cells),(49,rI x2)],[(3,some (.box (n0+1) 28 (AZ e1)))],(i5 0),103⟩) (AH [(i2 0)]) hit1 wk ?_
   intro x2 i5 v3 hv3 hx1
   have h18:Jl e1 rows1 cols1 x2=some v3:=hv3; unfold Jl at h18
   refine aU (xS R (aZ (aT fun c27=>(cI R h18 (fun h19=>?_) fun h19=>?_))))
   ·refine Zd (c27 _ (aT fun c28=>(Ze (aU (mM R (mA R (aZ (aU (lF Du CD R R (mM R (Zc h19 fun x14 ex14 h20=>(xI Aq R ex14 (sQ R (Zl R CP iL) (xV (.int .i64 x14.Row) AI R (mM R (sQ R (B4 R iL iL) (mM R (vF Du CD R R (vM R (vQ R (Zp R Aq.slice (iR R) (iR R) (fun _=>R) (fun _=>ex14)) (vQ R (Zl R Cs (iR R)) (vQ R (Bk (d:=.int .i64 x14.Col) R AI (iR R) R) (vM R (vQ R (B4 R (iR R) (iR R)) (xO R (aZ (cI R h20 (fun h21=>?_) fun h21=>?_)))))))))))))))))))))))))))
    ·exact zI (he3 _ (xH hx1 h21)) R id
    refine Zd (c28 _ (aG [3,5,6,48,49] [3] ?_))
    exact aR (Zc h21 fun x15 ex15 h22=>(xA R ex15 (mM R (Zg (Zs h22 (AH [(i5 0)]) wk)))))
   exact Zm (wK7 _ _ wk (J3 _ (AH [(i5 0)]) (xH hx1 h19)))
  refine aC R (fun hc7=>?_) (fun hc7=>?_)
  ·have h23:=CE hc7 hp2
   refine aU (lF Dm Bd R R (Bw h23 fun r3 r4 er3 h24=>(cL (Ql (er3)) R (mM R (xX R (xX R (mA R (mA R (aZ (aT fun c33=>(aT fun c34=>(aG [3,5,6,9,10] [3] ?_))))))))))))
   refine aR (mM R (mM R (xU R (aZ (c34 _ (cI R h24 (fun h25=>?_) fun h25=>?_))))))
   ·exact zI (he2 _ (Zb h25).symm) R id
   exact Zd (c33 _ (aR (mM R (mA R (Zg (wK5 _ _ wk (J2 _ (AH [(i1 0)]) (Zb h25).symm)))))))
  ·have h23:=CA hc7 hp2
   exact Zd (wK5 _ _ wk (J2 _ (AH [(i1 0)]) (Zb h23).symm))
 refine aC R (fun hc9=>?_) (fun hc9=>?_)
 ·have h26:=CE hc9 hp1
  refine aT fun c36=>(aG [3,5,6] [3] ?_)
  refine aR (lF D2 Bd R R (Bw h26 fun r5 r6 er5 h27=>(cL (Ql (er5)) R (mM R (xX R (xX R (mA R (mA R (aZ (c36 _ (aT fun c37=>(aU (mM R (mM R (xU R (aZ (cI R h27 (fun h28=>?_) fun h28=>?_)))))))))))))))))
  ·exact zI (he1 _ (Zb h28).symm) R id
  refine Zd (c37 _ (aG [3,6,8] [3] ?_))
  exact aR (mM R (mA R (Zg (wK3 _ _ wk (J1 _ (AH [(n0+2)]) (Zb h28).symm)))))
 ·have h26:=CA hc9 hp1
  exact Zd (wK3 _ _ wk (J1 _ (AH [(n0+2)]) (Zb h26).symm))
theorem Se {a1 b1 r} (h:Jj a1 b1=some r):Ad Tryz.prog 26 [qb a1,qb b1] (rB r):=by
 unfold Jj at h
 refine mF Tryz.func26 Tryz.ntmps26 R fun n0=>aU (mA R (aZ (aT fun c2=>(aU (mM R (xL A5 R (mM R (xL A5 R (xU R (aZ (cI R h (fun h1=>?_) fun h1=>?_)))))))))))
 ·exact zB h1 R id
 refine Zd (c2 _ (aS fun K5 c5 wK5=>(aU (mM R (xL A5 R (mM R (aZ (Ze (BH h1 fun o1 hit1 hk1 he1=>?_)))))))))
 have J1 : ∀ (u2:Unit) (i5:NN),o1 = .nrm u2→K5 ⟨[],[],(i5 0),26⟩:=by
  intro u2 i5 e
  have h2:=hk1 _ e
  exact c5 _ (zB h2 R id)
 refine Zv (fun (x2:Int) i3=>⟨[(0,qb a1),(1,qb b1),(12,rL a1),(13,rI x2)],[],(i3 0),26⟩) (AH [n0]) hit1 wk ?_
 intro x2 i3 v1 hv1 hx1
 have h3:KL a1 b1 x2=some v1:=hv1; unfold KL at h3
 refine aU (xS R (aZ (aT fun c9=>(cI R h3 (fun h4=>?_) fun h4=>?_))))
 ·refine Zd (c9 _ (aT fun c10=>(Ze (aU (mM R (mA R (aZ (aT fun c12=>?_))))))))
  refine Zy BG (by kernel_rfl) ?_
  refine qP R (Zf R iL) (qP R (Zf R iL) (Zc h4 fun x4 ex4 h5=>(qP R (Zp R A5.slice iL iL (fun _=>R) (fun _=>ex4)) (qP R (Bz (cs:=[rI x4.Kind,rI x4.N]) R IO iL R R) (qP R (Zf R iL) (qP R (Zf R iL) (Zc h5 fun x5 ex5 h6=>(qP R (Zp R A5.slice iL iL (fun _=>R) (fun _=>ex5)) (qP R (Bz (cs:=[rI x5.Kind,rI x5.N]) R IO iL R R) (qP R (Hi R Z8 iL iL R) (AQ.nil (c12 _ (cI R h6 (fun h7=>?_) fun h7=>?_)))))))))))))
  ·exact zB (he1 _ (xH hx1 h7)) R id
  refine Zd (c10 _ (aF [0,1,12,13] ?_))
  exact aR (Zc h7 fun x6 ex6 h8=>(xA R ex6 (mM R (Zg (Zs h8 (AH [(i3 0)]) wk)))))
 exact Zm (wK5 _ _ wk (J1 _ (AH [(i3 0)]) (xH hx1 h4)))
theorem Wv {a1 b1 r} (h:KS a1 b1=some r):Ad Tryz.prog 40 [qd a1,qd b1] (rB r):=by
 unfold KS at h
 refine mF Tryz.func40 Tryz.ntmps40 R fun n0=>aU (mA R (aZ (aT fun c2=>(aU (mM R (xL Cd R (mM R (xL Cd R (xU R (aZ (cI R h (fun h1=>?_) fun h1=>?_)))))))))))
 ·exact zB h1 R id
 refine Zd (c2 _ (aS fun K5 c5 wK5=>(aU (mM R (xL Cd R (mM R (aZ (Ze (BH h1 fun o1 hit1 hk1 he1=>?_)))))))))
 have J1 : ∀ (u2:Unit) (i5:NN),o1 = .nrm u2→K5 ⟨[],[],(i5 0),26⟩:=by
  intro u2 i5 e
  have h2:=hk1 _ e
  exact c5 _ (zB h2 R id)
 refine Zv (fun (x2:Int) i3=>⟨[(0,qd a1),(1,qd b1),(12,rL a1),(13,rI x2)],[],(i3 0),26⟩) (AH [n0]) hit1 wk ?_
 intro x2 i3 v1 hv1 hx1
 have h3:LT a1 b1 x2=some v1:=hv1; unfold LT at h3
 refine aU (xS R (aZ (aT fun c9=>(cI R h3 (fun h4=>?_) fun h4=>?_))))
 ·refine Zd (c9 _ (aT fun c10=>(Ze (aU (mM R (mA R (aZ (aT fun c12=>?_))))))))
  refine Zy BG (by kernel_rfl) ?_
  refine qP R (Zf R iL) (qP R (Zf R iL) (Zc h4 fun x4 ex4 h5=>(qP R (Zp R Cd.slice iL iL (fun _=>R) (fun _=>ex4)) (qP R (Bz (cs:=(Jp x4)) R Kk iL R R) (qP R (Zf R iL) (qP R (Zf R iL) (Zc h5 fun x5 ex5 h6=>(qP R (Zp R Cd.slice iL iL (fun _=>R) (fun _=>ex5)) (qP R (Bz (cs:=(Jp x5)) R Kk iL R R) (qP R (Hi R Qh iL iL R) (AQ.nil (c12 _ (cI R h6 (fun h7=>?_) fun h7=>?_)))))))))))))
  ·exact zB (he1 _ (xH hx1 h7)) R id
  refine Zd (c10 _ (aF [0,1,12,13] ?_))
  exact aR (Zc h7 fun x6 ex6 h8=>(xA R ex6 (mM R (Zg (Zs h8 (AH [(i3 0)]) wk)))))
 exact Zm (wK5 _ _ wk (J1 _ (AH [(i3 0)]) (xH hx1 h4)))
theorem Rq {a1 b1 r} (h:I7 a1 b1=some r):Ad Tryz.prog 14 [.agg (AY a1),.agg (AY b1)] (rB r):=by
 unfold I7 at h
 exact mF Tryz.func14 Tryz.ntmps14 R fun n0=>aU (sS R (Zu (cs:=(AY a1)) 2 R iL R R) (sS R (Zu (cs:=(AY b1)) 3 R iL R R) (mA R (aZ (aT fun c2=>(aR (lF CP AI R R (lF CP AI R R (xQ R (mM R (vF Cs AI R R (vF Cs AI R R (vQ R (BT R (iR R) (iR R)) (xN R (mM R (vF Gs DK R R (vF Gs DK R R (vQ R (IG R (iR R) (iR R)) (xN R (mM R (vF Ga AI R R (vF Ga AI R R (vQ R (BT R (iR R) (iR R)) (xN R (mM R (vF Ff Fy R R (vF Ff Fy R R (Zc h fun r1 er1 h1=>vL (fun hg=>Wv (Ai er1 hg)) R (xN R (mA R (aZ (c2 _ (Zk (yB h1 R))))))))))))))))))))))))))))))))))
theorem ZA {a1 b1 r} (h:Km a1 b1=some r):Ad Tryz.prog 27 [qc a1,qc b1] (rB r):=by
 unfold Km at h
 refine mF Tryz.func27 Tryz.ntmps27 R fun n0=>aU (mA R (aZ (aT fun c2=>(aU (mM R (xL Aq R (mM R (xL Aq R (xU R (aZ (cI R h (fun h1=>?_) fun h1=>?_)))))))))))
 ·exact zB h1 R id
 refine Zd (c2 _ (aS fun K5 c5 wK5=>(aU (mM R (xL Aq R (mM R (aZ (Ze (BH h1 fun o1 hit1 hk1 he1=>?_)))))))))
 have J1 : ∀ (u2:Unit) (i5:NN),o1 = .nrm u2→K5 ⟨[],[],(i5 0),27⟩:=by
  intro u2 i5 e
  have h2:=hk1 _ e
  exact c5 _ (zB h2 R id)
 refine Zv (fun (x2:Int) i3=>⟨[(0,qc a1),(1,qc b1),(12,rL a1),(13,rI x2)],[],(i3 0),27⟩) (AH [n0]) hit1 wk ?_
 intro x2 i3 v1 hv1 hx1
 have h3:Js a1 b1 x2=some v1:=hv1; unfold Js at h3
 refine aU (xS R (aZ (aT fun c9=>(cI R h3 (fun h4=>?_) fun h4=>?_))))
 ·refine Zd (c9 _ (aT fun c10=>(Ze (aU (mM R (mA R (aZ (aT fun c12=>?_))))))))
  refine Zy BG (by kernel_rfl) ?_
  refine qP R (Zf R iL) (qP R (Zf R iL) (Zc h4 fun x4 ex4 h5=>(qP R (Zp R Aq.slice iL iL (fun _=>R) (fun _=>ex4)) (qP R (Bz (cs:=(AY x4)) R BC iL R R) (qP R (Zf R iL) (qP R (Zf R iL) (Zc h5 fun x5 ex5 h6=>(qP R (Zp R Aq.slice iL iL (fun _=>R) (fun _=>ex5)) (qP R (Bz (cs:=(AY x5)) R BC iL R R) (Zc h6 fun r1 er1 h7=>No R R R (r:=rB r1) (caps:=[]) (bs:=[.agg (AY x4),.agg (AY x5)]) R iL R ⟨⟨_,iL,.g (cs:=[.int .i64 x4.Row,.int .i64 x4.Col,.str x4.Text,.int .i64 x4.Ref,.sl (x4.Attrs.map Ak.row)]) R R⟩,⟨_,iL,.g (cs:=[.int .i64 x5.Row,.int .i64 x5.Col,.str x5.Text,.int .i64 x5.Ref,.sl (x5.Attrs.map Ak.row)]) R R⟩,Za⟩ (fun _=>Rq (er1)) R (qP R (BI R iL) (AQ.nil (c12 _ (cI R h7 (fun h8=>?_) fun h8=>?_))))))))))))))
  ·exact zB (he1 _ (xH hx1 h8)) R id
  refine Zd (c10 _ (aF [0,1,12,13] ?_))
  exact aR (Zc h8 fun x6 ex6 h9=>(xA R ex6 (mM R (Zg (Zs h9 (AH [(i3 0)]) wk)))))
 exact Zm (wK5 _ _ wk (J1 _ (AH [(i3 0)]) (xH hx1 h4)))
theorem RH {a1 b1 r} (h:JQ a1 b1=some r):Ad Tryz.prog 28 [qa a1,qa b1] (rB r):=by
 unfold JQ at h
 refine mF Tryz.func28 Tryz.ntmps28 R fun n0=>aU (mA R (aZ (aT fun c2=>(aU (mM R (xL Ag R (mM R (xL Ag R (xU R (aZ (cI R h (fun h1=>?_) fun h1=>?_)))))))))))
 ·exact zB h1 R id
 refine Zd (c2 _ (aS fun K5 c5 wK5=>(aU (mM R (xL Ag R (mM R (aZ (Ze (BH h1 fun o1 hit1 hk1 he1=>?_)))))))))
 have J1 : ∀ (u2:Unit) (i5:NN),o1 = .nrm u2→K5 ⟨[],[],(i5 0),26⟩:=by
  intro u2 i5 e
  have h2:=hk1 _ e
  exact c5 _ (zB h2 R id)
 refine Zv (fun (x2:Int) i3=>⟨[(0,qa a1),(1,qa b1),(12,rL a1),(13,rI x2)],[],(i3 0),26⟩) (AH [n0]) hit1 wk ?_
 intro x2 i3 v1 hv1 hx1
 have h3:Kv a1 b1 x2=some v1:=hv1; unfold Kv at h3
 refine aU (xS R (aZ (aT fun c9=>(cI R h3 (fun h4=>?_) fun h4=>?_))))
 ·refine Zd (c9 _ (aT fun c10=>(Ze (aU (mM R (mA R (aZ (aT fun c12=>?_))))))))
  refine Zy BG (by kernel_rfl) ?_
  refine qP R (Zf R iL) (qP R (Zf R iL) (Zc h4 fun x4 ex4 h5=>(qP R (Zp R Ag.slice iL iL (fun _=>R) (fun _=>ex4)) (qP R (Bz (cs:=(AL x4)) R Au iL R R) (qP R (Zf R iL) (qP R (Zf R iL) (Zc h5 fun x5 ex5 h6=>(qP R (Zp R Ag.slice iL iL (fun _=>R) (fun _=>ex5)) (qP R (Bz (cs:=(AL x5)) R Au iL R R) (qP R (Hi R Jw iL iL R) (AQ.nil (c12 _ (cI R h6 (fun h7=>?_) fun h7=>?_)))))))))))))
  ·exact zB (he1 _ (xH hx1 h7)) R id
  refine Zd (c10 _ (aF [0,1,12,13] ?_))
  exact aR (Zc h7 fun x6 ex6 h8=>(xA R ex6 (mM R (Zg (Zs h8 (AH [(i3 0)]) wk)))))
 exact Zm (wK5 _ _ wk (J1 _ (AH [(i3 0)]) (xH hx1 h4)))
theorem Q9 {a1 b1 r} (h:GQ a1 b1=some r):Ad Tryz.prog 9 [.agg (AZ a1),.agg (AZ b1)] (rB r):=by
 unfold GQ at h
 exact mF Tryz.func9 Tryz.ntmps9 R fun n0=>aU (sS R (Zu (cs:=(AZ a1)) 2 R iL R R) (sS R (Zu (cs:=(AZ b1)) 3 R iL R R) (mA R (aZ (aT fun c2=>(aR (lF D2 Bd R R (lF D2 Bd R R (Zc h fun r1 er1 h1=>(cL (Se (er1)) R (mM R (vF Dm Bd R R (vF Dm Bd R R (Zc h1 fun r2 er2 h2=>vL (fun hg=>Se (Ai er2 hg)) R (xN R (mM R (vF Du CD R R (vF Du CD R R (Zc h2 fun r3 er3 h3=>vL (fun hg=>ZA (Ai er3 hg)) R (xN R (mM R (vF Dr Aw R R (vF Dr Aw R R (Zc h3 fun r4 er4 h4=>vL (fun hg=>RH (Ai er4 hg)) R (xN R (mM R (vF DH Aw R R (vF DH Aw R R (Zc h4 fun r5 er5 h5=>vL (fun hg=>RH (Ai er5 hg)) R (xN R (mA R (aZ (c2 _ (Zk (yB h5 R)))))))))))))))))))))))))))))))))))
theorem QA {a1 r} (h:JY a1=some r):Ad Tryz.prog 29 [qb a1] (rI r):=by
 unfold JY at h
 refine mF Tryz.func29 Tryz.ntmps29 R fun n0=>aU (mA R (aZ (aU (mA R (aZ (aS fun K3 c3 wK3=>(aU (mM R (xL A5 R (mM R (aZ (Ze (A7 h fun o1 hit1 hk1=>?_)))))))))))))
 have J1 : ∀ (n4:Int) (i5:NN),o1=n4→K3 ⟨[(3,rI n4)],[],(i5 0),19⟩:=by
  intro n4 i5 e
  have h1:=hk1 _ e
  exact c3 _ (aU (mM R (mA R (aZ (Zk (yI h1 R))))))
 refine B0 (fun (n2:Int) (x2:Int) i3=>⟨[(0,qb a1),(3,rI n2),(6,rL a1),(7,rI x2)],[],(i3 0),19⟩) (AH [n0]) hit1 wk ?_
 intro n2 x2 i3 v1 hv1 hx1
 have h2:It a1 n2 x2=some v1:=hv1; unfold It at h2
 refine aU (xS R (aZ (aT fun c7=>(cI R h2 (fun h3=>?_) fun h3=>?_))))
 ·refine Zd (c7 _ (aT fun c8=>(Ze (aU (mM R (mA R (aZ (aR (mM R (mM R (mM R (Zc h3 fun x4 ex4 h4=>(xI A5 R ex4 (sQ R (Zl R CI iL) (xV (.int .i64 x4.N) AI R (Zc h4 fun n5 en5 h5=>(xA R en5 (mA R (aZ (c8 _ (aF [0,3,6,7] ?_)))))))))))))))))))))
  exact aR (Zc h5 fun x5 ex5 h6=>(xA R ex5 (mM R (Zg (Zx h6 (AH [(i3 0)]) wk)))))
 exact Zm (wK3 _ _ wk (J1 _ (AH [(i3 0)]) (xH hx1 h3)))
theorem Uc {g1 e1 r} (h:Ly g1 e1=some r):Ad Tryz.prog 10 [.agg (AP g1),.agg (AZ e1)] (rB r):=by
 unfold Ly at h
 exact mF Tryz.func10 Tryz.ntmps10 R fun n0=>aU (sS R (Zu (cs:=(AP g1)) 2 R iL R R) (sS R (Zu (cs:=(AZ e1)) 3 R iL R R) (mA R (aZ (aU (lF Dw AI R R (sQ R (Dp R iL iL) (mM R (vF EC AI R R (vQ R (Dp R (iR R) iL) (xN R (mM R (vF D2 Bd R R (Zc h fun r1 er1 h1=>vL (fun hg=>QA (Ai er1 hg)) R (vQ R (Dp R (iR R) iL) (xN R (mM R (vF Dm Bd R R (Zc h1 fun r2 er2 h2=>vL (fun hg=>QA (Ai er2 hg)) R (vQ R (Dp R (iR R) iL) (xN R (mA R (aZ (Zk (yB h2 R)))))))))))))))))))))))))
theorem TN {a1 r} (h:HO a1=some r):Ad Tryz.prog 60 [qb a1] (.r (.sl (r.map (AU .i64)))):=by
 unfold HO at h
 refine mF Tryz.func60 Tryz.ntmps60 R fun n0=>aU (mA R (aZ (aU (mA R (aZ (aS fun K3 c3 wK3=>(aU (mM R (xL A5 R (mM R (aZ (Ze (A7 h fun o1 hit1 hk1=>?_)))))))))))))
 have J1 : ∀ (out4:List Int) (i5:NN),o1=out4→K3 ⟨[(3,.own 5003 (i5 0))],[(5003,some (.arr (i5 0) 3 1 (out4.map (AU .i64))))],(i5 1),28⟩:=by
  intro out4 i5 e
  have h1:=hk1 _ e
  exact c3 _ (aU (mM R (mA R (aZ (Zk (Cp (P:=Tryz.prog) (fun (r:(List Int))=>.r (.sl (r.map (AU .i64)))) h1 iL (.t (.one (.own R)))))))))
 refine B0 (fun (x2:Int) (out2:List Int) i3=>⟨[(0,qb a1),(3,.own 5003 (i3 0)),(6,rL a1),(7,rI x2)],[(5003,some (.arr (i3 0) 3 1 (out2.map (AU .i64))))],(i3 1),28⟩) (AH [n0,(n0+1)]) hit1 (Zn (Zn (Gp 3 5003 3 1 (by decide) R) (by exact Ae.cv (e':=[(0,qb a1),(2,cZ),(3,.own 5003 n0),(5,qb a1),(6,rL a1),(7,rI 0)]) (h':=[(5003,some (.arr n0 3 1 (([]:List Int).map (AU .i64))))]) ⟨jL,jL,jL,jL,jL,jL,Za⟩ ⟨.inl R,Za⟩ nL)) wk) ?_
 intro x2 out2 i3 v1 hv1 hx1
 have h2:Ep a1 x2 out2=some v1:=hv1; unfold Ep at h2
 refine aU (xS R (aZ (aT fun c7=>(cI R h2 (fun h3=>?_) fun h3=>?_))))
 ·refine Zd (c7 _ (aS fun K8 c8 wK8=>(Ze (aU (mM R (mA R (aZ (aU (mM R (mM R (Zc h3 fun x4 ex4 h4=>(xI A5 R ex4 (sQ R (Zl R CI iL) (xV (.int .i64 x4.N) AI R (mM R (aZ (Ze (A7 h4 fun o2 hit2 hk2=>?_))))))))))))))))))
  have J2 : ∀ (out8:List Int) (i10:NN),o2=out8→K8 ⟨[(0,qb a1),(3,.own 5003 (i10 0)),(6,rL a1),(7,rI x2)],[(5003,some (.arr (i10 0) 3 1 (out8.map (AU .i64))))],(i10 1),28⟩:=by
   intro out8 i10 e
   have h5:=hk2 _ e
   exact c8 _ (aR (Zc h5 fun x8 ex8 h6=>(xA R ex8 (mM R (Zg (Zx h6 (AH [(i10 0),(i10 1)]) wk))))))
  refine B0 (fun (x6:Int) (out6:List Int) i8=>⟨[(0,qb a1),(3,.own 5003 (i8 0)),(4,rI x2),(6,rL a1),(7,rI x2),(14,rI x4.N),(15,rI x6)],[(5003,some (.arr (i8 0) 3 1 (out6.map (AU .i64))))],(i8 1),28⟩) (AH [(i3 0),(i3 1)]) hit2 wk ?_
  intro x6 out6 i8 v2 hv2 hx2
  have h7:Fa x4 x6 out6=some v2:=hv2; unfold Fa at h7
  refine aU (xS R (aZ (aT fun c12=>(cI R h7 (fun h8=>?_) fun h8=>?_))))
  ·exact Zd (c12 _ (aT fun c13=>(Ze (aR (mM R (mM R (mM R (xI A5 R ex4 (sQ R (Zl R B8 iL) (xV (.int .i64 x4.Kind) AI R (sS R (Bp 23 R BS (f:=(AU .i64)) (l:=([x4.Kind]:List Int)) ⟨R,⟨_,iL,R⟩,Za⟩ R (fun _=>R) R) (Zc h8 fun out9 eout9 h9=>(sS R (Bv R BS iL R (.inr (.inl ⟨_,_,iL,R⟩)) eout9) (mA R (aZ (c13 _ (aR (Zc h9 fun x9 ex9 h10=>(xA R ex9 (mM R (Zg (Zx h10 (AH [((i8 1)+1),((i8 1)+2)]) wk))))))))))))))))))))))
  exact Zm (wK8 _ _ wk (J2 _ (AH [(i8 0),(i8 1)]) (xH hx2 h8)))
 exact Zm (wK3 _ _ wk (J1 _ (AH [(i3 0),(i3 1)]) (xH hx1 h3)))
theorem Rl {a1 n1 r} (h:Ip a1 n1=some r):Ad Tryz.prog 33 [qb a1,rI n1] (.r (.sl (r.map (AU .i64)))):=by
 unfold Ip at h
 refine mF Tryz.func33 Tryz.ntmps33 R fun n0=>aU (mA R (aZ (aT fun c2=>(aU (mM R (xL A5 R (xQ R (aZ (cI R h (fun h1=>?_) fun h1=>?_)))))))))
 ·refine aT fun c4=>(aR (mM R ?_))
  refine sQ R (CF R Ic (q:=[(0,_),(1,_)]) (by exact ⟨R,R,R,iL,R,R,R,iL,Za⟩) (cs:=[rI 0,rI n1]) (by rfl)) ?_
  refine sS R (Bp 10 R A5 (f:=AG.row) (l:=([(AG.mk 0 n1)]:List AG)) ⟨R,⟨_,iL,R⟩,Za⟩ R (fun _=>R) R) ?_
  refine AR.weak (by exact Ib (e':=[(0,qb a1),(1,rI n1),(4,cZ),(5,qb a1),(6,rL a1),(7,rB ((decide ((a1.length:Int)=0)))),(8,rI n1),(9,.agg [rI 0,rI n1]),(10,.r (.sl ([(AG.mk 0 n1)].map AG.row)))]) (h':=[]) 10 R ⟨jL,jL,jL,jL,jL,jL,jL,jL,.inl (.inr (.inr ⟨R,R⟩)),Za⟩ Za) ?_
  exact Zc h1 fun r1 er1 h2=>(sS R (Zw (r:=.r (.sl (r1.map (AU .i64)))) (caps:=[]) (bs:=[.r (.sl ([(AG.mk 0 n1)].map AG.row))]) R iL R ⟨.inl ⟨iL,R⟩,Za⟩ (fun _=>TN (er1))) (mA R (aZ (c4 _ (Zk (Cp (P:=Tryz.prog) (fun (r:(List Int))=>.r (.sl (r.map (AU .i64)))) h2 iL (.t (.d R))))))))
 exact Zd (c2 _ (aU (mM R (Zc h1 fun r2 er2 h3=>(sS R (Zw (r:=.r (.sl (r2.map (AU .i64)))) (caps:=[]) (bs:=[qb a1]) R iL R ⟨.inl ⟨iL,R⟩,Za⟩ (fun _=>TN (er2))) (mA R (aZ (Zk (Cp (P:=Tryz.prog) (fun (r:(List Int))=>.r (.sl (r.map (AU .i64)))) h3 iL (.t (.d R)))))))))))
theorem O5 {u r} (h:IH u=some r):Ad Tryz.prog 34 [.r (.sl (u.map (AU .i64)))] (.tup [.r (.sl (r.1.map (AU .i64))),.r (.sl (r.2.map (AU .i64)))]):=by
 unfold IH at h
 refine mF Tryz.func34 Tryz.ntmps34 R fun n0=>aU (mA R (mA R (aZ (aU (mA R (mA R (aZ (aU (mA R (aZ (aS fun K4 c4 wK4=>(aU (mM R (xL BS R (mM R (aZ (Ze (DW h fun o1 hit1 hk1=>?_))))))))))))))))))
 have J1 : ∀ (rows4:List Int) (ahead4:List Int) (i5:NN),o1=(rows4,ahead4)→K4 ⟨[(4,.own 5004 (i5 0)),(5,.own 5005 (i5 1))],[(5004,some (.arr (i5 0) 3 1 (rows4.map (AU .i64)))),(5005,some (.arr (i5 1) 3 1 (ahead4.map (AU .i64))))],(i5 2),43⟩:=by
  intro rows4 ahead4 i5 e
  have h1:=hk1 _ _ e
  exact c4 _ (aU (mM R (mM R (mA R (mA R (aZ (Zk (Bq (P:=Tryz.prog) (fun (r:(List Int) × (List Int))=>.r (.sl (r.1.map (AU .i64)))) (fun (r:(List Int) × (List Int))=>.r (.sl (r.2.map (AU .i64)))) h1 iL (.t (.one (.own R))) (.t (.one (.own R)))))))))))
 refine cQ (fun (old2:Int) (x2:Int) (rows2:List Int) (ahead2:List Int) i3=>⟨[(0,.r (.sl (u.map (AU .i64)))),(4,.own 5004 (i3 0)),(5,.own 5005 (i3 1)),(6,rI old2),(9,rL u),(10,rI x2)],[(5004,some (.arr (i3 0) 3 1 (rows2.map (AU .i64)))),(5005,some (.arr (i3 1) 3 1 (ahead2.map (AU .i64))))],(i3 2),43⟩) (AH [n0,(n0+1),(n0+2)]) hit1 (Zn (Zn (Gp 4 5004 3 1 (by decide) R) (by exact Ae.cv (e':=[(0,.r (.sl (u.map (AU .i64)))),(2,cZ),(3,cZ),(4,.own 5004 n0),(5,cZ),(6,rI 0),(8,.r (.sl (u.map (AU .i64)))),(9,rL u),(10,rI 0)]) (h':=[(5004,some (.arr n0 3 1 (([]:List Int).map (AU .i64))))]) ⟨jL,jL,jL,jL,jL,jL,jL,jL,jL,Za⟩ ⟨.inl R,Za⟩ nL)) (Zn (Zn (Gp 5 5005 3 1 (by decide) R) (by exact Ae.cv (e':=[(0,.r (.sl (u.map (AU .i64)))),(2,cZ),(3,cZ),(4,.own 5004 n0),(5,.own 5005 (n0+1)),(6,rI 0),(8,.r (.sl (u.map (AU .i64)))),(9,rL u),(10,rI 0)]) (h':=[(5004,some (.arr n0 3 1 (([]:List Int).map (AU .i64)))),(5005,some (.arr (n0+1) 3 1 (([]:List Int).map (AU .i64))))]) ⟨jL,jL,jL,jL,jL,jL,jL,jL,jL,Za⟩ ⟨.inl R,.inl R,Za⟩ nL)) wk)) ?_
 intro old2 x2 rows2 ahead2 i3 v1 hv1 hx1
 have h2:I0 u old2 x2 rows2 ahead2=some v1:=hv1; unfold I0 at h2
 refine aU (xS R (aZ (aT fun c8=>(cI R h2 (fun h3=>?_) fun h3=>?_))))
 ·refine Zd (c8 _ (aS fun K9 c9 wK9=>(Ze (Ww h3 fun p1 hp1 hk2=>?_))))
  have J2 : ∀ (old4:Int) (rows5:List Int) (ahead5:List Int) (i6:NN),p1=(old4,rows5,ahead5)→K9 ⟨[(0,.r (.sl (u.map (AU .i64)))),(4,.own 5004 (i6 0)),(5,.own 5005 (i6 1)),(6,rI old4),(9,rL u),(10,rI x2)],[(5004,some (.arr (i6 0) 3 1 (rows5.map (AU .i64)))),(5005,some (.arr (i6 1) 3 1 (ahead5.map (AU .i64))))],(i6 2),43⟩:=by
   intro old4 rows5 ahead5 i6 e
   have h4:=hk2 _ _ _ e
   exact c9 _ (aR (Zc h4 fun x4 ex4 h5=>(xA R ex4 (mM R (Zg (NR.mk h5 (AH [(i6 0),(i6 1),(i6 2)]) wk))))))
  refine aU (mM R (mA R (aZ (aU (mM R (mM R (Zc hp1 fun x5 ex5 h6=>(xI BS R ex5 (xV (.int .i64 x5) AI R (aZ (Ze (aU (xQ R (mA R (aZ (cI R h6 (fun h7=>?_) fun h7=>?_))))))))))))))))
  ·refine aT fun c13=>(aG [0,4,5,6,9,10] [5004,5005] ?_)
   exact aR (mM R (mM R (sS R (Bp 23 R BS (f:=(AU .i64)) (l:=([old2]:List Int)) ⟨R,⟨_,iL,R⟩,Za⟩ R (fun _=>R) R) (Zc h7 fun rows6 erows6 h8=>(sS R (Bv R BS iL R (.inr (.inl ⟨_,_,iL,R⟩)) erows6) (mM R (mM R (sS R (Bp 27 R BS (f:=(AU .i64)) (l:=([old2]:List Int)) ⟨R,⟨_,iL,R⟩,Za⟩ R (fun _=>R) R) (Zc h8 fun ahead6 eahead6 h9=>(sS R (Bv R BS iL R (.inr (.inl ⟨_,_,iL,R⟩)) eahead6) (mA R (mA R (aZ (c13 _ (aR (mM R (Zc h9 fun old5 eold5 h10=>(xA R eold5 (mA R (Zg (wK9 _ _ wk (J2 _ _ _ (AH [((i3 2)+1),((i3 2)+3),((i3 2)+4)]) (Zb h10).symm))))))))))))))))))))))
  refine aU (xQ R (mA R (aZ (cI R h7 (fun h11=>?_) fun h11=>?_))))
  ·refine aG [0,4,5,6,9,10] [5004,5005] ?_
   exact aR (mM R (sS R (Bp 34 R BS (f:=(AU .i64)) (l:=([(-1)]:List Int)) ⟨R,⟨_,iL,R⟩,Za⟩ R (fun _=>R) R) (Zc h11 fun rows7 erows7 h12=>(sS R (Bv R BS iL R (.inr (.inl ⟨_,_,iL,R⟩)) erows7) (mM R (mM R (sS R (Bp 38 R BS (f:=(AU .i64)) (l:=([old2]:List Int)) ⟨R,⟨_,iL,R⟩,Za⟩ R (fun _=>R) R) (Zc h12 fun ahead7 eahead7 h13=>(sS R (Bv R BS iL R (.inr (.inl ⟨_,_,iL,R⟩)) eahead7) (mA R (mA R (Zg (wK9 _ _ wk (J2 _ _ _ (AH [((i3 2)+1),((i3 2)+3),((i3 2)+4)]) (Zb h13).symm))))))))))))))
  refine aG [0,4,5,6,9,10] [5004,5005] ?_
  exact aR (mM R (Zc h11 fun old6 eold6 h14=>(xA R eold6 (mA R (Zg (wK9 _ _ wk (J2 _ _ _ (AH [(i3 0),(i3 1),(i3 2)]) (Zb h14).symm)))))))
 exact Zm (wK4 _ _ wk (J1 _ _ (AH [(i3 0),(i3 1),(i3 2)]) (xH hx1 h3)))
theorem Wp {l1 b c r} (h:JI l1 b c=some r):Ad Tryz.prog 35 [qc l1,rI b,rI c] (.agg (AY r)):=by
 unfold JI at h
 refine mF Tryz.func35 Tryz.ntmps35 R fun n0=>aU (sS R (Zo (cs:=DV) 6 R EU R R) (aZ (aS fun K2 c2 wK2=>(aU (mM R (xL Aq R (mM R (aZ (Ze (BH h fun o1 hit1 hk1 he1=>?_))))))))))
 have J1 : ∀ (u2:Unit) (i5:NN),o1 = .nrm u2→K2 ⟨[(1,rI b),(2,rI c),(6,.ptr 6 n0 0 0)],[(6,some (.box n0 43 DV))],(i5 0),37⟩:=by
  intro u2 i5 e
  have h1:=hk1 _ e
  refine c2 _ (aT fun c4=>(aR (mM R (mM R ?_))))
  refine sQ R (CF R H9 (q:=[(0,_),(1,_)]) (by exact ⟨R,R,R,iL,R,R,R,iL,Za⟩) (cs:=[rI b,rI c,.r (.str []),rI 0,cZ]) (by rfl)) ?_
  refine Zi R R (Zh (ds:=[rI b,rI c,.r (.str []),rI 0,cZ]) R DI iL R iL R R R R) (oZ c4 ?_)
  exact Zk (Cp (P:=Tryz.prog) (fun (r:AC)=>.agg (AY r)) h1 iL (.a BC R R R (.agg (by exact ⟨.closed _ R,.closed _ R,.closed _ R,.closed _ R,.nil,Za⟩))))
 refine Zv (fun (x2:Int) i3=>⟨[(0,qc l1),(1,rI b),(2,rI c),(6,.ptr 6 n0 0 0),(9,rL l1),(10,rI x2)],[(6,some (.box n0 43 DV))],(i3 0),37⟩) (AH [(n0+1)]) hit1 wk ?_
 intro x2 i3 v1 hv1 hx1
 have h2:If l1 b c x2=some v1:=hv1; unfold If at h2
 refine aU (xS R (aZ (aT fun c6=>(cI R h2 (fun h3=>?_) fun h3=>?_))))
 ·refine Zd (c6 _ (aT fun c7=>(Ze (aU (mM R (mA R (aZ (aU (mM R (mM R (Zc h3 fun x4 ex4 h4=>(xI Aq R ex4 (sQ R (Zl R CP iL) (xV (.int .i64 x4.Row) AI R (mM R (xQ R (mM R (vM R (vM R (vQ R (Zp R Aq.slice (iR R) (iR R) (fun _=>R) (fun _=>ex4)) (vQ R (Zl R Cs (iR R)) (vQ R (Bk (d:=.int .i64 x4.Col) R AI (iR R) R) (vM R (vQ R (BT R (iR R) (iR R)) (xN R (aZ (cI R h4 (fun h5=>?_) fun h5=>?_)))))))))))))))))))))))))))
  ·refine aT fun c10=>(aG [0,6,7] [6] ?_)
   exact aR (mM R (mM R (xI Aq R ex4 (xB ((AY x4)) BC R (Zi R R (Zh (ds:=(AY x4)) R DI iL R iL R R R R) (aZ (c10 _ (Zk (Cp (P:=Tryz.prog) (fun (r:AC)=>.agg (AY r)) (he1 _ (xH hx1 h5)) iL (.a BC R R R (.g (cs:=[.int .i64 x4.Row,.int .i64 x4.Col,.str x4.Text,.int .i64 x4.Ref,.sl (x4.Attrs.map Ak.row)]) R R)))))))))))
  refine Zd (c7 _ (aG [0,1,2,6,9,10] [6] ?_))
  exact aR (Zc h5 fun x5 ex5 h6=>(xA R ex5 (mM R (Zg (Zs h6 (AH [(i3 0)]) wk)))))
 exact Zm (wK2 _ _ wk (J1 _ (AH [(i3 0)]) (xH hx1 h3)))
theorem W1 {u a r} (h:Lt u a=some r):Ad Tryz.prog 82 [.r (.sl (u.map (AU .i64))),rI a] (rI r):=by
 unfold Lt at h
 refine mF Tryz.func82 Tryz.ntmps82 R fun n0=>aU (mA R (aZ (aU (mM R (Bw h fun r1 r2 er1 h1=>(sS R (Zw (r:=.tup [.r (.sl (r1.map (AU .i64))),.r (.sl (r2.map (AU .i64)))]) (caps:=[]) (bs:=[.r (.sl (u.map (AU .i64)))]) R iL R ⟨.inl ⟨iL,R⟩,Za⟩ (fun _=>O5 (er1))) (mM R (xX R (xX R (mA R (mA R (aZ (aS fun K3 c3 wK3=>(aU (mM R (xL BS R (mM R (aZ (Ze (BH h1 fun o1 hit1 hk1 he1=>?_))))))))))))))))))))
 have J1 : ∀ (u2:Unit) (i5:NN),o1 = .nrm u2→K3 ⟨[],[],(i5 0),26⟩:=by
  intro u2 i5 e
  have h2:=hk1 _ e
  exact c3 _ (zI h2 R id)
 refine Zv (fun (x2:Int) i3=>⟨[(1,rI a),(5,.r (.sl (r1.map (AU .i64)))),(14,rL r1),(15,rI x2)],[],(i3 0),26⟩) (AH [n0]) hit1 wk ?_
 intro x2 i3 v1 hv1 hx1
 have h3:IQ a r1 x2=some v1:=hv1; unfold IQ at h3
 refine aU (xS R (aZ (aT fun c7=>(cI R h3 (fun h4=>?_) fun h4=>?_))))
 ·refine Zd (c7 _ (aT fun c8=>(Ze (aU (mM R (mA R (aZ (aU (mM R (mM R (Zc h4 fun x4 ex4 h5=>(xI BS R ex4 (xV (.int .i64 x4) AI R (mM R (xQ R (aZ (cI R h5 (fun h6=>?_) fun h6=>?_)))))))))))))))))
  ·refine aT fun c11=>(aF [7] ?_)
   exact aR (mM R (mA R (aZ (c11 _ (Zk (yI (he1 _ (xH hx1 h6)) R))))))
  refine Zd (c8 _ (aF [1,5,14,15] ?_))
  exact aR (Zc h6 fun x5 ex5 h7=>(xA R ex5 (mM R (Zg (Zs h7 (AH [(i3 0)]) wk)))))
 exact Zm (wK3 _ _ wk (J1 _ (AH [(i3 0)]) (xH hx1 h4)))
theorem QT {u f a r} (h:IJ u f a=some r):Ad Tryz.prog 61 [.r (.sl (u.map (AU .i64))),rI f,rI a] (.tup [rI r.1,rI r.2]):=by
 unfold IJ at h
 refine mF Tryz.func61 Tryz.ntmps61 R fun n0=>aU (mA R (mA R (aZ (aU (mA R (mA R (aZ (aS fun K3 c3 wK3=>(aU (mM R (Zc h fun row1 erow1 h1=>(sQ R (Ba R iL iL (fun _=>erow1)) (mA R (aZ (Ze (DW h1 fun o1 hit1 hk1=>?_))))))))))))))))
 have J1 : ∀ (low4:Int) (high4:Int) (i5:NN),o1=(low4,high4)→K3 ⟨[(8,rI low4),(9,rI high4)],[],(i5 0),31⟩:=by
  intro low4 high4 i5 e
  have h2:=hk1 _ _ e
  exact c3 _ (aU (mM R (mM R (mA R (mA R (aZ (Zk (Bq (P:=Tryz.prog) (fun (r:Int × Int)=>rI r.1) (fun (r:Int × Int)=>rI r.2) h2 iL (.t (.d R)) (.t (.d R))))))))))
 refine Gr (fun (low2:Int) (high2:Int) (row3:Int) i3=>⟨[(0,.r (.sl (u.map (AU .i64)))),(1,rI f),(8,rI low2),(9,rI high2),(10,rI row3)],[],(i3 0),31⟩) (AH [n0]) hit1 wk ?_
 intro low2 high2 row3 i3 v1 hv1 hx1
 have h3:Jc u f low2 high2 row3=some v1:=hv1; unfold Jc at h3
 refine aT fun c6=>(aU (mM R (mM R (sQ R (B4 R iL iL) (aZ (cI R h3 (fun h4=>?_) fun h4=>?_))))))
 ·refine Zd (c6 _ (aS fun K8 c8 wK8=>(Ze (DW h4 fun p1 hp1 hk2=>?_))))
  have J2 : ∀ (low5:Int) (high5:Int) (i6:NN),p1=(low5,high5)→K8 ⟨[(0,.r (.sl (u.map (AU .i64)))),(1,rI f),(8,rI low5),(9,rI high5),(10,rI row3)],[],(i6 0),31⟩:=by
   intro low5 high5 i6 e
   have h5:=hk2 _ _ e
   exact c8 _ (aR (mM R (Zc h5 fun row5 erow5 h6=>(sQ R (Ba R iL iL (fun _=>erow5)) (mA R (Zg (Es.mk h6 (AH [(i6 0)]) wk)))))))
  refine aU (mM R (mM R (Zc hp1 fun k1 ek1 h7=>(cL (W1 (ek1)) R (mA R (aZ (aU (mM R (sQ R (B4 R iL iL) (aZ (cI R h7 (fun h8=>?_) fun h8=>?_)))))))))))
  ·refine aT fun c11=>(aF [0,1,9,10,11] ?_)
   refine aR (mM R (mA R (aZ (c11 _ (aU (mM R (xQ R (aZ (cI R h8 (fun h9=>?_) fun h9=>?_)))))))))
   ·exact aR (mM R (Zc h9 fun high6 ehigh6 h10=>(xA R ehigh6 (mA R (Zg (wK8 _ _ wk (J2 _ _ (AH [(i3 0)]) (Zb h10).symm)))))))
   exact Zd (wK8 _ _ wk (J2 _ _ (AH [(i3 0)]) (Zb h9).symm))
  exact Zd (wK8 _ _ wk (J2 _ _ (AH [(i3 0)]) (Zb h8).symm))
 exact Zm (wK3 _ _ wk (J1 _ _ (AH [(i3 0)]) (xH hx1 h4)))
theorem UU {r1 b c r} (h:Kw r1 b c=some r):Ad Tryz.prog 37 [.agg (AL r1),.r (.sl (b.map (AU .i64))),.r (.sl (c.map (AU .i64)))] (.agg (AL r)):=by
 unfold Kw at h
 refine mF Tryz.func37 Tryz.ntmps37 R fun n0=>aU (sS R (Zu (cs:=(AL r1)) 3 R iL R R) (sS R (Zo (cs:=Ca) 6 R DZ R R) (aZ (aU (sS R (Zo (cs:=Ca) 7 R DZ R R) (aZ (aU (mM R (lF Bj AI R R (lF Bj AI R R (lF DF AI R R (Zc h fun x1 ex1 h1=>(xA R ex1 (Bw h1 fun r2 r3 er2 h2=>(cL (QT (er2)) R (mM R (xX R (xX R (mA R (mA R (aZ (aT fun c4=>(aG [2,3,6,7,8,9] [3,6,7] ?_)))))))))))))))))))))))
 refine aR (mM R (lF Br AI R R (lF Br AI R R (lF DR AI R R (Zc h2 fun x2 ex2 h3=>(xA R ex2 (Bw h3 fun r4 r5 er4 h4=>(cL (QT (er4)) R (mM R (xX R (xX R (mA R (mA R (aZ (c4 _ (aS fun K5 c5 wK5=>(aT fun c6=>(aG [6,7,8,9,10,11] [6,7] ?_))))))))))))))))))
 refine aR (mM R (mM R (xS R (mM R (vM R (vM R (vQ R (Bh R (iR R) (iR R)) (xN R (mM R (vM R (vM R (Zc h4 fun x3 ex3 h5=>(vQ R (Ba R (iR R) (iR R) (Ai ex3)) (vM R (Zc h5 fun x4 ex4 h6=>(vQ R (Fg R (iR R) (iR R) (Ai ex4)) (vM R (Zc h6 fun x5 ex5 h7=>(vQ R (Ba R (iR R) (iR R) (Ai ex5)) (vQ R (BM R (iR R) iL) (xN R (aZ (c6 _ (A7 h7 fun p1 hp1 hk1=>?_))))))))))))))))))))))))
 have J1 : ∀ (out1:AD) (i1:NN),p1=out1→K5 ⟨[(6,.ptr 6 (n0+1) 0 0),(7,.ptr 7 (n0+2) 0 0)],[(6,some (.box (n0+1) 47 Ca)),(7,some (.box (n0+2) 47 (AL out1)))],(i1 0),64⟩:=by
  intro out1 i1 e
  have h8:=hk1 _ e
  exact c5 _ (aU (xC Au R (Zi R R (Zh (ds:=(AL out1)) R DE iL R iL R R R R) (aZ (Zk (Cp (P:=Tryz.prog) (fun (r:AD)=>.agg (AL r)) h8 iL (.a Au R R R (.g (cs:=[.int .i64 out1.Row,.int .i64 out1.Col,.int .i64 out1.H,.int .i64 out1.W]) R R))))))))
 refine aC R (fun hc1=>?_) (fun hc1=>?_)
 ·have h9:=CE hc1 hp1
  refine aG [6,7,8,9,10,11] [6,7] ?_
  refine aR (mM R (mM R (mM R (mM R (Zc h9 fun x6 ex6 h10=>(sQ R (Ba R iL iL (fun _=>ex6)) (mM R (mM R (Zc h10 fun x7 ex7 h11=>(sQ R (Ba R iL iL (fun _=>ex7)) ?_))))))))))
  refine sQ R (CF R QH (q:=[(0,_),(1,_),(2,_),(3,_)]) (by exact ⟨R,R,R,iL,R,R,R,iL,R,R,R,iL,R,R,R,iL,Za⟩) (cs:=[rI r2,rI r4,rI x6,rI x7]) (by rfl)) ?_
  exact Zi R R (Zh (ds:=[rI r2,rI r4,rI x6,rI x7]) R DE iL R iL R R R R) (Zg (wK5 _ _ wk (J1 _ (AH [(n0+3)]) (Zb h11).symm)))
 ·have h9:=CA hc1 hp1
  exact Zd (wK5 _ _ wk (J1 _ (AH [(n0+3)]) (Zb h9).symm))
theorem Rr {g1 e1 r} (h:IT g1 e1=some r):Ad Tryz.prog 12 [.agg (AP g1),.agg (AZ e1)] (.agg (AP r)):=by
 unfold IT at h
 refine mF Tryz.func12 Tryz.ntmps12 R fun n0=>aU (sS R (Zu (cs:=(AP g1)) 2 R iL R R) (sS R (Zu (cs:=(AZ e1)) 3 R iL R R) (sS R (Zo (cs:=BB) 4 R Hl R R) (aZ (aT fun c2=>(Zc h fun rows1 erows1 h1=>?_))))))
 refine rP 9 [pO 27 (.ptr 3 (n0+1) 0 0),pO 28 (qb e1.Rows),pO 29 (.ptr 2 n0 0 0),pO 30 (rI g1.Rows),pO 31 (.r (.sl (rows1.map (AU .i64)))),pO 32 (.ptr 3 (n0+1) 0 1),pO 33 (qb e1.Cols),pO 34 (.ptr 2 n0 0 1),pO 35 (rI g1.Cols)] BG R (by exact ⟨oB [(3,.ptr 3 (n0+1) 0 0)] [(3,some (.box (n0+1) 28 (AZ e1)))] (fB R D2 (.inl R) (fun _=>R) R),oB [(27,.ptr 3 (n0+1) 0 0)] [(3,some (.box (n0+1) 28 (AZ e1)))] (Zj (a:=qb e1.Rows) R Bd (.inl R) R R),oB [(2,.ptr 2 n0 0 0)] [(2,some (.box n0 25 (AP g1)))] (fB R Dw (.inl R) (fun _=>R) R),oB [(29,.ptr 2 n0 0 0)] [(2,some (.box n0 25 (AP g1)))] (Zj (a:=rI g1.Rows) R AI (.inl R) R R),oD (fun _=>[(28,qb e1.Rows),(30,rI g1.Rows)]) (fun _=>[]) (fun G1 e h' n=>Zw (r:=.r (.sl (rows1.map (AU .i64)))) (caps:=[]) (bs:=[qb e1.Rows,rI g1.Rows]) R (.inl R) R ⟨.inl ⟨(.inl R),R⟩,.inl ⟨(.inl R),R⟩,Za⟩ (fun _=>Rl (erows1))),oB [(3,.ptr 3 (n0+1) 0 0)] [(3,some (.box (n0+1) 28 (AZ e1)))] (fB R Dm (.inl R) (fun _=>R) R),oB [(32,.ptr 3 (n0+1) 0 1)] [(3,some (.box (n0+1) 28 (AZ e1)))] (Zj (a:=qb e1.Cols) R Bd (.inl R) R R),oB [(2,.ptr 2 n0 0 0)] [(2,some (.box n0 25 (AP g1)))] (fB R EC (.inl R) (fun _=>R) R),oB [(34,.ptr 2 n0 0 1)] [(2,some (.box n0 25 (AP g1)))] (Zj (a:=rI g1.Cols) R AI (.inl R) R R),Za⟩) fun G1 n1=>?_
 refine CB [0,1,2,3,4,27,28,29,30,31,32,33,34,35] [2,3,4] ?_
 refine Zc h1 fun cols1 ecols1 h2=>(sS R (Zw (r:=.r (.sl (cols1.map (AU .i64)))) (caps:=[]) (bs:=[qb e1.Cols,rI g1.Cols]) R iL R ⟨.inl ⟨iL,R⟩,.inl ⟨iL,R⟩,Za⟩ (fun _=>Rl (ecols1))) (mA R (mA R (aZ (c2 _ (aT fun c3=>(aG [2,3,4,5,6] [2,3,4] ?_)))))))
 refine aR (mM R (Bw h2 fun r1 r2 er1 h3=>(sS R (Zw (r:=.tup [.r (.sl (r1.map (AU .i64))),.r (.sl (r2.map (AU .i64)))]) (caps:=[]) (bs:=[.r (.sl (rows1.map (AU .i64)))]) R iL R ⟨.inl ⟨iL,R⟩,Za⟩ (fun _=>O5 (er1))) (mM R (xX R (xX R (mA R (mA R (aZ (c3 _ (aU (mM R (Bw h3 fun r3 r4 er3 h4=>(sS R (Zw (r:=.tup [.r (.sl (r3.map (AU .i64))),.r (.sl (r4.map (AU .i64)))]) (caps:=[]) (bs:=[.r (.sl (cols1.map (AU .i64)))]) R iL R ⟨.inl ⟨iL,R⟩,Za⟩ (fun _=>O5 (er3))) (mM R (xX R (xX R (mA R (mA R (aZ (aT fun c5=>(aG [2,3,4,5,6,7,9] [2,3,4] ?_))))))))))))))))))))))
 refine aR (mM R (xL BS R (mM R (xL BS R ?_))))
 refine sQ R (CF R M4 (q:=[(0,_),(1,_)]) (by exact ⟨R,R,R,iL,R,R,R,iL,Za⟩) (cs:=[rL r1,rL r3,cZ,cZ]) (by rfl)) ?_
 refine sS R (Zo (cs:=BB) 11 R Hl R R) (Zi R R (Zh (ds:=[rL r1,rL r3,cZ,cZ]) R HE iL R iL R R R R) (aZ (c5 _ (aS fun K6 c6 wK6=>(aU (mM R (xL BS R (mM R (aZ (Ze (A7 h4 fun o1 hit1 hk1=>?_)))))))))))
 have J1 : ∀ (out4:AJ) (i5:NN),o1=out4→K6 ⟨[(2,.ptr 2 n0 0 0),(3,.ptr 3 (n0+1) 0 0),(4,.ptr 4 (n0+2) 0 0),(5,.r (.sl (rows1.map (AU .i64)))),(6,.r (.sl (cols1.map (AU .i64)))),(11,.ptr 11 n1 0 0)],[(2,some (.box n0 25 (AP g1))),(3,some (.box (n0+1) 28 (AZ e1))),(4,some (.box (n0+2) 25 BB)),(11,some (.box n1 25 [rI out4.Rows,rI out4.Cols,.own 129 (i5 0),cZ])),(129,some (.arr (i5 0) 43 5 (out4.Cells.map AC.row)))],(i5 1),256⟩:=by
  intro out4 i5 e
  have h5:=hk1 _ e
  refine c6 _ (aU (mA R (aZ (aS fun K9 c9 wK9=>(aU (lF Bb Aw R R (xL Ag R (mM R (aZ (Ze (A7 h5 fun o2 hit2 hk2=>?_)))))))))))
  have J2 : ∀ (merges4:List AD) (i10:NN),o2=merges4→K9 ⟨[(3,.ptr 3 (n0+1) 0 0),(4,.ptr 4 (n0+2) 0 0),(11,.ptr 11 n1 0 0),(16,.own 5016 (i10 0))],[(3,some (.box (n0+1) 28 (AZ e1))),(4,some (.box (n0+2) 25 BB)),(11,some (.box n1 25 [rI out4.Rows,rI out4.Cols,.own 129 (i5 0),cZ])),(129,some (.arr (i5 0) 43 5 (out4.Cells.map AC.row))),(5016,some (.arr (i10 0) 47 4 (merges4.map AD.row)))],(i10 1),256⟩:=by
   intro merges4 i10 e
   have h6:=hk2 _ e
   refine c9 _ (aS fun K11 c11 wK11=>(aU (lF DH Aw R R (xL Ag R (mM R (aZ (Ze (A7 h6 fun o3 hit3 hk3=>?_))))))))
   have J3 : ∀ (merges8:List AD) (i15:NN),o3=merges8→K11 ⟨[(4,.ptr 4 (n0+2) 0 0),(11,.ptr 11 n1 0 0),(16,.own 5016 (i15 0))],[(4,some (.box (n0+2) 25 BB)),(11,some (.box n1 25 [rI out4.Rows,rI out4.Cols,.own 129 (i5 0),cZ])),(129,some (.arr (i5 0) 43 5 (out4.Cells.map AC.row))),(5016,some (.arr (i15 0) 47 4 (merges8.map AD.row)))],(i15 1),256⟩:=by
    intro merges8 i15 e
    have h7:=hk3 _ e
    refine c11 _ (aS fun K13 c13 wK13=>(aU (lF Dw AI R R (mM R (aZ (Ze (A7 h7 fun o4 hit4 hk4=>?_)))))))
    have J4 : ∀ (out8:AJ) (i20:NN),o4=out8→K13 ⟨[(4,.ptr 4 (n0+2) 0 0),(11,.ptr 11 n1 0 0)],[(4,some (.box (n0+2) 25 BB)),(11,some (.box n1 25 [rI out8.Rows,rI out8.Cols,.own 129 (i20 0),.own 250 (i20 1)])),(129,some (.arr (i20 0) 43 5 (out8.Cells.map AC.row))),(250,some (.arr (i20 1) 47 4 (out8.Merges.map AD.row)))],(i20 2),256⟩:=by
     intro out8 i20 e
     have h8:=hk4 _ e
     refine c13 _ (aU (xC Cf R (Zi R R (Zh (ds:=[rI out8.Rows,rI out8.Cols,.own 129 (i20 0),.own 250 (i20 1)]) R HE iL R iL R R R R) (aZ ?_))))
     exact Zk (Cp (P:=Tryz.prog) (fun (r:AJ)=>.agg (AP r)) h8 iL (.a Cf R R R (.agg (by exact ⟨.closed _ R,.closed _ R,.own R,.own R,Za⟩))))
    refine B0 (fun (x11:Int) (out6:AJ) i18=>⟨[(4,.ptr 4 (n0+2) 0 0),(11,.ptr 11 n1 0 0),(16,.own 5016 (i15 0)),(213,rI out4.Rows),(214,rI x11)],[(4,some (.box (n0+2) 25 BB)),(11,some (.box n1 25 [rI out6.Rows,rI out6.Cols,.own 129 (i18 0),.own 250 (i18 1)])),(129,some (.arr (i18 0) 43 5 (out6.Cells.map AC.row))),(250,some (.arr (i18 1) 47 4 (out6.Merges.map AD.row))),(5016,some (.arr (i15 0) 47 4 (merges8.map AD.row)))],(i18 2),256⟩) (AH [(i5 0),(i15 1),((i15 1)+1)]) hit4 (Zn (Zn (Gq 11 3 250 47 4 (by decide) R R (by decide)) (by exact Ae.cv (e':=[(4,.ptr 4 (n0+2) 0 0),(11,.ptr 11 n1 0 0),(16,.own 5016 (i15 0)),(212,.ptr 11 n1 0 0),(213,rI out4.Rows),(214,rI 0)]) (h':=[(4,some (.box (n0+2) 25 BB)),(11,some (.box n1 25 [rI out4.Rows,rI out4.Cols,.own 129 (i5 0),.own 250 (i15 1)])),(129,some (.arr (i5 0) 43 5 (out4.Cells.map AC.row))),(250,some (.arr (i15 1) 47 4 (([]:List AD).map AD.row))),(5016,some (.arr (i15 0) 47 4 (merges8.map AD.row)))]) ⟨jL,jL,jL,jL,jL,jL,Za⟩ ⟨.inl R,.inl R,.inl R,.inl R,.inl R,Za⟩ nL)) wk) ?_
    intro x11 out6 i18 v1 hv1 hx4
    have h9:Hm out4 merges8 x11 out6=some v1:=hv1; unfold Hm at h9
    refine aU (xS R (aZ (aT fun c17=>(cI R h9 (fun h10=>?_) fun h10=>?_))))
    ·refine Zd (c17 _ (aS fun K18 c18 wK18=>(Ze (aU (mM R (mA R (aZ (aU (lF EC AI R R (mM R (aZ (Ze (A7 h10 fun o5 hit5 hk5=>?_)))))))))))))
     have J5 : ∀ (out12:AJ) (i25:NN),o5=out12→K18 ⟨[(4,.ptr 4 (n0+2) 0 0),(11,.ptr 11 n1 0 0),(16,.own 5016 (i15 0)),(213,rI out4.Rows),(214,rI x11)],[(4,some (.box (n0+2) 25 BB)),(11,some (.box n1 25 [rI out12.Rows,rI out12.Cols,.own 129 (i25 0),.own 250 (i25 1)])),(129,some (.arr (i25 0) 43 5 (out12.Cells.map AC.row))),(250,some (.arr (i25 1) 47 4 (out12.Merges.map AD.row))),(5016,some (.arr (i15 0) 47 4 (merges8.map AD.row)))],(i25 2),256⟩:=by
      intro out12 i25 e
      have h11:=hk5 _ e
      exact c18 _ (aR (Zc h11 fun x16 ex16 h12=>(xA R ex16 (mM R (Zg (Zx h12 (AH [(i25 0),(i25 1),(i25 2)]) wk))))))
     refine B0 (fun (x14:Int) (out10:AJ) i23=>⟨[(4,.ptr 4 (n0+2) 0 0),(11,.ptr 11 n1 0 0),(16,.own 5016 (i15 0)),(24,rI x11),(213,rI out4.Rows),(214,rI x11),(218,rI out6.Cols),(219,rI x14)],[(4,some (.box (n0+2) 25 BB)),(11,some (.box n1 25 [rI out10.Rows,rI out10.Cols,.own 129 (i23 0),.own 250 (i23 1)])),(129,some (.arr (i23 0) 43 5 (out10.Cells.map AC.row))),(250,some (.arr (i23 1) 47 4 (out10.Merges.map AD.row))),(5016,some (.arr (i15 0) 47 4 (merges8.map AD.row)))],(i23 2),256⟩) (AH [(i18 0),(i18 1),(i18 2)]) hit5 wk ?_
     intro x14 out10 i23 v2 hv2 hx5
     have h13:Ht merges8 x11 out6 x14 out10=some v2:=hv2; unfold Ht at h13
     refine aU (xS R (aZ (aT fun c22=>(cI R h13 (fun h14=>?_) fun h14=>?_))))
     ·refine Zd (c22 _ (aS fun K23 c23 wK23=>(Ze (aU (mM R (mA R (aZ (aU (mM R (sQ R (L7 R Ag.slice iL R) (mM R (aZ (Ze (A7 h14 fun o6 hit6 hk6=>?_))))))))))))))
      have J6 : ∀ (out16:AJ) (i30:NN),o6=out16→K23 ⟨[(4,.ptr 4 (n0+2) 0 0),(11,.ptr 11 n1 0 0),(16,.own 5016 (i15 0)),(24,rI x11),(213,rI out4.Rows),(214,rI x11),(218,rI out6.Cols),(219,rI x14)],[(4,some (.box (n0+2) 25 BB)),(11,some (.box n1 25 [rI out16.Rows,rI out16.Cols,.own 129 (i30 0),.own 250 (i30 1)])),(129,some (.arr (i30 0) 43 5 (out16.Cells.map AC.row))),(250,some (.arr (i30 1) 47 4 (out16.Merges.map AD.row))),(5016,some (.arr (i15 0) 47 4 (merges8.map AD.row)))],(i30 2),256⟩:=by
       intro out16 i30 e
       have h15:=hk6 _ e
       exact c23 _ (aR (Zc h15 fun x20 ex20 h16=>(xA R ex20 (mM R (Zg (Zx h16 (AH [(i30 0),(i30 1),(i30 2)]) wk))))))
      refine B0 (fun (x18:Int) (out14:AJ) i28=>⟨[(4,.ptr 4 (n0+2) 0 0),(11,.ptr 11 n1 0 0),(16,.own 5016 (i15 0)),(24,rI x11),(25,rI x14),(213,rI out4.Rows),(214,rI x11),(218,rI out6.Cols),(219,rI x14),(223,rL merges8),(224,rI x18)],[(4,some (.box (n0+2) 25 BB)),(11,some (.box n1 25 [rI out14.Rows,rI out14.Cols,.own 129 (i28 0),.own 250 (i28 1)])),(129,some (.arr (i28 0) 43 5 (out14.Cells.map AC.row))),(250,some (.arr (i28 1) 47 4 (out14.Merges.map AD.row))),(5016,some (.arr (i15 0) 47 4 (merges8.map AD.row)))],(i28 2),256⟩) (AH [(i23 0),(i23 1),(i23 2)]) hit6 wk ?_
      intro x18 out14 i28 v3 hv3 hx6
      have h17:GP merges8 x11 x14 x18 out14=some v3:=hv3; unfold GP at h17
      refine aU (xS R (aZ (aT fun c27=>(cI R h17 (fun h18=>?_) fun h18=>?_))))
      ·refine Zd (c27 _ (aS fun K28 c28 wK28=>(Ze (A7 h18 fun p1 hp1 hk7=>?_))))
       have J7 : ∀ (out17:AJ) (i31:NN),p1=out17→K28 ⟨[(4,.ptr 4 (n0+2) 0 0),(11,.ptr 11 n1 0 0),(16,.own 5016 (i15 0)),(24,rI x11),(25,rI x14),(213,rI out4.Rows),(214,rI x11),(218,rI out6.Cols),(219,rI x14),(223,rL merges8),(224,rI x18)],[(4,some (.box (n0+2) 25 BB)),(11,some (.box n1 25 [rI out17.Rows,rI out17.Cols,.own 129 (i31 0),.own 250 (i31 1)])),(129,some (.arr (i31 0) 43 5 (out17.Cells.map AC.row))),(250,some (.arr (i31 1) 47 4 (out17.Merges.map AD.row))),(5016,some (.arr (i15 0) 47 4 (merges8.map AD.row)))],(i31 2),256⟩:=by
        intro out17 i31 e
        have h19:=hk7 _ e
        exact c28 _ (aR (Zc h19 fun x21 ex21 h20=>(xA R ex21 (mM R (Zg (Zx h20 (AH [(i31 0),(i31 1),(i31 2)]) wk))))))
       refine aU (mM R (mA R (aZ (aU (mM R (mM R (Zc hp1 fun x22 ex22 h21=>(sQ R (Eg R Ag.slice iL R iL (fun _=>ex22)) (sQ R (HN (ob:=.arr _ _ _ _) R Bj iL fR R) (sQ R (KX (d:=.int .i64 x22.Row) R AI iL fR (fun _=>ex22) R) (mM R (xQ R (mM R (vM R (vM R (vQ R (Eg R Ag.slice (iR R) R (iR R) (fun _=>ex22)) (vQ R (HN (ob:=.arr _ _ _ _) R Br (iR R) fR R) (vQ R (KX (d:=.int .i64 x22.Col) R AI (iR R) fR (fun _=>ex22) R) (vM R (vQ R (BT R (iR R) (iR R)) (xN R (aZ (cI R h21 (fun h22=>?_) fun h22=>?_)))))))))))))))))))))))
       ·refine aG [4,11,16,24,25,26,213,214,218,219,223,224] [4,11,129,250,5016] ?_
        refine Jq [] [0,1,2,3,4,5] [6] 7 BG (by kernel_rfl) R R R R R ?_
        exact Dg.nil (Zr R R R (fB R Bb iL fR R) (Zr R R R (Zj (a:=.own 250 (i28 1)) R Aw iL R R) (Zr R R R (Zf R iL) (Zr R R R (Zf R iL) (Zr R R R (Eg R Ag.slice iL R iL (fun _=>ex22)) (Zr R R R (Kb (cs:=(AL x22)) R Au iL fR (fun _=>ex22) R) (AF.nil (AA.step R R R (Kc 249 R Ag (f:=AD.row) (l:=([x22]:List AD)) ⟨R,⟨_,iL,R⟩,Za⟩ R (fun _=>R) R) (AA.nil (Zc h22 fun l1 el1 h23=>(AR.step R R R (Bv R Ag iL R (.inr (.inl ⟨_,_,iL,R⟩)) el1) (sQ R (fB R Bb iL fR R) (Zi R R (Zh (ds:=[rI out14.Rows,rI out14.Cols,.own 129 (i28 0),.own 250 ((i28 2)+1)]) R HJ iL R iL R R R R) (Zg (wK28 _ _ wk (J7 _ (AH [(i28 0),((i28 2)+1),((i28 2)+2)]) (Zb h23).symm))))))))))))))))
       exact Zd (wK28 _ _ wk (J7 _ (AH [(i28 0),(i28 1),(i28 2)]) (Zb h22).symm))
      exact Zm (wK23 _ _ wk (J6 _ (AH [(i28 0),(i28 1),(i28 2)]) (xH hx6 h18)))
     exact Zm (wK18 _ _ wk (J5 _ (AH [(i23 0),(i23 1),(i23 2)]) (xH hx5 h14)))
    exact Zm (wK13 _ _ wk (J4 _ (AH [(i18 0),(i18 1),(i18 2)]) (xH hx4 h10)))
   refine B0 (fun (x8:Int) (merges6:List AD) i13=>⟨[(3,.ptr 3 (n0+1) 0 0),(4,.ptr 4 (n0+2) 0 0),(11,.ptr 11 n1 0 0),(16,.own 5016 (i13 0)),(175,rL e1.Merge),(176,rI x8)],[(3,some (.box (n0+1) 28 (AZ e1))),(4,some (.box (n0+2) 25 BB)),(11,some (.box n1 25 [rI out4.Rows,rI out4.Cols,.own 129 (i5 0),cZ])),(129,some (.arr (i5 0) 43 5 (out4.Cells.map AC.row))),(5016,some (.arr (i13 0) 47 4 (merges6.map AD.row)))],(i13 1),256⟩) (AH [(i10 0),(i10 1)]) hit3 wk ?_
   intro x8 merges6 i13 v4 hv4 hx3
   have h24:GM e1 x8 merges6=some v4:=hv4; unfold GM at h24
   refine aU (xS R (aZ (aT fun c32=>(cI R h24 (fun h25=>?_) fun h25=>?_))))
   ·refine Zd (c32 _ (aT fun c33=>(Ze (aU (mM R (mA R (aZ (aU (mA R (aZ (aS fun K36 c36 wK36=>(aU (mM R (sQ R (L7 R Ag.slice iL R) (mM R (aZ (Ze (A7 h25 fun o7 hit7 hk8=>?_))))))))))))))))))
    have J8 : ∀ (rest4:List AD) (i36:NN),o7=rest4→K36 ⟨[(3,.ptr 3 (n0+1) 0 0),(4,.ptr 4 (n0+2) 0 0),(11,.ptr 11 n1 0 0),(21,rI x8),(22,.own 5022 (i36 0)),(175,rL e1.Merge),(176,rI x8)],[(3,some (.box (n0+1) 28 (AZ e1))),(4,some (.box (n0+2) 25 BB)),(11,some (.box n1 25 [rI out4.Rows,rI out4.Cols,.own 129 (i5 0),cZ])),(129,some (.arr (i5 0) 43 5 (out4.Cells.map AC.row))),(5022,some (.arr (i36 0) 47 4 (rest4.map AD.row)))],(i36 1),256⟩:=by
     intro rest4 i36 e
     have h26:=hk8 _ e
     refine c36 _ (aR (mM R (lF DH Aw R R (mM R (Zc h26 fun x26 ex26 h27=>(xI Ag R ex26 (xB ((AL x26)) Au R (sS R (Bp 209 R Ag (f:=AD.row) (l:=([x26]:List AD)) ⟨R,⟨_,iL,R⟩,Za⟩ R (fun _=>R) R) (Zc h27 fun merges9 emerges9 h28=>(sS R (Bv R Ag iL R (.inr (.inl ⟨_,_,iL,R⟩)) emerges9) (mA R (aZ (c33 _ (aR (Zc h28 fun x27 ex27 h29=>(xA R ex27 (mM R (Zg ?_))))))))))))))))))
     exact Zx h29 (AH [((i36 1)+2),((i36 1)+3)]) (Zn (Zn (Ae.ren 16 5022 5016 R R R) (by exact Ae.cv (e':=[(3,.ptr 3 (n0+1) 0 0),(4,.ptr 4 (n0+2) 0 0),(11,.ptr 11 n1 0 0),(16,.own 5016 ((i36 1)+2)),(21,rI x8),(175,rL e1.Merge),(176,rI x27),(204,.ptr 3 (n0+1) 0 4),(205,qa e1.Merge),(206,rI x8),(207,.rop (AD.row x26) 0),(208,.agg (AL x26)),(209,.own 209 (i36 1)),(211,rI x27)]) (h':=[(3,some (.box (n0+1) 28 (AZ e1))),(4,some (.box (n0+2) 25 BB)),(11,some (.box n1 25 [rI out4.Rows,rI out4.Cols,.own 129 (i5 0),cZ])),(129,some (.arr (i5 0) 43 5 (out4.Cells.map AC.row))),(209,some (.arr (i36 1) 47 4 ([x26].map AD.row))),(5016,some (.arr ((i36 1)+2) 47 4 (merges9.map AD.row)))]) ⟨jL,jL,jL,jL,jL,jL,jL,jL,jL,jL,jL,jL,jL,jL,Za⟩ ⟨.inl R,.inl R,.inl R,.inl R,.inl R,.inl R,Za⟩ nL)) wk)
    refine B0 (fun (x24:Int) (rest2:List AD) i34=>⟨[(3,.ptr 3 (n0+1) 0 0),(4,.ptr 4 (n0+2) 0 0),(11,.ptr 11 n1 0 0),(16,.own 5016 (i13 0)),(21,rI x8),(22,.own 5022 (i34 0)),(175,rL e1.Merge),(176,rI x8),(180,rL merges6),(181,rI x24)],[(3,some (.box (n0+1) 28 (AZ e1))),(4,some (.box (n0+2) 25 BB)),(11,some (.box n1 25 [rI out4.Rows,rI out4.Cols,.own 129 (i5 0),cZ])),(129,some (.arr (i5 0) 43 5 (out4.Cells.map AC.row))),(5016,some (.arr (i13 0) 47 4 (merges6.map AD.row))),(5022,some (.arr (i34 0) 47 4 (rest2.map AD.row)))],(i34 1),256⟩) (AH [(i13 1),((i13 1)+1)]) hit7 (Zn (Zn (Gp 22 5022 47 4 (by decide) R) (by exact Ae.cv (e':=[(3,.ptr 3 (n0+1) 0 0),(4,.ptr 4 (n0+2) 0 0),(11,.ptr 11 n1 0 0),(16,.own 5016 (i13 0)),(21,rI x8),(22,.own 5022 (i13 1)),(175,rL e1.Merge),(176,rI x8),(177,rB ((decide (x8<(e1.Merge.length:Int))))),(178,rI x8),(179,.own 5016 (i13 0)),(180,rL merges6),(181,rI 0)]) (h':=[(3,some (.box (n0+1) 28 (AZ e1))),(4,some (.box (n0+2) 25 BB)),(11,some (.box n1 25 [rI out4.Rows,rI out4.Cols,.own 129 (i5 0),cZ])),(129,some (.arr (i5 0) 43 5 (out4.Cells.map AC.row))),(5016,some (.arr (i13 0) 47 4 (merges6.map AD.row))),(5022,some (.arr (i13 1) 47 4 (([]:List AD).map AD.row)))]) ⟨jL,jL,jL,jL,jL,jL,jL,jL,jL,jL,jL,jL,jL,Za⟩ ⟨.inl R,.inl R,.inl R,.inl R,.inl R,.inl R,Za⟩ nL)) wk) ?_
    intro x24 rest2 i34 v5 hv5 hx7
    have h30:F8 e1 x8 merges6 x24 rest2=some v5:=hv5; unfold F8 at h30
    refine aU (xS R (aZ (aT fun c39=>(cI R h30 (fun h31=>?_) fun h31=>?_))))
    ·refine Zd (c39 _ (aS fun K40 c40 wK40=>(Ze (A7 h31 fun p2 hp2 hk9=>?_))))
     have J9 : ∀ (rest5:List AD) (i37:NN),p2=rest5→K40 ⟨[(3,.ptr 3 (n0+1) 0 0),(4,.ptr 4 (n0+2) 0 0),(11,.ptr 11 n1 0 0),(16,.own 5016 (i13 0)),(21,rI x8),(22,.own 5022 (i37 0)),(175,rL e1.Merge),(176,rI x8),(180,rL merges6),(181,rI x24)],[(3,some (.box (n0+1) 28 (AZ e1))),(4,some (.box (n0+2) 25 BB)),(11,some (.box n1 25 [rI out4.Rows,rI out4.Cols,.own 129 (i5 0),cZ])),(129,some (.arr (i5 0) 43 5 (out4.Cells.map AC.row))),(5016,some (.arr (i13 0) 47 4 (merges6.map AD.row))),(5022,some (.arr (i37 0) 47 4 (rest5.map AD.row)))],(i37 1),256⟩:=by
      intro rest5 i37 e
      have h32:=hk9 _ e
      exact c40 _ (aR (Zc h32 fun x28 ex28 h33=>(xA R ex28 (mM R (Zg (Zx h33 (AH [(i37 0),(i37 1)]) wk))))))
     refine aU (mM R (mA R (aZ (aT fun c42=>?_))))
     refine Zy BG (by kernel_rfl) ?_
     refine qP R (Zf R iL) (qP R (Zf R iL) (Zc hp2 fun x29 ex29 h34=>(qP R (Eg R Ag.slice iL R iL (fun _=>ex29)) (qP R (Kb (cs:=(AL x29)) R Au iL fR (fun _=>ex29) R) (qP R (fB R DH iL fR R) (qP R (Zj (a:=qa e1.Merge) R Aw iL R R) (qP R (Zf R iL) (Zc h34 fun x30 ex30 h35=>(qP R (Zp R Ag.slice iL iL (fun _=>R) (fun _=>ex30)) (qP R (Bz (cs:=(AL x30)) R Au iL R R) (Zc h35 fun r5 er5 h36=>No R R R (r:=rB r5) (caps:=[]) (bs:=[.agg (AL x29),.agg (AL x30)]) R iL R ⟨⟨_,iL,.g (cs:=[.int .i64 x29.Row,.int .i64 x29.Col,.int .i64 x29.H,.int .i64 x29.W]) R R⟩,⟨_,iL,.g (cs:=[.int .i64 x30.Row,.int .i64 x30.Col,.int .i64 x30.H,.int .i64 x30.W]) R R⟩,Za⟩ (fun _=>TQ (er5)) R (qP R (BI R iL) (AQ.nil (c42 _ (cI R h36 (fun h37=>?_) fun h37=>?_)))))))))))))))
     ·refine aG [3,4,11,16,21,22,23,175,176,180,181] [3,4,11,129,5016,5022] ?_
      exact aR (mM R (mM R (mM R (sQ R (Eg R Ag.slice iL R iL (fun _=>ex29)) (sQ R (Kb (cs:=(AL x29)) R Au iL fR (fun _=>ex29) R) (sS R (Bp 200 R Ag (f:=AD.row) (l:=([x29]:List AD)) ⟨R,⟨_,iL,R⟩,Za⟩ R (fun _=>R) R) (Zc h37 fun rest6 erest6 h38=>(sS R (Bv R Ag iL R (.inr (.inl ⟨_,_,iL,R⟩)) erest6) (mA R (Zg (wK40 _ _ wk (J9 _ (AH [((i34 1)+1),((i34 1)+2)]) (Zb h38).symm))))))))))))
     exact Zd (wK40 _ _ wk (J9 _ (AH [(i34 0),(i34 1)]) (Zb h37).symm))
    exact Zm (wK36 _ _ wk (J8 _ (AH [(i34 0),(i34 1)]) (xH hx7 h31)))
   exact Zm (wK11 _ _ wk (J3 _ (AH [(i13 0),(i13 1)]) (xH hx3 h25)))
  refine B0 (fun (x5:Int) (merges2:List AD) i8=>⟨[(2,.ptr 2 n0 0 0),(3,.ptr 3 (n0+1) 0 0),(4,.ptr 4 (n0+2) 0 0),(5,.r (.sl (rows1.map (AU .i64)))),(6,.r (.sl (cols1.map (AU .i64)))),(11,.ptr 11 n1 0 0),(16,.own 5016 (i8 0)),(135,rL g1.Merges),(136,rI x5)],[(2,some (.box n0 25 (AP g1))),(3,some (.box (n0+1) 28 (AZ e1))),(4,some (.box (n0+2) 25 BB)),(11,some (.box n1 25 [rI out4.Rows,rI out4.Cols,.own 129 (i5 0),cZ])),(129,some (.arr (i5 0) 43 5 (out4.Cells.map AC.row))),(5016,some (.arr (i8 0) 47 4 (merges2.map AD.row)))],(i8 1),256⟩) (AH [(i5 1),((i5 1)+1)]) hit2 (Zn (Zn (Gp 16 5016 47 4 (by decide) R) (by exact Ae.cv (e':=[(2,.ptr 2 n0 0 0),(3,.ptr 3 (n0+1) 0 0),(4,.ptr 4 (n0+2) 0 0),(5,.r (.sl (rows1.map (AU .i64)))),(6,.r (.sl (cols1.map (AU .i64)))),(11,.ptr 11 n1 0 0),(16,.own 5016 (i5 1)),(133,.ptr 2 n0 0 3),(134,qa g1.Merges),(135,rL g1.Merges),(136,rI 0)]) (h':=[(2,some (.box n0 25 (AP g1))),(3,some (.box (n0+1) 28 (AZ e1))),(4,some (.box (n0+2) 25 BB)),(11,some (.box n1 25 [rI out4.Rows,rI out4.Cols,.own 129 (i5 0),cZ])),(129,some (.arr (i5 0) 43 5 (out4.Cells.map AC.row))),(5016,some (.arr (i5 1) 47 4 (([]:List AD).map AD.row)))]) ⟨jL,jL,jL,jL,jL,jL,jL,jL,jL,jL,jL,Za⟩ ⟨.inl R,.inl R,.inl R,.inl R,.inl R,.inl R,Za⟩ nL)) wk) ?_
  intro x5 merges2 i8 v6 hv6 hx2
  have h39:GF g1 e1 rows1 cols1 x5 merges2=some v6:=hv6; unfold GF at h39
  refine aU (xS R (aZ (aT fun c44=>(cI R h39 (fun h40=>?_) fun h40=>?_))))
  ·refine Zd (c44 _ (aS fun K45 c45 wK45=>(Ze (A7 h40 fun p3 hp3 hk10=>?_))))
   have J10 : ∀ (merges10:List AD) (i38:NN),p3=merges10→K45 ⟨[(2,.ptr 2 n0 0 0),(3,.ptr 3 (n0+1) 0 0),(4,.ptr 4 (n0+2) 0 0),(5,.r (.sl (rows1.map (AU .i64)))),(6,.r (.sl (cols1.map (AU .i64)))),(11,.ptr 11 n1 0 0),(16,.own 5016 (i38 0)),(135,rL g1.Merges),(136,rI x5)],[(2,some (.box n0 25 (AP g1))),(3,some (.box (n0+1) 28 (AZ e1))),(4,some (.box (n0+2) 25 BB)),(11,some (.box n1 25 [rI out4.Rows,rI out4.Cols,.own 129 (i5 0),cZ])),(129,some (.arr (i5 0) 43 5 (out4.Cells.map AC.row))),(5016,some (.arr (i38 0) 47 4 (merges10.map AD.row)))],(i38 1),256⟩:=by
    intro merges10 i38 e
    have h41:=hk10 _ e
    exact c45 _ (aR (Zc h41 fun x31 ex31 h42=>(xA R ex31 (mM R (Zg (Zx h42 (AH [(i38 0),(i38 1)]) wk))))))
   refine aU (mM R (mA R (aZ (aU (lF Bb Aw R R (mM R (Zc hp3 fun x32 ex32 h43=>(xI Ag R ex32 (xB ((AL x32)) Au R (mM R (mM R (Zc h43 fun r6 er6 h44=>(sS R (Zw (r:=.agg (AL r6)) (caps:=[]) (bs:=[.agg (AL x32),.r (.sl (rows1.map (AU .i64))),.r (.sl (cols1.map (AU .i64)))]) R iL R ⟨.inl ⟨iL,R⟩,.inl ⟨iL,R⟩,.inl ⟨iL,R⟩,Za⟩ (fun _=>UU (er6))) (sS R (Zo (cs:=Ca) 18 R DZ R R) (Zi R R (Zh (ds:=(AL r6)) R DE iL R iL R R R R) (aZ (aT fun c48=>(aG [2,3,4,5,6,11,16,18,135,136] [2,3,4,11,18,129,5016] ?_))))))))))))))))))
   refine aR (lF DF AI R R (sQ R (BM R iL iL) (mA R (aZ (c48 _ (aS fun K49 c49 wK49=>(aU (lF Dr Aw R R (xL Ag R (mM R (aZ (Ze (A7 h44 fun o8 hit8 hk11=>?_)))))))))))))
   have J11 : ∀ (keep4:Bool) (i43:NN),o8=keep4→K49 ⟨[(2,.ptr 2 n0 0 0),(3,.ptr 3 (n0+1) 0 0),(4,.ptr 4 (n0+2) 0 0),(5,.r (.sl (rows1.map (AU .i64)))),(6,.r (.sl (cols1.map (AU .i64)))),(11,.ptr 11 n1 0 0),(16,.own 5016 (i8 0)),(18,.ptr 18 (i8 1) 0 0),(19,rB keep4),(135,rL g1.Merges),(136,rI x5)],[(2,some (.box n0 25 (AP g1))),(3,some (.box (n0+1) 28 (AZ e1))),(4,some (.box (n0+2) 25 BB)),(11,some (.box n1 25 [rI out4.Rows,rI out4.Cols,.own 129 (i5 0),cZ])),(18,some (.box (i8 1) 47 (AL r6))),(129,some (.arr (i5 0) 43 5 (out4.Cells.map AC.row))),(5016,some (.arr (i8 0) 47 4 (merges2.map AD.row)))],(i43 0),256⟩:=by
    intro keep4 i43 e
    have h45:=hk11 _ e
    refine c49 _ (aU (mM R (aZ (cI R h45 (fun h46=>?_) fun h46=>?_))))
    ·exact aR (mM R (xC Au R (sS R (Bp 170 R Ag (f:=AD.row) (l:=([r6]:List AD)) ⟨R,⟨_,iL,R⟩,Za⟩ R (fun _=>R) R) (Zc h46 fun merges11 emerges11 h47=>(sS R (Bv R Ag iL R (.inr (.inl ⟨_,_,iL,R⟩)) emerges11) (mA R (Zg (wK45 _ _ wk (J10 _ (AH [((i43 0)+1),((i43 0)+2)]) (Zb h47).symm)))))))))
    exact Zd (wK45 _ _ wk (J10 _ (AH [(i8 0),(i43 0)]) (Zb h46).symm))
   refine B0 (fun (keep2:Bool) (x34:Int) i41=>⟨[(2,.ptr 2 n0 0 0),(3,.ptr 3 (n0+1) 0 0),(4,.ptr 4 (n0+2) 0 0),(5,.r (.sl (rows1.map (AU .i64)))),(6,.r (.sl (cols1.map (AU .i64)))),(11,.ptr 11 n1 0 0),(16,.own 5016 (i8 0)),(18,.ptr 18 (i8 1) 0 0),(19,rB keep2),(135,rL g1.Merges),(136,rI x5),(152,rL e1.Split),(153,rI x34)],[(2,some (.box n0 25 (AP g1))),(3,some (.box (n0+1) 28 (AZ e1))),(4,some (.box (n0+2) 25 BB)),(11,some (.box n1 25 [rI out4.Rows,rI out4.Cols,.own 129 (i5 0),cZ])),(18,some (.box (i8 1) 47 (AL r6))),(129,some (.arr (i5 0) 43 5 (out4.Cells.map AC.row))),(5016,some (.arr (i8 0) 47 4 (merges2.map AD.row)))],(i41 0),256⟩) (AH [((i8 1)+1)]) hit8 wk ?_
   intro keep2 x34 i41 v7 hv7 hx8
   have h48:Gk e1 r6 keep2 x34=some v7:=hv7; unfold Gk at h48
   refine aU (xS R (aZ (aT fun c53=>(cI R h48 (fun h49=>?_) fun h49=>?_))))
   ·refine Zd (c53 _ (aT fun c54=>(Ze (aU (mM R (mA R (aZ ?_)))))))
    refine Zy BG (by kernel_rfl) ?_
    exact qP R (Zf R iL) (qP R (Zf R iL) (qO R (fB R Dr iL fR R) (qO R (Zj (a:=qa e1.Split) R Aw (iR R) R R) (qO R (Zf R iL) (Zc h49 fun x36 ex36 h50=>qO R (Zp R Ag.slice (iR R) (iR R) (fun _=>R) (Ai ex36)) (qO R (Bz (cs:=(AL x36)) R Au (iR R) R R) (qO R (Zq R Au iL R R) (qO R (Hi R Jw (iR R) (iR R) R) (qP R (Bt R iL (iR R)) (qP R (D8 R iL) (AQ.nil (c54 _ (aR (Zc h50 fun x37 ex37 h51=>(xA R ex37 (mM R (Zg (Zx h51 (AH [(i41 0)]) wk))))))))))))))))))
   exact Zm (wK49 _ _ wk (J11 _ (AH [(i41 0)]) (xH hx8 h49)))
  exact Zm (wK9 _ _ wk (J2 _ (AH [(i8 0),(i8 1)]) (xH hx2 h40)))
 refine B0 (fun (x2:Int) (out2:AJ) i3=>⟨[(2,.ptr 2 n0 0 0),(3,.ptr 3 (n0+1) 0 0),(4,.ptr 4 (n0+2) 0 0),(5,.r (.sl (rows1.map (AU .i64)))),(6,.r (.sl (cols1.map (AU .i64)))),(7,.r (.sl (r1.map (AU .i64)))),(9,.r (.sl (r3.map (AU .i64)))),(11,.ptr 11 n1 0 0),(53,rL r1),(54,rI x2)],[(2,some (.box n0 25 (AP g1))),(3,some (.box (n0+1) 28 (AZ e1))),(4,some (.box (n0+2) 25 BB)),(11,some (.box n1 25 [rI out2.Rows,rI out2.Cols,.own 129 (i3 0),cZ])),(129,some (.arr (i3 0) 43 5 (out2.Cells.map AC.row)))],(i3 1),256⟩) (AH [(n1+1),(n1+2)]) hit1 (Zn (Zn (Gq 11 2 129 43 5 (by decide) R R (by decide)) (by exact Ae.cv (e':=[(2,.ptr 2 n0 0 0),(3,.ptr 3 (n0+1) 0 0),(4,.ptr 4 (n0+2) 0 0),(5,.r (.sl (rows1.map (AU .i64)))),(6,.r (.sl (cols1.map (AU .i64)))),(7,.r (.sl (r1.map (AU .i64)))),(9,.r (.sl (r3.map (AU .i64)))),(11,.ptr 11 n1 0 0),(47,.r (.sl (r1.map (AU .i64)))),(48,rL r1),(49,.r (.sl (r3.map (AU .i64)))),(50,rL r3),(51,.agg [rL r1,rL r3,cZ,cZ]),(52,.r (.sl (r1.map (AU .i64)))),(53,rL r1),(54,rI 0)]) (h':=[(2,some (.box n0 25 (AP g1))),(3,some (.box (n0+1) 28 (AZ e1))),(4,some (.box (n0+2) 25 BB)),(11,some (.box n1 25 [rL r1,rL r3,.own 129 (n1+1),cZ])),(129,some (.arr (n1+1) 43 5 (([]:List AC).map AC.row)))]) ⟨jL,jL,jL,jL,jL,jL,jL,jL,jL,jL,jL,jL,jL,jL,jL,jL,Za⟩ ⟨.inl R,.inl R,.inl R,.inl R,.inl R,Za⟩ nL)) wk) ?_
 intro x2 out2 i3 v8 hv8 hx1
 have h52:H8 g1 e1 r1 r3 x2 out2=some v8:=hv8; unfold H8 at h52
 refine aU (xS R (aZ (aT fun c57=>(cI R h52 (fun h53=>?_) fun h53=>?_))))
 ·refine Zd (c57 _ (aS fun K58 c58 wK58=>(Ze (aU (mM R (mA R (aZ (aU (mM R (xL BS R (mM R (aZ (Ze (A7 h53 fun o9 hit9 hk12=>?_))))))))))))))
  have J12 : ∀ (out21:AJ) (i48:NN),o9=out21→K58 ⟨[(2,.ptr 2 n0 0 0),(3,.ptr 3 (n0+1) 0 0),(4,.ptr 4 (n0+2) 0 0),(5,.r (.sl (rows1.map (AU .i64)))),(6,.r (.sl (cols1.map (AU .i64)))),(7,.r (.sl (r1.map (AU .i64)))),(9,.r (.sl (r3.map (AU .i64)))),(11,.ptr 11 n1 0 0),(53,rL r1),(54,rI x2)],[(2,some (.box n0 25 (AP g1))),(3,some (.box (n0+1) 28 (AZ e1))),(4,some (.box (n0+2) 25 BB)),(11,some (.box n1 25 [rI out21.Rows,rI out21.Cols,.own 129 (i48 0),cZ])),(129,some (.arr (i48 0) 43 5 (out21.Cells.map AC.row)))],(i48 1),256⟩:=by
   intro out21 i48 e
   have h54:=hk12 _ e
   exact c58 _ (aR (Zc h54 fun x41 ex41 h55=>(xA R ex41 (mM R (Zg (Zx h55 (AH [(i48 0),(i48 1)]) wk))))))
  refine B0 (fun (x39:Int) (out19:AJ) i46=>⟨[(2,.ptr 2 n0 0 0),(3,.ptr 3 (n0+1) 0 0),(4,.ptr 4 (n0+2) 0 0),(5,.r (.sl (rows1.map (AU .i64)))),(6,.r (.sl (cols1.map (AU .i64)))),(7,.r (.sl (r1.map (AU .i64)))),(9,.r (.sl (r3.map (AU .i64)))),(11,.ptr 11 n1 0 0),(12,rI x2),(53,rL r1),(54,rI x2),(58,rL r3),(59,rI x39)],[(2,some (.box n0 25 (AP g1))),(3,some (.box (n0+1) 28 (AZ e1))),(4,some (.box (n0+2) 25 BB)),(11,some (.box n1 25 [rI out19.Rows,rI out19.Cols,.own 129 (i46 0),cZ])),(129,some (.arr (i46 0) 43 5 (out19.Cells.map AC.row)))],(i46 1),256⟩) (AH [(i3 0),(i3 1)]) hit9 wk ?_
  intro x39 out19 i46 v9 hv9 hx9
  have h56:Hv g1 e1 r1 r3 x2 x39 out19=some v9:=hv9; unfold Hv at h56
  refine aU (xS R (aZ (aT fun c62=>(cI R h56 (fun h57=>?_) fun h57=>?_))))
  ·refine Zd (c62 _ (aS fun K63 c63 wK63=>(Ze (A7 h57 fun p4 hp4 hk13=>?_))))
   have J13 : ∀ (out22:AJ) (i49:NN),p4=out22→K63 ⟨[(2,.ptr 2 n0 0 0),(3,.ptr 3 (n0+1) 0 0),(4,.ptr 4 (n0+2) 0 0),(5,.r (.sl (rows1.map (AU .i64)))),(6,.r (.sl (cols1.map (AU .i64)))),(7,.r (.sl (r1.map (AU .i64)))),(9,.r (.sl (r3.map (AU .i64)))),(11,.ptr 11 n1 0 0),(12,rI x2),(53,rL r1),(54,rI x2),(58,rL r3),(59,rI x39)],[(2,some (.box n0 25 (AP g1))),(3,some (.box (n0+1) 28 (AZ e1))),(4,some (.box (n0+2) 25 BB)),(11,some (.box n1 25 [rI out22.Rows,rI out22.Cols,.own 129 (i49 0),cZ])),(129,some (.arr (i49 0) 43 5 (out22.Cells.map AC.row)))],(i49 1),256⟩:=by
    intro out22 i49 e
    have h58:=hk13 _ e
    exact c63 _ (aR (Zc h58 fun x42 ex42 h59=>(xA R ex42 (mM R (Zg (Zx h59 (AH [(i49 0),(i49 1)]) wk))))))
   refine aU (mM R (mA R (aZ (aT fun c65=>(aR (mM R (mM R ?_)))))))
   refine sQ R (CF R H9 (q:=[(0,_),(1,_)]) (by exact ⟨R,R,R,iL,R,R,R,iL,Za⟩) (cs:=[rI x2,rI x39,.r (.str []),rI 0,cZ]) (by rfl)) ?_
   refine sS R (Zo (cs:=DV) 14 R EU R R) (Zi R R (Zh (ds:=[rI x2,rI x39,.r (.str []),rI 0,cZ]) R DI iL R iL R R R R) (aZ (c65 _ (aS fun K66 c66 wK66=>(aU (mM R (mM R (Zc hp4 fun x43 ex43 h60=>(xI BS R ex43 (xV (.int .i64 x43) AI R (sQ R (B4 R iL iL) (mM R (vM R (vM R (Zc h60 fun x44 ex44 h61=>(vQ R (Zp R BS.slice (iR R) (iR R) (fun _=>R) (Ai ex44)) (vQ R (Bk (d:=.int .i64 x44) R AI (iR R) R) (vQ R (B4 R (iR R) iL) (xN R (aZ (A7 h61 fun p5 hp5 hk14=>?_)))))))))))))))))))))
   have J14 : ∀ (x45:AC) (i50:NN),p5=x45→K66 ⟨[(2,.ptr 2 n0 0 0),(3,.ptr 3 (n0+1) 0 0),(4,.ptr 4 (n0+2) 0 0),(5,.r (.sl (rows1.map (AU .i64)))),(6,.r (.sl (cols1.map (AU .i64)))),(7,.r (.sl (r1.map (AU .i64)))),(9,.r (.sl (r3.map (AU .i64)))),(11,.ptr 11 n1 0 0),(12,rI x2),(13,rI x39),(14,.ptr 14 (i46 1) 0 0),(53,rL r1),(54,rI x2),(58,rL r3),(59,rI x39)],[(2,some (.box n0 25 (AP g1))),(3,some (.box (n0+1) 28 (AZ e1))),(4,some (.box (n0+2) 25 BB)),(11,some (.box n1 25 [rI out19.Rows,rI out19.Cols,.own 129 (i46 0),cZ])),(14,some (.box (i46 1) 43 (AY x45))),(129,some (.arr (i46 0) 43 5 (out19.Cells.map AC.row)))],(i50 0),256⟩:=by
    intro x45 i50 e
    have h62:=hk14 _ e
    refine c66 _ (aS fun K68 c68 wK68=>(aU (lF Du CD R R (xL Aq R (mM R (aZ (Ze (A7 h62 fun o10 hit10 hk15=>?_))))))))
    have J15 : ∀ (x52:AC) (i55:NN),o10=x52→K68 ⟨[(2,.ptr 2 n0 0 0),(3,.ptr 3 (n0+1) 0 0),(4,.ptr 4 (n0+2) 0 0),(5,.r (.sl (rows1.map (AU .i64)))),(6,.r (.sl (cols1.map (AU .i64)))),(7,.r (.sl (r1.map (AU .i64)))),(9,.r (.sl (r3.map (AU .i64)))),(11,.ptr 11 n1 0 0),(12,rI x2),(14,.ptr 14 (i46 1) 0 0),(53,rL r1),(54,rI x2),(58,rL r3),(59,rI x39)],[(2,some (.box n0 25 (AP g1))),(3,some (.box (n0+1) 28 (AZ e1))),(4,some (.box (n0+2) 25 BB)),(11,some (.box n1 25 [rI out19.Rows,rI out19.Cols,.own 129 (i46 0),cZ])),(14,some (.box (i46 1) 43 (AY x52))),(129,some (.arr (i46 0) 43 5 (out19.Cells.map AC.row)))],(i55 0),256⟩:=by
     intro x52 i55 e
     have h63:=hk15 _ e
     refine c68 _ (aU (xC BC R (Zc h63 fun r7 er7 h64=>(cL (Py (er7)) R (sQ R (BI R iL) (aZ (cI R h64 (fun h65=>?_) fun h65=>?_)))))))
     ·exact aR (lF Ef CD R R (xC BC R (sS R (Bp 128 R Aq (f:=AC.row) (l:=([x52]:List AC)) ⟨R,⟨_,iL,R⟩,Za⟩ R (fun _=>R) R) (Zc h65 fun l2 el2 h66=>(sS R (Bv R Aq iL R (.inr (.inl ⟨_,_,iL,R⟩)) el2) (sQ R (fB R Ef iL fR R) (Zi R R (Zh (ds:=[rI out19.Rows,rI out19.Cols,.own 129 ((i55 0)+1),cZ]) R Tw iL R iL R R R R) (Zg (wK63 _ _ wk (J13 _ (AH [((i55 0)+1),((i55 0)+2)]) (Zb h66).symm))))))))))
     exact Zd (wK63 _ _ wk (J13 _ (AH [(i46 0),(i55 0)]) (Zb h65).symm))
    refine B0 (fun (x48:Int) (x49:AC) i53=>⟨[(2,.ptr 2 n0 0 0),(3,.ptr 3 (n0+1) 0 0),(4,.ptr 4 (n0+2) 0 0),(5,.r (.sl (rows1.map (AU .i64)))),(6,.r (.sl (cols1.map (AU .i64)))),(7,.r (.sl (r1.map (AU .i64)))),(9,.r (.sl (r3.map (AU .i64)))),(11,.ptr 11 n1 0 0),(12,rI x2),(13,rI x39),(14,.ptr 14 (i46 1) 0 0),(53,rL r1),(54,rI x2),(58,rL r3),(59,rI x39),(94,rL e1.Cells),(95,rI x48)],[(2,some (.box n0 25 (AP g1))),(3,some (.box (n0+1) 28 (AZ e1))),(4,some (.box (n0+2) 25 BB)),(11,some (.box n1 25 [rI out19.Rows,rI out19.Cols,.own 129 (i46 0),cZ])),(14,some (.box (i46 1) 43 (AY x49))),(129,some (.arr (i46 0) 43 5 (out19.Cells.map AC.row)))],(i53 0),256⟩) (AH [(i50 0)]) hit10 wk ?_
    intro x48 x49 i53 v10 hv10 hx10
    have h67:FE e1 x2 x39 x48 x49=some v10:=hv10; unfold FE at h67
    refine aU (xS R (aZ (aT fun c72=>(cI R h67 (fun h68=>?_) fun h68=>?_))))
    ·refine Zd (c72 _ (aS fun K73 c73 wK73=>(Ze (A7 h68 fun p6 hp6 hk16=>?_))))
     have J16 : ∀ (x53:AC) (i56:NN),p6=x53→K73 ⟨[(2,.ptr 2 n0 0 0),(3,.ptr 3 (n0+1) 0 0),(4,.ptr 4 (n0+2) 0 0),(5,.r (.sl (rows1.map (AU .i64)))),(6,.r (.sl (cols1.map (AU .i64)))),(7,.r (.sl (r1.map (AU .i64)))),(9,.r (.sl (r3.map (AU .i64)))),(11,.ptr 11 n1 0 0),(12,rI x2),(13,rI x39),(14,.ptr 14 (i46 1) 0 0),(53,rL r1),(54,rI x2),(58,rL r3),(59,rI x39),(94,rL e1.Cells),(95,rI x48)],[(2,some (.box n0 25 (AP g1))),(3,some (.box (n0+1) 28 (AZ e1))),(4,some (.box (n0+2) 25 BB)),(11,some (.box n1 25 [rI out19.Rows,rI out19.Cols,.own 129 (i46 0),cZ])),(14,some (.box (i46 1) 43 (AY x53))),(129,some (.arr (i46 0) 43 5 (out19.Cells.map AC.row)))],(i56 0),256⟩:=by
      intro x53 i56 e
      have h69:=hk16 _ e
      exact c73 _ (aR (Zc h69 fun x54 ex54 h70=>(xA R ex54 (mM R (Zg (Zx h70 (AH [(i56 0)]) wk))))))
     refine aU (mM R (mA R (aZ (aU (lF Du CD R R (mM R (Zc hp6 fun x55 ex55 h71=>(xI Aq R ex55 (sQ R (Zl R CP iL) (xV (.int .i64 x55.Row) AI R (mM R (xQ R (mM R (vF Du CD R R (vM R (vQ R (Zp R Aq.slice (iR R) (iR R) (fun _=>R) (fun _=>ex55)) (vQ R (Zl R Cs (iR R)) (vQ R (Bk (d:=.int .i64 x55.Col) R AI (iR R) R) (vM R (vQ R (BT R (iR R) (iR R)) (xN R (aZ (cI R h71 (fun h72=>?_) fun h72=>?_)))))))))))))))))))))))
     ·refine aG [2,3,4,5,6,7,9,11,12,13,14,15,53,54,58,59,94,95] [2,3,4,11,14,129] ?_
      exact aR (lF Du CD R R (mM R (xI Aq R ex55 (xB ((AY x55)) BC R (Zi R R (Zh (ds:=(AY x55)) R DI iL R iL R R R R) (Zg (wK73 _ _ wk (J16 _ (AH [(i53 0)]) (Zb h72).symm))))))))
     exact Zd (wK73 _ _ wk (J16 _ (AH [(i53 0)]) (Zb h72).symm))
    exact Zm (wK68 _ _ wk (J15 _ (AH [(i53 0)]) (xH hx10 h68)))
   refine aC R (fun hc16=>?_) (fun hc16=>?_)
   ·have h73:=CE hc16 hp5
    refine aT fun c76=>(aG [2,3,4,5,6,7,9,11,12,13,14,53,54,58,59] [2,3,4,11,14,129] ?_)
    refine T2 10 BG (by kernel_rfl) R R ?_
    refine AT.step R R R (fB R Ef iL fR R) (AT.step R R R (Zj (a:=qc g1.Cells) R CD iL R R) (AT.step R R R (Zf R iL) (AT.step R R R (Zf R iL) (AT.step R R R (Zp R BS.slice iL iL (fun _=>R) (fun _=>ex43)) (AT.step R R R (Bk (d:=.int .i64 x43) R AI iL R) (AT.step R R R (Zf R iL) (AT.step R R R (Zf R iL) (Zc h73 fun x56 ex56 h74=>AT.step R R R (Zp R BS.slice iL iL (fun _=>R) (fun _=>ex56)) (AT.step R R R (Bk (d:=.int .i64 x56) R AI iL R) (AT.nil (Zc h74 fun r8 er8 h75=>(sS R (Zw (r:=.agg (AY r8)) (caps:=[]) (bs:=[qc g1.Cells,rI x43,rI x56]) R iL R ⟨.inl ⟨iL,R⟩,.inl ⟨iL,R⟩,.inl ⟨iL,R⟩,Za⟩ (fun _=>Wp (er8))) (Zi R R (Zh (ds:=(AY r8)) R DI iL R iL R R R R) (aZ (c76 _ (aG [2,3,4,5,6,7,9,11,12,13,14,53,54,58,59] [2,3,4,11,14,129] ?_))))))))))))))))
    exact aR (mM R (mM R (sQ R (fB R CP iL fR R) (Zi R R (Zh (ds:=[rI x2,rI r8.Col,rS r8.Text,rI r8.Ref,qd r8.Attrs]) R EL iL R iL R R R R) (sQ R (fB R Cs iL fR R) (Zi R R (Zh (ds:=[rI x2,rI x39,rS r8.Text,rI r8.Ref,qd r8.Attrs]) R EL iL R iL R R R R) (Zg (wK66 _ _ wk (J14 _ (AH [((i46 1)+1)]) (Zb h75).symm)))))))))
   ·have h73:=CA hc16 hp5
    refine Zd ?_
    exact wK66 _ _ ((by exact Ae.cv ⟨jL,jL,jL,jL,jL,jL,jL,jL,jL,jL,jL,jL,jL,jL,jL,Za⟩ ⟨.inl R,.inl R,.inl R,.inl R,.inr (.inr ⟨_,_,_,_,R,R,⟨.inl R,.inl R,.inl R,.inl R,.inr (.inr ⟨R,R⟩),Za⟩⟩),.inl R,Za⟩ nL)) (J14 _ (AH [((i46 1)+1)]) (Zb h73).symm)
  exact Zm (wK58 _ _ wk (J12 _ (AH [(i46 0),(i46 1)]) (xH hx9 h57)))
 exact Zm (wK6 _ _ wk (J1 _ (AH [(i3 0),(i3 1)]) (xH hx1 h53)))
theorem ZL {x1 a r} (h:M3 x1 a=some r):Ad Tryz.prog 62 [qc x1,.agg (AY a),.fn 63 []] (.tup [rI r.1,rB r.2]):=by
 unfold M3 at h
 refine mF Tryz.func62 Tryz.ntmps62 R fun n0=>aU (sS R (Zu (cs:=(AY a)) 4 R iL R R) (mA R (mA R (aZ (aU (mM R (xL Aq R (mA R (aZ (aU (mM R (mA R (mA R (aZ (aS fun K4 c4 wK4=>(Ze (A7 h fun o1 hit1 hk1=>?_)))))))))))))))))
 have J1 : ∀ (i8:Int) (i9:NN),o1=i8→K4 ⟨[(0,qc x1),(2,.fn 63 []),(4,.ptr 4 n0 0 0),(8,rL x1),(9,rI i8)],[(4,some (.box n0 43 (AY a)))],(i9 0),49⟩:=by
  intro i8 i9 e
  have h1:=hk1 _ e
  refine c4 _ (aT fun c5=>(Zc h1 fun x2 ex2 h2=>(Zc h2 fun r1 er1 h3=>?_)))
  refine rP 15 [pO 35 (rI i8),pO 36 (rI i8),pO 37 (rL x1),pO 38 (rB ((decide (i8<(x1.length:Int))))),pO 39 (rB ((decide (i8<(x1.length:Int))))),pO 40 (.whn ((decide (i8<(x1.length:Int))) == true) (.fn 63 [])),pO 41 (.whn ((decide (i8<(x1.length:Int))) == true) (qc x1)),pO 42 (.whn ((decide (i8<(x1.length:Int))) == true) (rI i8)),pO 43 (.whn ((decide (i8<(x1.length:Int))) == true) (.rop (AC.row x2) 0)),pO 44 (.whn ((decide (i8<(x1.length:Int))) == true) (.agg (AY x2))),pO 45 (.whn ((decide (i8<(x1.length:Int))) == true) (.agg (AY a))),pO 46 (.whn ((decide (i8<(x1.length:Int))) == true) (rI r1)),pO 47 (.whn ((decide (i8<(x1.length:Int))) == true) (rB ((decide (r1=0))))),pO 48 (rB (((decide (i8<(x1.length:Int))) && (decide (r1=0))))),pO 6 (rI i8)] BG R (by exact ⟨oB [(9,rI i8)] [] (Zf R (.inl R)),oB [(9,rI i8)] [] (Zf R (.inl R)),oB [(8,rL x1)] [] (Zf R (.inl R)),oB [(36,rI i8),(37,rL x1)] [] (Bh R (.inl R) (.inl R)),oB [(38,rB ((decide (i8<(x1.length:Int)))))] [] (Zf R (.inl R)),oG [(2,.fn 63 []),(39,rB ((decide (i8<(x1.length:Int)))))] [] (fun _ _=>R) (Zf R (.inl R)),oG [(0,qc x1),(39,rB ((decide (i8<(x1.length:Int)))))] [] (fun _ _=>R) (Zf R (.inl R)),oG [(9,rI i8),(39,rB ((decide (i8<(x1.length:Int)))))] [] (fun _ _=>R) (Zf R (.inl R)),oG [(39,rB ((decide (i8<(x1.length:Int))))),(41,.whn ((decide (i8<(x1.length:Int))) == true) (qc x1)),(42,.whn ((decide (i8<(x1.length:Int))) == true) (rI i8))] [] (fun _ _=>R) (Zp R Aq.slice (.inr ⟨_,(by exact id),R⟩) (.inr ⟨_,(by exact id),R⟩) (fun _=>R) (Ai ex2)),oG [(39,rB ((decide (i8<(x1.length:Int))))),(43,.whn ((decide (i8<(x1.length:Int))) == true) (.rop (AC.row x2) 0))] [] (fun _ _=>R) (Bz (cs:=(AY x2)) R BC (.inr ⟨_,(by exact id),R⟩) R R),oG [(4,.ptr 4 n0 0 0),(39,rB ((decide (i8<(x1.length:Int)))))] [(4,some (.box n0 43 (AY a)))] (fun _ _=>R) (Zq R BC (.inl R) R R),oH (fun _=>[(39,rB ((decide (i8<(x1.length:Int))))),(40,.whn ((decide (i8<(x1.length:Int))) == true) (.fn 63 [])),(44,.whn ((decide (i8<(x1.length:Int))) == true) (.agg (AY x2))),(45,.whn ((decide (i8<(x1.length:Int))) == true) (.agg (AY a)))]) (fun _=>[]) (fun _ _=>R) (fun G1 e h' n=>HB (r:=rI r1) (caps:=[]) (bs:=[.agg (AY x2),.agg (AY a)]) R (.inr ⟨_,(by exact id),R⟩) R ⟨⟨_,(.inr ⟨_,(by exact id),R⟩),.g (cs:=[.int .i64 x2.Row,.int .i64 x2.Col,.str x2.Text,.int .i64 x2.Ref,.sl (x2.Attrs.map Ak.row)]) R R⟩,⟨_,(.inr ⟨_,(by exact id),R⟩),.g (cs:=[.int .i64 a.Row,.int .i64 a.Col,.str a.Text,.int .i64 a.Ref,.sl (a.Attrs.map Ak.row)]) R R⟩,Za⟩ (fun hg=>H5 (Ai er1 hg)) R),oG [(39,rB ((decide (i8<(x1.length:Int))))),(46,.whn ((decide (i8<(x1.length:Int))) == true) (rI r1))] [] (fun _ _=>R) (BT R (.inr ⟨_,(by exact id),R⟩) (.inl R)),oB [(39,rB ((decide (i8<(x1.length:Int))))),(47,.whn ((decide (i8<(x1.length:Int))) == true) (rB ((decide (r1=0)))))] [] (Bt R (.inl R) (.inr ⟨_,(by exact id),R⟩)),oB [(35,rI i8)] [] (D8 R (.inl R)),Za⟩) fun G1 n1=>?_
  refine CB [0,2,4,6,8,9,35,36,37,38,39,40,41,42,43,44,45,46,47,48] [4] ?_
  exact mA R (aZ (c5 _ (Zk (Bq (P:=Tryz.prog) (fun (r:Int × Bool)=>rI r.1) (fun (r:Int × Bool)=>rB r.2) h3 iL (.t (.d R)) (.t (.d R))))))
 refine B0 (fun (i4:Int) (j2:Int) i5=>⟨[(0,qc x1),(2,.fn 63 []),(4,.ptr 4 n0 0 0),(8,rL x1),(9,rI i4),(10,rI j2)],[(4,some (.box n0 43 (AY a)))],(i5 0),49⟩) (AH [(n0+1)]) hit1 wk ?_
 intro i4 j2 i5 v1 hv1 hx1
 have h4:FH x1 a i4 j2=some v1:=hv1; unfold FH at h4
 refine aT fun c6=>(aU (mM R (mM R (xS R (aZ (cI R h4 (fun h5=>?_) fun h5=>?_))))))
 ·refine Zd (c6 _ (Ze (aU (mM R (mM R (Zc h5 fun x3 ex3 h6=>(xA R ex3 (sQ R (Zz R Tryz.underlying3 Tryz.underlying114 iL) (sQ R (O6 (b:=1) R iL iL) (sQ R (Zz R Tryz.underlying114 Tryz.underlying3 iL) (mA R (aZ (aT fun c9=>(aG [0,2,4,8,9,10,11] [4] ?_))))))))))))))
  refine T2 6 BG (by kernel_rfl) R R ?_
  refine AT.step R R R (Zf R iL) (AT.step R R R (Zf R iL) (AT.step R R R (Zf R iL) (Zc h6 fun x4 ex4 h7=>AT.step R R R (Zp R Aq.slice iL iL (fun _=>R) (fun _=>ex4)) (AT.step R R R (Bz (cs:=(AY x4)) R BC iL R R) (AT.step R R R (Zq R BC iL R R) (AT.nil (Zc h7 fun r2 er2 h8=>(cL (H5 (er2)) R (xS R (aZ (c9 _ (cI R h8 (fun h9=>?_) fun h9=>?_))))))))))))
  ·refine aG [0,2,4,8,10,11] [4] ?_
   exact aR (mM R (Zc h9 fun i10 ei10 h10=>(xA R ei10 (mA R (Zg (Zx h10 (AH [(i5 0)]) wk))))))
  refine aG [0,2,4,8,9,11] [4] ?_
  exact aR (mM R (mA R (Zg (Zx h9 (AH [(i5 0)]) wk))))
 exact Zm (wK4 _ _ wk (J1 _ (AH [(i5 0)]) (xH hx1 h5)))
theorem Xc {l1 a c r} (h:Mc l1 a c=some r):Ad Tryz.prog 38 [qc l1,rI a,rI c] (.tup [rI r.1,rB r.2]):=by
 unfold Mc at h
 refine mF Tryz.func38 Tryz.ntmps38 R fun n0=>aU (mA R (mA R (aZ (aT fun c2=>(aR (mM R (mM R (mM R ?_))))))))
 refine sQ R (CF R H9 (q:=[(0,_),(1,_)]) (by exact ⟨R,R,R,iL,R,R,R,iL,Za⟩) (cs:=[rI a,rI c,.r (.str []),rI 0,cZ]) (by rfl)) ?_
 refine AR.weak (by exact Ae.cv (e':=[(0,qc l1),(1,rI a),(2,rI c),(6,rI 0),(7,rB false),(8,qc l1),(9,rI a),(10,rI c),(11,.agg [rI a,rI c,.r (.str []),rI 0,.r (.sl [])])]) (h':=[]) ⟨jL,jL,jL,jL,jL,jL,jL,jL,.inr ⟨_,_,R,R,⟨.inl R,.inl R,.inl R,.inl R,.inr (.inr ⟨R,R⟩),Za⟩⟩,Za⟩ Za nL) ?_
 exact Bw h fun r1 r2 er1 h1=>(sS R (HB (r:=.tup [rI r1,rB r2]) (caps:=[]) (bs:=[qc l1,.agg [rI a,rI c,.r (.str []),rI 0,.r (.sl [])],.fn 63 []]) R iL R ⟨⟨_,iL,.d R⟩,⟨_,iL,.g (cs:=[.int .i64 a,.int .i64 c,.str [],.int .i64 0,.sl ([].map Ak.row)]) R R⟩,⟨_,iL,.one (.closed (.fn 63 []) R)⟩,Za⟩ (fun _=>ZL (er1)) R) (xX R (xX R (mA R (mA R (aZ (c2 _ (Zk (Bq (P:=Tryz.prog) (fun (r:Int × Bool)=>rI r.1) (fun (r:Int × Bool)=>rB r.2) h1 iL (.t (.d R)) (.t (.d R)))))))))))
theorem SV {g1 b c r} (h:JP g1 b c=some r):Ad Tryz.prog 13 [.agg (AP g1),rI b,rI c] (.agg (AY r)):=by
 unfold JP at h
 refine mF Tryz.func13 Tryz.ntmps13 R fun n0=>aU (sS R (Zu (cs:=(AP g1)) 3 R iL R R) (sS R (Zo (cs:=DV) 6 R EU R R) (aZ (aU (lF Ef CD R R (mM R (mM R (Bw h fun r1 r2 er1 h1=>(cL (Xc (er1)) R (mM R (xX R (xX R (mA R (mA R (aZ (aT fun c3=>(aT fun c4=>(aG [1,2,3,6,7,8] [3,6] ?_))))))))))))))))))
 refine aR (mM R (sQ R (BI R iL) (aZ (c4 _ (cI R h1 (fun h2=>?_) fun h2=>?_)))))
 ·refine aT fun c5=>(aR (mM R (mM R ?_)))
  refine sQ R (CF R H9 (q:=[(0,_),(1,_)]) (by exact ⟨R,R,R,iL,R,R,R,iL,Za⟩) (cs:=[rI b,rI c,.r (.str []),rI 0,cZ]) (by rfl)) ?_
  refine Zi R R (Zh (ds:=[rI b,rI c,.r (.str []),rI 0,cZ]) R DI iL R iL R R R R) (oZ c5 ?_)
  exact Zk (Cp (P:=Tryz.prog) (fun (r:AC)=>.agg (AY r)) h2 iL (.a BC R R R (.agg (by exact ⟨.closed _ R,.closed _ R,.closed _ R,.closed _ R,.nil,Za⟩))))
 exact Zd (c3 _ (aU (lF Ef CD R R (mM R (Zc h2 fun x1 ex1 h3=>(xI Aq R ex1 (xB ((AY x1)) BC R (Zc h3 fun r3 er3 h4=>(sS R (Zw (r:=.agg (AY r3)) (caps:=[]) (bs:=(Hz x1)) R iL R ⟨.inl ⟨iL,R⟩,Za⟩ (fun _=>M1 (er3))) (Zi R R (Zh (ds:=(AY r3)) R DI iL R iL R R R R) (aZ (Zk (Cp (P:=Tryz.prog) (fun (r:AC)=>.agg (AY r)) h4 iL (.a BC R R R (.g (cs:=[.int .i64 r3.Row,.int .i64 r3.Col,.str r3.Text,.int .i64 r3.Ref,.sl (r3.Attrs.map Ak.row)]) R R)))))))))))))))
theorem TU {g1 b c r} (h:I9 g1 b c=some r):Ad Tryz.prog 15 [.agg (AP g1),rI b,rI c] (.agg (AL r)):=by
 unfold I9 at h
 refine mF Tryz.func15 Tryz.ntmps15 R fun n0=>aU (sS R (Zu (cs:=(AP g1)) 3 R iL R R) (sS R (Zo (cs:=Ca) 6 R DZ R R) (aZ (aS fun K2 c2 wK2=>(aU (lF Bb Aw R R (xL Ag R (mM R (aZ (Ze (BH h fun o1 hit1 hk1 he1=>?_)))))))))))
 have J1 : ∀ (u2:Unit) (i5:NN),o1 = .nrm u2→K2 ⟨[(1,rI b),(2,rI c),(6,.ptr 6 (n0+1) 0 0)],[(6,some (.box (n0+1) 47 Ca))],(i5 0),47⟩:=by
  intro u2 i5 e
  have h1:=hk1 _ e
  refine c2 _ (aT fun c4=>(aR (mM R (mM R ?_))))
  refine sQ R (CF R QH (q:=[(0,_),(1,_),(2,_),(3,_)]) (by exact ⟨R,R,R,iL,R,R,R,iL,R,R,R,iL,R,R,R,iL,Za⟩) (cs:=[rI b,rI c,rI 1,rI 1]) (by rfl)) ?_
  exact Zi R R (Zh (ds:=[rI b,rI c,rI 1,rI 1]) R DE iL R iL R R R R) (aZ (c4 _ (Zk (Cp (P:=Tryz.prog) (fun (r:AD)=>.agg (AL r)) h1 iL (.a Au R R R (.g (cs:=[.int .i64 b,.int .i64 c,.int .i64 1,.int .i64 1]) R R))))))
 refine Zv (fun (x2:Int) i3=>⟨[(1,rI b),(2,rI c),(3,.ptr 3 n0 0 0),(6,.ptr 6 (n0+1) 0 0),(11,rL g1.Merges),(12,rI x2)],[(3,some (.box n0 25 (AP g1))),(6,some (.box (n0+1) 47 Ca))],(i3 0),47⟩) (AH [(n0+2)]) hit1 wk ?_
 intro x2 i3 v1 hv1 hx1
 have h2:H6 g1 b c x2=some v1:=hv1; unfold H6 at h2
 refine aU (xS R (aZ (aT fun c6=>(cI R h2 (fun h3=>?_) fun h3=>?_))))
 ·refine Zd (c6 _ (aT fun c7=>(Ze (aU (mM R (mA R (aZ (aU (lF Bb Aw R R (mM R (Zc h3 fun x4 ex4 h4=>(xI Ag R ex4 (xB ((AL x4)) Au R (sS R (Zo (cs:=Ca) 8 R DZ R R) (Zi R R (Zh (ds:=(AL x4)) R DE iL R iL R R R R) (aZ (aT fun c10=>(aR (mM R (lF Bj AI R R (lF Bj AI R R (lF DF AI R R (Zc h4 fun x5 ex5 h5=>(xA R ex5 (Zc h5 fun x6 ex6 h6=>(sQ R (Ba R iL iL (fun _=>ex6)) (Zc h6 fun r1 er1 h7=>(cL (Dj (er1)) R (mM R (vM R (vF Br AI R R (vF Br AI R R (vF DR AI R R (Zc h7 fun x7 ex7 h8=>(vQ R (Fg R (iR R) (iR R) (Ai ex7)) (Zc h8 fun x8 ex8 h9=>(vQ R (Ba R (iR R) iL (Ai ex8)) (Zc h9 fun r2 er2 h10=>vL (fun hg=>Dj (Ai er2 hg)) R (xN R (aZ (c10 _ (cI R h10 (fun h11=>?_) fun h11=>?_))))))))))))))))))))))))))))))))))))))))))
  ·refine aT fun c11=>(aG [6,8] [6,8] ?_)
   exact aR (xC Au R (Zi R R (Zh (ds:=(AL x4)) R DE iL R iL R R R R) (aZ (c11 _ (Zk (Cp (P:=Tryz.prog) (fun (r:AD)=>.agg (AL r)) (he1 _ (xH hx1 h11)) iL (.a Au R R R (.g (cs:=[.int .i64 x4.Row,.int .i64 x4.Col,.int .i64 x4.H,.int .i64 x4.W]) R R))))))))
  refine Zd (c7 _ (aG [1,2,3,6,11,12] [3,6] ?_))
  exact aR (Zc h11 fun x9 ex9 h12=>(xA R ex9 (mM R (Zg (Zs h12 (AH [((i3 0)+1)]) wk)))))
 exact Zm (wK2 _ _ wk (J1 _ (AH [(i3 0)]) (xH hx1 h3)))
end Go.Proofs.YtojmbndlghbpjaaGreatDoor.Al
