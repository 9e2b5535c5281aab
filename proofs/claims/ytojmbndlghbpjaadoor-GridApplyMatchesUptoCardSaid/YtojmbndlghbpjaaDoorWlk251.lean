/- Walks, as printed. -/
import Derived.Test.YtojmbndlghbpjaaDoorPL1
import Derived.Test.YtojmbndlghbpjaaDoorProg
set_option linter.all false
set_option maxHeartbeats 4000000
set_option maxRecDepth 20000
set_option linter.unusedVariables false
namespace Go.Proofs.YtojmbndlghbpjaaDoor.Al
open Go.Proofs
theorem Be : Tryd.prog.follows .mixedOrders = true := by kernel_rfl
theorem Lf : (Tryd.prog.info? 118).map (fun i => (i.zero, i.size, i.bytes)) = some (some (.agg #[.int .u8 0, .int .u8 0]), 2, 2) := by kernel_rfl
theorem Ke : (Tryd.prog.info? 22).map (fun i => (i.zero, i.size, i.bytes)) = some (some (.slice none 0 0), 1, 24) := by kernel_rfl
theorem Gn : (Tryd.prog.info? 23).map (fun i => (i.zero, i.size, i.bytes)) = some (some (.slice none 0 0), 1, 24) := by kernel_rfl
theorem Kk : (Tryd.prog.info? 25).map (fun i => (i.zero, i.size, i.bytes)) = some (some (.agg #[.int .i64 0, .int .i64 0, .slice none 0 0, .slice none 0 0]), 4, 64) := by kernel_rfl
theorem Iw : (Tryd.prog.info? 26).map (fun i => (i.zero, i.size, i.bytes)) = some (some (.slice none 0 0), 1, 24) := by kernel_rfl
theorem QR : (Tryd.prog.info? 28).map (fun i => (i.zero, i.size, i.bytes)) = some (some (.agg #[.slice none 0 0, .slice none 0 0, .slice none 0 0, .slice none 0 0, .slice none 0 0]), 5, 120) := by kernel_rfl
theorem DX : (Tryd.prog.info? 3).map (fun i => (i.zero, i.size, i.bytes)) = some (some (.int .i64 0), 1, 8) := by kernel_rfl
theorem Ms : (Tryd.prog.info? 39).map (fun i => (i.zero, i.size, i.bytes)) = some (some (.slice none 0 0), 1, 24) := by kernel_rfl
theorem Jp : (Tryd.prog.info? 41).map (fun i => (i.zero, i.size, i.bytes)) = some (some (.agg #[.int .i64 0, .int .i64 0, .string ⟨#[]⟩, .int .i64 0, .slice none 0 0]), 5, 64) := by kernel_rfl
theorem JM : (Tryd.prog.info? 43).map (fun i => (i.zero, i.size, i.bytes)) = some (some (.agg #[.int .i64 0, .int .i64 0]), 2, 16) := by kernel_rfl
theorem H7 : (Tryd.prog.info? 49).map (fun i => (i.zero, i.size, i.bytes)) = some (some (.agg #[.int .i64 0, .int .i64 0, .int .i64 0, .int .i64 0]), 4, 32) := by kernel_rfl
theorem K0 : (Tryd.prog.info? 5).map (fun i => (i.zero, i.size, i.bytes)) = some (some (.int .u8 0), 1, 1) := by kernel_rfl
theorem TP : (Tryd.prog.info? 67).map (fun i => (i.zero, i.size, i.bytes)) = some (some (.agg #[.slice none 0 0, .slice none 0 0]), 2, 48) := by kernel_rfl
theorem Q9 : (Tryd.prog.info? 85).map (fun i => (i.zero, i.size, i.bytes)) = some (some (.agg #[.slice none 0 0, .slice none 0 0]), 2, 48) := by kernel_rfl
theorem KT : (Tryd.prog.info? 9).map (fun i => (i.zero, i.size, i.bytes)) = some (some (.string ⟨#[]⟩), 1, 16) := by kernel_rfl
theorem Ka : (Tryd.prog.info? 99).map (fun i => (i.zero, i.size, i.bytes)) = some (some (.agg #[.string ⟨#[]⟩, .string ⟨#[]⟩]), 2, 32) := by kernel_rfl
theorem RC : Cv Tryd.prog 118 (.agg #[.int .u8 0, .int .u8 0]) := Cv.of Lf
theorem HB : Cv Tryd.prog 25 (.agg #[.int .i64 0, .int .i64 0, .slice none 0 0, .slice none 0 0]) := Cv.of Kk
theorem F7 : Cv Tryd.prog 41 (.agg #[.int .i64 0, .int .i64 0, .string ⟨#[]⟩, .int .i64 0, .slice none 0 0]) := Cv.of Jp
theorem Kj : Cv Tryd.prog 43 (.agg #[.int .i64 0, .int .i64 0]) := Cv.of JM
theorem Dy : Cv Tryd.prog 49 (.agg #[.int .i64 0, .int .i64 0, .int .i64 0, .int .i64 0]) := Cv.of H7
theorem Uq : Cv Tryd.prog 99 (.agg #[.string ⟨#[]⟩, .string ⟨#[]⟩]) := Cv.of Ka
theorem Uk : Bf Tryd.prog 118 2 := Bf.of Tryd.underlying118 rfl Lf
theorem Cs : Bf Tryd.prog 25 4 := Bf.of Tryd.underlying25 rfl Kk
theorem Fm : Bf Tryd.prog 28 5 := Bf.of Tryd.underlying28 rfl QR
theorem Bg : Bf Tryd.prog 41 5 := Bf.of Tryd.underlying41 rfl Jp
theorem Kb : Bf Tryd.prog 43 2 := Bf.of Tryd.underlying43 rfl JM
theorem Ay : Bf Tryd.prog 49 4 := Bf.of Tryd.underlying49 rfl H7
theorem Mu : Bf Tryd.prog 99 2 := Bf.of Tryd.underlying99 rfl Ka
theorem Ts : Ei 0 = some (D5.flatMap (AR .u8)) := by kernel_rfl
theorem T2 : Ei 1 = some (Lk.flatMap FI.row) := by kernel_rfl
theorem IQ : Du Tryd.prog 25 [(0, 1), (1, 1), (2, 1), (3, 1)] [.int .i64 0, .int .i64 0, .slice none 0 0, .slice none 0 0] := Du.of Tryd.underlying25 (fun w => by kernel_rfl) Kk
theorem UM : Du Tryd.prog 28 [(0, 1), (1, 1), (2, 1), (3, 1), (4, 1)] [.slice none 0 0, .slice none 0 0, .slice none 0 0, .slice none 0 0, .slice none 0 0] := Du.of Tryd.underlying28 (fun w => by kernel_rfl) QR
theorem MA : Du Tryd.prog 41 [(0, 1), (1, 1), (2, 1), (3, 1), (4, 1)] [.int .i64 0, .int .i64 0, .string ⟨#[]⟩, .int .i64 0, .slice none 0 0] := Du.of Tryd.underlying41 (fun w => by kernel_rfl) Jp
theorem Mr : Du Tryd.prog 43 [(0, 1), (1, 1)] [.int .i64 0, .int .i64 0] := Du.of Tryd.underlying43 (fun w => by kernel_rfl) JM
theorem Ua : Du Tryd.prog 49 [(0, 1), (1, 1), (2, 1), (3, 1)] [.int .i64 0, .int .i64 0, .int .i64 0, .int .i64 0] := Du.of Tryd.underlying49 (fun w => by kernel_rfl) H7
theorem Nx : G9 Tryd.prog 67 [(0, 1), (1, 1)] [.slice none 0 0, .slice none 0 0] := G9.of (n := 2) (e := 23) Tryd.underlying67 Gn (OX (by decide)) TP
theorem Tj : G9 Tryd.prog 85 [(0, 1), (1, 1)] [.slice none 0 0, .slice none 0 0] := G9.of (n := 2) (e := 26) Tryd.underlying85 Iw (OX (by decide)) Q9
theorem Mh : FO Tryd.prog 49 [some (.int .i64), some (.int .i64), some (.int .i64), some (.int .i64)] := FO.of Tryd.underlying49 (by kernel_rfl) (by kernel_rfl) (by exact ⟨rfl, rfl, Tryd.underlying3, rfl, rfl, Tryd.underlying3, rfl, rfl, Tryd.underlying3, rfl, rfl, Tryd.underlying3, trivial⟩)
theorem Vd : FO Tryd.prog 99 [some .string, some .string] := FO.of Tryd.underlying99 (by kernel_rfl) (by kernel_rfl) (by exact ⟨rfl, rfl, Tryd.underlying9, rfl, rfl, Tryd.underlying9, trivial⟩)
theorem VM : Au Tryd.prog 118 0 0 := Au.of Tryd.underlying118 rfl rfl K0 (by decide)
theorem Rb : Au Tryd.prog 118 1 1 := Au.of Tryd.underlying118 rfl rfl K0 (by decide)
theorem Ct : Au Tryd.prog 25 0 0 := Au.of Tryd.underlying25 rfl rfl DX (by decide)
theorem DP : Au Tryd.prog 25 1 1 := Au.of Tryd.underlying25 rfl rfl DX (by decide)
theorem E1 : Au Tryd.prog 25 2 2 := Au.of Tryd.underlying25 rfl rfl Ke (by decide)
theorem Bz : Au Tryd.prog 25 3 3 := Au.of Tryd.underlying25 rfl rfl Gn (by decide)
theorem Eh : Au Tryd.prog 28 0 0 := Au.of Tryd.underlying28 rfl rfl Iw (by decide)
theorem Et : Au Tryd.prog 28 1 1 := Au.of Tryd.underlying28 rfl rfl Iw (by decide)
theorem EM : Au Tryd.prog 28 2 2 := Au.of Tryd.underlying28 rfl rfl Ke (by decide)
theorem FG : Au Tryd.prog 28 3 3 := Au.of Tryd.underlying28 rfl rfl Gn (by decide)
theorem Dx : Au Tryd.prog 28 4 4 := Au.of Tryd.underlying28 rfl rfl Gn (by decide)
theorem CU : Au Tryd.prog 41 0 0 := Au.of Tryd.underlying41 rfl rfl DX (by decide)
theorem DA : Au Tryd.prog 41 1 1 := Au.of Tryd.underlying41 rfl rfl DX (by decide)
theorem IE : Au Tryd.prog 41 2 2 := Au.of Tryd.underlying41 rfl rfl KT (by decide)
theorem Gv : Au Tryd.prog 41 3 3 := Au.of Tryd.underlying41 rfl rfl DX (by decide)
theorem Fk : Au Tryd.prog 41 4 4 := Au.of Tryd.underlying41 rfl rfl Ms (by decide)
theorem Bv : Au Tryd.prog 43 0 0 := Au.of Tryd.underlying43 rfl rfl DX (by decide)
theorem CE : Au Tryd.prog 43 1 1 := Au.of Tryd.underlying43 rfl rfl DX (by decide)
theorem Bd : Au Tryd.prog 49 0 0 := Au.of Tryd.underlying49 rfl rfl DX (by decide)
theorem Bo : Au Tryd.prog 49 1 1 := Au.of Tryd.underlying49 rfl rfl DX (by decide)
theorem Cf : Au Tryd.prog 49 2 2 := Au.of Tryd.underlying49 rfl rfl DX (by decide)
theorem DC : Au Tryd.prog 49 3 3 := Au.of Tryd.underlying49 rfl rfl DX (by decide)
theorem Hl : Au Tryd.prog 99 0 0 := Au.of Tryd.underlying99 rfl rfl KT (by decide)
theorem LF : Au Tryd.prog 99 1 1 := Au.of Tryd.underlying99 rfl rfl KT (by decide)
theorem A2 : Bh Tryd.prog 22 41 5 64 := Bh.of Tryd.underlying22 Jp rfl rfl (by decide)
theorem Ag : Bh Tryd.prog 23 49 4 32 := Bh.of Tryd.underlying23 H7 rfl rfl (by decide)
theorem A9 : Bh Tryd.prog 26 43 2 16 := Bh.of Tryd.underlying26 JM rfl rfl (by decide)
theorem Cg : Bh Tryd.prog 39 99 2 32 := Bh.of Tryd.underlying39 Ka rfl rfl (by decide)
theorem BM : Bh Tryd.prog 58 3 1 8 := Bh.of Tryd.underlying58 DX rfl rfl (by decide)
theorem N7 : Fq Tryd.prog 67 2 23 := Fq.of Tryd.underlying67 (BZ.of Tryd.underlying23 rfl Gn)
theorem UH : Fq Tryd.prog 85 2 26 := Fq.of Tryd.underlying85 (BZ.of Tryd.underlying26 rfl Iw)
theorem UW : He Tryd.prog 49 [.int .i64 0, .int .i64 0, .int .i64 0, .int .i64 0] := He.of H7 rfl
theorem CK : BZ Tryd.prog 22 := BZ.of Tryd.underlying22 rfl Ke
theorem BC : BZ Tryd.prog 23 := BZ.of Tryd.underlying23 rfl Gn
theorem CJ : BZ Tryd.prog 26 := BZ.of Tryd.underlying26 rfl Iw
theorem AH : BZ Tryd.prog 3 := BZ.of Tryd.underlying3 rfl DX
theorem GY : BZ Tryd.prog 39 := BZ.of Tryd.underlying39 rfl Ms
theorem Lp : BZ Tryd.prog 5 := BZ.of Tryd.underlying5 rfl K0
theorem Cw : BZ Tryd.prog 9 := BZ.of Tryd.underlying9 rfl KT
theorem SA : Mn Tryd.prog 116 256 5 1 := ⟨Tryd.underlying116, Ds K0⟩
theorem Tt : Mn Tryd.prog 119 16 118 2 := ⟨Tryd.underlying119, Ds Lf⟩
theorem RX : ∃ i, Tryd.prog.info? 118 = some i ∧ i.size = 2 := Ds Lf
theorem S6 : ∃ i, Tryd.prog.info? 22 = some i ∧ i.size = 1 := Ds Ke
theorem Ll : ∃ i, Tryd.prog.info? 23 = some i ∧ i.size = 1 := Ds Gn
theorem F9 : ∃ i, Tryd.prog.info? 25 = some i ∧ i.size = 4 := Ds Kk
theorem F5 : ∃ i, Tryd.prog.info? 3 = some i ∧ i.size = 1 := Ds DX
theorem Rj : ∃ i, Tryd.prog.info? 39 = some i ∧ i.size = 1 := Ds Ms
theorem ED : ∃ i, Tryd.prog.info? 41 = some i ∧ i.size = 5 := Ds Jp
theorem Ld : ∃ i, Tryd.prog.info? 43 = some i ∧ i.size = 2 := Ds JM
theorem Dp : ∃ i, Tryd.prog.info? 49 = some i ∧ i.size = 4 := Ds H7
theorem U2 : ∃ i, Tryd.prog.info? 99 = some i ∧ i.size = 2 := Ds Ka
@[reducible] def qa (l : List AC) : AV := .r (.sl (l.map AC.row))
@[reducible] def qb (l : List AI) : AV := .r (.sl (l.map AI.row))
@[reducible] def qc (l : List AE) : AV := .r (.sl (l.map AE.row))
@[reducible] def qd (l : List Ah) : AV := .r (.sl (l.map Ah.row))
set_option linter.defProp false
@[reducible] def OJ : List AV := [.r (.sl ([(AI.mk 1 1), (AI.mk 0 2)].map AI.row)), .cst (.slice none 0 0), .cst (.slice none 0 0), .cst (.slice none 0 0), .cst (.slice none 0 0)]
@[reducible] def Pt : List AV := [.r (.sl ([(AI.mk 1 1), (AI.mk 0 2)].map AI.row)), .r (.sl []), .r (.sl []), .r (.sl []), .r (.sl [])]
@[reducible] def W6 (x : AC) : List AV := [.agg [rI (x.Row), rI (x.Col), rI (x.H), rI (x.W)], rI (2147483647), rI (2147483647)]
@[reducible] def L2 : List AV := [rI (2), rI (1), .r (.sl ([(AE.mk 1 0 [120] 0 [])].map AE.row)), .r (.sl [])]
@[reducible] def JN (x : AE) : List AV := [.agg [rI (x.Row), rI (x.Col), .r (.str x.Text), rI (x.Ref), qd x.Attrs]]
@[reducible] def Ai (x : AE) : List AV := [rI (x.Row), rI (x.Col), .r (.str x.Text), rI (x.Ref), qd x.Attrs]
@[reducible] def PY (x : Aj) : List AV := [.agg [qb x.Rows, qb x.Cols, qc x.Cells, qa x.Split, qa x.Merge]]
@[reducible] def JB : List AV := [rI (1), rI (0), .r (.str [120]), rI (0), .cst (.slice none 0 0)]
@[reducible] def A1 : List AV := [rI (0), rI (0), .cst (.slice none 0 0), .cst (.slice none 0 0)]
@[reducible] def E2 : List AV := [rI (0), rI (0), .r (.str []), rI (0), .cst (.slice none 0 0)]
@[reducible] def Nb (x : AJ) : List AV := [.agg [rI (x.Rows), rI (x.Cols), qc x.Cells, qa x.Merges]]
@[reducible] def Ad (x : Aj) : List AV := [qb x.Rows, qb x.Cols, qc x.Cells, qa x.Split, qa x.Merge]
@[reducible] def Ky (x : AC) : List AV := [.agg [rI (x.Row), rI (x.Col), rI (x.H), rI (x.W)]]
@[reducible] def Ab (x : AJ) : List AV := [rI (x.Rows), rI (x.Cols), qc x.Cells, qa x.Merges]
@[reducible] def AK (x : AC) : List AV := [rI (x.Row), rI (x.Col), rI (x.H), rI (x.W)]
@[reducible] def Lc (x : Ah) : List AV := [.r (.str x.Name), .r (.str x.Value)]
@[reducible] def DB : List AV := [rI (0), rI (0), rI (0), rI (0)]
@[reducible] def Wx {T r : Int} {x : Exit} {s : St} {x0 : ResultVar} := @DE Int Tryd.prog T r x s x0 fun r => rI r
@[reducible] def Wy {T r : Bool} {x : Exit} {s : St} {x0 : ResultVar} := @DE Bool Tryd.prog T r x s x0 fun r => rB r
@[reducible] def yI := @Og Tryd.prog
@[reducible] def yB := @OB Tryd.prog
@[reducible] def Za := @Option.some.inj
@[reducible] def Zb := @RU
@[reducible] def Zc := @AW.skip
@[reducible] def Zd := @trivial
@[reducible] def Ze := @AW.block
@[reducible] def Zf := @Mq
@[reducible] def Zg := @AN.nil
@[reducible] def Zh := @U3
@[reducible] def Zi := @AW.ret
@[reducible] def Zj := @SK
@[reducible] def Zk := @MR
@[reducible] def Zl := @Wd
@[reducible] def Zm := @AW.exit
@[reducible] def Zn := @KR.mk
@[reducible] def Zo := @Ww
@[reducible] def Zp := @Tm
@[reducible] def Zq := @Aa.trans
@[reducible] def R := @rfl
theorem WM {s1 r} (h:Jf s1=some r):AZ Tryd.prog 93 [rS s1] (.tup [.r (.int .i32 r.1),rI r.2]):=by
 unfold Jf at h
 refine mF Tryd.func93 Tryd.ntmps93 R fun n0=>aU (mA R (mA R (aZ (aU (mM R (sQ R (Ea R Tryd.underlying9 iL) (mA R (aZ (aT fun c3=>(aU (mM R (xS R (aZ (cI R h (fun h1=>?_) fun h1=>?_))))))))))))))
 ·exact aU (mA R (mA R (aZ (Zi (Br (P:=Tryd.prog) (fun (r:Int × Int)=>.r (.int .i32 r.1)) (fun (r:Int × Int)=>rI r.2) h1 iL (.t (.d R)) (.t (.d R)))))))
 refine Zc (c3 _ (aU (mM R (Zb h1 fun s01 es01 h2=>(sQ R (CL R Tryd.underlying9 iL iL (fun _=>es01)) (mA R (aZ (aT fun c7=>(aR (mM R (Zb h2 fun x1 ex1 h3=>?_)))))))))))
 refine sQ R (QG (f:=(AR .u8)) (l:=D5) R SA Ts (by kernel_rfl) iL (fun _=>R) (by decide) (fun _=>ex1)) ?_
 refine xV (.int .u8 x1) Lp R (mA R (aZ (c7 _ (aT fun c8=>(aT fun c9=>(aF [0,4,5,6] ?_))))))
 refine aR (mM R (sQ R (Bp R iL iL) (aZ (c9 _ (cI R h3 (fun h4=>?_) fun h4=>?_)))))
 ·refine aU (mM R (sQ R (DL R Tryd.underlying5 Tryd.underlying21 iL) (sQ R (G2 (b:=31) R iL iL) (sQ R (NR (b:=31) R iL iL) (mA R (aZ (aT fun c11=>(aF [0,7] ?_))))))))
  exact aR (mM R (sQ R (CL R Tryd.underlying9 iL iL (fun _=>es01)) (sQ R (DL R Tryd.underlying5 Tryd.underlying21 iL) (mM R (sQ R (U7 R iL iL) (mM R (sQ R (Ec R iL iL) (sQ R (GT R iL iL) (mA R (mA R (aZ (c11 _ (Zi (Br (P:=Tryd.prog) (fun (r:Int × Int)=>.r (.int .i32 r.1)) (fun (r:Int × Int)=>rI r.2) h4 iL (.t (.d R)) (.t (.d R))))))))))))))))
 refine Zc (c8 _ (aU (mM R (sQ R (Ec R iL iL) (sQ R (DL R Tryd.underlying5 Tryd.underlying3 iL) (mA R (aZ (aT fun c13=>(aR (mM R (sQ R (NR (b:=4) R iL iL) (Zb h4 fun x2 ex2 h5=>?_))))))))))))
 refine sQ R (QG (f:=FI.row) (l:=Lk) R Tt T2 (by kernel_rfl) iL (fun _=>R) (by decide) (fun _=>ex2)) ?_
 refine xB ([.r (.int .u8 x2.lo),.r (.int .u8 x2.hi)]) Uk R (sS R (Zp (cs:=[.r (.int .u8 0),.r (.int .u8 0)]) 9 R RC R R) (Zl R R (Zh (ds:=[.r (.int .u8 x2.lo),.r (.int .u8 x2.hi)]) R RX iL R iL R R R R) (aZ (c13 _ (aT fun c14=>(aT fun c15=>(aG [0,4,5,8,9] [9] ?_)))))))
 refine aR (mM R (mM R (xS R (aZ (c15 _ (cI R h5 (fun h6=>?_) fun h6=>?_))))))
 ·exact aU (mA R (mA R (aZ (Zi (Br (P:=Tryd.prog) (fun (r:Int × Int)=>.r (.int .i32 r.1)) (fun (r:Int × Int)=>rI r.2) h6 iL (.t (.d R)) (.t (.d R)))))))
 refine Zc (c14 _ (aU (mM R (Zb h6 fun s11 es11 h7=>(sQ R (CL R Tryd.underlying9 iL iL (fun _=>es11)) (mA R (aZ (aT fun c18=>(aU (mM R (lF VM Lp R R (xS R (mM R (vF Rb Lp R R (vM R (vQ R (Bb R (iR R) (iR R)) (xO R (aZ (cI R h7 (fun h8=>?_) fun h8=>?_)))))))))))))))))))
 ·refine aT fun c20=>(aF [] ?_)
  exact aR (mA R (mA R (aZ (c20 _ (Zi (Br (P:=Tryd.prog) (fun (r:Int × Int)=>.r (.int .i32 r.1)) (fun (r:Int × Int)=>rI r.2) h8 iL (.t (.d R)) (.t (.d R))))))))
 refine Zc (c18 _ (aT fun c21=>(aT fun c22=>(aF [0,5,8,10] ?_))))
 refine aR (mM R (sQ R (DI R iL iL) (aZ (c22 _ (cI R h8 (fun h9=>?_) fun h9=>?_)))))
 ·exact aU (mM R (sQ R (Ec R iL iL) (sQ R (DL R Tryd.underlying5 Tryd.underlying21 iL) (sQ R (G2 (b:=6) R iL iL) (mM R (sQ R (Ec R iL iL) (sQ R (DL R Tryd.underlying5 Tryd.underlying21 iL) (sQ R (GT R iL iL) (mA R (mA R (aZ (Zi (Br (P:=Tryd.prog) (fun (r:Int × Int)=>.r (.int .i32 r.1)) (fun (r:Int × Int)=>rI r.2) h9 iL (.t (.d R)) (.t (.d R)))))))))))))))
 refine Zc (c21 _ (aU (mM R (Zb h9 fun s21 es21 h10=>(sQ R (CL R Tryd.underlying9 iL iL (fun _=>es21)) (mA R (aZ (aT fun c25=>(aU (mM R (xS R (mM R (vM R (vQ R (Bb R iL (iR R)) (xO R (aZ (cI R h10 (fun h11=>?_) fun h11=>?_)))))))))))))))))
 ·refine aT fun c27=>(aF [] ?_)
  exact aR (mA R (mA R (aZ (c27 _ (Zi (Br (P:=Tryd.prog) (fun (r:Int × Int)=>.r (.int .i32 r.1)) (fun (r:Int × Int)=>rI r.2) h11 iL (.t (.d R)) (.t (.d R))))))))
 refine Zc (c25 _ (aT fun c28=>(aT fun c29=>(aF [0,5,8,10,11] ?_))))
 refine aR (mM R (sQ R (DI R iL iL) (aZ (c29 _ (cI R h11 (fun h12=>?_) fun h12=>?_)))))
 ·exact aU (mM R (sQ R (Ec R iL iL) (sQ R (DL R Tryd.underlying5 Tryd.underlying21 iL) (sQ R (G2 (b:=12) R iL iL) (mM R (sQ R (Ec R iL iL) (sQ R (DL R Tryd.underlying5 Tryd.underlying21 iL) (sQ R (G2 (b:=6) R iL iL) (sQ R (GT R iL iL) (mM R (sQ R (Ec R iL iL) (sQ R (DL R Tryd.underlying5 Tryd.underlying21 iL) (sQ R (GT R iL iL) (mA R (mA R (aZ (Zi (Br (P:=Tryd.prog) (fun (r:Int × Int)=>.r (.int .i32 r.1)) (fun (r:Int × Int)=>rI r.2) h12 iL (.t (.d R)) (.t (.d R))))))))))))))))))))
 refine Zc (c28 _ (aU (mM R (Zb h12 fun s31 es31 h13=>(sQ R (CL R Tryd.underlying9 iL iL (fun _=>es31)) (mA R (aZ (aT fun c32=>(aU (mM R (xS R (mM R (vM R (vQ R (Bb R iL (iR R)) (xO R (aZ (cI R h13 (fun h14=>?_) fun h14=>?_)))))))))))))))))
 ·refine aT fun c34=>(aF [] ?_)
  exact aR (mA R (mA R (aZ (c34 _ (Zi (Br (P:=Tryd.prog) (fun (r:Int × Int)=>.r (.int .i32 r.1)) (fun (r:Int × Int)=>rI r.2) h14 iL (.t (.d R)) (.t (.d R))))))))
 refine Zc (c32 _ (aT fun c35=>(aF [5,10,11,12] ?_)))
 exact aR (mM R (sQ R (Ec R iL iL) (sQ R (DL R Tryd.underlying5 Tryd.underlying21 iL) (sQ R (G2 (b:=18) R iL iL) (mM R (sQ R (Ec R iL iL) (sQ R (DL R Tryd.underlying5 Tryd.underlying21 iL) (sQ R (G2 (b:=12) R iL iL) (sQ R (GT R iL iL) (mM R (sQ R (Ec R iL iL) (sQ R (DL R Tryd.underlying5 Tryd.underlying21 iL) (sQ R (G2 (b:=6) R iL iL) (sQ R (GT R iL iL) (mM R (sQ R (Ec R iL iL) (sQ R (DL R Tryd.underlying5 Tryd.underlying21 iL) (sQ R (GT R iL iL) (mA R (mA R (aZ (c35 _ (Zi (Br (P:=Tryd.prog) (fun (r:Int × Int)=>.r (.int .i32 r.1)) (fun (r:Int × Int)=>rI r.2) h14 iL (.t (.d R)) (.t (.d R))))))))))))))))))))))))))
theorem Qp {s1 r} (h:Iv s1=some r):AZ Tryd.prog 85 [rS s1] (.tup [.r (.int .i32 r.1),rI r.2]):=by
 unfold Iv at h
 refine mF Tryd.func85 Tryd.ntmps85 R fun n0=>aU (mA R (mA R (aZ (aT fun c2=>(aU (mM R (sQ R (Lw R iL iL) (mM R (vM R (Zb h fun ch1 ech1 h1=>(vQ R (CL R Tryd.underlying9 (iR R) iL (Ae ech1)) (vQ R (Bb R (iR R) iL) (xN R (aZ (cI R h1 (fun h2=>?_) fun h2=>?_)))))))))))))))
 ·refine aT fun c4=>(aF [0] ?_)
  exact aR (mM R (Zb h2 fun ch2 ech2 h3=>(sQ R (CL R Tryd.underlying9 iL iL (fun _=>ech2)) (sQ R (DL R Tryd.underlying5 Tryd.underlying21 iL) (mA R (mA R (aZ (c4 _ (Zi (Br (P:=Tryd.prog) (fun (r:Int × Int)=>.r (.int .i32 r.1)) (fun (r:Int × Int)=>rI r.2) h3 iL (.t (.d R)) (.t (.d R))))))))))))
 refine aF [0] ?_
 exact aR (mM R (B7 h2 fun r1 r2 er1 h4=>(cL (WM (er1)) R (mM R (xX R (xX R (mA R (mA R (aZ (c2 _ (Zi (Br (P:=Tryd.prog) (fun (r:Int × Int)=>.r (.int .i32 r.1)) (fun (r:Int × Int)=>rI r.2) h4 iL (.t (.d R)) (.t (.d R))))))))))))))
theorem Ty {c1 r} (h:KA c1=some r):AZ Tryd.prog 86 [rI c1] (rB r):=by
 unfold KA at h
 exact mF Tryd.func86 Tryd.ntmps86 R fun n0=>aU (mA R (aZ (aU (mM R (xQ R (mM R (vM R (vQ R (BP R (iR R) iL) (xO R (mM R (vM R (vQ R (Bp R (iR R) iL) (vQ R (Zf R (iR R)) (wQ R (Zf R iL) (wQ R (Bb R (iR R) iL) (vQ R (Bm R (iR R) (iR R)) (xO R (mM R (vM R (vQ R (Bp R (iR R) iL) (vQ R (Zf R (iR R)) (wQ R (Zf R iL) (wQ R (Bb R (iR R) iL) (vQ R (Bm R (iR R) (iR R)) (xO R (mM R (vM R (vQ R (BH R (iR R) iL) (vQ R (Zf R (iR R)) (wQ R (Zf R iL) (wQ R (DI R (iR R) iL) (vQ R (Bm R (iR R) (iR R)) (xO R (mA R (aZ (Zi (yB h R)))))))))))))))))))))))))))))))))))))
theorem SU {s1 r} (h:JF s1=some r):AZ Tryd.prog 70 [rS s1] (rB r):=by
 unfold JF at h
 refine mF Tryd.func70 Tryd.ntmps70 R fun n0=>aU (mA R (aZ (aS fun K2 c2 wK2=>(Ze (BA h fun o1 hit1 hk1 he1=>?_)))))
 have J1 : ∀ (u2:Unit) (i5:NN),o1 = .nrm u2→K2 ⟨[],[],(i5 0),31⟩:=by
  intro u2 i5 e
  have h1:=hk1 _ e
  exact c2 _ (zB h1 R id)
 refine Zo (fun (s3:List UInt8) i3=>⟨[(0,rS s3)],[],(i3 0),31⟩) (AG [n0]) hit1 wk ?_
 intro s3 i3 v1 hv1 hx1
 have h2:DV s3=some v1:=hv1; unfold DV at h2
 refine aT fun c4=>(aU (mM R (sQ R (Lw R iL iL) (aZ (cI R h2 (fun h3=>?_) fun h3=>?_)))))
 ·refine Zc (c4 _ (Ze (aU (mM R (B7 h3 fun r1 r2 er1 h4=>(cL (Qp (er1)) R (mM R (xX R (xX R (mA R (mA R (aZ (aT fun c7=>(aU (mM R (xQ R (mM R (vM R (vQ R (BP R (iR R) iL) (xN R (mM R (vM R (vQ R (BP R (iR R) iL) (xO R (mM R (vM R (vQ R (DL R Tryd.underlying21 Tryd.underlying3 (iR R)) (Zb h4 fun r3 er3 h5=>vL (fun hg=>Ty (Ae er3 hg)) R (vQ R (BD R (iR R)) (xO R (aZ (cI R h5 (fun h6=>?_) fun h6=>?_))))))))))))))))))))))))))))))))
  ·exact zB (he1 _ (xH hx1 h6)) R id
  refine Zc (c7 _ (aF [0,4] ?_))
  refine aR (mM R (mM R (Zb h6 fun s5 es5 h7=>?_)))
  refine sQ R (Qy R Tryd.underlying9 iL (by exact ⟨_,iL⟩) (by exact R) (fun _=>es5)) ?_
  exact mA R (Zg (Zn h7 (AG [(i3 0)]) wk))
 exact Zm (wK2 _ _ wk (J1 _ (AG [(i3 0)]) (xH hx1 h3)))
theorem Qo {s1 r} (h:IV s1=some r):AZ Tryd.prog 94 [rS s1] (rB r):=by
 unfold IV at h
 refine mF Tryd.func94 Tryd.ntmps94 R fun n0=>aU (mA R (aZ (aT fun C2=>(aU (mM R (sQ R (HX R iL iL) (mM R (vM R (vQ R (Ea R Tryd.underlying9 (iR R)) (vQ R (BH R (iR R) iL) (xO R (mM R (vM R (Zb h fun ch1 ech1 h1=>(vQ R (CL R Tryd.underlying9 (iR R) iL (Ae ech1)) (vQ R (Bb R (iR R) iL) (xO R (mM R (vM R (Zb h1 fun ch2 ech2 h2=>(vQ R (CL R Tryd.underlying9 (iR R) iL (Ae ech2)) (vQ R (BH R (iR R) iL) (xO R (aZ (cI R h2 (fun h3=>?_) fun h3=>?_)))))))))))))))))))))))))
 ·exact zB h3 R id
 refine Zc (C2 _ (aS fun K5 C5 wK5=>(aT fun C6=>(aF [0] ?_))))
 refine aR (mM R (sQ R (Ea R Tryd.underlying9 iL) (mM R (aZ (C6 _ (Ze (BA h3 fun o1 hit1 hk1 he1=>?_)))))))
 have J1 : ∀ (u2:Unit) (i5:NN),o1 = .nrm u2→K5 ⟨[],[],(i5 0),53⟩:=by
  intro u2 i5 e
  have h4:=hk1 _ e
  exact C5 _ (zB h4 R id)
 refine Zo (fun (x2:Int) i3=>⟨[(0,rS s1),(23,rL s1),(24,rI x2)],[],(i3 0),53⟩) (AG [n0]) hit1 wk ?_
 intro x2 i3 v1 hv1 hx1
 have h5:HY s1 x2=some v1:=hv1; unfold HY at h5
 refine aU (xS R (aZ (aT fun C9=>(cI R h5 (fun h6=>?_) fun h6=>?_))))
 ·refine Zc (C9 _ (aT fun C10=>(Ze (aU (mM R (mA R (aZ (aU (mM R (mM R (Zb h6 fun c1 ec1 h7=>(sQ R (CL R Tryd.underlying9 iL iL (fun _=>ec1)) (mA R (aZ (aU (mM R (xS R (mM R (vM R (vQ R (BH R (iR R) iL) (xO R (mM R (vM R (vQ R (Bb R (iR R) iL) (vQ R (Zf R (iR R)) (wQ R (Zf R iL) (wQ R (BH R (iR R) iL) (vQ R (Ep R (iR R) (iR R)) (xN R (mM R (vM R (vQ R (Is R (iR R) iL) (xN R (mM R (vM R (vQ R (Is R (iR R) iL) (xN R (aZ (cI R h7 (fun h8=>?_) fun h8=>?_)))))))))))))))))))))))))))))))))))))))
  ·exact zB (he1 _ (xH hx1 h8)) R id
  refine Zc (C10 _ (aF [0,23,24] ?_))
  exact aR (Zb h8 fun x4 ex4 h9=>(xA R ex4 (mM R (Zg (Zn h9 (AG [(i3 0)]) wk)))))
 exact Zm (wK5 _ _ wk (J1 _ (AG [(i3 0)]) (xH hx1 h6)))
theorem Vv {s1 r} (h:I0 s1=some r):AZ Tryd.prog 95 [rS s1] (rB r):=by
 unfold I0 at h
 refine mF Tryd.func95 Tryd.ntmps95 R fun n0=>aU (mA R (aZ (aT fun c2=>(aU (mM R (sQ R (HX R iL iL) (mM R (vM R (vQ R (Ea R Tryd.underlying9 (iR R)) (vQ R (BH R (iR R) iL) (xO R (aZ (cI R h (fun h1=>?_) fun h1=>?_)))))))))))))
 ·exact zB h1 R id
 refine Zc (c2 _ (aS fun K5 c5 wK5=>(aU (mM R (sQ R (Ea R Tryd.underlying9 iL) (mM R (aZ (Ze (BA h1 fun o1 hit1 hk1 he1=>?_)))))))))
 have J1 : ∀ (u2:Unit) (i5:NN),o1 = .nrm u2→K5 ⟨[],[],(i5 0),27⟩:=by
  intro u2 i5 e
  have h2:=hk1 _ e
  exact c5 _ (zB h2 R id)
 refine Zo (fun (x2:Int) i3=>⟨[(0,rS s1),(12,rL s1),(13,rI x2)],[],(i3 0),27⟩) (AG [n0]) hit1 wk ?_
 intro x2 i3 v1 hv1 hx1
 have h3:Jt s1 x2=some v1:=hv1; unfold Jt at h3
 refine aU (xS R (aZ (aT fun c9=>(cI R h3 (fun h4=>?_) fun h4=>?_))))
 ·refine Zc (c9 _ (aT fun c10=>(Ze (aU (mM R (mA R (aZ (aU (mM R (mM R (Zb h4 fun ch1 ech1 h5=>(sQ R (CL R Tryd.underlying9 iL iL (fun _=>ech1)) (xS R (mM R (vM R (vM R (vQ R (CL R Tryd.underlying9 (iR R) (iR R) (fun _=>ech1)) (vQ R (BH R (iR R) iL) (xO R (aZ (cI R h5 (fun h6=>?_) fun h6=>?_)))))))))))))))))))))
  ·exact zB (he1 _ (xH hx1 h6)) R id
  refine Zc (c10 _ (aF [0,12,13] ?_))
  exact aR (Zb h6 fun x4 ex4 h7=>(xA R ex4 (mM R (Zg (Zn h7 (AG [(i3 0)]) wk)))))
 exact Zm (wK5 _ _ wk (J1 _ (AG [(i3 0)]) (xH hx1 h4)))
theorem Re {l1 b r} (h:Jc l1 b=some r):AZ Tryd.prog 87 [qd l1,rB b] (rI r):=by
 unfold Jc at h
 refine mF Tryd.func87 Tryd.ntmps87 R fun n0=>aU (mA R (aZ (aS fun K2 c2 wK2=>(aU (mM R (xL Cg R (mM R (aZ (Ze (BA h fun o1 hit1 hk1 he1=>?_))))))))))
 have J1 : ∀ (u2:Unit) (i5:NN),o1 = .nrm u2→K2 ⟨[],[],(i5 0),48⟩:=by
  intro u2 i5 e
  have h1:=hk1 _ e
  exact c2 _ (zI h1 R id)
 refine Zo (fun (x2:Int) i3=>⟨[(0,qd l1),(1,rB b),(7,qd l1),(8,rL l1),(9,rI x2)],[],(i3 0),48⟩) (AG [n0]) hit1 wk ?_
 intro x2 i3 v1 hv1 hx1
 have h2:Hq l1 b x2=some v1:=hv1; unfold Hq at h2
 refine aU (xS R (aZ (aT fun c6=>(cI R h2 (fun h3=>?_) fun h3=>?_))))
 ·refine Zc (c6 _ (aT fun c7=>(Ze (aU (mM R (Zb h3 fun x4 ex4 h4=>(xI Cg R ex4 (xB ((Lc x4)) Mu R (sS R (Zp (cs:=[.r (.str []),.r (.str [])]) 6 R Uq R R) (mA R (Zl R R (Zh (ds:=(Lc x4)) R U2 iL R iL R R R R) (aZ (Ze (aU (lF Hl Cw R R (Zb h4 fun r1 er1 h5=>(cL (Qo (er1)) R (sQ R (BD R iL) (mA R (aZ (cI R h5 (fun h6=>?_) fun h6=>?_)))))))))))))))))))))
  ·exact zI (he1 _ (xH hx1 h6)) R id
  refine aT fun c11=>(aG [0,1,5,6,7,8,9] [6] ?_)
  refine aR (lF LF Cw R R (Zb h6 fun r2 er2 h7=>(cL (Vv (er2)) R (sQ R (BD R iL) (mM R (vM R (vQ R (Zf R (iR R)) (wQ R (fB R LF iL fR R) (wQ R (Zk (a:=rS x4.Value) R Cw (iR R) R R) (wQ R (HX R (iR R) iL) (vQ R (Bm R (iR R) (iR R)) (vQ R (BD R (iR R)) (xN R (mA R (aZ (c11 _ (cI R h7 (fun h8=>?_) fun h8=>?_)))))))))))))))))
  ·exact zI (he1 _ (xH hx1 h8)) R id
  refine aT fun c13=>?_
  refine CQ Be (by kernel_rfl) ?_
  refine qP R (Zf R iL) (qP R (BH R iL iL) (qP R (Zf R iL) (qO R (fB R Hl iL fR R) (qO R (Zk (a:=rS x4.Name) R Cw (iR R) R R) (qO R (Zf R iL) (qO R (Zf R iL) (Zb h8 fun x5 ex5 h9=>qO R (BW R (iR R) iL (Ae ex5)) (Zb h9 fun x6 ex6 h10=>qO R (BB R Cg.slice (iR R) (iR R) (fun _=>R) (Ae ex6)) (qO R (Zj R Hl (iR R)) (qO R (Bi (d:=.str x6.Name) R Cw (iR R) R) (qO R (V7 R (iR R) (iR R)) (qP R (Bm R iL (iR R)) (qP R (Dl R iL) (AQ.nil (c13 _ (cI R h10 (fun h11=>?_) fun h11=>?_))))))))))))))))
  ·exact zI (he1 _ (xH hx1 h11)) R id
  refine Zc (c7 _ (aF [0,1,7,8,9] ?_))
  exact aR (Zb h11 fun x7 ex7 h12=>(xA R ex7 (mM R (Zg (Zn h12 (AG [((i3 0)+1)]) wk)))))
 exact Zm (wK2 _ _ wk (J1 _ (AG [(i3 0)]) (xH hx1 h3)))
theorem SQ {l1 r} (h:Ia l1=some r):AZ Tryd.prog 71 [qd l1] (rI r):=by
 unfold Ia at h
 exact mF Tryd.func71 Tryd.ntmps71 R fun n0=>aU (mA R (aZ (aU (mM R (Zb h fun r1 er1 h1=>(cL (Re (er1)) R (mA R (aZ (Zi (yI h1 R))))))))))
theorem Pd {c1 r} (h:Fx c1=some r):AZ Tryd.prog 55 (JN c1) (rB r):=by
 unfold Fx at h
 exact mF Tryd.func55 Tryd.ntmps55 R fun n0=>aU (sS R (A6 (cs:=(Ai c1)) 1 R iL R R) (mA R (aZ (aU (lF IE Cw R R (sQ R (HX R iL iL) (mM R (vF Gv AH R R (vQ R (BP R (iR R) iL) (xN R (mM R (vF Fk GY R R (vQ R (IC R Cg.slice (iR R)) (vQ R (BP R (iR R) iL) (xN R (mA R (aZ (Zi (yB h R)))))))))))))))))))
theorem Pc {x1 r} (h:Jo x1=some r):AZ Tryd.prog 63 [rI x1] (rB r):=by
 unfold Jo at h
 exact mF Tryd.func63 Tryd.ntmps63 R fun n0=>aU (mA R (aZ (aU (mM R (mM R (xU R (mA R (aZ (Zi (yB h R))))))))))
theorem KS {x1 y1 r} (h:GO x1 y1=some r):AZ Tryd.prog 42 [rI x1,rI y1] (rI r):=by
 unfold GO at h
 refine mF Tryd.func42 Tryd.ntmps42 R fun n0=>aU (mA R (aZ (aU (mM R (Zb h fun xNaN1 exNaN1 h1=>(cL (Pc (exNaN1)) R (mA R (aZ (aU (mM R (Zb h1 fun yNaN1 eyNaN1 h2=>(cL (Pc (eyNaN1)) R (mA R (aZ (aT fun c4=>(aU (mM R (aZ (cI R h2 (fun h3=>?_) fun h3=>?_)))))))))))))))))))
 ·refine aT fun c6=>(aT fun c7=>(aF [6] ?_))
  refine aR (mM R (aZ (c7 _ (cI R h3 (fun h4=>?_) fun h4=>?_))))
  ·exact zI h4 R id
  exact Zc (c6 _ (zI h4 R id))
 refine Zc (c4 _ (aT fun c10=>(aU (mM R (aZ (cI R h3 (fun h5=>?_) fun h5=>?_))))))
 ·exact zI h5 R id
 refine Zc (c10 _ (aT fun c13=>(aT fun c14=>(aF [0,1] ?_))))
 refine aR (mM R (mM R (xS R (aZ (c14 _ (cI R h5 (fun h6=>?_) fun h6=>?_))))))
 ·exact zI h6 R id
 refine Zc (c13 _ (aT fun c16=>(aU (mM R (mM R (sQ R (BH R iL iL) (aZ (cI R h6 (fun h7=>?_) fun h7=>?_))))))))
 ·exact zI h7 R id
 exact Zc (c16 _ (zI h7 R id))
theorem Oq {v r} (h:H2 v=some r):AZ Tryd.prog 41 [.r (.sl (v.map (AR .i64)))] (rI r):=by
 unfold H2 at h
 refine mF Tryd.func41 Tryd.ntmps41 R fun n0=>aU (mA R (aZ (aU (mA R (aZ (aS fun K3 c3 wK3=>(aU (mM R (xL BM R (mM R (aZ (Ze (BA h fun o1 hit1 hk1 he1=>?_)))))))))))))
 have J1 : ∀ (u2:Unit) (i5:NN),o1 = .nrm u2→K3 ⟨[(3,rI 0)],[],(i5 0),18⟩:=by
  intro u2 i5 e
  have h1:=hk1 _ e
  exact c3 _ (aU (mM R (mA R (aZ (Zi (yI h1 R))))))
 refine Zo (fun (x2:Int) i3=>⟨[(3,rI 0),(6,.r (.sl (v.map (AR .i64)))),(7,rL v),(8,rI x2)],[],(i3 0),18⟩) (AG [n0]) hit1 wk ?_
 intro x2 i3 v1 hv1 hx1
 have h2:Cc v x2=some v1:=hv1; unfold Cc at h2
 refine aU (xS R (aZ (aT fun c7=>(cI R h2 (fun h3=>?_) fun h3=>?_))))
 ·refine Zc (c7 _ (aT fun c8=>(Ze (aU (Zb h3 fun x4 ex4 h4=>(xI BM R ex4 (xV (.int .i64 x4) AH R (mA R (aZ (aU (mM R (mM R (xU R (aZ (cI R h4 (fun h5=>?_) fun h5=>?_)))))))))))))))
  ·refine aT fun c11=>(aF [5] ?_)
   exact aR (mM R (mA R (aZ (c11 _ (Zi (yI (he1 _ (xH hx1 h5)) R))))))
  exact Zc (c8 _ (aR (Zb h5 fun x5 ex5 h6=>(xA R ex5 (mM R (Zg (Zn h6 (AG [(i3 0)]) wk)))))))
 exact Zm (wK3 _ _ wk (J1 _ (AG [(i3 0)]) (xH hx1 h3)))
theorem Mk {a1 b1 r} (h:FD a1 b1=some r):AZ Tryd.prog 54 [.agg (Ai a1),.agg (Ai b1)] (rI r):=by
 unfold FD at h
 refine mF Tryd.func54 Tryd.ntmps54 R fun n0=>aU (sS R (A6 (cs:=(Ai a1)) 2 R iL R R) (sS R (A6 (cs:=(Ai b1)) 3 R iL R R) (mA R (aZ (aT fun c2=>(Zb h fun r1 er1 h1=>?_))))))
 refine rP 9 [pO 5 (.ptr 2 n0 0 0),pO 6 (rI a1.Row),pO 7 (.ptr 3 (n0+1) 0 0),pO 8 (rI b1.Row),pO 9 (rI r1),pO 10 (.ptr 2 n0 0 1),pO 11 (rI a1.Col),pO 12 (.ptr 3 (n0+1) 0 1),pO 13 (rI b1.Col)] Be R (by exact ⟨oB [(2,.ptr 2 n0 0 0)] [(2,some (.box n0 41 (Ai a1)))] (fB R CU (.inl R) (fun _=>R) R),oB [(5,.ptr 2 n0 0 0)] [(2,some (.box n0 41 (Ai a1)))] (Zk (a:=rI a1.Row) R AH (.inl R) R R),oB [(3,.ptr 3 (n0+1) 0 0)] [(3,some (.box (n0+1) 41 (Ai b1)))] (fB R CU (.inl R) (fun _=>R) R),oB [(7,.ptr 3 (n0+1) 0 0)] [(3,some (.box (n0+1) 41 (Ai b1)))] (Zk (a:=rI b1.Row) R AH (.inl R) R R),oD (fun _=>[(6,rI a1.Row),(8,rI b1.Row)]) (fun _=>[]) (fun G1 e h' n=>Gp (r:=rI r1) (caps:=[]) (bs:=[rI a1.Row,rI b1.Row]) R (.inl R) R ⟨⟨_,(.inl R),.d R⟩,⟨_,(.inl R),.d R⟩,Zd⟩ (fun _=>KS (er1)) R),oB [(2,.ptr 2 n0 0 0)] [(2,some (.box n0 41 (Ai a1)))] (fB R DA (.inl R) (fun _=>R) R),oB [(10,.ptr 2 n0 0 1)] [(2,some (.box n0 41 (Ai a1)))] (Zk (a:=rI a1.Col) R AH (.inl R) R R),oB [(3,.ptr 3 (n0+1) 0 0)] [(3,some (.box (n0+1) 41 (Ai b1)))] (fB R DA (.inl R) (fun _=>R) R),oB [(12,.ptr 3 (n0+1) 0 1)] [(3,some (.box (n0+1) 41 (Ai b1)))] (Zk (a:=rI b1.Col) R AH (.inl R) R R),Zd⟩) fun G1 n1=>?_
 refine DN [0,1,2,3,4,5,6,7,8,9,10,11,12,13] [2,3] ?_
 exact Zb h1 fun r2 er2 h2=>(cL (KS (er2)) R (sS R (B6 15 R BM (f:=(AR .i64)) (l:=([r1,r2]:List Int)) ⟨R,⟨_,iL,R⟩,R,⟨_,iL,R⟩,Zd⟩ R (fun _=>R) R) (Zb h2 fun r3 er3 h3=>(cL (Oq (er3)) R (mA R (aZ (c2 _ (Zi (yI h3 R)))))))))
theorem N4 {l1 a c n r} (h:IL l1 a c n=some r):AZ Tryd.prog 48 [qc l1,rI a,rI c,rB n] (rI r):=by
 unfold IL at h
 refine mF Tryd.func48 Tryd.ntmps48 R fun n0=>aU (mA R (aZ (aS fun K2 c2 wK2=>(aU (mM R (xL A2 R (mM R (aZ (Ze (BA h fun o1 hit1 hk1 he1=>?_))))))))))
 have J1 : ∀ (u2:Unit) (i5:NN),o1 = .nrm u2→K2 ⟨[],[],(i5 0),79⟩:=by
  intro u2 i5 e
  have h1:=hk1 _ e
  exact c2 _ (zI h1 R id)
 refine Zo (fun (x2:Int) i3=>⟨[(0,qc l1),(1,rI a),(2,rI c),(3,rB n),(12,qc l1),(13,rL l1),(14,rI x2)],[],(i3 0),79⟩) (AG [n0]) hit1 wk ?_
 intro x2 i3 v1 hv1 hx1
 have h2:Js l1 a c n x2=some v1:=hv1; unfold Js at h2
 refine aU (xS R (aZ (aT fun c6=>(cI R h2 (fun h3=>?_) fun h3=>?_))))
 ·refine Zc (c6 _ (aT fun c7=>(Ze (aU (mM R (Zb h3 fun x4 ex4 h4=>(xI A2 R ex4 (xB ((Ai x4)) Bg R (sS R (Zp (cs:=E2) 10 R F7 R R) (mA R (Zl R R (Zh (ds:=(Ai x4)) R ED iL R iL R R R R) (aZ (aT fun c9=>(Ze (aU (lF CU AH R R (xS R (mM R (vF CU AH R R (vM R (vQ R (Bp R (iR R) (iR R)) (xO R (mM R (vF DA AH R R (vQ R (Bb R (iR R) iL) (xO R (mM R (vF DA AH R R (vM R (vQ R (Bp R (iR R) (iR R)) (xO R (mA R (aZ (cI R h4 (fun h5=>?_) fun h5=>?_))))))))))))))))))))))))))))))))))
  ·exact zI (he1 _ (xH hx1 h5)) R id
  refine aT fun c12=>(aG [0,1,2,3,9,10,12,13,14] [10] ?_)
  refine aR (lF Gv AH R R (xS R (mM R (vF Gv AH R R (vQ R (BH R (iR R) iL) (xO R (mA R (aZ (c12 _ (cI R h5 (fun h6=>?_) fun h6=>?_))))))))))
  ·exact zI (he1 _ (xH hx1 h6)) R id
  refine aU (lF IE Cw R R (Zb h6 fun r1 er1 h7=>(cL (SU (er1)) R (sQ R (BD R iL) (mA R (aZ (cI R h7 (fun h8=>?_) fun h8=>?_)))))))
  ·exact zI (he1 _ (xH hx1 h8)) R id
  refine Zc (c9 _ (aT fun c16=>(aT fun c17=>(aG [0,1,2,3,9,10,12,13,14] [10] ?_))))
  refine aR (lF Fk GY R R (Zb h8 fun e1 ee1 h9=>(cL (SQ (ee1)) R (mA R (aZ (c17 _ (aU (mM R (xU R (aZ (cI R h9 (fun h10=>?_) fun h10=>?_)))))))))))
  ·refine aT fun c19=>(aF [11] ?_)
   exact aR (mM R (mA R (aZ (c19 _ (Zi (yI (he1 _ (xH hx1 h10)) R))))))
  refine Zc (c16 _ (aT fun c20=>(aU (xC Bg R (Zb h10 fun r2 er2 h11=>(cL (Pd (er2)) R (mM R (vM R (vQ R (BD R (iR R)) (xN R (aZ (cI R h11 (fun h12=>?_) fun h12=>?_))))))))))))
  ·exact zI (he1 _ (xH hx1 h12)) R id
  refine Zc (c20 _ (aT fun c23=>(aG [0,1,2,3,9,10,12,13,14] [10] ?_)))
  refine CQ Be (by kernel_rfl) ?_
  refine qP R (Zf R iL) (qP R (BH R iL iL) (qP R (Zf R iL) (qO R (Zf R iL) (qO R (Zf R iL) (Zb h12 fun x5 ex5 h13=>qO R (BW R (iR R) iL (Ae ex5)) (Zb h13 fun x6 ex6 h14=>qO R (BB R A2.slice (iR R) (iR R) (fun _=>R) (Ae ex6)) (qO R (DG (cs:=(Ai x6)) R Bg (iR R) R R) (qO R (Cm R Bg iL R R) (Zb h14 fun r3 er3 h15=>Lm (.one R R R) R R (r:=rI r3) (caps:=[]) (bs:=[.agg (Ai x6),.agg (Ai x4)]) R iL R ⟨⟨_,(iR R),.g (cs:=[.int .i64 x6.Row,.int .i64 x6.Col,.str x6.Text,.int .i64 x6.Ref,.sl (x6.Attrs.map Ah.row)]) R R⟩,⟨_,(iR R),.g (cs:=[.int .i64 x4.Row,.int .i64 x4.Col,.str x4.Text,.int .i64 x4.Ref,.sl (x4.Attrs.map Ah.row)]) R R⟩,Zd⟩ (fun hg=>Mk (Ae er3 hg)) R (qO R (Bp R (iR R) iL) (qP R (Bm R iL (iR R)) (AQ.nil (c23 _ (cI R h15 (fun h16=>?_) fun h16=>?_))))))))))))))
  ·exact zI (he1 _ (xH hx1 h16)) R id
  exact Zc (c7 _ (aR (Zb h16 fun x7 ex7 h17=>(xA R ex7 (mM R (Zg (Zn h17 (AG [((i3 0)+1)]) wk)))))))
 exact Zm (wK2 _ _ wk (J1 _ (AG [(i3 0)]) (xH hx1 h3)))
theorem MD {r1 a c r} (h:Gj r1 a c=some r):AZ Tryd.prog 31 [.agg (AK r1),rI a,rI c] (rB r):=by
 unfold Gj at h
 refine mF Tryd.func31 Tryd.ntmps31 R fun n0=>aU (sS R (A6 (cs:=(AK r1)) 3 R iL R R) (mA R (aZ (aU (lF Bd AH R R (sQ R (Bp R iL iL) (mM R (vF Bo AH R R (vQ R (Bp R (iR R) iL) (xN R (mM R (vF Cf AH R R (vQ R (Bp R (iR R) iL) (xN R (mM R (vF DC AH R R (vQ R (Bp R (iR R) iL) (xN R (mM R (vF Bd AH R R (vM R (vQ R (Bb R (iR R) (iR R)) (xN R (mM R (vF Bo AH R R (vM R (vQ R (Bb R (iR R) (iR R)) (xN R (mM R (vF Cf AH R R (vM R (vF Bd AH R R (Zb h fun x1 ex1 h1=>(vQ R (BW R (iR R) (iR R) (Ae ex1)) (vQ R (DI R (iR R) (iR R)) (xN R (mM R (vF DC AH R R (vM R (vF Bo AH R R (Zb h1 fun x2 ex2 h2=>(vQ R (BW R (iR R) (iR R) (Ae ex2)) (vQ R (DI R (iR R) (iR R)) (xN R (mA R (aZ ?_))))))))))))))))))))))))))))))))))))))))))))))
 exact Zi (yB h2 R)
theorem WS {a1 b1 r} (h:IZ a1 b1=some r):AZ Tryd.prog 49 [.agg (AK a1),.agg (AK b1)] (rB r):=by
 unfold IZ at h
 exact mF Tryd.func49 Tryd.ntmps49 R fun n0=>aU (sS R (A6 (cs:=(AK a1)) 2 R iL R R) (sS R (A6 (cs:=(AK b1)) 3 R iL R R) (mA R (aZ (aU (lF Bd AH R R (lF Bd AH R R (xS R (mM R (vF Bd AH R R (vF Bd AH R R (vQ R (BP R (iR R) (iR R)) (vQ R (Zf R (iR R)) (wQ R (fB R Bo iL fR R) (wQ R (Zk (a:=rI a1.Col) R AH (iR R) R R) (wQ R (fB R Bo iL fR R) (wQ R (Zk (a:=rI b1.Col) R AH (iR R) R R) (wQ R (Bb R (iR R) (iR R)) (vQ R (Bm R (iR R) (iR R)) (xO R (mA R (aZ (Zi (yB h R))))))))))))))))))))))))
theorem OF {a1 b1 r} (h:HZ a1 b1=some r):AZ Tryd.prog 38 [.agg (AK a1),.agg (AK b1)] (rB r):=by
 unfold HZ at h
 exact mF Tryd.func38 Tryd.ntmps38 R fun n0=>aU (sS R (A6 (cs:=(AK a1)) 2 R iL R R) (sS R (A6 (cs:=(AK b1)) 3 R iL R R) (mA R (aZ (aU (lF Bd AH R R (lF Bd AH R R (lF Cf AH R R (Zb h fun x1 ex1 h1=>(xA R ex1 (xS R (mM R (vF Bd AH R R (vF Bd AH R R (vF Cf AH R R (Zb h1 fun x2 ex2 h2=>(vQ R (FP R (iR R) (iR R) (Ae ex2)) (vQ R (Bb R (iR R) (iR R)) (xN R (mM R (vF Bo AH R R (vF Bo AH R R (vF DC AH R R (Zb h2 fun x3 ex3 h3=>vQ R (FP R (iR R) (iR R) (Ae ex3)) (vQ R (Bb R (iR R) (iR R)) (xN R (mM R (vF Bo AH R R (vF Bo AH R R (vF DC AH R R (Zb h3 fun x4 ex4 h4=>(vQ R (FP R (iR R) (iR R) (Ae ex4)) (vQ R (Bb R (iR R) (iR R)) (xN R (mA R (aZ (Zi (yB h4 R))))))))))))))))))))))))))))))))))))))
theorem VS {w1:AC} {q1:AC} {r:Bool} {gb1000:Nat} (h:Lg w1 q1=some r):Bq Tryd.prog 51 1 [.agg (AK q1),.ptr 1000 gb1000 0 0] [(1000,some (.box gb1000 49 (AK w1)))] (fun rr h'=>∃ (i:Nat→Nat),rr=rB r∧h'=[(1000,some (.box gb1000 49 (AK w1)))]):=by
 unfold Lg at h
 refine HJ Tryd.func51 R R Tryd.ntmps51 (Nat.le_of_ble_eq_true R) fun n0=>aU (sS R (A6 (cs:=(AK q1)) 2 R iL R R) (mA R (aZ (aU (xC Ay R (xC Ay R (Zb h fun r1 er1 h1=>(cL (OF (er1)) R (mA R (aZ ?_))))))))))
 exact Zi (DO.mk (s':=⟨[(3,rB r1)],[(1000,some (.box gb1000 49 (AK w1)))],(n0+1),7⟩) wk (EQ (fun (r:Bool) rr h'=>∃ (i:Nat→Nat),rr=rB r∧h'=[(1000,some (.box gb1000 49 (AK w1)))]) h1 (by exact ⟨rB r1,[(1000,some (.box gb1000 49 (AK w1)))],R,⟨.inr R,Zd⟩,R,R,AG [],R,R⟩)))
theorem Sd {w1:AC} {s1:List AC} {r:Int} {gb1000:Nat} (h:Kp w1 s1=some r):Bq Tryd.prog 60 1 [qa s1,.fn 51 [.ptr 1000 gb1000 0 0]] [(1000,some (.box gb1000 49 (AK w1)))] (fun rr h'=>∃ (i:Nat→Nat),rr=rI r∧h'=[(1000,some (.box gb1000 49 (AK w1)))]):=by
 unfold Kp at h
 refine HJ Tryd.func60 R R Tryd.ntmps60 (Nat.le_of_ble_eq_true R) fun n0=>aU (mA R (aZ (aS fun K2 c2 wK2=>(aU (mM R (xL Ag R (mM R (aZ (Ze (BA h fun o1 hit1 hk1 he1=>?_))))))))))
 have J1 : ∀ (u2:Unit) (i5:NN),o1 = .nrm u2→K2 ⟨[],[(1000,some (.box gb1000 49 (AK w1)))],(i5 0),19⟩:=by
  intro u2 i5 e
  have h1:=hk1 _ e
  refine c2 _ (aU (mA R (aZ ?_)))
  exact Zi (DO.mk (s':=⟨[(4,rI ((-1)))],[(1000,some (.box gb1000 49 (AK w1)))],(i5 0),19⟩) wk (EQ (fun (r:Int) rr h'=>∃ (i:Nat→Nat),rr=rI r∧h'=[(1000,some (.box gb1000 49 (AK w1)))]) h1 (by exact ⟨rI ((-1)),[(1000,some (.box gb1000 49 (AK w1)))],R,⟨.inr R,Zd⟩,R,R,AG [],R,R⟩)))
 refine Zo (fun (x2:Int) i3=>⟨[(0,qa s1),(1,.fn 51 [.ptr 1000 gb1000 0 0]),(7,rL s1),(8,rI x2)],[(1000,some (.box gb1000 49 (AK w1)))],(i3 0),19⟩) (AG [n0]) hit1 wk ?_
 intro x2 i3 v1 hv1 hx1
 have h2:IR w1 s1 x2=some v1:=hv1; unfold IR at h2
 refine aU (xS R (aZ (aT fun c6=>(cI R h2 (fun h3=>?_) fun h3=>?_))))
 ·refine Zc (c6 _ (aT fun c7=>(Ze (aU (mM R (mA R (aZ (aT fun c9=>(aR (mM R (mM R (mM R (Zb h3 fun x4 ex4 h4=>(xI Ag R ex4 (xB ((AK x4)) Ay R (Zb h4 fun r1 er1 h5=>?_))))))))))))))))
  refine Fj [1000] (hc:=[(1000,some (.box gb1000 49 (AK w1)))]) (bs:=(Ky x4)) (caps:=[.ptr 1000 gb1000 0 0]) R R R R iL R ⟨.inl ⟨iL,R⟩,Zd⟩ ⟨R,R,R,Zd⟩ (by decide) (VS er1) ?_
  intro i6 n1
  refine DN [0,1,5,7,8,9,10,11,12,13,14,15,16] [1000] ?_
  refine aZ (c9 _ (cI R h5 (fun h6=>?_) fun h6=>?_))
  ·refine aT fun c10=>(aG [5] [1000] ?_)
   refine aR (mM R (mA R (oZ c10 ?_)))
   exact Zi (DO.mk (s':=⟨[(4,rI x2)],[(1000,some (.box gb1000 49 (AK w1)))],n1,19⟩) wk (EQ (fun (r:Int) rr h'=>∃ (i:Nat→Nat),rr=rI r∧h'=[(1000,some (.box gb1000 49 (AK w1)))]) (he1 _ (xH hx1 h6)) (by exact ⟨rI x2,[(1000,some (.box gb1000 49 (AK w1)))],R,⟨.inr R,Zd⟩,R,R,AG [],R,R⟩)))
  refine Zc (c7 _ (aG [0,1,7,8] [1000] ?_))
  exact aR (Zb h6 fun x5 ex5 h7=>(xA R ex5 (mM R (Zg (Zn h7 (AG [n1]) wk)))))
 exact Zm (wK2 _ _ wk (J1 _ (AG [(i3 0)]) (xH hx1 h3)))
theorem U6 {w1:AC} {s1:List AC} {r:Bool} {gb1000:Nat} (h:IH w1 s1=some r):Bq Tryd.prog 50 1 [qa s1,.fn 51 [.ptr 1000 gb1000 0 0]] [(1000,some (.box gb1000 49 (AK w1)))] (fun rr h'=>∃ (i:Nat→Nat),rr=rB r∧h'=[(1000,some (.box gb1000 49 (AK w1)))]):=by
 unfold IH at h
 refine HJ Tryd.func50 R R Tryd.ntmps50 (Nat.le_of_ble_eq_true R) fun n0=>aU (mA R (aZ (aT fun c2=>(aR (mM R (mM R (Zb h fun r1 er1 h1=>?_)))))))
 refine Fj [1000] (hc:=[(1000,some (.box gb1000 49 (AK w1)))]) (bs:=[qa s1,.fn 51 [.ptr 1000 gb1000 0 0]]) (caps:=[]) R R R R iL R ⟨.inl ⟨iL,R⟩,.inl ⟨iL,R⟩,Zd⟩ ⟨R,R,R,Zd⟩ (by decide) (Sd er1) ?_
 intro i1 n1
 refine DN [0,1,4,5,6,7] [1000] ?_
 refine sQ R (Bp R iL iL) (mA R (oZ c2 ?_))
 exact Zi (DO.mk (s':=⟨[(4,rB ((decide (0≤r1))))],[(1000,some (.box gb1000 49 (AK w1)))],n1,9⟩) wk (EQ (fun (r:Bool) rr h'=>∃ (i:Nat→Nat),rr=rB r∧h'=[(1000,some (.box gb1000 49 (AK w1)))]) h1 (by exact ⟨rB ((decide (0≤r1))),[(1000,some (.box gb1000 49 (AK w1)))],R,⟨.inr R,Zd⟩,R,R,AG [],R,R⟩)))
theorem VN {g1 r} (h:Ju g1=some r):AZ Tryd.prog 28 (Nb g1) (rI r):=by
 unfold Ju at h
 refine mF Tryd.func28 Tryd.ntmps28 R fun n0=>aU (sS R (A6 (cs:=(Ab g1)) 1 R iL R R) (mA R (aZ (aT fun c2=>(aU (lF Ct AH R R (xS R (mM R (vF Ct AH R R (vQ R (BH R (iR R) iL) (xO R (mM R (vF DP AH R R (vQ R (Bb R (iR R) iL) (xO R (mM R (vF DP AH R R (vQ R (BH R (iR R) iL) (xO R (aZ (cI R h (fun h1=>?_) fun h1=>?_)))))))))))))))))))))
 ·exact zI h1 R id
 refine Zc (c2 _ (aT fun c5=>(aT fun c6=>(aG [1] [1] ?_))))
 refine aR (lF E1 CK R R (lF Ct AH R R (lF DP AH R R (Zb h1 fun e1 ee1 h2=>(cL (N4 (ee1)) R (mA R (aZ (c6 _ (aU (mM R (xU R (aZ (cI R h2 (fun h3=>?_) fun h3=>?_)))))))))))))
 ·refine aT fun c8=>(aF [3] ?_)
  exact aR (mM R (mA R (aZ (c8 _ (Zi (yI h3 R))))))
 refine Zc (c5 _ (aS fun K9 c9 wK9=>(aT fun c10=>(aG [1] [1] ?_))))
 refine aR (lF Bz BC R R (xL Ag R (mM R (aZ (c10 _ (Ze (BA h3 fun o1 hit1 hk1 he1=>?_)))))))
 have J1 : ∀ (u2:Unit) (i5:NN),o1 = .nrm u2→K9 ⟨[],[],(i5 0),81⟩:=by
  intro u2 i5 e
  have h4:=hk1 _ e
  exact c9 _ (zI h4 R id)
 refine Zo (fun (x2:Int) i3=>⟨[(1,.ptr 1 n0 0 0),(35,qa g1.Merges),(36,rL g1.Merges),(37,rI x2)],[(1,some (.box n0 25 (Ab g1)))],(i3 0),81⟩) (AG [(n0+1)]) hit1 wk ?_
 intro x2 i3 v1 hv1 hx1
 have h5:I1 g1 x2=some v1:=hv1; unfold I1 at h5
 refine aU (xS R (aZ (aT fun c13=>(cI R h5 (fun h6=>?_) fun h6=>?_))))
 ·refine Zc (c13 _ (aT fun c14=>(Ze (aU (mM R (Zb h6 fun x4 ex4 h7=>(xI Ag R ex4 (xB ((AK x4)) Ay R (sS R (Zp (cs:=DB) 5 R Dy R R) (mA R (Zl R R (Zh (ds:=(AK x4)) R Dp iL R iL R R R R) (aZ (Ze (aU (xC Ay R (lF Ct AH R R (lF DP AH R R (Zb h7 fun r1 er1 h8=>(cL (MD (er1)) R (sQ R (BD R iL) (mA R (aZ (cI R h8 (fun h9=>?_) fun h9=>?_)))))))))))))))))))))))
  ·exact zI (he1 _ (xH hx1 h9)) R id
  refine aT fun c18=>(aG [1,4,5,35,36,37] [1,5] ?_)
  refine aR (lF Cf AH R R (xQ R (mM R (vF DC AH R R (vQ R (BP R (iR R) iL) (xN R (mA R (aZ (c18 _ (cI R h9 (fun h10=>?_) fun h10=>?_))))))))))
  ·exact zI (he1 _ (xH hx1 h10)) R id
  refine aT fun c20=>?_
  refine CQ Be (by kernel_rfl) ?_
  refine qP R (Zf R iL) (qP R (BH R iL iL) (qP R (Zf R iL) (qO R (fB R Bz iL fR R) (qO R (Zk (a:=qa g1.Merges) R BC (iR R) R R) (qO R (Zf R iL) (Zb h10 fun x5 ex5 h11=>qO R (BW R (iR R) iL (Ae ex5)) (Zb h11 fun x6 ex6 h12=>qO R (BB R Ag.slice (iR R) (iR R) (fun _=>R) (Ae ex6)) (qO R (DG (cs:=(AK x6)) R Ay (iR R) R R) (qO R (Cm R Ay iL R R) (Zb h12 fun r2 er2 h13=>Lm (.one R R R) R R (r:=rB r2) (caps:=[]) (bs:=[.agg (AK x6),.agg (AK x4)]) R iL R ⟨⟨_,(iR R),.g (cs:=[.int .i64 x6.Row,.int .i64 x6.Col,.int .i64 x6.H,.int .i64 x6.W]) R R⟩,⟨_,(iR R),.g (cs:=[.int .i64 x4.Row,.int .i64 x4.Col,.int .i64 x4.H,.int .i64 x4.W]) R R⟩,Zd⟩ (fun hg=>WS (Ae er2 hg)) R (qO R (BD R (iR R)) (qP R (Bm R iL (iR R)) (qP R (Dl R iL) (AQ.nil (c20 _ (cI R h13 (fun h14=>?_) fun h14=>?_))))))))))))))))
  ·exact zI (he1 _ (xH hx1 h14)) R id
  refine aT fun c22=>(aG [1,4,5,35,36,37] [1,5] ?_)
  refine aR (lF Bz BC R R (mM R (Zb h14 fun l1 el1 h15=>?_)))
  refine sQ R (O0 R Ag.slice iL (by exact R) (by exact ⟨_,iL⟩) (fun _=>R) (fun _=>el1)) ?_
  refine sQ R (Od (bs:=[.ptr 5 (i3 0) 0 0]) R (by exact ⟨iL,Zd⟩)) ?_
  refine Zb h15 fun r3 er3 h16=>?_
  refine Fj [5] (hc:=[(1000,some (.box (i3 0) 49 (AK x4)))]) (bs:=[qa l1,.fn 51 [.ptr 1000 (i3 0) 0 0]]) (caps:=[]) R R R R iL R ⟨.inl ⟨iL,R⟩,.inl ⟨iL,R⟩,Zd⟩ ⟨R,R,R,Zd⟩ (by decide) (U6 er3) ?_
  intro i6 n1
  refine DN [1,4,5,35,36,37,74,75,76,77,78,79] [1,5] ?_
  refine mA R (aZ (c22 _ (cI R h16 (fun h17=>?_) fun h17=>?_)))
  ·exact zI (he1 _ (xH hx1 h17)) R id
  refine Zc (c14 _ (aG [1,35,36,37] [1] ?_))
  exact aR (Zb h17 fun x7 ex7 h18=>(xA R ex7 (mM R (Zg (Zn h18 (AG [n1]) wk)))))
 exact Zm (wK9 _ _ wk (J1 _ (AG [(i3 0)]) (xH hx1 h6)))
theorem MC {a1 r} (h:G6 a1=some r):AZ Tryd.prog 52 [qb a1] (rI r):=by
 unfold G6 at h
 refine mF Tryd.func52 Tryd.ntmps52 R fun n0=>aU (mA R (aZ (aU (mA R (mA R (aZ (aS fun K3 c3 wK3=>(aU (mM R (xL A9 R (mM R (aZ (Ze (IY h fun o1 hit1 hk1 he1=>?_))))))))))))))
 have J1 : ∀ (before4:Int) (after4:Int) (i5:NN),o1 = .nrm (before4,after4)→K3 ⟨[(3,rI before4),(4,rI after4)],[],(i5 0),83⟩:=by
  intro before4 after4 i5 e
  have h1:=hk1 _ _ e
  refine c3 _ (aT fun c5=>(aU (mM R (sQ R (BH R iL iL) (mM R (vM R (vQ R (BH R (iR R) iL) (xO R (aZ (cI R h1 (fun h2=>?_) fun h2=>?_))))))))))
  ·exact zI h2 R id
  exact Zc (c5 _ (zI h2 R id))
 refine GR (fun (before2:Int) (after2:Int) (x2:Int) i3=>⟨[(0,qb a1),(3,rI before2),(4,rI after2),(7,qb a1),(8,rL a1),(9,rI x2)],[],(i3 0),83⟩) (AG [n0]) hit1 wk ?_
 intro before2 after2 x2 i3 v1 hv1 hx1
 have h3:HU a1 before2 after2 x2=some v1:=hv1; unfold HU at h3
 refine aU (xS R (aZ (aT fun c10=>(cI R h3 (fun h4=>?_) fun h4=>?_))))
 ·refine Zc (c10 _ (aS fun K11 c11 wK11=>(Ze (IY h4 fun p1 hp1 hk2 he2=>?_))))
  have J2 : ∀ (before5:Int) (after5:Int) (i6:NN),p1 = .nrm (before5,after5)→K11 ⟨[(0,qb a1),(3,rI before5),(4,rI after5),(7,qb a1),(8,rL a1),(9,rI x2)],[],(i6 0),83⟩:=by
   intro before5 after5 i6 e
   have h5:=hk2 _ _ e
   exact c11 _ (aR (Zb h5 fun x4 ex4 h6=>(xA R ex4 (mM R (Zg (Eb.mk h6 (AG [(i6 0)]) wk))))))
  refine aU (mM R (Zb hp1 fun x5 ex5 h7=>(xI A9 R ex5 (xB ([rI x5.Kind,rI x5.N]) Kb R (sS R (Zp (cs:=[rI 0,rI 0]) 6 R Kj R R) (mA R (Zl R R (Zh (ds:=[rI x5.Kind,rI x5.N]) R Ld iL R iL R R R R) (aZ (aT fun c13=>(Ze (aU (lF Bv AH R R (xS R (mM R (vF Bv AH R R (vQ R (BH R (iR R) iL) (xO R (mA R (aZ (cI R h7 (fun h8=>?_) fun h8=>?_))))))))))))))))))))
  ·refine aT fun c15=>(aF [] ?_)
   exact aR (mA R (aZ (c15 _ (Zi (yI (he1 _ (hx1 _ (Za (he2 _ (Za h8).symm)).symm)) R)))))
  refine aT fun c16=>(aG [0,3,4,5,6,7,8,9] [6] ?_)
  refine aR (lF CE AH R R (xS R (mM R (vF CE AH R R (vQ R (BH R (iR R) iL) (xO R (mA R (aZ (c16 _ (cI R h8 (fun h9=>?_) fun h9=>?_))))))))))
  ·refine aT fun c17=>(aF [] ?_)
   exact aR (mA R (aZ (c17 _ (Zi (yI (he1 _ (hx1 _ (Za (he2 _ (Za h9).symm)).symm)) R)))))
  refine aT fun c18=>?_
  refine CQ Be (by kernel_rfl) ?_
  refine qP R (Zf R iL) (qP R (BH R iL iL) (qP R (Zf R iL) (qO R (Zf R iL) (qO R (Zf R iL) (Zb h9 fun x6 ex6 h10=>qO R (BW R (iR R) iL (Ae ex6)) (Zb h10 fun x7 ex7 h11=>qO R (BB R A9.slice (iR R) (iR R) (fun _=>R) (Ae ex7)) (qO R (Zj R Bv (iR R)) (qO R (Bi (d:=.int .i64 x7.Kind) R AH (iR R) R) (qO R (fB R Bv iL fR R) (qO R (Zk (a:=rI x5.Kind) R AH (iR R) R R) (qO R (BP R (iR R) (iR R)) (qO R (Zf R (iR R)) (qT R (Zf R iL) (qT R (Zf R iL) (qT R (BW R (iR R) iL (fun h=>Ae ex6 (Bool.and_eq_true_iff.1 h).1)) (qT R (BB R A9.slice (iR R) (iR R) (fun _=>R) (fun h=>Ae ex7 (Bool.and_eq_true_iff.1 h).1)) (qT R (Zj R Bv (iR R)) (qT R (Bi (d:=.int .i64 x7.Kind) R AH (iR R) R) (qT R (BP R (iR R) iL) (qT R (Zf R (iR R)) (qT R (fB R Bv iL fR R) (qT R (Zk (a:=rI x5.Kind) R AH (iR R) R R) (qT R (BP R (iR R) iL) (qT R (Bm R (iR R) (iR R)) (qO R (Ep R (iR R) (iR R)) (qP R (Bm R iL (iR R)) (qP R (Dl R iL) (AQ.nil (c18 _ (cI R h11 (fun h12=>?_) fun h12=>?_))))))))))))))))))))))))))))))
  ·refine aT fun c19=>(aF [] ?_)
   exact aR (mA R (aZ (c19 _ (Zi (yI (he1 _ (hx1 _ (Za (he2 _ (Za h12).symm)).symm)) R)))))
  refine Zc (c13 _ (aS fun K20 c20 wK20=>(aT fun c21=>(aG [0,3,4,6,7,8,9] [6] ?_))))
  refine aR (lF Bv AH R R (xU R (aZ (c21 _ (BL h12 fun p2 hp2 hk3=>?_)))))
  have J3 : ∀ (before6:Int) (i7:NN),p2=before6→K20 ⟨[(0,qb a1),(3,rI before6),(4,rI after2),(6,.ptr 6 (i3 0) 0 0),(7,qb a1),(8,rL a1),(9,rI x2)],[(6,some (.box (i3 0) 43 [rI x5.Kind,rI x5.N]))],(i7 0),83⟩:=by
   intro before6 i7 e
   have h13:=hk3 _ e
   refine c20 _ (aU (lF Bv AH R R (xU R (aZ (cI R h13 (fun h14=>?_) fun h14=>?_)))))
   ·exact aR (mM R (lF CE AH R R (Zb h14 fun x8 ex8 h15=>(xA R ex8 (sQ R (J0 R iL iL) (mA R (Zg (wK11 _ _ wk (J2 _ _ (AG [(i7 0)]) (Za h15).symm)))))))))
   exact Zc (wK11 _ _ wk (J2 _ _ (AG [(i7 0)]) (Za h14).symm))
  refine aC R (fun hc7=>?_) (fun hc7=>?_)
  ·have h16:=B4 hc7 hp2
   exact aR (mM R (lF CE AH R R (Zb h16 fun x9 ex9 h17=>(xA R ex9 (sQ R (J0 R iL iL) (mA R (Zg (wK20 _ _ wk (J3 _ (AG [((i3 0)+1)]) (Za h17).symm)))))))))
  ·have h16:=B5 hc7 hp2
   exact Zc (wK20 _ _ wk (J3 _ (AG [((i3 0)+1)]) (Za h16).symm))
 exact Zm (wK3 _ _ wk (J1 _ _ (AG [(i3 0)]) (xH hx1 h4)))
theorem VL {e1 r} (h:I8 e1=some r):AZ Tryd.prog 29 (PY e1) (rI r):=by
 unfold I8 at h
 refine mF Tryd.func29 Tryd.ntmps29 R fun n0=>aU (sS R (A6 (cs:=(Ad e1)) 1 R iL R R) (mA R (aZ (aS fun K2 c2 wK2=>(aT fun c3=>(aR (lF Eh CJ R R (lF Et CJ R R ?_))))))))
 refine sQ R (Lu R Tj (q:=[(0,_),(1,_)]) (by exact ⟨R,R,R,iL,R,R,R,iL,Zd⟩) (cs:=[qb e1.Rows,qb e1.Cols]) (by rfl)) ?_
 refine mM R (aZ (c3 _ (Ze (BA h fun o1 hit1 hk1 he1=>?_))))
 have J1 : ∀ (u2:Unit) (i5:NN),o1 = .nrm u2→K2 ⟨[(1,.ptr 1 n0 0 0)],[(1,some (.box n0 28 (Ad e1)))],(i5 0),63⟩:=by
  intro u2 i5 e
  have h1:=hk1 _ e
  refine c2 _ (aT fun c4=>(aU (lF EM CK R R (Zb h1 fun f1 ef1 h2=>(cL (N4 (ef1)) R (mA R (aZ (aU (mM R (xU R (aZ (cI R h2 (fun h3=>?_) fun h3=>?_))))))))))))
  ·exact aU (mM R (mA R (aZ (Zi (yI h3 R)))))
  refine Zc (c4 _ (aS fun K8 c8 wK8=>(aT fun c9=>(aR (lF FG BC R R (lF Dx BC R R ?_))))))
  refine sQ R (Lu R Nx (q:=[(0,_),(1,_)]) (by exact ⟨R,R,R,iL,R,R,R,iL,Zd⟩) (cs:=[qa e1.Split,qa e1.Merge]) (by rfl)) ?_
  refine mM R (aZ (c9 _ (Ze (BA h3 fun o2 hit2 hk2 he2=>?_))))
  have J2 : ∀ (u4:Unit) (i10:NN),o2 = .nrm u4→K8 ⟨[],[],(i10 0),63⟩:=by
   intro u4 i10 e
   have h4:=hk2 _ e
   exact c8 _ (zI h4 R id)
  refine Zo (fun (x5:Int) i8=>⟨[(35,.agg [qa e1.Split,qa e1.Merge]),(36,rI x5)],[],(i8 0),63⟩) (AG [(i5 0)]) hit2 wk ?_
  intro x5 i8 v1 hv1 hx2
  have h5:DK e1 x5=some v1:=hv1; unfold DK at h5
  refine aU (xS R (aZ (aT fun c12=>(cI R h5 (fun h6=>?_) fun h6=>?_))))
  ·refine Zc (c12 _ (aS fun K13 c13 wK13=>(Ze (aU (mM R (Zb h6 fun l1 el1 h7=>(sQ R (MJ (f:=fun a=>qa a) (l:=[e1.Split,e1.Merge]) R N7 (.inl R) (.inl R) R (fun _=>el1)) (mA R (mA R (aZ (aU (mM R (xL Ag R (mM R (aZ (Ze (BA h7 fun o3 hit3 hk3 he3=>?_)))))))))))))))))
   have J3 : ∀ (u6:Unit) (i15:NN),o3 = .nrm u6→K13 ⟨[(35,.agg [qa e1.Split,qa e1.Merge]),(36,rI x5)],[],(i15 0),63⟩:=by
    intro u6 i15 e
    have h8:=hk3 _ e
    exact c13 _ (aR (Zb h8 fun x10 ex10 h9=>(xA R ex10 (mM R (Zg (Zn h9 (AG [(i15 0)]) wk))))))
   refine Zo (fun (x8:Int) i13=>⟨[(7,rI x5),(35,.agg [qa e1.Split,qa e1.Merge]),(36,rI x5),(40,qa l1),(41,rL l1),(42,rI x8)],[],(i13 0),63⟩) (AG [(i8 0)]) hit3 wk ?_
   intro x8 i13 v2 hv2 hx3
   have h10:Dk x5 l1 x8=some v2:=hv2; unfold Dk at h10
   refine aU (xS R (aZ (aT fun c17=>(cI R h10 (fun h11=>?_) fun h11=>?_))))
   ·refine Zc (c17 _ (aT fun c18=>(Ze (aU (Zb h11 fun x11 ex11 h12=>(xI Ag R ex11 (xB ((AK x11)) Ay R (sS R (Zp (cs:=DB) 10 R Dy R R) (Zl R R (Zh (ds:=(AK x11)) R Dp iL R iL R R R R) (aZ (aT fun c20=>(aU (xC Ay R (Zb h12 fun r1 er1 h13=>(cL (MD (er1)) R (sQ R (BD R iL) (aZ (cI R h13 (fun h14=>?_) fun h14=>?_))))))))))))))))))
    ·refine aT fun c22=>(aF [] ?_)
     exact aR (mA R (aZ (c22 _ (Zi (yI (he2 _ (hx2 _ (Za (he3 _ (xH hx3 h14))).symm)) R)))))
    refine Zc (c20 _ (aU (mM R (xQ R (mM R (vF Cf AH R R (vQ R (BP R (iR R) iL) (xN R (mM R (vF DC AH R R (vQ R (BP R (iR R) iL) (xN R (aZ (cI R h14 (fun h15=>?_) fun h15=>?_))))))))))))))
    ·refine aT fun c24=>(aF [] ?_)
     exact aR (mA R (aZ (c24 _ (Zi (yI (he2 _ (hx2 _ (Za (he3 _ (xH hx3 h15))).symm)) R)))))
    refine Zc (c18 _ (aF [7,35,36,40,41,42] ?_))
    exact aR (Zb h15 fun x12 ex12 h16=>(xA R ex12 (mM R (Zg (Zn h16 (AG [((i13 0)+1)]) wk)))))
   exact Zm (wK13 _ _ wk (J3 _ (AG [(i13 0)]) (xH hx3 h11)))
  exact Zm (wK8 _ _ wk (J2 _ (AG [(i8 0)]) (xH hx2 h6)))
 refine Zo (fun (x2:Int) i3=>⟨[(1,.ptr 1 n0 0 0),(15,.agg [qb e1.Rows,qb e1.Cols]),(16,rI x2)],[(1,some (.box n0 28 (Ad e1)))],(i3 0),63⟩) (AG [(n0+1)]) hit1 wk ?_
 intro x2 i3 v3 hv3 hx1
 have h17:DR e1 x2=some v3:=hv3; unfold DR at h17
 refine aU (xS R (aZ (aT fun c26=>(cI R h17 (fun h18=>?_) fun h18=>?_))))
 ·refine Zc (c26 _ (aT fun c27=>(Ze (aU (Zb h18 fun a1 ea1 h19=>(sQ R (MJ (f:=fun a=>qb a) (l:=[e1.Rows,e1.Cols]) R UH (.inl R) (.inl R) R (fun _=>ea1)) (mA R (aZ (aU (mM R (Zb h19 fun f2 ef2 h20=>(cL (MC (ef2)) R (mA R (aZ (aU (mM R (xU R (aZ (cI R h20 (fun h21=>?_) fun h21=>?_)))))))))))))))))))
  ·refine aT fun c31=>(aF [5] ?_)
   exact aR (mM R (mA R (aZ (c31 _ (Zi (yI (he1 _ (xH hx1 h21)) R))))))
  exact Zc (c27 _ (aR (Zb h21 fun x13 ex13 h22=>(xA R ex13 (mM R (Zg (Zn h22 (AG [(i3 0)]) wk)))))))
 exact Zm (wK2 _ _ wk (J1 _ (AG [(i3 0)]) (xH hx1 h18)))
theorem PS {a1 r} (h:Hs a1=some r):AZ Tryd.prog 72 [qb a1] (.tup [rI r.1,rI r.2]):=by
 unfold Hs at h
 refine mF Tryd.func72 Tryd.ntmps72 R fun n0=>aU (mA R (mA R (aZ (aU (mA R (mA R (aZ (aS fun K3 c3 wK3=>(aU (mM R (xL A9 R (mM R (aZ (Ze (DU h fun o1 hit1 hk1=>?_)))))))))))))))
 have J1 : ∀ (before4:Int) (after4:Int) (i5:NN),o1=(before4,after4)→K3 ⟨[(4,rI before4),(5,rI after4)],[],(i5 0),31⟩:=by
  intro before4 after4 i5 e
  have h1:=hk1 _ _ e
  exact c3 _ (aU (mM R (mM R (mA R (mA R (aZ (Zi (Br (P:=Tryd.prog) (fun (r:Int × Int)=>rI r.1) (fun (r:Int × Int)=>rI r.2) h1 iL (.t (.d R)) (.t (.d R))))))))))
 refine GR (fun (before2:Int) (after2:Int) (x2:Int) i3=>⟨[(4,rI before2),(5,rI after2),(8,qb a1),(9,rL a1),(10,rI x2)],[],(i3 0),31⟩) (AG [n0]) hit1 wk ?_
 intro before2 after2 x2 i3 v1 hv1 hx1
 have h2:Hd a1 before2 after2 x2=some v1:=hv1; unfold Hd at h2
 refine aU (xS R (aZ (aT fun c7=>(cI R h2 (fun h3=>?_) fun h3=>?_))))
 ·refine Zc (c7 _ (aS fun K8 c8 wK8=>(Ze (DU h3 fun p1 hp1 hk2=>?_))))
  have J2 : ∀ (before5:Int) (after5:Int) (i6:NN),p1=(before5,after5)→K8 ⟨[(4,rI before5),(5,rI after5),(8,qb a1),(9,rL a1),(10,rI x2)],[],(i6 0),31⟩:=by
   intro before5 after5 i6 e
   have h4:=hk2 _ _ e
   exact c8 _ (aR (Zb h4 fun x4 ex4 h5=>(xA R ex4 (mM R (Zg (Eb.mk h5 (AG [(i6 0)]) wk))))))
  refine aU (Zb hp1 fun x5 ex5 h6=>(xI A9 R ex5 (xB ([rI x5.Kind,rI x5.N]) Kb R (sS R (Zp (cs:=[rI 0,rI 0]) 7 R Kj R R) (Zl R R (Zh (ds:=[rI x5.Kind,rI x5.N]) R Ld iL R iL R R R R) (aZ (aS fun K10 c10 wK10=>(aU (lF Bv AH R R (xU R (aZ (BL h6 fun p2 hp2 hk3=>?_))))))))))))
  have J3 : ∀ (before6:Int) (i7:NN),p2=before6→K10 ⟨[(4,rI before6),(5,rI after2),(7,.ptr 7 (i3 0) 0 0),(8,qb a1),(9,rL a1),(10,rI x2)],[(7,some (.box (i3 0) 43 [rI x5.Kind,rI x5.N]))],(i7 0),31⟩:=by
   intro before6 i7 e
   have h7:=hk3 _ e
   refine c10 _ (aU (lF Bv AH R R (xU R (aZ (cI R h7 (fun h8=>?_) fun h8=>?_)))))
   ·exact aR (mM R (lF CE AH R R (Zb h8 fun after6 eafter6 h9=>(xA R eafter6 (mA R (Zg (wK8 _ _ wk (J2 _ _ (AG [(i7 0)]) (Za h9).symm))))))))
   exact Zc (wK8 _ _ wk (J2 _ _ (AG [(i7 0)]) (Za h8).symm))
  refine aC R (fun hc3=>?_) (fun hc3=>?_)
  ·have h10:=B4 hc3 hp2
   exact aR (mM R (lF CE AH R R (Zb h10 fun before7 ebefore7 h11=>(xA R ebefore7 (mA R (Zg (wK10 _ _ wk (J3 _ (AG [((i3 0)+1)]) (Za h11).symm))))))))
  ·have h10:=B5 hc3 hp2
   exact Zc (wK10 _ _ wk (J3 _ (AG [((i3 0)+1)]) (Za h10).symm))
 exact Zm (wK3 _ _ wk (J1 _ _ (AG [(i3 0)]) (xH hx1 h3)))
theorem Q7 {a1 r} (h:JS a1=some r):AZ Tryd.prog 53 [qb a1] (.tup [rI r.1,rI r.2.1,rI r.2.2]):=by
 unfold JS at h
 refine mF Tryd.func53 Tryd.ntmps53 R fun n0=>aU (mA R (mA R (mA R (aZ (aT fun c2=>(aU (mM R (Zb h fun e1 ee1 h1=>(cL (MC (ee1)) R (mA R (aZ (aU (mM R (xU R (aZ (cI R h1 (fun h2=>?_) fun h2=>?_))))))))))))))))
 ·exact aU (mM R (mA R (mA R (mA R (aZ (Zi (F6 (P:=Tryd.prog) (fun (r:Int × Int × Int)=>rI r.1) (fun (r:Int × Int × Int)=>rI r.2.1) (fun (r:Int × Int × Int)=>rI r.2.2) h2 iL (.t (.d R)) (.t (.d R)) (.t (.d R)))))))))
 refine Zc (c2 _ (aU (mM R (B7 h2 fun r1 r2 er1 h3=>(cL (PS (er1)) R (mM R (xX R (xX R (mA R (mA R (aZ (aT fun c7=>(aF [6,7] ?_)))))))))))))
 exact aR (mM R (mM R (mA R (mA R (mA R (aZ (c7 _ (Zi (F6 (P:=Tryd.prog) (fun (r:Int × Int × Int)=>rI r.1) (fun (r:Int × Int × Int)=>rI r.2.1) (fun (r:Int × Int × Int)=>rI r.2.2) h3 iL (.t (.d R)) (.t (.d R)) (.t (.d R)))))))))))
theorem Ks {n1 a1 r} (h:C1 n1 a1=some r):AZ Tryd.prog 30 [rI n1,qb a1] (.tup [rI r.1,rB r.2]):=by
 unfold C1 at h
 refine mF Tryd.func30 Tryd.ntmps30 R fun n0=>aU (mA R (mA R (aZ (aT fun c2=>(aU (mM R (xL A9 R (xQ R (aZ (cI R h (fun h1=>?_) fun h1=>?_))))))))))
 ·exact aU (mM R (mA R (mA R (aZ (Zi (Br (P:=Tryd.prog) (fun (r:Int × Bool)=>rI r.1) (fun (r:Int × Bool)=>rB r.2) h1 iL (.t (.d R)) (.t (.d R))))))))
 refine Zc (c2 _ (aU (mM R (OL h1 fun r1 r2 r3 er1 h2=>(cL (Q7 (er1)) R (mM R (xX R (xX R (xX R (mA R (mA R (mA R (aZ (aT fun c6=>(aF [0,6,7] ?_)))))))))))))))
 exact aR (mM R (mM R (mM R (xQ R (mA R (mA R (aZ (c6 _ (Zi (Br (P:=Tryd.prog) (fun (r:Int × Bool)=>rI r.1) (fun (r:Int × Bool)=>rB r.2) h2 iL (.t (.d R)) (.t (.d R))))))))))))
theorem VV {g1 e1 r} (h:EN g1 e1=some r):AZ Tryd.prog 12 [.agg (Ab g1),.agg (Ad e1)] (.tup [rI r.1,rI r.2.1,rI r.2.2]):=by
 unfold EN at h
 refine mF Tryd.func12 Tryd.ntmps12 R fun n0=>aU (sS R (A6 (cs:=(Ab g1)) 2 R iL R R) (sS R (A6 (cs:=(Ad e1)) 3 R iL R R) (mA R (mA R (mA R (aZ (aT fun c2=>(aU (xC Cs R (Zb h fun f1 ef1 h1=>(cL (VN (ef1)) R (mA R (aZ (aU (mM R (xU R (aZ (cI R h1 (fun h2=>?_) fun h2=>?_))))))))))))))))))
 ·refine aT fun c5=>(aF [7] ?_)
  exact aR (mM R (mA R (mA R (mA R (aZ (c5 _ (Zi (F6 (P:=Tryd.prog) (fun (r:Int × Int × Int)=>rI r.1) (fun (r:Int × Int × Int)=>rI r.2.1) (fun (r:Int × Int × Int)=>rI r.2.2) h2 iL (.t (.d R)) (.t (.d R)) (.t (.d R))))))))))
 refine Zc (c2 _ (aT fun c6=>(aT fun c7=>(aG [2,3] [2,3] ?_))))
 refine aR (xC Fm R (Zb h2 fun f2 ef2 h3=>(cL (VL (ef2)) R (mA R (aZ (c7 _ (aU (mM R (xU R (aZ (cI R h3 (fun h4=>?_) fun h4=>?_)))))))))))
 ·exact aU (mM R (mA R (mA R (mA R (aZ (Zi (F6 (P:=Tryd.prog) (fun (r:Int × Int × Int)=>rI r.1) (fun (r:Int × Int × Int)=>rI r.2.1) (fun (r:Int × Int × Int)=>rI r.2.2) h4 iL (.t (.d R)) (.t (.d R)) (.t (.d R)))))))))
 refine Zc (c6 _ (aU (lF Ct AH R R (lF Eh CJ R R (B7 h4 fun r1 r2 er1 h5=>(cL (Ks (er1)) R (mM R (xX R (xX R (mA R (mA R (aZ (aT fun c11=>(aG [2,3,9,10] [2,3] ?_))))))))))))))
 refine aR (lF DP AH R R (lF Et CJ R R (B7 h5 fun r3 r4 er3 h6=>(cL (Ks (er3)) R (mM R (xX R (xX R (mA R (mA R (aZ (c11 _ (aT fun c12=>(aT fun c13=>(aG [3,9,10,11,12] [3] ?_))))))))))))))
 refine aR (mM R (sQ R (BD R iL) (mM R (vM R (vQ R (BD R (iR R)) (xO R (aZ (c13 _ (cI R h6 (fun h7=>?_) fun h7=>?_)))))))))
 ·refine aT fun c14=>(aF [] ?_)
  exact aR (mA R (mA R (mA R (aZ (c14 _ (Zi (F6 (P:=Tryd.prog) (fun (r:Int × Int × Int)=>rI r.1) (fun (r:Int × Int × Int)=>rI r.2.1) (fun (r:Int × Int × Int)=>rI r.2.2) h7 iL (.t (.d R)) (.t (.d R)) (.t (.d R)))))))))
 refine Zc (c12 _ (aS fun K15 c15 wK15=>(aU (lF EM CK R R (xL A2 R (mM R (aZ (Ze (BA h7 fun o1 hit1 hk1 he1=>?_)))))))))
 have J1 : ∀ (u2:Unit) (i5:NN),o1 = .nrm u2→K15 ⟨[(3,.ptr 3 (n0+1) 0 0),(9,rI r1),(11,rI r3)],[(3,some (.box (n0+1) 28 (Ad e1)))],(i5 0),92⟩:=by
  intro u2 i5 e
  have h8:=hk1 _ e
  refine c15 _ (aS fun K17 c17 wK17=>(aT fun c18=>(aR (lF FG BC R R (lF Dx BC R R ?_)))))
  refine sQ R (Lu R Nx (q:=[(0,_),(1,_)]) (by exact ⟨R,R,R,iL,R,R,R,iL,Zd⟩) (cs:=[qa e1.Split,qa e1.Merge]) (by rfl)) ?_
  refine mM R (aZ (c18 _ (Ze (BA h8 fun o2 hit2 hk2 he2=>?_))))
  have J2 : ∀ (u4:Unit) (i10:NN),o2 = .nrm u4→K17 ⟨[(9,rI r1),(11,rI r3)],[],(i10 0),92⟩:=by
   intro u4 i10 e
   have h9:=hk2 _ e
   exact c17 _ (aU (mM R (mM R (mA R (mA R (mA R (aZ (Zi (F6 (P:=Tryd.prog) (fun (r:Int × Int × Int)=>rI r.1) (fun (r:Int × Int × Int)=>rI r.2.1) (fun (r:Int × Int × Int)=>rI r.2.2) h9 iL (.t (.d R)) (.t (.d R)) (.t (.d R)))))))))))
  refine Zo (fun (x5:Int) i8=>⟨[(9,rI r1),(11,rI r3),(73,.agg [qa e1.Split,qa e1.Merge]),(74,rI x5)],[],(i8 0),92⟩) (AG [(i5 0)]) hit2 wk ?_
  intro x5 i8 v1 hv1 hx2
  have h10:B1 e1 r1 r3 x5=some v1:=hv1; unfold B1 at h10
  refine aU (xS R (aZ (aT fun c21=>(cI R h10 (fun h11=>?_) fun h11=>?_))))
  ·refine Zc (c21 _ (aS fun K22 c22 wK22=>(Ze (aU (Zb h11 fun l1 el1 h12=>(sQ R (MJ (f:=fun a=>qa a) (l:=[e1.Split,e1.Merge]) R N7 (.inl R) (.inl R) R (fun _=>el1)) (mA R (aZ (aU (mM R (xL Ag R (mM R (aZ (Ze (BA h12 fun o3 hit3 hk3 he3=>?_)))))))))))))))
   have J3 : ∀ (u6:Unit) (i15:NN),o3 = .nrm u6→K22 ⟨[(9,rI r1),(11,rI r3),(73,.agg [qa e1.Split,qa e1.Merge]),(74,rI x5)],[],(i15 0),92⟩:=by
    intro u6 i15 e
    have h13:=hk3 _ e
    exact c22 _ (aR (Zb h13 fun x10 ex10 h14=>(xA R ex10 (mM R (Zg (Zn h14 (AG [(i15 0)]) wk))))))
   refine Zo (fun (x8:Int) i13=>⟨[(9,rI r1),(11,rI r3),(73,.agg [qa e1.Split,qa e1.Merge]),(74,rI x5),(77,qa l1),(78,rL l1),(79,rI x8)],[],(i13 0),92⟩) (AG [(i8 0)]) hit3 wk ?_
   intro x8 i13 v2 hv2 hx3
   have h15:Ef r1 r3 l1 x8=some v2:=hv2; unfold Ef at h15
   refine aU (xS R (aZ (aT fun c26=>(cI R h15 (fun h16=>?_) fun h16=>?_))))
   ·refine Zc (c26 _ (aT fun c27=>(Ze (aU (Zb h16 fun x11 ex11 h17=>(xI Ag R ex11 (xB ((AK x11)) Ay R (sS R (Zp (cs:=DB) 18 R Dy R R) (Zl R R (Zh (ds:=(AK x11)) R Dp iL R iL R R R R) (aZ (aU (xC Ay R (mM R (mM R (Zb h17 fun r5 er5 h18=>(cL (MD (er5)) R (sQ R (BD R iL) (aZ (cI R h18 (fun h19=>?_) fun h19=>?_)))))))))))))))))))
    ·refine aT fun c30=>(aF [] ?_)
     exact aR (mA R (mA R (mA R (aZ (c30 _ (Zi (F6 (P:=Tryd.prog) (fun (r:Int × Int × Int)=>rI r.1) (fun (r:Int × Int × Int)=>rI r.2.1) (fun (r:Int × Int × Int)=>rI r.2.2) (he2 _ (hx2 _ (Za (he3 _ (xH hx3 h19))).symm)) iL (.t (.d R)) (.t (.d R)) (.t (.d R)))))))))
    refine Zc (c27 _ (aF [9,11,73,74,77,78,79] ?_))
    exact aR (Zb h19 fun x12 ex12 h20=>(xA R ex12 (mM R (Zg (Zn h20 (AG [((i13 0)+1)]) wk)))))
   exact Zm (wK22 _ _ wk (J3 _ (AG [(i13 0)]) (xH hx3 h16)))
  exact Zm (wK17 _ _ wk (J2 _ (AG [(i8 0)]) (xH hx2 h11)))
 refine Zo (fun (x2:Int) i3=>⟨[(3,.ptr 3 (n0+1) 0 0),(9,rI r1),(11,rI r3),(52,qc e1.Cells),(53,rL e1.Cells),(54,rI x2)],[(3,some (.box (n0+1) 28 (Ad e1)))],(i3 0),92⟩) (AG [(n0+2)]) hit1 wk ?_
 intro x2 i3 v3 hv3 hx1
 have h21:Fa e1 r1 r3 x2=some v3:=hv3; unfold Fa at h21
 refine aU (xS R (aZ (aT fun c32=>(cI R h21 (fun h22=>?_) fun h22=>?_))))
 ·refine Zc (c32 _ (aT fun c33=>(Ze (aU (Zb h22 fun x13 ex13 h23=>(xI A2 R ex13 (xB ((Ai x13)) Bg R (sS R (Zp (cs:=E2) 14 R F7 R R) (Zl R R (Zh (ds:=(Ai x13)) R ED iL R iL R R R R) (aZ (aU (lF CU AH R R (mM R (sQ R (Bp R iL iL) (mM R (vF DA AH R R (vM R (vQ R (Bp R (iR R) (iR R)) (xO R (aZ (cI R h23 (fun h24=>?_) fun h24=>?_)))))))))))))))))))))
  ·refine aT fun c36=>(aF [] ?_)
   exact aR (mA R (mA R (mA R (aZ (c36 _ (Zi (F6 (P:=Tryd.prog) (fun (r:Int × Int × Int)=>rI r.1) (fun (r:Int × Int × Int)=>rI r.2.1) (fun (r:Int × Int × Int)=>rI r.2.2) (he1 _ (xH hx1 h24)) iL (.t (.d R)) (.t (.d R)) (.t (.d R)))))))))
  refine Zc (c33 _ (aG [3,9,11,52,53,54] [3] ?_))
  exact aR (Zb h24 fun x14 ex14 h25=>(xA R ex14 (mM R (Zg (Zn h25 (AG [((i3 0)+1)]) wk)))))
 exact Zm (wK15 _ _ wk (J1 _ (AG [(i3 0)]) (xH hx1 h22)))
theorem Ov {c1 r} (h:HH c1=some r):AZ Tryd.prog 56 (JN c1) (.agg (Ai r)):=by
 unfold HH at h
 refine mF Tryd.func56 Tryd.ntmps56 R fun n0=>aU (sS R (A6 (cs:=(Ai c1)) 1 R iL R R) (sS R (Zp (cs:=E2) 2 R F7 R R) (aZ (aU (lF Fk GY R R (Zb h fun l1 el1 h1=>(sS R (Ss 5 (f:=Ah.row) R Cg iL (.inl ⟨iL,fun _=>R⟩) el1) (sQ R (fB R Fk iL fR R) (Zl R R (Zh (ds:=[rI c1.Row,rI c1.Col,rS c1.Text,rI c1.Ref,.own 5 (n0+2)]) R Rj iL R iL R R R R) (aZ (aU (xC Bg R (Zl R R (Zh (ds:=[rI c1.Row,rI c1.Col,rS c1.Text,rI c1.Ref,.own 5 (n0+2)]) R ED iL R iL R R R R) (aZ ?_))))))))))))))
 exact Zi (DE (P:=Tryd.prog) (fun (r:AE)=>.agg (Ai r)) h1 iL (.a Bg R R R (.agg (by exact ⟨.closed _ R,.closed _ R,.closed _ R,.closed _ R,.own R,Zd⟩))))
theorem Sk {a1 p1 r} (h:Jh a1 p1=some r):AZ Tryd.prog 73 [qb a1,rI p1] (rI r):=by
 unfold Jh at h
 refine mF Tryd.func73 Tryd.ntmps73 R fun n0=>aU (mA R (aZ (aU (mA R (mA R (aZ (aS fun K3 c3 wK3=>(aU (mM R (xL A9 R (mM R (aZ (Ze (BA h fun o1 hit1 hk1 he1=>?_))))))))))))))
 have J1 : ∀ (u2:Unit) (i5:NN),o1 = .nrm u2→K3 ⟨[],[],(i5 0),51⟩:=by
  intro u2 i5 e
  have h1:=hk1 _ e
  exact c3 _ (zI h1 R id)
 refine GR (fun (from2:Int) (to2:Int) (x2:Int) i3=>⟨[(1,rI p1),(5,rI from2),(6,rI to2),(9,qb a1),(10,rL a1),(11,rI x2)],[],(i3 0),51⟩) (AG [n0]) hit1 wk ?_
 intro from2 to2 x2 i3 v1 hv1 hx1
 have h2:HR a1 p1 from2 to2 x2=some v1:=hv1; unfold HR at h2
 refine aU (xS R (aZ (aT fun c7=>(cI R h2 (fun h3=>?_) fun h3=>?_))))
 ·refine Zc (c7 _ (aS fun K8 c8 wK8=>(Ze (IY h3 fun p2 hp1 hk2 he2=>?_))))
  have J2 : ∀ (from4:Int) (to4:Int) (i6:NN),p2 = .nrm (from4,to4)→K8 ⟨[(1,rI p1),(5,rI from4),(6,rI to4),(9,qb a1),(10,rL a1),(11,rI x2)],[],(i6 0),51⟩:=by
   intro from4 to4 i6 e
   have h4:=hk2 _ _ e
   exact c8 _ (aR (Zb h4 fun x4 ex4 h5=>(xA R ex4 (mM R (Zg (Eb.mk h5 (AG [(i6 0)]) wk))))))
  refine aU (Zb hp1 fun x5 ex5 h6=>(xI A9 R ex5 (xB ([rI x5.Kind,rI x5.N]) Kb R (sS R (Zp (cs:=[rI 0,rI 0]) 8 R Kj R R) (Zl R R (Zh (ds:=[rI x5.Kind,rI x5.N]) R Ld iL R iL R R R R) (aZ (aS fun K10 c10 wK10=>(aU (lF Bv AH R R (aZ (Ze (BA h6 fun p3 hp2 hk3 he3=>?_))))))))))))
  have J3 : ∀ (to5:Int) (i7:NN),p3 = .nrm to5→K10 ⟨[(1,rI p1),(5,rI from2),(6,rI to5),(8,.ptr 8 (i3 0) 0 0),(9,qb a1),(10,rL a1),(11,rI x2)],[(8,some (.box (i3 0) 43 [rI x5.Kind,rI x5.N]))],(i7 0),51⟩:=by
   intro to5 i7 e
   have h7:=hk3 _ e
   exact c10 _ (aR (mM R (lF CE AH R R (Zb h7 fun from5 efrom5 h8=>(xA R efrom5 (mA R (Zg (wK8 _ _ wk (J2 _ _ (AG [(i7 0)]) (Za h8).symm)))))))))
  refine aU (xQ R (mA R (aZ (aC R (fun hc2=>?_) (fun hc2=>?_)))))
  ·have h9:=B4 hc2 hp2
   exact aU (mM R (lF CE AH R R (Zb h9 fun to6 eto6 h10=>(xA R eto6 (mA R (aZ (Zm (wK8 _ _ wk (J2 _ _ (AG [((i3 0)+1)]) (Za (he3 _ (Za h10).symm)).symm)))))))))
  ·have h9:=B5 hc2 hp2
   refine aU (xQ R (mA R (aZ (cI R h9 (fun h11=>?_) fun h11=>?_))))
   ·refine aT fun c15=>(aT fun c16=>(aG [1,5,6,8,9,10,11] [8] ?_))
    refine aR (mM R (mM R (lF CE AH R R (Zb h11 fun x6 ex6 h12=>(xA R ex6 (xS R (aZ (c16 _ (cI R h12 (fun h13=>?_) fun h13=>?_)))))))))
    ·refine aT fun c17=>(aF [1,5,6] ?_)
     exact aR (mM R (mM R (Zb h13 fun x7 ex7 h14=>(xA R ex7 (mM R (Zb h14 fun x8 ex8 h15=>(sQ R (BW R iL iL (fun _=>ex8)) (mA R (aZ (c17 _ (Zi (yI (he1 _ (hx1 _ (Za (he2 _ (Za (he3 _ (Za h15).symm)).symm)).symm)) R))))))))))))
    exact Zc (c15 _ (aR (mM R (lF CE AH R R (Zb h13 fun to7 eto7 h16=>(xA R eto7 (mA R (Zg (wK10 _ _ wk (J3 _ (AG [((i3 0)+1)]) (Za h16).symm))))))))))
   refine aT fun c18=>(aG [1,5,6,8,9,10,11] [8] ?_)
   refine aR (mM R (mM R (lF CE AH R R (Zb h11 fun x9 ex9 h17=>(xA R ex9 (xS R (aZ (c18 _ (cI R h17 (fun h18=>?_) fun h18=>?_)))))))))
   ·refine aT fun c19=>(aF [] ?_)
    exact aR (mA R (aZ (c19 _ (Zi (yI (he1 _ (hx1 _ (Za (he2 _ (Za (he3 _ (Za h18).symm)).symm)).symm)) R)))))
   exact Zc (wK10 _ _ wk (J3 _ (AG [((i3 0)+1)]) (Za h18).symm))
 exact Zm (wK3 _ _ wk (J1 _ (AG [(i3 0)]) (xH hx1 h3)))
theorem PN {a1 p r} (h:EV a1 p=some r):AZ Tryd.prog 57 [qb a1,.r (.sl (p.map (AR .i64)))] (.tup [.r (.sl (r.1.map (AR .i64))),rI r.2]):=by
 unfold EV at h
 refine mF Tryd.func57 Tryd.ntmps57 R fun n0=>aU (mA R (mA R (aZ (aT fun c2=>(aU (mM R (Zb h fun e1 ee1 h1=>(cL (MC (ee1)) R (mA R (aZ (aU (mM R (xU R (aZ (cI R h1 (fun h2=>?_) fun h2=>?_)))))))))))))))
 ·exact aU (mM R (mA R (mA R (aZ (Zi (Br (P:=Tryd.prog) (fun (r:(List Int) × Int)=>.r (.sl (r.1.map (AR .i64)))) (fun (r:(List Int) × Int)=>rI r.2) h2 iL (.t (.one (.nil))) (.t (.d R))))))))
 refine Zc (c2 _ (aU (mM R (B7 h2 fun r1 r2 er1 h3=>(cL (PS (er1)) R (mM R (xX R (xX R (mA R (mA R (aZ (aT fun c7=>(aF [0,1,7] ?_)))))))))))))
 refine aR (mA R (aZ (c7 _ (aS fun K8 c8 wK8=>(aU (mM R (xL BM R (mM R (aZ (Ze (BA h3 fun o1 hit1 hk1 he1=>?_)))))))))))
 have J1 : ∀ (out4:List Int) (i5:NN),o1 = .nrm out4→K8 ⟨[(9,.own 5009 (i5 0))],[(5009,some (.arr (i5 0) 3 1 (out4.map (AR .i64))))],(i5 1),43⟩:=by
  intro out4 i5 e
  have h4:=hk1 _ e
  exact c8 _ (aU (mM R (mA R (mA R (aZ (Zi (Br (P:=Tryd.prog) (fun (r:(List Int) × Int)=>.r (.sl (r.1.map (AR .i64)))) (fun (r:(List Int) × Int)=>rI r.2) h4 iL (.t (.one (.own R))) (.t (.d R)))))))))
 refine Ce (fun (x2:Int) (out2:List Int) i3=>⟨[(0,qb a1),(7,rI r1),(9,.own 5009 (i3 0)),(22,.r (.sl (p.map (AR .i64)))),(23,rL p),(24,rI x2)],[(5009,some (.arr (i3 0) 3 1 (out2.map (AR .i64))))],(i3 1),43⟩) (AG [n0,(n0+1)]) hit1 (Zq (Zq (GS 9 5009 3 1 (by decide) R) (by exact Aa.cv (e':=[(0,qb a1),(1,.r (.sl (p.map (AR .i64)))),(7,rI r1),(9,.own 5009 n0),(22,.r (.sl (p.map (AR .i64)))),(23,rL p),(24,rI 0)]) (h':=[(5009,some (.arr n0 3 1 (([]:List Int).map (AR .i64))))]) ⟨jL,jL,jL,jL,jL,jL,jL,Zd⟩ ⟨.inl R,Zd⟩ nL)) wk) ?_
 intro x2 out2 i3 v1 hv1 hx1
 have h5:IA a1 p r1 x2 out2=some v1:=hv1; unfold IA at h5
 refine aU (xS R (aZ (aT fun c12=>(cI R h5 (fun h6=>?_) fun h6=>?_))))
 ·refine Zc (c12 _ (aT fun c13=>(Ze (aU (Zb h6 fun x4 ex4 h7=>(xI BM R ex4 (xV (.int .i64 x4) AH R (mA R (aZ (aT fun c15=>(aU (mM R (xS R (mM R (vM R (vM R (vQ R (Bp R (iR R) (iR R)) (xO R (aZ (cI R h7 (fun h8=>?_) fun h8=>?_))))))))))))))))))))
  ·refine aT fun c17=>(aF [] ?_)
   exact aR (mA R (mA R (aZ (c17 _ (Zi (Br (P:=Tryd.prog) (fun (r:(List Int) × Int)=>.r (.sl (r.1.map (AR .i64)))) (fun (r:(List Int) × Int)=>rI r.2) (he1 _ (xH hx1 h8)) iL (.t (.one (.nil))) (.t (.d R))))))))
  refine Zc (c15 _ (aR (mM R (mM R (mM R (Zb h8 fun r3 er3 h9=>(cL (Sk (er3)) R (sS R (B6 39 R BM (f:=(AR .i64)) (l:=([r3]:List Int)) ⟨R,⟨_,iL,R⟩,Zd⟩ R (fun _=>R) R) (Zb h9 fun out5 eout5 h10=>(sS R (Cj R BM iL R (.inr (.inl ⟨_,_,iL,R⟩)) eout5) (mA R (aZ (c13 _ (aG [0,7,9,22,23,24] [5009] ?_))))))))))))))
  exact aR (Zb h10 fun x5 ex5 h11=>(xA R ex5 (mM R (Zg (CB.mk h11 (AG [((i3 1)+1),((i3 1)+2)]) wk)))))
 exact Zm (wK8 _ _ wk (J1 _ (AG [(i3 0),(i3 1)]) (xH hx1 h6)))
theorem Q5 {l1 a c r} (h:GN l1 a c=some r):AZ Tryd.prog 33 [qc l1,qb a,qb c] (qc r):=by
 unfold GN at h
 refine mF Tryd.func33 Tryd.ntmps33 R fun n0=>aU (mA R (aZ (aU (mA R (aZ (aS fun K3 C3 wK3=>(aU (mM R (xL A2 R (mM R (aZ (Ze (BL h fun o1 hit1 hk1=>?_)))))))))))))
 have J1 : ∀ (out4:List AE) (i5:NN),o1=out4→K3 ⟨[(7,.own 5007 (i5 0))],[(5007,some (.arr (i5 0) 41 5 (out4.map AE.row)))],(i5 1),74⟩:=by
  intro out4 i5 e
  have h1:=hk1 _ e
  exact C3 _ (aU (mM R (mA R (aZ (Zi (DE (P:=Tryd.prog) (fun (r:(List AE))=>qc r) h1 iL (.t (.one (.own R)))))))))
 refine Ce (fun (x2:Int) (out2:List AE) i3=>⟨[(1,qb a),(2,qb c),(7,.own 5007 (i3 0)),(14,qc l1),(15,rL l1),(16,rI x2)],[(5007,some (.arr (i3 0) 41 5 (out2.map AE.row)))],(i3 1),74⟩) (AG [n0,(n0+1)]) hit1 (Zq (Zq (GS 7 5007 41 5 (by decide) R) (by exact Aa.cv (e':=[(0,qc l1),(1,qb a),(2,qb c),(6,cZ),(7,.own 5007 n0),(14,qc l1),(15,rL l1),(16,rI 0)]) (h':=[(5007,some (.arr n0 41 5 (([]:List AE).map AE.row)))]) ⟨jL,jL,jL,jL,jL,jL,jL,jL,Zd⟩ ⟨.inl R,Zd⟩ nL)) wk) ?_
 intro x2 out2 i3 v1 hv1 hx1
 have h2:DJ l1 a c x2 out2=some v1:=hv1; unfold DJ at h2
 refine aU (xS R (aZ (aT fun C7=>(cI R h2 (fun h3=>?_) fun h3=>?_))))
 ·refine Zc (C7 _ (aS fun K8 C8 wK8=>(Ze (BL h3 fun p1 hp1 hk2=>?_))))
  have J2 : ∀ (out5:List AE) (i6:NN),p1=out5→K8 ⟨[(1,qb a),(2,qb c),(7,.own 5007 (i6 0)),(14,qc l1),(15,rL l1),(16,rI x2)],[(5007,some (.arr (i6 0) 41 5 (out5.map AE.row)))],(i6 1),74⟩:=by
   intro out5 i6 e
   have h4:=hk2 _ e
   exact C8 _ (aR (Zb h4 fun x4 ex4 h5=>(xA R ex4 (mM R (Zg (CB.mk h5 (AG [(i6 0),(i6 1)]) wk))))))
  refine aU (Zb hp1 fun x5 ex5 h6=>(xI A2 R ex5 (xB ((Ai x5)) Bg R (sS R (Zp (cs:=E2) 9 R F7 R R) (Zl R R (Zh (ds:=(Ai x5)) R ED iL R iL R R R R) (aZ (aU (xC Bg R (Zb h6 fun r1 er1 h7=>(sS R (CP (r:=.agg (Ai r1)) (caps:=[]) (bs:=(JN x5)) R iL R ⟨.inl ⟨iL,R⟩,Zd⟩ (fun _=>Ov (er1))) (Zl R R (Zh (ds:=(Ai r1)) R ED iL R iL R R R R) (aZ (aS fun K11 C11 wK11=>(aU (mM R (xL A9 R (sQ R (BH R iL iL) (aZ (BA h7 fun p2 hp2 hk3 he3=>?_)))))))))))))))))))
  have J3 : ∀ (c1:AE) (i7:NN),p2 = .nrm c1→K11 ⟨[(1,qb a),(2,qb c),(7,.own 5007 (i3 0)),(9,.ptr 9 (i3 1) 0 0),(14,qc l1),(15,rL l1),(16,rI x2)],[(9,some (.box (i3 1) 41 (Ai c1))),(5007,some (.arr (i3 0) 41 5 (out2.map AE.row)))],(i7 0),74⟩:=by
   intro c1 i7 e
   have h8:=hk3 _ e
   refine C11 _ (aS fun K13 C13 wK13=>(aU (mM R (xL A9 R (sQ R (BH R iL iL) (aZ (BA h8 fun p3 hp3 hk4 he4=>?_)))))))
   have J4 : ∀ (c2:AE) (i8:NN),p3 = .nrm c2→K13 ⟨[(1,qb a),(2,qb c),(7,.own 5007 (i3 0)),(9,.ptr 9 (i3 1) 0 0),(14,qc l1),(15,rL l1),(16,rI x2)],[(9,some (.box (i3 1) 41 (Ai c2))),(5007,some (.arr (i3 0) 41 5 (out2.map AE.row)))],(i8 0),74⟩:=by
    intro c2 i8 e
    have h9:=hk4 _ e
    exact C13 _ (aR (mM R (xC Bg R (sS R (B6 70 R A2 (f:=AE.row) (l:=([c2]:List AE)) ⟨R,⟨_,iL,R⟩,Zd⟩ R (fun _=>R) R) (Zb h9 fun out6 eout6 h10=>(sS R (Cj R A2 iL R (.inr (.inl ⟨_,_,iL,R⟩)) eout6) (mA R (Zg (wK8 _ _ wk (J2 _ (AG [((i8 0)+1),((i8 0)+2)]) (Za h10).symm))))))))))
   refine aC R (fun hc2=>?_) (fun hc2=>?_)
   ·have h11:=B4 hc2 hp3
    refine aT fun C15=>(aR (mM R (lF DA AH R R (sS R (B6 52 R BM (f:=(AR .i64)) (l:=([c1.Col]:List Int)) ⟨R,⟨_,iL,R⟩,Zd⟩ R (fun _=>R) R) ?_))))
    refine AN.weak (by exact KI (e':=[(1,qb a),(2,qb c),(7,.own 5007 (i3 0)),(9,.ptr 9 (i3 1) 0 0),(14,qc l1),(15,rL l1),(16,rI x2),(45,qb c),(46,rL c),(47,rB ((decide (0<(c.length:Int))))),(49,qb c),(50,.ptr 9 (i3 1) 0 1),(51,rI c1.Col),(52,.r (.sl ([c1.Col].map (AR .i64))))]) (h':=[(9,some (.box (i3 1) 41 (Ai c1))),(5007,some (.arr (i3 0) 41 5 (out2.map AE.row)))]) 52 R ⟨jL,jL,jL,jL,jL,jL,jL,jL,jL,jL,jL,jL,jL,.inl (.inr (.inr ⟨R,R⟩)),Zd⟩ ⟨R,.inl R,R,.inl R,Zd⟩) ?_
    refine B7 h11 fun r2 r3 er2 h12=>(sS R (CP (r:=.tup [.r (.sl (r2.map (AR .i64))),rI r3]) (caps:=[]) (bs:=[qb c,.r (.sl ([c1.Col].map (AR .i64)))]) R iL R ⟨.inl ⟨iL,R⟩,.inl ⟨iL,R⟩,Zd⟩ (fun _=>PN (er2))) (mM R (xX R (xX R (mA R (mA R (aZ (C15 _ (aT fun C16=>(aT fun C17=>(aG [1,2,7,9,12,13,14,15,16] [9,5007] ?_)))))))))))
    refine aR (mM R (xU R (mM R (vM R (Zb h12 fun x6 ex6 h13=>(vQ R (BB R BM.slice (iR R) iL (fun _=>R) (Ae ex6)) (vQ R (Bi (d:=.int .i64 x6) R AH (iR R) R) (vQ R (Bb R (iR R) iL) (xO R (aZ (C17 _ (cI R h13 (fun h14=>?_) fun h14=>?_))))))))))))
    ·exact Zm (wK8 _ _ wk (J2 _ (AG [(i3 0),((i7 0)+1)]) (Za (he4 _ (Za h14).symm)).symm))
    exact Zc (C16 _ (aR (mM R (Zb h14 fun x7 ex7 h15=>(xI BM R ex7 (xV (.int .i64 x7) AH R (sQ R (fB R DA iL fR R) (Zl R R (Zh (ds:=[rI c1.Row,rI x7,rS c1.Text,rI c1.Ref,qd c1.Attrs]) R F5 iL R iL R R R R) (Zg (wK13 _ _ wk (J4 _ (AG [((i7 0)+1)]) (Za h15).symm)))))))))))
   ·have h11:=B5 hc2 hp3
    exact Zc (wK13 _ _ wk (J4 _ (AG [(i7 0)]) (Za h11).symm))
  refine aC R (fun hc4=>?_) (fun hc4=>?_)
  ·have h16:=B4 hc4 hp2
   refine aT fun C18=>(aR (mM R (lF CU AH R R (sS R (B6 29 R BM (f:=(AR .i64)) (l:=([r1.Row]:List Int)) ⟨R,⟨_,iL,R⟩,Zd⟩ R (fun _=>R) R) ?_))))
   refine AN.weak (by exact KI (e':=[(1,qb a),(2,qb c),(7,.own 5007 (i3 0)),(9,.ptr 9 (i3 1) 0 0),(14,qc l1),(15,rL l1),(16,rI x2),(17,rB ((decide (x2<(l1.length:Int))))),(18,.rop (AE.row x5) 0),(19,.agg (Ai x5)),(20,.agg (Ai x5)),(21,.agg (Ai r1)),(22,qb a),(23,rL a),(24,rB ((decide (0<(a.length:Int))))),(26,qb a),(27,.ptr 9 (i3 1) 0 0),(28,rI r1.Row),(29,.r (.sl ([r1.Row].map (AR .i64))))]) (h':=[(9,some (.box (i3 1) 41 (Ai r1))),(5007,some (.arr (i3 0) 41 5 (out2.map AE.row)))]) 29 R ⟨jL,jL,jL,jL,jL,jL,jL,jL,jL,jL,jL,jL,jL,jL,jL,jL,jL,jL,.inl (.inr (.inr ⟨R,R⟩)),Zd⟩ ⟨R,.inl R,R,.inl R,Zd⟩) ?_
   refine B7 h16 fun r4 r5 er4 h17=>(sS R (CP (r:=.tup [.r (.sl (r4.map (AR .i64))),rI r5]) (caps:=[]) (bs:=[qb a,.r (.sl ([r1.Row].map (AR .i64)))]) R iL R ⟨.inl ⟨iL,R⟩,.inl ⟨iL,R⟩,Zd⟩ (fun _=>PN (er4))) (mM R (xX R (xX R (mA R (mA R (aZ (C18 _ (aT fun C19=>(aT fun C20=>(aG [1,2,7,9,10,11,14,15,16] [9,5007] ?_)))))))))))
   refine aR (mM R (xU R (mM R (vM R (Zb h17 fun x8 ex8 h18=>(vQ R (BB R BM.slice (iR R) iL (fun _=>R) (Ae ex8)) (vQ R (Bi (d:=.int .i64 x8) R AH (iR R) R) (vQ R (Bb R (iR R) iL) (xO R (aZ (C20 _ (cI R h18 (fun h19=>?_) fun h19=>?_))))))))))))
   ·exact Zm (wK8 _ _ wk (J2 _ (AG [(i3 0),((i3 1)+2)]) (Za (he3 _ (Za h19).symm)).symm))
   exact Zc (C19 _ (aR (mM R (Zb h19 fun x9 ex9 h20=>(xI BM R ex9 (xV (.int .i64 x9) AH R (sQ R (fB R CU iL fR R) (Zl R R (Zh (ds:=[rI x9,rI r1.Col,rS r1.Text,rI r1.Ref,qd r1.Attrs]) R F5 iL R iL R R R R) (Zg (wK11 _ _ wk (J3 _ (AG [((i3 1)+2)]) (Za h20).symm)))))))))))
  ·have h16:=B5 hc4 hp2
   exact Zc (wK11 _ _ wk (J3 _ (AG [((i3 1)+1)]) (Za h16).symm))
 exact Zm (wK3 _ _ wk (J1 _ (AG [(i3 0),(i3 1)]) (xH hx1 h3)))
theorem UU {l1 n r} (h:GF l1 n=some r):AZ Tryd.prog 32 [qc l1,qc n] (qc r):=by
 unfold GF at h
 refine mF Tryd.func32 Tryd.ntmps32 R fun n0=>aU (mA R (aZ (aU (mA R (aZ (aU (mA R (aZ (aS fun K4 c4 wK4=>(aU (mM R (xL A2 R (mM R (aZ (Ze (DU h fun o1 hit1 hk1=>?_))))))))))))))))
 have J1 : ∀ (i8:Int) (out4:List AE) (i9:NN),o1=(i8,out4)→K4 ⟨[(0,qc l1),(5,.own 5005 (i9 0)),(6,rI i8)],[(5005,some (.arr (i9 0) 41 5 (out4.map AE.row)))],(i9 1),66⟩:=by
  intro i8 out4 i9 e
  have h1:=hk1 _ _ e
  refine c4 _ (aT fun c6=>(aR (mM R (mM R (mM R (Zb h1 fun l2 el2 h2=>?_))))))
  refine sQ R (O0 R A2.slice iL (by exact ⟨_,iL⟩) (by exact R) (fun _=>R) (fun _=>el2)) ?_
  exact Zb h2 fun l3 el3 h3=>(sS R (Cj R A2 iL R (.inl ⟨iL,fun _=>R⟩) el3) (mA R (aZ (c6 _ (Zi (DE (P:=Tryd.prog) (fun (r:(List AE))=>qc r) h3 iL (.t (.one (.own R)))))))))
 refine GR (fun (i4:Int) (x2:Int) (out2:List AE) i5=>⟨[(0,qc l1),(5,.own 5005 (i5 0)),(6,rI i4),(9,qc n),(10,rL n),(11,rI x2)],[(5005,some (.arr (i5 0) 41 5 (out2.map AE.row)))],(i5 1),66⟩) (AG [n0,(n0+1)]) hit1 (Zq (Zq (GS 5 5005 41 5 (by decide) R) (by exact Aa.cv (e':=[(0,qc l1),(1,qc n),(4,cZ),(5,.own 5005 n0),(6,rI 0),(9,qc n),(10,rL n),(11,rI 0)]) (h':=[(5005,some (.arr n0 41 5 (([]:List AE).map AE.row)))]) ⟨jL,jL,jL,jL,jL,jL,jL,jL,Zd⟩ ⟨.inl R,Zd⟩ nL)) wk) ?_
 intro i4 x2 out2 i5 v1 hv1 hx1
 have h4:FY l1 n i4 x2 out2=some v1:=hv1; unfold FY at h4
 refine aU (xS R (aZ (aT fun c8=>(cI R h4 (fun h5=>?_) fun h5=>?_))))
 ·refine Zc (c8 _ (aS fun K9 c9 wK9=>(Ze (DU h5 fun p1 hp1 hk2=>?_))))
  have J2 : ∀ (i10:Int) (out5:List AE) (i11:NN),p1=(i10,out5)→K9 ⟨[(0,qc l1),(5,.own 5005 (i11 0)),(6,rI i10),(9,qc n),(10,rL n),(11,rI x2)],[(5005,some (.arr (i11 0) 41 5 (out5.map AE.row)))],(i11 1),66⟩:=by
   intro i10 out5 i11 e
   have h6:=hk2 _ _ e
   exact c9 _ (aR (Zb h6 fun x4 ex4 h7=>(xA R ex4 (mM R (Zg (Eb.mk h7 (AG [(i11 0),(i11 1)]) wk))))))
  refine aU (Zb hp1 fun x5 ex5 h8=>(xI A2 R ex5 (xB ((Ai x5)) Bg R (sS R (Zp (cs:=E2) 8 R F7 R R) (Zl R R (Zh (ds:=(Ai x5)) R ED iL R iL R R R R) (aZ (aS fun K11 c11 wK11=>(Ze (DU h8 fun o2 hit2 hk3=>?_)))))))))
  have J3 : ∀ (i19:Int) (out9:List AE) (i20:NN),o2=(i19,out9)→K11 ⟨[(0,qc l1),(5,.own 5005 (i20 0)),(6,rI i19),(8,.ptr 8 (i5 1) 0 0),(9,qc n),(10,rL n),(11,rI x2)],[(8,some (.box (i5 1) 41 (Ai x5))),(5005,some (.arr (i20 0) 41 5 (out9.map AE.row)))],(i20 1),66⟩:=by
   intro i19 out9 i20 e
   have h9:=hk3 _ _ e
   refine c11 _ (aS fun K12 c12 wK12=>(aT fun c13=>?_))
   refine CQ Be (by kernel_rfl) ?_
   refine qP R (Zf R iL) (qP R (Zf R iL) (qP R (IC R A2.slice iL) (qP R (Bb R iL iL) (qP R (Zf R iL) (qO R (Zf R iL) (qO R (Zf R iL) (Zb h9 fun x6 ex6 h10=>qO R (BB R A2.slice (iR R) (iR R) (fun _=>R) (Ae ex6)) (qO R (DG (cs:=(Ai x6)) R Bg (iR R) R R) (qO R (Cm R Bg iL R R) (Zb h10 fun r1 er1 h11=>Lm (.one R R R) R R (r:=rI r1) (caps:=[]) (bs:=[.agg (Ai x6),.agg (Ai x5)]) R iL R ⟨⟨_,(iR R),.g (cs:=[.int .i64 x6.Row,.int .i64 x6.Col,.str x6.Text,.int .i64 x6.Ref,.sl (x6.Attrs.map Ah.row)]) R R⟩,⟨_,(iR R),.g (cs:=[.int .i64 x5.Row,.int .i64 x5.Col,.str x5.Text,.int .i64 x5.Ref,.sl (x5.Attrs.map Ah.row)]) R R⟩,Zd⟩ (fun hg=>Mk (Ae er1 hg)) R (qO R (BP R (iR R) iL) (qP R (Bm R iL (iR R)) (AQ.nil (c13 _ (BL h11 fun p2 hp2 hk4=>?_)))))))))))))))
   have J4 : ∀ (i21:Int) (i22:NN),p2=i21→K12 ⟨[(0,qc l1),(5,.own 5005 (i20 0)),(6,rI i21),(8,.ptr 8 (i5 1) 0 0),(9,qc n),(10,rL n),(11,rI x2)],[(8,some (.box (i5 1) 41 (Ai x5))),(5005,some (.arr (i20 0) 41 5 (out9.map AE.row)))],(i22 0),66⟩:=by
    intro i21 i22 e
    have h12:=hk4 _ e
    refine c12 _ (aU (xC Bg R (Zb h12 fun r2 er2 h13=>(cL (Pd (er2)) R (sQ R (BD R iL) (aZ (cI R h13 (fun h14=>?_) fun h14=>?_)))))))
    ·exact aR (mM R (xC Bg R (Zb h14 fun r3 er3 h15=>(sS R (CP (r:=.agg (Ai r3)) (caps:=[]) (bs:=(JN x5)) R iL R ⟨.inl ⟨iL,R⟩,Zd⟩ (fun _=>Ov (er3))) (sS R (B6 58 R A2 (f:=AE.row) (l:=([r3]:List AE)) ⟨R,⟨_,iL,R⟩,Zd⟩ R (fun _=>R) R) (Zb h15 fun out10 eout10 h16=>(sS R (Cj R A2 iL R (.inr (.inl ⟨_,_,iL,R⟩)) eout10) (mA R (Zg (wK9 _ _ wk (J2 _ _ (AG [((i22 0)+1),((i22 0)+2)]) (Za h16).symm)))))))))))
    exact Zc (wK9 _ _ wk (J2 _ _ (AG [(i20 0),(i22 0)]) (Za h14).symm))
   refine aC R (fun hc3=>?_) (fun hc3=>?_)
   ·have h17:=B4 hc3 hp2
    exact aR (mM R (Zb h17 fun i23 ei23 h18=>(xA R ei23 (mA R (Zg (wK12 _ _ wk (J4 _ (AG [(i20 1)]) (Za h18).symm)))))))
   ·have h17:=B5 hc3 hp2
    exact Zc (wK12 _ _ wk (J4 _ (AG [(i20 1)]) (Za h17).symm))
  refine Ce (fun (i15:Int) (out7:List AE) i16=>⟨[(0,qc l1),(5,.own 5005 (i16 0)),(6,rI i15),(8,.ptr 8 (i5 1) 0 0),(9,qc n),(10,rL n),(11,rI x2)],[(8,some (.box (i5 1) 41 (Ai x5))),(5005,some (.arr (i16 0) 41 5 (out7.map AE.row)))],(i16 1),66⟩) (AG [(i5 0),((i5 1)+1)]) hit2 wk ?_
  intro i15 out7 i16 v2 hv2 hx2
  have h19:Fw l1 x5 i15 out7=some v2:=hv2; unfold Fw at h19
  refine aT fun c15=>(aT fun c16=>?_)
  refine CQ Be (by kernel_rfl) ?_
  refine qP R (Zf R iL) (qP R (Zf R iL) (qP R (IC R A2.slice iL) (qP R (Bb R iL iL) (qP R (Zf R iL) (qO R (Zf R iL) (qO R (Zf R iL) (Zb h19 fun x7 ex7 h20=>qO R (BB R A2.slice (iR R) (iR R) (fun _=>R) (Ae ex7)) (qO R (DG (cs:=(Ai x7)) R Bg (iR R) R R) (qO R (Cm R Bg iL R R) (Zb h20 fun r4 er4 h21=>Lm (.one R R R) R R (r:=rI r4) (caps:=[]) (bs:=[.agg (Ai x7),.agg (Ai x5)]) R iL R ⟨⟨_,(iR R),.g (cs:=[.int .i64 x7.Row,.int .i64 x7.Col,.str x7.Text,.int .i64 x7.Ref,.sl (x7.Attrs.map Ah.row)]) R R⟩,⟨_,(iR R),.g (cs:=[.int .i64 x5.Row,.int .i64 x5.Col,.str x5.Text,.int .i64 x5.Ref,.sl (x5.Attrs.map Ah.row)]) R R⟩,Zd⟩ (fun hg=>Mk (Ae er4 hg)) R (qO R (Bb R (iR R) iL) (qP R (Bm R iL (iR R)) (AQ.nil (c16 _ (cI R h21 (fun h22=>?_) fun h22=>?_)))))))))))))))
  ·refine Zc (c15 _ (Ze (aU (mM R (mM R (mM R (Zb h22 fun x8 ex8 h23=>(xI A2 R ex8 (xB ((Ai x8)) Bg R (sS R (B6 33 R A2 (f:=AE.row) (l:=([x8]:List AE)) ⟨R,⟨_,iL,R⟩,Zd⟩ R (fun _=>R) R) (Zb h23 fun out11 eout11 h24=>(sS R (Cj R A2 iL R (.inr (.inl ⟨_,_,iL,R⟩)) eout11) (mA R (aZ (aG [0,5,6,8,9,10,11] [8,5005] ?_)))))))))))))))
   exact aR (mM R (Zb h24 fun i24 ei24 h25=>(xA R ei24 (mA R (Zg (CB.mk h25 (AG [((i16 1)+1),((i16 1)+2)]) wk))))))
  exact Zm (wK11 _ _ wk (J3 _ _ (AG [(i16 0),(i16 1)]) (xH hx2 h22)))
 exact Zm (wK4 _ _ wk (J1 _ _ (AG [(i5 0),(i5 1)]) (xH hx1 h5)))
theorem O5 {a1 f b r} (h:EK a1 f b=some r):AZ Tryd.prog 58 [qb a1,rI f,rI b] (.tup [rI r.1,rI r.2]):=by
 unfold EK at h
 refine mF Tryd.func58 Tryd.ntmps58 R fun n0=>aU (mA R (mA R (aZ (aU (mA R (mA R (mA R (mA R (aZ (aS fun K3 c3 wK3=>(aU (mM R (xL A9 R (mM R (aZ (Ze (DU h fun o1 hit1 hk1=>?_)))))))))))))))))
 have J1 : ∀ (first4:Int) (last4:Int) (i5:NN),o1=(first4,last4)→K3 ⟨[(8,rI first4),(9,rI last4)],[],(i5 0),68⟩:=by
  intro first4 last4 i5 e
  have h1:=hk1 _ _ e
  exact c3 _ (aU (mM R (mM R (mA R (mA R (aZ (Zi (Br (P:=Tryd.prog) (fun (r:Int × Int)=>rI r.1) (fun (r:Int × Int)=>rI r.2) h1 iL (.t (.d R)) (.t (.d R))))))))))
 refine Wb (fun (first2:Int) (last2:Int) (old2:Int) (now2:Int) (x2:Int) i3=>⟨[(1,rI f),(2,rI b),(8,rI first2),(9,rI last2),(10,rI old2),(11,rI now2),(16,qb a1),(17,rL a1),(18,rI x2)],[],(i3 0),68⟩) (AG [n0]) hit1 wk ?_
 intro first2 last2 old2 now2 x2 i3 v1 hv1 hx1
 have h2:HK a1 f b first2 last2 old2 now2 x2=some v1:=hv1; unfold HK at h2
 refine aU (xS R (aZ (aT fun c7=>(cI R h2 (fun h3=>?_) fun h3=>?_))))
 ·refine Zc (c7 _ (aS fun K8 c8 wK8=>(Ze (WR h3 fun p1 hp1 hk2=>?_))))
  have J2 : ∀ (first5:Int) (last5:Int) (old4:Int) (now4:Int) (i6:NN),p1=(first5,last5,old4,now4)→K8 ⟨[(1,rI f),(2,rI b),(8,rI first5),(9,rI last5),(10,rI old4),(11,rI now4),(16,qb a1),(17,rL a1),(18,rI x2)],[],(i6 0),68⟩:=by
   intro first5 last5 old4 now4 i6 e
   have h4:=hk2 _ _ _ _ e
   exact c8 _ (aR (Zb h4 fun x4 ex4 h5=>(xA R ex4 (mM R (Zg (Ku.mk h5 (AG [(i6 0)]) wk))))))
  refine aU (Zb hp1 fun x5 ex5 h6=>(xI A9 R ex5 (xB ([rI x5.Kind,rI x5.N]) Kb R (sS R (Zp (cs:=[rI 0,rI 0]) 13 R Kj R R) (Zl R R (Zh (ds:=[rI x5.Kind,rI x5.N]) R Ld iL R iL R R R R) (aZ (aT fun c10=>?_)))))))
  refine CQ Be (by kernel_rfl) ?_
  refine qP R (Zf R iL) (qP R (Zf R iL) (qP R (M6 R iL iL) (qP R (Zf R iL) (qP R (Zf R iL) (qP R (fB R CE iL fR R) (qP R (Zk (a:=rI x5.N) R AH iL R R) (Zb h6 fun x6 ex6 h7=>(qP R (FP R iL iL (fun _=>ex6)) (qP R (J0 R iL iL) (qP R (Dl R iL) (qP R (Dl R iL) (AQ.nil (c10 _ (aS fun K11 c11 wK11=>(aT fun c12=>(aG [1,2,8,9,10,11,13,14,15,16,17,18] [13] ?_))))))))))))))))
  refine aR (lF Bv AH R R (xQ R (mM R (vM R (vM R (vQ R (Bb R (iR R) (iR R)) (xN R (aZ (c12 _ (DU h7 fun p2 hp2 hk3=>?_))))))))))
  have J3 : ∀ (first6:Int) (last6:Int) (i7:NN),p2=(first6,last6)→K11 ⟨[(1,rI f),(2,rI b),(8,rI first6),(9,rI last6),(10,rI old2),(11,rI now2),(13,.ptr 13 (i3 0) 0 0),(16,qb a1),(17,rL a1),(18,rI x2)],[(13,some (.box (i3 0) 43 [rI x5.Kind,rI x5.N]))],(i7 0),68⟩:=by
   intro first6 last6 i7 e
   have h8:=hk3 _ _ e
   refine c11 _ (aS fun K13 c13 wK13=>(aU (lF Bv AH R R (xU R (aZ (BL h8 fun p3 hp3 hk4=>?_))))))
   have J4 : ∀ (now5:Int) (i8:NN),p3=now5→K13 ⟨[(1,rI f),(2,rI b),(8,rI first6),(9,rI last6),(10,rI old2),(11,rI now5),(13,.ptr 13 (i3 0) 0 0),(16,qb a1),(17,rL a1),(18,rI x2)],[(13,some (.box (i3 0) 43 [rI x5.Kind,rI x5.N]))],(i8 0),68⟩:=by
    intro now5 i8 e
    have h9:=hk4 _ e
    refine c13 _ (aU (lF Bv AH R R (xU R (aZ (cI R h9 (fun h10=>?_) fun h10=>?_)))))
    ·exact aR (mM R (lF CE AH R R (xA R ex6 (mA R (Zg (wK8 _ _ wk (J2 _ _ _ _ (AG [(i8 0)]) (Za h10).symm)))))))
    exact Zc (wK8 _ _ wk (J2 _ _ _ _ (AG [(i8 0)]) (Za h10).symm))
   refine aC R (fun hc3=>?_) (fun hc3=>?_)
   ·have h11:=B4 hc3 hp3
    exact aR (mM R (lF CE AH R R (Zb h11 fun now6 enow6 h12=>(xA R enow6 (mA R (Zg (wK13 _ _ wk (J4 _ (AG [(i7 0)]) (Za h12).symm))))))))
   ·have h11:=B5 hc3 hp3
    exact Zc (wK13 _ _ wk (J4 _ (AG [(i7 0)]) (Za h11).symm))
  refine aC R (fun hc4=>?_) (fun hc4=>?_)
  ·have h13:=B4 hc4 hp2
   refine aS fun K16 c16 wK16=>(aU (mM R (xQ R (aZ (BL h13 fun p4 hp4 hk5=>?_)))))
   have J5 : ∀ (first7:Int) (i9:NN),p4=first7→K16 ⟨[(1,rI f),(2,rI b),(8,rI first7),(10,rI old2),(11,rI now2),(13,.ptr 13 (i3 0) 0 0),(15,rI ((min b x6))),(16,qb a1),(17,rL a1),(18,rI x2)],[(13,some (.box (i3 0) 43 [rI x5.Kind,rI x5.N]))],(i9 0),68⟩:=by
    intro first7 i9 e
    have h14:=hk5 _ e
    exact c16 _ (aR (mM R (mM R (Zb h14 fun x7 ex7 h15=>(xA R ex7 (mM R (Zb h15 fun last7 elast7 h16=>(sQ R (BW R iL iL (fun _=>elast7)) (mA R (Zg (wK11 _ _ wk (J3 _ _ (AG [(i9 0)]) (Za h16).symm))))))))))))
   refine aC R (fun hc5=>?_) (fun hc5=>?_)
   ·have h17:=B4 hc5 hp4
    refine aG [1,2,10,11,13,14,15,16,17,18] [13] ?_
    exact aR (mM R (mM R (Zb h17 fun x8 ex8 h18=>(xA R ex8 (mM R (Zb h18 fun first8 efirst8 h19=>(sQ R (BW R iL iL (fun _=>efirst8)) (mA R (Zg (wK16 _ _ wk (J5 _ (AG [((i3 0)+1)]) (Za h19).symm)))))))))))
   ·have h17:=B5 hc5 hp4
    exact Zc (wK16 _ _ wk (J5 _ (AG [((i3 0)+1)]) (Za h17).symm))
  ·have h13:=B5 hc4 hp2
   exact Zc (wK11 _ _ wk (J3 _ _ (AG [((i3 0)+1)]) (Za h13).symm))
 exact Zm (wK3 _ _ wk (J1 _ _ (AG [(i3 0)]) (xH hx1 h3)))
theorem RB {r1 b c r} (h:Jw r1 b c=some r):AZ Tryd.prog 34 [.agg (AK r1),qb b,qb c] (.tup [.agg (AK r.1),rB r.2]):=by
 unfold Jw at h
 refine mF Tryd.func34 Tryd.ntmps34 R fun n0=>aU (sS R (A6 (cs:=(AK r1)) 3 R iL R R) (sS R (Zp (cs:=DB) 6 R Dy R R) (mA R (aZ (aS fun K2 c2 wK2=>(aU (mM R (xL A9 R (sQ R (BH R iL iL) (aZ (BL h fun p1 hp1 hk1=>?_)))))))))))
 have J1 : ∀ (r2:AC) (i1:NN),p1=r2→K2 ⟨[(2,qb c),(3,.ptr 3 n0 0 0),(6,.ptr 6 (n0+1) 0 0)],[(3,some (.box n0 49 (AK r2))),(6,some (.box (n0+1) 49 DB))],(i1 0),71⟩:=by
  intro r2 i1 e
  have h1:=hk1 _ e
  refine c2 _ (aS fun K4 c4 wK4=>(aU (mM R (xL A9 R (sQ R (BH R iL iL) (aZ (BL h1 fun p2 hp2 hk2=>?_)))))))
  have J2 : ∀ (r3:AC) (i2:NN),p2=r3→K4 ⟨[(3,.ptr 3 n0 0 0),(6,.ptr 6 (n0+1) 0 0)],[(3,some (.box n0 49 (AK r3))),(6,some (.box (n0+1) 49 DB))],(i2 0),71⟩:=by
   intro r3 i2 e
   have h2:=hk2 _ e
   refine c4 _ (aT fun c6=>(Zb h2 fun x1 ex1 h3=>?_))
   refine rP 18 [pO 54 (.agg (AK r3)),pO 55 (.ptr 3 n0 0 2),pO 56 (rI r3.H),pO 57 (rB ((decide (0<r3.H)))),pO 58 (rB ((decide (0<r3.H)))),pO 59 (.whn ((decide (0<r3.H)) == true) (.ptr 3 n0 0 3)),pO 60 (.whn ((decide (0<r3.H)) == true) (rI r3.W)),pO 61 (.whn ((decide (0<r3.H)) == true) (rB ((decide (0<r3.W))))),pO 62 (rB (((decide (0<r3.H)) && (decide (0<r3.W))))),pO 63 (rB (((decide (0<r3.H)) && (decide (0<r3.W))))),pO 64 (.whn (((decide (0<r3.H)) && (decide (0<r3.W))) == true) (.ptr 3 n0 0 2)),pO 65 (.whn (((decide (0<r3.H)) && (decide (0<r3.W))) == true) (rI r3.H)),pO 66 (.whn (((decide (0<r3.H)) && (decide (0<r3.W))) == true) (.ptr 3 n0 0 3)),pO 67 (.whn (((decide (0<r3.H)) && (decide (0<r3.W))) == true) (rI r3.W)),pO 68 (.whn (((decide (0<r3.H)) && (decide (0<r3.W))) == true) (rI x1)),pO 69 (.whn (((decide (0<r3.H)) && (decide (0<r3.W))) == true) (rB ((decide (2<x1))))),pO 70 (rB ((((decide (0<r3.H)) && (decide (0<r3.W))) && (decide (2<x1))))),⟨none,(fun _=>.any),some (6,(fun _=>some (.box (n0+1) 49 (AK r3)))),[]⟩] Be R (by exact ⟨oB [(3,.ptr 3 n0 0 0)] [(3,some (.box n0 49 (AK r3)))] (Cm R Ay (.inl R) R R),oB [(3,.ptr 3 n0 0 0)] [(3,some (.box n0 49 (AK r3)))] (fB R Cf (.inl R) (fun _=>R) R),oB [(55,.ptr 3 n0 0 2)] [(3,some (.box n0 49 (AK r3)))] (Zk (a:=rI r3.H) R AH (.inl R) R R),oB [(56,rI r3.H)] [] (BH R (.inl R) (.inl R)),oB [(57,rB ((decide (0<r3.H))))] [] (Zf R (.inl R)),oG [(3,.ptr 3 n0 0 0),(58,rB ((decide (0<r3.H))))] [(3,some (.box n0 49 (AK r3)))] (fun _ _=>R) (fB R DC (.inl R) (fun _=>R) R),oG [(58,rB ((decide (0<r3.H)))),(59,.whn ((decide (0<r3.H)) == true) (.ptr 3 n0 0 3))] [(3,some (.box n0 49 (AK r3)))] (fun _ _=>R) (Zk (a:=rI r3.W) R AH (.inr ⟨_,(by exact id),R⟩) R R),oG [(58,rB ((decide (0<r3.H)))),(60,.whn ((decide (0<r3.H)) == true) (rI r3.W))] [] (fun _ _=>R) (BH R (.inr ⟨_,(by exact id),R⟩) (.inl R)),oB [(58,rB ((decide (0<r3.H)))),(61,.whn ((decide (0<r3.H)) == true) (rB ((decide (0<r3.W)))))] [] (Bm R (.inl R) (.inr ⟨_,(by exact id),R⟩)),oB [(62,rB (((decide (0<r3.H)) && (decide (0<r3.W)))))] [] (Zf R (.inl R)),oG [(3,.ptr 3 n0 0 0),(63,rB (((decide (0<r3.H)) && (decide (0<r3.W)))))] [(3,some (.box n0 49 (AK r3)))] (fun _ _=>R) (fB R Cf (.inl R) (fun _=>R) R),oG [(63,rB (((decide (0<r3.H)) && (decide (0<r3.W))))),(64,.whn (((decide (0<r3.H)) && (decide (0<r3.W))) == true) (.ptr 3 n0 0 2))] [(3,some (.box n0 49 (AK r3)))] (fun _ _=>R) (Zk (a:=rI r3.H) R AH (.inr ⟨_,(by exact id),R⟩) R R),oG [(3,.ptr 3 n0 0 0),(63,rB (((decide (0<r3.H)) && (decide (0<r3.W)))))] [(3,some (.box n0 49 (AK r3)))] (fun _ _=>R) (fB R DC (.inl R) (fun _=>R) R),oG [(63,rB (((decide (0<r3.H)) && (decide (0<r3.W))))),(66,.whn (((decide (0<r3.H)) && (decide (0<r3.W))) == true) (.ptr 3 n0 0 3))] [(3,some (.box n0 49 (AK r3)))] (fun _ _=>R) (Zk (a:=rI r3.W) R AH (.inr ⟨_,(by exact id),R⟩) R R),oG [(63,rB (((decide (0<r3.H)) && (decide (0<r3.W))))),(65,.whn (((decide (0<r3.H)) && (decide (0<r3.W))) == true) (rI r3.H)),(67,.whn (((decide (0<r3.H)) && (decide (0<r3.W))) == true) (rI r3.W))] [] (fun _ _=>R) (FP R (.inr ⟨_,(by exact id),R⟩) (.inr ⟨_,(by exact id),R⟩) (Ae ex1)),oG [(63,rB (((decide (0<r3.H)) && (decide (0<r3.W))))),(68,.whn (((decide (0<r3.H)) && (decide (0<r3.W))) == true) (rI x1))] [] (fun _ _=>R) (BH R (.inr ⟨_,(by exact id),R⟩) (.inl R)),oB [(63,rB (((decide (0<r3.H)) && (decide (0<r3.W))))),(69,.whn (((decide (0<r3.H)) && (decide (0<r3.W))) == true) (rB ((decide (2<x1)))))] [] (Bm R (.inl R) (.inr ⟨_,(by exact id),R⟩)),oM (fun _=>[(6,.ptr 6 (n0+1) 0 0),(54,.agg (AK r3))]) (fun _=>[(6,some (.box (n0+1) 49 DB))]) R (fun G1 e h' n=>Zh (ds:=(AK r3)) R Dp (.inl R) R (.inl R) R R R R),Zd⟩) fun G1 n1=>?_
   refine DN [3,6,54,55,56,57,58,59,60,61,62,63,64,65,66,67,68,69,70] [3,6] ?_
   exact mA R (aZ (c6 _ (Zi (Br (P:=Tryd.prog) (fun (r:AC × Bool)=>.agg (AK r.1)) (fun (r:AC × Bool)=>rB r.2) h3 iL (.a Ay R R R (.g (cs:=[.int .i64 r3.Row,.int .i64 r3.Col,.int .i64 r3.H,.int .i64 r3.W]) R R)) (.t (.d R))))))
  refine aC R (fun hc1=>?_) (fun hc1=>?_)
  ·have h4:=B4 hc1 hp2
   refine aU (mM R (lF Bo AH R R (lF Bo AH R R (lF DC AH R R (Zb h4 fun x2 ex2 h5=>(xA R ex2 (B7 h5 fun r4 r5 er4 h6=>(cL (O5 (er4)) R (mM R (xX R (xX R (mA R (mA R (aZ (aG [3,6,10,11] [3,6] ?_)))))))))))))))
   exact aR (mM R (mM R (mM R (Zb h6 fun x3 ex3 h7=>(sQ R (BW R iL iL (fun _=>ex3)) (sQ R (fB R Bo iL fR R) (Zl R R (Zh (ds:=[rI r2.Row,rI r4,rI r2.H,rI r2.W]) R F5 iL R iL R R R R) (sQ R (fB R DC iL fR R) (Zl R R (Zh (ds:=[rI r2.Row,rI r4,rI r2.H,rI x3]) R F5 iL R iL R R R R) (Zg (wK4 _ _ wk (J2 _ (AG [(i1 0)]) (Za h7).symm))))))))))))
  ·have h4:=B5 hc1 hp2
   exact Zc (wK4 _ _ wk (J2 _ (AG [(i1 0)]) (Za h4).symm))
 refine aC R (fun hc2=>?_) (fun hc2=>?_)
 ·have h8:=B4 hc2 hp1
  refine aU (mM R (lF Bd AH R R (lF Bd AH R R (lF Cf AH R R (Zb h8 fun x4 ex4 h9=>(xA R ex4 (B7 h9 fun r6 r7 er6 h10=>(cL (O5 (er6)) R (mM R (xX R (xX R (mA R (mA R (aZ (aG [2,3,6,8,9] [3,6] ?_)))))))))))))))
  exact aR (mM R (mM R (mM R (Zb h10 fun x5 ex5 h11=>(sQ R (BW R iL iL (fun _=>ex5)) (sQ R (fB R Bd iL fR R) (Zl R R (Zh (ds:=[rI r6,rI r1.Col,rI r1.H,rI r1.W]) R F5 iL R iL R R R R) (sQ R (fB R Cf iL fR R) (Zl R R (Zh (ds:=[rI r6,rI r1.Col,rI x5,rI r1.W]) R F5 iL R iL R R R R) (Zg (wK2 _ _ wk (J1 _ (AG [(n0+2)]) (Za h11).symm))))))))))))
 ·have h8:=B5 hc2 hp1
  exact Zc (wK2 _ _ wk (J1 _ (AG [(n0+2)]) (Za h8).symm))
theorem Uu {s1 v1 r} (h:LD s1 v1=some r):AZ Tryd.prog 59 [qa s1,.agg (AK v1)] (rI r):=by
 unfold LD at h
 refine mF Tryd.func59 Tryd.ntmps59 R fun n0=>aU (sS R (A6 (cs:=(AK v1)) 3 R iL R R) (mA R (aZ (aS fun K2 c2 wK2=>(aU (mM R (xL Ag R (mM R (aZ (Ze (BA h fun o1 hit1 hk1 he1=>?_)))))))))))
 have J1 : ∀ (u2:Unit) (i5:NN),o1 = .nrm u2→K2 ⟨[],[],(i5 0),19⟩:=by
  intro u2 i5 e
  have h1:=hk1 _ e
  exact c2 _ (zI h1 R id)
 refine Zo (fun (x2:Int) i3=>⟨[(0,qa s1),(3,.ptr 3 n0 0 0),(7,rL s1),(8,rI x2)],[(3,some (.box n0 49 (AK v1)))],(i3 0),19⟩) (AG [(n0+1)]) hit1 wk ?_
 intro x2 i3 v2 hv1 hx1
 have h2:JW s1 v1 x2=some v2:=hv1; unfold JW at h2
 refine aU (xS R (aZ (aT fun c6=>(cI R h2 (fun h3=>?_) fun h3=>?_))))
 ·refine Zc (c6 _ (aT fun c7=>(Ze (aU (mM R (mA R (aZ (aT fun c9=>?_))))))))
  refine CQ Be (by kernel_rfl) ?_
  refine qP R (Cm R Ay iL R R) (qP R (Zf R iL) (qP R (Zf R iL) (Zb h3 fun x4 ex4 h4=>(qP R (BB R Ag.slice iL iL (fun _=>R) (fun _=>ex4)) (qP R (DG (cs:=(AK x4)) R Ay iL R R) (qP R (Ub R Mh (.inl R) (.inl R) R) (AQ.nil (c9 _ (cI R h4 (fun h5=>?_) fun h5=>?_)))))))))
  ·refine aT fun c10=>(aF [5] ?_)
   exact aR (mM R (mA R (aZ (c10 _ (Zi (yI (he1 _ (xH hx1 h5)) R))))))
  refine Zc (c7 _ (aG [0,3,7,8] [3] ?_))
  exact aR (Zb h5 fun x5 ex5 h6=>(xA R ex5 (mM R (Zg (Zn h6 (AG [(i3 0)]) wk)))))
 exact Zm (wK2 _ _ wk (J1 _ (AG [(i3 0)]) (xH hx1 h3)))
theorem Sb {s1 v1 r} (h:IT s1 v1=some r):AZ Tryd.prog 35 [qa s1,.agg (AK v1)] (rB r):=by
 unfold IT at h
 exact mF Tryd.func35 Tryd.ntmps35 R fun n0=>aU (sS R (A6 (cs:=(AK v1)) 3 R iL R R) (mA R (aZ (aU (mM R (xC Ay R (Zb h fun r1 er1 h1=>(cL (Uu (er1)) R (sQ R (Bp R iL iL) (mA R (aZ (Zi (yB h1 R)))))))))))))
theorem Mg {w1:AC} {q1:AC} {r:Bool} {gb1000:Nat} (h:FA w1 q1=some r):Bq Tryd.prog 37 1 [.agg (AK q1),.ptr 1000 gb1000 0 0] [(1000,some (.box gb1000 49 (AK w1)))] (fun rr h'=>∃ (i:Nat→Nat),rr=rB r∧h'=[(1000,some (.box gb1000 49 (AK w1)))]):=by
 unfold FA at h
 refine HJ Tryd.func37 R R Tryd.ntmps37 (Nat.le_of_ble_eq_true R) fun n0=>aU (sS R (A6 (cs:=(AK q1)) 2 R iL R R) (mA R (aZ (aU (xC Ay R (xC Ay R (Zb h fun r1 er1 h1=>(cL (OF (er1)) R (mA R (aZ ?_))))))))))
 exact Zi (DO.mk (s':=⟨[(3,rB r1)],[(1000,some (.box gb1000 49 (AK w1)))],(n0+1),7⟩) wk (EQ (fun (r:Bool) rr h'=>∃ (i:Nat→Nat),rr=rB r∧h'=[(1000,some (.box gb1000 49 (AK w1)))]) h1 (by exact ⟨rB r1,[(1000,some (.box gb1000 49 (AK w1)))],R,⟨.inr R,Zd⟩,R,R,AG [],R,R⟩)))
theorem W5 {w1:AC} {s1:List AC} {r:Int} {gb1000:Nat} (h:O7 w1 s1=some r):Bq Tryd.prog 60 1 [qa s1,.fn 37 [.ptr 1000 gb1000 0 0]] [(1000,some (.box gb1000 49 (AK w1)))] (fun rr h'=>∃ (i:Nat→Nat),rr=rI r∧h'=[(1000,some (.box gb1000 49 (AK w1)))]):=by
 unfold O7 at h
 refine HJ Tryd.func60 R R Tryd.ntmps60 (Nat.le_of_ble_eq_true R) fun n0=>aU (mA R (aZ (aS fun K2 c2 wK2=>(aU (mM R (xL Ag R (mM R (aZ (Ze (BA h fun o1 hit1 hk1 he1=>?_))))))))))
 have J1 : ∀ (u2:Unit) (i5:NN),o1 = .nrm u2→K2 ⟨[],[(1000,some (.box gb1000 49 (AK w1)))],(i5 0),19⟩:=by
  intro u2 i5 e
  have h1:=hk1 _ e
  refine c2 _ (aU (mA R (aZ ?_)))
  exact Zi (DO.mk (s':=⟨[(4,rI ((-1)))],[(1000,some (.box gb1000 49 (AK w1)))],(i5 0),19⟩) wk (EQ (fun (r:Int) rr h'=>∃ (i:Nat→Nat),rr=rI r∧h'=[(1000,some (.box gb1000 49 (AK w1)))]) h1 (by exact ⟨rI ((-1)),[(1000,some (.box gb1000 49 (AK w1)))],R,⟨.inr R,Zd⟩,R,R,AG [],R,R⟩)))
 refine Zo (fun (x2:Int) i3=>⟨[(0,qa s1),(1,.fn 37 [.ptr 1000 gb1000 0 0]),(7,rL s1),(8,rI x2)],[(1000,some (.box gb1000 49 (AK w1)))],(i3 0),19⟩) (AG [n0]) hit1 wk ?_
 intro x2 i3 v1 hv1 hx1
 have h2:Mv w1 s1 x2=some v1:=hv1; unfold Mv at h2
 refine aU (xS R (aZ (aT fun c6=>(cI R h2 (fun h3=>?_) fun h3=>?_))))
 ·refine Zc (c6 _ (aT fun c7=>(Ze (aU (mM R (mA R (aZ (aT fun c9=>(aR (mM R (mM R (mM R (Zb h3 fun x4 ex4 h4=>(xI Ag R ex4 (xB ((AK x4)) Ay R (Zb h4 fun r1 er1 h5=>?_))))))))))))))))
  refine Fj [1000] (hc:=[(1000,some (.box gb1000 49 (AK w1)))]) (bs:=(Ky x4)) (caps:=[.ptr 1000 gb1000 0 0]) R R R R iL R ⟨.inl ⟨iL,R⟩,Zd⟩ ⟨R,R,R,Zd⟩ (by decide) (Mg er1) ?_
  intro i6 n1
  refine DN [0,1,5,7,8,9,10,11,12,13,14,15,16] [1000] ?_
  refine aZ (c9 _ (cI R h5 (fun h6=>?_) fun h6=>?_))
  ·refine aT fun c10=>(aG [5] [1000] ?_)
   refine aR (mM R (mA R (oZ c10 ?_)))
   exact Zi (DO.mk (s':=⟨[(4,rI x2)],[(1000,some (.box gb1000 49 (AK w1)))],n1,19⟩) wk (EQ (fun (r:Int) rr h'=>∃ (i:Nat→Nat),rr=rI r∧h'=[(1000,some (.box gb1000 49 (AK w1)))]) (he1 _ (xH hx1 h6)) (by exact ⟨rI x2,[(1000,some (.box gb1000 49 (AK w1)))],R,⟨.inr R,Zd⟩,R,R,AG [],R,R⟩)))
  refine Zc (c7 _ (aG [0,1,7,8] [1000] ?_))
  exact aR (Zb h6 fun x5 ex5 h7=>(xA R ex5 (mM R (Zg (Zn h7 (AG [n1]) wk)))))
 exact Zm (wK2 _ _ wk (J1 _ (AG [(i3 0)]) (xH hx1 h3)))
theorem Ue {s1:List AC} {w1:AC} {r:Int} {ga1000:Nat} {gb1001:Nat} (h:HW s1 w1=some r):Bq Tryd.prog 60 2 [.own 1000 ga1000,.fn 37 [.ptr 1001 gb1001 0 0]] [(1000,some (.arr ga1000 49 4 (s1.map AC.row))),(1001,some (.box gb1001 49 (AK w1)))] (fun rr h'=>∃ (i:Nat→Nat),rr=rI r∧h'=[(1000,some (.arr ga1000 49 4 (s1.map AC.row))),(1001,some (.box gb1001 49 (AK w1)))]):=by
 unfold HW at h
 refine HJ Tryd.func60 R R Tryd.ntmps60 (Nat.le_of_ble_eq_true R) fun n0=>aU (mA R (aZ (aS fun K2 c2 wK2=>(aU (mM R (sQ R (LR R Ag.slice iL R) (mM R (aZ (Ze (BA h fun o1 hit1 hk1 he1=>?_))))))))))
 have J1 : ∀ (u2:Unit) (i5:NN),o1 = .nrm u2→K2 ⟨[],[(1000,some (.arr ga1000 49 4 (s1.map AC.row))),(1001,some (.box gb1001 49 (AK w1)))],(i5 0),19⟩:=by
  intro u2 i5 e
  have h1:=hk1 _ e
  refine c2 _ (aU (mA R (aZ ?_)))
  exact Zi (DO.mk (s':=⟨[(4,rI ((-1)))],[(1000,some (.arr ga1000 49 4 (s1.map AC.row))),(1001,some (.box gb1001 49 (AK w1)))],(i5 0),19⟩) wk (EQ (fun (r:Int) rr h'=>∃ (i:Nat→Nat),rr=rI r∧h'=[(1000,some (.arr ga1000 49 4 (s1.map AC.row))),(1001,some (.box gb1001 49 (AK w1)))]) h1 (by exact ⟨rI ((-1)),[(1000,some (.arr ga1000 49 4 (s1.map AC.row))),(1001,some (.box gb1001 49 (AK w1)))],R,⟨.inr R,.inr R,Zd⟩,R,R,AG [],R,R⟩)))
 refine Zo (fun (x2:Int) i3=>⟨[(0,.own 1000 ga1000),(1,.fn 37 [.ptr 1001 gb1001 0 0]),(7,rL s1),(8,rI x2)],[(1000,some (.arr ga1000 49 4 (s1.map AC.row))),(1001,some (.box gb1001 49 (AK w1)))],(i3 0),19⟩) (AG [n0]) hit1 wk ?_
 intro x2 i3 v1 hv1 hx1
 have h2:Hi s1 w1 x2=some v1:=hv1; unfold Hi at h2
 refine aU (xS R (aZ (aT fun c6=>(cI R h2 (fun h3=>?_) fun h3=>?_))))
 ·refine Zc (c6 _ (aT fun c7=>(Ze (aU (mM R (mA R (aZ (aT fun c9=>(aR (mM R (mM R (mM R (Zb h3 fun x4 ex4 h4=>(sQ R (GE R Ag.slice iL R iL (fun _=>ex4)) (sQ R (Il (cs:=(AK x4)) R Ay iL fR (fun _=>ex4) R) (Zb h4 fun r1 er1 h5=>?_))))))))))))))))
  refine Fj [1001] (hc:=[(1000,some (.box gb1001 49 (AK w1)))]) (bs:=(Ky x4)) (caps:=[.ptr 1000 gb1001 0 0]) R R R R iL R ⟨.inl ⟨iL,R⟩,Zd⟩ ⟨R,R,R,Zd⟩ (by decide) (Mg er1) ?_
  intro i6 n1
  refine DN [0,1,5,7,8,9,10,11,12,13,15,16] [1000,1001] ?_
  refine aZ (c9 _ (cI R h5 (fun h6=>?_) fun h6=>?_))
  ·refine aT fun c10=>(aG [5] [1000,1001] ?_)
   refine aR (mM R (mA R (oZ c10 ?_)))
   exact Zi (DO.mk (s':=⟨[(4,rI x2)],[(1000,some (.arr ga1000 49 4 (s1.map AC.row))),(1001,some (.box gb1001 49 (AK w1)))],n1,19⟩) wk (EQ (fun (r:Int) rr h'=>∃ (i:Nat→Nat),rr=rI r∧h'=[(1000,some (.arr ga1000 49 4 (s1.map AC.row))),(1001,some (.box gb1001 49 (AK w1)))]) (he1 _ (xH hx1 h6)) (by exact ⟨rI x2,[(1000,some (.arr ga1000 49 4 (s1.map AC.row))),(1001,some (.box gb1001 49 (AK w1)))],R,⟨.inr R,.inr R,Zd⟩,R,R,AG [],R,R⟩)))
  exact Zc (c7 _ (aR (Zb h6 fun x5 ex5 h7=>(xA R ex5 (mM R (Zg (Zn h7 (AG [n1]) wk)))))))
 exact Zm (wK2 _ _ wk (J1 _ (AG [(i3 0)]) (xH hx1 h3)))
theorem Vl {s1:List AC} {w1:AC} {r:(List AC)} {ga1000:Nat} {gb1001:Nat} (h:Ip s1 w1=some r):Bq Tryd.prog 36 2 [.own 1000 ga1000,.fn 37 [.ptr 1001 gb1001 0 0]] [(1000,some (.arr ga1000 49 4 (s1.map AC.row))),(1001,some (.box gb1001 49 (AK w1)))] (fun rr h'=>∃ (i:Nat→Nat),rr = .own 1000 (i 0)∧h'=[(1000,some (.arr (i 0) 49 4 (r.map AC.row))),(1001,some (.box gb1001 49 (AK w1)))]):=by
 unfold Ip at h
 refine HJ Tryd.func36 R R Tryd.ntmps36 (Nat.le_of_ble_eq_true R) fun n0=>aU (mA R (aZ (aT fun c2=>(aR (mM R (mM R (Zb h fun i1 ei1 h1=>?_)))))))
 refine Fj [1000,1001] (hc:=[(1000,some (.arr ga1000 49 4 (s1.map AC.row))),(1001,some (.box gb1001 49 (AK w1)))]) (bs:=[.own 1000 ga1000,.fn 37 [.ptr 1001 gb1001 0 0]]) (caps:=[]) R R R R iL R ⟨.inl ⟨iL,R⟩,.inl ⟨iL,R⟩,Zd⟩ ⟨R,R,R,R,R,R,Zd⟩ (by decide) (Ue ei1) ?_
 intro i2 n1
 refine DN [0,1,4,8,9,10] [1000,1001] ?_
 refine mA R (aZ (c2 _ (aT fun c3=>(aU (mM R (xQ R (aZ (cI R h1 (fun h2=>?_) fun h2=>?_))))))))
 ·refine aU (mM R (mA R (aZ ?_)))
  exact Zi (DO.mk (s':=⟨[(4,.own 1000 ga1000)],[(1000,some (.arr ga1000 49 4 (s1.map AC.row))),(1001,some (.box gb1001 49 (AK w1)))],n1,42⟩) wk (EQ (fun (r:(List AC)) rr h'=>∃ (i:Nat→Nat),rr = .own 1000 (i 0)∧h'=[(1000,some (.arr (i 0) 49 4 (r.map AC.row))),(1001,some (.box gb1001 49 (AK w1)))]) h2 (by exact ⟨.own 1000 ga1000,[(1000,some (.arr ga1000 49 4 (s1.map AC.row))),(1001,some (.box gb1001 49 (AK w1)))],R,⟨.inr R,.inr R,Zd⟩,R,R,AG [ga1000],R,R⟩)))
 refine Zc (c3 _ (aS fun K6 c6 wK6=>(aU (mM R (Zb h2 fun j1 ej1 h3=>(xA R ej1 (mA R (aZ (Ze (DU h3 fun o1 hit1 hk1=>?_))))))))))
 have J1 : ∀ (i10:Int) (s5:List AC) (i11:NN),o1=(i10,s5)→K6 ⟨[(0,.own 1000 (i11 0)),(5,rI i10)],[(1000,some (.arr (i11 0) 49 4 (s5.map AC.row))),(1001,some (.box gb1001 49 (AK w1)))],(i11 1),42⟩:=by
  intro i10 s5 i11 e
  have h4:=hk1 _ _ e
  refine c6 _ (aU (mM R (mM R (Zb h4 fun l1 el1 h5=>Wl (f:=AC.row) (z0:=(AC.mk 0 0 0 0)) R R R R R R R Ag UW iL R ⟨_,iL⟩ el1 (aZ (aT fun c9=>(aR (mM R (mM R (Zb h5 fun l2 el2 h6=>(sQ R (Rq R Ag.slice iL R ⟨_,iL⟩ (fun _=>el2)) (AN.weak (We (f:=AC.row) 41 1000 el2 R R) ?_))))))))))))
  refine mA R (oZ c9 ?_)
  exact Zi (DO.mk (s':=⟨[(4,.own 1000 (i11 1))],[(1000,some (.arr (i11 1) 49 4 (l2.map AC.row))),(1001,some (.box gb1001 49 (AK w1)))],((i11 1)+1),42⟩) wk (EQ (fun (r:(List AC)) rr h'=>∃ (i:Nat→Nat),rr = .own 1000 (i 0)∧h'=[(1000,some (.arr (i 0) 49 4 (r.map AC.row))),(1001,some (.box gb1001 49 (AK w1)))]) h6 (by exact ⟨.own 1000 (i11 1),[(1000,some (.arr (i11 1) 49 4 (l2.map AC.row))),(1001,some (.box gb1001 49 (AK w1)))],R,⟨.inr R,.inr R,Zd⟩,R,R,AG [(i11 1)],R,R⟩)))
 refine GR (fun (i6:Int) (j3:Int) (s3:List AC) i7=>⟨[(0,.own 1000 (i7 0)),(1,.fn 37 [.ptr 1001 gb1001 0 0]),(5,rI i6),(6,rI j3)],[(1000,some (.arr (i7 0) 49 4 (s3.map AC.row))),(1001,some (.box gb1001 49 (AK w1)))],(i7 1),42⟩) (AG [ga1000,n1]) hit1 wk ?_
 intro i6 j3 s3 i7 v1 hv1 hx1
 have h7:GW w1 i6 j3 s3=some v1:=hv1; unfold GW at h7
 refine aT fun c10=>(aU (mM R (mM R (sQ R (LR R Ag.slice iL R) (xS R (aZ (cI R h7 (fun h8=>?_) fun h8=>?_)))))))
 ·refine Zc (c10 _ (aS fun K12 c12 wK12=>(Ze (DU h8 fun p1 hp1 hk2=>?_))))
  have J2 : ∀ (i12:Int) (s6:List AC) (i13:NN),p1=(i12,s6)→K12 ⟨[(0,.own 1000 (i13 0)),(1,.fn 37 [.ptr 1001 gb1001 0 0]),(5,rI i12),(6,rI j3)],[(1000,some (.arr (i13 0) 49 4 (s6.map AC.row))),(1001,some (.box gb1001 49 (AK w1)))],(i13 1),42⟩:=by
   intro i12 s6 i13 e
   have h9:=hk2 _ _ e
   exact c12 _ (aR (mM R (Zb h9 fun j5 ej5 h10=>(xA R ej5 (mA R (Zg (Eb.mk h10 (AG [(i13 0),(i13 1)]) wk)))))))
  refine aU (mM R (mM R (Zb hp1 fun x1 ex1 h11=>(sQ R (GE R Ag.slice iL R iL (fun _=>ex1)) (sQ R (Il (cs:=(AK x1)) R Ay iL fR (fun _=>ex1) R) (sS R (Zp (cs:=DB) 7 R Dy R R) (Zl R R (Zh (ds:=(AK x1)) R Dp iL R iL R R R R) (aZ (aT fun c14=>(aR (mM R (xC Ay R (Zb h11 fun r1 er1 h12=>?_)))))))))))))
  refine Fj [1001] (hc:=[(1000,some (.box gb1001 49 (AK w1)))]) (bs:=(Ky x1)) (caps:=[.ptr 1000 gb1001 0 0]) R R R R iL R ⟨.inl ⟨iL,R⟩,Zd⟩ ⟨R,R,R,Zd⟩ (by decide) (Mg er1) ?_
  intro i14 n2
  refine DN [0,1,5,6,7,16,17,18,19,22,23,25,26,27,28] [7,1000,1001] ?_
  refine sQ R (BD R iL) (aZ (c14 _ (cI R h12 (fun h13=>?_) fun h13=>?_)))
  ·refine aT fun c15=>(aG [0,1,5,6,7] [7,1000,1001] ?_)
   exact aR (mM R (mM R (xC Ay R (Zb h13 fun x2 ex2 h14=>(sQ R (GE R Ag.slice iL R iL (fun _=>ex2)) (Zl R R (TI (v:=x1) R Dp iL R ex2 iL R R R R) (aZ (c15 _ (aR (mM R (Zb h14 fun i15 ei15 h15=>(xA R ei15 (mA R (Zg (wK12 _ _ wk (J2 _ _ (AG [(i7 0),n2]) (Za h15).symm))))))))))))))))
  exact Zc (wK12 _ _ wk (J2 _ _ (AG [(i7 0),n2]) (Za h13).symm))
 exact Zm (wK6 _ _ wk (J1 _ _ (AG [(i7 0),(i7 1)]) (xH hx1 h8)))
theorem U0 {a1 b1 r} (h:Fs a1 b1=some r):AZ Tryd.prog 40 [.agg (AK a1),.agg (AK b1)] (rI r):=by
 unfold Fs at h
 refine mF Tryd.func40 Tryd.ntmps40 R fun n0=>aU (sS R (A6 (cs:=(AK a1)) 2 R iL R R) (sS R (A6 (cs:=(AK b1)) 3 R iL R R) (mA R (aZ (aT fun c2=>(Zb h fun r1 er1 h1=>?_))))))
 refine rP 9 [pO 5 (.ptr 2 n0 0 0),pO 6 (rI a1.Row),pO 7 (.ptr 3 (n0+1) 0 0),pO 8 (rI b1.Row),pO 9 (rI r1),pO 10 (.ptr 2 n0 0 1),pO 11 (rI a1.Col),pO 12 (.ptr 3 (n0+1) 0 1),pO 13 (rI b1.Col)] Be R (by exact ⟨oB [(2,.ptr 2 n0 0 0)] [(2,some (.box n0 49 (AK a1)))] (fB R Bd (.inl R) (fun _=>R) R),oB [(5,.ptr 2 n0 0 0)] [(2,some (.box n0 49 (AK a1)))] (Zk (a:=rI a1.Row) R AH (.inl R) R R),oB [(3,.ptr 3 (n0+1) 0 0)] [(3,some (.box (n0+1) 49 (AK b1)))] (fB R Bd (.inl R) (fun _=>R) R),oB [(7,.ptr 3 (n0+1) 0 0)] [(3,some (.box (n0+1) 49 (AK b1)))] (Zk (a:=rI b1.Row) R AH (.inl R) R R),oD (fun _=>[(6,rI a1.Row),(8,rI b1.Row)]) (fun _=>[]) (fun G1 e h' n=>Gp (r:=rI r1) (caps:=[]) (bs:=[rI a1.Row,rI b1.Row]) R (.inl R) R ⟨⟨_,(.inl R),.d R⟩,⟨_,(.inl R),.d R⟩,Zd⟩ (fun _=>KS (er1)) R),oB [(2,.ptr 2 n0 0 0)] [(2,some (.box n0 49 (AK a1)))] (fB R Bo (.inl R) (fun _=>R) R),oB [(10,.ptr 2 n0 0 1)] [(2,some (.box n0 49 (AK a1)))] (Zk (a:=rI a1.Col) R AH (.inl R) R R),oB [(3,.ptr 3 (n0+1) 0 0)] [(3,some (.box (n0+1) 49 (AK b1)))] (fB R Bo (.inl R) (fun _=>R) R),oB [(12,.ptr 3 (n0+1) 0 1)] [(3,some (.box (n0+1) 49 (AK b1)))] (Zk (a:=rI b1.Col) R AH (.inl R) R R),Zd⟩) fun G1 n1=>?_
 refine DN [0,1,2,3,4,5,6,7,8,9,10,11,12,13] [2,3] ?_
 exact Zb h1 fun r2 er2 h2=>(cL (KS (er2)) R (sS R (B6 15 R BM (f:=(AR .i64)) (l:=([r1,r2]:List Int)) ⟨R,⟨_,iL,R⟩,R,⟨_,iL,R⟩,Zd⟩ R (fun _=>R) R) (Zb h2 fun r3 er3 h3=>(cL (Oq (er3)) R (mA R (aZ (c2 _ (Zi (yI h3 R)))))))))
theorem Sl {g1 e1 r} (h:G7 g1 e1=some r):AZ Tryd.prog 13 [.agg (Ab g1),.agg (Ad e1)] (.agg (Ab r)):=by
 unfold G7 at h
 refine mF Tryd.func13 Tryd.ntmps13 R fun n0=>aU (sS R (A6 (cs:=(Ab g1)) 2 R iL R R) (sS R (A6 (cs:=(Ad e1)) 3 R iL R R) (sS R (Zp (cs:=A1) 4 R HB R R) (aZ (aU (lF Ct AH R R (lF Eh CJ R R (B7 h fun r1 r2 er1 h1=>(cL (Ks (er1)) R (mM R (xX R (xX R (mA R (mA R (aZ (aT fun c3=>(aG [2,3,4,5] [2,3,4] ?_)))))))))))))))))
 refine aR (lF DP AH R R (lF Et CJ R R (B7 h1 fun r3 r4 er3 h2=>(cL (Ks (er3)) R (mM R (xX R (xX R (mA R (mA R (aZ (c3 _ (aT fun c4=>(aG [2,3,4,5,7] [2,3,4] ?_)))))))))))))
 refine Zb h2 fun r5 er5 h3=>(Zb h3 fun r6 er6 h4=>?_)
 refine QW 14 [pO 32 (rI r1),pO 33 (rI r3),pO 34 (.ptr 2 n0 0 2),pO 35 (qc g1.Cells),pO 36 (.ptr 3 (n0+1) 0 0),pO 37 (qb e1.Rows),pO 38 (.ptr 3 (n0+1) 0 1),pO 39 (qb e1.Cols),pO 40 (qc r5),pO 41 (.ptr 3 (n0+1) 0 2),pO 42 (qc e1.Cells),pO 43 (qc r6),pO 44 (.agg [rI r1,rI r3,qc r6,cZ]),⟨some 9,(fun G1=>.ptr 9 (G1 13) 0 0),some (9,(fun G1=>some (.box (G1 13) 25 A1))),[13]⟩] Be (by kernel_rfl) (by exact ⟨fun _ _ h=>⟨R,fun _ _ e=>by cases e⟩,fun _ _ h=>⟨R,fun _ _ e=>by cases e⟩,fun _ _ h=>⟨R,fun _ _ e=>by cases e⟩,fun _ _ h=>⟨R,fun _ _ e=>by cases e⟩,fun _ _ h=>⟨R,fun _ _ e=>by cases e⟩,fun _ _ h=>⟨R,fun _ _ e=>by cases e⟩,fun _ _ h=>⟨R,fun _ _ e=>by cases e⟩,fun _ _ h=>⟨R,fun _ _ e=>by cases e⟩,fun _ _ h=>⟨R,fun _ _ e=>by cases e⟩,fun _ _ h=>⟨R,fun _ _ e=>by cases e⟩,fun _ _ h=>⟨R,fun _ _ e=>by cases e⟩,fun _ _ h=>⟨R,fun _ _ e=>by cases e⟩,fun _ _ h=>⟨R,fun _ _ e=>by cases e⟩,fun _ _ h=>⟨by simp only [h 13 R],fun _ _ e=>by cases e; simp only [h 13 R]⟩,Zd⟩) R (by exact ⟨oB [(5,rI r1)] [] (Zf R (.inl R)),oB [(7,rI r3)] [] (Zf R (.inl R)),oB [(2,.ptr 2 n0 0 0)] [(2,some (.box n0 25 (Ab g1)))] (fB R E1 (.inl R) (fun _=>R) R),oB [(34,.ptr 2 n0 0 2)] [(2,some (.box n0 25 (Ab g1)))] (Zk (a:=qc g1.Cells) R CK (.inl R) R R),oB [(3,.ptr 3 (n0+1) 0 0)] [(3,some (.box (n0+1) 28 (Ad e1)))] (fB R Eh (.inl R) (fun _=>R) R),oB [(36,.ptr 3 (n0+1) 0 0)] [(3,some (.box (n0+1) 28 (Ad e1)))] (Zk (a:=qb e1.Rows) R CJ (.inl R) R R),oB [(3,.ptr 3 (n0+1) 0 0)] [(3,some (.box (n0+1) 28 (Ad e1)))] (fB R Et (.inl R) (fun _=>R) R),oB [(38,.ptr 3 (n0+1) 0 1)] [(3,some (.box (n0+1) 28 (Ad e1)))] (Zk (a:=qb e1.Cols) R CJ (.inl R) R R),oD (fun _=>[(35,qc g1.Cells),(37,qb e1.Rows),(39,qb e1.Cols)]) (fun _=>[]) (fun G1 e h' n=>CP (r:=qc r5) (caps:=[]) (bs:=[qc g1.Cells,qb e1.Rows,qb e1.Cols]) R (.inl R) R ⟨.inl ⟨(.inl R),R⟩,.inl ⟨(.inl R),R⟩,.inl ⟨(.inl R),R⟩,Zd⟩ (fun _=>Q5 (er5))),oB [(3,.ptr 3 (n0+1) 0 0)] [(3,some (.box (n0+1) 28 (Ad e1)))] (fB R EM (.inl R) (fun _=>R) R),oB [(41,.ptr 3 (n0+1) 0 2)] [(3,some (.box (n0+1) 28 (Ad e1)))] (Zk (a:=qc e1.Cells) R CK (.inl R) R R),oD (fun _=>[(40,qc r5),(42,qc e1.Cells)]) (fun _=>[]) (fun G1 e h' n=>CP (r:=qc r6) (caps:=[]) (bs:=[qc r5,qc e1.Cells]) R (.inl R) R ⟨.inl ⟨(.inl R),R⟩,.inl ⟨(.inl R),R⟩,Zd⟩ (fun _=>UU (er6))),oB [(32,rI r1),(33,rI r3),(43,qc r6)] [] (Dj R IQ (q:=[(0,_),(1,_),(2,_)]) (by exact ⟨R,R,R,(.inl R),R,R,R,(.inl R),R,R,R,(.inl R),Zd⟩) (cs:=[rI r1,rI r3,qc r6,cZ]) (by rfl)),oM (fun _=>[]) (fun _=>[]) R (fun G1 e h' n=>Zp (cs:=A1) 9 R HB R R),Zd⟩) fun G1 n1=>?_
 refine DN [2,3,4,5,7,9,32,33,34,35,36,37,38,39,40,41,42,43,44] [2,3,4,9] ?_
 refine Zl R R (Zh (ds:=[rI r1,rI r3,qc r6,cZ]) R F9 iL R iL R R R R) (aZ (c4 _ (aS fun K5 c5 wK5=>(aT fun c6=>(aG [2,3,4,9] [2,3,4,9] ?_)))))
 refine aR (lF Bz BC R R (xL Ag R (mM R (aZ (c6 _ (Ze (BL h4 fun o1 hit1 hk1=>?_)))))))
 have J1 : ∀ (out4:AJ) (i5:NN),o1=out4→K5 ⟨[(3,.ptr 3 (n0+1) 0 0),(4,.ptr 4 (n0+2) 0 0),(9,.ptr 9 (G1 13) 0 0)],[(3,some (.box (n0+1) 28 (Ad e1))),(4,some (.box (n0+2) 25 A1)),(9,some (.box (G1 13) 25 [rI out4.Rows,rI out4.Cols,qc out4.Cells,.own 73 (i5 0)])),(73,some (.arr (i5 0) 49 4 (out4.Merges.map AC.row)))],(i5 1),99⟩:=by
  intro out4 i5 e
  have h5:=hk1 _ e
  refine c5 _ (aS fun K7 c7 wK7=>(aU (lF Dx BC R R (xL Ag R (mM R (aZ (Ze (BL h5 fun o2 hit2 hk2=>?_))))))))
  have J2 : ∀ (out8:AJ) (i10:NN),o2=out8→K7 ⟨[(4,.ptr 4 (n0+2) 0 0),(9,.ptr 9 (G1 13) 0 0)],[(4,some (.box (n0+2) 25 A1)),(9,some (.box (G1 13) 25 [rI out8.Rows,rI out8.Cols,qc out8.Cells,.own 73 (i10 0)])),(73,some (.arr (i10 0) 49 4 (out8.Merges.map AC.row)))],(i10 1),99⟩:=by
   intro out8 i10 e
   have h6:=hk2 _ e
   refine c7 _ (aT fun c9=>(aR (lF Bz BC R R (Zb h6 fun w1 ew1 h7=>?_))))
   refine Fj [73] (hc:=[(1000,some (.arr (i10 0) 49 4 (out8.Merges.map AC.row)))]) (bs:=[.own 1000 (i10 0),.fn 40 []]) (caps:=[]) R R R R iL R ⟨.inl ⟨iL,R⟩,.inl ⟨iL,R⟩,Zd⟩ ⟨R,R,R,Zd⟩ (by decide) ((Ws (row:=AC.row) TX (by decide) (fun _=>R) ⟨_,Tryd.func40,R,R⟩ (fun _ _ _ h=>U0 h)) ew1) ?_
   intro i11 n2
   refine DN [4,9,95,96,97] [4,9,73] ?_
   refine aZ (c9 _ (aU (xC Cs R (Zl R R (Zh (ds:=[rI out8.Rows,rI out8.Cols,qc out8.Cells,.own 73 (i10 0)]) R F9 iL R iL R R R R) (aZ ?_)))))
   exact Zi (DE (P:=Tryd.prog) (fun (r:AJ)=>.agg (Ab r)) h7 iL (.a Cs R R R (.agg (by exact ⟨.closed _ R,.closed _ R,.closed _ R,.own R,Zd⟩))))
  refine Ce (fun (x5:Int) (out6:AJ) i8=>⟨[(4,.ptr 4 (n0+2) 0 0),(9,.ptr 9 (G1 13) 0 0),(77,qa e1.Merge),(78,rL e1.Merge),(79,rI x5)],[(4,some (.box (n0+2) 25 A1)),(9,some (.box (G1 13) 25 [rI out6.Rows,rI out6.Cols,qc out6.Cells,.own 73 (i8 0)])),(73,some (.arr (i8 0) 49 4 (out6.Merges.map AC.row)))],(i8 1),99⟩) (AG [(i5 0),(i5 1)]) hit2 wk ?_
  intro x5 out6 i8 v1 hv1 hx2
  have h8:EB e1 x5 out6=some v1:=hv1; unfold EB at h8
  refine aU (xS R (aZ (aT fun c12=>(cI R h8 (fun h9=>?_) fun h9=>?_))))
  ·refine Zc (c12 _ (aT fun c13=>(Ze (aU (Zb h9 fun x7 ex7 h10=>(xI Ag R ex7 (xB ((AK x7)) Ay R (sS R (Zp (cs:=DB) 15 R Dy R R) (Zl R R (Zh (ds:=(AK x7)) R Dp iL R iL R R R R) (aZ (aT fun c15=>(aR (lF Bz BC R R ?_)))))))))))))
   refine sQ R (Od (bs:=[.ptr 15 (i8 1) 0 0]) R (by exact ⟨iL,Zd⟩)) ?_
   refine Zb h10 fun w2 ew2 h11=>?_
   refine Fj [73,15] (hc:=[(1000,some (.arr (i8 0) 49 4 (out6.Merges.map AC.row))),(1001,some (.box (i8 1) 49 (AK x7)))]) (bs:=[.own 1000 (i8 0),.fn 37 [.ptr 1001 (i8 1) 0 0]]) (caps:=[]) R R R R iL R ⟨.inl ⟨iL,R⟩,.inl ⟨iL,R⟩,Zd⟩ ⟨R,R,R,R,R,R,Zd⟩ (by decide) (Vl ew2) ?_
   intro i12 n3
   refine DN [4,9,15,77,78,79,80,81,82,83,85,86] [4,9,15,73] ?_
   refine sQ R (fB R Bz iL fR R) (Zl R R (Zh (ds:=[rI out6.Rows,rI out6.Cols,qc out6.Cells,.own 73 (i12 0)]) R Ll iL R iL R R R R) (aZ (c15 _ (aR (lF Bz BC R R (xC Ay R (sS R (B6 91 R Ag (f:=AC.row) (l:=([x7]:List AC)) ⟨R,⟨_,iL,R⟩,Zd⟩ R (fun _=>R) R) (Zb h11 fun l1 el1 h12=>(sS R (Cj R Ag iL R (.inr (.inl ⟨_,_,iL,R⟩)) el1) (sQ R (fB R Bz iL fR R) (Zl R R (Zh (ds:=[rI out6.Rows,rI out6.Cols,qc out6.Cells,.own 73 (n3+1)]) R Ll iL R iL R R R R) (aZ (c13 _ (aG [4,9,77,78,79] [4,9,73] ?_))))))))))))))
   exact aR (Zb h12 fun x8 ex8 h13=>(xA R ex8 (mM R (Zg (CB.mk h13 (AG [(n3+1),(n3+2)]) wk)))))
  exact Zm (wK7 _ _ wk (J2 _ (AG [(i8 0),(i8 1)]) (xH hx2 h9)))
 refine Ce (fun (x2:Int) (out2:AJ) i3=>⟨[(3,.ptr 3 (n0+1) 0 0),(4,.ptr 4 (n0+2) 0 0),(9,.ptr 9 (G1 13) 0 0),(46,qa g1.Merges),(47,rL g1.Merges),(48,rI x2)],[(3,some (.box (n0+1) 28 (Ad e1))),(4,some (.box (n0+2) 25 A1)),(9,some (.box (G1 13) 25 [rI out2.Rows,rI out2.Cols,qc out2.Cells,.own 73 (i3 0)])),(73,some (.arr (i3 0) 49 4 (out2.Merges.map AC.row)))],(i3 1),99⟩) (AG [n1,(n1+1)]) hit1 (Zq (Zq (NH 9 3 73 49 4 (by decide) R R (by decide)) (by exact Aa.cv (e':=[(2,.ptr 2 n0 0 0),(3,.ptr 3 (n0+1) 0 0),(4,.ptr 4 (n0+2) 0 0),(9,.ptr 9 (G1 13) 0 0),(45,.ptr 2 n0 0 3),(46,qa g1.Merges),(47,rL g1.Merges),(48,rI 0)]) (h':=[(2,some (.box n0 25 (Ab g1))),(3,some (.box (n0+1) 28 (Ad e1))),(4,some (.box (n0+2) 25 A1)),(9,some (.box (G1 13) 25 [rI r1,rI r3,qc r6,.own 73 n1])),(73,some (.arr n1 49 4 (([]:List AC).map AC.row)))]) ⟨jL,jL,jL,jL,jL,jL,jL,jL,Zd⟩ ⟨.inl R,.inl R,.inl R,.inl R,.inl R,Zd⟩ nL)) wk) ?_
 intro x2 out2 i3 v2 hv2 hx1
 have h14:D2 g1 e1 x2 out2=some v2:=hv2; unfold D2 at h14
 refine aU (xS R (aZ (aT fun c17=>(cI R h14 (fun h15=>?_) fun h15=>?_))))
 ·refine Zc (c17 _ (aS fun K18 c18 wK18=>(Ze (BL h15 fun p1 hp1 hk3=>?_))))
  have J3 : ∀ (out9:AJ) (i13:NN),p1=out9→K18 ⟨[(3,.ptr 3 (n0+1) 0 0),(4,.ptr 4 (n0+2) 0 0),(9,.ptr 9 (G1 13) 0 0),(46,qa g1.Merges),(47,rL g1.Merges),(48,rI x2)],[(3,some (.box (n0+1) 28 (Ad e1))),(4,some (.box (n0+2) 25 A1)),(9,some (.box (G1 13) 25 [rI out9.Rows,rI out9.Cols,qc out9.Cells,.own 73 (i13 0)])),(73,some (.arr (i13 0) 49 4 (out9.Merges.map AC.row)))],(i13 1),99⟩:=by
   intro out9 i13 e
   have h16:=hk3 _ e
   exact c18 _ (aR (Zb h16 fun x9 ex9 h17=>(xA R ex9 (mM R (Zg (CB.mk h17 (AG [(i13 0),(i13 1)]) wk))))))
  refine aU (Zb hp1 fun x10 ex10 h18=>(xI Ag R ex10 (xB ((AK x10)) Ay R (sS R (Zp (cs:=DB) 11 R Dy R R) (Zl R R (Zh (ds:=(AK x10)) R Dp iL R iL R R R R) (aZ (aU (xC Ay R (lF Eh CJ R R (lF Et CJ R R (B7 h18 fun r7 r8 er7 h19=>(sS R (CP (r:=.tup [.agg (AK r7),rB r8]) (caps:=[]) (bs:=[.agg (AK x10),qb e1.Rows,qb e1.Cols]) R iL R ⟨.inl ⟨iL,R⟩,.inl ⟨iL,R⟩,.inl ⟨iL,R⟩,Zd⟩ (fun _=>RB (er7))) (mM R (xX R (xX R (sS R (Zp (cs:=DB) 12 R Dy R R) (Zl R R (Zh (ds:=(AK r7)) R Dp iL R iL R R R R) (mA R (aZ (aT fun c21=>(aG [3,4,9,12,13,46,47,48] [3,4,9,12,73] ?_)))))))))))))))))))))
  refine aR (mM R (mM R (vF FG BC R R (vQ R (Cm R Ay iL R R) (Zb h19 fun r9 er9 h20=>vL (fun hg=>Sb (Ae er9 hg)) R (vQ R (BD R (iR R)) (xN R (aZ (c21 _ (cI R h20 (fun h21=>?_) fun h21=>?_))))))))))
  ·exact aR (lF Bz BC R R (xC Ay R (sS R (B6 72 R Ag (f:=AC.row) (l:=([r7]:List AC)) ⟨R,⟨_,iL,R⟩,Zd⟩ R (fun _=>R) R) (Zb h21 fun l2 el2 h22=>(sS R (Cj R Ag iL R (.inr (.inl ⟨_,_,iL,R⟩)) el2) (sQ R (fB R Bz iL fR R) (Zl R R (Zh (ds:=[rI out2.Rows,rI out2.Cols,qc out2.Cells,.own 73 ((i3 1)+3)]) R Ll iL R iL R R R R) (Zg (wK18 _ _ wk (J3 _ (AG [((i3 1)+3),((i3 1)+4)]) (Za h22).symm))))))))))
  exact Zc (wK18 _ _ wk (J3 _ (AG [(i3 0),((i3 1)+2)]) (Za h21).symm))
 exact Zm (wK5 _ _ wk (J1 _ (AG [(i3 0),(i3 1)]) (xH hx1 h15)))
theorem N8 {g1 e1 r} (h:Gu g1 e1=some r):AZ Tryd.prog 5 [.agg (Ab g1),.agg (Ad e1)] (.tup [.agg (Ab r.1),rI r.2]):=by
 unfold Gu at h
 refine mF Tryd.func5 Tryd.ntmps5 R fun n0=>aU (sS R (A6 (cs:=(Ab g1)) 2 R iL R R) (sS R (A6 (cs:=(Ad e1)) 3 R iL R R) (sS R (Zp (cs:=A1) 4 R HB R R) (mA R (aZ (aT fun c2=>(aU (xC Cs R (xC Fm R (OL h fun r1 r2 r3 er1 h1=>(cL (VV (er1)) R (mM R (xX R (xX R (xX R (mA R (mA R (mA R (aZ (aT fun c4=>(aG [2,3,4,8] [2,3,4] ?_)))))))))))))))))))))
 refine aR (mM R (xU R (aZ (c4 _ (cI R h1 (fun h2=>?_) fun h2=>?_)))))
 ·refine aT fun c5=>(aR ?_)
  refine sQ R (Dj R IQ (q:=[]) (by exact Zd) (cs:=A1) (by rfl)) ?_
  refine mM R (Zl R R (Zh (ds:=A1) R F9 iL R iL R R R R) (mA R (oZ c5 ?_)))
  exact Zi (Br (P:=Tryd.prog) (fun (r:AJ × Int)=>.agg (Ab r.1)) (fun (r:AJ × Int)=>rI r.2) h2 iL (.a Cs R R R (.agg (by exact ⟨.closed _ R,.closed _ R,.nil,.nil,Zd⟩))) (.t (.d R)))
 exact Zc (c2 _ (aU (xC Cs R (xC Fm R (Zb h2 fun r4 er4 h3=>(sS R (CP (r:=.agg (Ab r4)) (caps:=[]) (bs:=[.agg (Ab g1),.agg (Ad e1)]) R iL R ⟨.inl ⟨iL,R⟩,.inl ⟨iL,R⟩,Zd⟩ (fun _=>Sl (er4))) (Zl R R (Zh (ds:=(Ab r4)) R F9 iL R iL R R R R) (mA R (aZ (Zi (Br (P:=Tryd.prog) (fun (r:AJ × Int)=>.agg (Ab r.1)) (fun (r:AJ × Int)=>rI r.2) h3 iL (.a Cs R R R (.g (cs:=[.int .i64 r4.Rows,.int .i64 r4.Cols,.sl (r4.Cells.map AE.row),.sl (r4.Merges.map AC.row)]) R R)) (.t (.d R)))))))))))))
theorem VW {r} (h:KD=some r):AZ Tryd.prog 4 [] (rB r):=by
 unfold KD at h
 refine mF Tryd.func4 Tryd.ntmps4 R fun n0=>aU (mA R (aZ (aT fun c2=>(aR ?_))))
 refine sQ R (Dj R MA (q:=[(0,_),(2,_)]) (by exact ⟨R,R,R,iL,R,R,R,iL,Zd⟩) (cs:=JB) (by rfl)) ?_
 refine sS R (B6 5 R A2 (f:=AE.row) (l:=([(AE.mk 1 0 [120] 0 [])]:List AE)) ⟨R,⟨_,iL,R⟩,Zd⟩ R (fun _=>R) R) ?_
 refine sQ R (Dj R IQ (q:=[(0,_),(1,_),(2,_)]) (by exact ⟨R,R,R,iL,R,R,R,iL,R,R,R,iL,Zd⟩) (cs:=[rI 2,rI 1,.own 5 n0,cZ]) (by rfl)) ?_
 refine sQ R (Dj R Mr (q:=[(0,_),(1,_)]) (by exact ⟨R,R,R,iL,R,R,R,iL,Zd⟩) (cs:=[rI 1,rI 1]) (by rfl)) ?_
 refine sQ R (Dj R Mr (q:=[(0,_),(1,_)]) (by exact ⟨R,R,R,iL,R,R,R,iL,Zd⟩) (cs:=[rI 0,rI 2]) (by rfl)) ?_
 refine sS R (B6 9 R A9 (f:=AI.row) (l:=([(AI.mk 1 1),(AI.mk 0 2)]:List AI)) ⟨R,⟨_,iL,R⟩,R,⟨_,iL,R⟩,Zd⟩ R (fun _=>R) R) ?_
 refine sQ R (Dj R UM (q:=[(0,_)]) (by exact ⟨R,R,R,iL,Zd⟩) (cs:=[.own 9 (n0+1),cZ,cZ,cZ,cZ]) (by rfl)) ?_
 refine AN.weak (by exact KI (e':=[(0,rB false),(4,.agg JB),(5,.r (.sl ([(AE.mk 1 0 [120] 0 [])].map AE.row))),(6,.agg [rI 2,rI 1,.r (.sl ([(AE.mk 1 0 [120] 0 [])].map AE.row)),cZ]),(7,.agg [rI 1,rI 1]),(8,.agg [rI 0,rI 2]),(9,.own 9 (n0+1)),(10,.agg [.own 9 (n0+1),cZ,cZ,cZ,cZ])]) (h':=[(9,some (.arr (n0+1) 43 2 ([(AI.mk 1 1),(AI.mk 0 2)].map AI.row)))]) 5 R ⟨jL,jL,.inl (.inr (.inr ⟨R,R⟩)),.inr ⟨_,_,R,R,⟨.inl R,.inl R,.inr (.inr ⟨R,R⟩),.inl R,Zd⟩⟩,jL,jL,jL,jL,Zd⟩ ⟨R,.inl R,Zd⟩) ?_
 refine AN.weak (by exact KI (e':=[(0,rB false),(4,.agg JB),(5,.r (.sl ([(AE.mk 1 0 [120] 0 [])].map AE.row))),(6,.agg [rI 2,rI 1,.r (.sl ([(AE.mk 1 0 [120] 0 [])].map AE.row)),cZ]),(7,.agg [rI 1,rI 1]),(8,.agg [rI 0,rI 2]),(9,.r (.sl ([(AI.mk 1 1),(AI.mk 0 2)].map AI.row))),(10,.agg OJ)]) (h':=[]) 9 R ⟨jL,jL,jL,jL,jL,jL,.inl (.inr (.inr ⟨R,R⟩)),.inr ⟨_,_,R,R,⟨.inr (.inr ⟨R,R⟩),.inl R,.inl R,.inl R,.inl R,Zd⟩⟩,Zd⟩ Zd) ?_
 refine AN.weak (by exact Aa.cv (e':=[(0,rB false),(4,.agg JB),(5,.r (.sl ([(AE.mk 1 0 [120] 0 [])].map AE.row))),(6,.agg L2),(7,.agg [rI 1,rI 1]),(8,.agg [rI 0,rI 2]),(9,.r (.sl ([(AI.mk 1 1),(AI.mk 0 2)].map AI.row))),(10,.agg OJ)]) (h':=[]) ⟨jL,jL,jL,.inr ⟨_,_,R,R,⟨.inl R,.inl R,.inl R,.inr (.inr ⟨R,R⟩),Zd⟩⟩,jL,jL,jL,jL,Zd⟩ Zd nL) ?_
 refine AN.weak (by exact Aa.cv (e':=[(0,rB false),(4,.agg JB),(5,.r (.sl ([(AE.mk 1 0 [120] 0 [])].map AE.row))),(6,.agg L2),(7,.agg [rI 1,rI 1]),(8,.agg [rI 0,rI 2]),(9,.r (.sl ([(AI.mk 1 1),(AI.mk 0 2)].map AI.row))),(10,.agg Pt)]) (h':=[]) ⟨jL,jL,jL,jL,jL,jL,jL,.inr ⟨_,_,R,R,⟨.inl R,.inr (.inr ⟨R,R⟩),.inr (.inr ⟨R,R⟩),.inr (.inr ⟨R,R⟩),.inr (.inr ⟨R,R⟩),Zd⟩⟩,Zd⟩ Zd nL) ?_
 refine B7 h fun r1 r2 er1 h1=>(sS R (CP (r:=.tup [.agg (Ab r1),rI r2]) (caps:=[]) (bs:=[.agg L2,.agg Pt]) R iL R ⟨.inl ⟨iL,R⟩,.inl ⟨iL,R⟩,Zd⟩ (fun _=>N8 (er1))) (mM R (xX R (xX R (sS R (Zp (cs:=A1) 1 R HB R R) (Zl R R (Zh (ds:=(Ab r1)) R F9 iL R iL R R R R) (mA R (aZ (c2 _ (aT fun c3=>(aG [1,2] [1] ?_)))))))))))
 exact aR (mM R (xQ R (mM R (vF Ct AH R R (vQ R (BP R (iR R) iL) (xN R (mM R (vF E1 CK R R (vQ R (IC R A2.slice (iR R)) (vQ R (BP R (iR R) iL) (xN R (mM R (vF E1 CK R R (Zb h1 fun x1 ex1 h2=>(vQ R (BB R A2.slice (iR R) iL (fun _=>R) (Ae ex1)) (vQ R (Zj R CU (iR R)) (vQ R (Bi (d:=.int .i64 x1.Row) R AH (iR R) R) (vQ R (BP R (iR R) iL) (xN R (mA R (aZ (c3 _ (Zi (yB h2 R))))))))))))))))))))))))
theorem Dc {x1 l a r} (h:CS x1 l a=some r):AZ Tryd.prog 14 [rI x1,rI l,rI a] (rB r):=by
 unfold CS at h
 exact mF Tryd.func14 Tryd.ntmps14 R fun n0=>aU (mA R (aZ (aU (mM R (mM R (sQ R (Bp R iL iL) (mM R (vM R (vM R (vQ R (DI R (iR R) (iR R)) (xN R (mA R (aZ (Zi (yB h R)))))))))))))))
theorem R0 {s1 r} (h:LC s1=some r):AZ Tryd.prog 64 [rS s1] (rB r):=by
 unfold LC at h
 exact Wt Tb R R R ⟨_,Tryd.func64,R,R⟩ h
theorem TC {c1 r} (h:Id c1=some r):AZ Tryd.prog 65 [rI c1] (rB r):=by
 unfold Id at h
 exact mF Tryd.func65 Tryd.ntmps65 R fun n0=>aU (mA R (aZ (aU (mM R (xQ R (mM R (vM R (vQ R (BP R (iR R) iL) (xO R (mM R (vM R (Zb h fun r1 er1 h1=>vL (fun hg=>Dc (Ae er1 hg)) R (xO R (mM R (vM R (Zb h1 fun r2 er2 h2=>vL (fun hg=>Dc (Ae er2 hg)) R (xO R (mM R (vM R (Zb h2 fun r3 er3 h3=>vL (fun hg=>Dc (Ae er3 hg)) R (xO R (mA R (aZ (Zi (yB h3 R)))))))))))))))))))))))))
theorem UC {s1 r} (h:KB s1=some r):AZ Tryd.prog 43 [rS s1] (rB r):=by
 unfold KB at h
 refine mF Tryd.func43 Tryd.ntmps43 R fun n0=>aU (mA R (aZ (aT fun c2=>(aU (mM R (Zb h fun r1 er1 h1=>(cL (R0 (er1)) R (sQ R (BD R iL) (aZ (cI R h1 (fun h2=>?_) fun h2=>?_))))))))))
 ·exact zB h2 R id
 refine Zc (c2 _ (aS fun K5 c5 wK5=>(aU (mM R (sS R (T6 9 R Tryd.underlying9 iL) (aZ (Ze (BA h2 fun o1 hit1 hk1 he1=>?_))))))))
 have J1 : ∀ (u2:Unit) (i5:NN),o1 = .nrm u2→K5 ⟨[],[],(i5 0),21⟩:=by
  intro u2 i5 e
  have h3:=hk1 _ e
  exact c5 _ (zB h3 R id)
 refine Zo (fun (p2:(Nat)) i3=>⟨[(9,.ptr 9 n0 0 0)],[(9,some (.it n0 s1 p2))],(i3 0),21⟩) (AG [(n0+1)]) hit1 wk ?_
 intro p2 i3 v1 hv1 hx1
 have h4:Da s1 p2=some v1:=hv1; unfold Da at h4
 refine aT fun c8=>(AW.split (decide (p2<s1.length)) (fun hg1=>?_) (fun hg1=>?_))
 ·have h5:=B4 hg1 h4
  refine aR (sS R (Vo R iL R (fun _=>hg1)) (xX R (aZ (c8 _ (aT fun c9=>(aC R (fun hc2=>?_) (fun hc2=>by cases hc2)))))))
  refine Zc (c9 _ (Ze (aU (xX R (mA R (aZ (aU (mM R (xQ R (mM R (vM R (vQ R (DL R Tryd.underlying21 Tryd.underlying3 (iR R)) (Zb h5 fun r2 er2 h6=>vL (fun hg=>TC (Ae er2 hg)) R (vQ R (BD R (iR R)) (xO R (aZ (cI R h6 (fun h7=>?_) fun h7=>?_)))))))))))))))))
  ·exact zB (he1 _ (xH hx1 h7)) R id
  exact Zc (Zn h7 (AG [(i3 0)]) wk)
 ·have h5:=B5 hg1 h4
  exact aR (sS R (Sy R iL R (fun _=>hg1)) (xX R (aZ (c8 _ (aT fun c13=>(aC R (fun hc4=>by cases hc4) (fun hc4=>Zm (wK5 _ _ wk (J1 _ (AG [(i3 0)]) (xH hx1 h5))))))))))
theorem VD {s1 r} (h:Jx s1=some r):AZ Tryd.prog 66 [rS s1] (rB r):=by
 unfold Jx at h
 refine mF Tryd.func66 Tryd.ntmps66 R fun n0=>aU (mA R (aZ (aS fun K2 c2 wK2=>(aU (mM R (sQ R (Ea R Tryd.underlying9 iL) (mM R (aZ (Ze (BA h fun o1 hit1 hk1 he1=>?_))))))))))
 have J1 : ∀ (u2:Unit) (i5:NN),o1 = .nrm u2→K2 ⟨[(0,rS s1)],[],(i5 0),59⟩:=by
  intro u2 i5 e
  have h1:=hk1 _ e
  exact c2 _ (aU (mM R (sQ R (Ea R Tryd.underlying9 iL) (sQ R (Bp R iL iL) (mM R (vM R (vQ R (Ea R Tryd.underlying9 (iR R)) (vQ R (DI R (iR R) iL) (xN R (mA R (aZ (Zi (yB h1 R)))))))))))))
 refine Zo (fun (x2:Int) i3=>⟨[(0,rS s1),(6,rL s1),(7,rI x2)],[],(i3 0),59⟩) (AG [n0]) hit1 wk ?_
 intro x2 i3 v1 hv1 hx1
 have h2:Hc s1 x2=some v1:=hv1; unfold Hc at h2
 refine aU (xS R (aZ (aT fun c6=>(cI R h2 (fun h3=>?_) fun h3=>?_))))
 ·refine Zc (c6 _ (aT fun c7=>(Ze (aU (mM R (mA R (aZ (aU (mM R (mM R (Zb h3 fun ch1 ech1 h4=>(sQ R (CL R Tryd.underlying9 iL iL (fun _=>ech1)) (sQ R (Bp R iL iL) (mM R (vM R (vM R (vQ R (CL R Tryd.underlying9 (iR R) (iR R) (fun _=>ech1)) (vQ R (DI R (iR R) iL) (xN R (mA R (aZ (aT fun c10=>(aR (mM R (sQ R (BD R iL) (mM R (vM R (vQ R (BP R (iR R) iL) (vQ R (Zf R (iR R)) (wQ R (Zf R iL) (wQ R (Zf R iL) (wQ R (CL R Tryd.underlying9 (iR R) (iR R) (fun _=>ech1)) (wQ R (Is R (iR R) iL) (wQ R (Zf R (iR R)) (wQ R (Zf R iL) (wQ R (Zf R iL) (wQ R (CL R Tryd.underlying9 (iR R) (iR R) (fun _=>ech1)) (wQ R (Is R (iR R) iL) (wQ R (Bm R (iR R) (iR R)) (wQ R (Zf R (iR R)) (wQ R (Zf R iL) (wQ R (Zf R iL) (wQ R (CL R Tryd.underlying9 (iR R) (iR R) (fun _=>ech1)) (wQ R (Bb R (iR R) iL) (wQ R (Zf R (iR R)) (wQ R (Zf R iL) (wQ R (Zf R iL) (wQ R (CL R Tryd.underlying9 (iR R) (iR R) (fun _=>ech1)) (wQ R (BH R (iR R) iL) (wQ R (Ep R (iR R) (iR R)) (wQ R (Bm R (iR R) (iR R)) (vQ R (Ep R (iR R) (iR R)) (xN R (aZ (c10 _ (cI R h4 (fun h5=>?_) fun h5=>?_))))))))))))))))))))))))))))))))))))))))))))))))))))))))
  ·exact zB (he1 _ (xH hx1 h5)) R id
  refine Zc (c7 _ (aF [0,6,7] ?_))
  exact aR (Zb h5 fun x4 ex4 h6=>(xA R ex4 (mM R (Zg (Zn h6 (AG [(i3 0)]) wk)))))
 exact Zm (wK2 _ _ wk (J1 _ (AG [(i3 0)]) (xH hx1 h3)))
theorem S7 {s1 r} (h:IS s1=some r):AZ Tryd.prog 67 [rS s1] (rB r):=by
 unfold IS at h
 refine mF Tryd.func67 Tryd.ntmps67 R fun n0=>aU (mA R (aZ (aS fun K2 c2 wK2=>(aU (mM R (sQ R (Ea R Tryd.underlying9 iL) (mM R (aZ (Ze (BA h fun o1 hit1 hk1 he1=>?_))))))))))
 have J1 : ∀ (u2:Unit) (i5:NN),o1 = .nrm u2→K2 ⟨[(0,rS s1)],[],(i5 0),28⟩:=by
  intro u2 i5 e
  have h1:=hk1 _ e
  exact c2 _ (aU (mM R (sQ R (Ea R Tryd.underlying9 iL) (sQ R (Bp R iL iL) (mM R (vM R (vQ R (Ea R Tryd.underlying9 (iR R)) (vQ R (DI R (iR R) iL) (xN R (mA R (aZ (Zi (yB h1 R)))))))))))))
 refine Zo (fun (x2:Int) i3=>⟨[(0,rS s1),(5,rL s1),(6,rI x2)],[],(i3 0),28⟩) (AG [n0]) hit1 wk ?_
 intro x2 i3 v1 hv1 hx1
 have h2:JK s1 x2=some v1:=hv1; unfold JK at h2
 refine aU (xS R (aZ (aT fun c6=>(cI R h2 (fun h3=>?_) fun h3=>?_))))
 ·refine Zc (c6 _ (aT fun c7=>(Ze (aU (mM R (mA R (aZ (aU (mM R (mM R (Zb h3 fun ch1 ech1 h4=>(sQ R (CL R Tryd.underlying9 iL iL (fun _=>ech1)) (xS R (mM R (vM R (vM R (vQ R (CL R Tryd.underlying9 (iR R) (iR R) (fun _=>ech1)) (vQ R (BH R (iR R) iL) (xO R (aZ (cI R h4 (fun h5=>?_) fun h5=>?_)))))))))))))))))))))
  ·exact zB (he1 _ (xH hx1 h5)) R id
  refine Zc (c7 _ (aF [0,5,6] ?_))
  exact aR (Zb h5 fun x4 ex4 h6=>(xA R ex4 (mM R (Zg (Zn h6 (AG [(i3 0)]) wk)))))
 exact Zm (wK2 _ _ wk (J1 _ (AG [(i3 0)]) (xH hx1 h3)))
theorem U1 {l1 c r} (h:JJ l1 c=some r):AZ Tryd.prog 44 [qd l1,rB c] (rI r):=by
 unfold JJ at h
 refine mF Tryd.func44 Tryd.ntmps44 R fun n0=>aU (mA R (aZ (aS fun K2 c2 wK2=>(aU (mM R (xL Cg R (mM R (aZ (Ze (BA h fun o1 hit1 hk1 he1=>?_))))))))))
 have J1 : ∀ (u2:Unit) (i5:NN),o1 = .nrm u2→K2 ⟨[],[],(i5 0),54⟩:=by
  intro u2 i5 e
  have h1:=hk1 _ e
  exact c2 _ (zI h1 R id)
 refine Zo (fun (x2:Int) i3=>⟨[(0,qd l1),(1,rB c),(7,rL l1),(8,rI x2)],[],(i3 0),54⟩) (AG [n0]) hit1 wk ?_
 intro x2 i3 v1 hv1 hx1
 have h2:Ha l1 c x2=some v1:=hv1; unfold Ha at h2
 refine aU (xS R (aZ (aT fun c6=>(cI R h2 (fun h3=>?_) fun h3=>?_))))
 ·refine Zc (c6 _ (aT fun c7=>(Ze (aU (mM R (mA R (aZ (aT fun c9=>(aU (mM R (mM R (Zb h3 fun x4 ex4 h4=>(xI Cg R ex4 (sQ R (Zj R Hl iL) (xV (.str x4.Name) Cw R (Zb h4 fun r1 er1 h5=>(cL (VD (er1)) R (sQ R (BD R iL) (aZ (cI R h5 (fun h6=>?_) fun h6=>?_))))))))))))))))))))
  ·exact zI (he1 _ (xH hx1 h6)) R id
  refine Zc (c9 _ (aT fun c12=>(aT fun c13=>(aF [0,1,5,7,8] ?_))))
  refine aR (mM R (mM R (xI Cg R ex4 (sQ R (Zj R LF iL) (xV (.str x4.Value) Cw R (Zb h6 fun r2 er2 h7=>(cL (S7 (er2)) R (sQ R (BD R iL) (mM R (vM R (vM R (vQ R (BB R Cg.slice (iR R) (iR R) (fun _=>R) (fun _=>ex4)) (vQ R (Zj R LF (iR R)) (vQ R (Bi (d:=.str x4.Value) R Cw (iR R) R) (vQ R (Lw R (iR R) iL) (vQ R (Zf R (iR R)) (wQ R (Zf R iL) (wQ R (BD R (iR R)) (vQ R (Ep R (iR R) (iR R)) (xN R (aZ (c13 _ (cI R h7 (fun h8=>?_) fun h8=>?_)))))))))))))))))))))))
  ·exact zI (he1 _ (xH hx1 h8)) R id
  refine Zc (c12 _ (aT fun c15=>(aF [0,1,5,7,8] ?_)))
  refine CQ Be (by kernel_rfl) ?_
  refine qP R (Zf R iL) (qP R (BH R iL iL) (qP R (Zf R iL) (qO R (Zf R iL) (qO R (Zf R iL) (Zb h8 fun x5 ex5 h9=>qO R (BW R (iR R) iL (Ae ex5)) (Zb h9 fun x6 ex6 h10=>qO R (BB R Cg.slice (iR R) (iR R) (fun _=>R) (Ae ex6)) (qO R (Zj R Hl (iR R)) (qO R (Bi (d:=.str x6.Name) R Cw (iR R) R) (qO R (Zf R iL) (qO R (Zf R iL) (qO R (BB R Cg.slice (iR R) (iR R) (fun _=>R) (fun _=>ex4)) (qO R (Zj R Hl (iR R)) (qO R (Bi (d:=.str x4.Name) R Cw (iR R) R) (qO R (TE R (iR R) (iR R)) (qP R (Bm R iL (iR R)) (AQ.nil (c15 _ (cI R h10 (fun h11=>?_) fun h11=>?_))))))))))))))))))
  ·exact zI (he1 _ (xH hx1 h11)) R id
  exact Zc (c7 _ (aR (Zb h11 fun x7 ex7 h12=>(xA R ex7 (mM R (Zg (Zn h12 (AG [(i3 0)]) wk)))))))
 exact Zm (wK2 _ _ wk (J1 _ (AG [(i3 0)]) (xH hx1 h3)))
theorem Ot {c1 r} (h:Em c1=some r):AZ Tryd.prog 26 (JN c1) (rB r):=by
 unfold Em at h
 exact mF Tryd.func26 Tryd.ntmps26 R fun n0=>aU (sS R (A6 (cs:=(Ai c1)) 1 R iL R R) (mA R (aZ (aU (lF IE Cw R R (sQ R (HX R iL iL) (mM R (vF Gv AH R R (vQ R (BP R (iR R) iL) (xN R (mM R (vF Fk GY R R (vQ R (IC R Cg.slice (iR R)) (vQ R (BP R (iR R) iL) (xN R (mA R (aZ (Zi (yB h R)))))))))))))))))))
theorem OD {l1 b c n r} (h:H8 l1 b c n=some r):AZ Tryd.prog 15 [qc l1,rI b,rI c,rB n] (rI r):=by
 unfold H8 at h
 refine mF Tryd.func15 Tryd.ntmps15 R fun n0=>aU (mA R (aZ (aS fun K2 c2 wK2=>(aU (mM R (xL A2 R (mM R (aZ (Ze (BA h fun o1 hit1 hk1 he1=>?_))))))))))
 have J1 : ∀ (u2:Unit) (i5:NN),o1 = .nrm u2→K2 ⟨[],[],(i5 0),93⟩:=by
  intro u2 i5 e
  have h1:=hk1 _ e
  exact c2 _ (zI h1 R id)
 refine Zo (fun (x2:Int) i3=>⟨[(0,qc l1),(1,rI b),(2,rI c),(3,rB n),(13,rL l1),(14,rI x2)],[],(i3 0),93⟩) (AG [n0]) hit1 wk ?_
 intro x2 i3 v1 hv1 hx1
 have h2:JG l1 b c n x2=some v1:=hv1; unfold JG at h2
 refine aU (xS R (aZ (aT fun c6=>(cI R h2 (fun h3=>?_) fun h3=>?_))))
 ·refine Zc (c6 _ (aT fun c7=>(Ze (aU (mM R (mA R (aZ (aU (mM R (mM R (Zb h3 fun x4 ex4 h4=>(xI A2 R ex4 (xB ((Ai x4)) Bg R (sS R (Zp (cs:=E2) 10 R F7 R R) (Zl R R (Zh (ds:=(Ai x4)) R ED iL R iL R R R R) (aZ (aT fun c10=>(aT fun c11=>(aR (lF CU AH R R (mM R (Zb h4 fun x5 ex5 h5=>(sQ R (BW R iL iL (fun _=>ex5)) (Zb h5 fun r1 er1 h6=>(cL (Dc (er1)) R (sQ R (BD R iL) (mM R (vF DA AH R R (vM R (Zb h6 fun x6 ex6 h7=>(vQ R (BW R (iR R) iL (Ae ex6)) (Zb h7 fun r2 er2 h8=>vL (fun hg=>Dc (Ae er2 hg)) R (vQ R (BD R (iR R)) (xO R (mM R (vF Gv AH R R (Zb h8 fun r3 er3 h9=>vL (fun hg=>Dc (Ae er3 hg)) R (vQ R (BD R (iR R)) (xO R (aZ (c11 _ (cI R h9 (fun h10=>?_) fun h10=>?_))))))))))))))))))))))))))))))))))))))))))
  ·exact zI (he1 _ (xH hx1 h10)) R id
  refine Zc (c10 _ (aT fun c13=>(aT fun c14=>(aG [0,1,2,3,9,10,13,14] [10] ?_))))
  refine aR (lF IE Cw R R (Zb h10 fun r4 er4 h11=>(cL (UC (er4)) R (sQ R (BD R iL) (aZ (c14 _ (cI R h11 (fun h12=>?_) fun h12=>?_)))))))
  ·exact zI (he1 _ (xH hx1 h12)) R id
  refine Zc (c13 _ (aT fun c16=>(aU (lF Fk GY R R (Zb h12 fun e1 ee1 h13=>(cL (U1 (ee1)) R (mA R (aZ (aU (mM R (xU R (aZ (cI R h13 (fun h14=>?_) fun h14=>?_)))))))))))))
  ·refine aT fun c19=>(aF [11] ?_)
   exact aR (mM R (mA R (aZ (c19 _ (Zi (yI (he1 _ (xH hx1 h14)) R))))))
  refine Zc (c16 _ (aT fun c20=>(aT fun c21=>(aG [0,1,2,3,9,10,13,14] [10] ?_))))
  refine aR (mM R (sQ R (BD R iL) (mM R (vQ R (Cm R Bg iL R R) (Zb h14 fun r5 er5 h15=>vL (fun hg=>Ot (Ae er5 hg)) R (xN R (aZ (c21 _ (cI R h15 (fun h16=>?_) fun h16=>?_)))))))))
  ·exact zI (he1 _ (xH hx1 h16)) R id
  refine Zc (c20 _ (aT fun c23=>?_))
  refine CQ Be (by kernel_rfl) ?_
  refine qP R (Zf R iL) (qP R (BH R iL iL) (qP R (Zf R iL) (qO R (fB R CU iL fR R) (qO R (Zk (a:=rI x4.Row) R AH (iR R) R R) (qO R (Zf R iL) (qO R (Zf R iL) (Zb h16 fun x7 ex7 h17=>qO R (BW R (iR R) iL (Ae ex7)) (Zb h17 fun x8 ex8 h18=>qO R (BB R A2.slice (iR R) (iR R) (fun _=>R) (Ae ex8)) (qO R (Zj R CU (iR R)) (qO R (Bi (d:=.int .i64 x8.Row) R AH (iR R) R) (qO R (Bb R (iR R) (iR R)) (qO R (Zf R (iR R)) (qT R (fB R CU iL fR R) (qT R (Zk (a:=rI x4.Row) R AH (iR R) R R) (qT R (Zf R iL) (qT R (Zf R iL) (qT R (BW R (iR R) iL (fun h=>Ae ex7 (Bool.and_eq_true_iff.1 h).1)) (qT R (BB R A2.slice (iR R) (iR R) (fun _=>R) (fun h=>Ae ex8 (Bool.and_eq_true_iff.1 h).1)) (qT R (Zj R CU (iR R)) (qT R (Bi (d:=.int .i64 x8.Row) R AH (iR R) R) (qT R (BP R (iR R) (iR R)) (qT R (Zf R (iR R)) (qT R (fB R DA iL fR R) (qT R (Zk (a:=rI x4.Col) R AH (iR R) R R) (qT R (Zf R iL) (qT R (Zf R iL) (Zb h18 fun x9 ex9 h19=>qT R (BW R (iR R) iL (Ae ex9)) (Zb h19 fun x10 ex10 h20=>qT R (BB R A2.slice (iR R) (iR R) (fun _=>R) (Ae ex10)) (qT R (Zj R DA (iR R)) (qT R (Bi (d:=.int .i64 x10.Col) R AH (iR R) R) (qT R (DI R (iR R) (iR R)) (qT R (Bm R (iR R) (iR R)) (qO R (Ep R (iR R) (iR R)) (qP R (Bm R iL (iR R)) (AQ.nil (c23 _ (cI R h20 (fun h21=>?_) fun h21=>?_)))))))))))))))))))))))))))))))))))))
  ·exact zI (he1 _ (xH hx1 h21)) R id
  refine Zc (c7 _ (aF [0,1,2,3,13,14] ?_))
  exact aR (Zb h21 fun x11 ex11 h22=>(xA R ex11 (mM R (Zg (Zn h22 (AG [((i3 0)+1)]) wk)))))
 exact Zm (wK2 _ _ wk (J1 _ (AG [(i3 0)]) (xH hx1 h3)))
theorem Ib {r1 a c r} (h:Fe r1 a c=some r):AZ Tryd.prog 16 [.agg (AK r1),rI a,rI c] (rB r):=by
 unfold Fe at h
 exact mF Tryd.func16 Tryd.ntmps16 R fun n0=>aU (sS R (A6 (cs:=(AK r1)) 3 R iL R R) (mA R (aZ (aT fun c2=>(aR (lF Bd AH R R (mM R (Zb h fun x1 ex1 h1=>(sQ R (BW R iL iL (fun _=>ex1)) (Zb h1 fun r2 er2 h2=>(cL (Dc (er2)) R (mM R (vF Bo AH R R (vM R (Zb h2 fun x2 ex2 h3=>(vQ R (BW R (iR R) iL (Ae ex2)) (Zb h3 fun r3 er3 h4=>vL (fun hg=>Dc (Ae er3 hg)) R (xN R (mM R (vF Cf AH R R (vM R (vF Bd AH R R (Zb h4 fun x3 ex3 h5=>(vQ R (BW R (iR R) (iR R) (Ae ex3)) (Zb h5 fun r4 er4 h6=>vL (fun hg=>Dc (Ae er4 hg)) R (xN R (mM R (vF DC AH R R (vM R (vF Bo AH R R (Zb h6 fun x4 ex4 h7=>(vQ R (BW R (iR R) (iR R) (Ae ex4)) (Zb h7 fun r5 er5 h8=>vL (fun hg=>Dc (Ae er5 hg)) R (xN R (mA R (aZ (c2 _ (Zi (yB h8 R)))))))))))))))))))))))))))))))))))))))
theorem NM {a1 b1 r} (h:H3 a1 b1=some r):AZ Tryd.prog 17 [.agg (AK a1),.agg (AK b1)] (rB r):=by
 unfold H3 at h
 refine mF Tryd.func17 Tryd.ntmps17 R fun n0=>aU (sS R (A6 (cs:=(AK a1)) 2 R iL R R) (sS R (A6 (cs:=(AK b1)) 3 R iL R R) (mA R (aZ (aT fun c2=>?_)))))
 refine CQ Be (by kernel_rfl) ?_
 refine qP R (fB R Bd iL fR R) (qP R (Zk (a:=rI a1.Row) R AH iL R R) (qP R (fB R Bd iL fR R) (qP R (Zk (a:=rI b1.Row) R AH iL R R) (qP R (M6 R iL iL) (qP R (fB R Bo iL fR R) (qP R (Zk (a:=rI a1.Col) R AH iL R R) (qP R (fB R Bo iL fR R) (qP R (Zk (a:=rI b1.Col) R AH iL R R) (qP R (M6 R iL iL) (qP R (Dl R iL) (qP R (Dl R iL) (AQ.nil (c2 _ (aT fun c3=>(aG [2,3,5,6] [2,3] ?_)))))))))))))))
 exact aR (mM R (lF Bd AH R R (lF Cf AH R R (Zb h fun x1 ex1 h1=>(xA R ex1 (lF Bd AH R R (lF Cf AH R R (Zb h1 fun x2 ex2 h2=>(xA R ex2 (sQ R (J0 R iL iL) (xS R (mM R (vM R (vF Bo AH R R (vF DC AH R R (Zb h2 fun x3 ex3 h3=>(vQ R (FP R (iR R) (iR R) (Ae ex3)) (vF Bo AH R R (vF DC AH R R (Zb h3 fun x4 ex4 h4=>(vQ R (FP R (iR R) (iR R) (Ae ex4)) (vQ R (J0 R (iR R) (iR R)) (vQ R (Bb R (iR R) (iR R)) (xN R (mA R (aZ (c3 _ (Zi (yB h4 R)))))))))))))))))))))))))))))
theorem Ud {g1 r} (h:Iy g1=some r):AZ Tryd.prog 6 (Nb g1) (rI r):=by
 unfold Iy at h
 refine mF Tryd.func6 Tryd.ntmps6 R fun n0=>aU (sS R (A6 (cs:=(Ab g1)) 1 R iL R R) (mA R (aZ (aT fun c2=>(aU (lF Ct AH R R (Zb h fun r1 er1 h1=>(cL (Dc (er1)) R (sQ R (BD R iL) (mM R (vF DP AH R R (Zb h1 fun r2 er2 h2=>vL (fun hg=>Dc (Ae er2 hg)) R (vQ R (BD R (iR R)) (xO R (aZ (cI R h2 (fun h3=>?_) fun h3=>?_))))))))))))))))
 ·exact zI h3 R id
 refine Zc (c2 _ (aT fun c5=>(aT fun c6=>(aG [1] [1] ?_))))
 refine aR (lF E1 CK R R (lF Ct AH R R (lF DP AH R R (Zb h3 fun e1 ee1 h4=>(cL (OD (ee1)) R (mA R (aZ (c6 _ (aU (mM R (xU R (aZ (cI R h4 (fun h5=>?_) fun h5=>?_)))))))))))))
 ·refine aT fun c8=>(aF [3] ?_)
  exact aR (mM R (mA R (aZ (c8 _ (Zi (yI h5 R))))))
 refine Zc (c5 _ (aS fun K9 c9 wK9=>(aT fun c10=>(aG [1] [1] ?_))))
 refine aR (lF Bz BC R R (xL Ag R (mM R (aZ (c10 _ (Ze (BA h5 fun o1 hit1 hk1 he1=>?_)))))))
 have J1 : ∀ (u2:Unit) (i5:NN),o1 = .nrm u2→K9 ⟨[],[],(i5 0),104⟩:=by
  intro u2 i5 e
  have h6:=hk1 _ e
  exact c9 _ (zI h6 R id)
 refine Zo (fun (x2:Int) i3=>⟨[(1,.ptr 1 n0 0 0),(29,rL g1.Merges),(30,rI x2)],[(1,some (.box n0 25 (Ab g1)))],(i3 0),104⟩) (AG [(n0+1)]) hit1 wk ?_
 intro x2 i3 v1 hv1 hx1
 have h7:Jq g1 x2=some v1:=hv1; unfold Jq at h7
 refine aU (xS R (aZ (aT fun c13=>(cI R h7 (fun h8=>?_) fun h8=>?_))))
 ·refine Zc (c13 _ (aS fun K14 c14 wK14=>(Ze (aU (mM R (mA R (aZ (aU (lF Bz BC R R (mM R (Zb h8 fun x4 ex4 h9=>(xI Ag R ex4 (xB ((AK x4)) Ay R (sS R (Zp (cs:=DB) 5 R Dy R R) (Zl R R (Zh (ds:=(AK x4)) R Dp iL R iL R R R R) (aZ (aT fun c17=>(aU (xC Ay R (lF Ct AH R R (lF DP AH R R (Zb h9 fun r3 er3 h10=>(cL (Ib (er3)) R (sQ R (BD R iL) (aZ (cI R h10 (fun h11=>?_) fun h11=>?_))))))))))))))))))))))))))
  ·exact zI (he1 _ (xH hx1 h11)) R id
  refine Zc (c17 _ (aT fun c20=>(aT fun c21=>(aG [1,4,5,29,30] [1,5] ?_))))
  refine aR (lF Cf AH R R (xQ R (mM R (vF DC AH R R (vQ R (BP R (iR R) iL) (xN R (aZ (c21 _ (cI R h11 (fun h12=>?_) fun h12=>?_)))))))))
  ·exact zI (he1 _ (xH hx1 h12)) R id
  refine Zc (c20 _ (aT fun c23=>(aT fun c24=>?_)))
  refine CQ Be (by kernel_rfl) ?_
  refine qP R (Zf R iL) (qP R (BH R iL iL) (qP R (Zf R iL) (qO R (fB R Bd iL fR R) (qO R (Zk (a:=rI x4.Row) R AH (iR R) R R) (qO R (fB R Bz iL fR R) (qO R (Zk (a:=qa g1.Merges) R BC (iR R) R R) (qO R (Zf R iL) (Zb h12 fun x5 ex5 h13=>qO R (BW R (iR R) iL (Ae ex5)) (Zb h13 fun x6 ex6 h14=>qO R (BB R Ag.slice (iR R) (iR R) (fun _=>R) (Ae ex6)) (qO R (Zj R Bd (iR R)) (qO R (Bi (d:=.int .i64 x6.Row) R AH (iR R) R) (qO R (Bb R (iR R) (iR R)) (qO R (Zf R (iR R)) (qT R (fB R Bd iL fR R) (qT R (Zk (a:=rI x4.Row) R AH (iR R) R R) (qT R (fB R Bz iL fR R) (qT R (Zk (a:=qa g1.Merges) R BC (iR R) R R) (qT R (Zf R iL) (qT R (BW R (iR R) iL (fun h=>Ae ex5 (Bool.and_eq_true_iff.1 h).1)) (qT R (BB R Ag.slice (iR R) (iR R) (fun _=>R) (fun h=>Ae ex6 (Bool.and_eq_true_iff.1 h).1)) (qT R (Zj R Bd (iR R)) (qT R (Bi (d:=.int .i64 x6.Row) R AH (iR R) R) (qT R (BP R (iR R) (iR R)) (qT R (Zf R (iR R)) (qT R (fB R Bo iL fR R) (qT R (Zk (a:=rI x4.Col) R AH (iR R) R R) (qT R (fB R Bz iL fR R) (qT R (Zk (a:=qa g1.Merges) R BC (iR R) R R) (qT R (Zf R iL) (Zb h14 fun x7 ex7 h15=>qT R (BW R (iR R) iL (Ae ex7)) (Zb h15 fun x8 ex8 h16=>qT R (BB R Ag.slice (iR R) (iR R) (fun _=>R) (Ae ex8)) (qT R (Zj R Bo (iR R)) (qT R (Bi (d:=.int .i64 x8.Col) R AH (iR R) R) (qT R (DI R (iR R) (iR R)) (qT R (Bm R (iR R) (iR R)) (qO R (Ep R (iR R) (iR R)) (qP R (Bm R iL (iR R)) (AQ.nil (c24 _ (cI R h16 (fun h17=>?_) fun h17=>?_))))))))))))))))))))))))))))))))))))))))
  ·exact zI (he1 _ (xH hx1 h17)) R id
  refine Zc (c23 _ (aT fun c26=>(aG [1,4,5,29,30] [1,5] ?_)))
  refine aR (mM R (mM R (aZ (c26 _ (Ze (BA h17 fun o2 hit2 hk2 he2=>?_))))))
  have J2 : ∀ (u4:Unit) (i10:NN),o2 = .nrm u4→K14 ⟨[(1,.ptr 1 n0 0 0),(29,rL g1.Merges),(30,rI x2)],[(1,some (.box n0 25 (Ab g1)))],(i10 0),104⟩:=by
   intro u4 i10 e
   have h18:=hk2 _ e
   exact c14 _ (aR (Zb h18 fun x12 ex12 h19=>(xA R ex12 (mM R (Zg (Zn h19 (AG [(i10 0)]) wk))))))
  refine Zo (fun (x10:Int) i8=>⟨[(1,.ptr 1 n0 0 0),(5,.ptr 5 (i3 0) 0 0),(29,rL g1.Merges),(30,rI x2),(91,rI x2),(92,rI x10)],[(1,some (.box n0 25 (Ab g1))),(5,some (.box (i3 0) 49 (AK x4)))],(i8 0),104⟩) (AG [((i3 0)+1)]) hit2 wk ?_
  intro x10 i8 v2 hv2 hx2
  have h20:JQ g1 x2 x4 x10=some v2:=hv2; unfold JQ at h20
  refine aU (xS R (aZ (aT fun c28=>(cI R h20 (fun h21=>?_) fun h21=>?_))))
  ·refine Zc (c28 _ (aT fun c29=>(Ze (aU (mM R (mA R (aZ (aT fun c31=>?_))))))))
   refine CQ Be (by kernel_rfl) ?_
   refine qP R (Cm R Ay iL R R) (qP R (fB R Bz iL fR R) (qP R (Zk (a:=qa g1.Merges) R BC iL R R) (qP R (Zf R iL) (Zb h21 fun x13 ex13 h22=>(qP R (BB R Ag.slice iL iL (fun _=>R) (fun _=>ex13)) (qP R (DG (cs:=(AK x13)) R Ay iL R R) (Zb h22 fun r4 er4 h23=>NE R R R (r:=rB r4) (caps:=[]) (bs:=[.agg (AK x4),.agg (AK x13)]) R iL R ⟨⟨_,iL,.g (cs:=[.int .i64 x4.Row,.int .i64 x4.Col,.int .i64 x4.H,.int .i64 x4.W]) R R⟩,⟨_,iL,.g (cs:=[.int .i64 x13.Row,.int .i64 x13.Col,.int .i64 x13.H,.int .i64 x13.W]) R R⟩,Zd⟩ (fun _=>NM (er4)) R (AQ.nil (c31 _ (cI R h23 (fun h24=>?_) fun h24=>?_))))))))))
   ·refine aT fun c32=>(aF [] ?_)
    exact aR (mA R (aZ (c32 _ (Zi (yI (he1 _ (hx1 _ (Za (he2 _ (xH hx2 h24))).symm)) R)))))
   refine Zc (c29 _ (aG [1,5,29,30,91,92] [1,5] ?_))
   exact aR (Zb h24 fun x14 ex14 h25=>(xA R ex14 (mM R (Zg (Zn h25 (AG [(i8 0)]) wk)))))
  exact Zm (wK14 _ _ wk (J2 _ (AG [(i8 0)]) (xH hx2 h21)))
 exact Zm (wK9 _ _ wk (J1 _ (AG [(i3 0)]) (xH hx1 h8)))
theorem N0 {a1 r} (h:H1 a1=some r):AZ Tryd.prog 18 [qb a1] (rI r):=by
 unfold H1 at h
 refine mF Tryd.func18 Tryd.ntmps18 R fun n0=>aU (mA R (aZ (aU (mA R (mA R (aZ (aS fun K3 c3 wK3=>(aU (mM R (xL A9 R (mM R (aZ (Ze (IY h fun o1 hit1 hk1 he1=>?_))))))))))))))
 have J1 : ∀ (old4:Int) (now4:Int) (i5:NN),o1 = .nrm (old4,now4)→K3 ⟨[(3,rI old4),(4,rI now4)],[],(i5 0),99⟩:=by
  intro old4 now4 i5 e
  have h1:=hk1 _ _ e
  refine c3 _ (aT fun c5=>(aU (mM R (sQ R (BH R iL iL) (mM R (vM R (vQ R (BH R (iR R) iL) (xO R (aZ (cI R h1 (fun h2=>?_) fun h2=>?_))))))))))
  ·exact zI h2 R id
  exact Zc (c5 _ (zI h2 R id))
 refine GR (fun (old2:Int) (now2:Int) (x2:Int) i3=>⟨[(0,qb a1),(3,rI old2),(4,rI now2),(7,rL a1),(8,rI x2)],[],(i3 0),99⟩) (AG [n0]) hit1 wk ?_
 intro old2 now2 x2 i3 v1 hv1 hx1
 have h3:HM a1 old2 now2 x2=some v1:=hv1; unfold HM at h3
 refine aU (xS R (aZ (aT fun c10=>(cI R h3 (fun h4=>?_) fun h4=>?_))))
 ·refine Zc (c10 _ (aS fun K11 c11 wK11=>(Ze (IY h4 fun p1 hp1 hk2 he2=>?_))))
  have J2 : ∀ (old5:Int) (now5:Int) (i6:NN),p1 = .nrm (old5,now5)→K11 ⟨[(0,qb a1),(3,rI old5),(4,rI now5),(7,rL a1),(8,rI x2)],[],(i6 0),99⟩:=by
   intro old5 now5 i6 e
   have h5:=hk2 _ _ e
   exact c11 _ (aR (Zb h5 fun x4 ex4 h6=>(xA R ex4 (mM R (Zg (Eb.mk h6 (AG [(i6 0)]) wk))))))
  refine aU (mM R (mA R (aZ (aT fun c13=>(aU (mM R (mM R (Zb hp1 fun x5 ex5 h7=>(xI A9 R ex5 (sQ R (Zj R Bv iL) (xV (.int .i64 x5.Kind) AH R (Zb h7 fun r1 er1 h8=>(cL (Dc (er1)) R (sQ R (BD R iL) (aZ (cI R h8 (fun h9=>?_) fun h9=>?_))))))))))))))))
  ·refine aT fun c15=>(aF [] ?_)
   exact aR (mA R (aZ (c15 _ (Zi (yI (he1 _ (hx1 _ (Za (he2 _ (Za h9).symm)).symm)) R)))))
  refine Zc (c13 _ (aT fun c16=>(aT fun c17=>(aF [0,3,4,5,7,8] ?_))))
  refine aR (mM R (mM R (xI A9 R ex5 (sQ R (Zj R CE iL) (xV (.int .i64 x5.N) AH R (Zb h9 fun r2 er2 h10=>(cL (Dc (er2)) R (sQ R (BD R iL) (aZ (c17 _ (cI R h10 (fun h11=>?_) fun h11=>?_)))))))))))
  ·refine aT fun c18=>(aF [] ?_)
   exact aR (mA R (aZ (c18 _ (Zi (yI (he1 _ (hx1 _ (Za (he2 _ (Za h11).symm)).symm)) R)))))
  refine Zc (c16 _ (aT fun c19=>(aT fun c20=>?_)))
  refine CQ Be (by kernel_rfl) ?_
  refine qP R (Zf R iL) (qP R (BH R iL iL) (qP R (Zf R iL) (qO R (Zf R iL) (qO R (Zf R iL) (qO R (BB R A9.slice (iR R) (iR R) (fun _=>R) (fun _=>ex5)) (qO R (Zj R Bv (iR R)) (qO R (Bi (d:=.int .i64 x5.Kind) R AH (iR R) R) (qO R (Zf R iL) (qO R (Zf R iL) (Zb h11 fun x6 ex6 h12=>qO R (BW R (iR R) iL (Ae ex6)) (Zb h12 fun x7 ex7 h13=>qO R (BB R A9.slice (iR R) (iR R) (fun _=>R) (Ae ex7)) (qO R (Zj R Bv (iR R)) (qO R (Bi (d:=.int .i64 x7.Kind) R AH (iR R) R) (qO R (BP R (iR R) (iR R)) (qO R (Zf R (iR R)) (qT R (Zf R iL) (qT R (Zf R iL) (qT R (BB R A9.slice (iR R) (iR R) (fun _=>R) (fun _=>ex5)) (qT R (Zj R Bv (iR R)) (qT R (Bi (d:=.int .i64 x5.Kind) R AH (iR R) R) (qT R (BP R (iR R) iL) (qT R (Zf R (iR R)) (qT R (Zf R iL) (qT R (Zf R iL) (Zb h13 fun x8 ex8 h14=>qT R (BW R (iR R) iL (Ae ex8)) (Zb h14 fun x9 ex9 h15=>qT R (BB R A9.slice (iR R) (iR R) (fun _=>R) (Ae ex9)) (qT R (Zj R Bv (iR R)) (qT R (Bi (d:=.int .i64 x9.Kind) R AH (iR R) R) (qT R (BP R (iR R) iL) (qT R (Bm R (iR R) (iR R)) (qO R (Ep R (iR R) (iR R)) (qP R (Bm R iL (iR R)) (AQ.nil (c20 _ (cI R h15 (fun h16=>?_) fun h16=>?_)))))))))))))))))))))))))))))))))))
  ·refine aT fun c21=>(aF [] ?_)
   exact aR (mA R (aZ (c21 _ (Zi (yI (he1 _ (hx1 _ (Za (he2 _ (Za h16).symm)).symm)) R)))))
  refine Zc (c19 _ (aS fun K22 c22 wK22=>(aT fun c23=>(aF [0,3,4,5,7,8] ?_))))
  refine aR (mM R (mM R (xI A9 R ex5 (sQ R (Zj R Bv iL) (xV (.int .i64 x5.Kind) AH R (xU R (mM R (vM R (vQ R (Bb R (iR R) iL) (xN R (aZ (c23 _ (BL h16 fun p2 hp2 hk3=>?_)))))))))))))
  have J3 : ∀ (old6:Int) (i7:NN),p2=old6→K22 ⟨[(0,qb a1),(3,rI old6),(4,rI now2),(5,rI x2),(7,rL a1),(8,rI x2)],[],(i7 0),99⟩:=by
   intro old6 i7 e
   have h17:=hk3 _ e
   refine c22 _ (aU (mM R (mM R (xI A9 R ex5 (sQ R (Zj R Bv iL) (xV (.int .i64 x5.Kind) AH R (xU R (mM R (vM R (vQ R (Bb R (iR R) iL) (xN R (aZ (cI R h17 (fun h18=>?_) fun h18=>?_)))))))))))))
   ·exact aR (mM R (mM R (mM R (xI A9 R ex5 (sQ R (Zj R CE iL) (xV (.int .i64 x5.N) AH R (Zb h18 fun now6 enow6 h19=>(xA R enow6 (mA R (Zg (wK11 _ _ wk (J2 _ _ (AG [(i7 0)]) (Za h19).symm))))))))))))
   exact Zc (wK11 _ _ wk (J2 _ _ (AG [(i7 0)]) (Za h18).symm))
  refine aC R (fun hc7=>?_) (fun hc7=>?_)
  ·have h20:=B4 hc7 hp2
   exact aR (mM R (mM R (mM R (xI A9 R ex5 (sQ R (Zj R CE iL) (xV (.int .i64 x5.N) AH R (Zb h20 fun old7 eold7 h21=>(xA R eold7 (mA R (Zg (wK22 _ _ wk (J3 _ (AG [(i3 0)]) (Za h21).symm))))))))))))
  ·have h20:=B5 hc7 hp2
   exact Zc (wK22 _ _ wk (J3 _ (AG [(i3 0)]) (Za h20).symm))
 exact Zm (wK3 _ _ wk (J1 _ _ (AG [(i3 0)]) (xH hx1 h4)))
theorem T4 {e1 r} (h:JV e1=some r):AZ Tryd.prog 7 (PY e1) (rI r):=by
 unfold JV at h
 refine mF Tryd.func7 Tryd.ntmps7 R fun n0=>aU (sS R (A6 (cs:=(Ad e1)) 1 R iL R R) (mA R (aZ (aT fun c2=>(aU (lF Eh CJ R R (Zb h fun f1 ef1 h1=>(cL (N0 (ef1)) R (mA R (aZ (aU (mM R (xU R (aZ (cI R h1 (fun h2=>?_) fun h2=>?_)))))))))))))))
 ·exact aU (mM R (mA R (aZ (Zi (yI h2 R)))))
 refine Zc (c2 _ (aT fun c6=>(aU (lF Et CJ R R (Zb h2 fun f2 ef2 h3=>(cL (N0 (ef2)) R (mA R (aZ (aT fun c8=>(aG [1,4] [1] ?_))))))))))
 refine aR (mM R (xU R (aZ (c8 _ (cI R h3 (fun h4=>?_) fun h4=>?_)))))
 ·exact aU (mM R (mA R (aZ (Zi (yI h4 R)))))
 refine Zc (c6 _ (aT fun c10=>(aU (lF EM CK R R (Zb h4 fun f3 ef3 h5=>(cL (OD (ef3)) R (mA R (aZ (aU (mM R (xU R (aZ (cI R h5 (fun h6=>?_) fun h6=>?_)))))))))))))
 ·refine aT fun c13=>(aF [5] ?_)
  exact aR (mM R (mA R (aZ (c13 _ (Zi (yI h6 R))))))
 refine Zc (c10 _ (aS fun K14 c14 wK14=>(aT fun c15=>(aG [1] [1] ?_))))
 refine aR (lF FG BC R R (xL Ag R (mM R (aZ (c15 _ (Ze (BA h6 fun o1 hit1 hk1 he1=>?_)))))))
 have J1 : ∀ (u2:Unit) (i5:NN),o1 = .nrm u2→K14 ⟨[(1,.ptr 1 n0 0 0)],[(1,some (.box n0 28 (Ad e1)))],(i5 0),70⟩:=by
  intro u2 i5 e
  have h7:=hk1 _ e
  refine c14 _ (aS fun K16 c16 wK16=>(aU (lF Dx BC R R (xL Ag R (mM R (aZ (Ze (BA h7 fun o2 hit2 hk2 he2=>?_))))))))
  have J2 : ∀ (u4:Unit) (i10:NN),o2 = .nrm u4→K16 ⟨[],[],(i10 0),70⟩:=by
   intro u4 i10 e
   have h8:=hk2 _ e
   exact c16 _ (zI h8 R id)
  refine Zo (fun (x5:Int) i8=>⟨[(1,.ptr 1 n0 0 0),(42,rL e1.Merge),(43,rI x5)],[(1,some (.box n0 28 (Ad e1)))],(i8 0),70⟩) (AG [(i5 0)]) hit2 wk ?_
  intro x5 i8 v1 hv1 hx2
  have h9:GI e1 x5=some v1:=hv1; unfold GI at h9
  refine aU (xS R (aZ (aT fun c20=>(cI R h9 (fun h10=>?_) fun h10=>?_))))
  ·refine Zc (c20 _ (aT fun c21=>(Ze (aU (mM R (mA R (aZ (aT fun c23=>(aU (lF Dx BC R R (mM R (Zb h10 fun x7 ex7 h11=>(xI Ag R ex7 (xB ((AK x7)) Ay R (Zb h11 fun r1 er1 h12=>(cL (Ib (er1)) R (sQ R (BD R iL) (aZ (cI R h12 (fun h13=>?_) fun h13=>?_)))))))))))))))))))
   ·exact zI (he2 _ (xH hx2 h13)) R id
   refine Zc (c23 _ (aT fun c26=>(aG [1,7,42,43] [1] ?_)))
   refine aR (lF Dx BC R R (mM R (xI Ag R ex7 (sQ R (Zj R Cf iL) (xV (.int .i64 x7.H) AH R (xQ R (mM R (vF Dx BC R R (vM R (vQ R (BB R Ag.slice (iR R) (iR R) (fun _=>R) (fun _=>ex7)) (vQ R (Zj R DC (iR R)) (vQ R (Bi (d:=.int .i64 x7.W) R AH (iR R) R) (vQ R (BP R (iR R) iL) (xN R (aZ (c26 _ (cI R h13 (fun h14=>?_) fun h14=>?_)))))))))))))))))
   ·exact zI (he2 _ (xH hx2 h14)) R id
   refine Zc (c21 _ (aG [1,42,43] [1] ?_))
   exact aR (Zb h14 fun x8 ex8 h15=>(xA R ex8 (mM R (Zg (Zn h15 (AG [(i8 0)]) wk)))))
  exact Zm (wK16 _ _ wk (J2 _ (AG [(i8 0)]) (xH hx2 h10)))
 refine Zo (fun (x2:Int) i3=>⟨[(1,.ptr 1 n0 0 0),(28,rL e1.Split),(29,rI x2)],[(1,some (.box n0 28 (Ad e1)))],(i3 0),70⟩) (AG [(n0+1)]) hit1 wk ?_
 intro x2 i3 v2 hv2 hx1
 have h16:GA e1 x2=some v2:=hv2; unfold GA at h16
 refine aU (xS R (aZ (aT fun c29=>(cI R h16 (fun h17=>?_) fun h17=>?_))))
 ·refine Zc (c29 _ (aT fun c30=>(Ze (aU (mM R (mA R (aZ (aU (lF FG BC R R (mM R (Zb h17 fun x9 ex9 h18=>(xI Ag R ex9 (xB ((AK x9)) Ay R (Zb h18 fun r2 er2 h19=>(cL (Ib (er2)) R (sQ R (BD R iL) (aZ (cI R h19 (fun h20=>?_) fun h20=>?_))))))))))))))))))
  ·exact zI (he1 _ (xH hx1 h20)) R id
  refine Zc (c30 _ (aG [1,28,29] [1] ?_))
  exact aR (Zb h20 fun x10 ex10 h21=>(xA R ex10 (mM R (Zg (Zn h21 (AG [(i3 0)]) wk)))))
 exact Zm (wK14 _ _ wk (J1 _ (AG [(i3 0)]) (xH hx1 h17)))
theorem Ox {a1 r} (h:Gi a1=some r):AZ Tryd.prog 19 [qb a1] (.tup [rI r.1,rI r.2]):=by
 unfold Gi at h
 refine mF Tryd.func19 Tryd.ntmps19 R fun n0=>aU (mA R (mA R (aZ (aU (mA R (mA R (aZ (aS fun K3 c3 wK3=>(aU (mM R (xL A9 R (mM R (aZ (Ze (DU h fun o1 hit1 hk1=>?_)))))))))))))))
 have J1 : ∀ (old4:Int) (now4:Int) (i5:NN),o1=(old4,now4)→K3 ⟨[(4,rI old4),(5,rI now4)],[],(i5 0),41⟩:=by
  intro old4 now4 i5 e
  have h1:=hk1 _ _ e
  exact c3 _ (aU (mM R (mM R (mA R (mA R (aZ (Zi (Br (P:=Tryd.prog) (fun (r:Int × Int)=>rI r.1) (fun (r:Int × Int)=>rI r.2) h1 iL (.t (.d R)) (.t (.d R))))))))))
 refine GR (fun (old2:Int) (now2:Int) (x2:Int) i3=>⟨[(0,qb a1),(4,rI old2),(5,rI now2),(8,rL a1),(9,rI x2)],[],(i3 0),41⟩) (AG [n0]) hit1 wk ?_
 intro old2 now2 x2 i3 v1 hv1 hx1
 have h2:Hk a1 old2 now2 x2=some v1:=hv1; unfold Hk at h2
 refine aU (xS R (aZ (aT fun c7=>(cI R h2 (fun h3=>?_) fun h3=>?_))))
 ·refine Zc (c7 _ (aS fun K8 c8 wK8=>(Ze (DU h3 fun p1 hp1 hk2=>?_))))
  have J2 : ∀ (old5:Int) (now5:Int) (i6:NN),p1=(old5,now5)→K8 ⟨[(0,qb a1),(4,rI old5),(5,rI now5),(8,rL a1),(9,rI x2)],[],(i6 0),41⟩:=by
   intro old5 now5 i6 e
   have h4:=hk2 _ _ e
   exact c8 _ (aR (Zb h4 fun x4 ex4 h5=>(xA R ex4 (mM R (Zg (Eb.mk h5 (AG [(i6 0)]) wk))))))
  refine aU (mM R (mA R (aZ (aS fun K10 c10 wK10=>(aU (mM R (mM R (Zb hp1 fun x5 ex5 h6=>(xI A9 R ex5 (sQ R (Zj R Bv iL) (xV (.int .i64 x5.Kind) AH R (xU R (aZ (BL h6 fun p2 hp2 hk3=>?_))))))))))))))
  have J3 : ∀ (old6:Int) (i7:NN),p2=old6→K10 ⟨[(0,qb a1),(4,rI old6),(5,rI now2),(6,rI x2),(8,rL a1),(9,rI x2)],[],(i7 0),41⟩:=by
   intro old6 i7 e
   have h7:=hk3 _ e
   refine c10 _ (aU (mM R (mM R (xI A9 R ex5 (sQ R (Zj R Bv iL) (xV (.int .i64 x5.Kind) AH R (xU R (aZ (cI R h7 (fun h8=>?_) fun h8=>?_)))))))))
   ·exact aR (mM R (mM R (mM R (xI A9 R ex5 (sQ R (Zj R CE iL) (xV (.int .i64 x5.N) AH R (Zb h8 fun now6 enow6 h9=>(xA R enow6 (mA R (Zg (wK8 _ _ wk (J2 _ _ (AG [(i7 0)]) (Za h9).symm))))))))))))
   exact Zc (wK8 _ _ wk (J2 _ _ (AG [(i7 0)]) (Za h8).symm))
  refine aC R (fun hc3=>?_) (fun hc3=>?_)
  ·have h10:=B4 hc3 hp2
   exact aR (mM R (mM R (mM R (xI A9 R ex5 (sQ R (Zj R CE iL) (xV (.int .i64 x5.N) AH R (Zb h10 fun old7 eold7 h11=>(xA R eold7 (mA R (Zg (wK10 _ _ wk (J3 _ (AG [(i3 0)]) (Za h11).symm))))))))))))
  ·have h10:=B5 hc3 hp2
   exact Zc (wK10 _ _ wk (J3 _ (AG [(i3 0)]) (Za h10).symm))
 exact Zm (wK3 _ _ wk (J1 _ _ (AG [(i3 0)]) (xH hx1 h3)))
theorem Tq {g1 e1 r} (h:Jd g1 e1=some r):AZ Tryd.prog 8 [.agg (Ab g1),.agg (Ad e1)] (rI r):=by
 unfold Jd at h
 refine mF Tryd.func8 Tryd.ntmps8 R fun n0=>aU (sS R (A6 (cs:=(Ab g1)) 2 R iL R R) (sS R (A6 (cs:=(Ad e1)) 3 R iL R R) (mA R (aZ (aT fun c2=>?_)))))
 refine CQ Be (by kernel_rfl) ?_
 refine qP R (fB R Ct iL fR R) (qP R (Zk (a:=rI g1.Rows) R AH iL R R) (qP R (fB R DP iL fR R) (qP R (Zk (a:=rI g1.Cols) R AH iL R R) (qP R (Dl R iL) (qP R (Dl R iL) (AQ.nil (c2 _ (aS fun K3 c3 wK3=>(aU (lF Eh CJ R R (xL A9 R (sQ R (BH R iL iL) (aZ (BA h fun p1 hp1 hk1 he1=>?_))))))))))))))
 have J1 : ∀ (rows1:Int) (i1:NN),p1 = .nrm rows1→K3 ⟨[(3,.ptr 3 (n0+1) 0 0),(5,rI rows1),(6,rI g1.Cols)],[(3,some (.box (n0+1) 28 (Ad e1)))],(i1 0),103⟩:=by
  intro rows1 i1 e
  have h1:=hk1 _ e
  refine c3 _ (aS fun K5 c5 wK5=>(aU (lF Et CJ R R (xL A9 R (sQ R (BH R iL iL) (aZ (BA h1 fun p2 hp2 hk2 he2=>?_)))))))
  have J2 : ∀ (cols1:Int) (i2:NN),p2 = .nrm cols1→K5 ⟨[(3,.ptr 3 (n0+1) 0 0),(5,rI rows1),(6,rI cols1)],[(3,some (.box (n0+1) 28 (Ad e1)))],(i2 0),103⟩:=by
   intro cols1 i2 e
   have h2:=hk2 _ e
   refine c5 _ (aS fun K7 c7 wK7=>(aU (lF EM CK R R (xL A2 R (mM R (aZ (Ze (BA h2 fun o1 hit1 hk3 he3=>?_))))))))
   have J3 : ∀ (u2:Unit) (i7:NN),o1 = .nrm u2→K7 ⟨[(3,.ptr 3 (n0+1) 0 0),(5,rI rows1),(6,rI cols1)],[(3,some (.box (n0+1) 28 (Ad e1)))],(i7 0),103⟩:=by
    intro u2 i7 e
    have h3:=hk3 _ e
    refine c7 _ (aS fun K9 c9 wK9=>(aU (lF FG BC R R (xL Ag R (mM R (aZ (Ze (BA h3 fun o2 hit2 hk4 he4=>?_))))))))
    have J4 : ∀ (u4:Unit) (i12:NN),o2 = .nrm u4→K9 ⟨[(3,.ptr 3 (n0+1) 0 0),(5,rI rows1),(6,rI cols1)],[(3,some (.box (n0+1) 28 (Ad e1)))],(i12 0),103⟩:=by
     intro u4 i12 e
     have h4:=hk4 _ e
     refine c9 _ (aS fun K11 c11 wK11=>(aU (lF Dx BC R R (xL Ag R (mM R (aZ (Ze (BA h4 fun o3 hit3 hk5 he5=>?_))))))))
     have J5 : ∀ (u6:Unit) (i17:NN),o3 = .nrm u6→K11 ⟨[],[],(i17 0),103⟩:=by
      intro u6 i17 e
      have h5:=hk5 _ e
      exact c11 _ (zI h5 R id)
     refine Zo (fun (x8:Int) i15=>⟨[(3,.ptr 3 (n0+1) 0 0),(5,rI rows1),(6,rI cols1),(89,rL e1.Merge),(90,rI x8)],[(3,some (.box (n0+1) 28 (Ad e1)))],(i15 0),103⟩) (AG [(i12 0)]) hit3 wk ?_
     intro x8 i15 v1 hv1 hx3
     have h6:Ht e1 rows1 cols1 x8=some v1:=hv1; unfold Ht at h6
     refine aU (xS R (aZ (aT fun c15=>(cI R h6 (fun h7=>?_) fun h7=>?_))))
     ·refine Zc (c15 _ (aT fun c16=>(Ze (aU (mM R (mA R (aZ (aU (lF Dx BC R R (mM R (Zb h7 fun x10 ex10 h8=>(xI Ag R ex10 (xB ((AK x10)) Ay R (mM R (mM R (Zb h8 fun r1 er1 h9=>(cL (Ib (er1)) R (sQ R (BD R iL) (aZ (cI R h9 (fun h10=>?_) fun h10=>?_))))))))))))))))))))
      ·exact zI (he5 _ (xH hx3 h10)) R id
      refine Zc (c16 _ (aG [3,5,6,89,90] [3] ?_))
      exact aR (Zb h10 fun x11 ex11 h11=>(xA R ex11 (mM R (Zg (Zn h11 (AG [(i15 0)]) wk)))))
     exact Zm (wK11 _ _ wk (J5 _ (AG [(i15 0)]) (xH hx3 h7)))
    refine Zo (fun (x5:Int) i10=>⟨[(3,.ptr 3 (n0+1) 0 0),(5,rI rows1),(6,rI cols1),(73,rL e1.Split),(74,rI x5)],[(3,some (.box (n0+1) 28 (Ad e1)))],(i10 0),103⟩) (AG [(i7 0)]) hit2 wk ?_
    intro x5 i10 v2 hv2 hx2
    have h12:HO e1 rows1 cols1 x5=some v2:=hv2; unfold HO at h12
    refine aU (xS R (aZ (aT fun c21=>(cI R h12 (fun h13=>?_) fun h13=>?_))))
    ·refine Zc (c21 _ (aT fun c22=>(Ze (aU (mM R (mA R (aZ (aU (lF FG BC R R (mM R (Zb h13 fun x12 ex12 h14=>(xI Ag R ex12 (xB ((AK x12)) Ay R (mM R (mM R (Zb h14 fun r2 er2 h15=>(cL (Ib (er2)) R (sQ R (BD R iL) (aZ (cI R h15 (fun h16=>?_) fun h16=>?_))))))))))))))))))))
     ·exact zI (he4 _ (xH hx2 h16)) R id
     refine Zc (c22 _ (aG [3,5,6,73,74] [3] ?_))
     exact aR (Zb h16 fun x13 ex13 h17=>(xA R ex13 (mM R (Zg (Zn h17 (AG [(i10 0)]) wk)))))
    exact Zm (wK9 _ _ wk (J4 _ (AG [(i10 0)]) (xH hx2 h13)))
   refine Zo (fun (x2:Int) i5=>⟨[(3,.ptr 3 (n0+1) 0 0),(5,rI rows1),(6,rI cols1),(48,rL e1.Cells),(49,rI x2)],[(3,some (.box (n0+1) 28 (Ad e1)))],(i5 0),103⟩) (AG [(i2 0)]) hit1 wk ?_
   intro x2 i5 v3 hv3 hx1
   have h18:Hv e1 rows1 cols1 x2=some v3:=hv3; unfold Hv at h18
   refine aU (xS R (aZ (aT fun c27=>(cI R h18 (fun h19=>?_) fun h19=>?_))))
   ·refine Zc (c27 _ (aT fun c28=>(Ze (aU (mM R (mA R (aZ (aU (lF EM CK R R (mM R (Zb h19 fun x14 ex14 h20=>(xI A2 R ex14 (sQ R (Zj R CU iL) (xV (.int .i64 x14.Row) AH R (mM R (sQ R (Bp R iL iL) (mM R (vF EM CK R R (vM R (vQ R (BB R A2.slice (iR R) (iR R) (fun _=>R) (fun _=>ex14)) (vQ R (Zj R DA (iR R)) (vQ R (Bi (d:=.int .i64 x14.Col) R AH (iR R) R) (vM R (vQ R (Bp R (iR R) (iR R)) (xO R (aZ (cI R h20 (fun h21=>?_) fun h21=>?_)))))))))))))))))))))))))))
    ·exact zI (he3 _ (xH hx1 h21)) R id
    refine Zc (c28 _ (aG [3,5,6,48,49] [3] ?_))
    exact aR (Zb h21 fun x15 ex15 h22=>(xA R ex15 (mM R (Zg (Zn h22 (AG [(i5 0)]) wk)))))
   exact Zm (wK7 _ _ wk (J3 _ (AG [(i5 0)]) (xH hx1 h19)))
  refine aC R (fun hc7=>?_) (fun hc7=>?_)
  ·have h23:=B4 hc7 hp2
   refine aU (lF Et CJ R R (B7 h23 fun r3 r4 er3 h24=>(cL (Ox (er3)) R (mM R (xX R (xX R (mA R (mA R (aZ (aT fun c33=>(aT fun c34=>(aG [3,5,6,9,10] [3] ?_))))))))))))
   refine aR (mM R (mM R (xU R (aZ (c34 _ (cI R h24 (fun h25=>?_) fun h25=>?_))))))
   ·exact zI (he2 _ (Za h25).symm) R id
   exact Zc (c33 _ (aR (mM R (mA R (Zg (wK5 _ _ wk (J2 _ (AG [(i1 0)]) (Za h25).symm)))))))
  ·have h23:=B5 hc7 hp2
   exact Zc (wK5 _ _ wk (J2 _ (AG [(i1 0)]) (Za h23).symm))
 refine aC R (fun hc9=>?_) (fun hc9=>?_)
 ·have h26:=B4 hc9 hp1
  refine aT fun c36=>(aG [3,5,6] [3] ?_)
  refine aR (lF Eh CJ R R (B7 h26 fun r5 r6 er5 h27=>(cL (Ox (er5)) R (mM R (xX R (xX R (mA R (mA R (aZ (c36 _ (aT fun c37=>(aU (mM R (mM R (xU R (aZ (cI R h27 (fun h28=>?_) fun h28=>?_)))))))))))))))))
  ·exact zI (he1 _ (Za h28).symm) R id
  refine Zc (c37 _ (aG [3,6,8] [3] ?_))
  exact aR (mM R (mA R (Zg (wK3 _ _ wk (J1 _ (AG [(n0+2)]) (Za h28).symm)))))
 ·have h26:=B5 hc9 hp1
  exact Zc (wK3 _ _ wk (J1 _ (AG [(n0+2)]) (Za h26).symm))
theorem UX {a1 b1 r} (h:Iz a1 b1=some r):AZ Tryd.prog 68 [qd a1,qd b1] (rB r):=by
 unfold Iz at h
 refine mF Tryd.func68 Tryd.ntmps68 R fun n0=>aU (mA R (aZ (aT fun c2=>(aU (mM R (xL Cg R (mM R (xL Cg R (xU R (aZ (cI R h (fun h1=>?_) fun h1=>?_)))))))))))
 ·exact zB h1 R id
 refine Zc (c2 _ (aS fun K5 c5 wK5=>(aU (mM R (xL Cg R (mM R (aZ (Ze (BA h1 fun o1 hit1 hk1 he1=>?_)))))))))
 have J1 : ∀ (u2:Unit) (i5:NN),o1 = .nrm u2→K5 ⟨[],[],(i5 0),26⟩:=by
  intro u2 i5 e
  have h2:=hk1 _ e
  exact c5 _ (zB h2 R id)
 refine Zo (fun (x2:Int) i3=>⟨[(0,qd a1),(1,qd b1),(12,rL a1),(13,rI x2)],[],(i3 0),26⟩) (AG [n0]) hit1 wk ?_
 intro x2 i3 v1 hv1 hx1
 have h3:JD a1 b1 x2=some v1:=hv1; unfold JD at h3
 refine aU (xS R (aZ (aT fun c9=>(cI R h3 (fun h4=>?_) fun h4=>?_))))
 ·refine Zc (c9 _ (aT fun c10=>(Ze (aU (mM R (mA R (aZ (aT fun c12=>?_))))))))
  refine CQ Be (by kernel_rfl) ?_
  refine qP R (Zf R iL) (qP R (Zf R iL) (Zb h4 fun x4 ex4 h5=>(qP R (BB R Cg.slice iL iL (fun _=>R) (fun _=>ex4)) (qP R (DG (cs:=(Lc x4)) R Mu iL R R) (qP R (Zf R iL) (qP R (Zf R iL) (Zb h5 fun x5 ex5 h6=>(qP R (BB R Cg.slice iL iL (fun _=>R) (fun _=>ex5)) (qP R (DG (cs:=(Lc x5)) R Mu iL R R) (qP R (Lv R Vd iL iL R) (AQ.nil (c12 _ (cI R h6 (fun h7=>?_) fun h7=>?_)))))))))))))
  ·exact zB (he1 _ (xH hx1 h7)) R id
  refine Zc (c10 _ (aF [0,1,12,13] ?_))
  exact aR (Zb h7 fun x6 ex6 h8=>(xA R ex6 (mM R (Zg (Zn h8 (AG [(i3 0)]) wk)))))
 exact Zm (wK5 _ _ wk (J1 _ (AG [(i3 0)]) (xH hx1 h4)))
theorem Vf {a1 b1 r} (h:KF a1 b1=some r):AZ Tryd.prog 45 [.agg (Ai a1),.agg (Ai b1)] (rB r):=by
 unfold KF at h
 exact mF Tryd.func45 Tryd.ntmps45 R fun n0=>aU (sS R (A6 (cs:=(Ai a1)) 2 R iL R R) (sS R (A6 (cs:=(Ai b1)) 3 R iL R R) (mA R (aZ (aT fun c2=>(aR (lF CU AH R R (lF CU AH R R (xQ R (mM R (vF DA AH R R (vF DA AH R R (vQ R (BP R (iR R) (iR R)) (xN R (mM R (vF IE Cw R R (vF IE Cw R R (vQ R (HX R (iR R) (iR R)) (xN R (mM R (vF Gv AH R R (vF Gv AH R R (vQ R (BP R (iR R) (iR R)) (xN R (mM R (vF Fk GY R R (vF Fk GY R R (Zb h fun r1 er1 h1=>vL (fun hg=>UX (Ae er1 hg)) R (xN R (mA R (aZ (c2 _ (Zi (yB h1 R))))))))))))))))))))))))))))))))))
theorem V6 {a1 b1 r} (h:KG a1 b1=some r):AZ Tryd.prog 20 [qc a1,qc b1] (rB r):=by
 unfold KG at h
 refine mF Tryd.func20 Tryd.ntmps20 R fun n0=>aU (mA R (aZ (aT fun c2=>(aU (mM R (xL A2 R (mM R (xL A2 R (xU R (aZ (cI R h (fun h1=>?_) fun h1=>?_)))))))))))
 ·exact zB h1 R id
 refine Zc (c2 _ (aS fun K5 c5 wK5=>(aU (mM R (xL A2 R (mM R (aZ (Ze (BA h1 fun o1 hit1 hk1 he1=>?_)))))))))
 have J1 : ∀ (u2:Unit) (i5:NN),o1 = .nrm u2→K5 ⟨[],[],(i5 0),27⟩:=by
  intro u2 i5 e
  have h2:=hk1 _ e
  exact c5 _ (zB h2 R id)
 refine Zo (fun (x2:Int) i3=>⟨[(0,qc a1),(1,qc b1),(12,rL a1),(13,rI x2)],[],(i3 0),27⟩) (AG [n0]) hit1 wk ?_
 intro x2 i3 v1 hv1 hx1
 have h3:Ij a1 b1 x2=some v1:=hv1; unfold Ij at h3
 refine aU (xS R (aZ (aT fun c9=>(cI R h3 (fun h4=>?_) fun h4=>?_))))
 ·refine Zc (c9 _ (aT fun c10=>(Ze (aU (mM R (mA R (aZ (aT fun c12=>?_))))))))
  refine CQ Be (by kernel_rfl) ?_
  refine qP R (Zf R iL) (qP R (Zf R iL) (Zb h4 fun x4 ex4 h5=>(qP R (BB R A2.slice iL iL (fun _=>R) (fun _=>ex4)) (qP R (DG (cs:=(Ai x4)) R Bg iL R R) (qP R (Zf R iL) (qP R (Zf R iL) (Zb h5 fun x5 ex5 h6=>(qP R (BB R A2.slice iL iL (fun _=>R) (fun _=>ex5)) (qP R (DG (cs:=(Ai x5)) R Bg iL R R) (Zb h6 fun r1 er1 h7=>NE R R R (r:=rB r1) (caps:=[]) (bs:=[.agg (Ai x4),.agg (Ai x5)]) R iL R ⟨⟨_,iL,.g (cs:=[.int .i64 x4.Row,.int .i64 x4.Col,.str x4.Text,.int .i64 x4.Ref,.sl (x4.Attrs.map Ah.row)]) R R⟩,⟨_,iL,.g (cs:=[.int .i64 x5.Row,.int .i64 x5.Col,.str x5.Text,.int .i64 x5.Ref,.sl (x5.Attrs.map Ah.row)]) R R⟩,Zd⟩ (fun _=>Vf (er1)) R (qP R (BD R iL) (AQ.nil (c12 _ (cI R h7 (fun h8=>?_) fun h8=>?_))))))))))))))
  ·exact zB (he1 _ (xH hx1 h8)) R id
  refine Zc (c10 _ (aF [0,1,12,13] ?_))
  exact aR (Zb h8 fun x6 ex6 h9=>(xA R ex6 (mM R (Zg (Zn h9 (AG [(i3 0)]) wk)))))
 exact Zm (wK5 _ _ wk (J1 _ (AG [(i3 0)]) (xH hx1 h4)))
theorem VF {a1 b1 r} (h:I7 a1 b1=some r):AZ Tryd.prog 21 [qa a1,qa b1] (rB r):=by
 unfold I7 at h
 refine mF Tryd.func21 Tryd.ntmps21 R fun n0=>aU (mA R (aZ (aT fun c2=>(aU (mM R (xL Ag R (mM R (xL Ag R (xU R (aZ (cI R h (fun h1=>?_) fun h1=>?_)))))))))))
 ·exact zB h1 R id
 refine Zc (c2 _ (aS fun K5 c5 wK5=>(aU (mM R (xL Ag R (mM R (aZ (Ze (BA h1 fun o1 hit1 hk1 he1=>?_)))))))))
 have J1 : ∀ (u2:Unit) (i5:NN),o1 = .nrm u2→K5 ⟨[],[],(i5 0),26⟩:=by
  intro u2 i5 e
  have h2:=hk1 _ e
  exact c5 _ (zB h2 R id)
 refine Zo (fun (x2:Int) i3=>⟨[(0,qa a1),(1,qa b1),(12,rL a1),(13,rI x2)],[],(i3 0),26⟩) (AG [n0]) hit1 wk ?_
 intro x2 i3 v1 hv1 hx1
 have h3:In a1 b1 x2=some v1:=hv1; unfold In at h3
 refine aU (xS R (aZ (aT fun c9=>(cI R h3 (fun h4=>?_) fun h4=>?_))))
 ·refine Zc (c9 _ (aT fun c10=>(Ze (aU (mM R (mA R (aZ (aT fun c12=>?_))))))))
  refine CQ Be (by kernel_rfl) ?_
  refine qP R (Zf R iL) (qP R (Zf R iL) (Zb h4 fun x4 ex4 h5=>(qP R (BB R Ag.slice iL iL (fun _=>R) (fun _=>ex4)) (qP R (DG (cs:=(AK x4)) R Ay iL R R) (qP R (Zf R iL) (qP R (Zf R iL) (Zb h5 fun x5 ex5 h6=>(qP R (BB R Ag.slice iL iL (fun _=>R) (fun _=>ex5)) (qP R (DG (cs:=(AK x5)) R Ay iL R R) (qP R (Lv R Mh iL iL R) (AQ.nil (c12 _ (cI R h6 (fun h7=>?_) fun h7=>?_)))))))))))))
  ·exact zB (he1 _ (xH hx1 h7)) R id
  refine Zc (c10 _ (aF [0,1,12,13] ?_))
  exact aR (Zb h7 fun x6 ex6 h8=>(xA R ex6 (mM R (Zg (Zn h8 (AG [(i3 0)]) wk)))))
 exact Zm (wK5 _ _ wk (J1 _ (AG [(i3 0)]) (xH hx1 h4)))
theorem Ol {a1 b1 r} (h:FH a1 b1=some r):AZ Tryd.prog 9 [.agg (Ab a1),.agg (Ab b1)] (rB r):=by
 unfold FH at h
 exact mF Tryd.func9 Tryd.ntmps9 R fun n0=>aU (sS R (A6 (cs:=(Ab a1)) 2 R iL R R) (sS R (A6 (cs:=(Ab b1)) 3 R iL R R) (mA R (aZ (aU (lF Ct AH R R (lF Ct AH R R (xQ R (mM R (vF DP AH R R (vF DP AH R R (vQ R (BP R (iR R) (iR R)) (xN R (mM R (vF E1 CK R R (vF E1 CK R R (Zb h fun r1 er1 h1=>vL (fun hg=>V6 (Ae er1 hg)) R (xN R (mM R (vF Bz BC R R (vF Bz BC R R (Zb h1 fun r2 er2 h2=>vL (fun hg=>VF (Ae er2 hg)) R (xN R (mA R (aZ (Zi (yB h2 R)))))))))))))))))))))))))))
theorem NX {a1 r} (h:Hm a1=some r):AZ Tryd.prog 22 [qb a1] (rI r):=by
 unfold Hm at h
 refine mF Tryd.func22 Tryd.ntmps22 R fun n0=>aU (mA R (aZ (aU (mA R (aZ (aS fun K3 c3 wK3=>(aU (mM R (xL A9 R (mM R (aZ (Ze (BL h fun o1 hit1 hk1=>?_)))))))))))))
 have J1 : ∀ (n4:Int) (i5:NN),o1=n4→K3 ⟨[(3,rI n4)],[],(i5 0),19⟩:=by
  intro n4 i5 e
  have h1:=hk1 _ e
  exact c3 _ (aU (mM R (mA R (aZ (Zi (yI h1 R))))))
 refine Ce (fun (n2:Int) (x2:Int) i3=>⟨[(0,qb a1),(3,rI n2),(6,rL a1),(7,rI x2)],[],(i3 0),19⟩) (AG [n0]) hit1 wk ?_
 intro n2 x2 i3 v1 hv1 hx1
 have h2:HQ a1 n2 x2=some v1:=hv1; unfold HQ at h2
 refine aU (xS R (aZ (aT fun c7=>(cI R h2 (fun h3=>?_) fun h3=>?_))))
 ·refine Zc (c7 _ (aT fun c8=>(Ze (aU (mM R (mA R (aZ (aR (mM R (mM R (mM R (Zb h3 fun x4 ex4 h4=>(xI A9 R ex4 (sQ R (Zj R CE iL) (xV (.int .i64 x4.N) AH R (Zb h4 fun n5 en5 h5=>(xA R en5 (mA R (aZ (c8 _ (aF [0,3,6,7] ?_)))))))))))))))))))))
  exact aR (Zb h5 fun x5 ex5 h6=>(xA R ex5 (mM R (Zg (CB.mk h6 (AG [(i3 0)]) wk)))))
 exact Zm (wK3 _ _ wk (J1 _ (AG [(i3 0)]) (xH hx1 h3)))
theorem VE {g1 e1 r} (h:I9 g1 e1=some r):AZ Tryd.prog 10 [.agg (Ab g1),.agg (Ad e1)] (rB r):=by
 unfold I9 at h
 exact mF Tryd.func10 Tryd.ntmps10 R fun n0=>aU (sS R (A6 (cs:=(Ab g1)) 2 R iL R R) (sS R (A6 (cs:=(Ad e1)) 3 R iL R R) (mA R (aZ (aU (lF Ct AH R R (sQ R (DI R iL iL) (mM R (vF DP AH R R (vQ R (DI R (iR R) iL) (xN R (mM R (vF Eh CJ R R (Zb h fun r1 er1 h1=>vL (fun hg=>NX (Ae er1 hg)) R (vQ R (DI R (iR R) iL) (xN R (mM R (vF Et CJ R R (Zb h1 fun r2 er2 h2=>vL (fun hg=>NX (Ae er2 hg)) R (vQ R (DI R (iR R) iL) (xN R (mA R (aZ (Zi (yB h2 R)))))))))))))))))))))))))
theorem Of {a1 r} (h:GH a1=some r):AZ Tryd.prog 46 [qb a1] (.r (.sl (r.map (AR .i64)))):=by
 unfold GH at h
 refine mF Tryd.func46 Tryd.ntmps46 R fun n0=>aU (mA R (aZ (aU (mA R (aZ (aS fun K3 c3 wK3=>(aU (mM R (xL A9 R (mM R (aZ (Ze (BL h fun o1 hit1 hk1=>?_)))))))))))))
 have J1 : ∀ (out4:List Int) (i5:NN),o1=out4→K3 ⟨[(3,.own 5003 (i5 0))],[(5003,some (.arr (i5 0) 3 1 (out4.map (AR .i64))))],(i5 1),28⟩:=by
  intro out4 i5 e
  have h1:=hk1 _ e
  exact c3 _ (aU (mM R (mA R (aZ (Zi (DE (P:=Tryd.prog) (fun (r:(List Int))=>.r (.sl (r.map (AR .i64)))) h1 iL (.t (.one (.own R)))))))))
 refine Ce (fun (x2:Int) (out2:List Int) i3=>⟨[(0,qb a1),(3,.own 5003 (i3 0)),(6,rL a1),(7,rI x2)],[(5003,some (.arr (i3 0) 3 1 (out2.map (AR .i64))))],(i3 1),28⟩) (AG [n0,(n0+1)]) hit1 (Zq (Zq (GS 3 5003 3 1 (by decide) R) (by exact Aa.cv (e':=[(0,qb a1),(2,cZ),(3,.own 5003 n0),(5,qb a1),(6,rL a1),(7,rI 0)]) (h':=[(5003,some (.arr n0 3 1 (([]:List Int).map (AR .i64))))]) ⟨jL,jL,jL,jL,jL,jL,Zd⟩ ⟨.inl R,Zd⟩ nL)) wk) ?_
 intro x2 out2 i3 v1 hv1 hx1
 have h2:D0 a1 x2 out2=some v1:=hv1; unfold D0 at h2
 refine aU (xS R (aZ (aT fun c7=>(cI R h2 (fun h3=>?_) fun h3=>?_))))
 ·refine Zc (c7 _ (aS fun K8 c8 wK8=>(Ze (aU (mM R (mA R (aZ (aU (mM R (mM R (Zb h3 fun x4 ex4 h4=>(xI A9 R ex4 (sQ R (Zj R CE iL) (xV (.int .i64 x4.N) AH R (mM R (aZ (Ze (BL h4 fun o2 hit2 hk2=>?_))))))))))))))))))
  have J2 : ∀ (out8:List Int) (i10:NN),o2=out8→K8 ⟨[(0,qb a1),(3,.own 5003 (i10 0)),(6,rL a1),(7,rI x2)],[(5003,some (.arr (i10 0) 3 1 (out8.map (AR .i64))))],(i10 1),28⟩:=by
   intro out8 i10 e
   have h5:=hk2 _ e
   exact c8 _ (aR (Zb h5 fun x8 ex8 h6=>(xA R ex8 (mM R (Zg (CB.mk h6 (AG [(i10 0),(i10 1)]) wk))))))
  refine Ce (fun (x6:Int) (out6:List Int) i8=>⟨[(0,qb a1),(3,.own 5003 (i8 0)),(4,rI x2),(6,rL a1),(7,rI x2),(14,rI x4.N),(15,rI x6)],[(5003,some (.arr (i8 0) 3 1 (out6.map (AR .i64))))],(i8 1),28⟩) (AG [(i3 0),(i3 1)]) hit2 wk ?_
  intro x6 out6 i8 v2 hv2 hx2
  have h7:E3 x4 x6 out6=some v2:=hv2; unfold E3 at h7
  refine aU (xS R (aZ (aT fun c12=>(cI R h7 (fun h8=>?_) fun h8=>?_))))
  ·exact Zc (c12 _ (aT fun c13=>(Ze (aR (mM R (mM R (mM R (xI A9 R ex4 (sQ R (Zj R Bv iL) (xV (.int .i64 x4.Kind) AH R (sS R (B6 23 R BM (f:=(AR .i64)) (l:=([x4.Kind]:List Int)) ⟨R,⟨_,iL,R⟩,Zd⟩ R (fun _=>R) R) (Zb h8 fun out9 eout9 h9=>(sS R (Cj R BM iL R (.inr (.inl ⟨_,_,iL,R⟩)) eout9) (mA R (aZ (c13 _ (aR (Zb h9 fun x9 ex9 h10=>(xA R ex9 (mM R (Zg (CB.mk h10 (AG [((i8 1)+1),((i8 1)+2)]) wk))))))))))))))))))))))
  exact Zm (wK8 _ _ wk (J2 _ (AG [(i8 0),(i8 1)]) (xH hx2 h8)))
 exact Zm (wK3 _ _ wk (J1 _ (AG [(i3 0),(i3 1)]) (xH hx1 h3)))
theorem NO {a1 n1 r} (h:IG a1 n1=some r):AZ Tryd.prog 23 [qb a1,rI n1] (.r (.sl (r.map (AR .i64)))):=by
 unfold IG at h
 refine mF Tryd.func23 Tryd.ntmps23 R fun n0=>aU (mA R (aZ (aT fun c2=>(aU (mM R (xL A9 R (xQ R (aZ (cI R h (fun h1=>?_) fun h1=>?_)))))))))
 ·refine aT fun c4=>(aR (mM R ?_))
  refine sQ R (Dj R Mr (q:=[(0,_),(1,_)]) (by exact ⟨R,R,R,iL,R,R,R,iL,Zd⟩) (cs:=[rI 0,rI n1]) (by rfl)) ?_
  refine sS R (B6 10 R A9 (f:=AI.row) (l:=([(AI.mk 0 n1)]:List AI)) ⟨R,⟨_,iL,R⟩,Zd⟩ R (fun _=>R) R) ?_
  refine AN.weak (by exact KI (e':=[(0,qb a1),(1,rI n1),(4,cZ),(5,qb a1),(6,rL a1),(7,rB ((decide ((a1.length:Int)=0)))),(8,rI n1),(9,.agg [rI 0,rI n1]),(10,.r (.sl ([(AI.mk 0 n1)].map AI.row)))]) (h':=[]) 10 R ⟨jL,jL,jL,jL,jL,jL,jL,jL,.inl (.inr (.inr ⟨R,R⟩)),Zd⟩ Zd) ?_
  exact Zb h1 fun r1 er1 h2=>(sS R (CP (r:=.r (.sl (r1.map (AR .i64)))) (caps:=[]) (bs:=[.r (.sl ([(AI.mk 0 n1)].map AI.row))]) R iL R ⟨.inl ⟨iL,R⟩,Zd⟩ (fun _=>Of (er1))) (mA R (aZ (c4 _ (Zi (DE (P:=Tryd.prog) (fun (r:(List Int))=>.r (.sl (r.map (AR .i64)))) h2 iL (.t (.d R))))))))
 exact Zc (c2 _ (aU (mM R (Zb h1 fun r2 er2 h3=>(sS R (CP (r:=.r (.sl (r2.map (AR .i64)))) (caps:=[]) (bs:=[qb a1]) R iL R ⟨.inl ⟨iL,R⟩,Zd⟩ (fun _=>Of (er2))) (mA R (aZ (Zi (DE (P:=Tryd.prog) (fun (r:(List Int))=>.r (.sl (r.map (AR .i64)))) h3 iL (.t (.d R)))))))))))
theorem NB {u r} (h:Gf u=some r):AZ Tryd.prog 24 [.r (.sl (u.map (AR .i64)))] (.tup [.r (.sl (r.1.map (AR .i64))),.r (.sl (r.2.map (AR .i64)))]):=by
 unfold Gf at h
 refine mF Tryd.func24 Tryd.ntmps24 R fun n0=>aU (mA R (mA R (aZ (aU (mA R (mA R (aZ (aU (mA R (aZ (aS fun K4 c4 wK4=>(aU (mM R (xL BM R (mM R (aZ (Ze (DU h fun o1 hit1 hk1=>?_))))))))))))))))))
 have J1 : ∀ (rows4:List Int) (ahead4:List Int) (i5:NN),o1=(rows4,ahead4)→K4 ⟨[(4,.own 5004 (i5 0)),(5,.own 5005 (i5 1))],[(5004,some (.arr (i5 0) 3 1 (rows4.map (AR .i64)))),(5005,some (.arr (i5 1) 3 1 (ahead4.map (AR .i64))))],(i5 2),43⟩:=by
  intro rows4 ahead4 i5 e
  have h1:=hk1 _ _ e
  exact c4 _ (aU (mM R (mM R (mA R (mA R (aZ (Zi (Br (P:=Tryd.prog) (fun (r:(List Int) × (List Int))=>.r (.sl (r.1.map (AR .i64)))) (fun (r:(List Int) × (List Int))=>.r (.sl (r.2.map (AR .i64)))) h1 iL (.t (.one (.own R))) (.t (.one (.own R)))))))))))
 refine Wq (fun (old2:Int) (x2:Int) (rows2:List Int) (ahead2:List Int) i3=>⟨[(0,.r (.sl (u.map (AR .i64)))),(4,.own 5004 (i3 0)),(5,.own 5005 (i3 1)),(6,rI old2),(9,rL u),(10,rI x2)],[(5004,some (.arr (i3 0) 3 1 (rows2.map (AR .i64)))),(5005,some (.arr (i3 1) 3 1 (ahead2.map (AR .i64))))],(i3 2),43⟩) (AG [n0,(n0+1),(n0+2)]) hit1 (Zq (Zq (GS 4 5004 3 1 (by decide) R) (by exact Aa.cv (e':=[(0,.r (.sl (u.map (AR .i64)))),(2,cZ),(3,cZ),(4,.own 5004 n0),(5,cZ),(6,rI 0),(8,.r (.sl (u.map (AR .i64)))),(9,rL u),(10,rI 0)]) (h':=[(5004,some (.arr n0 3 1 (([]:List Int).map (AR .i64))))]) ⟨jL,jL,jL,jL,jL,jL,jL,jL,jL,Zd⟩ ⟨.inl R,Zd⟩ nL)) (Zq (Zq (GS 5 5005 3 1 (by decide) R) (by exact Aa.cv (e':=[(0,.r (.sl (u.map (AR .i64)))),(2,cZ),(3,cZ),(4,.own 5004 n0),(5,.own 5005 (n0+1)),(6,rI 0),(8,.r (.sl (u.map (AR .i64)))),(9,rL u),(10,rI 0)]) (h':=[(5004,some (.arr n0 3 1 (([]:List Int).map (AR .i64)))),(5005,some (.arr (n0+1) 3 1 (([]:List Int).map (AR .i64))))]) ⟨jL,jL,jL,jL,jL,jL,jL,jL,jL,Zd⟩ ⟨.inl R,.inl R,Zd⟩ nL)) wk)) ?_
 intro old2 x2 rows2 ahead2 i3 v1 hv1 hx1
 have h2:Hw u old2 x2 rows2 ahead2=some v1:=hv1; unfold Hw at h2
 refine aU (xS R (aZ (aT fun c8=>(cI R h2 (fun h3=>?_) fun h3=>?_))))
 ·refine Zc (c8 _ (aS fun K9 c9 wK9=>(Ze (Ug h3 fun p1 hp1 hk2=>?_))))
  have J2 : ∀ (old4:Int) (rows5:List Int) (ahead5:List Int) (i6:NN),p1=(old4,rows5,ahead5)→K9 ⟨[(0,.r (.sl (u.map (AR .i64)))),(4,.own 5004 (i6 0)),(5,.own 5005 (i6 1)),(6,rI old4),(9,rL u),(10,rI x2)],[(5004,some (.arr (i6 0) 3 1 (rows5.map (AR .i64)))),(5005,some (.arr (i6 1) 3 1 (ahead5.map (AR .i64))))],(i6 2),43⟩:=by
   intro old4 rows5 ahead5 i6 e
   have h4:=hk2 _ _ _ e
   exact c9 _ (aR (Zb h4 fun x4 ex4 h5=>(xA R ex4 (mM R (Zg (Kv.mk h5 (AG [(i6 0),(i6 1),(i6 2)]) wk))))))
  refine aU (mM R (mA R (aZ (aU (mM R (mM R (Zb hp1 fun x5 ex5 h6=>(xI BM R ex5 (xV (.int .i64 x5) AH R (aZ (Ze (aU (xQ R (mA R (aZ (cI R h6 (fun h7=>?_) fun h7=>?_))))))))))))))))
  ·refine aT fun c13=>(aG [0,4,5,6,9,10] [5004,5005] ?_)
   exact aR (mM R (mM R (sS R (B6 23 R BM (f:=(AR .i64)) (l:=([old2]:List Int)) ⟨R,⟨_,iL,R⟩,Zd⟩ R (fun _=>R) R) (Zb h7 fun rows6 erows6 h8=>(sS R (Cj R BM iL R (.inr (.inl ⟨_,_,iL,R⟩)) erows6) (mM R (mM R (sS R (B6 27 R BM (f:=(AR .i64)) (l:=([old2]:List Int)) ⟨R,⟨_,iL,R⟩,Zd⟩ R (fun _=>R) R) (Zb h8 fun ahead6 eahead6 h9=>(sS R (Cj R BM iL R (.inr (.inl ⟨_,_,iL,R⟩)) eahead6) (mA R (mA R (aZ (c13 _ (aR (mM R (Zb h9 fun old5 eold5 h10=>(xA R eold5 (mA R (Zg (wK9 _ _ wk (J2 _ _ _ (AG [((i3 2)+1),((i3 2)+3),((i3 2)+4)]) (Za h10).symm))))))))))))))))))))))
  refine aU (xQ R (mA R (aZ (cI R h7 (fun h11=>?_) fun h11=>?_))))
  ·refine aG [0,4,5,6,9,10] [5004,5005] ?_
   exact aR (mM R (sS R (B6 34 R BM (f:=(AR .i64)) (l:=([(-1)]:List Int)) ⟨R,⟨_,iL,R⟩,Zd⟩ R (fun _=>R) R) (Zb h11 fun rows7 erows7 h12=>(sS R (Cj R BM iL R (.inr (.inl ⟨_,_,iL,R⟩)) erows7) (mM R (mM R (sS R (B6 38 R BM (f:=(AR .i64)) (l:=([old2]:List Int)) ⟨R,⟨_,iL,R⟩,Zd⟩ R (fun _=>R) R) (Zb h12 fun ahead7 eahead7 h13=>(sS R (Cj R BM iL R (.inr (.inl ⟨_,_,iL,R⟩)) eahead7) (mA R (mA R (Zg (wK9 _ _ wk (J2 _ _ _ (AG [((i3 2)+1),((i3 2)+3),((i3 2)+4)]) (Za h13).symm))))))))))))))
  refine aG [0,4,5,6,9,10] [5004,5005] ?_
  exact aR (mM R (Zb h11 fun old6 eold6 h14=>(xA R eold6 (mA R (Zg (wK9 _ _ wk (J2 _ _ _ (AG [(i3 0),(i3 1),(i3 2)]) (Za h14).symm)))))))
 exact Zm (wK4 _ _ wk (J1 _ _ (AG [(i3 0),(i3 1),(i3 2)]) (xH hx1 h3)))
theorem T5 {l1 b c r} (h:IJ l1 b c=some r):AZ Tryd.prog 25 [qc l1,rI b,rI c] (.agg (Ai r)):=by
 unfold IJ at h
 refine mF Tryd.func25 Tryd.ntmps25 R fun n0=>aU (sS R (Zp (cs:=E2) 6 R F7 R R) (aZ (aS fun K2 c2 wK2=>(aU (mM R (xL A2 R (mM R (aZ (Ze (BA h fun o1 hit1 hk1 he1=>?_))))))))))
 have J1 : ∀ (u2:Unit) (i5:NN),o1 = .nrm u2→K2 ⟨[(1,rI b),(2,rI c),(6,.ptr 6 n0 0 0)],[(6,some (.box n0 41 E2))],(i5 0),37⟩:=by
  intro u2 i5 e
  have h1:=hk1 _ e
  refine c2 _ (aT fun c4=>(aR (mM R (mM R ?_))))
  refine sQ R (Dj R MA (q:=[(0,_),(1,_)]) (by exact ⟨R,R,R,iL,R,R,R,iL,Zd⟩) (cs:=[rI b,rI c,.r (.str []),rI 0,cZ]) (by rfl)) ?_
  refine Zl R R (Zh (ds:=[rI b,rI c,.r (.str []),rI 0,cZ]) R ED iL R iL R R R R) (oZ c4 ?_)
  exact Zi (DE (P:=Tryd.prog) (fun (r:AE)=>.agg (Ai r)) h1 iL (.a Bg R R R (.agg (by exact ⟨.closed _ R,.closed _ R,.closed _ R,.closed _ R,.nil,Zd⟩))))
 refine Zo (fun (x2:Int) i3=>⟨[(0,qc l1),(1,rI b),(2,rI c),(6,.ptr 6 n0 0 0),(9,rL l1),(10,rI x2)],[(6,some (.box n0 41 E2))],(i3 0),37⟩) (AG [(n0+1)]) hit1 wk ?_
 intro x2 i3 v1 hv1 hx1
 have h2:Hu l1 b c x2=some v1:=hv1; unfold Hu at h2
 refine aU (xS R (aZ (aT fun c6=>(cI R h2 (fun h3=>?_) fun h3=>?_))))
 ·refine Zc (c6 _ (aT fun c7=>(Ze (aU (mM R (mA R (aZ (aU (mM R (mM R (Zb h3 fun x4 ex4 h4=>(xI A2 R ex4 (sQ R (Zj R CU iL) (xV (.int .i64 x4.Row) AH R (mM R (xQ R (mM R (vM R (vM R (vQ R (BB R A2.slice (iR R) (iR R) (fun _=>R) (fun _=>ex4)) (vQ R (Zj R DA (iR R)) (vQ R (Bi (d:=.int .i64 x4.Col) R AH (iR R) R) (vM R (vQ R (BP R (iR R) (iR R)) (xN R (aZ (cI R h4 (fun h5=>?_) fun h5=>?_)))))))))))))))))))))))))))
  ·refine aT fun c10=>(aG [0,6,7] [6] ?_)
   exact aR (mM R (mM R (xI A2 R ex4 (xB ((Ai x4)) Bg R (Zl R R (Zh (ds:=(Ai x4)) R ED iL R iL R R R R) (aZ (c10 _ (Zi (DE (P:=Tryd.prog) (fun (r:AE)=>.agg (Ai r)) (he1 _ (xH hx1 h5)) iL (.a Bg R R R (.g (cs:=[.int .i64 x4.Row,.int .i64 x4.Col,.str x4.Text,.int .i64 x4.Ref,.sl (x4.Attrs.map Ah.row)]) R R)))))))))))
  refine Zc (c7 _ (aG [0,1,2,6,9,10] [6] ?_))
  exact aR (Zb h5 fun x5 ex5 h6=>(xA R ex5 (mM R (Zg (Zn h6 (AG [(i3 0)]) wk)))))
 exact Zm (wK2 _ _ wk (J1 _ (AG [(i3 0)]) (xH hx1 h3)))
theorem V0 {u a r} (h:Jb u a=some r):AZ Tryd.prog 69 [.r (.sl (u.map (AR .i64))),rI a] (rI r):=by
 unfold Jb at h
 refine mF Tryd.func69 Tryd.ntmps69 R fun n0=>aU (mA R (aZ (aU (mM R (B7 h fun r1 r2 er1 h1=>(sS R (CP (r:=.tup [.r (.sl (r1.map (AR .i64))),.r (.sl (r2.map (AR .i64)))]) (caps:=[]) (bs:=[.r (.sl (u.map (AR .i64)))]) R iL R ⟨.inl ⟨iL,R⟩,Zd⟩ (fun _=>NB (er1))) (mM R (xX R (xX R (mA R (mA R (aZ (aS fun K3 c3 wK3=>(aU (mM R (xL BM R (mM R (aZ (Ze (BA h1 fun o1 hit1 hk1 he1=>?_))))))))))))))))))))
 have J1 : ∀ (u2:Unit) (i5:NN),o1 = .nrm u2→K3 ⟨[],[],(i5 0),26⟩:=by
  intro u2 i5 e
  have h2:=hk1 _ e
  exact c3 _ (zI h2 R id)
 refine Zo (fun (x2:Int) i3=>⟨[(1,rI a),(5,.r (.sl (r1.map (AR .i64)))),(14,rL r1),(15,rI x2)],[],(i3 0),26⟩) (AG [n0]) hit1 wk ?_
 intro x2 i3 v1 hv1 hx1
 have h3:Gc a r1 x2=some v1:=hv1; unfold Gc at h3
 refine aU (xS R (aZ (aT fun c7=>(cI R h3 (fun h4=>?_) fun h4=>?_))))
 ·refine Zc (c7 _ (aT fun c8=>(Ze (aU (mM R (mA R (aZ (aU (mM R (mM R (Zb h4 fun x4 ex4 h5=>(xI BM R ex4 (xV (.int .i64 x4) AH R (mM R (xQ R (aZ (cI R h5 (fun h6=>?_) fun h6=>?_)))))))))))))))))
  ·refine aT fun c11=>(aF [7] ?_)
   exact aR (mM R (mA R (aZ (c11 _ (Zi (yI (he1 _ (xH hx1 h6)) R))))))
  refine Zc (c8 _ (aF [1,5,14,15] ?_))
  exact aR (Zb h6 fun x5 ex5 h7=>(xA R ex5 (mM R (Zg (Zn h7 (AG [(i3 0)]) wk)))))
 exact Zm (wK3 _ _ wk (J1 _ (AG [(i3 0)]) (xH hx1 h4)))
theorem Pk {u f a r} (h:HE u f a=some r):AZ Tryd.prog 47 [.r (.sl (u.map (AR .i64))),rI f,rI a] (.tup [rI r.1,rI r.2]):=by
 unfold HE at h
 refine mF Tryd.func47 Tryd.ntmps47 R fun n0=>aU (mA R (mA R (aZ (aU (mA R (mA R (aZ (aS fun K3 c3 wK3=>(aU (mM R (Zb h fun row1 erow1 h1=>(sQ R (BW R iL iL (fun _=>erow1)) (mA R (aZ (Ze (DU h1 fun o1 hit1 hk1=>?_))))))))))))))))
 have J1 : ∀ (low4:Int) (high4:Int) (i5:NN),o1=(low4,high4)→K3 ⟨[(8,rI low4),(9,rI high4)],[],(i5 0),31⟩:=by
  intro low4 high4 i5 e
  have h2:=hk1 _ _ e
  exact c3 _ (aU (mM R (mM R (mA R (mA R (aZ (Zi (Br (P:=Tryd.prog) (fun (r:Int × Int)=>rI r.1) (fun (r:Int × Int)=>rI r.2) h2 iL (.t (.d R)) (.t (.d R))))))))))
 refine GR (fun (low2:Int) (high2:Int) (row3:Int) i3=>⟨[(0,.r (.sl (u.map (AR .i64)))),(1,rI f),(8,rI low2),(9,rI high2),(10,rI row3)],[],(i3 0),31⟩) (AG [n0]) hit1 wk ?_
 intro low2 high2 row3 i3 v1 hv1 hx1
 have h3:HS u f low2 high2 row3=some v1:=hv1; unfold HS at h3
 refine aT fun c6=>(aU (mM R (mM R (sQ R (Bp R iL iL) (aZ (cI R h3 (fun h4=>?_) fun h4=>?_))))))
 ·refine Zc (c6 _ (aS fun K8 c8 wK8=>(Ze (DU h4 fun p1 hp1 hk2=>?_))))
  have J2 : ∀ (low5:Int) (high5:Int) (i6:NN),p1=(low5,high5)→K8 ⟨[(0,.r (.sl (u.map (AR .i64)))),(1,rI f),(8,rI low5),(9,rI high5),(10,rI row3)],[],(i6 0),31⟩:=by
   intro low5 high5 i6 e
   have h5:=hk2 _ _ e
   exact c8 _ (aR (mM R (Zb h5 fun row5 erow5 h6=>(sQ R (BW R iL iL (fun _=>erow5)) (mA R (Zg (Eb.mk h6 (AG [(i6 0)]) wk)))))))
  refine aU (mM R (mM R (Zb hp1 fun k1 ek1 h7=>(cL (V0 (ek1)) R (mA R (aZ (aU (mM R (sQ R (Bp R iL iL) (aZ (cI R h7 (fun h8=>?_) fun h8=>?_)))))))))))
  ·refine aT fun c11=>(aF [0,1,9,10,11] ?_)
   refine aR (mM R (mA R (aZ (c11 _ (aU (mM R (xQ R (aZ (cI R h8 (fun h9=>?_) fun h9=>?_)))))))))
   ·exact aR (mM R (Zb h9 fun high6 ehigh6 h10=>(xA R ehigh6 (mA R (Zg (wK8 _ _ wk (J2 _ _ (AG [(i3 0)]) (Za h10).symm)))))))
   exact Zc (wK8 _ _ wk (J2 _ _ (AG [(i3 0)]) (Za h9).symm))
  exact Zc (wK8 _ _ wk (J2 _ _ (AG [(i3 0)]) (Za h8).symm))
 exact Zm (wK3 _ _ wk (J1 _ _ (AG [(i3 0)]) (xH hx1 h4)))
theorem Qs {r1 b c r} (h:I6 r1 b c=some r):AZ Tryd.prog 27 [.agg (AK r1),.r (.sl (b.map (AR .i64))),.r (.sl (c.map (AR .i64)))] (.agg (AK r)):=by
 unfold I6 at h
 refine mF Tryd.func27 Tryd.ntmps27 R fun n0=>aU (sS R (A6 (cs:=(AK r1)) 3 R iL R R) (sS R (Zp (cs:=DB) 6 R Dy R R) (aZ (aU (sS R (Zp (cs:=DB) 7 R Dy R R) (aZ (aU (mM R (lF Bd AH R R (lF Bd AH R R (lF Cf AH R R (Zb h fun x1 ex1 h1=>(xA R ex1 (B7 h1 fun r2 r3 er2 h2=>(cL (Pk (er2)) R (mM R (xX R (xX R (mA R (mA R (aZ (aT fun c4=>(aG [2,3,6,7,8,9] [3,6,7] ?_)))))))))))))))))))))))
 refine aR (mM R (lF Bo AH R R (lF Bo AH R R (lF DC AH R R (Zb h2 fun x2 ex2 h3=>(xA R ex2 (B7 h3 fun r4 r5 er4 h4=>(cL (Pk (er4)) R (mM R (xX R (xX R (mA R (mA R (aZ (c4 _ (aS fun K5 c5 wK5=>(aT fun c6=>(aG [6,7,8,9,10,11] [6,7] ?_))))))))))))))))))
 refine aR (mM R (mM R (xS R (mM R (vM R (vM R (vQ R (Bb R (iR R) (iR R)) (xN R (mM R (vM R (vM R (Zb h4 fun x3 ex3 h5=>(vQ R (BW R (iR R) (iR R) (Ae ex3)) (vM R (Zb h5 fun x4 ex4 h6=>(vQ R (FP R (iR R) (iR R) (Ae ex4)) (vM R (Zb h6 fun x5 ex5 h7=>(vQ R (BW R (iR R) (iR R) (Ae ex5)) (vQ R (BH R (iR R) iL) (xN R (aZ (c6 _ (BL h7 fun p1 hp1 hk1=>?_))))))))))))))))))))))))
 have J1 : ∀ (out1:AC) (i1:NN),p1=out1→K5 ⟨[(6,.ptr 6 (n0+1) 0 0),(7,.ptr 7 (n0+2) 0 0)],[(6,some (.box (n0+1) 49 DB)),(7,some (.box (n0+2) 49 (AK out1)))],(i1 0),64⟩:=by
  intro out1 i1 e
  have h8:=hk1 _ e
  exact c5 _ (aU (xC Ay R (Zl R R (Zh (ds:=(AK out1)) R Dp iL R iL R R R R) (aZ (Zi (DE (P:=Tryd.prog) (fun (r:AC)=>.agg (AK r)) h8 iL (.a Ay R R R (.g (cs:=[.int .i64 out1.Row,.int .i64 out1.Col,.int .i64 out1.H,.int .i64 out1.W]) R R))))))))
 refine aC R (fun hc1=>?_) (fun hc1=>?_)
 ·have h9:=B4 hc1 hp1
  refine aG [6,7,8,9,10,11] [6,7] ?_
  refine aR (mM R (mM R (mM R (mM R (Zb h9 fun x6 ex6 h10=>(sQ R (BW R iL iL (fun _=>ex6)) (mM R (mM R (Zb h10 fun x7 ex7 h11=>(sQ R (BW R iL iL (fun _=>ex7)) ?_))))))))))
  refine sQ R (Dj R Ua (q:=[(0,_),(1,_),(2,_),(3,_)]) (by exact ⟨R,R,R,iL,R,R,R,iL,R,R,R,iL,R,R,R,iL,Zd⟩) (cs:=[rI r2,rI r4,rI x6,rI x7]) (by rfl)) ?_
  exact Zl R R (Zh (ds:=[rI r2,rI r4,rI x6,rI x7]) R Dp iL R iL R R R R) (Zg (wK5 _ _ wk (J1 _ (AG [(n0+3)]) (Za h11).symm)))
 ·have h9:=B5 hc1 hp1
  exact Zc (wK5 _ _ wk (J1 _ (AG [(n0+3)]) (Za h9).symm))
theorem Rc {g1 e1 r} (h:JU g1 e1=some r):AZ Tryd.prog 11 [.agg (Ab g1),.agg (Ad e1)] (.agg (Ab r)):=by
 unfold JU at h
 refine mF Tryd.func11 Tryd.ntmps11 R fun n0=>aU (sS R (A6 (cs:=(Ab g1)) 2 R iL R R) (sS R (A6 (cs:=(Ad e1)) 3 R iL R R) (sS R (Zp (cs:=A1) 4 R HB R R) (aZ (aT fun c2=>(Zb h fun rows1 erows1 h1=>?_))))))
 refine rP 9 [pO 27 (.ptr 3 (n0+1) 0 0),pO 28 (qb e1.Rows),pO 29 (.ptr 2 n0 0 0),pO 30 (rI g1.Rows),pO 31 (.r (.sl (rows1.map (AR .i64)))),pO 32 (.ptr 3 (n0+1) 0 1),pO 33 (qb e1.Cols),pO 34 (.ptr 2 n0 0 1),pO 35 (rI g1.Cols)] Be R (by exact ⟨oB [(3,.ptr 3 (n0+1) 0 0)] [(3,some (.box (n0+1) 28 (Ad e1)))] (fB R Eh (.inl R) (fun _=>R) R),oB [(27,.ptr 3 (n0+1) 0 0)] [(3,some (.box (n0+1) 28 (Ad e1)))] (Zk (a:=qb e1.Rows) R CJ (.inl R) R R),oB [(2,.ptr 2 n0 0 0)] [(2,some (.box n0 25 (Ab g1)))] (fB R Ct (.inl R) (fun _=>R) R),oB [(29,.ptr 2 n0 0 0)] [(2,some (.box n0 25 (Ab g1)))] (Zk (a:=rI g1.Rows) R AH (.inl R) R R),oD (fun _=>[(28,qb e1.Rows),(30,rI g1.Rows)]) (fun _=>[]) (fun G1 e h' n=>CP (r:=.r (.sl (rows1.map (AR .i64)))) (caps:=[]) (bs:=[qb e1.Rows,rI g1.Rows]) R (.inl R) R ⟨.inl ⟨(.inl R),R⟩,.inl ⟨(.inl R),R⟩,Zd⟩ (fun _=>NO (erows1))),oB [(3,.ptr 3 (n0+1) 0 0)] [(3,some (.box (n0+1) 28 (Ad e1)))] (fB R Et (.inl R) (fun _=>R) R),oB [(32,.ptr 3 (n0+1) 0 1)] [(3,some (.box (n0+1) 28 (Ad e1)))] (Zk (a:=qb e1.Cols) R CJ (.inl R) R R),oB [(2,.ptr 2 n0 0 0)] [(2,some (.box n0 25 (Ab g1)))] (fB R DP (.inl R) (fun _=>R) R),oB [(34,.ptr 2 n0 0 1)] [(2,some (.box n0 25 (Ab g1)))] (Zk (a:=rI g1.Cols) R AH (.inl R) R R),Zd⟩) fun G1 n1=>?_
 refine DN [0,1,2,3,4,27,28,29,30,31,32,33,34,35] [2,3,4] ?_
 refine Zb h1 fun cols1 ecols1 h2=>(sS R (CP (r:=.r (.sl (cols1.map (AR .i64)))) (caps:=[]) (bs:=[qb e1.Cols,rI g1.Cols]) R iL R ⟨.inl ⟨iL,R⟩,.inl ⟨iL,R⟩,Zd⟩ (fun _=>NO (ecols1))) (mA R (mA R (aZ (c2 _ (aT fun c3=>(aG [2,3,4,5,6] [2,3,4] ?_)))))))
 refine aR (mM R (B7 h2 fun r1 r2 er1 h3=>(sS R (CP (r:=.tup [.r (.sl (r1.map (AR .i64))),.r (.sl (r2.map (AR .i64)))]) (caps:=[]) (bs:=[.r (.sl (rows1.map (AR .i64)))]) R iL R ⟨.inl ⟨iL,R⟩,Zd⟩ (fun _=>NB (er1))) (mM R (xX R (xX R (mA R (mA R (aZ (c3 _ (aU (mM R (B7 h3 fun r3 r4 er3 h4=>(sS R (CP (r:=.tup [.r (.sl (r3.map (AR .i64))),.r (.sl (r4.map (AR .i64)))]) (caps:=[]) (bs:=[.r (.sl (cols1.map (AR .i64)))]) R iL R ⟨.inl ⟨iL,R⟩,Zd⟩ (fun _=>NB (er3))) (mM R (xX R (xX R (mA R (mA R (aZ (aT fun c5=>(aG [2,3,4,5,6,7,9] [2,3,4] ?_))))))))))))))))))))))
 refine aR (mM R (xL BM R (mM R (xL BM R ?_))))
 refine sQ R (Dj R IQ (q:=[(0,_),(1,_)]) (by exact ⟨R,R,R,iL,R,R,R,iL,Zd⟩) (cs:=[rL r1,rL r3,cZ,cZ]) (by rfl)) ?_
 refine sS R (Zp (cs:=A1) 11 R HB R R) (Zl R R (Zh (ds:=[rL r1,rL r3,cZ,cZ]) R F9 iL R iL R R R R) (aZ (c5 _ (aS fun K6 c6 wK6=>(aU (mM R (xL BM R (mM R (aZ (Ze (BL h4 fun o1 hit1 hk1=>?_)))))))))))
 have J1 : ∀ (out4:AJ) (i5:NN),o1=out4→K6 ⟨[(2,.ptr 2 n0 0 0),(3,.ptr 3 (n0+1) 0 0),(4,.ptr 4 (n0+2) 0 0),(5,.r (.sl (rows1.map (AR .i64)))),(6,.r (.sl (cols1.map (AR .i64)))),(11,.ptr 11 n1 0 0)],[(2,some (.box n0 25 (Ab g1))),(3,some (.box (n0+1) 28 (Ad e1))),(4,some (.box (n0+2) 25 A1)),(11,some (.box n1 25 [rI out4.Rows,rI out4.Cols,.own 129 (i5 0),cZ])),(129,some (.arr (i5 0) 41 5 (out4.Cells.map AE.row)))],(i5 1),256⟩:=by
  intro out4 i5 e
  have h5:=hk1 _ e
  refine c6 _ (aU (mA R (aZ (aS fun K9 c9 wK9=>(aU (lF Bz BC R R (xL Ag R (mM R (aZ (Ze (BL h5 fun o2 hit2 hk2=>?_)))))))))))
  have J2 : ∀ (merges4:List AC) (i10:NN),o2=merges4→K9 ⟨[(3,.ptr 3 (n0+1) 0 0),(4,.ptr 4 (n0+2) 0 0),(11,.ptr 11 n1 0 0),(16,.own 5016 (i10 0))],[(3,some (.box (n0+1) 28 (Ad e1))),(4,some (.box (n0+2) 25 A1)),(11,some (.box n1 25 [rI out4.Rows,rI out4.Cols,.own 129 (i5 0),cZ])),(129,some (.arr (i5 0) 41 5 (out4.Cells.map AE.row))),(5016,some (.arr (i10 0) 49 4 (merges4.map AC.row)))],(i10 1),256⟩:=by
   intro merges4 i10 e
   have h6:=hk2 _ e
   refine c9 _ (aS fun K11 c11 wK11=>(aU (lF Dx BC R R (xL Ag R (mM R (aZ (Ze (BL h6 fun o3 hit3 hk3=>?_))))))))
   have J3 : ∀ (merges8:List AC) (i15:NN),o3=merges8→K11 ⟨[(4,.ptr 4 (n0+2) 0 0),(11,.ptr 11 n1 0 0),(16,.own 5016 (i15 0))],[(4,some (.box (n0+2) 25 A1)),(11,some (.box n1 25 [rI out4.Rows,rI out4.Cols,.own 129 (i5 0),cZ])),(129,some (.arr (i5 0) 41 5 (out4.Cells.map AE.row))),(5016,some (.arr (i15 0) 49 4 (merges8.map AC.row)))],(i15 1),256⟩:=by
    intro merges8 i15 e
    have h7:=hk3 _ e
    refine c11 _ (aS fun K13 c13 wK13=>(aU (lF Ct AH R R (mM R (aZ (Ze (BL h7 fun o4 hit4 hk4=>?_)))))))
    have J4 : ∀ (out8:AJ) (i20:NN),o4=out8→K13 ⟨[(4,.ptr 4 (n0+2) 0 0),(11,.ptr 11 n1 0 0)],[(4,some (.box (n0+2) 25 A1)),(11,some (.box n1 25 [rI out8.Rows,rI out8.Cols,.own 129 (i20 0),.own 250 (i20 1)])),(129,some (.arr (i20 0) 41 5 (out8.Cells.map AE.row))),(250,some (.arr (i20 1) 49 4 (out8.Merges.map AC.row)))],(i20 2),256⟩:=by
     intro out8 i20 e
     have h8:=hk4 _ e
     refine c13 _ (aU (xC Cs R (Zl R R (Zh (ds:=[rI out8.Rows,rI out8.Cols,.own 129 (i20 0),.own 250 (i20 1)]) R F9 iL R iL R R R R) (aZ ?_))))
     exact Zi (DE (P:=Tryd.prog) (fun (r:AJ)=>.agg (Ab r)) h8 iL (.a Cs R R R (.agg (by exact ⟨.closed _ R,.closed _ R,.own R,.own R,Zd⟩))))
    refine Ce (fun (x11:Int) (out6:AJ) i18=>⟨[(4,.ptr 4 (n0+2) 0 0),(11,.ptr 11 n1 0 0),(16,.own 5016 (i15 0)),(213,rI out4.Rows),(214,rI x11)],[(4,some (.box (n0+2) 25 A1)),(11,some (.box n1 25 [rI out6.Rows,rI out6.Cols,.own 129 (i18 0),.own 250 (i18 1)])),(129,some (.arr (i18 0) 41 5 (out6.Cells.map AE.row))),(250,some (.arr (i18 1) 49 4 (out6.Merges.map AC.row))),(5016,some (.arr (i15 0) 49 4 (merges8.map AC.row)))],(i18 2),256⟩) (AG [(i5 0),(i15 1),((i15 1)+1)]) hit4 (Zq (Zq (NH 11 3 250 49 4 (by decide) R R (by decide)) (by exact Aa.cv (e':=[(4,.ptr 4 (n0+2) 0 0),(11,.ptr 11 n1 0 0),(16,.own 5016 (i15 0)),(212,.ptr 11 n1 0 0),(213,rI out4.Rows),(214,rI 0)]) (h':=[(4,some (.box (n0+2) 25 A1)),(11,some (.box n1 25 [rI out4.Rows,rI out4.Cols,.own 129 (i5 0),.own 250 (i15 1)])),(129,some (.arr (i5 0) 41 5 (out4.Cells.map AE.row))),(250,some (.arr (i15 1) 49 4 (([]:List AC).map AC.row))),(5016,some (.arr (i15 0) 49 4 (merges8.map AC.row)))]) ⟨jL,jL,jL,jL,jL,jL,Zd⟩ ⟨.inl R,.inl R,.inl R,.inl R,.inl R,Zd⟩ nL)) wk) ?_
    intro x11 out6 i18 v1 hv1 hx4
    have h9:Ge out4 merges8 x11 out6=some v1:=hv1; unfold Ge at h9
    refine aU (xS R (aZ (aT fun c17=>(cI R h9 (fun h10=>?_) fun h10=>?_))))
    ·refine Zc (c17 _ (aS fun K18 c18 wK18=>(Ze (aU (mM R (mA R (aZ (aU (lF DP AH R R (mM R (aZ (Ze (BL h10 fun o5 hit5 hk5=>?_)))))))))))))
     have J5 : ∀ (out12:AJ) (i25:NN),o5=out12→K18 ⟨[(4,.ptr 4 (n0+2) 0 0),(11,.ptr 11 n1 0 0),(16,.own 5016 (i15 0)),(213,rI out4.Rows),(214,rI x11)],[(4,some (.box (n0+2) 25 A1)),(11,some (.box n1 25 [rI out12.Rows,rI out12.Cols,.own 129 (i25 0),.own 250 (i25 1)])),(129,some (.arr (i25 0) 41 5 (out12.Cells.map AE.row))),(250,some (.arr (i25 1) 49 4 (out12.Merges.map AC.row))),(5016,some (.arr (i15 0) 49 4 (merges8.map AC.row)))],(i25 2),256⟩:=by
      intro out12 i25 e
      have h11:=hk5 _ e
      exact c18 _ (aR (Zb h11 fun x16 ex16 h12=>(xA R ex16 (mM R (Zg (CB.mk h12 (AG [(i25 0),(i25 1),(i25 2)]) wk))))))
     refine Ce (fun (x14:Int) (out10:AJ) i23=>⟨[(4,.ptr 4 (n0+2) 0 0),(11,.ptr 11 n1 0 0),(16,.own 5016 (i15 0)),(24,rI x11),(213,rI out4.Rows),(214,rI x11),(218,rI out6.Cols),(219,rI x14)],[(4,some (.box (n0+2) 25 A1)),(11,some (.box n1 25 [rI out10.Rows,rI out10.Cols,.own 129 (i23 0),.own 250 (i23 1)])),(129,some (.arr (i23 0) 41 5 (out10.Cells.map AE.row))),(250,some (.arr (i23 1) 49 4 (out10.Merges.map AC.row))),(5016,some (.arr (i15 0) 49 4 (merges8.map AC.row)))],(i23 2),256⟩) (AG [(i18 0),(i18 1),(i18 2)]) hit5 wk ?_
     intro x14 out10 i23 v2 hv2 hx5
     have h13:GX merges8 x11 out6 x14 out10=some v2:=hv2; unfold GX at h13
     refine aU (xS R (aZ (aT fun c22=>(cI R h13 (fun h14=>?_) fun h14=>?_))))
     ·refine Zc (c22 _ (aS fun K23 c23 wK23=>(Ze (aU (mM R (mA R (aZ (aU (mM R (sQ R (LR R Ag.slice iL R) (mM R (aZ (Ze (BL h14 fun o6 hit6 hk6=>?_))))))))))))))
      have J6 : ∀ (out16:AJ) (i30:NN),o6=out16→K23 ⟨[(4,.ptr 4 (n0+2) 0 0),(11,.ptr 11 n1 0 0),(16,.own 5016 (i15 0)),(24,rI x11),(213,rI out4.Rows),(214,rI x11),(218,rI out6.Cols),(219,rI x14)],[(4,some (.box (n0+2) 25 A1)),(11,some (.box n1 25 [rI out16.Rows,rI out16.Cols,.own 129 (i30 0),.own 250 (i30 1)])),(129,some (.arr (i30 0) 41 5 (out16.Cells.map AE.row))),(250,some (.arr (i30 1) 49 4 (out16.Merges.map AC.row))),(5016,some (.arr (i15 0) 49 4 (merges8.map AC.row)))],(i30 2),256⟩:=by
       intro out16 i30 e
       have h15:=hk6 _ e
       exact c23 _ (aR (Zb h15 fun x20 ex20 h16=>(xA R ex20 (mM R (Zg (CB.mk h16 (AG [(i30 0),(i30 1),(i30 2)]) wk))))))
      refine Ce (fun (x18:Int) (out14:AJ) i28=>⟨[(4,.ptr 4 (n0+2) 0 0),(11,.ptr 11 n1 0 0),(16,.own 5016 (i15 0)),(24,rI x11),(25,rI x14),(213,rI out4.Rows),(214,rI x11),(218,rI out6.Cols),(219,rI x14),(223,rL merges8),(224,rI x18)],[(4,some (.box (n0+2) 25 A1)),(11,some (.box n1 25 [rI out14.Rows,rI out14.Cols,.own 129 (i28 0),.own 250 (i28 1)])),(129,some (.arr (i28 0) 41 5 (out14.Cells.map AE.row))),(250,some (.arr (i28 1) 49 4 (out14.Merges.map AC.row))),(5016,some (.arr (i15 0) 49 4 (merges8.map AC.row)))],(i28 2),256⟩) (AG [(i23 0),(i23 1),(i23 2)]) hit6 wk ?_
      intro x18 out14 i28 v3 hv3 hx6
      have h17:FV merges8 x11 x14 x18 out14=some v3:=hv3; unfold FV at h17
      refine aU (xS R (aZ (aT fun c27=>(cI R h17 (fun h18=>?_) fun h18=>?_))))
      ·refine Zc (c27 _ (aS fun K28 c28 wK28=>(Ze (BL h18 fun p1 hp1 hk7=>?_))))
       have J7 : ∀ (out17:AJ) (i31:NN),p1=out17→K28 ⟨[(4,.ptr 4 (n0+2) 0 0),(11,.ptr 11 n1 0 0),(16,.own 5016 (i15 0)),(24,rI x11),(25,rI x14),(213,rI out4.Rows),(214,rI x11),(218,rI out6.Cols),(219,rI x14),(223,rL merges8),(224,rI x18)],[(4,some (.box (n0+2) 25 A1)),(11,some (.box n1 25 [rI out17.Rows,rI out17.Cols,.own 129 (i31 0),.own 250 (i31 1)])),(129,some (.arr (i31 0) 41 5 (out17.Cells.map AE.row))),(250,some (.arr (i31 1) 49 4 (out17.Merges.map AC.row))),(5016,some (.arr (i15 0) 49 4 (merges8.map AC.row)))],(i31 2),256⟩:=by
        intro out17 i31 e
        have h19:=hk7 _ e
        exact c28 _ (aR (Zb h19 fun x21 ex21 h20=>(xA R ex21 (mM R (Zg (CB.mk h20 (AG [(i31 0),(i31 1),(i31 2)]) wk))))))
       refine aU (mM R (mA R (aZ (aU (mM R (mM R (Zb hp1 fun x22 ex22 h21=>(sQ R (GE R Ag.slice iL R iL (fun _=>ex22)) (sQ R (IX (ob:=.arr _ _ _ _) R Bd iL fR R) (sQ R (Pz (d:=.int .i64 x22.Row) R AH iL fR (fun _=>ex22) R) (mM R (xQ R (mM R (vM R (vM R (vQ R (GE R Ag.slice (iR R) R (iR R) (fun _=>ex22)) (vQ R (IX (ob:=.arr _ _ _ _) R Bo (iR R) fR R) (vQ R (Pz (d:=.int .i64 x22.Col) R AH (iR R) fR (fun _=>ex22) R) (vM R (vQ R (BP R (iR R) (iR R)) (xN R (aZ (cI R h21 (fun h22=>?_) fun h22=>?_)))))))))))))))))))))))
       ·refine aG [4,11,16,24,25,26,213,214,218,219,223,224] [4,11,129,250,5016] ?_
        refine WU [] [0,1,2,3,4,5] [6] 7 Be (by kernel_rfl) R R R R R ?_
        exact JE.nil (AF.step R R R (fB R Bz iL fR R) (AF.step R R R (Zk (a:=.own 250 (i28 1)) R BC iL R R) (AF.step R R R (Zf R iL) (AF.step R R R (Zf R iL) (AF.step R R R (GE R Ag.slice iL R iL (fun _=>ex22)) (AF.step R R R (Il (cs:=(AK x22)) R Ay iL fR (fun _=>ex22) R) (AF.nil (AA.step R R R (TD 249 R Ag (f:=AC.row) (l:=([x22]:List AC)) ⟨R,⟨_,iL,R⟩,Zd⟩ R (fun _=>R) R) (AA.nil (Zb h22 fun l1 el1 h23=>(AN.step R R R (Cj R Ag iL R (.inr (.inl ⟨_,_,iL,R⟩)) el1) (sQ R (fB R Bz iL fR R) (Zl R R (Zh (ds:=[rI out14.Rows,rI out14.Cols,.own 129 (i28 0),.own 250 ((i28 2)+1)]) R Ll iL R iL R R R R) (Zg (wK28 _ _ wk (J7 _ (AG [(i28 0),((i28 2)+1),((i28 2)+2)]) (Za h23).symm))))))))))))))))
       exact Zc (wK28 _ _ wk (J7 _ (AG [(i28 0),(i28 1),(i28 2)]) (Za h22).symm))
      exact Zm (wK23 _ _ wk (J6 _ (AG [(i28 0),(i28 1),(i28 2)]) (xH hx6 h18)))
     exact Zm (wK18 _ _ wk (J5 _ (AG [(i23 0),(i23 1),(i23 2)]) (xH hx5 h14)))
    exact Zm (wK13 _ _ wk (J4 _ (AG [(i18 0),(i18 1),(i18 2)]) (xH hx4 h10)))
   refine Ce (fun (x8:Int) (merges6:List AC) i13=>⟨[(3,.ptr 3 (n0+1) 0 0),(4,.ptr 4 (n0+2) 0 0),(11,.ptr 11 n1 0 0),(16,.own 5016 (i13 0)),(175,rL e1.Merge),(176,rI x8)],[(3,some (.box (n0+1) 28 (Ad e1))),(4,some (.box (n0+2) 25 A1)),(11,some (.box n1 25 [rI out4.Rows,rI out4.Cols,.own 129 (i5 0),cZ])),(129,some (.arr (i5 0) 41 5 (out4.Cells.map AE.row))),(5016,some (.arr (i13 0) 49 4 (merges6.map AC.row)))],(i13 1),256⟩) (AG [(i10 0),(i10 1)]) hit3 wk ?_
   intro x8 merges6 i13 v4 hv4 hx3
   have h24:FK e1 x8 merges6=some v4:=hv4; unfold FK at h24
   refine aU (xS R (aZ (aT fun c32=>(cI R h24 (fun h25=>?_) fun h25=>?_))))
   ·refine Zc (c32 _ (aT fun c33=>(Ze (aU (mM R (mA R (aZ (aU (mA R (aZ (aS fun K36 c36 wK36=>(aU (mM R (sQ R (LR R Ag.slice iL R) (mM R (aZ (Ze (BL h25 fun o7 hit7 hk8=>?_))))))))))))))))))
    have J8 : ∀ (rest4:List AC) (i36:NN),o7=rest4→K36 ⟨[(3,.ptr 3 (n0+1) 0 0),(4,.ptr 4 (n0+2) 0 0),(11,.ptr 11 n1 0 0),(21,rI x8),(22,.own 5022 (i36 0)),(175,rL e1.Merge),(176,rI x8)],[(3,some (.box (n0+1) 28 (Ad e1))),(4,some (.box (n0+2) 25 A1)),(11,some (.box n1 25 [rI out4.Rows,rI out4.Cols,.own 129 (i5 0),cZ])),(129,some (.arr (i5 0) 41 5 (out4.Cells.map AE.row))),(5022,some (.arr (i36 0) 49 4 (rest4.map AC.row)))],(i36 1),256⟩:=by
     intro rest4 i36 e
     have h26:=hk8 _ e
     refine c36 _ (aR (mM R (lF Dx BC R R (mM R (Zb h26 fun x26 ex26 h27=>(xI Ag R ex26 (xB ((AK x26)) Ay R (sS R (B6 209 R Ag (f:=AC.row) (l:=([x26]:List AC)) ⟨R,⟨_,iL,R⟩,Zd⟩ R (fun _=>R) R) (Zb h27 fun merges9 emerges9 h28=>(sS R (Cj R Ag iL R (.inr (.inl ⟨_,_,iL,R⟩)) emerges9) (mA R (aZ (c33 _ (aR (Zb h28 fun x27 ex27 h29=>(xA R ex27 (mM R (Zg ?_))))))))))))))))))
     exact CB.mk h29 (AG [((i36 1)+2),((i36 1)+3)]) (Zq (Zq (Aa.ren 16 5022 5016 R R R) (by exact Aa.cv (e':=[(3,.ptr 3 (n0+1) 0 0),(4,.ptr 4 (n0+2) 0 0),(11,.ptr 11 n1 0 0),(16,.own 5016 ((i36 1)+2)),(21,rI x8),(175,rL e1.Merge),(176,rI x27),(204,.ptr 3 (n0+1) 0 4),(205,qa e1.Merge),(206,rI x8),(207,.rop (AC.row x26) 0),(208,.agg (AK x26)),(209,.own 209 (i36 1)),(211,rI x27)]) (h':=[(3,some (.box (n0+1) 28 (Ad e1))),(4,some (.box (n0+2) 25 A1)),(11,some (.box n1 25 [rI out4.Rows,rI out4.Cols,.own 129 (i5 0),cZ])),(129,some (.arr (i5 0) 41 5 (out4.Cells.map AE.row))),(209,some (.arr (i36 1) 49 4 ([x26].map AC.row))),(5016,some (.arr ((i36 1)+2) 49 4 (merges9.map AC.row)))]) ⟨jL,jL,jL,jL,jL,jL,jL,jL,jL,jL,jL,jL,jL,jL,Zd⟩ ⟨.inl R,.inl R,.inl R,.inl R,.inl R,.inl R,Zd⟩ nL)) wk)
    refine Ce (fun (x24:Int) (rest2:List AC) i34=>⟨[(3,.ptr 3 (n0+1) 0 0),(4,.ptr 4 (n0+2) 0 0),(11,.ptr 11 n1 0 0),(16,.own 5016 (i13 0)),(21,rI x8),(22,.own 5022 (i34 0)),(175,rL e1.Merge),(176,rI x8),(180,rL merges6),(181,rI x24)],[(3,some (.box (n0+1) 28 (Ad e1))),(4,some (.box (n0+2) 25 A1)),(11,some (.box n1 25 [rI out4.Rows,rI out4.Cols,.own 129 (i5 0),cZ])),(129,some (.arr (i5 0) 41 5 (out4.Cells.map AE.row))),(5016,some (.arr (i13 0) 49 4 (merges6.map AC.row))),(5022,some (.arr (i34 0) 49 4 (rest2.map AC.row)))],(i34 1),256⟩) (AG [(i13 1),((i13 1)+1)]) hit7 (Zq (Zq (GS 22 5022 49 4 (by decide) R) (by exact Aa.cv (e':=[(3,.ptr 3 (n0+1) 0 0),(4,.ptr 4 (n0+2) 0 0),(11,.ptr 11 n1 0 0),(16,.own 5016 (i13 0)),(21,rI x8),(22,.own 5022 (i13 1)),(175,rL e1.Merge),(176,rI x8),(177,rB ((decide (x8<(e1.Merge.length:Int))))),(178,rI x8),(179,.own 5016 (i13 0)),(180,rL merges6),(181,rI 0)]) (h':=[(3,some (.box (n0+1) 28 (Ad e1))),(4,some (.box (n0+2) 25 A1)),(11,some (.box n1 25 [rI out4.Rows,rI out4.Cols,.own 129 (i5 0),cZ])),(129,some (.arr (i5 0) 41 5 (out4.Cells.map AE.row))),(5016,some (.arr (i13 0) 49 4 (merges6.map AC.row))),(5022,some (.arr (i13 1) 49 4 (([]:List AC).map AC.row)))]) ⟨jL,jL,jL,jL,jL,jL,jL,jL,jL,jL,jL,jL,jL,Zd⟩ ⟨.inl R,.inl R,.inl R,.inl R,.inl R,.inl R,Zd⟩ nL)) wk) ?_
    intro x24 rest2 i34 v5 hv5 hx7
    have h30:E7 e1 x8 merges6 x24 rest2=some v5:=hv5; unfold E7 at h30
    refine aU (xS R (aZ (aT fun c39=>(cI R h30 (fun h31=>?_) fun h31=>?_))))
    ·refine Zc (c39 _ (aS fun K40 c40 wK40=>(Ze (BL h31 fun p2 hp2 hk9=>?_))))
     have J9 : ∀ (rest5:List AC) (i37:NN),p2=rest5→K40 ⟨[(3,.ptr 3 (n0+1) 0 0),(4,.ptr 4 (n0+2) 0 0),(11,.ptr 11 n1 0 0),(16,.own 5016 (i13 0)),(21,rI x8),(22,.own 5022 (i37 0)),(175,rL e1.Merge),(176,rI x8),(180,rL merges6),(181,rI x24)],[(3,some (.box (n0+1) 28 (Ad e1))),(4,some (.box (n0+2) 25 A1)),(11,some (.box n1 25 [rI out4.Rows,rI out4.Cols,.own 129 (i5 0),cZ])),(129,some (.arr (i5 0) 41 5 (out4.Cells.map AE.row))),(5016,some (.arr (i13 0) 49 4 (merges6.map AC.row))),(5022,some (.arr (i37 0) 49 4 (rest5.map AC.row)))],(i37 1),256⟩:=by
      intro rest5 i37 e
      have h32:=hk9 _ e
      exact c40 _ (aR (Zb h32 fun x28 ex28 h33=>(xA R ex28 (mM R (Zg (CB.mk h33 (AG [(i37 0),(i37 1)]) wk))))))
     refine aU (mM R (mA R (aZ (aT fun c42=>?_))))
     refine CQ Be (by kernel_rfl) ?_
     refine qP R (Zf R iL) (qP R (Zf R iL) (Zb hp2 fun x29 ex29 h34=>(qP R (GE R Ag.slice iL R iL (fun _=>ex29)) (qP R (Il (cs:=(AK x29)) R Ay iL fR (fun _=>ex29) R) (qP R (fB R Dx iL fR R) (qP R (Zk (a:=qa e1.Merge) R BC iL R R) (qP R (Zf R iL) (Zb h34 fun x30 ex30 h35=>(qP R (BB R Ag.slice iL iL (fun _=>R) (fun _=>ex30)) (qP R (DG (cs:=(AK x30)) R Ay iL R R) (Zb h35 fun r5 er5 h36=>NE R R R (r:=rB r5) (caps:=[]) (bs:=[.agg (AK x29),.agg (AK x30)]) R iL R ⟨⟨_,iL,.g (cs:=[.int .i64 x29.Row,.int .i64 x29.Col,.int .i64 x29.H,.int .i64 x29.W]) R R⟩,⟨_,iL,.g (cs:=[.int .i64 x30.Row,.int .i64 x30.Col,.int .i64 x30.H,.int .i64 x30.W]) R R⟩,Zd⟩ (fun _=>NM (er5)) R (qP R (BD R iL) (AQ.nil (c42 _ (cI R h36 (fun h37=>?_) fun h37=>?_)))))))))))))))
     ·refine aG [3,4,11,16,21,22,23,175,176,180,181] [3,4,11,129,5016,5022] ?_
      exact aR (mM R (mM R (mM R (sQ R (GE R Ag.slice iL R iL (fun _=>ex29)) (sQ R (Il (cs:=(AK x29)) R Ay iL fR (fun _=>ex29) R) (sS R (B6 200 R Ag (f:=AC.row) (l:=([x29]:List AC)) ⟨R,⟨_,iL,R⟩,Zd⟩ R (fun _=>R) R) (Zb h37 fun rest6 erest6 h38=>(sS R (Cj R Ag iL R (.inr (.inl ⟨_,_,iL,R⟩)) erest6) (mA R (Zg (wK40 _ _ wk (J9 _ (AG [((i34 1)+1),((i34 1)+2)]) (Za h38).symm))))))))))))
     exact Zc (wK40 _ _ wk (J9 _ (AG [(i34 0),(i34 1)]) (Za h37).symm))
    exact Zm (wK36 _ _ wk (J8 _ (AG [(i34 0),(i34 1)]) (xH hx7 h31)))
   exact Zm (wK11 _ _ wk (J3 _ (AG [(i13 0),(i13 1)]) (xH hx3 h25)))
  refine Ce (fun (x5:Int) (merges2:List AC) i8=>⟨[(2,.ptr 2 n0 0 0),(3,.ptr 3 (n0+1) 0 0),(4,.ptr 4 (n0+2) 0 0),(5,.r (.sl (rows1.map (AR .i64)))),(6,.r (.sl (cols1.map (AR .i64)))),(11,.ptr 11 n1 0 0),(16,.own 5016 (i8 0)),(135,rL g1.Merges),(136,rI x5)],[(2,some (.box n0 25 (Ab g1))),(3,some (.box (n0+1) 28 (Ad e1))),(4,some (.box (n0+2) 25 A1)),(11,some (.box n1 25 [rI out4.Rows,rI out4.Cols,.own 129 (i5 0),cZ])),(129,some (.arr (i5 0) 41 5 (out4.Cells.map AE.row))),(5016,some (.arr (i8 0) 49 4 (merges2.map AC.row)))],(i8 1),256⟩) (AG [(i5 1),((i5 1)+1)]) hit2 (Zq (Zq (GS 16 5016 49 4 (by decide) R) (by exact Aa.cv (e':=[(2,.ptr 2 n0 0 0),(3,.ptr 3 (n0+1) 0 0),(4,.ptr 4 (n0+2) 0 0),(5,.r (.sl (rows1.map (AR .i64)))),(6,.r (.sl (cols1.map (AR .i64)))),(11,.ptr 11 n1 0 0),(16,.own 5016 (i5 1)),(133,.ptr 2 n0 0 3),(134,qa g1.Merges),(135,rL g1.Merges),(136,rI 0)]) (h':=[(2,some (.box n0 25 (Ab g1))),(3,some (.box (n0+1) 28 (Ad e1))),(4,some (.box (n0+2) 25 A1)),(11,some (.box n1 25 [rI out4.Rows,rI out4.Cols,.own 129 (i5 0),cZ])),(129,some (.arr (i5 0) 41 5 (out4.Cells.map AE.row))),(5016,some (.arr (i5 1) 49 4 (([]:List AC).map AC.row)))]) ⟨jL,jL,jL,jL,jL,jL,jL,jL,jL,jL,jL,Zd⟩ ⟨.inl R,.inl R,.inl R,.inl R,.inl R,.inl R,Zd⟩ nL)) wk) ?_
  intro x5 merges2 i8 v6 hv6 hx2
  have h39:Fg g1 e1 rows1 cols1 x5 merges2=some v6:=hv6; unfold Fg at h39
  refine aU (xS R (aZ (aT fun c44=>(cI R h39 (fun h40=>?_) fun h40=>?_))))
  ·refine Zc (c44 _ (aS fun K45 c45 wK45=>(Ze (BL h40 fun p3 hp3 hk10=>?_))))
   have J10 : ∀ (merges10:List AC) (i38:NN),p3=merges10→K45 ⟨[(2,.ptr 2 n0 0 0),(3,.ptr 3 (n0+1) 0 0),(4,.ptr 4 (n0+2) 0 0),(5,.r (.sl (rows1.map (AR .i64)))),(6,.r (.sl (cols1.map (AR .i64)))),(11,.ptr 11 n1 0 0),(16,.own 5016 (i38 0)),(135,rL g1.Merges),(136,rI x5)],[(2,some (.box n0 25 (Ab g1))),(3,some (.box (n0+1) 28 (Ad e1))),(4,some (.box (n0+2) 25 A1)),(11,some (.box n1 25 [rI out4.Rows,rI out4.Cols,.own 129 (i5 0),cZ])),(129,some (.arr (i5 0) 41 5 (out4.Cells.map AE.row))),(5016,some (.arr (i38 0) 49 4 (merges10.map AC.row)))],(i38 1),256⟩:=by
    intro merges10 i38 e
    have h41:=hk10 _ e
    exact c45 _ (aR (Zb h41 fun x31 ex31 h42=>(xA R ex31 (mM R (Zg (CB.mk h42 (AG [(i38 0),(i38 1)]) wk))))))
   refine aU (mM R (mA R (aZ (aU (lF Bz BC R R (mM R (Zb hp3 fun x32 ex32 h43=>(xI Ag R ex32 (xB ((AK x32)) Ay R (mM R (mM R (Zb h43 fun r6 er6 h44=>(sS R (CP (r:=.agg (AK r6)) (caps:=[]) (bs:=[.agg (AK x32),.r (.sl (rows1.map (AR .i64))),.r (.sl (cols1.map (AR .i64)))]) R iL R ⟨.inl ⟨iL,R⟩,.inl ⟨iL,R⟩,.inl ⟨iL,R⟩,Zd⟩ (fun _=>Qs (er6))) (sS R (Zp (cs:=DB) 18 R Dy R R) (Zl R R (Zh (ds:=(AK r6)) R Dp iL R iL R R R R) (aZ (aT fun c48=>(aG [2,3,4,5,6,11,16,18,135,136] [2,3,4,11,18,129,5016] ?_))))))))))))))))))
   refine aR (lF Cf AH R R (sQ R (BH R iL iL) (mA R (aZ (c48 _ (aS fun K49 c49 wK49=>(aU (lF FG BC R R (xL Ag R (mM R (aZ (Ze (BL h44 fun o8 hit8 hk11=>?_)))))))))))))
   have J11 : ∀ (keep4:Bool) (i43:NN),o8=keep4→K49 ⟨[(2,.ptr 2 n0 0 0),(3,.ptr 3 (n0+1) 0 0),(4,.ptr 4 (n0+2) 0 0),(5,.r (.sl (rows1.map (AR .i64)))),(6,.r (.sl (cols1.map (AR .i64)))),(11,.ptr 11 n1 0 0),(16,.own 5016 (i8 0)),(18,.ptr 18 (i8 1) 0 0),(19,rB keep4),(135,rL g1.Merges),(136,rI x5)],[(2,some (.box n0 25 (Ab g1))),(3,some (.box (n0+1) 28 (Ad e1))),(4,some (.box (n0+2) 25 A1)),(11,some (.box n1 25 [rI out4.Rows,rI out4.Cols,.own 129 (i5 0),cZ])),(18,some (.box (i8 1) 49 (AK r6))),(129,some (.arr (i5 0) 41 5 (out4.Cells.map AE.row))),(5016,some (.arr (i8 0) 49 4 (merges2.map AC.row)))],(i43 0),256⟩:=by
    intro keep4 i43 e
    have h45:=hk11 _ e
    refine c49 _ (aU (mM R (aZ (cI R h45 (fun h46=>?_) fun h46=>?_))))
    ·exact aR (mM R (xC Ay R (sS R (B6 170 R Ag (f:=AC.row) (l:=([r6]:List AC)) ⟨R,⟨_,iL,R⟩,Zd⟩ R (fun _=>R) R) (Zb h46 fun merges11 emerges11 h47=>(sS R (Cj R Ag iL R (.inr (.inl ⟨_,_,iL,R⟩)) emerges11) (mA R (Zg (wK45 _ _ wk (J10 _ (AG [((i43 0)+1),((i43 0)+2)]) (Za h47).symm)))))))))
    exact Zc (wK45 _ _ wk (J10 _ (AG [(i8 0),(i43 0)]) (Za h46).symm))
   refine Ce (fun (keep2:Bool) (x34:Int) i41=>⟨[(2,.ptr 2 n0 0 0),(3,.ptr 3 (n0+1) 0 0),(4,.ptr 4 (n0+2) 0 0),(5,.r (.sl (rows1.map (AR .i64)))),(6,.r (.sl (cols1.map (AR .i64)))),(11,.ptr 11 n1 0 0),(16,.own 5016 (i8 0)),(18,.ptr 18 (i8 1) 0 0),(19,rB keep2),(135,rL g1.Merges),(136,rI x5),(152,rL e1.Split),(153,rI x34)],[(2,some (.box n0 25 (Ab g1))),(3,some (.box (n0+1) 28 (Ad e1))),(4,some (.box (n0+2) 25 A1)),(11,some (.box n1 25 [rI out4.Rows,rI out4.Cols,.own 129 (i5 0),cZ])),(18,some (.box (i8 1) 49 (AK r6))),(129,some (.arr (i5 0) 41 5 (out4.Cells.map AE.row))),(5016,some (.arr (i8 0) 49 4 (merges2.map AC.row)))],(i41 0),256⟩) (AG [((i8 1)+1)]) hit8 wk ?_
   intro keep2 x34 i41 v7 hv7 hx8
   have h48:Fb e1 r6 keep2 x34=some v7:=hv7; unfold Fb at h48
   refine aU (xS R (aZ (aT fun c53=>(cI R h48 (fun h49=>?_) fun h49=>?_))))
   ·refine Zc (c53 _ (aT fun c54=>(Ze (aU (mM R (mA R (aZ ?_)))))))
    refine CQ Be (by kernel_rfl) ?_
    exact qP R (Zf R iL) (qP R (Zf R iL) (qO R (fB R FG iL fR R) (qO R (Zk (a:=qa e1.Split) R BC (iR R) R R) (qO R (Zf R iL) (Zb h49 fun x36 ex36 h50=>qO R (BB R Ag.slice (iR R) (iR R) (fun _=>R) (Ae ex36)) (qO R (DG (cs:=(AK x36)) R Ay (iR R) R R) (qO R (Cm R Ay iL R R) (qO R (Lv R Mh (iR R) (iR R) R) (qP R (Bm R iL (iR R)) (qP R (Dl R iL) (AQ.nil (c54 _ (aR (Zb h50 fun x37 ex37 h51=>(xA R ex37 (mM R (Zg (CB.mk h51 (AG [(i41 0)]) wk))))))))))))))))))
   exact Zm (wK49 _ _ wk (J11 _ (AG [(i41 0)]) (xH hx8 h49)))
  exact Zm (wK9 _ _ wk (J2 _ (AG [(i8 0),(i8 1)]) (xH hx2 h40)))
 refine Ce (fun (x2:Int) (out2:AJ) i3=>⟨[(2,.ptr 2 n0 0 0),(3,.ptr 3 (n0+1) 0 0),(4,.ptr 4 (n0+2) 0 0),(5,.r (.sl (rows1.map (AR .i64)))),(6,.r (.sl (cols1.map (AR .i64)))),(7,.r (.sl (r1.map (AR .i64)))),(9,.r (.sl (r3.map (AR .i64)))),(11,.ptr 11 n1 0 0),(53,rL r1),(54,rI x2)],[(2,some (.box n0 25 (Ab g1))),(3,some (.box (n0+1) 28 (Ad e1))),(4,some (.box (n0+2) 25 A1)),(11,some (.box n1 25 [rI out2.Rows,rI out2.Cols,.own 129 (i3 0),cZ])),(129,some (.arr (i3 0) 41 5 (out2.Cells.map AE.row)))],(i3 1),256⟩) (AG [(n1+1),(n1+2)]) hit1 (Zq (Zq (NH 11 2 129 41 5 (by decide) R R (by decide)) (by exact Aa.cv (e':=[(2,.ptr 2 n0 0 0),(3,.ptr 3 (n0+1) 0 0),(4,.ptr 4 (n0+2) 0 0),(5,.r (.sl (rows1.map (AR .i64)))),(6,.r (.sl (cols1.map (AR .i64)))),(7,.r (.sl (r1.map (AR .i64)))),(9,.r (.sl (r3.map (AR .i64)))),(11,.ptr 11 n1 0 0),(47,.r (.sl (r1.map (AR .i64)))),(48,rL r1),(49,.r (.sl (r3.map (AR .i64)))),(50,rL r3),(51,.agg [rL r1,rL r3,cZ,cZ]),(52,.r (.sl (r1.map (AR .i64)))),(53,rL r1),(54,rI 0)]) (h':=[(2,some (.box n0 25 (Ab g1))),(3,some (.box (n0+1) 28 (Ad e1))),(4,some (.box (n0+2) 25 A1)),(11,some (.box n1 25 [rL r1,rL r3,.own 129 (n1+1),cZ])),(129,some (.arr (n1+1) 41 5 (([]:List AE).map AE.row)))]) ⟨jL,jL,jL,jL,jL,jL,jL,jL,jL,jL,jL,jL,jL,jL,jL,jL,Zd⟩ ⟨.inl R,.inl R,.inl R,.inl R,.inl R,Zd⟩ nL)) wk) ?_
 intro x2 out2 i3 v8 hv8 hx1
 have h52:Gr g1 e1 r1 r3 x2 out2=some v8:=hv8; unfold Gr at h52
 refine aU (xS R (aZ (aT fun c57=>(cI R h52 (fun h53=>?_) fun h53=>?_))))
 ·refine Zc (c57 _ (aS fun K58 c58 wK58=>(Ze (aU (mM R (mA R (aZ (aU (mM R (xL BM R (mM R (aZ (Ze (BL h53 fun o9 hit9 hk12=>?_))))))))))))))
  have J12 : ∀ (out21:AJ) (i48:NN),o9=out21→K58 ⟨[(2,.ptr 2 n0 0 0),(3,.ptr 3 (n0+1) 0 0),(4,.ptr 4 (n0+2) 0 0),(5,.r (.sl (rows1.map (AR .i64)))),(6,.r (.sl (cols1.map (AR .i64)))),(7,.r (.sl (r1.map (AR .i64)))),(9,.r (.sl (r3.map (AR .i64)))),(11,.ptr 11 n1 0 0),(53,rL r1),(54,rI x2)],[(2,some (.box n0 25 (Ab g1))),(3,some (.box (n0+1) 28 (Ad e1))),(4,some (.box (n0+2) 25 A1)),(11,some (.box n1 25 [rI out21.Rows,rI out21.Cols,.own 129 (i48 0),cZ])),(129,some (.arr (i48 0) 41 5 (out21.Cells.map AE.row)))],(i48 1),256⟩:=by
   intro out21 i48 e
   have h54:=hk12 _ e
   exact c58 _ (aR (Zb h54 fun x41 ex41 h55=>(xA R ex41 (mM R (Zg (CB.mk h55 (AG [(i48 0),(i48 1)]) wk))))))
  refine Ce (fun (x39:Int) (out19:AJ) i46=>⟨[(2,.ptr 2 n0 0 0),(3,.ptr 3 (n0+1) 0 0),(4,.ptr 4 (n0+2) 0 0),(5,.r (.sl (rows1.map (AR .i64)))),(6,.r (.sl (cols1.map (AR .i64)))),(7,.r (.sl (r1.map (AR .i64)))),(9,.r (.sl (r3.map (AR .i64)))),(11,.ptr 11 n1 0 0),(12,rI x2),(53,rL r1),(54,rI x2),(58,rL r3),(59,rI x39)],[(2,some (.box n0 25 (Ab g1))),(3,some (.box (n0+1) 28 (Ad e1))),(4,some (.box (n0+2) 25 A1)),(11,some (.box n1 25 [rI out19.Rows,rI out19.Cols,.own 129 (i46 0),cZ])),(129,some (.arr (i46 0) 41 5 (out19.Cells.map AE.row)))],(i46 1),256⟩) (AG [(i3 0),(i3 1)]) hit9 wk ?_
  intro x39 out19 i46 v9 hv9 hx9
  have h56:Gl g1 e1 r1 r3 x2 x39 out19=some v9:=hv9; unfold Gl at h56
  refine aU (xS R (aZ (aT fun c62=>(cI R h56 (fun h57=>?_) fun h57=>?_))))
  ·refine Zc (c62 _ (aS fun K63 c63 wK63=>(Ze (BL h57 fun p4 hp4 hk13=>?_))))
   have J13 : ∀ (out22:AJ) (i49:NN),p4=out22→K63 ⟨[(2,.ptr 2 n0 0 0),(3,.ptr 3 (n0+1) 0 0),(4,.ptr 4 (n0+2) 0 0),(5,.r (.sl (rows1.map (AR .i64)))),(6,.r (.sl (cols1.map (AR .i64)))),(7,.r (.sl (r1.map (AR .i64)))),(9,.r (.sl (r3.map (AR .i64)))),(11,.ptr 11 n1 0 0),(12,rI x2),(53,rL r1),(54,rI x2),(58,rL r3),(59,rI x39)],[(2,some (.box n0 25 (Ab g1))),(3,some (.box (n0+1) 28 (Ad e1))),(4,some (.box (n0+2) 25 A1)),(11,some (.box n1 25 [rI out22.Rows,rI out22.Cols,.own 129 (i49 0),cZ])),(129,some (.arr (i49 0) 41 5 (out22.Cells.map AE.row)))],(i49 1),256⟩:=by
    intro out22 i49 e
    have h58:=hk13 _ e
    exact c63 _ (aR (Zb h58 fun x42 ex42 h59=>(xA R ex42 (mM R (Zg (CB.mk h59 (AG [(i49 0),(i49 1)]) wk))))))
   refine aU (mM R (mA R (aZ (aT fun c65=>(aR (mM R (mM R ?_)))))))
   refine sQ R (Dj R MA (q:=[(0,_),(1,_)]) (by exact ⟨R,R,R,iL,R,R,R,iL,Zd⟩) (cs:=[rI x2,rI x39,.r (.str []),rI 0,cZ]) (by rfl)) ?_
   refine sS R (Zp (cs:=E2) 14 R F7 R R) (Zl R R (Zh (ds:=[rI x2,rI x39,.r (.str []),rI 0,cZ]) R ED iL R iL R R R R) (aZ (c65 _ (aS fun K66 c66 wK66=>(aU (mM R (mM R (Zb hp4 fun x43 ex43 h60=>(xI BM R ex43 (xV (.int .i64 x43) AH R (sQ R (Bp R iL iL) (mM R (vM R (vM R (Zb h60 fun x44 ex44 h61=>(vQ R (BB R BM.slice (iR R) (iR R) (fun _=>R) (Ae ex44)) (vQ R (Bi (d:=.int .i64 x44) R AH (iR R) R) (vQ R (Bp R (iR R) iL) (xN R (aZ (BL h61 fun p5 hp5 hk14=>?_)))))))))))))))))))))
   have J14 : ∀ (x45:AE) (i50:NN),p5=x45→K66 ⟨[(2,.ptr 2 n0 0 0),(3,.ptr 3 (n0+1) 0 0),(4,.ptr 4 (n0+2) 0 0),(5,.r (.sl (rows1.map (AR .i64)))),(6,.r (.sl (cols1.map (AR .i64)))),(7,.r (.sl (r1.map (AR .i64)))),(9,.r (.sl (r3.map (AR .i64)))),(11,.ptr 11 n1 0 0),(12,rI x2),(13,rI x39),(14,.ptr 14 (i46 1) 0 0),(53,rL r1),(54,rI x2),(58,rL r3),(59,rI x39)],[(2,some (.box n0 25 (Ab g1))),(3,some (.box (n0+1) 28 (Ad e1))),(4,some (.box (n0+2) 25 A1)),(11,some (.box n1 25 [rI out19.Rows,rI out19.Cols,.own 129 (i46 0),cZ])),(14,some (.box (i46 1) 41 (Ai x45))),(129,some (.arr (i46 0) 41 5 (out19.Cells.map AE.row)))],(i50 0),256⟩:=by
    intro x45 i50 e
    have h62:=hk14 _ e
    refine c66 _ (aS fun K68 c68 wK68=>(aU (lF EM CK R R (xL A2 R (mM R (aZ (Ze (BL h62 fun o10 hit10 hk15=>?_))))))))
    have J15 : ∀ (x52:AE) (i55:NN),o10=x52→K68 ⟨[(2,.ptr 2 n0 0 0),(3,.ptr 3 (n0+1) 0 0),(4,.ptr 4 (n0+2) 0 0),(5,.r (.sl (rows1.map (AR .i64)))),(6,.r (.sl (cols1.map (AR .i64)))),(7,.r (.sl (r1.map (AR .i64)))),(9,.r (.sl (r3.map (AR .i64)))),(11,.ptr 11 n1 0 0),(12,rI x2),(14,.ptr 14 (i46 1) 0 0),(53,rL r1),(54,rI x2),(58,rL r3),(59,rI x39)],[(2,some (.box n0 25 (Ab g1))),(3,some (.box (n0+1) 28 (Ad e1))),(4,some (.box (n0+2) 25 A1)),(11,some (.box n1 25 [rI out19.Rows,rI out19.Cols,.own 129 (i46 0),cZ])),(14,some (.box (i46 1) 41 (Ai x52))),(129,some (.arr (i46 0) 41 5 (out19.Cells.map AE.row)))],(i55 0),256⟩:=by
     intro x52 i55 e
     have h63:=hk15 _ e
     refine c68 _ (aU (xC Bg R (Zb h63 fun r7 er7 h64=>(cL (Ot (er7)) R (sQ R (BD R iL) (aZ (cI R h64 (fun h65=>?_) fun h65=>?_)))))))
     ·exact aR (lF E1 CK R R (xC Bg R (sS R (B6 128 R A2 (f:=AE.row) (l:=([x52]:List AE)) ⟨R,⟨_,iL,R⟩,Zd⟩ R (fun _=>R) R) (Zb h65 fun l2 el2 h66=>(sS R (Cj R A2 iL R (.inr (.inl ⟨_,_,iL,R⟩)) el2) (sQ R (fB R E1 iL fR R) (Zl R R (Zh (ds:=[rI out19.Rows,rI out19.Cols,.own 129 ((i55 0)+1),cZ]) R S6 iL R iL R R R R) (Zg (wK63 _ _ wk (J13 _ (AG [((i55 0)+1),((i55 0)+2)]) (Za h66).symm))))))))))
     exact Zc (wK63 _ _ wk (J13 _ (AG [(i46 0),(i55 0)]) (Za h65).symm))
    refine Ce (fun (x48:Int) (x49:AE) i53=>⟨[(2,.ptr 2 n0 0 0),(3,.ptr 3 (n0+1) 0 0),(4,.ptr 4 (n0+2) 0 0),(5,.r (.sl (rows1.map (AR .i64)))),(6,.r (.sl (cols1.map (AR .i64)))),(7,.r (.sl (r1.map (AR .i64)))),(9,.r (.sl (r3.map (AR .i64)))),(11,.ptr 11 n1 0 0),(12,rI x2),(13,rI x39),(14,.ptr 14 (i46 1) 0 0),(53,rL r1),(54,rI x2),(58,rL r3),(59,rI x39),(94,rL e1.Cells),(95,rI x48)],[(2,some (.box n0 25 (Ab g1))),(3,some (.box (n0+1) 28 (Ad e1))),(4,some (.box (n0+2) 25 A1)),(11,some (.box n1 25 [rI out19.Rows,rI out19.Cols,.own 129 (i46 0),cZ])),(14,some (.box (i46 1) 41 (Ai x49))),(129,some (.arr (i46 0) 41 5 (out19.Cells.map AE.row)))],(i53 0),256⟩) (AG [(i50 0)]) hit10 wk ?_
    intro x48 x49 i53 v10 hv10 hx10
    have h67:EP e1 x2 x39 x48 x49=some v10:=hv10; unfold EP at h67
    refine aU (xS R (aZ (aT fun c72=>(cI R h67 (fun h68=>?_) fun h68=>?_))))
    ·refine Zc (c72 _ (aS fun K73 c73 wK73=>(Ze (BL h68 fun p6 hp6 hk16=>?_))))
     have J16 : ∀ (x53:AE) (i56:NN),p6=x53→K73 ⟨[(2,.ptr 2 n0 0 0),(3,.ptr 3 (n0+1) 0 0),(4,.ptr 4 (n0+2) 0 0),(5,.r (.sl (rows1.map (AR .i64)))),(6,.r (.sl (cols1.map (AR .i64)))),(7,.r (.sl (r1.map (AR .i64)))),(9,.r (.sl (r3.map (AR .i64)))),(11,.ptr 11 n1 0 0),(12,rI x2),(13,rI x39),(14,.ptr 14 (i46 1) 0 0),(53,rL r1),(54,rI x2),(58,rL r3),(59,rI x39),(94,rL e1.Cells),(95,rI x48)],[(2,some (.box n0 25 (Ab g1))),(3,some (.box (n0+1) 28 (Ad e1))),(4,some (.box (n0+2) 25 A1)),(11,some (.box n1 25 [rI out19.Rows,rI out19.Cols,.own 129 (i46 0),cZ])),(14,some (.box (i46 1) 41 (Ai x53))),(129,some (.arr (i46 0) 41 5 (out19.Cells.map AE.row)))],(i56 0),256⟩:=by
      intro x53 i56 e
      have h69:=hk16 _ e
      exact c73 _ (aR (Zb h69 fun x54 ex54 h70=>(xA R ex54 (mM R (Zg (CB.mk h70 (AG [(i56 0)]) wk))))))
     refine aU (mM R (mA R (aZ (aU (lF EM CK R R (mM R (Zb hp6 fun x55 ex55 h71=>(xI A2 R ex55 (sQ R (Zj R CU iL) (xV (.int .i64 x55.Row) AH R (mM R (xQ R (mM R (vF EM CK R R (vM R (vQ R (BB R A2.slice (iR R) (iR R) (fun _=>R) (fun _=>ex55)) (vQ R (Zj R DA (iR R)) (vQ R (Bi (d:=.int .i64 x55.Col) R AH (iR R) R) (vM R (vQ R (BP R (iR R) (iR R)) (xN R (aZ (cI R h71 (fun h72=>?_) fun h72=>?_)))))))))))))))))))))))
     ·refine aG [2,3,4,5,6,7,9,11,12,13,14,15,53,54,58,59,94,95] [2,3,4,11,14,129] ?_
      exact aR (lF EM CK R R (mM R (xI A2 R ex55 (xB ((Ai x55)) Bg R (Zl R R (Zh (ds:=(Ai x55)) R ED iL R iL R R R R) (Zg (wK73 _ _ wk (J16 _ (AG [(i53 0)]) (Za h72).symm))))))))
     exact Zc (wK73 _ _ wk (J16 _ (AG [(i53 0)]) (Za h72).symm))
    exact Zm (wK68 _ _ wk (J15 _ (AG [(i53 0)]) (xH hx10 h68)))
   refine aC R (fun hc16=>?_) (fun hc16=>?_)
   ·have h73:=B4 hc16 hp5
    refine aT fun c76=>(aG [2,3,4,5,6,7,9,11,12,13,14,53,54,58,59] [2,3,4,11,14,129] ?_)
    refine Wp 10 Be (by kernel_rfl) R R ?_
    refine AT.step R R R (fB R E1 iL fR R) (AT.step R R R (Zk (a:=qc g1.Cells) R CK iL R R) (AT.step R R R (Zf R iL) (AT.step R R R (Zf R iL) (AT.step R R R (BB R BM.slice iL iL (fun _=>R) (fun _=>ex43)) (AT.step R R R (Bi (d:=.int .i64 x43) R AH iL R) (AT.step R R R (Zf R iL) (AT.step R R R (Zf R iL) (Zb h73 fun x56 ex56 h74=>AT.step R R R (BB R BM.slice iL iL (fun _=>R) (fun _=>ex56)) (AT.step R R R (Bi (d:=.int .i64 x56) R AH iL R) (AT.nil (Zb h74 fun r8 er8 h75=>(sS R (CP (r:=.agg (Ai r8)) (caps:=[]) (bs:=[qc g1.Cells,rI x43,rI x56]) R iL R ⟨.inl ⟨iL,R⟩,.inl ⟨iL,R⟩,.inl ⟨iL,R⟩,Zd⟩ (fun _=>T5 (er8))) (Zl R R (Zh (ds:=(Ai r8)) R ED iL R iL R R R R) (aZ (c76 _ (aG [2,3,4,5,6,7,9,11,12,13,14,53,54,58,59] [2,3,4,11,14,129] ?_))))))))))))))))
    exact aR (mM R (mM R (sQ R (fB R CU iL fR R) (Zl R R (Zh (ds:=[rI x2,rI r8.Col,rS r8.Text,rI r8.Ref,qd r8.Attrs]) R F5 iL R iL R R R R) (sQ R (fB R DA iL fR R) (Zl R R (Zh (ds:=[rI x2,rI x39,rS r8.Text,rI r8.Ref,qd r8.Attrs]) R F5 iL R iL R R R R) (Zg (wK66 _ _ wk (J14 _ (AG [((i46 1)+1)]) (Za h75).symm)))))))))
   ·have h73:=B5 hc16 hp5
    refine Zc ?_
    exact wK66 _ _ ((by exact Aa.cv ⟨jL,jL,jL,jL,jL,jL,jL,jL,jL,jL,jL,jL,jL,jL,jL,Zd⟩ ⟨.inl R,.inl R,.inl R,.inl R,.inr (.inr ⟨_,_,_,_,R,R,⟨.inl R,.inl R,.inl R,.inl R,.inr (.inr ⟨R,R⟩),Zd⟩⟩),.inl R,Zd⟩ nL)) (J14 _ (AG [((i46 1)+1)]) (Za h73).symm)
  exact Zm (wK58 _ _ wk (J12 _ (AG [(i46 0),(i46 1)]) (xH hx9 h57)))
 exact Zm (wK6 _ _ wk (J1 _ (AG [(i3 0),(i3 1)]) (xH hx1 h53)))
theorem SB {g1 e1 r} (h:KZ g1 e1=some r):AZ Tryd.prog 3 [.agg (Ab g1),.agg (Ad e1)] (rB r):=by
 unfold KZ at h
 refine mF Tryd.func3 Tryd.ntmps3 R fun n0=>aU (sS R (A6 (cs:=(Ab g1)) 2 R iL R R) (sS R (A6 (cs:=(Ad e1)) 3 R iL R R) (mA R (aZ (aT fun c2=>(aU (Zb h fun r1 er1 h1=>(cL (VW (er1)) R (sQ R (BD R iL) (aZ (cI R h1 (fun h2=>?_) fun h2=>?_)))))))))))
 ·exact zB h2 R id
 refine Zc (c2 _ (aU (xC Cs R (xC Fm R (B7 h2 fun r2 r3 er2 h3=>(sS R (CP (r:=.tup [.agg (Ab r2),rI r3]) (caps:=[]) (bs:=[.agg (Ab g1),.agg (Ad e1)]) R iL R ⟨.inl ⟨iL,R⟩,.inl ⟨iL,R⟩,Zd⟩ (fun _=>N8 (er2))) (mM R (xX R (xX R (sS R (Zp (cs:=A1) 5 R HB R R) (Zl R R (Zh (ds:=(Ab r2)) R F9 iL R iL R R R R) (mA R (aZ (aT fun c6=>(aG [2,3,5,6] [2,3,5] ?_)))))))))))))))
 refine aR (xC Cs R (Zb h3 fun p1 ep1 h4=>(cL (Ud (ep1)) R (mA R (aZ (c6 _ (aS fun K7 c7 wK7=>(aU (mM R (xQ R (aZ (BL h4 fun p3 hp1 hk1=>?_))))))))))))
 have J1 : ∀ (p2:Int) (i1:NN),p3=p2→K7 ⟨[(2,.ptr 2 n0 0 0),(3,.ptr 3 (n0+1) 0 0),(5,.ptr 5 (n0+2) 0 0),(6,rI r3),(7,rI p2)],[(2,some (.box n0 25 (Ab g1))),(3,some (.box (n0+1) 28 (Ad e1))),(5,some (.box (n0+2) 25 (Ab r2)))],(i1 0),52⟩:=by
  intro p2 i1 e
  have h5:=hk1 _ e
  refine c7 _ (aS fun K9 c9 wK9=>(aU (mM R (xQ R (aZ (BL h5 fun p5 hp2 hk2=>?_))))))
  have J2 : ∀ (p4:Int) (i2:NN),p5=p4→K9 ⟨[(2,.ptr 2 n0 0 0),(3,.ptr 3 (n0+1) 0 0),(5,.ptr 5 (n0+2) 0 0),(6,rI r3),(7,rI p4)],[(2,some (.box n0 25 (Ab g1))),(3,some (.box (n0+1) 28 (Ad e1))),(5,some (.box (n0+2) 25 (Ab r2)))],(i2 0),52⟩:=by
   intro p4 i2 e
   have h6:=hk2 _ e
   refine c9 _ (aT fun c11=>(aU (mM R (xU R (aZ (cI R h6 (fun h7=>?_) fun h7=>?_))))))
   ·refine aS fun K13 c13 wK13=>(aR (mM R (mM R (xQ R (mM R (vQ R (Cm R Cs iL R R) ?_))))))
    refine vQ R (Dj R IQ (q:=[]) (by exact Zd) (cs:=A1) (by rfl)) ?_
    refine BL h7 fun p6 hp3 hk3=>?_
    have J3 : ∀ (x1:Bool) (i3:NN),p6=x1→K13 ⟨[(4,rB x1)],[],(i3 0),52⟩:=by
     intro x1 i3 e
     have h8:=hk3 _ e
     exact c13 _ (Zi (yB h8 R))
    refine AN.split ((decide (r3=p4)) == true) (fun hg1=>?_) (fun hg1=>?_)
    ·have h9:=B4 hg1 hp3
     refine AN.weak (by exact Wg (e':=[(2,.ptr 2 n0 0 0),(3,.ptr 3 (n0+1) 0 0),(5,.ptr 5 (n0+2) 0 0),(6,rI r3),(7,rI p4),(27,rI p4),(28,rB ((!decide (p4=0)))),(29,rI r3),(30,rI p4),(31,rB ((decide (r3=p4)))),(32,rB ((decide (r3=p4)))),(33,.agg (Ab r2)),(34,.agg A1)]) hg1 ⟨.inl R,.inl R,.inl R,.inl R,.inl R,.inl R,.inl R,.inl R,.inl R,.inl R,.inl R,.inr iL,.inr iL,Zd⟩) ?_
     refine AN.weak (by exact Aa.cv (e':=[(2,.ptr 2 n0 0 0),(3,.ptr 3 (n0+1) 0 0),(5,.ptr 5 (n0+2) 0 0),(6,rI r3),(7,rI p4),(27,rI p4),(28,rB ((!decide (p4=0)))),(29,rI r3),(30,rI p4),(31,rB ((decide (r3=p4)))),(32,rB ((decide (r3=p4)))),(33,.agg (Ab r2)),(34,.agg [rI 0,rI 0,.r (.sl []),.r (.sl [])])]) (h':=[(2,some (.box n0 25 (Ab g1))),(3,some (.box (n0+1) 28 (Ad e1))),(5,some (.box (n0+2) 25 (Ab r2)))]) ⟨jL,jL,jL,jL,jL,jL,jL,jL,jL,jL,jL,jL,.inr ⟨_,_,R,R,⟨.inl R,.inl R,.inr (.inr ⟨R,R⟩),.inr (.inr ⟨R,R⟩),Zd⟩⟩,Zd⟩ ⟨.inl R,.inl R,.inl R,Zd⟩ nL) ?_
     exact Zb h9 fun r4 er4 h10=>Wi (.one R R R) hg1 R R (Gp (r:=rB r4) (caps:=[]) (bs:=[.agg (Ab r2),.agg [rI 0,rI 0,.r (.sl []),.r (.sl [])]]) R (.inl R) R ⟨⟨_,(.inl R),.g (cs:=[.int .i64 r2.Rows,.int .i64 r2.Cols,.sl (r2.Cells.map AE.row),.sl (r2.Merges.map AC.row)]) R R⟩,⟨_,(.inl R),.g (cs:=[.int .i64 0,.int .i64 0,.sl ([].map AE.row),.sl ([].map AC.row)]) R R⟩,Zd⟩ (fun _=>Ol (er4)) R) (sQ R (Bm R iL iL) (mA R (Zg (wK13 _ _ wk (J3 _ (AG [(i2 0)]) (Za h10).symm)))))
    ·have h9:=B5 hg1 hp3
     exact Wf (.one R R R) hg1 R R (xN R (mA R (Zg (wK13 _ _ wk (J3 _ (AG [(i2 0)]) (Za h9).symm)))))
   refine Zc (c11 _ (aT fun c14=>(Zb h7 fun r5 er5 h11=>(Zb h11 fun r6 er6 h12=>?_))))
   refine rP 12 [pO 37 (rI r3),pO 38 (rB ((decide (r3=0)))),pO 39 (rB ((decide (r3=0)))),pO 40 (.whn ((decide (r3=0)) == true) (.agg (Ab g1))),pO 41 (.whn ((decide (r3=0)) == true) (.agg (Ad e1))),pO 42 (.whn ((decide (r3=0)) == true) (rB r5)),pO 43 (.whn ((decide (r3=0)) == true) (rB ((!r5)))),pO 44 (.whn ((decide (r3=0)) == true) (rB ((!r5)))),pO 45 (.whn (((decide (r3=0)) == true) && ((!r5) == false)) (.agg (Ab r2))),pO 46 (.whn (((decide (r3=0)) == true) && ((!r5) == false)) (.agg (Ab g1))),pO 47 (.whn (((decide (r3=0)) == true) && ((!r5) == false)) (.agg (Ad e1))),pO 48 (.whn (((decide (r3=0)) == true) && ((!r5) == false)) (.agg (Ab r6)))] Be R (by exact ⟨oB [(6,rI r3)] [] (Zf R (.inl R)),oB [(37,rI r3)] [] (BP R (.inl R) (.inl R)),oB [(38,rB ((decide (r3=0))))] [] (Zf R (.inl R)),oG [(2,.ptr 2 n0 0 0),(39,rB ((decide (r3=0))))] [(2,some (.box n0 25 (Ab g1)))] (fun _ _=>R) (Cm R Cs (.inl R) R R),oG [(3,.ptr 3 (n0+1) 0 0),(39,rB ((decide (r3=0))))] [(3,some (.box (n0+1) 28 (Ad e1)))] (fun _ _=>R) (Cm R Fm (.inl R) R R),oH (fun _=>[(39,rB ((decide (r3=0)))),(40,.whn ((decide (r3=0)) == true) (.agg (Ab g1))),(41,.whn ((decide (r3=0)) == true) (.agg (Ad e1)))]) (fun _=>[]) (fun _ _=>R) (fun G1 e h' n=>Gp (r:=rB r5) (caps:=[]) (bs:=[.agg (Ab g1),.agg (Ad e1)]) R (.inl R) R ⟨⟨_,(.inr ⟨_,(by exact id),R⟩),.g (cs:=[.int .i64 g1.Rows,.int .i64 g1.Cols,.sl (g1.Cells.map AE.row),.sl (g1.Merges.map AC.row)]) R R⟩,⟨_,(.inr ⟨_,(by exact id),R⟩),.g (cs:=[.sl (e1.Rows.map AI.row),.sl (e1.Cols.map AI.row),.sl (e1.Cells.map AE.row),.sl (e1.Split.map AC.row),.sl (e1.Merge.map AC.row)]) R R⟩,Zd⟩ (fun hg=>VE (Ae er5 hg)) R),oG [(39,rB ((decide (r3=0)))),(42,.whn ((decide (r3=0)) == true) (rB r5))] [] (fun _ _=>R) (BD R (.inr ⟨_,(by exact id),R⟩)),oG [(39,rB ((decide (r3=0)))),(43,.whn ((decide (r3=0)) == true) (rB ((!r5))))] [] (fun _ _=>R) (Zf R (.inr ⟨_,(by exact id),R⟩)),oG [(5,.ptr 5 (n0+2) 0 0),(44,.whn ((decide (r3=0)) == true) (rB ((!r5))))] [(5,some (.box (n0+2) 25 (Ab r2)))] (fun _ _=>R) (Cm R Cs (.inl R) R R),oG [(2,.ptr 2 n0 0 0),(44,.whn ((decide (r3=0)) == true) (rB ((!r5))))] [(2,some (.box n0 25 (Ab g1)))] (fun _ _=>R) (Cm R Cs (.inl R) R R),oG [(3,.ptr 3 (n0+1) 0 0),(44,.whn ((decide (r3=0)) == true) (rB ((!r5))))] [(3,some (.box (n0+1) 28 (Ad e1)))] (fun _ _=>R) (Cm R Fm (.inl R) R R),oH (fun _=>[(44,.whn ((decide (r3=0)) == true) (rB ((!r5)))),(46,.whn (((decide (r3=0)) == true) && ((!r5) == false)) (.agg (Ab g1))),(47,.whn (((decide (r3=0)) == true) && ((!r5) == false)) (.agg (Ad e1)))]) (fun _=>[]) (fun _ _=>R) (fun G1 e h' n=>CP (r:=.agg (Ab r6)) (caps:=[]) (bs:=[.agg (Ab g1),.agg (Ad e1)]) R (.inl R) R ⟨.inl ⟨(.inr ⟨_,(by exact id),R⟩),R⟩,.inl ⟨(.inr ⟨_,(by exact id),R⟩),R⟩,Zd⟩ (fun hg=>Rc (Ae er6 hg))),Zd⟩) fun G1 n1=>?_
   refine DN [2,3,5,6,7,27,28,37,38,39,40,41,42,43,44,45,46,47,48] [2,3,5] ?_
   exact Zb h12 fun r7 er7 h13=>AN.stepW (.two R R R) R R (Gp (r:=rB r7) (caps:=[]) (bs:=[.agg (Ab r2),.agg (Ab r6)]) R iL R ⟨⟨_,(iR R),.g (cs:=[.int .i64 r2.Rows,.int .i64 r2.Cols,.sl (r2.Cells.map AE.row),.sl (r2.Merges.map AC.row)]) R R⟩,⟨_,(iR R),.g (cs:=[.int .i64 r6.Rows,.int .i64 r6.Cols,.sl (r6.Cells.map AE.row),.sl (r6.Merges.map AC.row)]) R R⟩,Zd⟩ (fun hg=>Ol (Ae er7 hg)) R) (vQ R (Ep R (iR R) (iR R)) (xN R (mA R (aZ (c14 _ (Zi (yB h13 R)))))))
  refine aC R (fun hc3=>?_) (fun hc3=>?_)
  ·have h14:=B4 hc3 hp2
   exact aR (xC Cs R (xC Fm R (Zb h14 fun p7 ep7 h15=>(cL (Tq (ep7)) R (mA R (Zg (wK9 _ _ wk (J2 _ (AG [(i1 0)]) (Za h15).symm))))))))
  ·have h14:=B5 hc3 hp2
   exact Zc (wK9 _ _ wk (J2 _ (AG [(i1 0)]) (Za h14).symm))
 refine aC R (fun hc4=>?_) (fun hc4=>?_)
 ·have h16:=B4 hc4 hp1
  exact aR (xC Fm R (Zb h16 fun p8 ep8 h17=>(cL (T4 (ep8)) R (mA R (Zg (wK7 _ _ wk (J1 _ (AG [(n0+3)]) (Za h17).symm)))))))
 ·have h16:=B5 hc4 hp1
  exact Zc (wK7 _ _ wk (J1 _ (AG [(n0+3)]) (Za h16).symm))
end Go.Proofs.YtojmbndlghbpjaaDoor.Al
