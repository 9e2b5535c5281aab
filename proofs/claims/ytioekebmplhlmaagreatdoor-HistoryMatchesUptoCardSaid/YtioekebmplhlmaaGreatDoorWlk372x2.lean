/- Walks, as printed. -/
import Derived.Test.YtioekebmplhlmaaGreatDoorWlk372
import Derived.Test.YtioekebmplhlmaaGreatDoorProg
set_option linter.all false
set_option maxHeartbeats 4000000
set_option maxRecDepth 20000
set_option linter.unusedVariables false
namespace Go.Proofs.YtioekebmplhlmaaGreatDoor.Al
open Go.Proofs
theorem Sq {w1:Ah} {fl1:List AE} {i1:Int} {k1:Int} {r:Int × Int} {gb1000:Nat} {ga1001:Nat} {gb1002:Nat} {gw1002:Nat} {gc1002:Nat} (h:GH w1 fl1 i1 k1=some r):A1 Tryz.prog 16 3 [pT 1000 gb1000,rI i1,rI k1] (Ad gb1000 ga1001 (w1.versions.map (AJ.row gc1002)) (.fam gb1002 gw1002 gc1002 71 (fl1.map AE.row))) (fun rr h'=>∃ (i:Nat→Nat),rr = .tup [rI r.1,rI r.2]∧h'=(Ad gb1000 ga1001 (w1.versions.map (AJ.row gc1002)) (.fam gb1002 gw1002 gc1002 71 (fl1.map AE.row)))):=by
 unfold GH at h
 refine CR Tryz.func16 R R Tryz.ntmps16 (Zr R) fun n0=>aU (mA R (AD R (aT fun c2=>(AI R (mM R (sQ R (Jc R iL iL) (xS R (mM R (vM R (vM R (vQ R (Mx R (iR R) (iR R)) (vM R (vQ R (ZA (ob:=.box _ _ _) R (iR R) fR R) (vQ R (fB R Cy (iR R) fR R) (vQ R (Zg (a:=.own 1001 ga1001) R DQ (iR R) R R) (vQ R (Cj R B6.slice (iR R) R) (vQ R (Bf R (iR R) (iR R)) (xO R (aZ (cI R h (fun h1=>?_) fun h1=>?_))))))))))))))))))))
 ·refine aT fun c4=>(aG [] [1000,1001,1002] ?_)
  refine aR (mA R (mA R (oZ c4 ?_)))
  exact Zh (BG.mk (s':=⟨[(6,rI 0),(7,rI 2)],(Ad gb1000 ga1001 (w1.versions.map (AJ.row gc1002)) (.fam gb1002 gw1002 gc1002 71 (fl1.map AE.row))),n0,50⟩) wk (Zx (fun (r:Int × Int) rr h'=>∃ (i:Nat→Nat),rr = .tup [rI r.1,rI r.2]∧h'=(Ad gb1000 ga1001 (w1.versions.map (AJ.row gc1002)) (.fam gb1002 gw1002 gc1002 71 (fl1.map AE.row)))) h1 (by exact ⟨.tup [rI 0,rI 2],(Ad gb1000 ga1001 (w1.versions.map (AJ.row gc1002)) (.fam gb1002 gw1002 gc1002 71 (fl1.map AE.row))),⟨_,R,⟨R,R,Za⟩⟩,⟨.inr R,.inr R,.inr R,Za⟩,R,R,AG [],R,R⟩)))
 refine Zc (c2 _ (aT fun c5=>(aG [0,1,2] [1000,1001,1002] ?_)))
 refine Af R (mM R (Zb h1 fun a1 ea1 h2=>?_))
 refine Zz [1000,1001,1002] (hc:=(Ad gb1000 ga1001 (w1.versions.map (AJ.row gc1002)) (.fam gb1002 gw1002 gc1002 71 (fl1.map AE.row)))) (bs:=[pT 1000 gb1000,rI i1]) (caps:=[]) R R R R iL R ⟨.inl ⟨iL,R⟩,.inl ⟨iL,R⟩,Za⟩ ⟨R,R,R,R,R,R,R,R,R,Za⟩ (by decide) (PE ea1) ?_
 intro i2 n1
 refine BJ [0,1,2,26,27,28] [1000,1001,1002] ?_
 refine mM R (mM R (Zb h2 fun b1 eb1 h3=>?_))
 refine Zz [1000,1001,1002] (hc:=(Ad gb1000 ga1001 (w1.versions.map (AJ.row gc1002)) (.fam gb1002 gw1002 gc1002 71 (fl1.map AE.row)))) (bs:=[pT 1000 gb1000,rI k1]) (caps:=[]) R R R R iL R ⟨.inl ⟨iL,R⟩,.inl ⟨iL,R⟩,Za⟩ ⟨R,R,R,R,R,R,R,R,R,Za⟩ (by decide) (PE eb1) ?_
 intro i3 n2
 refine BJ [0,1,2,26,27,28,29,30,31] [1000,1001,1002] ?_
 refine mA R (AD R (c5 _ (aS fun K6 c6 wK6=>(AI R (mM R (sQ R (Jc R iL iL) (AD R (Ze (Aw h3 fun o1 hit1 hk1 he1=>?_)))))))))
 have J1 : ∀ (u2:Unit) (i8:NN),o1 = .nrm u2→K6 ⟨[],(Ad gb1000 ga1001 (w1.versions.map (AJ.row gc1002)) (.fam gb1002 gw1002 gc1002 71 (fl1.map AE.row))),(i8 0),50⟩:=by
  intro u2 i8 e
  have h4:=hk1 _ e
  refine c6 _ (aU (mA R (AD R ?_)))
  exact Zh (BG.mk (s':=⟨[(6,rI 0),(7,rI 7)],(Ad gb1000 ga1001 (w1.versions.map (AJ.row gc1002)) (.fam gb1002 gw1002 gc1002 71 (fl1.map AE.row))),(i8 0),50⟩) wk (Zx (fun (r:Int × Int) rr h'=>∃ (i:Nat→Nat),rr = .tup [rI r.1,rI r.2]∧h'=(Ad gb1000 ga1001 (w1.versions.map (AJ.row gc1002)) (.fam gb1002 gw1002 gc1002 71 (fl1.map AE.row)))) h4 (by exact ⟨.tup [rI 0,rI 7],(Ad gb1000 ga1001 (w1.versions.map (AJ.row gc1002)) (.fam gb1002 gw1002 gc1002 71 (fl1.map AE.row))),⟨_,R,⟨R,R,Za⟩⟩,⟨.inr R,.inr R,.inr R,Za⟩,R,R,AG [],R,R⟩)))
 refine Zo (fun (n4:Int) i6=>⟨[(8,.r (.sl (a1.map Dd))),(9,.r (.sl (b1.map Dd))),(10,rI n4)],(Ad gb1000 ga1001 (w1.versions.map (AJ.row gc1002)) (.fam gb1002 gw1002 gc1002 71 (fl1.map AE.row))),(i6 0),50⟩) (AG [n2]) hit1 wk ?_
 intro n4 i6 v1 hv1 hx1
 have h5:Hv a1 b1 n4=some v1:=hv1; unfold Hv at h5
 refine aT fun c9=>(AI R (sQ R (Bf R iL iL) (aZ (cI R h5 (fun h6=>?_) fun h6=>?_))))
 ·refine Zc (c9 _ (aT fun c11=>(Ze (AI R (mM R (Zb h6 fun x1 ex1 h7=>(xI Ih R ex1 (xV (.bool x1) NS R (mM R (vM R (vM R (Zb h7 fun x2 ex2 h8=>(vQ R (Zt R Ih.slice (iR R) (iR R) (fun _=>R) (AZ ex2)) (vQ R (BR (d:=.bool x2) R NS (iR R) R) (xN R (aZ (cI R h8 (fun h9=>?_) fun h9=>?_)))))))))))))))))
  ·refine aT fun c13=>(aG [10] [1000,1001,1002] ?_)
   refine Af R (mA R (mA R (oZ c13 ?_)))
   exact Zh (BG.mk (s':=⟨[(6,rI n4),(7,rI 0)],(Ad gb1000 ga1001 (w1.versions.map (AJ.row gc1002)) (.fam gb1002 gw1002 gc1002 71 (fl1.map AE.row))),(i6 0),50⟩) wk (Zx (fun (r:Int × Int) rr h'=>∃ (i:Nat→Nat),rr = .tup [rI r.1,rI r.2]∧h'=(Ad gb1000 ga1001 (w1.versions.map (AJ.row gc1002)) (.fam gb1002 gw1002 gc1002 71 (fl1.map AE.row)))) (he1 _ (xH hx1 h9)) (by exact ⟨.tup [rI n4,rI 0],(Ad gb1000 ga1001 (w1.versions.map (AJ.row gc1002)) (.fam gb1002 gw1002 gc1002 71 (fl1.map AE.row))),⟨_,R,⟨R,R,Za⟩⟩,⟨.inr R,.inr R,.inr R,Za⟩,R,R,AG [],R,R⟩)))
  exact Zc (c11 _ (Af R (Zb h9 fun n6 en6 h10=>(sQ R (BT R iL iL (fun _=>en6)) (mA R (Zi (Zm h10 (AG [(i6 0)]) wk)))))))
 exact Zk (wK6 _ _ wk (J1 _ (AG [(i6 0)]) (xH hx1 h6)))
theorem SX {self:(List (List Int))→Int→Int→Option Bool} (hself : ∀ {from1:List (List Int)} {k1:Int} {n1:Int} {r:Bool},self from1 k1 n1=some r→AX Tryz.prog 18 [.r (.sl (from1.map (BE (AL .i64)))),rI k1,rI n1] (rB r)) {from1:List (List Int)} {k1:Int} {n1:Int} {r:Bool} (h:GA self from1 k1 n1=some r):AX Tryz.prog 18 [.r (.sl (from1.map (BE (AL .i64)))),rI k1,rI n1] (rB r):=by
 unfold GA at h
 refine mF Tryz.func18 Tryz.ntmps18 R fun n0=>aU (AD R (aT fun c2=>(AI R (mM R (xQ R (aZ (cI R h (fun h1=>?_) fun h1=>?_)))))))
 ·exact zB h1 R id
 refine Zc (c2 _ (aS fun K5 c5 wK5=>(AI R (mM R (Zb h1 fun x1 ex1 h2=>(xI F9 R ex1 (xV (.sl (x1.map (AL .i64))) Ga R (xL A2 R (mM R (aZ (Ze (Aw h2 fun o1 hit1 hk1 he1=>?_))))))))))))
 have J1 : ∀ (u2:Unit) (i5:NN),o1 = .nrm u2→K5 ⟨[],[],(i5 0),30⟩:=by
  intro u2 i5 e
  have h3:=hk1 _ e
  exact c5 _ (zB h3 R id)
 refine Zo (fun (x3:Int) i3=>⟨[(0,.r (.sl (from1.map (BE (AL .i64))))),(1,rI k1),(2,rI n1),(15,rL x1),(16,rI x3)],[],(i3 0),30⟩) (AG [n0]) hit1 wk ?_
 intro x3 i3 v1 hv1 hx1
 have h4:FA from1 n1 self x1 x3=some v1:=hv1; unfold FA at h4
 refine aU (xS R (Ak fun c9=>(cI R h4 (fun h5=>?_) fun h5=>?_)))
 ·refine Zc (c9 _ (aT fun c10=>(Ze (AI R (AD R (AI R (mM R (mM R (xI F9 R ex1 (xV (.sl (x1.map (AL .i64))) Ga R (mM R (Zb h5 fun x5 ex5 h6=>(xI A2 R ex5 (xV (.int .i64 x5) AH R (mM R (Zb h6 fun r1 er1 h7=>(cL (hself (er1)) R (aZ (cI R h7 (fun h8=>?_) fun h8=>?_)))))))))))))))))))
  ·exact zB (he1 _ (xH hx1 h8)) R id
  refine Zc (c10 _ (aF [0,1,2,15,16] ?_))
  exact aR (Zb h8 fun x6 ex6 h9=>(xA R ex6 (mM R (Zi (Zm h9 (AG [(i3 0)]) wk)))))
 exact Zk (wK5 _ _ wk (J1 _ (AG [(i3 0)]) (xH hx1 h5)))
theorem Xu (n:Nat) : ∀ {from1:List (List Int)} {k1:Int} {n1:Int} {r:Bool},Cq n from1 k1 n1=some r→AX Tryz.prog 18 [.r (.sl (from1.map (BE (AL .i64)))),rI k1,rI n1] (rB r):=by
 induction n with
 | zero=>intro from1 k1 n1 r h; exact absurd (show (none:Option (Bool))=some r from h) (by simp)
 | succ n ih=>intro from1 k1 n1 r h; exact SX (self:=fun from1 k1 n1=>Cq n from1 k1 n1) (fun h2=>ih h2) h
theorem Pu {f k1 n1 r} (h:HY f k1 n1=some r):AX Tryz.prog 18 [.r (.sl (f.map (BE (AL .i64)))),rI k1,rI n1] (rB r):=by
 unfold HY at h
 by_cases hh : ∃ n r,Cq n f k1 n1=some r
 ·rw [dif_pos hh] at h; exact Xu _ h
 ·rw [dif_neg hh] at h; cases h
theorem Xg {l1 b p i1 k1 r} (h:LY l1 b p i1 k1=some r):AX Tryz.prog 3 [qg l1,.r (.sl (b.map As)),.r (.sl (p.map (BE (AL .i64)))),rI i1,rI k1] (rB r):=by
 unfold LY at h
 refine mF Tryz.func3 Tryz.ntmps3 R fun n0=>aU (AD R (aT fun c2=>(aU (Zb h fun r1 er1 h1=>(cL (V2 (er1)) R (sQ R (Zp R iL) (aZ (cI R h1 (fun h2=>?_) fun h2=>?_))))))))
 ·exact zB h2 R id
 refine Zc (c2 _ (aT fun c5=>(aR (Zb h2 fun u1 eu1 h3=>?_))))
 refine Zz [35] (hc:=[]) (bs:=[]) (caps:=[]) R R R R iL R Za Za (by decide) (PF eu1) ?_
 intro i2 n1
 refine BJ [0,1,2,3,4,10,33,34,35] [35] ?_
 refine AK.weak (Zs (Rc 4000 71 R) (by exact Ac.cv (e':=[(0,qg l1),(1,.r (.sl (b.map As))),(2,.r (.sl (p.map (BE (AL .i64))))),(3,rI i1),(4,rI k1),(10,rB false),(33,rB r1),(34,rB ((!r1))),(35,pT 35 (i2 0))]) (h':=[bX 35 (i2 0) 53 [cZ],(4000,some (.fam n1 n1 0 71 (([]:List AE).map AE.row)))]) ⟨jL,jL,jL,jL,jL,jL,jL,jL,jL,Za⟩ ⟨.inl R,.inl R,Za⟩ nL)) ?_
 refine AD R (c5 _ (aU (AD R (aU (AD R (aU (AD R (aS fun K9 c9 wK9=>(aU (AD R (Ze (RR h3 fun o1 hit1 hk1 he1=>?_))))))))))))
 have J1 : ∀ (h7:Ah) (kept4:List AP) (called4:List (List UInt8)) (from4:List (List Int)) (fl4:List AE) (i7:NN),o1 = .nrm (h7,kept4,called4,from4,fl4)→K9 ⟨[(3,rI i1),(4,rI k1),(11,pT 35 (i2 0)),(12,.own 5012 (i7 1)),(13,.own 5013 (i7 2)),(14,.own 5014 (i7 3))],(GI (i2 0) (i7 0) (h7.versions.map (AJ.row (i7 5))) (.fam n1 (i7 4) (i7 5) 71 (fl4.map AE.row)) (i7 1) kept4 (i7 2) (called4.map As) (i7 3) (from4.map (BE (AL .i64)))),(i7 6),274⟩:=by
  intro h7 kept4 called4 from4 fl4 i7 e
  have h8:=hk1 _ _ _ _ _ e
  refine c9 _ (aT fun c11=>(Af R (Zb h8 fun got1 egot1 h9=>?_)))
  refine Zz [35,3350,4000] (hc:=(Ad (i2 0) (i7 0) (h7.versions.map (AJ.row (i7 5))) (.fam n1 (i7 4) (i7 5) 71 (fl4.map AE.row)))) (bs:=[pT 1000 (i2 0)]) (caps:=[]) R R R R iL R ⟨.inl ⟨iL,R⟩,Za⟩ ⟨R,R,R,R,R,R,R,R,R,Za⟩ (by decide) (WX egot1) ?_
  intro i8 n5
  refine BJ [3,4,11,12,13,14,120,121] [35,3350,4000,5012,5013,5014] ?_
  refine AD R (c11 _ (aT fun c12=>(aS fun K13 c13 wK13=>(Af R (xL Cf R (mM R (sQ R (Cj R Cf.slice iL R) (xU R (mM R (vM R (BL h9 fun p1 hp1 hk2=>?_)))))))))))
  have J2 : ∀ (x1:Bool) (i9:NN),p1=x1→K13 ⟨[(3,rI i1),(4,rI k1),(11,pT 35 (i2 0)),(12,.own 5012 (i7 1)),(13,.own 5013 (i7 2)),(14,.own 5014 (i7 3)),(20,.r (.sl (got1.map As))),(134,rB x1)],(GI (i2 0) (i7 0) (h7.versions.map (AJ.row (i7 5))) (.fam n1 (i7 4) (i7 5) 71 (fl4.map AE.row)) (i7 1) kept4 (i7 2) (called4.map As) (i7 3) (from4.map (BE (AL .i64)))),(i9 0),274⟩:=by
   intro x1 i9 e
   have h10:=hk2 _ e
   refine c13 _ (cI R h10 (fun h11=>?_) fun h11=>?_)
   ·exact zB h11 R id
   refine Zc (c12 _ (aS fun K15 c15 wK15=>(AI R (sQ R (Cj R Cf.slice iL R) (mM R (aZ (Ze (Aw h11 fun o2 hit2 hk3 he3=>?_))))))))
   have J3 : ∀ (u4:Unit) (i14:NN),o2 = .nrm u4→K15 ⟨[(3,rI i1),(4,rI k1),(11,pT 35 (i2 0)),(12,.own 5012 (i7 1)),(14,.own 5014 (i7 3))],[bX 35 (i2 0) 53 [.own 3350 (i7 0)],aX 3350 (i7 0) 60 3 (h7.versions.map (AJ.row (i7 5))),(4000,some (.fam n1 (i7 4) (i7 5) 71 (fl4.map AE.row))),aX 5012 (i7 1) 34 1 (kept4.map AP.row),aX 5014 (i7 3) 28 1 (from4.map (BE (AL .i64)))],(i14 0),274⟩:=by
    intro u4 i14 e
    have h12:=hk3 _ e
    refine c15 _ (aT fun c17=>(Af R (mM R (mM R (Ee h12 fun r2 r3 er2 h13=>?_)))))
    refine Zz [35,3350,4000] (hc:=(Ad (i2 0) (i7 0) (h7.versions.map (AJ.row (i7 5))) (.fam n1 (i7 4) (i7 5) 71 (fl4.map AE.row)))) (bs:=[pT 1000 (i2 0),rI i1,rI k1]) (caps:=[]) R R R R iL R ⟨.inl ⟨iL,R⟩,.inl ⟨iL,R⟩,.inl ⟨iL,R⟩,Za⟩ ⟨R,R,R,R,R,R,R,R,R,Za⟩ (by decide) (Sq er2) ?_
    intro i15 n6
    refine BJ [3,4,11,12,14,207,208,209,210] [35,3350,4000,5012,5014] ?_
    refine mM R (xX R (xX R (mA R (AD R (c17 _ (aT fun c18=>(AI R (mM R (sQ R (Cj R DA.slice iL R) (Zb h13 fun x5 ex5 h14=>(sQ R (BT R iL iL (fun _=>ex5)) (Zb h14 fun r4 er4 h15=>(cL (B9 (er4)) R (sQ R (Zp R iL) (mM R (vM R (vM R (vQ R (Cj R DA.slice (iR R) R) (vQ R (BT R (iR R) iL (fun _=>ex5)) (Zb h15 fun r5 er5 h16=>vL (fun hg=>B9 (AZ er5 hg)) R (vQ R (Zp R (iR R)) (xO R (aZ (cI R h16 (fun h17=>?_) fun h17=>?_))))))))))))))))))))))))
    ·refine aT fun c20=>(aG [11,12,28,29] [35,3350,4000,5012] ?_)
     refine Af R (mM R (sQ R (Cj R DA.slice iL R) (Ee h17 fun r6 r7 er6 h18=>?_)))
     refine Zz [35,3350,4000] (hc:=(Ad (i2 0) (i7 0) (h7.versions.map (AJ.row (i7 5))) (.fam n1 (i7 4) (i7 5) 71 (fl4.map AE.row)))) (bs:=[pT 1000 (i2 0),rL kept4]) (caps:=[]) R R R R iL R ⟨.inl ⟨iL,R⟩,.inl ⟨iL,R⟩,Za⟩ ⟨R,R,R,R,R,R,R,R,R,Za⟩ (by decide) (OF er6) ?_
     intro i16 n7
     refine BJ [11,12,28,29,228,229,230,231] [35,3350,4000,5012] ?_
     refine mM R (xX R (xX R (sS R (Zw (cs:=[cZ]) 30 R Gz R R) (Zl R R (Zj (ds:=[qe r6.Nodes]) R Gu iL R iL R R R R) (AD R (c20 _ (aT fun c21=>(aG [28,29,31] [4000] ?_))))))))
     exact Af R (xQ R (mM R (vM R (vQ R (Zq R (iR R) iL) (xN R (mM R (vM R (vQ R (Zq R (iR R) iL) (xN R (AD R (c21 _ (Zh (yB h18 R)))))))))))))
    refine Zc (c18 _ (aS fun K22 c22 wK22=>(aT fun c23=>(aG [3,4,14,28,29] [4000,5014] ?_))))
    refine Af R (mM R (sQ R (Jc R iL iL) (AD R (c23 _ (Ze (Aw h17 fun o3 hit3 hk4 he4=>?_))))))
    have J4 : ∀ (u6:Unit) (i21:NN),o3 = .nrm u6→K22 ⟨[(28,rI r2),(29,rI r3)],[(4000,some (.fam n1 (i7 4) (i7 5) 71 (fl4.map AE.row)))],(i21 0),274⟩:=by
     intro u6 i21 e
     have h19:=hk4 _ e
     exact c22 _ (AI R (xQ R (mM R (vM R (vQ R (Zq R (iR R) iL) (xN R (AD R (Zh (yB h19 R)))))))))
    refine Zo (fun (n9:Int) i19=>⟨[(3,rI i1),(4,rI k1),(14,.own 5014 (i7 3)),(28,rI r2),(29,rI r3),(32,rI n9)],[(4000,some (.fam n1 (i7 4) (i7 5) 71 (fl4.map AE.row))),aX 5014 (i7 3) 28 1 (from4.map (BE (AL .i64)))],(i19 0),274⟩) (AG [n6]) hit3 wk ?_
    intro n9 i19 v1 hv1 hx3
    have h20:G4 i1 k1 from4 r2 r3 n9=some v1:=hv1; unfold G4 at h20
    refine aT fun c25=>(AI R (sQ R (Bf R iL iL) (aZ (cI R h20 (fun h21=>?_) fun h21=>?_))))
    ·refine Zc (c25 _ (aT fun c27=>(Ze (AI R (mM R (mM R (Zb h21 fun r8 er8 h22=>(cL (Pu (er8)) R (mM R (vM R (vM R (vM R (Zb h22 fun r9 er9 h23=>vL (fun hg=>Pu (AZ er9 hg)) (hx:=⟨⟨_,iR rfl,.one (.own rfl)⟩,⟨_,iR rfl,.d rfl⟩,⟨_,iR rfl,.d rfl⟩,trivial⟩) R (xN R (aZ (cI R h23 (fun h24=>?_) fun h24=>?_))))))))))))))))
     ·refine aT fun c29=>(aG [28,29,32] [4000] ?_)
      exact Af R (xQ R (mM R (vM R (vM R (vQ R (Zq R (iR R) (iR R)) (xN R (AD R (c29 _ (Zh (yB (he4 _ (xH hx3 h24)) R))))))))))
     exact Zc (c27 _ (Af R (Zb h24 fun n11 en11 h25=>(sQ R (BT R iL iL (fun _=>en11)) (mA R (Zi (Zm h25 (AG [(i19 0)]) wk)))))))
    exact Zk (wK22 _ _ wk (J4 _ (AG [(i19 0)]) (xH hx3 h21)))
   refine Zo (fun (x3:Int) i12=>⟨[(3,rI i1),(4,rI k1),(11,pT 35 (i2 0)),(12,.own 5012 (i7 1)),(13,.own 5013 (i7 2)),(14,.own 5014 (i7 3)),(20,.r (.sl (got1.map As))),(136,rL called4),(137,rI x3)],(GI (i2 0) (i7 0) (h7.versions.map (AJ.row (i7 5))) (.fam n1 (i7 4) (i7 5) 71 (fl4.map AE.row)) (i7 1) kept4 (i7 2) (called4.map As) (i7 3) (from4.map (BE (AL .i64)))),(i12 0),274⟩) (AG [(i9 0)]) hit2 wk ?_
   intro x3 i12 v2 hv2 hx2
   have h26:IG h7 kept4 called4 from4 fl4 got1 x3=some v2:=hv2; unfold IG at h26
   refine aU (xS R (Ak fun c31=>(cI R h26 (fun h27=>?_) fun h27=>?_)))
   ·refine Zc (c31 _ (aT fun c32=>(Ze (AI R (AD R (aT fun c34=>(Af R (mM R (Ee h27 fun r10 r11 er10 h28=>?_)))))))))
    refine Zz [35,3350,4000] (hc:=(Ad (i2 0) (i7 0) (h7.versions.map (AJ.row (i7 5))) (.fam n1 (i7 4) (i7 5) 71 (fl4.map AE.row)))) (bs:=[pT 1000 (i2 0),rI x3]) (caps:=[]) R R R R iL R ⟨.inl ⟨iL,R⟩,.inl ⟨iL,R⟩,Za⟩ ⟨R,R,R,R,R,R,R,R,R,Za⟩ (by decide) (OF er10) ?_
    intro i22 n12
    refine BJ [3,4,11,12,13,14,20,21,136,137,138,139,141,142,143] [35,3350,4000,5012,5013,5014] ?_
    refine mM R (xX R (xX R (sS R (Zw (cs:=[cZ]) 22 R Gz R R) (Zl R R (Zj (ds:=[qe r10.Nodes]) R Gu iL R iL R R R R) (AD R (c34 _ (aT fun c35=>(Af R (mM R (mM R (Zb h28 fun x6 ex6 h29=>(sQ R (Cb R Cf.slice iL R iL (fun _=>ex6)) (sQ R (GJ (d:=.str x6) R A3 iL fR (fun _=>ex6) R) (Ee h29 fun r12 r13 er12 h30=>?_))))))))))))))
    refine Zz [35,3350,4000] (hc:=(Ad (i2 0) (i7 0) (h7.versions.map (AJ.row (i7 5))) (.fam n1 (i7 4) (i7 5) 71 (fl4.map AE.row)))) (bs:=[pT 1000 (i2 0),rS x6]) (caps:=[]) R R R R iL R ⟨.inl ⟨iL,R⟩,.inl ⟨iL,R⟩,Za⟩ ⟨R,R,R,R,R,R,R,R,R,Za⟩ (by decide) (WN er12) ?_
    intro i23 n13
    refine BJ [3,4,11,12,13,14,20,21,22,23,136,137,138,139,140,141,142,143,144,145,147,148,149,151,152] [22,35,3350,4000,5012,5013,5014] ?_
    refine mM R (xX R (xX R (mA R (AD R (c35 _ (aT fun c36=>(aG [3,4,11,12,13,14,20,21,22,23,24,25,136,137] [22,35,3350,4000,5012,5013,5014] ?_)))))))
    refine Af R (mM R (Ee h30 fun r14 r15 er14 h31=>?_))
    refine Zz [35,3350,4000] (hc:=(Ad (i2 0) (i7 0) (h7.versions.map (AJ.row (i7 5))) (.fam n1 (i7 4) (i7 5) 71 (fl4.map AE.row)))) (bs:=[pT 1000 (i2 0),rI x3]) (caps:=[]) R R R R iL R ⟨.inl ⟨iL,R⟩,.inl ⟨iL,R⟩,Za⟩ ⟨R,R,R,R,R,R,R,R,R,Za⟩ (by decide) (VB er14) ?_
    intro i24 n14
    refine BJ [3,4,11,12,13,14,20,21,22,23,24,25,136,137,156,157,158] [22,35,3350,4000,5012,5013,5014] ?_
    refine mM R (xX R (xX R (mA R (AD R (c36 _ (aT fun c37=>?_))))))
    refine Zv Az (by kernel_rfl) ?_
    refine qP R (Zd R iL) (qP R (Zd R iL) (Zb h31 fun x7 ex7 h32=>(qP R (Zt R Cf.slice iL iL (fun _=>R) (fun _=>ex7)) (qP R (BR (d:=.str x7) R A3 iL R) (qP R (Zd R iL) (qP R (Zd R iL) (qP R (Cb R Cf.slice iL R iL (fun _=>ex6)) (qP R (GJ (d:=.str x6) R A3 iL fR (fun _=>ex6) R) (qP R (DZ R iL iL) (qP R (Zd R iL) (qO R (Zd R iL) (qO R (Ba R (iR R) iL) (qP R (Bp R iL (iR R)) (qP R (Zd R iL) (qO R (Cn R CU iL R R) (qO R (Zd R iL) (qO R (Zd R iL) (Zb h32 fun x8 ex8 h33=>qO R (Cb R DA.slice (iR R) R (iR R) (AZ ex8)) (qO R (HQ (cs:=[qe x8.Nodes]) R CU (iR R) fR (AZ ex8) R) (Zb h33 fun r16 er16 h34=>Ff (.one R R R) R R (r:=rB r16) (caps:=[]) (bs:=[.agg [qe r10.Nodes],.agg [qe x8.Nodes]]) R iL R ⟨⟨_,(iR R),.g (cs:=[.sl (r10.Nodes.map AE.row)]) R R⟩,⟨_,(iR R),.g (cs:=[.sl (x8.Nodes.map AE.row)]) R R⟩,Za⟩ (fun hg=>M5 (AZ er16 hg)) R (qO R (Zp R (iR R)) (qP R (Bp R iL (iR R)) (qP R (Zd R iL) (qO R (Zd R iL) (qO R (Ba R (iR R) iL) (qP R (Bp R iL (iR R)) (qP R (Zd R iL) (qO R (Zd R iL) (qO R (Zd R iL) (qO R (Ba R (iR R) (iR R)) (qP R (Bp R iL (iR R)) (qP R (Zd R iL) (qO R (Zd R iL) (qO R (Ba R (iR R) iL) (qP R (Bp R iL (iR R)) (qP R (Zd R iL) (qO R (Zd R iL) (qO R (Zd R iL) (qO R (Zd R iL) (Zb h34 fun x9 ex9 h35=>?_))))))))))))))))))))))))))))))))))))))))
    refine qO R (Cb R F9.slice (iR R) R (iR R) (AZ ex9)) (qO R (GJ (d:=.sl (x9.map (AL .i64))) R Ga (iR R) fR (AZ ex9) R) (Zb h35 fun r17 er17 h36=>Ff (.one R R R) R R (r:=rB r17) (caps:=[]) (bs:=[.r (.sl (r14.map (AL .i64))),.r (.sl (x9.map (AL .i64)))]) R iL R ⟨⟨_,(iR R),.d R⟩,⟨_,(iR R),.d R⟩,Za⟩ (fun hg=>Tk (AZ er17 hg)) R (qO R (Zp R (iR R)) (qP R (Bp R iL (iR R)) (AQ.nil (c37 _ (cI R h36 (fun h37=>?_) fun h37=>?_)))))))
    ·exact zB (he3 _ (xH hx2 h37)) R id
    refine Zc (c32 _ (aG [3,4,11,12,13,14,20,136,137] [35,3350,4000,5012,5013,5014] ?_))
    exact aR (Zb h37 fun x10 ex10 h38=>(xA R ex10 (mM R (Zi (Zm h38 (AG [n14]) wk)))))
   exact Zk (wK15 _ _ wk (J3 _ (AG [(i12 0)]) (xH hx2 h27)))
  refine AK.split ((!decide ((got1.length:Int)=(called4.length:Int))) == false) (fun hg1=>?_) (fun hg1=>?_)
  ·have h39:=C8 hg1 hp1
   refine AK.weak (by exact Kz (e':=[(3,rI i1),(4,rI k1),(11,pT 35 (i2 0)),(12,.own 5012 (i7 1)),(13,.own 5013 (i7 2)),(14,.own 5014 (i7 3)),(20,.r (.sl (got1.map As))),(120,pT 35 (i2 0)),(121,.r (.sl (got1.map As))),(122,.r (.sl (got1.map As))),(123,rL got1),(124,.own 5013 (i7 2)),(125,rL called4),(126,rB ((!decide ((got1.length:Int)=(called4.length:Int))))),(127,rB ((!decide ((got1.length:Int)=(called4.length:Int))))),(128,pT 35 (i2 0))]) hg1 ⟨.inl R,.inl R,.inl R,.inl R,.inl R,.inl R,.inl R,.inl R,.inl R,.inl R,.inl R,.inl R,.inl R,.inl R,.inl R,.inr iL,Za⟩) ?_
   refine Zb h39 fun r18 er18 h40=>?_
   refine RX (.one R R R) hg1 [35,3350,4000] (hc:=(Ad (i2 0) (i7 0) (h7.versions.map (AJ.row (i7 5))) (.fam n1 (i7 4) (i7 5) 71 (fl4.map AE.row)))) (bs:=[pT 1000 (i2 0)]) (caps:=[]) R R R iL R ⟨.inl ⟨iL,R⟩,Za⟩ ⟨R,R,R,R,R,R,R,R,R,Za⟩ (by decide) (P1 er18) ?_
   intro i25 n15
   refine BJ [3,4,11,12,13,14,20,120,121,122,123,124,125,126,127,128,129] [35,3350,4000,5012,5013,5014] ?_
   exact Dh (.one R R R) hg1 R R (B2 (Zd R (.inl R)) _) (Dh (.one R R R) hg1 R R (B2 (Zd R (.inl R)) _) (Zb h40 fun r19 er19 h41=>Dh (.one R R R) hg1 R R (DY (r:=rI r19) (caps:=[]) (bs:=[qg kept4,.r (.sl (from4.map (BE (AL .i64))))]) R (.inl R) R ⟨⟨_,(.inl R),.one (.own R)⟩,⟨_,(.inl R),.one (.own R)⟩,Za⟩ (fun _=>U0 (er19)) R) (Dh (.one R R R) hg1 R R (B2 (Ba R (.inl R) (.inl R)) _) (sQ R (Bp R iL iL) (Zi (wK13 _ _ wk (J2 _ (AG [n15]) (Zf h41).symm)))))))
  ·have h39:=Cw hg1 hp1
   exact Ct (.one R R R) hg1 R R (Ct (.one R R R) hg1 R R (Ct (.one R R R) hg1 R R (Ct (.one R R R) hg1 R R (Ct (.one R R R) hg1 R R (xO R (Zi (wK13 _ _ wk (J2 _ (AG [n5]) (Zf h39).symm))))))))
 refine Ya (fun (n3:Int) (h5:Ah) (kept2:List AP) (called2:List (List UInt8)) (from2:List (List Int)) (fl2:List AE) i5=>⟨(Pv (qg l1) (b.map As) (p.map (BE (AL .i64))) i1 k1 (i2 0) (i5 1) (i5 2) (i5 3) n3),(GI (i2 0) (i5 0) (h5.versions.map (AJ.row (i5 5))) (.fam n1 (i5 4) (i5 5) 71 (fl2.map AE.row)) (i5 1) kept2 (i5 2) (called2.map As) (i5 3) (from2.map (BE (AL .i64)))),(i5 6),274⟩) (AG [(n1+4),(n1+1),(n1+2),(n1+3),n1,0,(n1+5)]) hit1 (Zs (Zs (HK 12 5012 34 1 (by decide) R) (by exact Ac.cv (e':=[(0,qg l1),(1,.r (.sl (b.map As))),(2,.r (.sl (p.map (BE (AL .i64))))),(3,rI i1),(4,rI k1),(10,rB false),(11,pT 35 (i2 0)),(12,.own 5012 (n1+1)),(13,cZ),(14,cZ),(15,rI 0),(33,rB r1),(34,rB ((!r1))),(35,pT 35 (i2 0))]) (h':=[bX 35 (i2 0) 53 [cZ],(4000,some (.fam n1 n1 0 71 (([]:List AE).map AE.row))),aX 5012 (n1+1) 34 1 (([]:List AP).map AP.row)]) ⟨jL,jL,jL,jL,jL,jL,jL,jL,jL,jL,jL,jL,jL,jL,Za⟩ ⟨.inl R,.inl R,.inl R,Za⟩ nL)) (Zs (Zs (HK 13 5013 9 1 (by decide) R) (by exact Ac.cv (e':=[(0,qg l1),(1,.r (.sl (b.map As))),(2,.r (.sl (p.map (BE (AL .i64))))),(3,rI i1),(4,rI k1),(10,rB false),(11,pT 35 (i2 0)),(12,.own 5012 (n1+1)),(13,.own 5013 (n1+2)),(14,cZ),(15,rI 0),(33,rB r1),(34,rB ((!r1))),(35,pT 35 (i2 0))]) (h':=[bX 35 (i2 0) 53 [cZ],(4000,some (.fam n1 n1 0 71 (([]:List AE).map AE.row))),aX 5012 (n1+1) 34 1 (([]:List AP).map AP.row),aX 5013 (n1+2) 9 1 (([]:List (List UInt8)).map As)]) ⟨jL,jL,jL,jL,jL,jL,jL,jL,jL,jL,jL,jL,jL,jL,Za⟩ ⟨.inl R,.inl R,.inl R,.inl R,Za⟩ nL)) (Zs (Zs (HK 14 5014 28 1 (by decide) R) (by exact Ac.cv (e':=(RU (qg l1) (b.map As) (p.map (BE (AL .i64))) i1 k1 (i2 0) (n1+1) (n1+2) (n1+3) r1 ((!r1)))) (h':=[bX 35 (i2 0) 53 [cZ],(4000,some (.fam n1 n1 0 71 (([]:List AE).map AE.row))),aX 5012 (n1+1) 34 1 (([]:List AP).map AP.row),aX 5013 (n1+2) 9 1 (([]:List (List UInt8)).map As),aX 5014 (n1+3) 28 1 (([]:List (List Int)).map (BE (AL .i64)))]) ⟨jL,jL,jL,jL,jL,jL,jL,jL,jL,jL,jL,jL,jL,jL,Za⟩ ⟨.inl R,.inl R,.inl R,.inl R,.inl R,Za⟩ nL)) (Zs (Zs (Mi 35 0 3350 60 3 (by decide) R R (by decide)) (by exact Ac.cv (e':=(RU (qg l1) (b.map As) (p.map (BE (AL .i64))) i1 k1 (i2 0) (n1+1) (n1+2) (n1+3) r1 ((!r1)))) (h':=(GI (i2 0) (n1+4) (([]:List AJ).map (AJ.row 0)) (.fam n1 n1 0 71 (([]:List AE).map AE.row)) (n1+1) ([]:List AP) (n1+2) (([]:List (List UInt8)).map As) (n1+3) (([]:List (List Int)).map (BE (AL .i64))))) ⟨jL,jL,jL,jL,jL,jL,jL,jL,jL,jL,jL,jL,jL,jL,Za⟩ ⟨.inl R,.inl R,.inl R,.inl R,.inl R,.inl R,Za⟩ nL)) wk)))) ?_
 intro n3 h5 kept2 called2 from2 fl2 i5 v3 hv3 hx1
 have h42:H1 l1 b p n3 h5 kept2 called2 from2 fl2=some v3:=hv3; unfold H1 at h42
 refine aT fun c39=>(AI R (mM R (xL DA R (xS R (mM R (vM R (vQ R (Bn R (iR R) iL) (xN R (mM R (vM R (vM R (vQ R (Cs R Cf.slice (iR R)) (vQ R (Bn R (iR R) (iR R)) (xN R (aZ (cI R h42 (fun h43=>?_) fun h43=>?_))))))))))))))))
 ·refine Zc (c39 _ (aS fun K41 c41 wK41=>(Ze (RR h43 fun p2 hp2 hk5 he5=>?_))))
  have J5 : ∀ (h44:Ah) (kept5:List AP) (called5:List (List UInt8)) (from5:List (List Int)) (fl5:List AE) (i26:NN),p2 = .nrm (h44,kept5,called5,from5,fl5)→K41 ⟨(Pv (qg l1) (b.map As) (p.map (BE (AL .i64))) i1 k1 (i2 0) (i26 1) (i26 2) (i26 3) n3),(GI (i2 0) (i26 0) (h44.versions.map (AJ.row (i26 5))) (.fam n1 (i26 4) (i26 5) 71 (fl5.map AE.row)) (i26 1) kept5 (i26 2) (called5.map As) (i26 3) (from5.map (BE (AL .i64)))),(i26 6),274⟩:=by
   intro h44 kept5 called5 from5 fl5 i26 e
   have h45:=hk5 _ _ _ _ _ e
   exact c41 _ (Af R (Zb h45 fun n16 en16 h46=>(xA R en16 (mA R (Zi (Le.mk h46 (AG [(i26 0),(i26 1),(i26 2),(i26 3),(i26 4),(i26 5),(i26 6)]) wk))))))
  refine aU (AD R (aS fun K43 c43 wK43=>(AI R (mM R (xL F9 R (xS R (aZ (BL hp2 fun p4 hp3 hk6=>?_))))))))
  have J6 : ∀ (p3:List Int) (i27:NN),p4=p3→K43 ⟨[(0,qg l1),(1,.r (.sl (b.map As))),(2,.r (.sl (p.map (BE (AL .i64))))),(3,rI i1),(4,rI k1),(11,pT 35 (i2 0)),(12,.own 5012 (i5 1)),(13,.own 5013 (i5 2)),(14,.own 5014 (i5 3)),(15,rI n3),(16,.r (.sl (p3.map (AL .i64))))],(GI (i2 0) (i5 0) (h5.versions.map (AJ.row (i5 5))) (.fam n1 (i5 4) (i5 5) 71 (fl2.map AE.row)) (i5 1) kept2 (i5 2) (called2.map As) (i5 3) (from2.map (BE (AL .i64)))),(i27 0),274⟩:=by
   intro p3 i27 e
   have h47:=hk6 _ e
   refine c43 _ (aT fun c45=>(Zb h47 fun x11 ex11 h48=>(Zb h48 fun x12 ex12 h49=>?_)))
   refine YF 10 12 [⟨some 61,(fun _=>pT 35 (i2 0)),none,[]⟩,⟨some 62,(fun _=>.r (.sl (b.map As))),none,[]⟩,⟨some 63,(fun _=>rI n3),none,[]⟩,⟨some 64,(fun _=>.rop (As x11) 0),none,[]⟩,⟨some 65,(fun _=>rS x11),none,[]⟩,⟨some 66,(fun _=>qg l1),none,[]⟩,⟨some 67,(fun _=>rI n3),none,[]⟩,⟨some 68,(fun _=>.rop (AP.row x12) 0),none,[]⟩,⟨some 69,(fun _=>.agg [qe x12.Nodes]),none,[]⟩,⟨some 70,(fun _=>.r (.sl (p3.map (AL .i64)))),none,[]⟩] Az (by kernel_rfl) (by exact ⟨zN,zN,zN,zN,zN,zN,zN,zN,zN,zN,Za⟩) R R (by exact ⟨oQ (fun _=>[(11,pT 35 (i2 0))]) (fun _=>[bX 35 (i2 0) 53 [.own 3350 (i5 0)]]) (fun D G1 hr=>⟨Da R R,Za⟩) (fun D G1 hr=>⟨FO R R,Za⟩) (fun G1 e h'=>Zd R (.inl R)),
     oQ (fun _=>[(1,.r (.sl (b.map As)))]) (fun _=>[]) (fun D G1 hr=>⟨Da R R,Za⟩) (fun D G1 hr=>Za) (fun G1 e h'=>Zd R (.inl R)),
     oQ (fun _=>[(15,rI n3)]) (fun _=>[]) (fun D G1 hr=>⟨Da R R,Za⟩) (fun D G1 hr=>Za) (fun G1 e h'=>Zd R (.inl R)),
     oQ (fun _=>[(62,.r (.sl (b.map As))),(63,rI n3)]) (fun _=>[]) (fun D G1 hr=>⟨EI hr 1 R R (by kernel_rfl) R R,EI hr 2 R R (by kernel_rfl) R R,Za⟩) (fun D G1 hr=>Za) (fun G1 e h'=>Zt R Cf.slice (.inl R) (.inl R) (fun _=>R) (fun _=>ex11)),
     oQ (fun _=>[(64,.rop (As x11) 0)]) (fun _=>[]) (fun D G1 hr=>⟨EI hr 3 R R (by kernel_rfl) R R,Za⟩) (fun D G1 hr=>Za) (fun G1 e h'=>BR (d:=.str x11) R A3 (.inl R) R),
     oQ (fun _=>[(0,qg l1)]) (fun _=>[]) (fun D G1 hr=>⟨Da R R,Za⟩) (fun D G1 hr=>Za) (fun G1 e h'=>Zd R (.inl R)),
     oQ (fun _=>[(15,rI n3)]) (fun _=>[]) (fun D G1 hr=>⟨Da R R,Za⟩) (fun D G1 hr=>Za) (fun G1 e h'=>Zd R (.inl R)),
     oQ (fun _=>[(66,qg l1),(67,rI n3)]) (fun _=>[]) (fun D G1 hr=>⟨EI hr 5 R R (by kernel_rfl) R R,EI hr 6 R R (by kernel_rfl) R R,Za⟩) (fun D G1 hr=>Za) (fun G1 e h'=>Zt R DA.slice (.inl R) (.inl R) (fun _=>R) (fun _=>ex12)),
     oQ (fun _=>[(68,.rop (AP.row x12) 0)]) (fun _=>[]) (fun D G1 hr=>⟨EI hr 7 R R (by kernel_rfl) R R,Za⟩) (fun D G1 hr=>Za) (fun G1 e h'=>BV (cs:=[qe x12.Nodes]) R CU (.inl R) R R),
     oQ (fun _=>[(16,.r (.sl (p3.map (AL .i64))))]) (fun _=>[]) (fun D G1 hr=>⟨Da R R,Za⟩) (fun D G1 hr=>Za) (fun G1 e h'=>Zd R (.inl R)),
     Za⟩) fun G1 n17=>?_
   refine BJ [0,1,2,3,4,11,12,13,14,15,16,61,62,63,64,65,66,67,68,69,70] [35,3350,4000,5012,5013,5014] ?_
   refine Ov h49 fun r20 r21 w1 w2 er20 h50=>?_
   refine Zz [35,3350,4000] (hc:=(Ad (i2 0) (i5 0) (h5.versions.map (AJ.row (i5 5))) (.fam n1 (i5 4) (i5 5) 71 (fl2.map AE.row)))) (bs:=[pT 1000 (i2 0),rS x11,.agg [qe x12.Nodes],.r (.sl (p3.map (AL .i64)))]) (caps:=[]) R R R R iL R ⟨.inl ⟨iL,R⟩,.inl ⟨iL,R⟩,.inl ⟨iL,R⟩,.inl ⟨iL,R⟩,Za⟩ ⟨R,R,R,R,R,R,R,R,R,Za⟩ (by decide) (Qv er20) ?_
   intro i28 n18
   refine BJ [0,1,2,3,4,11,12,13,14,15,16,61,62,63,64,65,66,67,68,69,70,71] [35,3350,4000,5012,5013,5014] ?_
   refine mM R (Zi ?_)
   refine IZ.mk (List.replicate 12 Tu++[⟨some 72,(fun _=>rI r20),none,[]⟩,⟨some 73,(fun _=>rI r21),none,[]⟩,⟨some 17,(fun _=>rI r20),none,[]⟩,⟨some 18,(fun _=>rI r21),none,[]⟩]) (by kernel_rfl) (by exact ⟨fun _ _ _=>⟨R,fun _ _ e=>by cases e⟩,fun _ _ _=>⟨R,fun _ _ e=>by cases e⟩,fun _ _ _=>⟨R,fun _ _ e=>by cases e⟩,fun _ _ _=>⟨R,fun _ _ e=>by cases e⟩,fun _ _ _=>⟨R,fun _ _ e=>by cases e⟩,fun _ _ _=>⟨R,fun _ _ e=>by cases e⟩,fun _ _ _=>⟨R,fun _ _ e=>by cases e⟩,fun _ _ _=>⟨R,fun _ _ e=>by cases e⟩,fun _ _ _=>⟨R,fun _ _ e=>by cases e⟩,fun _ _ _=>⟨R,fun _ _ e=>by cases e⟩,fun _ _ _=>⟨R,fun _ _ e=>by cases e⟩,fun _ _ _=>⟨R,fun _ _ e=>by cases e⟩,zN,zN,zN,zN,Za⟩) R R (by exact ⟨oQ (fun _=>[(60,.tup [rI r20,rI r21])]) (fun _=>[]) (fun D G2 hr=>⟨Da R R,Za⟩) (fun D G2 hr=>Za) (fun G2 e h'=>M6 (a:=rI r20) R (.inl R) R),
     oQ (fun _=>[(60,.tup [rI r20,rI r21])]) (fun _=>[]) (fun D G2 hr=>⟨Da R R,Za⟩) (fun D G2 hr=>Za) (fun G2 e h'=>M6 (a:=rI r21) R (.inl R) R),
     oQ (fun _=>[(72,rI r20)]) (fun _=>[]) (fun D G2 hr=>⟨EI hr 12 R R (by kernel_rfl) R R,Za⟩) (fun D G2 hr=>Za) (fun G2 e h'=>Co R (.inl R)),
     oQ (fun _=>[(73,rI r21)]) (fun _=>[]) (fun D G2 hr=>⟨EI hr 13 R R (by kernel_rfl) R R,Za⟩) (fun D G2 hr=>Za) (fun G2 e h'=>Co R (.inl R)),
     Za⟩) fun G2 n19=>⟨⟨[(0,qg l1),(1,.r (.sl (b.map As))),(2,.r (.sl (p.map (BE (AL .i64))))),(3,rI i1),(4,rI k1),(11,pT 35 (i2 0)),(12,.own 5012 (i5 1)),(13,.own 5013 (i5 2)),(14,.own 5014 (i5 3)),(15,rI n3),(16,.r (.sl (p3.map (AL .i64)))),(17,rI r20),(18,rI r21),(60,.tup [rI r20,rI r21]),(61,pT 35 (i2 0)),(62,.r (.sl (b.map As))),(63,rI n3),(64,.rop (As x11) 0),(65,rS x11),(66,qg l1),(67,rI n3),(68,.rop (AP.row x12) 0),(69,.agg [qe x12.Nodes]),(70,.r (.sl (p3.map (AL .i64)))),(71,.tup [rI r20,rI r21]),(72,rI r20),(73,rI r21)],(GI (i2 0) (i28 0) (w1.versions.map (AJ.row (i28 2))) (.fam n1 (i28 1) (i28 2) 71 (w2.map AE.row)) (i5 1) kept2 (i5 2) (called2.map As) (i5 3) (from2.map (BE (AL .i64)))),n19,274⟩,wk,?_⟩
   refine c45 _ (aT fun c46=>(aT fun c47=>(aG [0,1,2,3,4,11,12,13,14,15,16,17,18] [35,3350,4000,5012,5013,5014] ?_)))
   refine Zv Az (by kernel_rfl) ?_
   refine qP R (Zd R iL) (qP R (Zd R iL) (qP R (Zd R iL) (qP R (Zt R Cf.slice iL iL (fun _=>R) (fun _=>ex11)) (qP R (BR (d:=.str x11) R A3 iL R) (qP R (Zd R iL) (qP R (Zd R iL) (qP R (Zt R DA.slice iL iL (fun _=>R) (fun _=>ex12)) (qP R (BV (cs:=[qe x12.Nodes]) R CU iL R R) (qP R (Zd R iL) (Zb h50 fun f1 ef1 h51=>D0 R R R (r:=rI f1) (caps:=[]) (bs:=[.r (.sl (called2.map As)),rS x11,.agg [qe x12.Nodes],.r (.sl (p3.map (AL .i64)))]) R iL R ⟨⟨_,iL,.one (.own R)⟩,⟨_,iL,.d R⟩,⟨_,iL,.g (cs:=[.sl (x12.Nodes.map AE.row)]) R R⟩,⟨_,iL,.d R⟩,Za⟩ (fun _=>W4 (ef1)) R (qP R (Co R iL) (AQ.nil (c47 _ (aT fun c48=>(aG [0,1,2,3,4,11,12,13,14,15,16,17,18,19] [35,3350,4000,5012,5013,5014] ?_)))))))))))))))
   refine Af R (xU R (aZ (c48 _ (cI R h51 (fun h52=>?_) fun h52=>?_))))
   ·refine aT fun c49=>(AI R (mM R (xU R (mM R (vM R (vQ R (Ba R (iR R) iL) (xO R (aZ (cI R h52 (fun h53=>?_) fun h53=>?_)))))))))
    ·refine aT fun c51=>(aG [] [4000] ?_)
     exact aR (AD R (c51 _ (Zh (yB (he1 _ (hx1 _ (Zf (he5 _ (Zf h53).symm)).symm)) R))))
    exact Zc (c49 _ (Zk (wK41 _ _ wk (J5 _ _ _ _ _ (AG [(i28 0),(i5 1),(i5 2),(i5 3),(i28 1),(i28 2),n19]) (Zf h53).symm))))
   refine Zc (c46 _ (aT fun c52=>(AI R (xU R (mM R (vM R (vM R (vQ R (Cj R DA.slice (iR R) R) (vQ R (Ba R (iR R) (iR R)) (xO R (aZ (cI R h52 (fun h54=>?_) fun h54=>?_))))))))))))
   ·refine aT fun c54=>(aG [] [4000] ?_)
    exact aR (AD R (c54 _ (Zh (yB (he1 _ (hx1 _ (Zf (he5 _ (Zf h54).symm)).symm)) R))))
   refine Zc (c52 _ (aG [0,1,2,3,4,11,12,13,14,15,16] [35,3350,4000,5012,5013,5014] ?_))
   refine Zb h54 fun kept6 ekept6 h55=>(Zb h55 fun called6 ecalled6 h56=>?_)
   refine HJ 17 [pO 102 (.own 5012 (i5 1)),pO 103 (qg l1),pO 104 (rI n3),pO 105 (.rop (AP.row x12) 0),pO 106 (.agg [qe x12.Nodes]),⟨some 107,(fun G3=>.own 107 (G3 5)),some (107,(fun G3=>some (.arr (G3 5) 34 1 ([x12].map AP.row)))),[5]⟩,⟨some 108,(fun G3=>.own 5012 (G3 6)),some (5012,(fun G3=>some (.arr (G3 6) 34 1 (kept6.map AP.row)))),[6]⟩,pO 109 (.own 5013 (i5 2)),pO 110 (.r (.sl (b.map As))),pO 111 (rI n3),pO 112 (.rop (As x11) 0),pO 113 (rS x11),⟨some 114,(fun G3=>.own 114 (G3 12)),some (114,(fun G3=>some (.arr (G3 12) 9 1 ([x11].map As)))),[12]⟩,⟨some 115,(fun G3=>.own 5013 (G3 13)),some (5013,(fun G3=>some (.arr (G3 13) 9 1 (called6.map As)))),[13]⟩,pO 116 (.own 5014 (i5 3)),pO 117 (.r (.sl (p3.map (AL .i64)))),⟨some 118,(fun G3=>.own 118 (G3 16)),some (118,(fun G3=>some (.arr (G3 16) 28 1 ([p3].map (BE (AL .i64)))))),[16]⟩] Az (by kernel_rfl) (by exact ⟨zN,zN,zN,zN,zN,zS 5,zS 6,zN,zN,zN,zN,zN,zS 12,zS 13,zN,zN,zS 16,Za⟩) R (by exact ⟨oB [(12,.own 5012 (i5 1))] [aX 5012 (i5 1) 34 1 (kept2.map AP.row)] (Zd R (.inl R)),oB [(0,qg l1)] [] (Zd R (.inl R)),oB [(15,rI n3)] [] (Zd R (.inl R)),oB [(103,qg l1),(104,rI n3)] [] (Zt R DA.slice (.inl R) (.inl R) (fun _=>R) (fun _=>ex12)),oB [(105,.rop (AP.row x12) 0)] [] (BV (cs:=[qe x12.Nodes]) R CU (.inl R) R R),oM (fun _=>[(106,.agg [qe x12.Nodes])]) (fun _=>[]) R (fun G3 e h' n=>Br 107 R DA (f:=AP.row) (l:=([x12]:List AP)) ⟨R,⟨_,(.inl R),R⟩,Za⟩ R (fun _=>R) R),oM (fun G3=>[(102,.own 5012 (i5 1)),(107,.own 107 (G3 5))]) (fun G3=>[aX 107 (G3 5) 34 1 ([x12].map AP.row),aX 5012 (i5 1) 34 1 (kept2.map AP.row)]) R (fun G3 e h' n=>Dm R DA (.inl R) R (.inr (.inl ⟨_,_,(.inl R),R⟩)) ekept6),oB [(13,.own 5013 (i5 2))] [aX 5013 (i5 2) 9 1 (called2.map As)] (Zd R (.inl R)),oB [(1,.r (.sl (b.map As)))] [] (Zd R (.inl R)),oB [(15,rI n3)] [] (Zd R (.inl R)),oB [(110,.r (.sl (b.map As))),(111,rI n3)] [] (Zt R Cf.slice (.inl R) (.inl R) (fun _=>R) (fun _=>ex11)),oB [(112,.rop (As x11) 0)] [] (BR (d:=.str x11) R A3 (.inl R) R),oM (fun _=>[(113,rS x11)]) (fun _=>[]) R (fun G3 e h' n=>Br 114 R Cf (f:=As) (l:=([x11]:List (List UInt8))) ⟨R,⟨_,(.inl R),R⟩,Za⟩ R (fun _=>R) R),oM (fun G3=>[(109,.own 5013 (i5 2)),(114,.own 114 (G3 12))]) (fun G3=>[aX 114 (G3 12) 9 1 ([x11].map As),aX 5013 (i5 2) 9 1 (called2.map As)]) R (fun G3 e h' n=>Dm R Cf (.inl R) R (.inr (.inl ⟨_,_,(.inl R),R⟩)) ecalled6),oB [(14,.own 5014 (i5 3))] [aX 5014 (i5 3) 28 1 (from2.map (BE (AL .i64)))] (Zd R (.inl R)),oB [(16,.r (.sl (p3.map (AL .i64))))] [] (Zd R (.inl R)),oM (fun _=>[(117,.r (.sl (p3.map (AL .i64))))]) (fun _=>[]) R (fun G3 e h' n=>Br 118 R F9 (f:=(BE (AL .i64))) (l:=([p3]:List (List Int))) ⟨R,⟨_,(.inl R),R⟩,Za⟩ R (fun _=>R) R),Za⟩) fun G3 n20=>?_
   refine BJ [0,1,2,3,4,11,14,15,16,103,104,105,106,107,108,110,111,112,113,114,115,116,117,118] [35,107,114,118,3350,4000,5012,5013,5014] ?_
   exact Zb h56 fun from6 efrom6 h57=>(sS R (Dm R F9 iL R (.inr (.inl ⟨_,_,iL,R⟩)) efrom6) (mA R (mA R (mA R (Zi (wK41 _ _ wk (J5 _ _ _ _ _ (AG [(i28 0),(G3 6),(G3 13),n20,(i28 1),(i28 2),(n20+1)]) (Zf h57).symm)))))))
  refine aC R (fun hc12=>?_) (fun hc12=>?_)
  ·have h58:=C8 hc12 hp3
   refine aG [0,1,2,3,4,11,12,13,14,15] [35,3350,4000,5012,5013,5014] ?_
   exact Af R (mM R (Zb h58 fun x13 ex13 h59=>(xI F9 R ex13 (xV (.sl (x13.map (AL .i64))) Ga R (mA R (Zi (wK43 _ _ wk (J6 _ (AG [(i5 6)]) (Zf h59).symm))))))))
  ·have h58:=Cw hc12 hp3
   refine Zc ?_
   exact wK43 _ _ ((by exact Ac.cv ⟨jL,jL,jL,jL,jL,jL,jL,jL,jL,jL,.inl (.inr (.inr ⟨R,R⟩)),Za⟩ ⟨.inl R,.inl R,.inl R,.inl R,.inl R,.inl R,Za⟩ nL)) (J6 _ (AG [(i5 6)]) (Zf h58).symm)
 exact Zk (wK9 _ _ wk (J1 _ _ _ _ _ (AG [(i5 0),(i5 1),(i5 2),(i5 3),(i5 4),(i5 5),(i5 6)]) (xH hx1 h43)))
end Go.Proofs.YtioekebmplhlmaaGreatDoor.Al
