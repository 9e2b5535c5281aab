/- Walks, as printed. -/
import Derived.Test.YtdafahjmopdleaaGreatDoorWlk110
import Derived.Test.YtdafahjmopdleaaGreatDoorProg
set_option maxHeartbeats 4000000
set_option maxRecDepth 20000
set_option linter.unusedVariables false
namespace Go.Proofs.YtdafahjmopdleaaGreatDoor.Al
open Go.Proofs
set_option linter.defProp false
theorem YHt {w1:YAE} {r:(List YAB) × Int × YAE} {gb1000:Nat} {ga1001:Nat} {ga1002:Nat} (h:YBo w1=some r):AHC Tryz.prog 155 3 [.ptr 1000 gb1000 0 0] [(1000,some (.box gb1000 193 [.own 1001 ga1001,.own 1002 ga1002,rI (w1.cut)])),(1001,some (.arr ga1001 100 4 (w1.out.map YAB.row))),(1002,some (.arr ga1002 51 3 (w1.add.map YAC.row)))] (fun rr h'=>∃ (i:Nat→Nat),rr = .tup [qg r.1,rI (r.2.1)]∧h'=[(1000,some (.box gb1000 193 [qg r.2.2.out,.cst (.slice none 0 0),rI (r.2.2.cut)]))]):=by
 unfold YBo at h
 refine AHC.mkw Tryz.func155 R R Tryz.ntmps155 (Ze R) fun n0=>?_
 refine aS fun _ hK1 _=>(aR (sA R R (sA R R (aZ (hK1 _ ?_)))))
 refine aS fun _ hK2 _=>(aR (sM R R (Zj h fun w2 ew2 h1=>?_)))
 refine AOps.stepHI [1000,1001,1002] (hc:=[(1000,some (.box gb1000 193 [.own 1001 ga1001,.own 1002 ga1002,rI (w1.cut)])),(1001,some (.arr ga1001 100 4 (w1.out.map YAB.row))),(1002,some (.arr ga1002 51 3 (w1.add.map YAC.row)))]) (bs:=[.ptr 1000 gb1000 0 0]) (caps:=[]) R R R R iL R ⟨.inl ⟨iL,R⟩,Za⟩ ⟨R,R,R,R,R,R,R,R,R,Za⟩ (by decide) (YE0 ew2) ?_
 intro i1 n1
 refine ZT (s':=⟨[(0,.ptr 1000 gb1000 0 0),(2,.cst (.slice none 0 0)),(3,rI (0)),(4,.ptr 1000 gb1000 0 0),(5,.tup [])],[(1000,some (.box gb1000 193 [.own 1001 (i1 0),.cst (.slice none 0 0),rI (w2.cut)])),(1001,some (.arr (i1 0) 100 4 (w2.out.map YAB.row)))],n1,16⟩) (by exact Zc ⟨jL,jL,jL,jL,jL,Za⟩ ⟨.inl R,.inl R,Za⟩ nL) ?_
 refine aZ (hK2 _ ?_)
 refine aS fun _ hK3 _=>(aS fun _ hK4 _=>(aR (sM R R (sQ R (ZL (ob:=.box _ _ _) R iL fR R) (sQ R (fB R YDb iL fR R) (sQ R (Zb (a:=.own 1001 (i1 0)) R YKh iL R R) (Zj h1 fun r1 er1 h2=>(Zg R R R (Zq (r:=rI (r1)) (caps:=[]) (bs:=[qg w2.out]) R iL R ⟨⟨_,iL,.one (.own R)⟩,Za⟩ (fun _=>YMn (er1)) R) (sQ R (ZH R iL iL) (aZ (hK4 _ ?_)))))))))))
 refine aC R (fun hc1=>?_) (fun hc1=>?_)
 ·have h3:=Zn hc1 h2
  refine aS fun _ hK5 _=>?_
  refine Zh (s':=⟨[],[(1000,some (.box gb1000 193 [.own 1001 (i1 0),.cst (.slice none 0 0),rI (w2.cut)])),(1001,some (.arr (i1 0) 100 4 (w2.out.map YAB.row)))],n1,16⟩) (by exact Zc Za ⟨.inl R,.inl R,Za⟩ nL) ?_
  refine aR (sA R R (sA R R (aZ (hK5 _ ?_))))
  refine Zk ?_
  exact RetW.mk (s':=⟨[(2,.r (.sl [])),(3,rI (3))],[(1000,some (.box gb1000 193 [qg w2.out,.cst (.slice none 0 0),rI (w2.cut)]))],n1,16⟩) (ZP (by exact Weak.frz (e':=[(2,.cst (.slice none 0 0)),(3,rI (3))]) (h':=[(1000,some (.box gb1000 193 [qg w2.out,.cst (.slice none 0 0),rI (w2.cut)]))]) 1001 R ⟨jL,jL,Za⟩ ⟨R,.inr (.inr (.inl ⟨_,_,_,_,R,R,⟨.inr (.inr ⟨R,R⟩),.inl R,.inl R,Za⟩⟩)),Za⟩) (by exact Zc ⟨.inl (.inr (.inr ⟨R,R⟩)),jL,Za⟩ ⟨.inl R,Za⟩ nL)) (YBQ (fun (r:(List YAB) × Int × YAE) rr h'=>∃ (i:Nat→Nat),rr = .tup [qg r.1,rI (r.2.1)]∧h'=[(1000,some (.box gb1000 193 [qg r.2.2.out,.cst (.slice none 0 0),rI (r.2.2.cut)]))]) h3 (by exact ⟨.tup [.r (.sl []),rI (3)],[(1000,some (.box gb1000 193 [qg w2.out,.cst (.slice none 0 0),rI (w2.cut)]))],⟨_,R,⟨R,R,Za⟩⟩,⟨.inr R,Za⟩,R,R,vec [],R,R⟩))
 ·have h3:=Zo hc1 h2
  refine Zi (hK3 _ ?_)
  refine aS fun _ hK6 _=>?_
  refine Zh (s':=⟨[(0,.ptr 1000 gb1000 0 0)],[(1000,some (.box gb1000 193 [.own 1001 (i1 0),.cst (.slice none 0 0),rI (w2.cut)])),(1001,some (.arr (i1 0) 100 4 (w2.out.map YAB.row)))],n1,16⟩) (by exact Zc ⟨jL,Za⟩ ⟨.inl R,.inl R,Za⟩ nL) ?_
  refine aR (sM R R (sQ R (ZL (ob:=.box _ _ _) R iL fR R) (sQ R (fB R YDb iL fR R) (sQ R (Zb (a:=.own 1001 (i1 0)) R YKh iL R R) (sA R R (sA R R (aZ (hK6 _ ?_))))))))
  refine Zk ?_
  exact RetW.mk (s':=⟨[(2,qg w2.out),(3,rI (0))],[(1000,some (.box gb1000 193 [qg w2.out,.cst (.slice none 0 0),rI (w2.cut)]))],n1,16⟩) (ZP (by exact Weak.frz (e':=[(0,.ptr 1000 gb1000 0 0),(2,qg w2.out),(3,rI (0)),(12,.ptr 1000 gb1000 0 0),(13,.ptr 1000 gb1000 0 0),(14,.ptr 1000 gb1000 0 0),(15,qg w2.out)]) (h':=[(1000,some (.box gb1000 193 [qg w2.out,.cst (.slice none 0 0),rI (w2.cut)]))]) 1001 R ⟨jL,.inl (.inr (.inr ⟨R,R⟩)),jL,jL,jL,jL,.inl (.inr (.inr ⟨R,R⟩)),Za⟩ ⟨R,.inr (.inr (.inl ⟨_,_,_,_,R,R,⟨.inr (.inr ⟨R,R⟩),.inl R,.inl R,Za⟩⟩)),Za⟩) (by exact Zc ⟨jL,jL,Za⟩ ⟨.inl R,Za⟩ nL)) (YBQ (fun (r:(List YAB) × Int × YAE) rr h'=>∃ (i:Nat→Nat),rr = .tup [qg r.1,rI (r.2.1)]∧h'=[(1000,some (.box gb1000 193 [qg r.2.2.out,.cst (.slice none 0 0),rI (r.2.2.cut)]))]) h3 (by exact ⟨.tup [qg w2.out,rI (0)],[(1000,some (.box gb1000 193 [qg w2.out,.cst (.slice none 0 0),rI (w2.cut)]))],⟨_,R,⟨R,R,Za⟩⟩,⟨.inr R,Za⟩,R,R,vec [],R,R⟩))
theorem YJJ {d1:List YAB} {r:(List YAB) × Int} (h:YEY d1=some r):ARO Tryz.prog 120 [qg d1] (.tup [qg r.1,rI (r.2)]):=by
 unfold YEY at h
 refine Zw Tryz.func120 R R Tryz.ntmps120 R (Ze R) fun n0=>?_
 refine aS fun _ hK1 _=>(aR (sA R R (sA R R (aZ (hK1 _ ?_)))))
 refine aS fun _ hK2 _=>(aR (Zg R R R (ZX (cs:=[.cst (.slice none 0 0),.cst (.slice none 0 0),rI (0)]) 4 R t0_193 R R) (aZ (hK2 _ ?_))))
 refine aS fun K3 hK3 wK3=>(aS fun _ hK4 _=>(aR (sM R R (sQ R (ZA R YCJ.slice iL) (sM R R (aZ (hK4 _ ?_)))))))
 refine Zp ?_
 refine jc1k h fun o1 hit1 hk1 he1=>?_
 have J1 : ∀ (w4:YAE) (i5:Nat→Nat),o1 = .nrm w4→K3 ⟨[(4,.ptr 4 n0 0 0)],[(4,some (.box n0 193 [.own 3040 (i5 0),.own 3041 (i5 1),rI (w4.cut)])),(3040,some (.arr (i5 0) 100 4 (w4.out.map YAB.row))),(3041,some (.arr (i5 1) 51 3 (w4.add.map YAC.row)))],(i5 2),76⟩:=by
  intro w4 i5 e
  have h1:=hk1 _ e
  refine hK3 _ ?_
  refine aS fun _ hK5 _=>(aR (ob3k h1 fun r1 r2 w5 er1 h2=>?_))
  refine AOps.stepHI [4,3040,3041] (hc:=[(1000,some (.box n0 193 [.own 1001 (i5 0),.own 1002 (i5 1),rI (w4.cut)])),(1001,some (.arr (i5 0) 100 4 (w4.out.map YAB.row))),(1002,some (.arr (i5 1) 51 3 (w4.add.map YAC.row)))]) (bs:=[.ptr 1000 n0 0 0]) (caps:=[]) R R R R iL R ⟨.inl ⟨iL,R⟩,Za⟩ ⟨R,R,R,R,R,R,R,R,R,Za⟩ (by decide) (YHt er1) ?_
  intro i6 n1
  refine ZT (s':=⟨[(4,.ptr 4 n0 0 0),(73,.tup [qg r1,rI (r2)])],[(4,some (.box n0 193 [qg w5.out,.cst (.slice none 0 0),rI (w5.cut)]))],n1,76⟩) (by exact Zc ⟨jL,jL,Za⟩ ⟨.inl R,Za⟩ nL) ?_
  refine sQ R (ZY (a:=qg r1) R iL R) (sQ R (ZY (a:=rI (r2)) R iL R) (sA R R (sA R R (aZ (hK5 _ ?_)))))
  refine Zk ?_
  exact YEO (P:=Tryz.prog) (fun (r:(List YAB) × Int)=>qg r.1) (fun (r:(List YAB) × Int)=>rI (r.2)) h2 iL (.t (.d R)) (.t (.d R))
 refine AW.iter2 (fun (x2:Int) (w2:YAE) i3=>⟨[(4,.ptr 4 n0 0 0),(8,qg d1),(9,rI ((d1.length:Int))),(10,rI (x2))],[(4,some (.box n0 193 [.own 3040 (i3 0),.own 3041 (i3 1),rI (w2.cut)])),(3040,some (.arr (i3 0) 100 4 (w2.out.map YAB.row))),(3041,some (.arr (i3 1) 51 3 (w2.add.map YAC.row)))],(i3 2),76⟩) (vec [(n0+1),(n0+2),(n0+3)]) hit1 (ZP (ZP (Weak.adoptBox 4 0 3040 100 4 (by decide) R R (by decide)) (by exact Zc (e':=[(0,qg d1),(2,.cst (.slice none 0 0)),(3,rI (0)),(4,.ptr 4 n0 0 0),(8,qg d1),(9,rI ((d1.length:Int))),(10,rI (0))]) (h':=[(4,some (.box n0 193 [.own 3040 (n0+1),.cst (.slice none 0 0),rI (0)])),(3040,some (.arr (n0+1) 100 4 (([]:List YAB).map YAB.row)))]) ⟨jL,jL,jL,jL,jL,jL,jL,Za⟩ ⟨.inl R,.inl R,Za⟩ nL)) (ZP (ZP (Weak.adoptBox 4 1 3041 51 3 (by decide) R R (by decide)) (by exact Zc (e':=[(0,qg d1),(2,.cst (.slice none 0 0)),(3,rI (0)),(4,.ptr 4 n0 0 0),(8,qg d1),(9,rI ((d1.length:Int))),(10,rI (0))]) (h':=[(4,some (.box n0 193 [.own 3040 (n0+1),.own 3041 (n0+2),rI (0)])),(3040,some (.arr (n0+1) 100 4 (([]:List YAB).map YAB.row))),(3041,some (.arr (n0+2) 51 3 (([]:List YAC).map YAC.row)))]) ⟨jL,jL,jL,jL,jL,jL,jL,Za⟩ ⟨.inl R,.inl R,.inl R,Za⟩ nL)) (by exact Zc ⟨jL,jL,jL,jL,Za⟩ ⟨.inl R,.inl R,.inl R,Za⟩ nL))) ?_
 intro x2 w2 i3 v1 hv1 hx1
 have h3:YBk d1 x2 w2=some v1:=hv1; unfold YBk at h3
 refine aS fun _ hK6 _=>(aR (sQ R (Zx R iL iL) (aZ (hK6 _ ?_))))
 refine aS fun _ hK7 _=>?_
 refine aC R (fun hc1=>?_) (fun hc1=>?_)
 ·have h4:=Zn hc1 h3
  refine Zi (hK7 _ ?_)
  refine aS fun K8 hK8 wK8=>(Zp ?_)
  refine jc1k h4 fun p1 hp1 hk2 he2=>?_
  have J2 : ∀ (w6:YAE) (i7:Nat→Nat),p1 = .nrm w6→K8 ⟨[(4,.ptr 4 n0 0 0),(8,qg d1),(9,rI ((d1.length:Int))),(10,rI (x2))],[(4,some (.box n0 193 [.own 3040 (i7 0),.own 3041 (i7 1),rI (w6.cut)])),(3040,some (.arr (i7 0) 100 4 (w6.out.map YAB.row))),(3041,some (.arr (i7 1) 51 3 (w6.add.map YAC.row)))],(i7 2),76⟩:=by
   intro w6 i7 e
   have h5:=hk2 _ e
   refine hK8 _ ?_
   refine aR (Zj h5 fun x4 ex4 h6=>(sQ R (ZI R iL iL (fun _=>ex4)) (sM R R ?_)))
   refine Zt ?_
   exact YEQ.mk h6 (vec [(i7 0),(i7 1),(i7 2)]) ((by exact Zc ⟨jL,jL,jL,jL,Za⟩ ⟨.inl R,.inl R,.inl R,Za⟩ nL))
  refine aS fun _ hK9 _=>(aR (Zj hp1 fun x5 ex5 h7=>(sQ R (Zz R YCJ.slice iL iL (fun _=>R) (fun _=>ex5)) (sQ R (ZM (cs:=(k21_ x5)) R YJN iL R R) (Zg R R R (ZX (cs:=z14_) 6 R YNq R R) (ZD R R (ZB (ds:=(k21_ x5)) R YNp iL R iL R R R R) (aZ (hK9 _ ?_))))))))
  refine aS fun _ hK10 _=>(aR (sQ R (ZF R YJN iL R R) (Zj h7 fun e1 ee1 h8=>(Zg R R R (Zq (r:=rI (e1)) (caps:=[]) (bs:=(k19_ x5)) R iL R ⟨⟨_,iL,.g (cs:=[.int .i64 x5.Kind,.int .i64 x5.N,.sl (x5.Attrs.map YAG.row),.sl (x5.Elems.map YAC.row)]) R R⟩,Za⟩ (fun _=>YJI (ee1)) R) (sA R R (aZ (hK10 _ ?_)))))))
  refine aS fun K11 hK11 wK11=>(aS fun _ hK12 _=>(aR (sQ R (fB R YB3 iL fR R) (sQ R (Zb (a:=rI (x5.Kind)) R ts_3 iL R R) (sQ R (Zs R iL iL) (sM R R (sV R R R (fB R YFj iL fR R) (sV R R R (Zb (a:=qb x5.Elems) R YC4 (iR R) R R) (sV R R R (ZA R YBN.slice (iR R)) (sV R R R (Zs R (iR R) iL) (sQ R (Zr R iL (iR R)) (sM R R (sV R R R (Zf R iL) (sV R R R (Zs R (iR R) iL) (sQ R (Zr R iL (iR R)) (sM R R (sV R R R (fB R YB3 iL fR R) (sV R R R (Zb (a:=rI (x5.Kind)) R ts_3 (iR R) R R) (sV R R R (ZH R (iR R) iL) (sV R R R (Zf R (iR R)) ?_))))))))))))))))))))
  refine sW (.two R R R) R (fB R YC1 iL fR R) ?_
  refine sW (.two R R R) R (Zb (a:=rI (x5.N)) R ts_3 (iR R) R R) ?_
  refine sW (.two R R R) R (Zs R (iR R) iL) ?_
  refine sV R R R (Zr R (iR R) (iR R)) (sV R R R (Zf R (iR R)) ?_)
  refine sW (.two R R R) R (Zf R iL) ?_
  refine sW (.two R R R) R (Zs R (iR R) iL) ?_
  refine sV R R R (Zr R (iR R) (iR R)) (sQ R (ZC R iL (iR R)) (aZ (hK12 _ ?_)))
  refine jb1k h8 fun p2 hp2 hk3=>?_
  have J3 : ∀ (e2:Int) (i8:Nat→Nat),p2=e2→K11 ⟨[(4,.ptr 4 n0 0 0),(6,.ptr 6 (i3 2) 0 0),(7,rI (e2)),(8,qg d1),(9,rI ((d1.length:Int))),(10,rI (x2))],[(4,some (.box n0 193 [.own 3040 (i3 0),.own 3041 (i3 1),rI (w2.cut)])),(6,some (.box (i3 2) 100 (k21_ x5))),(3040,some (.arr (i3 0) 100 4 (w2.out.map YAB.row))),(3041,some (.arr (i3 1) 51 3 (w2.add.map YAC.row)))],(i8 0),76⟩:=by
   intro e2 i8 e
   have h9:=hk3 _ e
   refine hK11 _ ?_
   refine aS fun _ hK13 _=>(aS fun _ hK14 _=>(aR (sM R R (sQ R (ZH R iL iL) (aZ (hK14 _ ?_))))))
   refine aC R (fun hc2=>?_) (fun hc2=>?_)
   ·have h10:=Zn hc2 h9
    refine aS fun _ hK15 _=>(aR (sM R R (sA R R (sA R R (aZ (hK15 _ ?_))))))
    refine Zk ?_
    exact YEO (P:=Tryz.prog) (fun (r:(List YAB) × Int)=>qg r.1) (fun (r:(List YAB) × Int)=>rI (r.2)) (he1 _ (hx1 _ (Zd (he2 _ (Zd h10).symm)).symm)) iL (.t (.one (.nil))) (.t (.d R))
   ·have h10:=Zo hc2 h9
    refine Zi (hK13 _ ?_)
    refine aS fun _ hK16 _=>(aR (sQ R (fB R YB3 iL fR R) (sQ R (Zb (a:=rI (x5.Kind)) R ts_3 iL R R) (aZ (hK16 _ ?_)))))
    refine Zp (aS fun _ hK17 _=>(aR (sQ R (Zs R iL iL) (sA R R (aZ (hK17 _ ?_))))))
    refine aC R (fun hc3=>?_) (fun hc3=>?_)
    ·have h11:=Zn hc3 h10
     refine aR (sQ R (fB R YC1 iL fR R) (sQ R (Zb (a:=rI (x5.N)) R ts_3 iL R R) (sQ R (fB R YDK iL fR R) (sQ R (Zb (a:=qa x5.Attrs) R YCi iL R R) (Zj h11 fun w7 ew7 h12=>?_)))))
     refine AOps.stepHI [4,3040,3041] (hc:=[(1000,some (.box n0 193 [.own 1001 (i3 0),.own 1002 (i3 1),rI (w2.cut)])),(1001,some (.arr (i3 0) 100 4 (w2.out.map YAB.row))),(1002,some (.arr (i3 1) 51 3 (w2.add.map YAC.row)))]) (bs:=[.ptr 1000 n0 0 0,rI (x5.N),qa x5.Attrs]) (caps:=[]) R R R R iL R ⟨.inl ⟨iL,R⟩,.inl ⟨iL,R⟩,.inl ⟨iL,R⟩,Za⟩ ⟨R,R,R,R,R,R,R,R,R,Za⟩ (by decide) (YHs ew7) ?_
     intro i9 n2
     refine ZT (s':=⟨[(4,.ptr 4 n0 0 0),(6,.ptr 6 (i3 2) 0 0),(7,rI (e2)),(8,qg d1),(9,rI ((d1.length:Int))),(10,rI (x2)),(46,rI (e2)),(47,rB ((!decide (e2=0)))),(49,.ptr 6 (i3 2) 0 0),(50,rI (x5.Kind)),(60,rB ((decide (x5.Kind=0)))),(61,rB ((decide (x5.Kind=0)))),(62,.ptr 6 (i3 2) 0 1),(63,rI (x5.N)),(64,.ptr 6 (i3 2) 0 2),(65,qa x5.Attrs),(66,.tup [])],[(4,some (.box n0 193 [.own 3040 (i9 0),.own 3041 (i9 1),rI (w7.cut)])),(6,some (.box (i3 2) 100 (k21_ x5))),(3040,some (.arr (i9 0) 100 4 (w7.out.map YAB.row))),(3041,some (.arr (i9 1) 51 3 (w7.add.map YAC.row)))],n2,76⟩) (by exact Zc ⟨jL,jL,jL,jL,jL,jL,jL,jL,jL,jL,jL,jL,jL,jL,jL,jL,jL,Za⟩ ⟨.inl R,.inl R,.inl R,.inl R,Za⟩ nL) ?_
     refine Zt ?_
     exact wK8 _ _ ((by exact Zc ⟨jL,jL,jL,jL,Za⟩ ⟨.inl R,.inl R,.inl R,Za⟩ nL)) (J2 _ (vec [(i9 0),(i9 1),n2]) (Zd h12).symm)
    ·have h11:=Zo hc3 h10
     refine aS fun _ hK18 _=>(aR (sQ R (Zs R iL iL) (sA R R (aZ (hK18 _ ?_)))))
     refine aC R (fun hc4=>?_) (fun hc4=>?_)
     ·have h13:=Zn hc4 h11
      refine Zh (s':=⟨[(4,.ptr 4 n0 0 0),(6,.ptr 6 (i3 2) 0 0),(8,qg d1),(9,rI ((d1.length:Int))),(10,rI (x2))],[(4,some (.box n0 193 [.own 3040 (i3 0),.own 3041 (i3 1),rI (w2.cut)])),(6,some (.box (i3 2) 100 (k21_ x5))),(3040,some (.arr (i3 0) 100 4 (w2.out.map YAB.row))),(3041,some (.arr (i3 1) 51 3 (w2.add.map YAC.row)))],(i8 0),76⟩) (by exact Zc ⟨jL,jL,jL,jL,jL,Za⟩ ⟨.inl R,.inl R,.inl R,.inl R,Za⟩ nL) ?_
      refine aR (sQ R (fB R YFj iL fR R) (sQ R (Zb (a:=qb x5.Elems) R YC4 iL R R) (Zj h13 fun w8 ew8 h14=>?_)))
      refine AOps.stepHI [4,3040,3041] (hc:=[(1000,some (.box n0 193 [.own 1001 (i3 0),.own 1002 (i3 1),rI (w2.cut)])),(1001,some (.arr (i3 0) 100 4 (w2.out.map YAB.row))),(1002,some (.arr (i3 1) 51 3 (w2.add.map YAC.row)))]) (bs:=[.ptr 1000 n0 0 0,qb x5.Elems]) (caps:=[]) R R R R iL R ⟨.inl ⟨iL,R⟩,.inl ⟨iL,R⟩,Za⟩ ⟨R,R,R,R,R,R,R,R,R,Za⟩ (by decide) (YHd ew8) ?_
      intro i10 n3
      refine ZT (s':=⟨[(4,.ptr 4 n0 0 0),(6,.ptr 6 (i3 2) 0 0),(8,qg d1),(9,rI ((d1.length:Int))),(10,rI (x2)),(69,.ptr 6 (i3 2) 0 3),(70,qb x5.Elems),(71,.tup [])],[(4,some (.box n0 193 [.own 3040 (i10 0),.own 3041 (i10 1),rI (w8.cut)])),(6,some (.box (i3 2) 100 (k21_ x5))),(3040,some (.arr (i10 0) 100 4 (w8.out.map YAB.row))),(3041,some (.arr (i10 1) 51 3 (w8.add.map YAC.row)))],n3,76⟩) (by exact Zc ⟨jL,jL,jL,jL,jL,jL,jL,jL,Za⟩ ⟨.inl R,.inl R,.inl R,.inl R,Za⟩ nL) ?_
      refine Zt ?_
      exact wK8 _ _ ((by exact Zc ⟨jL,jL,jL,jL,Za⟩ ⟨.inl R,.inl R,.inl R,Za⟩ nL)) (J2 _ (vec [(i10 0),(i10 1),n3]) (Zd h14).symm)
     ·have h13:=Zo hc4 h11
      refine aS fun _ hK19 _=>?_
      refine Zh (s':=⟨[(4,.ptr 4 n0 0 0),(6,.ptr 6 (i3 2) 0 0),(8,qg d1),(9,rI ((d1.length:Int))),(10,rI (x2))],[(4,some (.box n0 193 [.own 3040 (i3 0),.own 3041 (i3 1),rI (w2.cut)])),(6,some (.box (i3 2) 100 (k21_ x5))),(3040,some (.arr (i3 0) 100 4 (w2.out.map YAB.row))),(3041,some (.arr (i3 1) 51 3 (w2.add.map YAC.row)))],(i8 0),76⟩) (by exact Zc ⟨jL,jL,jL,jL,jL,Za⟩ ⟨.inl R,.inl R,.inl R,.inl R,Za⟩ nL) ?_
      refine aR (sQ R (fB R YHP iL fR R) (sQ R (Zb (a:=rI (w2.cut)) R ts_3 iL R R) (sQ R (fB R YC1 iL fR R) (sQ R (Zb (a:=rI (x5.N)) R ts_3 iL R R) (Zj h13 fun x6 ex6 h15=>(sQ R (ZI R iL iL (fun _=>ex6)) (sQ R (fB R YHP iL fR R) (ZD R R (ZB (ds:=[.own 3040 (i3 0),.own 3041 (i3 1),rI (x6)]) R tz_3 iL R iL R R R R) (aZ (hK19 _ ?_))))))))))
      refine aS fun _ hK20 _=>(aR (sQ R (fB R YHP iL fR R) (sQ R (Zb (a:=rI (x6)) R ts_3 iL R R) (sQ R (ZV R iL iL) (aZ (hK20 _ ?_))))))
      refine aC R (fun hc5=>?_) (fun hc5=>?_)
      ·have h16:=Zn hc5 h15
       refine aS fun _ hK21 _=>?_
       refine Zh (s':=⟨[],[],(i8 0),76⟩) (by exact Zc Za Za nL) ?_
       refine aR (sA R R (sA R R (aZ (hK21 _ ?_))))
       refine Zk ?_
       exact YEO (P:=Tryz.prog) (fun (r:(List YAB) × Int)=>qg r.1) (fun (r:(List YAB) × Int)=>rI (r.2)) (he1 _ (hx1 _ (Zd (he2 _ (Zd h16).symm)).symm)) iL (.t (.one (.nil))) (.t (.d R))
      ·have h16:=Zo hc5 h15
       refine Zi ?_
       exact wK8 _ _ ((by exact Zc ⟨jL,jL,jL,jL,Za⟩ ⟨.inl R,.inl R,.inl R,Za⟩ nL)) (J2 _ (vec [(i3 0),(i3 1),(i8 0)]) (Zd h16).symm)
  refine aC R (fun hc6=>?_) (fun hc6=>?_)
  ·have h17:=Zn hc6 hp2
   refine Zh (s':=⟨[(4,.ptr 4 n0 0 0),(6,.ptr 6 (i3 2) 0 0),(8,qg d1),(9,rI ((d1.length:Int))),(10,rI (x2))],[(4,some (.box n0 193 [.own 3040 (i3 0),.own 3041 (i3 1),rI (w2.cut)])),(6,some (.box (i3 2) 100 (k21_ x5))),(3040,some (.arr (i3 0) 100 4 (w2.out.map YAB.row))),(3041,some (.arr (i3 1) 51 3 (w2.add.map YAC.row)))],((i3 2)+1),76⟩) (by exact Zc ⟨jL,jL,jL,jL,jL,Za⟩ ⟨.inl R,.inl R,.inl R,.inl R,Za⟩ nL) ?_
   refine aR (sQ R (fB R YDK iL fR R) (sQ R (Zb (a:=qa x5.Attrs) R YCi iL R R) (Zj h17 fun e3 ee3 h18=>(Zg R R R (Zq (r:=rI (e3)) (caps:=[]) (bs:=[qa x5.Attrs]) R iL R ⟨⟨_,iL,.d R⟩,Za⟩ (fun _=>YC0 (ee3)) R) (sA R R ?_)))))
   refine Zt ?_
   exact wK11 _ _ ((by exact Zc ⟨jL,jL,jL,jL,jL,jL,Za⟩ ⟨.inl R,.inl R,.inl R,.inl R,Za⟩ nL)) (J3 _ (vec [((i3 2)+1)]) (Zd h18).symm)
  ·have h17:=Zo hc6 hp2
   refine Zi ?_
   exact wK11 _ _ ((by exact Zc ⟨jL,jL,jL,jL,jL,jL,Za⟩ ⟨.inl R,.inl R,.inl R,.inl R,Za⟩ nL)) (J3 _ (vec [((i3 2)+1)]) (Zd h17).symm)
 ·have h4:=Zo hc1 h3
  refine ZJ ?_
  exact wK3 _ _ ((by exact Zc ⟨jL,Za⟩ ⟨.inl R,.inl R,.inl R,Za⟩ nL)) (J1 _ (vec [(i3 0),(i3 1),(i3 2)]) (hx1 _ (Zd h4).symm))
theorem YDS {w1:YAD} {w2:GSel} {change1:List YAG} {r:(List GOp)} {gb1000:Nat} {gb1001:Nat} (h:YAh w1 w2 change1=some r):AHC Tryz.prog 72 2 [.ptr 1000 gb1000 0 0,qa change1,.fn 73 [.ptr 1001 gb1001 0 0,.ptr 1000 gb1000 0 0]] [(1000,some (.box gb1000 102 (k2_ w1))),(1001,some (.box gb1001 26 (k27_ w2)))] (fun rr h'=>∃ (i:Nat→Nat),rr=qh r∧h'=[(1000,some (.box gb1000 102 (k2_ w1))),(1001,some (.box gb1001 26 (k27_ w2)))]):=by
 unfold YAh at h
 refine AHC.mkw Tryz.func72 R R Tryz.ntmps72 (Ze R) fun n0=>?_
 refine aS fun _ hK1 _=>(aR (sA R R (aZ (hK1 _ ?_))))
 refine aS fun _ hK2 _=>(aR (sM R R (sQ R (ZL (ob:=.box _ _ _) R iL fR R) (sQ R (fB R YE7 iL fR R) (sQ R (fB R YBi iL fR R) (sQ R (Zb (a:=qb w1.node.Flow) R YC4 iL R R) (sQ R (ZA R YBN.slice iL) (Zj h fun in1 ein1 h1=>(Zg R R R (YPf 21 R YKm (f:=YBZ) (z0:=false) tr_4 iL iL ein1) (sA R R (aZ (hK2 _ ?_))))))))))))
 refine aS fun K3 hK3 wK3=>(aS fun _ hK4 _=>(aR (sM R R (sQ R (ZL (ob:=.box _ _ _) R iL fR R) (sQ R (fB R YHR iL fR R) (sQ R (Zb (a:=.r (.sl (w1.shown.map (rInt .i64)))) R YRr iL R R) (sQ R (ZA R YCD.slice iL) (sM R R (aZ (hK4 _ ?_))))))))))
 refine Zp ?_
 refine jb1k h1 fun o1 hit1 hk1=>?_
 have J1 : ∀ (in5:List Bool) (i5:Nat→Nat),o1=in5→K3 ⟨[(0,.ptr 1000 gb1000 0 0),(1,qa change1),(7,.own 21 (i5 0))],[(21,some (.arr (i5 0) 4 1 (in5.map YBZ))),(1000,some (.box gb1000 102 (k2_ w1))),(1001,some (.box gb1001 26 (k27_ w2)))],(i5 1),73⟩:=by
  intro in5 i5 e
  have h2:=hk1 _ e
  refine hK3 _ ?_
  refine aS fun _ hK5 _=>(aR (sA R R (aZ (hK5 _ ?_))))
  refine aS fun K6 hK6 wK6=>(aS fun _ hK7 _=>(aR (sM R R (sQ R (ZL (ob:=.box _ _ _) R iL fR R) (sQ R (fB R YE7 iL fR R) (sQ R (fB R YBi iL fR R) (sQ R (Zb (a:=qb w1.node.Flow) R YC4 iL R R) (sQ R (ZA R YBN.slice iL) (sM R R (aZ (hK7 _ ?_)))))))))))
  refine Zp ?_
  refine jb1k h2 fun o2 hit2 hk2=>?_
  have J2 : ∀ (l4:List YAB) (i10:Nat→Nat),o2=l4→K6 ⟨[(0,.ptr 1000 gb1000 0 0),(10,.own 5010 (i10 0))],[(1000,some (.box gb1000 102 (k2_ w1))),(1001,some (.box gb1001 26 (k27_ w2))),(5010,some (.arr (i10 0) 100 4 (l4.map YAB.row)))],(i10 1),73⟩:=by
   intro l4 i10 e
   have h3:=hk2 _ e
   refine hK6 _ ?_
   refine aS fun _ hK8 _=>(aR (sM R R ?_))
   refine ZT (by exact Weak.frz (e':=[(0,.ptr 1000 gb1000 0 0),(10,qg l4),(61,qg l4)]) (h':=[(1000,some (.box gb1000 102 (k2_ w1))),(1001,some (.box gb1001 26 (k27_ w2)))]) 5010 R ⟨jL,.inl (.inr (.inr ⟨R,R⟩)),.inl (.inr (.inr ⟨R,R⟩)),Za⟩ ⟨R,.inl R,R,.inl R,Za⟩) ?_
   refine ob2k h3 fun r1 r2 er1 h4=>(Zg R R R (YCZ (r:=.tup [qg r1,rI (r2)]) (caps:=[]) (bs:=[qg l4]) R iL R ⟨.inl ⟨iL,R⟩,Za⟩ (fun _=>YJJ (er1))) (sM R R (sQ R (ZY (a:=qg r1) R iL R) (sQ R (ZY (a:=rI (r2)) R iL R) (sA R R (sA R R (aZ (hK8 _ ?_))))))))
   refine aS fun _ hK9 _=>(aR (sM R R (sQ R (ZL (ob:=.box _ _ _) R iL fR R) (sQ R (fB R YE7 iL fR R) (sQ R (fB R YCX iL fR R) (sQ R (Zb (a:=rI (w1.node.ID)) R ts_3 iL R R) (sM R R ?_)))))))
   refine sQ R (YBD R YTv (q:=[(0,_),(1,_),(12,_)]) (by exact ⟨R,R,R,iL,R,R,R,iL,R,R,R,iL,Za⟩) (cs:=[rI (2),rI (w1.node.ID),rI (0),rI (0),.cst (.slice none 0 0),.cst (.slice none 0 0),rI (0),rI (0),.cst (.slice none 0 0),.cst (.slice none 0 0),.cst (.slice none 0 0),.cst (.slice none 0 0),qg r1,.cst (.slice none 0 0),.cst (.slice none 0 0),.cst (.slice none 0 0),.cst (.slice none 0 0),.cst (.slice none 0 0),.cst (.slice none 0 0)]) (by rfl)) ?_
   refine Zg R R R (YCs 72 R YKn (f:=GOp.row) (l:=([(GOp.mk 2 w1.node.ID (YAP.mk 0 0 [] [] (YAy.mk 0 0 [] []) []) [] r1 (YAj.mk [] [] [] [] []) [])]:List GOp)) ⟨R,⟨_,iL,R⟩,Za⟩ R (fun _=>R) R) (sA R R (aZ (hK9 _ ?_)))
   refine Zk ?_
   exact RetW.mk (s':=⟨[(6,.r (.sl ([(GOp.mk 2 w1.node.ID (YAP.mk 0 0 [] [] (YAy.mk 0 0 [] []) []) [] r1 (YAj.mk [] [] [] [] []) [])].map GOp.row)))],[(1000,some (.box gb1000 102 (k2_ w1))),(1001,some (.box gb1001 26 (k27_ w2)))],((i10 1)+1),73⟩) (ZP (by exact Weak.frz (e':=[(0,.ptr 1000 gb1000 0 0),(6,.r (.sl ([(GOp.mk 2 w1.node.ID (YAP.mk 0 0 [] [] (YAy.mk 0 0 [] []) []) [] r1 (YAj.mk [] [] [] [] []) [])].map GOp.row))),(10,qg l4),(13,qg r1),(14,rI (r2)),(60,.tup [qg r1,rI (r2)]),(61,qg l4),(62,.tup [qg r1,rI (r2)]),(63,qg r1),(64,rI (r2)),(65,.ptr 1000 gb1000 0 0),(66,.ptr 1000 gb1000 0 0),(67,.ptr 1000 gb1000 0 0),(68,.ptr 1000 gb1000 0 0),(69,rI (w1.node.ID)),(70,qg r1),(71,.agg [rI (2),rI (w1.node.ID),rI (0),rI (0),.cst (.slice none 0 0),.cst (.slice none 0 0),rI (0),rI (0),.cst (.slice none 0 0),.cst (.slice none 0 0),.cst (.slice none 0 0),.cst (.slice none 0 0),qg r1,.cst (.slice none 0 0),.cst (.slice none 0 0),.cst (.slice none 0 0),.cst (.slice none 0 0),.cst (.slice none 0 0),.cst (.slice none 0 0)]),(72,.r (.sl ([(GOp.mk 2 w1.node.ID (YAP.mk 0 0 [] [] (YAy.mk 0 0 [] []) []) [] r1 (YAj.mk [] [] [] [] []) [])].map GOp.row)))]) (h':=[(1000,some (.box gb1000 102 (k2_ w1))),(1001,some (.box gb1001 26 (k27_ w2)))]) 72 R ⟨jL,.inl (.inr (.inr ⟨R,R⟩)),jL,jL,jL,jL,jL,jL,jL,jL,jL,jL,jL,jL,jL,jL,jL,.inl (.inr (.inr ⟨R,R⟩)),Za⟩ ⟨R,.inl R,R,.inl R,Za⟩) (by exact Zc ⟨jL,Za⟩ ⟨.inl R,.inl R,Za⟩ nL)) (YBQ (fun (r:(List GOp)) rr h'=>∃ (i:Nat→Nat),rr=qh r∧h'=[(1000,some (.box gb1000 102 (k2_ w1))),(1001,some (.box gb1001 26 (k27_ w2)))]) h4 (by exact ⟨.r (.sl ([(GOp.mk 2 w1.node.ID (YAP.mk 0 0 [] [] (YAy.mk 0 0 [] []) []) [] r1 (YAj.mk [] [] [] [] []) [])].map GOp.row)),[(1000,some (.box gb1000 102 (k2_ w1))),(1001,some (.box gb1001 26 (k27_ w2)))],R,⟨.inr R,.inr R,Za⟩,R,R,vec [],R,R⟩))
  refine AW.iter2 (fun (x5:Int) (l2:List YAB) i8=>⟨[(0,.ptr 1000 gb1000 0 0),(1,qa change1),(7,.own 21 (i5 0)),(10,.own 5010 (i8 0)),(44,rI ((w1.node.Flow.length:Int))),(45,rI (x5))],[(21,some (.arr (i5 0) 4 1 (in5.map YBZ))),(1000,some (.box gb1000 102 (k2_ w1))),(1001,some (.box gb1001 26 (k27_ w2))),(5010,some (.arr (i8 0) 100 4 (l2.map YAB.row)))],(i8 1),73⟩) (vec [(i5 1),((i5 1)+1)]) hit2 (ZP (ZP (Weak.adopt 10 5010 100 4 (by decide) R) (by exact Zc (e':=[(0,.ptr 1000 gb1000 0 0),(1,qa change1),(7,.own 21 (i5 0)),(10,.own 5010 (i5 1)),(39,.ptr 1000 gb1000 0 0),(40,.ptr 1000 gb1000 0 0),(41,.ptr 1000 gb1000 0 0),(42,.ptr 1000 gb1000 0 3),(43,qb w1.node.Flow),(44,rI ((w1.node.Flow.length:Int))),(45,rI (0))]) (h':=[(21,some (.arr (i5 0) 4 1 (in5.map YBZ))),(1000,some (.box gb1000 102 (k2_ w1))),(1001,some (.box gb1001 26 (k27_ w2))),(5010,some (.arr (i5 1) 100 4 (([]:List YAB).map YAB.row)))]) ⟨jL,jL,jL,jL,jL,jL,jL,jL,jL,jL,jL,Za⟩ ⟨.inl R,.inl R,.inl R,.inl R,Za⟩ nL)) (by exact Zc ⟨jL,jL,jL,jL,jL,jL,Za⟩ ⟨.inl R,.inl R,.inl R,.inl R,Za⟩ nL)) ?_
  intro x5 l2 i8 v1 hv1 hx2
  have h5:YAa w1 change1 in5 x5 l2=some v1:=hv1; unfold YAa at h5
  refine aS fun _ hK10 _=>(aR (sQ R (Zx R iL iL) (aZ (hK10 _ ?_))))
  refine aS fun _ hK11 _=>?_
  refine aC R (fun hc1=>?_) (fun hc1=>?_)
  ·have h6:=Zn hc1 h5
   refine Zi (hK11 _ ?_)
   refine aS fun _ hK12 _=>(Zp (aS fun _ hK13 _=>(aR (sM R R (sA R R (aZ (hK13 _ ?_)))))))
   refine aS fun _ hK14 _=>(aR ?_)
   refine sQ R (YBD R YJM (q:=[(0,_),(1,_)]) (by exact ⟨R,R,R,iL,R,R,R,iL,Za⟩) (cs:=z15_) (by rfl)) ?_
   refine Zg R R R (ZX (cs:=z14_) 12 R YNq R R) (ZD R R (ZB (ds:=z15_) R YNp iL R iL R R R R) (aZ (hK14 _ ?_)))
   refine aS fun K15 hK15 wK15=>(aS fun _ hK16 _=>(aR (sM R R (sM R R (Zj h6 fun x7 ex7 h7=>(sQ R (YBT R YKm.slice iL R iL (fun _=>ex7)) (sQ R (YDB (d:=.bool x7) R ts_4 iL fR (fun _=>ex7) R) (aZ (hK16 _ ?_)))))))))
   refine jb1k h7 fun p1 hp1 hk3=>?_
   have J3 : ∀ (s1:YAB) (i11:Nat→Nat),p1=s1→K15 ⟨[(0,.ptr 1000 gb1000 0 0),(1,qa change1),(7,.own 21 (i5 0)),(10,.own 5010 (i8 0)),(12,.ptr 12 (i8 1) 0 0),(44,rI ((w1.node.Flow.length:Int))),(45,rI (x5))],[(12,some (.box (i8 1) 100 [rI (s1.Kind),rI (s1.N),qa s1.Attrs,.cst (.slice none 0 0)])),(21,some (.arr (i5 0) 4 1 (in5.map YBZ))),(1000,some (.box gb1000 102 (k2_ w1))),(1001,some (.box gb1001 26 (k27_ w2))),(5010,some (.arr (i8 0) 100 4 (l2.map YAB.row)))],(i11 0),73⟩:=by
    intro s1 i11 e
    have h8:=hk3 _ e
    refine hK15 _ ?_
    refine aR (sM R R (sQ R (ZF R YJN iL R R) (Zg R R R (YCs 57 R YCJ (f:=YAB.row) (l:=([(YAB.mk s1.Kind s1.N s1.Attrs [])]:List YAB)) ⟨R,⟨_,iL,R⟩,Za⟩ R (fun _=>R) R) (Zj h8 fun l5 el5 h9=>(Zg R R R (YEq R YCJ iL R (.inr (.inl ⟨_,_,iL,R⟩)) el5) (sA R R (aZ (hK12 _ ?_))))))))
    refine aR (Zj h9 fun x8 ex8 h10=>(sQ R (ZI R iL iL (fun _=>ex8)) (sM R R ?_)))
    refine Zt ?_
    exact YEQ.mk h10 (vec [((i11 0)+1),((i11 0)+2)]) ((by exact Zc ⟨jL,jL,jL,jL,jL,jL,Za⟩ ⟨.inl R,.inl R,.inl R,.inl R,Za⟩ nL))
   refine aC R (fun hc2=>?_) (fun hc2=>?_)
   ·have h11:=Zn hc2 hp1
    refine aR (sM R R (sQ R (fB R YDK iL fR R) (ZD R R (ZB (ds:=[rI (0),rI (1),qa change1,.cst (.slice none 0 0)]) R YTq iL R iL R R R R) ?_)))
    refine Zt ?_
    exact wK15 _ _ ((by exact Zc ⟨jL,jL,jL,jL,jL,jL,jL,Za⟩ ⟨.inl R,.inl R,.inl R,.inl R,.inl R,Za⟩ nL)) (J3 _ (vec [((i8 1)+1)]) (Zd h11).symm)
   ·have h11:=Zo hc2 hp1
    refine Zi ?_
    exact wK15 _ _ ((by exact Zc ⟨jL,jL,jL,jL,jL,jL,jL,Za⟩ ⟨.inr (.inr ⟨_,_,_,_,R,R,⟨.inl R,.inl R,.inr (.inr ⟨R,R⟩),.inl R,Za⟩⟩),.inl R,.inl R,.inl R,.inl R,Za⟩ nL)) (J3 _ (vec [((i8 1)+1)]) (Zd h11).symm)
  ·have h6:=Zo hc1 h5
   refine ZJ ?_
   exact wK6 _ _ ((by exact Zc ⟨jL,jL,Za⟩ ⟨.inl R,.inl R,.inl R,Za⟩ nL)) (J2 _ (vec [(i8 0),(i8 1)]) (hx2 _ (Zd h6).symm))
 refine AW.iter2 (fun (x2:Int) (in3:List Bool) i3=>⟨[(0,.ptr 1000 gb1000 0 0),(1,qa change1),(2,.fn 73 [.ptr 1001 gb1001 0 0,.ptr 1000 gb1000 0 0]),(7,.own 21 (i3 0)),(25,.r (.sl (w1.shown.map (rInt .i64)))),(26,rI ((w1.shown.length:Int))),(27,rI (x2))],[(21,some (.arr (i3 0) 4 1 (in3.map YBZ))),(1000,some (.box gb1000 102 (k2_ w1))),(1001,some (.box gb1001 26 (k27_ w2)))],(i3 1),73⟩) (vec [n0,(n0+1)]) hit1 ((by exact Zc ⟨jL,jL,jL,jL,jL,jL,jL,Za⟩ ⟨.inl R,.inl R,.inl R,Za⟩ nL)) ?_
 intro x2 in3 i3 v2 hv2 hx1
 have h12:YAb w1 w2 x2 in3=some v2:=hv2; unfold YAb at h12
 refine aS fun _ hK17 _=>(aR (sQ R (Zx R iL iL) (aZ (hK17 _ ?_))))
 refine aS fun _ hK18 _=>?_
 refine aC R (fun hc3=>?_) (fun hc3=>?_)
 ·have h13:=Zn hc3 h12
  refine Zi (hK18 _ ?_)
  refine aS fun _ hK19 _=>(Zp (aS fun _ hK20 _=>(aR (sM R R (Zj h13 fun x9 ex9 h14=>(sQ R (Zz R YCD.slice iL iL (fun _=>R) (fun _=>ex9)) (sQ R (ZN (d:=.int .i64 x9) R ts_3 iL R) (sA R R (sA R R (aZ (hK20 _ ?_)))))))))))
  refine aR (sM R R (sM R R (sM R R (sM R R (Zj h14 fun r3 er3 h15=>?_)))))
  refine AOps.stepHI [1001,1000] (hc:=[(1000,some (.box gb1001 26 (k27_ w2))),(1001,some (.box gb1000 102 (k2_ w1)))]) (bs:=[rI (x2)]) (caps:=[.ptr 1000 gb1001 0 0,.ptr 1001 gb1000 0 0]) R R R R iL R ⟨.inl ⟨iL,R⟩,Za⟩ ⟨R,R,R,R,R,R,Za⟩ (by decide) (YGn er3) ?_
  intro i12 n1
  refine ZT (s':=⟨[(0,.ptr 1000 gb1000 0 0),(1,qa change1),(2,.fn 73 [.ptr 1001 gb1001 0 0,.ptr 1000 gb1000 0 0]),(7,.own 21 (i3 0)),(8,rI (x2)),(9,rI (x9)),(25,.r (.sl (w1.shown.map (rInt .i64)))),(26,rI ((w1.shown.length:Int))),(27,rI (x2)),(28,rB ((decide (x2<(w1.shown.length:Int))))),(29,rI (x2)),(30,.rop ((rInt .i64) x9) 0),(31,rI (x9)),(32,.own 21 (i3 0)),(33,rI (x9)),(34,.fn 73 [.ptr 1001 gb1001 0 0,.ptr 1000 gb1000 0 0]),(35,rI (x2)),(36,rB (r3))],[(21,some (.arr (i3 0) 4 1 (in3.map YBZ))),(1000,some (.box gb1000 102 (k2_ w1))),(1001,some (.box gb1001 26 (k27_ w2)))],n1,73⟩) (by exact Zc ⟨jL,jL,jL,jL,jL,jL,jL,jL,jL,jL,jL,jL,jL,jL,jL,jL,jL,jL,Za⟩ ⟨.inl R,.inl R,.inl R,Za⟩ nL) ?_
  refine Zj h15 fun x10 ex10 h16=>(sQ R (YBT R YKm.slice iL R iL (fun _=>ex10)) (ZD R R (YHW (v:=r3) R tz_4 iL R ex10 iL R R R R) (aZ (hK19 _ ?_))))
  refine Zh (s':=⟨[(0,.ptr 1000 gb1000 0 0),(1,qa change1),(2,.fn 73 [.ptr 1001 gb1001 0 0,.ptr 1000 gb1000 0 0]),(7,.own 21 (i3 0)),(25,.r (.sl (w1.shown.map (rInt .i64)))),(26,rI ((w1.shown.length:Int))),(27,rI (x2))],[(21,some (.arr (i3 0) 4 1 ((in3.set x9.toNat r3).map YBZ))),(1000,some (.box gb1000 102 (k2_ w1))),(1001,some (.box gb1001 26 (k27_ w2)))],n1,73⟩) (by exact Zc ⟨jL,jL,jL,jL,jL,jL,jL,Za⟩ ⟨.inl R,.inl R,.inl R,Za⟩ nL) ?_
  refine aR (Zj h16 fun x11 ex11 h17=>(sQ R (ZI R iL iL (fun _=>ex11)) (sM R R ?_)))
  refine Zt ?_
  exact YEQ.mk h17 (vec [(i3 0),n1]) ((by exact Zc ⟨jL,jL,jL,jL,jL,jL,jL,Za⟩ ⟨.inl R,.inl R,.inl R,Za⟩ nL))
 ·have h13:=Zo hc3 h12
  refine ZJ ?_
  exact wK3 _ _ ((by exact Zc ⟨jL,jL,jL,Za⟩ ⟨.inl R,.inl R,.inl R,Za⟩ nL)) (J1 _ (vec [(i3 0),(i3 1)]) (hx1 _ (Zd h13).symm))
theorem YID {d1:GDoc} {s1:GSel} {change1:List YAG} {r:(List GOp) × Int} (h:YA9 d1 s1 change1=some r):ARO Tryz.prog 24 [.agg [qf d1.Nodes],.agg (k27_ s1),qa change1] (.tup [qh r.1,rI (r.2)]):=by
 unfold YA9 at h
 refine Zw Tryz.func24 R R Tryz.ntmps24 R (Ze R) fun n0=>?_
 refine aS fun _ hK1 _=>(aR (Zg R R R (ZR (cs:=[qf d1.Nodes]) 3 R iL R R) (Zg R R R (ZR (cs:=(k27_ s1)) 4 R iL R R) (sA R R (sA R R (aZ (hK1 _ ?_)))))))
 refine aS fun _ hK2 _=>(aR (sQ R (ZF R YHy iL R R) (sQ R (ZF R YR9 iL R R) (ob2k h fun r1 r2 er1 h1=>(Zg R R R (YCZ (r:=.tup [.agg (k2_ r1),rI (r2)]) (caps:=[]) (bs:=[.agg [qf d1.Nodes],.agg (k27_ s1),.r (.str [])]) R iL R ⟨.inl ⟨iL,R⟩,.inl ⟨iL,R⟩,.inl ⟨iL,R⟩,Za⟩ (fun _=>YHi (er1))) (sM R R (sQ R (ZY (a:=.agg (k2_ r1)) R iL R) (sQ R (ZY (a:=rI (r2)) R iL R) (Zg R R R (ZX (cs:=z3_) 8 R YP8 R R) (ZD R R (ZB (ds:=(k2_ r1)) R YII iL R iL R R R R) (sA R R (aZ (hK2 _ ?_)))))))))))))
 refine aS fun _ hK3 _=>(aS fun _ hK4 _=>?_)
 refine Zh (s':=⟨[(2,qa change1),(4,.ptr 4 (n0+1) 0 0),(8,.ptr 8 (n0+2) 0 0),(9,rI (r2))],[(4,some (.box (n0+1) 26 (k27_ s1))),(8,some (.box (n0+2) 102 (k2_ r1)))],(n0+3),28⟩) (by exact Zc ⟨jL,jL,jL,jL,Za⟩ ⟨.inl R,.inl R,Za⟩ nL) ?_
 refine aR (sM R R (sQ R (ZH R iL iL) (aZ (hK4 _ ?_))))
 refine aC R (fun hc1=>?_) (fun hc1=>?_)
 ·have h2:=Zn hc1 h1
  refine aS fun _ hK5 _=>(aR (sM R R (sA R R (sA R R (aZ (hK5 _ ?_))))))
  refine Zk ?_
  exact YEO (P:=Tryz.prog) (fun (r:(List GOp) × Int)=>qh r.1) (fun (r:(List GOp) × Int)=>rI (r.2)) h2 iL (.t (.one (.nil))) (.t (.d R))
 ·have h2:=Zo hc1 h1
  refine Zi (hK3 _ ?_)
  refine aS fun _ hK6 _=>(aS fun _ hK7 _=>(aR (sM R R (Zj h2 fun e1 ee1 h3=>(Zg R R R (Zq (r:=rI (e1)) (caps:=[]) (bs:=[qa change1]) R iL R ⟨⟨_,iL,.d R⟩,Za⟩ (fun _=>YC0 (ee1)) R) (sA R R (aZ (hK7 _ ?_))))))))
  refine aS fun _ hK8 _=>(aR (sM R R (sQ R (ZH R iL iL) (aZ (hK8 _ ?_)))))
  refine aC R (fun hc2=>?_) (fun hc2=>?_)
  ·have h4:=Zn hc2 h3
   refine aS fun _ hK9 _=>?_
   refine Zh (s':=⟨[(10,rI (e1))],[],(n0+3),28⟩) (by exact Zc ⟨jL,Za⟩ Za nL) ?_
   refine aR (sM R R (sA R R (sA R R (aZ (hK9 _ ?_)))))
   refine Zk ?_
   exact YEO (P:=Tryz.prog) (fun (r:(List GOp) × Int)=>qh r.1) (fun (r:(List GOp) × Int)=>rI (r.2)) h4 iL (.t (.one (.nil))) (.t (.d R))
  ·have h4:=Zo hc2 h3
   refine Zi (hK6 _ ?_)
   refine aS fun _ hK10 _=>(aR (sM R R ?_))
   refine sQ R (YGQ (bs:=[.ptr 4 (n0+1) 0 0,.ptr 8 (n0+2) 0 0]) R (by exact ⟨iL,iL,Za⟩)) ?_
   refine Zj h4 fun r3 er3 h5=>?_
   refine AOps.stepHI [8,4] (hc:=[(1000,some (.box (n0+2) 102 (k2_ r1))),(1001,some (.box (n0+1) 26 (k27_ s1)))]) (bs:=[.ptr 1000 (n0+2) 0 0,qa change1,.fn 73 [.ptr 1001 (n0+1) 0 0,.ptr 1000 (n0+2) 0 0]]) (caps:=[]) R R R R iL R ⟨.inl ⟨iL,R⟩,.inl ⟨iL,R⟩,.inl ⟨iL,R⟩,Za⟩ ⟨R,R,R,R,R,R,Za⟩ (by decide) (YDS er3) ?_
   intro i1 n1
   refine ZT (s':=⟨[(2,qa change1),(4,.ptr 4 (n0+1) 0 0),(8,.ptr 8 (n0+2) 0 0),(9,rI (r2)),(10,rI (e1)),(17,rI (r2)),(18,rB ((!decide (r2=0)))),(20,qa change1),(21,rI (e1)),(22,rI (e1)),(23,rB ((!decide (e1=0)))),(25,qa change1),(26,.fn 73 [.ptr 4 (n0+1) 0 0,.ptr 8 (n0+2) 0 0]),(27,qh r3)],[(4,some (.box (n0+1) 26 (k27_ s1))),(8,some (.box (n0+2) 102 (k2_ r1)))],n1,28⟩) (by exact Zc ⟨jL,jL,jL,jL,jL,jL,jL,jL,jL,jL,jL,jL,jL,jL,Za⟩ ⟨.inl R,.inl R,Za⟩ nL) ?_
   refine sA R R (sA R R (aZ (hK10 _ ?_)))
   refine Zk ?_
   exact YEO (P:=Tryz.prog) (fun (r:(List GOp) × Int)=>qh r.1) (fun (r:(List GOp) × Int)=>rI (r.2)) h5 iL (.t (.d R)) (.t (.d R))
theorem YER {w1:GSel} {c1:Int} {w2:YAD} {k1:Int} {r:Bool} {gb1000:Nat} {gb1001:Nat} {gb1002:Nat} (h:YAu w1 c1 w2 k1=some r):AHC Tryz.prog 75 3 [rI (k1),.ptr 1000 gb1000 0 0,.ptr 1001 gb1001 0 0,.ptr 1002 gb1002 0 0] [(1000,some (.box gb1000 26 (k27_ w1))),(1001,some (.box gb1001 3 [rI (c1)])),(1002,some (.box gb1002 102 (k2_ w2)))] (fun rr h'=>∃ (i:Nat→Nat),rr=rB (r)∧h'=[(1000,some (.box gb1000 26 (k27_ w1))),(1001,some (.box gb1001 3 [rI (c1)])),(1002,some (.box gb1002 102 (k2_ w2)))]):=by
 unfold YAu at h
 refine AHC.mkw Tryz.func75 R R Tryz.ntmps75 (Ze R) fun n0=>?_
 refine aS fun _ hK1 _=>(aR (sA R R (aZ (hK1 _ ?_))))
 refine aS fun K2 hK2 wK2=>(aR (sM R R (sQ R (fB R YFs iL fR R) (sQ R (Zb (a:=rI (w1.From)) R ts_3 iL R R) (sQ R (YB5 R iL iL) (sM R R (sV R R R (Zf R iL) (sV R R R (Zb (a:=rI (c1)) R ts_3 iL R R) (sV R R R (YEP R (iR R) (iR R)) (sQ R (Zr R iL (iR R)) (sM R R (sV R R R (Zf R iL) ?_))))))))))))
 refine jb1k h fun p1 hp1 hk1=>?_
 have J1 : ∀ (x1:Bool) (i1:Nat→Nat),p1=x1→K2 ⟨[(5,rB (x1))],[(1000,some (.box gb1000 26 (k27_ w1))),(1001,some (.box gb1001 3 [rI (c1)])),(1002,some (.box gb1002 102 (k2_ w2)))],(i1 0),21⟩:=by
  intro x1 i1 e
  have h1:=hk1 _ e
  refine hK2 _ ?_
  refine Zk ?_
  exact RetW.mk (s':=⟨[(5,rB (x1))],[(1000,some (.box gb1000 26 (k27_ w1))),(1001,some (.box gb1001 3 [rI (c1)])),(1002,some (.box gb1002 102 (k2_ w2)))],(i1 0),21⟩) ((by exact Zc ⟨jL,Za⟩ ⟨.inl R,.inl R,.inl R,Za⟩ nL)) (YBQ (fun (r:Bool) rr h'=>∃ (i:Nat→Nat),rr=rB (r)∧h'=[(1000,some (.box gb1000 26 (k27_ w1))),(1001,some (.box gb1001 3 [rI (c1)])),(1002,some (.box gb1002 102 (k2_ w2)))]) h1 (by exact ⟨rB (x1),[(1000,some (.box gb1000 26 (k27_ w1))),(1001,some (.box gb1001 3 [rI (c1)])),(1002,some (.box gb1002 102 (k2_ w2)))],R,⟨.inr R,.inr R,.inr R,Za⟩,R,R,vec [],R,R⟩))
 refine AOps.split (((decide (w1.From≤k1)) && (decide (k1≤c1))) == true) (fun hg1=>?_) (fun hg1=>?_)
 ·have h2:=Zn hg1 hp1
  refine ZT (by exact Weak.unw2 (e':=[(0,rI (k1)),(1,.ptr 1000 gb1000 0 0),(2,.ptr 1001 gb1001 0 0),(3,.ptr 1002 gb1002 0 0),(5,rB (false)),(6,rI (k1)),(7,.ptr 1000 gb1000 0 1),(8,rI (w1.From)),(9,rB ((decide (w1.From≤k1)))),(10,rB ((decide (w1.From≤k1)))),(14,rB (((decide (w1.From≤k1)) && (decide (k1≤c1))))),(15,rB (((decide (w1.From≤k1)) && (decide (k1≤c1))))),(16,rI (k1))]) hg1 ⟨.inl R,.inl R,.inl R,.inl R,.inl R,.inl R,.inl R,.inl R,.inl R,.inl R,.inl R,.inl R,.inr iL,Za⟩) ?_
  refine Zj h2 fun r1 er1 h3=>?_
  refine AOps.stepHG (.one R R R) hg1 [1002] (hc:=[(1000,some (.box gb1002 102 (k2_ w2)))]) (bs:=[.ptr 1000 gb1002 0 0,rI (k1)]) (caps:=[]) R R R iL R ⟨.inl ⟨iL,R⟩,.inl ⟨iL,R⟩,Za⟩ ⟨R,R,R,Za⟩ (by decide) (YCy er1) ?_
  intro i2 n1
  refine ZT (s':=⟨[(0,rI (k1)),(1,.ptr 1000 gb1000 0 0),(2,.ptr 1001 gb1001 0 0),(3,.ptr 1002 gb1002 0 0),(5,rB (false)),(6,rI (k1)),(7,.ptr 1000 gb1000 0 1),(8,rI (w1.From)),(9,rB ((decide (w1.From≤k1)))),(10,rB ((decide (w1.From≤k1)))),(14,rB (((decide (w1.From≤k1)) && (decide (k1≤c1))))),(15,rB (((decide (w1.From≤k1)) && (decide (k1≤c1))))),(16,rI (k1)),(17,.agg (k26_ r1))],[(1000,some (.box gb1000 26 (k27_ w1))),(1001,some (.box gb1001 3 [rI (c1)])),(1002,some (.box gb1002 102 (k2_ w2)))],n1,21⟩) (by exact Zc ⟨jL,jL,jL,jL,jL,jL,jL,jL,jL,jL,jL,jL,jL,jL,Za⟩ ⟨.inl R,.inl R,.inl R,Za⟩ nL) ?_
  refine AOps.stepGT (.one R R R) hg1 R R (Zv (YJ3 (a:=rI (r1.Char)) R YPE (.inl R) R) _) ?_
  refine AOps.stepGT (.one R R R) hg1 R R (Zv (Zs R (.inl R) (.inl R)) _) ?_
  refine sQ R (Zr R iL iL) (sA R R ?_)
  refine Zt ?_
  exact wK2 _ _ ((by exact Zc ⟨jL,Za⟩ ⟨.inl R,.inl R,.inl R,Za⟩ nL)) (J1 _ (vec [n1]) (Zd h3).symm)
 ·have h2:=Zo hg1 hp1
  refine AOps.stepGF2 (.one R R R) hg1 R R ?_
  refine AOps.stepGF2 (.one R R R) hg1 R R ?_
  refine AOps.stepGF2 (.one R R R) hg1 R R ?_
  refine sQ R (Zr R iL (iR R)) (sA R R ?_)
  refine Zt ?_
  exact wK2 _ _ ((by exact Zc ⟨jL,Za⟩ ⟨.inl R,.inl R,.inl R,Za⟩ nL)) (J1 _ (vec [n0]) (Zd h2).symm)
theorem YCC {w1:YAD} {w2:GSel} {c1:Int} {change1:List YAG} {r:(List GOp)} {gb1000:Nat} {gb1001:Nat} {gb1002:Nat} (h:YAW w1 w2 c1 change1=some r):AHC Tryz.prog 72 3 [.ptr 1000 gb1000 0 0,qa change1,.fn 75 [.ptr 1001 gb1001 0 0,.ptr 1002 gb1002 0 0,.ptr 1000 gb1000 0 0]] [(1000,some (.box gb1000 102 (k2_ w1))),(1001,some (.box gb1001 26 (k27_ w2))),(1002,some (.box gb1002 3 [rI (c1)]))] (fun rr h'=>∃ (i:Nat→Nat),rr=qh r∧h'=[(1000,some (.box gb1000 102 (k2_ w1))),(1001,some (.box gb1001 26 (k27_ w2))),(1002,some (.box gb1002 3 [rI (c1)]))]):=by
 unfold YAW at h
 refine AHC.mkw Tryz.func72 R R Tryz.ntmps72 (Ze R) fun n0=>?_
 refine aS fun _ hK1 _=>(aR (sA R R (aZ (hK1 _ ?_))))
 refine aS fun _ hK2 _=>(aR (sM R R (sQ R (ZL (ob:=.box _ _ _) R iL fR R) (sQ R (fB R YE7 iL fR R) (sQ R (fB R YBi iL fR R) (sQ R (Zb (a:=qb w1.node.Flow) R YC4 iL R R) (sQ R (ZA R YBN.slice iL) (Zj h fun in1 ein1 h1=>(Zg R R R (YPf 21 R YKm (f:=YBZ) (z0:=false) tr_4 iL iL ein1) (sA R R (aZ (hK2 _ ?_))))))))))))
 refine aS fun K3 hK3 wK3=>(aS fun _ hK4 _=>(aR (sM R R (sQ R (ZL (ob:=.box _ _ _) R iL fR R) (sQ R (fB R YHR iL fR R) (sQ R (Zb (a:=.r (.sl (w1.shown.map (rInt .i64)))) R YRr iL R R) (sQ R (ZA R YCD.slice iL) (sM R R (aZ (hK4 _ ?_))))))))))
 refine Zp ?_
 refine jb1k h1 fun o1 hit1 hk1=>?_
 have J1 : ∀ (in5:List Bool) (i5:Nat→Nat),o1=in5→K3 ⟨[(0,.ptr 1000 gb1000 0 0),(1,qa change1),(7,.own 21 (i5 0))],[(21,some (.arr (i5 0) 4 1 (in5.map YBZ))),(1000,some (.box gb1000 102 (k2_ w1))),(1001,some (.box gb1001 26 (k27_ w2))),(1002,some (.box gb1002 3 [rI (c1)]))],(i5 1),73⟩:=by
  intro in5 i5 e
  have h2:=hk1 _ e
  refine hK3 _ ?_
  refine aS fun _ hK5 _=>(aR (sA R R (aZ (hK5 _ ?_))))
  refine aS fun K6 hK6 wK6=>(aS fun _ hK7 _=>(aR (sM R R (sQ R (ZL (ob:=.box _ _ _) R iL fR R) (sQ R (fB R YE7 iL fR R) (sQ R (fB R YBi iL fR R) (sQ R (Zb (a:=qb w1.node.Flow) R YC4 iL R R) (sQ R (ZA R YBN.slice iL) (sM R R (aZ (hK7 _ ?_)))))))))))
  refine Zp ?_
  refine jb1k h2 fun o2 hit2 hk2=>?_
  have J2 : ∀ (l4:List YAB) (i10:Nat→Nat),o2=l4→K6 ⟨[(0,.ptr 1000 gb1000 0 0),(10,.own 5010 (i10 0))],[(1000,some (.box gb1000 102 (k2_ w1))),(1001,some (.box gb1001 26 (k27_ w2))),(1002,some (.box gb1002 3 [rI (c1)])),(5010,some (.arr (i10 0) 100 4 (l4.map YAB.row)))],(i10 1),73⟩:=by
   intro l4 i10 e
   have h3:=hk2 _ e
   refine hK6 _ ?_
   refine aS fun _ hK8 _=>(aR (sM R R ?_))
   refine ZT (by exact Weak.frz (e':=[(0,.ptr 1000 gb1000 0 0),(10,qg l4),(61,qg l4)]) (h':=[(1000,some (.box gb1000 102 (k2_ w1))),(1001,some (.box gb1001 26 (k27_ w2))),(1002,some (.box gb1002 3 [rI (c1)]))]) 5010 R ⟨jL,.inl (.inr (.inr ⟨R,R⟩)),.inl (.inr (.inr ⟨R,R⟩)),Za⟩ ⟨R,.inl R,R,.inl R,R,.inl R,Za⟩) ?_
   refine ob2k h3 fun r1 r2 er1 h4=>(Zg R R R (YCZ (r:=.tup [qg r1,rI (r2)]) (caps:=[]) (bs:=[qg l4]) R iL R ⟨.inl ⟨iL,R⟩,Za⟩ (fun _=>YJJ (er1))) (sM R R (sQ R (ZY (a:=qg r1) R iL R) (sQ R (ZY (a:=rI (r2)) R iL R) (sA R R (sA R R (aZ (hK8 _ ?_))))))))
   refine aS fun _ hK9 _=>(aR (sM R R (sQ R (ZL (ob:=.box _ _ _) R iL fR R) (sQ R (fB R YE7 iL fR R) (sQ R (fB R YCX iL fR R) (sQ R (Zb (a:=rI (w1.node.ID)) R ts_3 iL R R) (sM R R ?_)))))))
   refine sQ R (YBD R YTv (q:=[(0,_),(1,_),(12,_)]) (by exact ⟨R,R,R,iL,R,R,R,iL,R,R,R,iL,Za⟩) (cs:=[rI (2),rI (w1.node.ID),rI (0),rI (0),.cst (.slice none 0 0),.cst (.slice none 0 0),rI (0),rI (0),.cst (.slice none 0 0),.cst (.slice none 0 0),.cst (.slice none 0 0),.cst (.slice none 0 0),qg r1,.cst (.slice none 0 0),.cst (.slice none 0 0),.cst (.slice none 0 0),.cst (.slice none 0 0),.cst (.slice none 0 0),.cst (.slice none 0 0)]) (by rfl)) ?_
   refine Zg R R R (YCs 72 R YKn (f:=GOp.row) (l:=([(GOp.mk 2 w1.node.ID (YAP.mk 0 0 [] [] (YAy.mk 0 0 [] []) []) [] r1 (YAj.mk [] [] [] [] []) [])]:List GOp)) ⟨R,⟨_,iL,R⟩,Za⟩ R (fun _=>R) R) (sA R R (aZ (hK9 _ ?_)))
   refine Zk ?_
   exact RetW.mk (s':=⟨[(6,.r (.sl ([(GOp.mk 2 w1.node.ID (YAP.mk 0 0 [] [] (YAy.mk 0 0 [] []) []) [] r1 (YAj.mk [] [] [] [] []) [])].map GOp.row)))],[(1000,some (.box gb1000 102 (k2_ w1))),(1001,some (.box gb1001 26 (k27_ w2))),(1002,some (.box gb1002 3 [rI (c1)]))],((i10 1)+1),73⟩) (ZP (by exact Weak.frz (e':=[(0,.ptr 1000 gb1000 0 0),(6,.r (.sl ([(GOp.mk 2 w1.node.ID (YAP.mk 0 0 [] [] (YAy.mk 0 0 [] []) []) [] r1 (YAj.mk [] [] [] [] []) [])].map GOp.row))),(10,qg l4),(13,qg r1),(14,rI (r2)),(60,.tup [qg r1,rI (r2)]),(61,qg l4),(62,.tup [qg r1,rI (r2)]),(63,qg r1),(64,rI (r2)),(65,.ptr 1000 gb1000 0 0),(66,.ptr 1000 gb1000 0 0),(67,.ptr 1000 gb1000 0 0),(68,.ptr 1000 gb1000 0 0),(69,rI (w1.node.ID)),(70,qg r1),(71,.agg [rI (2),rI (w1.node.ID),rI (0),rI (0),.cst (.slice none 0 0),.cst (.slice none 0 0),rI (0),rI (0),.cst (.slice none 0 0),.cst (.slice none 0 0),.cst (.slice none 0 0),.cst (.slice none 0 0),qg r1,.cst (.slice none 0 0),.cst (.slice none 0 0),.cst (.slice none 0 0),.cst (.slice none 0 0),.cst (.slice none 0 0),.cst (.slice none 0 0)]),(72,.r (.sl ([(GOp.mk 2 w1.node.ID (YAP.mk 0 0 [] [] (YAy.mk 0 0 [] []) []) [] r1 (YAj.mk [] [] [] [] []) [])].map GOp.row)))]) (h':=[(1000,some (.box gb1000 102 (k2_ w1))),(1001,some (.box gb1001 26 (k27_ w2))),(1002,some (.box gb1002 3 [rI (c1)]))]) 72 R ⟨jL,.inl (.inr (.inr ⟨R,R⟩)),jL,jL,jL,jL,jL,jL,jL,jL,jL,jL,jL,jL,jL,jL,jL,.inl (.inr (.inr ⟨R,R⟩)),Za⟩ ⟨R,.inl R,R,.inl R,R,.inl R,Za⟩) (by exact Zc ⟨jL,Za⟩ ⟨.inl R,.inl R,.inl R,Za⟩ nL)) (YBQ (fun (r:(List GOp)) rr h'=>∃ (i:Nat→Nat),rr=qh r∧h'=[(1000,some (.box gb1000 102 (k2_ w1))),(1001,some (.box gb1001 26 (k27_ w2))),(1002,some (.box gb1002 3 [rI (c1)]))]) h4 (by exact ⟨.r (.sl ([(GOp.mk 2 w1.node.ID (YAP.mk 0 0 [] [] (YAy.mk 0 0 [] []) []) [] r1 (YAj.mk [] [] [] [] []) [])].map GOp.row)),[(1000,some (.box gb1000 102 (k2_ w1))),(1001,some (.box gb1001 26 (k27_ w2))),(1002,some (.box gb1002 3 [rI (c1)]))],R,⟨.inr R,.inr R,.inr R,Za⟩,R,R,vec [],R,R⟩))
  refine AW.iter2 (fun (x5:Int) (l2:List YAB) i8=>⟨[(0,.ptr 1000 gb1000 0 0),(1,qa change1),(7,.own 21 (i5 0)),(10,.own 5010 (i8 0)),(44,rI ((w1.node.Flow.length:Int))),(45,rI (x5))],[(21,some (.arr (i5 0) 4 1 (in5.map YBZ))),(1000,some (.box gb1000 102 (k2_ w1))),(1001,some (.box gb1001 26 (k27_ w2))),(1002,some (.box gb1002 3 [rI (c1)])),(5010,some (.arr (i8 0) 100 4 (l2.map YAB.row)))],(i8 1),73⟩) (vec [(i5 1),((i5 1)+1)]) hit2 (ZP (ZP (Weak.adopt 10 5010 100 4 (by decide) R) (by exact Zc (e':=[(0,.ptr 1000 gb1000 0 0),(1,qa change1),(7,.own 21 (i5 0)),(10,.own 5010 (i5 1)),(39,.ptr 1000 gb1000 0 0),(40,.ptr 1000 gb1000 0 0),(41,.ptr 1000 gb1000 0 0),(42,.ptr 1000 gb1000 0 3),(43,qb w1.node.Flow),(44,rI ((w1.node.Flow.length:Int))),(45,rI (0))]) (h':=[(21,some (.arr (i5 0) 4 1 (in5.map YBZ))),(1000,some (.box gb1000 102 (k2_ w1))),(1001,some (.box gb1001 26 (k27_ w2))),(1002,some (.box gb1002 3 [rI (c1)])),(5010,some (.arr (i5 1) 100 4 (([]:List YAB).map YAB.row)))]) ⟨jL,jL,jL,jL,jL,jL,jL,jL,jL,jL,jL,Za⟩ ⟨.inl R,.inl R,.inl R,.inl R,.inl R,Za⟩ nL)) (by exact Zc ⟨jL,jL,jL,jL,jL,jL,Za⟩ ⟨.inl R,.inl R,.inl R,.inl R,.inl R,Za⟩ nL)) ?_
  intro x5 l2 i8 v1 hv1 hx2
  have h5:YAS w1 change1 in5 x5 l2=some v1:=hv1; unfold YAS at h5
  refine aS fun _ hK10 _=>(aR (sQ R (Zx R iL iL) (aZ (hK10 _ ?_))))
  refine aS fun _ hK11 _=>?_
  refine aC R (fun hc1=>?_) (fun hc1=>?_)
  ·have h6:=Zn hc1 h5
   refine Zi (hK11 _ ?_)
   refine aS fun _ hK12 _=>(Zp (aS fun _ hK13 _=>(aR (sM R R (sA R R (aZ (hK13 _ ?_)))))))
   refine aS fun _ hK14 _=>(aR ?_)
   refine sQ R (YBD R YJM (q:=[(0,_),(1,_)]) (by exact ⟨R,R,R,iL,R,R,R,iL,Za⟩) (cs:=z15_) (by rfl)) ?_
   refine Zg R R R (ZX (cs:=z14_) 12 R YNq R R) (ZD R R (ZB (ds:=z15_) R YNp iL R iL R R R R) (aZ (hK14 _ ?_)))
   refine aS fun K15 hK15 wK15=>(aS fun _ hK16 _=>(aR (sM R R (sM R R (Zj h6 fun x7 ex7 h7=>(sQ R (YBT R YKm.slice iL R iL (fun _=>ex7)) (sQ R (YDB (d:=.bool x7) R ts_4 iL fR (fun _=>ex7) R) (aZ (hK16 _ ?_)))))))))
   refine jb1k h7 fun p1 hp1 hk3=>?_
   have J3 : ∀ (s1:YAB) (i11:Nat→Nat),p1=s1→K15 ⟨[(0,.ptr 1000 gb1000 0 0),(1,qa change1),(7,.own 21 (i5 0)),(10,.own 5010 (i8 0)),(12,.ptr 12 (i8 1) 0 0),(44,rI ((w1.node.Flow.length:Int))),(45,rI (x5))],[(12,some (.box (i8 1) 100 [rI (s1.Kind),rI (s1.N),qa s1.Attrs,.cst (.slice none 0 0)])),(21,some (.arr (i5 0) 4 1 (in5.map YBZ))),(1000,some (.box gb1000 102 (k2_ w1))),(1001,some (.box gb1001 26 (k27_ w2))),(1002,some (.box gb1002 3 [rI (c1)])),(5010,some (.arr (i8 0) 100 4 (l2.map YAB.row)))],(i11 0),73⟩:=by
    intro s1 i11 e
    have h8:=hk3 _ e
    refine hK15 _ ?_
    refine aR (sM R R (sQ R (ZF R YJN iL R R) (Zg R R R (YCs 57 R YCJ (f:=YAB.row) (l:=([(YAB.mk s1.Kind s1.N s1.Attrs [])]:List YAB)) ⟨R,⟨_,iL,R⟩,Za⟩ R (fun _=>R) R) (Zj h8 fun l5 el5 h9=>(Zg R R R (YEq R YCJ iL R (.inr (.inl ⟨_,_,iL,R⟩)) el5) (sA R R (aZ (hK12 _ ?_))))))))
    refine aR (Zj h9 fun x8 ex8 h10=>(sQ R (ZI R iL iL (fun _=>ex8)) (sM R R ?_)))
    refine Zt ?_
    exact YEQ.mk h10 (vec [((i11 0)+1),((i11 0)+2)]) ((by exact Zc ⟨jL,jL,jL,jL,jL,jL,Za⟩ ⟨.inl R,.inl R,.inl R,.inl R,.inl R,Za⟩ nL))
   refine aC R (fun hc2=>?_) (fun hc2=>?_)
   ·have h11:=Zn hc2 hp1
    refine aR (sM R R (sQ R (fB R YDK iL fR R) (ZD R R (ZB (ds:=[rI (0),rI (1),qa change1,.cst (.slice none 0 0)]) R YTq iL R iL R R R R) ?_)))
    refine Zt ?_
    exact wK15 _ _ ((by exact Zc ⟨jL,jL,jL,jL,jL,jL,jL,Za⟩ ⟨.inl R,.inl R,.inl R,.inl R,.inl R,.inl R,Za⟩ nL)) (J3 _ (vec [((i8 1)+1)]) (Zd h11).symm)
   ·have h11:=Zo hc2 hp1
    refine Zi ?_
    exact wK15 _ _ ((by exact Zc ⟨jL,jL,jL,jL,jL,jL,jL,Za⟩ ⟨.inr (.inr ⟨_,_,_,_,R,R,⟨.inl R,.inl R,.inr (.inr ⟨R,R⟩),.inl R,Za⟩⟩),.inl R,.inl R,.inl R,.inl R,.inl R,Za⟩ nL)) (J3 _ (vec [((i8 1)+1)]) (Zd h11).symm)
  ·have h6:=Zo hc1 h5
   refine ZJ ?_
   exact wK6 _ _ ((by exact Zc ⟨jL,jL,Za⟩ ⟨.inl R,.inl R,.inl R,.inl R,Za⟩ nL)) (J2 _ (vec [(i8 0),(i8 1)]) (hx2 _ (Zd h6).symm))
 refine AW.iter2 (fun (x2:Int) (in3:List Bool) i3=>⟨[(0,.ptr 1000 gb1000 0 0),(1,qa change1),(2,.fn 75 [.ptr 1001 gb1001 0 0,.ptr 1002 gb1002 0 0,.ptr 1000 gb1000 0 0]),(7,.own 21 (i3 0)),(25,.r (.sl (w1.shown.map (rInt .i64)))),(26,rI ((w1.shown.length:Int))),(27,rI (x2))],[(21,some (.arr (i3 0) 4 1 (in3.map YBZ))),(1000,some (.box gb1000 102 (k2_ w1))),(1001,some (.box gb1001 26 (k27_ w2))),(1002,some (.box gb1002 3 [rI (c1)]))],(i3 1),73⟩) (vec [n0,(n0+1)]) hit1 ((by exact Zc ⟨jL,jL,jL,jL,jL,jL,jL,Za⟩ ⟨.inl R,.inl R,.inl R,.inl R,Za⟩ nL)) ?_
 intro x2 in3 i3 v2 hv2 hx1
 have h12:YAT w1 w2 c1 x2 in3=some v2:=hv2; unfold YAT at h12
 refine aS fun _ hK17 _=>(aR (sQ R (Zx R iL iL) (aZ (hK17 _ ?_))))
 refine aS fun _ hK18 _=>?_
 refine aC R (fun hc3=>?_) (fun hc3=>?_)
 ·have h13:=Zn hc3 h12
  refine Zi (hK18 _ ?_)
  refine aS fun _ hK19 _=>(Zp (aS fun _ hK20 _=>(aR (sM R R (Zj h13 fun x9 ex9 h14=>(sQ R (Zz R YCD.slice iL iL (fun _=>R) (fun _=>ex9)) (sQ R (ZN (d:=.int .i64 x9) R ts_3 iL R) (sA R R (sA R R (aZ (hK20 _ ?_)))))))))))
  refine aR (sM R R (sM R R (sM R R (sM R R (Zj h14 fun r3 er3 h15=>?_)))))
  refine AOps.stepHI [1001,1002,1000] (hc:=[(1000,some (.box gb1001 26 (k27_ w2))),(1001,some (.box gb1002 3 [rI (c1)])),(1002,some (.box gb1000 102 (k2_ w1)))]) (bs:=[rI (x2)]) (caps:=[.ptr 1000 gb1001 0 0,.ptr 1001 gb1002 0 0,.ptr 1002 gb1000 0 0]) R R R R iL R ⟨.inl ⟨iL,R⟩,Za⟩ ⟨R,R,R,R,R,R,R,R,R,Za⟩ (by decide) (YER er3) ?_
  intro i12 n1
  refine ZT (s':=⟨[(0,.ptr 1000 gb1000 0 0),(1,qa change1),(2,.fn 75 [.ptr 1001 gb1001 0 0,.ptr 1002 gb1002 0 0,.ptr 1000 gb1000 0 0]),(7,.own 21 (i3 0)),(8,rI (x2)),(9,rI (x9)),(25,.r (.sl (w1.shown.map (rInt .i64)))),(26,rI ((w1.shown.length:Int))),(27,rI (x2)),(28,rB ((decide (x2<(w1.shown.length:Int))))),(29,rI (x2)),(30,.rop ((rInt .i64) x9) 0),(31,rI (x9)),(32,.own 21 (i3 0)),(33,rI (x9)),(34,.fn 75 [.ptr 1001 gb1001 0 0,.ptr 1002 gb1002 0 0,.ptr 1000 gb1000 0 0]),(35,rI (x2)),(36,rB (r3))],[(21,some (.arr (i3 0) 4 1 (in3.map YBZ))),(1000,some (.box gb1000 102 (k2_ w1))),(1001,some (.box gb1001 26 (k27_ w2))),(1002,some (.box gb1002 3 [rI (c1)]))],n1,73⟩) (by exact Zc ⟨jL,jL,jL,jL,jL,jL,jL,jL,jL,jL,jL,jL,jL,jL,jL,jL,jL,jL,Za⟩ ⟨.inl R,.inl R,.inl R,.inl R,Za⟩ nL) ?_
  refine Zj h15 fun x10 ex10 h16=>(sQ R (YBT R YKm.slice iL R iL (fun _=>ex10)) (ZD R R (YHW (v:=r3) R tz_4 iL R ex10 iL R R R R) (aZ (hK19 _ ?_))))
  refine Zh (s':=⟨[(0,.ptr 1000 gb1000 0 0),(1,qa change1),(2,.fn 75 [.ptr 1001 gb1001 0 0,.ptr 1002 gb1002 0 0,.ptr 1000 gb1000 0 0]),(7,.own 21 (i3 0)),(25,.r (.sl (w1.shown.map (rInt .i64)))),(26,rI ((w1.shown.length:Int))),(27,rI (x2))],[(21,some (.arr (i3 0) 4 1 ((in3.set x9.toNat r3).map YBZ))),(1000,some (.box gb1000 102 (k2_ w1))),(1001,some (.box gb1001 26 (k27_ w2))),(1002,some (.box gb1002 3 [rI (c1)]))],n1,73⟩) (by exact Zc ⟨jL,jL,jL,jL,jL,jL,jL,Za⟩ ⟨.inl R,.inl R,.inl R,.inl R,Za⟩ nL) ?_
  refine aR (Zj h16 fun x11 ex11 h17=>(sQ R (ZI R iL iL (fun _=>ex11)) (sM R R ?_)))
  refine Zt ?_
  exact YEQ.mk h17 (vec [(i3 0),n1]) ((by exact Zc ⟨jL,jL,jL,jL,jL,jL,jL,Za⟩ ⟨.inl R,.inl R,.inl R,.inl R,Za⟩ nL))
 ·have h13:=Zo hc3 h12
  refine ZJ ?_
  exact wK3 _ _ ((by exact Zc ⟨jL,jL,jL,Za⟩ ⟨.inl R,.inl R,.inl R,.inl R,Za⟩ nL)) (J1 _ (vec [(i3 0),(i3 1)]) (hx1 _ (Zd h13).symm))
theorem YE1 {d1:GDoc} {s1:GSel} {change1:List YAG} {r:(List GOp) × Int} (h:YAZ d1 s1 change1=some r):ARO Tryz.prog 25 [.agg [qf d1.Nodes],.agg (k27_ s1),qa change1] (.tup [qh r.1,rI (r.2)]):=by
 unfold YAZ at h
 refine Zw Tryz.func25 R R Tryz.ntmps25 R (Ze R) fun n0=>?_
 refine aS fun _ hK1 _=>(aR (Zg R R R (ZR (cs:=[qf d1.Nodes]) 3 R iL R R) (Zg R R R (ZR (cs:=(k27_ s1)) 4 R iL R R) (sA R R (sA R R (aZ (hK1 _ ?_)))))))
 refine aS fun _ hK2 _=>(aR (sQ R (ZF R YHy iL R R) (sQ R (ZF R YR9 iL R R) (ob2k h fun r1 r2 er1 h1=>(Zg R R R (YCZ (r:=.tup [.agg (k2_ r1),rI (r2)]) (caps:=[]) (bs:=[.agg [qf d1.Nodes],.agg (k27_ s1),.r (.str [])]) R iL R ⟨.inl ⟨iL,R⟩,.inl ⟨iL,R⟩,.inl ⟨iL,R⟩,Za⟩ (fun _=>YHi (er1))) (sM R R (sQ R (ZY (a:=.agg (k2_ r1)) R iL R) (sQ R (ZY (a:=rI (r2)) R iL R) (Zg R R R (ZX (cs:=z3_) 8 R YP8 R R) (ZD R R (ZB (ds:=(k2_ r1)) R YII iL R iL R R R R) (sA R R (aZ (hK2 _ ?_)))))))))))))
 refine aS fun _ hK3 _=>(aS fun _ hK4 _=>?_)
 refine Zh (s':=⟨[(2,qa change1),(4,.ptr 4 (n0+1) 0 0),(8,.ptr 8 (n0+2) 0 0),(9,rI (r2))],[(4,some (.box (n0+1) 26 (k27_ s1))),(8,some (.box (n0+2) 102 (k2_ r1)))],(n0+3),41⟩) (by exact Zc ⟨jL,jL,jL,jL,Za⟩ ⟨.inl R,.inl R,Za⟩ nL) ?_
 refine aR (sM R R (sQ R (ZH R iL iL) (aZ (hK4 _ ?_))))
 refine aC R (fun hc1=>?_) (fun hc1=>?_)
 ·have h2:=Zn hc1 h1
  refine aS fun _ hK5 _=>(aR (sM R R (sA R R (sA R R (aZ (hK5 _ ?_))))))
  refine Zk ?_
  exact YEO (P:=Tryz.prog) (fun (r:(List GOp) × Int)=>qh r.1) (fun (r:(List GOp) × Int)=>rI (r.2)) h2 iL (.t (.one (.nil))) (.t (.d R))
 ·have h2:=Zo hc1 h1
  refine Zi (hK3 _ ?_)
  refine aS fun _ hK6 _=>(aS fun _ hK7 _=>(aR (sM R R (Zj h2 fun e1 ee1 h3=>(Zg R R R (Zq (r:=rI (e1)) (caps:=[]) (bs:=[qa change1]) R iL R ⟨⟨_,iL,.d R⟩,Za⟩ (fun _=>YC0 (ee1)) R) (sA R R (aZ (hK7 _ ?_))))))))
  refine aS fun _ hK8 _=>(aR (sM R R (sQ R (ZH R iL iL) (aZ (hK8 _ ?_)))))
  refine aC R (fun hc2=>?_) (fun hc2=>?_)
  ·have h4:=Zn hc2 h3
   refine aS fun _ hK9 _=>?_
   refine Zh (s':=⟨[(10,rI (e1))],[],(n0+3),41⟩) (by exact Zc ⟨jL,Za⟩ Za nL) ?_
   refine aR (sM R R (sA R R (sA R R (aZ (hK9 _ ?_)))))
   refine Zk ?_
   exact YEO (P:=Tryz.prog) (fun (r:(List GOp) × Int)=>qh r.1) (fun (r:(List GOp) × Int)=>rI (r.2)) h4 iL (.t (.one (.nil))) (.t (.d R))
  ·have h4:=Zo hc2 h3
   refine Zi (hK6 _ ?_)
   refine aS fun _ hK10 _=>(aR (sQ R (fB R YFs iL fR R) (sQ R (Zb (a:=rI (s1.From)) R ts_3 iL R R) (sQ R (fB R YGu iL fR R) (sQ R (Zb (a:=rI (s1.To)) R ts_3 iL R R) (Zj h4 fun x1 ex1 h5=>(sQ R (YBf R iL iL (fun _=>ex1)) (sQ R (YNu R iL iL) (Zg R R R (ZX (cs:=[rI (0)]) 11 R t0_3 R R) (ZD R R (ZB (ds:=[rI ((max s1.From x1))]) R tz_3 iL R iL R R R R) (aZ (hK10 _ ?_))))))))))))
   refine aS fun K11 hK11 wK11=>(Zp ?_)
   refine jb1k h5 fun o1 hit1 hk1=>?_
   have J1 : ∀ (last4:Int) (i5:Nat→Nat),o1=last4→K11 ⟨[(2,qa change1),(4,.ptr 4 (n0+1) 0 0),(8,.ptr 8 (n0+2) 0 0),(11,.ptr 11 (n0+3) 0 0)],[(4,some (.box (n0+1) 26 (k27_ s1))),(8,some (.box (n0+2) 102 (k2_ r1))),(11,some (.box (n0+3) 3 [rI (last4)]))],(i5 0),41⟩:=by
    intro last4 i5 e
    have h6:=hk1 _ e
    refine hK11 _ ?_
    refine aS fun _ hK12 _=>(aR (sM R R ?_))
    refine sQ R (YGQ (bs:=[.ptr 4 (n0+1) 0 0,.ptr 11 (n0+3) 0 0,.ptr 8 (n0+2) 0 0]) R (by exact ⟨iL,iL,iL,Za⟩)) ?_
    refine Zj h6 fun r3 er3 h7=>?_
    refine AOps.stepHI [8,4,11] (hc:=[(1000,some (.box (n0+2) 102 (k2_ r1))),(1001,some (.box (n0+1) 26 (k27_ s1))),(1002,some (.box (n0+3) 3 [rI (last4)]))]) (bs:=[.ptr 1000 (n0+2) 0 0,qa change1,.fn 75 [.ptr 1001 (n0+1) 0 0,.ptr 1002 (n0+3) 0 0,.ptr 1000 (n0+2) 0 0]]) (caps:=[]) R R R R iL R ⟨.inl ⟨iL,R⟩,.inl ⟨iL,R⟩,.inl ⟨iL,R⟩,Za⟩ ⟨R,R,R,R,R,R,R,R,R,Za⟩ (by decide) (YCC er3) ?_
    intro i6 n1
    refine ZT (s':=⟨[(2,qa change1),(4,.ptr 4 (n0+1) 0 0),(8,.ptr 8 (n0+2) 0 0),(11,.ptr 11 (n0+3) 0 0),(38,qa change1),(39,.fn 75 [.ptr 4 (n0+1) 0 0,.ptr 11 (n0+3) 0 0,.ptr 8 (n0+2) 0 0]),(40,qh r3)],[(4,some (.box (n0+1) 26 (k27_ s1))),(8,some (.box (n0+2) 102 (k2_ r1))),(11,some (.box (n0+3) 3 [rI (last4)]))],n1,41⟩) (by exact Zc ⟨jL,jL,jL,jL,jL,jL,jL,Za⟩ ⟨.inl R,.inl R,.inl R,Za⟩ nL) ?_
    refine sA R R (sA R R (aZ (hK12 _ ?_)))
    refine Zk ?_
    exact YEO (P:=Tryz.prog) (fun (r:(List GOp) × Int)=>qh r.1) (fun (r:(List GOp) × Int)=>rI (r.2)) h7 iL (.t (.d R)) (.t (.d R))
   refine ZS (fun (last2:Int) i3=>⟨[(2,qa change1),(4,.ptr 4 (n0+1) 0 0),(8,.ptr 8 (n0+2) 0 0),(11,.ptr 11 (n0+3) 0 0)],[(4,some (.box (n0+1) 26 (k27_ s1))),(8,some (.box (n0+2) 102 (k2_ r1))),(11,some (.box (n0+3) 3 [rI (last2)]))],(i3 0),41⟩) (vec [(n0+4)]) hit1 ((by exact Zc ⟨jL,jL,jL,jL,Za⟩ ⟨.inl R,.inl R,.inl R,Za⟩ nL)) ?_
   intro last2 i3 v1 hv1 hx1
   have h8:YAv r1 last2=some v1:=hv1; unfold YAv at h8
   refine aS fun _ hK13 _=>(aS fun _ hK14 _=>(aR (sQ R (Zb (a:=rI (last2)) R ts_3 iL R R) (Zj h8 fun r4 er4 h9=>?_))))
   refine AOps.stepHI [8] (hc:=[(1000,some (.box (n0+2) 102 (k2_ r1)))]) (bs:=[.ptr 1000 (n0+2) 0 0,rI (last2)]) (caps:=[]) R R R R iL R ⟨.inl ⟨iL,R⟩,.inl ⟨iL,R⟩,Za⟩ ⟨R,R,R,Za⟩ (by decide) (YCy er4) ?_
   intro i7 n2
   refine ZT (s':=⟨[(2,qa change1),(4,.ptr 4 (n0+1) 0 0),(8,.ptr 8 (n0+2) 0 0),(11,.ptr 11 (n0+3) 0 0),(32,rI (last2)),(33,.agg (k26_ r4))],[(4,some (.box (n0+1) 26 (k27_ s1))),(8,some (.box (n0+2) 102 (k2_ r1))),(11,some (.box (n0+3) 3 [rI (last2)]))],n2,41⟩) (by exact Zc ⟨jL,jL,jL,jL,jL,jL,Za⟩ ⟨.inl R,.inl R,.inl R,Za⟩ nL) ?_
   refine sQ R (YJ3 (a:=rI (r4.Char)) R YPE iL R) (sQ R (ZH R iL iL) (aZ (hK14 _ ?_)))
   refine aC R (fun hc3=>?_) (fun hc3=>?_)
   ·have h10:=Zn hc3 h9
    refine Zi (hK13 _ ?_)
    refine Zp (aR (sQ R (Zb (a:=rI (last2)) R ts_3 iL R R) (Zj h10 fun x2 ex2 h11=>(sQ R (ZI R iL iL (fun _=>ex2)) (ZD R R (ZB (ds:=[rI (x2)]) R tz_3 iL R iL R R R R) ?_)))))
    refine Zt ?_
    exact ZO h11 (vec [n2]) ((by exact Zc ⟨jL,jL,jL,jL,Za⟩ ⟨.inl R,.inl R,.inl R,Za⟩ nL))
   ·have h10:=Zo hc3 h9
    refine ZJ ?_
    exact wK11 _ _ ((by exact Zc ⟨jL,jL,jL,jL,Za⟩ ⟨.inl R,.inl R,.inl R,Za⟩ nL)) (J1 _ (vec [n2]) (hx1 _ (Zd h10).symm))
theorem YBh {x1:Int} {low1:Int} {high1:Int} {r:Bool} (h:YC2 x1 low1 high1=some r):ARO Tryz.prog 32 [rI (x1),rI (low1),rI (high1)] (rB (r)):=by
 unfold YC2 at h
 refine Zw Tryz.func32 R R Tryz.ntmps32 R (Ze R) fun n0=>?_
 refine aS fun _ hK1 _=>(aR (sA R R (aZ (hK1 _ ?_))))
 refine aS fun _ hK2 _=>(aR (sM R R (sM R R (sQ R (YB5 R iL iL) (sM R R (sV R R R (Zf R iL) (sV R R R (Zf R iL) (sV R R R (YEP R (iR R) (iR R)) (sQ R (Zr R iL (iR R)) (sA R R (aZ (hK2 _ ?_))))))))))))
 refine Zk ?_
 exact Y2_ h iL (.t (.d R))
theorem YL4 {s1:List UInt8} {r:Bool} (h:YHT s1=some r):ARO Tryz.prog 76 [.r (.str s1)] (rB (r)):=by
 unfold YHT at h
 refine Zw Tryz.func76 R R Tryz.ntmps76 R (Ze R) fun n0=>?_
 refine aS fun _ hK1 _=>(aR (sA R R (aZ (hK1 _ ?_))))
 refine aS fun K2 hK2 wK2=>(aS fun _ hK3 _=>(aR (sM R R (sQ R (YA1 R Tryz.underlying9 iL) (sM R R (aZ (hK3 _ ?_)))))))
 refine Zp ?_
 refine jc1k h fun o1 hit1 hk1 he1=>?_
 have J1 : ∀ (u2:Unit) (i5:Nat→Nat),o1 = .nrm u2→K2 ⟨[(0,.r (.str s1))],[],(i5 0),59⟩:=by
  intro u2 i5 e
  have h1:=hk1 _ e
  refine hK2 _ ?_
  refine aS fun _ hK4 _=>(aR (sM R R (sQ R (YA1 R Tryz.underlying9 iL) (sQ R (YB5 R iL iL) (sM R R (sV R R R (Zf R iL) (sV R R R (YA1 R Tryz.underlying9 (iR R)) (sV R R R (YEP R (iR R) iL) (sQ R (Zr R iL (iR R)) (sA R R (aZ (hK4 _ ?_))))))))))))
  refine Zk ?_
  exact Y2_ h1 iL (.t (.d R))
 refine ZS (fun (x2:Int) i3=>⟨[(0,.r (.str s1)),(6,rI ((s1.length:Int))),(7,rI (x2))],[],(i3 0),59⟩) (vec [n0]) hit1 ((by exact Zc ⟨jL,jL,jL,Za⟩ Za nL)) ?_
 intro x2 i3 v1 hv1 hx1
 have h2:YEU s1 x2=some v1:=hv1; unfold YEU at h2
 refine aS fun _ hK5 _=>(aR (sQ R (Zx R iL iL) (aZ (hK5 _ ?_))))
 refine aS fun _ hK6 _=>?_
 refine aC R (fun hc1=>?_) (fun hc1=>?_)
 ·have h3:=Zn hc1 h2
  refine Zi (hK6 _ ?_)
  refine aS fun _ hK7 _=>(Zp (aS fun _ hK8 _=>(aR (sM R R (sA R R (aZ (hK8 _ ?_)))))))
  refine aS fun _ hK9 _=>(aR (sM R R (sM R R (Zj h3 fun ch1 ech1 h4=>(sQ R (ZZ R Tryz.underlying9 iL iL (fun _=>ech1)) (sQ R (YB5 R iL iL) (sM R R (sV R R R (Zf R iL) (sV R R R (Zf R iL) (sV R R R (ZZ R Tryz.underlying9 (iR R) (iR R) (fun _=>ech1)) (sV R R R (YEP R (iR R) iL) (sQ R (Zr R iL (iR R)) (sA R R (aZ (hK9 _ ?_)))))))))))))))
  refine aS fun _ hK10 _=>(aR (sM R R (sQ R (ZQ R iL) (sM R R (sV R R R (Zf R iL) (sV R R R (Zs R (iR R) iL) (sV R R R (Zf R (iR R)) ?_)))))))
  refine sW (.two R R R) R (Zf R iL) ?_
  refine sW (.two R R R) R (Zf R iL) ?_
  refine sW (.two R R R) R (ZZ R Tryz.underlying9 (iR R) (iR R) (fun _=>ech1)) ?_
  refine sW (.two R R R) R (ZH R (iR R) iL) ?_
  refine sW (.two R R R) R (Zf R (iR R)) ?_
  refine sW (.two R R R) R (Zf R iL) ?_
  refine sW (.two R R R) R (Zf R iL) ?_
  refine sW (.two R R R) R (ZZ R Tryz.underlying9 (iR R) (iR R) (fun _=>ech1)) ?_
  refine sW (.two R R R) R (ZH R (iR R) iL) ?_
  refine sW (.two R R R) R (Zr R (iR R) (iR R)) ?_
  refine sW (.two R R R) R (Zf R (iR R)) ?_
  refine sW (.two R R R) R (Zf R iL) ?_
  refine sW (.two R R R) R (Zf R iL) ?_
  refine sW (.two R R R) R (ZZ R Tryz.underlying9 (iR R) (iR R) (fun _=>ech1)) ?_
  refine sW (.two R R R) R (Zx R (iR R) iL) ?_
  refine sW (.two R R R) R (Zf R (iR R)) ?_
  refine sW (.two R R R) R (Zf R iL) ?_
  refine sW (.two R R R) R (Zf R iL) ?_
  refine sW (.two R R R) R (ZZ R Tryz.underlying9 (iR R) (iR R) (fun _=>ech1)) ?_
  refine sW (.two R R R) R (ZV R (iR R) iL) ?_
  refine sW (.two R R R) R (ZC R (iR R) (iR R)) ?_
  refine sW (.two R R R) R (Zr R (iR R) (iR R)) ?_
  refine sV R R R (ZC R (iR R) (iR R)) (sQ R (Zr R iL (iR R)) (aZ (hK10 _ ?_)))
  refine aC R (fun hc2=>?_) (fun hc2=>?_)
  ·have h5:=Zn hc2 h4
   refine aS fun _ hK11 _=>?_
   refine Zh (s':=⟨[],[],(i3 0),59⟩) (by exact Zc Za Za nL) ?_
   refine aR (sA R R (aZ (hK11 _ ?_)))
   refine Zk ?_
   exact Y2_ (he1 _ (hx1 _ (Zd h5).symm)) iL (.t (.d R))
  ·have h5:=Zo hc2 h4
   refine Zi (hK7 _ ?_)
   refine Zh (s':=⟨[(0,.r (.str s1)),(6,rI ((s1.length:Int))),(7,rI (x2))],[],(i3 0),59⟩) (by exact Zc ⟨jL,jL,jL,Za⟩ Za nL) ?_
   refine aR (Zj h5 fun x4 ex4 h6=>(sQ R (ZI R iL iL (fun _=>ex4)) (sM R R ?_)))
   refine Zt ?_
   exact ZO h6 (vec [(i3 0)]) ((by exact Zc ⟨jL,jL,jL,Za⟩ Za nL))
 ·have h3:=Zo hc1 h2
  refine ZJ ?_
  exact wK2 _ _ ((by exact Zc ⟨jL,Za⟩ Za nL)) (J1 _ (vec [(i3 0)]) (hx1 _ (Zd h3).symm))
theorem YKM {s1:List UInt8} {r:Bool} (h:YF2 s1=some r):ARO Tryz.prog 53 [.r (.str s1)] (rB (r)):=by
 unfold YF2 at h
 refine Zw Tryz.func53 R R Tryz.ntmps53 R (Ze R) fun n0=>?_
 refine aS fun _ hK1 _=>(aR (sA R R (aZ (hK1 _ ?_))))
 refine aS fun K2 hK2 wK2=>(aS fun _ hK3 _=>(aR (sM R R (sQ R (YA1 R Tryz.underlying9 iL) (sM R R (aZ (hK3 _ ?_)))))))
 refine Zp ?_
 refine jc1k h fun o1 hit1 hk1 he1=>?_
 have J1 : ∀ (u2:Unit) (i5:Nat→Nat),o1 = .nrm u2→K2 ⟨[(0,.r (.str s1))],[],(i5 0),28⟩:=by
  intro u2 i5 e
  have h1:=hk1 _ e
  refine hK2 _ ?_
  refine aS fun _ hK4 _=>(aR (sM R R (sQ R (YA1 R Tryz.underlying9 iL) (sQ R (YB5 R iL iL) (sM R R (sV R R R (Zf R iL) (sV R R R (YA1 R Tryz.underlying9 (iR R)) (sV R R R (YEP R (iR R) iL) (sQ R (Zr R iL (iR R)) (sA R R (aZ (hK4 _ ?_))))))))))))
  refine Zk ?_
  exact Y2_ h1 iL (.t (.d R))
 refine ZS (fun (x2:Int) i3=>⟨[(0,.r (.str s1)),(5,rI ((s1.length:Int))),(6,rI (x2))],[],(i3 0),28⟩) (vec [n0]) hit1 ((by exact Zc ⟨jL,jL,jL,Za⟩ Za nL)) ?_
 intro x2 i3 v1 hv1 hx1
 have h2:YEj s1 x2=some v1:=hv1; unfold YEj at h2
 refine aS fun _ hK5 _=>(aR (sQ R (Zx R iL iL) (aZ (hK5 _ ?_))))
 refine aS fun _ hK6 _=>?_
 refine aC R (fun hc1=>?_) (fun hc1=>?_)
 ·have h3:=Zn hc1 h2
  refine Zi (hK6 _ ?_)
  refine aS fun _ hK7 _=>(Zp (aS fun _ hK8 _=>(aR (sM R R (sA R R (aZ (hK8 _ ?_)))))))
  refine aS fun _ hK9 _=>(aR (sM R R (sM R R (Zj h3 fun ch1 ech1 h4=>(sQ R (ZZ R Tryz.underlying9 iL iL (fun _=>ech1)) (sQ R (Zx R iL iL) (sM R R (sV R R R (Zf R iL) (sV R R R (Zf R iL) (sV R R R (ZZ R Tryz.underlying9 (iR R) (iR R) (fun _=>ech1)) (sV R R R (ZV R (iR R) iL) (sQ R (ZC R iL (iR R)) (aZ (hK9 _ ?_))))))))))))))
  refine aC R (fun hc2=>?_) (fun hc2=>?_)
  ·have h5:=Zn hc2 h4
   refine aS fun _ hK10 _=>?_
   refine Zh (s':=⟨[],[],(i3 0),28⟩) (by exact Zc Za Za nL) ?_
   refine aR (sA R R (aZ (hK10 _ ?_)))
   refine Zk ?_
   exact Y2_ (he1 _ (hx1 _ (Zd h5).symm)) iL (.t (.d R))
  ·have h5:=Zo hc2 h4
   refine Zi (hK7 _ ?_)
   refine Zh (s':=⟨[(0,.r (.str s1)),(5,rI ((s1.length:Int))),(6,rI (x2))],[],(i3 0),28⟩) (by exact Zc ⟨jL,jL,jL,Za⟩ Za nL) ?_
   refine aR (Zj h5 fun x4 ex4 h6=>(sQ R (ZI R iL iL (fun _=>ex4)) (sM R R ?_)))
   refine Zt ?_
   exact ZO h6 (vec [(i3 0)]) ((by exact Zc ⟨jL,jL,jL,Za⟩ Za nL))
 ·have h3:=Zo hc1 h2
  refine ZJ ?_
  exact wK2 _ _ ((by exact Zc ⟨jL,Za⟩ Za nL)) (J1 _ (vec [(i3 0)]) (hx1 _ (Zd h3).symm))
theorem YDa {l1:List YAG} {change1:Bool} {r:Int} (h:YBm l1 change1=some r):ARO Tryz.prog 26 [qa l1,rB (change1)] (rI (r)):=by
 unfold YBm at h
 refine Zw Tryz.func26 R R Tryz.ntmps26 R (Ze R) fun n0=>?_
 refine aS fun _ hK1 _=>(aR (sA R R (aZ (hK1 _ ?_))))
 refine aS fun K2 hK2 wK2=>(aS fun _ hK3 _=>(aR (sM R R (sQ R (ZA R YDI.slice iL) (sM R R (aZ (hK3 _ ?_)))))))
 refine Zp ?_
 refine jc1k h fun o1 hit1 hk1 he1=>?_
 have J1 : ∀ (u2:Unit) (i5:Nat→Nat),o1 = .nrm u2→K2 ⟨[],[],(i5 0),54⟩:=by
  intro u2 i5 e
  have h1:=hk1 _ e
  refine hK2 _ ?_
  refine aS fun _ hK4 _=>(aR (sA R R (aZ (hK4 _ ?_))))
  refine Zk ?_
  exact Y1_ h1 iL (.t (.d R))
 refine ZS (fun (x2:Int) i3=>⟨[(0,qa l1),(1,rB (change1)),(7,rI ((l1.length:Int))),(8,rI (x2))],[],(i3 0),54⟩) (vec [n0]) hit1 ((by exact Zc ⟨jL,jL,jL,jL,Za⟩ Za nL)) ?_
 intro x2 i3 v1 hv1 hx1
 have h2:YBn l1 change1 x2=some v1:=hv1; unfold YBn at h2
 refine aS fun _ hK5 _=>(aR (sQ R (Zx R iL iL) (aZ (hK5 _ ?_))))
 refine aS fun _ hK6 _=>?_
 refine aC R (fun hc1=>?_) (fun hc1=>?_)
 ·have h3:=Zn hc1 h2
  refine Zi (hK6 _ ?_)
  refine aS fun _ hK7 _=>(Zp (aS fun _ hK8 _=>(aR (sM R R (sA R R (aZ (hK8 _ ?_)))))))
  refine aS fun _ hK9 _=>(aS fun _ hK10 _=>(aR (sM R R (sM R R (Zj h3 fun x4 ex4 h4=>(sQ R (Zz R YDI.slice iL iL (fun _=>R) (fun _=>ex4)) (sQ R (Zy R YGM iL) (sQ R (ZN (d:=.str x4.Name) R ts_9 iL R) (Zj h4 fun r1 er1 h5=>(Zg R R R (Zq (r:=rB (r1)) (caps:=[]) (bs:=[.r (.str x4.Name)]) R iL R ⟨⟨_,iL,.d R⟩,Za⟩ (fun _=>YL4 (er1)) R) (sQ R (ZQ R iL) (aZ (hK10 _ ?_)))))))))))))
  refine aC R (fun hc2=>?_) (fun hc2=>?_)
  ·have h6:=Zn hc2 h5
   refine aS fun _ hK11 _=>?_
   refine Zh (s':=⟨[],[],(i3 0),54⟩) (by exact Zc Za Za nL) ?_
   refine aR (sA R R (aZ (hK11 _ ?_)))
   refine Zk ?_
   exact Y1_ (he1 _ (hx1 _ (Zd h6).symm)) iL (.t (.d R))
  ·have h6:=Zo hc2 h5
   refine Zi (hK9 _ ?_)
   refine aS fun _ hK12 _=>(aS fun _ hK13 _=>?_)
   refine Zh (s':=⟨[(0,qa l1),(1,rB (change1)),(5,rI (x2)),(7,rI ((l1.length:Int))),(8,rI (x2))],[],(i3 0),54⟩) (by exact Zc ⟨jL,jL,jL,jL,jL,Za⟩ Za nL) ?_
   refine aR (sM R R (sM R R (sQ R (Zz R YDI.slice iL iL (fun _=>R) (fun _=>ex4)) (sQ R (Zy R YIt iL) (sQ R (ZN (d:=.str x4.Value) R ts_9 iL R) (Zj h6 fun r2 er2 h7=>(Zg R R R (Zq (r:=rB (r2)) (caps:=[]) (bs:=[.r (.str x4.Value)]) R iL R ⟨⟨_,iL,.d R⟩,Za⟩ (fun _=>YKM (er2)) R) (sQ R (ZQ R iL) (sM R R (sV R R R (Zf R iL) (sV R R R (Zf R iL) (sV R R R (Zz R YDI.slice (iR R) (iR R) (fun _=>R) (fun _=>ex4)) (sV R R R (Zy R YIt (iR R)) (sV R R R (ZN (d:=.str x4.Value) R ts_9 (iR R) R) (sV R R R (YCz R (iR R) iL) (sV R R R (Zf R (iR R)) ?_))))))))))))))))
   refine sW (.two R R R) R (Zf R iL) ?_
   refine sW (.two R R R) R (ZQ R (iR R)) ?_
   refine sV R R R (ZC R (iR R) (iR R)) (sQ R (Zr R iL (iR R)) (aZ (hK13 _ ?_)))
   refine aC R (fun hc3=>?_) (fun hc3=>?_)
   ·have h8:=Zn hc3 h7
    refine aS fun _ hK14 _=>?_
    refine Zh (s':=⟨[],[],(i3 0),54⟩) (by exact Zc Za Za nL) ?_
    refine aR (sA R R (aZ (hK14 _ ?_)))
    refine Zk ?_
    exact Y1_ (he1 _ (hx1 _ (Zd h8).symm)) iL (.t (.d R))
   ·have h8:=Zo hc3 h7
    refine Zi (hK12 _ ?_)
    refine aS fun _ hK15 _=>?_
    refine Zh (s':=⟨[(0,qa l1),(1,rB (change1)),(5,rI (x2)),(7,rI ((l1.length:Int))),(8,rI (x2))],[],(i3 0),54⟩) (by exact Zc ⟨jL,jL,jL,jL,jL,Za⟩ Za nL) ?_
    refine ZW hmix (by kernel_rfl) ?_
    refine Zm R R R (Zf R iL) (Zm R R R (ZV R iL iL) (Zm R R R (Zf R iL) ?_))
    refine Zl (.one R R R) R R (Zf R iL) ?_
    refine Zl (.one R R R) R R (Zf R iL) ?_
    refine Zj h8 fun x5 ex5 h9=>?_
    refine Zl (.one R R R) R R (YBf R (iR R) iL (gdt ex5)) ?_
    refine Zj h9 fun x6 ex6 h10=>?_
    refine Zl (.one R R R) R R (Zz R YDI.slice (iR R) (iR R) (fun _=>R) (gdt ex6)) ?_
    refine Zl (.one R R R) R R (Zy R YGM (iR R)) ?_
    refine Zl (.one R R R) R R (ZN (d:=.str x6.Name) R ts_9 (iR R) R) ?_
    refine Zl (.one R R R) R R (Zf R iL) ?_
    refine Zl (.one R R R) R R (Zf R iL) ?_
    refine Zl (.one R R R) R R (Zz R YDI.slice (iR R) (iR R) (fun _=>R) (fun _=>ex4)) ?_
    refine Zl (.one R R R) R R (Zy R YGM (iR R)) ?_
    refine Zl (.one R R R) R R (ZN (d:=.str x4.Name) R ts_9 (iR R) R) ?_
    refine Zl (.one R R R) R R (YSD R (iR R) (iR R)) ?_
    refine Zm R R R (Zr R iL (iR R)) ?_
    refine AQ.nil ?_
    refine hK15 _ ?_
    refine aC R (fun hc4=>?_) (fun hc4=>?_)
    ·have h11:=Zn hc4 h10
     refine aS fun _ hK16 _=>?_
     refine Zh (s':=⟨[],[],(i3 0),54⟩) (by exact Zc Za Za nL) ?_
     refine aR (sA R R (aZ (hK16 _ ?_)))
     refine Zk ?_
     exact Y1_ (he1 _ (hx1 _ (Zd h11).symm)) iL (.t (.d R))
    ·have h11:=Zo hc4 h10
     refine Zi (hK7 _ ?_)
     refine aR (Zj h11 fun x7 ex7 h12=>(sQ R (ZI R iL iL (fun _=>ex7)) (sM R R ?_)))
     refine Zt ?_
     exact ZO h12 (vec [(i3 0)]) ((by exact Zc ⟨jL,jL,jL,jL,Za⟩ Za nL))
 ·have h3:=Zo hc1 h2
  refine ZJ ?_
  exact wK2 _ _ ((by exact Zc Za Za nL)) (J1 _ (vec [(i3 0)]) (hx1 _ (Zd h3).symm))
theorem YE2 {kind1:Int} {r:Bool} (h:YDf kind1=some r):ARO Tryz.prog 48 [rI (kind1)] (rB (r)):=by
 unfold YDf at h
 refine Zw Tryz.func48 R R Tryz.ntmps48 R (Ze R) fun n0=>?_
 refine aS fun _ hK1 _=>(aR (sA R R (aZ (hK1 _ ?_))))
 refine aS fun _ hK2 _=>(aR (sM R R (sQ R (Zs R iL iL) (sM R R (sV R R R (Zf R iL) (sV R R R (Zs R (iR R) iL) (sQ R (ZC R iL (iR R)) (sM R R (sV R R R (Zf R iL) (sV R R R (Zs R (iR R) iL) (sQ R (ZC R iL (iR R)) (sM R R (sV R R R (Zf R iL) (sV R R R (Zs R (iR R) iL) (sQ R (ZC R iL (iR R)) (sA R R (aZ (hK2 _ ?_))))))))))))))))))
 refine Zk ?_
 exact Y2_ h iL (.t (.d R))
theorem YMh {kind1:Int} {r:Bool} (h:YGR kind1=some r):ARO Tryz.prog 121 [rI (kind1)] (rB (r)):=by
 unfold YGR at h
 refine Zw Tryz.func121 R R Tryz.ntmps121 R (Ze R) fun n0=>?_
 refine aS fun _ hK1 _=>(aR (sA R R (aZ (hK1 _ ?_))))
 refine aS fun _ hK2 _=>(aR (sM R R (sQ R (Zs R iL iL) (sM R R (sV R R R (Zf R iL) (sV R R R (Zs R (iR R) iL) (sQ R (ZC R iL (iR R)) (sA R R (aZ (hK2 _ ?_))))))))))
 refine Zk ?_
 exact Y2_ h iL (.t (.d R))
theorem YLb {g1:YAy} {r:Bool} (h:YEi g1=some r):ARO Tryz.prog 122 (k17_ g1) (rB (r)):=by
 unfold YEi at h
 refine Zw Tryz.func122 R R Tryz.ntmps122 R (Ze R) fun n0=>?_
 refine aS fun _ hK1 _=>(aR (Zg R R R (ZR (cs:=(k20_ g1)) 1 R iL R R) (sA R R (aZ (hK1 _ ?_)))))
 refine aS fun _ hK2 _=>(aR (sQ R (fB R YEx iL fR R) (sQ R (Zb (a:=rI (g1.Rows)) R ts_3 iL R R) (sQ R (Zs R iL iL) (sM R R (sV R R R (fB R YEw iL fR R) (sV R R R (Zb (a:=rI (g1.Cols)) R ts_3 (iR R) R R) (sV R R R (Zs R (iR R) iL) (sQ R (Zr R iL (iR R)) (sM R R (sV R R R (fB R YES iL fR R) (sV R R R (Zb (a:=qd g1.Cells) R YHv (iR R) R R) (sV R R R (ZA R YDu.slice (iR R)) (sV R R R (Zs R (iR R) iL) (sQ R (Zr R iL (iR R)) (sM R R (sV R R R (fB R YDx iL fR R) (sV R R R (Zb (a:=qc g1.Merges) R YGj (iR R) R R) (sV R R R (ZA R YFN.slice (iR R)) (sV R R R (Zs R (iR R) iL) (sQ R (Zr R iL (iR R)) (sA R R (aZ (hK2 _ ?_))))))))))))))))))))))))
 refine Zk ?_
 exact Y2_ h iL (.t (.d R))
theorem YIF {kind1:Int} {r:Bool} (h:YFU kind1=some r):ARO Tryz.prog 41 [rI (kind1)] (rB (r)):=by
 unfold YFU at h
 refine Zw Tryz.func41 R R Tryz.ntmps41 R (Ze R) fun n0=>?_
 refine aS fun _ hK1 _=>(aR (sA R R (aZ (hK1 _ ?_))))
 refine aS fun _ hK2 _=>(aR (sM R R (sQ R (Zs R iL iL) (sM R R (sV R R R (Zf R iL) (sV R R R (Zs R (iR R) iL) (sQ R (ZC R iL (iR R)) (sA R R (aZ (hK2 _ ?_))))))))))
 refine Zk ?_
 exact Y2_ h iL (.t (.d R))
theorem YMi {kind1:Int} {r:Bool} (h:YGS kind1=some r):ARO Tryz.prog 123 [rI (kind1)] (rB (r)):=by
 unfold YGS at h
 refine Zw Tryz.func123 R R Tryz.ntmps123 R (Ze R) fun n0=>?_
 refine aS fun _ hK1 _=>(aR (sA R R (aZ (hK1 _ ?_))))
 refine aS fun _ hK2 _=>(aR (sM R R (sQ R (Zs R iL iL) (sM R R (sV R R R (Zf R iL) (sV R R R (Zs R (iR R) iL) (sQ R (ZC R iL (iR R)) (sM R R (sV R R R (Zf R iL) (sV R R R (Zs R (iR R) iL) (sQ R (ZC R iL (iR R)) (sA R R (aZ (hK2 _ ?_))))))))))))))
 refine Zk ?_
 exact Y2_ h iL (.t (.d R))
theorem YL5 {c1:Int} {r:Bool} (h:YHU c1=some r):ARO Tryz.prog 55 [rI (c1)] (rB (r)):=by
 unfold YHU at h
 refine Zw Tryz.func55 R R Tryz.ntmps55 R (Ze R) fun n0=>?_
 refine aS fun _ hK1 _=>(aR (sA R R (aZ (hK1 _ ?_))))
 refine aS fun _ hK2 _=>(aR (sM R R (sQ R (Zs R iL iL) (sM R R (sV R R R (Zf R iL) (sV R R R (Zs R (iR R) iL) (sQ R (ZC R iL (iR R)) (sM R R (sV R R R (Zf R iL) (Zj h fun r1 er1 h1=>?_))))))))))
 refine ZE (.one R R R) R R (Zq (r:=rB (r1)) (caps:=[]) (bs:=[rI (c1),rI (32),rI (126)]) R iL R ⟨⟨_,(iR R),.d R⟩,⟨_,iL,.d R⟩,⟨_,iL,.d R⟩,Za⟩ (fun hg=>YBh (gdt er1 hg)) R) ?_
 refine sQ R (ZC R iL (iR R)) (sM R R (sV R R R (Zf R iL) (Zj h1 fun r2 er2 h2=>?_)))
 refine ZE (.one R R R) R R (Zq (r:=rB (r2)) (caps:=[]) (bs:=[rI (c1),rI (160),rI (55295)]) R iL R ⟨⟨_,(iR R),.d R⟩,⟨_,iL,.d R⟩,⟨_,iL,.d R⟩,Za⟩ (fun hg=>YBh (gdt er2 hg)) R) ?_
 refine sQ R (ZC R iL (iR R)) (sM R R (sV R R R (Zf R iL) (Zj h2 fun r3 er3 h3=>?_)))
 refine ZE (.one R R R) R R (Zq (r:=rB (r3)) (caps:=[]) (bs:=[rI (c1),rI (57344),rI (1114111)]) R iL R ⟨⟨_,(iR R),.d R⟩,⟨_,iL,.d R⟩,⟨_,iL,.d R⟩,Za⟩ (fun hg=>YBh (gdt er3 hg)) R) ?_
 refine sQ R (ZC R iL (iR R)) (sA R R (aZ (hK2 _ ?_)))
 refine Zk ?_
 exact Y2_ h3 iL (.t (.d R))
theorem YKV {x1:YAC} {r:Int} (h:YD9 x1=some r):ARO Tryz.prog 70 (k23_ x1) (rI (r)):=by
 unfold YD9 at h
 refine Zw Tryz.func70 R R Tryz.ntmps70 R (Ze R) fun n0=>?_
 refine aS fun _ hK1 _=>(aR (Zg R R R (ZR (cs:=(k26_ x1)) 1 R iL R R) (sA R R (aZ (hK1 _ ?_)))))
 refine aS fun _ hK2 _=>(aS fun _ hK3 _=>(aR (sQ R (fB R YDT iL fR R) (sQ R (Zb (a:=rI (x1.Char)) R ts_3 iL R R) (sQ R (Zs R iL iL) (sM R R (sV R R R (fB R YCW iL fR R) (sV R R R (Zb (a:=rI (x1.Ref)) R ts_3 (iR R) R R) (sV R R R (Zs R (iR R) iL) (sQ R (Zr R iL (iR R)) (sM R R (sV R R R (fB R YDT iL fR R) (sV R R R (Zb (a:=rI (x1.Char)) R ts_3 (iR R) R R) (sV R R R (ZH R (iR R) iL) (sV R R R (Zf R (iR R)) ?_)))))))))))))))
 refine sW (.two R R R) R (fB R YCW iL fR R) ?_
 refine sW (.two R R R) R (Zb (a:=rI (x1.Ref)) R ts_3 (iR R) R R) ?_
 refine sW (.two R R R) R (ZH R (iR R) iL) ?_
 refine sV R R R (Zr R (iR R) (iR R)) (sQ R (ZC R iL (iR R)) (aZ (hK3 _ ?_)))
 refine aC R (fun hc1=>?_) (fun hc1=>?_)
 ·have h1:=Zn hc1 h
  refine aS fun _ hK4 _=>?_
  refine Zh (s':=⟨[],[],(n0+1),44⟩) (by exact Zc Za Za nL) ?_
  refine aR (sA R R (aZ (hK4 _ ?_)))
  refine Zk ?_
  exact Y1_ h1 iL (.t (.d R))
 ·have h1:=Zo hc1 h
  refine Zi (hK2 _ ?_)
  refine aS fun _ hK5 _=>(aS fun _ hK6 _=>?_)
  refine Zh (s':=⟨[(1,.ptr 1 n0 0 0)],[(1,some (.box n0 51 (k26_ x1)))],(n0+1),44⟩) (by exact Zc ⟨jL,Za⟩ ⟨.inl R,Za⟩ nL) ?_
  refine aR (sQ R (fB R YDT iL fR R) (sQ R (Zb (a:=rI (x1.Char)) R ts_3 iL R R) (sQ R (ZH R iL iL) (sM R R (sV R R R (fB R YDT iL fR R) (sV R R R (Zb (a:=rI (x1.Char)) R ts_3 (iR R) R R) (Zj h1 fun r1 er1 h2=>?_)))))))
  refine ZE (.one R R R) R R (Zq (r:=rB (r1)) (caps:=[]) (bs:=[rI (x1.Char)]) R iL R ⟨⟨_,(iR R),.d R⟩,Za⟩ (fun hg=>YL5 (gdt er1 hg)) R) ?_
  refine sV R R R (ZQ R (iR R)) (sQ R (Zr R iL (iR R)) (sM R R (sV R R R (fB R YCW iL fR R) (sV R R R (Zb (a:=rI (x1.Ref)) R ts_3 (iR R) R R) (sV R R R (ZH R (iR R) iL) (sV R R R (Zf R (iR R)) ?_))))))
  refine sW (.two R R R) R (fB R YCW iL fR R) ?_
  refine sW (.two R R R) R (Zb (a:=rI (x1.Ref)) R ts_3 (iR R) R R) ?_
  refine Zj h2 fun r2 er2 h3=>?_
  refine ZE (.two R R R) R R (Zq (r:=rB (r2)) (caps:=[]) (bs:=[rI (x1.Ref),rI (1),rI (1073741824)]) R iL R ⟨⟨_,(iR R),.d R⟩,⟨_,iL,.d R⟩,⟨_,iL,.d R⟩,Za⟩ (fun hg=>YBh (gdt er2 hg)) R) ?_
  refine sW (.two R R R) R (ZQ R (iR R)) ?_
  refine sV R R R (Zr R (iR R) (iR R)) (sQ R (ZC R iL (iR R)) (aZ (hK6 _ ?_)))
  refine aC R (fun hc2=>?_) (fun hc2=>?_)
  ·have h4:=Zn hc2 h3
   refine aS fun _ hK7 _=>?_
   refine Zh (s':=⟨[],[],(n0+1),44⟩) (by exact Zc Za Za nL) ?_
   refine aR (sA R R (aZ (hK7 _ ?_)))
   refine Zk ?_
   exact Y1_ h4 iL (.t (.d R))
  ·have h4:=Zo hc2 h3
   refine Zi (hK5 _ ?_)
   refine aS fun _ hK8 _=>?_
   refine Zh (s':=⟨[(1,.ptr 1 n0 0 0)],[(1,some (.box n0 51 (k26_ x1)))],(n0+1),44⟩) (by exact Zc ⟨jL,Za⟩ ⟨.inl R,Za⟩ nL) ?_
   refine aR (sQ R (fB R YGN iL fR R) (sQ R (Zb (a:=qa x1.Attrs) R YCi iL R R) (Zj h4 fun r3 er3 h5=>(Zg R R R (Zq (r:=rI (r3)) (caps:=[]) (bs:=[qa x1.Attrs,rB (false)]) R iL R ⟨⟨_,iL,.d R⟩,⟨_,iL,.d R⟩,Za⟩ (fun _=>YDa (er3)) R) (sA R R (aZ (hK8 _ ?_)))))))
   refine Zk ?_
   exact Y1_ h5 iL (.t (.d R))
theorem YKT {f1:List YAC} {text1:Bool} {r:Int} (h:YB8 f1 text1=some r):ARO Tryz.prog 124 [qb f1,rB (text1)] (rI (r)):=by
 unfold YB8 at h
 refine Zw Tryz.func124 R R Tryz.ntmps124 R (Ze R) fun n0=>?_
 refine aS fun _ hK1 _=>(aR (sA R R (aZ (hK1 _ ?_))))
 refine aS fun K2 hK2 wK2=>(aS fun _ hK3 _=>(aR (sM R R (sQ R (ZA R YBN.slice iL) (sM R R (aZ (hK3 _ ?_)))))))
 refine Zp ?_
 refine jc1k h fun o1 hit1 hk1 he1=>?_
 have J1 : ∀ (u2:Unit) (i5:Nat→Nat),o1 = .nrm u2→K2 ⟨[(0,qb f1),(1,rB (text1))],[],(i5 0),47⟩:=by
  intro u2 i5 e
  have h1:=hk1 _ e
  refine hK2 _ ?_
  refine aS fun _ hK4 _=>(aS fun _ hK5 _=>(aR (sM R R (sM R R (sV R R R (Zf R iL) (sV R R R (ZA R YBN.slice (iR R)) (sV R R R (Zs R (iR R) iL) (sV R R R (Zf R (iR R)) ?_))))))))
  refine sW (.two R R R) R (Zf R iL) ?_
  refine sW (.two R R R) R (Zf R iL) ?_
  refine sW (.two R R R) R (ZA R YBN.slice (iR R)) ?_
  refine Zj h1 fun x4 ex4 h2=>?_
  refine sW (.two R R R) R (YBf R (iR R) iL (gdt ex4)) ?_
  refine Zj h2 fun x5 ex5 h3=>?_
  refine sW (.two R R R) R (Zz R YBN.slice (iR R) (iR R) (fun _=>R) (gdt ex5)) ?_
  refine sW (.two R R R) R (Zy R YDT (iR R)) ?_
  refine sW (.two R R R) R (ZN (d:=.int .i64 x5.Char) R ts_3 (iR R) R) ?_
  refine sW (.two R R R) R (ZH R (iR R) iL) ?_
  refine sV R R R (ZC R (iR R) (iR R)) (sQ R (Zr R iL (iR R)) (aZ (hK5 _ ?_)))
  refine aC R (fun hc1=>?_) (fun hc1=>?_)
  ·have h4:=Zn hc1 h3
   refine aS fun _ hK6 _=>?_
   refine Zh (s':=⟨[],[],(i5 0),47⟩) (by exact Zc Za Za nL) ?_
   refine aR (sA R R (aZ (hK6 _ ?_)))
   refine Zk ?_
   exact Y1_ h4 iL (.t (.d R))
  ·have h4:=Zo hc1 h3
   refine Zi (hK4 _ ?_)
   refine aS fun _ hK7 _=>?_
   refine Zh (s':=⟨[],[],(i5 0),47⟩) (by exact Zc Za Za nL) ?_
   refine aR (sA R R (aZ (hK7 _ ?_)))
   refine Zk ?_
   exact Y1_ h4 iL (.t (.d R))
 refine ZS (fun (x2:Int) i3=>⟨[(0,qb f1),(1,rB (text1)),(8,rI ((f1.length:Int))),(9,rI (x2))],[],(i3 0),47⟩) (vec [n0]) hit1 ((by exact Zc ⟨jL,jL,jL,jL,Za⟩ Za nL)) ?_
 intro x2 i3 v1 hv1 hx1
 have h5:YBe f1 text1 x2=some v1:=hv1; unfold YBe at h5
 refine aS fun _ hK8 _=>(aR (sQ R (Zx R iL iL) (aZ (hK8 _ ?_))))
 refine aS fun _ hK9 _=>?_
 refine aC R (fun hc2=>?_) (fun hc2=>?_)
 ·have h6:=Zn hc2 h5
  refine Zi (hK9 _ ?_)
  refine aS fun _ hK10 _=>(Zp (aS fun _ hK11 _=>(aR (sM R R (sA R R (aZ (hK11 _ ?_)))))))
  refine aS fun _ hK12 _=>(aS fun _ hK13 _=>(aR (sM R R (sM R R (Zj h6 fun x6 ex6 h7=>(sQ R (Zz R YBN.slice iL iL (fun _=>R) (fun _=>ex6)) (sQ R (ZM (cs:=(k26_ x6)) R YHx iL R R) (Zj h7 fun e1 ee1 h8=>(Zg R R R (Zq (r:=rI (e1)) (caps:=[]) (bs:=(k23_ x6)) R iL R ⟨⟨_,iL,.g (cs:=[.int .i64 x6.Char,.int .i64 x6.Ref,.sl (x6.Attrs.map YAG.row)]) R R⟩,Za⟩ (fun _=>YKV (ee1)) R) (sA R R (aZ (hK13 _ ?_))))))))))))
  refine aS fun _ hK14 _=>(aR (sM R R (sQ R (ZH R iL iL) (aZ (hK14 _ ?_)))))
  refine aC R (fun hc3=>?_) (fun hc3=>?_)
  ·have h9:=Zn hc3 h8
   refine aS fun _ hK15 _=>?_
   refine Zh (s':=⟨[(6,rI (e1))],[],(i3 0),47⟩) (by exact Zc ⟨jL,Za⟩ Za nL) ?_
   refine aR (sM R R (sA R R (aZ (hK15 _ ?_))))
   refine Zk ?_
   exact Y1_ (he1 _ (hx1 _ (Zd h9).symm)) iL (.t (.d R))
  ·have h9:=Zo hc3 h8
   refine Zi (hK12 _ ?_)
   refine aS fun _ hK16 _=>?_
   refine Zh (s':=⟨[(0,qb f1),(1,rB (text1)),(5,rI (x2)),(8,rI ((f1.length:Int))),(9,rI (x2))],[],(i3 0),47⟩) (by exact Zc ⟨jL,jL,jL,jL,jL,Za⟩ Za nL) ?_
   refine aR (sM R R (sQ R (ZQ R iL) (sM R R (sV R R R (Zf R iL) (sV R R R (Zf R iL) (sV R R R (Zz R YBN.slice (iR R) (iR R) (fun _=>R) (fun _=>ex6)) (sV R R R (Zy R YDT (iR R)) (sV R R R (ZN (d:=.int .i64 x6.Char) R ts_3 (iR R) R) (sV R R R (ZH R (iR R) iL) (sQ R (Zr R iL (iR R)) (aZ (hK16 _ ?_))))))))))))
   refine aC R (fun hc4=>?_) (fun hc4=>?_)
   ·have h10:=Zn hc4 h9
    refine aS fun _ hK17 _=>?_
    refine Zh (s':=⟨[],[],(i3 0),47⟩) (by exact Zc Za Za nL) ?_
    refine aR (sA R R (aZ (hK17 _ ?_)))
    refine Zk ?_
    exact Y1_ (he1 _ (hx1 _ (Zd h10).symm)) iL (.t (.d R))
   ·have h10:=Zo hc4 h9
    refine Zi (hK10 _ ?_)
    refine aR (Zj h10 fun x7 ex7 h11=>(sQ R (ZI R iL iL (fun _=>ex7)) (sM R R ?_)))
    refine Zt ?_
    exact ZO h11 (vec [(i3 0)]) ((by exact Zc ⟨jL,jL,jL,jL,Za⟩ Za nL))
 ·have h6:=Zo hc2 h5
  refine ZJ ?_
  exact wK2 _ _ ((by exact Zc ⟨jL,jL,Za⟩ Za nL)) (J1 _ (vec [(i3 0)]) (hx1 _ (Zd h6).symm))
theorem YFg {s1:List UInt8} {r:Bool} (h:YBa s1=some r):ARO Tryz.prog 215 [.r (.str s1)] (rB (r)):=by
 unfold YBa at h
 exact ARO.validString YS1 R R R ⟨_,Tryz.func215,R,R⟩ h
theorem YLi {s1:List UInt8} {r:Bool} (h:YEp s1=some r):ARO Tryz.prog 190 [.r (.str s1)] (rB (r)):=by
 unfold YEp at h
 refine Zw Tryz.func190 R R Tryz.ntmps190 R (Ze R) fun n0=>?_
 refine aS fun _ hK1 _=>(aR (sA R R (aZ (hK1 _ ?_))))
 refine aS fun _ hK2 _=>(aS fun _ hK3 _=>(aR (sM R R (Zj h fun r1 er1 h1=>(Zg R R R (Zq (r:=rB (r1)) (caps:=[]) (bs:=[.r (.str s1)]) R iL R ⟨⟨_,iL,.d R⟩,Za⟩ (fun _=>YFg (er1)) R) (sQ R (ZQ R iL) (aZ (hK3 _ ?_))))))))
 refine aC R (fun hc1=>?_) (fun hc1=>?_)
 ·have h2:=Zn hc1 h1
  refine aS fun _ hK4 _=>(aR (sA R R (aZ (hK4 _ ?_))))
  refine Zk ?_
  exact Y2_ h2 iL (.t (.d R))
 ·have h2:=Zo hc1 h1
  refine Zi (hK2 _ ?_)
  refine aS fun K5 hK5 wK5=>(aS fun _ hK6 _=>(aR (sM R R (Zg R R R (YUN 9 R Tryz.underlying9 iL) (aZ (hK6 _ ?_))))))
  refine Zp ?_
  refine jc1k h2 fun o1 hit1 hk1 he1=>?_
  have J1 : ∀ (u2:Unit) (i5:Nat→Nat),o1 = .nrm u2→K5 ⟨[],[],(i5 0),21⟩:=by
   intro u2 i5 e
   have h3:=hk1 _ e
   refine hK5 _ ?_
   refine aS fun _ hK7 _=>(aR (sA R R (aZ (hK7 _ ?_))))
   refine Zk ?_
   exact Y2_ h3 iL (.t (.d R))
  refine ZS (fun (p2:(Nat)) i3=>⟨[(9,.ptr 9 n0 0 0)],[(9,some (.it n0 s1 p2))],(i3 0),21⟩) (vec [(n0+1)]) hit1 ((by exact Zc ⟨jL,Za⟩ ⟨.inl R,Za⟩ nL)) ?_
  intro p2 i3 v1 hv1 hx1
  have h4:YAm s1 p2=some v1:=hv1; unfold YAm at h4
  refine aS fun _ hK8 _=>?_
  refine AW.split (decide (p2<s1.length)) (fun hg1=>?_) (fun hg1=>?_)
  ·have h5:=Zn hg1 h4
   refine aR (Zg R R R (YSv R iL R (fun _=>hg1)) (sQ R (ZY (a:=rB (true)) R iL R) (aZ (hK8 _ ?_))))
   refine aS fun _ hK9 _=>?_
   refine aC R (fun hc2=>?_) (fun hc2=>by cases hc2)
   refine Zi (hK9 _ ?_)
   refine Zp (aS fun _ hK10 _=>(aR (sQ R (ZY (a:=.r (.int .i32 ((YFl s1 p2).1:Int))) R iL R) (sA R R (aZ (hK10 _ ?_))))))
   refine aS fun _ hK11 _=>(aR (sM R R (sQ R (Zs R iL iL) (sM R R (sV R R R (Zf R iL) (sV R R R (Z0 R Tryz.underlying21 Tryz.underlying3 (iR R)) (Zj h5 fun r2 er2 h6=>?_)))))))
   refine ZE (.one R R R) R R (Zq (r:=rB (r2)) (caps:=[]) (bs:=[rI ((IntKind.i64.wrap ((YFl s1 p2).1:Int)))]) R iL R ⟨⟨_,(iR R),.d R⟩,Za⟩ (fun hg=>YL5 (gdt er2 hg)) R) ?_
   refine sV R R R (ZQ R (iR R)) (sQ R (ZC R iL (iR R)) (aZ (hK11 _ ?_)))
   refine aC R (fun hc3=>?_) (fun hc3=>?_)
   ·have h7:=Zn hc3 h6
    refine aS fun _ hK12 _=>?_
    refine Zh (s':=⟨[],[],(i3 0),21⟩) (by exact Zc Za Za nL) ?_
    refine aR (sA R R (aZ (hK12 _ ?_)))
    refine Zk ?_
    exact Y2_ (he1 _ (hx1 _ (Zd h7).symm)) iL (.t (.d R))
   ·have h7:=Zo hc3 h6
    refine Zi ?_
    exact ZO h7 (vec [(i3 0)]) ((by exact Zc ⟨jL,Za⟩ ⟨.inl R,Za⟩ nL))
  ·have h5:=Zo hg1 h4
   refine aR (Zg R R R (YSw R iL R (fun _=>hg1)) (sQ R (ZY (a:=rB (false)) R iL R) (aZ (hK8 _ ?_))))
   refine aS fun _ hK13 _=>?_
   refine aC R (fun hc4=>by cases hc4) (fun hc4=>?_)
   refine ZJ ?_
   exact wK5 _ _ ((by exact Zc Za Za nL)) (J1 _ (vec [(i3 0)]) (hx1 _ (Zd h5).symm))
theorem YKU {c1:YAY} {r:Bool} (h:YD8 c1=some r):ARO Tryz.prog 191 (k11_ c1) (rB (r)):=by
 unfold YD8 at h
 refine Zw Tryz.func191 R R Tryz.ntmps191 R (Ze R) fun n0=>?_
 refine aS fun _ hK1 _=>(aR (Zg R R R (ZR (cs:=(k13_ c1)) 1 R iL R R) (sA R R (aZ (hK1 _ ?_)))))
 refine aS fun _ hK2 _=>(aR (sQ R (fB R YEb iL fR R) (sQ R (Zb (a:=.r (.str c1.Text)) R ts_9 iL R R) (sQ R (YET R iL iL) (sM R R (sV R R R (fB R YCY iL fR R) (sV R R R (Zb (a:=rI (c1.Ref)) R ts_3 (iR R) R R) (sV R R R (Zs R (iR R) iL) (sQ R (Zr R iL (iR R)) (sM R R (sV R R R (fB R YEa iL fR R) (sV R R R (Zb (a:=qa c1.Attrs) R YCi (iR R) R R) (sV R R R (ZA R YDI.slice (iR R)) (sV R R R (Zs R (iR R) iL) (sQ R (Zr R iL (iR R)) (sA R R (aZ (hK2 _ ?_))))))))))))))))))
 refine Zk ?_
 exact Y2_ h iL (.t (.d R))
theorem YJn {l1:List YAY} {rows1:Int} {cols1:Int} {none1:Bool} {r:Int} (h:YDW l1 rows1 cols1 none1=some r):ARO Tryz.prog 160 [qd l1,rI (rows1),rI (cols1),rB (none1)] (rI (r)):=by
 unfold YDW at h
 refine Zw Tryz.func160 R R Tryz.ntmps160 R (Ze R) fun n0=>?_
 refine aS fun _ hK1 _=>(aR (sA R R (aZ (hK1 _ ?_))))
 refine aS fun K2 hK2 wK2=>(aS fun _ hK3 _=>(aR (sM R R (sQ R (ZA R YDu.slice iL) (sM R R (aZ (hK3 _ ?_)))))))
 refine Zp ?_
 refine jc1k h fun o1 hit1 hk1 he1=>?_
 have J1 : ∀ (u2:Unit) (i5:Nat→Nat),o1 = .nrm u2→K2 ⟨[],[],(i5 0),93⟩:=by
  intro u2 i5 e
  have h1:=hk1 _ e
  refine hK2 _ ?_
  refine aS fun _ hK4 _=>(aR (sA R R (aZ (hK4 _ ?_))))
  refine Zk ?_
  exact Y1_ h1 iL (.t (.d R))
 refine ZS (fun (x2:Int) i3=>⟨[(0,qd l1),(1,rI (rows1)),(2,rI (cols1)),(3,rB (none1)),(13,rI ((l1.length:Int))),(14,rI (x2))],[],(i3 0),93⟩) (vec [n0]) hit1 ((by exact Zc ⟨jL,jL,jL,jL,jL,jL,Za⟩ Za nL)) ?_
 intro x2 i3 v1 hv1 hx1
 have h2:YCP l1 rows1 cols1 none1 x2=some v1:=hv1; unfold YCP at h2
 refine aS fun _ hK5 _=>(aR (sQ R (Zx R iL iL) (aZ (hK5 _ ?_))))
 refine aS fun _ hK6 _=>?_
 refine aC R (fun hc1=>?_) (fun hc1=>?_)
 ·have h3:=Zn hc1 h2
  refine Zi (hK6 _ ?_)
  refine aS fun _ hK7 _=>(Zp (aS fun _ hK8 _=>(aR (sM R R (sA R R (aZ (hK8 _ ?_)))))))
  refine aS fun _ hK9 _=>(aR (sM R R (sM R R (Zj h3 fun x4 ex4 h4=>(sQ R (Zz R YDu.slice iL iL (fun _=>R) (fun _=>ex4)) (sQ R (ZM (cs:=(k13_ x4)) R YFk iL R R) (Zg R R R (ZX (cs:=z16_) 10 R YMD R R) (ZD R R (ZB (ds:=(k13_ x4)) R YL7 iL R iL R R R R) (aZ (hK9 _ ?_))))))))))
  refine aS fun _ hK10 _=>(aS fun _ hK11 _=>(aR (sQ R (fB R YDJ iL fR R) (sQ R (Zb (a:=rI (x4.Row)) R ts_3 iL R R) (sM R R (Zj h4 fun x5 ex5 h5=>(sQ R (YBf R iL iL (fun _=>ex5)) (Zj h5 fun r1 er1 h6=>(Zg R R R (Zq (r:=rB (r1)) (caps:=[]) (bs:=[rI (x4.Row),rI (0),rI (x5)]) R iL R ⟨⟨_,iL,.d R⟩,⟨_,iL,.d R⟩,⟨_,iL,.d R⟩,Za⟩ (fun _=>YBh (er1)) R) (sQ R (ZQ R iL) (sM R R (sV R R R (fB R YDz iL fR R) (sV R R R (Zb (a:=rI (x4.Col)) R ts_3 (iR R) R R) (sV R R R (Zf R iL) (Zj h6 fun x6 ex6 h7=>(sV R R R (YBf R (iR R) iL (gdt ex6)) (Zj h7 fun r2 er2 h8=>?_)))))))))))))))))
  refine ZE (.one R R R) R R (Zq (r:=rB (r2)) (caps:=[]) (bs:=[rI (x4.Col),rI (0),rI (x6)]) R iL R ⟨⟨_,(iR R),.d R⟩,⟨_,iL,.d R⟩,⟨_,(iR R),.d R⟩,Za⟩ (fun hg=>YBh (gdt er2 hg)) R) ?_
  refine sV R R R (ZQ R (iR R)) (sQ R (ZC R iL (iR R)) (sM R R (sV R R R (fB R YCY iL fR R) (sV R R R (Zb (a:=rI (x4.Ref)) R ts_3 (iR R) R R) (Zj h8 fun r3 er3 h9=>?_)))))
  refine ZE (.one R R R) R R (Zq (r:=rB (r3)) (caps:=[]) (bs:=[rI (x4.Ref),rI (0),rI (1073741824)]) R iL R ⟨⟨_,(iR R),.d R⟩,⟨_,iL,.d R⟩,⟨_,iL,.d R⟩,Za⟩ (fun hg=>YBh (gdt er3 hg)) R) ?_
  refine sV R R R (ZQ R (iR R)) (sQ R (ZC R iL (iR R)) (aZ (hK11 _ ?_)))
  refine aC R (fun hc2=>?_) (fun hc2=>?_)
  ·have h10:=Zn hc2 h9
   refine aS fun _ hK12 _=>?_
   refine Zh (s':=⟨[],[],((i3 0)+1),93⟩) (by exact Zc Za Za nL) ?_
   refine aR (sA R R (aZ (hK12 _ ?_)))
   refine Zk ?_
   exact Y1_ (he1 _ (hx1 _ (Zd h10).symm)) iL (.t (.d R))
  ·have h10:=Zo hc2 h9
   refine Zi (hK10 _ ?_)
   refine aS fun _ hK13 _=>(aS fun _ hK14 _=>?_)
   refine Zh (s':=⟨[(0,qd l1),(1,rI (rows1)),(2,rI (cols1)),(3,rB (none1)),(9,rI (x2)),(10,.ptr 10 (i3 0) 0 0),(13,rI ((l1.length:Int))),(14,rI (x2))],[(10,some (.box (i3 0) 140 (k13_ x4)))],((i3 0)+1),93⟩) (by exact Zc ⟨jL,jL,jL,jL,jL,jL,jL,jL,Za⟩ ⟨.inl R,Za⟩ nL) ?_
   refine aR (sQ R (fB R YEb iL fR R) (sQ R (Zb (a:=.r (.str x4.Text)) R ts_9 iL R R) (Zj h10 fun r4 er4 h11=>(Zg R R R (Zq (r:=rB (r4)) (caps:=[]) (bs:=[.r (.str x4.Text)]) R iL R ⟨⟨_,iL,.d R⟩,Za⟩ (fun _=>YLi (er4)) R) (sQ R (ZQ R iL) (aZ (hK14 _ ?_)))))))
   refine aC R (fun hc3=>?_) (fun hc3=>?_)
   ·have h12:=Zn hc3 h11
    refine aS fun _ hK15 _=>?_
    refine Zh (s':=⟨[],[],((i3 0)+1),93⟩) (by exact Zc Za Za nL) ?_
    refine aR (sA R R (aZ (hK15 _ ?_)))
    refine Zk ?_
    exact Y1_ (he1 _ (hx1 _ (Zd h12).symm)) iL (.t (.d R))
   ·have h12:=Zo hc3 h11
    refine Zi (hK13 _ ?_)
    refine aS fun _ hK16 _=>(aS fun _ hK17 _=>(aR (sQ R (fB R YEa iL fR R) (sQ R (Zb (a:=qa x4.Attrs) R YCi iL R R) (Zj h12 fun e1 ee1 h13=>(Zg R R R (Zq (r:=rI (e1)) (caps:=[]) (bs:=[qa x4.Attrs,rB (false)]) R iL R ⟨⟨_,iL,.d R⟩,⟨_,iL,.d R⟩,Za⟩ (fun _=>YDa (ee1)) R) (sA R R (aZ (hK17 _ ?_)))))))))
    refine aS fun _ hK18 _=>(aR (sM R R (sQ R (ZH R iL iL) (aZ (hK18 _ ?_)))))
    refine aC R (fun hc4=>?_) (fun hc4=>?_)
    ·have h14:=Zn hc4 h13
     refine aS fun _ hK19 _=>?_
     refine Zh (s':=⟨[(11,rI (e1))],[],((i3 0)+1),93⟩) (by exact Zc ⟨jL,Za⟩ Za nL) ?_
     refine aR (sM R R (sA R R (aZ (hK19 _ ?_))))
     refine Zk ?_
     exact Y1_ (he1 _ (hx1 _ (Zd h14).symm)) iL (.t (.d R))
    ·have h14:=Zo hc4 h13
     refine Zi (hK16 _ ?_)
     refine aS fun _ hK20 _=>(aS fun _ hK21 _=>?_)
     refine Zh (s':=⟨[(0,qd l1),(1,rI (rows1)),(2,rI (cols1)),(3,rB (none1)),(9,rI (x2)),(10,.ptr 10 (i3 0) 0 0),(13,rI ((l1.length:Int))),(14,rI (x2))],[(10,some (.box (i3 0) 140 (k13_ x4)))],((i3 0)+1),93⟩) (by exact Zc ⟨jL,jL,jL,jL,jL,jL,jL,jL,Za⟩ ⟨.inl R,Za⟩ nL) ?_
     refine aR (sM R R (sQ R (ZQ R iL) (sM R R (sV R R R (ZF R YFk iL R R) (Zj h14 fun r5 er5 h15=>?_)))))
     refine ZE (.one R R R) R R (Zq (r:=rB (r5)) (caps:=[]) (bs:=(k11_ x4)) R iL R ⟨⟨_,(iR R),.g (cs:=[.int .i64 x4.Row,.int .i64 x4.Col,.str x4.Text,.int .i64 x4.Ref,.sl (x4.Attrs.map YAG.row)]) R R⟩,Za⟩ (fun hg=>YKU (gdt er5 hg)) R) ?_
     refine sQ R (Zr R iL (iR R)) (aZ (hK21 _ ?_))
     refine aC R (fun hc5=>?_) (fun hc5=>?_)
     ·have h16:=Zn hc5 h15
      refine aS fun _ hK22 _=>?_
      refine Zh (s':=⟨[],[],((i3 0)+1),93⟩) (by exact Zc Za Za nL) ?_
      refine aR (sA R R (aZ (hK22 _ ?_)))
      refine Zk ?_
      exact Y1_ (he1 _ (hx1 _ (Zd h16).symm)) iL (.t (.d R))
     ·have h16:=Zo hc5 h15
      refine Zi (hK20 _ ?_)
      refine aS fun _ hK23 _=>?_
      refine ZW hmix (by kernel_rfl) ?_
      refine Zm R R R (Zf R iL) (Zm R R R (ZV R iL iL) (Zm R R R (Zf R iL) ?_))
      refine Zl (.one R R R) R R (fB R YDJ iL fR R) ?_
      refine Zl (.one R R R) R R (Zb (a:=rI (x4.Row)) R ts_3 (iR R) R R) ?_
      refine Zl (.one R R R) R R (Zf R iL) ?_
      refine Zl (.one R R R) R R (Zf R iL) ?_
      refine Zj h16 fun x7 ex7 h17=>?_
      refine Zl (.one R R R) R R (YBf R (iR R) iL (gdt ex7)) ?_
      refine Zj h17 fun x8 ex8 h18=>?_
      refine Zl (.one R R R) R R (Zz R YDu.slice (iR R) (iR R) (fun _=>R) (gdt ex8)) ?_
      refine Zl (.one R R R) R R (Zy R YDJ (iR R)) ?_
      refine Zl (.one R R R) R R (ZN (d:=.int .i64 x8.Row) R ts_3 (iR R) R) ?_
      refine Zl (.one R R R) R R (Zx R (iR R) (iR R)) ?_
      refine Zl (.one R R R) R R (Zf R (iR R)) ?_
      refine Zl (.two R R R) R R (fB R YDJ iL fR R) ?_
      refine Zl (.two R R R) R R (Zb (a:=rI (x4.Row)) R ts_3 (iR R) R R) ?_
      refine Zl (.two R R R) R R (Zf R iL) ?_
      refine Zl (.two R R R) R R (Zf R iL) ?_
      refine Zl (.two R R R) R R (YBf R (iR R) iL (fun h=>gdt ex7 (Bool.and_eq_true_iff.1 h).1)) ?_
      refine Zl (.two R R R) R R (Zz R YDu.slice (iR R) (iR R) (fun _=>R) (fun h=>gdt ex8 (Bool.and_eq_true_iff.1 h).1)) ?_
      refine Zl (.two R R R) R R (Zy R YDJ (iR R)) ?_
      refine Zl (.two R R R) R R (ZN (d:=.int .i64 x8.Row) R ts_3 (iR R) R) ?_
      refine Zl (.two R R R) R R (Zs R (iR R) (iR R)) ?_
      refine Zl (.two R R R) R R (Zf R (iR R)) ?_
      refine Zl (.two R R R) R R (fB R YDz iL fR R) ?_
      refine Zl (.two R R R) R R (Zb (a:=rI (x4.Col)) R ts_3 (iR R) R R) ?_
      refine Zl (.two R R R) R R (Zf R iL) ?_
      refine Zl (.two R R R) R R (Zf R iL) ?_
      refine Zj h18 fun x9 ex9 h19=>?_
      refine Zl (.two R R R) R R (YBf R (iR R) iL (gdt ex9)) ?_
      refine Zj h19 fun x10 ex10 h20=>?_
      refine Zl (.two R R R) R R (Zz R YDu.slice (iR R) (iR R) (fun _=>R) (gdt ex10)) ?_
      refine Zl (.two R R R) R R (Zy R YDz (iR R)) ?_
      refine Zl (.two R R R) R R (ZN (d:=.int .i64 x10.Col) R ts_3 (iR R) R) ?_
      refine Zl (.two R R R) R R (YEP R (iR R) (iR R)) ?_
      refine Zl (.two R R R) R R (Zr R (iR R) (iR R)) ?_
      refine Zl (.one R R R) R R (ZC R (iR R) (iR R)) ?_
      refine Zm R R R (Zr R iL (iR R)) ?_
      refine AQ.nil ?_
      refine hK23 _ ?_
      refine aC R (fun hc6=>?_) (fun hc6=>?_)
      ·have h21:=Zn hc6 h20
       refine aS fun _ hK24 _=>?_
       refine Zh (s':=⟨[],[],((i3 0)+1),93⟩) (by exact Zc Za Za nL) ?_
       refine aR (sA R R (aZ (hK24 _ ?_)))
       refine Zk ?_
       exact Y1_ (he1 _ (hx1 _ (Zd h21).symm)) iL (.t (.d R))
      ·have h21:=Zo hc6 h20
       refine Zi (hK7 _ ?_)
       refine Zh (s':=⟨[(0,qd l1),(1,rI (rows1)),(2,rI (cols1)),(3,rB (none1)),(13,rI ((l1.length:Int))),(14,rI (x2))],[],((i3 0)+1),93⟩) (by exact Zc ⟨jL,jL,jL,jL,jL,jL,Za⟩ Za nL) ?_
       refine aR (Zj h21 fun x11 ex11 h22=>(sQ R (ZI R iL iL (fun _=>ex11)) (sM R R ?_)))
       refine Zt ?_
       exact ZO h22 (vec [((i3 0)+1)]) ((by exact Zc ⟨jL,jL,jL,jL,jL,jL,Za⟩ Za nL))
 ·have h3:=Zo hc1 h2
  refine ZJ ?_
  exact wK2 _ _ ((by exact Zc Za Za nL)) (J1 _ (vec [(i3 0)]) (hx1 _ (Zd h3).symm))
theorem YQy {r1:YAX} {rows1:Int} {cols1:Int} {r:Bool} (h:YIU r1 rows1 cols1=some r):ARO Tryz.prog 161 [.agg (k22_ r1),rI (rows1),rI (cols1)] (rB (r)):=by
 unfold YIU at h
 refine Zw Tryz.func161 R R Tryz.ntmps161 R (Ze R) fun n0=>?_
 refine aS fun _ hK1 _=>(aR (Zg R R R (ZR (cs:=(k22_ r1)) 3 R iL R R) (sA R R (aZ (hK1 _ ?_)))))
 refine aS fun _ hK2 _=>(aR (sQ R (fB R YBU iL fR R) (sQ R (Zb (a:=rI (r1.Row)) R ts_3 iL R R) (sM R R (Zj h fun x1 ex1 h1=>(sQ R (YBf R iL iL (fun _=>ex1)) (Zj h1 fun r2 er2 h2=>(Zg R R R (Zq (r:=rB (r2)) (caps:=[]) (bs:=[rI (r1.Row),rI (0),rI (x1)]) R iL R ⟨⟨_,iL,.d R⟩,⟨_,iL,.d R⟩,⟨_,iL,.d R⟩,Za⟩ (fun _=>YBh (er2)) R) (sM R R (sV R R R (fB R YB2 iL fR R) (sV R R R (Zb (a:=rI (r1.Col)) R ts_3 (iR R) R R) (sV R R R (Zf R iL) (Zj h2 fun x2 ex2 h3=>(sV R R R (YBf R (iR R) iL (gdt ex2)) (Zj h3 fun r3 er3 h4=>?_)))))))))))))))
 refine ZE (.one R R R) R R (Zq (r:=rB (r3)) (caps:=[]) (bs:=[rI (r1.Col),rI (0),rI (x2)]) R iL R ⟨⟨_,(iR R),.d R⟩,⟨_,iL,.d R⟩,⟨_,(iR R),.d R⟩,Za⟩ (fun hg=>YBh (gdt er3 hg)) R) ?_
 refine sQ R (Zr R iL (iR R)) (sM R R (sV R R R (fB R YE5 iL fR R) (sV R R R (Zb (a:=rI (r1.H)) R ts_3 (iR R) R R) (sV R R R (Zf R iL) (sV R R R (fB R YBU iL fR R) (sV R R R (Zb (a:=rI (r1.Row)) R ts_3 (iR R) R R) (Zj h4 fun x3 ex3 h5=>(sV R R R (YBf R (iR R) (iR R) (gdt ex3)) (Zj h5 fun r4 er4 h6=>?_)))))))))
 refine ZE (.one R R R) R R (Zq (r:=rB (r4)) (caps:=[]) (bs:=[rI (r1.H),rI (1),rI (x3)]) R iL R ⟨⟨_,(iR R),.d R⟩,⟨_,iL,.d R⟩,⟨_,(iR R),.d R⟩,Za⟩ (fun hg=>YBh (gdt er4 hg)) R) ?_
 refine sQ R (Zr R iL (iR R)) (sM R R (sV R R R (fB R YE4 iL fR R) (sV R R R (Zb (a:=rI (r1.W)) R ts_3 (iR R) R R) (sV R R R (Zf R iL) (sV R R R (fB R YB2 iL fR R) (sV R R R (Zb (a:=rI (r1.Col)) R ts_3 (iR R) R R) (Zj h6 fun x4 ex4 h7=>(sV R R R (YBf R (iR R) (iR R) (gdt ex4)) (Zj h7 fun r5 er5 h8=>?_)))))))))
 refine ZE (.one R R R) R R (Zq (r:=rB (r5)) (caps:=[]) (bs:=[rI (r1.W),rI (1),rI (x4)]) R iL R ⟨⟨_,(iR R),.d R⟩,⟨_,iL,.d R⟩,⟨_,(iR R),.d R⟩,Za⟩ (fun hg=>YBh (gdt er5 hg)) R) ?_
 refine sQ R (Zr R iL (iR R)) (sA R R (aZ (hK2 _ ?_)))
 refine Zk ?_
 exact Y2_ h8 iL (.t (.d R))
theorem YO2 {a1:YAX} {b1:YAX} {r:Bool} (h:YG5 a1 b1=some r):ARO Tryz.prog 166 [.agg (k22_ a1),.agg (k22_ b1)] (rB (r)):=by
 unfold YG5 at h
 refine Zw Tryz.func166 R R Tryz.ntmps166 R (Ze R) fun n0=>?_
 refine aS fun _ hK1 _=>(aR (Zg R R R (ZR (cs:=(k22_ a1)) 2 R iL R R) (Zg R R R (ZR (cs:=(k22_ b1)) 3 R iL R R) (sA R R (aZ (hK1 _ ?_))))))
 refine aS fun _ hK2 _=>?_
 refine ZW hmix (by kernel_rfl) ?_
 refine Zm R R R (fB R YBU iL fR R) (Zm R R R (Zb (a:=rI (a1.Row)) R ts_3 iL R R) (Zm R R R (fB R YBU iL fR R) (Zm R R R (Zb (a:=rI (b1.Row)) R ts_3 iL R R) (Zm R R R (YNu R iL iL) (Zm R R R (fB R YB2 iL fR R) (Zm R R R (Zb (a:=rI (a1.Col)) R ts_3 iL R R) (Zm R R R (fB R YB2 iL fR R) (Zm R R R (Zb (a:=rI (b1.Col)) R ts_3 iL R R) (Zm R R R (YNu R iL iL) (Zm R R R (YCj R iL) (Zm R R R (YCj R iL) ?_)))))))))))
 refine AQ.nil ?_
 refine hK2 _ ?_
 refine aS fun _ hK3 _=>?_
 refine Zh (s':=⟨[(2,.ptr 2 n0 0 0),(3,.ptr 3 (n0+1) 0 0),(5,rI ((max a1.Row b1.Row))),(6,rI ((max a1.Col b1.Col)))],[(2,some (.box n0 211 (k22_ a1))),(3,some (.box (n0+1) 211 (k22_ b1)))],(n0+2),45⟩) (by exact Zc ⟨jL,jL,jL,jL,Za⟩ ⟨.inl R,.inl R,Za⟩ nL) ?_
 refine aR (sM R R (sQ R (fB R YBU iL fR R) (sQ R (Zb (a:=rI (a1.Row)) R ts_3 iL R R) (sQ R (fB R YE5 iL fR R) (sQ R (Zb (a:=rI (a1.H)) R ts_3 iL R R) (Zj h fun x1 ex1 h1=>(sQ R (ZI R iL iL (fun _=>ex1)) (sQ R (fB R YBU iL fR R) (sQ R (Zb (a:=rI (b1.Row)) R ts_3 iL R R) (sQ R (fB R YE5 iL fR R) (sQ R (Zb (a:=rI (b1.H)) R ts_3 iL R R) (Zj h1 fun x2 ex2 h2=>(sQ R (ZI R iL iL (fun _=>ex2)) (sQ R (YNt R iL iL) (sQ R (Zx R iL iL) (sM R R (sV R R R (Zf R iL) (sV R R R (fB R YB2 iL fR R) (sV R R R (Zb (a:=rI (a1.Col)) R ts_3 (iR R) R R) (sV R R R (fB R YE4 iL fR R) (sV R R R (Zb (a:=rI (a1.W)) R ts_3 (iR R) R R) (Zj h2 fun x3 ex3 h3=>(sV R R R (ZI R (iR R) (iR R) (gdt ex3)) (sV R R R (fB R YB2 iL fR R) (sV R R R (Zb (a:=rI (b1.Col)) R ts_3 (iR R) R R) (sV R R R (fB R YE4 iL fR R) (sV R R R (Zb (a:=rI (b1.W)) R ts_3 (iR R) R R) (Zj h3 fun x4 ex4 h4=>(sV R R R (ZI R (iR R) (iR R) (gdt ex4)) ?_)))))))))))))))))))))))))))))
 refine sV R R R (YNt R (iR R) (iR R)) (sV R R R (Zx R (iR R) (iR R)) (sQ R (Zr R iL (iR R)) (sA R R (aZ (hK3 _ ?_)))))
 refine Zk ?_
 exact Y2_ h4 iL (.t (.d R))
theorem YKS {g1:YAy} {r:Int} (h:YD7 g1=some r):ARO Tryz.prog 125 (k17_ g1) (rI (r)):=by
 unfold YD7 at h
 refine Zw Tryz.func125 R R Tryz.ntmps125 R (Ze R) fun n0=>?_
 refine aS fun _ hK1 _=>(aR (Zg R R R (ZR (cs:=(k20_ g1)) 1 R iL R R) (sA R R (aZ (hK1 _ ?_)))))
 refine aS fun _ hK2 _=>(aS fun _ hK3 _=>(aR (sQ R (fB R YEx iL fR R) (sQ R (Zb (a:=rI (g1.Rows)) R ts_3 iL R R) (Zj h fun r1 er1 h1=>(Zg R R R (Zq (r:=rB (r1)) (caps:=[]) (bs:=[rI (g1.Rows),rI (0),rI (2147483647)]) R iL R ⟨⟨_,iL,.d R⟩,⟨_,iL,.d R⟩,⟨_,iL,.d R⟩,Za⟩ (fun _=>YBh (er1)) R) (sQ R (ZQ R iL) (sM R R (sV R R R (fB R YEw iL fR R) (sV R R R (Zb (a:=rI (g1.Cols)) R ts_3 (iR R) R R) (Zj h1 fun r2 er2 h2=>?_)))))))))))
 refine ZE (.one R R R) R R (Zq (r:=rB (r2)) (caps:=[]) (bs:=[rI (g1.Cols),rI (0),rI (2147483647)]) R iL R ⟨⟨_,(iR R),.d R⟩,⟨_,iL,.d R⟩,⟨_,iL,.d R⟩,Za⟩ (fun hg=>YBh (gdt er2 hg)) R) ?_
 refine sV R R R (ZQ R (iR R)) (sQ R (ZC R iL (iR R)) (aZ (hK3 _ ?_)))
 refine aC R (fun hc1=>?_) (fun hc1=>?_)
 ·have h3:=Zn hc1 h2
  refine aS fun _ hK4 _=>?_
  refine Zh (s':=⟨[],[],(n0+1),104⟩) (by exact Zc Za Za nL) ?_
  refine aR (sA R R (aZ (hK4 _ ?_)))
  refine Zk ?_
  exact Y1_ h3 iL (.t (.d R))
 ·have h3:=Zo hc1 h2
  refine Zi (hK2 _ ?_)
  refine aS fun _ hK5 _=>(aS fun _ hK6 _=>?_)
  refine Zh (s':=⟨[(1,.ptr 1 n0 0 0)],[(1,some (.box n0 43 (k20_ g1)))],(n0+1),104⟩) (by exact Zc ⟨jL,Za⟩ ⟨.inl R,Za⟩ nL) ?_
  refine aR (sQ R (fB R YES iL fR R) (sQ R (Zb (a:=qd g1.Cells) R YHv iL R R) (sQ R (fB R YEx iL fR R) (sQ R (Zb (a:=rI (g1.Rows)) R ts_3 iL R R) (sQ R (fB R YEw iL fR R) (sQ R (Zb (a:=rI (g1.Cols)) R ts_3 iL R R) (Zj h3 fun e1 ee1 h4=>(Zg R R R (Zq (r:=rI (e1)) (caps:=[]) (bs:=[qd g1.Cells,rI (g1.Rows),rI (g1.Cols),rB (false)]) R iL R ⟨⟨_,iL,.d R⟩,⟨_,iL,.d R⟩,⟨_,iL,.d R⟩,⟨_,iL,.d R⟩,Za⟩ (fun _=>YJn (ee1)) R) (sA R R (aZ (hK6 _ ?_)))))))))))
  refine aS fun _ hK7 _=>(aR (sM R R (sQ R (ZH R iL iL) (aZ (hK7 _ ?_)))))
  refine aC R (fun hc2=>?_) (fun hc2=>?_)
  ·have h5:=Zn hc2 h4
   refine aS fun _ hK8 _=>?_
   refine Zh (s':=⟨[(3,rI (e1))],[],(n0+1),104⟩) (by exact Zc ⟨jL,Za⟩ Za nL) ?_
   refine aR (sM R R (sA R R (aZ (hK8 _ ?_))))
   refine Zk ?_
   exact Y1_ h5 iL (.t (.d R))
  ·have h5:=Zo hc2 h4
   refine Zi (hK5 _ ?_)
   refine aS fun K9 hK9 wK9=>(aS fun _ hK10 _=>?_)
   refine Zh (s':=⟨[(1,.ptr 1 n0 0 0)],[(1,some (.box n0 43 (k20_ g1)))],(n0+1),104⟩) (by exact Zc ⟨jL,Za⟩ ⟨.inl R,Za⟩ nL) ?_
   refine aR (sQ R (fB R YDx iL fR R) (sQ R (Zb (a:=qc g1.Merges) R YGj iL R R) (sQ R (ZA R YFN.slice iL) (sM R R (aZ (hK10 _ ?_))))))
   refine Zp ?_
   refine jc1k h5 fun o1 hit1 hk1 he1=>?_
   have J1 : ∀ (u2:Unit) (i5:Nat→Nat),o1 = .nrm u2→K9 ⟨[],[],(i5 0),104⟩:=by
    intro u2 i5 e
    have h6:=hk1 _ e
    refine hK9 _ ?_
    refine aS fun _ hK11 _=>(aR (sA R R (aZ (hK11 _ ?_))))
    refine Zk ?_
    exact Y1_ h6 iL (.t (.d R))
   refine ZS (fun (x2:Int) i3=>⟨[(1,.ptr 1 n0 0 0),(29,rI ((g1.Merges.length:Int))),(30,rI (x2))],[(1,some (.box n0 43 (k20_ g1)))],(i3 0),104⟩) (vec [(n0+1)]) hit1 ((by exact Zc ⟨jL,jL,jL,Za⟩ ⟨.inl R,Za⟩ nL)) ?_
   intro x2 i3 v1 hv1 hx1
   have h7:YCp g1 x2=some v1:=hv1; unfold YCp at h7
   refine aS fun _ hK12 _=>(aR (sQ R (Zx R iL iL) (aZ (hK12 _ ?_))))
   refine aS fun _ hK13 _=>?_
   refine aC R (fun hc3=>?_) (fun hc3=>?_)
   ·have h8:=Zn hc3 h7
    refine Zi (hK13 _ ?_)
    refine aS fun K14 hK14 wK14=>(Zp (aS fun _ hK15 _=>(aR (sM R R (sA R R (aZ (hK15 _ ?_)))))))
    refine aS fun _ hK16 _=>(aR (sQ R (fB R YDx iL fR R) (sQ R (Zb (a:=qc g1.Merges) R YGj iL R R) (sM R R (Zj h8 fun x4 ex4 h9=>(sQ R (Zz R YFN.slice iL iL (fun _=>R) (fun _=>ex4)) (sQ R (ZM (cs:=(k22_ x4)) R YFO iL R R) (Zg R R R (ZX (cs:=[rI (0),rI (0),rI (0),rI (0)]) 5 R YVC R R) (ZD R R (ZB (ds:=(k22_ x4)) R YU7 iL R iL R R R R) (aZ (hK16 _ ?_)))))))))))
    refine aS fun _ hK17 _=>(aS fun _ hK18 _=>(aR (sQ R (ZF R YFO iL R R) (sQ R (fB R YEx iL fR R) (sQ R (Zb (a:=rI (g1.Rows)) R ts_3 iL R R) (sQ R (fB R YEw iL fR R) (sQ R (Zb (a:=rI (g1.Cols)) R ts_3 iL R R) (Zj h9 fun r3 er3 h10=>(Zg R R R (Zq (r:=rB (r3)) (caps:=[]) (bs:=[.agg (k22_ x4),rI (g1.Rows),rI (g1.Cols)]) R iL R ⟨⟨_,iL,.g (cs:=[.int .i64 x4.Row,.int .i64 x4.Col,.int .i64 x4.H,.int .i64 x4.W]) R R⟩,⟨_,iL,.d R⟩,⟨_,iL,.d R⟩,Za⟩ (fun _=>YQy (er3)) R) (sQ R (ZQ R iL) (aZ (hK18 _ ?_))))))))))))
    refine aC R (fun hc4=>?_) (fun hc4=>?_)
    ·have h11:=Zn hc4 h10
     refine aS fun _ hK19 _=>?_
     refine Zh (s':=⟨[],[],((i3 0)+1),104⟩) (by exact Zc Za Za nL) ?_
     refine aR (sA R R (aZ (hK19 _ ?_)))
     refine Zk ?_
     exact Y1_ (he1 _ (hx1 _ (Zd h11).symm)) iL (.t (.d R))
    ·have h11:=Zo hc4 h10
     refine Zi (hK17 _ ?_)
     refine aS fun _ hK20 _=>(aS fun _ hK21 _=>?_)
     refine Zh (s':=⟨[(1,.ptr 1 n0 0 0),(4,rI (x2)),(5,.ptr 5 (i3 0) 0 0),(29,rI ((g1.Merges.length:Int))),(30,rI (x2))],[(1,some (.box n0 43 (k20_ g1))),(5,some (.box (i3 0) 211 (k22_ x4)))],((i3 0)+1),104⟩) (by exact Zc ⟨jL,jL,jL,jL,jL,Za⟩ ⟨.inl R,.inl R,Za⟩ nL) ?_
     refine aR (sQ R (fB R YE5 iL fR R) (sQ R (Zb (a:=rI (x4.H)) R ts_3 iL R R) (sQ R (Zs R iL iL) (sM R R (sV R R R (fB R YE4 iL fR R) (sV R R R (Zb (a:=rI (x4.W)) R ts_3 (iR R) R R) (sV R R R (Zs R (iR R) iL) (sQ R (Zr R iL (iR R)) (aZ (hK21 _ ?_))))))))))
     refine aC R (fun hc5=>?_) (fun hc5=>?_)
     ·have h12:=Zn hc5 h11
      refine aS fun _ hK22 _=>?_
      refine Zh (s':=⟨[],[],((i3 0)+1),104⟩) (by exact Zc Za Za nL) ?_
      refine aR (sA R R (aZ (hK22 _ ?_)))
      refine Zk ?_
      exact Y1_ (he1 _ (hx1 _ (Zd h12).symm)) iL (.t (.d R))
     ·have h12:=Zo hc5 h11
      refine Zi (hK20 _ ?_)
      refine aS fun _ hK23 _=>(aS fun _ hK24 _=>?_)
      refine ZW hmix (by kernel_rfl) ?_
      refine Zm R R R (Zf R iL) (Zm R R R (ZV R iL iL) (Zm R R R (Zf R iL) ?_))
      refine Zl (.one R R R) R R (fB R YBU iL fR R) ?_
      refine Zl (.one R R R) R R (Zb (a:=rI (x4.Row)) R ts_3 (iR R) R R) ?_
      refine Zl (.one R R R) R R (fB R YDx iL fR R) ?_
      refine Zl (.one R R R) R R (Zb (a:=qc g1.Merges) R YGj (iR R) R R) ?_
      refine Zl (.one R R R) R R (Zf R iL) ?_
      refine Zj h12 fun x5 ex5 h13=>?_
      refine Zl (.one R R R) R R (YBf R (iR R) iL (gdt ex5)) ?_
      refine Zj h13 fun x6 ex6 h14=>?_
      refine Zl (.one R R R) R R (Zz R YFN.slice (iR R) (iR R) (fun _=>R) (gdt ex6)) ?_
      refine Zl (.one R R R) R R (Zy R YBU (iR R)) ?_
      refine Zl (.one R R R) R R (ZN (d:=.int .i64 x6.Row) R ts_3 (iR R) R) ?_
      refine Zl (.one R R R) R R (Zx R (iR R) (iR R)) ?_
      refine Zl (.one R R R) R R (Zf R (iR R)) ?_
      refine Zl (.two R R R) R R (fB R YBU iL fR R) ?_
      refine Zl (.two R R R) R R (Zb (a:=rI (x4.Row)) R ts_3 (iR R) R R) ?_
      refine Zl (.two R R R) R R (fB R YDx iL fR R) ?_
      refine Zl (.two R R R) R R (Zb (a:=qc g1.Merges) R YGj (iR R) R R) ?_
      refine Zl (.two R R R) R R (Zf R iL) ?_
      refine Zl (.two R R R) R R (YBf R (iR R) iL (fun h=>gdt ex5 (Bool.and_eq_true_iff.1 h).1)) ?_
      refine Zl (.two R R R) R R (Zz R YFN.slice (iR R) (iR R) (fun _=>R) (fun h=>gdt ex6 (Bool.and_eq_true_iff.1 h).1)) ?_
      refine Zl (.two R R R) R R (Zy R YBU (iR R)) ?_
      refine Zl (.two R R R) R R (ZN (d:=.int .i64 x6.Row) R ts_3 (iR R) R) ?_
      refine Zl (.two R R R) R R (Zs R (iR R) (iR R)) ?_
      refine Zl (.two R R R) R R (Zf R (iR R)) ?_
      refine Zl (.two R R R) R R (fB R YB2 iL fR R) ?_
      refine Zl (.two R R R) R R (Zb (a:=rI (x4.Col)) R ts_3 (iR R) R R) ?_
      refine Zl (.two R R R) R R (fB R YDx iL fR R) ?_
      refine Zl (.two R R R) R R (Zb (a:=qc g1.Merges) R YGj (iR R) R R) ?_
      refine Zl (.two R R R) R R (Zf R iL) ?_
      refine Zj h14 fun x7 ex7 h15=>?_
      refine Zl (.two R R R) R R (YBf R (iR R) iL (gdt ex7)) ?_
      refine Zj h15 fun x8 ex8 h16=>?_
      refine Zl (.two R R R) R R (Zz R YFN.slice (iR R) (iR R) (fun _=>R) (gdt ex8)) ?_
      refine Zl (.two R R R) R R (Zy R YB2 (iR R)) ?_
      refine Zl (.two R R R) R R (ZN (d:=.int .i64 x8.Col) R ts_3 (iR R) R) ?_
      refine Zl (.two R R R) R R (YEP R (iR R) (iR R)) ?_
      refine Zl (.two R R R) R R (Zr R (iR R) (iR R)) ?_
      refine Zl (.one R R R) R R (ZC R (iR R) (iR R)) ?_
      refine Zm R R R (Zr R iL (iR R)) ?_
      refine AQ.nil ?_
      refine hK24 _ ?_
      refine aC R (fun hc6=>?_) (fun hc6=>?_)
      ·have h17:=Zn hc6 h16
       refine aS fun _ hK25 _=>?_
       refine Zh (s':=⟨[],[],((i3 0)+1),104⟩) (by exact Zc Za Za nL) ?_
       refine aR (sA R R (aZ (hK25 _ ?_)))
       refine Zk ?_
       exact Y1_ (he1 _ (hx1 _ (Zd h17).symm)) iL (.t (.d R))
      ·have h17:=Zo hc6 h16
       refine Zi (hK23 _ ?_)
       refine aS fun _ hK26 _=>?_
       refine Zh (s':=⟨[(1,.ptr 1 n0 0 0),(4,rI (x2)),(5,.ptr 5 (i3 0) 0 0),(29,rI ((g1.Merges.length:Int))),(30,rI (x2))],[(1,some (.box n0 43 (k20_ g1))),(5,some (.box (i3 0) 211 (k22_ x4)))],((i3 0)+1),104⟩) (by exact Zc ⟨jL,jL,jL,jL,jL,Za⟩ ⟨.inl R,.inl R,Za⟩ nL) ?_
       refine aR (sM R R (sM R R (aZ (hK26 _ ?_))))
       refine Zp ?_
       refine jc1k h17 fun o2 hit2 hk2 he2=>?_
       have J2 : ∀ (u4:Unit) (i10:Nat→Nat),o2 = .nrm u4→K14 ⟨[(1,.ptr 1 n0 0 0),(29,rI ((g1.Merges.length:Int))),(30,rI (x2))],[(1,some (.box n0 43 (k20_ g1)))],(i10 0),104⟩:=by
        intro u4 i10 e
        have h18:=hk2 _ e
        refine hK14 _ ?_
        refine aR (Zj h18 fun x12 ex12 h19=>(sQ R (ZI R iL iL (fun _=>ex12)) (sM R R ?_)))
        refine Zt ?_
        exact ZO h19 (vec [(i10 0)]) ((by exact Zc ⟨jL,jL,jL,Za⟩ ⟨.inl R,Za⟩ nL))
       refine ZS (fun (x10:Int) i8=>⟨[(1,.ptr 1 n0 0 0),(5,.ptr 5 (i3 0) 0 0),(29,rI ((g1.Merges.length:Int))),(30,rI (x2)),(91,rI (x2)),(92,rI (x10))],[(1,some (.box n0 43 (k20_ g1))),(5,some (.box (i3 0) 211 (k22_ x4)))],(i8 0),104⟩) (vec [((i3 0)+1)]) hit2 ((by exact Zc ⟨jL,jL,jL,jL,jL,jL,Za⟩ ⟨.inl R,.inl R,Za⟩ nL)) ?_
       intro x10 i8 v2 hv2 hx2
       have h20:YCo g1 x2 x4 x10=some v2:=hv2; unfold YCo at h20
       refine aS fun _ hK27 _=>(aR (sQ R (Zx R iL iL) (aZ (hK27 _ ?_))))
       refine aS fun _ hK28 _=>?_
       refine aC R (fun hc7=>?_) (fun hc7=>?_)
       ·have h21:=Zn hc7 h20
        refine Zi (hK28 _ ?_)
        refine aS fun _ hK29 _=>(Zp (aS fun _ hK30 _=>(aR (sM R R (sA R R (aZ (hK30 _ ?_)))))))
        refine aS fun _ hK31 _=>?_
        refine ZW hmix (by kernel_rfl) ?_
        refine Zm R R R (ZF R YFO iL R R) (Zm R R R (fB R YDx iL fR R) (Zm R R R (Zb (a:=qc g1.Merges) R YGj iL R R) (Zm R R R (Zf R iL) (Zj h21 fun x13 ex13 h22=>(Zm R R R (Zz R YFN.slice iL iL (fun _=>R) (fun _=>ex13)) (Zm R R R (ZM (cs:=(k22_ x13)) R YFO iL R R) (Zj h22 fun r4 er4 h23=>?_)))))))
        refine AQ.stepC R R R (r:=rB (r4)) (caps:=[]) (bs:=[.agg (k22_ x4),.agg (k22_ x13)]) R iL R ⟨⟨_,iL,.g (cs:=[.int .i64 x4.Row,.int .i64 x4.Col,.int .i64 x4.H,.int .i64 x4.W]) R R⟩,⟨_,iL,.g (cs:=[.int .i64 x13.Row,.int .i64 x13.Col,.int .i64 x13.H,.int .i64 x13.W]) R R⟩,Za⟩ (fun _=>YO2 (er4)) R ?_
        refine AQ.nil ?_
        refine hK31 _ ?_
        refine aC R (fun hc8=>?_) (fun hc8=>?_)
        ·have h24:=Zn hc8 h23
         refine aS fun _ hK32 _=>?_
         refine Zh (s':=⟨[],[],(i8 0),104⟩) (by exact Zc Za Za nL) ?_
         refine aR (sA R R (aZ (hK32 _ ?_)))
         refine Zk ?_
         exact Y1_ (he1 _ (hx1 _ (Zd (he2 _ (hx2 _ (Zd h24).symm))).symm)) iL (.t (.d R))
        ·have h24:=Zo hc8 h23
         refine Zi (hK29 _ ?_)
         refine Zh (s':=⟨[(1,.ptr 1 n0 0 0),(5,.ptr 5 (i3 0) 0 0),(29,rI ((g1.Merges.length:Int))),(30,rI (x2)),(91,rI (x2)),(92,rI (x10))],[(1,some (.box n0 43 (k20_ g1))),(5,some (.box (i3 0) 211 (k22_ x4)))],(i8 0),104⟩) (by exact Zc ⟨jL,jL,jL,jL,jL,jL,Za⟩ ⟨.inl R,.inl R,Za⟩ nL) ?_
         refine aR (Zj h24 fun x14 ex14 h25=>(sQ R (ZI R iL iL (fun _=>ex14)) (sM R R ?_)))
         refine Zt ?_
         exact ZO h25 (vec [(i8 0)]) ((by exact Zc ⟨jL,jL,jL,jL,jL,jL,Za⟩ ⟨.inl R,.inl R,Za⟩ nL))
       ·have h21:=Zo hc7 h20
        refine ZJ ?_
        exact wK14 _ _ ((by exact Zc ⟨jL,jL,jL,Za⟩ ⟨.inl R,Za⟩ nL)) (J2 _ (vec [(i8 0)]) (hx2 _ (Zd h21).symm))
   ·have h8:=Zo hc3 h7
    refine ZJ ?_
    exact wK9 _ _ ((by exact Zc Za Za nL)) (J1 _ (vec [(i3 0)]) (hx1 _ (Zd h8).symm))
theorem YKX {kind1:Int} {l1:List YAY} {r:Int} (h:YEB kind1 l1=some r):ARO Tryz.prog 126 [rI (kind1),qd l1] (rI (r)):=by
 unfold YEB at h
 refine Zw Tryz.func126 R R Tryz.ntmps126 R (Ze R) fun n0=>?_
 refine aS fun _ hK1 _=>(aR (sA R R (aZ (hK1 _ ?_))))
 refine aS fun K2 hK2 wK2=>(aS fun _ hK3 _=>(aR (sM R R (sQ R (ZA R YDu.slice iL) (sM R R (aZ (hK3 _ ?_)))))))
 refine Zp ?_
 refine jc1k h fun o1 hit1 hk1 he1=>?_
 have J1 : ∀ (u2:Unit) (i5:Nat→Nat),o1 = .nrm u2→K2 ⟨[],[],(i5 0),43⟩:=by
  intro u2 i5 e
  have h1:=hk1 _ e
  refine hK2 _ ?_
  refine aS fun _ hK4 _=>(aR (sA R R (aZ (hK4 _ ?_))))
  refine Zk ?_
  exact Y1_ h1 iL (.t (.d R))
 refine ZS (fun (x2:Int) i3=>⟨[(0,rI (kind1)),(1,qd l1),(7,rI ((l1.length:Int))),(8,rI (x2))],[],(i3 0),43⟩) (vec [n0]) hit1 ((by exact Zc ⟨jL,jL,jL,jL,Za⟩ Za nL)) ?_
 intro x2 i3 v1 hv1 hx1
 have h2:YCr kind1 l1 x2=some v1:=hv1; unfold YCr at h2
 refine aS fun _ hK5 _=>(aR (sQ R (Zx R iL iL) (aZ (hK5 _ ?_))))
 refine aS fun _ hK6 _=>?_
 refine aC R (fun hc1=>?_) (fun hc1=>?_)
 ·have h3:=Zn hc1 h2
  refine Zi (hK6 _ ?_)
  refine aS fun _ hK7 _=>(Zp (aS fun _ hK8 _=>(aR (sM R R (sA R R (aZ (hK8 _ ?_)))))))
  refine aS fun _ hK9 _=>(aR (sM R R (sQ R (Zs R iL iL) (sM R R (sV R R R (Zf R iL) (sV R R R (Zf R iL) (Zj h3 fun x4 ex4 h4=>(sV R R R (Zz R YDu.slice (iR R) (iR R) (fun _=>R) (gdt ex4)) (sV R R R (Zy R YEb (iR R)) (sV R R R (ZN (d:=.str x4.Text) R ts_9 (iR R) R) (sV R R R (YCz R (iR R) iL) (sV R R R (Zf R (iR R)) ?_))))))))))))
  refine sW (.two R R R) R (Zf R iL) ?_
  refine sW (.two R R R) R (Zf R iL) ?_
  refine sW (.two R R R) R (Zz R YDu.slice (iR R) (iR R) (fun _=>R) (fun h=>gdt ex4 (Bool.and_eq_true_iff.1 h).1)) ?_
  refine sW (.two R R R) R (Zy R YEa (iR R)) ?_
  refine sW (.two R R R) R (ZN (d:=.sl (x4.Attrs.map YAG.row)) R YCi (iR R) R) ?_
  refine sW (.two R R R) R (ZA R YDI.slice (iR R)) ?_
  refine sW (.two R R R) R (ZV R (iR R) iL) ?_
  refine sV R R R (ZC R (iR R) (iR R)) (sQ R (Zr R iL (iR R)) (sM R R (sV R R R (Zf R iL) (sV R R R (Zs R (iR R) iL) (sV R R R (Zf R (iR R)) ?_)))))
  refine sW (.two R R R) R (Zf R iL) ?_
  refine sW (.two R R R) R (Zf R iL) ?_
  refine Zj h4 fun x5 ex5 h5=>?_
  refine sW (.two R R R) R (Zz R YDu.slice (iR R) (iR R) (fun _=>R) (gdt ex5)) ?_
  refine sW (.two R R R) R (Zy R YCY (iR R)) ?_
  refine sW (.two R R R) R (ZN (d:=.int .i64 x5.Ref) R ts_3 (iR R) R) ?_
  refine sW (.two R R R) R (ZH R (iR R) iL) ?_
  refine sV R R R (Zr R (iR R) (iR R)) (sQ R (ZC R iL (iR R)) (aZ (hK9 _ ?_)))
  refine aC R (fun hc2=>?_) (fun hc2=>?_)
  ·have h6:=Zn hc2 h5
   refine aS fun _ hK10 _=>?_
   refine Zh (s':=⟨[],[],(i3 0),43⟩) (by exact Zc Za Za nL) ?_
   refine aR (sA R R (aZ (hK10 _ ?_)))
   refine Zk ?_
   exact Y1_ (he1 _ (hx1 _ (Zd h6).symm)) iL (.t (.d R))
  ·have h6:=Zo hc2 h5
   refine Zi (hK7 _ ?_)
   refine Zh (s':=⟨[(0,rI (kind1)),(1,qd l1),(7,rI ((l1.length:Int))),(8,rI (x2))],[],(i3 0),43⟩) (by exact Zc ⟨jL,jL,jL,jL,Za⟩ Za nL) ?_
   refine aR (Zj h6 fun x6 ex6 h7=>(sQ R (ZI R iL iL (fun _=>ex6)) (sM R R ?_)))
   refine Zt ?_
   exact ZO h7 (vec [(i3 0)]) ((by exact Zc ⟨jL,jL,jL,jL,Za⟩ Za nL))
 ·have h3:=Zo hc1 h2
  refine ZJ ?_
  exact wK2 _ _ ((by exact Zc Za Za nL)) (J1 _ (vec [(i3 0)]) (hx1 _ (Zd h3).symm))
theorem YO3 {s1:List UInt8} {r:Bool} (h:YG7 s1=some r):ARO Tryz.prog 162 [.r (.str s1)] (rB (r)):=by
 unfold YG7 at h
 refine Zw Tryz.func162 R R Tryz.ntmps162 R (Ze R) fun n0=>?_
 refine aS fun _ hK1 _=>(aR (sA R R (aZ (hK1 _ ?_))))
 refine aS fun K2 hK2 wK2=>(aS fun _ hK3 _=>(aR (sM R R (sQ R (YA1 R Tryz.underlying9 iL) (sM R R (aZ (hK3 _ ?_)))))))
 refine Zp ?_
 refine jc1k h fun o1 hit1 hk1 he1=>?_
 have J1 : ∀ (u2:Unit) (i5:Nat→Nat),o1 = .nrm u2→K2 ⟨[(0,.r (.str s1))],[],(i5 0),36⟩:=by
  intro u2 i5 e
  have h1:=hk1 _ e
  refine hK2 _ ?_
  refine aS fun _ hK4 _=>(aR (sM R R (sQ R (YA1 R Tryz.underlying9 iL) (sQ R (YB5 R iL iL) (sM R R (sV R R R (Zf R iL) (sV R R R (YA1 R Tryz.underlying9 (iR R)) (sV R R R (YEP R (iR R) iL) (sQ R (Zr R iL (iR R)) (sM R R (sV R R R (Zf R iL) (sV R R R (Zf R iL) (sV R R R (YA1 R Tryz.underlying9 (iR R)) (Zj h1 fun x4 ex4 h2=>(sV R R R (YBf R (iR R) iL (gdt ex4)) (Zj h2 fun ch1 ech1 h3=>(sV R R R (ZZ R Tryz.underlying9 (iR R) (iR R) (gdt ech1)) (sV R R R (ZH R (iR R) iL) (sQ R (Zr R iL (iR R)) (sA R R (aZ (hK4 _ ?_))))))))))))))))))))))
  refine Zk ?_
  exact Y2_ h3 iL (.t (.d R))
 refine ZS (fun (x2:Int) i3=>⟨[(0,.r (.str s1)),(5,rI ((s1.length:Int))),(6,rI (x2))],[],(i3 0),36⟩) (vec [n0]) hit1 ((by exact Zc ⟨jL,jL,jL,Za⟩ Za nL)) ?_
 intro x2 i3 v1 hv1 hx1
 have h4:YDA s1 x2=some v1:=hv1; unfold YDA at h4
 refine aS fun _ hK5 _=>(aR (sQ R (Zx R iL iL) (aZ (hK5 _ ?_))))
 refine aS fun _ hK6 _=>?_
 refine aC R (fun hc1=>?_) (fun hc1=>?_)
 ·have h5:=Zn hc1 h4
  refine Zi (hK6 _ ?_)
  refine aS fun _ hK7 _=>(Zp (aS fun _ hK8 _=>(aR (sM R R (sA R R (aZ (hK8 _ ?_)))))))
  refine aS fun _ hK9 _=>(aR (sM R R (sM R R (Zj h5 fun ch2 ech2 h6=>(sQ R (ZZ R Tryz.underlying9 iL iL (fun _=>ech2)) (sQ R (Zx R iL iL) (sM R R (sV R R R (Zf R iL) (sV R R R (Zf R iL) (sV R R R (ZZ R Tryz.underlying9 (iR R) (iR R) (fun _=>ech2)) (sV R R R (ZV R (iR R) iL) (sQ R (ZC R iL (iR R)) (aZ (hK9 _ ?_))))))))))))))
  refine aC R (fun hc2=>?_) (fun hc2=>?_)
  ·have h7:=Zn hc2 h6
   refine aS fun _ hK10 _=>?_
   refine Zh (s':=⟨[],[],(i3 0),36⟩) (by exact Zc Za Za nL) ?_
   refine aR (sA R R (aZ (hK10 _ ?_)))
   refine Zk ?_
   exact Y2_ (he1 _ (hx1 _ (Zd h7).symm)) iL (.t (.d R))
  ·have h7:=Zo hc2 h6
   refine Zi (hK7 _ ?_)
   refine Zh (s':=⟨[(0,.r (.str s1)),(5,rI ((s1.length:Int))),(6,rI (x2))],[],(i3 0),36⟩) (by exact Zc ⟨jL,jL,jL,Za⟩ Za nL) ?_
   refine aR (Zj h7 fun x5 ex5 h8=>(sQ R (ZI R iL iL (fun _=>ex5)) (sM R R ?_)))
   refine Zt ?_
   exact ZO h8 (vec [(i3 0)]) ((by exact Zc ⟨jL,jL,jL,Za⟩ Za nL))
 ·have h5:=Zo hc1 h4
  refine ZJ ?_
  exact wK2 _ _ ((by exact Zc ⟨jL,Za⟩ Za nL)) (J1 _ (vec [(i3 0)]) (hx1 _ (Zd h5).symm))
theorem YMj {a1:YAN} {b1:YAN} {r:Bool} (h:YEV a1 b1=some r):ARO Tryz.prog 163 [.agg (k8_ a1),.agg (k8_ b1)] (rB (r)):=by
 unfold YEV at h
 refine Zw Tryz.func163 R R Tryz.ntmps163 R (Ze R) fun n0=>?_
 refine aS fun _ hK1 _=>(aR (Zg R R R (ZR (cs:=(k8_ a1)) 2 R iL R R) (Zg R R R (ZR (cs:=(k8_ b1)) 3 R iL R R) (sA R R (aZ (hK1 _ ?_))))))
 refine aS fun _ hK2 _=>(aR (sQ R (fB R YE6 iL fR R) (sQ R (Zb (a:=rI (a1.Clock)) R ts_3 iL R R) (sQ R (fB R YE6 iL fR R) (sQ R (Zb (a:=rI (b1.Clock)) R ts_3 iL R R) (sQ R (Zx R iL iL) (sM R R (sV R R R (fB R YE6 iL fR R) (sV R R R (Zb (a:=rI (a1.Clock)) R ts_3 (iR R) R R) (sV R R R (fB R YE6 iL fR R) (sV R R R (Zb (a:=rI (b1.Clock)) R ts_3 (iR R) R R) (sV R R R (Zs R (iR R) (iR R)) (sV R R R (Zf R (iR R)) ?_)))))))))))))
 refine sW (.two R R R) R (fB R YGO iL fR R) ?_
 refine sW (.two R R R) R (Zb (a:=rI (a1.Site)) R ts_3 (iR R) R R) ?_
 refine sW (.two R R R) R (fB R YGO iL fR R) ?_
 refine sW (.two R R R) R (Zb (a:=rI (b1.Site)) R ts_3 (iR R) R R) ?_
 refine sW (.two R R R) R (Zx R (iR R) (iR R)) ?_
 refine sV R R R (Zr R (iR R) (iR R)) (sQ R (ZC R iL (iR R)) (sA R R (aZ (hK2 _ ?_))))
 refine Zk ?_
 exact Y2_ h iL (.t (.d R))
theorem YKW {l1:List YAN} {r:Int} (h:YEA l1=some r):ARO Tryz.prog 113 [qe l1] (rI (r)):=by
 unfold YEA at h
 refine Zw Tryz.func113 R R Tryz.ntmps113 R (Ze R) fun n0=>?_
 refine aS fun _ hK1 _=>(aR (sA R R (aZ (hK1 _ ?_))))
 refine aS fun K2 hK2 wK2=>(aS fun _ hK3 _=>(aR (sM R R (sQ R (ZA R YHw.slice iL) (sM R R (aZ (hK3 _ ?_)))))))
 refine Zp ?_
 refine jc1k h fun o1 hit1 hk1 he1=>?_
 have J1 : ∀ (u2:Unit) (i5:Nat→Nat),o1 = .nrm u2→K2 ⟨[],[],(i5 0),91⟩:=by
  intro u2 i5 e
  have h1:=hk1 _ e
  refine hK2 _ ?_
  refine aS fun _ hK4 _=>(aR (sA R R (aZ (hK4 _ ?_))))
  refine Zk ?_
  exact Y1_ h1 iL (.t (.d R))
 refine ZS (fun (x2:Int) i3=>⟨[(0,qe l1),(6,rI ((l1.length:Int))),(7,rI (x2))],[],(i3 0),91⟩) (vec [n0]) hit1 ((by exact Zc ⟨jL,jL,jL,Za⟩ Za nL)) ?_
 intro x2 i3 v1 hv1 hx1
 have h2:YCq l1 x2=some v1:=hv1; unfold YCq at h2
 refine aS fun _ hK5 _=>(aR (sQ R (Zx R iL iL) (aZ (hK5 _ ?_))))
 refine aS fun _ hK6 _=>?_
 refine aC R (fun hc1=>?_) (fun hc1=>?_)
 ·have h3:=Zn hc1 h2
  refine Zi (hK6 _ ?_)
  refine aS fun _ hK7 _=>(Zp (aS fun _ hK8 _=>(aR (sM R R (sA R R (aZ (hK8 _ ?_)))))))
  refine aS fun _ hK9 _=>(aR (sM R R (sM R R (Zj h3 fun x4 ex4 h4=>(sQ R (Zz R YHw.slice iL iL (fun _=>R) (fun _=>ex4)) (sQ R (ZM (cs:=(k8_ x4)) R YIN iL R R) (Zg R R R (ZX (cs:=[rI (0),rI (0),rI (0),rI (0),rI (0),.r (.str []),.r (.str []),.r (.str [])]) 4 R YVD R R) (ZD R R (ZB (ds:=(k8_ x4)) R YU8 iL R iL R R R R) (aZ (hK9 _ ?_))))))))))
  refine aS fun _ hK10 _=>(aS fun _ hK11 _=>(aR (sQ R (fB R YDy iL fR R) (sQ R (Zb (a:=rI (x4.Kind)) R ts_3 iL R R) (sQ R (ZH R iL iL) (sM R R (sV R R R (fB R YDy iL fR R) (sV R R R (Zb (a:=rI (x4.Kind)) R ts_3 (iR R) R R) (sV R R R (ZH R (iR R) iL) (sQ R (Zr R iL (iR R)) (aZ (hK11 _ ?_))))))))))))
  refine aC R (fun hc2=>?_) (fun hc2=>?_)
  ·have h5:=Zn hc2 h4
   refine aS fun _ hK12 _=>?_
   refine Zh (s':=⟨[],[],((i3 0)+1),91⟩) (by exact Zc Za Za nL) ?_
   refine aR (sA R R (aZ (hK12 _ ?_)))
   refine Zk ?_
   exact Y1_ (he1 _ (hx1 _ (Zd h5).symm)) iL (.t (.d R))
  ·have h5:=Zo hc2 h4
   refine Zi (hK10 _ ?_)
   refine aS fun _ hK13 _=>(aS fun _ hK14 _=>?_)
   refine Zh (s':=⟨[(0,qe l1),(3,rI (x2)),(4,.ptr 4 (i3 0) 0 0),(6,rI ((l1.length:Int))),(7,rI (x2))],[(4,some (.box (i3 0) 176 (k8_ x4)))],((i3 0)+1),91⟩) (by exact Zc ⟨jL,jL,jL,jL,jL,Za⟩ ⟨.inl R,Za⟩ nL) ?_
   refine aR (sQ R (fB R YE6 iL fR R) (sQ R (Zb (a:=rI (x4.Clock)) R ts_3 iL R R) (Zj h5 fun r1 er1 h6=>(Zg R R R (Zq (r:=rB (r1)) (caps:=[]) (bs:=[rI (x4.Clock),rI (1),rI (1073741824)]) R iL R ⟨⟨_,iL,.d R⟩,⟨_,iL,.d R⟩,⟨_,iL,.d R⟩,Za⟩ (fun _=>YBh (er1)) R) (sQ R (ZQ R iL) (sM R R (sV R R R (fB R YGO iL fR R) (sV R R R (Zb (a:=rI (x4.Site)) R ts_3 (iR R) R R) (Zj h6 fun r2 er2 h7=>?_)))))))))
   refine ZE (.one R R R) R R (Zq (r:=rB (r2)) (caps:=[]) (bs:=[rI (x4.Site),rI (0),rI (1000)]) R iL R ⟨⟨_,(iR R),.d R⟩,⟨_,iL,.d R⟩,⟨_,iL,.d R⟩,Za⟩ (fun hg=>YBh (gdt er2 hg)) R) ?_
   refine sV R R R (ZQ R (iR R)) (sQ R (ZC R iL (iR R)) (sM R R (sV R R R (fB R YMt iL fR R) (sV R R R (Zb (a:=rI (x4.Item)) R ts_3 (iR R) R R) (Zj h7 fun r3 er3 h8=>?_)))))
   refine ZE (.one R R R) R R (Zq (r:=rB (r3)) (caps:=[]) (bs:=[rI (x4.Item),rI (1),rI (1073741824)]) R iL R ⟨⟨_,(iR R),.d R⟩,⟨_,iL,.d R⟩,⟨_,iL,.d R⟩,Za⟩ (fun hg=>YBh (gdt er3 hg)) R) ?_
   refine sV R R R (ZQ R (iR R)) (sQ R (ZC R iL (iR R)) (aZ (hK14 _ ?_)))
   refine aC R (fun hc3=>?_) (fun hc3=>?_)
   ·have h9:=Zn hc3 h8
    refine aS fun _ hK15 _=>?_
    refine Zh (s':=⟨[],[],((i3 0)+1),91⟩) (by exact Zc Za Za nL) ?_
    refine aR (sA R R (aZ (hK15 _ ?_)))
    refine Zk ?_
    exact Y1_ (he1 _ (hx1 _ (Zd h9).symm)) iL (.t (.d R))
   ·have h9:=Zo hc3 h8
    refine Zi (hK13 _ ?_)
    refine aS fun K16 hK16 wK16=>(aS fun _ hK17 _=>(aR (sQ R (fB R YDy iL fR R) (sQ R (Zb (a:=rI (x4.Kind)) R ts_3 iL R R) (sQ R (Zs R iL iL) (aZ (hK17 _ ?_)))))))
    refine jc1k h9 fun p1 hp1 hk2 he2=>?_
    have J2 : ∀ (u3:Unit) (i6:Nat→Nat),p1 = .nrm u3→K16 ⟨[(0,qe l1),(3,rI (x2)),(4,.ptr 4 (i3 0) 0 0),(6,rI ((l1.length:Int))),(7,rI (x2))],[(4,some (.box (i3 0) 176 (k8_ x4)))],(i6 0),91⟩:=by
     intro u3 i6 e
     have h10:=hk2 _ e
     refine hK16 _ ?_
     refine aS fun _ hK18 _=>?_
     refine ZW hmix (by kernel_rfl) ?_
     refine Zm R R R (Zf R iL) (Zm R R R (ZV R iL iL) (Zm R R R (Zf R iL) ?_))
     refine Zl (.one R R R) R R (Zf R iL) ?_
     refine Zl (.one R R R) R R (Zf R iL) ?_
     refine Zj h10 fun x5 ex5 h11=>?_
     refine Zl (.one R R R) R R (YBf R (iR R) iL (gdt ex5)) ?_
     refine Zj h11 fun x6 ex6 h12=>?_
     refine Zl (.one R R R) R R (Zz R YHw.slice (iR R) (iR R) (fun _=>R) (gdt ex6)) ?_
     refine Zl (.one R R R) R R (ZM (cs:=(k8_ x6)) R YIN (iR R) R R) ?_
     refine Zl (.one R R R) R R (ZF R YIN iL R R) ?_
     refine Zj h12 fun r4 er4 h13=>?_
     refine AQ.stepWC (.one R R R) R R (r:=rB (r4)) (caps:=[]) (bs:=[.agg (k8_ x6),.agg (k8_ x4)]) R iL R ⟨⟨_,(iR R),.g (cs:=[.int .i64 x6.Clock,.int .i64 x6.Site,.int .i64 x6.Kind,.int .i64 x6.Item,.int .i64 x6.Parent,.str x6.Place,.str x6.Name,.str x6.Value]) R R⟩,⟨_,(iR R),.g (cs:=[.int .i64 x4.Clock,.int .i64 x4.Site,.int .i64 x4.Kind,.int .i64 x4.Item,.int .i64 x4.Parent,.str x4.Place,.str x4.Name,.str x4.Value]) R R⟩,Za⟩ (fun hg=>YMj (gdt er4 hg)) R ?_
     refine Zl (.one R R R) R R (ZQ R (iR R)) ?_
     refine Zm R R R (Zr R iL (iR R)) ?_
     refine AQ.nil ?_
     refine hK18 _ ?_
     refine aC R (fun hc4=>?_) (fun hc4=>?_)
     ·have h14:=Zn hc4 h13
      refine aS fun _ hK19 _=>?_
      refine Zh (s':=⟨[],[],(i6 0),91⟩) (by exact Zc Za Za nL) ?_
      refine aR (sA R R (aZ (hK19 _ ?_)))
      refine Zk ?_
      exact Y1_ (he1 _ (hx1 _ (Zd h14).symm)) iL (.t (.d R))
     ·have h14:=Zo hc4 h13
      refine Zi (hK7 _ ?_)
      refine aR (Zj h14 fun x7 ex7 h15=>(sQ R (ZI R iL iL (fun _=>ex7)) (sM R R ?_)))
      refine Zt ?_
      exact ZO h15 (vec [(i6 0)]) ((by exact Zc ⟨jL,jL,jL,Za⟩ Za nL))
    refine aC R (fun hc5=>?_) (fun hc5=>?_)
    ·have h16:=Zn hc5 hp1
     refine aS fun _ hK20 _=>(aS fun _ hK21 _=>?_)
     refine Zh (s':=⟨[(0,qe l1),(3,rI (x2)),(4,.ptr 4 (i3 0) 0 0),(6,rI ((l1.length:Int))),(7,rI (x2))],[(4,some (.box (i3 0) 176 (k8_ x4)))],((i3 0)+1),91⟩) (by exact Zc ⟨jL,jL,jL,jL,jL,Za⟩ ⟨.inl R,Za⟩ nL) ?_
     refine aR (sQ R (fB R YJ0 iL fR R) (sQ R (Zb (a:=.r (.str x4.Name)) R ts_9 iL R R) (sQ R (YCz R iL iL) (sM R R (sV R R R (fB R YHQ iL fR R) (sV R R R (Zb (a:=.r (.str x4.Value)) R ts_9 (iR R) R R) (sV R R R (YCz R (iR R) iL) (sQ R (ZC R iL (iR R)) (aZ (hK21 _ ?_))))))))))
     refine aC R (fun hc6=>?_) (fun hc6=>?_)
     ·have h17:=Zn hc6 h16
      refine aS fun _ hK22 _=>?_
      refine Zh (s':=⟨[],[],((i3 0)+1),91⟩) (by exact Zc Za Za nL) ?_
      refine aR (sA R R (aZ (hK22 _ ?_)))
      refine Zk ?_
      exact Y1_ (he1 _ (hx1 _ (Zd (he2 _ (Zd h17).symm)).symm)) iL (.t (.d R))
     ·have h17:=Zo hc6 h16
      refine Zi (hK20 _ ?_)
      refine aS fun _ hK23 _=>(aS fun _ hK24 _=>(aR (sQ R (fB R YIL iL fR R) (sQ R (Zb (a:=rI (x4.Parent)) R ts_3 iL R R) (Zj h17 fun r5 er5 h18=>(Zg R R R (Zq (r:=rB (r5)) (caps:=[]) (bs:=[rI (x4.Parent),rI ((-1)),rI (1073741824)]) R iL R ⟨⟨_,iL,.d R⟩,⟨_,iL,.d R⟩,⟨_,iL,.d R⟩,Za⟩ (fun _=>YBh (er5)) R) (sQ R (ZQ R iL) (aZ (hK24 _ ?_)))))))))
      refine aC R (fun hc7=>?_) (fun hc7=>?_)
      ·have h19:=Zn hc7 h18
       refine aS fun _ hK25 _=>?_
       refine Zh (s':=⟨[],[],((i3 0)+1),91⟩) (by exact Zc Za Za nL) ?_
       refine aR (sA R R (aZ (hK25 _ ?_)))
       refine Zk ?_
       exact Y1_ (he1 _ (hx1 _ (Zd (he2 _ (Zd h19).symm)).symm)) iL (.t (.d R))
      ·have h19:=Zo hc7 h18
       refine Zi (hK23 _ ?_)
       refine aS fun _ hK26 _=>?_
       refine Zh (s':=⟨[(0,qe l1),(3,rI (x2)),(4,.ptr 4 (i3 0) 0 0),(6,rI ((l1.length:Int))),(7,rI (x2))],[(4,some (.box (i3 0) 176 (k8_ x4)))],((i3 0)+1),91⟩) (by exact Zc ⟨jL,jL,jL,jL,jL,Za⟩ ⟨.inl R,Za⟩ nL) ?_
       refine aR (sQ R (fB R YJ1 iL fR R) (sQ R (Zb (a:=.r (.str x4.Place)) R ts_9 iL R R) (Zj h19 fun r6 er6 h20=>(Zg R R R (Zq (r:=rB (r6)) (caps:=[]) (bs:=[.r (.str x4.Place)]) R iL R ⟨⟨_,iL,.d R⟩,Za⟩ (fun _=>YO3 (er6)) R) (sQ R (ZQ R iL) (aZ (hK26 _ ?_)))))))
       refine aC R (fun hc8=>?_) (fun hc8=>?_)
       ·have h21:=Zn hc8 h20
        refine aS fun _ hK27 _=>?_
        refine Zh (s':=⟨[],[],((i3 0)+1),91⟩) (by exact Zc Za Za nL) ?_
        refine aR (sA R R (aZ (hK27 _ ?_)))
        refine Zk ?_
        exact Y1_ (he1 _ (hx1 _ (Zd (he2 _ (Zd h21).symm)).symm)) iL (.t (.d R))
       ·have h21:=Zo hc8 h20
        refine Zi ?_
        exact wK16 _ _ ((by exact Zc ⟨jL,jL,jL,jL,jL,Za⟩ ⟨.inl R,Za⟩ nL)) (J2 _ (vec [((i3 0)+1)]) (Zd h21).symm)
    ·have h16:=Zo hc5 hp1
     refine aS fun _ hK28 _=>(aS fun _ hK29 _=>?_)
     refine Zh (s':=⟨[(0,qe l1),(3,rI (x2)),(4,.ptr 4 (i3 0) 0 0),(6,rI ((l1.length:Int))),(7,rI (x2))],[(4,some (.box (i3 0) 176 (k8_ x4)))],((i3 0)+1),91⟩) (by exact Zc ⟨jL,jL,jL,jL,jL,Za⟩ ⟨.inl R,Za⟩ nL) ?_
     refine aR (sQ R (fB R YIL iL fR R) (sQ R (Zb (a:=rI (x4.Parent)) R ts_3 iL R R) (sQ R (ZH R iL iL) (sM R R (sV R R R (fB R YJ1 iL fR R) (sV R R R (Zb (a:=.r (.str x4.Place)) R ts_9 (iR R) R R) (sV R R R (YCz R (iR R) iL) (sQ R (ZC R iL (iR R)) (aZ (hK29 _ ?_))))))))))
     refine aC R (fun hc9=>?_) (fun hc9=>?_)
     ·have h22:=Zn hc9 h16
      refine aS fun _ hK30 _=>?_
      refine Zh (s':=⟨[],[],((i3 0)+1),91⟩) (by exact Zc Za Za nL) ?_
      refine aR (sA R R (aZ (hK30 _ ?_)))
      refine Zk ?_
      exact Y1_ (he1 _ (hx1 _ (Zd (he2 _ (Zd h22).symm)).symm)) iL (.t (.d R))
     ·have h22:=Zo hc9 h16
      refine Zi (hK28 _ ?_)
      refine aS fun _ hK31 _=>(aS fun _ hK32 _=>(aR (sQ R (fB R YJ0 iL fR R) (sQ R (Zb (a:=.r (.str x4.Name)) R ts_9 iL R R) (Zj h22 fun r7 er7 h23=>(Zg R R R (Zq (r:=rB (r7)) (caps:=[]) (bs:=[.r (.str x4.Name)]) R iL R ⟨⟨_,iL,.d R⟩,Za⟩ (fun _=>YL4 (er7)) R) (sQ R (ZQ R iL) (aZ (hK32 _ ?_)))))))))
      refine aC R (fun hc10=>?_) (fun hc10=>?_)
      ·have h24:=Zn hc10 h23
       refine aS fun _ hK33 _=>?_
       refine Zh (s':=⟨[],[],((i3 0)+1),91⟩) (by exact Zc Za Za nL) ?_
       refine aR (sA R R (aZ (hK33 _ ?_)))
       refine Zk ?_
       exact Y1_ (he1 _ (hx1 _ (Zd (he2 _ (Zd h24).symm)).symm)) iL (.t (.d R))
      ·have h24:=Zo hc10 h23
       refine Zi (hK31 _ ?_)
       refine aS fun _ hK34 _=>?_
       refine Zh (s':=⟨[(0,qe l1),(3,rI (x2)),(4,.ptr 4 (i3 0) 0 0),(6,rI ((l1.length:Int))),(7,rI (x2))],[(4,some (.box (i3 0) 176 (k8_ x4)))],((i3 0)+1),91⟩) (by exact Zc ⟨jL,jL,jL,jL,jL,Za⟩ ⟨.inl R,Za⟩ nL) ?_
       refine aR (sQ R (fB R YHQ iL fR R) (sQ R (Zb (a:=.r (.str x4.Value)) R ts_9 iL R R) (sQ R (YCz R iL iL) (sM R R (sV R R R (fB R YHQ iL fR R) (sV R R R (Zb (a:=.r (.str x4.Value)) R ts_9 (iR R) R R) (Zj h24 fun r8 er8 h25=>?_)))))))
       refine ZE (.one R R R) R R (Zq (r:=rB (r8)) (caps:=[]) (bs:=[.r (.str x4.Value)]) R iL R ⟨⟨_,(iR R),.d R⟩,Za⟩ (fun hg=>YKM (gdt er8 hg)) R) ?_
       refine sV R R R (ZQ R (iR R)) (sQ R (Zr R iL (iR R)) (aZ (hK34 _ ?_)))
       refine aC R (fun hc11=>?_) (fun hc11=>?_)
       ·have h26:=Zn hc11 h25
        refine aS fun _ hK35 _=>?_
        refine Zh (s':=⟨[],[],((i3 0)+1),91⟩) (by exact Zc Za Za nL) ?_
        refine aR (sA R R (aZ (hK35 _ ?_)))
        refine Zk ?_
        exact Y1_ (he1 _ (hx1 _ (Zd (he2 _ (Zd h26).symm)).symm)) iL (.t (.d R))
       ·have h26:=Zo hc11 h25
        refine Zi ?_
        exact wK16 _ _ ((by exact Zc ⟨jL,jL,jL,jL,jL,Za⟩ ⟨.inl R,Za⟩ nL)) (J2 _ (vec [((i3 0)+1)]) (Zd h26).symm)
 ·have h3:=Zo hc1 h2
  refine ZJ ?_
  exact wK2 _ _ ((by exact Zc Za Za nL)) (J1 _ (vec [(i3 0)]) (hx1 _ (Zd h3).symm))
theorem YKR {n1:YAP} {r:Int} (h:YD6 n1=some r):ARO Tryz.prog 79 (k5_ n1) (rI (r)):=by
 unfold YD6 at h
 refine Zw Tryz.func79 R R Tryz.ntmps79 R (Ze R) fun n0=>?_
 refine aS fun _ hK1 _=>(aR (Zg R R R (ZR (cs:=(k7_ n1)) 1 R iL R R) (sA R R (aZ (hK1 _ ?_)))))
 refine aS fun _ hK2 _=>(aS fun _ hK3 _=>(aR (sQ R (fB R YCX iL fR R) (sQ R (Zb (a:=rI (n1.ID)) R ts_3 iL R R) (Zj h fun r1 er1 h1=>(Zg R R R (Zq (r:=rB (r1)) (caps:=[]) (bs:=[rI (n1.ID),rI (1),rI (1073741824)]) R iL R ⟨⟨_,iL,.d R⟩,⟨_,iL,.d R⟩,⟨_,iL,.d R⟩,Za⟩ (fun _=>YBh (er1)) R) (sQ R (ZQ R iL) (aZ (hK3 _ ?_)))))))))
 refine aC R (fun hc1=>?_) (fun hc1=>?_)
 ·have h2:=Zn hc1 h1
  refine aS fun _ hK4 _=>(aR (sA R R (aZ (hK4 _ ?_))))
  refine Zk ?_
  exact Y1_ h2 iL (.t (.d R))
 ·have h2:=Zo hc1 h1
  refine Zi (hK2 _ ?_)
  refine aS fun _ hK5 _=>(aS fun _ hK6 _=>(aR (sQ R (fB R YBI iL fR R) (sQ R (Zb (a:=rI (n1.Kind)) R ts_3 iL R R) (Zj h2 fun r2 er2 h3=>(Zg R R R (Zq (r:=rB (r2)) (caps:=[]) (bs:=[rI (n1.Kind),rI (0),rI (12)]) R iL R ⟨⟨_,iL,.d R⟩,⟨_,iL,.d R⟩,⟨_,iL,.d R⟩,Za⟩ (fun _=>YBh (er2)) R) (sQ R (ZQ R iL) (sM R R (sV R R R (fB R YCX iL fR R) (sV R R R (Zb (a:=rI (n1.ID)) R ts_3 (iR R) R R) (sV R R R (Zs R (iR R) iL) (sV R R R (Zf R (iR R)) ?_))))))))))))
  refine sW (.two R R R) R (fB R YBI iL fR R) ?_
  refine sW (.two R R R) R (Zb (a:=rI (n1.Kind)) R ts_3 (iR R) R R) ?_
  refine sW (.two R R R) R (ZH R (iR R) iL) ?_
  refine sV R R R (Zr R (iR R) (iR R)) (sQ R (ZC R iL (iR R)) (sM R R (sV R R R (fB R YCX iL fR R) (sV R R R (Zb (a:=rI (n1.ID)) R ts_3 (iR R) R R) (sV R R R (ZH R (iR R) iL) (sV R R R (Zf R (iR R)) ?_))))))
  refine sW (.two R R R) R (fB R YBI iL fR R) ?_
  refine sW (.two R R R) R (Zb (a:=rI (n1.Kind)) R ts_3 (iR R) R R) ?_
  refine sW (.two R R R) R (Zs R (iR R) iL) ?_
  refine sV R R R (Zr R (iR R) (iR R)) (sQ R (ZC R iL (iR R)) (aZ (hK6 _ ?_)))
  refine aC R (fun hc2=>?_) (fun hc2=>?_)
  ·have h4:=Zn hc2 h3
   refine aS fun _ hK7 _=>?_
   refine Zh (s':=⟨[],[],(n0+1),105⟩) (by exact Zc Za Za nL) ?_
   refine aR (sA R R (aZ (hK7 _ ?_)))
   refine Zk ?_
   exact Y1_ h4 iL (.t (.d R))
  ·have h4:=Zo hc2 h3
   refine Zi (hK5 _ ?_)
   refine aS fun _ hK8 _=>(aS fun _ hK9 _=>?_)
   refine Zh (s':=⟨[(1,.ptr 1 n0 0 0)],[(1,some (.box n0 46 (k7_ n1)))],(n0+1),105⟩) (by exact Zc ⟨jL,Za⟩ ⟨.inl R,Za⟩ nL) ?_
   refine aR (sQ R (fB R YMs iL fR R) (sQ R (Zb (a:=qa n1.Attrs) R YCi iL R R) (Zj h4 fun e1 ee1 h5=>(Zg R R R (Zq (r:=rI (e1)) (caps:=[]) (bs:=[qa n1.Attrs,rB (false)]) R iL R ⟨⟨_,iL,.d R⟩,⟨_,iL,.d R⟩,Za⟩ (fun _=>YDa (ee1)) R) (sA R R (aZ (hK9 _ ?_)))))))
   refine aS fun _ hK10 _=>(aR (sM R R (sQ R (ZH R iL iL) (aZ (hK10 _ ?_)))))
   refine aC R (fun hc3=>?_) (fun hc3=>?_)
   ·have h6:=Zn hc3 h5
    refine aS fun _ hK11 _=>(aR (sM R R (sA R R (aZ (hK11 _ ?_)))))
    refine Zk ?_
    exact Y1_ h6 iL (.t (.d R))
   ·have h6:=Zo hc3 h5
    refine Zi (hK8 _ ?_)
    refine aS fun _ hK12 _=>(aR (sQ R (fB R YBI iL fR R) (sQ R (Zb (a:=rI (n1.Kind)) R ts_3 iL R R) (Zj h6 fun r3 er3 h7=>(Zg R R R (Zq (r:=rB (r3)) (caps:=[]) (bs:=[rI (n1.Kind)]) R iL R ⟨⟨_,iL,.d R⟩,Za⟩ (fun _=>YE2 (er3)) R) (sM R R (sV R R R (fB R YBI iL fR R) (sV R R R (Zb (a:=rI (n1.Kind)) R ts_3 (iR R) R R) (Zj h7 fun r4 er4 h8=>?_)))))))))
    refine ZE (.one R R R) R R (Zq (r:=rB (r4)) (caps:=[]) (bs:=[rI (n1.Kind)]) R iL R ⟨⟨_,(iR R),.d R⟩,Za⟩ (fun hg=>YMh (gdt er4 hg)) R) ?_
    refine sQ R (ZC R iL (iR R)) (sA R R (aZ (hK12 _ ?_)))
    refine aS fun _ hK13 _=>(aS fun _ hK14 _=>?_)
    refine Zh (s':=⟨[(1,.ptr 1 n0 0 0),(4,rB ((r3 || r4)))],[(1,some (.box n0 46 (k7_ n1)))],(n0+1),105⟩) (by exact Zc ⟨jL,jL,Za⟩ ⟨.inl R,Za⟩ nL) ?_
    refine aR (sQ R (fB R YBi iL fR R) (sQ R (Zb (a:=qb n1.Flow) R YC4 iL R R) (sQ R (ZA R YBN.slice iL) (sQ R (ZV R iL iL) (sM R R (sV R R R (Zf R iL) (sV R R R (ZQ R (iR R)) (sQ R (Zr R iL (iR R)) (sM R R (sV R R R (fB R YEv iL fR R) (sV R R R (YA7 (ds:=(k20_ n1.Grid)) R YQ7 (iR R) R R R) (Zj h8 fun r5 er5 h9=>?_))))))))))))
    refine ZE (.one R R R) R R (Zq (r:=rB (r5)) (caps:=[]) (bs:=(k17_ n1.Grid)) R iL R ⟨⟨_,(iR R),.g (cs:=[.int .i64 n1.Grid.Rows,.int .i64 n1.Grid.Cols,.sl (n1.Grid.Cells.map YAY.row),.sl (n1.Grid.Merges.map YAX.row)]) R R⟩,Za⟩ (fun hg=>YLb (gdt er5 hg)) R) ?_
    refine sV R R R (ZQ R (iR R)) (sV R R R (Zf R (iR R)) ?_)
    refine sW (.two R R R) R (fB R YBI iL fR R) ?_
    refine sW (.two R R R) R (Zb (a:=rI (n1.Kind)) R ts_3 (iR R) R R) ?_
    refine Zj h9 fun r6 er6 h10=>?_
    refine ZE (.two R R R) R R (Zq (r:=rB (r6)) (caps:=[]) (bs:=[rI (n1.Kind)]) R iL R ⟨⟨_,(iR R),.d R⟩,Za⟩ (fun hg=>YIF (gdt er6 hg)) R) ?_
    refine sW (.two R R R) R (ZQ R (iR R)) ?_
    refine sV R R R (Zr R (iR R) (iR R)) (sQ R (ZC R iL (iR R)) (sM R R (sV R R R (fB R YGt iL fR R) (sV R R R (Zb (a:=qe n1.Draw) R YLk (iR R) R R) (sV R R R (ZA R YHw.slice (iR R)) (sV R R R (ZV R (iR R) iL) (sV R R R (Zf R (iR R)) ?_)))))))
    refine sW (.two R R R) R (fB R YBI iL fR R) ?_
    refine sW (.two R R R) R (Zb (a:=rI (n1.Kind)) R ts_3 (iR R) R R) ?_
    refine Zj h10 fun r7 er7 h11=>?_
    refine ZE (.two R R R) R R (Zq (r:=rB (r7)) (caps:=[]) (bs:=[rI (n1.Kind)]) R iL R ⟨⟨_,(iR R),.d R⟩,Za⟩ (fun hg=>YMi (gdt er7 hg)) R) ?_
    refine sW (.two R R R) R (ZQ R (iR R)) ?_
    refine sV R R R (Zr R (iR R) (iR R)) (sQ R (ZC R iL (iR R)) (aZ (hK14 _ ?_)))
    refine aC R (fun hc4=>?_) (fun hc4=>?_)
    ·have h12:=Zn hc4 h11
     refine aS fun _ hK15 _=>?_
     refine Zh (s':=⟨[],[],(n0+1),105⟩) (by exact Zc Za Za nL) ?_
     refine aR (sA R R (aZ (hK15 _ ?_)))
     refine Zk ?_
     exact Y1_ h12 iL (.t (.d R))
    ·have h12:=Zo hc4 h11
     refine Zi (hK13 _ ?_)
     refine aS fun _ hK16 _=>(aS fun _ hK17 _=>?_)
     refine Zh (s':=⟨[(1,.ptr 1 n0 0 0),(4,rB ((r3 || r4)))],[(1,some (.box n0 46 (k7_ n1)))],(n0+1),105⟩) (by exact Zc ⟨jL,jL,Za⟩ ⟨.inl R,Za⟩ nL) ?_
     refine aR (sM R R (aZ (hK17 _ ?_)))
     refine aC R (fun hc5=>?_) (fun hc5=>?_)
     ·have h13:=Zn hc5 h12
      refine aS fun _ hK18 _=>?_
      refine ZW hmix (by kernel_rfl) ?_
      refine Zm R R R (fB R YBi iL fR R) (Zm R R R (Zb (a:=qb n1.Flow) R YC4 iL R R) (Zm R R R (fB R YBI iL fR R) (Zm R R R (Zb (a:=rI (n1.Kind)) R ts_3 iL R R) ?_)))
      refine AQ.stepC R R R (r:=rB (r3)) (caps:=[]) (bs:=[rI (n1.Kind)]) R iL R ⟨⟨_,iL,.d R⟩,Za⟩ (fun _=>YE2 (er3)) R ?_
      refine Zj h13 fun r9 er9 h14=>?_
      refine AQ.stepC R R R (r:=rI (r9)) (caps:=[]) (bs:=[qb n1.Flow,rB (r3)]) R iL R ⟨⟨_,iL,.d R⟩,⟨_,iL,.d R⟩,Za⟩ (fun _=>YKT (er9)) R ?_
      refine Zm R R R (YCj R iL) ?_
      refine AQ.nil ?_
      refine hK18 _ ?_
      refine Zk ?_
      exact Y1_ h14 iL (.t (.d R))
     ·have h13:=Zo hc5 h12
      refine Zi (hK16 _ ?_)
      refine aS fun _ hK19 _=>(aS fun _ hK20 _=>(aR (sQ R (fB R YBI iL fR R) (sQ R (Zb (a:=rI (n1.Kind)) R ts_3 iL R R) (Zj h13 fun r10 er10 h15=>(Zg R R R (Zq (r:=rB (r10)) (caps:=[]) (bs:=[rI (n1.Kind)]) R iL R ⟨⟨_,iL,.d R⟩,Za⟩ (fun _=>YIF (er10)) R) (aZ (hK20 _ ?_))))))))
      refine aC R (fun hc6=>?_) (fun hc6=>?_)
      ·have h16:=Zn hc6 h15
       refine aS fun _ hK21 _=>(aS fun _ hK22 _=>(aR (sQ R (fB R YEv iL fR R) (sQ R (YA7 (ds:=(k20_ n1.Grid)) R YQ7 iL R R R) (Zj h16 fun e2 ee2 h17=>(Zg R R R (Zq (r:=rI (e2)) (caps:=[]) (bs:=(k17_ n1.Grid)) R iL R ⟨⟨_,iL,.g (cs:=[.int .i64 n1.Grid.Rows,.int .i64 n1.Grid.Cols,.sl (n1.Grid.Cells.map YAY.row),.sl (n1.Grid.Merges.map YAX.row)]) R R⟩,Za⟩ (fun _=>YKS (ee2)) R) (sA R R (aZ (hK22 _ ?_)))))))))
       refine aS fun _ hK23 _=>(aR (sM R R (sQ R (ZH R iL iL) (aZ (hK23 _ ?_)))))
       refine aC R (fun hc7=>?_) (fun hc7=>?_)
       ·have h18:=Zn hc7 h17
        refine aS fun _ hK24 _=>?_
        refine Zh (s':=⟨[(5,rI (e2))],[],(n0+1),105⟩) (by exact Zc ⟨jL,Za⟩ Za nL) ?_
        refine aR (sM R R (sA R R (aZ (hK24 _ ?_))))
        refine Zk ?_
        exact Y1_ h18 iL (.t (.d R))
       ·have h18:=Zo hc7 h17
        refine Zi (hK21 _ ?_)
        refine aS fun _ hK25 _=>?_
        refine Zh (s':=⟨[(1,.ptr 1 n0 0 0)],[(1,some (.box n0 46 (k7_ n1)))],(n0+1),105⟩) (by exact Zc ⟨jL,Za⟩ ⟨.inl R,Za⟩ nL) ?_
        refine aR (sQ R (fB R YBI iL fR R) (sQ R (Zb (a:=rI (n1.Kind)) R ts_3 iL R R) (sQ R (fB R YEv iL fR R) (sQ R (fB R YES iL fR R) (sQ R (Zb (a:=qd n1.Grid.Cells) R YHv iL R R) (Zj h18 fun r11 er11 h19=>(Zg R R R (Zq (r:=rI (r11)) (caps:=[]) (bs:=[rI (n1.Kind),qd n1.Grid.Cells]) R iL R ⟨⟨_,iL,.d R⟩,⟨_,iL,.d R⟩,Za⟩ (fun _=>YKX (er11)) R) (sA R R (aZ (hK25 _ ?_))))))))))
        refine Zk ?_
        exact Y1_ h19 iL (.t (.d R))
      ·have h16:=Zo hc6 h15
       refine Zi (hK19 _ ?_)
       refine aS fun _ hK26 _=>(aR (sQ R (fB R YGt iL fR R) (sQ R (Zb (a:=qe n1.Draw) R YLk iL R R) (Zj h16 fun r12 er12 h20=>(Zg R R R (Zq (r:=rI (r12)) (caps:=[]) (bs:=[qe n1.Draw]) R iL R ⟨⟨_,iL,.d R⟩,Za⟩ (fun _=>YKW (er12)) R) (sA R R (aZ (hK26 _ ?_))))))))
       refine Zk ?_
       exact Y1_ h20 iL (.t (.d R))
theorem YNe {n1:YAP} {r:(List Int)} (h:YF3 n1=some r):ARO Tryz.prog 81 (k5_ n1) (.r (.sl (r.map (rInt .i64)))):=by
 unfold YF3 at h
 refine Zw Tryz.func81 R R Tryz.ntmps81 R (Ze R) fun n0=>?_
 refine aS fun _ hK1 _=>(aR (Zg R R R (ZR (cs:=(k7_ n1)) 1 R iL R R) (sA R R (aZ (hK1 _ ?_)))))
 refine aS fun _ hK2 _=>(aR (sA R R (aZ (hK2 _ ?_))))
 refine aS fun K3 hK3 wK3=>(aS fun _ hK4 _=>(aR (sQ R (fB R YBi iL fR R) (sQ R (Zb (a:=qb n1.Flow) R YC4 iL R R) (sQ R (ZA R YBN.slice iL) (sM R R (aZ (hK4 _ ?_))))))))
 refine Zp ?_
 refine jb1k h fun o1 hit1 hk1=>?_
 have J1 : ∀ (out4:List Int) (i5:Nat→Nat),o1=out4→K3 ⟨[(1,.ptr 1 n0 0 0),(3,.own 5003 (i5 0))],[(1,some (.box n0 46 (k7_ n1))),(5003,some (.arr (i5 0) 3 1 (out4.map (rInt .i64))))],(i5 1),56⟩:=by
  intro out4 i5 e
  have h1:=hk1 _ e
  refine hK3 _ ?_
  refine aS fun K5 hK5 wK5=>(aS fun _ hK6 _=>(aR (sQ R (fB R YEv iL fR R) (sQ R (fB R YES iL fR R) (sQ R (Zb (a:=qd n1.Grid.Cells) R YHv iL R R) (sQ R (ZA R YDu.slice iL) (sM R R (aZ (hK6 _ ?_)))))))))
  refine Zp ?_
  refine jb1k h1 fun o2 hit2 hk2=>?_
  have J2 : ∀ (out8:List Int) (i10:Nat→Nat),o2=out8→K5 ⟨[(3,.own 5003 (i10 0))],[(5003,some (.arr (i10 0) 3 1 (out8.map (rInt .i64))))],(i10 1),56⟩:=by
   intro out8 i10 e
   have h2:=hk2 _ e
   refine hK5 _ ?_
   refine aS fun _ hK7 _=>(aR (sM R R (sA R R (aZ (hK7 _ ?_)))))
   refine Zk ?_
   exact YIw (P:=Tryz.prog) (fun (r:(List Int))=>.r (.sl (r.map (rInt .i64)))) h2 iL (.t (.one (.own R)))
  refine AW.iter2 (fun (x5:Int) (out6:List Int) i8=>⟨[(1,.ptr 1 n0 0 0),(3,.own 5003 (i8 0)),(32,rI ((n1.Grid.Cells.length:Int))),(33,rI (x5))],[(1,some (.box n0 46 (k7_ n1))),(5003,some (.arr (i8 0) 3 1 (out6.map (rInt .i64))))],(i8 1),56⟩) (vec [(i5 0),(i5 1)]) hit2 ((by exact Zc ⟨jL,jL,jL,jL,Za⟩ ⟨.inl R,.inl R,Za⟩ nL)) ?_
  intro x5 out6 i8 v1 hv1 hx2
  have h3:YFA n1 x5 out6=some v1:=hv1; unfold YFA at h3
  refine aS fun _ hK8 _=>(aR (sQ R (Zx R iL iL) (aZ (hK8 _ ?_))))
  refine aS fun _ hK9 _=>?_
  refine aC R (fun hc1=>?_) (fun hc1=>?_)
  ·have h4:=Zn hc1 h3
   refine Zi (hK9 _ ?_)
   refine aS fun K10 hK10 wK10=>(Zp ?_)
   refine jb1k h4 fun p1 hp1 hk3=>?_
   have J3 : ∀ (out9:List Int) (i11:Nat→Nat),p1=out9→K10 ⟨[(1,.ptr 1 n0 0 0),(3,.own 5003 (i11 0)),(32,rI ((n1.Grid.Cells.length:Int))),(33,rI (x5))],[(1,some (.box n0 46 (k7_ n1))),(5003,some (.arr (i11 0) 3 1 (out9.map (rInt .i64))))],(i11 1),56⟩:=by
    intro out9 i11 e
    have h5:=hk3 _ e
    refine hK10 _ ?_
    refine aR (Zj h5 fun x7 ex7 h6=>(sQ R (ZI R iL iL (fun _=>ex7)) (sM R R ?_)))
    refine Zt ?_
    exact YEQ.mk h6 (vec [(i11 0),(i11 1)]) ((by exact Zc ⟨jL,jL,jL,jL,Za⟩ ⟨.inl R,.inl R,Za⟩ nL))
   refine aS fun _ hK11 _=>(aR (sM R R (sA R R (aZ (hK11 _ ?_)))))
   refine aS fun _ hK12 _=>(aR (sQ R (fB R YEv iL fR R) (sQ R (fB R YES iL fR R) (sQ R (Zb (a:=qd n1.Grid.Cells) R YHv iL R R) (sM R R (Zj hp1 fun x8 ex8 h7=>(sQ R (Zz R YDu.slice iL iL (fun _=>R) (fun _=>ex8)) (sQ R (Zy R YCY iL) (sQ R (ZN (d:=.int .i64 x8.Ref) R ts_3 iL R) (sQ R (ZH R iL iL) (aZ (hK12 _ ?_))))))))))))
   refine aC R (fun hc2=>?_) (fun hc2=>?_)
   ·have h8:=Zn hc2 h7
    refine Zh (s':=⟨[(1,.ptr 1 n0 0 0),(3,.own 5003 (i8 0)),(5,rI (x5)),(32,rI ((n1.Grid.Cells.length:Int))),(33,rI (x5))],[(1,some (.box n0 46 (k7_ n1))),(5003,some (.arr (i8 0) 3 1 (out6.map (rInt .i64))))],(i8 1),56⟩) (by exact Zc ⟨jL,jL,jL,jL,jL,Za⟩ ⟨.inl R,.inl R,Za⟩ nL) ?_
    refine aR (sM R R (sQ R (fB R YEv iL fR R) (sQ R (fB R YES iL fR R) (sQ R (Zb (a:=qd n1.Grid.Cells) R YHv iL R R) (sM R R (sQ R (Zz R YDu.slice iL iL (fun _=>R) (fun _=>ex8)) (sQ R (Zy R YCY iL) (sQ R (ZN (d:=.int .i64 x8.Ref) R ts_3 iL R) (Zg R R R (YCs 52 R YCD (f:=(rInt .i64)) (l:=([x8.Ref]:List Int)) ⟨R,⟨_,iL,R⟩,Za⟩ R (fun _=>R) R) (Zj h8 fun out10 eout10 h9=>(Zg R R R (YEq R YCD iL R (.inr (.inl ⟨_,_,iL,R⟩)) eout10) (sA R R ?_))))))))))))
    refine Zt ?_
    exact wK10 _ _ ((by exact Zc ⟨jL,jL,jL,jL,Za⟩ ⟨.inl R,.inl R,Za⟩ nL)) (J3 _ (vec [((i8 1)+1),((i8 1)+2)]) (Zd h9).symm)
   ·have h8:=Zo hc2 h7
    refine Zi ?_
    exact wK10 _ _ ((by exact Zc ⟨jL,jL,jL,jL,Za⟩ ⟨.inl R,.inl R,Za⟩ nL)) (J3 _ (vec [(i8 0),(i8 1)]) (Zd h8).symm)
  ·have h4:=Zo hc1 h3
   refine ZJ ?_
   exact wK5 _ _ ((by exact Zc ⟨jL,Za⟩ ⟨.inl R,Za⟩ nL)) (J2 _ (vec [(i8 0),(i8 1)]) (hx2 _ (Zd h4).symm))
 refine AW.iter2 (fun (x2:Int) (out2:List Int) i3=>⟨[(1,.ptr 1 n0 0 0),(3,.own 5003 (i3 0)),(8,rI ((n1.Flow.length:Int))),(9,rI (x2))],[(1,some (.box n0 46 (k7_ n1))),(5003,some (.arr (i3 0) 3 1 (out2.map (rInt .i64))))],(i3 1),56⟩) (vec [(n0+1),(n0+2)]) hit1 (ZP (ZP (Weak.adopt 3 5003 3 1 (by decide) R) (by exact Zc (e':=[(0,.agg (k7_ n1)),(1,.ptr 1 n0 0 0),(2,.cst (.slice none 0 0)),(3,.own 5003 (n0+1)),(6,.ptr 1 n0 0 3),(7,qb n1.Flow),(8,rI ((n1.Flow.length:Int))),(9,rI (0))]) (h':=[(1,some (.box n0 46 (k7_ n1))),(5003,some (.arr (n0+1) 3 1 (([]:List Int).map (rInt .i64))))]) ⟨jL,jL,jL,jL,jL,jL,jL,jL,Za⟩ ⟨.inl R,.inl R,Za⟩ nL)) (by exact Zc ⟨jL,jL,jL,jL,Za⟩ ⟨.inl R,.inl R,Za⟩ nL)) ?_
 intro x2 out2 i3 v2 hv2 hx1
 have h10:YFB n1 x2 out2=some v2:=hv2; unfold YFB at h10
 refine aS fun _ hK13 _=>(aR (sQ R (Zx R iL iL) (aZ (hK13 _ ?_))))
 refine aS fun _ hK14 _=>?_
 refine aC R (fun hc3=>?_) (fun hc3=>?_)
 ·have h11:=Zn hc3 h10
  refine Zi (hK14 _ ?_)
  refine aS fun K15 hK15 wK15=>(Zp ?_)
  refine jb1k h11 fun p2 hp2 hk4=>?_
  have J4 : ∀ (out11:List Int) (i12:Nat→Nat),p2=out11→K15 ⟨[(1,.ptr 1 n0 0 0),(3,.own 5003 (i12 0)),(8,rI ((n1.Flow.length:Int))),(9,rI (x2))],[(1,some (.box n0 46 (k7_ n1))),(5003,some (.arr (i12 0) 3 1 (out11.map (rInt .i64))))],(i12 1),56⟩:=by
   intro out11 i12 e
   have h12:=hk4 _ e
   refine hK15 _ ?_
   refine aR (Zj h12 fun x9 ex9 h13=>(sQ R (ZI R iL iL (fun _=>ex9)) (sM R R ?_)))
   refine Zt ?_
   exact YEQ.mk h13 (vec [(i12 0),(i12 1)]) ((by exact Zc ⟨jL,jL,jL,jL,Za⟩ ⟨.inl R,.inl R,Za⟩ nL))
  refine aS fun _ hK16 _=>(aR (sM R R (sA R R (aZ (hK16 _ ?_)))))
  refine aS fun _ hK17 _=>(aR (sQ R (fB R YBi iL fR R) (sQ R (Zb (a:=qb n1.Flow) R YC4 iL R R) (sM R R (Zj hp2 fun x10 ex10 h14=>(sQ R (Zz R YBN.slice iL iL (fun _=>R) (fun _=>ex10)) (sQ R (Zy R YCW iL) (sQ R (ZN (d:=.int .i64 x10.Ref) R ts_3 iL R) (sQ R (ZH R iL iL) (aZ (hK17 _ ?_)))))))))))
  refine aC R (fun hc4=>?_) (fun hc4=>?_)
  ·have h15:=Zn hc4 h14
   refine Zh (s':=⟨[(1,.ptr 1 n0 0 0),(3,.own 5003 (i3 0)),(4,rI (x2)),(8,rI ((n1.Flow.length:Int))),(9,rI (x2))],[(1,some (.box n0 46 (k7_ n1))),(5003,some (.arr (i3 0) 3 1 (out2.map (rInt .i64))))],(i3 1),56⟩) (by exact Zc ⟨jL,jL,jL,jL,jL,Za⟩ ⟨.inl R,.inl R,Za⟩ nL) ?_
   refine aR (sM R R (sQ R (fB R YBi iL fR R) (sQ R (Zb (a:=qb n1.Flow) R YC4 iL R R) (sM R R (sQ R (Zz R YBN.slice iL iL (fun _=>R) (fun _=>ex10)) (sQ R (Zy R YCW iL) (sQ R (ZN (d:=.int .i64 x10.Ref) R ts_3 iL R) (Zg R R R (YCs 26 R YCD (f:=(rInt .i64)) (l:=([x10.Ref]:List Int)) ⟨R,⟨_,iL,R⟩,Za⟩ R (fun _=>R) R) (Zj h15 fun out12 eout12 h16=>(Zg R R R (YEq R YCD iL R (.inr (.inl ⟨_,_,iL,R⟩)) eout12) (sA R R ?_)))))))))))
   refine Zt ?_
   exact wK15 _ _ ((by exact Zc ⟨jL,jL,jL,jL,Za⟩ ⟨.inl R,.inl R,Za⟩ nL)) (J4 _ (vec [((i3 1)+1),((i3 1)+2)]) (Zd h16).symm)
  ·have h15:=Zo hc4 h14
   refine Zi ?_
   exact wK15 _ _ ((by exact Zc ⟨jL,jL,jL,jL,Za⟩ ⟨.inl R,.inl R,Za⟩ nL)) (J4 _ (vec [(i3 0),(i3 1)]) (Zd h15).symm)
 ·have h11:=Zo hc3 h10
  refine ZJ ?_
  exact wK3 _ _ ((by exact Zc ⟨jL,jL,Za⟩ ⟨.inl R,.inl R,Za⟩ nL)) (J1 _ (vec [(i3 0),(i3 1)]) (hx1 _ (Zd h11).symm))
theorem YIq {d1:GDoc} {id1:Int} {r:Int} (h:YFn d1 id1=some r):ARO Tryz.prog 16 [.agg [qf d1.Nodes],rI (id1)] (rI (r)):=by
 unfold YFn at h
 refine Zw Tryz.func16 R R Tryz.ntmps16 R (Ze R) fun n0=>?_
 refine aS fun _ hK1 _=>(aR (Zg R R R (ZR (cs:=[qf d1.Nodes]) 2 R iL R R) (sA R R (aZ (hK1 _ ?_)))))
 refine aS fun K2 hK2 wK2=>(aS fun _ hK3 _=>(aR (sQ R (fB R YBv iL fR R) (sQ R (Zb (a:=qf d1.Nodes) R YFh iL R R) (sQ R (ZA R YEg.slice iL) (sM R R (aZ (hK3 _ ?_))))))))
 refine Zp ?_
 refine jc1k h fun o1 hit1 hk1 he1=>?_
 have J1 : ∀ (u2:Unit) (i5:Nat→Nat),o1 = .nrm u2→K2 ⟨[],[],(i5 0),22⟩:=by
  intro u2 i5 e
  have h1:=hk1 _ e
  refine hK2 _ ?_
  refine aS fun _ hK4 _=>(aR (sA R R (aZ (hK4 _ ?_))))
  refine Zk ?_
  exact Y1_ h1 iL (.t (.d R))
 refine ZS (fun (x2:Int) i3=>⟨[(1,rI (id1)),(2,.ptr 2 n0 0 0),(8,rI ((d1.Nodes.length:Int))),(9,rI (x2))],[(2,some (.box n0 24 [qf d1.Nodes]))],(i3 0),22⟩) (vec [(n0+1)]) hit1 ((by exact Zc ⟨jL,jL,jL,jL,Za⟩ ⟨.inl R,Za⟩ nL)) ?_
 intro x2 i3 v1 hv1 hx1
 have h2:YFV d1 id1 x2=some v1:=hv1; unfold YFV at h2
 refine aS fun _ hK5 _=>(aR (sQ R (Zx R iL iL) (aZ (hK5 _ ?_))))
 refine aS fun _ hK6 _=>?_
 refine aC R (fun hc1=>?_) (fun hc1=>?_)
 ·have h3:=Zn hc1 h2
  refine Zi (hK6 _ ?_)
  refine aS fun _ hK7 _=>(Zp (aS fun _ hK8 _=>(aR (sM R R (sA R R (aZ (hK8 _ ?_)))))))
  refine aS fun _ hK9 _=>(aR (sQ R (fB R YBv iL fR R) (sQ R (Zb (a:=qf d1.Nodes) R YFh iL R R) (sM R R (Zj h3 fun x4 ex4 h4=>(sQ R (Zz R YEg.slice iL iL (fun _=>R) (fun _=>ex4)) (sQ R (Zy R YCX iL) (sQ R (ZN (d:=.int .i64 x4.ID) R ts_3 iL R) (sM R R (sQ R (Zs R iL iL) (aZ (hK9 _ ?_))))))))))))
  refine aC R (fun hc2=>?_) (fun hc2=>?_)
  ·have h5:=Zn hc2 h4
   refine aS fun _ hK10 _=>?_
   refine Zh (s':=⟨[(5,rI (x2))],[],(i3 0),22⟩) (by exact Zc ⟨jL,Za⟩ Za nL) ?_
   refine aR (sM R R (sA R R (aZ (hK10 _ ?_))))
   refine Zk ?_
   exact Y1_ (he1 _ (hx1 _ (Zd h5).symm)) iL (.t (.d R))
  ·have h5:=Zo hc2 h4
   refine Zi (hK7 _ ?_)
   refine Zh (s':=⟨[(1,rI (id1)),(2,.ptr 2 n0 0 0),(8,rI ((d1.Nodes.length:Int))),(9,rI (x2))],[(2,some (.box n0 24 [qf d1.Nodes]))],(i3 0),22⟩) (by exact Zc ⟨jL,jL,jL,jL,Za⟩ ⟨.inl R,Za⟩ nL) ?_
   refine aR (Zj h5 fun x5 ex5 h6=>(sQ R (ZI R iL iL (fun _=>ex5)) (sM R R ?_)))
   refine Zt ?_
   exact ZO h6 (vec [(i3 0)]) ((by exact Zc ⟨jL,jL,jL,jL,Za⟩ ⟨.inl R,Za⟩ nL))
 ·have h3:=Zo hc1 h2
  refine ZJ ?_
  exact wK2 _ _ ((by exact Zc Za Za nL)) (J1 _ (vec [(i3 0)]) (hx1 _ (Zd h3).symm))
theorem YKQ {parent1:Int} {kid1:Int} {r:Bool} (h:YD5 parent1 kid1=some r):ARO Tryz.prog 36 [rI (parent1),rI (kid1)] (rB (r)):=by
 unfold YD5 at h
 refine Zw Tryz.func36 R R Tryz.ntmps36 R (Ze R) fun n0=>?_
 refine aS fun _ hK1 _=>(aR (sA R R (aZ (hK1 _ ?_))))
 refine aS fun _ hK2 _=>(aS fun _ hK3 _=>(aR (sM R R (aZ (hK3 _ ?_)))))
 refine Zp (aS fun K4 hK4 wK4=>(aS fun _ hK5 _=>(aR (sQ R (Zs R iL iL) (sA R R (aZ (hK5 _ ?_)))))))
 refine jb1k h fun p1 hp1 hk1=>?_
 have J1 : ∀ (x1:Bool) (i1:Nat→Nat),p1=x1→K4 ⟨[(0,rI (parent1)),(5,rI (kid1)),(6,rB (x1))],[],(i1 0),51⟩:=by
  intro x1 i1 e
  have h1:=hk1 _ e
  refine hK4 _ ?_
  refine aC R (fun hc1=>?_) (fun hc1=>?_)
  ·have h2:=Zn hc1 h1
   refine aS fun _ hK6 _=>(aR (sM R R (sQ R (Zs R iL iL) (sA R R (aZ (hK6 _ ?_))))))
   refine Zk ?_
   exact Y2_ h2 iL (.t (.d R))
  ·have h2:=Zo hc1 h1
   refine aS fun _ hK7 _=>(aR (sQ R (Zs R iL iL) (sA R R (aZ (hK7 _ ?_)))))
   refine aC R (fun hc2=>?_) (fun hc2=>?_)
   ·have h3:=Zn hc2 h2
    refine aS fun _ hK8 _=>(aR (sM R R (sQ R (Zs R iL iL) (sM R R (sV R R R (Zf R iL) (sV R R R (Zs R (iR R) iL) (sQ R (ZC R iL (iR R)) (sM R R (sV R R R (Zf R iL) (sV R R R (Zs R (iR R) iL) (sQ R (ZC R iL (iR R)) (sA R R (aZ (hK8 _ ?_))))))))))))))
    refine Zk ?_
    exact Y2_ h3 iL (.t (.d R))
   ·have h3:=Zo hc2 h2
    refine aS fun _ hK9 _=>(aR (sQ R (Zs R iL iL) (sA R R (aZ (hK9 _ ?_)))))
    refine aC R (fun hc3=>?_) (fun hc3=>?_)
    ·have h4:=Zn hc3 h3
     refine aS fun _ hK10 _=>(aR (sM R R (sQ R (Zs R iL iL) (sA R R (aZ (hK10 _ ?_))))))
     refine Zk ?_
     exact Y2_ h4 iL (.t (.d R))
    ·have h4:=Zo hc3 h3
     refine aS fun _ hK11 _=>(aR (sQ R (Zs R iL iL) (sA R R (aZ (hK11 _ ?_)))))
     refine aC R (fun hc4=>?_) (fun hc4=>?_)
     ·have h5:=Zn hc4 h4
      refine aS fun _ hK12 _=>(aR (sM R R (sQ R (Zs R iL iL) (sM R R (sV R R R (Zf R iL) (sV R R R (Zs R (iR R) iL) (sQ R (ZC R iL (iR R)) (sA R R (aZ (hK12 _ ?_))))))))))
      refine Zk ?_
      exact Y2_ h5 iL (.t (.d R))
     ·have h5:=Zo hc4 h4
      refine aS fun _ hK13 _=>(aR (sQ R (Zs R iL iL) (sA R R (aZ (hK13 _ ?_)))))
      refine aC R (fun hc5=>?_) (fun hc5=>?_)
      ·have h6:=Zn hc5 h5
       refine aS fun _ hK14 _=>?_
       refine Zh (s':=⟨[(0,rI (parent1))],[],(i1 0),51⟩) (by exact Zc ⟨jL,Za⟩ Za nL) ?_
       refine aR (sM R R (Zj h6 fun r1 er1 h7=>(Zg R R R (Zq (r:=rB (r1)) (caps:=[]) (bs:=[rI (parent1)]) R iL R ⟨⟨_,iL,.d R⟩,Za⟩ (fun _=>YE2 (er1)) R) (sA R R (aZ (hK14 _ ?_))))))
       refine Zk ?_
       exact Y2_ h7 iL (.t (.d R))
      ·have h6:=Zo hc5 h5
       refine aS fun _ hK15 _=>?_
       refine Zh (s':=⟨[(0,rI (parent1)),(5,rI (kid1))],[],(i1 0),51⟩) (by exact Zc ⟨jL,jL,Za⟩ Za nL) ?_
       refine aR (sQ R (Zs R iL iL) (sA R R (aZ (hK15 _ ?_))))
       refine aC R (fun hc6=>?_) (fun hc6=>?_)
       ·have h8:=Zn hc6 h6
        refine aS fun _ hK16 _=>(aR (sM R R (sQ R (Zs R iL iL) (sA R R (aZ (hK16 _ ?_))))))
        refine Zk ?_
        exact Y2_ h8 iL (.t (.d R))
       ·have h8:=Zo hc6 h6
        refine aS fun K17 hK17 wK17=>(aS fun _ hK18 _=>(aR (sQ R (Zs R iL iL) (sA R R (aZ (hK18 _ ?_))))))
        refine jb1k h8 fun p2 hp2 hk2=>?_
        have J2 : ∀ (x2:Bool) (i2:Nat→Nat),p2=x2→K17 ⟨[(0,rI (parent1)),(46,rB (x2))],[],(i2 0),51⟩:=by
         intro x2 i2 e
         have h9:=hk2 _ e
         refine hK17 _ ?_
         refine aC R (fun hc7=>?_) (fun hc7=>?_)
         ·have h10:=Zn hc7 h9
          refine aS fun _ hK19 _=>(aR (sM R R (sQ R (Zs R iL iL) (sA R R (aZ (hK19 _ ?_))))))
          refine Zk ?_
          exact Y2_ h10 iL (.t (.d R))
         ·have h10:=Zo hc7 h9
          refine Zi (hK2 _ ?_)
          refine aS fun _ hK20 _=>(aR (sA R R (aZ (hK20 _ ?_))))
          refine Zk ?_
          exact Y2_ h10 iL (.t (.d R))
        refine aC R (fun hc8=>?_) (fun hc8=>?_)
        ·have h11:=Zn hc8 hp2
         refine Zi ?_
         exact wK17 _ _ ((by exact Zc ⟨jL,jL,Za⟩ Za nL)) (J2 _ (vec [(i1 0)]) (Zd h11).symm)
        ·have h11:=Zo hc8 hp2
         refine aR (sQ R (Zs R iL iL) (sA R R ?_))
         refine Zt ?_
         exact wK17 _ _ ((by exact Zc ⟨jL,jL,Za⟩ Za nL)) (J2 _ (vec [(i1 0)]) (Zd h11).symm)
 refine aC R (fun hc9=>?_) (fun hc9=>?_)
 ·have h12:=Zn hc9 hp1
  refine Zi ?_
  exact wK4 _ _ ((by exact Zc ⟨jL,jL,jL,Za⟩ Za nL)) (J1 _ (vec [n0]) (Zd h12).symm)
 ·have h12:=Zo hc9 hp1
  refine aS fun _ hK21 _=>(aR (sQ R (Zs R iL iL) (sA R R (aZ (hK21 _ ?_)))))
  refine aC R (fun hc10=>?_) (fun hc10=>?_)
  ·have h13:=Zn hc10 h12
   refine Zi ?_
   exact wK4 _ _ ((by exact Zc ⟨jL,jL,jL,Za⟩ Za nL)) (J1 _ (vec [n0]) (Zd h13).symm)
  ·have h13:=Zo hc10 h12
   refine aS fun _ hK22 _=>(aR (sQ R (Zs R iL iL) (sA R R (aZ (hK22 _ ?_)))))
   refine aC R (fun hc11=>?_) (fun hc11=>?_)
   ·have h14:=Zn hc11 h13
    refine Zi ?_
    exact wK4 _ _ ((by exact Zc ⟨jL,jL,jL,Za⟩ Za nL)) (J1 _ (vec [n0]) (Zd h14).symm)
   ·have h14:=Zo hc11 h13
    refine aS fun _ hK23 _=>(aR (sQ R (Zs R iL iL) (sA R R (aZ (hK23 _ ?_)))))
    refine aC R (fun hc12=>?_) (fun hc12=>?_)
    ·have h15:=Zn hc12 h14
     refine Zi ?_
     exact wK4 _ _ ((by exact Zc ⟨jL,jL,jL,Za⟩ Za nL)) (J1 _ (vec [n0]) (Zd h15).symm)
    ·have h15:=Zo hc12 h14
     refine aR (sQ R (Zs R iL iL) (sA R R ?_))
     refine Zt ?_
     exact wK4 _ _ ((by exact Zc ⟨jL,jL,jL,Za⟩ Za nL)) (J1 _ (vec [n0]) (Zd h15).symm)
theorem YKP {d1:GDoc} {kind1:Int} {YDv:List Int} {r:Int} (h:YD4 d1 kind1 YDv=some r):ARO Tryz.prog 80 [.agg [qf d1.Nodes],rI (kind1),.r (.sl (YDv.map (rInt .i64)))] (rI (r)):=by
 unfold YD4 at h
 refine Zw Tryz.func80 R R Tryz.ntmps80 R (Ze R) fun n0=>?_
 refine aS fun _ hK1 _=>(aR (Zg R R R (ZR (cs:=[qf d1.Nodes]) 3 R iL R R) (sA R R (aZ (hK1 _ ?_)))))
 refine aS fun K2 hK2 wK2=>(aS fun _ hK3 _=>(aR (sM R R (sQ R (ZA R YCD.slice iL) (sM R R (aZ (hK3 _ ?_)))))))
 refine Zp ?_
 refine jc1k h fun o1 hit1 hk1 he1=>?_
 have J1 : ∀ (u2:Unit) (i5:Nat→Nat),o1 = .nrm u2→K2 ⟨[],[],(i5 0),32⟩:=by
  intro u2 i5 e
  have h1:=hk1 _ e
  refine hK2 _ ?_
  refine aS fun _ hK4 _=>(aR (sA R R (aZ (hK4 _ ?_))))
  refine Zk ?_
  exact Y1_ h1 iL (.t (.d R))
 refine ZS (fun (x2:Int) i3=>⟨[(1,rI (kind1)),(2,.r (.sl (YDv.map (rInt .i64)))),(3,.ptr 3 n0 0 0),(10,rI ((YDv.length:Int))),(11,rI (x2))],[(3,some (.box n0 24 [qf d1.Nodes]))],(i3 0),32⟩) (vec [(n0+1)]) hit1 ((by exact Zc ⟨jL,jL,jL,jL,jL,Za⟩ ⟨.inl R,Za⟩ nL)) ?_
 intro x2 i3 v1 hv1 hx1
 have h2:YB0 d1 kind1 YDv x2=some v1:=hv1; unfold YB0 at h2
 refine aS fun _ hK5 _=>(aR (sQ R (Zx R iL iL) (aZ (hK5 _ ?_))))
 refine aS fun _ hK6 _=>?_
 refine aC R (fun hc1=>?_) (fun hc1=>?_)
 ·have h3:=Zn hc1 h2
  refine Zi (hK6 _ ?_)
  refine aS fun _ hK7 _=>(Zp (aS fun _ hK8 _=>(aR (sM R R (sA R R (aZ (hK8 _ ?_)))))))
  refine aS fun _ hK9 _=>?_
  refine ZW hmix (by kernel_rfl) ?_
  refine Zm R R R (ZF R YHy iL R R) (Zm R R R (Zf R iL) (Zm R R R (Zf R iL) (Zj h3 fun x4 ex4 h4=>(Zm R R R (Zz R YCD.slice iL iL (fun _=>R) (fun _=>ex4)) (Zm R R R (ZN (d:=.int .i64 x4) R ts_3 iL R) (Zj h4 fun k1 ek1 h5=>?_))))))
  refine AQ.stepC R R R (r:=rI (k1)) (caps:=[]) (bs:=[.agg [qf d1.Nodes],rI (x4)]) R iL R ⟨⟨_,iL,.g (cs:=[.sl (d1.Nodes.map YAP.row)]) R R⟩,⟨_,iL,.d R⟩,Za⟩ (fun _=>YIq (ek1)) R ?_
  refine Zm R R R (YCj R iL) ?_
  refine AQ.nil ?_
  refine hK9 _ ?_
  refine aS fun _ hK10 _=>(aS fun _ hK11 _=>?_)
  refine Zh (s':=⟨[(1,rI (kind1)),(2,.r (.sl (YDv.map (rInt .i64)))),(3,.ptr 3 n0 0 0),(8,rI (k1)),(10,rI ((YDv.length:Int))),(11,rI (x2))],[(3,some (.box n0 24 [qf d1.Nodes]))],(i3 0),32⟩) (by exact Zc ⟨jL,jL,jL,jL,jL,jL,Za⟩ ⟨.inl R,Za⟩ nL) ?_
  refine aR (sM R R (sQ R (Zx R iL iL) (aZ (hK11 _ ?_))))
  refine aC R (fun hc2=>?_) (fun hc2=>?_)
  ·have h6:=Zn hc2 h5
   refine aS fun _ hK12 _=>(aR (sA R R (aZ (hK12 _ ?_))))
   refine Zk ?_
   exact Y1_ (he1 _ (hx1 _ (Zd h6).symm)) iL (.t (.d R))
  ·have h6:=Zo hc2 h5
   refine Zi (hK10 _ ?_)
   refine aS fun _ hK13 _=>(aR (sM R R (sQ R (fB R YBv iL fR R) (sQ R (Zb (a:=qf d1.Nodes) R YFh iL R R) (sM R R (Zj h6 fun x5 ex5 h7=>(sQ R (Zz R YEg.slice iL iL (fun _=>R) (fun _=>ex5)) (sQ R (Zy R YBI iL) (sQ R (ZN (d:=.int .i64 x5.Kind) R ts_3 iL R) (Zj h7 fun r1 er1 h8=>(Zg R R R (Zq (r:=rB (r1)) (caps:=[]) (bs:=[rI (kind1),rI (x5.Kind)]) R iL R ⟨⟨_,iL,.d R⟩,⟨_,iL,.d R⟩,Za⟩ (fun _=>YKQ (er1)) R) (sQ R (ZQ R iL) (aZ (hK13 _ ?_))))))))))))))
   refine aC R (fun hc3=>?_) (fun hc3=>?_)
   ·have h9:=Zn hc3 h8
    refine aS fun _ hK14 _=>?_
    refine Zh (s':=⟨[],[],(i3 0),32⟩) (by exact Zc Za Za nL) ?_
    refine aR (sA R R (aZ (hK14 _ ?_)))
    refine Zk ?_
    exact Y1_ (he1 _ (hx1 _ (Zd h9).symm)) iL (.t (.d R))
   ·have h9:=Zo hc3 h8
    refine Zi (hK7 _ ?_)
    refine Zh (s':=⟨[(1,rI (kind1)),(2,.r (.sl (YDv.map (rInt .i64)))),(3,.ptr 3 n0 0 0),(10,rI ((YDv.length:Int))),(11,rI (x2))],[(3,some (.box n0 24 [qf d1.Nodes]))],(i3 0),32⟩) (by exact Zc ⟨jL,jL,jL,jL,jL,Za⟩ ⟨.inl R,Za⟩ nL) ?_
    refine aR (Zj h9 fun x6 ex6 h10=>(sQ R (ZI R iL iL (fun _=>ex6)) (sM R R ?_)))
    refine Zt ?_
    exact ZO h10 (vec [(i3 0)]) ((by exact Zc ⟨jL,jL,jL,jL,jL,Za⟩ ⟨.inl R,Za⟩ nL))
 ·have h3:=Zo hc1 h2
  refine ZJ ?_
  exact wK2 _ _ ((by exact Zc Za Za nL)) (J1 _ (vec [(i3 0)]) (hx1 _ (Zd h3).symm))
theorem YLh {d1:GDoc} {r:Int} (h:YEo d1=some r):ARO Tryz.prog 29 [.agg [qf d1.Nodes]] (rI (r)):=by
 unfold YEo at h
 refine Zw Tryz.func29 R R Tryz.ntmps29 R (Ze R) fun n0=>?_
 refine aS fun _ hK1 _=>(aR (Zg R R R (ZR (cs:=[qf d1.Nodes]) 1 R iL R R) (sA R R (aZ (hK1 _ ?_)))))
 refine aS fun _ hK2 _=>(aS fun _ hK3 _=>(aR (sQ R (fB R YBv iL fR R) (sQ R (Zb (a:=qf d1.Nodes) R YFh iL R R) (sQ R (ZA R YEg.slice iL) (sQ R (Zs R iL iL) (aZ (hK3 _ ?_))))))))
 refine aC R (fun hc1=>?_) (fun hc1=>?_)
 ·have h1:=Zn hc1 h
  refine aS fun _ hK4 _=>(aR (sA R R (aZ (hK4 _ ?_))))
  refine Zk ?_
  exact Y1_ h1 iL (.t (.d R))
 ·have h1:=Zo hc1 h
  refine Zi (hK2 _ ?_)
  refine aS fun K5 hK5 wK5=>(aS fun _ hK6 _=>(aR (sQ R (fB R YBv iL fR R) (sQ R (Zb (a:=qf d1.Nodes) R YFh iL R R) (sQ R (ZA R YEg.slice iL) (sM R R (aZ (hK6 _ ?_))))))))
  refine Zp ?_
  refine jc1k h1 fun o1 hit1 hk1 he1=>?_
  have J1 : ∀ (u2:Unit) (i5:Nat→Nat),o1 = .nrm u2→K5 ⟨[(1,.ptr 1 n0 0 0)],[(1,some (.box n0 24 [qf d1.Nodes]))],(i5 0),81⟩:=by
   intro u2 i5 e
   have h2:=hk1 _ e
   refine hK5 _ ?_
   refine aS fun K7 hK7 wK7=>(aS fun _ hK8 _=>(aR (sQ R (fB R YBv iL fR R) (sQ R (Zb (a:=qf d1.Nodes) R YFh iL R R) (sQ R (ZA R YEg.slice iL) (sM R R (aZ (hK8 _ ?_))))))))
   refine Zp ?_
   refine jc1k h2 fun o2 hit2 hk2 he2=>?_
   have J2 : ∀ (u4:Unit) (i10:Nat→Nat),o2 = .nrm u4→K7 ⟨[],[],(i10 0),81⟩:=by
    intro u4 i10 e
    have h3:=hk2 _ e
    refine hK7 _ ?_
    refine aS fun _ hK9 _=>(aR (sA R R (aZ (hK9 _ ?_))))
    refine Zk ?_
    exact Y1_ h3 iL (.t (.d R))
   refine ZS (fun (x5:Int) i8=>⟨[(1,.ptr 1 n0 0 0),(59,rI ((d1.Nodes.length:Int))),(60,rI (x5))],[(1,some (.box n0 24 [qf d1.Nodes]))],(i8 0),81⟩) (vec [(i5 0)]) hit2 ((by exact Zc ⟨jL,jL,jL,Za⟩ ⟨.inl R,Za⟩ nL)) ?_
   intro x5 i8 v1 hv1 hx2
   have h4:YBq d1 x5=some v1:=hv1; unfold YBq at h4
   refine aS fun _ hK10 _=>(aR (sQ R (Zx R iL iL) (aZ (hK10 _ ?_))))
   refine aS fun _ hK11 _=>?_
   refine aC R (fun hc2=>?_) (fun hc2=>?_)
   ·have h5:=Zn hc2 h4
    refine Zi (hK11 _ ?_)
    refine aS fun _ hK12 _=>(Zp (aS fun _ hK13 _=>(aR (sM R R (sA R R (aZ (hK13 _ ?_)))))))
    refine aS fun _ hK14 _=>(Zj h5 fun x7 ex7 h6=>(Zj h6 fun r1 er1 h7=>?_))
    refine AW.regionP 13 [⟨some 63,(fun _=>.agg [qf d1.Nodes]),none,[]⟩,⟨some 64,(fun _=>.ptr 1 n0 0 0),none,[]⟩,⟨some 65,(fun _=>qf d1.Nodes),none,[]⟩,⟨some 66,(fun _=>rI (x5)),none,[]⟩,⟨some 67,(fun _=>.rop (YAP.row x7) 0),none,[]⟩,⟨some 68,(fun _=>.rop (YAP.row x7) 1),none,[]⟩,⟨some 69,(fun _=>rI (x7.Kind)),none,[]⟩,⟨some 70,(fun _=>.ptr 1 n0 0 0),none,[]⟩,⟨some 71,(fun _=>qf d1.Nodes),none,[]⟩,⟨some 72,(fun _=>rI (x5)),none,[]⟩,⟨some 73,(fun _=>.rop (YAP.row x7) 0),none,[]⟩,⟨some 74,(fun _=>.agg (k7_ x7)),none,[]⟩,⟨some 75,(fun _=>.r (.sl (r1.map (rInt .i64)))),none,[]⟩] hmix (by kernel_rfl) (by exact ⟨fun _ _ h=>⟨R,fun _ _ e=>by cases e⟩,fun _ _ h=>⟨R,fun _ _ e=>by cases e⟩,fun _ _ h=>⟨R,fun _ _ e=>by cases e⟩,fun _ _ h=>⟨R,fun _ _ e=>by cases e⟩,fun _ _ h=>⟨R,fun _ _ e=>by cases e⟩,fun _ _ h=>⟨R,fun _ _ e=>by cases e⟩,fun _ _ h=>⟨R,fun _ _ e=>by cases e⟩,fun _ _ h=>⟨R,fun _ _ e=>by cases e⟩,fun _ _ h=>⟨R,fun _ _ e=>by cases e⟩,fun _ _ h=>⟨R,fun _ _ e=>by cases e⟩,fun _ _ h=>⟨R,fun _ _ e=>by cases e⟩,fun _ _ h=>⟨R,fun _ _ e=>by cases e⟩,fun _ _ h=>⟨R,fun _ _ e=>by cases e⟩,Za⟩) R (by exact ⟨Zu (n1:=fun n=>n) R R (by intro d h; cases h; rfl) R (fun _=>[(1,.ptr 1 n0 0 0)]) (fun _=>[(1,some (.box n0 24 [qf d1.Nodes]))]) (fun D G1 hr=>⟨ZU R R,Za⟩) (fun D G1 hr=>⟨ZG R R,Za⟩) (fun _ _=>R) (fun G1 e h' n=>Zv (v:=.agg [qf d1.Nodes]) (ZF R YHy (.inl R) R R) _),
      Zu (n1:=fun n=>n) R R (by intro d h; cases h; rfl) R (fun _=>[(1,.ptr 1 n0 0 0)]) (fun _=>[(1,some (.box n0 24 [qf d1.Nodes]))]) (fun D G1 hr=>⟨ZU R R,Za⟩) (fun D G1 hr=>⟨ZG R R,Za⟩) (fun _ _=>R) (fun G1 e h' n=>Zv (v:=.ptr 1 n0 0 0) (fB R YBv (.inl R) (fun _=>R) R) _),
      Zu (n1:=fun n=>n) R R (by intro d h; cases h; rfl) R (fun _=>[(64,.ptr 1 n0 0 0)]) (fun _=>[(1,some (.box n0 24 [qf d1.Nodes]))]) (fun D G1 hr=>⟨ZK hr 1 R R (by kernel_rfl) R R,Za⟩) (fun D G1 hr=>⟨ZG R R,Za⟩) (fun _ _=>R) (fun G1 e h' n=>Zv (v:=qf d1.Nodes) (Zb (a:=qf d1.Nodes) R YFh (.inl R) R R) _),
      Zu (n1:=fun n=>n) R R (by intro d h; cases h; rfl) R (fun _=>[(5,rI (x5))]) (fun _=>[]) (fun D G1 hr=>⟨ZU R R,Za⟩) (fun D G1 hr=>Za) (fun _ _=>R) (fun G1 e h' n=>Zv (v:=rI (x5)) (Zf R (.inl R)) _),
      Zu (n1:=fun n=>n) R R (by intro d h; cases h; rfl) R (fun _=>[(65,qf d1.Nodes),(66,rI (x5))]) (fun _=>[]) (fun D G1 hr=>⟨ZK hr 2 R R (by kernel_rfl) R R,ZK hr 3 R R (by kernel_rfl) R R,Za⟩) (fun D G1 hr=>Za) (fun _ _=>R) (fun G1 e h' n=>Zv (v:=.rop (YAP.row x7) 0) (Zz R YEg.slice (.inl R) (.inl R) (fun _=>R) (fun _=>ex7)) _),
      Zu (n1:=fun n=>n) R R (by intro d h; cases h; rfl) R (fun _=>[(67,.rop (YAP.row x7) 0)]) (fun _=>[]) (fun D G1 hr=>⟨ZK hr 4 R R (by kernel_rfl) R R,Za⟩) (fun D G1 hr=>Za) (fun _ _=>R) (fun G1 e h' n=>Zv (v:=.rop (YAP.row x7) 1) (Zy R YBI (.inl R)) _),
      Zu (n1:=fun n=>n) R R (by intro d h; cases h; rfl) R (fun _=>[(68,.rop (YAP.row x7) 1)]) (fun _=>[]) (fun D G1 hr=>⟨ZK hr 5 R R (by kernel_rfl) R R,Za⟩) (fun D G1 hr=>Za) (fun _ _=>R) (fun G1 e h' n=>Zv (v:=rI (x7.Kind)) (ZN (d:=.int .i64 x7.Kind) R ts_3 (.inl R) R) _),
      Zu (n1:=fun n=>n) R R (by intro d h; cases h; rfl) R (fun _=>[(1,.ptr 1 n0 0 0)]) (fun _=>[(1,some (.box n0 24 [qf d1.Nodes]))]) (fun D G1 hr=>⟨ZU R R,Za⟩) (fun D G1 hr=>⟨ZG R R,Za⟩) (fun _ _=>R) (fun G1 e h' n=>Zv (v:=.ptr 1 n0 0 0) (fB R YBv (.inl R) (fun _=>R) R) _),
      Zu (n1:=fun n=>n) R R (by intro d h; cases h; rfl) R (fun _=>[(70,.ptr 1 n0 0 0)]) (fun _=>[(1,some (.box n0 24 [qf d1.Nodes]))]) (fun D G1 hr=>⟨ZK hr 7 R R (by kernel_rfl) R R,Za⟩) (fun D G1 hr=>⟨ZG R R,Za⟩) (fun _ _=>R) (fun G1 e h' n=>Zv (v:=qf d1.Nodes) (Zb (a:=qf d1.Nodes) R YFh (.inl R) R R) _),
      Zu (n1:=fun n=>n) R R (by intro d h; cases h; rfl) R (fun _=>[(5,rI (x5))]) (fun _=>[]) (fun D G1 hr=>⟨ZU R R,Za⟩) (fun D G1 hr=>Za) (fun _ _=>R) (fun G1 e h' n=>Zv (v:=rI (x5)) (Zf R (.inl R)) _),
      Zu (n1:=fun n=>n) R R (by intro d h; cases h; rfl) R (fun _=>[(71,qf d1.Nodes),(72,rI (x5))]) (fun _=>[]) (fun D G1 hr=>⟨ZK hr 8 R R (by kernel_rfl) R R,ZK hr 9 R R (by kernel_rfl) R R,Za⟩) (fun D G1 hr=>Za) (fun _ _=>R) (fun G1 e h' n=>Zv (v:=.rop (YAP.row x7) 0) (Zz R YEg.slice (.inl R) (.inl R) (fun _=>R) (fun _=>ex7)) _),
      Zu (n1:=fun n=>n) R R (by intro d h; cases h; rfl) R (fun _=>[(73,.rop (YAP.row x7) 0)]) (fun _=>[]) (fun D G1 hr=>⟨ZK hr 10 R R (by kernel_rfl) R R,Za⟩) (fun D G1 hr=>Za) (fun _ _=>R) (fun G1 e h' n=>Zv (v:=.agg (k7_ x7)) (ZM (cs:=(k7_ x7)) R YJq (.inl R) R R) _),
      Zu (n1:=fun n=>n) R R (by intro d h; cases h; rfl) R (fun _=>[(74,.agg (k7_ x7))]) (fun _=>[]) (fun D G1 hr=>⟨ZK hr 11 R R (by kernel_rfl) R R,Za⟩) (fun D G1 hr=>Za) (fun _ _=>R) (fun G1 e h' n=>YCZ (r:=.r (.sl (r1.map (rInt .i64)))) (caps:=[]) (bs:=(k5_ x7)) R (.inl R) R ⟨.inl ⟨(.inl R),R⟩,Za⟩ (fun _=>YNe (er1))),
      Za⟩) fun G1 n1=>?_
    refine ZT (s':=⟨[(1,.ptr 1 n0 0 0),(5,rI (x5)),(59,rI ((d1.Nodes.length:Int))),(60,rI (x5)),(61,rB ((decide (x5<(d1.Nodes.length:Int))))),(62,rI (x5)),(63,.agg [qf d1.Nodes]),(64,.ptr 1 n0 0 0),(65,qf d1.Nodes),(66,rI (x5)),(67,.rop (YAP.row x7) 0),(68,.rop (YAP.row x7) 1),(69,rI (x7.Kind)),(70,.ptr 1 n0 0 0),(71,qf d1.Nodes),(72,rI (x5)),(73,.rop (YAP.row x7) 0),(74,.agg (k7_ x7)),(75,.r (.sl (r1.map (rInt .i64))))],[(1,some (.box n0 24 [qf d1.Nodes]))],n1,81⟩) (by exact Zc ⟨jL,jL,jL,jL,jL,jL,jL,jL,jL,jL,jL,jL,jL,jL,jL,jL,jL,jL,jL,Za⟩ ⟨.inl R,Za⟩ nL) ?_
    refine Zj h7 fun e1 ee1 h8=>(Zg R R R (Zq (r:=rI (e1)) (caps:=[]) (bs:=[.agg [qf d1.Nodes],rI (x7.Kind),.r (.sl (r1.map (rInt .i64)))]) R iL R ⟨⟨_,iL,.g (cs:=[.sl (d1.Nodes.map YAP.row)]) R R⟩,⟨_,iL,.d R⟩,⟨_,iL,.d R⟩,Za⟩ (fun _=>YKP (ee1)) R) (sA R R (aZ (hK14 _ ?_))))
    refine aS fun _ hK15 _=>?_
    refine Zh (s':=⟨[(1,.ptr 1 n0 0 0),(6,rI (e1)),(59,rI ((d1.Nodes.length:Int))),(60,rI (x5))],[(1,some (.box n0 24 [qf d1.Nodes]))],n1,81⟩) (by exact Zc ⟨jL,jL,jL,jL,Za⟩ ⟨.inl R,Za⟩ nL) ?_
    refine aR (sM R R (sQ R (ZH R iL iL) (aZ (hK15 _ ?_))))
    refine aC R (fun hc3=>?_) (fun hc3=>?_)
    ·have h9:=Zn hc3 h8
     refine aS fun _ hK16 _=>(aR (sM R R (sA R R (aZ (hK16 _ ?_)))))
     refine Zk ?_
     exact Y1_ (he2 _ (hx2 _ (Zd h9).symm)) iL (.t (.d R))
    ·have h9:=Zo hc3 h8
     refine Zi (hK12 _ ?_)
     refine aR (Zj h9 fun x8 ex8 h10=>(sQ R (ZI R iL iL (fun _=>ex8)) (sM R R ?_)))
     refine Zt ?_
     exact ZO h10 (vec [n1]) ((by exact Zc ⟨jL,jL,jL,Za⟩ ⟨.inl R,Za⟩ nL))
   ·have h5:=Zo hc2 h4
    refine ZJ ?_
    exact wK7 _ _ ((by exact Zc Za Za nL)) (J2 _ (vec [(i8 0)]) (hx2 _ (Zd h5).symm))
  refine ZS (fun (x2:Int) i3=>⟨[(1,.ptr 1 n0 0 0),(13,rI ((d1.Nodes.length:Int))),(14,rI (x2))],[(1,some (.box n0 24 [qf d1.Nodes]))],(i3 0),81⟩) (vec [(n0+1)]) hit1 ((by exact Zc ⟨jL,jL,jL,Za⟩ ⟨.inl R,Za⟩ nL)) ?_
  intro x2 i3 v2 hv2 hx1
  have h11:YCO d1 x2=some v2:=hv2; unfold YCO at h11
  refine aS fun _ hK17 _=>(aR (sQ R (Zx R iL iL) (aZ (hK17 _ ?_))))
  refine aS fun _ hK18 _=>?_
  refine aC R (fun hc4=>?_) (fun hc4=>?_)
  ·have h12:=Zn hc4 h11
   refine Zi (hK18 _ ?_)
   refine aS fun _ hK19 _=>(Zp (aS fun _ hK20 _=>(aR (sM R R (sA R R (aZ (hK20 _ ?_)))))))
   refine aS fun _ hK21 _=>(aS fun _ hK22 _=>(aR (sQ R (fB R YBv iL fR R) (sQ R (Zb (a:=qf d1.Nodes) R YFh iL R R) (sM R R (Zj h12 fun x9 ex9 h13=>(sQ R (Zz R YEg.slice iL iL (fun _=>R) (fun _=>ex9)) (sQ R (ZM (cs:=(k7_ x9)) R YJq iL R R) (Zj h13 fun e2 ee2 h14=>(Zg R R R (Zq (r:=rI (e2)) (caps:=[]) (bs:=(k5_ x9)) R iL R ⟨⟨_,iL,.g (cs:=[.int .i64 x9.ID,.int .i64 x9.Kind,.sl (x9.Attrs.map YAG.row),.sl (x9.Flow.map YAC.row),.int .i64 x9.Grid.Rows,.int .i64 x9.Grid.Cols,.sl (x9.Grid.Cells.map YAY.row),.sl (x9.Grid.Merges.map YAX.row),.sl (x9.Draw.map YAN.row)]) R R⟩,Za⟩ (fun _=>YKR (ee2)) R) (sA R R (aZ (hK22 _ ?_)))))))))))))
   refine aS fun _ hK23 _=>(aR (sM R R (sQ R (ZH R iL iL) (aZ (hK23 _ ?_)))))
   refine aC R (fun hc5=>?_) (fun hc5=>?_)
   ·have h15:=Zn hc5 h14
    refine aS fun _ hK24 _=>?_
    refine Zh (s':=⟨[(4,rI (e2))],[],(i3 0),81⟩) (by exact Zc ⟨jL,Za⟩ Za nL) ?_
    refine aR (sM R R (sA R R (aZ (hK24 _ ?_))))
    refine Zk ?_
    exact Y1_ (he1 _ (hx1 _ (Zd h15).symm)) iL (.t (.d R))
   ·have h15:=Zo hc5 h14
    refine Zi (hK21 _ ?_)
    refine aS fun _ hK25 _=>?_
    refine Zh (s':=⟨[(1,.ptr 1 n0 0 0),(3,rI (x2)),(13,rI ((d1.Nodes.length:Int))),(14,rI (x2))],[(1,some (.box n0 24 [qf d1.Nodes]))],(i3 0),81⟩) (by exact Zc ⟨jL,jL,jL,jL,Za⟩ ⟨.inl R,Za⟩ nL) ?_
    refine ZW hmix (by kernel_rfl) ?_
    refine Zm R R R (Zf R iL) (Zm R R R (Zs R iL iL) (Zm R R R (Zf R iL) ?_))
    refine Zl (.one R R R) R R (fB R YBv iL fR R) ?_
    refine Zl (.one R R R) R R (Zb (a:=qf d1.Nodes) R YFh (iR R) R R) ?_
    refine Zj h15 fun x10 ex10 h16=>?_
    refine Zl (.one R R R) R R (Zz R YEg.slice (iR R) iL (fun _=>R) (gdt ex10)) ?_
    refine Zl (.one R R R) R R (Zy R YCX (iR R)) ?_
    refine Zl (.one R R R) R R (ZN (d:=.int .i64 x10.ID) R ts_3 (iR R) R) ?_
    refine Zl (.one R R R) R R (ZH R (iR R) iL) ?_
    refine Zm R R R (Zr R iL (iR R)) (Zm R R R (Zf R iL) ?_)
    refine Zl (.one R R R) R R (Zf R iL) ?_
    refine Zl (.one R R R) R R (ZV R (iR R) iL) ?_
    refine Zl (.one R R R) R R (Zf R (iR R)) ?_
    refine Zl (.two R R R) R R (fB R YBv iL fR R) ?_
    refine Zl (.two R R R) R R (Zb (a:=qf d1.Nodes) R YFh (iR R) R R) ?_
    refine Zl (.two R R R) R R (Zf R iL) ?_
    refine Zl (.two R R R) R R (Zz R YEg.slice (iR R) (iR R) (fun _=>R) (fun _=>ex9)) ?_
    refine Zl (.two R R R) R R (Zy R YCX (iR R)) ?_
    refine Zl (.two R R R) R R (ZN (d:=.int .i64 x9.ID) R ts_3 (iR R) R) ?_
    refine Zl (.two R R R) R R (fB R YBv iL fR R) ?_
    refine Zl (.two R R R) R R (Zb (a:=qf d1.Nodes) R YFh (iR R) R R) ?_
    refine Zl (.two R R R) R R (Zf R iL) ?_
    refine Zj h16 fun x11 ex11 h17=>?_
    refine Zl (.two R R R) R R (YBf R (iR R) iL (gdt ex11)) ?_
    refine Zj h17 fun x12 ex12 h18=>?_
    refine Zl (.two R R R) R R (Zz R YEg.slice (iR R) (iR R) (fun _=>R) (gdt ex12)) ?_
    refine Zl (.two R R R) R R (Zy R YCX (iR R)) ?_
    refine Zl (.two R R R) R R (ZN (d:=.int .i64 x12.ID) R ts_3 (iR R) R) ?_
    refine Zl (.two R R R) R R (YEP R (iR R) (iR R)) ?_
    refine Zl (.one R R R) R R (Zr R (iR R) (iR R)) ?_
    refine Zm R R R (ZC R iL (iR R)) ?_
    refine AQ.nil ?_
    refine hK25 _ ?_
    refine aC R (fun hc6=>?_) (fun hc6=>?_)
    ·have h19:=Zn hc6 h18
     refine aS fun _ hK26 _=>?_
     refine Zh (s':=⟨[],[],(i3 0),81⟩) (by exact Zc Za Za nL) ?_
     refine aR (sA R R (aZ (hK26 _ ?_)))
     refine Zk ?_
     exact Y1_ (he1 _ (hx1 _ (Zd h19).symm)) iL (.t (.d R))
    ·have h19:=Zo hc6 h18
     refine Zi (hK19 _ ?_)
     refine aR (Zj h19 fun x13 ex13 h20=>(sQ R (ZI R iL iL (fun _=>ex13)) (sM R R ?_)))
     refine Zt ?_
     exact ZO h20 (vec [(i3 0)]) ((by exact Zc ⟨jL,jL,jL,Za⟩ ⟨.inl R,Za⟩ nL))
  ·have h12:=Zo hc4 h11
   refine ZJ ?_
   exact wK5 _ _ ((by exact Zc ⟨jL,Za⟩ ⟨.inl R,Za⟩ nL)) (J1 _ (vec [(i3 0)]) (hx1 _ (Zd h12).symm))
theorem YRm {l1:List YAG} {name1:List UInt8} {r:(List UInt8)} (h:YK6 l1 name1=some r):ARO Tryz.prog 59 [qa l1,.r (.str name1)] (.r (.str r)):=by
 unfold YK6 at h
 refine Zw Tryz.func59 R R Tryz.ntmps59 R (Ze R) fun n0=>?_
 refine aS fun _ hK1 _=>(aR (sA R R (aZ (hK1 _ ?_))))
 refine aS fun K2 hK2 wK2=>(aS fun _ hK3 _=>(aR (sM R R (sQ R (ZA R YDI.slice iL) (sM R R (aZ (hK3 _ ?_)))))))
 refine Zp ?_
 refine jc1k h fun o1 hit1 hk1 he1=>?_
 have J1 : ∀ (u2:Unit) (i5:Nat→Nat),o1 = .nrm u2→K2 ⟨[],[],(i5 0),24⟩:=by
  intro u2 i5 e
  have h1:=hk1 _ e
  refine hK2 _ ?_
  refine aS fun _ hK4 _=>(aR (sA R R (aZ (hK4 _ ?_))))
  refine Zk ?_
  exact YIw (P:=Tryz.prog) (fun (r:(List UInt8))=>.r (.str r)) h1 iL (.t (.d R))
 refine ZS (fun (x2:Int) i3=>⟨[(0,qa l1),(1,.r (.str name1)),(7,rI ((l1.length:Int))),(8,rI (x2))],[],(i3 0),24⟩) (vec [n0]) hit1 ((by exact Zc ⟨jL,jL,jL,jL,Za⟩ Za nL)) ?_
 intro x2 i3 v1 hv1 hx1
 have h2:YF5 l1 name1 x2=some v1:=hv1; unfold YF5 at h2
 refine aS fun _ hK5 _=>(aR (sQ R (Zx R iL iL) (aZ (hK5 _ ?_))))
 refine aS fun _ hK6 _=>?_
 refine aC R (fun hc1=>?_) (fun hc1=>?_)
 ·have h3:=Zn hc1 h2
  refine Zi (hK6 _ ?_)
  refine aS fun _ hK7 _=>(Zp (aS fun _ hK8 _=>(aR (sM R R (sA R R (aZ (hK8 _ ?_)))))))
  refine aS fun _ hK9 _=>(aR (sM R R (sM R R (Zj h3 fun x4 ex4 h4=>(sQ R (Zz R YDI.slice iL iL (fun _=>R) (fun _=>ex4)) (sQ R (Zy R YGM iL) (sQ R (ZN (d:=.str x4.Name) R ts_9 iL R) (sM R R (sQ R (YET R iL iL) (aZ (hK9 _ ?_)))))))))))
  refine aC R (fun hc2=>?_) (fun hc2=>?_)
  ·have h5:=Zn hc2 h4
   refine aS fun _ hK10 _=>?_
   refine Zh (s':=⟨[(0,qa l1),(5,rI (x2))],[],(i3 0),24⟩) (by exact Zc ⟨jL,jL,Za⟩ Za nL) ?_
   refine aR (sM R R (sM R R (sQ R (Zz R YDI.slice iL iL (fun _=>R) (fun _=>ex4)) (sQ R (Zy R YIt iL) (sQ R (ZN (d:=.str x4.Value) R ts_9 iL R) (sA R R (aZ (hK10 _ ?_))))))))
   refine Zk ?_
   exact YIw (P:=Tryz.prog) (fun (r:(List UInt8))=>.r (.str r)) (he1 _ (hx1 _ (Zd h5).symm)) iL (.t (.d R))
  ·have h5:=Zo hc2 h4
   refine Zi (hK7 _ ?_)
   refine Zh (s':=⟨[(0,qa l1),(1,.r (.str name1)),(7,rI ((l1.length:Int))),(8,rI (x2))],[],(i3 0),24⟩) (by exact Zc ⟨jL,jL,jL,jL,Za⟩ Za nL) ?_
   refine aR (Zj h5 fun x5 ex5 h6=>(sQ R (ZI R iL iL (fun _=>ex5)) (sM R R ?_)))
   refine Zt ?_
   exact ZO h6 (vec [(i3 0)]) ((by exact Zc ⟨jL,jL,jL,jL,Za⟩ Za nL))
 ·have h3:=Zo hc1 h2
  refine ZJ ?_
  exact wK2 _ _ ((by exact Zc Za Za nL)) (J1 _ (vec [(i3 0)]) (hx1 _ (Zd h3).symm))
theorem YNf {l1:List YAG} {name1:List UInt8} {r:Bool} (h:YIx l1 name1=some r):ARO Tryz.prog 77 [qa l1,.r (.str name1)] (rB (r)):=by
 unfold YIx at h
 refine Zw Tryz.func77 R R Tryz.ntmps77 R (Ze R) fun n0=>?_
 refine aS fun _ hK1 _=>(aR (sA R R (aZ (hK1 _ ?_))))
 refine aS fun K2 hK2 wK2=>(aS fun _ hK3 _=>(aR (sM R R (sQ R (ZA R YDI.slice iL) (sM R R (aZ (hK3 _ ?_)))))))
 refine Zp ?_
 refine jc1k h fun o1 hit1 hk1 he1=>?_
 have J1 : ∀ (u2:Unit) (i5:Nat→Nat),o1 = .nrm u2→K2 ⟨[],[],(i5 0),19⟩:=by
  intro u2 i5 e
  have h1:=hk1 _ e
  refine hK2 _ ?_
  refine aS fun _ hK4 _=>(aR (sA R R (aZ (hK4 _ ?_))))
  refine Zk ?_
  exact Y2_ h1 iL (.t (.d R))
 refine ZS (fun (x2:Int) i3=>⟨[(0,qa l1),(1,.r (.str name1)),(7,rI ((l1.length:Int))),(8,rI (x2))],[],(i3 0),19⟩) (vec [n0]) hit1 ((by exact Zc ⟨jL,jL,jL,jL,Za⟩ Za nL)) ?_
 intro x2 i3 v1 hv1 hx1
 have h2:YF4 l1 name1 x2=some v1:=hv1; unfold YF4 at h2
 refine aS fun _ hK5 _=>(aR (sQ R (Zx R iL iL) (aZ (hK5 _ ?_))))
 refine aS fun _ hK6 _=>?_
 refine aC R (fun hc1=>?_) (fun hc1=>?_)
 ·have h3:=Zn hc1 h2
  refine Zi (hK6 _ ?_)
  refine aS fun _ hK7 _=>(Zp (aS fun _ hK8 _=>(aR (sM R R (sA R R (aZ (hK8 _ ?_)))))))
  refine aS fun _ hK9 _=>(aR (sM R R (sM R R (Zj h3 fun x4 ex4 h4=>(sQ R (Zz R YDI.slice iL iL (fun _=>R) (fun _=>ex4)) (sQ R (Zy R YGM iL) (sQ R (ZN (d:=.str x4.Name) R ts_9 iL R) (sM R R (sQ R (YET R iL iL) (aZ (hK9 _ ?_)))))))))))
  refine aC R (fun hc2=>?_) (fun hc2=>?_)
  ·have h5:=Zn hc2 h4
   refine aS fun _ hK10 _=>?_
   refine Zh (s':=⟨[],[],(i3 0),19⟩) (by exact Zc Za Za nL) ?_
   refine aR (sA R R (aZ (hK10 _ ?_)))
   refine Zk ?_
   exact Y2_ (he1 _ (hx1 _ (Zd h5).symm)) iL (.t (.d R))
  ·have h5:=Zo hc2 h4
   refine Zi (hK7 _ ?_)
   refine Zh (s':=⟨[(0,qa l1),(1,.r (.str name1)),(7,rI ((l1.length:Int))),(8,rI (x2))],[],(i3 0),19⟩) (by exact Zc ⟨jL,jL,jL,jL,Za⟩ Za nL) ?_
   refine aR (Zj h5 fun x5 ex5 h6=>(sQ R (ZI R iL iL (fun _=>ex5)) (sM R R ?_)))
   refine Zt ?_
   exact ZO h6 (vec [(i3 0)]) ((by exact Zc ⟨jL,jL,jL,jL,Za⟩ Za nL))
 ·have h3:=Zo hc1 h2
  refine ZJ ?_
  exact wK2 _ _ ((by exact Zc Za Za nL)) (J1 _ (vec [(i3 0)]) (hx1 _ (Zd h3).symm))
theorem YKN {f1:List YAC} {mode1:Int} {r:(List Int)} (h:YFT f1 mode1=some r):ARO Tryz.prog 27 [qb f1,rI (mode1)] (.r (.sl (r.map (rInt .i64)))):=by
 unfold YFT at h
 refine Zw Tryz.func27 R R Tryz.ntmps27 R (Ze R) fun n0=>?_
 refine aS fun _ hK1 _=>(aR (sA R R (aZ (hK1 _ ?_))))
 refine aS fun _ hK2 _=>(aR (sA R R (aZ (hK2 _ ?_))))
 refine aS fun K3 hK3 wK3=>(aS fun _ hK4 _=>(aR (sM R R (sQ R (ZA R YBN.slice iL) (sM R R (aZ (hK4 _ ?_)))))))
 refine Zp ?_
 refine jb1k h fun o1 hit1 hk1=>?_
 have J1 : ∀ (out4:List Int) (i5:Nat→Nat),o1=out4→K3 ⟨[(5,.own 5005 (i5 0))],[(5005,some (.arr (i5 0) 3 1 (out4.map (rInt .i64))))],(i5 1),58⟩:=by
  intro out4 i5 e
  have h1:=hk1 _ e
  refine hK3 _ ?_
  refine aS fun _ hK5 _=>(aR (sM R R (sA R R (aZ (hK5 _ ?_)))))
  refine Zk ?_
  exact YIw (P:=Tryz.prog) (fun (r:(List Int))=>.r (.sl (r.map (rInt .i64)))) h1 iL (.t (.one (.own R)))
 refine AW.iter2 (fun (x2:Int) (out2:List Int) i3=>⟨[(0,qb f1),(1,rI (mode1)),(5,.own 5005 (i3 0)),(10,rI ((f1.length:Int))),(11,rI (x2))],[(5005,some (.arr (i3 0) 3 1 (out2.map (rInt .i64))))],(i3 1),58⟩) (vec [n0,(n0+1)]) hit1 (ZP (ZP (Weak.adopt 5 5005 3 1 (by decide) R) (by exact Zc (e':=[(0,qb f1),(1,rI (mode1)),(4,.cst (.slice none 0 0)),(5,.own 5005 n0),(9,qb f1),(10,rI ((f1.length:Int))),(11,rI (0))]) (h':=[(5005,some (.arr n0 3 1 (([]:List Int).map (rInt .i64))))]) ⟨jL,jL,jL,jL,jL,jL,jL,Za⟩ ⟨.inl R,Za⟩ nL)) (by exact Zc ⟨jL,jL,jL,jL,jL,Za⟩ ⟨.inl R,Za⟩ nL)) ?_
 intro x2 out2 i3 v1 hv1 hx1
 have h2:YDl f1 mode1 x2 out2=some v1:=hv1; unfold YDl at h2
 refine aS fun _ hK6 _=>(aR (sQ R (Zx R iL iL) (aZ (hK6 _ ?_))))
 refine aS fun _ hK7 _=>?_
 refine aC R (fun hc1=>?_) (fun hc1=>?_)
 ·have h3:=Zn hc1 h2
  refine Zi (hK7 _ ?_)
  refine aS fun K8 hK8 wK8=>(Zp ?_)
  refine jb1k h3 fun p1 hp1 hk2=>?_
  have J2 : ∀ (out5:List Int) (i6:Nat→Nat),p1=out5→K8 ⟨[(0,qb f1),(1,rI (mode1)),(5,.own 5005 (i6 0)),(10,rI ((f1.length:Int))),(11,rI (x2))],[(5005,some (.arr (i6 0) 3 1 (out5.map (rInt .i64))))],(i6 1),58⟩:=by
   intro out5 i6 e
   have h4:=hk2 _ e
   refine hK8 _ ?_
   refine aR (Zj h4 fun x4 ex4 h5=>(sQ R (ZI R iL iL (fun _=>ex4)) (sM R R ?_)))
   refine Zt ?_
   exact YEQ.mk h5 (vec [(i6 0),(i6 1)]) ((by exact Zc ⟨jL,jL,jL,jL,jL,Za⟩ ⟨.inl R,Za⟩ nL))
  refine aS fun _ hK9 _=>(aR (sM R R (sA R R (aZ (hK9 _ ?_)))))
  refine aS fun _ hK10 _=>(aR (sM R R (sM R R (Zj hp1 fun x5 ex5 h6=>(sQ R (Zz R YBN.slice iL iL (fun _=>R) (fun _=>ex5)) (sQ R (Zy R YGN iL) (sQ R (ZN (d:=.sl (x5.Attrs.map YAG.row)) R YCi iL R) (sA R R (aZ (hK10 _ ?_))))))))))
  refine aS fun _ hK11 _=>(aR (sM R R (Zj h6 fun r1 er1 h7=>(Zg R R R (Zq (r:=.r (.str r1)) (caps:=[]) (bs:=[qa x5.Attrs,.r (.str [104,105,100,100,101,110])]) R iL R ⟨⟨_,iL,.d R⟩,⟨_,iL,.d R⟩,Za⟩ (fun _=>YRm (er1)) R) (sQ R (YCz R iL iL) (sA R R (aZ (hK11 _ ?_))))))))
  refine aS fun K12 hK12 wK12=>(aS fun _ hK13 _=>?_)
  refine Zh (s':=⟨[(0,qb f1),(1,rI (mode1)),(5,.own 5005 (i3 0)),(6,rI (x2)),(7,qa x5.Attrs),(8,rB ((!decide (r1=[111,110])))),(10,rI ((f1.length:Int))),(11,rI (x2))],[(5005,some (.arr (i3 0) 3 1 (out2.map (rInt .i64))))],(i3 1),58⟩) (by exact Zc ⟨jL,jL,jL,jL,jL,jL,jL,jL,Za⟩ ⟨.inl R,Za⟩ nL) ?_
  refine aR (sM R R (sQ R (Zs R iL iL) (sM R R (sV R R R (Zf R iL) (Zj h7 fun r2 er2 h8=>?_)))))
  refine ZE (.one R R R) R R (Zq (r:=rB (r2)) (caps:=[]) (bs:=[qa x5.Attrs,.r (.str [99,117,116])]) R iL R ⟨⟨_,(iR R),.d R⟩,⟨_,iL,.d R⟩,Za⟩ (fun hg=>YNf (gdt er2 hg)) R) ?_
  refine sQ R (Zr R iL (iR R)) (sM R R (sV R R R (Zf R iL) (sV R R R (Zs R (iR R) iL) (sV R R R (Zf R (iR R)) ?_))))
  refine sW (.two R R R) R (Zf R iL) ?_
  refine Zj h8 fun r3 er3 h9=>?_
  refine ZE (.two R R R) R R (Zq (r:=rB (r3)) (caps:=[]) (bs:=[qa x5.Attrs,.r (.str [97,100,100])]) R iL R ⟨⟨_,(iR R),.d R⟩,⟨_,iL,.d R⟩,Za⟩ (fun hg=>YNf (gdt er3 hg)) R) ?_
  refine sV R R R (Zr R (iR R) (iR R)) (sQ R (ZC R iL (iR R)) (aZ (hK13 _ ?_)))
  refine jb1k h9 fun p2 hp2 hk3=>?_
  have J3 : ∀ (show1:Bool) (i7:Nat→Nat),p2=show1→K12 ⟨[(0,qb f1),(1,rI (mode1)),(5,.own 5005 (i3 0)),(6,rI (x2)),(8,rB (show1)),(10,rI ((f1.length:Int))),(11,rI (x2))],[(5005,some (.arr (i3 0) 3 1 (out2.map (rInt .i64))))],(i7 0),58⟩:=by
   intro show1 i7 e
   have h10:=hk3 _ e
   refine hK12 _ ?_
   refine aS fun _ hK14 _=>(aR (sM R R (sM R R (sV R R R (Zf R iL) (sV R R R (Zf R iL) (sV R R R (ZA R YBN.slice (iR R)) (Zj h10 fun x6 ex6 h11=>(sV R R R (YBf R (iR R) iL (gdt ex6)) (sV R R R (Zs R (iR R) (iR R)) (sV R R R (Zf R (iR R)) ?_))))))))))
   refine sW (.two R R R) R (Zf R iL) ?_
   refine sW (.two R R R) R (Zf R iL) ?_
   refine sW (.two R R R) R (Zz R YBN.slice (iR R) (iR R) (fun _=>R) (fun _=>ex5)) ?_
   refine sW (.two R R R) R (Zy R YDT (iR R)) ?_
   refine sW (.two R R R) R (ZN (d:=.int .i64 x5.Char) R ts_3 (iR R) R) ?_
   refine sW (.two R R R) R (Zs R (iR R) iL) ?_
   refine sV R R R (Zr R (iR R) (iR R)) (sQ R (ZC R iL (iR R)) (aZ (hK14 _ ?_)))
   refine aC R (fun hc2=>?_) (fun hc2=>?_)
   ·have h12:=Zn hc2 h11
    refine aR (sM R R (sM R R (Zg R R R (YCs 54 R YCD (f:=(rInt .i64)) (l:=([x2]:List Int)) ⟨R,⟨_,iL,R⟩,Za⟩ R (fun _=>R) R) (Zj h12 fun out6 eout6 h13=>(Zg R R R (YEq R YCD iL R (.inr (.inl ⟨_,_,iL,R⟩)) eout6) (sA R R ?_))))))
    refine Zt ?_
    exact wK8 _ _ ((by exact Zc ⟨jL,jL,jL,jL,jL,Za⟩ ⟨.inl R,Za⟩ nL)) (J2 _ (vec [((i7 0)+1),((i7 0)+2)]) (Zd h13).symm)
   ·have h12:=Zo hc2 h11
    refine Zi ?_
    exact wK8 _ _ ((by exact Zc ⟨jL,jL,jL,jL,jL,Za⟩ ⟨.inl R,Za⟩ nL)) (J2 _ (vec [(i3 0),(i7 0)]) (Zd h12).symm)
  refine aC R (fun hc3=>?_) (fun hc3=>?_)
  ·have h14:=Zn hc3 hp2
   refine aR (sA R R ?_)
   refine Zt ?_
   exact wK12 _ _ ((by exact Zc ⟨jL,jL,jL,jL,jL,jL,jL,Za⟩ ⟨.inl R,Za⟩ nL)) (J3 _ (vec [(i3 1)]) (Zd h14).symm)
  ·have h14:=Zo hc3 hp2
   refine Zi ?_
   exact wK12 _ _ ((by exact Zc ⟨jL,jL,jL,jL,jL,jL,jL,Za⟩ ⟨.inl R,Za⟩ nL)) (J3 _ (vec [(i3 1)]) (Zd h14).symm)
 ·have h3:=Zo hc1 h2
  refine ZJ ?_
  exact wK3 _ _ ((by exact Zc ⟨jL,Za⟩ ⟨.inl R,Za⟩ nL)) (J1 _ (vec [(i3 0),(i3 1)]) (hx1 _ (Zd h3).symm))
theorem YLj {d1:GDoc} {s1:GSel} {r:Int} (h:YDo d1 s1=some r):ARO Tryz.prog 10 [.agg [qf d1.Nodes],.agg (k27_ s1)] (rI (r)):=by
 unfold YDo at h
 refine Zw Tryz.func10 R R Tryz.ntmps10 R (Ze R) fun n0=>?_
 refine aS fun _ hK1 _=>(aR (Zg R R R (ZR (cs:=[qf d1.Nodes]) 2 R iL R R) (Zg R R R (ZR (cs:=(k27_ s1)) 3 R iL R R) (sA R R (aZ (hK1 _ ?_))))))
 refine aS fun _ hK2 _=>(aS fun _ hK3 _=>(aR (sQ R (ZF R YHy iL R R) (Zj h fun e1 ee1 h1=>(Zg R R R (Zq (r:=rI (e1)) (caps:=[]) (bs:=[.agg [qf d1.Nodes]]) R iL R ⟨⟨_,iL,.g (cs:=[.sl (d1.Nodes.map YAP.row)]) R R⟩,Za⟩ (fun _=>YLh (ee1)) R) (sA R R (aZ (hK3 _ ?_))))))))
 refine aS fun _ hK4 _=>(aR (sM R R (sQ R (ZH R iL iL) (aZ (hK4 _ ?_)))))
 refine aC R (fun hc1=>?_) (fun hc1=>?_)
 ·have h2:=Zn hc1 h1
  refine aS fun _ hK5 _=>?_
  refine Zh (s':=⟨[(5,rI (e1))],[],(n0+2),51⟩) (by exact Zc ⟨jL,Za⟩ Za nL) ?_
  refine aR (sM R R (sA R R (aZ (hK5 _ ?_))))
  refine Zk ?_
  exact Y1_ h2 iL (.t (.d R))
 ·have h2:=Zo hc1 h1
  refine Zi (hK2 _ ?_)
  refine aS fun _ hK6 _=>(aR (sQ R (ZF R YHy iL R R) (sQ R (fB R YKp iL fR R) (sQ R (Zb (a:=rI (s1.Node)) R ts_3 iL R R) (Zj h2 fun i1 ei1 h3=>(Zg R R R (Zq (r:=rI (i1)) (caps:=[]) (bs:=[.agg [qf d1.Nodes],rI (s1.Node)]) R iL R ⟨⟨_,iL,.g (cs:=[.sl (d1.Nodes.map YAP.row)]) R R⟩,⟨_,iL,.d R⟩,Za⟩ (fun _=>YIq (ei1)) R) (sA R R (aZ (hK6 _ ?_)))))))))
  refine aS fun _ hK7 _=>(aS fun _ hK8 _=>?_)
  refine Zh (s':=⟨[(2,.ptr 2 n0 0 0),(3,.ptr 3 (n0+1) 0 0),(6,rI (i1))],[(2,some (.box n0 24 [qf d1.Nodes])),(3,some (.box (n0+1) 26 (k27_ s1)))],(n0+2),51⟩) (by exact Zc ⟨jL,jL,jL,Za⟩ ⟨.inl R,.inl R,Za⟩ nL) ?_
  refine aR (sM R R (sQ R (Zx R iL iL) (aZ (hK8 _ ?_))))
  refine aC R (fun hc2=>?_) (fun hc2=>?_)
  ·have h4:=Zn hc2 h3
   refine aS fun _ hK9 _=>(aR (sA R R (aZ (hK9 _ ?_))))
   refine Zk ?_
   exact Y1_ h4 iL (.t (.d R))
  ·have h4:=Zo hc2 h3
   refine Zi (hK7 _ ?_)
   refine aS fun _ hK10 _=>(aS fun _ hK11 _=>(aR (sQ R (fB R YBv iL fR R) (sQ R (Zb (a:=qf d1.Nodes) R YFh iL R R) (sM R R (Zj h4 fun x1 ex1 h5=>(sQ R (Zz R YEg.slice iL iL (fun _=>R) (fun _=>ex1)) (sQ R (Zy R YBI iL) (sQ R (ZN (d:=.int .i64 x1.Kind) R ts_3 iL R) (Zj h5 fun r1 er1 h6=>(Zg R R R (Zq (r:=rB (r1)) (caps:=[]) (bs:=[rI (x1.Kind)]) R iL R ⟨⟨_,iL,.d R⟩,Za⟩ (fun _=>YE2 (er1)) R) (sQ R (ZQ R iL) (aZ (hK11 _ ?_))))))))))))))
   refine aC R (fun hc3=>?_) (fun hc3=>?_)
   ·have h7:=Zn hc3 h6
    refine aS fun _ hK12 _=>?_
    refine Zh (s':=⟨[],[],(n0+2),51⟩) (by exact Zc Za Za nL) ?_
    refine aR (sA R R (aZ (hK12 _ ?_)))
    refine Zk ?_
    exact Y1_ h7 iL (.t (.d R))
   ·have h7:=Zo hc3 h6
    refine Zi (hK10 _ ?_)
    refine aS fun _ hK13 _=>(aS fun _ hK14 _=>?_)
    refine Zh (s':=⟨[(2,.ptr 2 n0 0 0),(3,.ptr 3 (n0+1) 0 0),(6,rI (i1))],[(2,some (.box n0 24 [qf d1.Nodes])),(3,some (.box (n0+1) 26 (k27_ s1)))],(n0+2),51⟩) (by exact Zc ⟨jL,jL,jL,Za⟩ ⟨.inl R,.inl R,Za⟩ nL) ?_
    refine aR (sQ R (fB R YBv iL fR R) (sQ R (Zb (a:=qf d1.Nodes) R YFh iL R R) (sM R R (sQ R (Zz R YEg.slice iL iL (fun _=>R) (fun _=>ex1)) (sQ R (Zy R YBi iL) (sQ R (ZN (d:=.sl (x1.Flow.map YAC.row)) R YC4 iL R) (Zj h7 fun r2 er2 h8=>(Zg R R R (YCZ (r:=.r (.sl (r2.map (rInt .i64)))) (caps:=[]) (bs:=[qb x1.Flow,rI (0)]) R iL R ⟨.inl ⟨iL,R⟩,.inl ⟨iL,R⟩,Za⟩ (fun _=>YKN (er2))) (sQ R (ZA R YCD.slice iL) (sA R R (aZ (hK14 _ ?_))))))))))))
    refine aS fun _ hK15 _=>?_
    refine Zh (s':=⟨[(3,.ptr 3 (n0+1) 0 0),(7,rI ((r2.length:Int)))],[(3,some (.box (n0+1) 26 (k27_ s1)))],(n0+2),51⟩) (by exact Zc ⟨jL,jL,Za⟩ ⟨.inl R,Za⟩ nL) ?_
    refine aR (sQ R (fB R YFs iL fR R) (sQ R (Zb (a:=rI (s1.From)) R ts_3 iL R R) (sQ R (Zx R iL iL) (sM R R (sV R R R (fB R YGu iL fR R) (sV R R R (Zb (a:=rI (s1.To)) R ts_3 (iR R) R R) (sV R R R (fB R YFs iL fR R) (sV R R R (Zb (a:=rI (s1.From)) R ts_3 (iR R) R R) (sV R R R (Zx R (iR R) (iR R)) (sQ R (ZC R iL (iR R)) (sM R R (sV R R R (fB R YGu iL fR R) (sV R R R (Zb (a:=rI (s1.To)) R ts_3 (iR R) R R) (sV R R R (Zf R iL) (sV R R R (YB5 R (iR R) (iR R)) (sQ R (ZC R iL (iR R)) (aZ (hK15 _ ?_))))))))))))))))))
    refine aC R (fun hc4=>?_) (fun hc4=>?_)
    ·have h9:=Zn hc4 h8
     refine aS fun _ hK16 _=>?_
     refine Zh (s':=⟨[],[],(n0+2),51⟩) (by exact Zc Za Za nL) ?_
     refine aR (sA R R (aZ (hK16 _ ?_)))
     refine Zk ?_
     exact Y1_ h9 iL (.t (.d R))
    ·have h9:=Zo hc4 h8
     refine Zi (hK13 _ ?_)
     refine aS fun _ hK17 _=>?_
     refine Zh (s':=⟨[],[],(n0+2),51⟩) (by exact Zc Za Za nL) ?_
     refine aR (sA R R (aZ (hK17 _ ?_)))
     refine Zk ?_
     exact Y1_ h9 iL (.t (.d R))
theorem YCM {a1:List YAG} {b1:List YAG} {r:Bool} (h:YBK a1 b1=some r):ARO Tryz.prog 78 [qa a1,qa b1] (rB (r)):=by
 unfold YBK at h
 refine Zw Tryz.func78 R R Tryz.ntmps78 R (Ze R) fun n0=>?_
 refine aS fun _ hK1 _=>(aR (sA R R (aZ (hK1 _ ?_))))
 refine aS fun _ hK2 _=>(aS fun _ hK3 _=>(aR (sM R R (sQ R (ZA R YDI.slice iL) (sM R R (sQ R (ZA R YDI.slice iL) (sQ R (ZH R iL iL) (aZ (hK3 _ ?_)))))))))
 refine aC R (fun hc1=>?_) (fun hc1=>?_)
 ·have h1:=Zn hc1 h
  refine aS fun _ hK4 _=>(aR (sA R R (aZ (hK4 _ ?_))))
  refine Zk ?_
  exact Y2_ h1 iL (.t (.d R))
 ·have h1:=Zo hc1 h
  refine Zi (hK2 _ ?_)
  refine aS fun K5 hK5 wK5=>(aS fun _ hK6 _=>(aR (sM R R (sQ R (ZA R YDI.slice iL) (sM R R (aZ (hK6 _ ?_)))))))
  refine Zp ?_
  refine jc1k h1 fun o1 hit1 hk1 he1=>?_
  have J1 : ∀ (u2:Unit) (i5:Nat→Nat),o1 = .nrm u2→K5 ⟨[],[],(i5 0),26⟩:=by
   intro u2 i5 e
   have h2:=hk1 _ e
   refine hK5 _ ?_
   refine aS fun _ hK7 _=>(aR (sA R R (aZ (hK7 _ ?_))))
   refine Zk ?_
   exact Y2_ h2 iL (.t (.d R))
  refine ZS (fun (x2:Int) i3=>⟨[(0,qa a1),(1,qa b1),(12,rI ((a1.length:Int))),(13,rI (x2))],[],(i3 0),26⟩) (vec [n0]) hit1 ((by exact Zc ⟨jL,jL,jL,jL,Za⟩ Za nL)) ?_
  intro x2 i3 v1 hv1 hx1
  have h3:YCn a1 b1 x2=some v1:=hv1; unfold YCn at h3
  refine aS fun _ hK8 _=>(aR (sQ R (Zx R iL iL) (aZ (hK8 _ ?_))))
  refine aS fun _ hK9 _=>?_
  refine aC R (fun hc2=>?_) (fun hc2=>?_)
  ·have h4:=Zn hc2 h3
   refine Zi (hK9 _ ?_)
   refine aS fun _ hK10 _=>(Zp (aS fun _ hK11 _=>(aR (sM R R (sA R R (aZ (hK11 _ ?_)))))))
   refine aS fun _ hK12 _=>?_
   refine ZW hmix (by kernel_rfl) ?_
   refine Zm R R R (Zf R iL) (Zm R R R (Zf R iL) (Zj h4 fun x4 ex4 h5=>(Zm R R R (Zz R YDI.slice iL iL (fun _=>R) (fun _=>ex4)) (Zm R R R (ZM (cs:=(k25_ x4)) R YQ6 iL R R) (Zm R R R (Zf R iL) (Zm R R R (Zf R iL) (Zj h5 fun x5 ex5 h6=>(Zm R R R (Zz R YDI.slice iL iL (fun _=>R) (fun _=>ex5)) (Zm R R R (ZM (cs:=(k25_ x5)) R YQ6 iL R R) (Zm R R R (YFQ R te_58 iL iL R) ?_))))))))))
   refine AQ.nil ?_
   refine hK12 _ ?_
   refine aC R (fun hc3=>?_) (fun hc3=>?_)
   ·have h7:=Zn hc3 h6
    refine aS fun _ hK13 _=>?_
    refine Zh (s':=⟨[],[],(i3 0),26⟩) (by exact Zc Za Za nL) ?_
    refine aR (sA R R (aZ (hK13 _ ?_)))
    refine Zk ?_
    exact Y2_ (he1 _ (hx1 _ (Zd h7).symm)) iL (.t (.d R))
   ·have h7:=Zo hc3 h6
    refine Zi (hK10 _ ?_)
    refine Zh (s':=⟨[(0,qa a1),(1,qa b1),(12,rI ((a1.length:Int))),(13,rI (x2))],[],(i3 0),26⟩) (by exact Zc ⟨jL,jL,jL,jL,Za⟩ Za nL) ?_
    refine aR (Zj h7 fun x6 ex6 h8=>(sQ R (ZI R iL iL (fun _=>ex6)) (sM R R ?_)))
    refine Zt ?_
    exact ZO h8 (vec [(i3 0)]) ((by exact Zc ⟨jL,jL,jL,jL,Za⟩ Za nL))
  ·have h4:=Zo hc2 h3
   refine ZJ ?_
   exact wK5 _ _ ((by exact Zc Za Za nL)) (J1 _ (vec [(i3 0)]) (hx1 _ (Zd h4).symm))
theorem YIG {a1:YAR} {r:(List YAB)} (h:YDg a1=some r):ARO Tryz.prog 28 (k9_ a1) (qg r):=by
 unfold YDg at h
 refine Zw Tryz.func28 R R Tryz.ntmps28 R (Ze R) fun n0=>?_
 refine aS fun _ hK1 _=>(aR (Zg R R R (ZR (cs:=(k10_ a1)) 1 R iL R R) (sA R R (aZ (hK1 _ ?_)))))
 refine aS fun _ hK2 _=>(aR (sA R R (aZ (hK2 _ ?_))))
 refine aS fun _ hK3 _=>(aR (sA R R (aZ (hK3 _ ?_))))
 refine aS fun _ hK4 _=>(aR (sA R R (aZ (hK4 _ ?_))))
 refine aS fun K5 hK5 wK5=>(aS fun _ hK6 _=>(aR (sA R R (aZ (hK6 _ ?_)))))
 refine Zp ?_
 refine jb1k h fun o1 hit1 hk1=>?_
 have J1 : ∀ (out4:List YAB) (i8:Nat→Nat),o1=out4→K5 ⟨[(3,.own 5003 (i8 0))],[(5003,some (.arr (i8 0) 100 4 (out4.map YAB.row)))],(i8 1),100⟩:=by
  intro out4 i8 e
  have h1:=hk1 _ e
  refine hK5 _ ?_
  refine aS fun _ hK7 _=>(aR (sM R R (sA R R (aZ (hK7 _ ?_)))))
  refine Zk ?_
  exact YIw (P:=Tryz.prog) (fun (r:(List YAB))=>qg r) h1 iL (.t (.one (.own R)))
 refine AW.iter4 (fun (cuts2:Int) (i4:Int) (out2:List YAB) (adds2:List YAC) i5=>⟨[(1,.ptr 1 n0 0 0),(3,.own 5003 (i5 0)),(4,.own 5004 (i5 1)),(5,rI (cuts2)),(6,rI (i4))],[(1,some (.box n0 69 (k10_ a1))),(5003,some (.arr (i5 0) 100 4 (out2.map YAB.row))),(5004,some (.arr (i5 1) 51 3 (adds2.map YAC.row)))],(i5 2),100⟩) (vec [(n0+1),(n0+2),(n0+3)]) hit1 (ZP (ZP (Weak.adopt 3 5003 100 4 (by decide) R) (by exact Zc (e':=[(0,.agg (k10_ a1)),(1,.ptr 1 n0 0 0),(2,.cst (.slice none 0 0)),(3,.own 5003 (n0+1)),(4,.cst (.slice none 0 0)),(5,rI (0)),(6,rI (0))]) (h':=[(1,some (.box n0 69 (k10_ a1))),(5003,some (.arr (n0+1) 100 4 (([]:List YAB).map YAB.row)))]) ⟨jL,jL,jL,jL,jL,jL,jL,Za⟩ ⟨.inl R,.inl R,Za⟩ nL)) (ZP (ZP (Weak.adopt 4 5004 51 3 (by decide) R) (by exact Zc (e':=[(0,.agg (k10_ a1)),(1,.ptr 1 n0 0 0),(2,.cst (.slice none 0 0)),(3,.own 5003 (n0+1)),(4,.own 5004 (n0+2)),(5,rI (0)),(6,rI (0))]) (h':=[(1,some (.box n0 69 (k10_ a1))),(5003,some (.arr (n0+1) 100 4 (([]:List YAB).map YAB.row))),(5004,some (.arr (n0+2) 51 3 (([]:List YAC).map YAC.row)))]) ⟨jL,jL,jL,jL,jL,jL,jL,Za⟩ ⟨.inl R,.inl R,.inl R,Za⟩ nL)) (by exact Zc ⟨jL,jL,jL,jL,jL,Za⟩ ⟨.inl R,.inl R,.inl R,Za⟩ nL))) ?_
 intro cuts2 i4 out2 adds2 i5 v1 hv1 hx1
 have h2:YBl a1 cuts2 i4 out2 adds2=some v1:=hv1; unfold YBl at h2
 refine aS fun _ hK8 _=>(aS fun _ hK9 _=>(aR (sM R R (sQ R (fB R YKo iL fR R) (sQ R (Zb (a:=.r (.sl (a1.Cuts.map YBZ))) R YRq iL R R) (sQ R (ZA R YKm.slice iL) (sQ R (YEP R iL iL) (aZ (hK9 _ ?_)))))))))
 refine aC R (fun hc1=>?_) (fun hc1=>?_)
 ·have h3:=Zn hc1 h2
  refine Zi (hK8 _ ?_)
  refine aS fun K10 hK10 wK10=>(Zp ?_)
  refine jc3k h3 fun p1 hp1 hk2 he2=>?_
  have J2 : ∀ (cuts4:Int) (out5:List YAB) (adds4:List YAC) (i9:Nat→Nat),p1 = .nrm (cuts4,out5,adds4)→K10 ⟨[(1,.ptr 1 n0 0 0),(3,.own 5003 (i9 0)),(4,.own 5004 (i9 1)),(5,rI (cuts4)),(6,rI (i4))],[(1,some (.box n0 69 (k10_ a1))),(5003,some (.arr (i9 0) 100 4 (out5.map YAB.row))),(5004,some (.arr (i9 1) 51 3 (adds4.map YAC.row)))],(i9 2),100⟩:=by
   intro cuts4 out5 adds4 i9 e
   have h4:=hk2 _ _ _ e
   refine hK10 _ ?_
   refine aR (sM R R (Zj h4 fun i10 ei10 h5=>(sQ R (ZI R iL iL (fun _=>ei10)) (sA R R ?_))))
   refine Zt ?_
   exact YQw.mk h5 (vec [(i9 0),(i9 1),(i9 2)]) ((by exact Zc ⟨jL,jL,jL,jL,jL,Za⟩ ⟨.inl R,.inl R,.inl R,Za⟩ nL))
  refine aS fun _ hK11 _=>(aR (sM R R (sQ R (fB R YR5 iL fR R) (sQ R (Zb (a:=.r (.sl (a1.Adds.map (rSl YAC.row)))) R ts_65 iL R R) (sM R R (Zj hp1 fun x1 ex1 h6=>(sQ R (Zz R tg_65.slice iL iL (fun _=>R) (fun _=>ex1)) (sQ R (ZN (d:=.sl (x1.map YAC.row)) R YC4 iL R) (Zj h6 fun adds5 eadds5 h7=>(Zg R R R (YEq R YBN iL R (.inl ⟨iL,fun _=>R⟩) eadds5) (sA R R (aZ (hK11 _ ?_)))))))))))))
  refine aS fun _ hK12 _=>(aS fun _ hK13 _=>?_)
  refine Zh (s':=⟨[(1,.ptr 1 n0 0 0),(3,.own 5003 (i5 0)),(4,.own 5004 (i5 2)),(5,rI (cuts2)),(6,rI (i4))],[(1,some (.box n0 69 (k10_ a1))),(5003,some (.arr (i5 0) 100 4 (out2.map YAB.row))),(5004,some (.arr (i5 2) 51 3 (adds5.map YAC.row)))],((i5 2)+1),100⟩) (by exact Zc ⟨jL,jL,jL,jL,jL,Za⟩ ⟨.inl R,.inl R,.inl R,Za⟩ nL) ?_
  refine aR (sM R R (sQ R (fB R YKo iL fR R) (sQ R (Zb (a:=.r (.sl (a1.Cuts.map YBZ))) R YRq iL R R) (sQ R (ZA R YKm.slice iL) (sQ R (Zx R iL iL) (sM R R (sV R R R (fB R YKo iL fR R) (sV R R R (Zb (a:=.r (.sl (a1.Cuts.map YBZ))) R YRq (iR R) R R) (sV R R R (Zf R iL) (Zj h7 fun x2 ex2 h8=>(sV R R R (Zz R YKm.slice (iR R) (iR R) (fun _=>R) (gdt ex2)) (sV R R R (ZN (d:=.bool x2) R ts_4 (iR R) R) (sQ R (Zr R iL (iR R)) (aZ (hK13 _ ?_)))))))))))))))
  refine aC R (fun hc2=>?_) (fun hc2=>?_)
  ·have h9:=Zn hc2 h8
   refine aS fun _ hK14 _=>(aR (sM R R (Zj h9 fun cuts5 ecuts5 h10=>(sQ R (ZI R iL iL (fun _=>ecuts5)) (sA R R (aZ (hK14 _ ?_)))))))
   refine ZJ ?_
   exact wK10 _ _ ((by exact Zc ⟨jL,jL,jL,jL,jL,Za⟩ ⟨.inl R,.inl R,.inl R,Za⟩ nL)) (J2 _ _ _ (vec [(i5 0),(i5 2),((i5 2)+1)]) (Zd h10).symm)
  ·have h9:=Zo hc2 h8
   refine Zi (hK12 _ ?_)
   refine aS fun K15 hK15 wK15=>(aS fun _ hK16 _=>(aR (sM R R (sQ R (YHX R YBN.slice iL R) (sQ R (ZV R iL iL) (aZ (hK16 _ ?_)))))))
   refine jb1k h9 fun p2 hp2 hk3=>?_
   have J3 : ∀ (out6:List YAB) (i11:Nat→Nat),p2=out6→K15 ⟨[(1,.ptr 1 n0 0 0),(3,.own 5003 (i11 0)),(5,rI (cuts2)),(6,rI (i4))],[(1,some (.box n0 69 (k10_ a1))),(5003,some (.arr (i11 0) 100 4 (out6.map YAB.row)))],(i11 1),100⟩:=by
    intro out6 i11 e
    have h11:=hk3 _ e
    refine hK15 _ ?_
    refine aS fun K17 hK17 wK17=>(aS fun _ hK18 _=>(aR (sM R R (sQ R (ZV R iL iL) (aZ (hK18 _ ?_))))))
    refine jb1k h11 fun p3 hp3 hk4=>?_
    have J4 : ∀ (out7:List YAB) (i12:Nat→Nat),p3=out7→K17 ⟨[(1,.ptr 1 n0 0 0),(3,.own 5003 (i12 0)),(6,rI (i4))],[(1,some (.box n0 69 (k10_ a1))),(5003,some (.arr (i12 0) 100 4 (out7.map YAB.row)))],(i12 1),100⟩:=by
     intro out7 i12 e
     have h12:=hk4 _ e
     refine hK17 _ ?_
     refine aS fun _ hK19 _=>(aR (sA R R (sA R R (aZ (hK19 _ ?_)))))
     refine aS fun _ hK20 _=>(aS fun _ hK21 _=>(aR (sM R R (sQ R (fB R YKo iL fR R) (sQ R (Zb (a:=.r (.sl (a1.Cuts.map YBZ))) R YRq iL R R) (sQ R (ZA R YKm.slice iL) (sQ R (Zs R iL iL) (aZ (hK21 _ ?_)))))))))
     refine aC R (fun hc3=>?_) (fun hc3=>?_)
     ·have h13:=Zn hc3 h12
      refine ZJ ?_
      exact wK5 _ _ ((by exact Zc ⟨jL,Za⟩ ⟨.inl R,Za⟩ nL)) (J1 _ (vec [(i12 0),(i12 1)]) (hx1 _ (Zd (he2 _ (Zd h13).symm)).symm))
     ·have h13:=Zo hc3 h12
      refine Zi (hK20 _ ?_)
      refine aS fun _ hK22 _=>(aR (sM R R (sQ R (YHX R YCJ.slice iL R) (Zj h13 fun k1 ek1 h14=>(sQ R (YBf R iL iL (fun _=>ek1)) (sA R R (aZ (hK22 _ ?_))))))))
      refine aS fun _ hK23 _=>?_
      refine ZW hmix (by kernel_rfl) ?_
      refine Zm R R R (Zf R iL) (Zm R R R (YB5 R iL iL) (Zm R R R (Zf R iL) ?_))
      refine Zl (.one R R R) R R (Zf R iL) ?_
      refine Zl (.one R R R) R R (Zf R iL) ?_
      refine Zj h14 fun x3 ex3 h15=>?_
      refine Zl (.one R R R) R R (YBT R YCJ.slice (iR R) R (iR R) (gdt ex3)) ?_
      refine Zl (.one R R R) R R (YA0 (ob:=.arr _ _ _ _) R YB3 (iR R) fR R) ?_
      refine Zl (.one R R R) R R (YDB (d:=.int .i64 x3.Kind) R ts_3 (iR R) fR (gdt ex3) R) ?_
      refine Zl (.one R R R) R R (Zs R (iR R) iL) ?_
      refine Zm R R R (Zr R iL (iR R)) (Zm R R R (Zf R iL) ?_)
      refine Zl (.one R R R) R R (Zf R iL) ?_
      refine Zl (.one R R R) R R (Zf R iL) ?_
      refine Zj h15 fun x4 ex4 h16=>?_
      refine Zl (.one R R R) R R (YBT R YCJ.slice (iR R) R (iR R) (gdt ex4)) ?_
      refine Zl (.one R R R) R R (YA0 (ob:=.arr _ _ _ _) R YDK (iR R) fR R) ?_
      refine Zl (.one R R R) R R (YDB (d:=.sl (x4.Attrs.map YAG.row)) R YCi (iR R) fR (gdt ex4) R) ?_
      refine Zl (.one R R R) R R (fB R YMr iL fR R) ?_
      refine Zl (.one R R R) R R (Zb (a:=.r (.sl (a1.Attrs.map (rSl YAG.row)))) R YTs (iR R) R R) ?_
      refine Zl (.one R R R) R R (Zf R iL) ?_
      refine Zj h16 fun x5 ex5 h17=>?_
      refine Zl (.one R R R) R R (Zz R YQ3.slice (iR R) (iR R) (fun _=>R) (gdt ex5)) ?_
      refine Zl (.one R R R) R R (ZN (d:=.sl (x5.map YAG.row)) R YCi (iR R) R) ?_
      refine Zj h17 fun r1 er1 h18=>?_
      refine AQ.stepWC (.one R R R) R R (r:=rB (r1)) (caps:=[]) (bs:=[qa x4.Attrs,qa x5]) R iL R ⟨⟨_,(iR R),.d R⟩,⟨_,(iR R),.d R⟩,Za⟩ (fun hg=>YCM (gdt er1 hg)) R ?_
      refine Zm R R R (Zr R iL (iR R)) ?_
      refine AQ.nil ?_
      refine hK23 _ ?_
      refine aC R (fun hc4=>?_) (fun hc4=>?_)
      ·have h19:=Zn hc4 h18
       refine Zh (s':=⟨[(1,.ptr 1 n0 0 0),(3,.own 5003 (i12 0)),(4,.cst (.slice none 0 0)),(5,rI (0)),(6,rI (i4)),(7,rI (k1))],[(1,some (.box n0 69 (k10_ a1))),(5003,some (.arr (i12 0) 100 4 (out7.map YAB.row)))],(i12 1),100⟩) (by exact Zc ⟨jL,jL,jL,jL,jL,jL,Za⟩ ⟨.inl R,.inl R,Za⟩ nL) ?_
       refine aR (sM R R (sM R R (Zj h19 fun x6 ex6 h20=>(sQ R (YBT R YCJ.slice iL R iL (fun _=>ex6)) (sQ R (YA0 (ob:=.arr _ _ _ _) R YC1 iL fR R) (sQ R (YDB (d:=.int .i64 x6.N) R ts_3 iL fR (fun _=>ex6) R) (Zj h20 fun x7 ex7 h21=>(sQ R (ZI R iL iL (fun _=>ex7)) (sQ R (YBT R YCJ.slice iL R iL (fun _=>ex6)) (sQ R (YA0 (ob:=.arr _ _ _ _) R YC1 iL fR R) (ZD R R (YHW (v:=(YAB.mk x6.Kind x7 x6.Attrs x6.Elems)) R tz_3 iL R ex6 iL R R R R) ?_)))))))))))
       refine Zt ?_
       exact wK10 _ _ (ZP (ZP (Weak.adopt 4 5004 51 3 (by decide) R) (by exact Zc (e':=[(1,.ptr 1 n0 0 0),(3,.own 5003 (i12 0)),(4,.own 5004 (i12 1)),(5,rI (0)),(6,rI (i4)),(7,rI (k1)),(82,.own 5003 (i12 0)),(83,rI (k1)),(84,.ptr 5003 (i12 0) k1.toNat 0),(85,.ptr 5003 (i12 0) k1.toNat 1),(86,rI (x6.N)),(87,rI (x7)),(88,.ptr 5003 (i12 0) k1.toNat 0),(89,.ptr 5003 (i12 0) k1.toNat 1)]) (h':=[(1,some (.box n0 69 (k10_ a1))),(5003,some (.arr (i12 0) 100 4 ((out7.set k1.toNat (YAB.mk x6.Kind x7 x6.Attrs x6.Elems)).map YAB.row))),(5004,some (.arr (i12 1) 51 3 (([]:List YAC).map YAC.row)))]) ⟨jL,jL,jL,jL,jL,jL,jL,jL,jL,jL,jL,jL,jL,jL,Za⟩ ⟨.inl R,.inl R,.inl R,Za⟩ nL)) (by exact Zc ⟨jL,jL,jL,jL,jL,Za⟩ ⟨.inl R,.inl R,.inl R,Za⟩ nL)) (J2 _ _ _ (vec [(i12 0),(i12 1),((i12 1)+1)]) (Zd h21).symm)
      ·have h19:=Zo hc4 h18
       refine Zh (s':=⟨[(1,.ptr 1 n0 0 0),(3,.own 5003 (i12 0)),(4,.cst (.slice none 0 0)),(5,rI (0)),(6,rI (i4))],[(1,some (.box n0 69 (k10_ a1))),(5003,some (.arr (i12 0) 100 4 (out7.map YAB.row)))],(i12 1),100⟩) (by exact Zc ⟨jL,jL,jL,jL,jL,Za⟩ ⟨.inl R,.inl R,Za⟩ nL) ?_
       refine aR (sM R R (sQ R (fB R YMr iL fR R) (sQ R (Zb (a:=.r (.sl (a1.Attrs.map (rSl YAG.row)))) R YTs iL R R) (sM R R (Zj h19 fun x8 ex8 h22=>(sQ R (Zz R YQ3.slice iL iL (fun _=>R) (fun _=>ex8)) (sQ R (ZN (d:=.sl (x8.map YAG.row)) R YCi iL R) ?_)))))))
       refine sQ R (YBD R YJM (q:=[(0,_),(1,_),(2,_)]) (by exact ⟨R,R,R,iL,R,R,R,iL,R,R,R,iL,Za⟩) (cs:=[rI (0),rI (1),qa x8,.cst (.slice none 0 0)]) (by rfl)) ?_
       refine Zg R R R (YCs 97 R YCJ (f:=YAB.row) (l:=([(YAB.mk 0 1 x8 [])]:List YAB)) ⟨R,⟨_,iL,R⟩,Za⟩ R (fun _=>R) R) (Zj h22 fun out8 eout8 h23=>(Zg R R R (YEq R YCJ iL R (.inr (.inl ⟨_,_,iL,R⟩)) eout8) (sA R R ?_)))
       refine Zt ?_
       exact wK10 _ _ (ZP (ZP (Weak.adopt 4 5004 51 3 (by decide) R) (by exact Zc (e':=[(1,.ptr 1 n0 0 0),(3,.own 5003 ((i12 1)+1)),(4,.own 5004 ((i12 1)+2)),(5,rI (0)),(6,rI (i4)),(91,.ptr 1 n0 0 2),(92,.r (.sl (a1.Attrs.map (rSl YAG.row)))),(93,rI (i4)),(94,.rop ((rSl YAG.row) x8) 0),(95,qa x8),(96,.agg [rI (0),rI (1),qa x8,.cst (.slice none 0 0)]),(97,.own 97 (i12 1)),(98,.own 5003 ((i12 1)+1))]) (h':=[(1,some (.box n0 69 (k10_ a1))),(97,some (.arr (i12 1) 100 4 ([(YAB.mk 0 1 x8 [])].map YAB.row))),(5003,some (.arr ((i12 1)+1) 100 4 (out8.map YAB.row))),(5004,some (.arr ((i12 1)+2) 51 3 (([]:List YAC).map YAC.row)))]) ⟨jL,jL,jL,jL,jL,jL,jL,jL,jL,jL,jL,jL,jL,Za⟩ ⟨.inl R,.inl R,.inl R,.inl R,Za⟩ nL)) (by exact Zc ⟨jL,jL,jL,jL,jL,Za⟩ ⟨.inl R,.inl R,.inl R,Za⟩ nL)) (J2 _ _ _ (vec [((i12 1)+1),((i12 1)+2),((i12 1)+3)]) (Zd h23).symm)
    refine aC R (fun hc5=>?_) (fun hc5=>?_)
    ·have h24:=Zn hc5 hp3
     refine aR (sM R R (sM R R ?_))
     refine sQ R (YBD R YJM (q:=[(0,_),(1,_)]) (by exact ⟨R,R,R,iL,R,R,R,iL,Za⟩) (cs:=[rI (2),rI (cuts2),.cst (.slice none 0 0),.cst (.slice none 0 0)]) (by rfl)) ?_
     refine Zg R R R (YCs 49 R YCJ (f:=YAB.row) (l:=([(YAB.mk 2 cuts2 [] [])]:List YAB)) ⟨R,⟨_,iL,R⟩,Za⟩ R (fun _=>R) R) (Zj h24 fun out9 eout9 h25=>(Zg R R R (YEq R YCJ iL R (.inr (.inl ⟨_,_,iL,R⟩)) eout9) (sA R R ?_)))
     refine Zt ?_
     exact wK17 _ _ ((by exact Zc ⟨jL,jL,jL,Za⟩ ⟨.inl R,.inl R,Za⟩ nL)) (J4 _ (vec [((i11 1)+1),((i11 1)+2)]) (Zd h25).symm)
    ·have h24:=Zo hc5 hp3
     refine Zi ?_
     exact wK17 _ _ ((by exact Zc ⟨jL,jL,jL,Za⟩ ⟨.inl R,.inl R,Za⟩ nL)) (J4 _ (vec [(i11 0),(i11 1)]) (Zd h24).symm)
   refine aC R (fun hc6=>?_) (fun hc6=>?_)
   ·have h26:=Zn hc6 hp2
    refine Zh (s':=⟨[(1,.ptr 1 n0 0 0),(3,.own 5003 (i5 0)),(4,.own 5004 (i5 2)),(5,rI (cuts2)),(6,rI (i4))],[(1,some (.box n0 69 (k10_ a1))),(5003,some (.arr (i5 0) 100 4 (out2.map YAB.row))),(5004,some (.arr (i5 2) 51 3 (adds5.map YAC.row)))],((i5 2)+1),100⟩) (by exact Zc ⟨jL,jL,jL,jL,jL,Za⟩ ⟨.inl R,.inl R,.inl R,Za⟩ nL) ?_
    refine aR (sM R R (sM R R ?_))
    refine sQ R (YBD R YJM (q:=[(0,_),(3,_)]) (by exact ⟨R,R,R,iL,R,R,R,iL,Za⟩) (cs:=[rI (1),rI (0),.cst (.slice none 0 0),.own 5004 (i5 2)]) (by rfl)) ?_
    refine ZT (by exact Weak.frz (e':=[(1,.ptr 1 n0 0 0),(3,.own 5003 (i5 0)),(4,qb adds5),(5,rI (cuts2)),(6,rI (i4)),(39,.own 5003 (i5 0)),(40,qb adds5),(41,.agg [rI (1),rI (0),.cst (.slice none 0 0),qb adds5])]) (h':=[(1,some (.box n0 69 (k10_ a1))),(5003,some (.arr (i5 0) 100 4 (out2.map YAB.row)))]) 5004 R ⟨jL,jL,.inl (.inr (.inr ⟨R,R⟩)),jL,jL,jL,.inl (.inr (.inr ⟨R,R⟩)),.inr ⟨_,_,R,R,⟨.inl R,.inl R,.inl R,.inr (.inr ⟨R,R⟩),Za⟩⟩,Za⟩ ⟨R,.inl R,R,.inl R,Za⟩) ?_
    refine Zg R R R (YCs 42 R YCJ (f:=YAB.row) (l:=([(YAB.mk 1 0 [] adds5)]:List YAB)) ⟨R,⟨_,iL,R⟩,Za⟩ R (fun _=>R) R) (Zj h26 fun out10 eout10 h27=>(Zg R R R (YEq R YCJ iL R (.inr (.inl ⟨_,_,iL,R⟩)) eout10) (sA R R ?_)))
    refine Zt ?_
    exact wK15 _ _ ((by exact Zc ⟨jL,jL,jL,jL,Za⟩ ⟨.inl R,.inl R,Za⟩ nL)) (J3 _ (vec [((i5 2)+2),((i5 2)+3)]) (Zd h27).symm)
   ·have h26:=Zo hc6 hp2
    refine Zi ?_
    exact wK15 _ _ ((by exact Zc ⟨jL,jL,jL,jL,Za⟩ ⟨.inl R,.inl R,Za⟩ nL)) (J3 _ (vec [(i5 0),((i5 2)+1)]) (Zd h26).symm)
 ·have h3:=Zo hc1 h2
  refine ZJ ?_
  exact wK5 _ _ ((by exact Zc ⟨jL,Za⟩ ⟨.inl R,Za⟩ nL)) (J1 _ (vec [(i5 0),(i5 2)]) (hx1 _ (Zd h3).symm))
theorem YLe {a1:YAC} {b1:YAC} {r:Bool} (h:YEl a1 b1=some r):ARO Tryz.prog 114 [.agg (k26_ a1),.agg (k26_ b1)] (rB (r)):=by
 unfold YEl at h
 refine Zw Tryz.func114 R R Tryz.ntmps114 R (Ze R) fun n0=>?_
 refine aS fun _ hK1 _=>(aR (Zg R R R (ZR (cs:=(k26_ a1)) 2 R iL R R) (Zg R R R (ZR (cs:=(k26_ b1)) 3 R iL R R) (sA R R (aZ (hK1 _ ?_))))))
 refine aS fun _ hK2 _=>(aR (sQ R (fB R YDT iL fR R) (sQ R (Zb (a:=rI (a1.Char)) R ts_3 iL R R) (sQ R (fB R YDT iL fR R) (sQ R (Zb (a:=rI (b1.Char)) R ts_3 iL R R) (sQ R (Zs R iL iL) (sM R R (sV R R R (fB R YCW iL fR R) (sV R R R (Zb (a:=rI (a1.Ref)) R ts_3 (iR R) R R) (sV R R R (fB R YCW iL fR R) (sV R R R (Zb (a:=rI (b1.Ref)) R ts_3 (iR R) R R) (sV R R R (Zs R (iR R) (iR R)) (sQ R (Zr R iL (iR R)) (sM R R (sV R R R (fB R YGN iL fR R) (sV R R R (Zb (a:=qa a1.Attrs) R YCi (iR R) R R) (sV R R R (fB R YGN iL fR R) (sV R R R (Zb (a:=qa b1.Attrs) R YCi (iR R) R R) (Zj h fun r1 er1 h1=>?_)))))))))))))))))))
 refine ZE (.one R R R) R R (Zq (r:=rB (r1)) (caps:=[]) (bs:=[qa a1.Attrs,qa b1.Attrs]) R iL R ⟨⟨_,(iR R),.d R⟩,⟨_,(iR R),.d R⟩,Za⟩ (fun hg=>YCM (gdt er1 hg)) R) ?_
 refine sQ R (Zr R iL (iR R)) (sA R R (aZ (hK2 _ ?_)))
 refine Zk ?_
 exact Y2_ h1 iL (.t (.d R))
theorem YHk {a1:List YAC} {b1:List YAC} {r:Bool} (h:YDm a1 b1=some r):ARO Tryz.prog 62 [qb a1,qb b1] (rB (r)):=by
 unfold YDm at h
 refine Zw Tryz.func62 R R Tryz.ntmps62 R (Ze R) fun n0=>?_
 refine aS fun _ hK1 _=>(aR (sA R R (aZ (hK1 _ ?_))))
 refine aS fun _ hK2 _=>(aS fun _ hK3 _=>(aR (sM R R (sQ R (ZA R YBN.slice iL) (sM R R (sQ R (ZA R YBN.slice iL) (sQ R (ZH R iL iL) (aZ (hK3 _ ?_)))))))))
 refine aC R (fun hc1=>?_) (fun hc1=>?_)
 ·have h1:=Zn hc1 h
  refine aS fun _ hK4 _=>(aR (sA R R (aZ (hK4 _ ?_))))
  refine Zk ?_
  exact Y2_ h1 iL (.t (.d R))
 ·have h1:=Zo hc1 h
  refine Zi (hK2 _ ?_)
  refine aS fun K5 hK5 wK5=>(aS fun _ hK6 _=>(aR (sM R R (sQ R (ZA R YBN.slice iL) (sM R R (aZ (hK6 _ ?_)))))))
  refine Zp ?_
  refine jc1k h1 fun o1 hit1 hk1 he1=>?_
  have J1 : ∀ (u2:Unit) (i5:Nat→Nat),o1 = .nrm u2→K5 ⟨[],[],(i5 0),27⟩:=by
   intro u2 i5 e
   have h2:=hk1 _ e
   refine hK5 _ ?_
   refine aS fun _ hK7 _=>(aR (sA R R (aZ (hK7 _ ?_))))
   refine Zk ?_
   exact Y2_ h2 iL (.t (.d R))
  refine ZS (fun (x2:Int) i3=>⟨[(0,qb a1),(1,qb b1),(12,rI ((a1.length:Int))),(13,rI (x2))],[],(i3 0),27⟩) (vec [n0]) hit1 ((by exact Zc ⟨jL,jL,jL,jL,Za⟩ Za nL)) ?_
  intro x2 i3 v1 hv1 hx1
  have h3:YC9 a1 b1 x2=some v1:=hv1; unfold YC9 at h3
  refine aS fun _ hK8 _=>(aR (sQ R (Zx R iL iL) (aZ (hK8 _ ?_))))
  refine aS fun _ hK9 _=>?_
  refine aC R (fun hc2=>?_) (fun hc2=>?_)
  ·have h4:=Zn hc2 h3
   refine Zi (hK9 _ ?_)
   refine aS fun _ hK10 _=>(Zp (aS fun _ hK11 _=>(aR (sM R R (sA R R (aZ (hK11 _ ?_)))))))
   refine aS fun _ hK12 _=>?_
   refine ZW hmix (by kernel_rfl) ?_
   refine Zm R R R (Zf R iL) (Zm R R R (Zf R iL) (Zj h4 fun x4 ex4 h5=>(Zm R R R (Zz R YBN.slice iL iL (fun _=>R) (fun _=>ex4)) (Zm R R R (ZM (cs:=(k26_ x4)) R YHx iL R R) (Zm R R R (Zf R iL) (Zm R R R (Zf R iL) (Zj h5 fun x5 ex5 h6=>(Zm R R R (Zz R YBN.slice iL iL (fun _=>R) (fun _=>ex5)) (Zm R R R (ZM (cs:=(k26_ x5)) R YHx iL R R) (Zj h6 fun r1 er1 h7=>?_))))))))))
   refine AQ.stepC R R R (r:=rB (r1)) (caps:=[]) (bs:=[.agg (k26_ x4),.agg (k26_ x5)]) R iL R ⟨⟨_,iL,.g (cs:=[.int .i64 x4.Char,.int .i64 x4.Ref,.sl (x4.Attrs.map YAG.row)]) R R⟩,⟨_,iL,.g (cs:=[.int .i64 x5.Char,.int .i64 x5.Ref,.sl (x5.Attrs.map YAG.row)]) R R⟩,Za⟩ (fun _=>YLe (er1)) R ?_
   refine Zm R R R (ZQ R iL) ?_
   refine AQ.nil ?_
   refine hK12 _ ?_
   refine aC R (fun hc3=>?_) (fun hc3=>?_)
   ·have h8:=Zn hc3 h7
    refine aS fun _ hK13 _=>?_
    refine Zh (s':=⟨[],[],(i3 0),27⟩) (by exact Zc Za Za nL) ?_
    refine aR (sA R R (aZ (hK13 _ ?_)))
    refine Zk ?_
    exact Y2_ (he1 _ (hx1 _ (Zd h8).symm)) iL (.t (.d R))
   ·have h8:=Zo hc3 h7
    refine Zi (hK10 _ ?_)
    refine Zh (s':=⟨[(0,qb a1),(1,qb b1),(12,rI ((a1.length:Int))),(13,rI (x2))],[],(i3 0),27⟩) (by exact Zc ⟨jL,jL,jL,jL,Za⟩ Za nL) ?_
    refine aR (Zj h8 fun x6 ex6 h9=>(sQ R (ZI R iL iL (fun _=>ex6)) (sM R R ?_)))
    refine Zt ?_
    exact ZO h9 (vec [(i3 0)]) ((by exact Zc ⟨jL,jL,jL,jL,Za⟩ Za nL))
  ·have h4:=Zo hc2 h3
   refine ZJ ?_
   exact wK5 _ _ ((by exact Zc Za Za nL)) (J1 _ (vec [(i3 0)]) (hx1 _ (Zd h4).symm))
theorem YLg {a1:YAY} {b1:YAY} {r:Bool} (h:YEn a1 b1=some r):ARO Tryz.prog 176 [.agg (k13_ a1),.agg (k13_ b1)] (rB (r)):=by
 unfold YEn at h
 refine Zw Tryz.func176 R R Tryz.ntmps176 R (Ze R) fun n0=>?_
 refine aS fun _ hK1 _=>(aR (Zg R R R (ZR (cs:=(k13_ a1)) 2 R iL R R) (Zg R R R (ZR (cs:=(k13_ b1)) 3 R iL R R) (sA R R (aZ (hK1 _ ?_))))))
 refine aS fun _ hK2 _=>(aR (sQ R (fB R YDJ iL fR R) (sQ R (Zb (a:=rI (a1.Row)) R ts_3 iL R R) (sQ R (fB R YDJ iL fR R) (sQ R (Zb (a:=rI (b1.Row)) R ts_3 iL R R) (sQ R (Zs R iL iL) (sM R R (sV R R R (fB R YDz iL fR R) (sV R R R (Zb (a:=rI (a1.Col)) R ts_3 (iR R) R R) (sV R R R (fB R YDz iL fR R) (sV R R R (Zb (a:=rI (b1.Col)) R ts_3 (iR R) R R) (sV R R R (Zs R (iR R) (iR R)) (sQ R (Zr R iL (iR R)) (sM R R (sV R R R (fB R YEb iL fR R) (sV R R R (Zb (a:=.r (.str a1.Text)) R ts_9 (iR R) R R) (sV R R R (fB R YEb iL fR R) (sV R R R (Zb (a:=.r (.str b1.Text)) R ts_9 (iR R) R R) (sV R R R (YET R (iR R) (iR R)) (sQ R (Zr R iL (iR R)) (sM R R (sV R R R (fB R YCY iL fR R) (sV R R R (Zb (a:=rI (a1.Ref)) R ts_3 (iR R) R R) (sV R R R (fB R YCY iL fR R) (sV R R R (Zb (a:=rI (b1.Ref)) R ts_3 (iR R) R R) (sV R R R (Zs R (iR R) (iR R)) (sQ R (Zr R iL (iR R)) (sM R R (sV R R R (fB R YEa iL fR R) ?_)))))))))))))))))))))))))))))
 refine sV R R R (Zb (a:=qa a1.Attrs) R YCi (iR R) R R) (sV R R R (fB R YEa iL fR R) (sV R R R (Zb (a:=qa b1.Attrs) R YCi (iR R) R R) (Zj h fun r1 er1 h1=>?_)))
 refine ZE (.one R R R) R R (Zq (r:=rB (r1)) (caps:=[]) (bs:=[qa a1.Attrs,qa b1.Attrs]) R iL R ⟨⟨_,(iR R),.d R⟩,⟨_,(iR R),.d R⟩,Za⟩ (fun hg=>YCM (gdt er1 hg)) R) ?_
 refine sQ R (Zr R iL (iR R)) (sA R R (aZ (hK2 _ ?_)))
 refine Zk ?_
 exact Y2_ h1 iL (.t (.d R))
theorem YGp {a1:List YAY} {b1:List YAY} {r:Bool} (h:YB7 a1 b1=some r):ARO Tryz.prog 133 [qd a1,qd b1] (rB (r)):=by
 unfold YB7 at h
 refine Zw Tryz.func133 R R Tryz.ntmps133 R (Ze R) fun n0=>?_
 refine aS fun _ hK1 _=>(aR (sA R R (aZ (hK1 _ ?_))))
 refine aS fun _ hK2 _=>(aS fun _ hK3 _=>(aR (sM R R (sQ R (ZA R YDu.slice iL) (sM R R (sQ R (ZA R YDu.slice iL) (sQ R (ZH R iL iL) (aZ (hK3 _ ?_)))))))))
 refine aC R (fun hc1=>?_) (fun hc1=>?_)
 ·have h1:=Zn hc1 h
  refine aS fun _ hK4 _=>(aR (sA R R (aZ (hK4 _ ?_))))
  refine Zk ?_
  exact Y2_ h1 iL (.t (.d R))
 ·have h1:=Zo hc1 h
  refine Zi (hK2 _ ?_)
  refine aS fun K5 hK5 wK5=>(aS fun _ hK6 _=>(aR (sM R R (sQ R (ZA R YDu.slice iL) (sM R R (aZ (hK6 _ ?_)))))))
  refine Zp ?_
  refine jc1k h1 fun o1 hit1 hk1 he1=>?_
  have J1 : ∀ (u2:Unit) (i5:Nat→Nat),o1 = .nrm u2→K5 ⟨[],[],(i5 0),27⟩:=by
   intro u2 i5 e
   have h2:=hk1 _ e
   refine hK5 _ ?_
   refine aS fun _ hK7 _=>(aR (sA R R (aZ (hK7 _ ?_))))
   refine Zk ?_
   exact Y2_ h2 iL (.t (.d R))
  refine ZS (fun (x2:Int) i3=>⟨[(0,qd a1),(1,qd b1),(12,rI ((a1.length:Int))),(13,rI (x2))],[],(i3 0),27⟩) (vec [n0]) hit1 ((by exact Zc ⟨jL,jL,jL,jL,Za⟩ Za nL)) ?_
  intro x2 i3 v1 hv1 hx1
  have h3:YBy a1 b1 x2=some v1:=hv1; unfold YBy at h3
  refine aS fun _ hK8 _=>(aR (sQ R (Zx R iL iL) (aZ (hK8 _ ?_))))
  refine aS fun _ hK9 _=>?_
  refine aC R (fun hc2=>?_) (fun hc2=>?_)
  ·have h4:=Zn hc2 h3
   refine Zi (hK9 _ ?_)
   refine aS fun _ hK10 _=>(Zp (aS fun _ hK11 _=>(aR (sM R R (sA R R (aZ (hK11 _ ?_)))))))
   refine aS fun _ hK12 _=>?_
   refine ZW hmix (by kernel_rfl) ?_
   refine Zm R R R (Zf R iL) (Zm R R R (Zf R iL) (Zj h4 fun x4 ex4 h5=>(Zm R R R (Zz R YDu.slice iL iL (fun _=>R) (fun _=>ex4)) (Zm R R R (ZM (cs:=(k13_ x4)) R YFk iL R R) (Zm R R R (Zf R iL) (Zm R R R (Zf R iL) (Zj h5 fun x5 ex5 h6=>(Zm R R R (Zz R YDu.slice iL iL (fun _=>R) (fun _=>ex5)) (Zm R R R (ZM (cs:=(k13_ x5)) R YFk iL R R) (Zj h6 fun r1 er1 h7=>?_))))))))))
   refine AQ.stepC R R R (r:=rB (r1)) (caps:=[]) (bs:=[.agg (k13_ x4),.agg (k13_ x5)]) R iL R ⟨⟨_,iL,.g (cs:=[.int .i64 x4.Row,.int .i64 x4.Col,.str x4.Text,.int .i64 x4.Ref,.sl (x4.Attrs.map YAG.row)]) R R⟩,⟨_,iL,.g (cs:=[.int .i64 x5.Row,.int .i64 x5.Col,.str x5.Text,.int .i64 x5.Ref,.sl (x5.Attrs.map YAG.row)]) R R⟩,Za⟩ (fun _=>YLg (er1)) R ?_
   refine Zm R R R (ZQ R iL) ?_
   refine AQ.nil ?_
   refine hK12 _ ?_
   refine aC R (fun hc3=>?_) (fun hc3=>?_)
   ·have h8:=Zn hc3 h7
    refine aS fun _ hK13 _=>?_
    refine Zh (s':=⟨[],[],(i3 0),27⟩) (by exact Zc Za Za nL) ?_
    refine aR (sA R R (aZ (hK13 _ ?_)))
    refine Zk ?_
    exact Y2_ (he1 _ (hx1 _ (Zd h8).symm)) iL (.t (.d R))
   ·have h8:=Zo hc3 h7
    refine Zi (hK10 _ ?_)
    refine Zh (s':=⟨[(0,qd a1),(1,qd b1),(12,rI ((a1.length:Int))),(13,rI (x2))],[],(i3 0),27⟩) (by exact Zc ⟨jL,jL,jL,jL,Za⟩ Za nL) ?_
    refine aR (Zj h8 fun x6 ex6 h9=>(sQ R (ZI R iL iL (fun _=>ex6)) (sM R R ?_)))
    refine Zt ?_
    exact ZO h9 (vec [(i3 0)]) ((by exact Zc ⟨jL,jL,jL,jL,Za⟩ Za nL))
  ·have h4:=Zo hc2 h3
   refine ZJ ?_
   exact wK5 _ _ ((by exact Zc Za Za nL)) (J1 _ (vec [(i3 0)]) (hx1 _ (Zd h4).symm))
theorem YFM {a1:List YAX} {b1:List YAX} {r:Bool} (h:YBj a1 b1=some r):ARO Tryz.prog 134 [qc a1,qc b1] (rB (r)):=by
 unfold YBj at h
 refine Zw Tryz.func134 R R Tryz.ntmps134 R (Ze R) fun n0=>?_
 refine aS fun _ hK1 _=>(aR (sA R R (aZ (hK1 _ ?_))))
 refine aS fun _ hK2 _=>(aS fun _ hK3 _=>(aR (sM R R (sQ R (ZA R YFN.slice iL) (sM R R (sQ R (ZA R YFN.slice iL) (sQ R (ZH R iL iL) (aZ (hK3 _ ?_)))))))))
 refine aC R (fun hc1=>?_) (fun hc1=>?_)
 ·have h1:=Zn hc1 h
  refine aS fun _ hK4 _=>(aR (sA R R (aZ (hK4 _ ?_))))
  refine Zk ?_
  exact Y2_ h1 iL (.t (.d R))
 ·have h1:=Zo hc1 h
  refine Zi (hK2 _ ?_)
  refine aS fun K5 hK5 wK5=>(aS fun _ hK6 _=>(aR (sM R R (sQ R (ZA R YFN.slice iL) (sM R R (aZ (hK6 _ ?_)))))))
  refine Zp ?_
  refine jc1k h1 fun o1 hit1 hk1 he1=>?_
  have J1 : ∀ (u2:Unit) (i5:Nat→Nat),o1 = .nrm u2→K5 ⟨[],[],(i5 0),26⟩:=by
   intro u2 i5 e
   have h2:=hk1 _ e
   refine hK5 _ ?_
   refine aS fun _ hK7 _=>(aR (sA R R (aZ (hK7 _ ?_))))
   refine Zk ?_
   exact Y2_ h2 iL (.t (.d R))
  refine ZS (fun (x2:Int) i3=>⟨[(0,qc a1),(1,qc b1),(12,rI ((a1.length:Int))),(13,rI (x2))],[],(i3 0),26⟩) (vec [n0]) hit1 ((by exact Zc ⟨jL,jL,jL,jL,Za⟩ Za nL)) ?_
  intro x2 i3 v1 hv1 hx1
  have h3:YBx a1 b1 x2=some v1:=hv1; unfold YBx at h3
  refine aS fun _ hK8 _=>(aR (sQ R (Zx R iL iL) (aZ (hK8 _ ?_))))
  refine aS fun _ hK9 _=>?_
  refine aC R (fun hc2=>?_) (fun hc2=>?_)
  ·have h4:=Zn hc2 h3
   refine Zi (hK9 _ ?_)
   refine aS fun _ hK10 _=>(Zp (aS fun _ hK11 _=>(aR (sM R R (sA R R (aZ (hK11 _ ?_)))))))
   refine aS fun _ hK12 _=>?_
   refine ZW hmix (by kernel_rfl) ?_
   refine Zm R R R (Zf R iL) (Zm R R R (Zf R iL) (Zj h4 fun x4 ex4 h5=>(Zm R R R (Zz R YFN.slice iL iL (fun _=>R) (fun _=>ex4)) (Zm R R R (ZM (cs:=(k22_ x4)) R YFO iL R R) (Zm R R R (Zf R iL) (Zm R R R (Zf R iL) (Zj h5 fun x5 ex5 h6=>(Zm R R R (Zz R YFN.slice iL iL (fun _=>R) (fun _=>ex5)) (Zm R R R (ZM (cs:=(k22_ x5)) R YFO iL R R) (Zm R R R (YFQ R YU9 iL iL R) ?_))))))))))
   refine AQ.nil ?_
   refine hK12 _ ?_
   refine aC R (fun hc3=>?_) (fun hc3=>?_)
   ·have h7:=Zn hc3 h6
    refine aS fun _ hK13 _=>?_
    refine Zh (s':=⟨[],[],(i3 0),26⟩) (by exact Zc Za Za nL) ?_
    refine aR (sA R R (aZ (hK13 _ ?_)))
    refine Zk ?_
    exact Y2_ (he1 _ (hx1 _ (Zd h7).symm)) iL (.t (.d R))
   ·have h7:=Zo hc3 h6
    refine Zi (hK10 _ ?_)
    refine Zh (s':=⟨[(0,qc a1),(1,qc b1),(12,rI ((a1.length:Int))),(13,rI (x2))],[],(i3 0),26⟩) (by exact Zc ⟨jL,jL,jL,jL,Za⟩ Za nL) ?_
    refine aR (Zj h7 fun x6 ex6 h8=>(sQ R (ZI R iL iL (fun _=>ex6)) (sM R R ?_)))
    refine Zt ?_
    exact ZO h8 (vec [(i3 0)]) ((by exact Zc ⟨jL,jL,jL,jL,Za⟩ Za nL))
  ·have h4:=Zo hc2 h3
   refine ZJ ?_
   exact wK5 _ _ ((by exact Zc Za Za nL)) (J1 _ (vec [(i3 0)]) (hx1 _ (Zd h4).symm))
theorem YLd {a1:YAy} {b1:YAy} {r:Bool} (h:YEk a1 b1=some r):ARO Tryz.prog 131 [.agg (k20_ a1),.agg (k20_ b1)] (rB (r)):=by
 unfold YEk at h
 refine Zw Tryz.func131 R R Tryz.ntmps131 R (Ze R) fun n0=>?_
 refine aS fun _ hK1 _=>(aR (Zg R R R (ZR (cs:=(k20_ a1)) 2 R iL R R) (Zg R R R (ZR (cs:=(k20_ b1)) 3 R iL R R) (sA R R (aZ (hK1 _ ?_))))))
 refine aS fun _ hK2 _=>(aR (sQ R (fB R YEx iL fR R) (sQ R (Zb (a:=rI (a1.Rows)) R ts_3 iL R R) (sQ R (fB R YEx iL fR R) (sQ R (Zb (a:=rI (b1.Rows)) R ts_3 iL R R) (sQ R (Zs R iL iL) (sM R R (sV R R R (fB R YEw iL fR R) (sV R R R (Zb (a:=rI (a1.Cols)) R ts_3 (iR R) R R) (sV R R R (fB R YEw iL fR R) (sV R R R (Zb (a:=rI (b1.Cols)) R ts_3 (iR R) R R) (sV R R R (Zs R (iR R) (iR R)) (sQ R (Zr R iL (iR R)) (sM R R (sV R R R (fB R YES iL fR R) (sV R R R (Zb (a:=qd a1.Cells) R YHv (iR R) R R) (sV R R R (fB R YES iL fR R) (sV R R R (Zb (a:=qd b1.Cells) R YHv (iR R) R R) (Zj h fun r1 er1 h1=>?_)))))))))))))))))))
 refine ZE (.one R R R) R R (Zq (r:=rB (r1)) (caps:=[]) (bs:=[qd a1.Cells,qd b1.Cells]) R iL R ⟨⟨_,(iR R),.d R⟩,⟨_,(iR R),.d R⟩,Za⟩ (fun hg=>YGp (gdt er1 hg)) R) ?_
 refine sQ R (Zr R iL (iR R)) (sM R R (sV R R R (fB R YDx iL fR R) (sV R R R (Zb (a:=qc a1.Merges) R YGj (iR R) R R) (sV R R R (fB R YDx iL fR R) (sV R R R (Zb (a:=qc b1.Merges) R YGj (iR R) R R) (Zj h1 fun r2 er2 h2=>?_))))))
 refine ZE (.one R R R) R R (Zq (r:=rB (r2)) (caps:=[]) (bs:=[qc a1.Merges,qc b1.Merges]) R iL R ⟨⟨_,(iR R),.d R⟩,⟨_,(iR R),.d R⟩,Za⟩ (fun hg=>YFM (gdt er2 hg)) R) ?_
 refine sQ R (Zr R iL (iR R)) (sA R R (aZ (hK2 _ ?_)))
 refine Zk ?_
 exact Y2_ h2 iL (.t (.d R))
theorem YIE {a1:List YAN} {b1:List YAN} {r:Bool} (h:YC7 a1 b1=some r):ARO Tryz.prog 89 [qe a1,qe b1] (rB (r)):=by
 unfold YC7 at h
 refine Zw Tryz.func89 R R Tryz.ntmps89 R (Ze R) fun n0=>?_
 refine aS fun _ hK1 _=>(aR (sA R R (aZ (hK1 _ ?_))))
 refine aS fun _ hK2 _=>(aS fun _ hK3 _=>(aR (sM R R (sQ R (ZA R YHw.slice iL) (sM R R (sQ R (ZA R YHw.slice iL) (sQ R (ZH R iL iL) (aZ (hK3 _ ?_)))))))))
 refine aC R (fun hc1=>?_) (fun hc1=>?_)
 ·have h1:=Zn hc1 h
  refine aS fun _ hK4 _=>(aR (sA R R (aZ (hK4 _ ?_))))
  refine Zk ?_
  exact Y2_ h1 iL (.t (.d R))
 ·have h1:=Zo hc1 h
  refine Zi (hK2 _ ?_)
  refine aS fun K5 hK5 wK5=>(aS fun _ hK6 _=>(aR (sM R R (sQ R (ZA R YHw.slice iL) (sM R R (aZ (hK6 _ ?_)))))))
  refine Zp ?_
  refine jc1k h1 fun o1 hit1 hk1 he1=>?_
  have J1 : ∀ (u2:Unit) (i5:Nat→Nat),o1 = .nrm u2→K5 ⟨[],[],(i5 0),26⟩:=by
   intro u2 i5 e
   have h2:=hk1 _ e
   refine hK5 _ ?_
   refine aS fun _ hK7 _=>(aR (sA R R (aZ (hK7 _ ?_))))
   refine Zk ?_
   exact Y2_ h2 iL (.t (.d R))
  refine ZS (fun (x2:Int) i3=>⟨[(0,qe a1),(1,qe b1),(12,rI ((a1.length:Int))),(13,rI (x2))],[],(i3 0),26⟩) (vec [n0]) hit1 ((by exact Zc ⟨jL,jL,jL,jL,Za⟩ Za nL)) ?_
  intro x2 i3 v1 hv1 hx1
  have h3:YCw a1 b1 x2=some v1:=hv1; unfold YCw at h3
  refine aS fun _ hK8 _=>(aR (sQ R (Zx R iL iL) (aZ (hK8 _ ?_))))
  refine aS fun _ hK9 _=>?_
  refine aC R (fun hc2=>?_) (fun hc2=>?_)
  ·have h4:=Zn hc2 h3
   refine Zi (hK9 _ ?_)
   refine aS fun _ hK10 _=>(Zp (aS fun _ hK11 _=>(aR (sM R R (sA R R (aZ (hK11 _ ?_)))))))
   refine aS fun _ hK12 _=>?_
   refine ZW hmix (by kernel_rfl) ?_
   refine Zm R R R (Zf R iL) (Zm R R R (Zf R iL) (Zj h4 fun x4 ex4 h5=>(Zm R R R (Zz R YHw.slice iL iL (fun _=>R) (fun _=>ex4)) (Zm R R R (ZM (cs:=(k8_ x4)) R YIN iL R R) (Zm R R R (Zf R iL) (Zm R R R (Zf R iL) (Zj h5 fun x5 ex5 h6=>(Zm R R R (Zz R YHw.slice iL iL (fun _=>R) (fun _=>ex5)) (Zm R R R (ZM (cs:=(k8_ x5)) R YIN iL R R) (Zm R R R (YFQ R te_176 iL iL R) ?_))))))))))
   refine AQ.nil ?_
   refine hK12 _ ?_
   refine aC R (fun hc3=>?_) (fun hc3=>?_)
   ·have h7:=Zn hc3 h6
    refine aS fun _ hK13 _=>?_
    refine Zh (s':=⟨[],[],(i3 0),26⟩) (by exact Zc Za Za nL) ?_
    refine aR (sA R R (aZ (hK13 _ ?_)))
    refine Zk ?_
    exact Y2_ (he1 _ (hx1 _ (Zd h7).symm)) iL (.t (.d R))
   ·have h7:=Zo hc3 h6
    refine Zi (hK10 _ ?_)
    refine Zh (s':=⟨[(0,qe a1),(1,qe b1),(12,rI ((a1.length:Int))),(13,rI (x2))],[],(i3 0),26⟩) (by exact Zc ⟨jL,jL,jL,jL,Za⟩ Za nL) ?_
    refine aR (Zj h7 fun x6 ex6 h8=>(sQ R (ZI R iL iL (fun _=>ex6)) (sM R R ?_)))
    refine Zt ?_
    exact ZO h8 (vec [(i3 0)]) ((by exact Zc ⟨jL,jL,jL,jL,Za⟩ Za nL))
  ·have h4:=Zo hc2 h3
   refine ZJ ?_
   exact wK5 _ _ ((by exact Zc Za Za nL)) (J1 _ (vec [(i3 0)]) (hx1 _ (Zd h4).symm))
theorem YLc {a1:YAP} {b1:YAP} {r:Bool} (h:YC8 a1 b1=some r):ARO Tryz.prog 86 [.agg (k7_ a1),.agg (k7_ b1)] (rB (r)):=by
 unfold YC8 at h
 refine Zw Tryz.func86 R R Tryz.ntmps86 R (Ze R) fun n0=>?_
 refine aS fun _ hK1 _=>(aR (Zg R R R (ZR (cs:=(k7_ a1)) 2 R iL R R) (Zg R R R (ZR (cs:=(k7_ b1)) 3 R iL R R) (sA R R (aZ (hK1 _ ?_))))))
 refine aS fun _ hK2 _=>(aR (sQ R (fB R YCX iL fR R) (sQ R (Zb (a:=rI (a1.ID)) R ts_3 iL R R) (sQ R (fB R YCX iL fR R) (sQ R (Zb (a:=rI (b1.ID)) R ts_3 iL R R) (sQ R (Zs R iL iL) (sM R R (sV R R R (fB R YBI iL fR R) (sV R R R (Zb (a:=rI (a1.Kind)) R ts_3 (iR R) R R) (sV R R R (fB R YBI iL fR R) (sV R R R (Zb (a:=rI (b1.Kind)) R ts_3 (iR R) R R) (sV R R R (Zs R (iR R) (iR R)) (sQ R (Zr R iL (iR R)) (sM R R (sV R R R (fB R YMs iL fR R) (sV R R R (Zb (a:=qa a1.Attrs) R YCi (iR R) R R) (sV R R R (fB R YMs iL fR R) (sV R R R (Zb (a:=qa b1.Attrs) R YCi (iR R) R R) (Zj h fun r1 er1 h1=>?_)))))))))))))))))))
 refine ZE (.one R R R) R R (Zq (r:=rB (r1)) (caps:=[]) (bs:=[qa a1.Attrs,qa b1.Attrs]) R iL R ⟨⟨_,(iR R),.d R⟩,⟨_,(iR R),.d R⟩,Za⟩ (fun hg=>YCM (gdt er1 hg)) R) ?_
 refine sQ R (Zr R iL (iR R)) (sM R R (sV R R R (fB R YBi iL fR R) (sV R R R (Zb (a:=qb a1.Flow) R YC4 (iR R) R R) (sV R R R (fB R YBi iL fR R) (sV R R R (Zb (a:=qb b1.Flow) R YC4 (iR R) R R) (Zj h1 fun r2 er2 h2=>?_))))))
 refine ZE (.one R R R) R R (Zq (r:=rB (r2)) (caps:=[]) (bs:=[qb a1.Flow,qb b1.Flow]) R iL R ⟨⟨_,(iR R),.d R⟩,⟨_,(iR R),.d R⟩,Za⟩ (fun hg=>YHk (gdt er2 hg)) R) ?_
 refine sQ R (Zr R iL (iR R)) (sM R R (sV R R R (fB R YEv iL fR R) (sV R R R (YA7 (ds:=(k20_ a1.Grid)) R YQ7 (iR R) R R R) (sV R R R (fB R YEv iL fR R) (sV R R R (YA7 (ds:=(k20_ b1.Grid)) R YQ7 (iR R) R R R) (Zj h2 fun r3 er3 h3=>?_))))))
 refine ZE (.one R R R) R R (Zq (r:=rB (r3)) (caps:=[]) (bs:=[.agg (k20_ a1.Grid),.agg (k20_ b1.Grid)]) R iL R ⟨⟨_,(iR R),.g (cs:=[.int .i64 a1.Grid.Rows,.int .i64 a1.Grid.Cols,.sl (a1.Grid.Cells.map YAY.row),.sl (a1.Grid.Merges.map YAX.row)]) R R⟩,⟨_,(iR R),.g (cs:=[.int .i64 b1.Grid.Rows,.int .i64 b1.Grid.Cols,.sl (b1.Grid.Cells.map YAY.row),.sl (b1.Grid.Merges.map YAX.row)]) R R⟩,Za⟩ (fun hg=>YLd (gdt er3 hg)) R) ?_
 refine sQ R (Zr R iL (iR R)) (sM R R (sV R R R (fB R YGt iL fR R) (sV R R R (Zb (a:=qe a1.Draw) R YLk (iR R) R R) (sV R R R (fB R YGt iL fR R) (sV R R R (Zb (a:=qe b1.Draw) R YLk (iR R) R R) (Zj h3 fun r4 er4 h4=>?_))))))
 refine ZE (.one R R R) R R (Zq (r:=rB (r4)) (caps:=[]) (bs:=[qe a1.Draw,qe b1.Draw]) R iL R ⟨⟨_,(iR R),.d R⟩,⟨_,(iR R),.d R⟩,Za⟩ (fun hg=>YIE (gdt er4 hg)) R) ?_
 refine sQ R (Zr R iL (iR R)) (sA R R (aZ (hK2 _ ?_)))
 refine Zk ?_
 exact Y2_ h4 iL (.t (.d R))
theorem YKO {a1:List YAB} {b1:List YAB} {r:Bool} (h:YCc a1 b1=some r):ARO Tryz.prog 87 [qg a1,qg b1] (rB (r)):=by
 unfold YCc at h
 refine Zw Tryz.func87 R R Tryz.ntmps87 R (Ze R) fun n0=>?_
 refine aS fun _ hK1 _=>(aR (sA R R (aZ (hK1 _ ?_))))
 refine aS fun _ hK2 _=>(aS fun _ hK3 _=>(aR (sM R R (sQ R (ZA R YCJ.slice iL) (sM R R (sQ R (ZA R YCJ.slice iL) (sQ R (ZH R iL iL) (aZ (hK3 _ ?_)))))))))
 refine aC R (fun hc1=>?_) (fun hc1=>?_)
 ·have h1:=Zn hc1 h
  refine aS fun _ hK4 _=>(aR (sA R R (aZ (hK4 _ ?_))))
  refine Zk ?_
  exact Y2_ h1 iL (.t (.d R))
 ·have h1:=Zo hc1 h
  refine Zi (hK2 _ ?_)
  refine aS fun K5 hK5 wK5=>(aS fun _ hK6 _=>(aR (sM R R (sQ R (ZA R YCJ.slice iL) (sM R R (aZ (hK6 _ ?_)))))))
  refine Zp ?_
  refine jc1k h1 fun o1 hit1 hk1 he1=>?_
  have J1 : ∀ (u2:Unit) (i5:Nat→Nat),o1 = .nrm u2→K5 ⟨[],[],(i5 0),69⟩:=by
   intro u2 i5 e
   have h2:=hk1 _ e
   refine hK5 _ ?_
   refine aS fun _ hK7 _=>(aR (sA R R (aZ (hK7 _ ?_))))
   refine Zk ?_
   exact Y2_ h2 iL (.t (.d R))
  refine ZS (fun (x2:Int) i3=>⟨[(0,qg a1),(1,qg b1),(12,rI ((a1.length:Int))),(13,rI (x2))],[],(i3 0),69⟩) (vec [n0]) hit1 ((by exact Zc ⟨jL,jL,jL,jL,Za⟩ Za nL)) ?_
  intro x2 i3 v1 hv1 hx1
  have h3:YCm a1 b1 x2=some v1:=hv1; unfold YCm at h3
  refine aS fun _ hK8 _=>(aR (sQ R (Zx R iL iL) (aZ (hK8 _ ?_))))
  refine aS fun _ hK9 _=>?_
  refine aC R (fun hc2=>?_) (fun hc2=>?_)
  ·have h4:=Zn hc2 h3
   refine Zi (hK9 _ ?_)
   refine aS fun _ hK10 _=>(Zp (aS fun _ hK11 _=>(aR (sM R R (sA R R (aZ (hK11 _ ?_)))))))
   refine aS fun _ hK12 _=>?_
   refine ZW hmix (by kernel_rfl) ?_
   refine Zm R R R (Zf R iL) (Zm R R R (Zf R iL) (Zj h4 fun x4 ex4 h5=>(Zm R R R (Zz R YCJ.slice iL iL (fun _=>R) (fun _=>ex4)) (Zm R R R (Zy R YB3 iL) (Zm R R R (ZN (d:=.int .i64 x4.Kind) R ts_3 iL R) (Zm R R R (Zf R iL) (Zm R R R (Zf R iL) (Zj h5 fun x5 ex5 h6=>(Zm R R R (Zz R YCJ.slice iL iL (fun _=>R) (fun _=>ex5)) (Zm R R R (Zy R YB3 iL) (Zm R R R (ZN (d:=.int .i64 x5.Kind) R ts_3 iL R) (Zm R R R (ZH R iL iL) (Zm R R R (Zf R iL) ?_)))))))))))))
   refine Zl (.one R R R) R R (Zf R iL) ?_
   refine Zl (.one R R R) R R (Zf R iL) ?_
   refine Zl (.one R R R) R R (Zz R YCJ.slice (iR R) (iR R) (fun _=>R) (fun _=>ex4)) ?_
   refine Zl (.one R R R) R R (Zy R YC1 (iR R)) ?_
   refine Zl (.one R R R) R R (ZN (d:=.int .i64 x4.N) R ts_3 (iR R) R) ?_
   refine Zl (.one R R R) R R (Zf R iL) ?_
   refine Zl (.one R R R) R R (Zf R iL) ?_
   refine Zl (.one R R R) R R (Zz R YCJ.slice (iR R) (iR R) (fun _=>R) (fun _=>ex5)) ?_
   refine Zl (.one R R R) R R (Zy R YC1 (iR R)) ?_
   refine Zl (.one R R R) R R (ZN (d:=.int .i64 x5.N) R ts_3 (iR R) R) ?_
   refine Zl (.one R R R) R R (ZH R (iR R) (iR R)) ?_
   refine Zm R R R (ZC R iL (iR R)) (Zm R R R (Zf R iL) ?_)
   refine Zl (.one R R R) R R (Zf R iL) ?_
   refine Zl (.one R R R) R R (Zf R iL) ?_
   refine Zl (.one R R R) R R (Zz R YCJ.slice (iR R) (iR R) (fun _=>R) (fun _=>ex4)) ?_
   refine Zl (.one R R R) R R (Zy R YDK (iR R)) ?_
   refine Zl (.one R R R) R R (ZN (d:=.sl (x4.Attrs.map YAG.row)) R YCi (iR R) R) ?_
   refine Zl (.one R R R) R R (Zf R iL) ?_
   refine Zl (.one R R R) R R (Zf R iL) ?_
   refine Zl (.one R R R) R R (Zz R YCJ.slice (iR R) (iR R) (fun _=>R) (fun _=>ex5)) ?_
   refine Zl (.one R R R) R R (Zy R YDK (iR R)) ?_
   refine Zl (.one R R R) R R (ZN (d:=.sl (x5.Attrs.map YAG.row)) R YCi (iR R) R) ?_
   refine Zj h6 fun r1 er1 h7=>?_
   refine AQ.stepWC (.one R R R) R R (r:=rB (r1)) (caps:=[]) (bs:=[qa x4.Attrs,qa x5.Attrs]) R iL R ⟨⟨_,(iR R),.d R⟩,⟨_,(iR R),.d R⟩,Za⟩ (fun hg=>YCM (gdt er1 hg)) R ?_
   refine Zl (.one R R R) R R (ZQ R (iR R)) ?_
   refine Zm R R R (ZC R iL (iR R)) (Zm R R R (Zf R iL) ?_)
   refine Zl (.one R R R) R R (Zf R iL) ?_
   refine Zl (.one R R R) R R (Zf R iL) ?_
   refine Zl (.one R R R) R R (Zz R YCJ.slice (iR R) (iR R) (fun _=>R) (fun _=>ex4)) ?_
   refine Zl (.one R R R) R R (Zy R YFj (iR R)) ?_
   refine Zl (.one R R R) R R (ZN (d:=.sl (x4.Elems.map YAC.row)) R YC4 (iR R) R) ?_
   refine Zl (.one R R R) R R (Zf R iL) ?_
   refine Zl (.one R R R) R R (Zf R iL) ?_
   refine Zl (.one R R R) R R (Zz R YCJ.slice (iR R) (iR R) (fun _=>R) (fun _=>ex5)) ?_
   refine Zl (.one R R R) R R (Zy R YFj (iR R)) ?_
   refine Zl (.one R R R) R R (ZN (d:=.sl (x5.Elems.map YAC.row)) R YC4 (iR R) R) ?_
   refine Zj h7 fun r2 er2 h8=>?_
   refine AQ.stepWC (.one R R R) R R (r:=rB (r2)) (caps:=[]) (bs:=[qb x4.Elems,qb x5.Elems]) R iL R ⟨⟨_,(iR R),.d R⟩,⟨_,(iR R),.d R⟩,Za⟩ (fun hg=>YHk (gdt er2 hg)) R ?_
   refine Zl (.one R R R) R R (ZQ R (iR R)) ?_
   refine Zm R R R (ZC R iL (iR R)) ?_
   refine AQ.nil ?_
   refine hK12 _ ?_
   refine aC R (fun hc3=>?_) (fun hc3=>?_)
   ·have h9:=Zn hc3 h8
    refine aS fun _ hK13 _=>?_
    refine Zh (s':=⟨[],[],(i3 0),69⟩) (by exact Zc Za Za nL) ?_
    refine aR (sA R R (aZ (hK13 _ ?_)))
    refine Zk ?_
    exact Y2_ (he1 _ (hx1 _ (Zd h9).symm)) iL (.t (.d R))
   ·have h9:=Zo hc3 h8
    refine Zi (hK10 _ ?_)
    refine Zh (s':=⟨[(0,qg a1),(1,qg b1),(12,rI ((a1.length:Int))),(13,rI (x2))],[],(i3 0),69⟩) (by exact Zc ⟨jL,jL,jL,jL,Za⟩ Za nL) ?_
    refine aR (Zj h9 fun x6 ex6 h10=>(sQ R (ZI R iL iL (fun _=>ex6)) (sM R R ?_)))
    refine Zt ?_
    exact ZO h10 (vec [(i3 0)]) ((by exact Zc ⟨jL,jL,jL,jL,Za⟩ Za nL))
  ·have h4:=Zo hc2 h3
   refine ZJ ?_
   exact wK5 _ _ ((by exact Zc Za Za nL)) (J1 _ (vec [(i3 0)]) (hx1 _ (Zd h4).symm))
theorem YGo {a1:List YAo} {b1:List YAo} {r:Bool} (h:YCb a1 b1=some r):ARO Tryz.prog 132 [qi a1,qi b1] (rB (r)):=by
 unfold YCb at h
 refine Zw Tryz.func132 R R Tryz.ntmps132 R (Ze R) fun n0=>?_
 refine aS fun _ hK1 _=>(aR (sA R R (aZ (hK1 _ ?_))))
 refine aS fun _ hK2 _=>(aS fun _ hK3 _=>(aR (sM R R (sQ R (ZA R YRs.slice iL) (sM R R (sQ R (ZA R YRs.slice iL) (sQ R (ZH R iL iL) (aZ (hK3 _ ?_)))))))))
 refine aC R (fun hc1=>?_) (fun hc1=>?_)
 ·have h1:=Zn hc1 h
  refine aS fun _ hK4 _=>(aR (sA R R (aZ (hK4 _ ?_))))
  refine Zk ?_
  exact Y2_ h1 iL (.t (.d R))
 ·have h1:=Zo hc1 h
  refine Zi (hK2 _ ?_)
  refine aS fun K5 hK5 wK5=>(aS fun _ hK6 _=>(aR (sM R R (sQ R (ZA R YRs.slice iL) (sM R R (aZ (hK6 _ ?_)))))))
  refine Zp ?_
  refine jc1k h1 fun o1 hit1 hk1 he1=>?_
  have J1 : ∀ (u2:Unit) (i5:Nat→Nat),o1 = .nrm u2→K5 ⟨[],[],(i5 0),26⟩:=by
   intro u2 i5 e
   have h2:=hk1 _ e
   refine hK5 _ ?_
   refine aS fun _ hK7 _=>(aR (sA R R (aZ (hK7 _ ?_))))
   refine Zk ?_
   exact Y2_ h2 iL (.t (.d R))
  refine ZS (fun (x2:Int) i3=>⟨[(0,qi a1),(1,qi b1),(12,rI ((a1.length:Int))),(13,rI (x2))],[],(i3 0),26⟩) (vec [n0]) hit1 ((by exact Zc ⟨jL,jL,jL,jL,Za⟩ Za nL)) ?_
  intro x2 i3 v1 hv1 hx1
  have h3:YCl a1 b1 x2=some v1:=hv1; unfold YCl at h3
  refine aS fun _ hK8 _=>(aR (sQ R (Zx R iL iL) (aZ (hK8 _ ?_))))
  refine aS fun _ hK9 _=>?_
  refine aC R (fun hc2=>?_) (fun hc2=>?_)
  ·have h4:=Zn hc2 h3
   refine Zi (hK9 _ ?_)
   refine aS fun _ hK10 _=>(Zp (aS fun _ hK11 _=>(aR (sM R R (sA R R (aZ (hK11 _ ?_)))))))
   refine aS fun _ hK12 _=>?_
   refine ZW hmix (by kernel_rfl) ?_
   refine Zm R R R (Zf R iL) (Zm R R R (Zf R iL) (Zj h4 fun x4 ex4 h5=>(Zm R R R (Zz R YRs.slice iL iL (fun _=>R) (fun _=>ex4)) (Zm R R R (ZM (cs:=[rI (x4.Kind),rI (x4.N)]) R YVB iL R R) (Zm R R R (Zf R iL) (Zm R R R (Zf R iL) (Zj h5 fun x5 ex5 h6=>(Zm R R R (Zz R YRs.slice iL iL (fun _=>R) (fun _=>ex5)) (Zm R R R (ZM (cs:=[rI (x5.Kind),rI (x5.N)]) R YVB iL R R) (Zm R R R (YFQ R te_142 iL iL R) ?_))))))))))
   refine AQ.nil ?_
   refine hK12 _ ?_
   refine aC R (fun hc3=>?_) (fun hc3=>?_)
   ·have h7:=Zn hc3 h6
    refine aS fun _ hK13 _=>?_
    refine Zh (s':=⟨[],[],(i3 0),26⟩) (by exact Zc Za Za nL) ?_
    refine aR (sA R R (aZ (hK13 _ ?_)))
    refine Zk ?_
    exact Y2_ (he1 _ (hx1 _ (Zd h7).symm)) iL (.t (.d R))
   ·have h7:=Zo hc3 h6
    refine Zi (hK10 _ ?_)
    refine Zh (s':=⟨[(0,qi a1),(1,qi b1),(12,rI ((a1.length:Int))),(13,rI (x2))],[],(i3 0),26⟩) (by exact Zc ⟨jL,jL,jL,jL,Za⟩ Za nL) ?_
    refine aR (Zj h7 fun x6 ex6 h8=>(sQ R (ZI R iL iL (fun _=>ex6)) (sM R R ?_)))
    refine Zt ?_
    exact ZO h8 (vec [(i3 0)]) ((by exact Zc ⟨jL,jL,jL,jL,Za⟩ Za nL))
  ·have h4:=Zo hc2 h3
   refine ZJ ?_
   exact wK5 _ _ ((by exact Zc Za Za nL)) (J1 _ (vec [(i3 0)]) (hx1 _ (Zd h4).symm))
theorem YLf {a1:YAj} {b1:YAj} {r:Bool} (h:YEm a1 b1=some r):ARO Tryz.prog 88 [.agg (k18_ a1),.agg (k18_ b1)] (rB (r)):=by
 unfold YEm at h
 refine Zw Tryz.func88 R R Tryz.ntmps88 R (Ze R) fun n0=>?_
 refine aS fun _ hK1 _=>(aR (Zg R R R (ZR (cs:=(k18_ a1)) 2 R iL R R) (Zg R R R (ZR (cs:=(k18_ b1)) 3 R iL R R) (sA R R (aZ (hK1 _ ?_))))))
 refine aS fun _ hK2 _=>(aR (sQ R (fB R YR4 iL fR R) (sQ R (Zb (a:=qi a1.Rows) R YTr iL R R) (sQ R (fB R YR4 iL fR R) (sQ R (Zb (a:=qi b1.Rows) R YTr iL R R) (Zj h fun r1 er1 h1=>(Zg R R R (Zq (r:=rB (r1)) (caps:=[]) (bs:=[qi a1.Rows,qi b1.Rows]) R iL R ⟨⟨_,iL,.d R⟩,⟨_,iL,.d R⟩,Za⟩ (fun _=>YGo (er1)) R) (sM R R (sV R R R (fB R YR3 iL fR R) (sV R R R (Zb (a:=qi a1.Cols) R YTr (iR R) R R) (sV R R R (fB R YR3 iL fR R) (sV R R R (Zb (a:=qi b1.Cols) R YTr (iR R) R R) (Zj h1 fun r2 er2 h2=>?_)))))))))))))
 refine ZE (.one R R R) R R (Zq (r:=rB (r2)) (caps:=[]) (bs:=[qi a1.Cols,qi b1.Cols]) R iL R ⟨⟨_,(iR R),.d R⟩,⟨_,(iR R),.d R⟩,Za⟩ (fun hg=>YGo (gdt er2 hg)) R) ?_
 refine sQ R (Zr R iL (iR R)) (sM R R (sV R R R (fB R YR2 iL fR R) (sV R R R (Zb (a:=qd a1.Cells) R YHv (iR R) R R) (sV R R R (fB R YR2 iL fR R) (sV R R R (Zb (a:=qd b1.Cells) R YHv (iR R) R R) (Zj h2 fun r3 er3 h3=>?_))))))
 refine ZE (.one R R R) R R (Zq (r:=rB (r3)) (caps:=[]) (bs:=[qd a1.Cells,qd b1.Cells]) R iL R ⟨⟨_,(iR R),.d R⟩,⟨_,(iR R),.d R⟩,Za⟩ (fun hg=>YGp (gdt er3 hg)) R) ?_
 refine sQ R (Zr R iL (iR R)) (sM R R (sV R R R (fB R YR1 iL fR R) (sV R R R (Zb (a:=qc a1.Split) R YGj (iR R) R R) (sV R R R (fB R YR1 iL fR R) (sV R R R (Zb (a:=qc b1.Split) R YGj (iR R) R R) (Zj h3 fun r4 er4 h4=>?_))))))
 refine ZE (.one R R R) R R (Zq (r:=rB (r4)) (caps:=[]) (bs:=[qc a1.Split,qc b1.Split]) R iL R ⟨⟨_,(iR R),.d R⟩,⟨_,(iR R),.d R⟩,Za⟩ (fun hg=>YFM (gdt er4 hg)) R) ?_
 refine sQ R (Zr R iL (iR R)) (sM R R (sV R R R (fB R YR0 iL fR R) (sV R R R (Zb (a:=qc a1.Merge) R YGj (iR R) R R) (sV R R R (fB R YR0 iL fR R) (sV R R R (Zb (a:=qc b1.Merge) R YGj (iR R) R R) (Zj h4 fun r5 er5 h5=>?_))))))
 refine ZE (.one R R R) R R (Zq (r:=rB (r5)) (caps:=[]) (bs:=[qc a1.Merge,qc b1.Merge]) R iL R ⟨⟨_,(iR R),.d R⟩,⟨_,(iR R),.d R⟩,Za⟩ (fun hg=>YFM (gdt er5 hg)) R) ?_
 refine sQ R (Zr R iL (iR R)) (sA R R (aZ (hK2 _ ?_)))
 refine Zk ?_
 exact Y2_ h5 iL (.t (.d R))
theorem YNg {a1:GOp} {b1:GOp} {r:Bool} (h:YFG a1 b1=some r):ARO Tryz.prog 37 [.agg (k1_ a1),.agg (k1_ b1)] (rB (r)):=by
 unfold YFG at h
 refine Zw Tryz.func37 R R Tryz.ntmps37 R (Ze R) fun n0=>?_
 refine aS fun _ hK1 _=>(aR (Zg R R R (ZR (cs:=(k1_ a1)) 2 R iL R R) (Zg R R R (ZR (cs:=(k1_ b1)) 3 R iL R R) (sA R R (aZ (hK1 _ ?_))))))
 refine aS fun _ hK2 _=>(aR (sQ R (fB R YRz iL fR R) (sQ R (Zb (a:=rI (a1.Kind)) R ts_3 iL R R) (sQ R (fB R YRz iL fR R) (sQ R (Zb (a:=rI (b1.Kind)) R ts_3 iL R R) (sQ R (Zs R iL iL) (sM R R (sV R R R (fB R YRy iL fR R) (sV R R R (Zb (a:=rI (a1.Node)) R ts_3 (iR R) R R) (sV R R R (fB R YRy iL fR R) (sV R R R (Zb (a:=rI (b1.Node)) R ts_3 (iR R) R R) (sV R R R (Zs R (iR R) (iR R)) (sQ R (Zr R iL (iR R)) (sM R R (sV R R R (fB R YRx iL fR R) (sV R R R (YA7 (ds:=(k7_ a1.New)) R YJq (iR R) R R R) (sV R R R (fB R YRx iL fR R) (sV R R R (YA7 (ds:=(k7_ b1.New)) R YJq (iR R) R R R) (Zj h fun r1 er1 h1=>?_)))))))))))))))))))
 refine ZE (.one R R R) R R (Zq (r:=rB (r1)) (caps:=[]) (bs:=[.agg (k7_ a1.New),.agg (k7_ b1.New)]) R iL R ⟨⟨_,(iR R),.g (cs:=[.int .i64 a1.New.ID,.int .i64 a1.New.Kind,.sl (a1.New.Attrs.map YAG.row),.sl (a1.New.Flow.map YAC.row),.int .i64 a1.New.Grid.Rows,.int .i64 a1.New.Grid.Cols,.sl (a1.New.Grid.Cells.map YAY.row),.sl (a1.New.Grid.Merges.map YAX.row),.sl (a1.New.Draw.map YAN.row)]) R R⟩,⟨_,(iR R),.g (cs:=[.int .i64 b1.New.ID,.int .i64 b1.New.Kind,.sl (b1.New.Attrs.map YAG.row),.sl (b1.New.Flow.map YAC.row),.int .i64 b1.New.Grid.Rows,.int .i64 b1.New.Grid.Cols,.sl (b1.New.Grid.Cells.map YAY.row),.sl (b1.New.Grid.Merges.map YAX.row),.sl (b1.New.Draw.map YAN.row)]) R R⟩,Za⟩ (fun hg=>YLc (gdt er1 hg)) R) ?_
 refine sQ R (Zr R iL (iR R)) (sM R R (sV R R R (fB R YRw iL fR R) (sV R R R (Zb (a:=qa a1.Attrs) R YCi (iR R) R R) (sV R R R (fB R YRw iL fR R) (sV R R R (Zb (a:=qa b1.Attrs) R YCi (iR R) R R) (Zj h1 fun r2 er2 h2=>?_))))))
 refine ZE (.one R R R) R R (Zq (r:=rB (r2)) (caps:=[]) (bs:=[qa a1.Attrs,qa b1.Attrs]) R iL R ⟨⟨_,(iR R),.d R⟩,⟨_,(iR R),.d R⟩,Za⟩ (fun hg=>YCM (gdt er2 hg)) R) ?_
 refine sQ R (Zr R iL (iR R)) (sM R R (sV R R R (fB R YRv iL fR R) (sV R R R (Zb (a:=qg a1.Steps) R YKh (iR R) R R) (sV R R R (fB R YRv iL fR R) (sV R R R (Zb (a:=qg b1.Steps) R YKh (iR R) R R) (Zj h2 fun r3 er3 h3=>?_))))))
 refine ZE (.one R R R) R R (Zq (r:=rB (r3)) (caps:=[]) (bs:=[qg a1.Steps,qg b1.Steps]) R iL R ⟨⟨_,(iR R),.d R⟩,⟨_,(iR R),.d R⟩,Za⟩ (fun hg=>YKO (gdt er3 hg)) R) ?_
 refine sQ R (Zr R iL (iR R)) (sM R R (sV R R R (fB R YRu iL fR R) (sV R R R (YA7 (ds:=(k18_ a1.Grid)) R ta_74 (iR R) R R R) (sV R R R (fB R YRu iL fR R) (sV R R R (YA7 (ds:=(k18_ b1.Grid)) R ta_74 (iR R) R R R) (Zj h3 fun r4 er4 h4=>?_))))))
 refine ZE (.one R R R) R R (Zq (r:=rB (r4)) (caps:=[]) (bs:=[.agg (k18_ a1.Grid),.agg (k18_ b1.Grid)]) R iL R ⟨⟨_,(iR R),.g (cs:=[.sl (a1.Grid.Rows.map YAo.row),.sl (a1.Grid.Cols.map YAo.row),.sl (a1.Grid.Cells.map YAY.row),.sl (a1.Grid.Split.map YAX.row),.sl (a1.Grid.Merge.map YAX.row)]) R R⟩,⟨_,(iR R),.g (cs:=[.sl (b1.Grid.Rows.map YAo.row),.sl (b1.Grid.Cols.map YAo.row),.sl (b1.Grid.Cells.map YAY.row),.sl (b1.Grid.Split.map YAX.row),.sl (b1.Grid.Merge.map YAX.row)]) R R⟩,Za⟩ (fun hg=>YLf (gdt er4 hg)) R) ?_
 refine sQ R (Zr R iL (iR R)) (sM R R (sV R R R (fB R YRt iL fR R) (sV R R R (Zb (a:=qe a1.Draw) R YLk (iR R) R R) (sV R R R (fB R YRt iL fR R) (sV R R R (Zb (a:=qe b1.Draw) R YLk (iR R) R R) (Zj h4 fun r5 er5 h5=>?_))))))
 refine ZE (.one R R R) R R (Zq (r:=rB (r5)) (caps:=[]) (bs:=[qe a1.Draw,qe b1.Draw]) R iL R ⟨⟨_,(iR R),.d R⟩,⟨_,(iR R),.d R⟩,Za⟩ (fun hg=>YIE (gdt er5 hg)) R) ?_
 refine sQ R (Zr R iL (iR R)) (sA R R (aZ (hK2 _ ?_)))
 refine Zk ?_
 exact Y2_ h5 iL (.t (.d R))
theorem YGe {a1:List GOp} {b1:List GOp} {r:Bool} (h:YCx a1 b1=some r):ARO Tryz.prog 13 [qh a1,qh b1] (rB (r)):=by
 unfold YCx at h
 refine Zw Tryz.func13 R R Tryz.ntmps13 R (Ze R) fun n0=>?_
 refine aS fun _ hK1 _=>(aR (sA R R (aZ (hK1 _ ?_))))
 refine aS fun _ hK2 _=>(aS fun _ hK3 _=>(aR (sM R R (sQ R (ZA R YKn.slice iL) (sM R R (sQ R (ZA R YKn.slice iL) (sQ R (ZH R iL iL) (aZ (hK3 _ ?_)))))))))
 refine aC R (fun hc1=>?_) (fun hc1=>?_)
 ·have h1:=Zn hc1 h
  refine aS fun _ hK4 _=>(aR (sA R R (aZ (hK4 _ ?_))))
  refine Zk ?_
  exact Y2_ h1 iL (.t (.d R))
 ·have h1:=Zo hc1 h
  refine Zi (hK2 _ ?_)
  refine aS fun K5 hK5 wK5=>(aS fun _ hK6 _=>(aR (sM R R (sQ R (ZA R YKn.slice iL) (sM R R (aZ (hK6 _ ?_)))))))
  refine Zp ?_
  refine jc1k h1 fun o1 hit1 hk1 he1=>?_
  have J1 : ∀ (u2:Unit) (i5:Nat→Nat),o1 = .nrm u2→K5 ⟨[],[],(i5 0),27⟩:=by
   intro u2 i5 e
   have h2:=hk1 _ e
   refine hK5 _ ?_
   refine aS fun _ hK7 _=>(aR (sA R R (aZ (hK7 _ ?_))))
   refine Zk ?_
   exact Y2_ h2 iL (.t (.d R))
  refine ZS (fun (x2:Int) i3=>⟨[(0,qh a1),(1,qh b1),(12,rI ((a1.length:Int))),(13,rI (x2))],[],(i3 0),27⟩) (vec [n0]) hit1 ((by exact Zc ⟨jL,jL,jL,jL,Za⟩ Za nL)) ?_
  intro x2 i3 v1 hv1 hx1
  have h3:YCQ a1 b1 x2=some v1:=hv1; unfold YCQ at h3
  refine aS fun _ hK8 _=>(aR (sQ R (Zx R iL iL) (aZ (hK8 _ ?_))))
  refine aS fun _ hK9 _=>?_
  refine aC R (fun hc2=>?_) (fun hc2=>?_)
  ·have h4:=Zn hc2 h3
   refine Zi (hK9 _ ?_)
   refine aS fun _ hK10 _=>(Zp (aS fun _ hK11 _=>(aR (sM R R (sA R R (aZ (hK11 _ ?_)))))))
   refine aS fun _ hK12 _=>?_
   refine ZW hmix (by kernel_rfl) ?_
   refine Zm R R R (Zf R iL) (Zm R R R (Zf R iL) (Zj h4 fun x4 ex4 h5=>(Zm R R R (Zz R YKn.slice iL iL (fun _=>R) (fun _=>ex4)) (Zm R R R (ZM (cs:=(k1_ x4)) R ta_76 iL R R) (Zm R R R (Zf R iL) (Zm R R R (Zf R iL) (Zj h5 fun x5 ex5 h6=>(Zm R R R (Zz R YKn.slice iL iL (fun _=>R) (fun _=>ex5)) (Zm R R R (ZM (cs:=(k1_ x5)) R ta_76 iL R R) (Zj h6 fun r1 er1 h7=>?_))))))))))
   refine AQ.stepC R R R (r:=rB (r1)) (caps:=[]) (bs:=[.agg (k1_ x4),.agg (k1_ x5)]) R iL R ⟨⟨_,iL,.g (cs:=[.int .i64 x4.Kind,.int .i64 x4.Node,.int .i64 x4.New.ID,.int .i64 x4.New.Kind,.sl (x4.New.Attrs.map YAG.row),.sl (x4.New.Flow.map YAC.row),.int .i64 x4.New.Grid.Rows,.int .i64 x4.New.Grid.Cols,.sl (x4.New.Grid.Cells.map YAY.row),.sl (x4.New.Grid.Merges.map YAX.row),.sl (x4.New.Draw.map YAN.row),.sl (x4.Attrs.map YAG.row),.sl (x4.Steps.map YAB.row),.sl (x4.Grid.Rows.map YAo.row),.sl (x4.Grid.Cols.map YAo.row),.sl (x4.Grid.Cells.map YAY.row),.sl (x4.Grid.Split.map YAX.row),.sl (x4.Grid.Merge.map YAX.row),.sl (x4.Draw.map YAN.row)]) R R⟩,⟨_,iL,.g (cs:=[.int .i64 x5.Kind,.int .i64 x5.Node,.int .i64 x5.New.ID,.int .i64 x5.New.Kind,.sl (x5.New.Attrs.map YAG.row),.sl (x5.New.Flow.map YAC.row),.int .i64 x5.New.Grid.Rows,.int .i64 x5.New.Grid.Cols,.sl (x5.New.Grid.Cells.map YAY.row),.sl (x5.New.Grid.Merges.map YAX.row),.sl (x5.New.Draw.map YAN.row),.sl (x5.Attrs.map YAG.row),.sl (x5.Steps.map YAB.row),.sl (x5.Grid.Rows.map YAo.row),.sl (x5.Grid.Cols.map YAo.row),.sl (x5.Grid.Cells.map YAY.row),.sl (x5.Grid.Split.map YAX.row),.sl (x5.Grid.Merge.map YAX.row),.sl (x5.Draw.map YAN.row)]) R R⟩,Za⟩ (fun _=>YNg (er1)) R ?_
   refine Zm R R R (ZQ R iL) ?_
   refine AQ.nil ?_
   refine hK12 _ ?_
   refine aC R (fun hc3=>?_) (fun hc3=>?_)
   ·have h8:=Zn hc3 h7
    refine aS fun _ hK13 _=>?_
    refine Zh (s':=⟨[],[],(i3 0),27⟩) (by exact Zc Za Za nL) ?_
    refine aR (sA R R (aZ (hK13 _ ?_)))
    refine Zk ?_
    exact Y2_ (he1 _ (hx1 _ (Zd h8).symm)) iL (.t (.d R))
   ·have h8:=Zo hc3 h7
    refine Zi (hK10 _ ?_)
    refine Zh (s':=⟨[(0,qh a1),(1,qh b1),(12,rI ((a1.length:Int))),(13,rI (x2))],[],(i3 0),27⟩) (by exact Zc ⟨jL,jL,jL,jL,Za⟩ Za nL) ?_
    refine aR (Zj h8 fun x6 ex6 h9=>(sQ R (ZI R iL iL (fun _=>ex6)) (sM R R ?_)))
    refine Zt ?_
    exact ZO h9 (vec [(i3 0)]) ((by exact Zc ⟨jL,jL,jL,jL,Za⟩ Za nL))
  ·have h4:=Zo hc2 h3
   refine ZJ ?_
   exact wK5 _ _ ((by exact Zc Za Za nL)) (J1 _ (vec [(i3 0)]) (hx1 _ (Zd h4).symm))
end Go.Proofs.YtdafahjmopdleaaGreatDoor.Al
