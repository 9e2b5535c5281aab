/- Walks, as printed. -/
import Derived.Test.YtelkfhdgmbahgaaWlk212
import Derived.Test.YtelkfhdgmbahgaaProg
set_option maxHeartbeats 4000000
set_option maxRecDepth 20000
set_option linter.unusedVariables false
namespace Go.Proofs.Ytelkfhdgmbahgaa.Al
open Go.Proofs
set_option linter.defProp false
theorem ML {l1:List AD} {r:Int} (h:GF l1=some r):Aq Try.prog 9 [qa l1] (rI (r)):=by
 unfold GF at h
 refine ZJ Try.func9 R R Try.ntmps9 R (Zi R) fun n0=>?_
 refine aS fun _ hK1 _=>(aR (sA R R (aZ (hK1 _ ?_))))
 refine aS fun K2 hK2 wK2=>(aS fun _ hK3 _=>(aR (sM R R (sQ R (ZD R Ak.slice iL) (sM R R (aZ (hK3 _ ?_)))))))
 refine Zj ?_
 refine Be h fun o1 hit1 hk1 he1=>?_
 have J1 : ∀ (u2:Unit) (i5:Nat→Nat),o1 = .nrm u2→K2 ⟨[],[],(i5 0),91⟩:=by
  intro u2 i5 e
  have h1:=hk1 _ e
  refine hK2 _ ?_
  refine aS fun _ hK4 _=>(aR (sA R R (aZ (hK4 _ ?_))))
  refine Zr ?_
  exact BI h1 iL (.t (.d R))
 refine Cj (fun (x2:Int) i3=>⟨[(0,qa l1),(6,rI ((l1.length:Int))),(7,rI (x2))],[],(i3 0),91⟩) (AI [n0]) hit1 ((by exact Ze ⟨jL,jL,jL,Za⟩ Za nL)) ?_
 intro x2 i3 v1 hv1 hx1
 have h2:Hu l1 x2=some v1:=hv1; unfold Hu at h2
 refine aS fun _ hK5 _=>(aR (sQ R (Zs R iL iL) (aZ (hK5 _ ?_))))
 refine aS fun _ hK6 _=>?_
 refine aC R (fun hc1=>?_) (fun hc1=>?_)
 ·have h3:=Zo hc1 h2
  refine Zl (hK6 _ ?_)
  refine aS fun _ hK7 _=>(Zj (aS fun _ hK8 _=>(aR (sM R R (sA R R (aZ (hK8 _ ?_)))))))
  refine aS fun _ hK9 _=>(aR (sM R R (sM R R (Zk h3 fun x4 ex4 h4=>(sQ R (Zt R Ak.slice iL iL (fun _=>R) (fun _=>ex4)) (sQ R (ZH (cs:=(Aa x4)) R B1 iL R R) (Zg R R R (Bz (cs:=KA) 4 R Gy R R) (Zz R R (ZI (ds:=(Aa x4)) R G9 iL R iL R R R R) (aZ (hK9 _ ?_))))))))))
  refine aS fun _ hK10 _=>(aS fun _ hK11 _=>(aR (sQ R (fB R B3 iL fR R) (sQ R (Zc (a:=rI (x4.Kind)) R AP iL R R) (sQ R (BR R iL iL) (sM R R (sV R R R (fB R B3 iL fR R) (sV R R R (Zc (a:=rI (x4.Kind)) R AP (iR R) R R) (sV R R R (BR R (iR R) iL) (sQ R (ZB R iL (iR R)) (aZ (hK11 _ ?_))))))))))))
  refine aC R (fun hc2=>?_) (fun hc2=>?_)
  ·have h5:=Zo hc2 h4
   refine aS fun _ hK12 _=>?_
   refine aK (s':=⟨[],[],((i3 0)+1),91⟩) ?_
   refine aR (sA R R (aZ (hK12 _ ?_)))
   refine Zr ?_
   exact BI (he1 _ (hx1 _ (Zb h5).symm)) iL (.t (.d R))
  ·have h5:=Zp hc2 h4
   refine Zl (hK10 _ ?_)
   refine aS fun _ hK13 _=>(aS fun _ hK14 _=>?_)
   refine aK (s':=⟨[(0,qa l1),(3,rI (x2)),(4,.ptr 4 (i3 0) 0 0),(6,rI ((l1.length:Int))),(7,rI (x2))],[(4,some (.box (i3 0) 46 (Aa x4)))],((i3 0)+1),91⟩) ?_
   refine aR (sQ R (fB R C8 iL fR R) (sQ R (Zc (a:=rI (x4.Clock)) R AP iL R R) (Zk h5 fun r1 er1 h6=>(Zg R R R (ZC (r:=rB (r1)) (caps:=[]) (bs:=[rI (x4.Clock),rI (1),rI (1073741824)]) R iL R ⟨⟨_,iL,.d R⟩,⟨_,iL,.d R⟩,⟨_,iL,.d R⟩,Za⟩ (fun _=>G5 (er1)) R) (sQ R (Bh R iL) (sM R R (sV R R R (fB R D8 iL fR R) (sV R R R (Zc (a:=rI (x4.Site)) R AP (iR R) R R) (Zk h6 fun r2 er2 h7=>?_)))))))))
   refine AS.stepW (.one R R R) R R (ZC (r:=rB (r2)) (caps:=[]) (bs:=[rI (x4.Site),rI (0),rI (1000)]) R iL R ⟨⟨_,(iR R),.d R⟩,⟨_,iL,.d R⟩,⟨_,iL,.d R⟩,Za⟩ (fun hg=>G5 (Ai er2 hg)) R) ?_
   refine sV R R R (Bh R (iR R)) (sQ R (ZF R iL (iR R)) (sM R R (sV R R R (fB R B8 iL fR R) (sV R R R (Zc (a:=rI (x4.Item)) R AP (iR R) R R) (Zk h7 fun r3 er3 h8=>?_)))))
   refine AS.stepW (.one R R R) R R (ZC (r:=rB (r3)) (caps:=[]) (bs:=[rI (x4.Item),rI (1),rI (1073741824)]) R iL R ⟨⟨_,(iR R),.d R⟩,⟨_,iL,.d R⟩,⟨_,iL,.d R⟩,Za⟩ (fun hg=>G5 (Ai er3 hg)) R) ?_
   refine sV R R R (Bh R (iR R)) (sQ R (ZF R iL (iR R)) (aZ (hK14 _ ?_)))
   refine aC R (fun hc3=>?_) (fun hc3=>?_)
   ·have h9:=Zo hc3 h8
    refine aS fun _ hK15 _=>?_
    refine aK (s':=⟨[],[],((i3 0)+1),91⟩) ?_
    refine aR (sA R R (aZ (hK15 _ ?_)))
    refine Zr ?_
    exact BI (he1 _ (hx1 _ (Zb h9).symm)) iL (.t (.d R))
   ·have h9:=Zp hc3 h8
    refine Zl (hK13 _ ?_)
    refine aS fun K16 hK16 wK16=>(aS fun _ hK17 _=>(aR (sQ R (fB R B3 iL fR R) (sQ R (Zc (a:=rI (x4.Kind)) R AP iL R R) (sQ R (ZM R iL iL) (aZ (hK17 _ ?_)))))))
    refine Be h9 fun p1 hp1 hk2 he2=>?_
    have J2 : ∀ (u3:Unit) (i6:Nat→Nat),p1 = .nrm u3→K16 ⟨[(0,qa l1),(3,rI (x2)),(4,.ptr 4 (i3 0) 0 0),(6,rI ((l1.length:Int))),(7,rI (x2))],[(4,some (.box (i3 0) 46 (Aa x4)))],(i6 0),91⟩:=by
     intro u3 i6 e
     have h10:=hk2 _ e
     refine hK16 _ ?_
     refine aS fun _ hK18 _=>?_
     refine ZQ BD (by kernel_rfl) ?_
     refine Zh R R R (Zd R iL) (Zh R R R (A7 R iL iL) (Zh R R R (Zd R iL) ?_))
     refine Zf (.one R R R) R R (Zd R iL) ?_
     refine Zf (.one R R R) R R (Zd R iL) ?_
     refine Zk h10 fun x5 ex5 h11=>?_
     refine Zf (.one R R R) R R (D0 R (iR R) iL (Ai ex5)) ?_
     refine Zk h11 fun x6 ex6 h12=>?_
     refine Zf (.one R R R) R R (Zt R Ak.slice (iR R) (iR R) (fun _=>R) (Ai ex6)) ?_
     refine Zf (.one R R R) R R (ZH (cs:=(Aa x6)) R B1 (iR R) R R) ?_
     refine Zf (.one R R R) R R (DM R B1 iL R R) ?_
     refine Zk h12 fun r4 er4 h13=>?_
     refine JN (.one R R R) R R (r:=rB (r4)) (caps:=[]) (bs:=[.agg (Aa x6),.agg (Aa x4)]) R iL R ⟨⟨_,(iR R),.g (cs:=[.int .i64 x6.Clock,.int .i64 x6.Site,.int .i64 x6.Kind,.int .i64 x6.Item,.int .i64 x6.Parent,.str x6.Place,.str x6.Name,.str x6.Value]) R R⟩,⟨_,(iR R),.g (cs:=[.int .i64 x4.Clock,.int .i64 x4.Site,.int .i64 x4.Kind,.int .i64 x4.Item,.int .i64 x4.Parent,.str x4.Place,.str x4.Name,.str x4.Value]) R R⟩,Za⟩ (fun hg=>QR (Ai er4 hg)) R ?_
     refine Zf (.one R R R) R R (Bh R (iR R)) ?_
     refine Zh R R R (ZB R iL (iR R)) ?_
     refine AQ.nil ?_
     refine hK18 _ ?_
     refine aC R (fun hc4=>?_) (fun hc4=>?_)
     ·have h14:=Zo hc4 h13
      refine aS fun _ hK19 _=>?_
      refine aK (s':=⟨[],[],(i6 0),91⟩) ?_
      refine aR (sA R R (aZ (hK19 _ ?_)))
      refine Zr ?_
      exact BI (he1 _ (hx1 _ (Zb h14).symm)) iL (.t (.d R))
     ·have h14:=Zp hc4 h13
      refine Zl (hK7 _ ?_)
      refine aR (Zk h14 fun x7 ex7 h15=>(sQ R (ZA R iL iL (fun _=>ex7)) (sM R R ?_)))
      refine Zm ?_
      exact CB.mk h15 (AI [(i6 0)]) ((by exact Ze ⟨jL,jL,jL,Za⟩ Za nL))
    refine aC R (fun hc5=>?_) (fun hc5=>?_)
    ·have h16:=Zo hc5 hp1
     refine aS fun _ hK20 _=>(aS fun _ hK21 _=>?_)
     refine aK (s':=⟨[(0,qa l1),(3,rI (x2)),(4,.ptr 4 (i3 0) 0 0),(6,rI ((l1.length:Int))),(7,rI (x2))],[(4,some (.box (i3 0) 46 (Aa x4)))],((i3 0)+1),91⟩) ?_
     refine aR (sQ R (fB R GS iL fR R) (sQ R (Zc (a:=.r (.str x4.Name)) R Aj iL R R) (sQ R (C1 R iL iL) (sM R R (sV R R R (fB R E5 iL fR R) (sV R R R (Zc (a:=.r (.str x4.Value)) R Aj (iR R) R R) (sV R R R (C1 R (iR R) iL) (sQ R (ZF R iL (iR R)) (aZ (hK21 _ ?_))))))))))
     refine aC R (fun hc6=>?_) (fun hc6=>?_)
     ·have h17:=Zo hc6 h16
      refine aS fun _ hK22 _=>?_
      refine aK (s':=⟨[],[],((i3 0)+1),91⟩) ?_
      refine aR (sA R R (aZ (hK22 _ ?_)))
      refine Zr ?_
      exact BI (he1 _ (hx1 _ (Zb (he2 _ (Zb h17).symm)).symm)) iL (.t (.d R))
     ·have h17:=Zp hc6 h16
      refine Zl (hK20 _ ?_)
      refine aS fun _ hK23 _=>(aS fun _ hK24 _=>(aR (sQ R (fB R DC iL fR R) (sQ R (Zc (a:=rI (x4.Parent)) R AP iL R R) (Zk h17 fun r5 er5 h18=>(Zg R R R (ZC (r:=rB (r5)) (caps:=[]) (bs:=[rI (x4.Parent),rI ((-1)),rI (1073741824)]) R iL R ⟨⟨_,iL,.d R⟩,⟨_,iL,.d R⟩,⟨_,iL,.d R⟩,Za⟩ (fun _=>G5 (er5)) R) (sQ R (Bh R iL) (aZ (hK24 _ ?_)))))))))
      refine aC R (fun hc7=>?_) (fun hc7=>?_)
      ·have h19:=Zo hc7 h18
       refine aS fun _ hK25 _=>?_
       refine aK (s':=⟨[],[],((i3 0)+1),91⟩) ?_
       refine aR (sA R R (aZ (hK25 _ ?_)))
       refine Zr ?_
       exact BI (he1 _ (hx1 _ (Zb (he2 _ (Zb h19).symm)).symm)) iL (.t (.d R))
      ·have h19:=Zp hc7 h18
       refine Zl (hK23 _ ?_)
       refine aS fun _ hK26 _=>?_
       refine aK (s':=⟨[(0,qa l1),(3,rI (x2)),(4,.ptr 4 (i3 0) 0 0),(6,rI ((l1.length:Int))),(7,rI (x2))],[(4,some (.box (i3 0) 46 (Aa x4)))],((i3 0)+1),91⟩) ?_
       refine aR (sQ R (fB R FY iL fR R) (sQ R (Zc (a:=.r (.str x4.Place)) R Aj iL R R) (Zk h19 fun r6 er6 h20=>(Zg R R R (ZC (r:=rB (r6)) (caps:=[]) (bs:=[.r (.str x4.Place)]) R iL R ⟨⟨_,iL,.d R⟩,Za⟩ (fun _=>RU (er6)) R) (sQ R (Bh R iL) (aZ (hK26 _ ?_)))))))
       refine aC R (fun hc8=>?_) (fun hc8=>?_)
       ·have h21:=Zo hc8 h20
        refine aS fun _ hK27 _=>?_
        refine aK (s':=⟨[],[],((i3 0)+1),91⟩) ?_
        refine aR (sA R R (aZ (hK27 _ ?_)))
        refine Zr ?_
        exact BI (he1 _ (hx1 _ (Zb (he2 _ (Zb h21).symm)).symm)) iL (.t (.d R))
       ·have h21:=Zp hc8 h20
        refine Zl ?_
        exact wK16 _ _ ((by exact Ze ⟨jL,jL,jL,jL,jL,Za⟩ ⟨.inl R,Za⟩ nL)) (J2 _ (AI [((i3 0)+1)]) (Zb h21).symm)
    ·have h16:=Zp hc5 hp1
     refine aS fun _ hK28 _=>(aS fun _ hK29 _=>?_)
     refine aK (s':=⟨[(0,qa l1),(3,rI (x2)),(4,.ptr 4 (i3 0) 0 0),(6,rI ((l1.length:Int))),(7,rI (x2))],[(4,some (.box (i3 0) 46 (Aa x4)))],((i3 0)+1),91⟩) ?_
     refine aR (sQ R (fB R DC iL fR R) (sQ R (Zc (a:=rI (x4.Parent)) R AP iL R R) (sQ R (BR R iL iL) (sM R R (sV R R R (fB R FY iL fR R) (sV R R R (Zc (a:=.r (.str x4.Place)) R Aj (iR R) R R) (sV R R R (C1 R (iR R) iL) (sQ R (ZF R iL (iR R)) (aZ (hK29 _ ?_))))))))))
     refine aC R (fun hc9=>?_) (fun hc9=>?_)
     ·have h22:=Zo hc9 h16
      refine aS fun _ hK30 _=>?_
      refine aK (s':=⟨[],[],((i3 0)+1),91⟩) ?_
      refine aR (sA R R (aZ (hK30 _ ?_)))
      refine Zr ?_
      exact BI (he1 _ (hx1 _ (Zb (he2 _ (Zb h22).symm)).symm)) iL (.t (.d R))
     ·have h22:=Zp hc9 h16
      refine Zl (hK28 _ ?_)
      refine aS fun _ hK31 _=>(aS fun _ hK32 _=>(aR (sQ R (fB R GS iL fR R) (sQ R (Zc (a:=.r (.str x4.Name)) R Aj iL R R) (Zk h22 fun r7 er7 h23=>(Zg R R R (ZC (r:=rB (r7)) (caps:=[]) (bs:=[.r (.str x4.Name)]) R iL R ⟨⟨_,iL,.d R⟩,Za⟩ (fun _=>Uc (er7)) R) (sQ R (Bh R iL) (aZ (hK32 _ ?_)))))))))
      refine aC R (fun hc10=>?_) (fun hc10=>?_)
      ·have h24:=Zo hc10 h23
       refine aS fun _ hK33 _=>?_
       refine aK (s':=⟨[],[],((i3 0)+1),91⟩) ?_
       refine aR (sA R R (aZ (hK33 _ ?_)))
       refine Zr ?_
       exact BI (he1 _ (hx1 _ (Zb (he2 _ (Zb h24).symm)).symm)) iL (.t (.d R))
      ·have h24:=Zp hc10 h23
       refine Zl (hK31 _ ?_)
       refine aS fun _ hK34 _=>?_
       refine aK (s':=⟨[(0,qa l1),(3,rI (x2)),(4,.ptr 4 (i3 0) 0 0),(6,rI ((l1.length:Int))),(7,rI (x2))],[(4,some (.box (i3 0) 46 (Aa x4)))],((i3 0)+1),91⟩) ?_
       refine aR (sQ R (fB R E5 iL fR R) (sQ R (Zc (a:=.r (.str x4.Value)) R Aj iL R R) (sQ R (C1 R iL iL) (sM R R (sV R R R (fB R E5 iL fR R) (sV R R R (Zc (a:=.r (.str x4.Value)) R Aj (iR R) R R) (Zk h24 fun r8 er8 h25=>?_)))))))
       refine AS.stepW (.one R R R) R R (ZC (r:=rB (r8)) (caps:=[]) (bs:=[.r (.str x4.Value)]) R iL R ⟨⟨_,(iR R),.d R⟩,Za⟩ (fun hg=>Ss (Ai er8 hg)) R) ?_
       refine sV R R R (Bh R (iR R)) (sQ R (ZB R iL (iR R)) (aZ (hK34 _ ?_)))
       refine aC R (fun hc11=>?_) (fun hc11=>?_)
       ·have h26:=Zo hc11 h25
        refine aS fun _ hK35 _=>?_
        refine aK (s':=⟨[],[],((i3 0)+1),91⟩) ?_
        refine aR (sA R R (aZ (hK35 _ ?_)))
        refine Zr ?_
        exact BI (he1 _ (hx1 _ (Zb (he2 _ (Zb h26).symm)).symm)) iL (.t (.d R))
       ·have h26:=Zp hc11 h25
        refine Zl ?_
        exact wK16 _ _ ((by exact Ze ⟨jL,jL,jL,jL,jL,Za⟩ ⟨.inl R,Za⟩ nL)) (J2 _ (AI [((i3 0)+1)]) (Zb h26).symm)
 ·have h3:=Zp hc1 h2
  refine Zx ?_
  exact wK2 _ _ ((by exact Ze Za Za nL)) (J1 _ (AI [(i3 0)]) (hx1 _ (Zb h3).symm))
theorem Dh {l1:List AB} {item1:Int} {r:Int} (h:CN l1 item1=some r):Aq Try.prog 32 [qc l1,rI (item1)] (rI (r)):=by
 unfold CN at h
 refine ZJ Try.func32 R R Try.ntmps32 R (Zi R) fun n0=>?_
 refine aS fun _ hK1 _=>(aR (sA R R (aZ (hK1 _ ?_))))
 refine aS fun K2 hK2 wK2=>(aS fun _ hK3 _=>(aR (sM R R (sQ R (ZD R AZ.slice iL) (sM R R (aZ (hK3 _ ?_)))))))
 refine Zj ?_
 refine Be h fun o1 hit1 hk1 he1=>?_
 have J1 : ∀ (u2:Unit) (i5:Nat→Nat),o1 = .nrm u2→K2 ⟨[],[],(i5 0),20⟩:=by
  intro u2 i5 e
  have h1:=hk1 _ e
  refine hK2 _ ?_
  refine aS fun _ hK4 _=>(aR (sA R R (aZ (hK4 _ ?_))))
  refine Zr ?_
  exact BI h1 iL (.t (.d R))
 refine Cj (fun (x2:Int) i3=>⟨[(0,qc l1),(1,rI (item1)),(7,rI ((l1.length:Int))),(8,rI (x2))],[],(i3 0),20⟩) (AI [n0]) hit1 ((by exact Ze ⟨jL,jL,jL,jL,Za⟩ Za nL)) ?_
 intro x2 i3 v1 hv1 hx1
 have h2:FC l1 item1 x2=some v1:=hv1; unfold FC at h2
 refine aS fun _ hK5 _=>(aR (sQ R (Zs R iL iL) (aZ (hK5 _ ?_))))
 refine aS fun _ hK6 _=>?_
 refine aC R (fun hc1=>?_) (fun hc1=>?_)
 ·have h3:=Zo hc1 h2
  refine Zl (hK6 _ ?_)
  refine aS fun _ hK7 _=>(Zj (aS fun _ hK8 _=>(aR (sM R R (sA R R (aZ (hK8 _ ?_)))))))
  refine aS fun _ hK9 _=>(aR (sM R R (sM R R (Zk h3 fun x4 ex4 h4=>(sQ R (Zt R AZ.slice iL iL (fun _=>R) (fun _=>ex4)) (sQ R (Zn R BT iL) (sQ R (Zy (d:=.int .i64 x4.Item) R AP iL R) (sM R R (sQ R (ZM R iL iL) (aZ (hK9 _ ?_)))))))))))
  refine aC R (fun hc2=>?_) (fun hc2=>?_)
  ·have h5:=Zo hc2 h4
   refine aS fun _ hK10 _=>?_
   refine aK (s':=⟨[(5,rI (x2))],[],(i3 0),20⟩) ?_
   refine aR (sM R R (sA R R (aZ (hK10 _ ?_))))
   refine Zr ?_
   exact BI (he1 _ (hx1 _ (Zb h5).symm)) iL (.t (.d R))
  ·have h5:=Zp hc2 h4
   refine Zl (hK7 _ ?_)
   refine aK (s':=⟨[(0,qc l1),(1,rI (item1)),(7,rI ((l1.length:Int))),(8,rI (x2))],[],(i3 0),20⟩) ?_
   refine aR (Zk h5 fun x5 ex5 h6=>(sQ R (ZA R iL iL (fun _=>ex5)) (sM R R ?_)))
   refine Zm ?_
   exact CB.mk h6 (AI [(i3 0)]) ((by exact Ze ⟨jL,jL,jL,jL,Za⟩ Za nL))
 ·have h3:=Zp hc1 h2
  refine Zx ?_
  exact wK2 _ _ ((by exact Ze Za Za nL)) (J1 _ (AI [(i3 0)]) (hx1 _ (Zb h3).symm))
theorem Kk {l1:List AC} {a1:AC} {r:(List AC)} (h:Dv l1 a1=some r):Aq Try.prog 64 [qb l1,.agg [.r (.str a1.Name), .r (.str a1.Value)]] (qb r):=by
 unfold Dv at h
 refine ZJ Try.func64 R R Try.ntmps64 R (Zi R) fun n0=>?_
 refine aS fun _ hK1 _=>(aR (Zg R R R (CS (cs:=[.r (.str a1.Name), .r (.str a1.Value)]) 3 R iL R R) (sA R R (aZ (hK1 _ ?_)))))
 refine aS fun _ hK2 _=>(aR (sA R R (aZ (hK2 _ ?_))))
 refine aS fun _ hK3 _=>(aR (sA R R (aZ (hK3 _ ?_))))
 refine aS fun K4 hK4 wK4=>(aS fun _ hK5 _=>(aR (sM R R (sQ R (ZD R Ah.slice iL) (sM R R (aZ (hK5 _ ?_)))))))
 refine Zj ?_
 refine FQ h fun o1 hit1 hk1=>?_
 have J1 : ∀ (done4:Bool) (out4:List AC) (i5:Nat→Nat),o1=(done4,out4)→K4 ⟨[(3,.ptr 3 n0 0 0),(5,.own 5005 (i5 0)),(6,rB (done4))],[(3,some (.box n0 80 [.r (.str a1.Name), .r (.str a1.Value)])),(5005,some (.arr (i5 0) 80 2 (out4.map AC.row)))],(i5 1),52⟩:=by
  intro done4 out4 i5 e
  have h1:=hk1 _ _ e
  refine hK4 _ ?_
  refine aS fun K6 hK6 wK6=>(aS fun _ hK7 _=>(aR (sM R R (sQ R (Bh R iL) (aZ (hK7 _ ?_))))))
  refine BB h1 fun p1 hp1 hk2=>?_
  have J2 : ∀ (out5:List AC) (i6:Nat→Nat),p1=out5→K6 ⟨[(5,.own 5005 (i6 0))],[(5005,some (.arr (i6 0) 80 2 (out5.map AC.row)))],(i6 1),52⟩:=by
   intro out5 i6 e
   have h2:=hk2 _ e
   refine hK6 _ ?_
   refine aS fun _ hK8 _=>(aR (sM R R (sA R R (aZ (hK8 _ ?_)))))
   refine Zr ?_
   exact Dl (P:=Try.prog) (fun (r:(List AC))=>qb r) h2 iL (.t (.one (.own R)))
  refine aC R (fun hc1=>?_) (fun hc1=>?_)
  ·have h3:=Zo hc1 hp1
   refine aR (sM R R (sQ R (DM R Bw iL R R) (Zg R R R (BW 49 R Ah (f:=AC.row) (l:=([a1]:List AC)) ⟨R,⟨_,iL,R⟩,Za⟩ R (fun _=>R) R) (Zk h3 fun out6 eout6 h4=>(Zg R R R (Bg R Ah iL R (.inr (.inl ⟨_,_,iL,R⟩)) eout6) (sA R R ?_))))))
   refine Zm ?_
   exact wK6 _ _ ((by exact Ze ⟨jL,Za⟩ ⟨.inl R,Za⟩ nL)) (J2 _ (AI [((i5 1)+1),((i5 1)+2)]) (Zb h4).symm)
  ·have h3:=Zp hc1 hp1
   refine Zl ?_
   exact wK6 _ _ ((by exact Ze ⟨jL,Za⟩ ⟨.inl R,Za⟩ nL)) (J2 _ (AI [(i5 0),(i5 1)]) (Zb h3).symm)
 refine F9 (fun (done2:Bool) (x2:Int) (out2:List AC) i3=>⟨[(0,qb l1),(3,.ptr 3 n0 0 0),(5,.own 5005 (i3 0)),(6,rB (done2)),(9,rI ((l1.length:Int))),(10,rI (x2))],[(3,some (.box n0 80 [.r (.str a1.Name), .r (.str a1.Value)])),(5005,some (.arr (i3 0) 80 2 (out2.map AC.row)))],(i3 1),52⟩) (AI [(n0+1),(n0+2)]) hit1 (ZG (ZG (EW 5 5005 80 2 (by decide) R) (by exact Ze (e':=[(0,qb l1),(1,.agg [.r (.str a1.Name), .r (.str a1.Value)]),(3,.ptr 3 n0 0 0),(4,cZ),(5,.own 5005 (n0+1)),(6,rB (false)),(8,qb l1),(9,rI ((l1.length:Int))),(10,rI (0))]) (h':=[(3,some (.box n0 80 [.r (.str a1.Name), .r (.str a1.Value)])),(5005,some (.arr (n0+1) 80 2 (([]:List AC).map AC.row)))]) ⟨jL,jL,jL,jL,jL,jL,jL,jL,jL,Za⟩ ⟨.inl R,.inl R,Za⟩ nL)) (by exact Ze ⟨jL,jL,jL,jL,jL,jL,Za⟩ ⟨.inl R,.inl R,Za⟩ nL)) ?_
 intro done2 x2 out2 i3 v1 hv1 hx1
 have h5:IX l1 a1 done2 x2 out2=some v1:=hv1; unfold IX at h5
 refine aS fun _ hK9 _=>(aR (sQ R (Zs R iL iL) (aZ (hK9 _ ?_))))
 refine aS fun _ hK10 _=>?_
 refine aC R (fun hc2=>?_) (fun hc2=>?_)
 ·have h6:=Zo hc2 h5
  refine Zl (hK10 _ ?_)
  refine aS fun K11 hK11 wK11=>(Zj ?_)
  refine FQ h6 fun p2 hp2 hk3=>?_
  have J3 : ∀ (done5:Bool) (out7:List AC) (i7:Nat→Nat),p2=(done5,out7)→K11 ⟨[(0,qb l1),(3,.ptr 3 n0 0 0),(5,.own 5005 (i7 0)),(6,rB (done5)),(9,rI ((l1.length:Int))),(10,rI (x2))],[(3,some (.box n0 80 [.r (.str a1.Name), .r (.str a1.Value)])),(5005,some (.arr (i7 0) 80 2 (out7.map AC.row)))],(i7 1),52⟩:=by
   intro done5 out7 i7 e
   have h7:=hk3 _ _ e
   refine hK11 _ ?_
   refine aR (Zk h7 fun x4 ex4 h8=>(sQ R (ZA R iL iL (fun _=>ex4)) (sM R R ?_)))
   refine Zm ?_
   exact Cq.mk h8 (AI [(i7 0),(i7 1)]) ((by exact Ze ⟨jL,jL,jL,jL,jL,jL,Za⟩ ⟨.inl R,.inl R,Za⟩ nL))
  refine aS fun _ hK12 _=>(aR (sM R R (sA R R (aZ (hK12 _ ?_)))))
  refine aS fun K13 hK13 wK13=>(aS fun _ hK14 _=>?_)
  refine ZQ BD (by kernel_rfl) ?_
  refine Zh R R R (Zd R iL) (Zh R R R (Bh R iL) (Zh R R R (Zd R iL) ?_))
  refine Zf (.one R R R) R R (Zd R iL) ?_
  refine Zf (.one R R R) R R (Zd R iL) ?_
  refine Zk hp2 fun x5 ex5 h9=>?_
  refine Zf (.one R R R) R R (Zt R Ah.slice (iR R) (iR R) (fun _=>R) (Ai ex5)) ?_
  refine Zf (.one R R R) R R (Zn R CI (iR R)) ?_
  refine Zf (.one R R R) R R (Zy (d:=.str x5.Name) R Aj (iR R) R) ?_
  refine Zf (.one R R R) R R (fB R CI iL fR R) ?_
  refine Zf (.one R R R) R R (Zc (a:=.r (.str a1.Name)) R Aj (iR R) R R) ?_
  refine Zf (.one R R R) R R (T0 R (iR R) (iR R)) ?_
  refine Zh R R R (ZB R iL (iR R)) ?_
  refine AQ.nil ?_
  refine hK14 _ ?_
  refine FQ h9 fun p3 hp3 hk4=>?_
  have J4 : ∀ (done6:Bool) (out8:List AC) (i8:Nat→Nat),p3=(done6,out8)→K13 ⟨[(0,qb l1),(3,.ptr 3 n0 0 0),(5,.own 5005 (i8 0)),(6,rB (done6)),(7,rI (x2)),(9,rI ((l1.length:Int))),(10,rI (x2))],[(3,some (.box n0 80 [.r (.str a1.Name), .r (.str a1.Value)])),(5005,some (.arr (i8 0) 80 2 (out8.map AC.row)))],(i8 1),52⟩:=by
   intro done6 out8 i8 e
   have h10:=hk4 _ _ e
   refine hK13 _ ?_
   refine aS fun _ hK15 _=>?_
   refine ZQ BD (by kernel_rfl) ?_
   refine Zh R R R (Zd R iL) (Zh R R R (Zd R iL) (Zk h10 fun x6 ex6 h11=>(Zh R R R (Zt R Ah.slice iL iL (fun _=>R) (fun _=>ex6)) (Zh R R R (Zn R CI iL) (Zh R R R (Zy (d:=.str x6.Name) R Aj iL R) (Zh R R R (fB R CI iL fR R) (Zh R R R (Zc (a:=.r (.str a1.Name)) R Aj iL R R) (Zh R R R (C1 R iL iL) ?_))))))))
   refine AQ.nil ?_
   refine hK15 _ ?_
   refine aC R (fun hc3=>?_) (fun hc3=>?_)
   ·have h12:=Zo hc3 h11
    refine aR (sM R R (sM R R (sM R R (sQ R (Zt R Ah.slice iL iL (fun _=>R) (fun _=>ex6)) (sQ R (ZH (cs:=[.r (.str x6.Name), .r (.str x6.Value)]) R Bw iL R R) (Zg R R R (BW 42 R Ah (f:=AC.row) (l:=([x6]:List AC)) ⟨R,⟨_,iL,R⟩,Za⟩ R (fun _=>R) R) (Zk h12 fun out9 eout9 h13=>(Zg R R R (Bg R Ah iL R (.inr (.inl ⟨_,_,iL,R⟩)) eout9) (sA R R ?_)))))))))
    refine Zm ?_
    exact wK11 _ _ ((by exact Ze ⟨jL,jL,jL,jL,jL,jL,Za⟩ ⟨.inl R,.inl R,Za⟩ nL)) (J3 _ _ (AI [((i8 1)+1),((i8 1)+2)]) (Zb h13).symm)
   ·have h12:=Zp hc3 h11
    refine Zl ?_
    exact wK11 _ _ ((by exact Ze ⟨jL,jL,jL,jL,jL,jL,Za⟩ ⟨.inl R,.inl R,Za⟩ nL)) (J3 _ _ (AI [(i8 0),(i8 1)]) (Zb h12).symm)
  refine aC R (fun hc4=>?_) (fun hc4=>?_)
  ·have h14:=Zo hc4 hp3
   refine aS fun _ hK16 _=>(aR (sM R R (sQ R (DM R Bw iL R R) (Zg R R R (BW 27 R Ah (f:=AC.row) (l:=([a1]:List AC)) ⟨R,⟨_,iL,R⟩,Za⟩ R (fun _=>R) R) (Zk h14 fun out10 eout10 h15=>(Zg R R R (Bg R Ah iL R (.inr (.inl ⟨_,_,iL,R⟩)) eout10) (sA R R (aZ (hK16 _ ?_)))))))))
   refine aK (s':=⟨[(0,qb l1),(3,.ptr 3 n0 0 0),(5,.own 5005 ((i3 1)+1)),(7,rI (x2)),(9,rI ((l1.length:Int))),(10,rI (x2))],[(3,some (.box n0 80 [.r (.str a1.Name), .r (.str a1.Value)])),(5005,some (.arr ((i3 1)+1) 80 2 (out10.map AC.row)))],((i3 1)+2),52⟩) ?_
   refine aR (sA R R ?_)
   refine Zm ?_
   exact wK13 _ _ ((by exact Ze ⟨jL,jL,jL,jL,jL,jL,jL,Za⟩ ⟨.inl R,.inl R,Za⟩ nL)) (J4 _ _ (AI [((i3 1)+1),((i3 1)+2)]) (Zb h15).symm)
  ·have h14:=Zp hc4 hp3
   refine Zl ?_
   exact wK13 _ _ ((by exact Ze ⟨jL,jL,jL,jL,jL,jL,jL,Za⟩ ⟨.inl R,.inl R,Za⟩ nL)) (J4 _ _ (AI [(i3 0),(i3 1)]) (Zb h14).symm)
 ·have h6:=Zp hc2 h5
  refine Zx ?_
  exact wK4 _ _ ((by exact Ze ⟨jL,jL,jL,Za⟩ ⟨.inl R,.inl R,Za⟩ nL)) (J1 _ _ (AI [(i3 0),(i3 1)]) (hx1 _ (Zb h6).symm))
theorem VG {l1:List AC} {change1:List AC} {r:(List AC)} (h:Hp l1 change1=some r):Aq Try.prog 51 [qb l1,qb change1] (qb r):=by
 unfold Hp at h
 refine ZJ Try.func51 R R Try.ntmps51 R (Zi R) fun n0=>?_
 refine aS fun _ hK1 _=>(aR (sA R R (aZ (hK1 _ ?_))))
 refine aS fun _ hK2 _=>(aR (sA R R (aZ (hK2 _ ?_))))
 refine aS fun K3 hK3 wK3=>(aS fun _ hK4 _=>(aR (sM R R (sQ R (ZD R Ah.slice iL) (sM R R (aZ (hK4 _ ?_)))))))
 refine Zj ?_
 refine BB h fun o1 hit1 hk1=>?_
 have J1 : ∀ (out4:List AC) (i5:Nat→Nat),o1=out4→K3 ⟨[(1,qb change1),(5,qb out4)],[],(i5 0),54⟩:=by
  intro out4 i5 e
  have h1:=hk1 _ e
  refine hK3 _ ?_
  refine aS fun K5 hK5 wK5=>(aS fun _ hK6 _=>(aR (sM R R (sQ R (ZD R Ah.slice iL) (sM R R (aZ (hK6 _ ?_)))))))
  refine Zj ?_
  refine BB h1 fun o2 hit2 hk2=>?_
  have J2 : ∀ (out8:List AC) (i10:Nat→Nat),o2=out8→K5 ⟨[(5,qb out8)],[],(i10 0),54⟩:=by
   intro out8 i10 e
   have h2:=hk2 _ e
   refine hK5 _ ?_
   refine aS fun _ hK7 _=>(aR (sA R R (aZ (hK7 _ ?_))))
   refine aS fun K8 hK8 wK8=>(aS fun _ hK9 _=>(aR (sM R R (sQ R (ZD R Ah.slice iL) (sM R R (aZ (hK9 _ ?_)))))))
   refine Zj ?_
   refine BB h2 fun o3 hit3 hk3=>?_
   have J3 : ∀ (rest4:List AC) (i15:Nat→Nat),o3=rest4→K8 ⟨[(8,.own 5008 (i15 0))],[(5008,some (.arr (i15 0) 80 2 (rest4.map AC.row)))],(i15 1),54⟩:=by
    intro rest4 i15 e
    have h3:=hk3 _ e
    refine hK8 _ ?_
    refine aS fun _ hK10 _=>(aR (sM R R (sA R R (aZ (hK10 _ ?_)))))
    refine Zr ?_
    exact Dl (P:=Try.prog) (fun (r:(List AC))=>qb r) h3 iL (.t (.one (.own R)))
   refine B0 (fun (x8:Int) (rest2:List AC) i13=>⟨[(5,qb out8),(8,.own 5008 (i13 0)),(35,rI ((out8.length:Int))),(36,rI (x8))],[(5008,some (.arr (i13 0) 80 2 (rest2.map AC.row)))],(i13 1),54⟩) (AI [(i10 0),((i10 0)+1)]) hit3 (ZG (ZG (EW 8 5008 80 2 (by decide) R) (by exact Ze (e':=[(5,qb out8),(8,.own 5008 (i10 0)),(34,qb out8),(35,rI ((out8.length:Int))),(36,rI (0))]) (h':=[(5008,some (.arr (i10 0) 80 2 (([]:List AC).map AC.row)))]) ⟨jL,jL,jL,jL,jL,Za⟩ ⟨.inl R,Za⟩ nL)) (by exact Ze ⟨jL,jL,jL,jL,Za⟩ ⟨.inl R,Za⟩ nL)) ?_
   intro x8 rest2 i13 v1 hv1 hx3
   have h4:Io out8 x8 rest2=some v1:=hv1; unfold Io at h4
   refine aS fun _ hK11 _=>(aR (sQ R (Zs R iL iL) (aZ (hK11 _ ?_))))
   refine aS fun _ hK12 _=>?_
   refine aC R (fun hc1=>?_) (fun hc1=>?_)
   ·have h5:=Zo hc1 h4
    refine Zl (hK12 _ ?_)
    refine aS fun K13 hK13 wK13=>(Zj ?_)
    refine BB h5 fun p1 hp1 hk4=>?_
    have J4 : ∀ (rest5:List AC) (i16:Nat→Nat),p1=rest5→K13 ⟨[(5,qb out8),(8,.own 5008 (i16 0)),(35,rI ((out8.length:Int))),(36,rI (x8))],[(5008,some (.arr (i16 0) 80 2 (rest5.map AC.row)))],(i16 1),54⟩:=by
     intro rest5 i16 e
     have h6:=hk4 _ e
     refine hK13 _ ?_
     refine aR (Zk h6 fun x10 ex10 h7=>(sQ R (ZA R iL iL (fun _=>ex10)) (sM R R ?_)))
     refine Zm ?_
     exact Bo.mk h7 (AI [(i16 0),(i16 1)]) ((by exact Ze ⟨jL,jL,jL,jL,Za⟩ ⟨.inl R,Za⟩ nL))
    refine aS fun _ hK14 _=>(aR (sM R R (sA R R (aZ (hK14 _ ?_)))))
    refine aS fun _ hK15 _=>(aR (sM R R (sM R R (Zk hp1 fun x11 ex11 h8=>(sQ R (Zt R Ah.slice iL iL (fun _=>R) (fun _=>ex11)) (sQ R (Zn R I4 iL) (sQ R (Zy (d:=.str x11.Value) R Aj iL R) (sQ R (C1 R iL iL) (aZ (hK15 _ ?_))))))))))
    refine aC R (fun hc2=>?_) (fun hc2=>?_)
    ·have h9:=Zo hc2 h8
     refine aR (sM R R (sM R R (sM R R (sQ R (Zt R Ah.slice iL iL (fun _=>R) (fun _=>ex11)) (sQ R (ZH (cs:=[.r (.str x11.Name), .r (.str x11.Value)]) R Bw iL R R) (Zg R R R (BW 50 R Ah (f:=AC.row) (l:=([x11]:List AC)) ⟨R,⟨_,iL,R⟩,Za⟩ R (fun _=>R) R) (Zk h9 fun rest6 erest6 h10=>(Zg R R R (Bg R Ah iL R (.inr (.inl ⟨_,_,iL,R⟩)) erest6) (sA R R ?_)))))))))
     refine Zm ?_
     exact wK13 _ _ ((by exact Ze ⟨jL,jL,jL,jL,Za⟩ ⟨.inl R,Za⟩ nL)) (J4 _ (AI [((i13 1)+1),((i13 1)+2)]) (Zb h10).symm)
    ·have h9:=Zp hc2 h8
     refine Zl ?_
     exact wK13 _ _ ((by exact Ze ⟨jL,jL,jL,jL,Za⟩ ⟨.inl R,Za⟩ nL)) (J4 _ (AI [(i13 0),(i13 1)]) (Zb h9).symm)
   ·have h5:=Zp hc1 h4
    refine Zx ?_
    exact wK8 _ _ ((by exact Ze ⟨jL,Za⟩ ⟨.inl R,Za⟩ nL)) (J3 _ (AI [(i13 0),(i13 1)]) (hx3 _ (Zb h5).symm))
  refine B0 (fun (out6:List AC) (x5:Int) i8=>⟨[(1,qb change1),(5,qb out6),(23,rI ((change1.length:Int))),(24,rI (x5))],[],(i8 0),54⟩) (AI [(i5 0)]) hit2 ((by exact Ze ⟨jL,jL,jL,jL,Za⟩ Za nL)) ?_
  intro out6 x5 i8 v2 hv2 hx2
  have h11:Ix change1 out6 x5=some v2:=hv2; unfold Ix at h11
  refine aS fun _ hK16 _=>(aR (sQ R (Zs R iL iL) (aZ (hK16 _ ?_))))
  refine aS fun _ hK17 _=>?_
  refine aC R (fun hc3=>?_) (fun hc3=>?_)
  ·have h12:=Zo hc3 h11
   refine Zl (hK17 _ ?_)
   refine aS fun _ hK18 _=>(Zj (aS fun _ hK19 _=>(aR (sM R R (sA R R (aZ (hK19 _ ?_)))))))
   refine aR (sM R R (sM R R (sM R R (Zk h12 fun x12 ex12 h13=>(sQ R (Zt R Ah.slice iL iL (fun _=>R) (fun _=>ex12)) (sQ R (ZH (cs:=[.r (.str x12.Name), .r (.str x12.Value)]) R Bw iL R R) (Zk h13 fun out9 eout9 h14=>(Zg R R R (B4 (r:=qb out9) (caps:=[]) (bs:=[qb out6,.agg [.r (.str x12.Name), .r (.str x12.Value)]]) R iL R ⟨.inl ⟨iL,R⟩,.inl ⟨iL,R⟩,Za⟩ (fun _=>Kk (eout9))) (sA R R (aZ (hK18 _ ?_)))))))))))
   refine aK (s':=⟨[(1,qb change1),(5,qb out9),(23,rI ((change1.length:Int))),(24,rI (x5))],[],(i8 0),54⟩) ?_
   refine aR (Zk h14 fun x13 ex13 h15=>(sQ R (ZA R iL iL (fun _=>ex13)) (sM R R ?_)))
   refine Zm ?_
   exact Bo.mk h15 (AI [(i8 0)]) ((by exact Ze ⟨jL,jL,jL,jL,Za⟩ Za nL))
  ·have h12:=Zp hc3 h11
   refine Zx ?_
   exact wK5 _ _ ((by exact Ze ⟨jL,Za⟩ Za nL)) (J2 _ (AI [(i8 0)]) (hx2 _ (Zb h12).symm))
 refine B0 (fun (out2:List AC) (x2:Int) i3=>⟨[(0,qb l1),(1,qb change1),(5,qb out2),(11,rI ((l1.length:Int))),(12,rI (x2))],[],(i3 0),54⟩) (AI [n0]) hit1 ((by exact Ze ⟨jL,jL,.inl (.inr (.inr ⟨R,R⟩)),jL,jL,Za⟩ Za nL)) ?_
 intro out2 x2 i3 v3 hv3 hx1
 have h16:IA l1 out2 x2=some v3:=hv3; unfold IA at h16
 refine aS fun _ hK20 _=>(aR (sQ R (Zs R iL iL) (aZ (hK20 _ ?_))))
 refine aS fun _ hK21 _=>?_
 refine aC R (fun hc4=>?_) (fun hc4=>?_)
 ·have h17:=Zo hc4 h16
  refine Zl (hK21 _ ?_)
  refine aS fun _ hK22 _=>(Zj (aS fun _ hK23 _=>(aR (sM R R (sA R R (aZ (hK23 _ ?_)))))))
  refine aR (sM R R (sM R R (sM R R (Zk h17 fun x14 ex14 h18=>(sQ R (Zt R Ah.slice iL iL (fun _=>R) (fun _=>ex14)) (sQ R (ZH (cs:=[.r (.str x14.Name), .r (.str x14.Value)]) R Bw iL R R) (Zk h18 fun out10 eout10 h19=>(Zg R R R (B4 (r:=qb out10) (caps:=[]) (bs:=[qb out2,.agg [.r (.str x14.Name), .r (.str x14.Value)]]) R iL R ⟨.inl ⟨iL,R⟩,.inl ⟨iL,R⟩,Za⟩ (fun _=>Kk (eout10))) (sA R R (aZ (hK22 _ ?_)))))))))))
  refine aK (s':=⟨[(0,qb l1),(1,qb change1),(5,qb out10),(11,rI ((l1.length:Int))),(12,rI (x2))],[],(i3 0),54⟩) ?_
  refine aR (Zk h19 fun x15 ex15 h20=>(sQ R (ZA R iL iL (fun _=>ex15)) (sM R R ?_)))
  refine Zm ?_
  exact Bo.mk h20 (AI [(i3 0)]) ((by exact Ze ⟨jL,jL,jL,jL,jL,Za⟩ Za nL))
 ·have h17:=Zp hc4 h16
  refine Zx ?_
  exact wK3 _ _ ((by exact Ze ⟨jL,jL,Za⟩ Za nL)) (J1 _ (AI [(i3 0)]) (hx1 _ (Zb h17).symm))
theorem Rm {l1:List AB} {item1:Int} {top1:Int} {r:Bool} (h:GN l1 item1 top1=some r):Aq Try.prog 52 [qc l1,rI (item1),rI (top1)] (rB (r)):=by
 unfold GN at h
 refine ZJ Try.func52 R R Try.ntmps52 R (Zi R) fun n0=>?_
 refine aS fun _ hK1 _=>(aR (sA R R (aZ (hK1 _ ?_))))
 refine aS fun K2 hK2 wK2=>(aS fun _ hK3 _=>(aR (sM R R (sQ R (ZD R AZ.slice iL) (Zk h fun x1 ex1 h1=>(sQ R (ZA R iL iL (fun _=>ex1)) (sM R R (aZ (hK3 _ ?_)))))))))
 refine Zj ?_
 refine Be h1 fun o1 hit1 hk1 he1=>?_
 have J1 : ∀ (u2:Unit) (i5:Nat→Nat),o1 = .nrm u2→K2 ⟨[],[],(i5 0),27⟩:=by
  intro u2 i5 e
  have h2:=hk1 _ e
  refine hK2 _ ?_
  refine aS fun _ hK4 _=>(aR (sA R R (aZ (hK4 _ ?_))))
  refine Zr ?_
  exact BH h2 iL (.t (.d R))
 refine B0 (fun (item3:Int) (x3:Int) i3=>⟨[(0,qc l1),(1,rI (item3)),(2,rI (top1)),(10,rI (x1)),(11,rI (x3))],[],(i3 0),27⟩) (AI [n0]) hit1 ((by exact Ze ⟨jL,jL,jL,jL,jL,Za⟩ Za nL)) ?_
 intro item3 x3 i3 v1 hv1 hx1
 have h3:EE l1 top1 x1 item3 x3=some v1:=hv1; unfold EE at h3
 refine aS fun _ hK5 _=>(aR (sQ R (Zs R iL iL) (aZ (hK5 _ ?_))))
 refine aS fun _ hK6 _=>?_
 refine aC R (fun hc1=>?_) (fun hc1=>?_)
 ·have h4:=Zo hc1 h3
  refine Zl (hK6 _ ?_)
  refine aS fun _ hK7 _=>(Zj (aS fun _ hK8 _=>(aS fun _ hK9 _=>(aR (sM R R (sM R R (sQ R (ZM R iL iL) (aZ (hK9 _ ?_)))))))))
  refine aC R (fun hc2=>?_) (fun hc2=>?_)
  ·have h5:=Zo hc2 h4
   refine aS fun _ hK10 _=>?_
   refine aK (s':=⟨[],[],(i3 0),27⟩) ?_
   refine aR (sA R R (aZ (hK10 _ ?_)))
   refine Zr ?_
   exact BH (he1 _ (hx1 _ (Zb h5).symm)) iL (.t (.d R))
  ·have h5:=Zp hc2 h4
   refine Zl (hK8 _ ?_)
   refine aS fun _ hK11 _=>(aR (sM R R (sM R R (Zk h5 fun i6 ei6 h6=>(Zg R R R (ZC (r:=rI (i6)) (caps:=[]) (bs:=[qc l1,rI (item3)]) R iL R ⟨⟨_,iL,.d R⟩,⟨_,iL,.d R⟩,Za⟩ (fun _=>Dh (ei6)) R) (sA R R (aZ (hK11 _ ?_))))))))
   refine aS fun _ hK12 _=>(aS fun _ hK13 _=>(aR (sM R R (sQ R (Zs R iL iL) (aZ (hK13 _ ?_))))))
   refine aC R (fun hc3=>?_) (fun hc3=>?_)
   ·have h7:=Zo hc3 h6
    refine aS fun _ hK14 _=>?_
    refine aK (s':=⟨[],[],(i3 0),27⟩) ?_
    refine aR (sA R R (aZ (hK14 _ ?_)))
    refine Zr ?_
    exact BH (he1 _ (hx1 _ (Zb h7).symm)) iL (.t (.d R))
   ·have h7:=Zp hc3 h6
    refine Zl (hK12 _ ?_)
    refine aK (s':=⟨[(0,qc l1),(2,rI (top1)),(7,rI (i6)),(10,rI (x1)),(11,rI (x3))],[],(i3 0),27⟩) ?_
    refine aR (sM R R (sM R R (Zk h7 fun x5 ex5 h8=>(sQ R (Zt R AZ.slice iL iL (fun _=>R) (fun _=>ex5)) (sQ R (Zn R Ca iL) (sQ R (Zy (d:=.int .i64 x5.Parent) R AP iL R) (sA R R (aZ (hK7 _ ?_)))))))))
    refine aR (Zk h8 fun x6 ex6 h9=>(sQ R (ZA R iL iL (fun _=>ex6)) (sM R R ?_)))
    refine Zm ?_
    exact Bo.mk h9 (AI [(i3 0)]) ((by exact Ze ⟨jL,jL,jL,jL,jL,Za⟩ Za nL))
 ·have h4:=Zp hc1 h3
  refine Zx ?_
  exact wK2 _ _ ((by exact Ze Za Za nL)) (J1 _ (AI [(i3 0)]) (hx1 _ (Zb h4).symm))
theorem L6 {l1:List AD} {r:(List AB) × (List AB)} (h:Cn l1=some r):Aq Try.prog 30 [qa l1] (.tup [qc r.1,qc r.2]):=by
 unfold Cn at h
 refine ZJ Try.func30 R R Try.ntmps30 R (Zi R) fun n0=>?_
 refine aS fun _ hK1 _=>(aR (sA R R (sA R R (aZ (hK1 _ ?_)))))
 refine aS fun _ hK2 _=>(aR (sA R R (sA R R (aZ (hK2 _ ?_)))))
 refine aS fun K3 hK3 wK3=>(aS fun _ hK4 _=>(aR (sM R R (sQ R (ZD R Ak.slice iL) (sM R R (aZ (hK4 _ ?_)))))))
 refine Zj ?_
 refine FQ h fun o1 hit1 hk1=>?_
 have J1 : ∀ (items4:List AB) (attrs4:List AB) (i5:Nat→Nat),o1=(items4,attrs4)→K3 ⟨[(4,.own 5004 (i5 0)),(5,.own 5005 (i5 1))],[(5004,some (.arr (i5 0) 55 4 (items4.map AB.row))),(5005,some (.arr (i5 1) 55 4 (attrs4.map AB.row)))],(i5 2),121⟩:=by
  intro items4 attrs4 i5 e
  have h1:=hk1 _ _ e
  refine hK3 _ ?_
  refine aS fun K5 hK5 wK5=>(aS fun _ hK6 _=>(aR (sM R R (sQ R (DO R AZ.slice iL R) (sM R R (aZ (hK6 _ ?_)))))))
  refine Zj ?_
  refine BB h1 fun o2 hit2 hk2=>?_
  have J2 : ∀ (items8:List AB) (i10:Nat→Nat),o2=items8→K5 ⟨[(4,.own 5004 (i10 0)),(5,.own 5005 (i5 1))],[(5004,some (.arr (i10 0) 55 4 (items8.map AB.row))),(5005,some (.arr (i5 1) 55 4 (attrs4.map AB.row)))],(i10 1),121⟩:=by
   intro items8 i10 e
   have h2:=hk2 _ e
   refine hK5 _ ?_
   refine aS fun _ hK7 _=>(aR (sM R R (sM R R (sA R R (sA R R (aZ (hK7 _ ?_)))))))
   refine Zr ?_
   exact Dc (P:=Try.prog) (fun (r:(List AB) × (List AB))=>qc r.1) (fun (r:(List AB) × (List AB))=>qc r.2) h2 iL (.t (.one (.own R))) (.t (.one (.own R)))
  refine B0 (fun (x5:Int) (items6:List AB) i8=>⟨[(4,.own 5004 (i8 0)),(5,.own 5005 (i5 1)),(96,rI ((items4.length:Int))),(97,rI (x5))],[(5004,some (.arr (i8 0) 55 4 (items6.map AB.row))),(5005,some (.arr (i5 1) 55 4 (attrs4.map AB.row)))],(i8 1),121⟩) (AI [(i5 0),(i5 2)]) hit2 ((by exact Ze ⟨jL,jL,jL,jL,Za⟩ ⟨.inl R,.inl R,Za⟩ nL)) ?_
  intro x5 items6 i8 v1 hv1 hx2
  have h3:Eu items4 attrs4 x5 items6=some v1:=hv1; unfold Eu at h3
  refine aS fun _ hK8 _=>(aR (sQ R (Zs R iL iL) (aZ (hK8 _ ?_))))
  refine aS fun _ hK9 _=>?_
  refine aC R (fun hc1=>?_) (fun hc1=>?_)
  ·have h4:=Zo hc1 h3
   refine Zl (hK9 _ ?_)
   refine aS fun K10 hK10 wK10=>(Zj ?_)
   refine BB h4 fun p1 hp1 hk3=>?_
   have J3 : ∀ (items9:List AB) (i11:Nat→Nat),p1=items9→K10 ⟨[(4,.own 5004 (i11 0)),(5,.own 5005 (i5 1)),(96,rI ((items4.length:Int))),(97,rI (x5))],[(5004,some (.arr (i11 0) 55 4 (items9.map AB.row))),(5005,some (.arr (i5 1) 55 4 (attrs4.map AB.row)))],(i11 1),121⟩:=by
    intro items9 i11 e
    have h5:=hk3 _ e
    refine hK10 _ ?_
    refine aR (Zk h5 fun x7 ex7 h6=>(sQ R (ZA R iL iL (fun _=>ex7)) (sM R R ?_)))
    refine Zm ?_
    exact Bo.mk h6 (AI [(i11 0),(i11 1)]) ((by exact Ze ⟨jL,jL,jL,jL,Za⟩ ⟨.inl R,.inl R,Za⟩ nL))
   refine aS fun _ hK11 _=>(aR (sM R R (sA R R (aZ (hK11 _ ?_)))))
   refine aS fun _ hK12 _=>(aR (sM R R (sM R R (sM R R (Zk hp1 fun x8 ex8 h7=>(sQ R (Du R AZ.slice iL R iL (fun _=>ex8)) (sQ R (Fa (ob:=.arr _ _ _ _) R BT iL fR R) (sQ R (Gj (d:=.int .i64 x8.Item) R AP iL fR (fun _=>ex8) R) (Zk h7 fun k1 ek1 h8=>(Zg R R R (ZC (r:=rI (k1)) (caps:=[]) (bs:=[qc attrs4,rI (x8.Item)]) R iL R ⟨⟨_,iL,.one (.own R)⟩,⟨_,iL,.d R⟩,Za⟩ (fun _=>Dh (ek1)) R) (sA R R (aZ (hK12 _ ?_)))))))))))))
   refine aS fun _ hK13 _=>?_
   refine aK (s':=⟨[(4,.own 5004 (i8 0)),(5,.own 5005 (i5 1)),(10,rI (x5)),(11,rI (k1)),(96,rI ((items4.length:Int))),(97,rI (x5))],[(5004,some (.arr (i8 0) 55 4 (items6.map AB.row))),(5005,some (.arr (i5 1) 55 4 (attrs4.map AB.row)))],(i8 1),121⟩) ?_
   refine aR (sM R R (sQ R (Cf R iL iL) (aZ (hK13 _ ?_))))
   refine aC R (fun hc2=>?_) (fun hc2=>?_)
   ·have h9:=Zo hc2 h8
    refine aR (sM R R (sM R R (sM R R (sM R R (Zk h9 fun x9 ex9 h10=>(sQ R (Du R AZ.slice iL R iL (fun _=>ex9)) (sQ R (Fa (ob:=.arr _ _ _ _) R E4 iL fR R) (sQ R (Gj (d:=.sl (x9.Attrs.map AC.row)) R Dk iL fR (fun _=>ex9) R) (sQ R (Du R AZ.slice iL R iL (fun _=>ex8)) (sQ R (Fa (ob:=.arr _ _ _ _) R E4 iL fR R) (Zz R R (NF (v:=(AB.mk x8.Item x8.Parent x8.Place x9.Attrs)) R Gh iL R ex8 iL R R R R) ?_)))))))))))
    refine Zm ?_
    exact wK10 _ _ ((by exact Ze ⟨jL,jL,jL,jL,Za⟩ ⟨.inl R,.inl R,Za⟩ nL)) (J3 _ (AI [(i8 0),(i8 1)]) (Zb h10).symm)
   ·have h9:=Zp hc2 h8
    refine Zl ?_
    exact wK10 _ _ ((by exact Ze ⟨jL,jL,jL,jL,Za⟩ ⟨.inl R,.inl R,Za⟩ nL)) (J3 _ (AI [(i8 0),(i8 1)]) (Zb h9).symm)
  ·have h4:=Zp hc1 h3
   refine Zx ?_
   exact wK5 _ _ ((by exact Ze ⟨jL,jL,Za⟩ ⟨.inl R,.inl R,Za⟩ nL)) (J2 _ (AI [(i8 0),(i8 1)]) (hx2 _ (Zb h4).symm))
 refine F9 (fun (x2:Int) (items2:List AB) (attrs2:List AB) i3=>⟨[(0,qa l1),(4,.own 5004 (i3 0)),(5,.own 5005 (i3 1)),(13,rI ((l1.length:Int))),(14,rI (x2))],[(5004,some (.arr (i3 0) 55 4 (items2.map AB.row))),(5005,some (.arr (i3 1) 55 4 (attrs2.map AB.row)))],(i3 2),121⟩) (AI [n0,(n0+1),(n0+2)]) hit1 (ZG (ZG (EW 4 5004 55 4 (by decide) R) (by exact Ze (e':=[(0,qa l1),(2,cZ),(3,cZ),(4,.own 5004 n0),(5,cZ),(12,qa l1),(13,rI ((l1.length:Int))),(14,rI (0))]) (h':=[(5004,some (.arr n0 55 4 (([]:List AB).map AB.row)))]) ⟨jL,jL,jL,jL,jL,jL,jL,jL,Za⟩ ⟨.inl R,Za⟩ nL)) (ZG (ZG (EW 5 5005 55 4 (by decide) R) (by exact Ze (e':=[(0,qa l1),(2,cZ),(3,cZ),(4,.own 5004 n0),(5,.own 5005 (n0+1)),(12,qa l1),(13,rI ((l1.length:Int))),(14,rI (0))]) (h':=[(5004,some (.arr n0 55 4 (([]:List AB).map AB.row))),(5005,some (.arr (n0+1) 55 4 (([]:List AB).map AB.row)))]) ⟨jL,jL,jL,jL,jL,jL,jL,jL,Za⟩ ⟨.inl R,.inl R,Za⟩ nL)) (by exact Ze ⟨jL,jL,jL,jL,jL,Za⟩ ⟨.inl R,.inl R,Za⟩ nL))) ?_
 intro x2 items2 attrs2 i3 v2 hv2 hx1
 have h11:Bs l1 x2 items2 attrs2=some v2:=hv2; unfold Bs at h11
 refine aS fun _ hK14 _=>(aR (sQ R (Zs R iL iL) (aZ (hK14 _ ?_))))
 refine aS fun _ hK15 _=>?_
 refine aC R (fun hc3=>?_) (fun hc3=>?_)
 ·have h12:=Zo hc3 h11
  refine Zl (hK15 _ ?_)
  refine aS fun K16 hK16 wK16=>(Zj ?_)
  refine FQ h12 fun p2 hp2 hk4=>?_
  have J4 : ∀ (items10:List AB) (attrs5:List AB) (i12:Nat→Nat),p2=(items10,attrs5)→K16 ⟨[(0,qa l1),(4,.own 5004 (i12 0)),(5,.own 5005 (i12 1)),(13,rI ((l1.length:Int))),(14,rI (x2))],[(5004,some (.arr (i12 0) 55 4 (items10.map AB.row))),(5005,some (.arr (i12 1) 55 4 (attrs5.map AB.row)))],(i12 2),121⟩:=by
   intro items10 attrs5 i12 e
   have h13:=hk4 _ _ e
   refine hK16 _ ?_
   refine aR (Zk h13 fun x10 ex10 h14=>(sQ R (ZA R iL iL (fun _=>ex10)) (sM R R ?_)))
   refine Zm ?_
   exact Cq.mk h14 (AI [(i12 0),(i12 1),(i12 2)]) ((by exact Ze ⟨jL,jL,jL,jL,jL,Za⟩ ⟨.inl R,.inl R,Za⟩ nL))
  refine aS fun _ hK17 _=>(aR (sM R R (sA R R (aZ (hK17 _ ?_)))))
  refine aS fun _ hK18 _=>(aR (sM R R (sM R R (Zk hp2 fun x11 ex11 h15=>(sQ R (Zt R Ak.slice iL iL (fun _=>R) (fun _=>ex11)) (sQ R (ZH (cs:=(Aa x11)) R B1 iL R R) (Zg R R R (Bz (cs:=KA) 7 R Gy R R) (Zz R R (ZI (ds:=(Aa x11)) R G9 iL R iL R R R R) (aZ (hK18 _ ?_))))))))))
  refine aS fun _ hK19 _=>(aS fun _ hK20 _=>(aR (sQ R (fB R B3 iL fR R) (sQ R (Zc (a:=rI (x11.Kind)) R AP iL R R) (sQ R (ZM R iL iL) (aZ (hK20 _ ?_)))))))
  refine aC R (fun hc4=>?_) (fun hc4=>?_)
  ·have h16:=Zo hc4 h15
   refine aS fun _ hK21 _=>?_
   refine aK (s':=⟨[(0,qa l1),(4,.own 5004 (i3 0)),(5,.own 5005 (i3 1)),(7,.ptr 7 (i3 2) 0 0),(13,rI ((l1.length:Int))),(14,rI (x2))],[(7,some (.box (i3 2) 46 (Aa x11))),(5004,some (.arr (i3 0) 55 4 (items2.map AB.row))),(5005,some (.arr (i3 1) 55 4 (attrs2.map AB.row)))],((i3 2)+1),121⟩) ?_
   refine aR (sM R R (sQ R (fB R B8 iL fR R) (sQ R (Zc (a:=rI (x11.Item)) R AP iL R R) (Zk h16 fun k2 ek2 h17=>(Zg R R R (ZC (r:=rI (k2)) (caps:=[]) (bs:=[qc attrs2,rI (x11.Item)]) R iL R ⟨⟨_,iL,.one (.own R)⟩,⟨_,iL,.d R⟩,Za⟩ (fun _=>Dh (ek2)) R) (sA R R (aZ (hK21 _ ?_))))))))
   refine aS fun K22 hK22 wK22=>(aS fun _ hK23 _=>(aR (sM R R (sQ R (Zs R iL iL) (aZ (hK23 _ ?_))))))
   refine FQ h17 fun p3 hp3 hk5=>?_
   have J5 : ∀ (k3:Int) (attrs6:List AB) (i13:Nat→Nat),p3=(k3,attrs6)→K22 ⟨[(0,qa l1),(4,.own 5004 (i3 0)),(5,.own 5005 (i13 0)),(7,.ptr 7 (i3 2) 0 0),(8,rI (k3)),(13,rI ((l1.length:Int))),(14,rI (x2))],[(7,some (.box (i3 2) 46 (Aa x11))),(5004,some (.arr (i3 0) 55 4 (items2.map AB.row))),(5005,some (.arr (i13 0) 55 4 (attrs6.map AB.row)))],(i13 1),121⟩:=by
    intro k3 attrs6 i13 e
    have h18:=hk5 _ _ e
    refine hK22 _ ?_
    refine aS fun _ hK24 _=>?_
    refine Ks [0,1] [2,3,4,5,6,7,8,9,10,11] [12] 13 BD (by kernel_rfl) R R R R R ?_
    refine DZ.move R R R R ?_
    refine DZ.move R R R R ?_
    refine DZ.nil ?_
    refine ZN R R R (Zd R iL) ?_
    refine ZN R R R (Zd R iL) ?_
    refine Zk h18 fun x12 ex12 h19=>?_
    refine ZN R R R (Du R AZ.slice iL R iL (fun _=>ex12)) ?_
    refine ZN R R R (Fa (ob:=.arr _ _ _ _) R E4 iL fR R) ?_
    refine ZN R R R (Gj (d:=.sl (x12.Attrs.map AC.row)) R Dk iL fR (fun _=>ex12) R) ?_
    refine ZN R R R (fB R GS iL fR R) ?_
    refine ZN R R R (Zc (a:=.r (.str x11.Name)) R Aj iL R R) ?_
    refine ZN R R R (fB R E5 iL fR R) ?_
    refine ZN R R R (Zc (a:=.r (.str x11.Value)) R Aj iL R R) ?_
    refine ZN R R R (CX R FS (q:=[(0,_),(1,_)]) (by exact ⟨R,R,R,iL,R,R,R,iL,Za⟩) (cs:=[.r (.str x11.Name), .r (.str x11.Value)]) (by rfl)) ?_
    refine AF.nil ?_
    refine AA.step R R R (OS 50 R Ah (f:=AC.row) (l:=([(AC.mk x11.Name x11.Value)]:List AC)) ⟨R,⟨_,iL,R⟩,Za⟩ R (fun _=>R) R) ?_
    refine AA.nil ?_
    refine AS.weak (by exact Af.frz (e':=[(0,qa l1),(4,.own 5004 (i3 0)),(5,.own 5005 (i13 0)),(7,.ptr 7 (i3 2) 0 0),(8,rI (k3)),(13,rI ((l1.length:Int))),(14,rI (x2)),(38,.own 5005 (i13 0)),(39,rI (k3)),(40,.own 5005 (i13 0)),(41,rI (k3)),(42,.ptr 5005 (i13 0) k3.toNat 0),(43,.ptr 5005 (i13 0) k3.toNat 3),(44,qb x12.Attrs),(45,.ptr 7 (i3 2) 0 6),(46,.r (.str x11.Name)),(47,.ptr 7 (i3 2) 0 7),(48,.r (.str x11.Value)),(49,.agg [.r (.str x11.Name), .r (.str x11.Value)]),(50,.r (.sl ([(AC.mk x11.Name x11.Value)].map AC.row)))]) (h':=[(7,some (.box (i3 2) 46 (Aa x11))),(5004,some (.arr (i3 0) 55 4 (items2.map AB.row))),(5005,some (.arr (i13 0) 55 4 (attrs6.map AB.row)))]) 50 R ⟨jL,jL,jL,jL,jL,jL,jL,jL,jL,jL,jL,jL,jL,jL,jL,jL,jL,jL,jL,.inl (.inr (.inr ⟨R,R⟩)),Za⟩ ⟨R,.inl R,R,.inl R,R,.inl R,Za⟩) ?_
    refine Zk h19 fun r1 er1 h20=>(Zg R R R (B4 (r:=qb r1) (caps:=[]) (bs:=[qb x12.Attrs,.r (.sl ([(AC.mk x11.Name x11.Value)].map AC.row))]) R iL R ⟨.inl ⟨iL,R⟩,.inl ⟨iL,R⟩,Za⟩ (fun _=>VG (er1))) (sQ R (Du R AZ.slice iL R iL (fun _=>ex12)) (sQ R (Fa (ob:=.arr _ _ _ _) R E4 iL fR R) (Zz R R (NF (v:=(AB.mk x12.Item x12.Parent x12.Place r1)) R Gh iL R ex12 iL R R R R) (aZ (hK24 _ ?_))))))
    refine Zx ?_
    exact wK16 _ _ ((by exact Ze ⟨jL,jL,jL,jL,jL,Za⟩ ⟨.inl R,.inl R,Za⟩ nL)) (J4 _ _ (AI [(i3 0),(i13 0),((i13 1)+1)]) (Zb h20).symm)
   refine aC R (fun hc5=>?_) (fun hc5=>?_)
   ·have h21:=Zo hc5 hp3
    refine aS fun _ hK25 _=>(aR (sM R R (sQ R (DO R AZ.slice iL R) (sA R R (aZ (hK25 _ ?_))))))
    refine aR (sM R R (sQ R (fB R B8 iL fR R) (sQ R (Zc (a:=rI (x11.Item)) R AP iL R R) ?_)))
    refine sQ R (CX R Iu (q:=[(0,_)]) (by exact ⟨R,R,R,iL,Za⟩) (cs:=[rI (x11.Item),rI (0),.r (.str []),cZ]) (by rfl)) ?_
    refine Zg R R R (BW 36 R AZ (f:=AB.row) (l:=([(AB.mk x11.Item 0 [] [])]:List AB)) ⟨R,⟨_,iL,R⟩,Za⟩ R (fun _=>R) R) (Zk h21 fun attrs7 eattrs7 h22=>(Zg R R R (Bg R AZ iL R (.inr (.inl ⟨_,_,iL,R⟩)) eattrs7) (sA R R ?_)))
    refine Zm ?_
    exact wK22 _ _ ((by exact Ze ⟨jL,jL,jL,jL,jL,jL,jL,Za⟩ ⟨.inl R,.inl R,.inl R,Za⟩ nL)) (J5 _ _ (AI [((i3 2)+2),((i3 2)+3)]) (Zb h22).symm)
   ·have h21:=Zp hc5 hp3
    refine Zl ?_
    exact wK22 _ _ ((by exact Ze ⟨jL,jL,jL,jL,jL,jL,jL,Za⟩ ⟨.inl R,.inl R,.inl R,Za⟩ nL)) (J5 _ _ (AI [(i3 1),((i3 2)+1)]) (Zb h21).symm)
  ·have h16:=Zp hc4 h15
   refine Zl (hK19 _ ?_)
   refine aS fun _ hK26 _=>(aS fun _ hK27 _=>?_)
   refine aK (s':=⟨[(0,qa l1),(4,.own 5004 (i3 0)),(5,.own 5005 (i3 1)),(7,.ptr 7 (i3 2) 0 0),(13,rI ((l1.length:Int))),(14,rI (x2))],[(7,some (.box (i3 2) 46 (Aa x11))),(5004,some (.arr (i3 0) 55 4 (items2.map AB.row))),(5005,some (.arr (i3 1) 55 4 (attrs2.map AB.row)))],((i3 2)+1),121⟩) ?_
   refine aR (sQ R (fB R DC iL fR R) (sQ R (Zc (a:=rI (x11.Parent)) R AP iL R R) (sQ R (fB R B8 iL fR R) (sQ R (Zc (a:=rI (x11.Item)) R AP iL R R) (sQ R (ZM R iL iL) (sM R R (sV R R R (fB R DC iL fR R) (sV R R R (Zc (a:=rI (x11.Parent)) R AP (iR R) R R) (sV R R R (A7 R (iR R) iL) (sV R R R (Zd R (iR R)) ?_))))))))))
   refine sW (.two R R R) R (Zd R iL) ?_
   refine sW (.two R R R) R (fB R DC iL fR R) ?_
   refine sW (.two R R R) R (Zc (a:=rI (x11.Parent)) R AP (iR R) R R) ?_
   refine sW (.two R R R) R (fB R B8 iL fR R) ?_
   refine sW (.two R R R) R (Zc (a:=rI (x11.Item)) R AP (iR R) R R) ?_
   refine Zk h16 fun r2 er2 h23=>?_
   refine AS.stepW (.two R R R) R R (ZC (r:=rB (r2)) (caps:=[]) (bs:=[qc items2,rI (x11.Parent),rI (x11.Item)]) R iL R ⟨⟨_,(iR R),.one (.own R)⟩,⟨_,(iR R),.d R⟩,⟨_,(iR R),.d R⟩,Za⟩ (fun hg=>Rm (Ai er2 hg)) R) ?_
   refine sV R R R (ZB R (iR R) (iR R)) (sQ R (ZF R iL (iR R)) (aZ (hK27 _ ?_)))
   refine aC R (fun hc6=>?_) (fun hc6=>?_)
   ·have h24:=Zo hc6 h23
    refine Zx ?_
    exact wK16 _ _ ((by exact Ze ⟨jL,jL,jL,jL,jL,Za⟩ ⟨.inl R,.inl R,Za⟩ nL)) (J4 _ _ (AI [(i3 0),(i3 1),((i3 2)+1)]) (Zb h24).symm)
   ·have h24:=Zp hc6 h23
    refine Zl (hK26 _ ?_)
    refine aS fun _ hK28 _=>(aR (sM R R (sQ R (fB R B8 iL fR R) (sQ R (Zc (a:=rI (x11.Item)) R AP iL R R) (Zk h24 fun k4 ek4 h25=>(Zg R R R (ZC (r:=rI (k4)) (caps:=[]) (bs:=[qc items2,rI (x11.Item)]) R iL R ⟨⟨_,iL,.one (.own R)⟩,⟨_,iL,.d R⟩,Za⟩ (fun _=>Dh (ek4)) R) (sA R R (aZ (hK28 _ ?_)))))))))
    refine aS fun K29 hK29 wK29=>(aS fun _ hK30 _=>?_)
    refine aK (s':=⟨[(0,qa l1),(4,.own 5004 (i3 0)),(5,.own 5005 (i3 1)),(7,.ptr 7 (i3 2) 0 0),(9,rI (k4)),(13,rI ((l1.length:Int))),(14,rI (x2))],[(7,some (.box (i3 2) 46 (Aa x11))),(5004,some (.arr (i3 0) 55 4 (items2.map AB.row))),(5005,some (.arr (i3 1) 55 4 (attrs2.map AB.row)))],((i3 2)+1),121⟩) ?_
    refine aR (sM R R (sQ R (Zs R iL iL) (aZ (hK30 _ ?_))))
    refine FQ h25 fun p4 hp4 hk6=>?_
    have J6 : ∀ (k5:Int) (items11:List AB) (i14:Nat→Nat),p4=(k5,items11)→K29 ⟨[(0,qa l1),(4,.own 5004 (i14 0)),(5,.own 5005 (i3 1)),(7,.ptr 7 (i3 2) 0 0),(9,rI (k5)),(13,rI ((l1.length:Int))),(14,rI (x2))],[(7,some (.box (i3 2) 46 (Aa x11))),(5004,some (.arr (i14 0) 55 4 (items11.map AB.row))),(5005,some (.arr (i3 1) 55 4 (attrs2.map AB.row)))],(i14 1),121⟩:=by
     intro k5 items11 i14 e
     have h26:=hk6 _ _ e
     refine hK29 _ ?_
     refine aR (sM R R (sM R R (sQ R (fB R B8 iL fR R) (sQ R (Zc (a:=rI (x11.Item)) R AP iL R R) (sQ R (fB R DC iL fR R) (sQ R (Zc (a:=rI (x11.Parent)) R AP iL R R) (sQ R (fB R FY iL fR R) (sQ R (Zc (a:=.r (.str x11.Place)) R Aj iL R R) ?_))))))))
     refine sQ R (CX R Iu (q:=[(0,_),(1,_),(2,_)]) (by exact ⟨R,R,R,iL,R,R,R,iL,R,R,R,iL,Za⟩) (cs:=[rI (x11.Item),rI (x11.Parent),.r (.str x11.Place),cZ]) (by rfl)) ?_
     refine Zk h26 fun x13 ex13 h27=>(sQ R (Du R AZ.slice iL R iL (fun _=>ex13)) (Zz R R (Qp (v:=(AB.mk x11.Item x11.Parent x11.Place [])) R GE iL R ex13 iL R R R R) ?_))
     refine Zm ?_
     exact wK16 _ _ ((by exact Ze ⟨jL,jL,jL,jL,jL,Za⟩ ⟨.inl R,.inl R,Za⟩ nL)) (J4 _ _ (AI [(i14 0),(i3 1),(i14 1)]) (Zb h27).symm)
    refine aC R (fun hc7=>?_) (fun hc7=>?_)
    ·have h28:=Zo hc7 hp4
     refine aS fun _ hK31 _=>(aR (sM R R (sQ R (DO R AZ.slice iL R) (sA R R (aZ (hK31 _ ?_))))))
     refine aR (sM R R ?_)
     refine sQ R (CX R Iu (q:=[]) (by exact Za) (cs:=JQ) (by rfl)) ?_
     refine Zg R R R (BW 82 R AZ (f:=AB.row) (l:=([(AB.mk 0 0 [] [])]:List AB)) ⟨R,⟨_,iL,R⟩,Za⟩ R (fun _=>R) R) (Zk h28 fun items12 eitems12 h29=>(Zg R R R (Bg R AZ iL R (.inr (.inl ⟨_,_,iL,R⟩)) eitems12) (sA R R ?_)))
     refine Zm ?_
     exact wK29 _ _ ((by exact Ze ⟨jL,jL,jL,jL,jL,jL,jL,Za⟩ ⟨.inl R,.inl R,.inl R,Za⟩ nL)) (J6 _ _ (AI [((i3 2)+2),((i3 2)+3)]) (Zb h29).symm)
    ·have h28:=Zp hc7 hp4
     refine Zl ?_
     exact wK29 _ _ ((by exact Ze ⟨jL,jL,jL,jL,jL,jL,jL,Za⟩ ⟨.inl R,.inl R,.inl R,Za⟩ nL)) (J6 _ _ (AI [(i3 0),((i3 2)+1)]) (Zb h28).symm)
 ·have h12:=Zp hc3 h11
  refine Zx ?_
  exact wK3 _ _ ((by exact Ze ⟨jL,jL,Za⟩ ⟨.inl R,.inl R,Za⟩ nL)) (J1 _ _ (AI [(i3 0),(i3 1),(i3 2)]) (hx1 _ (Zb h12).symm))
theorem OT {l1:List AB} {r:(List AB)} (h:Gx l1=some r):Aq Try.prog 42 [qc l1] (qc r):=by
 unfold Gx at h
 refine ZJ Try.func42 R R Try.ntmps42 R (Zi R) fun n0=>?_
 refine aS fun _ hK1 _=>(aR (sA R R (aZ (hK1 _ ?_))))
 refine aS fun _ hK2 _=>(aR (sA R R (aZ (hK2 _ ?_))))
 refine aS fun _ hK3 _=>(aR (sA R R (aZ (hK3 _ ?_))))
 refine Zj ?_
 refine Be h fun o1 hit1 hk1 he1=>?_
 refine B0 (fun (last2:Int) (out2:List AB) i3=>⟨[(0,qc l1),(3,.own 5003 (i3 0)),(4,rI (last2))],[(5003,some (.arr (i3 0) 55 4 (out2.map AB.row)))],(i3 1),78⟩) (AI [n0,(n0+1)]) hit1 (ZG (ZG (EW 3 5003 55 4 (by decide) R) (by exact Ze (e':=[(0,qc l1),(2,cZ),(3,.own 5003 n0),(4,rI (0))]) (h':=[(5003,some (.arr n0 55 4 (([]:List AB).map AB.row)))]) ⟨jL,jL,jL,jL,Za⟩ ⟨.inl R,Za⟩ nL)) (by exact Ze ⟨jL,jL,jL,Za⟩ ⟨.inl R,Za⟩ nL)) ?_
 intro last2 out2 i3 v1 hv1 hx1
 have h1:FD l1 last2 out2=some v1:=hv1; unfold FD at h1
 refine Zj (aS fun _ hK4 _=>(aR (sA R R (aZ (hK4 _ ?_)))))
 refine aS fun K5 hK5 wK5=>(aS fun _ hK6 _=>(aR (sM R R (sQ R (ZD R AZ.slice iL) (sM R R (aZ (hK6 _ ?_)))))))
 refine Zj ?_
 refine BB h1 fun o2 hit2 hk2=>?_
 have J2 : ∀ (next4:Int) (i9:Nat→Nat),o2=next4→K5 ⟨[(0,qc l1),(3,.own 5003 (i3 0)),(5,rI (next4))],[(5003,some (.arr (i3 0) 55 4 (out2.map AB.row)))],(i9 0),78⟩:=by
  intro next4 i9 e
  have h2:=hk2 _ e
  refine hK5 _ ?_
  refine aS fun _ hK7 _=>(aS fun _ hK8 _=>(aR (sM R R (sQ R (Zs R iL iL) (aZ (hK8 _ ?_))))))
  refine aC R (fun hc1=>?_) (fun hc1=>?_)
  ·have h3:=Zo hc1 h2
   refine aS fun _ hK9 _=>(aR (sM R R (sA R R (aZ (hK9 _ ?_)))))
   refine Zr ?_
   exact Dl (P:=Try.prog) (fun (r:(List AB))=>qc r) (he1 _ (hx1 _ (Zb h3).symm)) iL (.t (.one (.own R)))
  ·have h3:=Zp hc1 h2
   refine Zl (hK7 _ ?_)
   refine aS fun _ hK10 _=>(aR (sM R R (sM R R (Zk h3 fun x4 ex4 h4=>(sQ R (Zt R AZ.slice iL iL (fun _=>R) (fun _=>ex4)) (sQ R (Zn R BT iL) (sQ R (Zy (d:=.int .i64 x4.Item) R AP iL R) (sA R R (aZ (hK10 _ ?_))))))))))
   refine aS fun _ hK11 _=>(aR (sA R R (aZ (hK11 _ ?_))))
   refine aS fun K12 hK12 wK12=>(aS fun _ hK13 _=>(aR (sM R R (sA R R (aZ (hK13 _ ?_))))))
   refine Zj ?_
   refine BB h4 fun o3 hit3 hk3=>?_
   have J3 : ∀ (chain4:List AB) (i14:Nat→Nat),o3=chain4→K12 ⟨[(0,qc l1),(3,.own 5003 (i3 0)),(4,rI (x4.Item)),(7,.own 5007 (i14 0))],[(5003,some (.arr (i3 0) 55 4 (out2.map AB.row))),(5007,some (.arr (i14 0) 55 4 (chain4.map AB.row)))],(i14 1),78⟩:=by
    intro chain4 i14 e
    have h5:=hk3 _ e
    refine hK12 _ ?_
    refine aR (sM R R (sM R R (Zk h5 fun out4 eout4 h6=>(Zg R R R (Bg R AZ iL R (.inr (.inl ⟨_,_,iL,R⟩)) eout4) (sA R R ?_)))))
    refine Zm ?_
    exact Bo.mk h6 (AI [(i14 1),((i14 1)+1)]) ((by exact Ze ⟨jL,jL,jL,Za⟩ ⟨.inl R,Za⟩ nL))
   refine B0 (fun (k2:Int) (chain2:List AB) i12=>⟨[(0,qc l1),(3,.own 5003 (i3 0)),(4,rI (x4.Item)),(7,.own 5007 (i12 0)),(8,rI (k2))],[(5003,some (.arr (i3 0) 55 4 (out2.map AB.row))),(5007,some (.arr (i12 0) 55 4 (chain2.map AB.row)))],(i12 1),78⟩) (AI [(i9 0),((i9 0)+1)]) hit3 (ZG (ZG (EW 7 5007 55 4 (by decide) R) (by exact Ze (e':=[(0,qc l1),(3,.own 5003 (i3 0)),(4,rI (x4.Item)),(5,rI (next4)),(7,.own 5007 (i9 0)),(8,rI (next4)),(40,rI (next4)),(41,rB ((decide (next4<0)))),(43,qc l1),(44,rI (next4)),(45,.rop (AB.row x4) 0),(46,.rop (AB.row x4) 0),(47,rI (x4.Item)),(48,rI (next4))]) (h':=[(5003,some (.arr (i3 0) 55 4 (out2.map AB.row))),(5007,some (.arr (i9 0) 55 4 (([]:List AB).map AB.row)))]) ⟨jL,jL,jL,jL,jL,jL,jL,jL,jL,jL,jL,jL,jL,jL,Za⟩ ⟨.inl R,.inl R,Za⟩ nL)) (by exact Ze ⟨jL,jL,jL,jL,jL,Za⟩ ⟨.inl R,.inl R,Za⟩ nL)) ?_
   intro k2 chain2 i12 v2 hv2 hx3
   have h7:Eo l1 out2 k2 chain2=some v2:=hv2; unfold Eo at h7
   refine aS fun _ hK14 _=>(aS fun _ hK15 _=>(aR (sM R R (sQ R (Cf R iL iL) (sM R R (sV R R R (Zd R iL) (sV R R R (Zd R iL) (sV R R R (Zd R iL) (Zk h7 fun x5 ex5 h8=>(sV R R R (Zt R AZ.slice (iR R) (iR R) (fun _=>R) (Ai ex5)) (sV R R R (Zn R BT (iR R)) (sV R R R (Zy (d:=.int .i64 x5.Item) R AP (iR R) R) (Zk h8 fun r1 er1 h9=>?_)))))))))))))
   refine AS.stepW (.one R R R) R R (ZC (r:=rI (r1)) (caps:=[]) (bs:=[qc out2,rI (x5.Item)]) R iL R ⟨⟨_,(iR R),.one (.own R)⟩,⟨_,(iR R),.d R⟩,Za⟩ (fun hg=>Dh (Ai er1 hg)) R) ?_
   refine sV R R R (Zs R (iR R) iL) (sQ R (ZB R iL (iR R)) (aZ (hK15 _ ?_)))
   refine aC R (fun hc2=>?_) (fun hc2=>?_)
   ·have h10:=Zo hc2 h9
    refine Zl (hK14 _ ?_)
    refine aS fun _ hK16 _=>(Zj (aR (sM R R (sM R R (Zk h10 fun x6 ex6 h11=>(sQ R (Zt R AZ.slice iL iL (fun _=>R) (fun _=>ex6)) (sQ R (ZH (cs:=(Bu x6)) R DD iL R R) (Zg R R R (BW 72 R AZ (f:=AB.row) (l:=([x6]:List AB)) ⟨R,⟨_,iL,R⟩,Za⟩ R (fun _=>R) R) (sM R R (Zk h11 fun chain5 echain5 h12=>(Zg R R R (Bg R AZ iL R (.inr (.inl ⟨_,_,iL,R⟩)) echain5) (sA R R (aZ (hK16 _ ?_))))))))))))))
    refine aK (s':=⟨[(0,qc l1),(3,.own 5003 (i3 0)),(4,rI (x4.Item)),(7,.own 72 ((i12 1)+1)),(8,rI (k2))],[(72,some (.arr ((i12 1)+1) 55 4 (chain5.map AB.row))),(5003,some (.arr (i3 0) 55 4 (out2.map AB.row)))],((i12 1)+2),78⟩) ?_
    refine aR (sM R R (sM R R (sM R R (sQ R (Zt R AZ.slice iL iL (fun _=>R) (fun _=>ex6)) (sQ R (Zn R Ca iL) (sQ R (Zy (d:=.int .i64 x6.Parent) R AP iL R) (Zk h12 fun k4 ek4 h13=>(Zg R R R (ZC (r:=rI (k4)) (caps:=[]) (bs:=[qc l1,rI (x6.Parent)]) R iL R ⟨⟨_,iL,.d R⟩,⟨_,iL,.d R⟩,Za⟩ (fun _=>Dh (ek4)) R) (sA R R ?_)))))))))
    refine Zm ?_
    exact Bo.mk h13 (AI [((i12 1)+2),((i12 1)+3)]) (ZG (ZG (Af.ren 7 72 5007 R R R) (by exact Ze (e':=[(0,qc l1),(3,.own 5003 (i3 0)),(4,rI (x4.Item)),(7,.own 5007 ((i12 1)+2)),(8,rI (k4)),(61,qc l1),(62,qc l1),(63,rI (k2)),(64,.rop (AB.row x6) 0),(65,.rop (AB.row x6) 1),(66,rI (x6.Parent)),(67,rI (k4))]) (h':=[(5003,some (.arr (i3 0) 55 4 (out2.map AB.row))),(5007,some (.arr ((i12 1)+2) 55 4 (chain5.map AB.row)))]) ⟨jL,jL,jL,jL,jL,jL,jL,jL,jL,jL,jL,jL,Za⟩ ⟨.inl R,.inl R,Za⟩ nL)) (by exact Ze ⟨jL,jL,jL,jL,jL,Za⟩ ⟨.inl R,.inl R,Za⟩ nL))
   ·have h10:=Zp hc2 h9
    refine Zx ?_
    exact wK12 _ _ ((by exact Ze ⟨jL,jL,jL,jL,Za⟩ ⟨.inl R,.inl R,Za⟩ nL)) (J3 _ (AI [(i12 0),(i12 1)]) (hx3 _ (Zb h10).symm))
 refine B0 (fun (next2:Int) (x2:Int) i7=>⟨[(0,qc l1),(3,.own 5003 (i3 0)),(4,rI (last2)),(5,rI (next2)),(10,rI ((l1.length:Int))),(11,rI (x2))],[(5003,some (.arr (i3 0) 55 4 (out2.map AB.row)))],(i7 0),78⟩) (AI [(i3 1)]) hit2 ((by exact Ze ⟨jL,jL,jL,jL,jL,jL,Za⟩ ⟨.inl R,Za⟩ nL)) ?_
 intro next2 x2 i7 v3 hv3 hx2
 have h14:Fb l1 last2 next2 x2=some v3:=hv3; unfold Fb at h14
 refine aS fun _ hK17 _=>(aR (sQ R (Zs R iL iL) (aZ (hK17 _ ?_))))
 refine aS fun _ hK18 _=>?_
 refine aC R (fun hc3=>?_) (fun hc3=>?_)
 ·have h15:=Zo hc3 h14
  refine Zl (hK18 _ ?_)
  refine aS fun K19 hK19 wK19=>(Zj ?_)
  refine BB h15 fun p1 hp1 hk4=>?_
  have J4 : ∀ (next5:Int) (i15:Nat→Nat),p1=next5→K19 ⟨[(0,qc l1),(3,.own 5003 (i3 0)),(4,rI (last2)),(5,rI (next5)),(10,rI ((l1.length:Int))),(11,rI (x2))],[(5003,some (.arr (i3 0) 55 4 (out2.map AB.row)))],(i15 0),78⟩:=by
   intro next5 i15 e
   have h16:=hk4 _ e
   refine hK19 _ ?_
   refine aR (Zk h16 fun x7 ex7 h17=>(sQ R (ZA R iL iL (fun _=>ex7)) (sM R R ?_)))
   refine Zm ?_
   exact Bo.mk h17 (AI [(i15 0)]) ((by exact Ze ⟨jL,jL,jL,jL,jL,jL,Za⟩ ⟨.inl R,Za⟩ nL))
  refine aS fun _ hK20 _=>(aR (sM R R (sA R R (aZ (hK20 _ ?_)))))
  refine aS fun _ hK21 _=>?_
  refine ZQ BD (by kernel_rfl) ?_
  refine Zh R R R (Zd R iL) (Zh R R R (Zd R iL) (Zk hp1 fun x8 ex8 h18=>(Zh R R R (Zt R AZ.slice iL iL (fun _=>R) (fun _=>ex8)) (Zh R R R (Zn R BT iL) (Zh R R R (Zy (d:=.int .i64 x8.Item) R AP iL R) (Zh R R R (Zd R iL) (Zh R R R (A7 R iL iL) (Zh R R R (Zd R iL) ?_))))))))
  refine Zf (.one R R R) R R (Zd R iL) ?_
  refine Zf (.one R R R) R R (Zs R (iR R) iL) ?_
  refine Zf (.one R R R) R R (Zd R (iR R)) ?_
  refine Zf (.two R R R) R R (Zd R iL) ?_
  refine Zf (.two R R R) R R (Zd R iL) ?_
  refine Zf (.two R R R) R R (Zt R AZ.slice (iR R) (iR R) (fun _=>R) (fun _=>ex8)) ?_
  refine Zf (.two R R R) R R (Zn R BT (iR R)) ?_
  refine Zf (.two R R R) R R (Zy (d:=.int .i64 x8.Item) R AP (iR R) R) ?_
  refine Zf (.two R R R) R R (Zd R iL) ?_
  refine Zf (.two R R R) R R (Zd R iL) ?_
  refine Zk h18 fun x9 ex9 h19=>?_
  refine Zf (.two R R R) R R (Zt R AZ.slice (iR R) (iR R) (fun _=>R) (Ai ex9)) ?_
  refine Zf (.two R R R) R R (Zn R BT (iR R)) ?_
  refine Zf (.two R R R) R R (Zy (d:=.int .i64 x9.Item) R AP (iR R) R) ?_
  refine Zf (.two R R R) R R (Zs R (iR R) (iR R)) ?_
  refine Zf (.one R R R) R R (ZF R (iR R) (iR R)) ?_
  refine Zh R R R (ZB R iL (iR R)) ?_
  refine AQ.nil ?_
  refine hK21 _ ?_
  refine aC R (fun hc4=>?_) (fun hc4=>?_)
  ·have h20:=Zo hc4 h19
   refine aK (s':=⟨[(0,qc l1),(3,.own 5003 (i3 0)),(4,rI (last2)),(6,rI (x2)),(10,rI ((l1.length:Int))),(11,rI (x2))],[(5003,some (.arr (i3 0) 55 4 (out2.map AB.row)))],(i7 0),78⟩) ?_
   refine aR (sM R R (sA R R ?_))
   refine Zm ?_
   exact wK19 _ _ ((by exact Ze ⟨jL,jL,jL,jL,jL,jL,Za⟩ ⟨.inl R,Za⟩ nL)) (J4 _ (AI [(i7 0)]) (Zb h20).symm)
  ·have h20:=Zp hc4 h19
   refine Zl ?_
   exact wK19 _ _ ((by exact Ze ⟨jL,jL,jL,jL,jL,jL,Za⟩ ⟨.inl R,Za⟩ nL)) (J4 _ (AI [(i7 0)]) (Zb h20).symm)
 ·have h15:=Zp hc3 h14
  refine Zx ?_
  exact wK5 _ _ ((by exact Ze ⟨jL,jL,jL,Za⟩ ⟨.inl R,Za⟩ nL)) (J2 _ (AI [(i7 0)]) (hx2 _ (Zb h15).symm))
theorem NM {l1:List AC} {name1:List UInt8} {r:(List UInt8)} (h:G8 l1 name1=some r):Aq Try.prog 63 [qb l1,.r (.str name1)] (.r (.str r)):=by
 unfold G8 at h
 refine ZJ Try.func63 R R Try.ntmps63 R (Zi R) fun n0=>?_
 refine aS fun _ hK1 _=>(aR (sA R R (aZ (hK1 _ ?_))))
 refine aS fun K2 hK2 wK2=>(aS fun _ hK3 _=>(aR (sM R R (sQ R (ZD R Ah.slice iL) (sM R R (aZ (hK3 _ ?_)))))))
 refine Zj ?_
 refine Be h fun o1 hit1 hk1 he1=>?_
 have J1 : ∀ (u2:Unit) (i5:Nat→Nat),o1 = .nrm u2→K2 ⟨[],[],(i5 0),24⟩:=by
  intro u2 i5 e
  have h1:=hk1 _ e
  refine hK2 _ ?_
  refine aS fun _ hK4 _=>(aR (sA R R (aZ (hK4 _ ?_))))
  refine Zr ?_
  exact Dl (P:=Try.prog) (fun (r:(List UInt8))=>.r (.str r)) h1 iL (.t (.d R))
 refine Cj (fun (x2:Int) i3=>⟨[(0,qb l1),(1,.r (.str name1)),(7,rI ((l1.length:Int))),(8,rI (x2))],[],(i3 0),24⟩) (AI [n0]) hit1 ((by exact Ze ⟨jL,jL,jL,jL,Za⟩ Za nL)) ?_
 intro x2 i3 v1 hv1 hx1
 have h2:Hw l1 name1 x2=some v1:=hv1; unfold Hw at h2
 refine aS fun _ hK5 _=>(aR (sQ R (Zs R iL iL) (aZ (hK5 _ ?_))))
 refine aS fun _ hK6 _=>?_
 refine aC R (fun hc1=>?_) (fun hc1=>?_)
 ·have h3:=Zo hc1 h2
  refine Zl (hK6 _ ?_)
  refine aS fun _ hK7 _=>(Zj (aS fun _ hK8 _=>(aR (sM R R (sA R R (aZ (hK8 _ ?_)))))))
  refine aS fun _ hK9 _=>(aR (sM R R (sM R R (Zk h3 fun x4 ex4 h4=>(sQ R (Zt R Ah.slice iL iL (fun _=>R) (fun _=>ex4)) (sQ R (Zn R CI iL) (sQ R (Zy (d:=.str x4.Name) R Aj iL R) (sM R R (sQ R (EP R iL iL) (aZ (hK9 _ ?_)))))))))))
  refine aC R (fun hc2=>?_) (fun hc2=>?_)
  ·have h5:=Zo hc2 h4
   refine aS fun _ hK10 _=>?_
   refine aK (s':=⟨[(0,qb l1),(5,rI (x2))],[],(i3 0),24⟩) ?_
   refine aR (sM R R (sM R R (sQ R (Zt R Ah.slice iL iL (fun _=>R) (fun _=>ex4)) (sQ R (Zn R I4 iL) (sQ R (Zy (d:=.str x4.Value) R Aj iL R) (sA R R (aZ (hK10 _ ?_))))))))
   refine Zr ?_
   exact Dl (P:=Try.prog) (fun (r:(List UInt8))=>.r (.str r)) (he1 _ (hx1 _ (Zb h5).symm)) iL (.t (.d R))
  ·have h5:=Zp hc2 h4
   refine Zl (hK7 _ ?_)
   refine aK (s':=⟨[(0,qb l1),(1,.r (.str name1)),(7,rI ((l1.length:Int))),(8,rI (x2))],[],(i3 0),24⟩) ?_
   refine aR (Zk h5 fun x5 ex5 h6=>(sQ R (ZA R iL iL (fun _=>ex5)) (sM R R ?_)))
   refine Zm ?_
   exact CB.mk h6 (AI [(i3 0)]) ((by exact Ze ⟨jL,jL,jL,jL,Za⟩ Za nL))
 ·have h3:=Zp hc1 h2
  refine Zx ?_
  exact wK2 _ _ ((by exact Ze Za Za nL)) (J1 _ (AI [(i3 0)]) (hx1 _ (Zb h3).symm))
theorem TI {a1:List AC} {b1:List AC} {r:(List AC)} (h:HS a1 b1=some r):Aq Try.prog 43 [qb a1,qb b1] (qb r):=by
 unfold HS at h
 refine ZJ Try.func43 R R Try.ntmps43 R (Zi R) fun n0=>?_
 refine aS fun _ hK1 _=>(aR (sA R R (aZ (hK1 _ ?_))))
 refine aS fun _ hK2 _=>(aR (sA R R (aZ (hK2 _ ?_))))
 refine aS fun K3 hK3 wK3=>(aS fun _ hK4 _=>(aR (sM R R (sQ R (ZD R Ah.slice iL) (sM R R (aZ (hK4 _ ?_)))))))
 refine Zj ?_
 refine BB h fun o1 hit1 hk1=>?_
 have J1 : ∀ (out4:List AC) (i5:Nat→Nat),o1=out4→K3 ⟨[(0,qb a1),(1,qb b1),(5,qb out4)],[],(i5 0),56⟩:=by
  intro out4 i5 e
  have h1:=hk1 _ e
  refine hK3 _ ?_
  refine aS fun K5 hK5 wK5=>(aS fun _ hK6 _=>(aR (sM R R (sQ R (ZD R Ah.slice iL) (sM R R (aZ (hK6 _ ?_)))))))
  refine Zj ?_
  refine BB h1 fun o2 hit2 hk2=>?_
  have J2 : ∀ (out8:List AC) (i10:Nat→Nat),o2=out8→K5 ⟨[(5,qb out8)],[],(i10 0),56⟩:=by
   intro out8 i10 e
   have h2:=hk2 _ e
   refine hK5 _ ?_
   refine aS fun _ hK7 _=>(aR (sM R R (sA R R (aZ (hK7 _ ?_)))))
   refine Zr ?_
   exact Dl (P:=Try.prog) (fun (r:(List AC))=>qb r) h2 iL (.t (.d R))
  refine B0 (fun (out6:List AC) (x5:Int) i8=>⟨[(0,qb a1),(1,qb b1),(5,qb out6),(34,rI ((a1.length:Int))),(35,rI (x5))],[],(i8 0),56⟩) (AI [(i5 0)]) hit2 ((by exact Ze ⟨jL,jL,jL,jL,jL,Za⟩ Za nL)) ?_
  intro out6 x5 i8 v1 hv1 hx2
  have h3:Ih a1 b1 out6 x5=some v1:=hv1; unfold Ih at h3
  refine aS fun _ hK8 _=>(aR (sQ R (Zs R iL iL) (aZ (hK8 _ ?_))))
  refine aS fun _ hK9 _=>?_
  refine aC R (fun hc1=>?_) (fun hc1=>?_)
  ·have h4:=Zo hc1 h3
   refine Zl (hK9 _ ?_)
   refine aS fun K10 hK10 wK10=>(Zj ?_)
   refine BB h4 fun p1 hp1 hk3=>?_
   have J3 : ∀ (out9:List AC) (i11:Nat→Nat),p1=out9→K10 ⟨[(0,qb a1),(1,qb b1),(5,qb out9),(34,rI ((a1.length:Int))),(35,rI (x5))],[],(i11 0),56⟩:=by
    intro out9 i11 e
    have h5:=hk3 _ e
    refine hK10 _ ?_
    refine aR (Zk h5 fun x7 ex7 h6=>(sQ R (ZA R iL iL (fun _=>ex7)) (sM R R ?_)))
    refine Zm ?_
    exact Bo.mk h6 (AI [(i11 0)]) ((by exact Ze ⟨jL,jL,jL,jL,jL,Za⟩ Za nL))
   refine aS fun _ hK11 _=>(aR (sM R R (sA R R (aZ (hK11 _ ?_)))))
   refine aS fun _ hK12 _=>(aR (sM R R (sM R R (sM R R (Zk hp1 fun x8 ex8 h7=>(sQ R (Zt R Ah.slice iL iL (fun _=>R) (fun _=>ex8)) (sQ R (Zn R CI iL) (sQ R (Zy (d:=.str x8.Name) R Aj iL R) (Zk h7 fun r1 er1 h8=>(Zg R R R (ZC (r:=.r (.str r1)) (caps:=[]) (bs:=[qb b1,.r (.str x8.Name)]) R iL R ⟨⟨_,iL,.d R⟩,⟨_,iL,.d R⟩,Za⟩ (fun _=>NM (er1)) R) (sQ R (EP R iL iL) (aZ (hK12 _ ?_)))))))))))))
   refine aC R (fun hc2=>?_) (fun hc2=>?_)
   ·have h9:=Zo hc2 h8
    refine aK (s':=⟨[(0,qb a1),(1,qb b1),(5,qb out6),(7,rI (x5)),(34,rI ((a1.length:Int))),(35,rI (x5))],[],(i8 0),56⟩) ?_
    refine aR (sM R R (sM R R (sM R R (sQ R (Zt R Ah.slice iL iL (fun _=>R) (fun _=>ex8)) (sQ R (Zn R CI iL) (sQ R (Zy (d:=.str x8.Name) R Aj iL R) ?_))))))
    refine sQ R (CX R FS (q:=[(0,_)]) (by exact ⟨R,R,R,iL,Za⟩) (cs:=[.r (.str x8.Name),.r (.str [])]) (by rfl)) ?_
    refine Zk h9 fun out10 eout10 h10=>(Zg R R R (B4 (r:=qb out10) (caps:=[]) (bs:=[qb out6,.agg [.r (.str x8.Name),.r (.str [])]]) R iL R ⟨.inl ⟨iL,R⟩,.inl ⟨iL,R⟩,Za⟩ (fun _=>Kk (eout10))) (sA R R ?_))
    refine Zm ?_
    exact wK10 _ _ ((by exact Ze ⟨jL,jL,jL,jL,jL,Za⟩ Za nL)) (J3 _ (AI [(i8 0)]) (Zb h10).symm)
   ·have h9:=Zp hc2 h8
    refine Zl ?_
    exact wK10 _ _ ((by exact Ze ⟨jL,jL,jL,jL,jL,Za⟩ Za nL)) (J3 _ (AI [(i8 0)]) (Zb h9).symm)
  ·have h4:=Zp hc1 h3
   refine Zx ?_
   exact wK5 _ _ ((by exact Ze ⟨jL,Za⟩ Za nL)) (J2 _ (AI [(i8 0)]) (hx2 _ (Zb h4).symm))
 refine B0 (fun (out2:List AC) (x2:Int) i3=>⟨[(0,qb a1),(1,qb b1),(5,qb out2),(9,rI ((b1.length:Int))),(10,rI (x2))],[],(i3 0),56⟩) (AI [n0]) hit1 ((by exact Ze ⟨jL,jL,.inl (.inr (.inr ⟨R,R⟩)),jL,jL,Za⟩ Za nL)) ?_
 intro out2 x2 i3 v2 hv2 hx1
 have h11:Hy a1 b1 out2 x2=some v2:=hv2; unfold Hy at h11
 refine aS fun _ hK13 _=>(aR (sQ R (Zs R iL iL) (aZ (hK13 _ ?_))))
 refine aS fun _ hK14 _=>?_
 refine aC R (fun hc3=>?_) (fun hc3=>?_)
 ·have h12:=Zo hc3 h11
  refine Zl (hK14 _ ?_)
  refine aS fun K15 hK15 wK15=>(Zj ?_)
  refine BB h12 fun p2 hp2 hk4=>?_
  have J4 : ∀ (out11:List AC) (i12:Nat→Nat),p2=out11→K15 ⟨[(0,qb a1),(1,qb b1),(5,qb out11),(9,rI ((b1.length:Int))),(10,rI (x2))],[],(i12 0),56⟩:=by
   intro out11 i12 e
   have h13:=hk4 _ e
   refine hK15 _ ?_
   refine aR (Zk h13 fun x9 ex9 h14=>(sQ R (ZA R iL iL (fun _=>ex9)) (sM R R ?_)))
   refine Zm ?_
   exact Bo.mk h14 (AI [(i12 0)]) ((by exact Ze ⟨jL,jL,jL,jL,jL,Za⟩ Za nL))
  refine aS fun _ hK16 _=>(aR (sM R R (sA R R (aZ (hK16 _ ?_)))))
  refine aS fun _ hK17 _=>?_
  refine ZQ BD (by kernel_rfl) ?_
  refine Zh R R R (Zd R iL) (Zh R R R (Zd R iL) (Zh R R R (Zd R iL) (Zk hp2 fun x10 ex10 h15=>(Zh R R R (Zt R Ah.slice iL iL (fun _=>R) (fun _=>ex10)) (Zh R R R (Zn R CI iL) (Zh R R R (Zy (d:=.str x10.Name) R Aj iL R) (Zk h15 fun r2 er2 h16=>?_)))))))
  refine Vc R R R (r:=.r (.str r2)) (caps:=[]) (bs:=[qb a1,.r (.str x10.Name)]) R iL R ⟨⟨_,iL,.d R⟩,⟨_,iL,.d R⟩,Za⟩ (fun _=>NM (er2)) R ?_
  refine Zh R R R (Zd R iL) (Zh R R R (Zd R iL) (Zh R R R (Zt R Ah.slice iL iL (fun _=>R) (fun _=>ex10)) (Zh R R R (Zn R I4 iL) (Zh R R R (Zy (d:=.str x10.Value) R Aj iL R) (Zh R R R (C1 R iL iL) ?_)))))
  refine AQ.nil ?_
  refine hK17 _ ?_
  refine aC R (fun hc4=>?_) (fun hc4=>?_)
  ·have h17:=Zo hc4 h16
   refine aK (s':=⟨[(0,qb a1),(1,qb b1),(5,qb out2),(6,rI (x2)),(9,rI ((b1.length:Int))),(10,rI (x2))],[],(i3 0),56⟩) ?_
   refine aR (sM R R (sM R R (sM R R (sQ R (Zt R Ah.slice iL iL (fun _=>R) (fun _=>ex10)) (sQ R (ZH (cs:=[.r (.str x10.Name), .r (.str x10.Value)]) R Bw iL R R) (Zk h17 fun out12 eout12 h18=>(Zg R R R (B4 (r:=qb out12) (caps:=[]) (bs:=[qb out2,.agg [.r (.str x10.Name), .r (.str x10.Value)]]) R iL R ⟨.inl ⟨iL,R⟩,.inl ⟨iL,R⟩,Za⟩ (fun _=>Kk (eout12))) (sA R R ?_))))))))
   refine Zm ?_
   exact wK15 _ _ ((by exact Ze ⟨jL,jL,jL,jL,jL,Za⟩ Za nL)) (J4 _ (AI [(i3 0)]) (Zb h18).symm)
  ·have h17:=Zp hc4 h16
   refine Zl ?_
   exact wK15 _ _ ((by exact Ze ⟨jL,jL,jL,jL,jL,Za⟩ Za nL)) (J4 _ (AI [(i3 0)]) (Zb h17).symm)
 ·have h12:=Zp hc3 h11
  refine Zx ?_
  exact wK3 _ _ ((by exact Ze ⟨jL,jL,jL,Za⟩ Za nL)) (J1 _ (AI [(i3 0)]) (hx1 _ (Zb h12).symm))
theorem U3 {l1:List AD} {want1:List AD} {r:Int × (List Int)} (h:I8 l1 want1=some r):Aq Try.prog 22 [qa l1,qa want1] (.tup [rI (r.1),.r (.sl (r.2.map (Ad .i64)))]):=by
 unfold I8 at h
 refine ZJ Try.func22 R R Try.ntmps22 R (Zi R) fun n0=>?_
 refine aS fun _ hK1 _=>(aR (sA R R (sA R R (aZ (hK1 _ ?_)))))
 refine aS fun _ hK2 _=>(aR (sM R R (DW h fun r1 r2 er1 h1=>(Zg R R R (B4 (r:=.tup [qc r1,qc r2]) (caps:=[]) (bs:=[qa l1]) R iL R ⟨.inl ⟨iL,R⟩,Za⟩ (fun _=>L6 (er1))) (sM R R (sQ R (ZE (a:=qc r1) R iL R) (sQ R (ZE (a:=qc r2) R iL R) (sA R R (sA R R (aZ (hK2 _ ?_)))))))))))
 refine aS fun _ hK3 _=>(aR (sM R R (DW h1 fun r3 r4 er3 h2=>(Zg R R R (B4 (r:=.tup [qc r3,qc r4]) (caps:=[]) (bs:=[qa want1]) R iL R ⟨.inl ⟨iL,R⟩,Za⟩ (fun _=>L6 (er3))) (sM R R (sQ R (ZE (a:=qc r3) R iL R) (sQ R (ZE (a:=qc r4) R iL R) (sA R R (sA R R (aZ (hK3 _ ?_)))))))))))
 refine aS fun _ hK4 _=>?_
 refine aK (s':=⟨[(6,qc r1),(7,qc r2),(8,qc r3),(9,qc r4)],[],n0,185⟩) ?_
 refine aR (sA R R (aZ (hK4 _ ?_)))
 refine aS fun _ hK5 _=>(aR (sM R R (Zk h2 fun a1 ea1 h3=>(Zg R R R (B4 (r:=qc a1) (caps:=[]) (bs:=[qc r1]) R iL R ⟨.inl ⟨iL,R⟩,Za⟩ (fun _=>OT (ea1))) (sM R R (Zk h3 fun b1 eb1 h4=>(Zg R R R (B4 (r:=qc b1) (caps:=[]) (bs:=[qc r3]) R iL R ⟨.inl ⟨iL,R⟩,Za⟩ (fun _=>OT (eb1))) (sA R R (sA R R (aZ (hK5 _ ?_)))))))))))
 refine aS fun K6 hK6 wK6=>(aS fun _ hK7 _=>(aR (sM R R (sQ R (ZD R AZ.slice iL) (sM R R (aZ (hK7 _ ?_)))))))
 refine Zj ?_
 refine BB h4 fun o1 hit1 hk1=>?_
 have J1 : ∀ (out4:List Int) (i5:Nat→Nat),o1=out4→K6 ⟨[(6,qc r1),(7,qc r2),(9,qc r4),(10,.own 5010 (i5 0)),(12,qc b1)],[(5010,some (.arr (i5 0) 3 1 (out4.map (Ad .i64))))],(i5 1),185⟩:=by
  intro out4 i5 e
  have h5:=hk1 _ e
  refine hK6 _ ?_
  refine aS fun K8 hK8 wK8=>(aS fun _ hK9 _=>(aR (sM R R (sQ R (ZD R AZ.slice iL) (sM R R (aZ (hK9 _ ?_)))))))
  refine Zj ?_
  refine BB h5 fun o2 hit2 hk2=>?_
  have J2 : ∀ (out8:List Int) (i10:Nat→Nat),o2=out8→K8 ⟨[(7,qc r2),(9,qc r4),(10,.own 5010 (i10 0))],[(5010,some (.arr (i10 0) 3 1 (out8.map (Ad .i64))))],(i10 1),185⟩:=by
   intro out8 i10 e
   have h6:=hk2 _ e
   refine hK8 _ ?_
   refine aS fun _ hK10 _=>(aR (sA R R (aZ (hK10 _ ?_))))
   refine Zj ?_
   refine Be h6 fun o3 hit3 hk3 he3=>?_
   refine B0 (fun (last2:Int) (out10:List Int) i13=>⟨[(7,qc r2),(9,qc r4),(10,.own 5010 (i13 0)),(16,rI (last2))],[(5010,some (.arr (i13 0) 3 1 (out10.map (Ad .i64))))],(i13 1),185⟩) (AI [(i10 0),(i10 1)]) hit3 ((by exact Ze ⟨jL,jL,jL,jL,Za⟩ ⟨.inl R,Za⟩ nL)) ?_
   intro last2 out10 i13 v1 hv1 hx3
   have h7:FF r2 r4 last2 out10=some v1:=hv1; unfold FF at h7
   refine Zj (aS fun _ hK11 _=>(aR (sA R R (aZ (hK11 _ ?_)))))
   refine aS fun _ hK12 _=>(aR (Zg R R R (BW 118 R AZ (f:=AB.row) (l:=([]:List AB)) Za R (fun _=>R) R) (sM R R (Zk h7 fun l2 el2 h8=>(Zg R R R (Bg R AZ iL R (.inl ⟨iL,fun _=>R⟩) el2) (sM R R (Zk h8 fun all1 eall1 h9=>(Zg R R R (Bg R AZ iL R (.inl ⟨iL,fun _=>R⟩) eall1) (sA R R (aZ (hK12 _ ?_)))))))))))
   refine aS fun K13 hK13 wK13=>(aS fun _ hK14 _=>(aR (sM R R (sQ R (DO R AZ.slice iL R) (sM R R (aZ (hK14 _ ?_)))))))
   refine Zj ?_
   refine BB h9 fun o4 hit4 hk4=>?_
   have J4 : ∀ (next4:Int) (i19:Nat→Nat),o4=next4→K13 ⟨[(7,qc r2),(9,qc r4),(10,.own 5010 (i13 0)),(17,rI (next4))],[(5010,some (.arr (i13 0) 3 1 (out10.map (Ad .i64))))],(i19 0),185⟩:=by
    intro next4 i19 e
    have h10:=hk4 _ e
    refine hK13 _ ?_
    refine aS fun _ hK15 _=>(aS fun _ hK16 _=>(aR (sM R R (sQ R (ZM R iL iL) (aZ (hK16 _ ?_))))))
    refine aC R (fun hc1=>?_) (fun hc1=>?_)
    ·have h11:=Zo hc1 h10
     refine aS fun _ hK17 _=>(aR (sM R R (sQ R (DO R Bl.slice iL R) (sM R R (sA R R (sA R R (aZ (hK17 _ ?_))))))))
     refine Zr ?_
     exact Dc (P:=Try.prog) (fun (r:Int × (List Int))=>rI (r.1)) (fun (r:Int × (List Int))=>.r (.sl (r.2.map (Ad .i64)))) (he3 _ (hx3 _ (Zb h11).symm)) iL (.t (.d R)) (.t (.one (.own R)))
    ·have h11:=Zp hc1 h10
     refine Zl (hK15 _ ?_)
     refine aS fun _ hK18 _=>(aR (sM R R (sA R R (aZ (hK18 _ ?_)))))
     refine aS fun _ hK19 _=>(aR (sA R R (sA R R (aZ (hK19 _ ?_)))))
     refine aS fun K20 hK20 wK20=>(aS fun _ hK21 _=>(aR (sM R R (sM R R (Zk h11 fun k1 ek1 h12=>(Zg R R R (ZC (r:=rI (k1)) (caps:=[]) (bs:=[qc r2,rI (next4)]) R iL R ⟨⟨_,iL,.d R⟩,⟨_,iL,.d R⟩,Za⟩ (fun _=>Dh (ek1)) R) (sA R R (aZ (hK21 _ ?_)))))))))
     refine aS fun _ hK22 _=>(aR (sM R R (sQ R (Cf R iL iL) (aZ (hK22 _ ?_)))))
     refine BB h12 fun p1 hp1 hk5=>?_
     have J5 : ∀ (x10:List AC) (i20:Nat→Nat),p1=x10→K20 ⟨[(7,qc r2),(9,qc r4),(10,.own 5010 (i13 0)),(16,rI (next4)),(17,rI (next4)),(21,qb x10),(22,cZ)],[(5010,some (.arr (i13 0) 3 1 (out10.map (Ad .i64))))],(i20 0),185⟩:=by
      intro x10 i20 e
      have h13:=hk5 _ e
      refine hK20 _ ?_
      refine aS fun K23 hK23 wK23=>(aS fun _ hK24 _=>(aR (sM R R (sM R R (Zk h13 fun k2 ek2 h14=>(Zg R R R (ZC (r:=rI (k2)) (caps:=[]) (bs:=[qc r4,rI (next4)]) R iL R ⟨⟨_,iL,.d R⟩,⟨_,iL,.d R⟩,Za⟩ (fun _=>Dh (ek2)) R) (sA R R (aZ (hK24 _ ?_)))))))))
      refine aS fun _ hK25 _=>(aR (sM R R (sQ R (Cf R iL iL) (aZ (hK25 _ ?_)))))
      refine BB h14 fun p2 hp2 hk6=>?_
      have J6 : ∀ (y1:List AC) (i21:Nat→Nat),p2=y1→K23 ⟨[(7,qc r2),(9,qc r4),(10,.own 5010 (i13 0)),(16,rI (next4)),(17,rI (next4)),(21,qb x10),(22,qb y1)],[(5010,some (.arr (i13 0) 3 1 (out10.map (Ad .i64))))],(i21 0),185⟩:=by
       intro y1 i21 e
       have h15:=hk6 _ e
       refine hK23 _ ?_
       refine aS fun _ hK26 _=>(aR (sM R R (sM R R (Zk h15 fun r5 er5 h16=>(Zg R R R (B4 (r:=qb r5) (caps:=[]) (bs:=[qb x10,qb y1]) R iL R ⟨.inl ⟨iL,R⟩,.inl ⟨iL,R⟩,Za⟩ (fun _=>TI (er5))) (sQ R (ZD R Ah.slice iL) (sM R R (aZ (hK26 _ ?_)))))))))
       refine Zj ?_
       refine Be h16 fun o5 hit5 hk7 he7=>?_
       refine B0 (fun (x12:Int) (out13:List Int) i24=>⟨[(7,qc r2),(9,qc r4),(10,.own 5010 (i24 0)),(16,rI (next4)),(17,rI (next4)),(176,rI ((r5.length:Int))),(177,rI (x12))],[(5010,some (.arr (i24 0) 3 1 (out13.map (Ad .i64))))],(i24 1),185⟩) (AI [(i13 0),(i21 0)]) hit5 ((by exact Ze ⟨jL,jL,jL,jL,jL,jL,jL,Za⟩ ⟨.inl R,Za⟩ nL)) ?_
       intro x12 out13 i24 v2 hv2 hx5
       have h17:Eh next4 r5 x12 out13=some v2:=hv2; unfold Eh at h17
       refine aS fun _ hK27 _=>(aR (sQ R (Zs R iL iL) (aZ (hK27 _ ?_))))
       refine aS fun _ hK28 _=>?_
       refine aC R (fun hc2=>?_) (fun hc2=>?_)
       ·have h18:=Zo hc2 h17
        refine Zl (hK28 _ ?_)
        refine aS fun _ hK29 _=>(Zj (aR (sM R R (sM R R (Zk h18 fun x14 ex14 h19=>(sQ R (OY R iL (fun _=>ex14)) (Zg R R R (BW 182 R Bl (f:=(Ad .i64)) (l:=([x14]:List Int)) ⟨R,⟨_,iL,R⟩,Za⟩ R (fun _=>R) R) (Zk h19 fun out15 eout15 h20=>(Zg R R R (Bg R Bl iL R (.inr (.inl ⟨_,_,iL,R⟩)) eout15) (sA R R (aZ (hK29 _ ?_))))))))))))
        refine aR (Zk h20 fun x15 ex15 h21=>(sQ R (ZA R iL iL (fun _=>ex15)) (sM R R ?_)))
        refine Zm ?_
        exact Bo.mk h21 (AI [((i24 1)+1),((i24 1)+2)]) ((by exact Ze ⟨jL,jL,jL,jL,jL,jL,jL,Za⟩ ⟨.inl R,Za⟩ nL))
       ·have h18:=Zp hc2 h17
        refine Zx ?_
        exact Bo.mk (he7 _ (hx5 _ (Zb h18).symm)) (AI [(i24 0),(i24 1)]) ((by exact Ze ⟨jL,jL,jL,jL,Za⟩ ⟨.inl R,Za⟩ nL))
      refine aC R (fun hc3=>?_) (fun hc3=>?_)
      ·have h22:=Zo hc3 hp2
       refine aR (sM R R (sM R R (Zk h22 fun x16 ex16 h23=>(sQ R (Zt R AZ.slice iL iL (fun _=>R) (fun _=>ex16)) (sQ R (Zn R E4 iL) (sQ R (Zy (d:=.sl (x16.Attrs.map AC.row)) R Dk iL R) (sA R R ?_)))))))
       refine Zm ?_
       exact wK23 _ _ ((by exact Ze ⟨jL,jL,jL,jL,jL,jL,jL,Za⟩ ⟨.inl R,Za⟩ nL)) (J6 _ (AI [(i20 0)]) (Zb h23).symm)
      ·have h22:=Zp hc3 hp2
       refine Zl ?_
       exact wK23 _ _ ((by exact Ze ⟨jL,jL,jL,jL,jL,jL,.inl (.inr (.inr ⟨R,R⟩)),Za⟩ ⟨.inl R,Za⟩ nL)) (J6 _ (AI [(i20 0)]) (Zb h22).symm)
     refine aC R (fun hc4=>?_) (fun hc4=>?_)
     ·have h24:=Zo hc4 hp1
      refine aK (s':=⟨[(7,qc r2),(9,qc r4),(10,.own 5010 (i13 0)),(16,rI (next4)),(17,rI (next4)),(22,cZ),(23,rI (k1))],[(5010,some (.arr (i13 0) 3 1 (out10.map (Ad .i64))))],(i19 0),185⟩) ?_
      refine aR (sM R R (sM R R (Zk h24 fun x17 ex17 h25=>(sQ R (Zt R AZ.slice iL iL (fun _=>R) (fun _=>ex17)) (sQ R (Zn R E4 iL) (sQ R (Zy (d:=.sl (x17.Attrs.map AC.row)) R Dk iL R) (sA R R ?_)))))))
      refine Zm ?_
      exact wK20 _ _ ((by exact Ze ⟨jL,jL,jL,jL,jL,jL,jL,Za⟩ ⟨.inl R,Za⟩ nL)) (J5 _ (AI [(i19 0)]) (Zb h25).symm)
     ·have h24:=Zp hc4 hp1
      refine Zl ?_
      exact wK20 _ _ ((by exact Ze ⟨jL,jL,jL,jL,jL,.inl (.inr (.inr ⟨R,R⟩)),jL,Za⟩ ⟨.inl R,Za⟩ nL)) (J5 _ (AI [(i19 0)]) (Zb h24).symm)
   refine B0 (fun (next2:Int) (x8:Int) i17=>⟨[(7,qc r2),(9,qc r4),(10,.own 5010 (i13 0)),(16,rI (last2)),(17,rI (next2)),(18,.own 118 ((i13 1)+2)),(124,rI ((all1.length:Int))),(125,rI (x8))],[(118,some (.arr ((i13 1)+2) 55 4 (all1.map AB.row))),(5010,some (.arr (i13 0) 3 1 (out10.map (Ad .i64))))],(i17 0),185⟩) (AI [((i13 1)+3)]) hit4 ((by exact Ze ⟨jL,jL,jL,jL,jL,jL,jL,jL,Za⟩ ⟨.inl R,.inl R,Za⟩ nL)) ?_
   intro next2 x8 i17 v3 hv3 hx4
   have h26:E8 last2 all1 next2 x8=some v3:=hv3; unfold E8 at h26
   refine aS fun _ hK30 _=>(aR (sQ R (Zs R iL iL) (aZ (hK30 _ ?_))))
   refine aS fun _ hK31 _=>?_
   refine aC R (fun hc5=>?_) (fun hc5=>?_)
   ·have h27:=Zo hc5 h26
    refine Zl (hK31 _ ?_)
    refine aS fun K32 hK32 wK32=>(Zj ?_)
    refine BB h27 fun p3 hp3 hk8=>?_
    have J8 : ∀ (next5:Int) (i26:Nat→Nat),p3=next5→K32 ⟨[(7,qc r2),(9,qc r4),(10,.own 5010 (i13 0)),(16,rI (last2)),(17,rI (next5)),(18,.own 118 ((i13 1)+2)),(124,rI ((all1.length:Int))),(125,rI (x8))],[(118,some (.arr ((i13 1)+2) 55 4 (all1.map AB.row))),(5010,some (.arr (i13 0) 3 1 (out10.map (Ad .i64))))],(i26 0),185⟩:=by
     intro next5 i26 e
     have h28:=hk8 _ e
     refine hK32 _ ?_
     refine aR (Zk h28 fun x18 ex18 h29=>(sQ R (ZA R iL iL (fun _=>ex18)) (sM R R ?_)))
     refine Zm ?_
     exact Bo.mk h29 (AI [(i26 0)]) ((by exact Ze ⟨jL,jL,jL,jL,jL,jL,jL,jL,Za⟩ ⟨.inl R,.inl R,Za⟩ nL))
    refine aS fun _ hK33 _=>(aR (sM R R (sA R R (aZ (hK33 _ ?_)))))
    refine aS fun _ hK34 _=>(aR (sM R R (sM R R (Zk hp3 fun x19 ex19 h30=>(sQ R (Du R AZ.slice iL R iL (fun _=>ex19)) (sQ R (Fa (ob:=.arr _ _ _ _) R BT iL fR R) (sQ R (Gj (d:=.int .i64 x19.Item) R AP iL fR (fun _=>ex19) R) (sA R R (aZ (hK34 _ ?_))))))))))
    refine aS fun _ hK35 _=>(aR (sM R R (sM R R (sQ R (A7 R iL iL) (sM R R (sV R R R (Zd R iL) (sV R R R (ZM R (iR R) iL) (sV R R R (Zd R (iR R)) ?_))))))))
    refine sW (.two R R R) R (Zd R iL) ?_
    refine sW (.two R R R) R (Zd R iL) ?_
    refine sW (.two R R R) R (Zs R (iR R) (iR R)) ?_
    refine sV R R R (ZF R (iR R) (iR R)) (sQ R (ZB R iL (iR R)) (aZ (hK35 _ ?_)))
    refine aC R (fun hc6=>?_) (fun hc6=>?_)
    ·have h31:=Zo hc6 h30
     refine aK (s':=⟨[(7,qc r2),(9,qc r4),(10,.own 5010 (i13 0)),(16,rI (last2)),(18,.own 118 ((i13 1)+2)),(20,rI (x19.Item)),(124,rI ((all1.length:Int))),(125,rI (x8))],[(118,some (.arr ((i13 1)+2) 55 4 (all1.map AB.row))),(5010,some (.arr (i13 0) 3 1 (out10.map (Ad .i64))))],(i17 0),185⟩) ?_
     refine aR (sM R R (sA R R ?_))
     refine Zm ?_
     exact wK32 _ _ ((by exact Ze ⟨jL,jL,jL,jL,jL,jL,jL,jL,Za⟩ ⟨.inl R,.inl R,Za⟩ nL)) (J8 _ (AI [(i17 0)]) (Zb h31).symm)
    ·have h31:=Zp hc6 h30
     refine Zl ?_
     exact wK32 _ _ ((by exact Ze ⟨jL,jL,jL,jL,jL,jL,jL,jL,Za⟩ ⟨.inl R,.inl R,Za⟩ nL)) (J8 _ (AI [(i17 0)]) (Zb h31).symm)
   ·have h27:=Zp hc5 h26
    refine Zx ?_
    exact wK13 _ _ ((by exact Ze ⟨jL,jL,jL,jL,Za⟩ ⟨.inl R,Za⟩ nL)) (J4 _ (AI [(i17 0)]) (hx4 _ (Zb h27).symm))
  refine B0 (fun (x5:Int) (out6:List Int) i8=>⟨[(6,qc r1),(7,qc r2),(9,qc r4),(10,.own 5010 (i8 0)),(12,qc b1),(70,rI ((b1.length:Int))),(71,rI (x5))],[(5010,some (.arr (i8 0) 3 1 (out6.map (Ad .i64))))],(i8 1),185⟩) (AI [(i5 0),(i5 1)]) hit2 ((by exact Ze ⟨jL,jL,jL,jL,jL,jL,jL,Za⟩ ⟨.inl R,Za⟩ nL)) ?_
  intro x5 out6 i8 v4 hv4 hx2
  have h32:FB r1 b1 x5 out6=some v4:=hv4; unfold FB at h32
  refine aS fun _ hK36 _=>(aR (sQ R (Zs R iL iL) (aZ (hK36 _ ?_))))
  refine aS fun _ hK37 _=>?_
  refine aC R (fun hc7=>?_) (fun hc7=>?_)
  ·have h33:=Zo hc7 h32
   refine Zl (hK37 _ ?_)
   refine aS fun K38 hK38 wK38=>(Zj ?_)
   refine BB h33 fun p4 hp4 hk9=>?_
   have J9 : ∀ (out16:List Int) (i27:Nat→Nat),p4=out16→K38 ⟨[(6,qc r1),(7,qc r2),(9,qc r4),(10,.own 5010 (i27 0)),(12,qc b1),(70,rI ((b1.length:Int))),(71,rI (x5))],[(5010,some (.arr (i27 0) 3 1 (out16.map (Ad .i64))))],(i27 1),185⟩:=by
    intro out16 i27 e
    have h34:=hk9 _ e
    refine hK38 _ ?_
    refine aR (Zk h34 fun x20 ex20 h35=>(sQ R (ZA R iL iL (fun _=>ex20)) (sM R R ?_)))
    refine Zm ?_
    exact Bo.mk h35 (AI [(i27 0),(i27 1)]) ((by exact Ze ⟨jL,jL,jL,jL,jL,jL,jL,Za⟩ ⟨.inl R,Za⟩ nL))
   refine aS fun _ hK39 _=>(aR (sM R R (sA R R (aZ (hK39 _ ?_)))))
   refine aS fun _ hK40 _=>(aR (sM R R (sM R R (sM R R (Zk hp4 fun x21 ex21 h36=>(sQ R (Zt R AZ.slice iL iL (fun _=>R) (fun _=>ex21)) (sQ R (Zn R BT iL) (sQ R (Zy (d:=.int .i64 x21.Item) R AP iL R) (Zk h36 fun k3 ek3 h37=>(Zg R R R (ZC (r:=rI (k3)) (caps:=[]) (bs:=[qc r1,rI (x21.Item)]) R iL R ⟨⟨_,iL,.d R⟩,⟨_,iL,.d R⟩,Za⟩ (fun _=>Dh (ek3)) R) (sA R R (aZ (hK40 _ ?_)))))))))))))
   refine aS fun _ hK41 _=>?_
   refine aK (s':=⟨[(6,qc r1),(7,qc r2),(9,qc r4),(10,.own 5010 (i8 0)),(12,qc b1),(14,rI (x5)),(15,rI (k3)),(70,rI ((b1.length:Int))),(71,rI (x5))],[(5010,some (.arr (i8 0) 3 1 (out6.map (Ad .i64))))],(i8 1),185⟩) ?_
   refine ZQ BD (by kernel_rfl) ?_
   refine Zh R R R (Zd R iL) (Zh R R R (Zs R iL iL) (Zh R R R (Zd R iL) ?_))
   refine Zf (.one R R R) R R (Zd R iL) ?_
   refine Zf (.one R R R) R R (Zd R iL) ?_
   refine Zk h37 fun x22 ex22 h38=>?_
   refine Zf (.one R R R) R R (Zt R AZ.slice (iR R) (iR R) (fun _=>R) (Ai ex22)) ?_
   refine Zf (.one R R R) R R (Zn R Ca (iR R)) ?_
   refine Zf (.one R R R) R R (Zy (d:=.int .i64 x22.Parent) R AP (iR R) R) ?_
   refine Zf (.one R R R) R R (Zd R iL) ?_
   refine Zf (.one R R R) R R (Zd R iL) ?_
   refine Zf (.one R R R) R R (Zt R AZ.slice (iR R) (iR R) (fun _=>R) (fun _=>ex21)) ?_
   refine Zf (.one R R R) R R (Zn R Ca (iR R)) ?_
   refine Zf (.one R R R) R R (Zy (d:=.int .i64 x21.Parent) R AP (iR R) R) ?_
   refine Zf (.one R R R) R R (BR R (iR R) (iR R)) ?_
   refine Zh R R R (ZF R iL (iR R)) (Zh R R R (Zd R iL) ?_)
   refine Zf (.one R R R) R R (Zd R iL) ?_
   refine Zf (.one R R R) R R (Zd R iL) ?_
   refine Zk h38 fun x23 ex23 h39=>?_
   refine Zf (.one R R R) R R (Zt R AZ.slice (iR R) (iR R) (fun _=>R) (Ai ex23)) ?_
   refine Zf (.one R R R) R R (Zn R DF (iR R)) ?_
   refine Zf (.one R R R) R R (Zy (d:=.str x23.Place) R Aj (iR R) R) ?_
   refine Zf (.one R R R) R R (Zd R iL) ?_
   refine Zf (.one R R R) R R (Zd R iL) ?_
   refine Zf (.one R R R) R R (Zt R AZ.slice (iR R) (iR R) (fun _=>R) (fun _=>ex21)) ?_
   refine Zf (.one R R R) R R (Zn R DF (iR R)) ?_
   refine Zf (.one R R R) R R (Zy (d:=.str x21.Place) R Aj (iR R) R) ?_
   refine Zf (.one R R R) R R (C1 R (iR R) (iR R)) ?_
   refine Zh R R R (ZF R iL (iR R)) ?_
   refine AQ.nil ?_
   refine hK41 _ ?_
   refine aC R (fun hc8=>?_) (fun hc8=>?_)
   ·have h40:=Zo hc8 h39
    refine aR (sM R R (sM R R (sM R R (sQ R (Zt R AZ.slice iL iL (fun _=>R) (fun _=>ex21)) (sQ R (Zn R BT iL) (sQ R (Zy (d:=.int .i64 x21.Item) R AP iL R) (Zg R R R (BW 115 R Bl (f:=(Ad .i64)) (l:=([x21.Item]:List Int)) ⟨R,⟨_,iL,R⟩,Za⟩ R (fun _=>R) R) (Zk h40 fun out17 eout17 h41=>(Zg R R R (Bg R Bl iL R (.inr (.inl ⟨_,_,iL,R⟩)) eout17) (sA R R ?_))))))))))
    refine Zm ?_
    exact wK38 _ _ ((by exact Ze ⟨jL,jL,jL,jL,jL,jL,jL,Za⟩ ⟨.inl R,Za⟩ nL)) (J9 _ (AI [((i8 1)+1),((i8 1)+2)]) (Zb h41).symm)
   ·have h40:=Zp hc8 h39
    refine Zl ?_
    exact wK38 _ _ ((by exact Ze ⟨jL,jL,jL,jL,jL,jL,jL,Za⟩ ⟨.inl R,Za⟩ nL)) (J9 _ (AI [(i8 0),(i8 1)]) (Zb h40).symm)
  ·have h33:=Zp hc7 h32
   refine Zx ?_
   exact wK8 _ _ ((by exact Ze ⟨jL,jL,jL,Za⟩ ⟨.inl R,Za⟩ nL)) (J2 _ (AI [(i8 0),(i8 1)]) (hx2 _ (Zb h33).symm))
 refine B0 (fun (x2:Int) (out2:List Int) i3=>⟨[(6,qc r1),(7,qc r2),(8,qc r3),(9,qc r4),(10,.own 5010 (i3 0)),(11,qc a1),(12,qc b1),(40,rI ((a1.length:Int))),(41,rI (x2))],[(5010,some (.arr (i3 0) 3 1 (out2.map (Ad .i64))))],(i3 1),185⟩) (AI [n0,(n0+1)]) hit1 (ZG (ZG (EW 10 5010 3 1 (by decide) R) (by exact Ze (e':=[(6,qc r1),(7,qc r2),(8,qc r3),(9,qc r4),(10,.own 5010 n0),(11,qc a1),(12,qc b1),(35,qc r1),(36,qc a1),(37,qc r3),(38,qc b1),(39,qc a1),(40,rI ((a1.length:Int))),(41,rI (0))]) (h':=[(5010,some (.arr n0 3 1 (([]:List Int).map (Ad .i64))))]) ⟨jL,jL,jL,jL,jL,jL,jL,jL,jL,jL,jL,jL,jL,jL,Za⟩ ⟨.inl R,Za⟩ nL)) (by exact Ze ⟨jL,jL,jL,jL,jL,jL,jL,jL,jL,Za⟩ ⟨.inl R,Za⟩ nL)) ?_
 intro x2 out2 i3 v5 hv5 hx1
 have h42:ED r3 a1 x2 out2=some v5:=hv5; unfold ED at h42
 refine aS fun _ hK42 _=>(aR (sQ R (Zs R iL iL) (aZ (hK42 _ ?_))))
 refine aS fun _ hK43 _=>?_
 refine aC R (fun hc9=>?_) (fun hc9=>?_)
 ·have h43:=Zo hc9 h42
  refine Zl (hK43 _ ?_)
  refine aS fun K44 hK44 wK44=>(Zj ?_)
  refine BB h43 fun p5 hp5 hk10=>?_
  have J10 : ∀ (out18:List Int) (i28:Nat→Nat),p5=out18→K44 ⟨[(6,qc r1),(7,qc r2),(8,qc r3),(9,qc r4),(10,.own 5010 (i28 0)),(11,qc a1),(12,qc b1),(40,rI ((a1.length:Int))),(41,rI (x2))],[(5010,some (.arr (i28 0) 3 1 (out18.map (Ad .i64))))],(i28 1),185⟩:=by
   intro out18 i28 e
   have h44:=hk10 _ e
   refine hK44 _ ?_
   refine aR (Zk h44 fun x24 ex24 h45=>(sQ R (ZA R iL iL (fun _=>ex24)) (sM R R ?_)))
   refine Zm ?_
   exact Bo.mk h45 (AI [(i28 0),(i28 1)]) ((by exact Ze ⟨jL,jL,jL,jL,jL,jL,jL,jL,jL,Za⟩ ⟨.inl R,Za⟩ nL))
  refine aS fun _ hK45 _=>(aR (sM R R (sA R R (aZ (hK45 _ ?_)))))
  refine aS fun _ hK46 _=>(aR (sM R R (sM R R (sM R R (Zk hp5 fun x25 ex25 h46=>(sQ R (Zt R AZ.slice iL iL (fun _=>R) (fun _=>ex25)) (sQ R (Zn R BT iL) (sQ R (Zy (d:=.int .i64 x25.Item) R AP iL R) (Zk h46 fun r6 er6 h47=>(Zg R R R (ZC (r:=rI (r6)) (caps:=[]) (bs:=[qc r3,rI (x25.Item)]) R iL R ⟨⟨_,iL,.d R⟩,⟨_,iL,.d R⟩,Za⟩ (fun _=>Dh (er6)) R) (sQ R (Zs R iL iL) (sM R R (sV R R R (Zd R iL) (sV R R R (Zd R iL) (sV R R R (Zt R AZ.slice (iR R) (iR R) (fun _=>R) (fun _=>ex25)) (sV R R R (Zn R Ca (iR R)) (sV R R R (Zy (d:=.int .i64 x25.Parent) R AP (iR R) R) (sV R R R (BR R (iR R) iL) (sQ R (ZB R iL (iR R)) (aZ (hK46 _ ?_)))))))))))))))))))))
  refine aC R (fun hc10=>?_) (fun hc10=>?_)
  ·have h48:=Zo hc10 h47
   refine aK (s':=⟨[(6,qc r1),(7,qc r2),(8,qc r3),(9,qc r4),(10,.own 5010 (i3 0)),(11,qc a1),(12,qc b1),(13,rI (x2)),(40,rI ((a1.length:Int))),(41,rI (x2))],[(5010,some (.arr (i3 0) 3 1 (out2.map (Ad .i64))))],(i3 1),185⟩) ?_
   refine aR (sM R R (sM R R (sM R R (sQ R (Zt R AZ.slice iL iL (fun _=>R) (fun _=>ex25)) (sQ R (Zn R BT iL) (sQ R (Zy (d:=.int .i64 x25.Item) R AP iL R) (Zg R R R (BW 66 R Bl (f:=(Ad .i64)) (l:=([x25.Item]:List Int)) ⟨R,⟨_,iL,R⟩,Za⟩ R (fun _=>R) R) (Zk h48 fun out19 eout19 h49=>(Zg R R R (Bg R Bl iL R (.inr (.inl ⟨_,_,iL,R⟩)) eout19) (sA R R ?_))))))))))
   refine Zm ?_
   exact wK44 _ _ ((by exact Ze ⟨jL,jL,jL,jL,jL,jL,jL,jL,jL,Za⟩ ⟨.inl R,Za⟩ nL)) (J10 _ (AI [((i3 1)+1),((i3 1)+2)]) (Zb h49).symm)
  ·have h48:=Zp hc10 h47
   refine Zl ?_
   exact wK44 _ _ ((by exact Ze ⟨jL,jL,jL,jL,jL,jL,jL,jL,jL,Za⟩ ⟨.inl R,Za⟩ nL)) (J10 _ (AI [(i3 0),(i3 1)]) (Zb h48).symm)
 ·have h43:=Zp hc9 h42
  refine Zx ?_
  exact wK6 _ _ ((by exact Ze ⟨jL,jL,jL,jL,jL,Za⟩ ⟨.inl R,Za⟩ nL)) (J1 _ (AI [(i3 0),(i3 1)]) (hx1 _ (Zb h43).symm))
theorem TM {l1:List AD} {r:(List Int)} (h:He l1=some r):Aq Try.prog 24 [qa l1] (.r (.sl (r.map (Ad .i64)))):=by
 unfold He at h
 refine ZJ Try.func24 R R Try.ntmps24 R (Zi R) fun n0=>?_
 refine aS fun _ hK1 _=>(aR (sA R R (aZ (hK1 _ ?_))))
 refine aS fun _ hK2 _=>(aR (sA R R (aZ (hK2 _ ?_))))
 refine aS fun K3 hK3 wK3=>(aS fun _ hK4 _=>(aR (sM R R (sQ R (ZD R Ak.slice iL) (sM R R (aZ (hK4 _ ?_)))))))
 refine Zj ?_
 refine BB h fun o1 hit1 hk1=>?_
 have J1 : ∀ (out4:List Int) (i5:Nat→Nat),o1=out4→K3 ⟨[(3,.own 5003 (i5 0))],[(5003,some (.arr (i5 0) 3 1 (out4.map (Ad .i64))))],(i5 1),35⟩:=by
  intro out4 i5 e
  have h1:=hk1 _ e
  refine hK3 _ ?_
  refine aS fun _ hK5 _=>(aR (sM R R (sA R R (aZ (hK5 _ ?_)))))
  refine Zr ?_
  exact Dl (P:=Try.prog) (fun (r:(List Int))=>.r (.sl (r.map (Ad .i64)))) h1 iL (.t (.one (.own R)))
 refine B0 (fun (x2:Int) (out2:List Int) i3=>⟨[(0,qa l1),(3,.own 5003 (i3 0)),(6,rI ((l1.length:Int))),(7,rI (x2))],[(5003,some (.arr (i3 0) 3 1 (out2.map (Ad .i64))))],(i3 1),35⟩) (AI [n0,(n0+1)]) hit1 (ZG (ZG (EW 3 5003 3 1 (by decide) R) (by exact Ze (e':=[(0,qa l1),(2,cZ),(3,.own 5003 n0),(5,qa l1),(6,rI ((l1.length:Int))),(7,rI (0))]) (h':=[(5003,some (.arr n0 3 1 (([]:List Int).map (Ad .i64))))]) ⟨jL,jL,jL,jL,jL,jL,Za⟩ ⟨.inl R,Za⟩ nL)) (by exact Ze ⟨jL,jL,jL,jL,Za⟩ ⟨.inl R,Za⟩ nL)) ?_
 intro x2 out2 i3 v1 hv1 hx1
 have h2:FA l1 x2 out2=some v1:=hv1; unfold FA at h2
 refine aS fun _ hK6 _=>(aR (sQ R (Zs R iL iL) (aZ (hK6 _ ?_))))
 refine aS fun _ hK7 _=>?_
 refine aC R (fun hc1=>?_) (fun hc1=>?_)
 ·have h3:=Zo hc1 h2
  refine Zl (hK7 _ ?_)
  refine aS fun K8 hK8 wK8=>(Zj ?_)
  refine BB h3 fun p1 hp1 hk2=>?_
  have J2 : ∀ (out5:List Int) (i6:Nat→Nat),p1=out5→K8 ⟨[(0,qa l1),(3,.own 5003 (i6 0)),(6,rI ((l1.length:Int))),(7,rI (x2))],[(5003,some (.arr (i6 0) 3 1 (out5.map (Ad .i64))))],(i6 1),35⟩:=by
   intro out5 i6 e
   have h4:=hk2 _ e
   refine hK8 _ ?_
   refine aR (Zk h4 fun x4 ex4 h5=>(sQ R (ZA R iL iL (fun _=>ex4)) (sM R R ?_)))
   refine Zm ?_
   exact Bo.mk h5 (AI [(i6 0),(i6 1)]) ((by exact Ze ⟨jL,jL,jL,jL,Za⟩ ⟨.inl R,Za⟩ nL))
  refine aS fun _ hK9 _=>(aR (sM R R (sA R R (aZ (hK9 _ ?_)))))
  refine aS fun _ hK10 _=>(aR (sM R R (sM R R (Zk hp1 fun x5 ex5 h6=>(sQ R (Zt R Ak.slice iL iL (fun _=>R) (fun _=>ex5)) (sQ R (Zn R B3 iL) (sQ R (Zy (d:=.int .i64 x5.Kind) R AP iL R) (sQ R (ZM R iL iL) (aZ (hK10 _ ?_))))))))))
  refine aC R (fun hc2=>?_) (fun hc2=>?_)
  ·have h7:=Zo hc2 h6
   refine aR (sM R R (sM R R (sM R R (sQ R (Zt R Ak.slice iL iL (fun _=>R) (fun _=>ex5)) (sQ R (Zn R B8 iL) (sQ R (Zy (d:=.int .i64 x5.Item) R AP iL R) (Zg R R R (BW 22 R Bl (f:=(Ad .i64)) (l:=([x5.Item]:List Int)) ⟨R,⟨_,iL,R⟩,Za⟩ R (fun _=>R) R) (Zk h7 fun out6 eout6 h8=>(Zg R R R (Bg R Bl iL R (.inr (.inl ⟨_,_,iL,R⟩)) eout6) (sA R R ?_))))))))))
   refine Zm ?_
   exact wK8 _ _ ((by exact Ze ⟨jL,jL,jL,jL,Za⟩ ⟨.inl R,Za⟩ nL)) (J2 _ (AI [((i3 1)+1),((i3 1)+2)]) (Zb h8).symm)
  ·have h7:=Zp hc2 h6
   refine aR (sM R R (sM R R (sM R R (sQ R (Zt R Ak.slice iL iL (fun _=>R) (fun _=>ex5)) (sQ R (Zn R B8 iL) (sQ R (Zy (d:=.int .i64 x5.Item) R AP iL R) (Zk h7 fun x6 ex6 h9=>(sQ R (OY R iL (fun _=>ex6)) (Zg R R R (BW 31 R Bl (f:=(Ad .i64)) (l:=([x6]:List Int)) ⟨R,⟨_,iL,R⟩,Za⟩ R (fun _=>R) R) (Zk h9 fun out7 eout7 h10=>(Zg R R R (Bg R Bl iL R (.inr (.inl ⟨_,_,iL,R⟩)) eout7) (sA R R ?_))))))))))))
   refine Zm ?_
   exact wK8 _ _ ((by exact Ze ⟨jL,jL,jL,jL,Za⟩ ⟨.inl R,Za⟩ nL)) (J2 _ (AI [((i3 1)+1),((i3 1)+2)]) (Zb h10).symm)
 ·have h3:=Zp hc1 h2
  refine Zx ?_
  exact wK3 _ _ ((by exact Ze ⟨jL,Za⟩ ⟨.inl R,Za⟩ nL)) (J1 _ (AI [(i3 0),(i3 1)]) (hx1 _ (Zb h3).symm))
theorem TE {a1:List Int} {b1:List Int} {r:Bool} (h:JG a1 b1=some r):Aq Try.prog 23 [.r (.sl (a1.map (Ad .i64))),.r (.sl (b1.map (Ad .i64)))] (rB (r)):=by
 unfold JG at h
 refine ZJ Try.func23 R R Try.ntmps23 R (Zi R) fun n0=>?_
 refine aS fun _ hK1 _=>(aR (sA R R (aZ (hK1 _ ?_))))
 refine aS fun _ hK2 _=>(aS fun _ hK3 _=>(aR (sM R R (sQ R (ZD R Bl.slice iL) (sM R R (sQ R (ZD R Bl.slice iL) (sQ R (BR R iL iL) (aZ (hK3 _ ?_)))))))))
 refine aC R (fun hc1=>?_) (fun hc1=>?_)
 ·have h1:=Zo hc1 h
  refine aS fun _ hK4 _=>(aR (sA R R (aZ (hK4 _ ?_))))
  refine Zr ?_
  exact BH h1 iL (.t (.d R))
 ·have h1:=Zp hc1 h
  refine Zl (hK2 _ ?_)
  refine aS fun K5 hK5 wK5=>(aS fun _ hK6 _=>(aR (sM R R (sQ R (ZD R Bl.slice iL) (sM R R (aZ (hK6 _ ?_)))))))
  refine Zj ?_
  refine Be h1 fun o1 hit1 hk1 he1=>?_
  have J1 : ∀ (u2:Unit) (i5:Nat→Nat),o1 = .nrm u2→K5 ⟨[],[],(i5 0),26⟩:=by
   intro u2 i5 e
   have h2:=hk1 _ e
   refine hK5 _ ?_
   refine aS fun _ hK7 _=>(aR (sA R R (aZ (hK7 _ ?_))))
   refine Zr ?_
   exact BH h2 iL (.t (.d R))
  refine Cj (fun (x2:Int) i3=>⟨[(0,.r (.sl (a1.map (Ad .i64)))),(1,.r (.sl (b1.map (Ad .i64)))),(12,rI ((a1.length:Int))),(13,rI (x2))],[],(i3 0),26⟩) (AI [n0]) hit1 ((by exact Ze ⟨jL,jL,jL,jL,Za⟩ Za nL)) ?_
  intro x2 i3 v1 hv1 hx1
  have h3:FO a1 b1 x2=some v1:=hv1; unfold FO at h3
  refine aS fun _ hK8 _=>(aR (sQ R (Zs R iL iL) (aZ (hK8 _ ?_))))
  refine aS fun _ hK9 _=>?_
  refine aC R (fun hc2=>?_) (fun hc2=>?_)
  ·have h4:=Zo hc2 h3
   refine Zl (hK9 _ ?_)
   refine aS fun _ hK10 _=>(Zj (aS fun _ hK11 _=>(aR (sM R R (sA R R (aZ (hK11 _ ?_)))))))
   refine aS fun _ hK12 _=>?_
   refine ZQ BD (by kernel_rfl) ?_
   refine Zh R R R (Zd R iL) (Zh R R R (Zd R iL) (Zk h4 fun x4 ex4 h5=>(Zh R R R (Zt R Bl.slice iL iL (fun _=>R) (fun _=>ex4)) (Zh R R R (Zy (d:=.int .i64 x4) R AP iL R) (Zh R R R (Zd R iL) (Zh R R R (Zd R iL) (Zk h5 fun x5 ex5 h6=>(Zh R R R (Zt R Bl.slice iL iL (fun _=>R) (fun _=>ex5)) (Zh R R R (Zy (d:=.int .i64 x5) R AP iL R) (Zh R R R (BR R iL iL) ?_))))))))))
   refine AQ.nil ?_
   refine hK12 _ ?_
   refine aC R (fun hc3=>?_) (fun hc3=>?_)
   ·have h7:=Zo hc3 h6
    refine aS fun _ hK13 _=>?_
    refine aK (s':=⟨[],[],(i3 0),26⟩) ?_
    refine aR (sA R R (aZ (hK13 _ ?_)))
    refine Zr ?_
    exact BH (he1 _ (hx1 _ (Zb h7).symm)) iL (.t (.d R))
   ·have h7:=Zp hc3 h6
    refine Zl (hK10 _ ?_)
    refine aK (s':=⟨[(0,.r (.sl (a1.map (Ad .i64)))),(1,.r (.sl (b1.map (Ad .i64)))),(12,rI ((a1.length:Int))),(13,rI (x2))],[],(i3 0),26⟩) ?_
    refine aR (Zk h7 fun x6 ex6 h8=>(sQ R (ZA R iL iL (fun _=>ex6)) (sM R R ?_)))
    refine Zm ?_
    exact CB.mk h8 (AI [(i3 0)]) ((by exact Ze ⟨jL,jL,jL,jL,Za⟩ Za nL))
  ·have h4:=Zp hc2 h3
   refine Zx ?_
   exact wK5 _ _ ((by exact Ze Za Za nL)) (J1 _ (AI [(i3 0)]) (hx1 _ (Zb h4).symm))
theorem Tk {a1:List AD} {b1:List AD} {r:(List AD) × Int} (h:Im a1 b1=some r):Aq Try.prog 36 [qa a1,qa b1] (.tup [qa r.1,rI (r.2)]):=by
 unfold Im at h
 refine ZJ Try.func36 R R Try.ntmps36 R (Zi R) fun n0=>?_
 refine aS fun _ hK1 _=>(aR (sA R R (sA R R (aZ (hK1 _ ?_)))))
 refine aS fun _ hK2 _=>(aR (sA R R (aZ (hK2 _ ?_))))
 refine aS fun K3 hK3 wK3=>(Zj ?_)
 refine Be h fun o1 hit1 hk1 he1=>?_
 have J1 : ∀ (out4:List AD) (i5:Nat→Nat),o1 = .nrm out4→K3 ⟨[(6,.own 5006 (i5 0))],[(5006,some (.arr (i5 0) 46 8 (out4.map AD.row)))],(i5 1),83⟩:=by
  intro out4 i5 e
  have h1:=hk1 _ e
  refine hK3 _ ?_
  refine aS fun _ hK4 _=>(aR (sM R R (sA R R (sA R R (aZ (hK4 _ ?_))))))
  refine Zr ?_
  exact Dc (P:=Try.prog) (fun (r:(List AD) × Int)=>qa r.1) (fun (r:(List AD) × Int)=>rI (r.2)) h1 iL (.t (.one (.own R))) (.t (.d R))
 refine F9 (fun (a3:List AD) (b3:List AD) (out2:List AD) i3=>⟨[(0,qa a3),(1,qa b3),(6,.own 5006 (i3 0))],[(5006,some (.arr (i3 0) 46 8 (out2.map AD.row)))],(i3 1),83⟩) (AI [n0,(n0+1)]) hit1 (ZG (ZG (EW 6 5006 46 8 (by decide) R) (by exact Ze (e':=[(0,qa a1),(1,qa b1),(4,cZ),(5,rI (0)),(6,.own 5006 n0)]) (h':=[(5006,some (.arr n0 46 8 (([]:List AD).map AD.row)))]) ⟨jL,jL,jL,jL,jL,Za⟩ ⟨.inl R,Za⟩ nL)) (by exact Ze ⟨jL,jL,jL,Za⟩ ⟨.inl R,Za⟩ nL)) ?_
 intro a3 b3 out2 i3 v1 hv1 hx1
 have h2:EF a3 b3 out2=some v1:=hv1; unfold EF at h2
 refine aS fun _ hK5 _=>(aS fun _ hK6 _=>(aR (sM R R (sQ R (ZD R Ak.slice iL) (sQ R (A7 R iL iL) (sM R R (sV R R R (Zd R iL) (sV R R R (ZD R Ak.slice (iR R)) (sV R R R (A7 R (iR R) iL) (sQ R (ZF R iL (iR R)) (aZ (hK6 _ ?_))))))))))))
 refine aC R (fun hc1=>?_) (fun hc1=>?_)
 ·have h3:=Zo hc1 h2
  refine Zl (hK5 _ ?_)
  refine Zj (Zj (aS fun _ hK7 _=>?_))
  refine ZQ BD (by kernel_rfl) ?_
  refine Zh R R R (Zd R iL) (Zh R R R (ZD R Ak.slice iL) (Zh R R R (ZM R iL iL) (Zh R R R (Zd R iL) ?_)))
  refine Zf (.one R R R) R R (Zd R iL) ?_
  refine Zf (.one R R R) R R (ZD R Ak.slice (iR R)) ?_
  refine Zf (.one R R R) R R (A7 R (iR R) iL) ?_
  refine Zf (.one R R R) R R (Zd R (iR R)) ?_
  refine Zf (.two R R R) R R (Zd R iL) ?_
  refine Zk h3 fun x1 ex1 h4=>?_
  refine Zf (.two R R R) R R (Zt R Ak.slice (iR R) iL (fun _=>R) (Ai ex1)) ?_
  refine Zf (.two R R R) R R (ZH (cs:=(Aa x1)) R B1 (iR R) R R) ?_
  refine Zf (.two R R R) R R (Zd R iL) ?_
  refine Zk h4 fun x2 ex2 h5=>?_
  refine Zf (.two R R R) R R (Zt R Ak.slice (iR R) iL (fun _=>R) (Ai ex2)) ?_
  refine Zf (.two R R R) R R (ZH (cs:=(Aa x2)) R B1 (iR R) R R) ?_
  refine Zk h5 fun r1 er1 h6=>?_
  refine JN (.two R R R) R R (r:=rI (r1)) (caps:=[]) (bs:=[.agg (Aa x1),.agg (Aa x2)]) R iL R ⟨⟨_,(iR R),.g (cs:=[.int .i64 x1.Clock,.int .i64 x1.Site,.int .i64 x1.Kind,.int .i64 x1.Item,.int .i64 x1.Parent,.str x1.Place,.str x1.Name,.str x1.Value]) R R⟩,⟨_,(iR R),.g (cs:=[.int .i64 x2.Clock,.int .i64 x2.Site,.int .i64 x2.Kind,.int .i64 x2.Item,.int .i64 x2.Parent,.str x2.Place,.str x2.Name,.str x2.Value]) R R⟩,Za⟩ (fun hg=>MU (Ai er1 hg)) R ?_
  refine Zf (.two R R R) R R (Zs R (iR R) iL) ?_
  refine Zf (.one R R R) R R (ZB R (iR R) (iR R)) ?_
  refine Zh R R R (ZF R iL (iR R)) (Zh R R R (CZ R iL) ?_)
  refine AQ.nil ?_
  refine hK7 _ ?_
  refine aC R (fun hc2=>?_) (fun hc2=>?_)
  ·have h7:=Zo hc2 h6
   refine aK (s':=⟨[(0,qa a3),(1,qa b3),(6,.own 5006 (i3 0))],[(5006,some (.arr (i3 0) 46 8 (out2.map AD.row)))],(i3 1),83⟩) ?_
   refine Zk h7 fun x3 ex3 h8=>(Zk h8 fun out5 eout5 h9=>(Zk h9 fun a5 ea5 h10=>?_))
   refine FR 9 [⟨some 44,(fun _=>.own 5006 (i3 0)),none,[]⟩,⟨some 45,(fun _=>qa a3),none,[]⟩,⟨some 46,(fun _=>.rop (AD.row x3) 0),none,[]⟩,⟨some 47,(fun _=>.agg (Aa x3)),none,[]⟩,⟨some 48,(fun G1=>.own 48 (G1 4)),some (48,(fun G1=>some (.arr (G1 4) 46 8 ([x3].map AD.row)))),[4]⟩,⟨some 49,(fun G1=>.own 5006 (G1 5)),some (5006,(fun G1=>some (.arr (G1 5) 46 8 (out5.map AD.row)))),[5]⟩,⟨some 50,(fun _=>qa a3),none,[]⟩,⟨some 51,(fun _=>qa a5),none,[]⟩,⟨some 6,(fun G1=>.own 5006 (G1 5)),none,[5]⟩] BD (by kernel_rfl) (by exact ⟨fun _ _ h=>⟨R,fun _ _ e=>by cases e⟩,fun _ _ h=>⟨R,fun _ _ e=>by cases e⟩,fun _ _ h=>⟨R,fun _ _ e=>by cases e⟩,fun _ _ h=>⟨R,fun _ _ e=>by cases e⟩,fun _ _ h=>⟨by simp only [h 4 R],fun _ _ e=>by cases e; simp only [h 4 R]⟩,fun _ _ h=>⟨by simp only [h 5 R],fun _ _ e=>by cases e; simp only [h 5 R]⟩,fun _ _ h=>⟨R,fun _ _ e=>by cases e⟩,fun _ _ h=>⟨R,fun _ _ e=>by cases e⟩,fun _ _ h=>⟨by simp only [h 5 R],fun _ _ e=>by cases e⟩,Za⟩) R (by exact ⟨oQ (fun _=>[(6,.own 5006 (i3 0))]) (fun _=>[(5006,some (.arr (i3 0) 46 8 (out2.map AD.row)))]) (fun D G1 hr=>⟨Ig hr (by kernel_rfl) R,Za⟩) (fun D G1 hr=>⟨Ee hr (by kernel_rfl) R,Za⟩) (fun G1 e h'=>Zd R (.inl R)),
     oQ (fun _=>[(0,qa a3)]) (fun _=>[]) (fun D G1 hr=>⟨ZO R R,Za⟩) (fun D G1 hr=>Za) (fun G1 e h'=>Zd R (.inl R)),
     oQ (fun _=>[(45,qa a3)]) (fun _=>[]) (fun D G1 hr=>⟨Zu hr 1 R R (by kernel_rfl) R R,Za⟩) (fun D G1 hr=>Za) (fun G1 e h'=>Zt R Ak.slice (.inl R) (.inl R) (fun _=>R) (fun _=>ex3)),
     oQ (fun _=>[(46,.rop (AD.row x3) 0)]) (fun _=>[]) (fun D G1 hr=>⟨Zu hr 2 R R (by kernel_rfl) R R,Za⟩) (fun D G1 hr=>Za) (fun G1 e h'=>ZH (cs:=(Aa x3)) R B1 (.inl R) R R),
     D7 (n1:=fun n=>n+1) R R (by intro d h; cases h; rfl) R (fun _=>[(47,.agg (Aa x3))]) (fun _=>[]) (fun D G1 hr=>⟨Zu hr 3 R R (by kernel_rfl) R R,Za⟩) (fun D G1 hr=>Za) (fun G1 e h' n=>BW 48 R Ak (f:=AD.row) (l:=([x3]:List AD)) ⟨R,⟨_,(.inl R),R⟩,Za⟩ R (fun _=>R) R),
     D7 (n1:=fun n=>n+1) R R (by intro d h; cases h; rfl) R (fun G1=>[(44,.own 5006 (i3 0)),(48,.own 48 (G1 4))]) (fun G1=>[(48,some (.arr (G1 4) 46 8 ([x3].map AD.row))),(5006,some (.arr (i3 0) 46 8 (out2.map AD.row)))]) (fun D G1 hr=>⟨Zu hr 0 R R (by kernel_rfl) R R,Zu hr 4 R R (by kernel_rfl) R R,Za⟩) (fun D G1 hr=>⟨Ew hr 4 R R (by kernel_rfl) (by kernel_rfl) R,Ee hr (by kernel_rfl) R,Za⟩) (fun G1 e h' n=>Bg R Ak (.inl R) R (.inr (.inl ⟨_,_,(.inl R),R⟩)) eout5),
     oQ (fun _=>[(0,qa a3)]) (fun _=>[]) (fun D G1 hr=>⟨ZO R R,Za⟩) (fun D G1 hr=>Za) (fun G1 e h'=>Zd R (.inl R)),
     oQ (fun _=>[(50,qa a3)]) (fun _=>[]) (fun D G1 hr=>⟨Zu hr 6 R R (by kernel_rfl) R R,Za⟩) (fun D G1 hr=>Za) (fun G1 e h'=>Jy R Ak.slice (.inl R) (by exact ⟨_,(.inl R)⟩) (by exact R) (fun _=>R) (fun _=>ea5)),
     oQ (fun G1=>[(49,.own 5006 (G1 5))]) (fun G1=>[(5006,some (.arr (G1 5) 46 8 (out5.map AD.row)))]) (fun D G1 hr=>⟨Zu hr 5 R R (by kernel_rfl) R R,Za⟩) (fun D G1 hr=>⟨Ew hr 5 R R (by kernel_rfl) (by kernel_rfl) R,Za⟩) (fun G1 e h'=>CZ R (.inl R)),
     Za⟩) fun G1 n1=>?_
   refine BX (s':=⟨[(0,qa a3),(1,qa b3),(6,.own 5006 (G1 5)),(45,qa a3),(46,.rop (AD.row x3) 0),(47,.agg (Aa x3)),(48,.own 48 (G1 4)),(49,.own 5006 (G1 5)),(50,qa a3),(51,qa a5)],[(48,some (.arr (G1 4) 46 8 ([x3].map AD.row))),(5006,some (.arr (G1 5) 46 8 (out5.map AD.row)))],n1,83⟩) ?_
   refine sA R R ?_
   refine Zm ?_
   exact Cq.mk h10 (AI [(G1 5),n1]) ((by exact Ze ⟨jL,jL,jL,Za⟩ ⟨.inl R,Za⟩ nL))
  ·have h7:=Zp hc2 h6
   refine aS fun _ hK8 _=>?_
   refine aK (s':=⟨[(0,qa a3),(1,qa b3),(6,.own 5006 (i3 0))],[(5006,some (.arr (i3 0) 46 8 (out2.map AD.row)))],(i3 1),83⟩) ?_
   refine ZQ BD (by kernel_rfl) ?_
   refine Zh R R R (Zd R iL) (Zh R R R (ZD R Ak.slice iL) (Zh R R R (ZM R iL iL) (Zh R R R (Zd R iL) ?_)))
   refine Zf (.one R R R) R R (Zd R iL) ?_
   refine Zk h7 fun x4 ex4 h11=>?_
   refine Zf (.one R R R) R R (Zt R Ak.slice (iR R) iL (fun _=>R) (Ai ex4)) ?_
   refine Zf (.one R R R) R R (ZH (cs:=(Aa x4)) R B1 (iR R) R R) ?_
   refine Zf (.one R R R) R R (Zd R iL) ?_
   refine Zk h11 fun x5 ex5 h12=>?_
   refine Zf (.one R R R) R R (Zt R Ak.slice (iR R) iL (fun _=>R) (Ai ex5)) ?_
   refine Zf (.one R R R) R R (ZH (cs:=(Aa x5)) R B1 (iR R) R R) ?_
   refine Zk h12 fun r2 er2 h13=>?_
   refine JN (.one R R R) R R (r:=rI (r2)) (caps:=[]) (bs:=[.agg (Aa x4),.agg (Aa x5)]) R iL R ⟨⟨_,(iR R),.g (cs:=[.int .i64 x4.Clock,.int .i64 x4.Site,.int .i64 x4.Kind,.int .i64 x4.Item,.int .i64 x4.Parent,.str x4.Place,.str x4.Name,.str x4.Value]) R R⟩,⟨_,(iR R),.g (cs:=[.int .i64 x5.Clock,.int .i64 x5.Site,.int .i64 x5.Kind,.int .i64 x5.Item,.int .i64 x5.Parent,.str x5.Place,.str x5.Name,.str x5.Value]) R R⟩,Za⟩ (fun hg=>MU (Ai er2 hg)) R ?_
   refine Zf (.one R R R) R R (Zs R (iR R) iL) ?_
   refine Zh R R R (ZF R iL (iR R)) (Zh R R R (CZ R iL) ?_)
   refine AQ.nil ?_
   refine hK8 _ ?_
   refine aC R (fun hc3=>?_) (fun hc3=>?_)
   ·have h14:=Zo hc3 h13
    refine Zk h14 fun x6 ex6 h15=>(Zk h15 fun out6 eout6 h16=>(Zk h16 fun b5 eb5 h17=>?_))
    refine FR 9 [⟨some 66,(fun _=>.own 5006 (i3 0)),none,[]⟩,⟨some 67,(fun _=>qa b3),none,[]⟩,⟨some 68,(fun _=>.rop (AD.row x6) 0),none,[]⟩,⟨some 69,(fun _=>.agg (Aa x6)),none,[]⟩,⟨some 70,(fun G2=>.own 70 (G2 4)),some (70,(fun G2=>some (.arr (G2 4) 46 8 ([x6].map AD.row)))),[4]⟩,⟨some 71,(fun G2=>.own 5006 (G2 5)),some (5006,(fun G2=>some (.arr (G2 5) 46 8 (out6.map AD.row)))),[5]⟩,⟨some 72,(fun _=>qa b3),none,[]⟩,⟨some 73,(fun _=>qa b5),none,[]⟩,⟨some 6,(fun G2=>.own 5006 (G2 5)),none,[5]⟩] BD (by kernel_rfl) (by exact ⟨fun _ _ h=>⟨R,fun _ _ e=>by cases e⟩,fun _ _ h=>⟨R,fun _ _ e=>by cases e⟩,fun _ _ h=>⟨R,fun _ _ e=>by cases e⟩,fun _ _ h=>⟨R,fun _ _ e=>by cases e⟩,fun _ _ h=>⟨by simp only [h 4 R],fun _ _ e=>by cases e; simp only [h 4 R]⟩,fun _ _ h=>⟨by simp only [h 5 R],fun _ _ e=>by cases e; simp only [h 5 R]⟩,fun _ _ h=>⟨R,fun _ _ e=>by cases e⟩,fun _ _ h=>⟨R,fun _ _ e=>by cases e⟩,fun _ _ h=>⟨by simp only [h 5 R],fun _ _ e=>by cases e⟩,Za⟩) R (by exact ⟨oQ (fun _=>[(6,.own 5006 (i3 0))]) (fun _=>[(5006,some (.arr (i3 0) 46 8 (out2.map AD.row)))]) (fun D G2 hr=>⟨Ig hr (by kernel_rfl) R,Za⟩) (fun D G2 hr=>⟨Ee hr (by kernel_rfl) R,Za⟩) (fun G2 e h'=>Zd R (.inl R)),
      oQ (fun _=>[(1,qa b3)]) (fun _=>[]) (fun D G2 hr=>⟨ZO R R,Za⟩) (fun D G2 hr=>Za) (fun G2 e h'=>Zd R (.inl R)),
      oQ (fun _=>[(67,qa b3)]) (fun _=>[]) (fun D G2 hr=>⟨Zu hr 1 R R (by kernel_rfl) R R,Za⟩) (fun D G2 hr=>Za) (fun G2 e h'=>Zt R Ak.slice (.inl R) (.inl R) (fun _=>R) (fun _=>ex6)),
      oQ (fun _=>[(68,.rop (AD.row x6) 0)]) (fun _=>[]) (fun D G2 hr=>⟨Zu hr 2 R R (by kernel_rfl) R R,Za⟩) (fun D G2 hr=>Za) (fun G2 e h'=>ZH (cs:=(Aa x6)) R B1 (.inl R) R R),
      D7 (n1:=fun n=>n+1) R R (by intro d h; cases h; rfl) R (fun _=>[(69,.agg (Aa x6))]) (fun _=>[]) (fun D G2 hr=>⟨Zu hr 3 R R (by kernel_rfl) R R,Za⟩) (fun D G2 hr=>Za) (fun G2 e h' n=>BW 70 R Ak (f:=AD.row) (l:=([x6]:List AD)) ⟨R,⟨_,(.inl R),R⟩,Za⟩ R (fun _=>R) R),
      D7 (n1:=fun n=>n+1) R R (by intro d h; cases h; rfl) R (fun G2=>[(66,.own 5006 (i3 0)),(70,.own 70 (G2 4))]) (fun G2=>[(70,some (.arr (G2 4) 46 8 ([x6].map AD.row))),(5006,some (.arr (i3 0) 46 8 (out2.map AD.row)))]) (fun D G2 hr=>⟨Zu hr 0 R R (by kernel_rfl) R R,Zu hr 4 R R (by kernel_rfl) R R,Za⟩) (fun D G2 hr=>⟨Ew hr 4 R R (by kernel_rfl) (by kernel_rfl) R,Ee hr (by kernel_rfl) R,Za⟩) (fun G2 e h' n=>Bg R Ak (.inl R) R (.inr (.inl ⟨_,_,(.inl R),R⟩)) eout6),
      oQ (fun _=>[(1,qa b3)]) (fun _=>[]) (fun D G2 hr=>⟨ZO R R,Za⟩) (fun D G2 hr=>Za) (fun G2 e h'=>Zd R (.inl R)),
      oQ (fun _=>[(72,qa b3)]) (fun _=>[]) (fun D G2 hr=>⟨Zu hr 6 R R (by kernel_rfl) R R,Za⟩) (fun D G2 hr=>Za) (fun G2 e h'=>Jy R Ak.slice (.inl R) (by exact ⟨_,(.inl R)⟩) (by exact R) (fun _=>R) (fun _=>eb5)),
      oQ (fun G2=>[(71,.own 5006 (G2 5))]) (fun G2=>[(5006,some (.arr (G2 5) 46 8 (out6.map AD.row)))]) (fun D G2 hr=>⟨Zu hr 5 R R (by kernel_rfl) R R,Za⟩) (fun D G2 hr=>⟨Ew hr 5 R R (by kernel_rfl) (by kernel_rfl) R,Za⟩) (fun G2 e h'=>CZ R (.inl R)),
      Za⟩) fun G2 n2=>?_
    refine BX (s':=⟨[(0,qa a3),(1,qa b3),(6,.own 5006 (G2 5)),(52,rB (((decide ((a3.length:Int)=0)) || (decide (r2<0))))),(53,qa a3),(54,rI ((a3.length:Int))),(55,rB ((decide ((a3.length:Int)=0)))),(56,rB ((decide ((a3.length:Int)=0)))),(65,rB (((decide ((a3.length:Int)=0)) || (decide (r2<0))))),(67,qa b3),(68,.rop (AD.row x6) 0),(69,.agg (Aa x6)),(70,.own 70 (G2 4)),(71,.own 5006 (G2 5)),(72,qa b3),(73,qa b5)],[(70,some (.arr (G2 4) 46 8 ([x6].map AD.row))),(5006,some (.arr (G2 5) 46 8 (out6.map AD.row)))],n2,83⟩) ?_
    refine sA R R ?_
    refine Zm ?_
    exact Cq.mk h17 (AI [(G2 5),n2]) ((by exact Ze ⟨jL,jL,jL,Za⟩ ⟨.inl R,Za⟩ nL))
   ·have h14:=Zp hc3 h13
    refine aS fun _ hK9 _=>?_
    refine ZQ BD (by kernel_rfl) ?_
    refine Zh R R R (Zd R iL) (Zk h14 fun x7 ex7 h18=>(Zh R R R (Zt R Ak.slice iL iL (fun _=>R) (fun _=>ex7)) (Zh R R R (ZH (cs:=(Aa x7)) R B1 iL R R) (Zh R R R (Zd R iL) (Zk h18 fun x8 ex8 h19=>(Zh R R R (Zt R Ak.slice iL iL (fun _=>R) (fun _=>ex8)) (Zh R R R (ZH (cs:=(Aa x8)) R B1 iL R R) (Zh R R R (LR R Ur iL iL R) (Zh R R R (CZ R iL) ?_)))))))))
    refine AQ.nil ?_
    refine hK9 _ ?_
    refine aC R (fun hc4=>?_) (fun hc4=>?_)
    ·have h20:=Zo hc4 h19
     refine aS fun _ hK10 _=>?_
     refine aK (s':=⟨[],[],(i3 1),83⟩) ?_
     refine aR (sA R R (sA R R (aZ (hK10 _ ?_))))
     refine Zr ?_
     exact Dc (P:=Try.prog) (fun (r:(List AD) × Int)=>qa r.1) (fun (r:(List AD) × Int)=>rI (r.2)) (he1 _ (hx1 _ (Zb h20).symm)) iL (.t (.one (.nil))) (.t (.d R))
    ·have h20:=Zp hc4 h19
     refine aK (s':=⟨[(0,qa a3),(1,qa b3),(6,.own 5006 (i3 0))],[(5006,some (.arr (i3 0) 46 8 (out2.map AD.row)))],(i3 1),83⟩) ?_
     refine Zk h20 fun out7 eout7 h21=>(Zk h21 fun a6 ea6 h22=>(Zk h22 fun b6 eb6 h23=>?_))
     refine FR 12 [⟨some 15,(fun _=>.own 5006 (i3 0)),none,[]⟩,⟨some 16,(fun _=>qa a3),none,[]⟩,⟨some 17,(fun _=>.rop (AD.row x7) 0),none,[]⟩,⟨some 18,(fun _=>.agg (Aa x7)),none,[]⟩,⟨some 19,(fun G3=>.own 19 (G3 4)),some (19,(fun G3=>some (.arr (G3 4) 46 8 ([x7].map AD.row)))),[4]⟩,⟨some 20,(fun G3=>.own 5006 (G3 5)),some (5006,(fun G3=>some (.arr (G3 5) 46 8 (out7.map AD.row)))),[5]⟩,⟨some 21,(fun _=>qa a3),none,[]⟩,⟨some 22,(fun _=>qa a6),none,[]⟩,⟨some 23,(fun _=>qa b3),none,[]⟩,⟨some 24,(fun _=>qa b6),none,[]⟩,⟨some 6,(fun G3=>.own 5006 (G3 5)),none,[5]⟩,⟨some 0,(fun _=>qa a6),none,[]⟩] BD (by kernel_rfl) (by exact ⟨fun _ _ h=>⟨R,fun _ _ e=>by cases e⟩,fun _ _ h=>⟨R,fun _ _ e=>by cases e⟩,fun _ _ h=>⟨R,fun _ _ e=>by cases e⟩,fun _ _ h=>⟨R,fun _ _ e=>by cases e⟩,fun _ _ h=>⟨by simp only [h 4 R],fun _ _ e=>by cases e; simp only [h 4 R]⟩,fun _ _ h=>⟨by simp only [h 5 R],fun _ _ e=>by cases e; simp only [h 5 R]⟩,fun _ _ h=>⟨R,fun _ _ e=>by cases e⟩,fun _ _ h=>⟨R,fun _ _ e=>by cases e⟩,fun _ _ h=>⟨R,fun _ _ e=>by cases e⟩,fun _ _ h=>⟨R,fun _ _ e=>by cases e⟩,fun _ _ h=>⟨by simp only [h 5 R],fun _ _ e=>by cases e⟩,fun _ _ h=>⟨R,fun _ _ e=>by cases e⟩,Za⟩) R (by exact ⟨oQ (fun _=>[(6,.own 5006 (i3 0))]) (fun _=>[(5006,some (.arr (i3 0) 46 8 (out2.map AD.row)))]) (fun D G3 hr=>⟨Ig hr (by kernel_rfl) R,Za⟩) (fun D G3 hr=>⟨Ee hr (by kernel_rfl) R,Za⟩) (fun G3 e h'=>Zd R (.inl R)),
       oQ (fun _=>[(0,qa a3)]) (fun _=>[]) (fun D G3 hr=>⟨Ig hr (by kernel_rfl) R,Za⟩) (fun D G3 hr=>Za) (fun G3 e h'=>Zd R (.inl R)),
       oQ (fun _=>[(16,qa a3)]) (fun _=>[]) (fun D G3 hr=>⟨Zu hr 1 R R (by kernel_rfl) R R,Za⟩) (fun D G3 hr=>Za) (fun G3 e h'=>Zt R Ak.slice (.inl R) (.inl R) (fun _=>R) (fun _=>ex7)),
       oQ (fun _=>[(17,.rop (AD.row x7) 0)]) (fun _=>[]) (fun D G3 hr=>⟨Zu hr 2 R R (by kernel_rfl) R R,Za⟩) (fun D G3 hr=>Za) (fun G3 e h'=>ZH (cs:=(Aa x7)) R B1 (.inl R) R R),
       D7 (n1:=fun n=>n+1) R R (by intro d h; cases h; rfl) R (fun _=>[(18,.agg (Aa x7))]) (fun _=>[]) (fun D G3 hr=>⟨Zu hr 3 R R (by kernel_rfl) R R,Za⟩) (fun D G3 hr=>Za) (fun G3 e h' n=>BW 19 R Ak (f:=AD.row) (l:=([x7]:List AD)) ⟨R,⟨_,(.inl R),R⟩,Za⟩ R (fun _=>R) R),
       D7 (n1:=fun n=>n+1) R R (by intro d h; cases h; rfl) R (fun G3=>[(15,.own 5006 (i3 0)),(19,.own 19 (G3 4))]) (fun G3=>[(19,some (.arr (G3 4) 46 8 ([x7].map AD.row))),(5006,some (.arr (i3 0) 46 8 (out2.map AD.row)))]) (fun D G3 hr=>⟨Zu hr 0 R R (by kernel_rfl) R R,Zu hr 4 R R (by kernel_rfl) R R,Za⟩) (fun D G3 hr=>⟨Ew hr 4 R R (by kernel_rfl) (by kernel_rfl) R,Ee hr (by kernel_rfl) R,Za⟩) (fun G3 e h' n=>Bg R Ak (.inl R) R (.inr (.inl ⟨_,_,(.inl R),R⟩)) eout7),
       oQ (fun _=>[(0,qa a3)]) (fun _=>[]) (fun D G3 hr=>⟨Ig hr (by kernel_rfl) R,Za⟩) (fun D G3 hr=>Za) (fun G3 e h'=>Zd R (.inl R)),
       oQ (fun _=>[(21,qa a3)]) (fun _=>[]) (fun D G3 hr=>⟨Zu hr 6 R R (by kernel_rfl) R R,Za⟩) (fun D G3 hr=>Za) (fun G3 e h'=>Jy R Ak.slice (.inl R) (by exact ⟨_,(.inl R)⟩) (by exact R) (fun _=>R) (fun _=>ea6)),
       oQ (fun _=>[(1,qa b3)]) (fun _=>[]) (fun D G3 hr=>⟨ZO R R,Za⟩) (fun D G3 hr=>Za) (fun G3 e h'=>Zd R (.inl R)),
       oQ (fun _=>[(23,qa b3)]) (fun _=>[]) (fun D G3 hr=>⟨Zu hr 8 R R (by kernel_rfl) R R,Za⟩) (fun D G3 hr=>Za) (fun G3 e h'=>Jy R Ak.slice (.inl R) (by exact ⟨_,(.inl R)⟩) (by exact R) (fun _=>R) (fun _=>eb6)),
       oQ (fun G3=>[(20,.own 5006 (G3 5))]) (fun G3=>[(5006,some (.arr (G3 5) 46 8 (out7.map AD.row)))]) (fun D G3 hr=>⟨Zu hr 5 R R (by kernel_rfl) R R,Za⟩) (fun D G3 hr=>⟨Ew hr 5 R R (by kernel_rfl) (by kernel_rfl) R,Za⟩) (fun G3 e h'=>CZ R (.inl R)),
       oQ (fun _=>[(22,qa a6)]) (fun _=>[]) (fun D G3 hr=>⟨Zu hr 7 R R (by kernel_rfl) R R,Za⟩) (fun D G3 hr=>Za) (fun G3 e h'=>CZ R (.inl R)),
       Za⟩) fun G3 n3=>?_
     refine BX (s':=⟨[(0,qa a6),(1,qa b3),(6,.own 5006 (G3 5)),(16,qa a3),(17,.rop (AD.row x7) 0),(18,.agg (Aa x7)),(19,.own 19 (G3 4)),(20,.own 5006 (G3 5)),(21,qa a3),(22,qa a6),(23,qa b3),(24,qa b6)],[(19,some (.arr (G3 4) 46 8 ([x7].map AD.row))),(5006,some (.arr (G3 5) 46 8 (out7.map AD.row)))],n3,83⟩) ?_
     refine sA R R ?_
     refine Zm ?_
     exact Cq.mk h23 (AI [(G3 5),n3]) ((by exact Ze ⟨jL,jL,jL,Za⟩ ⟨.inl R,Za⟩ nL))
 ·have h3:=Zp hc1 h2
  refine Zx ?_
  exact wK3 _ _ ((by exact Ze ⟨jL,Za⟩ ⟨.inl R,Za⟩ nL)) (J1 _ (AI [(i3 0),(i3 1)]) (hx1 _ (Zb h3).symm))
theorem RK {a1:List AD} {b1:List AD} {r:(List AD) × Int} (h:IY a1 b1=some r):Aq Try.prog 16 [qa a1,qa b1] (.tup [qa r.1,rI (r.2)]):=by
 unfold IY at h
 refine ZJ Try.func16 R R Try.ntmps16 R (Zi R) fun n0=>?_
 refine aS fun _ hK1 _=>(aR (sA R R (sA R R (aZ (hK1 _ ?_)))))
 refine aS fun _ hK2 _=>(aS fun _ hK3 _=>(aR (sM R R (Zk h fun e1 ee1 h1=>(Zg R R R (ZC (r:=rI (e1)) (caps:=[]) (bs:=[qa a1]) R iL R ⟨⟨_,iL,.d R⟩,Za⟩ (fun _=>LC (ee1)) R) (sA R R (aZ (hK3 _ ?_))))))))
 refine aS fun _ hK4 _=>(aR (sM R R (sQ R (BR R iL iL) (aZ (hK4 _ ?_)))))
 refine aC R (fun hc1=>?_) (fun hc1=>?_)
 ·have h2:=Zo hc1 h1
  refine aS fun _ hK5 _=>(aR (sM R R (sA R R (sA R R (aZ (hK5 _ ?_))))))
  refine Zr ?_
  exact Dc (P:=Try.prog) (fun (r:(List AD) × Int)=>qa r.1) (fun (r:(List AD) × Int)=>rI (r.2)) h2 iL (.t (.one (.nil))) (.t (.d R))
 ·have h2:=Zp hc1 h1
  refine Zl (hK2 _ ?_)
  refine aS fun _ hK6 _=>(aS fun _ hK7 _=>(aR (sM R R (Zk h2 fun e2 ee2 h3=>(Zg R R R (ZC (r:=rI (e2)) (caps:=[]) (bs:=[qa b1]) R iL R ⟨⟨_,iL,.d R⟩,Za⟩ (fun _=>LC (ee2)) R) (sA R R (aZ (hK7 _ ?_))))))))
  refine aS fun _ hK8 _=>?_
  refine aK (s':=⟨[(0,qa a1),(1,qa b1),(7,rI (e2))],[],n0,23⟩) ?_
  refine aR (sM R R (sQ R (BR R iL iL) (aZ (hK8 _ ?_))))
  refine aC R (fun hc2=>?_) (fun hc2=>?_)
  ·have h4:=Zo hc2 h3
   refine aS fun _ hK9 _=>(aR (sM R R (sA R R (sA R R (aZ (hK9 _ ?_))))))
   refine Zr ?_
   exact Dc (P:=Try.prog) (fun (r:(List AD) × Int)=>qa r.1) (fun (r:(List AD) × Int)=>rI (r.2)) h4 iL (.t (.one (.nil))) (.t (.d R))
  ·have h4:=Zp hc2 h3
   refine Zl (hK6 _ ?_)
   refine aS fun _ hK10 _=>(aR (sM R R (sM R R (DW h4 fun r1 r2 er1 h5=>(Zg R R R (B4 (r:=.tup [qa r1,rI (r2)]) (caps:=[]) (bs:=[qa a1,qa b1]) R iL R ⟨.inl ⟨iL,R⟩,.inl ⟨iL,R⟩,Za⟩ (fun _=>Tk (er1))) (sQ R (ZE (a:=qa r1) R iL R) (sQ R (ZE (a:=rI (r2)) R iL R) (sA R R (sA R R (aZ (hK10 _ ?_)))))))))))
   refine Zr ?_
   exact Dc (P:=Try.prog) (fun (r:(List AD) × Int)=>qa r.1) (fun (r:(List AD) × Int)=>rI (r.2)) h5 iL (.t (.d R)) (.t (.d R))
theorem RX {self:(List AB)→(List AB)→Int→Option (List AB)} (hself : ∀ {out1:List AB} {l1:List AB} {parent1:Int} {r:(List AB)} {ga1000:Nat},self out1 l1 parent1=some r→A8 Try.prog 31 1 [qc l1,rI (parent1),.own 1000 ga1000] [(1000,some (.arr ga1000 55 4 (out1.map AB.row)))] (fun rr h'=>∃ (i:Nat→Nat),rr = .own 1000 (i 0)∧h'=[(1000,some (.arr (i 0) 55 4 (r.map AB.row)))])) {out1:List AB} {l1:List AB} {parent1:Int} {r:(List AB)} {ga1000:Nat} (h:FU self out1 l1 parent1=some r):A8 Try.prog 31 1 [qc l1,rI (parent1),.own 1000 ga1000] [(1000,some (.arr ga1000 55 4 (out1.map AB.row)))] (fun rr h'=>∃ (i:Nat→Nat),rr = .own 1000 (i 0)∧h'=[(1000,some (.arr (i 0) 55 4 (r.map AB.row)))]):=by
 unfold FU at h
 refine Es Try.func31 R R Try.ntmps31 (Zi R) fun n0=>?_
 refine aS fun _ hK1 _=>(aR (sA R R (aZ (hK1 _ ?_))))
 refine aS fun _ hK2 _=>(aR (sA R R (sA R R (aZ (hK2 _ ?_)))))
 refine Zj ?_
 refine Be h fun o1 hit1 hk1 he1=>?_
 refine F9 (fun (place2:List UInt8) (item2:Int) (out3:List AB) i3=>⟨[(0,qc l1),(1,rI (parent1)),(2,.own 1000 (i3 0)),(7,.r (.str place2)),(8,rI (item2))],[(1000,some (.arr (i3 0) 55 4 (out3.map AB.row)))],(i3 1),100⟩) (AI [ga1000,n0]) hit1 ((by exact Ze ⟨jL,jL,jL,jL,jL,Za⟩ ⟨.inl R,Za⟩ nL)) ?_
 intro place2 item2 out3 i3 v1 hv1 hx1
 have h1:Dt l1 parent1 self place2 item2 out3=some v1:=hv1; unfold Dt at h1
 refine Zj (aS fun _ hK3 _=>(aR (sA R R (aZ (hK3 _ ?_)))))
 refine aS fun K4 hK4 wK4=>(aS fun _ hK5 _=>(aR (sM R R (sQ R (ZD R AZ.slice iL) (sM R R (aZ (hK5 _ ?_)))))))
 refine Zj ?_
 refine BB h1 fun o2 hit2 hk2=>?_
 have J2 : ∀ (next4:Int) (i9:Nat→Nat),o2=next4→K4 ⟨[(0,qc l1),(1,rI (parent1)),(2,.own 1000 (i3 0)),(9,rI (next4))],[(1000,some (.arr (i3 0) 55 4 (out3.map AB.row)))],(i9 0),100⟩:=by
  intro next4 i9 e
  have h2:=hk2 _ e
  refine hK4 _ ?_
  refine aS fun _ hK6 _=>(aS fun _ hK7 _=>(aR (sM R R (sQ R (Zs R iL iL) (aZ (hK7 _ ?_))))))
  refine aC R (fun hc1=>?_) (fun hc1=>?_)
  ·have h3:=Zo hc1 h2
   refine aS fun _ hK8 _=>(aR (sM R R (sA R R (aZ (hK8 _ ?_)))))
   refine Zr ?_
   exact CE.mk (s':=⟨[(6,.own 1000 (i3 0))],[(1000,some (.arr (i3 0) 55 4 (out3.map AB.row)))],(i9 0),100⟩) ((by exact Ze ⟨jL,Za⟩ ⟨.inl R,Za⟩ nL)) (Cr (fun (r:(List AB)) rr h'=>∃ (i:Nat→Nat),rr = .own 1000 (i 0)∧h'=[(1000,some (.arr (i 0) 55 4 (r.map AB.row)))]) (he1 _ (hx1 _ (Zb h3).symm)) (by exact ⟨.own 1000 (i3 0),[(1000,some (.arr (i3 0) 55 4 (out3.map AB.row)))],R,⟨.inr R,Za⟩,R,R,AI [(i3 0)],R,R⟩))
  ·have h3:=Zp hc1 h2
   refine Zl (hK6 _ ?_)
   refine aS fun _ hK9 _=>?_
   refine ZQ BD (by kernel_rfl) ?_
   refine Zh R R R (Zd R iL) (Zh R R R (Zd R iL) (Zk h3 fun x4 ex4 h4=>(Zh R R R (Zt R AZ.slice iL iL (fun _=>R) (fun _=>ex4)) (Zh R R R (Zn R DF iL) (Zh R R R (Zy (d:=.str x4.Place) R Aj iL R) (Zh R R R (Zd R iL) (Zh R R R (Zd R iL) (Zh R R R (Zt R AZ.slice iL iL (fun _=>R) (fun _=>ex4)) (Zh R R R (Zn R BT iL) (Zh R R R (Zy (d:=.int .i64 x4.Item) R AP iL R) (Zh R R R (CZ R iL) (Zh R R R (CZ R iL) ?_))))))))))))
   refine AQ.nil ?_
   refine hK9 _ ?_
   refine aK (s':=⟨[(0,qc l1),(1,rI (parent1)),(2,.own 1000 (i3 0)),(7,.r (.str x4.Place)),(8,rI (x4.Item)),(9,rI (next4))],[(1000,some (.arr (i3 0) 55 4 (out3.map AB.row)))],(i9 0),100⟩) ?_
   refine aR (sM R R (sM R R (sM R R (sM R R (sM R R (sQ R (Zt R AZ.slice iL iL (fun _=>R) (fun _=>ex4)) (sQ R (ZH (cs:=(Bu x4)) R DD iL R R) (Zg R R R (BW 97 R AZ (f:=AB.row) (l:=([x4]:List AB)) ⟨R,⟨_,iL,R⟩,Za⟩ R (fun _=>R) R) (Zk h4 fun l2 el2 h5=>(Zg R R R (Bg R AZ iL R (.inr (.inl ⟨_,_,iL,R⟩)) el2) (Zk h5 fun w1 ew1 h6=>?_)))))))))))
   refine CH [1000] (hc:=[(1000,some (.arr ((i9 0)+1) 55 4 (l2.map AB.row)))]) (bs:=[qc l1,rI (x4.Item),.own 1000 ((i9 0)+1)]) (caps:=[]) R R R R iL R ⟨.inl ⟨iL,R⟩,.inl ⟨iL,R⟩,.inl ⟨iL,R⟩,Za⟩ ⟨R,R,R,Za⟩ (by decide) (hself ew1) ?_
   intro i10 n1
   refine BX (s':=⟨[(0,qc l1),(1,rI (parent1)),(7,.r (.str x4.Place)),(8,rI (x4.Item)),(9,rI (next4)),(90,qc l1),(91,rI (x4.Item)),(93,qc l1),(94,rI (next4)),(95,.rop (AB.row x4) 0),(96,.agg (Bu x4)),(97,.own 97 (i9 0)),(99,.own 1000 (i10 0))],[(97,some (.arr (i9 0) 55 4 ([x4].map AB.row))),(1000,some (.arr (i10 0) 55 4 (w1.map AB.row)))],n1,100⟩) ?_
   refine sA R R ?_
   refine Zm ?_
   exact Cq.mk h6 (AI [(i10 0),n1]) ((by exact Ze ⟨jL,jL,jL,jL,jL,Za⟩ ⟨.inl R,Za⟩ nL))
 refine B0 (fun (next2:Int) (x2:Int) i7=>⟨[(0,qc l1),(1,rI (parent1)),(2,.own 1000 (i3 0)),(7,.r (.str place2)),(8,rI (item2)),(9,rI (next2)),(13,rI ((l1.length:Int))),(14,rI (x2))],[(1000,some (.arr (i3 0) 55 4 (out3.map AB.row)))],(i7 0),100⟩) (AI [(i3 1)]) hit2 ((by exact Ze ⟨jL,jL,jL,jL,jL,jL,jL,jL,Za⟩ ⟨.inl R,Za⟩ nL)) ?_
 intro next2 x2 i7 v2 hv2 hx2
 have h7:FG l1 parent1 place2 item2 next2 x2=some v2:=hv2; unfold FG at h7
 refine aS fun _ hK10 _=>(aR (sQ R (Zs R iL iL) (aZ (hK10 _ ?_))))
 refine aS fun _ hK11 _=>?_
 refine aC R (fun hc2=>?_) (fun hc2=>?_)
 ·have h8:=Zo hc2 h7
  refine Zl (hK11 _ ?_)
  refine aS fun K12 hK12 wK12=>(Zj ?_)
  refine BB h8 fun p1 hp1 hk3=>?_
  have J3 : ∀ (next5:Int) (i11:Nat→Nat),p1=next5→K12 ⟨[(0,qc l1),(1,rI (parent1)),(2,.own 1000 (i3 0)),(7,.r (.str place2)),(8,rI (item2)),(9,rI (next5)),(13,rI ((l1.length:Int))),(14,rI (x2))],[(1000,some (.arr (i3 0) 55 4 (out3.map AB.row)))],(i11 0),100⟩:=by
   intro next5 i11 e
   have h9:=hk3 _ e
   refine hK12 _ ?_
   refine aR (Zk h9 fun x5 ex5 h10=>(sQ R (ZA R iL iL (fun _=>ex5)) (sM R R ?_)))
   refine Zm ?_
   exact Bo.mk h10 (AI [(i11 0)]) ((by exact Ze ⟨jL,jL,jL,jL,jL,jL,jL,jL,Za⟩ ⟨.inl R,Za⟩ nL))
  refine aS fun _ hK13 _=>(aR (sM R R (sA R R (aZ (hK13 _ ?_)))))
  refine aS fun _ hK14 _=>(aR (sM R R (sM R R (Zk hp1 fun x6 ex6 h11=>(sQ R (Zt R AZ.slice iL iL (fun _=>R) (fun _=>ex6)) (sQ R (ZH (cs:=(Bu x6)) R DD iL R R) (Zg R R R (Bz (cs:=JQ) 11 R HE R R) (Zz R R (ZI (ds:=(Bu x6)) R GE iL R iL R R R R) (aZ (hK14 _ ?_))))))))))
  refine aS fun _ hK15 _=>(aS fun _ hK16 _=>(aR (sQ R (fB R Ca iL fR R) (sQ R (Zc (a:=rI (x6.Parent)) R AP iL R R) (sM R R (sQ R (BR R iL iL) (sM R R (sV R R R (fB R DF iL fR R) (sV R R R (Zc (a:=.r (.str x6.Place)) R Aj (iR R) R R) (sV R R R (Zd R iL) (sV R R R (HH R (iR R) (iR R)) (sQ R (ZF R iL (iR R)) (sM R R (sV R R R (fB R DF iL fR R) (sV R R R (Zc (a:=.r (.str x6.Place)) R Aj (iR R) R R) (sV R R R (Zd R iL) (sV R R R (EP R (iR R) (iR R)) (sV R R R (Zd R (iR R)) ?_))))))))))))))))))
  refine sW (.two R R R) R (fB R BT iL fR R) ?_
  refine sW (.two R R R) R (Zc (a:=rI (x6.Item)) R AP (iR R) R R) ?_
  refine sW (.two R R R) R (Zd R iL) ?_
  refine sW (.two R R R) R (FL R (iR R) (iR R)) ?_
  refine sV R R R (ZB R (iR R) (iR R)) (sQ R (ZF R iL (iR R)) (aZ (hK16 _ ?_)))
  refine aC R (fun hc3=>?_) (fun hc3=>?_)
  ·have h12:=Zo hc3 h11
   refine Zx ?_
   exact wK12 _ _ ((by exact Ze ⟨jL,jL,jL,jL,jL,jL,jL,jL,Za⟩ ⟨.inl R,Za⟩ nL)) (J3 _ (AI [((i7 0)+1)]) (Zb h12).symm)
  ·have h12:=Zp hc3 h11
   refine Zl (hK15 _ ?_)
   refine aS fun _ hK17 _=>?_
   refine aK (s':=⟨[(0,qc l1),(1,rI (parent1)),(2,.own 1000 (i3 0)),(7,.r (.str place2)),(8,rI (item2)),(9,rI (next2)),(10,rI (x2)),(11,.ptr 11 (i7 0) 0 0),(13,rI ((l1.length:Int))),(14,rI (x2))],[(11,some (.box (i7 0) 55 (Bu x6))),(1000,some (.arr (i3 0) 55 4 (out3.map AB.row)))],((i7 0)+1),100⟩) ?_
   refine ZQ BD (by kernel_rfl) ?_
   refine Zh R R R (Zd R iL) (Zh R R R (Zs R iL iL) (Zh R R R (Zd R iL) ?_))
   refine Zf (.one R R R) R R (fB R DF iL fR R) ?_
   refine Zf (.one R R R) R R (Zc (a:=.r (.str x6.Place)) R Aj (iR R) R R) ?_
   refine Zf (.one R R R) R R (Zd R iL) ?_
   refine Zf (.one R R R) R R (Zd R iL) ?_
   refine Zk h12 fun x7 ex7 h13=>?_
   refine Zf (.one R R R) R R (Zt R AZ.slice (iR R) (iR R) (fun _=>R) (Ai ex7)) ?_
   refine Zf (.one R R R) R R (Zn R DF (iR R)) ?_
   refine Zf (.one R R R) R R (Zy (d:=.str x7.Place) R Aj (iR R) R) ?_
   refine Zf (.one R R R) R R (HH R (iR R) (iR R)) ?_
   refine Zh R R R (ZF R iL (iR R)) (Zh R R R (Zd R iL) ?_)
   refine Zf (.one R R R) R R (fB R DF iL fR R) ?_
   refine Zf (.one R R R) R R (Zc (a:=.r (.str x6.Place)) R Aj (iR R) R R) ?_
   refine Zf (.one R R R) R R (Zd R iL) ?_
   refine Zf (.one R R R) R R (Zd R iL) ?_
   refine Zk h13 fun x8 ex8 h14=>?_
   refine Zf (.one R R R) R R (Zt R AZ.slice (iR R) (iR R) (fun _=>R) (Ai ex8)) ?_
   refine Zf (.one R R R) R R (Zn R DF (iR R)) ?_
   refine Zf (.one R R R) R R (Zy (d:=.str x8.Place) R Aj (iR R) R) ?_
   refine Zf (.one R R R) R R (EP R (iR R) (iR R)) ?_
   refine Zf (.one R R R) R R (Zd R (iR R)) ?_
   refine Zf (.two R R R) R R (fB R BT iL fR R) ?_
   refine Zf (.two R R R) R R (Zc (a:=rI (x6.Item)) R AP (iR R) R R) ?_
   refine Zf (.two R R R) R R (Zd R iL) ?_
   refine Zf (.two R R R) R R (Zd R iL) ?_
   refine Zf (.two R R R) R R (Zt R AZ.slice (iR R) (iR R) (fun _=>R) (fun h=>Ai ex8 (Bool.and_eq_true_iff.1 h).1)) ?_
   refine Zf (.two R R R) R R (Zn R BT (iR R)) ?_
   refine Zf (.two R R R) R R (Zy (d:=.int .i64 x8.Item) R AP (iR R) R) ?_
   refine Zf (.two R R R) R R (Zs R (iR R) (iR R)) ?_
   refine Zf (.one R R R) R R (ZB R (iR R) (iR R)) ?_
   refine Zh R R R (ZF R iL (iR R)) ?_
   refine AQ.nil ?_
   refine hK17 _ ?_
   refine aC R (fun hc4=>?_) (fun hc4=>?_)
   ·have h15:=Zo hc4 h14
    refine aR (sM R R (sA R R ?_))
    refine Zm ?_
    exact wK12 _ _ ((by exact Ze ⟨jL,jL,jL,jL,jL,jL,jL,jL,Za⟩ ⟨.inl R,Za⟩ nL)) (J3 _ (AI [((i7 0)+1)]) (Zb h15).symm)
   ·have h15:=Zp hc4 h14
    refine Zl ?_
    exact wK12 _ _ ((by exact Ze ⟨jL,jL,jL,jL,jL,jL,jL,jL,Za⟩ ⟨.inl R,Za⟩ nL)) (J3 _ (AI [((i7 0)+1)]) (Zb h15).symm)
 ·have h8:=Zp hc2 h7
  refine Zx ?_
  exact wK4 _ _ ((by exact Ze ⟨jL,jL,jL,jL,Za⟩ ⟨.inl R,Za⟩ nL)) (J2 _ (AI [(i7 0)]) (hx2 _ (Zb h8).symm))
theorem Rt (n:Nat) : ∀ {out1:List AB} {l1:List AB} {parent1:Int} {r:(List AB)} {ga1000:Nat},B9 n out1 l1 parent1=some r→A8 Try.prog 31 1 [qc l1,rI (parent1),.own 1000 ga1000] [(1000,some (.arr ga1000 55 4 (out1.map AB.row)))] (fun rr h'=>∃ (i:Nat→Nat),rr = .own 1000 (i 0)∧h'=[(1000,some (.arr (i 0) 55 4 (r.map AB.row)))]):=by
 induction n with
 | zero=>intro out1 l1 parent1 r ga1000 h; exact absurd (show (none:Option ((List AB)))=some r from h) (by simp)
 | succ n ih=>intro out1 l1 parent1 r ga1000 h; exact RX (self:=fun out1 l1 parent1=>B9 n out1 l1 parent1) (fun h2=>ih h2) h
theorem So {out1:List AB} {l1:List AB} {parent1:Int} {r:(List AB)} {ga1000:Nat} (h:IQ out1 l1 parent1=some r):A8 Try.prog 31 1 [qc l1,rI (parent1),.own 1000 ga1000] [(1000,some (.arr ga1000 55 4 (out1.map AB.row)))] (fun rr h'=>∃ (i:Nat→Nat),rr = .own 1000 (i 0)∧h'=[(1000,some (.arr (i 0) 55 4 (r.map AB.row)))]):=by
 unfold IQ at h
 by_cases hh : ∃ n r,B9 n out1 l1 parent1=some r
 ·rw [dif_pos hh] at h; exact Rt _ h
 ·rw [dif_neg hh] at h; cases h
theorem N6 {l1:List AD} {r:(List AB) × Int} (h:Eg l1=some r):Aq Try.prog 10 [qa l1] (.tup [qc r.1,rI (r.2)]):=by
 unfold Eg at h
 refine ZJ Try.func10 R R Try.ntmps10 R (Zi R) fun n0=>?_
 refine aS fun _ hK1 _=>(aR (sA R R (sA R R (aZ (hK1 _ ?_)))))
 refine aS fun _ hK2 _=>(aR (sM R R (DW h fun r1 r2 er1 h1=>(Zg R R R (B4 (r:=.tup [qc r1,qc r2]) (caps:=[]) (bs:=[qa l1]) R iL R ⟨.inl ⟨iL,R⟩,Za⟩ (fun _=>L6 (er1))) (sM R R (sQ R (ZE (a:=qc r1) R iL R) (sQ R (ZE (a:=qc r2) R iL R) (sA R R (sA R R (aZ (hK2 _ ?_)))))))))))
 refine aS fun _ hK3 _=>?_
 refine aK (s':=⟨[(4,qc r1)],[],n0,73⟩) ?_
 refine aR (sM R R (Zk h1 fun w1 ew1 h2=>?_))
 refine Vi 7918 55 4 R [7918] (hc:=[(1000,some (.arr n0 55 4 (([]:List AB).map AB.row)))]) (bs:=[qc r1,rI (0),.own 1000 n0]) (caps:=[]) R R R R iL R ⟨.inl (.inl ⟨iL,R⟩),.inl (.inl ⟨iL,R⟩),.inr ⟨iL,R,R⟩,Za⟩ ⟨R,R,R,Za⟩ (by decide) (So ew1) ?_
 intro i1 n1
 refine BX (s':=⟨[(4,qc r1),(17,qc r1),(18,.own 7918 (i1 0))],[(7918,some (.arr (i1 0) 55 4 (w1.map AB.row)))],n1,73⟩) ?_
 refine sA R R (aZ (hK3 _ ?_))
 refine aS fun _ hK4 _=>(aR (sM R R (sQ R (DO R AZ.slice iL R) (sA R R (aZ (hK4 _ ?_))))))
 refine aS fun _ hK5 _=>(aR (sA R R (aZ (hK5 _ ?_))))
 refine Zj ?_
 refine Be h2 fun o1 hit1 hk1 he1=>?_
 refine B0 (fun (last2:Int) (out2:List AB) i4=>⟨[(4,qc r1),(6,.own 7918 (i4 0)),(7,rI ((w1.length:Int))),(8,rI (last2))],[(7918,some (.arr (i4 0) 55 4 (out2.map AB.row)))],(i4 1),73⟩) (AI [(i1 0),n1]) hit1 ((by exact Ze ⟨jL,jL,jL,jL,Za⟩ ⟨.inl R,Za⟩ nL)) ?_
 intro last2 out2 i4 v1 hv1 hx1
 have h3:E3 r1 w1 last2 out2=some v1:=hv1; unfold E3 at h3
 refine Zj (aS fun _ hK6 _=>(aR (sA R R (aZ (hK6 _ ?_)))))
 refine aS fun K7 hK7 wK7=>(aS fun _ hK8 _=>(aR (sM R R (sQ R (ZD R AZ.slice iL) (sM R R (aZ (hK8 _ ?_)))))))
 refine Zj ?_
 refine BB h3 fun o2 hit2 hk2=>?_
 have J2 : ∀ (next4:Int) (i10:Nat→Nat),o2=next4→K7 ⟨[(4,qc r1),(6,.own 7918 (i4 0)),(7,rI ((w1.length:Int))),(9,rI (next4))],[(7918,some (.arr (i4 0) 55 4 (out2.map AB.row)))],(i10 0),73⟩:=by
  intro next4 i10 e
  have h4:=hk2 _ e
  refine hK7 _ ?_
  refine aS fun _ hK9 _=>(aS fun _ hK10 _=>(aR (sM R R (sQ R (Zs R iL iL) (aZ (hK10 _ ?_))))))
  refine aC R (fun hc1=>?_) (fun hc1=>?_)
  ·have h5:=Zo hc1 h4
   refine aS fun _ hK11 _=>(aR (sM R R (sM R R (sA R R (sA R R (aZ (hK11 _ ?_)))))))
   refine Zr ?_
   exact Dc (P:=Try.prog) (fun (r:(List AB) × Int)=>qc r.1) (fun (r:(List AB) × Int)=>rI (r.2)) (he1 _ (hx1 _ (Zb h5).symm)) iL (.t (.one (.own R))) (.t (.d R))
  ·have h5:=Zp hc1 h4
   refine Zl (hK9 _ ?_)
   refine aS fun _ hK12 _=>(aR (sM R R (sM R R (Zk h5 fun x4 ex4 h6=>(sQ R (Zt R AZ.slice iL iL (fun _=>R) (fun _=>ex4)) (sQ R (Zn R BT iL) (sQ R (Zy (d:=.int .i64 x4.Item) R AP iL R) (sA R R (aZ (hK12 _ ?_))))))))))
   refine aR (sM R R (sM R R (sM R R (sQ R (Zt R AZ.slice iL iL (fun _=>R) (fun _=>ex4)) (sQ R (ZH (cs:=(Bu x4)) R DD iL R R) (Zg R R R (BW 71 R AZ (f:=AB.row) (l:=([x4]:List AB)) ⟨R,⟨_,iL,R⟩,Za⟩ R (fun _=>R) R) (Zk h6 fun out4 eout4 h7=>(Zg R R R (Bg R AZ iL R (.inr (.inl ⟨_,_,iL,R⟩)) eout4) (sA R R ?_)))))))))
   refine Zm ?_
   exact Bo.mk h7 (AI [((i10 0)+1),((i10 0)+2)]) ((by exact Ze ⟨jL,jL,jL,jL,Za⟩ ⟨.inl R,Za⟩ nL))
 refine B0 (fun (next2:Int) (x2:Int) i8=>⟨[(4,qc r1),(6,.own 7918 (i4 0)),(7,rI ((w1.length:Int))),(8,rI (last2)),(9,rI (next2)),(22,rI ((r1.length:Int))),(23,rI (x2))],[(7918,some (.arr (i4 0) 55 4 (out2.map AB.row)))],(i8 0),73⟩) (AI [(i4 1)]) hit2 ((by exact Ze ⟨jL,jL,jL,jL,jL,jL,jL,Za⟩ ⟨.inl R,Za⟩ nL)) ?_
 intro next2 x2 i8 v2 hv2 hx2
 have h8:FW r1 w1 last2 out2 next2 x2=some v2:=hv2; unfold FW at h8
 refine aS fun _ hK13 _=>(aR (sQ R (Zs R iL iL) (aZ (hK13 _ ?_))))
 refine aS fun _ hK14 _=>?_
 refine aC R (fun hc2=>?_) (fun hc2=>?_)
 ·have h9:=Zo hc2 h8
  refine Zl (hK14 _ ?_)
  refine aS fun K15 hK15 wK15=>(Zj ?_)
  refine BB h9 fun p1 hp1 hk3=>?_
  have J3 : ∀ (next5:Int) (i11:Nat→Nat),p1=next5→K15 ⟨[(4,qc r1),(6,.own 7918 (i4 0)),(7,rI ((w1.length:Int))),(8,rI (last2)),(9,rI (next5)),(22,rI ((r1.length:Int))),(23,rI (x2))],[(7918,some (.arr (i4 0) 55 4 (out2.map AB.row)))],(i11 0),73⟩:=by
   intro next5 i11 e
   have h10:=hk3 _ e
   refine hK15 _ ?_
   refine aR (Zk h10 fun x5 ex5 h11=>(sQ R (ZA R iL iL (fun _=>ex5)) (sM R R ?_)))
   refine Zm ?_
   exact Bo.mk h11 (AI [(i11 0)]) ((by exact Ze ⟨jL,jL,jL,jL,jL,jL,jL,Za⟩ ⟨.inl R,Za⟩ nL))
  refine aS fun _ hK16 _=>(aR (sM R R (sA R R (aZ (hK16 _ ?_)))))
  refine aS fun _ hK17 _=>(aR (sM R R (sM R R (Zk hp1 fun x6 ex6 h12=>(sQ R (Zt R AZ.slice iL iL (fun _=>R) (fun _=>ex6)) (sQ R (Zn R BT iL) (sQ R (Zy (d:=.int .i64 x6.Item) R AP iL R) (sA R R (aZ (hK17 _ ?_))))))))))
  refine aS fun _ hK18 _=>(aR (sM R R (sM R R (sQ R (A7 R iL iL) (sM R R (sV R R R (Zd R iL) (sV R R R (Zd R iL) (Zk h12 fun l2 el2 h13=>(sV R R R (Qb R AZ.slice (iR R) R ⟨_,(iR R)⟩ (Ai el2)) (sV R R R (Zd R iL) (Zk h13 fun r3 er3 h14=>?_)))))))))))
  refine AS.stepW (.one R R R) R R (ZC (r:=rI (r3)) (caps:=[]) (bs:=[.r (.sl ((out2.take (w1.length:Int).toNat).map AB.row)),rI (x6.Item)]) R iL R ⟨⟨_,(iR R),.one (.pre R R)⟩,⟨_,(iR R),.d R⟩,Za⟩ (fun hc0=>(Qe ((Ai el2) hc0)) ▸ (fun hg=>Dh (Ai er3 hg)) hc0) R) ?_
  refine sV R R R (Zs R (iR R) iL) (sQ R (ZB R iL (iR R)) (sM R R (sV R R R (Zd R iL) (sV R R R (Zs R (iR R) iL) (sV R R R (Zd R (iR R)) ?_)))))
  refine sW (.two R R R) R (Zd R iL) ?_
  refine sW (.two R R R) R (Zd R iL) ?_
  refine sW (.two R R R) R (Zd R iL) ?_
  refine Zk h14 fun x7 ex7 h15=>?_
  refine sW (.two R R R) R (Zt R AZ.slice (iR R) (iR R) (fun _=>R) (Ai ex7)) ?_
  refine sW (.two R R R) R (Zn R BT (iR R)) ?_
  refine sW (.two R R R) R (Zy (d:=.int .i64 x7.Item) R AP (iR R) R) ?_
  refine sW (.two R R R) R (Zs R (iR R) (iR R)) ?_
  refine sV R R R (ZF R (iR R) (iR R)) (sQ R (ZB R iL (iR R)) (aZ (hK18 _ ?_)))
  refine aC R (fun hc3=>?_) (fun hc3=>?_)
  ·have h16:=Zo hc3 h15
   refine aK (s':=⟨[(4,qc r1),(6,.own 7918 (i4 0)),(7,rI ((w1.length:Int))),(8,rI (last2)),(10,rI (x2)),(22,rI ((r1.length:Int))),(23,rI (x2))],[(7918,some (.arr (i4 0) 55 4 (out2.map AB.row)))],(i8 0),73⟩) ?_
   refine aR (sM R R (sA R R ?_))
   refine Zm ?_
   exact wK15 _ _ ((by exact Ze ⟨jL,jL,jL,jL,jL,jL,jL,Za⟩ ⟨.inl R,Za⟩ nL)) (J3 _ (AI [(i8 0)]) (Zb h16).symm)
  ·have h16:=Zp hc3 h15
   refine Zl ?_
   exact wK15 _ _ ((by exact Ze ⟨jL,jL,jL,jL,jL,jL,jL,Za⟩ ⟨.inl R,Za⟩ nL)) (J3 _ (AI [(i8 0)]) (Zb h16).symm)
 ·have h9:=Zp hc2 h8
  refine Zx ?_
  exact wK7 _ _ ((by exact Ze ⟨jL,jL,jL,jL,Za⟩ ⟨.inl R,Za⟩ nL)) (J2 _ (AI [(i8 0)]) (hx2 _ (Zb h9).symm))
theorem UJ {a1:List AC} {b1:List AC} {r:Bool} (h:IK a1 b1=some r):Aq Try.prog 53 [qb a1,qb b1] (rB (r)):=by
 unfold IK at h
 refine ZJ Try.func53 R R Try.ntmps53 R (Zi R) fun n0=>?_
 refine aS fun _ hK1 _=>(aR (sA R R (aZ (hK1 _ ?_))))
 refine aS fun _ hK2 _=>(aS fun _ hK3 _=>(aR (sM R R (sQ R (ZD R Ah.slice iL) (sM R R (sQ R (ZD R Ah.slice iL) (sQ R (BR R iL iL) (aZ (hK3 _ ?_)))))))))
 refine aC R (fun hc1=>?_) (fun hc1=>?_)
 ·have h1:=Zo hc1 h
  refine aS fun _ hK4 _=>(aR (sA R R (aZ (hK4 _ ?_))))
  refine Zr ?_
  exact BH h1 iL (.t (.d R))
 ·have h1:=Zp hc1 h
  refine Zl (hK2 _ ?_)
  refine aS fun K5 hK5 wK5=>(aS fun _ hK6 _=>(aR (sM R R (sQ R (ZD R Ah.slice iL) (sM R R (aZ (hK6 _ ?_)))))))
  refine Zj ?_
  refine Be h1 fun o1 hit1 hk1 he1=>?_
  have J1 : ∀ (u2:Unit) (i5:Nat→Nat),o1 = .nrm u2→K5 ⟨[],[],(i5 0),26⟩:=by
   intro u2 i5 e
   have h2:=hk1 _ e
   refine hK5 _ ?_
   refine aS fun _ hK7 _=>(aR (sA R R (aZ (hK7 _ ?_))))
   refine Zr ?_
   exact BH h2 iL (.t (.d R))
  refine Cj (fun (x2:Int) i3=>⟨[(0,qb a1),(1,qb b1),(12,rI ((a1.length:Int))),(13,rI (x2))],[],(i3 0),26⟩) (AI [n0]) hit1 ((by exact Ze ⟨jL,jL,jL,jL,Za⟩ Za nL)) ?_
  intro x2 i3 v1 hv1 hx1
  have h3:Id a1 b1 x2=some v1:=hv1; unfold Id at h3
  refine aS fun _ hK8 _=>(aR (sQ R (Zs R iL iL) (aZ (hK8 _ ?_))))
  refine aS fun _ hK9 _=>?_
  refine aC R (fun hc2=>?_) (fun hc2=>?_)
  ·have h4:=Zo hc2 h3
   refine Zl (hK9 _ ?_)
   refine aS fun _ hK10 _=>(Zj (aS fun _ hK11 _=>(aR (sM R R (sA R R (aZ (hK11 _ ?_)))))))
   refine aS fun _ hK12 _=>?_
   refine ZQ BD (by kernel_rfl) ?_
   refine Zh R R R (Zd R iL) (Zh R R R (Zd R iL) (Zk h4 fun x4 ex4 h5=>(Zh R R R (Zt R Ah.slice iL iL (fun _=>R) (fun _=>ex4)) (Zh R R R (ZH (cs:=[.r (.str x4.Name), .r (.str x4.Value)]) R Bw iL R R) (Zh R R R (Zd R iL) (Zh R R R (Zd R iL) (Zk h5 fun x5 ex5 h6=>(Zh R R R (Zt R Ah.slice iL iL (fun _=>R) (fun _=>ex5)) (Zh R R R (ZH (cs:=[.r (.str x5.Name), .r (.str x5.Value)]) R Bw iL R R) (Zh R R R (LR R NN iL iL R) ?_))))))))))
   refine AQ.nil ?_
   refine hK12 _ ?_
   refine aC R (fun hc3=>?_) (fun hc3=>?_)
   ·have h7:=Zo hc3 h6
    refine aS fun _ hK13 _=>?_
    refine aK (s':=⟨[],[],(i3 0),26⟩) ?_
    refine aR (sA R R (aZ (hK13 _ ?_)))
    refine Zr ?_
    exact BH (he1 _ (hx1 _ (Zb h7).symm)) iL (.t (.d R))
   ·have h7:=Zp hc3 h6
    refine Zl (hK10 _ ?_)
    refine aK (s':=⟨[(0,qb a1),(1,qb b1),(12,rI ((a1.length:Int))),(13,rI (x2))],[],(i3 0),26⟩) ?_
    refine aR (Zk h7 fun x6 ex6 h8=>(sQ R (ZA R iL iL (fun _=>ex6)) (sM R R ?_)))
    refine Zm ?_
    exact CB.mk h8 (AI [(i3 0)]) ((by exact Ze ⟨jL,jL,jL,jL,Za⟩ Za nL))
  ·have h4:=Zp hc2 h3
   refine Zx ?_
   exact wK5 _ _ ((by exact Ze Za Za nL)) (J1 _ (AI [(i3 0)]) (hx1 _ (Zb h4).symm))
theorem Ul {a1:AB} {b1:AB} {r:Bool} (h:Hl a1 b1=some r):Aq Try.prog 33 [.agg (Bu a1),.agg (Bu b1)] (rB (r)):=by
 unfold Hl at h
 refine ZJ Try.func33 R R Try.ntmps33 R (Zi R) fun n0=>?_
 refine aS fun _ hK1 _=>(aR (Zg R R R (CS (cs:=(Bu a1)) 2 R iL R R) (Zg R R R (CS (cs:=(Bu b1)) 3 R iL R R) (sA R R (aZ (hK1 _ ?_))))))
 refine aS fun _ hK2 _=>(aR (sQ R (fB R BT iL fR R) (sQ R (Zc (a:=rI (a1.Item)) R AP iL R R) (sQ R (fB R BT iL fR R) (sQ R (Zc (a:=rI (b1.Item)) R AP iL R R) (sQ R (ZM R iL iL) (sM R R (sV R R R (fB R Ca iL fR R) (sV R R R (Zc (a:=rI (a1.Parent)) R AP (iR R) R R) (sV R R R (fB R Ca iL fR R) (sV R R R (Zc (a:=rI (b1.Parent)) R AP (iR R) R R) (sV R R R (ZM R (iR R) (iR R)) (sQ R (ZB R iL (iR R)) (sM R R (sV R R R (fB R DF iL fR R) (sV R R R (Zc (a:=.r (.str a1.Place)) R Aj (iR R) R R) (sV R R R (fB R DF iL fR R) (sV R R R (Zc (a:=.r (.str b1.Place)) R Aj (iR R) R R) (sV R R R (EP R (iR R) (iR R)) (sQ R (ZB R iL (iR R)) (sM R R (sV R R R (fB R E4 iL fR R) (sV R R R (Zc (a:=qb a1.Attrs) R Dk (iR R) R R) (sV R R R (fB R E4 iL fR R) (sV R R R (Zc (a:=qb b1.Attrs) R Dk (iR R) R R) (Zk h fun r1 er1 h1=>?_))))))))))))))))))))))))))
 refine AS.stepW (.one R R R) R R (ZC (r:=rB (r1)) (caps:=[]) (bs:=[qb a1.Attrs,qb b1.Attrs]) R iL R ⟨⟨_,(iR R),.d R⟩,⟨_,(iR R),.d R⟩,Za⟩ (fun hg=>UJ (Ai er1 hg)) R) ?_
 refine sQ R (ZB R iL (iR R)) (sA R R (aZ (hK2 _ ?_)))
 refine Zr ?_
 exact BH h1 iL (.t (.d R))
theorem Sa {now1:List AB} {want1:List AB} {r:Bool} (h:GD now1 want1=some r):Aq Try.prog 25 [qc now1,qc want1] (rB (r)):=by
 unfold GD at h
 refine ZJ Try.func25 R R Try.ntmps25 R (Zi R) fun n0=>?_
 refine aS fun _ hK1 _=>(aR (sA R R (aZ (hK1 _ ?_))))
 refine aS fun K2 hK2 wK2=>(aS fun _ hK3 _=>(aR (sM R R (sQ R (ZD R AZ.slice iL) (sM R R (aZ (hK3 _ ?_)))))))
 refine Zj ?_
 refine Be h fun o1 hit1 hk1 he1=>?_
 have J1 : ∀ (u2:Unit) (i5:Nat→Nat),o1 = .nrm u2→K2 ⟨[(0,qc now1),(1,qc want1)],[],(i5 0),57⟩:=by
  intro u2 i5 e
  have h1:=hk1 _ e
  refine hK2 _ ?_
  refine aS fun K4 hK4 wK4=>(aS fun _ hK5 _=>(aR (sM R R (sQ R (ZD R AZ.slice iL) (sM R R (aZ (hK5 _ ?_)))))))
  refine Zj ?_
  refine Be h1 fun o2 hit2 hk2 he2=>?_
  have J2 : ∀ (u4:Unit) (i10:Nat→Nat),o2 = .nrm u4→K4 ⟨[],[],(i10 0),57⟩:=by
   intro u4 i10 e
   have h2:=hk2 _ e
   refine hK4 _ ?_
   refine aS fun _ hK6 _=>(aR (sA R R (aZ (hK6 _ ?_))))
   refine Zr ?_
   exact BH h2 iL (.t (.d R))
  refine Cj (fun (x5:Int) i8=>⟨[(0,qc now1),(1,qc want1),(36,rI ((now1.length:Int))),(37,rI (x5))],[],(i8 0),57⟩) (AI [(i5 0)]) hit2 ((by exact Ze ⟨jL,jL,jL,jL,Za⟩ Za nL)) ?_
  intro x5 i8 v1 hv1 hx2
  have h3:Fg now1 want1 x5=some v1:=hv1; unfold Fg at h3
  refine aS fun _ hK7 _=>(aR (sQ R (Zs R iL iL) (aZ (hK7 _ ?_))))
  refine aS fun _ hK8 _=>?_
  refine aC R (fun hc1=>?_) (fun hc1=>?_)
  ·have h4:=Zo hc1 h3
   refine Zl (hK8 _ ?_)
   refine aS fun _ hK9 _=>(Zj (aS fun _ hK10 _=>(aR (sM R R (sA R R (aZ (hK10 _ ?_)))))))
   refine aS fun _ hK11 _=>(aR (sM R R (sM R R (sM R R (Zk h4 fun x7 ex7 h5=>(sQ R (Zt R AZ.slice iL iL (fun _=>R) (fun _=>ex7)) (sQ R (Zn R BT iL) (sQ R (Zy (d:=.int .i64 x7.Item) R AP iL R) (Zk h5 fun r1 er1 h6=>(Zg R R R (ZC (r:=rI (r1)) (caps:=[]) (bs:=[qc want1,rI (x7.Item)]) R iL R ⟨⟨_,iL,.d R⟩,⟨_,iL,.d R⟩,Za⟩ (fun _=>Dh (er1)) R) (sQ R (Zs R iL iL) (sM R R (sV R R R (Zd R iL) (sV R R R (Zd R iL) (sV R R R (Zt R AZ.slice (iR R) (iR R) (fun _=>R) (fun _=>ex7)) (sV R R R (Zn R Ca (iR R)) (sV R R R (Zy (d:=.int .i64 x7.Parent) R AP (iR R) R) (sV R R R (BR R (iR R) iL) (sQ R (ZB R iL (iR R)) (aZ (hK11 _ ?_)))))))))))))))))))))
   refine aC R (fun hc2=>?_) (fun hc2=>?_)
   ·have h7:=Zo hc2 h6
    refine aS fun _ hK12 _=>?_
    refine aK (s':=⟨[],[],(i8 0),57⟩) ?_
    refine aR (sA R R (aZ (hK12 _ ?_)))
    refine Zr ?_
    exact BH (he2 _ (hx2 _ (Zb h7).symm)) iL (.t (.d R))
   ·have h7:=Zp hc2 h6
    refine Zl (hK9 _ ?_)
    refine aK (s':=⟨[(0,qc now1),(1,qc want1),(36,rI ((now1.length:Int))),(37,rI (x5))],[],(i8 0),57⟩) ?_
    refine aR (Zk h7 fun x8 ex8 h8=>(sQ R (ZA R iL iL (fun _=>ex8)) (sM R R ?_)))
    refine Zm ?_
    exact CB.mk h8 (AI [(i8 0)]) ((by exact Ze ⟨jL,jL,jL,jL,Za⟩ Za nL))
  ·have h4:=Zp hc1 h3
   refine Zx ?_
   exact wK4 _ _ ((by exact Ze Za Za nL)) (J2 _ (AI [(i8 0)]) (hx2 _ (Zb h4).symm))
 refine Cj (fun (x2:Int) i3=>⟨[(0,qc now1),(1,qc want1),(9,rI ((want1.length:Int))),(10,rI (x2))],[],(i3 0),57⟩) (AI [n0]) hit1 ((by exact Ze ⟨jL,jL,jL,jL,Za⟩ Za nL)) ?_
 intro x2 i3 v2 hv2 hx1
 have h9:Fr now1 want1 x2=some v2:=hv2; unfold Fr at h9
 refine aS fun _ hK13 _=>(aR (sQ R (Zs R iL iL) (aZ (hK13 _ ?_))))
 refine aS fun _ hK14 _=>?_
 refine aC R (fun hc3=>?_) (fun hc3=>?_)
 ·have h10:=Zo hc3 h9
  refine Zl (hK14 _ ?_)
  refine aS fun _ hK15 _=>(Zj (aS fun _ hK16 _=>(aR (sM R R (sA R R (aZ (hK16 _ ?_)))))))
  refine aS fun _ hK17 _=>(aR (sM R R (sM R R (sM R R (Zk h10 fun x9 ex9 h11=>(sQ R (Zt R AZ.slice iL iL (fun _=>R) (fun _=>ex9)) (sQ R (Zn R BT iL) (sQ R (Zy (d:=.int .i64 x9.Item) R AP iL R) (Zk h11 fun k1 ek1 h12=>(Zg R R R (ZC (r:=rI (k1)) (caps:=[]) (bs:=[qc now1,rI (x9.Item)]) R iL R ⟨⟨_,iL,.d R⟩,⟨_,iL,.d R⟩,Za⟩ (fun _=>Dh (ek1)) R) (sA R R (aZ (hK17 _ ?_)))))))))))))
  refine aS fun _ hK18 _=>?_
  refine aK (s':=⟨[(0,qc now1),(1,qc want1),(5,rI (x2)),(6,rI (k1)),(9,rI ((want1.length:Int))),(10,rI (x2))],[],(i3 0),57⟩) ?_
  refine ZQ BD (by kernel_rfl) ?_
  refine Zh R R R (Zd R iL) (Zh R R R (Zs R iL iL) (Zh R R R (Zd R iL) ?_))
  refine Zf (.one R R R) R R (Zd R iL) ?_
  refine Zf (.one R R R) R R (Zd R iL) ?_
  refine Zk h12 fun x10 ex10 h13=>?_
  refine Zf (.one R R R) R R (Zt R AZ.slice (iR R) (iR R) (fun _=>R) (Ai ex10)) ?_
  refine Zf (.one R R R) R R (ZH (cs:=(Bu x10)) R DD (iR R) R R) ?_
  refine Zf (.one R R R) R R (Zd R iL) ?_
  refine Zf (.one R R R) R R (Zd R iL) ?_
  refine Zf (.one R R R) R R (Zt R AZ.slice (iR R) (iR R) (fun _=>R) (fun _=>ex9)) ?_
  refine Zf (.one R R R) R R (ZH (cs:=(Bu x9)) R DD (iR R) R R) ?_
  refine Zk h13 fun r2 er2 h14=>?_
  refine JN (.one R R R) R R (r:=rB (r2)) (caps:=[]) (bs:=[.agg (Bu x10),.agg (Bu x9)]) R iL R ⟨⟨_,(iR R),.g (cs:=[.int .i64 x10.Item,.int .i64 x10.Parent,.str x10.Place,.sl (x10.Attrs.map AC.row)]) R R⟩,⟨_,(iR R),.g (cs:=[.int .i64 x9.Item,.int .i64 x9.Parent,.str x9.Place,.sl (x9.Attrs.map AC.row)]) R R⟩,Za⟩ (fun hg=>Ul (Ai er2 hg)) R ?_
  refine Zf (.one R R R) R R (Bh R (iR R)) ?_
  refine Zh R R R (ZF R iL (iR R)) ?_
  refine AQ.nil ?_
  refine hK18 _ ?_
  refine aC R (fun hc4=>?_) (fun hc4=>?_)
  ·have h15:=Zo hc4 h14
   refine aS fun _ hK19 _=>?_
   refine aK (s':=⟨[],[],(i3 0),57⟩) ?_
   refine aR (sA R R (aZ (hK19 _ ?_)))
   refine Zr ?_
   exact BH (he1 _ (hx1 _ (Zb h15).symm)) iL (.t (.d R))
  ·have h15:=Zp hc4 h14
   refine Zl (hK15 _ ?_)
   refine aR (Zk h15 fun x11 ex11 h16=>(sQ R (ZA R iL iL (fun _=>ex11)) (sM R R ?_)))
   refine Zm ?_
   exact CB.mk h16 (AI [(i3 0)]) ((by exact Ze ⟨jL,jL,jL,jL,Za⟩ Za nL))
 ·have h10:=Zp hc3 h9
  refine Zx ?_
  exact wK2 _ _ ((by exact Ze ⟨jL,jL,Za⟩ Za nL)) (J1 _ (AI [(i3 0)]) (hx1 _ (Zb h10).symm))
theorem QE {l1:List AD} {want1:List AD} {clock1:Int} {site1:Int} {r:Bool} (h:E2 l1 want1 clock1 site1=some r):Aq Try.prog 6 [qa l1,qa want1,rI (clock1),rI (site1)] (rB (r)):=by
 unfold E2 at h
 refine ZJ Try.func6 R R Try.ntmps6 R (Zi R) fun n0=>?_
 refine aS fun _ hK1 _=>(aR (sA R R (aZ (hK1 _ ?_))))
 refine aS fun _ hK2 _=>(aS fun _ hK3 _=>(aR (Zk h fun r1 er1 h1=>(Zg R R R (ZC (r:=rB (r1)) (caps:=[]) (bs:=[]) R iL R Za (fun _=>Qq (er1)) R) (sQ R (Bh R iL) (aZ (hK3 _ ?_)))))))
 refine aC R (fun hc1=>?_) (fun hc1=>?_)
 ·have h2:=Zo hc1 h1
  refine aS fun _ hK4 _=>(aR (sA R R (aZ (hK4 _ ?_))))
  refine Zr ?_
  exact BH h2 iL (.t (.d R))
 ·have h2:=Zp hc1 h1
  refine Zl (hK2 _ ?_)
  refine aS fun _ hK5 _=>(aR (sM R R (sM R R (sM R R (sM R R (DW h2 fun r2 r3 er2 h3=>(Zg R R R (B4 (r:=.tup [qa r2,rI (r3)]) (caps:=[]) (bs:=[qa l1,qa want1,rI (clock1),rI (site1)]) R iL R ⟨.inl ⟨iL,R⟩,.inl ⟨iL,R⟩,.inl ⟨iL,R⟩,.inl ⟨iL,R⟩,Za⟩ (fun _=>SD (er2))) (sM R R (sQ R (ZE (a:=qa r2) R iL R) (sQ R (ZE (a:=rI (r3)) R iL R) (sA R R (sA R R (aZ (hK5 _ ?_))))))))))))))
  refine aS fun _ hK6 _=>?_
  refine aK (s':=⟨[(0,qa l1),(1,qa want1),(2,rI (clock1)),(3,rI (site1)),(9,qa r2),(10,rI (r3))],[],n0,160⟩) ?_
  refine aR (sM R R (Zk h3 fun f1 ef1 h4=>(Zg R R R (ZC (r:=rI (f1)) (caps:=[]) (bs:=[qa l1]) R iL R ⟨⟨_,iL,.d R⟩,Za⟩ (fun _=>ML (ef1)) R) (sA R R (aZ (hK6 _ ?_))))))
  refine aS fun K7 hK7 wK7=>(aS fun _ hK8 _=>(aR (sM R R (sQ R (ZM R iL iL) (aZ (hK8 _ ?_))))))
  refine BB h4 fun p1 hp1 hk1=>?_
  have J1 : ∀ (f2:Int) (i1:Nat→Nat),p1=f2→K7 ⟨[(0,qa l1),(1,qa want1),(2,rI (clock1)),(3,rI (site1)),(9,qa r2),(10,rI (r3)),(11,rI (f2))],[],(i1 0),160⟩:=by
   intro f2 i1 e
   have h5:=hk1 _ e
   refine hK7 _ ?_
   refine aS fun K9 hK9 wK9=>(aS fun _ hK10 _=>(aR (sM R R (sQ R (ZM R iL iL) (sM R R (sV R R R (Zd R iL) (Zk h5 fun r4 er4 h6=>?_)))))))
   refine AS.stepW (.one R R R) R R (ZC (r:=rB (r4)) (caps:=[]) (bs:=[rI (clock1),rI (1),rI (1073741824)]) R iL R ⟨⟨_,(iR R),.d R⟩,⟨_,iL,.d R⟩,⟨_,iL,.d R⟩,Za⟩ (fun hg=>G5 (Ai er4 hg)) R) ?_
   refine sV R R R (Bh R (iR R)) (sV R R R (Zd R (iR R)) ?_)
   refine sW (.two R R R) R (Zd R iL) ?_
   refine Zk h6 fun r5 er5 h7=>?_
   refine AS.stepW (.two R R R) R R (ZC (r:=rB (r5)) (caps:=[]) (bs:=[rI (site1),rI (0),rI (1000)]) R iL R ⟨⟨_,(iR R),.d R⟩,⟨_,iL,.d R⟩,⟨_,iL,.d R⟩,Za⟩ (fun hg=>G5 (Ai er5 hg)) R) ?_
   refine sW (.two R R R) R (Bh R (iR R)) ?_
   refine sV R R R (ZF R (iR R) (iR R)) (sV R R R (Zd R (iR R)) ?_)
   refine sW (.two R R R) R (Zd R iL) ?_
   refine sW (.two R R R) R (ZD R Ak.slice (iR R)) ?_
   refine sW (.two R R R) R (A7 R (iR R) iL) ?_
   refine sW (.two R R R) R (Zd R (iR R)) ?_
   refine sW (.two R R R) R (Zd R iL) ?_
   refine sW (.two R R R) R (Zd R iL) ?_
   refine sW (.two R R R) R (ZD R Ak.slice (iR R)) ?_
   refine Zk h7 fun x1 ex1 h8=>?_
   refine sW (.two R R R) R (D0 R (iR R) iL (Ai ex1)) ?_
   refine Zk h8 fun x2 ex2 h9=>?_
   refine sW (.two R R R) R (Zt R Ak.slice (iR R) (iR R) (fun _=>R) (Ai ex2)) ?_
   refine sW (.two R R R) R (Zn R C8 (iR R)) ?_
   refine sW (.two R R R) R (Zy (d:=.int .i64 x2.Clock) R AP (iR R) R) ?_
   refine sW (.two R R R) R (Zd R iL) ?_
   refine sW (.two R R R) R (Cf R (iR R) (iR R)) ?_
   refine sW (.two R R R) R (ZB R (iR R) (iR R)) ?_
   refine sV R R R (ZF R (iR R) (iR R)) (sQ R (ZB R iL (iR R)) (aZ (hK10 _ ?_)))
   refine BB h9 fun p2 hp2 hk2=>?_
   have J2 : ∀ (f3:Int) (i2:Nat→Nat),p2=f3→K9 ⟨[(0,qa l1),(1,qa want1),(2,rI (clock1)),(3,rI (site1)),(9,qa r2),(10,rI (r3)),(11,rI (f3))],[],(i2 0),160⟩:=by
    intro f3 i2 e
    have h10:=hk2 _ e
    refine hK9 _ ?_
    refine aS fun _ hK11 _=>(aS fun _ hK12 _=>(aR (sM R R (sQ R (BR R iL iL) (aZ (hK12 _ ?_))))))
    refine aC R (fun hc2=>?_) (fun hc2=>?_)
    ·have h11:=Zo hc2 h10
     refine aS fun _ hK13 _=>(aR (sM R R (sM R R (sQ R (ZM R iL iL) (sM R R (sV R R R (Zd R iL) (sV R R R (ZD R Ak.slice (iR R)) (sV R R R (ZM R (iR R) iL) (sQ R (ZB R iL (iR R)) (sA R R (aZ (hK13 _ ?_))))))))))))
     refine Zr ?_
     exact BH h11 iL (.t (.d R))
    ·have h11:=Zp hc2 h10
     refine Zl (hK11 _ ?_)
     refine aS fun _ hK14 _=>(aR (sM R R (sM R R (DW h11 fun r6 r7 er6 h12=>(Zg R R R (B4 (r:=.tup [rI (r6),.r (.sl (r7.map (Ad .i64)))]) (caps:=[]) (bs:=[qa l1,qa want1]) R iL R ⟨.inl ⟨iL,R⟩,.inl ⟨iL,R⟩,Za⟩ (fun _=>U3 (er6))) (sM R R (sQ R (ZE (a:=rI (r6)) R iL R) (sQ R (ZE (a:=.r (.sl (r7.map (Ad .i64)))) R iL R) (sA R R (sA R R (aZ (hK14 _ ?_))))))))))))
     refine aS fun _ hK15 _=>(aS fun _ hK16 _=>?_)
     refine aK (s':=⟨[(0,qa l1),(1,qa want1),(2,rI (clock1)),(3,rI (site1)),(9,qa r2),(10,rI (r3)),(12,rI (r6)),(13,.r (.sl (r7.map (Ad .i64))))],[],(i2 0),160⟩) ?_
     refine aR (sM R R (sM R R (Zk h12 fun x3 ex3 h13=>(sQ R (D0 R iL iL (fun _=>ex3)) (Zk h13 fun x4 ex4 h14=>(sQ R (ZA R iL iL (fun _=>ex4)) (sQ R (A7 R iL iL) (aZ (hK16 _ ?_)))))))))
     refine aC R (fun hc3=>?_) (fun hc3=>?_)
     ·have h15:=Zo hc3 h14
      refine aS fun _ hK17 _=>?_
      refine aK (s':=⟨[(9,qa r2),(10,rI (r3))],[],(i2 0),160⟩) ?_
      refine aR (sM R R (sQ R (ZM R iL iL) (sM R R (sV R R R (Zd R iL) (sV R R R (ZD R Ak.slice (iR R)) (sV R R R (ZM R (iR R) iL) (sQ R (ZB R iL (iR R)) (sA R R (aZ (hK17 _ ?_))))))))))
      refine Zr ?_
      exact BH h15 iL (.t (.d R))
     ·have h15:=Zp hc3 h14
      refine Zl (hK15 _ ?_)
      refine aS fun _ hK18 _=>(aS fun K19 hK19 wK19=>(aR (sM R R (sQ R (BR R iL iL) (sM R R (sV R R R (Zd R iL) (sV R R R (ZD R Ak.slice (iR R)) (sV R R R (Zd R iL) (sV R R R (BR R (iR R) (iR R)) (sQ R (ZF R iL (iR R)) (sM R R (sV R R R (Zd R iL) (sV R R R (Zd R iL) ?_)))))))))))))
      refine BB h15 fun p3 hp3 hk3=>?_
      have J3 : ∀ (x5:Bool) (i3:Nat→Nat),p3=x5→K19 ⟨[(0,qa l1),(1,qa want1),(2,rI (clock1)),(3,rI (site1)),(9,qa r2),(107,rB (x5))],[],(i3 0),160⟩:=by
       intro x5 i3 e
       have h16:=hk3 _ e
       refine hK19 _ ?_
       refine aC R (fun hc4=>?_) (fun hc4=>?_)
       ·have h17:=Zo hc4 h16
        refine aS fun _ hK20 _=>(aR (sA R R (aZ (hK20 _ ?_))))
        refine Zr ?_
        exact BH h17 iL (.t (.d R))
       ·have h17:=Zp hc4 h16
        refine Zl (hK18 _ ?_)
        refine aS fun K21 hK21 wK21=>(aS fun _ hK22 _=>(aR (sM R R (sQ R (ZD R Ak.slice iL) (sM R R (aZ (hK22 _ ?_)))))))
        refine Zj ?_
        refine Be h17 fun o1 hit1 hk4 he4=>?_
        have J4 : ∀ (u2:Unit) (i8:Nat→Nat),o1 = .nrm u2→K21 ⟨[(0,qa l1),(1,qa want1),(9,qa r2)],[],(i8 0),160⟩:=by
         intro u2 i8 e
         have h18:=hk4 _ e
         refine hK21 _ ?_
         refine aS fun _ hK23 _=>(aR (sM R R (sM R R (DW h18 fun r8 r9 er8 h19=>(Zg R R R (B4 (r:=.tup [qa r8,rI (r9)]) (caps:=[]) (bs:=[qa l1,qa r2]) R iL R ⟨.inl ⟨iL,R⟩,.inl ⟨iL,R⟩,Za⟩ (fun _=>RK (er8))) (sM R R (sQ R (ZE (a:=qa r8) R iL R) (sQ R (ZE (a:=rI (r9)) R iL R) (sA R R (sA R R (aZ (hK23 _ ?_))))))))))))
         refine aS fun _ hK24 _=>(aR (sM R R (DW h19 fun r10 r11 er10 h20=>(Zg R R R (B4 (r:=.tup [qc r10,rI (r11)]) (caps:=[]) (bs:=[qa r8]) R iL R ⟨.inl ⟨iL,R⟩,Za⟩ (fun _=>N6 (er10))) (sM R R (sQ R (ZE (a:=qc r10) R iL R) (sQ R (ZE (a:=rI (r11)) R iL R) (sA R R (sA R R (aZ (hK24 _ ?_)))))))))))
         refine aS fun _ hK25 _=>?_
         refine aK (s':=⟨[(1,qa want1),(15,qa r8),(16,rI (r9)),(17,qc r10)],[],(i8 0),160⟩) ?_
         refine aR (sM R R (DW h20 fun r12 r13 er12 h21=>(Zg R R R (B4 (r:=.tup [qc r12,rI (r13)]) (caps:=[]) (bs:=[qa want1]) R iL R ⟨.inl ⟨iL,R⟩,Za⟩ (fun _=>N6 (er12))) (sM R R (sQ R (ZE (a:=qc r12) R iL R) (sQ R (ZE (a:=rI (r13)) R iL R) (sA R R (sA R R (aZ (hK25 _ ?_))))))))))
         refine aS fun _ hK26 _=>(aR (sM R R (sQ R (ZM R iL iL) (sM R R (sV R R R (Zd R iL) (Zk h21 fun r14 er14 h22=>?_))))))
         refine AS.stepW (.one R R R) R R (ZC (r:=rI (r14)) (caps:=[]) (bs:=[qa r8]) R iL R ⟨⟨_,(iR R),.d R⟩,Za⟩ (fun hg=>ML (Ai er14 hg)) R) ?_
         refine sV R R R (ZM R (iR R) iL) (sQ R (ZB R iL (iR R)) (sM R R (sV R R R (Zd R iL) (sV R R R (Zd R iL) (Zk h22 fun r15 er15 h23=>?_)))))
         refine AS.stepW (.one R R R) R R (ZC (r:=rB (r15)) (caps:=[]) (bs:=[qc r10,qc r12]) R iL R ⟨⟨_,(iR R),.d R⟩,⟨_,(iR R),.d R⟩,Za⟩ (fun hg=>Sa (Ai er15 hg)) R) ?_
         refine sQ R (ZB R iL (iR R)) (sA R R (aZ (hK26 _ ?_)))
         refine Zr ?_
         exact BH h23 iL (.t (.d R))
        refine Cj (fun (x7:Int) i6=>⟨[(0,qa l1),(1,qa want1),(2,rI (clock1)),(3,rI (site1)),(9,qa r2),(109,rI ((r2.length:Int))),(110,rI (x7))],[],(i6 0),160⟩) (AI [(i3 0)]) hit1 ((by exact Ze ⟨jL,jL,jL,jL,jL,jL,jL,Za⟩ Za nL)) ?_
        intro x7 i6 v1 hv1 hx1
        have h24:FP clock1 site1 r2 x7=some v1:=hv1; unfold FP at h24
        refine aS fun _ hK27 _=>(aR (sQ R (Zs R iL iL) (aZ (hK27 _ ?_))))
        refine aS fun _ hK28 _=>?_
        refine aC R (fun hc5=>?_) (fun hc5=>?_)
        ·have h25:=Zo hc5 h24
         refine Zl (hK28 _ ?_)
         refine aS fun _ hK29 _=>(Zj (aS fun _ hK30 _=>(aR (sM R R (sA R R (aZ (hK30 _ ?_)))))))
         refine aS fun _ hK31 _=>(aR (sM R R (sM R R (Zk h25 fun x9 ex9 h26=>(sQ R (Zt R Ak.slice iL iL (fun _=>R) (fun _=>ex9)) (sQ R (Zn R C8 iL) (sQ R (Zy (d:=.int .i64 x9.Clock) R AP iL R) (sM R R (sM R R (Zk h26 fun x10 ex10 h27=>(sQ R (ZA R iL iL (fun _=>ex10)) (sQ R (BR R iL iL) (sM R R (sV R R R (Zd R iL) (sV R R R (Zd R iL) (sV R R R (Zt R Ak.slice (iR R) (iR R) (fun _=>R) (fun _=>ex9)) (sV R R R (Zn R D8 (iR R)) (sV R R R (Zy (d:=.int .i64 x9.Site) R AP (iR R) R) (sV R R R (Zd R iL) (sV R R R (BR R (iR R) (iR R)) (sQ R (ZF R iL (iR R)) (aZ (hK31 _ ?_)))))))))))))))))))))))
         refine aC R (fun hc6=>?_) (fun hc6=>?_)
         ·have h28:=Zo hc6 h27
          refine aS fun _ hK32 _=>?_
          refine aK (s':=⟨[],[],(i6 0),160⟩) ?_
          refine aR (sA R R (aZ (hK32 _ ?_)))
          refine Zr ?_
          exact BH (he4 _ (hx1 _ (Zb h28).symm)) iL (.t (.d R))
         ·have h28:=Zp hc6 h27
          refine Zl (hK29 _ ?_)
          refine aK (s':=⟨[(0,qa l1),(1,qa want1),(2,rI (clock1)),(3,rI (site1)),(9,qa r2),(109,rI ((r2.length:Int))),(110,rI (x7))],[],(i6 0),160⟩) ?_
          refine aR (Zk h28 fun x11 ex11 h29=>(sQ R (ZA R iL iL (fun _=>ex11)) (sM R R ?_)))
          refine Zm ?_
          exact CB.mk h29 (AI [(i6 0)]) ((by exact Ze ⟨jL,jL,jL,jL,jL,jL,jL,Za⟩ Za nL))
        ·have h25:=Zp hc5 h24
         refine Zx ?_
         exact wK21 _ _ ((by exact Ze ⟨jL,jL,jL,Za⟩ Za nL)) (J4 _ (AI [(i6 0)]) (hx1 _ (Zb h25).symm))
      refine Va (((!decide (r3=0)) || (!decide ((r2.length:Int)=r6))) == false) (fun hg1=>?_) (fun hg1=>?_)
      ·have h30:=Zo hg1 hp3
       refine AS.weak (by exact Vr (e':=[(0,qa l1),(1,qa want1),(2,rI (clock1)),(3,rI (site1)),(9,qa r2),(10,rI (r3)),(12,rI (r6)),(13,.r (.sl (r7.map (Ad .i64)))),(81,rI (clock1)),(82,rI (r6)),(83,rI (x3)),(84,rI (x4)),(85,rB ((decide (x4<clock1)))),(93,rI (r3)),(94,rB ((!decide (r3=0)))),(95,rB ((!decide (r3=0)))),(100,rB (((!decide (r3=0)) || (!decide ((r2.length:Int)=r6))))),(101,rB (((!decide (r3=0)) || (!decide ((r2.length:Int)=r6))))),(102,.r (.sl (r7.map (Ad .i64)))),(103,qa r2)]) hg1 ⟨.inl R,.inl R,.inl R,.inl R,.inl R,.inl R,.inl R,.inl R,.inl R,.inl R,.inl R,.inl R,.inl R,.inl R,.inl R,.inl R,.inl R,.inl R,.inr iL,.inr iL,Za⟩) ?_
       refine Zk h30 fun r16 er16 h31=>?_
       refine Zq (.one R R R) hg1 R R (B4 (r:=.r (.sl (r16.map (Ad .i64)))) (caps:=[]) (bs:=[qa r2]) R (.inl R) R ⟨.inl ⟨(.inl R),R⟩,Za⟩ (fun _=>TM (er16))) ?_
       refine Zk h31 fun r17 er17 h32=>?_
       refine Zq (.one R R R) hg1 R R (ZC (r:=rB (r17)) (caps:=[]) (bs:=[.r (.sl (r7.map (Ad .i64))),.r (.sl (r16.map (Ad .i64)))]) R (.inl R) R ⟨⟨_,(.inl R),.d R⟩,⟨_,(.inl R),.d R⟩,Za⟩ (fun _=>TE (er17)) R) ?_
       refine Zq (.one R R R) hg1 R R (Zv (Bh R (.inl R)) _) ?_
       refine sQ R (ZF R iL iL) ?_
       refine Zm ?_
       exact wK19 _ _ ((by exact Ze ⟨jL,jL,jL,jL,jL,jL,Za⟩ Za nL)) (J3 _ (AI [(i2 0)]) (Zb h32).symm)
      ·have h30:=Zp hg1 hp3
       refine ZK (.one R R R) hg1 R R ?_
       refine ZK (.one R R R) hg1 R R ?_
       refine ZK (.one R R R) hg1 R R ?_
       refine sQ R (ZF R iL (iR R)) ?_
       refine Zm ?_
       exact wK19 _ _ ((by exact Ze ⟨jL,jL,jL,jL,jL,jL,Za⟩ Za nL)) (J3 _ (AI [(i2 0)]) (Zb h30).symm)
   refine aC R (fun hc7=>?_) (fun hc7=>?_)
   ·have h33:=Zo hc7 hp2
    refine aK (s':=⟨[(0,qa l1),(1,qa want1),(2,rI (clock1)),(3,rI (site1)),(9,qa r2),(10,rI (r3))],[],(i1 0),160⟩) ?_
    refine aR (sA R R ?_)
    refine Zm ?_
    exact wK9 _ _ ((by exact Ze ⟨jL,jL,jL,jL,jL,jL,jL,Za⟩ Za nL)) (J2 _ (AI [(i1 0)]) (Zb h33).symm)
   ·have h33:=Zp hc7 hp2
    refine Zl ?_
    exact wK9 _ _ ((by exact Ze ⟨jL,jL,jL,jL,jL,jL,jL,Za⟩ Za nL)) (J2 _ (AI [(i1 0)]) (Zb h33).symm)
  refine aC R (fun hc8=>?_) (fun hc8=>?_)
  ·have h34:=Zo hc8 hp1
   refine aR (sM R R (Zk h34 fun f4 ef4 h35=>(Zg R R R (ZC (r:=rI (f4)) (caps:=[]) (bs:=[qa want1]) R iL R ⟨⟨_,iL,.d R⟩,Za⟩ (fun _=>ML (ef4)) R) (sA R R ?_))))
   refine Zm ?_
   exact wK7 _ _ ((by exact Ze ⟨jL,jL,jL,jL,jL,jL,jL,Za⟩ Za nL)) (J1 _ (AI [n0]) (Zb h35).symm)
  ·have h34:=Zp hc8 hp1
   refine Zl ?_
   exact wK7 _ _ ((by exact Ze ⟨jL,jL,jL,jL,jL,jL,jL,Za⟩ Za nL)) (J1 _ (AI [n0]) (Zb h34).symm)
end Go.Proofs.Ytelkfhdgmbahgaa.Al
