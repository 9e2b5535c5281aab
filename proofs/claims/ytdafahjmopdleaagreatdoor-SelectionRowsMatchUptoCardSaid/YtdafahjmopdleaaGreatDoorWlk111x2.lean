/- Walks, as printed. -/
import Derived.Test.YtdafahjmopdleaaGreatDoorWlk111
import Derived.Test.YtdafahjmopdleaaGreatDoorProg
set_option maxHeartbeats 4000000
set_option maxRecDepth 20000
set_option linter.unusedVariables false
namespace Go.Proofs.YtdafahjmopdleaaGreatDoor.Al
open Go.Proofs
set_option linter.defProp false
theorem YIA {l1:List YAL} {rows1:Int} {cols1:Int} {none1:Bool} {r:Int} (h:YCm l1 rows1 cols1 none1=some r):ARO Tryz.prog 160 [qc l1,rI (rows1),rI (cols1),rB (none1)] (rI (r)):=by
 unfold YCm at h
 refine Zu Tryz.func160 R R Tryz.ntmps160 R (Zf R) fun n0=>?_
 refine aS fun _ hK1 _=>(aR (sA R R (aZ (hK1 _ ?_))))
 refine aS fun K2 hK2 wK2=>(aS fun _ hK3 _=>(aR (sM R R (sQ R (Zz R YB2.slice iL) (sM R R (aZ (hK3 _ ?_)))))))
 refine Zp ?_
 refine jc1k h fun o1 hit1 hk1 he1=>?_
 have J1 : ∀ (u2:Unit) (i5:Nat→Nat),o1 = .nrm u2→K2 ⟨[],[],(i5 0),93⟩:=by
  intro u2 i5 e
  have h1:=hk1 _ e
  refine hK2 _ ?_
  refine aS fun _ hK4 _=>(aR (sA R R (aZ (hK4 _ ?_))))
  refine Zj ?_
  exact Y1_ h1 iL (.t (.d R))
 refine ZP (fun (x2:Int) i3=>⟨[(0,qc l1),(1,rI (rows1)),(2,rI (cols1)),(3,rB (none1)),(13,rI ((l1.length:Int))),(14,rI (x2))],[],(i3 0),93⟩) (vec [n0]) hit1 ((by exact Zc ⟨jL,jL,jL,jL,jL,jL,Za⟩ Za nL)) ?_
 intro x2 i3 v1 hv1 hx1
 have h2:YBq l1 rows1 cols1 none1 x2=some v1:=hv1; unfold YBq at h2
 refine aS fun _ hK5 _=>(aR (sQ R (Zv R iL iL) (aZ (hK5 _ ?_))))
 refine aS fun _ hK6 _=>?_
 refine aC R (fun hc1=>?_) (fun hc1=>?_)
 ·have h3:=Zn hc1 h2
  refine Zk (hK6 _ ?_)
  refine aS fun _ hK7 _=>(Zp (aS fun _ hK8 _=>(aR (sM R R (sA R R (aZ (hK8 _ ?_)))))))
  refine aS fun _ hK9 _=>(aR (sM R R (sM R R (Zl h3 fun x4 ex4 h4=>(sQ R (Zx R YB2.slice iL iL (fun _=>R) (fun _=>ex4)) (sQ R (ZG (cs:=(k9_ x4)) R YES iL R R) (Zh R R R (YAi (cs:=z11_) 10 R YI2 R R) (ZN R R (ZF (ds:=(k9_ x4)) R YI0 iL R iL R R R R) (aZ (hK9 _ ?_))))))))))
  refine aS fun _ hK10 _=>(aS fun _ hK11 _=>(aR (sQ R (fB R YBy iL fR R) (sQ R (Zb (a:=rI (x4.Row)) R ts_3 iL R R) (sM R R (Zl h4 fun x5 ex5 h5=>(sQ R (YBA R iL iL (fun _=>ex5)) (Zl h5 fun r1 er1 h6=>(Zh R R R (Zr (r:=rB (r1)) (caps:=[]) (bs:=[rI (x4.Row),rI (0),rI (x5)]) R iL R ⟨⟨_,iL,.d R⟩,⟨_,iL,.d R⟩,⟨_,iL,.d R⟩,Za⟩ (fun _=>YBB (er1)) R) (sQ R (ZK R iL) (sM R R (sV R R R (fB R YCV iL fR R) (sV R R R (Zb (a:=rI (x4.Col)) R ts_3 (iR R) R R) (sV R R R (Ze R iL) (Zl h6 fun x6 ex6 h7=>(sV R R R (YBA R (iR R) iL (gdt ex6)) (Zl h7 fun r2 er2 h8=>?_)))))))))))))))))
  refine ZA (.one R R R) R R (Zr (r:=rB (r2)) (caps:=[]) (bs:=[rI (x4.Col),rI (0),rI (x6)]) R iL R ⟨⟨_,(iR R),.d R⟩,⟨_,iL,.d R⟩,⟨_,(iR R),.d R⟩,Za⟩ (fun hg=>YBB (gdt er2 hg)) R) ?_
  refine sV R R R (ZK R (iR R)) (sQ R (Zy R iL (iR R)) (sM R R (sV R R R (fB R YBa iL fR R) (sV R R R (Zb (a:=rI (x4.Ref)) R ts_3 (iR R) R R) (Zl h8 fun r3 er3 h9=>?_)))))
  refine ZA (.one R R R) R R (Zr (r:=rB (r3)) (caps:=[]) (bs:=[rI (x4.Ref),rI (0),rI (1073741824)]) R iL R ⟨⟨_,(iR R),.d R⟩,⟨_,iL,.d R⟩,⟨_,iL,.d R⟩,Za⟩ (fun hg=>YBB (gdt er3 hg)) R) ?_
  refine sV R R R (ZK R (iR R)) (sQ R (Zy R iL (iR R)) (aZ (hK11 _ ?_)))
  refine aC R (fun hc2=>?_) (fun hc2=>?_)
  ·have h10:=Zn hc2 h9
   refine aS fun _ hK12 _=>?_
   refine Zi (s':=⟨[],[],((i3 0)+1),93⟩) (by exact Zc Za Za nL) ?_
   refine aR (sA R R (aZ (hK12 _ ?_)))
   refine Zj ?_
   exact Y1_ (he1 _ (hx1 _ (Zd h10).symm)) iL (.t (.d R))
  ·have h10:=Zo hc2 h9
   refine Zk (hK10 _ ?_)
   refine aS fun _ hK13 _=>(aS fun _ hK14 _=>?_)
   refine Zi (s':=⟨[(0,qc l1),(1,rI (rows1)),(2,rI (cols1)),(3,rB (none1)),(9,rI (x2)),(10,.ptr 10 (i3 0) 0 0),(13,rI ((l1.length:Int))),(14,rI (x2))],[(10,some (.box (i3 0) 140 (k9_ x4)))],((i3 0)+1),93⟩) (by exact Zc ⟨jL,jL,jL,jL,jL,jL,jL,jL,Za⟩ ⟨.inl R,Za⟩ nL) ?_
   refine aR (sQ R (fB R YDq iL fR R) (sQ R (Zb (a:=.r (.str x4.Text)) R ts_9 iL R R) (Zl h10 fun r4 er4 h11=>(Zh R R R (Zr (r:=rB (r4)) (caps:=[]) (bs:=[.r (.str x4.Text)]) R iL R ⟨⟨_,iL,.d R⟩,Za⟩ (fun _=>YJr (er4)) R) (sQ R (ZK R iL) (aZ (hK14 _ ?_)))))))
   refine aC R (fun hc3=>?_) (fun hc3=>?_)
   ·have h12:=Zn hc3 h11
    refine aS fun _ hK15 _=>?_
    refine Zi (s':=⟨[],[],((i3 0)+1),93⟩) (by exact Zc Za Za nL) ?_
    refine aR (sA R R (aZ (hK15 _ ?_)))
    refine Zj ?_
    exact Y1_ (he1 _ (hx1 _ (Zd h12).symm)) iL (.t (.d R))
   ·have h12:=Zo hc3 h11
    refine Zk (hK13 _ ?_)
    refine aS fun _ hK16 _=>(aS fun _ hK17 _=>(aR (sQ R (fB R YDp iL fR R) (sQ R (Zb (a:=qa x4.Attrs) R YEm iL R R) (Zl h12 fun e1 ee1 h13=>(Zh R R R (Zr (r:=rI (e1)) (caps:=[]) (bs:=[qa x4.Attrs,rB (false)]) R iL R ⟨⟨_,iL,.d R⟩,⟨_,iL,.d R⟩,Za⟩ (fun _=>YD3 (ee1)) R) (sA R R (aZ (hK17 _ ?_)))))))))
    refine aS fun _ hK18 _=>(aR (sM R R (sQ R (ZD R iL iL) (aZ (hK18 _ ?_)))))
    refine aC R (fun hc4=>?_) (fun hc4=>?_)
    ·have h14:=Zn hc4 h13
     refine aS fun _ hK19 _=>?_
     refine Zi (s':=⟨[(11,rI (e1))],[],((i3 0)+1),93⟩) (by exact Zc ⟨jL,Za⟩ Za nL) ?_
     refine aR (sM R R (sA R R (aZ (hK19 _ ?_))))
     refine Zj ?_
     exact Y1_ (he1 _ (hx1 _ (Zd h14).symm)) iL (.t (.d R))
    ·have h14:=Zo hc4 h13
     refine Zk (hK16 _ ?_)
     refine aS fun _ hK20 _=>(aS fun _ hK21 _=>?_)
     refine Zi (s':=⟨[(0,qc l1),(1,rI (rows1)),(2,rI (cols1)),(3,rB (none1)),(9,rI (x2)),(10,.ptr 10 (i3 0) 0 0),(13,rI ((l1.length:Int))),(14,rI (x2))],[(10,some (.box (i3 0) 140 (k9_ x4)))],((i3 0)+1),93⟩) (by exact Zc ⟨jL,jL,jL,jL,jL,jL,jL,jL,Za⟩ ⟨.inl R,Za⟩ nL) ?_
     refine aR (sM R R (sQ R (ZK R iL) (sM R R (sV R R R (ZC R YES iL R R) (Zl h14 fun r5 er5 h15=>?_)))))
     refine ZA (.one R R R) R R (Zr (r:=rB (r5)) (caps:=[]) (bs:=(k8_ x4)) R iL R ⟨⟨_,(iR R),.g (cs:=[.int .i64 x4.Row,.int .i64 x4.Col,.str x4.Text,.int .i64 x4.Ref,.sl (x4.Attrs.map YAT.row)]) R R⟩,Za⟩ (fun hg=>YIk (gdt er5 hg)) R) ?_
     refine sQ R (Zq R iL (iR R)) (aZ (hK21 _ ?_))
     refine aC R (fun hc5=>?_) (fun hc5=>?_)
     ·have h16:=Zn hc5 h15
      refine aS fun _ hK22 _=>?_
      refine Zi (s':=⟨[],[],((i3 0)+1),93⟩) (by exact Zc Za Za nL) ?_
      refine aR (sA R R (aZ (hK22 _ ?_)))
      refine Zj ?_
      exact Y1_ (he1 _ (hx1 _ (Zd h16).symm)) iL (.t (.d R))
     ·have h16:=Zo hc5 h15
      refine Zk (hK20 _ ?_)
      refine aS fun _ hK23 _=>?_
      refine ZS hmix (by kernel_rfl) ?_
      refine Zm R R R (Ze R iL) (Zm R R R (ZR R iL iL) (Zm R R R (Ze R iL) ?_))
      refine Zg (.one R R R) R R (fB R YBy iL fR R) ?_
      refine Zg (.one R R R) R R (Zb (a:=rI (x4.Row)) R ts_3 (iR R) R R) ?_
      refine Zg (.one R R R) R R (Ze R iL) ?_
      refine Zg (.one R R R) R R (Ze R iL) ?_
      refine Zl h16 fun x7 ex7 h17=>?_
      refine Zg (.one R R R) R R (YBA R (iR R) iL (gdt ex7)) ?_
      refine Zl h17 fun x8 ex8 h18=>?_
      refine Zg (.one R R R) R R (Zx R YB2.slice (iR R) (iR R) (fun _=>R) (gdt ex8)) ?_
      refine Zg (.one R R R) R R (Zw R YBy (iR R)) ?_
      refine Zg (.one R R R) R R (ZO (d:=.int .i64 x8.Row) R ts_3 (iR R) R) ?_
      refine Zg (.one R R R) R R (Zv R (iR R) (iR R)) ?_
      refine Zg (.one R R R) R R (Ze R (iR R)) ?_
      refine Zg (.two R R R) R R (fB R YBy iL fR R) ?_
      refine Zg (.two R R R) R R (Zb (a:=rI (x4.Row)) R ts_3 (iR R) R R) ?_
      refine Zg (.two R R R) R R (Ze R iL) ?_
      refine Zg (.two R R R) R R (Ze R iL) ?_
      refine Zg (.two R R R) R R (YBA R (iR R) iL (fun h=>gdt ex7 (Bool.and_eq_true_iff.1 h).1)) ?_
      refine Zg (.two R R R) R R (Zx R YB2.slice (iR R) (iR R) (fun _=>R) (fun h=>gdt ex8 (Bool.and_eq_true_iff.1 h).1)) ?_
      refine Zg (.two R R R) R R (Zw R YBy (iR R)) ?_
      refine Zg (.two R R R) R R (ZO (d:=.int .i64 x8.Row) R ts_3 (iR R) R) ?_
      refine Zg (.two R R R) R R (Zs R (iR R) (iR R)) ?_
      refine Zg (.two R R R) R R (Ze R (iR R)) ?_
      refine Zg (.two R R R) R R (fB R YCV iL fR R) ?_
      refine Zg (.two R R R) R R (Zb (a:=rI (x4.Col)) R ts_3 (iR R) R R) ?_
      refine Zg (.two R R R) R R (Ze R iL) ?_
      refine Zg (.two R R R) R R (Ze R iL) ?_
      refine Zl h18 fun x9 ex9 h19=>?_
      refine Zg (.two R R R) R R (YBA R (iR R) iL (gdt ex9)) ?_
      refine Zl h19 fun x10 ex10 h20=>?_
      refine Zg (.two R R R) R R (Zx R YB2.slice (iR R) (iR R) (fun _=>R) (gdt ex10)) ?_
      refine Zg (.two R R R) R R (Zw R YCV (iR R)) ?_
      refine Zg (.two R R R) R R (ZO (d:=.int .i64 x10.Col) R ts_3 (iR R) R) ?_
      refine Zg (.two R R R) R R (YET R (iR R) (iR R)) ?_
      refine Zg (.two R R R) R R (Zq R (iR R) (iR R)) ?_
      refine Zg (.one R R R) R R (Zy R (iR R) (iR R)) ?_
      refine Zm R R R (Zq R iL (iR R)) ?_
      refine AQ.nil ?_
      refine hK23 _ ?_
      refine aC R (fun hc6=>?_) (fun hc6=>?_)
      ·have h21:=Zn hc6 h20
       refine aS fun _ hK24 _=>?_
       refine Zi (s':=⟨[],[],((i3 0)+1),93⟩) (by exact Zc Za Za nL) ?_
       refine aR (sA R R (aZ (hK24 _ ?_)))
       refine Zj ?_
       exact Y1_ (he1 _ (hx1 _ (Zd h21).symm)) iL (.t (.d R))
      ·have h21:=Zo hc6 h20
       refine Zk (hK7 _ ?_)
       refine Zi (s':=⟨[(0,qc l1),(1,rI (rows1)),(2,rI (cols1)),(3,rB (none1)),(13,rI ((l1.length:Int))),(14,rI (x2))],[],((i3 0)+1),93⟩) (by exact Zc ⟨jL,jL,jL,jL,jL,jL,Za⟩ Za nL) ?_
       refine aR (Zl h21 fun x11 ex11 h22=>(sQ R (ZI R iL iL (fun _=>ex11)) (sM R R ?_)))
       refine Zt ?_
       exact ZJ h22 (vec [((i3 0)+1)]) ((by exact Zc ⟨jL,jL,jL,jL,jL,jL,Za⟩ Za nL))
 ·have h3:=Zo hc1 h2
  refine ZL ?_
  exact wK2 _ _ ((by exact Zc Za Za nL)) (J1 _ (vec [(i3 0)]) (hx1 _ (Zd h3).symm))
theorem YOI {r1:YAQ} {rows1:Int} {cols1:Int} {r:Bool} (h:YG7 r1 rows1 cols1=some r):ARO Tryz.prog 161 [.agg (k15_ r1),rI (rows1),rI (cols1)] (rB (r)):=by
 unfold YG7 at h
 refine Zu Tryz.func161 R R Tryz.ntmps161 R (Zf R) fun n0=>?_
 refine aS fun _ hK1 _=>(aR (Zh R R R (ZM (cs:=(k15_ r1)) 3 R iL R R) (sA R R (aZ (hK1 _ ?_)))))
 refine aS fun _ hK2 _=>(aR (sQ R (fB R YBC iL fR R) (sQ R (Zb (a:=rI (r1.Row)) R ts_3 iL R R) (sM R R (Zl h fun x1 ex1 h1=>(sQ R (YBA R iL iL (fun _=>ex1)) (Zl h1 fun r2 er2 h2=>(Zh R R R (Zr (r:=rB (r2)) (caps:=[]) (bs:=[rI (r1.Row),rI (0),rI (x1)]) R iL R ⟨⟨_,iL,.d R⟩,⟨_,iL,.d R⟩,⟨_,iL,.d R⟩,Za⟩ (fun _=>YBB (er2)) R) (sM R R (sV R R R (fB R YBZ iL fR R) (sV R R R (Zb (a:=rI (r1.Col)) R ts_3 (iR R) R R) (sV R R R (Ze R iL) (Zl h2 fun x2 ex2 h3=>(sV R R R (YBA R (iR R) iL (gdt ex2)) (Zl h3 fun r3 er3 h4=>?_)))))))))))))))
 refine ZA (.one R R R) R R (Zr (r:=rB (r3)) (caps:=[]) (bs:=[rI (r1.Col),rI (0),rI (x2)]) R iL R ⟨⟨_,(iR R),.d R⟩,⟨_,iL,.d R⟩,⟨_,(iR R),.d R⟩,Za⟩ (fun hg=>YBB (gdt er3 hg)) R) ?_
 refine sQ R (Zq R iL (iR R)) (sM R R (sV R R R (fB R YD7 iL fR R) (sV R R R (Zb (a:=rI (r1.H)) R ts_3 (iR R) R R) (sV R R R (Ze R iL) (sV R R R (fB R YBC iL fR R) (sV R R R (Zb (a:=rI (r1.Row)) R ts_3 (iR R) R R) (Zl h4 fun x3 ex3 h5=>(sV R R R (YBA R (iR R) (iR R) (gdt ex3)) (Zl h5 fun r4 er4 h6=>?_)))))))))
 refine ZA (.one R R R) R R (Zr (r:=rB (r4)) (caps:=[]) (bs:=[rI (r1.H),rI (1),rI (x3)]) R iL R ⟨⟨_,(iR R),.d R⟩,⟨_,iL,.d R⟩,⟨_,(iR R),.d R⟩,Za⟩ (fun hg=>YBB (gdt er4 hg)) R) ?_
 refine sQ R (Zq R iL (iR R)) (sM R R (sV R R R (fB R YD6 iL fR R) (sV R R R (Zb (a:=rI (r1.W)) R ts_3 (iR R) R R) (sV R R R (Ze R iL) (sV R R R (fB R YBZ iL fR R) (sV R R R (Zb (a:=rI (r1.Col)) R ts_3 (iR R) R R) (Zl h6 fun x4 ex4 h7=>(sV R R R (YBA R (iR R) (iR R) (gdt ex4)) (Zl h7 fun r5 er5 h8=>?_)))))))))
 refine ZA (.one R R R) R R (Zr (r:=rB (r5)) (caps:=[]) (bs:=[rI (r1.W),rI (1),rI (x4)]) R iL R ⟨⟨_,(iR R),.d R⟩,⟨_,iL,.d R⟩,⟨_,(iR R),.d R⟩,Za⟩ (fun hg=>YBB (gdt er5 hg)) R) ?_
 refine sQ R (Zq R iL (iR R)) (sA R R (aZ (hK2 _ ?_)))
 refine Zj ?_
 exact Y2_ h8 iL (.t (.d R))
theorem YMh {a1:YAQ} {b1:YAQ} {r:Bool} (h:YF3 a1 b1=some r):ARO Tryz.prog 166 [.agg (k15_ a1),.agg (k15_ b1)] (rB (r)):=by
 unfold YF3 at h
 refine Zu Tryz.func166 R R Tryz.ntmps166 R (Zf R) fun n0=>?_
 refine aS fun _ hK1 _=>(aR (Zh R R R (ZM (cs:=(k15_ a1)) 2 R iL R R) (Zh R R R (ZM (cs:=(k15_ b1)) 3 R iL R R) (sA R R (aZ (hK1 _ ?_))))))
 refine aS fun _ hK2 _=>?_
 refine ZS hmix (by kernel_rfl) ?_
 refine Zm R R R (fB R YBC iL fR R) (Zm R R R (Zb (a:=rI (a1.Row)) R ts_3 iL R R) (Zm R R R (fB R YBC iL fR R) (Zm R R R (Zb (a:=rI (b1.Row)) R ts_3 iL R R) (Zm R R R (YLj R iL iL) (Zm R R R (fB R YBZ iL fR R) (Zm R R R (Zb (a:=rI (a1.Col)) R ts_3 iL R R) (Zm R R R (fB R YBZ iL fR R) (Zm R R R (Zb (a:=rI (b1.Col)) R ts_3 iL R R) (Zm R R R (YLj R iL iL) (Zm R R R (YA8 R iL) (Zm R R R (YA8 R iL) ?_)))))))))))
 refine AQ.nil ?_
 refine hK2 _ ?_
 refine aS fun _ hK3 _=>?_
 refine Zi (s':=⟨[(2,.ptr 2 n0 0 0),(3,.ptr 3 (n0+1) 0 0),(5,rI ((max a1.Row b1.Row))),(6,rI ((max a1.Col b1.Col)))],[(2,some (.box n0 211 (k15_ a1))),(3,some (.box (n0+1) 211 (k15_ b1)))],(n0+2),45⟩) (by exact Zc ⟨jL,jL,jL,jL,Za⟩ ⟨.inl R,.inl R,Za⟩ nL) ?_
 refine aR (sM R R (sQ R (fB R YBC iL fR R) (sQ R (Zb (a:=rI (a1.Row)) R ts_3 iL R R) (sQ R (fB R YD7 iL fR R) (sQ R (Zb (a:=rI (a1.H)) R ts_3 iL R R) (Zl h fun x1 ex1 h1=>(sQ R (ZI R iL iL (fun _=>ex1)) (sQ R (fB R YBC iL fR R) (sQ R (Zb (a:=rI (b1.Row)) R ts_3 iL R R) (sQ R (fB R YD7 iL fR R) (sQ R (Zb (a:=rI (b1.H)) R ts_3 iL R R) (Zl h1 fun x2 ex2 h2=>(sQ R (ZI R iL iL (fun _=>ex2)) (sQ R (YLi R iL iL) (sQ R (Zv R iL iL) (sM R R (sV R R R (Ze R iL) (sV R R R (fB R YBZ iL fR R) (sV R R R (Zb (a:=rI (a1.Col)) R ts_3 (iR R) R R) (sV R R R (fB R YD6 iL fR R) (sV R R R (Zb (a:=rI (a1.W)) R ts_3 (iR R) R R) (Zl h2 fun x3 ex3 h3=>(sV R R R (ZI R (iR R) (iR R) (gdt ex3)) (sV R R R (fB R YBZ iL fR R) (sV R R R (Zb (a:=rI (b1.Col)) R ts_3 (iR R) R R) (sV R R R (fB R YD6 iL fR R) (sV R R R (Zb (a:=rI (b1.W)) R ts_3 (iR R) R R) (Zl h3 fun x4 ex4 h4=>(sV R R R (ZI R (iR R) (iR R) (gdt ex4)) ?_)))))))))))))))))))))))))))))
 refine sV R R R (YLi R (iR R) (iR R)) (sV R R R (Zv R (iR R) (iR R)) (sQ R (Zq R iL (iR R)) (sA R R (aZ (hK3 _ ?_)))))
 refine Zj ?_
 exact Y2_ h4 iL (.t (.d R))
theorem YIi {g1:YAv} {r:Int} (h:YDK g1=some r):ARO Tryz.prog 125 (k12_ g1) (rI (r)):=by
 unfold YDK at h
 refine Zu Tryz.func125 R R Tryz.ntmps125 R (Zf R) fun n0=>?_
 refine aS fun _ hK1 _=>(aR (Zh R R R (ZM (cs:=(k14_ g1)) 1 R iL R R) (sA R R (aZ (hK1 _ ?_)))))
 refine aS fun _ hK2 _=>(aS fun _ hK3 _=>(aR (sQ R (fB R YCj iL fR R) (sQ R (Zb (a:=rI (g1.Rows)) R ts_3 iL R R) (Zl h fun r1 er1 h1=>(Zh R R R (Zr (r:=rB (r1)) (caps:=[]) (bs:=[rI (g1.Rows),rI (0),rI (2147483647)]) R iL R ⟨⟨_,iL,.d R⟩,⟨_,iL,.d R⟩,⟨_,iL,.d R⟩,Za⟩ (fun _=>YBB (er1)) R) (sQ R (ZK R iL) (sM R R (sV R R R (fB R YCi iL fR R) (sV R R R (Zb (a:=rI (g1.Cols)) R ts_3 (iR R) R R) (Zl h1 fun r2 er2 h2=>?_)))))))))))
 refine ZA (.one R R R) R R (Zr (r:=rB (r2)) (caps:=[]) (bs:=[rI (g1.Cols),rI (0),rI (2147483647)]) R iL R ⟨⟨_,(iR R),.d R⟩,⟨_,iL,.d R⟩,⟨_,iL,.d R⟩,Za⟩ (fun hg=>YBB (gdt er2 hg)) R) ?_
 refine sV R R R (ZK R (iR R)) (sQ R (Zy R iL (iR R)) (aZ (hK3 _ ?_)))
 refine aC R (fun hc1=>?_) (fun hc1=>?_)
 ·have h3:=Zn hc1 h2
  refine aS fun _ hK4 _=>?_
  refine Zi (s':=⟨[],[],(n0+1),104⟩) (by exact Zc Za Za nL) ?_
  refine aR (sA R R (aZ (hK4 _ ?_)))
  refine Zj ?_
  exact Y1_ h3 iL (.t (.d R))
 ·have h3:=Zo hc1 h2
  refine Zk (hK2 _ ?_)
  refine aS fun _ hK5 _=>(aS fun _ hK6 _=>?_)
  refine Zi (s':=⟨[(1,.ptr 1 n0 0 0)],[(1,some (.box n0 43 (k14_ g1)))],(n0+1),104⟩) (by exact Zc ⟨jL,Za⟩ ⟨.inl R,Za⟩ nL) ?_
  refine aR (sQ R (fB R YCJ iL fR R) (sQ R (Zb (a:=qc g1.Cells) R YE1 iL R R) (sQ R (fB R YCj iL fR R) (sQ R (Zb (a:=rI (g1.Rows)) R ts_3 iL R R) (sQ R (fB R YCi iL fR R) (sQ R (Zb (a:=rI (g1.Cols)) R ts_3 iL R R) (Zl h3 fun e1 ee1 h4=>(Zh R R R (Zr (r:=rI (e1)) (caps:=[]) (bs:=[qc g1.Cells,rI (g1.Rows),rI (g1.Cols),rB (false)]) R iL R ⟨⟨_,iL,.d R⟩,⟨_,iL,.d R⟩,⟨_,iL,.d R⟩,⟨_,iL,.d R⟩,Za⟩ (fun _=>YIA (ee1)) R) (sA R R (aZ (hK6 _ ?_)))))))))))
  refine aS fun _ hK7 _=>(aR (sM R R (sQ R (ZD R iL iL) (aZ (hK7 _ ?_)))))
  refine aC R (fun hc2=>?_) (fun hc2=>?_)
  ·have h5:=Zn hc2 h4
   refine aS fun _ hK8 _=>?_
   refine Zi (s':=⟨[(3,rI (e1))],[],(n0+1),104⟩) (by exact Zc ⟨jL,Za⟩ Za nL) ?_
   refine aR (sM R R (sA R R (aZ (hK8 _ ?_))))
   refine Zj ?_
   exact Y1_ h5 iL (.t (.d R))
  ·have h5:=Zo hc2 h4
   refine Zk (hK5 _ ?_)
   refine aS fun K9 hK9 wK9=>(aS fun _ hK10 _=>?_)
   refine Zi (s':=⟨[(1,.ptr 1 n0 0 0)],[(1,some (.box n0 43 (k14_ g1)))],(n0+1),104⟩) (by exact Zc ⟨jL,Za⟩ ⟨.inl R,Za⟩ nL) ?_
   refine aR (sQ R (fB R YDA iL fR R) (sQ R (Zb (a:=qb g1.Merges) R YFk iL R R) (sQ R (Zz R YEO.slice iL) (sM R R (aZ (hK10 _ ?_))))))
   refine Zp ?_
   refine jc1k h5 fun o1 hit1 hk1 he1=>?_
   have J1 : ∀ (u2:Unit) (i5:Nat→Nat),o1 = .nrm u2→K9 ⟨[],[],(i5 0),104⟩:=by
    intro u2 i5 e
    have h6:=hk1 _ e
    refine hK9 _ ?_
    refine aS fun _ hK11 _=>(aR (sA R R (aZ (hK11 _ ?_))))
    refine Zj ?_
    exact Y1_ h6 iL (.t (.d R))
   refine ZP (fun (x2:Int) i3=>⟨[(1,.ptr 1 n0 0 0),(29,rI ((g1.Merges.length:Int))),(30,rI (x2))],[(1,some (.box n0 43 (k14_ g1)))],(i3 0),104⟩) (vec [(n0+1)]) hit1 ((by exact Zc ⟨jL,jL,jL,Za⟩ ⟨.inl R,Za⟩ nL)) ?_
   intro x2 i3 v1 hv1 hx1
   have h7:YCB g1 x2=some v1:=hv1; unfold YCB at h7
   refine aS fun _ hK12 _=>(aR (sQ R (Zv R iL iL) (aZ (hK12 _ ?_))))
   refine aS fun _ hK13 _=>?_
   refine aC R (fun hc3=>?_) (fun hc3=>?_)
   ·have h8:=Zn hc3 h7
    refine Zk (hK13 _ ?_)
    refine aS fun K14 hK14 wK14=>(Zp (aS fun _ hK15 _=>(aR (sM R R (sA R R (aZ (hK15 _ ?_)))))))
    refine aS fun _ hK16 _=>(aR (sQ R (fB R YDA iL fR R) (sQ R (Zb (a:=qb g1.Merges) R YFk iL R R) (sM R R (Zl h8 fun x4 ex4 h9=>(sQ R (Zx R YEO.slice iL iL (fun _=>R) (fun _=>ex4)) (sQ R (ZG (cs:=(k15_ x4)) R YER iL R R) (Zh R R R (YAi (cs:=[rI (0),rI (0),rI (0),rI (0)]) 5 R YRq R R) (ZN R R (ZF (ds:=(k15_ x4)) R YRk iL R iL R R R R) (aZ (hK16 _ ?_)))))))))))
    refine aS fun _ hK17 _=>(aS fun _ hK18 _=>(aR (sQ R (ZC R YER iL R R) (sQ R (fB R YCj iL fR R) (sQ R (Zb (a:=rI (g1.Rows)) R ts_3 iL R R) (sQ R (fB R YCi iL fR R) (sQ R (Zb (a:=rI (g1.Cols)) R ts_3 iL R R) (Zl h9 fun r3 er3 h10=>(Zh R R R (Zr (r:=rB (r3)) (caps:=[]) (bs:=[.agg (k15_ x4),rI (g1.Rows),rI (g1.Cols)]) R iL R ⟨⟨_,iL,.g (cs:=[.int .i64 x4.Row,.int .i64 x4.Col,.int .i64 x4.H,.int .i64 x4.W]) R R⟩,⟨_,iL,.d R⟩,⟨_,iL,.d R⟩,Za⟩ (fun _=>YOI (er3)) R) (sQ R (ZK R iL) (aZ (hK18 _ ?_))))))))))))
    refine aC R (fun hc4=>?_) (fun hc4=>?_)
    ·have h11:=Zn hc4 h10
     refine aS fun _ hK19 _=>?_
     refine Zi (s':=⟨[],[],((i3 0)+1),104⟩) (by exact Zc Za Za nL) ?_
     refine aR (sA R R (aZ (hK19 _ ?_)))
     refine Zj ?_
     exact Y1_ (he1 _ (hx1 _ (Zd h11).symm)) iL (.t (.d R))
    ·have h11:=Zo hc4 h10
     refine Zk (hK17 _ ?_)
     refine aS fun _ hK20 _=>(aS fun _ hK21 _=>?_)
     refine Zi (s':=⟨[(1,.ptr 1 n0 0 0),(4,rI (x2)),(5,.ptr 5 (i3 0) 0 0),(29,rI ((g1.Merges.length:Int))),(30,rI (x2))],[(1,some (.box n0 43 (k14_ g1))),(5,some (.box (i3 0) 211 (k15_ x4)))],((i3 0)+1),104⟩) (by exact Zc ⟨jL,jL,jL,jL,jL,Za⟩ ⟨.inl R,.inl R,Za⟩ nL) ?_
     refine aR (sQ R (fB R YD7 iL fR R) (sQ R (Zb (a:=rI (x4.H)) R ts_3 iL R R) (sQ R (Zs R iL iL) (sM R R (sV R R R (fB R YD6 iL fR R) (sV R R R (Zb (a:=rI (x4.W)) R ts_3 (iR R) R R) (sV R R R (Zs R (iR R) iL) (sQ R (Zq R iL (iR R)) (aZ (hK21 _ ?_))))))))))
     refine aC R (fun hc5=>?_) (fun hc5=>?_)
     ·have h12:=Zn hc5 h11
      refine aS fun _ hK22 _=>?_
      refine Zi (s':=⟨[],[],((i3 0)+1),104⟩) (by exact Zc Za Za nL) ?_
      refine aR (sA R R (aZ (hK22 _ ?_)))
      refine Zj ?_
      exact Y1_ (he1 _ (hx1 _ (Zd h12).symm)) iL (.t (.d R))
     ·have h12:=Zo hc5 h11
      refine Zk (hK20 _ ?_)
      refine aS fun _ hK23 _=>(aS fun _ hK24 _=>?_)
      refine ZS hmix (by kernel_rfl) ?_
      refine Zm R R R (Ze R iL) (Zm R R R (ZR R iL iL) (Zm R R R (Ze R iL) ?_))
      refine Zg (.one R R R) R R (fB R YBC iL fR R) ?_
      refine Zg (.one R R R) R R (Zb (a:=rI (x4.Row)) R ts_3 (iR R) R R) ?_
      refine Zg (.one R R R) R R (fB R YDA iL fR R) ?_
      refine Zg (.one R R R) R R (Zb (a:=qb g1.Merges) R YFk (iR R) R R) ?_
      refine Zg (.one R R R) R R (Ze R iL) ?_
      refine Zl h12 fun x5 ex5 h13=>?_
      refine Zg (.one R R R) R R (YBA R (iR R) iL (gdt ex5)) ?_
      refine Zl h13 fun x6 ex6 h14=>?_
      refine Zg (.one R R R) R R (Zx R YEO.slice (iR R) (iR R) (fun _=>R) (gdt ex6)) ?_
      refine Zg (.one R R R) R R (Zw R YBC (iR R)) ?_
      refine Zg (.one R R R) R R (ZO (d:=.int .i64 x6.Row) R ts_3 (iR R) R) ?_
      refine Zg (.one R R R) R R (Zv R (iR R) (iR R)) ?_
      refine Zg (.one R R R) R R (Ze R (iR R)) ?_
      refine Zg (.two R R R) R R (fB R YBC iL fR R) ?_
      refine Zg (.two R R R) R R (Zb (a:=rI (x4.Row)) R ts_3 (iR R) R R) ?_
      refine Zg (.two R R R) R R (fB R YDA iL fR R) ?_
      refine Zg (.two R R R) R R (Zb (a:=qb g1.Merges) R YFk (iR R) R R) ?_
      refine Zg (.two R R R) R R (Ze R iL) ?_
      refine Zg (.two R R R) R R (YBA R (iR R) iL (fun h=>gdt ex5 (Bool.and_eq_true_iff.1 h).1)) ?_
      refine Zg (.two R R R) R R (Zx R YEO.slice (iR R) (iR R) (fun _=>R) (fun h=>gdt ex6 (Bool.and_eq_true_iff.1 h).1)) ?_
      refine Zg (.two R R R) R R (Zw R YBC (iR R)) ?_
      refine Zg (.two R R R) R R (ZO (d:=.int .i64 x6.Row) R ts_3 (iR R) R) ?_
      refine Zg (.two R R R) R R (Zs R (iR R) (iR R)) ?_
      refine Zg (.two R R R) R R (Ze R (iR R)) ?_
      refine Zg (.two R R R) R R (fB R YBZ iL fR R) ?_
      refine Zg (.two R R R) R R (Zb (a:=rI (x4.Col)) R ts_3 (iR R) R R) ?_
      refine Zg (.two R R R) R R (fB R YDA iL fR R) ?_
      refine Zg (.two R R R) R R (Zb (a:=qb g1.Merges) R YFk (iR R) R R) ?_
      refine Zg (.two R R R) R R (Ze R iL) ?_
      refine Zl h14 fun x7 ex7 h15=>?_
      refine Zg (.two R R R) R R (YBA R (iR R) iL (gdt ex7)) ?_
      refine Zl h15 fun x8 ex8 h16=>?_
      refine Zg (.two R R R) R R (Zx R YEO.slice (iR R) (iR R) (fun _=>R) (gdt ex8)) ?_
      refine Zg (.two R R R) R R (Zw R YBZ (iR R)) ?_
      refine Zg (.two R R R) R R (ZO (d:=.int .i64 x8.Col) R ts_3 (iR R) R) ?_
      refine Zg (.two R R R) R R (YET R (iR R) (iR R)) ?_
      refine Zg (.two R R R) R R (Zq R (iR R) (iR R)) ?_
      refine Zg (.one R R R) R R (Zy R (iR R) (iR R)) ?_
      refine Zm R R R (Zq R iL (iR R)) ?_
      refine AQ.nil ?_
      refine hK24 _ ?_
      refine aC R (fun hc6=>?_) (fun hc6=>?_)
      ·have h17:=Zn hc6 h16
       refine aS fun _ hK25 _=>?_
       refine Zi (s':=⟨[],[],((i3 0)+1),104⟩) (by exact Zc Za Za nL) ?_
       refine aR (sA R R (aZ (hK25 _ ?_)))
       refine Zj ?_
       exact Y1_ (he1 _ (hx1 _ (Zd h17).symm)) iL (.t (.d R))
      ·have h17:=Zo hc6 h16
       refine Zk (hK23 _ ?_)
       refine aS fun _ hK26 _=>?_
       refine Zi (s':=⟨[(1,.ptr 1 n0 0 0),(4,rI (x2)),(5,.ptr 5 (i3 0) 0 0),(29,rI ((g1.Merges.length:Int))),(30,rI (x2))],[(1,some (.box n0 43 (k14_ g1))),(5,some (.box (i3 0) 211 (k15_ x4)))],((i3 0)+1),104⟩) (by exact Zc ⟨jL,jL,jL,jL,jL,Za⟩ ⟨.inl R,.inl R,Za⟩ nL) ?_
       refine aR (sM R R (sM R R (aZ (hK26 _ ?_))))
       refine Zp ?_
       refine jc1k h17 fun o2 hit2 hk2 he2=>?_
       have J2 : ∀ (u4:Unit) (i10:Nat→Nat),o2 = .nrm u4→K14 ⟨[(1,.ptr 1 n0 0 0),(29,rI ((g1.Merges.length:Int))),(30,rI (x2))],[(1,some (.box n0 43 (k14_ g1)))],(i10 0),104⟩:=by
        intro u4 i10 e
        have h18:=hk2 _ e
        refine hK14 _ ?_
        refine aR (Zl h18 fun x12 ex12 h19=>(sQ R (ZI R iL iL (fun _=>ex12)) (sM R R ?_)))
        refine Zt ?_
        exact ZJ h19 (vec [(i10 0)]) ((by exact Zc ⟨jL,jL,jL,Za⟩ ⟨.inl R,Za⟩ nL))
       refine ZP (fun (x10:Int) i8=>⟨[(1,.ptr 1 n0 0 0),(5,.ptr 5 (i3 0) 0 0),(29,rI ((g1.Merges.length:Int))),(30,rI (x2)),(91,rI (x2)),(92,rI (x10))],[(1,some (.box n0 43 (k14_ g1))),(5,some (.box (i3 0) 211 (k15_ x4)))],(i8 0),104⟩) (vec [((i3 0)+1)]) hit2 ((by exact Zc ⟨jL,jL,jL,jL,jL,jL,Za⟩ ⟨.inl R,.inl R,Za⟩ nL)) ?_
       intro x10 i8 v2 hv2 hx2
       have h20:YCA g1 x2 x4 x10=some v2:=hv2; unfold YCA at h20
       refine aS fun _ hK27 _=>(aR (sQ R (Zv R iL iL) (aZ (hK27 _ ?_))))
       refine aS fun _ hK28 _=>?_
       refine aC R (fun hc7=>?_) (fun hc7=>?_)
       ·have h21:=Zn hc7 h20
        refine Zk (hK28 _ ?_)
        refine aS fun _ hK29 _=>(Zp (aS fun _ hK30 _=>(aR (sM R R (sA R R (aZ (hK30 _ ?_)))))))
        refine aS fun _ hK31 _=>?_
        refine ZS hmix (by kernel_rfl) ?_
        refine Zm R R R (ZC R YER iL R R) (Zm R R R (fB R YDA iL fR R) (Zm R R R (Zb (a:=qb g1.Merges) R YFk iL R R) (Zm R R R (Ze R iL) (Zl h21 fun x13 ex13 h22=>(Zm R R R (Zx R YEO.slice iL iL (fun _=>R) (fun _=>ex13)) (Zm R R R (ZG (cs:=(k15_ x13)) R YER iL R R) (Zl h22 fun r4 er4 h23=>?_)))))))
        refine AQ.stepC R R R (r:=rB (r4)) (caps:=[]) (bs:=[.agg (k15_ x4),.agg (k15_ x13)]) R iL R ⟨⟨_,iL,.g (cs:=[.int .i64 x4.Row,.int .i64 x4.Col,.int .i64 x4.H,.int .i64 x4.W]) R R⟩,⟨_,iL,.g (cs:=[.int .i64 x13.Row,.int .i64 x13.Col,.int .i64 x13.H,.int .i64 x13.W]) R R⟩,Za⟩ (fun _=>YMh (er4)) R ?_
        refine AQ.nil ?_
        refine hK31 _ ?_
        refine aC R (fun hc8=>?_) (fun hc8=>?_)
        ·have h24:=Zn hc8 h23
         refine aS fun _ hK32 _=>?_
         refine Zi (s':=⟨[],[],(i8 0),104⟩) (by exact Zc Za Za nL) ?_
         refine aR (sA R R (aZ (hK32 _ ?_)))
         refine Zj ?_
         exact Y1_ (he1 _ (hx1 _ (Zd (he2 _ (hx2 _ (Zd h24).symm))).symm)) iL (.t (.d R))
        ·have h24:=Zo hc8 h23
         refine Zk (hK29 _ ?_)
         refine Zi (s':=⟨[(1,.ptr 1 n0 0 0),(5,.ptr 5 (i3 0) 0 0),(29,rI ((g1.Merges.length:Int))),(30,rI (x2)),(91,rI (x2)),(92,rI (x10))],[(1,some (.box n0 43 (k14_ g1))),(5,some (.box (i3 0) 211 (k15_ x4)))],(i8 0),104⟩) (by exact Zc ⟨jL,jL,jL,jL,jL,jL,Za⟩ ⟨.inl R,.inl R,Za⟩ nL) ?_
         refine aR (Zl h24 fun x14 ex14 h25=>(sQ R (ZI R iL iL (fun _=>ex14)) (sM R R ?_)))
         refine Zt ?_
         exact ZJ h25 (vec [(i8 0)]) ((by exact Zc ⟨jL,jL,jL,jL,jL,jL,Za⟩ ⟨.inl R,.inl R,Za⟩ nL))
       ·have h21:=Zo hc7 h20
        refine ZL ?_
        exact wK14 _ _ ((by exact Zc ⟨jL,jL,jL,Za⟩ ⟨.inl R,Za⟩ nL)) (J2 _ (vec [(i8 0)]) (hx2 _ (Zd h21).symm))
   ·have h8:=Zo hc3 h7
    refine ZL ?_
    exact wK9 _ _ ((by exact Zc Za Za nL)) (J1 _ (vec [(i3 0)]) (hx1 _ (Zd h8).symm))
theorem YIn {kind1:Int} {l1:List YAL} {r:Int} (h:YDO kind1 l1=some r):ARO Tryz.prog 126 [rI (kind1),qc l1] (rI (r)):=by
 unfold YDO at h
 refine Zu Tryz.func126 R R Tryz.ntmps126 R (Zf R) fun n0=>?_
 refine aS fun _ hK1 _=>(aR (sA R R (aZ (hK1 _ ?_))))
 refine aS fun K2 hK2 wK2=>(aS fun _ hK3 _=>(aR (sM R R (sQ R (Zz R YB2.slice iL) (sM R R (aZ (hK3 _ ?_)))))))
 refine Zp ?_
 refine jc1k h fun o1 hit1 hk1 he1=>?_
 have J1 : ∀ (u2:Unit) (i5:Nat→Nat),o1 = .nrm u2→K2 ⟨[],[],(i5 0),43⟩:=by
  intro u2 i5 e
  have h1:=hk1 _ e
  refine hK2 _ ?_
  refine aS fun _ hK4 _=>(aR (sA R R (aZ (hK4 _ ?_))))
  refine Zj ?_
  exact Y1_ h1 iL (.t (.d R))
 refine ZP (fun (x2:Int) i3=>⟨[(0,rI (kind1)),(1,qc l1),(7,rI ((l1.length:Int))),(8,rI (x2))],[],(i3 0),43⟩) (vec [n0]) hit1 ((by exact Zc ⟨jL,jL,jL,jL,Za⟩ Za nL)) ?_
 intro x2 i3 v1 hv1 hx1
 have h2:YCD kind1 l1 x2=some v1:=hv1; unfold YCD at h2
 refine aS fun _ hK5 _=>(aR (sQ R (Zv R iL iL) (aZ (hK5 _ ?_))))
 refine aS fun _ hK6 _=>?_
 refine aC R (fun hc1=>?_) (fun hc1=>?_)
 ·have h3:=Zn hc1 h2
  refine Zk (hK6 _ ?_)
  refine aS fun _ hK7 _=>(Zp (aS fun _ hK8 _=>(aR (sM R R (sA R R (aZ (hK8 _ ?_)))))))
  refine aS fun _ hK9 _=>(aR (sM R R (sQ R (Zs R iL iL) (sM R R (sV R R R (Ze R iL) (sV R R R (Ze R iL) (Zl h3 fun x4 ex4 h4=>(sV R R R (Zx R YB2.slice (iR R) (iR R) (fun _=>R) (gdt ex4)) (sV R R R (Zw R YDq (iR R)) (sV R R R (ZO (d:=.str x4.Text) R ts_9 (iR R) R) (sV R R R (YDC R (iR R) iL) (sV R R R (Ze R (iR R)) ?_))))))))))))
  refine sW (.two R R R) R (Ze R iL) ?_
  refine sW (.two R R R) R (Ze R iL) ?_
  refine sW (.two R R R) R (Zx R YB2.slice (iR R) (iR R) (fun _=>R) (fun h=>gdt ex4 (Bool.and_eq_true_iff.1 h).1)) ?_
  refine sW (.two R R R) R (Zw R YDp (iR R)) ?_
  refine sW (.two R R R) R (ZO (d:=.sl (x4.Attrs.map YAT.row)) R YEm (iR R) R) ?_
  refine sW (.two R R R) R (Zz R YEP.slice (iR R)) ?_
  refine sW (.two R R R) R (ZR R (iR R) iL) ?_
  refine sV R R R (Zy R (iR R) (iR R)) (sQ R (Zq R iL (iR R)) (sM R R (sV R R R (Ze R iL) (sV R R R (Zs R (iR R) iL) (sV R R R (Ze R (iR R)) ?_)))))
  refine sW (.two R R R) R (Ze R iL) ?_
  refine sW (.two R R R) R (Ze R iL) ?_
  refine Zl h4 fun x5 ex5 h5=>?_
  refine sW (.two R R R) R (Zx R YB2.slice (iR R) (iR R) (fun _=>R) (gdt ex5)) ?_
  refine sW (.two R R R) R (Zw R YBa (iR R)) ?_
  refine sW (.two R R R) R (ZO (d:=.int .i64 x5.Ref) R ts_3 (iR R) R) ?_
  refine sW (.two R R R) R (ZD R (iR R) iL) ?_
  refine sV R R R (Zq R (iR R) (iR R)) (sQ R (Zy R iL (iR R)) (aZ (hK9 _ ?_)))
  refine aC R (fun hc2=>?_) (fun hc2=>?_)
  ·have h6:=Zn hc2 h5
   refine aS fun _ hK10 _=>?_
   refine Zi (s':=⟨[],[],(i3 0),43⟩) (by exact Zc Za Za nL) ?_
   refine aR (sA R R (aZ (hK10 _ ?_)))
   refine Zj ?_
   exact Y1_ (he1 _ (hx1 _ (Zd h6).symm)) iL (.t (.d R))
  ·have h6:=Zo hc2 h5
   refine Zk (hK7 _ ?_)
   refine Zi (s':=⟨[(0,rI (kind1)),(1,qc l1),(7,rI ((l1.length:Int))),(8,rI (x2))],[],(i3 0),43⟩) (by exact Zc ⟨jL,jL,jL,jL,Za⟩ Za nL) ?_
   refine aR (Zl h6 fun x6 ex6 h7=>(sQ R (ZI R iL iL (fun _=>ex6)) (sM R R ?_)))
   refine Zt ?_
   exact ZJ h7 (vec [(i3 0)]) ((by exact Zc ⟨jL,jL,jL,jL,Za⟩ Za nL))
 ·have h3:=Zo hc1 h2
  refine ZL ?_
  exact wK2 _ _ ((by exact Zc Za Za nL)) (J1 _ (vec [(i3 0)]) (hx1 _ (Zd h3).symm))
theorem YMi {s1:List UInt8} {r:Bool} (h:YF5 s1=some r):ARO Tryz.prog 162 [.r (.str s1)] (rB (r)):=by
 unfold YF5 at h
 refine Zu Tryz.func162 R R Tryz.ntmps162 R (Zf R) fun n0=>?_
 refine aS fun _ hK1 _=>(aR (sA R R (aZ (hK1 _ ?_))))
 refine aS fun K2 hK2 wK2=>(aS fun _ hK3 _=>(aR (sM R R (sQ R (YAm R Tryz.underlying9 iL) (sM R R (aZ (hK3 _ ?_)))))))
 refine Zp ?_
 refine jc1k h fun o1 hit1 hk1 he1=>?_
 have J1 : ∀ (u2:Unit) (i5:Nat→Nat),o1 = .nrm u2→K2 ⟨[(0,.r (.str s1))],[],(i5 0),36⟩:=by
  intro u2 i5 e
  have h1:=hk1 _ e
  refine hK2 _ ?_
  refine aS fun _ hK4 _=>(aR (sM R R (sQ R (YAm R Tryz.underlying9 iL) (sQ R (YCg R iL iL) (sM R R (sV R R R (Ze R iL) (sV R R R (YAm R Tryz.underlying9 (iR R)) (sV R R R (YET R (iR R) iL) (sQ R (Zq R iL (iR R)) (sM R R (sV R R R (Ze R iL) (sV R R R (Ze R iL) (sV R R R (YAm R Tryz.underlying9 (iR R)) (Zl h1 fun x4 ex4 h2=>(sV R R R (YBA R (iR R) iL (gdt ex4)) (Zl h2 fun ch1 ech1 h3=>(sV R R R (ZT R Tryz.underlying9 (iR R) (iR R) (gdt ech1)) (sV R R R (ZD R (iR R) iL) (sQ R (Zq R iL (iR R)) (sA R R (aZ (hK4 _ ?_))))))))))))))))))))))
  refine Zj ?_
  exact Y2_ h3 iL (.t (.d R))
 refine ZP (fun (x2:Int) i3=>⟨[(0,.r (.str s1)),(5,rI ((s1.length:Int))),(6,rI (x2))],[],(i3 0),36⟩) (vec [n0]) hit1 ((by exact Zc ⟨jL,jL,jL,Za⟩ Za nL)) ?_
 intro x2 i3 v1 hv1 hx1
 have h4:YCQ s1 x2=some v1:=hv1; unfold YCQ at h4
 refine aS fun _ hK5 _=>(aR (sQ R (Zv R iL iL) (aZ (hK5 _ ?_))))
 refine aS fun _ hK6 _=>?_
 refine aC R (fun hc1=>?_) (fun hc1=>?_)
 ·have h5:=Zn hc1 h4
  refine Zk (hK6 _ ?_)
  refine aS fun _ hK7 _=>(Zp (aS fun _ hK8 _=>(aR (sM R R (sA R R (aZ (hK8 _ ?_)))))))
  refine aS fun _ hK9 _=>(aR (sM R R (sM R R (Zl h5 fun ch2 ech2 h6=>(sQ R (ZT R Tryz.underlying9 iL iL (fun _=>ech2)) (sQ R (Zv R iL iL) (sM R R (sV R R R (Ze R iL) (sV R R R (Ze R iL) (sV R R R (ZT R Tryz.underlying9 (iR R) (iR R) (fun _=>ech2)) (sV R R R (ZR R (iR R) iL) (sQ R (Zy R iL (iR R)) (aZ (hK9 _ ?_))))))))))))))
  refine aC R (fun hc2=>?_) (fun hc2=>?_)
  ·have h7:=Zn hc2 h6
   refine aS fun _ hK10 _=>?_
   refine Zi (s':=⟨[],[],(i3 0),36⟩) (by exact Zc Za Za nL) ?_
   refine aR (sA R R (aZ (hK10 _ ?_)))
   refine Zj ?_
   exact Y2_ (he1 _ (hx1 _ (Zd h7).symm)) iL (.t (.d R))
  ·have h7:=Zo hc2 h6
   refine Zk (hK7 _ ?_)
   refine Zi (s':=⟨[(0,.r (.str s1)),(5,rI ((s1.length:Int))),(6,rI (x2))],[],(i3 0),36⟩) (by exact Zc ⟨jL,jL,jL,Za⟩ Za nL) ?_
   refine aR (Zl h7 fun x5 ex5 h8=>(sQ R (ZI R iL iL (fun _=>ex5)) (sM R R ?_)))
   refine Zt ?_
   exact ZJ h8 (vec [(i3 0)]) ((by exact Zc ⟨jL,jL,jL,Za⟩ Za nL))
 ·have h5:=Zo hc1 h4
  refine ZL ?_
  exact wK2 _ _ ((by exact Zc ⟨jL,Za⟩ Za nL)) (J1 _ (vec [(i3 0)]) (hx1 _ (Zd h5).symm))
theorem YKe {a1:YAI} {b1:YAI} {r:Bool} (h:YDj a1 b1=some r):ARO Tryz.prog 163 [.agg (k7_ a1),.agg (k7_ b1)] (rB (r)):=by
 unfold YDj at h
 refine Zu Tryz.func163 R R Tryz.ntmps163 R (Zf R) fun n0=>?_
 refine aS fun _ hK1 _=>(aR (Zh R R R (ZM (cs:=(k7_ a1)) 2 R iL R R) (Zh R R R (ZM (cs:=(k7_ b1)) 3 R iL R R) (sA R R (aZ (hK1 _ ?_))))))
 refine aS fun _ hK2 _=>(aR (sQ R (fB R YD8 iL fR R) (sQ R (Zb (a:=rI (a1.Clock)) R ts_3 iL R R) (sQ R (fB R YD8 iL fR R) (sQ R (Zb (a:=rI (b1.Clock)) R ts_3 iL R R) (sQ R (Zv R iL iL) (sM R R (sV R R R (fB R YD8 iL fR R) (sV R R R (Zb (a:=rI (a1.Clock)) R ts_3 (iR R) R R) (sV R R R (fB R YD8 iL fR R) (sV R R R (Zb (a:=rI (b1.Clock)) R ts_3 (iR R) R R) (sV R R R (Zs R (iR R) (iR R)) (sV R R R (Ze R (iR R)) ?_)))))))))))))
 refine sW (.two R R R) R (fB R YFN iL fR R) ?_
 refine sW (.two R R R) R (Zb (a:=rI (a1.Site)) R ts_3 (iR R) R R) ?_
 refine sW (.two R R R) R (fB R YFN iL fR R) ?_
 refine sW (.two R R R) R (Zb (a:=rI (b1.Site)) R ts_3 (iR R) R R) ?_
 refine sW (.two R R R) R (Zv R (iR R) (iR R)) ?_
 refine sV R R R (Zq R (iR R) (iR R)) (sQ R (Zy R iL (iR R)) (sA R R (aZ (hK2 _ ?_))))
 refine Zj ?_
 exact Y2_ h iL (.t (.d R))
theorem YIm {l1:List YAI} {r:Int} (h:YDN l1=some r):ARO Tryz.prog 113 [qd l1] (rI (r)):=by
 unfold YDN at h
 refine Zu Tryz.func113 R R Tryz.ntmps113 R (Zf R) fun n0=>?_
 refine aS fun _ hK1 _=>(aR (sA R R (aZ (hK1 _ ?_))))
 refine aS fun K2 hK2 wK2=>(aS fun _ hK3 _=>(aR (sM R R (sQ R (Zz R YGi.slice iL) (sM R R (aZ (hK3 _ ?_)))))))
 refine Zp ?_
 refine jc1k h fun o1 hit1 hk1 he1=>?_
 have J1 : ∀ (u2:Unit) (i5:Nat→Nat),o1 = .nrm u2→K2 ⟨[],[],(i5 0),91⟩:=by
  intro u2 i5 e
  have h1:=hk1 _ e
  refine hK2 _ ?_
  refine aS fun _ hK4 _=>(aR (sA R R (aZ (hK4 _ ?_))))
  refine Zj ?_
  exact Y1_ h1 iL (.t (.d R))
 refine ZP (fun (x2:Int) i3=>⟨[(0,qd l1),(6,rI ((l1.length:Int))),(7,rI (x2))],[],(i3 0),91⟩) (vec [n0]) hit1 ((by exact Zc ⟨jL,jL,jL,Za⟩ Za nL)) ?_
 intro x2 i3 v1 hv1 hx1
 have h2:YCC l1 x2=some v1:=hv1; unfold YCC at h2
 refine aS fun _ hK5 _=>(aR (sQ R (Zv R iL iL) (aZ (hK5 _ ?_))))
 refine aS fun _ hK6 _=>?_
 refine aC R (fun hc1=>?_) (fun hc1=>?_)
 ·have h3:=Zn hc1 h2
  refine Zk (hK6 _ ?_)
  refine aS fun _ hK7 _=>(Zp (aS fun _ hK8 _=>(aR (sM R R (sA R R (aZ (hK8 _ ?_)))))))
  refine aS fun _ hK9 _=>(aR (sM R R (sM R R (Zl h3 fun x4 ex4 h4=>(sQ R (Zx R YGi.slice iL iL (fun _=>R) (fun _=>ex4)) (sQ R (ZG (cs:=(k7_ x4)) R YG3 iL R R) (Zh R R R (YAi (cs:=[rI (0),rI (0),rI (0),rI (0),rI (0),.r (.str []),.r (.str []),.r (.str [])]) 4 R YRr R R) (ZN R R (ZF (ds:=(k7_ x4)) R YRl iL R iL R R R R) (aZ (hK9 _ ?_))))))))))
  refine aS fun _ hK10 _=>(aS fun _ hK11 _=>(aR (sQ R (fB R YDB iL fR R) (sQ R (Zb (a:=rI (x4.Kind)) R ts_3 iL R R) (sQ R (ZD R iL iL) (sM R R (sV R R R (fB R YDB iL fR R) (sV R R R (Zb (a:=rI (x4.Kind)) R ts_3 (iR R) R R) (sV R R R (ZD R (iR R) iL) (sQ R (Zq R iL (iR R)) (aZ (hK11 _ ?_))))))))))))
  refine aC R (fun hc2=>?_) (fun hc2=>?_)
  ·have h5:=Zn hc2 h4
   refine aS fun _ hK12 _=>?_
   refine Zi (s':=⟨[],[],((i3 0)+1),91⟩) (by exact Zc Za Za nL) ?_
   refine aR (sA R R (aZ (hK12 _ ?_)))
   refine Zj ?_
   exact Y1_ (he1 _ (hx1 _ (Zd h5).symm)) iL (.t (.d R))
  ·have h5:=Zo hc2 h4
   refine Zk (hK10 _ ?_)
   refine aS fun _ hK13 _=>(aS fun _ hK14 _=>?_)
   refine Zi (s':=⟨[(0,qd l1),(3,rI (x2)),(4,.ptr 4 (i3 0) 0 0),(6,rI ((l1.length:Int))),(7,rI (x2))],[(4,some (.box (i3 0) 176 (k7_ x4)))],((i3 0)+1),91⟩) (by exact Zc ⟨jL,jL,jL,jL,jL,Za⟩ ⟨.inl R,Za⟩ nL) ?_
   refine aR (sQ R (fB R YD8 iL fR R) (sQ R (Zb (a:=rI (x4.Clock)) R ts_3 iL R R) (Zl h5 fun r1 er1 h6=>(Zh R R R (Zr (r:=rB (r1)) (caps:=[]) (bs:=[rI (x4.Clock),rI (1),rI (1073741824)]) R iL R ⟨⟨_,iL,.d R⟩,⟨_,iL,.d R⟩,⟨_,iL,.d R⟩,Za⟩ (fun _=>YBB (er1)) R) (sQ R (ZK R iL) (sM R R (sV R R R (fB R YFN iL fR R) (sV R R R (Zb (a:=rI (x4.Site)) R ts_3 (iR R) R R) (Zl h6 fun r2 er2 h7=>?_)))))))))
   refine ZA (.one R R R) R R (Zr (r:=rB (r2)) (caps:=[]) (bs:=[rI (x4.Site),rI (0),rI (1000)]) R iL R ⟨⟨_,(iR R),.d R⟩,⟨_,iL,.d R⟩,⟨_,iL,.d R⟩,Za⟩ (fun hg=>YBB (gdt er2 hg)) R) ?_
   refine sV R R R (ZK R (iR R)) (sQ R (Zy R iL (iR R)) (sM R R (sV R R R (fB R YKn iL fR R) (sV R R R (Zb (a:=rI (x4.Item)) R ts_3 (iR R) R R) (Zl h7 fun r3 er3 h8=>?_)))))
   refine ZA (.one R R R) R R (Zr (r:=rB (r3)) (caps:=[]) (bs:=[rI (x4.Item),rI (1),rI (1073741824)]) R iL R ⟨⟨_,(iR R),.d R⟩,⟨_,iL,.d R⟩,⟨_,iL,.d R⟩,Za⟩ (fun hg=>YBB (gdt er3 hg)) R) ?_
   refine sV R R R (ZK R (iR R)) (sQ R (Zy R iL (iR R)) (aZ (hK14 _ ?_)))
   refine aC R (fun hc3=>?_) (fun hc3=>?_)
   ·have h9:=Zn hc3 h8
    refine aS fun _ hK15 _=>?_
    refine Zi (s':=⟨[],[],((i3 0)+1),91⟩) (by exact Zc Za Za nL) ?_
    refine aR (sA R R (aZ (hK15 _ ?_)))
    refine Zj ?_
    exact Y1_ (he1 _ (hx1 _ (Zd h9).symm)) iL (.t (.d R))
   ·have h9:=Zo hc3 h8
    refine Zk (hK13 _ ?_)
    refine aS fun K16 hK16 wK16=>(aS fun _ hK17 _=>(aR (sQ R (fB R YDB iL fR R) (sQ R (Zb (a:=rI (x4.Kind)) R ts_3 iL R R) (sQ R (Zs R iL iL) (aZ (hK17 _ ?_)))))))
    refine jc1k h9 fun p1 hp1 hk2 he2=>?_
    have J2 : ∀ (u3:Unit) (i6:Nat→Nat),p1 = .nrm u3→K16 ⟨[(0,qd l1),(3,rI (x2)),(4,.ptr 4 (i3 0) 0 0),(6,rI ((l1.length:Int))),(7,rI (x2))],[(4,some (.box (i3 0) 176 (k7_ x4)))],(i6 0),91⟩:=by
     intro u3 i6 e
     have h10:=hk2 _ e
     refine hK16 _ ?_
     refine aS fun _ hK18 _=>?_
     refine ZS hmix (by kernel_rfl) ?_
     refine Zm R R R (Ze R iL) (Zm R R R (ZR R iL iL) (Zm R R R (Ze R iL) ?_))
     refine Zg (.one R R R) R R (Ze R iL) ?_
     refine Zg (.one R R R) R R (Ze R iL) ?_
     refine Zl h10 fun x5 ex5 h11=>?_
     refine Zg (.one R R R) R R (YBA R (iR R) iL (gdt ex5)) ?_
     refine Zl h11 fun x6 ex6 h12=>?_
     refine Zg (.one R R R) R R (Zx R YGi.slice (iR R) (iR R) (fun _=>R) (gdt ex6)) ?_
     refine Zg (.one R R R) R R (ZG (cs:=(k7_ x6)) R YG3 (iR R) R R) ?_
     refine Zg (.one R R R) R R (ZC R YG3 iL R R) ?_
     refine Zl h12 fun r4 er4 h13=>?_
     refine AQ.stepWC (.one R R R) R R (r:=rB (r4)) (caps:=[]) (bs:=[.agg (k7_ x6),.agg (k7_ x4)]) R iL R ⟨⟨_,(iR R),.g (cs:=[.int .i64 x6.Clock,.int .i64 x6.Site,.int .i64 x6.Kind,.int .i64 x6.Item,.int .i64 x6.Parent,.str x6.Place,.str x6.Name,.str x6.Value]) R R⟩,⟨_,(iR R),.g (cs:=[.int .i64 x4.Clock,.int .i64 x4.Site,.int .i64 x4.Kind,.int .i64 x4.Item,.int .i64 x4.Parent,.str x4.Place,.str x4.Name,.str x4.Value]) R R⟩,Za⟩ (fun hg=>YKe (gdt er4 hg)) R ?_
     refine Zg (.one R R R) R R (ZK R (iR R)) ?_
     refine Zm R R R (Zq R iL (iR R)) ?_
     refine AQ.nil ?_
     refine hK18 _ ?_
     refine aC R (fun hc4=>?_) (fun hc4=>?_)
     ·have h14:=Zn hc4 h13
      refine aS fun _ hK19 _=>?_
      refine Zi (s':=⟨[],[],(i6 0),91⟩) (by exact Zc Za Za nL) ?_
      refine aR (sA R R (aZ (hK19 _ ?_)))
      refine Zj ?_
      exact Y1_ (he1 _ (hx1 _ (Zd h14).symm)) iL (.t (.d R))
     ·have h14:=Zo hc4 h13
      refine Zk (hK7 _ ?_)
      refine aR (Zl h14 fun x7 ex7 h15=>(sQ R (ZI R iL iL (fun _=>ex7)) (sM R R ?_)))
      refine Zt ?_
      exact ZJ h15 (vec [(i6 0)]) ((by exact Zc ⟨jL,jL,jL,Za⟩ Za nL))
    refine aC R (fun hc5=>?_) (fun hc5=>?_)
    ·have h16:=Zn hc5 hp1
     refine aS fun _ hK20 _=>(aS fun _ hK21 _=>?_)
     refine Zi (s':=⟨[(0,qd l1),(3,rI (x2)),(4,.ptr 4 (i3 0) 0 0),(6,rI ((l1.length:Int))),(7,rI (x2))],[(4,some (.box (i3 0) 176 (k7_ x4)))],((i3 0)+1),91⟩) (by exact Zc ⟨jL,jL,jL,jL,jL,Za⟩ ⟨.inl R,Za⟩ nL) ?_
     refine aR (sQ R (fB R YIO iL fR R) (sQ R (Zb (a:=.r (.str x4.Name)) R ts_9 iL R R) (sQ R (YDC R iL iL) (sM R R (sV R R R (fB R YGK iL fR R) (sV R R R (Zb (a:=.r (.str x4.Value)) R ts_9 (iR R) R R) (sV R R R (YDC R (iR R) iL) (sQ R (Zy R iL (iR R)) (aZ (hK21 _ ?_))))))))))
     refine aC R (fun hc6=>?_) (fun hc6=>?_)
     ·have h17:=Zn hc6 h16
      refine aS fun _ hK22 _=>?_
      refine Zi (s':=⟨[],[],((i3 0)+1),91⟩) (by exact Zc Za Za nL) ?_
      refine aR (sA R R (aZ (hK22 _ ?_)))
      refine Zj ?_
      exact Y1_ (he1 _ (hx1 _ (Zd (he2 _ (Zd h17).symm)).symm)) iL (.t (.d R))
     ·have h17:=Zo hc6 h16
      refine Zk (hK20 _ ?_)
      refine aS fun _ hK23 _=>(aS fun _ hK24 _=>(aR (sQ R (fB R YG0 iL fR R) (sQ R (Zb (a:=rI (x4.Parent)) R ts_3 iL R R) (Zl h17 fun r5 er5 h18=>(Zh R R R (Zr (r:=rB (r5)) (caps:=[]) (bs:=[rI (x4.Parent),rI ((-1)),rI (1073741824)]) R iL R ⟨⟨_,iL,.d R⟩,⟨_,iL,.d R⟩,⟨_,iL,.d R⟩,Za⟩ (fun _=>YBB (er5)) R) (sQ R (ZK R iL) (aZ (hK24 _ ?_)))))))))
      refine aC R (fun hc7=>?_) (fun hc7=>?_)
      ·have h19:=Zn hc7 h18
       refine aS fun _ hK25 _=>?_
       refine Zi (s':=⟨[],[],((i3 0)+1),91⟩) (by exact Zc Za Za nL) ?_
       refine aR (sA R R (aZ (hK25 _ ?_)))
       refine Zj ?_
       exact Y1_ (he1 _ (hx1 _ (Zd (he2 _ (Zd h19).symm)).symm)) iL (.t (.d R))
      ·have h19:=Zo hc7 h18
       refine Zk (hK23 _ ?_)
       refine aS fun _ hK26 _=>?_
       refine Zi (s':=⟨[(0,qd l1),(3,rI (x2)),(4,.ptr 4 (i3 0) 0 0),(6,rI ((l1.length:Int))),(7,rI (x2))],[(4,some (.box (i3 0) 176 (k7_ x4)))],((i3 0)+1),91⟩) (by exact Zc ⟨jL,jL,jL,jL,jL,Za⟩ ⟨.inl R,Za⟩ nL) ?_
       refine aR (sQ R (fB R YIP iL fR R) (sQ R (Zb (a:=.r (.str x4.Place)) R ts_9 iL R R) (Zl h19 fun r6 er6 h20=>(Zh R R R (Zr (r:=rB (r6)) (caps:=[]) (bs:=[.r (.str x4.Place)]) R iL R ⟨⟨_,iL,.d R⟩,Za⟩ (fun _=>YMi (er6)) R) (sQ R (ZK R iL) (aZ (hK26 _ ?_)))))))
       refine aC R (fun hc8=>?_) (fun hc8=>?_)
       ·have h21:=Zn hc8 h20
        refine aS fun _ hK27 _=>?_
        refine Zi (s':=⟨[],[],((i3 0)+1),91⟩) (by exact Zc Za Za nL) ?_
        refine aR (sA R R (aZ (hK27 _ ?_)))
        refine Zj ?_
        exact Y1_ (he1 _ (hx1 _ (Zd (he2 _ (Zd h21).symm)).symm)) iL (.t (.d R))
       ·have h21:=Zo hc8 h20
        refine Zk ?_
        exact wK16 _ _ ((by exact Zc ⟨jL,jL,jL,jL,jL,Za⟩ ⟨.inl R,Za⟩ nL)) (J2 _ (vec [((i3 0)+1)]) (Zd h21).symm)
    ·have h16:=Zo hc5 hp1
     refine aS fun _ hK28 _=>(aS fun _ hK29 _=>?_)
     refine Zi (s':=⟨[(0,qd l1),(3,rI (x2)),(4,.ptr 4 (i3 0) 0 0),(6,rI ((l1.length:Int))),(7,rI (x2))],[(4,some (.box (i3 0) 176 (k7_ x4)))],((i3 0)+1),91⟩) (by exact Zc ⟨jL,jL,jL,jL,jL,Za⟩ ⟨.inl R,Za⟩ nL) ?_
     refine aR (sQ R (fB R YG0 iL fR R) (sQ R (Zb (a:=rI (x4.Parent)) R ts_3 iL R R) (sQ R (ZD R iL iL) (sM R R (sV R R R (fB R YIP iL fR R) (sV R R R (Zb (a:=.r (.str x4.Place)) R ts_9 (iR R) R R) (sV R R R (YDC R (iR R) iL) (sQ R (Zy R iL (iR R)) (aZ (hK29 _ ?_))))))))))
     refine aC R (fun hc9=>?_) (fun hc9=>?_)
     ·have h22:=Zn hc9 h16
      refine aS fun _ hK30 _=>?_
      refine Zi (s':=⟨[],[],((i3 0)+1),91⟩) (by exact Zc Za Za nL) ?_
      refine aR (sA R R (aZ (hK30 _ ?_)))
      refine Zj ?_
      exact Y1_ (he1 _ (hx1 _ (Zd (he2 _ (Zd h22).symm)).symm)) iL (.t (.d R))
     ·have h22:=Zo hc9 h16
      refine Zk (hK28 _ ?_)
      refine aS fun _ hK31 _=>(aS fun _ hK32 _=>(aR (sQ R (fB R YIO iL fR R) (sQ R (Zb (a:=.r (.str x4.Name)) R ts_9 iL R R) (Zl h22 fun r7 er7 h23=>(Zh R R R (Zr (r:=rB (r7)) (caps:=[]) (bs:=[.r (.str x4.Name)]) R iL R ⟨⟨_,iL,.d R⟩,Za⟩ (fun _=>YJ8 (er7)) R) (sQ R (ZK R iL) (aZ (hK32 _ ?_)))))))))
      refine aC R (fun hc10=>?_) (fun hc10=>?_)
      ·have h24:=Zn hc10 h23
       refine aS fun _ hK33 _=>?_
       refine Zi (s':=⟨[],[],((i3 0)+1),91⟩) (by exact Zc Za Za nL) ?_
       refine aR (sA R R (aZ (hK33 _ ?_)))
       refine Zj ?_
       exact Y1_ (he1 _ (hx1 _ (Zd (he2 _ (Zd h24).symm)).symm)) iL (.t (.d R))
      ·have h24:=Zo hc10 h23
       refine Zk (hK31 _ ?_)
       refine aS fun _ hK34 _=>?_
       refine Zi (s':=⟨[(0,qd l1),(3,rI (x2)),(4,.ptr 4 (i3 0) 0 0),(6,rI ((l1.length:Int))),(7,rI (x2))],[(4,some (.box (i3 0) 176 (k7_ x4)))],((i3 0)+1),91⟩) (by exact Zc ⟨jL,jL,jL,jL,jL,Za⟩ ⟨.inl R,Za⟩ nL) ?_
       refine aR (sQ R (fB R YGK iL fR R) (sQ R (Zb (a:=.r (.str x4.Value)) R ts_9 iL R R) (sQ R (YDC R iL iL) (sM R R (sV R R R (fB R YGK iL fR R) (sV R R R (Zb (a:=.r (.str x4.Value)) R ts_9 (iR R) R R) (Zl h24 fun r8 er8 h25=>?_)))))))
       refine ZA (.one R R R) R R (Zr (r:=rB (r8)) (caps:=[]) (bs:=[.r (.str x4.Value)]) R iL R ⟨⟨_,(iR R),.d R⟩,Za⟩ (fun hg=>YId (gdt er8 hg)) R) ?_
       refine sV R R R (ZK R (iR R)) (sQ R (Zq R iL (iR R)) (aZ (hK34 _ ?_)))
       refine aC R (fun hc11=>?_) (fun hc11=>?_)
       ·have h26:=Zn hc11 h25
        refine aS fun _ hK35 _=>?_
        refine Zi (s':=⟨[],[],((i3 0)+1),91⟩) (by exact Zc Za Za nL) ?_
        refine aR (sA R R (aZ (hK35 _ ?_)))
        refine Zj ?_
        exact Y1_ (he1 _ (hx1 _ (Zd (he2 _ (Zd h26).symm)).symm)) iL (.t (.d R))
       ·have h26:=Zo hc11 h25
        refine Zk ?_
        exact wK16 _ _ ((by exact Zc ⟨jL,jL,jL,jL,jL,Za⟩ ⟨.inl R,Za⟩ nL)) (J2 _ (vec [((i3 0)+1)]) (Zd h26).symm)
 ·have h3:=Zo hc1 h2
  refine ZL ?_
  exact wK2 _ _ ((by exact Zc Za Za nL)) (J1 _ (vec [(i3 0)]) (hx1 _ (Zd h3).symm))
theorem YIh {n1:YAJ} {r:Int} (h:YDJ n1=some r):ARO Tryz.prog 79 (k4_ n1) (rI (r)):=by
 unfold YDJ at h
 refine Zu Tryz.func79 R R Tryz.ntmps79 R (Zf R) fun n0=>?_
 refine aS fun _ hK1 _=>(aR (Zh R R R (ZM (cs:=(k6_ n1)) 1 R iL R R) (sA R R (aZ (hK1 _ ?_)))))
 refine aS fun _ hK2 _=>(aS fun _ hK3 _=>(aR (sQ R (fB R YBn iL fR R) (sQ R (Zb (a:=rI (n1.ID)) R ts_3 iL R R) (Zl h fun r1 er1 h1=>(Zh R R R (Zr (r:=rB (r1)) (caps:=[]) (bs:=[rI (n1.ID),rI (1),rI (1073741824)]) R iL R ⟨⟨_,iL,.d R⟩,⟨_,iL,.d R⟩,⟨_,iL,.d R⟩,Za⟩ (fun _=>YBB (er1)) R) (sQ R (ZK R iL) (aZ (hK3 _ ?_)))))))))
 refine aC R (fun hc1=>?_) (fun hc1=>?_)
 ·have h2:=Zn hc1 h1
  refine aS fun _ hK4 _=>(aR (sA R R (aZ (hK4 _ ?_))))
  refine Zj ?_
  exact Y1_ h2 iL (.t (.d R))
 ·have h2:=Zo hc1 h1
  refine Zk (hK2 _ ?_)
  refine aS fun _ hK5 _=>(aS fun _ hK6 _=>(aR (sQ R (fB R YA0 iL fR R) (sQ R (Zb (a:=rI (n1.Kind)) R ts_3 iL R R) (Zl h2 fun r2 er2 h3=>(Zh R R R (Zr (r:=rB (r2)) (caps:=[]) (bs:=[rI (n1.Kind),rI (0),rI (12)]) R iL R ⟨⟨_,iL,.d R⟩,⟨_,iL,.d R⟩,⟨_,iL,.d R⟩,Za⟩ (fun _=>YBB (er2)) R) (sQ R (ZK R iL) (sM R R (sV R R R (fB R YBn iL fR R) (sV R R R (Zb (a:=rI (n1.ID)) R ts_3 (iR R) R R) (sV R R R (Zs R (iR R) iL) (sV R R R (Ze R (iR R)) ?_))))))))))))
  refine sW (.two R R R) R (fB R YA0 iL fR R) ?_
  refine sW (.two R R R) R (Zb (a:=rI (n1.Kind)) R ts_3 (iR R) R R) ?_
  refine sW (.two R R R) R (ZD R (iR R) iL) ?_
  refine sV R R R (Zq R (iR R) (iR R)) (sQ R (Zy R iL (iR R)) (sM R R (sV R R R (fB R YBn iL fR R) (sV R R R (Zb (a:=rI (n1.ID)) R ts_3 (iR R) R R) (sV R R R (ZD R (iR R) iL) (sV R R R (Ze R (iR R)) ?_))))))
  refine sW (.two R R R) R (fB R YA0 iL fR R) ?_
  refine sW (.two R R R) R (Zb (a:=rI (n1.Kind)) R ts_3 (iR R) R R) ?_
  refine sW (.two R R R) R (Zs R (iR R) iL) ?_
  refine sV R R R (Zq R (iR R) (iR R)) (sQ R (Zy R iL (iR R)) (aZ (hK6 _ ?_)))
  refine aC R (fun hc2=>?_) (fun hc2=>?_)
  ·have h4:=Zn hc2 h3
   refine aS fun _ hK7 _=>?_
   refine Zi (s':=⟨[],[],(n0+1),105⟩) (by exact Zc Za Za nL) ?_
   refine aR (sA R R (aZ (hK7 _ ?_)))
   refine Zj ?_
   exact Y1_ h4 iL (.t (.d R))
  ·have h4:=Zo hc2 h3
   refine Zk (hK5 _ ?_)
   refine aS fun _ hK8 _=>(aS fun _ hK9 _=>?_)
   refine Zi (s':=⟨[(1,.ptr 1 n0 0 0)],[(1,some (.box n0 46 (k6_ n1)))],(n0+1),105⟩) (by exact Zc ⟨jL,Za⟩ ⟨.inl R,Za⟩ nL) ?_
   refine aR (sQ R (fB R YKm iL fR R) (sQ R (Zb (a:=qa n1.Attrs) R YEm iL R R) (Zl h4 fun e1 ee1 h5=>(Zh R R R (Zr (r:=rI (e1)) (caps:=[]) (bs:=[qa n1.Attrs,rB (false)]) R iL R ⟨⟨_,iL,.d R⟩,⟨_,iL,.d R⟩,Za⟩ (fun _=>YD3 (ee1)) R) (sA R R (aZ (hK9 _ ?_)))))))
   refine aS fun _ hK10 _=>(aR (sM R R (sQ R (ZD R iL iL) (aZ (hK10 _ ?_)))))
   refine aC R (fun hc3=>?_) (fun hc3=>?_)
   ·have h6:=Zn hc3 h5
    refine aS fun _ hK11 _=>(aR (sM R R (sA R R (aZ (hK11 _ ?_)))))
    refine Zj ?_
    exact Y1_ h6 iL (.t (.d R))
   ·have h6:=Zo hc3 h5
    refine Zk (hK8 _ ?_)
    refine aS fun _ hK12 _=>(aR (sQ R (fB R YA0 iL fR R) (sQ R (Zb (a:=rI (n1.Kind)) R ts_3 iL R R) (Zl h6 fun r3 er3 h7=>(Zh R R R (Zr (r:=rB (r3)) (caps:=[]) (bs:=[rI (n1.Kind)]) R iL R ⟨⟨_,iL,.d R⟩,Za⟩ (fun _=>YFL (er3)) R) (sM R R (sV R R R (fB R YA0 iL fR R) (sV R R R (Zb (a:=rI (n1.Kind)) R ts_3 (iR R) R R) (Zl h7 fun r4 er4 h8=>?_)))))))))
    refine ZA (.one R R R) R R (Zr (r:=rB (r4)) (caps:=[]) (bs:=[rI (n1.Kind)]) R iL R ⟨⟨_,(iR R),.d R⟩,Za⟩ (fun hg=>YKc (gdt er4 hg)) R) ?_
    refine sQ R (Zy R iL (iR R)) (sA R R (aZ (hK12 _ ?_)))
    refine aS fun _ hK13 _=>(aS fun _ hK14 _=>?_)
    refine Zi (s':=⟨[(1,.ptr 1 n0 0 0),(4,rB ((r3 || r4)))],[(1,some (.box n0 46 (k6_ n1)))],(n0+1),105⟩) (by exact Zc ⟨jL,jL,Za⟩ ⟨.inl R,Za⟩ nL) ?_
    refine aR (sQ R (fB R YEu iL fR R) (sQ R (Zb (a:=qe n1.Flow) R YID iL R R) (sQ R (Zz R YDf.slice iL) (sQ R (ZR R iL iL) (sM R R (sV R R R (Ze R iL) (sV R R R (ZK R (iR R)) (sQ R (Zq R iL (iR R)) (sM R R (sV R R R (fB R YBL iL fR R) (sV R R R (YAx (ds:=(k14_ n1.Grid)) R YOO (iR R) R R R) (Zl h8 fun r5 er5 h9=>?_))))))))))))
    refine ZA (.one R R R) R R (Zr (r:=rB (r5)) (caps:=[]) (bs:=(k12_ n1.Grid)) R iL R ⟨⟨_,(iR R),.g (cs:=[.int .i64 n1.Grid.Rows,.int .i64 n1.Grid.Cols,.sl (n1.Grid.Cells.map YAL.row),.sl (n1.Grid.Merges.map YAQ.row)]) R R⟩,Za⟩ (fun hg=>YJk (gdt er5 hg)) R) ?_
    refine sV R R R (ZK R (iR R)) (sV R R R (Ze R (iR R)) ?_)
    refine sW (.two R R R) R (fB R YA0 iL fR R) ?_
    refine sW (.two R R R) R (Zb (a:=rI (n1.Kind)) R ts_3 (iR R) R R) ?_
    refine Zl h9 fun r6 er6 h10=>?_
    refine ZA (.two R R R) R R (Zr (r:=rB (r6)) (caps:=[]) (bs:=[rI (n1.Kind)]) R iL R ⟨⟨_,(iR R),.d R⟩,Za⟩ (fun hg=>YFM (gdt er6 hg)) R) ?_
    refine sW (.two R R R) R (ZK R (iR R)) ?_
    refine sV R R R (Zq R (iR R) (iR R)) (sQ R (Zy R iL (iR R)) (sM R R (sV R R R (fB R YFu iL fR R) (sV R R R (Zb (a:=qd n1.Draw) R YJs (iR R) R R) (sV R R R (Zz R YGi.slice (iR R)) (sV R R R (ZR R (iR R) iL) (sV R R R (Ze R (iR R)) ?_)))))))
    refine sW (.two R R R) R (fB R YA0 iL fR R) ?_
    refine sW (.two R R R) R (Zb (a:=rI (n1.Kind)) R ts_3 (iR R) R R) ?_
    refine Zl h10 fun r7 er7 h11=>?_
    refine ZA (.two R R R) R R (Zr (r:=rB (r7)) (caps:=[]) (bs:=[rI (n1.Kind)]) R iL R ⟨⟨_,(iR R),.d R⟩,Za⟩ (fun hg=>YKd (gdt er7 hg)) R) ?_
    refine sW (.two R R R) R (ZK R (iR R)) ?_
    refine sV R R R (Zq R (iR R) (iR R)) (sQ R (Zy R iL (iR R)) (aZ (hK14 _ ?_)))
    refine aC R (fun hc4=>?_) (fun hc4=>?_)
    ·have h12:=Zn hc4 h11
     refine aS fun _ hK15 _=>?_
     refine Zi (s':=⟨[],[],(n0+1),105⟩) (by exact Zc Za Za nL) ?_
     refine aR (sA R R (aZ (hK15 _ ?_)))
     refine Zj ?_
     exact Y1_ h12 iL (.t (.d R))
    ·have h12:=Zo hc4 h11
     refine Zk (hK13 _ ?_)
     refine aS fun _ hK16 _=>(aS fun _ hK17 _=>?_)
     refine Zi (s':=⟨[(1,.ptr 1 n0 0 0),(4,rB ((r3 || r4)))],[(1,some (.box n0 46 (k6_ n1)))],(n0+1),105⟩) (by exact Zc ⟨jL,jL,Za⟩ ⟨.inl R,Za⟩ nL) ?_
     refine aR (sM R R (aZ (hK17 _ ?_)))
     refine aC R (fun hc5=>?_) (fun hc5=>?_)
     ·have h13:=Zn hc5 h12
      refine aS fun _ hK18 _=>?_
      refine ZS hmix (by kernel_rfl) ?_
      refine Zm R R R (fB R YEu iL fR R) (Zm R R R (Zb (a:=qe n1.Flow) R YID iL R R) (Zm R R R (fB R YA0 iL fR R) (Zm R R R (Zb (a:=rI (n1.Kind)) R ts_3 iL R R) ?_)))
      refine AQ.stepC R R R (r:=rB (r3)) (caps:=[]) (bs:=[rI (n1.Kind)]) R iL R ⟨⟨_,iL,.d R⟩,Za⟩ (fun _=>YFL (er3)) R ?_
      refine Zl h13 fun r9 er9 h14=>?_
      refine AQ.stepC R R R (r:=rI (r9)) (caps:=[]) (bs:=[qe n1.Flow,rB (r3)]) R iL R ⟨⟨_,iL,.d R⟩,⟨_,iL,.d R⟩,Za⟩ (fun _=>YIj (er9)) R ?_
      refine Zm R R R (YA8 R iL) ?_
      refine AQ.nil ?_
      refine hK18 _ ?_
      refine Zj ?_
      exact Y1_ h14 iL (.t (.d R))
     ·have h13:=Zo hc5 h12
      refine Zk (hK16 _ ?_)
      refine aS fun _ hK19 _=>(aS fun _ hK20 _=>(aR (sQ R (fB R YA0 iL fR R) (sQ R (Zb (a:=rI (n1.Kind)) R ts_3 iL R R) (Zl h13 fun r10 er10 h15=>(Zh R R R (Zr (r:=rB (r10)) (caps:=[]) (bs:=[rI (n1.Kind)]) R iL R ⟨⟨_,iL,.d R⟩,Za⟩ (fun _=>YFM (er10)) R) (aZ (hK20 _ ?_))))))))
      refine aC R (fun hc6=>?_) (fun hc6=>?_)
      ·have h16:=Zn hc6 h15
       refine aS fun _ hK21 _=>(aS fun _ hK22 _=>(aR (sQ R (fB R YBL iL fR R) (sQ R (YAx (ds:=(k14_ n1.Grid)) R YOO iL R R R) (Zl h16 fun e2 ee2 h17=>(Zh R R R (Zr (r:=rI (e2)) (caps:=[]) (bs:=(k12_ n1.Grid)) R iL R ⟨⟨_,iL,.g (cs:=[.int .i64 n1.Grid.Rows,.int .i64 n1.Grid.Cols,.sl (n1.Grid.Cells.map YAL.row),.sl (n1.Grid.Merges.map YAQ.row)]) R R⟩,Za⟩ (fun _=>YIi (ee2)) R) (sA R R (aZ (hK22 _ ?_)))))))))
       refine aS fun _ hK23 _=>(aR (sM R R (sQ R (ZD R iL iL) (aZ (hK23 _ ?_)))))
       refine aC R (fun hc7=>?_) (fun hc7=>?_)
       ·have h18:=Zn hc7 h17
        refine aS fun _ hK24 _=>?_
        refine Zi (s':=⟨[(5,rI (e2))],[],(n0+1),105⟩) (by exact Zc ⟨jL,Za⟩ Za nL) ?_
        refine aR (sM R R (sA R R (aZ (hK24 _ ?_))))
        refine Zj ?_
        exact Y1_ h18 iL (.t (.d R))
       ·have h18:=Zo hc7 h17
        refine Zk (hK21 _ ?_)
        refine aS fun _ hK25 _=>?_
        refine Zi (s':=⟨[(1,.ptr 1 n0 0 0)],[(1,some (.box n0 46 (k6_ n1)))],(n0+1),105⟩) (by exact Zc ⟨jL,Za⟩ ⟨.inl R,Za⟩ nL) ?_
        refine aR (sQ R (fB R YA0 iL fR R) (sQ R (Zb (a:=rI (n1.Kind)) R ts_3 iL R R) (sQ R (fB R YBL iL fR R) (sQ R (fB R YCJ iL fR R) (sQ R (Zb (a:=qc n1.Grid.Cells) R YE1 iL R R) (Zl h18 fun r11 er11 h19=>(Zh R R R (Zr (r:=rI (r11)) (caps:=[]) (bs:=[rI (n1.Kind),qc n1.Grid.Cells]) R iL R ⟨⟨_,iL,.d R⟩,⟨_,iL,.d R⟩,Za⟩ (fun _=>YIn (er11)) R) (sA R R (aZ (hK25 _ ?_))))))))))
        refine Zj ?_
        exact Y1_ h19 iL (.t (.d R))
      ·have h16:=Zo hc6 h15
       refine Zk (hK19 _ ?_)
       refine aS fun _ hK26 _=>(aR (sQ R (fB R YFu iL fR R) (sQ R (Zb (a:=qd n1.Draw) R YJs iL R R) (Zl h16 fun r12 er12 h20=>(Zh R R R (Zr (r:=rI (r12)) (caps:=[]) (bs:=[qd n1.Draw]) R iL R ⟨⟨_,iL,.d R⟩,Za⟩ (fun _=>YIm (er12)) R) (sA R R (aZ (hK26 _ ?_))))))))
       refine Zj ?_
       exact Y1_ h20 iL (.t (.d R))
theorem YLS {n1:YAJ} {r:(List Int)} (h:YE8 n1=some r):ARO Tryz.prog 81 (k4_ n1) (.r (.sl (r.map (rInt .i64)))):=by
 unfold YE8 at h
 refine Zu Tryz.func81 R R Tryz.ntmps81 R (Zf R) fun n0=>?_
 refine aS fun _ hK1 _=>(aR (Zh R R R (ZM (cs:=(k6_ n1)) 1 R iL R R) (sA R R (aZ (hK1 _ ?_)))))
 refine aS fun _ hK2 _=>(aR (sA R R (aZ (hK2 _ ?_))))
 refine aS fun K3 hK3 wK3=>(aS fun _ hK4 _=>(aR (sQ R (fB R YEu iL fR R) (sQ R (Zb (a:=qe n1.Flow) R YID iL R R) (sQ R (Zz R YDf.slice iL) (sM R R (aZ (hK4 _ ?_))))))))
 refine Zp ?_
 refine jb1k h fun o1 hit1 hk1=>?_
 have J1 : ∀ (out4:List Int) (i5:Nat→Nat),o1=out4→K3 ⟨[(1,.ptr 1 n0 0 0),(3,.own 5003 (i5 0))],[(1,some (.box n0 46 (k6_ n1))),(5003,some (.arr (i5 0) 3 1 (out4.map (rInt .i64))))],(i5 1),56⟩:=by
  intro out4 i5 e
  have h1:=hk1 _ e
  refine hK3 _ ?_
  refine aS fun K5 hK5 wK5=>(aS fun _ hK6 _=>(aR (sQ R (fB R YBL iL fR R) (sQ R (fB R YCJ iL fR R) (sQ R (Zb (a:=qc n1.Grid.Cells) R YE1 iL R R) (sQ R (Zz R YB2.slice iL) (sM R R (aZ (hK6 _ ?_)))))))))
  refine Zp ?_
  refine jb1k h1 fun o2 hit2 hk2=>?_
  have J2 : ∀ (out8:List Int) (i10:Nat→Nat),o2=out8→K5 ⟨[(3,.own 5003 (i10 0))],[(5003,some (.arr (i10 0) 3 1 (out8.map (rInt .i64))))],(i10 1),56⟩:=by
   intro out8 i10 e
   have h2:=hk2 _ e
   refine hK5 _ ?_
   refine aS fun _ hK7 _=>(aR (sM R R (sA R R (aZ (hK7 _ ?_)))))
   refine Zj ?_
   exact YOY (P:=Tryz.prog) (fun (r:(List Int))=>.r (.sl (r.map (rInt .i64)))) h2 iL (.t (.one (.own R)))
  refine AW.iter2 (fun (x5:Int) (out6:List Int) i8=>⟨[(1,.ptr 1 n0 0 0),(3,.own 5003 (i8 0)),(32,rI ((n1.Grid.Cells.length:Int))),(33,rI (x5))],[(1,some (.box n0 46 (k6_ n1))),(5003,some (.arr (i8 0) 3 1 (out6.map (rInt .i64))))],(i8 1),56⟩) (vec [(i5 0),(i5 1)]) hit2 ((by exact Zc ⟨jL,jL,jL,jL,Za⟩ ⟨.inl R,.inl R,Za⟩ nL)) ?_
  intro x5 out6 i8 v1 hv1 hx2
  have h3:YEB n1 x5 out6=some v1:=hv1; unfold YEB at h3
  refine aS fun _ hK8 _=>(aR (sQ R (Zv R iL iL) (aZ (hK8 _ ?_))))
  refine aS fun _ hK9 _=>?_
  refine aC R (fun hc1=>?_) (fun hc1=>?_)
  ·have h4:=Zn hc1 h3
   refine Zk (hK9 _ ?_)
   refine aS fun K10 hK10 wK10=>(Zp ?_)
   refine jb1k h4 fun p1 hp1 hk3=>?_
   have J3 : ∀ (out9:List Int) (i11:Nat→Nat),p1=out9→K10 ⟨[(1,.ptr 1 n0 0 0),(3,.own 5003 (i11 0)),(32,rI ((n1.Grid.Cells.length:Int))),(33,rI (x5))],[(1,some (.box n0 46 (k6_ n1))),(5003,some (.arr (i11 0) 3 1 (out9.map (rInt .i64))))],(i11 1),56⟩:=by
    intro out9 i11 e
    have h5:=hk3 _ e
    refine hK10 _ ?_
    refine aR (Zl h5 fun x7 ex7 h6=>(sQ R (ZI R iL iL (fun _=>ex7)) (sM R R ?_)))
    refine Zt ?_
    exact YFi.mk h6 (vec [(i11 0),(i11 1)]) ((by exact Zc ⟨jL,jL,jL,jL,Za⟩ ⟨.inl R,.inl R,Za⟩ nL))
   refine aS fun _ hK11 _=>(aR (sM R R (sA R R (aZ (hK11 _ ?_)))))
   refine aS fun _ hK12 _=>(aR (sQ R (fB R YBL iL fR R) (sQ R (fB R YCJ iL fR R) (sQ R (Zb (a:=qc n1.Grid.Cells) R YE1 iL R R) (sM R R (Zl hp1 fun x8 ex8 h7=>(sQ R (Zx R YB2.slice iL iL (fun _=>R) (fun _=>ex8)) (sQ R (Zw R YBa iL) (sQ R (ZO (d:=.int .i64 x8.Ref) R ts_3 iL R) (sQ R (ZD R iL iL) (aZ (hK12 _ ?_))))))))))))
   refine aC R (fun hc2=>?_) (fun hc2=>?_)
   ·have h8:=Zn hc2 h7
    refine Zi (s':=⟨[(1,.ptr 1 n0 0 0),(3,.own 5003 (i8 0)),(5,rI (x5)),(32,rI ((n1.Grid.Cells.length:Int))),(33,rI (x5))],[(1,some (.box n0 46 (k6_ n1))),(5003,some (.arr (i8 0) 3 1 (out6.map (rInt .i64))))],(i8 1),56⟩) (by exact Zc ⟨jL,jL,jL,jL,jL,Za⟩ ⟨.inl R,.inl R,Za⟩ nL) ?_
    refine aR (sM R R (sQ R (fB R YBL iL fR R) (sQ R (fB R YCJ iL fR R) (sQ R (Zb (a:=qc n1.Grid.Cells) R YE1 iL R R) (sM R R (sQ R (Zx R YB2.slice iL iL (fun _=>R) (fun _=>ex8)) (sQ R (Zw R YBa iL) (sQ R (ZO (d:=.int .i64 x8.Ref) R ts_3 iL R) (Zh R R R (YCn 52 R YDr (f:=(rInt .i64)) (l:=([x8.Ref]:List Int)) ⟨R,⟨_,iL,R⟩,Za⟩ R (fun _=>R) R) (Zl h8 fun out10 eout10 h9=>(Zh R R R (YJQ R YDr iL R (.inr (.inl ⟨_,_,iL,R⟩)) eout10) (sA R R ?_))))))))))))
    refine Zt ?_
    exact wK10 _ _ ((by exact Zc ⟨jL,jL,jL,jL,Za⟩ ⟨.inl R,.inl R,Za⟩ nL)) (J3 _ (vec [((i8 1)+1),((i8 1)+2)]) (Zd h9).symm)
   ·have h8:=Zo hc2 h7
    refine Zk ?_
    exact wK10 _ _ ((by exact Zc ⟨jL,jL,jL,jL,Za⟩ ⟨.inl R,.inl R,Za⟩ nL)) (J3 _ (vec [(i8 0),(i8 1)]) (Zd h8).symm)
  ·have h4:=Zo hc1 h3
   refine ZL ?_
   exact wK5 _ _ ((by exact Zc ⟨jL,Za⟩ ⟨.inl R,Za⟩ nL)) (J2 _ (vec [(i8 0),(i8 1)]) (hx2 _ (Zd h4).symm))
 refine AW.iter2 (fun (x2:Int) (out2:List Int) i3=>⟨[(1,.ptr 1 n0 0 0),(3,.own 5003 (i3 0)),(8,rI ((n1.Flow.length:Int))),(9,rI (x2))],[(1,some (.box n0 46 (k6_ n1))),(5003,some (.arr (i3 0) 3 1 (out2.map (rInt .i64))))],(i3 1),56⟩) (vec [(n0+1),(n0+2)]) hit1 (Weak.trans (Weak.trans (Weak.adopt 3 5003 3 1 (by decide) R) (by exact Zc (e':=[(0,.agg (k6_ n1)),(1,.ptr 1 n0 0 0),(2,.cst (.slice none 0 0)),(3,.own 5003 (n0+1)),(6,.ptr 1 n0 0 3),(7,qe n1.Flow),(8,rI ((n1.Flow.length:Int))),(9,rI (0))]) (h':=[(1,some (.box n0 46 (k6_ n1))),(5003,some (.arr (n0+1) 3 1 (([]:List Int).map (rInt .i64))))]) ⟨jL,jL,jL,jL,jL,jL,jL,jL,Za⟩ ⟨.inl R,.inl R,Za⟩ nL)) (by exact Zc ⟨jL,jL,jL,jL,Za⟩ ⟨.inl R,.inl R,Za⟩ nL)) ?_
 intro x2 out2 i3 v2 hv2 hx1
 have h10:YEC n1 x2 out2=some v2:=hv2; unfold YEC at h10
 refine aS fun _ hK13 _=>(aR (sQ R (Zv R iL iL) (aZ (hK13 _ ?_))))
 refine aS fun _ hK14 _=>?_
 refine aC R (fun hc3=>?_) (fun hc3=>?_)
 ·have h11:=Zn hc3 h10
  refine Zk (hK14 _ ?_)
  refine aS fun K15 hK15 wK15=>(Zp ?_)
  refine jb1k h11 fun p2 hp2 hk4=>?_
  have J4 : ∀ (out11:List Int) (i12:Nat→Nat),p2=out11→K15 ⟨[(1,.ptr 1 n0 0 0),(3,.own 5003 (i12 0)),(8,rI ((n1.Flow.length:Int))),(9,rI (x2))],[(1,some (.box n0 46 (k6_ n1))),(5003,some (.arr (i12 0) 3 1 (out11.map (rInt .i64))))],(i12 1),56⟩:=by
   intro out11 i12 e
   have h12:=hk4 _ e
   refine hK15 _ ?_
   refine aR (Zl h12 fun x9 ex9 h13=>(sQ R (ZI R iL iL (fun _=>ex9)) (sM R R ?_)))
   refine Zt ?_
   exact YFi.mk h13 (vec [(i12 0),(i12 1)]) ((by exact Zc ⟨jL,jL,jL,jL,Za⟩ ⟨.inl R,.inl R,Za⟩ nL))
  refine aS fun _ hK16 _=>(aR (sM R R (sA R R (aZ (hK16 _ ?_)))))
  refine aS fun _ hK17 _=>(aR (sQ R (fB R YEu iL fR R) (sQ R (Zb (a:=qe n1.Flow) R YID iL R R) (sM R R (Zl hp2 fun x10 ex10 h14=>(sQ R (Zx R YDf.slice iL iL (fun _=>R) (fun _=>ex10)) (sQ R (Zw R YCI iL) (sQ R (ZO (d:=.int .i64 x10.Ref) R ts_3 iL R) (sQ R (ZD R iL iL) (aZ (hK17 _ ?_)))))))))))
  refine aC R (fun hc4=>?_) (fun hc4=>?_)
  ·have h15:=Zn hc4 h14
   refine Zi (s':=⟨[(1,.ptr 1 n0 0 0),(3,.own 5003 (i3 0)),(4,rI (x2)),(8,rI ((n1.Flow.length:Int))),(9,rI (x2))],[(1,some (.box n0 46 (k6_ n1))),(5003,some (.arr (i3 0) 3 1 (out2.map (rInt .i64))))],(i3 1),56⟩) (by exact Zc ⟨jL,jL,jL,jL,jL,Za⟩ ⟨.inl R,.inl R,Za⟩ nL) ?_
   refine aR (sM R R (sQ R (fB R YEu iL fR R) (sQ R (Zb (a:=qe n1.Flow) R YID iL R R) (sM R R (sQ R (Zx R YDf.slice iL iL (fun _=>R) (fun _=>ex10)) (sQ R (Zw R YCI iL) (sQ R (ZO (d:=.int .i64 x10.Ref) R ts_3 iL R) (Zh R R R (YCn 26 R YDr (f:=(rInt .i64)) (l:=([x10.Ref]:List Int)) ⟨R,⟨_,iL,R⟩,Za⟩ R (fun _=>R) R) (Zl h15 fun out12 eout12 h16=>(Zh R R R (YJQ R YDr iL R (.inr (.inl ⟨_,_,iL,R⟩)) eout12) (sA R R ?_)))))))))))
   refine Zt ?_
   exact wK15 _ _ ((by exact Zc ⟨jL,jL,jL,jL,Za⟩ ⟨.inl R,.inl R,Za⟩ nL)) (J4 _ (vec [((i3 1)+1),((i3 1)+2)]) (Zd h16).symm)
  ·have h15:=Zo hc4 h14
   refine Zk ?_
   exact wK15 _ _ ((by exact Zc ⟨jL,jL,jL,jL,Za⟩ ⟨.inl R,.inl R,Za⟩ nL)) (J4 _ (vec [(i3 0),(i3 1)]) (Zd h15).symm)
 ·have h11:=Zo hc3 h10
  refine ZL ?_
  exact wK3 _ _ ((by exact Zc ⟨jL,jL,Za⟩ ⟨.inl R,.inl R,Za⟩ nL)) (J1 _ (vec [(i3 0),(i3 1)]) (hx1 _ (Zd h11).symm))
theorem YGJ {d1:GDoc} {id1:Int} {r:Int} (h:YED d1 id1=some r):ARO Tryz.prog 16 [.agg [qf d1.Nodes],rI (id1)] (rI (r)):=by
 unfold YED at h
 refine Zu Tryz.func16 R R Tryz.ntmps16 R (Zf R) fun n0=>?_
 refine aS fun _ hK1 _=>(aR (Zh R R R (ZM (cs:=[qf d1.Nodes]) 2 R iL R R) (sA R R (aZ (hK1 _ ?_)))))
 refine aS fun K2 hK2 wK2=>(aS fun _ hK3 _=>(aR (sQ R (fB R YBQ iL fR R) (sQ R (Zb (a:=qf d1.Nodes) R YEN iL R R) (sQ R (Zz R YDc.slice iL) (sM R R (aZ (hK3 _ ?_))))))))
 refine Zp ?_
 refine jc1k h fun o1 hit1 hk1 he1=>?_
 have J1 : ∀ (u2:Unit) (i5:Nat→Nat),o1 = .nrm u2→K2 ⟨[],[],(i5 0),22⟩:=by
  intro u2 i5 e
  have h1:=hk1 _ e
  refine hK2 _ ?_
  refine aS fun _ hK4 _=>(aR (sA R R (aZ (hK4 _ ?_))))
  refine Zj ?_
  exact Y1_ h1 iL (.t (.d R))
 refine ZP (fun (x2:Int) i3=>⟨[(1,rI (id1)),(2,.ptr 2 n0 0 0),(8,rI ((d1.Nodes.length:Int))),(9,rI (x2))],[(2,some (.box n0 24 [qf d1.Nodes]))],(i3 0),22⟩) (vec [(n0+1)]) hit1 ((by exact Zc ⟨jL,jL,jL,jL,Za⟩ ⟨.inl R,Za⟩ nL)) ?_
 intro x2 i3 v1 hv1 hx1
 have h2:YEX d1 id1 x2=some v1:=hv1; unfold YEX at h2
 refine aS fun _ hK5 _=>(aR (sQ R (Zv R iL iL) (aZ (hK5 _ ?_))))
 refine aS fun _ hK6 _=>?_
 refine aC R (fun hc1=>?_) (fun hc1=>?_)
 ·have h3:=Zn hc1 h2
  refine Zk (hK6 _ ?_)
  refine aS fun _ hK7 _=>(Zp (aS fun _ hK8 _=>(aR (sM R R (sA R R (aZ (hK8 _ ?_)))))))
  refine aS fun _ hK9 _=>(aR (sQ R (fB R YBQ iL fR R) (sQ R (Zb (a:=qf d1.Nodes) R YEN iL R R) (sM R R (Zl h3 fun x4 ex4 h4=>(sQ R (Zx R YDc.slice iL iL (fun _=>R) (fun _=>ex4)) (sQ R (Zw R YBn iL) (sQ R (ZO (d:=.int .i64 x4.ID) R ts_3 iL R) (sM R R (sQ R (Zs R iL iL) (aZ (hK9 _ ?_))))))))))))
  refine aC R (fun hc2=>?_) (fun hc2=>?_)
  ·have h5:=Zn hc2 h4
   refine aS fun _ hK10 _=>?_
   refine Zi (s':=⟨[(5,rI (x2))],[],(i3 0),22⟩) (by exact Zc ⟨jL,Za⟩ Za nL) ?_
   refine aR (sM R R (sA R R (aZ (hK10 _ ?_))))
   refine Zj ?_
   exact Y1_ (he1 _ (hx1 _ (Zd h5).symm)) iL (.t (.d R))
  ·have h5:=Zo hc2 h4
   refine Zk (hK7 _ ?_)
   refine Zi (s':=⟨[(1,rI (id1)),(2,.ptr 2 n0 0 0),(8,rI ((d1.Nodes.length:Int))),(9,rI (x2))],[(2,some (.box n0 24 [qf d1.Nodes]))],(i3 0),22⟩) (by exact Zc ⟨jL,jL,jL,jL,Za⟩ ⟨.inl R,Za⟩ nL) ?_
   refine aR (Zl h5 fun x5 ex5 h6=>(sQ R (ZI R iL iL (fun _=>ex5)) (sM R R ?_)))
   refine Zt ?_
   exact ZJ h6 (vec [(i3 0)]) ((by exact Zc ⟨jL,jL,jL,jL,Za⟩ ⟨.inl R,Za⟩ nL))
 ·have h3:=Zo hc1 h2
  refine ZL ?_
  exact wK2 _ _ ((by exact Zc Za Za nL)) (J1 _ (vec [(i3 0)]) (hx1 _ (Zd h3).symm))
theorem YIg {parent1:Int} {kid1:Int} {r:Bool} (h:YDI parent1 kid1=some r):ARO Tryz.prog 36 [rI (parent1),rI (kid1)] (rB (r)):=by
 unfold YDI at h
 refine Zu Tryz.func36 R R Tryz.ntmps36 R (Zf R) fun n0=>?_
 refine aS fun _ hK1 _=>(aR (sA R R (aZ (hK1 _ ?_))))
 refine aS fun _ hK2 _=>(aS fun _ hK3 _=>(aR (sM R R (aZ (hK3 _ ?_)))))
 refine Zp (aS fun K4 hK4 wK4=>(aS fun _ hK5 _=>(aR (sQ R (Zs R iL iL) (sA R R (aZ (hK5 _ ?_)))))))
 refine jb1k h fun p1 hp1 hk1=>?_
 have J1 : ∀ (x1:Bool) (i1:Nat→Nat),p1=x1→K4 ⟨[(0,rI (parent1)),(5,rI (kid1)),(6,rB (x1))],[],(i1 0),51⟩:=by
  intro x1 i1 e
  have h1:=hk1 _ e
  refine hK4 _ ?_
  refine aC R (fun hc1=>?_) (fun hc1=>?_)
  ·have h2:=Zn hc1 h1
   refine aS fun _ hK6 _=>(aR (sM R R (sQ R (Zs R iL iL) (sA R R (aZ (hK6 _ ?_))))))
   refine Zj ?_
   exact Y2_ h2 iL (.t (.d R))
  ·have h2:=Zo hc1 h1
   refine aS fun _ hK7 _=>(aR (sQ R (Zs R iL iL) (sA R R (aZ (hK7 _ ?_)))))
   refine aC R (fun hc2=>?_) (fun hc2=>?_)
   ·have h3:=Zn hc2 h2
    refine aS fun _ hK8 _=>(aR (sM R R (sQ R (Zs R iL iL) (sM R R (sV R R R (Ze R iL) (sV R R R (Zs R (iR R) iL) (sQ R (Zy R iL (iR R)) (sM R R (sV R R R (Ze R iL) (sV R R R (Zs R (iR R) iL) (sQ R (Zy R iL (iR R)) (sA R R (aZ (hK8 _ ?_))))))))))))))
    refine Zj ?_
    exact Y2_ h3 iL (.t (.d R))
   ·have h3:=Zo hc2 h2
    refine aS fun _ hK9 _=>(aR (sQ R (Zs R iL iL) (sA R R (aZ (hK9 _ ?_)))))
    refine aC R (fun hc3=>?_) (fun hc3=>?_)
    ·have h4:=Zn hc3 h3
     refine aS fun _ hK10 _=>(aR (sM R R (sQ R (Zs R iL iL) (sA R R (aZ (hK10 _ ?_))))))
     refine Zj ?_
     exact Y2_ h4 iL (.t (.d R))
    ·have h4:=Zo hc3 h3
     refine aS fun _ hK11 _=>(aR (sQ R (Zs R iL iL) (sA R R (aZ (hK11 _ ?_)))))
     refine aC R (fun hc4=>?_) (fun hc4=>?_)
     ·have h5:=Zn hc4 h4
      refine aS fun _ hK12 _=>(aR (sM R R (sQ R (Zs R iL iL) (sM R R (sV R R R (Ze R iL) (sV R R R (Zs R (iR R) iL) (sQ R (Zy R iL (iR R)) (sA R R (aZ (hK12 _ ?_))))))))))
      refine Zj ?_
      exact Y2_ h5 iL (.t (.d R))
     ·have h5:=Zo hc4 h4
      refine aS fun _ hK13 _=>(aR (sQ R (Zs R iL iL) (sA R R (aZ (hK13 _ ?_)))))
      refine aC R (fun hc5=>?_) (fun hc5=>?_)
      ·have h6:=Zn hc5 h5
       refine aS fun _ hK14 _=>?_
       refine Zi (s':=⟨[(0,rI (parent1))],[],(i1 0),51⟩) (by exact Zc ⟨jL,Za⟩ Za nL) ?_
       refine aR (sM R R (Zl h6 fun r1 er1 h7=>(Zh R R R (Zr (r:=rB (r1)) (caps:=[]) (bs:=[rI (parent1)]) R iL R ⟨⟨_,iL,.d R⟩,Za⟩ (fun _=>YFL (er1)) R) (sA R R (aZ (hK14 _ ?_))))))
       refine Zj ?_
       exact Y2_ h7 iL (.t (.d R))
      ·have h6:=Zo hc5 h5
       refine aS fun _ hK15 _=>?_
       refine Zi (s':=⟨[(0,rI (parent1)),(5,rI (kid1))],[],(i1 0),51⟩) (by exact Zc ⟨jL,jL,Za⟩ Za nL) ?_
       refine aR (sQ R (Zs R iL iL) (sA R R (aZ (hK15 _ ?_))))
       refine aC R (fun hc6=>?_) (fun hc6=>?_)
       ·have h8:=Zn hc6 h6
        refine aS fun _ hK16 _=>(aR (sM R R (sQ R (Zs R iL iL) (sA R R (aZ (hK16 _ ?_))))))
        refine Zj ?_
        exact Y2_ h8 iL (.t (.d R))
       ·have h8:=Zo hc6 h6
        refine aS fun K17 hK17 wK17=>(aS fun _ hK18 _=>(aR (sQ R (Zs R iL iL) (sA R R (aZ (hK18 _ ?_))))))
        refine jb1k h8 fun p2 hp2 hk2=>?_
        have J2 : ∀ (x2:Bool) (i2:Nat→Nat),p2=x2→K17 ⟨[(0,rI (parent1)),(46,rB (x2))],[],(i2 0),51⟩:=by
         intro x2 i2 e
         have h9:=hk2 _ e
         refine hK17 _ ?_
         refine aC R (fun hc7=>?_) (fun hc7=>?_)
         ·have h10:=Zn hc7 h9
          refine aS fun _ hK19 _=>(aR (sM R R (sQ R (Zs R iL iL) (sA R R (aZ (hK19 _ ?_))))))
          refine Zj ?_
          exact Y2_ h10 iL (.t (.d R))
         ·have h10:=Zo hc7 h9
          refine Zk (hK2 _ ?_)
          refine aS fun _ hK20 _=>(aR (sA R R (aZ (hK20 _ ?_))))
          refine Zj ?_
          exact Y2_ h10 iL (.t (.d R))
        refine aC R (fun hc8=>?_) (fun hc8=>?_)
        ·have h11:=Zn hc8 hp2
         refine Zk ?_
         exact wK17 _ _ ((by exact Zc ⟨jL,jL,Za⟩ Za nL)) (J2 _ (vec [(i1 0)]) (Zd h11).symm)
        ·have h11:=Zo hc8 hp2
         refine aR (sQ R (Zs R iL iL) (sA R R ?_))
         refine Zt ?_
         exact wK17 _ _ ((by exact Zc ⟨jL,jL,Za⟩ Za nL)) (J2 _ (vec [(i1 0)]) (Zd h11).symm)
 refine aC R (fun hc9=>?_) (fun hc9=>?_)
 ·have h12:=Zn hc9 hp1
  refine Zk ?_
  exact wK4 _ _ ((by exact Zc ⟨jL,jL,jL,Za⟩ Za nL)) (J1 _ (vec [n0]) (Zd h12).symm)
 ·have h12:=Zo hc9 hp1
  refine aS fun _ hK21 _=>(aR (sQ R (Zs R iL iL) (sA R R (aZ (hK21 _ ?_)))))
  refine aC R (fun hc10=>?_) (fun hc10=>?_)
  ·have h13:=Zn hc10 h12
   refine Zk ?_
   exact wK4 _ _ ((by exact Zc ⟨jL,jL,jL,Za⟩ Za nL)) (J1 _ (vec [n0]) (Zd h13).symm)
  ·have h13:=Zo hc10 h12
   refine aS fun _ hK22 _=>(aR (sQ R (Zs R iL iL) (sA R R (aZ (hK22 _ ?_)))))
   refine aC R (fun hc11=>?_) (fun hc11=>?_)
   ·have h14:=Zn hc11 h13
    refine Zk ?_
    exact wK4 _ _ ((by exact Zc ⟨jL,jL,jL,Za⟩ Za nL)) (J1 _ (vec [n0]) (Zd h14).symm)
   ·have h14:=Zo hc11 h13
    refine aS fun _ hK23 _=>(aR (sQ R (Zs R iL iL) (sA R R (aZ (hK23 _ ?_)))))
    refine aC R (fun hc12=>?_) (fun hc12=>?_)
    ·have h15:=Zn hc12 h14
     refine Zk ?_
     exact wK4 _ _ ((by exact Zc ⟨jL,jL,jL,Za⟩ Za nL)) (J1 _ (vec [n0]) (Zd h15).symm)
    ·have h15:=Zo hc12 h14
     refine aR (sQ R (Zs R iL iL) (sA R R ?_))
     refine Zt ?_
     exact wK4 _ _ ((by exact Zc ⟨jL,jL,jL,Za⟩ Za nL)) (J1 _ (vec [n0]) (Zd h15).symm)
theorem YIf {d1:GDoc} {kind1:Int} {YC8:List Int} {r:Int} (h:YDH d1 kind1 YC8=some r):ARO Tryz.prog 80 [.agg [qf d1.Nodes],rI (kind1),.r (.sl (YC8.map (rInt .i64)))] (rI (r)):=by
 unfold YDH at h
 refine Zu Tryz.func80 R R Tryz.ntmps80 R (Zf R) fun n0=>?_
 refine aS fun _ hK1 _=>(aR (Zh R R R (ZM (cs:=[qf d1.Nodes]) 3 R iL R R) (sA R R (aZ (hK1 _ ?_)))))
 refine aS fun K2 hK2 wK2=>(aS fun _ hK3 _=>(aR (sM R R (sQ R (Zz R YDr.slice iL) (sM R R (aZ (hK3 _ ?_)))))))
 refine Zp ?_
 refine jc1k h fun o1 hit1 hk1 he1=>?_
 have J1 : ∀ (u2:Unit) (i5:Nat→Nat),o1 = .nrm u2→K2 ⟨[],[],(i5 0),32⟩:=by
  intro u2 i5 e
  have h1:=hk1 _ e
  refine hK2 _ ?_
  refine aS fun _ hK4 _=>(aR (sA R R (aZ (hK4 _ ?_))))
  refine Zj ?_
  exact Y1_ h1 iL (.t (.d R))
 refine ZP (fun (x2:Int) i3=>⟨[(1,rI (kind1)),(2,.r (.sl (YC8.map (rInt .i64)))),(3,.ptr 3 n0 0 0),(10,rI ((YC8.length:Int))),(11,rI (x2))],[(3,some (.box n0 24 [qf d1.Nodes]))],(i3 0),32⟩) (vec [(n0+1)]) hit1 ((by exact Zc ⟨jL,jL,jL,jL,jL,Za⟩ ⟨.inl R,Za⟩ nL)) ?_
 intro x2 i3 v1 hv1 hx1
 have h2:YBX d1 kind1 YC8 x2=some v1:=hv1; unfold YBX at h2
 refine aS fun _ hK5 _=>(aR (sQ R (Zv R iL iL) (aZ (hK5 _ ?_))))
 refine aS fun _ hK6 _=>?_
 refine aC R (fun hc1=>?_) (fun hc1=>?_)
 ·have h3:=Zn hc1 h2
  refine Zk (hK6 _ ?_)
  refine aS fun _ hK7 _=>(Zp (aS fun _ hK8 _=>(aR (sM R R (sA R R (aZ (hK8 _ ?_)))))))
  refine aS fun _ hK9 _=>?_
  refine ZS hmix (by kernel_rfl) ?_
  refine Zm R R R (ZC R YEv iL R R) (Zm R R R (Ze R iL) (Zm R R R (Ze R iL) (Zl h3 fun x4 ex4 h4=>(Zm R R R (Zx R YDr.slice iL iL (fun _=>R) (fun _=>ex4)) (Zm R R R (ZO (d:=.int .i64 x4) R ts_3 iL R) (Zl h4 fun k1 ek1 h5=>?_))))))
  refine AQ.stepC R R R (r:=rI (k1)) (caps:=[]) (bs:=[.agg [qf d1.Nodes],rI (x4)]) R iL R ⟨⟨_,iL,.g (cs:=[.sl (d1.Nodes.map YAJ.row)]) R R⟩,⟨_,iL,.d R⟩,Za⟩ (fun _=>YGJ (ek1)) R ?_
  refine Zm R R R (YA8 R iL) ?_
  refine AQ.nil ?_
  refine hK9 _ ?_
  refine aS fun _ hK10 _=>(aS fun _ hK11 _=>?_)
  refine Zi (s':=⟨[(1,rI (kind1)),(2,.r (.sl (YC8.map (rInt .i64)))),(3,.ptr 3 n0 0 0),(8,rI (k1)),(10,rI ((YC8.length:Int))),(11,rI (x2))],[(3,some (.box n0 24 [qf d1.Nodes]))],(i3 0),32⟩) (by exact Zc ⟨jL,jL,jL,jL,jL,jL,Za⟩ ⟨.inl R,Za⟩ nL) ?_
  refine aR (sM R R (sQ R (Zv R iL iL) (aZ (hK11 _ ?_))))
  refine aC R (fun hc2=>?_) (fun hc2=>?_)
  ·have h6:=Zn hc2 h5
   refine aS fun _ hK12 _=>(aR (sA R R (aZ (hK12 _ ?_))))
   refine Zj ?_
   exact Y1_ (he1 _ (hx1 _ (Zd h6).symm)) iL (.t (.d R))
  ·have h6:=Zo hc2 h5
   refine Zk (hK10 _ ?_)
   refine aS fun _ hK13 _=>(aR (sM R R (sQ R (fB R YBQ iL fR R) (sQ R (Zb (a:=qf d1.Nodes) R YEN iL R R) (sM R R (Zl h6 fun x5 ex5 h7=>(sQ R (Zx R YDc.slice iL iL (fun _=>R) (fun _=>ex5)) (sQ R (Zw R YA0 iL) (sQ R (ZO (d:=.int .i64 x5.Kind) R ts_3 iL R) (Zl h7 fun r1 er1 h8=>(Zh R R R (Zr (r:=rB (r1)) (caps:=[]) (bs:=[rI (kind1),rI (x5.Kind)]) R iL R ⟨⟨_,iL,.d R⟩,⟨_,iL,.d R⟩,Za⟩ (fun _=>YIg (er1)) R) (sQ R (ZK R iL) (aZ (hK13 _ ?_))))))))))))))
   refine aC R (fun hc3=>?_) (fun hc3=>?_)
   ·have h9:=Zn hc3 h8
    refine aS fun _ hK14 _=>?_
    refine Zi (s':=⟨[],[],(i3 0),32⟩) (by exact Zc Za Za nL) ?_
    refine aR (sA R R (aZ (hK14 _ ?_)))
    refine Zj ?_
    exact Y1_ (he1 _ (hx1 _ (Zd h9).symm)) iL (.t (.d R))
   ·have h9:=Zo hc3 h8
    refine Zk (hK7 _ ?_)
    refine Zi (s':=⟨[(1,rI (kind1)),(2,.r (.sl (YC8.map (rInt .i64)))),(3,.ptr 3 n0 0 0),(10,rI ((YC8.length:Int))),(11,rI (x2))],[(3,some (.box n0 24 [qf d1.Nodes]))],(i3 0),32⟩) (by exact Zc ⟨jL,jL,jL,jL,jL,Za⟩ ⟨.inl R,Za⟩ nL) ?_
    refine aR (Zl h9 fun x6 ex6 h10=>(sQ R (ZI R iL iL (fun _=>ex6)) (sM R R ?_)))
    refine Zt ?_
    exact ZJ h10 (vec [(i3 0)]) ((by exact Zc ⟨jL,jL,jL,jL,jL,Za⟩ ⟨.inl R,Za⟩ nL))
 ·have h3:=Zo hc1 h2
  refine ZL ?_
  exact wK2 _ _ ((by exact Zc Za Za nL)) (J1 _ (vec [(i3 0)]) (hx1 _ (Zd h3).symm))
theorem YJq {d1:GDoc} {r:Int} (h:YBu d1=some r):ARO Tryz.prog 29 [.agg [qf d1.Nodes]] (rI (r)):=by
 unfold YBu at h
 refine Zu Tryz.func29 R R Tryz.ntmps29 R (Zf R) fun n0=>?_
 refine aS fun _ hK1 _=>(aR (Zh R R R (ZM (cs:=[qf d1.Nodes]) 1 R iL R R) (sA R R (aZ (hK1 _ ?_)))))
 refine aS fun _ hK2 _=>(aS fun _ hK3 _=>(aR (sQ R (fB R YBQ iL fR R) (sQ R (Zb (a:=qf d1.Nodes) R YEN iL R R) (sQ R (Zz R YDc.slice iL) (sQ R (Zs R iL iL) (aZ (hK3 _ ?_))))))))
 refine aC R (fun hc1=>?_) (fun hc1=>?_)
 ·have h1:=Zn hc1 h
  refine aS fun _ hK4 _=>(aR (sA R R (aZ (hK4 _ ?_))))
  refine Zj ?_
  exact Y1_ h1 iL (.t (.d R))
 ·have h1:=Zo hc1 h
  refine Zk (hK2 _ ?_)
  refine aS fun K5 hK5 wK5=>(aS fun _ hK6 _=>(aR (sQ R (fB R YBQ iL fR R) (sQ R (Zb (a:=qf d1.Nodes) R YEN iL R R) (sQ R (Zz R YDc.slice iL) (sM R R (aZ (hK6 _ ?_))))))))
  refine Zp ?_
  refine jc1k h1 fun o1 hit1 hk1 he1=>?_
  have J1 : ∀ (u2:Unit) (i5:Nat→Nat),o1 = .nrm u2→K5 ⟨[(1,.ptr 1 n0 0 0)],[(1,some (.box n0 24 [qf d1.Nodes]))],(i5 0),81⟩:=by
   intro u2 i5 e
   have h2:=hk1 _ e
   refine hK5 _ ?_
   refine aS fun K7 hK7 wK7=>(aS fun _ hK8 _=>(aR (sQ R (fB R YBQ iL fR R) (sQ R (Zb (a:=qf d1.Nodes) R YEN iL R R) (sQ R (Zz R YDc.slice iL) (sM R R (aZ (hK8 _ ?_))))))))
   refine Zp ?_
   refine jc1k h2 fun o2 hit2 hk2 he2=>?_
   have J2 : ∀ (u4:Unit) (i10:Nat→Nat),o2 = .nrm u4→K7 ⟨[],[],(i10 0),81⟩:=by
    intro u4 i10 e
    have h3:=hk2 _ e
    refine hK7 _ ?_
    refine aS fun _ hK9 _=>(aR (sA R R (aZ (hK9 _ ?_))))
    refine Zj ?_
    exact Y1_ h3 iL (.t (.d R))
   refine ZP (fun (x5:Int) i8=>⟨[(1,.ptr 1 n0 0 0),(59,rI ((d1.Nodes.length:Int))),(60,rI (x5))],[(1,some (.box n0 24 [qf d1.Nodes]))],(i8 0),81⟩) (vec [(i5 0)]) hit2 ((by exact Zc ⟨jL,jL,jL,Za⟩ ⟨.inl R,Za⟩ nL)) ?_
   intro x5 i8 v1 hv1 hx2
   have h4:YBS d1 x5=some v1:=hv1; unfold YBS at h4
   refine aS fun _ hK10 _=>(aR (sQ R (Zv R iL iL) (aZ (hK10 _ ?_))))
   refine aS fun _ hK11 _=>?_
   refine aC R (fun hc2=>?_) (fun hc2=>?_)
   ·have h5:=Zn hc2 h4
    refine Zk (hK11 _ ?_)
    refine aS fun _ hK12 _=>(Zp (aS fun _ hK13 _=>(aR (sM R R (sA R R (aZ (hK13 _ ?_)))))))
    refine aS fun _ hK14 _=>(Zl h5 fun x7 ex7 h6=>(Zl h6 fun r1 er1 h7=>?_))
    refine AW.regionP 13 [⟨some 63,(fun _=>.agg [qf d1.Nodes]),none,[]⟩,⟨some 64,(fun _=>.ptr 1 n0 0 0),none,[]⟩,⟨some 65,(fun _=>qf d1.Nodes),none,[]⟩,⟨some 66,(fun _=>rI (x5)),none,[]⟩,⟨some 67,(fun _=>.rop (YAJ.row x7) 0),none,[]⟩,⟨some 68,(fun _=>.rop (YAJ.row x7) 1),none,[]⟩,⟨some 69,(fun _=>rI (x7.Kind)),none,[]⟩,⟨some 70,(fun _=>.ptr 1 n0 0 0),none,[]⟩,⟨some 71,(fun _=>qf d1.Nodes),none,[]⟩,⟨some 72,(fun _=>rI (x5)),none,[]⟩,⟨some 73,(fun _=>.rop (YAJ.row x7) 0),none,[]⟩,⟨some 74,(fun _=>.agg (k6_ x7)),none,[]⟩,⟨some 75,(fun _=>.r (.sl (r1.map (rInt .i64)))),none,[]⟩] hmix (by kernel_rfl) (by exact ⟨fun _ _ h=>⟨R,fun _ _ e=>by cases e⟩,fun _ _ h=>⟨R,fun _ _ e=>by cases e⟩,fun _ _ h=>⟨R,fun _ _ e=>by cases e⟩,fun _ _ h=>⟨R,fun _ _ e=>by cases e⟩,fun _ _ h=>⟨R,fun _ _ e=>by cases e⟩,fun _ _ h=>⟨R,fun _ _ e=>by cases e⟩,fun _ _ h=>⟨R,fun _ _ e=>by cases e⟩,fun _ _ h=>⟨R,fun _ _ e=>by cases e⟩,fun _ _ h=>⟨R,fun _ _ e=>by cases e⟩,fun _ _ h=>⟨R,fun _ _ e=>by cases e⟩,fun _ _ h=>⟨R,fun _ _ e=>by cases e⟩,fun _ _ h=>⟨R,fun _ _ e=>by cases e⟩,fun _ _ h=>⟨R,fun _ _ e=>by cases e⟩,Za⟩) R (by exact ⟨ZH (n1:=fun n=>n) R R (by intro d h; cases h; rfl) R (fun _=>[(1,.ptr 1 n0 0 0)]) (fun _=>[(1,some (.box n0 24 [qf d1.Nodes]))]) (fun D G1 hr=>⟨YAq R R,Za⟩) (fun D G1 hr=>⟨YAj R R,Za⟩) (fun _ _=>R) (fun G1 e h' n=>ZB (v:=.agg [qf d1.Nodes]) (ZC R YEv (.inl R) R R) _),
      ZH (n1:=fun n=>n) R R (by intro d h; cases h; rfl) R (fun _=>[(1,.ptr 1 n0 0 0)]) (fun _=>[(1,some (.box n0 24 [qf d1.Nodes]))]) (fun D G1 hr=>⟨YAq R R,Za⟩) (fun D G1 hr=>⟨YAj R R,Za⟩) (fun _ _=>R) (fun G1 e h' n=>ZB (v:=.ptr 1 n0 0 0) (fB R YBQ (.inl R) (fun _=>R) R) _),
      ZH (n1:=fun n=>n) R R (by intro d h; cases h; rfl) R (fun _=>[(64,.ptr 1 n0 0 0)]) (fun _=>[(1,some (.box n0 24 [qf d1.Nodes]))]) (fun D G1 hr=>⟨ZE hr 1 R R (by kernel_rfl) R R,Za⟩) (fun D G1 hr=>⟨YAj R R,Za⟩) (fun _ _=>R) (fun G1 e h' n=>ZB (v:=qf d1.Nodes) (Zb (a:=qf d1.Nodes) R YEN (.inl R) R R) _),
      ZH (n1:=fun n=>n) R R (by intro d h; cases h; rfl) R (fun _=>[(5,rI (x5))]) (fun _=>[]) (fun D G1 hr=>⟨YAq R R,Za⟩) (fun D G1 hr=>Za) (fun _ _=>R) (fun G1 e h' n=>ZB (v:=rI (x5)) (Ze R (.inl R)) _),
      ZH (n1:=fun n=>n) R R (by intro d h; cases h; rfl) R (fun _=>[(65,qf d1.Nodes),(66,rI (x5))]) (fun _=>[]) (fun D G1 hr=>⟨ZE hr 2 R R (by kernel_rfl) R R,ZE hr 3 R R (by kernel_rfl) R R,Za⟩) (fun D G1 hr=>Za) (fun _ _=>R) (fun G1 e h' n=>ZB (v:=.rop (YAJ.row x7) 0) (Zx R YDc.slice (.inl R) (.inl R) (fun _=>R) (fun _=>ex7)) _),
      ZH (n1:=fun n=>n) R R (by intro d h; cases h; rfl) R (fun _=>[(67,.rop (YAJ.row x7) 0)]) (fun _=>[]) (fun D G1 hr=>⟨ZE hr 4 R R (by kernel_rfl) R R,Za⟩) (fun D G1 hr=>Za) (fun _ _=>R) (fun G1 e h' n=>ZB (v:=.rop (YAJ.row x7) 1) (Zw R YA0 (.inl R)) _),
      ZH (n1:=fun n=>n) R R (by intro d h; cases h; rfl) R (fun _=>[(68,.rop (YAJ.row x7) 1)]) (fun _=>[]) (fun D G1 hr=>⟨ZE hr 5 R R (by kernel_rfl) R R,Za⟩) (fun D G1 hr=>Za) (fun _ _=>R) (fun G1 e h' n=>ZB (v:=rI (x7.Kind)) (ZO (d:=.int .i64 x7.Kind) R ts_3 (.inl R) R) _),
      ZH (n1:=fun n=>n) R R (by intro d h; cases h; rfl) R (fun _=>[(1,.ptr 1 n0 0 0)]) (fun _=>[(1,some (.box n0 24 [qf d1.Nodes]))]) (fun D G1 hr=>⟨YAq R R,Za⟩) (fun D G1 hr=>⟨YAj R R,Za⟩) (fun _ _=>R) (fun G1 e h' n=>ZB (v:=.ptr 1 n0 0 0) (fB R YBQ (.inl R) (fun _=>R) R) _),
      ZH (n1:=fun n=>n) R R (by intro d h; cases h; rfl) R (fun _=>[(70,.ptr 1 n0 0 0)]) (fun _=>[(1,some (.box n0 24 [qf d1.Nodes]))]) (fun D G1 hr=>⟨ZE hr 7 R R (by kernel_rfl) R R,Za⟩) (fun D G1 hr=>⟨YAj R R,Za⟩) (fun _ _=>R) (fun G1 e h' n=>ZB (v:=qf d1.Nodes) (Zb (a:=qf d1.Nodes) R YEN (.inl R) R R) _),
      ZH (n1:=fun n=>n) R R (by intro d h; cases h; rfl) R (fun _=>[(5,rI (x5))]) (fun _=>[]) (fun D G1 hr=>⟨YAq R R,Za⟩) (fun D G1 hr=>Za) (fun _ _=>R) (fun G1 e h' n=>ZB (v:=rI (x5)) (Ze R (.inl R)) _),
      ZH (n1:=fun n=>n) R R (by intro d h; cases h; rfl) R (fun _=>[(71,qf d1.Nodes),(72,rI (x5))]) (fun _=>[]) (fun D G1 hr=>⟨ZE hr 8 R R (by kernel_rfl) R R,ZE hr 9 R R (by kernel_rfl) R R,Za⟩) (fun D G1 hr=>Za) (fun _ _=>R) (fun G1 e h' n=>ZB (v:=.rop (YAJ.row x7) 0) (Zx R YDc.slice (.inl R) (.inl R) (fun _=>R) (fun _=>ex7)) _),
      ZH (n1:=fun n=>n) R R (by intro d h; cases h; rfl) R (fun _=>[(73,.rop (YAJ.row x7) 0)]) (fun _=>[]) (fun D G1 hr=>⟨ZE hr 10 R R (by kernel_rfl) R R,Za⟩) (fun D G1 hr=>Za) (fun _ _=>R) (fun G1 e h' n=>ZB (v:=.agg (k6_ x7)) (ZG (cs:=(k6_ x7)) R YFl (.inl R) R R) _),
      ZH (n1:=fun n=>n) R R (by intro d h; cases h; rfl) R (fun _=>[(74,.agg (k6_ x7))]) (fun _=>[]) (fun D G1 hr=>⟨ZE hr 11 R R (by kernel_rfl) R R,Za⟩) (fun D G1 hr=>Za) (fun _ _=>R) (fun G1 e h' n=>YCs (r:=.r (.sl (r1.map (rInt .i64)))) (caps:=[]) (bs:=(k4_ x7)) R (.inl R) R ⟨.inl ⟨(.inl R),R⟩,Za⟩ (fun _=>YLS (er1))),
      Za⟩) fun G1 n1=>?_
    refine AOps.weak (s':=⟨[(1,.ptr 1 n0 0 0),(5,rI (x5)),(59,rI ((d1.Nodes.length:Int))),(60,rI (x5)),(61,rB ((decide (x5<(d1.Nodes.length:Int))))),(62,rI (x5)),(63,.agg [qf d1.Nodes]),(64,.ptr 1 n0 0 0),(65,qf d1.Nodes),(66,rI (x5)),(67,.rop (YAJ.row x7) 0),(68,.rop (YAJ.row x7) 1),(69,rI (x7.Kind)),(70,.ptr 1 n0 0 0),(71,qf d1.Nodes),(72,rI (x5)),(73,.rop (YAJ.row x7) 0),(74,.agg (k6_ x7)),(75,.r (.sl (r1.map (rInt .i64))))],[(1,some (.box n0 24 [qf d1.Nodes]))],n1,81⟩) (by exact Zc ⟨jL,jL,jL,jL,jL,jL,jL,jL,jL,jL,jL,jL,jL,jL,jL,jL,jL,jL,jL,Za⟩ ⟨.inl R,Za⟩ nL) ?_
    refine Zl h7 fun e1 ee1 h8=>(Zh R R R (Zr (r:=rI (e1)) (caps:=[]) (bs:=[.agg [qf d1.Nodes],rI (x7.Kind),.r (.sl (r1.map (rInt .i64)))]) R iL R ⟨⟨_,iL,.g (cs:=[.sl (d1.Nodes.map YAJ.row)]) R R⟩,⟨_,iL,.d R⟩,⟨_,iL,.d R⟩,Za⟩ (fun _=>YIf (ee1)) R) (sA R R (aZ (hK14 _ ?_))))
    refine aS fun _ hK15 _=>?_
    refine Zi (s':=⟨[(1,.ptr 1 n0 0 0),(6,rI (e1)),(59,rI ((d1.Nodes.length:Int))),(60,rI (x5))],[(1,some (.box n0 24 [qf d1.Nodes]))],n1,81⟩) (by exact Zc ⟨jL,jL,jL,jL,Za⟩ ⟨.inl R,Za⟩ nL) ?_
    refine aR (sM R R (sQ R (ZD R iL iL) (aZ (hK15 _ ?_))))
    refine aC R (fun hc3=>?_) (fun hc3=>?_)
    ·have h9:=Zn hc3 h8
     refine aS fun _ hK16 _=>(aR (sM R R (sA R R (aZ (hK16 _ ?_)))))
     refine Zj ?_
     exact Y1_ (he2 _ (hx2 _ (Zd h9).symm)) iL (.t (.d R))
    ·have h9:=Zo hc3 h8
     refine Zk (hK12 _ ?_)
     refine aR (Zl h9 fun x8 ex8 h10=>(sQ R (ZI R iL iL (fun _=>ex8)) (sM R R ?_)))
     refine Zt ?_
     exact ZJ h10 (vec [n1]) ((by exact Zc ⟨jL,jL,jL,Za⟩ ⟨.inl R,Za⟩ nL))
   ·have h5:=Zo hc2 h4
    refine ZL ?_
    exact wK7 _ _ ((by exact Zc Za Za nL)) (J2 _ (vec [(i8 0)]) (hx2 _ (Zd h5).symm))
  refine ZP (fun (x2:Int) i3=>⟨[(1,.ptr 1 n0 0 0),(13,rI ((d1.Nodes.length:Int))),(14,rI (x2))],[(1,some (.box n0 24 [qf d1.Nodes]))],(i3 0),81⟩) (vec [(n0+1)]) hit1 ((by exact Zc ⟨jL,jL,jL,Za⟩ ⟨.inl R,Za⟩ nL)) ?_
  intro x2 i3 v2 hv2 hx1
  have h11:YBp d1 x2=some v2:=hv2; unfold YBp at h11
  refine aS fun _ hK17 _=>(aR (sQ R (Zv R iL iL) (aZ (hK17 _ ?_))))
  refine aS fun _ hK18 _=>?_
  refine aC R (fun hc4=>?_) (fun hc4=>?_)
  ·have h12:=Zn hc4 h11
   refine Zk (hK18 _ ?_)
   refine aS fun _ hK19 _=>(Zp (aS fun _ hK20 _=>(aR (sM R R (sA R R (aZ (hK20 _ ?_)))))))
   refine aS fun _ hK21 _=>(aS fun _ hK22 _=>(aR (sQ R (fB R YBQ iL fR R) (sQ R (Zb (a:=qf d1.Nodes) R YEN iL R R) (sM R R (Zl h12 fun x9 ex9 h13=>(sQ R (Zx R YDc.slice iL iL (fun _=>R) (fun _=>ex9)) (sQ R (ZG (cs:=(k6_ x9)) R YFl iL R R) (Zl h13 fun e2 ee2 h14=>(Zh R R R (Zr (r:=rI (e2)) (caps:=[]) (bs:=(k4_ x9)) R iL R ⟨⟨_,iL,.g (cs:=[.int .i64 x9.ID,.int .i64 x9.Kind,.sl (x9.Attrs.map YAT.row),.sl (x9.Flow.map YAN.row),.int .i64 x9.Grid.Rows,.int .i64 x9.Grid.Cols,.sl (x9.Grid.Cells.map YAL.row),.sl (x9.Grid.Merges.map YAQ.row),.sl (x9.Draw.map YAI.row)]) R R⟩,Za⟩ (fun _=>YIh (ee2)) R) (sA R R (aZ (hK22 _ ?_)))))))))))))
   refine aS fun _ hK23 _=>(aR (sM R R (sQ R (ZD R iL iL) (aZ (hK23 _ ?_)))))
   refine aC R (fun hc5=>?_) (fun hc5=>?_)
   ·have h15:=Zn hc5 h14
    refine aS fun _ hK24 _=>?_
    refine Zi (s':=⟨[(4,rI (e2))],[],(i3 0),81⟩) (by exact Zc ⟨jL,Za⟩ Za nL) ?_
    refine aR (sM R R (sA R R (aZ (hK24 _ ?_))))
    refine Zj ?_
    exact Y1_ (he1 _ (hx1 _ (Zd h15).symm)) iL (.t (.d R))
   ·have h15:=Zo hc5 h14
    refine Zk (hK21 _ ?_)
    refine aS fun _ hK25 _=>?_
    refine Zi (s':=⟨[(1,.ptr 1 n0 0 0),(3,rI (x2)),(13,rI ((d1.Nodes.length:Int))),(14,rI (x2))],[(1,some (.box n0 24 [qf d1.Nodes]))],(i3 0),81⟩) (by exact Zc ⟨jL,jL,jL,jL,Za⟩ ⟨.inl R,Za⟩ nL) ?_
    refine ZS hmix (by kernel_rfl) ?_
    refine Zm R R R (Ze R iL) (Zm R R R (Zs R iL iL) (Zm R R R (Ze R iL) ?_))
    refine Zg (.one R R R) R R (fB R YBQ iL fR R) ?_
    refine Zg (.one R R R) R R (Zb (a:=qf d1.Nodes) R YEN (iR R) R R) ?_
    refine Zl h15 fun x10 ex10 h16=>?_
    refine Zg (.one R R R) R R (Zx R YDc.slice (iR R) iL (fun _=>R) (gdt ex10)) ?_
    refine Zg (.one R R R) R R (Zw R YBn (iR R)) ?_
    refine Zg (.one R R R) R R (ZO (d:=.int .i64 x10.ID) R ts_3 (iR R) R) ?_
    refine Zg (.one R R R) R R (ZD R (iR R) iL) ?_
    refine Zm R R R (Zq R iL (iR R)) (Zm R R R (Ze R iL) ?_)
    refine Zg (.one R R R) R R (Ze R iL) ?_
    refine Zg (.one R R R) R R (ZR R (iR R) iL) ?_
    refine Zg (.one R R R) R R (Ze R (iR R)) ?_
    refine Zg (.two R R R) R R (fB R YBQ iL fR R) ?_
    refine Zg (.two R R R) R R (Zb (a:=qf d1.Nodes) R YEN (iR R) R R) ?_
    refine Zg (.two R R R) R R (Ze R iL) ?_
    refine Zg (.two R R R) R R (Zx R YDc.slice (iR R) (iR R) (fun _=>R) (fun _=>ex9)) ?_
    refine Zg (.two R R R) R R (Zw R YBn (iR R)) ?_
    refine Zg (.two R R R) R R (ZO (d:=.int .i64 x9.ID) R ts_3 (iR R) R) ?_
    refine Zg (.two R R R) R R (fB R YBQ iL fR R) ?_
    refine Zg (.two R R R) R R (Zb (a:=qf d1.Nodes) R YEN (iR R) R R) ?_
    refine Zg (.two R R R) R R (Ze R iL) ?_
    refine Zl h16 fun x11 ex11 h17=>?_
    refine Zg (.two R R R) R R (YBA R (iR R) iL (gdt ex11)) ?_
    refine Zl h17 fun x12 ex12 h18=>?_
    refine Zg (.two R R R) R R (Zx R YDc.slice (iR R) (iR R) (fun _=>R) (gdt ex12)) ?_
    refine Zg (.two R R R) R R (Zw R YBn (iR R)) ?_
    refine Zg (.two R R R) R R (ZO (d:=.int .i64 x12.ID) R ts_3 (iR R) R) ?_
    refine Zg (.two R R R) R R (YET R (iR R) (iR R)) ?_
    refine Zg (.one R R R) R R (Zq R (iR R) (iR R)) ?_
    refine Zm R R R (Zy R iL (iR R)) ?_
    refine AQ.nil ?_
    refine hK25 _ ?_
    refine aC R (fun hc6=>?_) (fun hc6=>?_)
    ·have h19:=Zn hc6 h18
     refine aS fun _ hK26 _=>?_
     refine Zi (s':=⟨[],[],(i3 0),81⟩) (by exact Zc Za Za nL) ?_
     refine aR (sA R R (aZ (hK26 _ ?_)))
     refine Zj ?_
     exact Y1_ (he1 _ (hx1 _ (Zd h19).symm)) iL (.t (.d R))
    ·have h19:=Zo hc6 h18
     refine Zk (hK19 _ ?_)
     refine aR (Zl h19 fun x13 ex13 h20=>(sQ R (ZI R iL iL (fun _=>ex13)) (sM R R ?_)))
     refine Zt ?_
     exact ZJ h20 (vec [(i3 0)]) ((by exact Zc ⟨jL,jL,jL,Za⟩ ⟨.inl R,Za⟩ nL))
  ·have h12:=Zo hc4 h11
   refine ZL ?_
   exact wK5 _ _ ((by exact Zc ⟨jL,Za⟩ ⟨.inl R,Za⟩ nL)) (J1 _ (vec [(i3 0)]) (hx1 _ (Zd h12).symm))
theorem YCN {a1:List YAT} {b1:List YAT} {r:Bool} (h:YBD a1 b1=some r):ARO Tryz.prog 78 [qa a1,qa b1] (rB (r)):=by
 unfold YBD at h
 refine Zu Tryz.func78 R R Tryz.ntmps78 R (Zf R) fun n0=>?_
 refine aS fun _ hK1 _=>(aR (sA R R (aZ (hK1 _ ?_))))
 refine aS fun _ hK2 _=>(aS fun _ hK3 _=>(aR (sM R R (sQ R (Zz R YEP.slice iL) (sM R R (sQ R (Zz R YEP.slice iL) (sQ R (ZD R iL iL) (aZ (hK3 _ ?_)))))))))
 refine aC R (fun hc1=>?_) (fun hc1=>?_)
 ·have h1:=Zn hc1 h
  refine aS fun _ hK4 _=>(aR (sA R R (aZ (hK4 _ ?_))))
  refine Zj ?_
  exact Y2_ h1 iL (.t (.d R))
 ·have h1:=Zo hc1 h
  refine Zk (hK2 _ ?_)
  refine aS fun K5 hK5 wK5=>(aS fun _ hK6 _=>(aR (sM R R (sQ R (Zz R YEP.slice iL) (sM R R (aZ (hK6 _ ?_)))))))
  refine Zp ?_
  refine jc1k h1 fun o1 hit1 hk1 he1=>?_
  have J1 : ∀ (u2:Unit) (i5:Nat→Nat),o1 = .nrm u2→K5 ⟨[],[],(i5 0),26⟩:=by
   intro u2 i5 e
   have h2:=hk1 _ e
   refine hK5 _ ?_
   refine aS fun _ hK7 _=>(aR (sA R R (aZ (hK7 _ ?_))))
   refine Zj ?_
   exact Y2_ h2 iL (.t (.d R))
  refine ZP (fun (x2:Int) i3=>⟨[(0,qa a1),(1,qa b1),(12,rI ((a1.length:Int))),(13,rI (x2))],[],(i3 0),26⟩) (vec [n0]) hit1 ((by exact Zc ⟨jL,jL,jL,jL,Za⟩ Za nL)) ?_
  intro x2 i3 v1 hv1 hx1
  have h3:YB9 a1 b1 x2=some v1:=hv1; unfold YB9 at h3
  refine aS fun _ hK8 _=>(aR (sQ R (Zv R iL iL) (aZ (hK8 _ ?_))))
  refine aS fun _ hK9 _=>?_
  refine aC R (fun hc2=>?_) (fun hc2=>?_)
  ·have h4:=Zn hc2 h3
   refine Zk (hK9 _ ?_)
   refine aS fun _ hK10 _=>(Zp (aS fun _ hK11 _=>(aR (sM R R (sA R R (aZ (hK11 _ ?_)))))))
   refine aS fun _ hK12 _=>?_
   refine ZS hmix (by kernel_rfl) ?_
   refine Zm R R R (Ze R iL) (Zm R R R (Ze R iL) (Zl h4 fun x4 ex4 h5=>(Zm R R R (Zx R YEP.slice iL iL (fun _=>R) (fun _=>ex4)) (Zm R R R (ZG (cs:=(k19_ x4)) R YPH iL R R) (Zm R R R (Ze R iL) (Zm R R R (Ze R iL) (Zl h5 fun x5 ex5 h6=>(Zm R R R (Zx R YEP.slice iL iL (fun _=>R) (fun _=>ex5)) (Zm R R R (ZG (cs:=(k19_ x5)) R YPH iL R R) (Zm R R R (YEU R te_58 iL iL R) ?_))))))))))
   refine AQ.nil ?_
   refine hK12 _ ?_
   refine aC R (fun hc3=>?_) (fun hc3=>?_)
   ·have h7:=Zn hc3 h6
    refine aS fun _ hK13 _=>?_
    refine Zi (s':=⟨[],[],(i3 0),26⟩) (by exact Zc Za Za nL) ?_
    refine aR (sA R R (aZ (hK13 _ ?_)))
    refine Zj ?_
    exact Y2_ (he1 _ (hx1 _ (Zd h7).symm)) iL (.t (.d R))
   ·have h7:=Zo hc3 h6
    refine Zk (hK10 _ ?_)
    refine Zi (s':=⟨[(0,qa a1),(1,qa b1),(12,rI ((a1.length:Int))),(13,rI (x2))],[],(i3 0),26⟩) (by exact Zc ⟨jL,jL,jL,jL,Za⟩ Za nL) ?_
    refine aR (Zl h7 fun x6 ex6 h8=>(sQ R (ZI R iL iL (fun _=>ex6)) (sM R R ?_)))
    refine Zt ?_
    exact ZJ h8 (vec [(i3 0)]) ((by exact Zc ⟨jL,jL,jL,jL,Za⟩ Za nL))
  ·have h4:=Zo hc2 h3
   refine ZL ?_
   exact wK5 _ _ ((by exact Zc Za Za nL)) (J1 _ (vec [(i3 0)]) (hx1 _ (Zd h4).symm))
theorem YJn {a1:YAN} {b1:YAN} {r:Bool} (h:YDx a1 b1=some r):ARO Tryz.prog 114 [.agg (k20_ a1),.agg (k20_ b1)] (rB (r)):=by
 unfold YDx at h
 refine Zu Tryz.func114 R R Tryz.ntmps114 R (Zf R) fun n0=>?_
 refine aS fun _ hK1 _=>(aR (Zh R R R (ZM (cs:=(k20_ a1)) 2 R iL R R) (Zh R R R (ZM (cs:=(k20_ b1)) 3 R iL R R) (sA R R (aZ (hK1 _ ?_))))))
 refine aS fun _ hK2 _=>(aR (sQ R (fB R YEQ iL fR R) (sQ R (Zb (a:=rI (a1.Char)) R ts_3 iL R R) (sQ R (fB R YEQ iL fR R) (sQ R (Zb (a:=rI (b1.Char)) R ts_3 iL R R) (sQ R (Zs R iL iL) (sM R R (sV R R R (fB R YCI iL fR R) (sV R R R (Zb (a:=rI (a1.Ref)) R ts_3 (iR R) R R) (sV R R R (fB R YCI iL fR R) (sV R R R (Zb (a:=rI (b1.Ref)) R ts_3 (iR R) R R) (sV R R R (Zs R (iR R) (iR R)) (sQ R (Zq R iL (iR R)) (sM R R (sV R R R (fB R YKl iL fR R) (sV R R R (Zb (a:=qa a1.Attrs) R YEm (iR R) R R) (sV R R R (fB R YKl iL fR R) (sV R R R (Zb (a:=qa b1.Attrs) R YEm (iR R) R R) (Zl h fun r1 er1 h1=>?_)))))))))))))))))))
 refine ZA (.one R R R) R R (Zr (r:=rB (r1)) (caps:=[]) (bs:=[qa a1.Attrs,qa b1.Attrs]) R iL R ⟨⟨_,(iR R),.d R⟩,⟨_,(iR R),.d R⟩,Za⟩ (fun hg=>YCN (gdt er1 hg)) R) ?_
 refine sQ R (Zq R iL (iR R)) (sA R R (aZ (hK2 _ ?_)))
 refine Zj ?_
 exact Y2_ h1 iL (.t (.d R))
theorem YGZ {a1:List YAN} {b1:List YAN} {r:Bool} (h:YC0 a1 b1=some r):ARO Tryz.prog 62 [qe a1,qe b1] (rB (r)):=by
 unfold YC0 at h
 refine Zu Tryz.func62 R R Tryz.ntmps62 R (Zf R) fun n0=>?_
 refine aS fun _ hK1 _=>(aR (sA R R (aZ (hK1 _ ?_))))
 refine aS fun _ hK2 _=>(aS fun _ hK3 _=>(aR (sM R R (sQ R (Zz R YDf.slice iL) (sM R R (sQ R (Zz R YDf.slice iL) (sQ R (ZD R iL iL) (aZ (hK3 _ ?_)))))))))
 refine aC R (fun hc1=>?_) (fun hc1=>?_)
 ·have h1:=Zn hc1 h
  refine aS fun _ hK4 _=>(aR (sA R R (aZ (hK4 _ ?_))))
  refine Zj ?_
  exact Y2_ h1 iL (.t (.d R))
 ·have h1:=Zo hc1 h
  refine Zk (hK2 _ ?_)
  refine aS fun K5 hK5 wK5=>(aS fun _ hK6 _=>(aR (sM R R (sQ R (Zz R YDf.slice iL) (sM R R (aZ (hK6 _ ?_)))))))
  refine Zp ?_
  refine jc1k h1 fun o1 hit1 hk1 he1=>?_
  have J1 : ∀ (u2:Unit) (i5:Nat→Nat),o1 = .nrm u2→K5 ⟨[],[],(i5 0),27⟩:=by
   intro u2 i5 e
   have h2:=hk1 _ e
   refine hK5 _ ?_
   refine aS fun _ hK7 _=>(aR (sA R R (aZ (hK7 _ ?_))))
   refine Zj ?_
   exact Y2_ h2 iL (.t (.d R))
  refine ZP (fun (x2:Int) i3=>⟨[(0,qe a1),(1,qe b1),(12,rI ((a1.length:Int))),(13,rI (x2))],[],(i3 0),27⟩) (vec [n0]) hit1 ((by exact Zc ⟨jL,jL,jL,jL,Za⟩ Za nL)) ?_
  intro x2 i3 v1 hv1 hx1
  have h3:YCP a1 b1 x2=some v1:=hv1; unfold YCP at h3
  refine aS fun _ hK8 _=>(aR (sQ R (Zv R iL iL) (aZ (hK8 _ ?_))))
  refine aS fun _ hK9 _=>?_
  refine aC R (fun hc2=>?_) (fun hc2=>?_)
  ·have h4:=Zn hc2 h3
   refine Zk (hK9 _ ?_)
   refine aS fun _ hK10 _=>(Zp (aS fun _ hK11 _=>(aR (sM R R (sA R R (aZ (hK11 _ ?_)))))))
   refine aS fun _ hK12 _=>?_
   refine ZS hmix (by kernel_rfl) ?_
   refine Zm R R R (Ze R iL) (Zm R R R (Ze R iL) (Zl h4 fun x4 ex4 h5=>(Zm R R R (Zx R YDf.slice iL iL (fun _=>R) (fun _=>ex4)) (Zm R R R (ZG (cs:=(k20_ x4)) R YLe iL R R) (Zm R R R (Ze R iL) (Zm R R R (Ze R iL) (Zl h5 fun x5 ex5 h6=>(Zm R R R (Zx R YDf.slice iL iL (fun _=>R) (fun _=>ex5)) (Zm R R R (ZG (cs:=(k20_ x5)) R YLe iL R R) (Zl h6 fun r1 er1 h7=>?_))))))))))
   refine AQ.stepC R R R (r:=rB (r1)) (caps:=[]) (bs:=[.agg (k20_ x4),.agg (k20_ x5)]) R iL R ⟨⟨_,iL,.g (cs:=[.int .i64 x4.Char,.int .i64 x4.Ref,.sl (x4.Attrs.map YAT.row)]) R R⟩,⟨_,iL,.g (cs:=[.int .i64 x5.Char,.int .i64 x5.Ref,.sl (x5.Attrs.map YAT.row)]) R R⟩,Za⟩ (fun _=>YJn (er1)) R ?_
   refine Zm R R R (ZK R iL) ?_
   refine AQ.nil ?_
   refine hK12 _ ?_
   refine aC R (fun hc3=>?_) (fun hc3=>?_)
   ·have h8:=Zn hc3 h7
    refine aS fun _ hK13 _=>?_
    refine Zi (s':=⟨[],[],(i3 0),27⟩) (by exact Zc Za Za nL) ?_
    refine aR (sA R R (aZ (hK13 _ ?_)))
    refine Zj ?_
    exact Y2_ (he1 _ (hx1 _ (Zd h8).symm)) iL (.t (.d R))
   ·have h8:=Zo hc3 h7
    refine Zk (hK10 _ ?_)
    refine Zi (s':=⟨[(0,qe a1),(1,qe b1),(12,rI ((a1.length:Int))),(13,rI (x2))],[],(i3 0),27⟩) (by exact Zc ⟨jL,jL,jL,jL,Za⟩ Za nL) ?_
    refine aR (Zl h8 fun x6 ex6 h9=>(sQ R (ZI R iL iL (fun _=>ex6)) (sM R R ?_)))
    refine Zt ?_
    exact ZJ h9 (vec [(i3 0)]) ((by exact Zc ⟨jL,jL,jL,jL,Za⟩ Za nL))
  ·have h4:=Zo hc2 h3
   refine ZL ?_
   exact wK5 _ _ ((by exact Zc Za Za nL)) (J1 _ (vec [(i3 0)]) (hx1 _ (Zd h4).symm))
theorem YJp {a1:YAL} {b1:YAL} {r:Bool} (h:YDz a1 b1=some r):ARO Tryz.prog 176 [.agg (k9_ a1),.agg (k9_ b1)] (rB (r)):=by
 unfold YDz at h
 refine Zu Tryz.func176 R R Tryz.ntmps176 R (Zf R) fun n0=>?_
 refine aS fun _ hK1 _=>(aR (Zh R R R (ZM (cs:=(k9_ a1)) 2 R iL R R) (Zh R R R (ZM (cs:=(k9_ b1)) 3 R iL R R) (sA R R (aZ (hK1 _ ?_))))))
 refine aS fun _ hK2 _=>(aR (sQ R (fB R YBy iL fR R) (sQ R (Zb (a:=rI (a1.Row)) R ts_3 iL R R) (sQ R (fB R YBy iL fR R) (sQ R (Zb (a:=rI (b1.Row)) R ts_3 iL R R) (sQ R (Zs R iL iL) (sM R R (sV R R R (fB R YCV iL fR R) (sV R R R (Zb (a:=rI (a1.Col)) R ts_3 (iR R) R R) (sV R R R (fB R YCV iL fR R) (sV R R R (Zb (a:=rI (b1.Col)) R ts_3 (iR R) R R) (sV R R R (Zs R (iR R) (iR R)) (sQ R (Zq R iL (iR R)) (sM R R (sV R R R (fB R YDq iL fR R) (sV R R R (Zb (a:=.r (.str a1.Text)) R ts_9 (iR R) R R) (sV R R R (fB R YDq iL fR R) (sV R R R (Zb (a:=.r (.str b1.Text)) R ts_9 (iR R) R R) (sV R R R (YFP R (iR R) (iR R)) (sQ R (Zq R iL (iR R)) (sM R R (sV R R R (fB R YBa iL fR R) (sV R R R (Zb (a:=rI (a1.Ref)) R ts_3 (iR R) R R) (sV R R R (fB R YBa iL fR R) (sV R R R (Zb (a:=rI (b1.Ref)) R ts_3 (iR R) R R) (sV R R R (Zs R (iR R) (iR R)) (sQ R (Zq R iL (iR R)) (sM R R (sV R R R (fB R YDp iL fR R) ?_)))))))))))))))))))))))))))))
 refine sV R R R (Zb (a:=qa a1.Attrs) R YEm (iR R) R R) (sV R R R (fB R YDp iL fR R) (sV R R R (Zb (a:=qa b1.Attrs) R YEm (iR R) R R) (Zl h fun r1 er1 h1=>?_)))
 refine ZA (.one R R R) R R (Zr (r:=rB (r1)) (caps:=[]) (bs:=[qa a1.Attrs,qa b1.Attrs]) R iL R ⟨⟨_,(iR R),.d R⟩,⟨_,(iR R),.d R⟩,Za⟩ (fun hg=>YCN (gdt er1 hg)) R) ?_
 refine sQ R (Zq R iL (iR R)) (sA R R (aZ (hK2 _ ?_)))
 refine Zj ?_
 exact Y2_ h1 iL (.t (.d R))
theorem YFq {a1:List YAL} {b1:List YAL} {r:Bool} (h:YCY a1 b1=some r):ARO Tryz.prog 133 [qc a1,qc b1] (rB (r)):=by
 unfold YCY at h
 refine Zu Tryz.func133 R R Tryz.ntmps133 R (Zf R) fun n0=>?_
 refine aS fun _ hK1 _=>(aR (sA R R (aZ (hK1 _ ?_))))
 refine aS fun _ hK2 _=>(aS fun _ hK3 _=>(aR (sM R R (sQ R (Zz R YB2.slice iL) (sM R R (sQ R (Zz R YB2.slice iL) (sQ R (ZD R iL iL) (aZ (hK3 _ ?_)))))))))
 refine aC R (fun hc1=>?_) (fun hc1=>?_)
 ·have h1:=Zn hc1 h
  refine aS fun _ hK4 _=>(aR (sA R R (aZ (hK4 _ ?_))))
  refine Zj ?_
  exact Y2_ h1 iL (.t (.d R))
 ·have h1:=Zo hc1 h
  refine Zk (hK2 _ ?_)
  refine aS fun K5 hK5 wK5=>(aS fun _ hK6 _=>(aR (sM R R (sQ R (Zz R YB2.slice iL) (sM R R (aZ (hK6 _ ?_)))))))
  refine Zp ?_
  refine jc1k h1 fun o1 hit1 hk1 he1=>?_
  have J1 : ∀ (u2:Unit) (i5:Nat→Nat),o1 = .nrm u2→K5 ⟨[],[],(i5 0),27⟩:=by
   intro u2 i5 e
   have h2:=hk1 _ e
   refine hK5 _ ?_
   refine aS fun _ hK7 _=>(aR (sA R R (aZ (hK7 _ ?_))))
   refine Zj ?_
   exact Y2_ h2 iL (.t (.d R))
  refine ZP (fun (x2:Int) i3=>⟨[(0,qc a1),(1,qc b1),(12,rI ((a1.length:Int))),(13,rI (x2))],[],(i3 0),27⟩) (vec [n0]) hit1 ((by exact Zc ⟨jL,jL,jL,jL,Za⟩ Za nL)) ?_
  intro x2 i3 v1 hv1 hx1
  have h3:YB7 a1 b1 x2=some v1:=hv1; unfold YB7 at h3
  refine aS fun _ hK8 _=>(aR (sQ R (Zv R iL iL) (aZ (hK8 _ ?_))))
  refine aS fun _ hK9 _=>?_
  refine aC R (fun hc2=>?_) (fun hc2=>?_)
  ·have h4:=Zn hc2 h3
   refine Zk (hK9 _ ?_)
   refine aS fun _ hK10 _=>(Zp (aS fun _ hK11 _=>(aR (sM R R (sA R R (aZ (hK11 _ ?_)))))))
   refine aS fun _ hK12 _=>?_
   refine ZS hmix (by kernel_rfl) ?_
   refine Zm R R R (Ze R iL) (Zm R R R (Ze R iL) (Zl h4 fun x4 ex4 h5=>(Zm R R R (Zx R YB2.slice iL iL (fun _=>R) (fun _=>ex4)) (Zm R R R (ZG (cs:=(k9_ x4)) R YES iL R R) (Zm R R R (Ze R iL) (Zm R R R (Ze R iL) (Zl h5 fun x5 ex5 h6=>(Zm R R R (Zx R YB2.slice iL iL (fun _=>R) (fun _=>ex5)) (Zm R R R (ZG (cs:=(k9_ x5)) R YES iL R R) (Zl h6 fun r1 er1 h7=>?_))))))))))
   refine AQ.stepC R R R (r:=rB (r1)) (caps:=[]) (bs:=[.agg (k9_ x4),.agg (k9_ x5)]) R iL R ⟨⟨_,iL,.g (cs:=[.int .i64 x4.Row,.int .i64 x4.Col,.str x4.Text,.int .i64 x4.Ref,.sl (x4.Attrs.map YAT.row)]) R R⟩,⟨_,iL,.g (cs:=[.int .i64 x5.Row,.int .i64 x5.Col,.str x5.Text,.int .i64 x5.Ref,.sl (x5.Attrs.map YAT.row)]) R R⟩,Za⟩ (fun _=>YJp (er1)) R ?_
   refine Zm R R R (ZK R iL) ?_
   refine AQ.nil ?_
   refine hK12 _ ?_
   refine aC R (fun hc3=>?_) (fun hc3=>?_)
   ·have h8:=Zn hc3 h7
    refine aS fun _ hK13 _=>?_
    refine Zi (s':=⟨[],[],(i3 0),27⟩) (by exact Zc Za Za nL) ?_
    refine aR (sA R R (aZ (hK13 _ ?_)))
    refine Zj ?_
    exact Y2_ (he1 _ (hx1 _ (Zd h8).symm)) iL (.t (.d R))
   ·have h8:=Zo hc3 h7
    refine Zk (hK10 _ ?_)
    refine Zi (s':=⟨[(0,qc a1),(1,qc b1),(12,rI ((a1.length:Int))),(13,rI (x2))],[],(i3 0),27⟩) (by exact Zc ⟨jL,jL,jL,jL,Za⟩ Za nL) ?_
    refine aR (Zl h8 fun x6 ex6 h9=>(sQ R (ZI R iL iL (fun _=>ex6)) (sM R R ?_)))
    refine Zt ?_
    exact ZJ h9 (vec [(i3 0)]) ((by exact Zc ⟨jL,jL,jL,jL,Za⟩ Za nL))
  ·have h4:=Zo hc2 h3
   refine ZL ?_
   exact wK5 _ _ ((by exact Zc Za Za nL)) (J1 _ (vec [(i3 0)]) (hx1 _ (Zd h4).symm))
theorem YEM {a1:List YAQ} {b1:List YAQ} {r:Bool} (h:YBz a1 b1=some r):ARO Tryz.prog 134 [qb a1,qb b1] (rB (r)):=by
 unfold YBz at h
 refine Zu Tryz.func134 R R Tryz.ntmps134 R (Zf R) fun n0=>?_
 refine aS fun _ hK1 _=>(aR (sA R R (aZ (hK1 _ ?_))))
 refine aS fun _ hK2 _=>(aS fun _ hK3 _=>(aR (sM R R (sQ R (Zz R YEO.slice iL) (sM R R (sQ R (Zz R YEO.slice iL) (sQ R (ZD R iL iL) (aZ (hK3 _ ?_)))))))))
 refine aC R (fun hc1=>?_) (fun hc1=>?_)
 ·have h1:=Zn hc1 h
  refine aS fun _ hK4 _=>(aR (sA R R (aZ (hK4 _ ?_))))
  refine Zj ?_
  exact Y2_ h1 iL (.t (.d R))
 ·have h1:=Zo hc1 h
  refine Zk (hK2 _ ?_)
  refine aS fun K5 hK5 wK5=>(aS fun _ hK6 _=>(aR (sM R R (sQ R (Zz R YEO.slice iL) (sM R R (aZ (hK6 _ ?_)))))))
  refine Zp ?_
  refine jc1k h1 fun o1 hit1 hk1 he1=>?_
  have J1 : ∀ (u2:Unit) (i5:Nat→Nat),o1 = .nrm u2→K5 ⟨[],[],(i5 0),26⟩:=by
   intro u2 i5 e
   have h2:=hk1 _ e
   refine hK5 _ ?_
   refine aS fun _ hK7 _=>(aR (sA R R (aZ (hK7 _ ?_))))
   refine Zj ?_
   exact Y2_ h2 iL (.t (.d R))
  refine ZP (fun (x2:Int) i3=>⟨[(0,qb a1),(1,qb b1),(12,rI ((a1.length:Int))),(13,rI (x2))],[],(i3 0),26⟩) (vec [n0]) hit1 ((by exact Zc ⟨jL,jL,jL,jL,Za⟩ Za nL)) ?_
  intro x2 i3 v1 hv1 hx1
  have h3:YB5 a1 b1 x2=some v1:=hv1; unfold YB5 at h3
  refine aS fun _ hK8 _=>(aR (sQ R (Zv R iL iL) (aZ (hK8 _ ?_))))
  refine aS fun _ hK9 _=>?_
  refine aC R (fun hc2=>?_) (fun hc2=>?_)
  ·have h4:=Zn hc2 h3
   refine Zk (hK9 _ ?_)
   refine aS fun _ hK10 _=>(Zp (aS fun _ hK11 _=>(aR (sM R R (sA R R (aZ (hK11 _ ?_)))))))
   refine aS fun _ hK12 _=>?_
   refine ZS hmix (by kernel_rfl) ?_
   refine Zm R R R (Ze R iL) (Zm R R R (Ze R iL) (Zl h4 fun x4 ex4 h5=>(Zm R R R (Zx R YEO.slice iL iL (fun _=>R) (fun _=>ex4)) (Zm R R R (ZG (cs:=(k15_ x4)) R YER iL R R) (Zm R R R (Ze R iL) (Zm R R R (Ze R iL) (Zl h5 fun x5 ex5 h6=>(Zm R R R (Zx R YEO.slice iL iL (fun _=>R) (fun _=>ex5)) (Zm R R R (ZG (cs:=(k15_ x5)) R YER iL R R) (Zm R R R (YEU R YRn iL iL R) ?_))))))))))
   refine AQ.nil ?_
   refine hK12 _ ?_
   refine aC R (fun hc3=>?_) (fun hc3=>?_)
   ·have h7:=Zn hc3 h6
    refine aS fun _ hK13 _=>?_
    refine Zi (s':=⟨[],[],(i3 0),26⟩) (by exact Zc Za Za nL) ?_
    refine aR (sA R R (aZ (hK13 _ ?_)))
    refine Zj ?_
    exact Y2_ (he1 _ (hx1 _ (Zd h7).symm)) iL (.t (.d R))
   ·have h7:=Zo hc3 h6
    refine Zk (hK10 _ ?_)
    refine Zi (s':=⟨[(0,qb a1),(1,qb b1),(12,rI ((a1.length:Int))),(13,rI (x2))],[],(i3 0),26⟩) (by exact Zc ⟨jL,jL,jL,jL,Za⟩ Za nL) ?_
    refine aR (Zl h7 fun x6 ex6 h8=>(sQ R (ZI R iL iL (fun _=>ex6)) (sM R R ?_)))
    refine Zt ?_
    exact ZJ h8 (vec [(i3 0)]) ((by exact Zc ⟨jL,jL,jL,jL,Za⟩ Za nL))
  ·have h4:=Zo hc2 h3
   refine ZL ?_
   exact wK5 _ _ ((by exact Zc Za Za nL)) (J1 _ (vec [(i3 0)]) (hx1 _ (Zd h4).symm))
theorem YJm {a1:YAv} {b1:YAv} {r:Bool} (h:YDw a1 b1=some r):ARO Tryz.prog 131 [.agg (k14_ a1),.agg (k14_ b1)] (rB (r)):=by
 unfold YDw at h
 refine Zu Tryz.func131 R R Tryz.ntmps131 R (Zf R) fun n0=>?_
 refine aS fun _ hK1 _=>(aR (Zh R R R (ZM (cs:=(k14_ a1)) 2 R iL R R) (Zh R R R (ZM (cs:=(k14_ b1)) 3 R iL R R) (sA R R (aZ (hK1 _ ?_))))))
 refine aS fun _ hK2 _=>(aR (sQ R (fB R YCj iL fR R) (sQ R (Zb (a:=rI (a1.Rows)) R ts_3 iL R R) (sQ R (fB R YCj iL fR R) (sQ R (Zb (a:=rI (b1.Rows)) R ts_3 iL R R) (sQ R (Zs R iL iL) (sM R R (sV R R R (fB R YCi iL fR R) (sV R R R (Zb (a:=rI (a1.Cols)) R ts_3 (iR R) R R) (sV R R R (fB R YCi iL fR R) (sV R R R (Zb (a:=rI (b1.Cols)) R ts_3 (iR R) R R) (sV R R R (Zs R (iR R) (iR R)) (sQ R (Zq R iL (iR R)) (sM R R (sV R R R (fB R YCJ iL fR R) (sV R R R (Zb (a:=qc a1.Cells) R YE1 (iR R) R R) (sV R R R (fB R YCJ iL fR R) (sV R R R (Zb (a:=qc b1.Cells) R YE1 (iR R) R R) (Zl h fun r1 er1 h1=>?_)))))))))))))))))))
 refine ZA (.one R R R) R R (Zr (r:=rB (r1)) (caps:=[]) (bs:=[qc a1.Cells,qc b1.Cells]) R iL R ⟨⟨_,(iR R),.d R⟩,⟨_,(iR R),.d R⟩,Za⟩ (fun hg=>YFq (gdt er1 hg)) R) ?_
 refine sQ R (Zq R iL (iR R)) (sM R R (sV R R R (fB R YDA iL fR R) (sV R R R (Zb (a:=qb a1.Merges) R YFk (iR R) R R) (sV R R R (fB R YDA iL fR R) (sV R R R (Zb (a:=qb b1.Merges) R YFk (iR R) R R) (Zl h1 fun r2 er2 h2=>?_))))))
 refine ZA (.one R R R) R R (Zr (r:=rB (r2)) (caps:=[]) (bs:=[qb a1.Merges,qb b1.Merges]) R iL R ⟨⟨_,(iR R),.d R⟩,⟨_,(iR R),.d R⟩,Za⟩ (fun hg=>YEM (gdt er2 hg)) R) ?_
 refine sQ R (Zq R iL (iR R)) (sA R R (aZ (hK2 _ ?_)))
 refine Zj ?_
 exact Y2_ h2 iL (.t (.d R))
theorem YGw {a1:List YAI} {b1:List YAI} {r:Bool} (h:YCO a1 b1=some r):ARO Tryz.prog 89 [qd a1,qd b1] (rB (r)):=by
 unfold YCO at h
 refine Zu Tryz.func89 R R Tryz.ntmps89 R (Zf R) fun n0=>?_
 refine aS fun _ hK1 _=>(aR (sA R R (aZ (hK1 _ ?_))))
 refine aS fun _ hK2 _=>(aS fun _ hK3 _=>(aR (sM R R (sQ R (Zz R YGi.slice iL) (sM R R (sQ R (Zz R YGi.slice iL) (sQ R (ZD R iL iL) (aZ (hK3 _ ?_)))))))))
 refine aC R (fun hc1=>?_) (fun hc1=>?_)
 ·have h1:=Zn hc1 h
  refine aS fun _ hK4 _=>(aR (sA R R (aZ (hK4 _ ?_))))
  refine Zj ?_
  exact Y2_ h1 iL (.t (.d R))
 ·have h1:=Zo hc1 h
  refine Zk (hK2 _ ?_)
  refine aS fun K5 hK5 wK5=>(aS fun _ hK6 _=>(aR (sM R R (sQ R (Zz R YGi.slice iL) (sM R R (aZ (hK6 _ ?_)))))))
  refine Zp ?_
  refine jc1k h1 fun o1 hit1 hk1 he1=>?_
  have J1 : ∀ (u2:Unit) (i5:Nat→Nat),o1 = .nrm u2→K5 ⟨[],[],(i5 0),26⟩:=by
   intro u2 i5 e
   have h2:=hk1 _ e
   refine hK5 _ ?_
   refine aS fun _ hK7 _=>(aR (sA R R (aZ (hK7 _ ?_))))
   refine Zj ?_
   exact Y2_ h2 iL (.t (.d R))
  refine ZP (fun (x2:Int) i3=>⟨[(0,qd a1),(1,qd b1),(12,rI ((a1.length:Int))),(13,rI (x2))],[],(i3 0),26⟩) (vec [n0]) hit1 ((by exact Zc ⟨jL,jL,jL,jL,Za⟩ Za nL)) ?_
  intro x2 i3 v1 hv1 hx1
  have h3:YCH a1 b1 x2=some v1:=hv1; unfold YCH at h3
  refine aS fun _ hK8 _=>(aR (sQ R (Zv R iL iL) (aZ (hK8 _ ?_))))
  refine aS fun _ hK9 _=>?_
  refine aC R (fun hc2=>?_) (fun hc2=>?_)
  ·have h4:=Zn hc2 h3
   refine Zk (hK9 _ ?_)
   refine aS fun _ hK10 _=>(Zp (aS fun _ hK11 _=>(aR (sM R R (sA R R (aZ (hK11 _ ?_)))))))
   refine aS fun _ hK12 _=>?_
   refine ZS hmix (by kernel_rfl) ?_
   refine Zm R R R (Ze R iL) (Zm R R R (Ze R iL) (Zl h4 fun x4 ex4 h5=>(Zm R R R (Zx R YGi.slice iL iL (fun _=>R) (fun _=>ex4)) (Zm R R R (ZG (cs:=(k7_ x4)) R YG3 iL R R) (Zm R R R (Ze R iL) (Zm R R R (Ze R iL) (Zl h5 fun x5 ex5 h6=>(Zm R R R (Zx R YGi.slice iL iL (fun _=>R) (fun _=>ex5)) (Zm R R R (ZG (cs:=(k7_ x5)) R YG3 iL R R) (Zm R R R (YEU R te_176 iL iL R) ?_))))))))))
   refine AQ.nil ?_
   refine hK12 _ ?_
   refine aC R (fun hc3=>?_) (fun hc3=>?_)
   ·have h7:=Zn hc3 h6
    refine aS fun _ hK13 _=>?_
    refine Zi (s':=⟨[],[],(i3 0),26⟩) (by exact Zc Za Za nL) ?_
    refine aR (sA R R (aZ (hK13 _ ?_)))
    refine Zj ?_
    exact Y2_ (he1 _ (hx1 _ (Zd h7).symm)) iL (.t (.d R))
   ·have h7:=Zo hc3 h6
    refine Zk (hK10 _ ?_)
    refine Zi (s':=⟨[(0,qd a1),(1,qd b1),(12,rI ((a1.length:Int))),(13,rI (x2))],[],(i3 0),26⟩) (by exact Zc ⟨jL,jL,jL,jL,Za⟩ Za nL) ?_
    refine aR (Zl h7 fun x6 ex6 h8=>(sQ R (ZI R iL iL (fun _=>ex6)) (sM R R ?_)))
    refine Zt ?_
    exact ZJ h8 (vec [(i3 0)]) ((by exact Zc ⟨jL,jL,jL,jL,Za⟩ Za nL))
  ·have h4:=Zo hc2 h3
   refine ZL ?_
   exact wK5 _ _ ((by exact Zc Za Za nL)) (J1 _ (vec [(i3 0)]) (hx1 _ (Zd h4).symm))
theorem YJl {a1:YAJ} {b1:YAJ} {r:Bool} (h:YCz a1 b1=some r):ARO Tryz.prog 86 [.agg (k6_ a1),.agg (k6_ b1)] (rB (r)):=by
 unfold YCz at h
 refine Zu Tryz.func86 R R Tryz.ntmps86 R (Zf R) fun n0=>?_
 refine aS fun _ hK1 _=>(aR (Zh R R R (ZM (cs:=(k6_ a1)) 2 R iL R R) (Zh R R R (ZM (cs:=(k6_ b1)) 3 R iL R R) (sA R R (aZ (hK1 _ ?_))))))
 refine aS fun _ hK2 _=>(aR (sQ R (fB R YBn iL fR R) (sQ R (Zb (a:=rI (a1.ID)) R ts_3 iL R R) (sQ R (fB R YBn iL fR R) (sQ R (Zb (a:=rI (b1.ID)) R ts_3 iL R R) (sQ R (Zs R iL iL) (sM R R (sV R R R (fB R YA0 iL fR R) (sV R R R (Zb (a:=rI (a1.Kind)) R ts_3 (iR R) R R) (sV R R R (fB R YA0 iL fR R) (sV R R R (Zb (a:=rI (b1.Kind)) R ts_3 (iR R) R R) (sV R R R (Zs R (iR R) (iR R)) (sQ R (Zq R iL (iR R)) (sM R R (sV R R R (fB R YKm iL fR R) (sV R R R (Zb (a:=qa a1.Attrs) R YEm (iR R) R R) (sV R R R (fB R YKm iL fR R) (sV R R R (Zb (a:=qa b1.Attrs) R YEm (iR R) R R) (Zl h fun r1 er1 h1=>?_)))))))))))))))))))
 refine ZA (.one R R R) R R (Zr (r:=rB (r1)) (caps:=[]) (bs:=[qa a1.Attrs,qa b1.Attrs]) R iL R ⟨⟨_,(iR R),.d R⟩,⟨_,(iR R),.d R⟩,Za⟩ (fun hg=>YCN (gdt er1 hg)) R) ?_
 refine sQ R (Zq R iL (iR R)) (sM R R (sV R R R (fB R YEu iL fR R) (sV R R R (Zb (a:=qe a1.Flow) R YID (iR R) R R) (sV R R R (fB R YEu iL fR R) (sV R R R (Zb (a:=qe b1.Flow) R YID (iR R) R R) (Zl h1 fun r2 er2 h2=>?_))))))
 refine ZA (.one R R R) R R (Zr (r:=rB (r2)) (caps:=[]) (bs:=[qe a1.Flow,qe b1.Flow]) R iL R ⟨⟨_,(iR R),.d R⟩,⟨_,(iR R),.d R⟩,Za⟩ (fun hg=>YGZ (gdt er2 hg)) R) ?_
 refine sQ R (Zq R iL (iR R)) (sM R R (sV R R R (fB R YBL iL fR R) (sV R R R (YAx (ds:=(k14_ a1.Grid)) R YOO (iR R) R R R) (sV R R R (fB R YBL iL fR R) (sV R R R (YAx (ds:=(k14_ b1.Grid)) R YOO (iR R) R R R) (Zl h2 fun r3 er3 h3=>?_))))))
 refine ZA (.one R R R) R R (Zr (r:=rB (r3)) (caps:=[]) (bs:=[.agg (k14_ a1.Grid),.agg (k14_ b1.Grid)]) R iL R ⟨⟨_,(iR R),.g (cs:=[.int .i64 a1.Grid.Rows,.int .i64 a1.Grid.Cols,.sl (a1.Grid.Cells.map YAL.row),.sl (a1.Grid.Merges.map YAQ.row)]) R R⟩,⟨_,(iR R),.g (cs:=[.int .i64 b1.Grid.Rows,.int .i64 b1.Grid.Cols,.sl (b1.Grid.Cells.map YAL.row),.sl (b1.Grid.Merges.map YAQ.row)]) R R⟩,Za⟩ (fun hg=>YJm (gdt er3 hg)) R) ?_
 refine sQ R (Zq R iL (iR R)) (sM R R (sV R R R (fB R YFu iL fR R) (sV R R R (Zb (a:=qd a1.Draw) R YJs (iR R) R R) (sV R R R (fB R YFu iL fR R) (sV R R R (Zb (a:=qd b1.Draw) R YJs (iR R) R R) (Zl h3 fun r4 er4 h4=>?_))))))
 refine ZA (.one R R R) R R (Zr (r:=rB (r4)) (caps:=[]) (bs:=[qd a1.Draw,qd b1.Draw]) R iL R ⟨⟨_,(iR R),.d R⟩,⟨_,(iR R),.d R⟩,Za⟩ (fun hg=>YGw (gdt er4 hg)) R) ?_
 refine sQ R (Zq R iL (iR R)) (sA R R (aZ (hK2 _ ?_)))
 refine Zj ?_
 exact Y2_ h4 iL (.t (.d R))
theorem YIe {a1:List YEn} {b1:List YEn} {r:Bool} (h:YCX a1 b1=some r):ARO Tryz.prog 87 [qi a1,qi b1] (rB (r)):=by
 unfold YCX at h
 refine Zu Tryz.func87 R R Tryz.ntmps87 R (Zf R) fun n0=>?_
 refine aS fun _ hK1 _=>(aR (sA R R (aZ (hK1 _ ?_))))
 refine aS fun _ hK2 _=>(aS fun _ hK3 _=>(aR (sM R R (sQ R (Zz R YI1.slice iL) (sM R R (sQ R (Zz R YI1.slice iL) (sQ R (ZD R iL iL) (aZ (hK3 _ ?_)))))))))
 refine aC R (fun hc1=>?_) (fun hc1=>?_)
 ·have h1:=Zn hc1 h
  refine aS fun _ hK4 _=>(aR (sA R R (aZ (hK4 _ ?_))))
  refine Zj ?_
  exact Y2_ h1 iL (.t (.d R))
 ·have h1:=Zo hc1 h
  refine Zk (hK2 _ ?_)
  refine aS fun K5 hK5 wK5=>(aS fun _ hK6 _=>(aR (sM R R (sQ R (Zz R YI1.slice iL) (sM R R (aZ (hK6 _ ?_)))))))
  refine Zp ?_
  refine jc1k h1 fun o1 hit1 hk1 he1=>?_
  have J1 : ∀ (u2:Unit) (i5:Nat→Nat),o1 = .nrm u2→K5 ⟨[],[],(i5 0),69⟩:=by
   intro u2 i5 e
   have h2:=hk1 _ e
   refine hK5 _ ?_
   refine aS fun _ hK7 _=>(aR (sA R R (aZ (hK7 _ ?_))))
   refine Zj ?_
   exact Y2_ h2 iL (.t (.d R))
  refine ZP (fun (x2:Int) i3=>⟨[(0,qi a1),(1,qi b1),(12,rI ((a1.length:Int))),(13,rI (x2))],[],(i3 0),69⟩) (vec [n0]) hit1 ((by exact Zc ⟨jL,jL,jL,jL,Za⟩ Za nL)) ?_
  intro x2 i3 v1 hv1 hx1
  have h3:YB6 a1 b1 x2=some v1:=hv1; unfold YB6 at h3
  refine aS fun _ hK8 _=>(aR (sQ R (Zv R iL iL) (aZ (hK8 _ ?_))))
  refine aS fun _ hK9 _=>?_
  refine aC R (fun hc2=>?_) (fun hc2=>?_)
  ·have h4:=Zn hc2 h3
   refine Zk (hK9 _ ?_)
   refine aS fun _ hK10 _=>(Zp (aS fun _ hK11 _=>(aR (sM R R (sA R R (aZ (hK11 _ ?_)))))))
   refine aS fun _ hK12 _=>?_
   refine ZS hmix (by kernel_rfl) ?_
   refine Zm R R R (Ze R iL) (Zm R R R (Ze R iL) (Zl h4 fun x4 ex4 h5=>(Zm R R R (Zx R YI1.slice iL iL (fun _=>R) (fun _=>ex4)) (Zm R R R (Zw R YNg iL) (Zm R R R (ZO (d:=.int .i64 x4.Kind) R ts_3 iL R) (Zm R R R (Ze R iL) (Zm R R R (Ze R iL) (Zl h5 fun x5 ex5 h6=>(Zm R R R (Zx R YI1.slice iL iL (fun _=>R) (fun _=>ex5)) (Zm R R R (Zw R YNg iL) (Zm R R R (ZO (d:=.int .i64 x5.Kind) R ts_3 iL R) (Zm R R R (ZD R iL iL) (Zm R R R (Ze R iL) ?_)))))))))))))
   refine Zg (.one R R R) R R (Ze R iL) ?_
   refine Zg (.one R R R) R R (Ze R iL) ?_
   refine Zg (.one R R R) R R (Zx R YI1.slice (iR R) (iR R) (fun _=>R) (fun _=>ex4)) ?_
   refine Zg (.one R R R) R R (Zw R YNf (iR R)) ?_
   refine Zg (.one R R R) R R (ZO (d:=.int .i64 x4.N) R ts_3 (iR R) R) ?_
   refine Zg (.one R R R) R R (Ze R iL) ?_
   refine Zg (.one R R R) R R (Ze R iL) ?_
   refine Zg (.one R R R) R R (Zx R YI1.slice (iR R) (iR R) (fun _=>R) (fun _=>ex5)) ?_
   refine Zg (.one R R R) R R (Zw R YNf (iR R)) ?_
   refine Zg (.one R R R) R R (ZO (d:=.int .i64 x5.N) R ts_3 (iR R) R) ?_
   refine Zg (.one R R R) R R (ZD R (iR R) (iR R)) ?_
   refine Zm R R R (Zy R iL (iR R)) (Zm R R R (Ze R iL) ?_)
   refine Zg (.one R R R) R R (Ze R iL) ?_
   refine Zg (.one R R R) R R (Ze R iL) ?_
   refine Zg (.one R R R) R R (Zx R YI1.slice (iR R) (iR R) (fun _=>R) (fun _=>ex4)) ?_
   refine Zg (.one R R R) R R (Zw R YNe (iR R)) ?_
   refine Zg (.one R R R) R R (ZO (d:=.sl (x4.Attrs.map YAT.row)) R YEm (iR R) R) ?_
   refine Zg (.one R R R) R R (Ze R iL) ?_
   refine Zg (.one R R R) R R (Ze R iL) ?_
   refine Zg (.one R R R) R R (Zx R YI1.slice (iR R) (iR R) (fun _=>R) (fun _=>ex5)) ?_
   refine Zg (.one R R R) R R (Zw R YNe (iR R)) ?_
   refine Zg (.one R R R) R R (ZO (d:=.sl (x5.Attrs.map YAT.row)) R YEm (iR R) R) ?_
   refine Zl h6 fun r1 er1 h7=>?_
   refine AQ.stepWC (.one R R R) R R (r:=rB (r1)) (caps:=[]) (bs:=[qa x4.Attrs,qa x5.Attrs]) R iL R ⟨⟨_,(iR R),.d R⟩,⟨_,(iR R),.d R⟩,Za⟩ (fun hg=>YCN (gdt er1 hg)) R ?_
   refine Zg (.one R R R) R R (ZK R (iR R)) ?_
   refine Zm R R R (Zy R iL (iR R)) (Zm R R R (Ze R iL) ?_)
   refine Zg (.one R R R) R R (Ze R iL) ?_
   refine Zg (.one R R R) R R (Ze R iL) ?_
   refine Zg (.one R R R) R R (Zx R YI1.slice (iR R) (iR R) (fun _=>R) (fun _=>ex4)) ?_
   refine Zg (.one R R R) R R (Zw R YNd (iR R)) ?_
   refine Zg (.one R R R) R R (ZO (d:=.sl (x4.Elems.map YAN.row)) R YID (iR R) R) ?_
   refine Zg (.one R R R) R R (Ze R iL) ?_
   refine Zg (.one R R R) R R (Ze R iL) ?_
   refine Zg (.one R R R) R R (Zx R YI1.slice (iR R) (iR R) (fun _=>R) (fun _=>ex5)) ?_
   refine Zg (.one R R R) R R (Zw R YNd (iR R)) ?_
   refine Zg (.one R R R) R R (ZO (d:=.sl (x5.Elems.map YAN.row)) R YID (iR R) R) ?_
   refine Zl h7 fun r2 er2 h8=>?_
   refine AQ.stepWC (.one R R R) R R (r:=rB (r2)) (caps:=[]) (bs:=[qe x4.Elems,qe x5.Elems]) R iL R ⟨⟨_,(iR R),.d R⟩,⟨_,(iR R),.d R⟩,Za⟩ (fun hg=>YGZ (gdt er2 hg)) R ?_
   refine Zg (.one R R R) R R (ZK R (iR R)) ?_
   refine Zm R R R (Zy R iL (iR R)) ?_
   refine AQ.nil ?_
   refine hK12 _ ?_
   refine aC R (fun hc3=>?_) (fun hc3=>?_)
   ·have h9:=Zn hc3 h8
    refine aS fun _ hK13 _=>?_
    refine Zi (s':=⟨[],[],(i3 0),69⟩) (by exact Zc Za Za nL) ?_
    refine aR (sA R R (aZ (hK13 _ ?_)))
    refine Zj ?_
    exact Y2_ (he1 _ (hx1 _ (Zd h9).symm)) iL (.t (.d R))
   ·have h9:=Zo hc3 h8
    refine Zk (hK10 _ ?_)
    refine Zi (s':=⟨[(0,qi a1),(1,qi b1),(12,rI ((a1.length:Int))),(13,rI (x2))],[],(i3 0),69⟩) (by exact Zc ⟨jL,jL,jL,jL,Za⟩ Za nL) ?_
    refine aR (Zl h9 fun x6 ex6 h10=>(sQ R (ZI R iL iL (fun _=>ex6)) (sM R R ?_)))
    refine Zt ?_
    exact ZJ h10 (vec [(i3 0)]) ((by exact Zc ⟨jL,jL,jL,jL,Za⟩ Za nL))
  ·have h4:=Zo hc2 h3
   refine ZL ?_
   exact wK5 _ _ ((by exact Zc Za Za nL)) (J1 _ (vec [(i3 0)]) (hx1 _ (Zd h4).symm))
theorem YFp {a1:List YAB} {b1:List YAB} {r:Bool} (h:YCW a1 b1=some r):ARO Tryz.prog 132 [qg a1,qg b1] (rB (r)):=by
 unfold YCW at h
 refine Zu Tryz.func132 R R Tryz.ntmps132 R (Zf R) fun n0=>?_
 refine aS fun _ hK1 _=>(aR (sA R R (aZ (hK1 _ ?_))))
 refine aS fun _ hK2 _=>(aS fun _ hK3 _=>(aR (sM R R (sQ R (Zz R YHW.slice iL) (sM R R (sQ R (Zz R YHW.slice iL) (sQ R (ZD R iL iL) (aZ (hK3 _ ?_)))))))))
 refine aC R (fun hc1=>?_) (fun hc1=>?_)
 ·have h1:=Zn hc1 h
  refine aS fun _ hK4 _=>(aR (sA R R (aZ (hK4 _ ?_))))
  refine Zj ?_
  exact Y2_ h1 iL (.t (.d R))
 ·have h1:=Zo hc1 h
  refine Zk (hK2 _ ?_)
  refine aS fun K5 hK5 wK5=>(aS fun _ hK6 _=>(aR (sM R R (sQ R (Zz R YHW.slice iL) (sM R R (aZ (hK6 _ ?_)))))))
  refine Zp ?_
  refine jc1k h1 fun o1 hit1 hk1 he1=>?_
  have J1 : ∀ (u2:Unit) (i5:Nat→Nat),o1 = .nrm u2→K5 ⟨[],[],(i5 0),26⟩:=by
   intro u2 i5 e
   have h2:=hk1 _ e
   refine hK5 _ ?_
   refine aS fun _ hK7 _=>(aR (sA R R (aZ (hK7 _ ?_))))
   refine Zj ?_
   exact Y2_ h2 iL (.t (.d R))
  refine ZP (fun (x2:Int) i3=>⟨[(0,qg a1),(1,qg b1),(12,rI ((a1.length:Int))),(13,rI (x2))],[],(i3 0),26⟩) (vec [n0]) hit1 ((by exact Zc ⟨jL,jL,jL,jL,Za⟩ Za nL)) ?_
  intro x2 i3 v1 hv1 hx1
  have h3:YB4 a1 b1 x2=some v1:=hv1; unfold YB4 at h3
  refine aS fun _ hK8 _=>(aR (sQ R (Zv R iL iL) (aZ (hK8 _ ?_))))
  refine aS fun _ hK9 _=>?_
  refine aC R (fun hc2=>?_) (fun hc2=>?_)
  ·have h4:=Zn hc2 h3
   refine Zk (hK9 _ ?_)
   refine aS fun _ hK10 _=>(Zp (aS fun _ hK11 _=>(aR (sM R R (sA R R (aZ (hK11 _ ?_)))))))
   refine aS fun _ hK12 _=>?_
   refine ZS hmix (by kernel_rfl) ?_
   refine Zm R R R (Ze R iL) (Zm R R R (Ze R iL) (Zl h4 fun x4 ex4 h5=>(Zm R R R (Zx R YHW.slice iL iL (fun _=>R) (fun _=>ex4)) (Zm R R R (ZG (cs:=[rI (x4.Kind),rI (x4.N)]) R YLf iL R R) (Zm R R R (Ze R iL) (Zm R R R (Ze R iL) (Zl h5 fun x5 ex5 h6=>(Zm R R R (Zx R YHW.slice iL iL (fun _=>R) (fun _=>ex5)) (Zm R R R (ZG (cs:=[rI (x5.Kind),rI (x5.N)]) R YLf iL R R) (Zm R R R (YEU R te_142 iL iL R) ?_))))))))))
   refine AQ.nil ?_
   refine hK12 _ ?_
   refine aC R (fun hc3=>?_) (fun hc3=>?_)
   ·have h7:=Zn hc3 h6
    refine aS fun _ hK13 _=>?_
    refine Zi (s':=⟨[],[],(i3 0),26⟩) (by exact Zc Za Za nL) ?_
    refine aR (sA R R (aZ (hK13 _ ?_)))
    refine Zj ?_
    exact Y2_ (he1 _ (hx1 _ (Zd h7).symm)) iL (.t (.d R))
   ·have h7:=Zo hc3 h6
    refine Zk (hK10 _ ?_)
    refine Zi (s':=⟨[(0,qg a1),(1,qg b1),(12,rI ((a1.length:Int))),(13,rI (x2))],[],(i3 0),26⟩) (by exact Zc ⟨jL,jL,jL,jL,Za⟩ Za nL) ?_
    refine aR (Zl h7 fun x6 ex6 h8=>(sQ R (ZI R iL iL (fun _=>ex6)) (sM R R ?_)))
    refine Zt ?_
    exact ZJ h8 (vec [(i3 0)]) ((by exact Zc ⟨jL,jL,jL,jL,Za⟩ Za nL))
  ·have h4:=Zo hc2 h3
   refine ZL ?_
   exact wK5 _ _ ((by exact Zc Za Za nL)) (J1 _ (vec [(i3 0)]) (hx1 _ (Zd h4).symm))
theorem YJo {a1:YAh} {b1:YAh} {r:Bool} (h:YDy a1 b1=some r):ARO Tryz.prog 88 [.agg (k13_ a1),.agg (k13_ b1)] (rB (r)):=by
 unfold YDy at h
 refine Zu Tryz.func88 R R Tryz.ntmps88 R (Zf R) fun n0=>?_
 refine aS fun _ hK1 _=>(aR (Zh R R R (ZM (cs:=(k13_ a1)) 2 R iL R R) (Zh R R R (ZM (cs:=(k13_ b1)) 3 R iL R R) (sA R R (aZ (hK1 _ ?_))))))
 refine aS fun _ hK2 _=>(aR (sQ R (fB R YMt iL fR R) (sQ R (Zb (a:=qg a1.Rows) R YMq iL R R) (sQ R (fB R YMt iL fR R) (sQ R (Zb (a:=qg b1.Rows) R YMq iL R R) (Zl h fun r1 er1 h1=>(Zh R R R (Zr (r:=rB (r1)) (caps:=[]) (bs:=[qg a1.Rows,qg b1.Rows]) R iL R ⟨⟨_,iL,.d R⟩,⟨_,iL,.d R⟩,Za⟩ (fun _=>YFp (er1)) R) (sM R R (sV R R R (fB R YMs iL fR R) (sV R R R (Zb (a:=qg a1.Cols) R YMq (iR R) R R) (sV R R R (fB R YMs iL fR R) (sV R R R (Zb (a:=qg b1.Cols) R YMq (iR R) R R) (Zl h1 fun r2 er2 h2=>?_)))))))))))))
 refine ZA (.one R R R) R R (Zr (r:=rB (r2)) (caps:=[]) (bs:=[qg a1.Cols,qg b1.Cols]) R iL R ⟨⟨_,(iR R),.d R⟩,⟨_,(iR R),.d R⟩,Za⟩ (fun hg=>YFp (gdt er2 hg)) R) ?_
 refine sQ R (Zq R iL (iR R)) (sM R R (sV R R R (fB R YPA iL fR R) (sV R R R (Zb (a:=qc a1.Cells) R YE1 (iR R) R R) (sV R R R (fB R YPA iL fR R) (sV R R R (Zb (a:=qc b1.Cells) R YE1 (iR R) R R) (Zl h2 fun r3 er3 h3=>?_))))))
 refine ZA (.one R R R) R R (Zr (r:=rB (r3)) (caps:=[]) (bs:=[qc a1.Cells,qc b1.Cells]) R iL R ⟨⟨_,(iR R),.d R⟩,⟨_,(iR R),.d R⟩,Za⟩ (fun hg=>YFq (gdt er3 hg)) R) ?_
 refine sQ R (Zq R iL (iR R)) (sM R R (sV R R R (fB R YO9 iL fR R) (sV R R R (Zb (a:=qb a1.Split) R YFk (iR R) R R) (sV R R R (fB R YO9 iL fR R) (sV R R R (Zb (a:=qb b1.Split) R YFk (iR R) R R) (Zl h3 fun r4 er4 h4=>?_))))))
 refine ZA (.one R R R) R R (Zr (r:=rB (r4)) (caps:=[]) (bs:=[qb a1.Split,qb b1.Split]) R iL R ⟨⟨_,(iR R),.d R⟩,⟨_,(iR R),.d R⟩,Za⟩ (fun hg=>YEM (gdt er4 hg)) R) ?_
 refine sQ R (Zq R iL (iR R)) (sM R R (sV R R R (fB R YO8 iL fR R) (sV R R R (Zb (a:=qb a1.Merge) R YFk (iR R) R R) (sV R R R (fB R YO8 iL fR R) (sV R R R (Zb (a:=qb b1.Merge) R YFk (iR R) R R) (Zl h4 fun r5 er5 h5=>?_))))))
 refine ZA (.one R R R) R R (Zr (r:=rB (r5)) (caps:=[]) (bs:=[qb a1.Merge,qb b1.Merge]) R iL R ⟨⟨_,(iR R),.d R⟩,⟨_,(iR R),.d R⟩,Za⟩ (fun hg=>YEM (gdt er5 hg)) R) ?_
 refine sQ R (Zq R iL (iR R)) (sA R R (aZ (hK2 _ ?_)))
 refine Zj ?_
 exact Y2_ h5 iL (.t (.d R))
theorem YFr {a1:GOp} {b1:GOp} {r:Bool} (h:YBI a1 b1=some r):ARO Tryz.prog 37 [.agg (k2_ a1),.agg (k2_ b1)] (rB (r)):=by
 unfold YBI at h
 refine Zu Tryz.func37 R R Tryz.ntmps37 R (Zf R) fun n0=>?_
 refine aS fun _ hK1 _=>(aR (Zh R R R (ZM (cs:=(k2_ a1)) 2 R iL R R) (Zh R R R (ZM (cs:=(k2_ b1)) 3 R iL R R) (sA R R (aZ (hK1 _ ?_))))))
 refine aS fun _ hK2 _=>(aR (sQ R (fB R YO7 iL fR R) (sQ R (Zb (a:=rI (a1.Kind)) R ts_3 iL R R) (sQ R (fB R YO7 iL fR R) (sQ R (Zb (a:=rI (b1.Kind)) R ts_3 iL R R) (sQ R (Zs R iL iL) (sM R R (sV R R R (fB R YO6 iL fR R) (sV R R R (Zb (a:=rI (a1.Node)) R ts_3 (iR R) R R) (sV R R R (fB R YO6 iL fR R) (sV R R R (Zb (a:=rI (b1.Node)) R ts_3 (iR R) R R) (sV R R R (Zs R (iR R) (iR R)) (sQ R (Zq R iL (iR R)) (sM R R (sV R R R (fB R YO5 iL fR R) (sV R R R (YAx (ds:=(k6_ a1.New)) R YFl (iR R) R R R) (sV R R R (fB R YO5 iL fR R) (sV R R R (YAx (ds:=(k6_ b1.New)) R YFl (iR R) R R R) (Zl h fun r1 er1 h1=>?_)))))))))))))))))))
 refine ZA (.one R R R) R R (Zr (r:=rB (r1)) (caps:=[]) (bs:=[.agg (k6_ a1.New),.agg (k6_ b1.New)]) R iL R ⟨⟨_,(iR R),.g (cs:=[.int .i64 a1.New.ID,.int .i64 a1.New.Kind,.sl (a1.New.Attrs.map YAT.row),.sl (a1.New.Flow.map YAN.row),.int .i64 a1.New.Grid.Rows,.int .i64 a1.New.Grid.Cols,.sl (a1.New.Grid.Cells.map YAL.row),.sl (a1.New.Grid.Merges.map YAQ.row),.sl (a1.New.Draw.map YAI.row)]) R R⟩,⟨_,(iR R),.g (cs:=[.int .i64 b1.New.ID,.int .i64 b1.New.Kind,.sl (b1.New.Attrs.map YAT.row),.sl (b1.New.Flow.map YAN.row),.int .i64 b1.New.Grid.Rows,.int .i64 b1.New.Grid.Cols,.sl (b1.New.Grid.Cells.map YAL.row),.sl (b1.New.Grid.Merges.map YAQ.row),.sl (b1.New.Draw.map YAI.row)]) R R⟩,Za⟩ (fun hg=>YJl (gdt er1 hg)) R) ?_
 refine sQ R (Zq R iL (iR R)) (sM R R (sV R R R (fB R YO4 iL fR R) (sV R R R (Zb (a:=qa a1.Attrs) R YEm (iR R) R R) (sV R R R (fB R YO4 iL fR R) (sV R R R (Zb (a:=qa b1.Attrs) R YEm (iR R) R R) (Zl h1 fun r2 er2 h2=>?_))))))
 refine ZA (.one R R R) R R (Zr (r:=rB (r2)) (caps:=[]) (bs:=[qa a1.Attrs,qa b1.Attrs]) R iL R ⟨⟨_,(iR R),.d R⟩,⟨_,(iR R),.d R⟩,Za⟩ (fun hg=>YCN (gdt er2 hg)) R) ?_
 refine sQ R (Zq R iL (iR R)) (sM R R (sV R R R (fB R YO3 iL fR R) (sV R R R (Zb (a:=qi a1.Steps) R ts_70 (iR R) R R) (sV R R R (fB R YO3 iL fR R) (sV R R R (Zb (a:=qi b1.Steps) R ts_70 (iR R) R R) (Zl h2 fun r3 er3 h3=>?_))))))
 refine ZA (.one R R R) R R (Zr (r:=rB (r3)) (caps:=[]) (bs:=[qi a1.Steps,qi b1.Steps]) R iL R ⟨⟨_,(iR R),.d R⟩,⟨_,(iR R),.d R⟩,Za⟩ (fun hg=>YIe (gdt er3 hg)) R) ?_
 refine sQ R (Zq R iL (iR R)) (sM R R (sV R R R (fB R YKj iL fR R) (sV R R R (YAx (ds:=(k13_ a1.Grid)) R ta_74 (iR R) R R R) (sV R R R (fB R YKj iL fR R) (sV R R R (YAx (ds:=(k13_ b1.Grid)) R ta_74 (iR R) R R R) (Zl h3 fun r4 er4 h4=>?_))))))
 refine ZA (.one R R R) R R (Zr (r:=rB (r4)) (caps:=[]) (bs:=[.agg (k13_ a1.Grid),.agg (k13_ b1.Grid)]) R iL R ⟨⟨_,(iR R),.g (cs:=[.sl (a1.Grid.Rows.map YAB.row),.sl (a1.Grid.Cols.map YAB.row),.sl (a1.Grid.Cells.map YAL.row),.sl (a1.Grid.Split.map YAQ.row),.sl (a1.Grid.Merge.map YAQ.row)]) R R⟩,⟨_,(iR R),.g (cs:=[.sl (b1.Grid.Rows.map YAB.row),.sl (b1.Grid.Cols.map YAB.row),.sl (b1.Grid.Cells.map YAL.row),.sl (b1.Grid.Split.map YAQ.row),.sl (b1.Grid.Merge.map YAQ.row)]) R R⟩,Za⟩ (fun hg=>YJo (gdt er4 hg)) R) ?_
 refine sQ R (Zq R iL (iR R)) (sM R R (sV R R R (fB R YO2 iL fR R) (sV R R R (Zb (a:=qd a1.Draw) R YJs (iR R) R R) (sV R R R (fB R YO2 iL fR R) (sV R R R (Zb (a:=qd b1.Draw) R YJs (iR R) R R) (Zl h4 fun r5 er5 h5=>?_))))))
 refine ZA (.one R R R) R R (Zr (r:=rB (r5)) (caps:=[]) (bs:=[qd a1.Draw,qd b1.Draw]) R iL R ⟨⟨_,(iR R),.d R⟩,⟨_,(iR R),.d R⟩,Za⟩ (fun hg=>YGw (gdt er5 hg)) R) ?_
 refine sQ R (Zq R iL (iR R)) (sA R R (aZ (hK2 _ ?_)))
 refine Zj ?_
 exact Y2_ h5 iL (.t (.d R))
theorem YGx {c1:List GOp} {e1:Int} {id1:Int} {size1:Int} {at1:Int} {n1:Int} {rows1:Bool} {r:Bool} (h:YDl c1 e1 id1 size1 at1 n1 rows1=some r):ARO Tryz.prog 42 [qh c1,rI (e1),rI (id1),rI (size1),rI (at1),rI (n1),rB (rows1)] (rB (r)):=by
 unfold YDl at h
 refine Zu Tryz.func42 R R Tryz.ntmps42 R (Zf R) fun n0=>?_
 refine aS fun _ hK1 _=>(aR (sA R R (aZ (hK1 _ ?_))))
 refine aS fun _ hK2 _=>(aR (sA R R (aZ (hK2 _ ?_))))
 refine aS fun K3 hK3 wK3=>(Zp ?_)
 refine jb1k h fun p1 hp1 hk1=>?_
 have J1 : ∀ (f1:Int) (i1:Nat→Nat),p1=f1→K3 ⟨[(0,qh c1),(1,rI (e1)),(2,rI (id1)),(3,rI (size1)),(4,rI (at1)),(5,rI (n1)),(6,rB (rows1)),(15,rI (f1))],[],(i1 0),117⟩:=by
  intro f1 i1 e
  have h1:=hk1 _ e
  refine hK3 _ ?_
  refine aS fun _ hK4 _=>(aS fun _ hK5 _=>(aR (sM R R (sQ R (ZD R iL iL) (aZ (hK5 _ ?_))))))
  refine aC R (fun hc1=>?_) (fun hc1=>?_)
  ·have h2:=Zn hc1 h1
   refine aS fun _ hK6 _=>(aR (sM R R (sM R R (sQ R (Zs R iL iL) (sM R R (sV R R R (Ze R iL) (sV R R R (Zz R YGj.slice (iR R)) (sV R R R (Zs R (iR R) iL) (sQ R (Zq R iL (iR R)) (sA R R (aZ (hK6 _ ?_))))))))))))
   refine Zj ?_
   exact Y2_ h2 iL (.t (.d R))
  ·have h2:=Zo hc1 h1
   refine Zk (hK4 _ ?_)
   refine aS fun _ hK7 _=>(aR (sA R R (aZ (hK7 _ ?_))))
   refine aS fun K8 hK8 wK8=>(aS fun _ hK9 _=>(aR (sM R R ?_)))
   refine sQ R (YAn R YLd (q:=[(0,_),(1,_)]) (by exact ⟨R,R,R,iL,R,R,R,iL,Za⟩) (cs:=[rI (0),rI (at1)]) (by rfl)) ?_
   refine sM R R ?_
   refine sQ R (YAn R YLd (q:=[(0,_),(1,_)]) (by exact ⟨R,R,R,iL,R,R,R,iL,Za⟩) (cs:=[rI (1),rI (n1)]) (by rfl)) ?_
   refine sM R R (Zl h2 fun x1 ex1 h3=>(sQ R (YKJ R iL (fun _=>ex1)) ?_))
   refine sQ R (YAn R YLd (q:=[(0,_),(1,_)]) (by exact ⟨R,R,R,iL,R,R,R,iL,Za⟩) (cs:=[rI (2),rI (x1)]) (by rfl)) ?_
   refine sM R R (sM R R (Zl h3 fun x2 ex2 h4=>(sQ R (YBA R iL iL (fun _=>ex2)) (sM R R (sQ R (YKJ R iL (fun _=>ex1)) (sQ R (YLj R iL iL) (Zl h4 fun x3 ex3 h5=>(sQ R (YBA R iL iL (fun _=>ex3)) ?_))))))))
   refine sQ R (YAn R YLd (q:=[(0,_),(1,_)]) (by exact ⟨R,R,R,iL,R,R,R,iL,Za⟩) (cs:=[rI (0),rI (x3)]) (by rfl)) ?_
   refine sQ R (YM0 R tb_143 (q:=[(0,_),(2,_),(4,_),(6,_)]) (by exact ⟨R,R,R,iL,R,R,R,iL,R,R,R,iL,R,R,R,iL,Za⟩) (cs:=[rI (0),rI (at1),rI (1),rI (n1),rI (2),rI (x1),rI (0),rI (x3)]) (by rfl)) ?_
   refine sM R R (aZ (hK9 _ ?_))
   refine Zp ?_
   refine jb1k h5 fun o1 hit1 hk2=>?_
   have J2 : ∀ (want4:List YAB) (i6:Nat→Nat),o1=want4→K8 ⟨[(0,qh c1),(1,rI (e1)),(2,rI (id1)),(6,rB (rows1)),(16,.own 5016 (i6 0))],[(5016,some (.arr (i6 0) 142 2 (want4.map YAB.row)))],(i6 1),117⟩:=by
    intro want4 i6 e
    have h6:=hk2 _ e
    refine hK8 _ ?_
    refine aS fun _ hK10 _=>(aR (sM R R ?_))
    refine sQ R (YAn R YMu (q:=[(0,_),(1,_)]) (by exact ⟨R,R,R,iL,R,R,R,iL,Za⟩) (cs:=[rI (3),rI (id1),rI (0),rI (0),.cst (.slice none 0 0),.cst (.slice none 0 0),rI (0),rI (0),.cst (.slice none 0 0),.cst (.slice none 0 0),.cst (.slice none 0 0),.cst (.slice none 0 0),.cst (.slice none 0 0),.cst (.slice none 0 0),.cst (.slice none 0 0),.cst (.slice none 0 0),.cst (.slice none 0 0),.cst (.slice none 0 0),.cst (.slice none 0 0)]) (by rfl)) ?_
    refine Zh R R R (YAi (cs:=z1_) 19 R t0_76 R R) (ZN R R (ZF (ds:=[rI (3),rI (id1),rI (0),rI (0),.cst (.slice none 0 0),.cst (.slice none 0 0),rI (0),rI (0),.cst (.slice none 0 0),.cst (.slice none 0 0),.cst (.slice none 0 0),.cst (.slice none 0 0),.cst (.slice none 0 0),.cst (.slice none 0 0),.cst (.slice none 0 0),.cst (.slice none 0 0),.cst (.slice none 0 0),.cst (.slice none 0 0),.cst (.slice none 0 0)]) R tz_76 iL R iL R R R R) (aZ (hK10 _ ?_)))
    refine aS fun K11 hK11 wK11=>(aS fun _ hK12 _=>(aR (sM R R (aZ (hK12 _ ?_)))))
    refine jb1k h6 fun p2 hp2 hk3=>?_
    have J3 : ∀ (o2:GOp) (i7:Nat→Nat),p2=o2→K11 ⟨[(0,qh c1),(1,rI (e1)),(19,.ptr 19 (i6 1) 0 0)],[(19,some (.box (i6 1) 76 [rI (o2.Kind),rI (o2.Node),rI (o2.New.ID),rI (o2.New.Kind),.cst (.slice none 0 0),.cst (.slice none 0 0),rI (o2.New.Grid.Rows),rI (o2.New.Grid.Cols),.cst (.slice none 0 0),.cst (.slice none 0 0),.cst (.slice none 0 0),.cst (.slice none 0 0),.cst (.slice none 0 0),qg o2.Grid.Rows,qg o2.Grid.Cols,.cst (.slice none 0 0),.cst (.slice none 0 0),.cst (.slice none 0 0),.cst (.slice none 0 0)]))],(i7 0),117⟩:=by
     intro o2 i7 e
     have h7:=hk3 _ e
     refine hK11 _ ?_
     refine aS fun _ hK13 _=>?_
     refine ZS hmix (by kernel_rfl) ?_
     refine Zm R R R (Ze R iL) (Zm R R R (Zs R iL iL) (Zm R R R (Ze R iL) ?_))
     refine Zg (.one R R R) R R (Ze R iL) ?_
     refine Zg (.one R R R) R R (Zz R YGj.slice (iR R)) ?_
     refine Zg (.one R R R) R R (Zs R (iR R) iL) ?_
     refine Zm R R R (Zq R iL (iR R)) (Zm R R R (Ze R iL) ?_)
     refine Zg (.one R R R) R R (Ze R iL) ?_
     refine Zl h7 fun x7 ex7 h8=>?_
     refine Zg (.one R R R) R R (Zx R YGj.slice (iR R) iL (fun _=>R) (gdt ex7)) ?_
     refine Zg (.one R R R) R R (ZG (cs:=(k2_ x7)) R YPG (iR R) R R) ?_
     refine Zg (.one R R R) R R (ZC R YPG iL R R) ?_
     refine Zl h8 fun r1 er1 h9=>?_
     refine AQ.stepWC (.one R R R) R R (r:=rB (r1)) (caps:=[]) (bs:=[.agg (k2_ x7),.agg [rI (o2.Kind),rI (o2.Node),rI (o2.New.ID),rI (o2.New.Kind),.r (.sl []),.r (.sl []),rI (o2.New.Grid.Rows),rI (o2.New.Grid.Cols),.r (.sl []),.r (.sl []),.r (.sl []),.r (.sl []),.r (.sl []),qg o2.Grid.Rows,qg o2.Grid.Cols,.r (.sl []),.r (.sl []),.r (.sl []),.r (.sl [])]]) R iL R ⟨⟨_,(iR R),.g (cs:=[.int .i64 x7.Kind,.int .i64 x7.Node,.int .i64 x7.New.ID,.int .i64 x7.New.Kind,.sl (x7.New.Attrs.map YAT.row),.sl (x7.New.Flow.map YAN.row),.int .i64 x7.New.Grid.Rows,.int .i64 x7.New.Grid.Cols,.sl (x7.New.Grid.Cells.map YAL.row),.sl (x7.New.Grid.Merges.map YAQ.row),.sl (x7.New.Draw.map YAI.row),.sl (x7.Attrs.map YAT.row),.sl (x7.Steps.map YEn.row),.sl (x7.Grid.Rows.map YAB.row),.sl (x7.Grid.Cols.map YAB.row),.sl (x7.Grid.Cells.map YAL.row),.sl (x7.Grid.Split.map YAQ.row),.sl (x7.Grid.Merge.map YAQ.row),.sl (x7.Draw.map YAI.row)]) R R⟩,⟨_,(iR R),.agg (by exact ⟨.closed _ R,.closed _ R,.closed _ R,.closed _ R,.nil,.nil,.closed _ R,.closed _ R,.nil,.nil,.nil,.nil,.nil,.closed _ R,.closed _ R,.nil,.nil,.nil,.nil,Za⟩)⟩,Za⟩ (fun hg=>YFr (gdt er1 hg)) R ?_
     refine Zm R R R (Zq R iL (iR R)) (Zm R R R (YA8 R iL) ?_)
     refine AQ.nil ?_
     refine hK13 _ ?_
     refine Zj ?_
     exact Y2_ h9 iL (.t (.d R))
    refine aC R (fun hc2=>?_) (fun hc2=>?_)
    ·have h10:=Zn hc2 hp2
     refine aR (sM R R (sQ R (fB R YKj iL fR R) (sQ R (fB R YMt iL fR R) ?_)))
     refine AOps.weak (by exact Weak.frz (e':=[(0,qh c1),(1,rI (e1)),(2,rI (id1)),(6,rB (rows1)),(16,qg want4),(19,.ptr 19 (i6 1) 0 0),(94,rI (id1)),(95,.agg [rI (3),rI (id1),rI (0),rI (0),.cst (.slice none 0 0),.cst (.slice none 0 0),rI (0),rI (0),.cst (.slice none 0 0),.cst (.slice none 0 0),.cst (.slice none 0 0),.cst (.slice none 0 0),.cst (.slice none 0 0),.cst (.slice none 0 0),.cst (.slice none 0 0),.cst (.slice none 0 0),.cst (.slice none 0 0),.cst (.slice none 0 0),.cst (.slice none 0 0)]),(96,rB (rows1)),(97,qg want4),(98,.ptr 19 (i6 1) 0 13),(99,.ptr 19 (i6 1) 0 13)]) (h':=[(19,some (.box (i6 1) 76 [rI (3),rI (id1),rI (0),rI (0),.cst (.slice none 0 0),.cst (.slice none 0 0),rI (0),rI (0),.cst (.slice none 0 0),.cst (.slice none 0 0),.cst (.slice none 0 0),.cst (.slice none 0 0),.cst (.slice none 0 0),.cst (.slice none 0 0),.cst (.slice none 0 0),.cst (.slice none 0 0),.cst (.slice none 0 0),.cst (.slice none 0 0),.cst (.slice none 0 0)]))]) 5016 R ⟨jL,jL,jL,jL,.inl (.inr (.inr ⟨R,R⟩)),jL,jL,jL,jL,.inl (.inr (.inr ⟨R,R⟩)),jL,jL,Za⟩ ⟨R,.inl R,Za⟩) ?_
     refine ZN R R (ZF (ds:=[rI (3),rI (id1),rI (0),rI (0),.cst (.slice none 0 0),.cst (.slice none 0 0),rI (0),rI (0),.cst (.slice none 0 0),.cst (.slice none 0 0),.cst (.slice none 0 0),.cst (.slice none 0 0),.cst (.slice none 0 0),qg want4,.cst (.slice none 0 0),.cst (.slice none 0 0),.cst (.slice none 0 0),.cst (.slice none 0 0),.cst (.slice none 0 0)]) R YSH iL R iL R R R R) ?_
     refine Zt ?_
     exact wK11 _ _ ((by exact Zc ⟨jL,jL,jL,Za⟩ ⟨.inr (.inr ⟨_,_,_,_,R,R,⟨.inl R,.inl R,.inl R,.inl R,.inl R,.inl R,.inl R,.inl R,.inl R,.inl R,.inl R,.inl R,.inl R,.inl R,.inr (.inr ⟨R,R⟩),.inl R,.inl R,.inl R,.inl R,Za⟩⟩),Za⟩ nL)) (J3 _ (vec [((i6 1)+1)]) (Zd h10).symm)
    ·have h10:=Zo hc2 hp2
     refine aR (sM R R (sQ R (fB R YKj iL fR R) (sQ R (fB R YMs iL fR R) ?_)))
     refine AOps.weak (by exact Weak.frz (e':=[(0,qh c1),(1,rI (e1)),(2,rI (id1)),(6,rB (rows1)),(16,qg want4),(19,.ptr 19 (i6 1) 0 0),(94,rI (id1)),(95,.agg [rI (3),rI (id1),rI (0),rI (0),.cst (.slice none 0 0),.cst (.slice none 0 0),rI (0),rI (0),.cst (.slice none 0 0),.cst (.slice none 0 0),.cst (.slice none 0 0),.cst (.slice none 0 0),.cst (.slice none 0 0),.cst (.slice none 0 0),.cst (.slice none 0 0),.cst (.slice none 0 0),.cst (.slice none 0 0),.cst (.slice none 0 0),.cst (.slice none 0 0)]),(96,rB (rows1)),(100,qg want4),(101,.ptr 19 (i6 1) 0 13),(102,.ptr 19 (i6 1) 0 14)]) (h':=[(19,some (.box (i6 1) 76 [rI (3),rI (id1),rI (0),rI (0),.cst (.slice none 0 0),.cst (.slice none 0 0),rI (0),rI (0),.cst (.slice none 0 0),.cst (.slice none 0 0),.cst (.slice none 0 0),.cst (.slice none 0 0),.cst (.slice none 0 0),.cst (.slice none 0 0),.cst (.slice none 0 0),.cst (.slice none 0 0),.cst (.slice none 0 0),.cst (.slice none 0 0),.cst (.slice none 0 0)]))]) 5016 R ⟨jL,jL,jL,jL,.inl (.inr (.inr ⟨R,R⟩)),jL,jL,jL,jL,.inl (.inr (.inr ⟨R,R⟩)),jL,jL,Za⟩ ⟨R,.inl R,Za⟩) ?_
     refine ZN R R (ZF (ds:=[rI (3),rI (id1),rI (0),rI (0),.cst (.slice none 0 0),.cst (.slice none 0 0),rI (0),rI (0),.cst (.slice none 0 0),.cst (.slice none 0 0),.cst (.slice none 0 0),.cst (.slice none 0 0),.cst (.slice none 0 0),.cst (.slice none 0 0),qg want4,.cst (.slice none 0 0),.cst (.slice none 0 0),.cst (.slice none 0 0),.cst (.slice none 0 0)]) R YSH iL R iL R R R R) ?_
     refine Zt ?_
     exact wK11 _ _ ((by exact Zc ⟨jL,jL,jL,Za⟩ ⟨.inr (.inr ⟨_,_,_,_,R,R,⟨.inl R,.inl R,.inl R,.inl R,.inl R,.inl R,.inl R,.inl R,.inl R,.inl R,.inl R,.inl R,.inl R,.inr (.inr ⟨R,R⟩),.inl R,.inl R,.inl R,.inl R,.inl R,Za⟩⟩),Za⟩ nL)) (J3 _ (vec [((i6 1)+1)]) (Zd h10).symm)
   refine AW.iter2 (fun (x5:Int) (want2:List YAB) i4=>⟨[(0,qh c1),(1,rI (e1)),(2,rI (id1)),(6,rB (rows1)),(16,.own 5016 (i4 0)),(82,.agg [rI (0),rI (at1),rI (1),rI (n1),rI (2),rI (x1),rI (0),rI (x3)]),(83,rI (x5))],[(5016,some (.arr (i4 0) 142 2 (want2.map YAB.row)))],(i4 1),117⟩) (vec [(i1 0),((i1 0)+1)]) hit1 (Weak.trans (Weak.trans (Weak.adopt 16 5016 142 2 (by decide) R) (by exact Zc (e':=[(0,qh c1),(1,rI (e1)),(2,rI (id1)),(3,rI (size1)),(4,rI (at1)),(5,rI (n1)),(6,rB (rows1)),(15,rI (f1)),(16,.own 5016 (i1 0)),(57,rI (f1)),(58,rB ((!decide (f1=0)))),(67,rI (at1)),(68,.agg [rI (0),rI (at1)]),(69,rI (n1)),(70,.agg [rI (1),rI (n1)]),(71,rI (n1)),(72,rI (x1)),(73,.agg [rI (2),rI (x1)]),(74,rI (size1)),(75,rI (at1)),(76,rI (x2)),(77,rI (n1)),(78,rI (x1)),(79,rI ((max 0 x1))),(80,rI (x3)),(81,.agg [rI (0),rI (x3)]),(82,.agg [rI (0),rI (at1),rI (1),rI (n1),rI (2),rI (x1),rI (0),rI (x3)]),(83,rI (0))]) (h':=[(5016,some (.arr (i1 0) 142 2 (([]:List YAB).map YAB.row)))]) ⟨jL,jL,jL,jL,jL,jL,jL,jL,jL,jL,jL,jL,jL,jL,jL,jL,jL,jL,jL,jL,jL,jL,jL,jL,jL,jL,jL,jL,Za⟩ ⟨.inl R,Za⟩ nL)) (by exact Zc ⟨jL,jL,jL,jL,jL,jL,jL,Za⟩ ⟨.inl R,Za⟩ nL)) ?_
   intro x5 want2 i4 v1 hv1 hx1
   have h11:YAl at1 n1 x1 x3 x5 want2=some v1:=hv1; unfold YAl at h11
   refine aS fun _ hK14 _=>(aR (sQ R (Zv R iL iL) (aZ (hK14 _ ?_))))
   refine aS fun _ hK15 _=>?_
   refine aC R (fun hc3=>?_) (fun hc3=>?_)
   ·have h12:=Zn hc3 h11
    refine Zk (hK15 _ ?_)
    refine aS fun K16 hK16 wK16=>(Zp ?_)
    refine jb1k h12 fun p3 hp3 hk4=>?_
    have J4 : ∀ (want5:List YAB) (i8:Nat→Nat),p3=want5→K16 ⟨[(0,qh c1),(1,rI (e1)),(2,rI (id1)),(6,rB (rows1)),(16,.own 5016 (i8 0)),(82,.agg [rI (0),rI (at1),rI (1),rI (n1),rI (2),rI (x1),rI (0),rI (x3)]),(83,rI (x5))],[(5016,some (.arr (i8 0) 142 2 (want5.map YAB.row)))],(i8 1),117⟩:=by
     intro want5 i8 e
     have h13:=hk4 _ e
     refine hK16 _ ?_
     refine aR (Zl h13 fun x8 ex8 h14=>(sQ R (ZI R iL iL (fun _=>ex8)) (sM R R ?_)))
     refine Zt ?_
     exact YFi.mk h14 (vec [(i8 0),(i8 1)]) ((by exact Zc ⟨jL,jL,jL,jL,jL,jL,jL,Za⟩ ⟨.inl R,Za⟩ nL))
    refine aS fun _ hK17 _=>(aR (Zl hp3 fun x9 ex9 h15=>(sQ R (YNK (f:=fun (a:YAB)=>[rI (a.Kind),rI (a.N)]) (l:=[(YAB.mk 0 at1),(YAB.mk 1 n1),(YAB.mk 2 x1),(YAB.mk 0 x3)]) R tq_143 (fun _=>R) (.inl R) (.inl R) R (fun _=>ex9)) (Zh R R R (YAi (cs:=[rI (0),rI (0)]) 18 R YRs R R) (ZN R R (ZF (ds:=[rI (x9.Kind),rI (x9.N)]) R YRm iL R iL R R R R) (aZ (hK17 _ ?_)))))))
    refine aS fun _ hK18 _=>(aR (sQ R (fB R YG1 iL fR R) (sQ R (Zb (a:=rI (x9.N)) R ts_3 iL R R) (sQ R (ZR R iL iL) (aZ (hK18 _ ?_))))))
    refine aC R (fun hc4=>?_) (fun hc4=>?_)
    ·have h16:=Zn hc4 h15
     refine aR (sM R R (sQ R (ZC R YLf iL R R) (Zh R R R (YCn 91 R YHW (f:=YAB.row) (l:=([x9]:List YAB)) ⟨R,⟨_,iL,R⟩,Za⟩ R (fun _=>R) R) (Zl h16 fun want6 ewant6 h17=>(Zh R R R (YJQ R YHW iL R (.inr (.inl ⟨_,_,iL,R⟩)) ewant6) (sA R R ?_))))))
     refine Zt ?_
     exact wK16 _ _ ((by exact Zc ⟨jL,jL,jL,jL,jL,jL,jL,Za⟩ ⟨.inl R,Za⟩ nL)) (J4 _ (vec [((i4 1)+2),((i4 1)+3)]) (Zd h17).symm)
    ·have h16:=Zo hc4 h15
     refine Zk ?_
     exact wK16 _ _ ((by exact Zc ⟨jL,jL,jL,jL,jL,jL,jL,Za⟩ ⟨.inl R,Za⟩ nL)) (J4 _ (vec [(i4 0),((i4 1)+1)]) (Zd h16).symm)
   ·have h12:=Zo hc3 h11
    refine ZL ?_
    exact wK8 _ _ ((by exact Zc ⟨jL,jL,jL,jL,jL,Za⟩ ⟨.inl R,Za⟩ nL)) (J2 _ (vec [(i4 0),(i4 1)]) (hx1 _ (Zd h12).symm))
 refine aS fun _ hK19 _=>(aR (sM R R (sQ R (Zs R iL iL) (sM R R (sV R R R (Ze R iL) (sV R R R (Zv R (iR R) iL) (sQ R (Zy R iL (iR R)) (sM R R (sV R R R (Ze R iL) (sV R R R (Zv R (iR R) iL) (sQ R (Zy R iL (iR R)) (sM R R (sV R R R (Ze R iL) (sV R R R (Ze R iL) (sV R R R (ZR R (iR R) (iR R)) (sQ R (Zy R iL (iR R)) (sM R R (sV R R R (Ze R iL) (sV R R R (Zv R (iR R) iL) (sV R R R (Ze R (iR R)) ?_))))))))))))))))))))
 refine sW (.two R R R) R (Ze R iL) ?_
 refine sW (.two R R R) R (Ze R iL) ?_
 refine Zl hp1 fun x10 ex10 h18=>?_
 refine sW (.two R R R) R (YBA R (iR R) (iR R) (gdt ex10)) ?_
 refine sW (.two R R R) R (Ze R iL) ?_
 refine Zl h18 fun x11 ex11 h19=>?_
 refine sW (.two R R R) R (YKJ R (iR R) (gdt ex11)) ?_
 refine sW (.two R R R) R (Zv R (iR R) (iR R)) ?_
 refine sV R R R (Zq R (iR R) (iR R)) (sQ R (Zy R iL (iR R)) (sA R R (aZ (hK19 _ ?_))))
 refine aC R (fun hc5=>?_) (fun hc5=>?_)
 ·have h20:=Zn hc5 h19
  refine Zi (s':=⟨[(0,qh c1),(1,rI (e1)),(2,rI (id1)),(3,rI (size1)),(4,rI (at1)),(5,rI (n1)),(6,rB (rows1))],[],n0,117⟩) (by exact Zc ⟨jL,jL,jL,jL,jL,jL,jL,Za⟩ Za nL) ?_
  refine aR (sA R R ?_)
  refine Zt ?_
  exact wK3 _ _ ((by exact Zc ⟨jL,jL,jL,jL,jL,jL,jL,jL,Za⟩ Za nL)) (J1 _ (vec [n0]) (Zd h20).symm)
 ·have h20:=Zo hc5 h19
  refine aS fun _ hK20 _=>?_
  refine Zi (s':=⟨[(0,qh c1),(1,rI (e1)),(2,rI (id1)),(3,rI (size1)),(4,rI (at1)),(5,rI (n1)),(6,rB (rows1)),(15,rI (0))],[],n0,117⟩) (by exact Zc ⟨jL,jL,jL,jL,jL,jL,jL,jL,Za⟩ Za nL) ?_
  refine aR (sM R R (sQ R (ZR R iL iL) (sM R R (sV R R R (Ze R iL) (sV R R R (Ze R iL) (Zl h20 fun x12 ex12 h21=>(sV R R R (ZI R (iR R) (iR R) (gdt ex12)) (sV R R R (ZR R (iR R) iL) (sQ R (Zy R iL (iR R)) (sA R R (aZ (hK20 _ ?_))))))))))))
  refine aC R (fun hc6=>?_) (fun hc6=>?_)
  ·have h22:=Zn hc6 h21
   refine Zi (s':=⟨[(0,qh c1),(1,rI (e1)),(2,rI (id1)),(3,rI (size1)),(4,rI (at1)),(5,rI (n1)),(6,rB (rows1))],[],n0,117⟩) (by exact Zc ⟨jL,jL,jL,jL,jL,jL,jL,Za⟩ Za nL) ?_
   refine aR (sA R R ?_)
   refine Zt ?_
   exact wK3 _ _ ((by exact Zc ⟨jL,jL,jL,jL,jL,jL,jL,jL,Za⟩ Za nL)) (J1 _ (vec [n0]) (Zd h22).symm)
  ·have h22:=Zo hc6 h21
   refine Zk ?_
   exact wK3 _ _ ((by exact Zc ⟨jL,jL,jL,jL,jL,jL,jL,jL,Za⟩ Za nL)) (J1 _ (vec [n0]) (Zd h22).symm)
theorem YO1 {r:YAN} (h:YNN=some r):ARO Tryz.prog 35 [] (.agg (k20_ r)):=by
 unfold YNN at h
 refine Zu Tryz.func35 R R Tryz.ntmps35 R (Zf R) fun n0=>?_
 refine aS fun _ hK1 _=>(aR (Zh R R R (YAi (cs:=z18_) 0 R YQm R R) (aZ (hK1 _ ?_))))
 refine aS fun _ hK2 _=>(aR ?_)
 refine sQ R (YAn R tb_51 (q:=[(0,_)]) (by exact ⟨R,R,R,iL,Za⟩) (cs:=z17_) (by rfl)) ?_
 refine ZN R R (ZF (ds:=z17_) R YQi iL R iL R R R R) (aZ (hK2 _ ?_))
 refine Zj ?_
 exact YOY (P:=Tryz.prog) (fun (r:YAN)=>.agg (k20_ r)) h iL (.a YLe R R R (.agg (by exact ⟨.closed _ R,.closed _ R,.nil,Za⟩)))
theorem YLT {d1:GDoc} {m1:YAJ} {row1:Int} {col1:Int} {site1:Int} {c1:List GOp} {cell1:Int} {e1:Int} {r:Bool} (h:YCa d1 m1 row1 col1 site1 c1 cell1 e1=some r):ARO Tryz.prog 43 [.agg [qf d1.Nodes],.agg (k6_ m1),rI (row1),rI (col1),rI (site1),qh c1,rI (cell1),rI (e1)] (rB (r)):=by
 unfold YCa at h
 refine Zu Tryz.func43 R R Tryz.ntmps43 R (Zf R) fun n0=>?_
 refine aS fun _ hK1 _=>(aR (Zh R R R (ZM (cs:=[qf d1.Nodes]) 8 R iL R R) (Zh R R R (ZM (cs:=(k6_ m1)) 9 R iL R R) (sA R R (aZ (hK1 _ ?_))))))
 refine aS fun _ hK2 _=>(aR (sA R R (aZ (hK2 _ ?_))))
 refine aS fun K3 hK3 wK3=>(Zp ?_)
 refine jb1k h fun p1 hp1 hk1=>?_
 have J1 : ∀ (f1:Int) (i1:Nat→Nat),p1=f1→K3 ⟨[(2,rI (row1)),(3,rI (col1)),(4,rI (site1)),(5,qh c1),(6,rI (cell1)),(7,rI (e1)),(8,.ptr 8 n0 0 0),(9,.ptr 9 (n0+1) 0 0),(17,rI (f1))],[(8,some (.box n0 24 [qf d1.Nodes])),(9,some (.box (n0+1) 46 (k6_ m1)))],(i1 0),162⟩:=by
  intro f1 i1 e
  have h1:=hk1 _ e
  refine hK3 _ ?_
  refine aS fun _ hK4 _=>(aS fun _ hK5 _=>(aR (sM R R (sQ R (ZD R iL iL) (aZ (hK5 _ ?_))))))
  refine aC R (fun hc1=>?_) (fun hc1=>?_)
  ·have h2:=Zn hc1 h1
   refine aS fun _ hK6 _=>(aR (sM R R (sM R R (sQ R (Zs R iL iL) (sM R R (sV R R R (Ze R iL) (sV R R R (Zz R YGj.slice (iR R)) (sV R R R (Zs R (iR R) iL) (sQ R (Zq R iL (iR R)) (sM R R (sV R R R (Ze R iL) (sV R R R (Zs R (iR R) iL) (sQ R (Zq R iL (iR R)) (sA R R (aZ (hK6 _ ?_))))))))))))))))
   refine Zj ?_
   exact Y2_ h2 iL (.t (.d R))
  ·have h2:=Zo hc1 h1
   refine Zk (hK4 _ ?_)
   refine aS fun K7 hK7 wK7=>(aS fun _ hK8 _=>(aR (sQ R (fB R YBL iL fR R) (sQ R (fB R YCJ iL fR R) (sQ R (Zb (a:=qc m1.Grid.Cells) R YE1 iL R R) (sQ R (Zz R YB2.slice iL) (sM R R (aZ (hK8 _ ?_)))))))))
   refine Zp ?_
   refine jc1k h2 fun o1 hit1 hk2 he2=>?_
   have J2 : ∀ (u2:Unit) (i6:Nat→Nat),o1 = .nrm u2→K7 ⟨[(2,rI (row1)),(3,rI (col1)),(4,rI (site1)),(5,qh c1),(6,rI (cell1)),(7,rI (e1)),(8,.ptr 8 n0 0 0),(9,.ptr 9 (n0+1) 0 0)],[(8,some (.box n0 24 [qf d1.Nodes])),(9,some (.box (n0+1) 46 (k6_ m1)))],(i6 0),162⟩:=by
    intro u2 i6 e
    have h3:=hk2 _ e
    refine hK7 _ ?_
    refine aS fun _ hK9 _=>(aR (sQ R (ZC R YEv iL R R) (sM R R (ob2k h3 fun r1 r2 er1 h4=>(Zh R R R (Zr (r:=.tup [rI (r1),rI (r2)]) (caps:=[]) (bs:=[.agg [qf d1.Nodes],rI (site1)]) R iL R ⟨⟨_,iL,.g (cs:=[.sl (d1.Nodes.map YAJ.row)]) R R⟩,⟨_,iL,.d R⟩,Za⟩ (fun _=>YKB (er1)) R) (sM R R (sQ R (ZQ (a:=rI (r1)) R iL R) (sQ R (ZQ (a:=rI (r2)) R iL R) (sA R R (sA R R (aZ (hK9 _ ?_))))))))))))
    refine aS fun _ hK10 _=>(aS fun _ hK11 _=>(aR (sM R R (sQ R (ZD R iL iL) (aZ (hK11 _ ?_))))))
    refine aC R (fun hc2=>?_) (fun hc2=>?_)
    ·have h5:=Zn hc2 h4
     refine aS fun _ hK12 _=>?_
     refine Zi (s':=⟨[(5,qh c1),(6,rI (cell1)),(7,rI (e1)),(20,rI (r2))],[],(i6 0),162⟩) (by exact Zc ⟨jL,jL,jL,jL,Za⟩ Za nL) ?_
     refine aR (sM R R (sM R R (sQ R (Zs R iL iL) (sM R R (sV R R R (Ze R iL) (sV R R R (Zz R YGj.slice (iR R)) (sV R R R (Zs R (iR R) iL) (sQ R (Zq R iL (iR R)) (sM R R (sV R R R (Ze R iL) (sV R R R (Zs R (iR R) iL) (sQ R (Zq R iL (iR R)) (sA R R (aZ (hK12 _ ?_)))))))))))))))
     refine Zj ?_
     exact Y2_ h5 iL (.t (.d R))
    ·have h5:=Zo hc2 h4
     refine Zk (hK10 _ ?_)
     refine aS fun _ hK13 _=>?_
     refine Zi (s':=⟨[(2,rI (row1)),(3,rI (col1)),(5,qh c1),(6,rI (cell1)),(7,rI (e1)),(9,.ptr 9 (n0+1) 0 0),(19,rI (r1))],[(9,some (.box (n0+1) 46 (k6_ m1)))],(i6 0),162⟩) (by exact Zc ⟨jL,jL,jL,jL,jL,jL,jL,Za⟩ ⟨.inl R,Za⟩ nL) ?_
     refine aR (sQ R (fB R YBn iL fR R) (sQ R (Zb (a:=rI (m1.ID)) R ts_3 iL R R) (sM R R (sM R R (sM R R ?_)))))
     refine sQ R (YAn R YRo (q:=[(0,_),(1,_),(3,_)]) (by exact ⟨R,R,R,iL,R,R,R,iL,R,R,R,iL,Za⟩) (cs:=[rI (row1),rI (col1),.r (.str []),rI (r1),.cst (.slice none 0 0)]) (by rfl)) ?_
     refine Zh R R R (YCn 129 R YB2 (f:=YAL.row) (l:=([(YAL.mk row1 col1 [] r1 [])]:List YAL)) ⟨R,⟨_,iL,R⟩,Za⟩ R (fun _=>R) R) ?_
     refine sQ R (YAn R YQl (q:=[(2,_)]) (by exact ⟨R,R,R,iL,Za⟩) (cs:=[.cst (.slice none 0 0),.cst (.slice none 0 0),.own 129 (i6 0),.cst (.slice none 0 0),.cst (.slice none 0 0)]) (by rfl)) ?_
     refine sQ R (YAn R YMu (q:=[(0,_),(1,_),(13,_)]) (by exact ⟨R,R,R,iL,R,R,R,iL,R,R,R,iL,Za⟩) (cs:=[rI (3),rI (m1.ID),rI (0),rI (0),.cst (.slice none 0 0),.cst (.slice none 0 0),rI (0),rI (0),.cst (.slice none 0 0),.cst (.slice none 0 0),.cst (.slice none 0 0),.cst (.slice none 0 0),.cst (.slice none 0 0),.cst (.slice none 0 0),.cst (.slice none 0 0),.own 129 (i6 0),.cst (.slice none 0 0),.cst (.slice none 0 0),.cst (.slice none 0 0)]) (by rfl)) ?_
     refine Zh R R R (YAi (cs:=z1_) 21 R t0_76 R R) (ZN R R (ZF (ds:=[rI (3),rI (m1.ID),rI (0),rI (0),.cst (.slice none 0 0),.cst (.slice none 0 0),rI (0),rI (0),.cst (.slice none 0 0),.cst (.slice none 0 0),.cst (.slice none 0 0),.cst (.slice none 0 0),.cst (.slice none 0 0),.cst (.slice none 0 0),.cst (.slice none 0 0),.own 129 (i6 0),.cst (.slice none 0 0),.cst (.slice none 0 0),.cst (.slice none 0 0)]) R tz_76 iL R iL R R R R) (aZ (hK13 _ ?_)))
     refine aS fun K14 hK14 wK14=>?_
     refine Zi (s':=⟨[(5,qh c1),(6,rI (cell1)),(7,rI (e1)),(19,rI (r1)),(21,.ptr 21 ((i6 0)+1) 0 0)],[(21,some (.box ((i6 0)+1) 76 [rI (3),rI (m1.ID),rI (0),rI (0),.cst (.slice none 0 0),.cst (.slice none 0 0),rI (0),rI (0),.cst (.slice none 0 0),.cst (.slice none 0 0),.cst (.slice none 0 0),.cst (.slice none 0 0),.cst (.slice none 0 0),.cst (.slice none 0 0),.cst (.slice none 0 0),.own 129 (i6 0),.cst (.slice none 0 0),.cst (.slice none 0 0),.cst (.slice none 0 0)])),(129,some (.arr (i6 0) 140 5 ([(YAL.mk row1 col1 [] r1 [])].map YAL.row)))],((i6 0)+2),162⟩) (by exact Zc ⟨jL,jL,jL,jL,jL,Za⟩ ⟨.inl R,.inl R,Za⟩ nL) ?_
     refine Zl h5 fun x4 ex4 h6=>(Zl h6 fun r3 er3 h7=>(Zl h7 fun r4 er4 h8=>(Zl h8 fun x5 ex5 h9=>?_)))
     refine AW.regionP 28 [⟨some 132,(fun _=>rI (e1)),none,[]⟩,⟨some 133,(fun _=>rB ((decide (e1=0)))),none,[]⟩,⟨some 134,(fun _=>rB ((decide (e1=0)))),none,[]⟩,⟨some 135,(fun _=>.whn ((decide (e1=0)) == true) (rI (cell1))),none,[]⟩,⟨some 136,(fun _=>.whn ((decide (e1=0)) == true) (rI (r1))),none,[]⟩,⟨some 137,(fun _=>.whn ((decide (e1=0)) == true) (rB ((decide (cell1=r1))))),none,[]⟩,⟨some 138,(fun _=>rB (((decide (e1=0)) && (decide (cell1=r1))))),none,[]⟩,⟨some 139,(fun _=>rB (((decide (e1=0)) && (decide (cell1=r1))))),none,[]⟩,⟨some 140,(fun _=>.whn (((decide (e1=0)) && (decide (cell1=r1))) == true) (qh c1)),none,[]⟩,⟨some 141,(fun _=>.whn (((decide (e1=0)) && (decide (cell1=r1))) == true) (rI ((c1.length:Int)))),none,[]⟩,⟨some 142,(fun _=>.whn (((decide (e1=0)) && (decide (cell1=r1))) == true) (rB ((decide ((c1.length:Int)=2))))),none,[]⟩,⟨some 143,(fun _=>rB ((((decide (e1=0)) && (decide (cell1=r1))) && (decide ((c1.length:Int)=2))))),none,[]⟩,⟨some 144,(fun _=>rB ((((decide (e1=0)) && (decide (cell1=r1))) && (decide ((c1.length:Int)=2))))),none,[]⟩,⟨some 145,(fun _=>.whn ((((decide (e1=0)) && (decide (cell1=r1))) && (decide ((c1.length:Int)=2))) == true) (qh c1)),none,[]⟩,⟨some 146,(fun _=>.whn ((((decide (e1=0)) && (decide (cell1=r1))) && (decide ((c1.length:Int)=2))) == true) (.rop (GOp.row x4) 0)),none,[]⟩,⟨some 147,(fun _=>.whn ((((decide (e1=0)) && (decide (cell1=r1))) && (decide ((c1.length:Int)=2))) == true) (.agg (k2_ x4))),none,[]⟩,⟨some 148,(fun _=>.whn ((((decide (e1=0)) && (decide (cell1=r1))) && (decide ((c1.length:Int)=2))) == true) (rI (r1))),none,[]⟩,⟨some 149,(fun _=>.whn ((((decide (e1=0)) && (decide (cell1=r1))) && (decide ((c1.length:Int)=2))) == true) (.agg (k20_ r3))),none,[]⟩,⟨some 150,(fun _=>.whn ((((decide (e1=0)) && (decide (cell1=r1))) && (decide ((c1.length:Int)=2))) == true) (.r (.sl ([r3].map YAN.row)))),none,[]⟩,⟨some 151,(fun _=>.whn ((((decide (e1=0)) && (decide (cell1=r1))) && (decide ((c1.length:Int)=2))) == true) (.agg [rI (r1),rI (3),.cst (.slice none 0 0),.r (.sl ([r3].map YAN.row)),rI (0),rI (0),.cst (.slice none 0 0),.cst (.slice none 0 0),.cst (.slice none 0 0)])),none,[]⟩,⟨some 152,(fun _=>.whn ((((decide (e1=0)) && (decide (cell1=r1))) && (decide ((c1.length:Int)=2))) == true) (.agg [rI (0),rI (0),rI (r1),rI (3),.cst (.slice none 0 0),.r (.sl ([r3].map YAN.row)),rI (0),rI (0),.cst (.slice none 0 0),.cst (.slice none 0 0),.cst (.slice none 0 0),.cst (.slice none 0 0),.cst (.slice none 0 0),.cst (.slice none 0 0),.cst (.slice none 0 0),.cst (.slice none 0 0),.cst (.slice none 0 0),.cst (.slice none 0 0),.cst (.slice none 0 0)])),none,[]⟩,⟨some 153,(fun _=>.whn ((((decide (e1=0)) && (decide (cell1=r1))) && (decide ((c1.length:Int)=2))) == true) (rB (r4))),none,[]⟩,⟨some 154,(fun _=>rB (((((decide (e1=0)) && (decide (cell1=r1))) && (decide ((c1.length:Int)=2))) && r4))),none,[]⟩,⟨some 155,(fun _=>rB (((((decide (e1=0)) && (decide (cell1=r1))) && (decide ((c1.length:Int)=2))) && r4))),none,[]⟩,⟨some 156,(fun _=>.whn (((((decide (e1=0)) && (decide (cell1=r1))) && (decide ((c1.length:Int)=2))) && r4) == true) (qh c1)),none,[]⟩,⟨some 157,(fun _=>.whn (((((decide (e1=0)) && (decide (cell1=r1))) && (decide ((c1.length:Int)=2))) && r4) == true) (.rop (GOp.row x5) 0)),none,[]⟩,⟨some 158,(fun _=>.whn (((((decide (e1=0)) && (decide (cell1=r1))) && (decide ((c1.length:Int)=2))) && r4) == true) (.agg (k2_ x5))),none,[]⟩,⟨some 159,(fun _=>.whn (((((decide (e1=0)) && (decide (cell1=r1))) && (decide ((c1.length:Int)=2))) && r4) == true) (.agg [rI (3),rI (m1.ID),rI (0),rI (0),.cst (.slice none 0 0),.cst (.slice none 0 0),rI (0),rI (0),.cst (.slice none 0 0),.cst (.slice none 0 0),.cst (.slice none 0 0),.cst (.slice none 0 0),.cst (.slice none 0 0),.cst (.slice none 0 0),.cst (.slice none 0 0),.own 129 (i6 0),.cst (.slice none 0 0),.cst (.slice none 0 0),.cst (.slice none 0 0)])),none,[]⟩] hmix (by kernel_rfl) (by exact ⟨fun _ _ h=>⟨R,fun _ _ e=>by cases e⟩,fun _ _ h=>⟨R,fun _ _ e=>by cases e⟩,fun _ _ h=>⟨R,fun _ _ e=>by cases e⟩,fun _ _ h=>⟨R,fun _ _ e=>by cases e⟩,fun _ _ h=>⟨R,fun _ _ e=>by cases e⟩,fun _ _ h=>⟨R,fun _ _ e=>by cases e⟩,fun _ _ h=>⟨R,fun _ _ e=>by cases e⟩,fun _ _ h=>⟨R,fun _ _ e=>by cases e⟩,fun _ _ h=>⟨R,fun _ _ e=>by cases e⟩,fun _ _ h=>⟨R,fun _ _ e=>by cases e⟩,fun _ _ h=>⟨R,fun _ _ e=>by cases e⟩,fun _ _ h=>⟨R,fun _ _ e=>by cases e⟩,fun _ _ h=>⟨R,fun _ _ e=>by cases e⟩,fun _ _ h=>⟨R,fun _ _ e=>by cases e⟩,fun _ _ h=>⟨R,fun _ _ e=>by cases e⟩,fun _ _ h=>⟨R,fun _ _ e=>by cases e⟩,fun _ _ h=>⟨R,fun _ _ e=>by cases e⟩,fun _ _ h=>⟨R,fun _ _ e=>by cases e⟩,fun _ _ h=>⟨R,fun _ _ e=>by cases e⟩,fun _ _ h=>⟨R,fun _ _ e=>by cases e⟩,fun _ _ h=>⟨R,fun _ _ e=>by cases e⟩,fun _ _ h=>⟨R,fun _ _ e=>by cases e⟩,fun _ _ h=>⟨R,fun _ _ e=>by cases e⟩,fun _ _ h=>⟨R,fun _ _ e=>by cases e⟩,fun _ _ h=>⟨R,fun _ _ e=>by cases e⟩,fun _ _ h=>⟨R,fun _ _ e=>by cases e⟩,fun _ _ h=>⟨R,fun _ _ e=>by cases e⟩,fun _ _ h=>⟨R,fun _ _ e=>by cases e⟩,Za⟩) R (by exact ⟨ZH (n1:=fun n=>n) R R (by intro d h; cases h; rfl) R (fun _=>[(7,rI (e1))]) (fun _=>[]) (fun D G1 hr=>⟨YAq R R,Za⟩) (fun D G1 hr=>Za) (fun _ _=>R) (fun G1 e h' n=>ZB (v:=rI (e1)) (Ze R (.inl R)) _),
       ZH (n1:=fun n=>n) R R (by intro d h; cases h; rfl) R (fun _=>[(132,rI (e1))]) (fun _=>[]) (fun D G1 hr=>⟨ZE hr 0 R R (by kernel_rfl) R R,Za⟩) (fun D G1 hr=>Za) (fun _ _=>R) (fun G1 e h' n=>ZB (v:=rB ((decide (e1=0)))) (Zs R (.inl R) (.inl R)) _),
       ZH (n1:=fun n=>n) R R (by intro d h; cases h; rfl) R (fun _=>[(133,rB ((decide (e1=0))))]) (fun _=>[]) (fun D G1 hr=>⟨ZE hr 1 R R (by kernel_rfl) R R,Za⟩) (fun D G1 hr=>Za) (fun _ _=>R) (fun G1 e h' n=>ZB (v:=rB ((decide (e1=0)))) (Ze R (.inl R)) _),
       Ob.quietG (n1:=fun n=>n) (c:=((decide (e1=0)) == true)) (v0:=fun _=>rI (cell1)) R (by intro d h; cases h; rfl) R (fun _=>[(6,rI (cell1)),(134,rB ((decide (e1=0))))]) (fun _=>[]) (fun D G1 hr=>⟨YAq R R,ZE hr 2 R R (by kernel_rfl) R R,Za⟩) (fun D G1 hr=>Za) (fun _ _=>R) (fun _ _=>(.one R R R)) (fun G1 e h' n=>ZB (v:=rI (cell1)) (Ze R (.inl R)) _),
       Ob.quietG (n1:=fun n=>n) (c:=((decide (e1=0)) == true)) (v0:=fun _=>rI (r1)) R (by intro d h; cases h; rfl) R (fun _=>[(19,rI (r1)),(134,rB ((decide (e1=0))))]) (fun _=>[]) (fun D G1 hr=>⟨YAq R R,ZE hr 2 R R (by kernel_rfl) R R,Za⟩) (fun D G1 hr=>Za) (fun _ _=>R) (fun _ _=>(.one R R R)) (fun G1 e h' n=>ZB (v:=rI (r1)) (Ze R (.inl R)) _),
       Ob.quietG (n1:=fun n=>n) (c:=((decide (e1=0)) == true)) (v0:=fun _=>rB ((decide (cell1=r1)))) R (by intro d h; cases h; rfl) R (fun _=>[(134,rB ((decide (e1=0)))),(135,.whn ((decide (e1=0)) == true) (rI (cell1))),(136,.whn ((decide (e1=0)) == true) (rI (r1)))]) (fun _=>[]) (fun D G1 hr=>⟨ZE hr 2 R R (by kernel_rfl) R R,ZE hr 3 R R (by kernel_rfl) R R,ZE hr 4 R R (by kernel_rfl) R R,Za⟩) (fun D G1 hr=>Za) (fun _ _=>R) (fun _ _=>(.one R R R)) (fun G1 e h' n=>ZB (v:=rB ((decide (cell1=r1)))) (Zs R (.inr ⟨_,(by exact id),R⟩) (.inr ⟨_,(by exact id),R⟩)) _),
       ZH (n1:=fun n=>n) R R (by intro d h; cases h; rfl) R (fun _=>[(134,rB ((decide (e1=0)))),(137,.whn ((decide (e1=0)) == true) (rB ((decide (cell1=r1)))))]) (fun _=>[]) (fun D G1 hr=>⟨ZE hr 2 R R (by kernel_rfl) R R,ZE hr 5 R R (by kernel_rfl) R R,Za⟩) (fun D G1 hr=>Za) (fun _ _=>R) (fun G1 e h' n=>ZB (v:=rB (((decide (e1=0)) && (decide (cell1=r1))))) (Zq R (.inl R) (.inr ⟨_,(by exact id),R⟩)) _),
       ZH (n1:=fun n=>n) R R (by intro d h; cases h; rfl) R (fun _=>[(138,rB (((decide (e1=0)) && (decide (cell1=r1)))))]) (fun _=>[]) (fun D G1 hr=>⟨ZE hr 6 R R (by kernel_rfl) R R,Za⟩) (fun D G1 hr=>Za) (fun _ _=>R) (fun G1 e h' n=>ZB (v:=rB (((decide (e1=0)) && (decide (cell1=r1))))) (Ze R (.inl R)) _),
       Ob.quietG (n1:=fun n=>n) (c:=(((decide (e1=0)) && (decide (cell1=r1))) == true)) (v0:=fun _=>qh c1) R (by intro d h; cases h; rfl) R (fun _=>[(5,qh c1),(139,rB (((decide (e1=0)) && (decide (cell1=r1)))))]) (fun _=>[]) (fun D G1 hr=>⟨YAq R R,ZE hr 7 R R (by kernel_rfl) R R,Za⟩) (fun D G1 hr=>Za) (fun _ _=>R) (fun _ _=>(.one R R R)) (fun G1 e h' n=>ZB (v:=qh c1) (Ze R (.inl R)) _),
       Ob.quietG (n1:=fun n=>n) (c:=(((decide (e1=0)) && (decide (cell1=r1))) == true)) (v0:=fun _=>rI ((c1.length:Int))) R (by intro d h; cases h; rfl) R (fun _=>[(139,rB (((decide (e1=0)) && (decide (cell1=r1))))),(140,.whn (((decide (e1=0)) && (decide (cell1=r1))) == true) (qh c1))]) (fun _=>[]) (fun D G1 hr=>⟨ZE hr 7 R R (by kernel_rfl) R R,ZE hr 8 R R (by kernel_rfl) R R,Za⟩) (fun D G1 hr=>Za) (fun _ _=>R) (fun _ _=>(.one R R R)) (fun G1 e h' n=>ZB (v:=rI ((c1.length:Int))) (Zz R YGj.slice (.inr ⟨_,(by exact id),R⟩)) _),
       Ob.quietG (n1:=fun n=>n) (c:=(((decide (e1=0)) && (decide (cell1=r1))) == true)) (v0:=fun _=>rB ((decide ((c1.length:Int)=2)))) R (by intro d h; cases h; rfl) R (fun _=>[(139,rB (((decide (e1=0)) && (decide (cell1=r1))))),(141,.whn (((decide (e1=0)) && (decide (cell1=r1))) == true) (rI ((c1.length:Int))))]) (fun _=>[]) (fun D G1 hr=>⟨ZE hr 7 R R (by kernel_rfl) R R,ZE hr 9 R R (by kernel_rfl) R R,Za⟩) (fun D G1 hr=>Za) (fun _ _=>R) (fun _ _=>(.one R R R)) (fun G1 e h' n=>ZB (v:=rB ((decide ((c1.length:Int)=2)))) (Zs R (.inr ⟨_,(by exact id),R⟩) (.inl R)) _),
       ZH (n1:=fun n=>n) R R (by intro d h; cases h; rfl) R (fun _=>[(139,rB (((decide (e1=0)) && (decide (cell1=r1))))),(142,.whn (((decide (e1=0)) && (decide (cell1=r1))) == true) (rB ((decide ((c1.length:Int)=2)))))]) (fun _=>[]) (fun D G1 hr=>⟨ZE hr 7 R R (by kernel_rfl) R R,ZE hr 10 R R (by kernel_rfl) R R,Za⟩) (fun D G1 hr=>Za) (fun _ _=>R) (fun G1 e h' n=>ZB (v:=rB ((((decide (e1=0)) && (decide (cell1=r1))) && (decide ((c1.length:Int)=2))))) (Zq R (.inl R) (.inr ⟨_,(by exact id),R⟩)) _),
       ZH (n1:=fun n=>n) R R (by intro d h; cases h; rfl) R (fun _=>[(143,rB ((((decide (e1=0)) && (decide (cell1=r1))) && (decide ((c1.length:Int)=2)))))]) (fun _=>[]) (fun D G1 hr=>⟨ZE hr 11 R R (by kernel_rfl) R R,Za⟩) (fun D G1 hr=>Za) (fun _ _=>R) (fun G1 e h' n=>ZB (v:=rB ((((decide (e1=0)) && (decide (cell1=r1))) && (decide ((c1.length:Int)=2))))) (Ze R (.inl R)) _),
       Ob.quietG (n1:=fun n=>n) (c:=((((decide (e1=0)) && (decide (cell1=r1))) && (decide ((c1.length:Int)=2))) == true)) (v0:=fun _=>qh c1) R (by intro d h; cases h; rfl) R (fun _=>[(5,qh c1),(144,rB ((((decide (e1=0)) && (decide (cell1=r1))) && (decide ((c1.length:Int)=2)))))]) (fun _=>[]) (fun D G1 hr=>⟨YAq R R,ZE hr 12 R R (by kernel_rfl) R R,Za⟩) (fun D G1 hr=>Za) (fun _ _=>R) (fun _ _=>(.one R R R)) (fun G1 e h' n=>ZB (v:=qh c1) (Ze R (.inl R)) _),
       Ob.quietG (n1:=fun n=>n) (c:=((((decide (e1=0)) && (decide (cell1=r1))) && (decide ((c1.length:Int)=2))) == true)) (v0:=fun _=>.rop (GOp.row x4) 0) R (by intro d h; cases h; rfl) R (fun _=>[(144,rB ((((decide (e1=0)) && (decide (cell1=r1))) && (decide ((c1.length:Int)=2))))),(145,.whn ((((decide (e1=0)) && (decide (cell1=r1))) && (decide ((c1.length:Int)=2))) == true) (qh c1))]) (fun _=>[]) (fun D G1 hr=>⟨ZE hr 12 R R (by kernel_rfl) R R,ZE hr 13 R R (by kernel_rfl) R R,Za⟩) (fun D G1 hr=>Za) (fun _ _=>R) (fun _ _=>(.one R R R)) (fun G1 e h' n=>ZB (v:=.rop (GOp.row x4) 0) (Zx R YGj.slice (.inr ⟨_,(by exact id),R⟩) (.inl R) (fun _=>R) (gdt ex4)) _),
       Ob.quietG (n1:=fun n=>n) (c:=((((decide (e1=0)) && (decide (cell1=r1))) && (decide ((c1.length:Int)=2))) == true)) (v0:=fun _=>.agg (k2_ x4)) R (by intro d h; cases h; rfl) R (fun _=>[(144,rB ((((decide (e1=0)) && (decide (cell1=r1))) && (decide ((c1.length:Int)=2))))),(146,.whn ((((decide (e1=0)) && (decide (cell1=r1))) && (decide ((c1.length:Int)=2))) == true) (.rop (GOp.row x4) 0))]) (fun _=>[]) (fun D G1 hr=>⟨ZE hr 12 R R (by kernel_rfl) R R,ZE hr 14 R R (by kernel_rfl) R R,Za⟩) (fun D G1 hr=>Za) (fun _ _=>R) (fun _ _=>(.one R R R)) (fun G1 e h' n=>ZB (v:=.agg (k2_ x4)) (ZG (cs:=(k2_ x4)) R YPG (.inr ⟨_,(by exact id),R⟩) R R) _),
       Ob.quietG (n1:=fun n=>n) (c:=((((decide (e1=0)) && (decide (cell1=r1))) && (decide ((c1.length:Int)=2))) == true)) (v0:=fun _=>rI (r1)) R (by intro d h; cases h; rfl) R (fun _=>[(19,rI (r1)),(144,rB ((((decide (e1=0)) && (decide (cell1=r1))) && (decide ((c1.length:Int)=2)))))]) (fun _=>[]) (fun D G1 hr=>⟨YAq R R,ZE hr 12 R R (by kernel_rfl) R R,Za⟩) (fun D G1 hr=>Za) (fun _ _=>R) (fun _ _=>(.one R R R)) (fun G1 e h' n=>ZB (v:=rI (r1)) (Ze R (.inl R)) _),
       Ob.quietG (n1:=fun n=>n) (c:=((((decide (e1=0)) && (decide (cell1=r1))) && (decide ((c1.length:Int)=2))) == true)) (v0:=fun _=>.agg (k20_ r3)) R (by intro d h; cases h; rfl) R (fun _=>[(144,rB ((((decide (e1=0)) && (decide (cell1=r1))) && (decide ((c1.length:Int)=2)))))]) (fun _=>[]) (fun D G1 hr=>⟨ZE hr 12 R R (by kernel_rfl) R R,Za⟩) (fun D G1 hr=>Za) (fun _ _=>R) (fun _ _=>(.one R R R)) (fun G1 e h' n=>YCs (r:=.agg (k20_ r3)) (caps:=[]) (bs:=[]) R (.inl R) R Za (fun hg=>YO1 (gdt er3 hg))),
       Ob.makeGF (c:=((((decide (e1=0)) && (decide (cell1=r1))) && (decide ((c1.length:Int)=2))) == true)) (id:=150) R (by intro d h; cases h; rfl) R (fun _=>[(144,rB ((((decide (e1=0)) && (decide (cell1=r1))) && (decide ((c1.length:Int)=2))))),(149,.whn ((((decide (e1=0)) && (decide (cell1=r1))) && (decide ((c1.length:Int)=2))) == true) (.agg (k20_ r3)))]) (fun _=>[(150,none)]) (fun D G1 hr=>⟨ZE hr 12 R R (by kernel_rfl) R R,ZE hr 17 R R (by kernel_rfl) R R,Za⟩) (fun D G1 hr=>⟨YAj R R,Za⟩) (fun _ _=>R) (fun _ _=>(.one R R R)) (fun _ _=>R) (fun G1 e h' n=>YSk 150 R YDf (f:=YAN.row) (l:=([r3]:List YAN)) ⟨R,⟨_,(.inr ⟨_,(by exact id),R⟩),R⟩,Za⟩ R (fun _=>R) R),
       Ob.quietG (n1:=fun n=>n) (c:=((((decide (e1=0)) && (decide (cell1=r1))) && (decide ((c1.length:Int)=2))) == true)) (v0:=fun _=>.agg [rI (r1),rI (3),.cst (.slice none 0 0),.r (.sl ([r3].map YAN.row)),rI (0),rI (0),.cst (.slice none 0 0),.cst (.slice none 0 0),.cst (.slice none 0 0)]) R (by intro d h; cases h; rfl) R (fun _=>[(144,rB ((((decide (e1=0)) && (decide (cell1=r1))) && (decide ((c1.length:Int)=2))))),(148,.whn ((((decide (e1=0)) && (decide (cell1=r1))) && (decide ((c1.length:Int)=2))) == true) (rI (r1))),(150,.whn ((((decide (e1=0)) && (decide (cell1=r1))) && (decide ((c1.length:Int)=2))) == true) (.r (.sl ([r3].map YAN.row))))]) (fun _=>[]) (fun D G1 hr=>⟨ZE hr 12 R R (by kernel_rfl) R R,ZE hr 16 R R (by kernel_rfl) R R,ZE hr 18 R R (by kernel_rfl) R R,Za⟩) (fun D G1 hr=>Za) (fun _ _=>R) (fun _ _=>(.one R R R)) (fun G1 e h' n=>ZB (v:=.agg [rI (r1),rI (3),.cst (.slice none 0 0),.r (.sl ([r3].map YAN.row)),rI (0),rI (0),.cst (.slice none 0 0),.cst (.slice none 0 0),.cst (.slice none 0 0)]) (YAn R YPD (q:=[(0,_),(1,_),(3,_)]) (by exact ⟨R,R,R,(.inr ⟨_,(by exact id),R⟩),R,R,R,(.inl R),R,R,R,(.inr ⟨_,(by exact id),R⟩),Za⟩) (cs:=[rI (r1),rI (3),.cst (.slice none 0 0),.r (.sl ([r3].map YAN.row)),rI (0),rI (0),.cst (.slice none 0 0),.cst (.slice none 0 0),.cst (.slice none 0 0)]) (by rfl)) _),
       Ob.quietG (n1:=fun n=>n) (c:=((((decide (e1=0)) && (decide (cell1=r1))) && (decide ((c1.length:Int)=2))) == true)) (v0:=fun _=>.agg [rI (0),rI (0),rI (r1),rI (3),.cst (.slice none 0 0),.r (.sl ([r3].map YAN.row)),rI (0),rI (0),.cst (.slice none 0 0),.cst (.slice none 0 0),.cst (.slice none 0 0),.cst (.slice none 0 0),.cst (.slice none 0 0),.cst (.slice none 0 0),.cst (.slice none 0 0),.cst (.slice none 0 0),.cst (.slice none 0 0),.cst (.slice none 0 0),.cst (.slice none 0 0)]) R (by intro d h; cases h; rfl) R (fun _=>[(144,rB ((((decide (e1=0)) && (decide (cell1=r1))) && (decide ((c1.length:Int)=2))))),(151,.whn ((((decide (e1=0)) && (decide (cell1=r1))) && (decide ((c1.length:Int)=2))) == true) (.agg [rI (r1),rI (3),.cst (.slice none 0 0),.r (.sl ([r3].map YAN.row)),rI (0),rI (0),.cst (.slice none 0 0),.cst (.slice none 0 0),.cst (.slice none 0 0)]))]) (fun _=>[]) (fun D G1 hr=>⟨ZE hr 12 R R (by kernel_rfl) R R,ZE hr 19 R R (by kernel_rfl) R R,Za⟩) (fun D G1 hr=>Za) (fun _ _=>R) (fun _ _=>(.one R R R)) (fun G1 e h' n=>ZB (v:=.agg [rI (0),rI (0),rI (r1),rI (3),.cst (.slice none 0 0),.r (.sl ([r3].map YAN.row)),rI (0),rI (0),.cst (.slice none 0 0),.cst (.slice none 0 0),.cst (.slice none 0 0),.cst (.slice none 0 0),.cst (.slice none 0 0),.cst (.slice none 0 0),.cst (.slice none 0 0),.cst (.slice none 0 0),.cst (.slice none 0 0),.cst (.slice none 0 0),.cst (.slice none 0 0)]) (YAn R YMu (q:=[(0,_),(2,_)]) (by exact ⟨R,R,R,(.inl R),R,R,R,(.inr ⟨_,(by exact id),R⟩),Za⟩) (cs:=[rI (0),rI (0),rI (r1),rI (3),.cst (.slice none 0 0),.r (.sl ([r3].map YAN.row)),rI (0),rI (0),.cst (.slice none 0 0),.cst (.slice none 0 0),.cst (.slice none 0 0),.cst (.slice none 0 0),.cst (.slice none 0 0),.cst (.slice none 0 0),.cst (.slice none 0 0),.cst (.slice none 0 0),.cst (.slice none 0 0),.cst (.slice none 0 0),.cst (.slice none 0 0)]) (by rfl)) _),
       Ob.quietG (n1:=fun n=>n) (c:=((((decide (e1=0)) && (decide (cell1=r1))) && (decide ((c1.length:Int)=2))) == true)) (v0:=fun _=>rB (r4)) R (by intro d h; cases h; rfl) R (fun _=>[(144,rB ((((decide (e1=0)) && (decide (cell1=r1))) && (decide ((c1.length:Int)=2))))),(147,.whn ((((decide (e1=0)) && (decide (cell1=r1))) && (decide ((c1.length:Int)=2))) == true) (.agg (k2_ x4))),(152,.whn ((((decide (e1=0)) && (decide (cell1=r1))) && (decide ((c1.length:Int)=2))) == true) (.agg [rI (0),rI (0),rI (r1),rI (3),.cst (.slice none 0 0),.r (.sl ([r3].map YAN.row)),rI (0),rI (0),.cst (.slice none 0 0),.cst (.slice none 0 0),.cst (.slice none 0 0),.cst (.slice none 0 0),.cst (.slice none 0 0),.cst (.slice none 0 0),.cst (.slice none 0 0),.cst (.slice none 0 0),.cst (.slice none 0 0),.cst (.slice none 0 0),.cst (.slice none 0 0)]))]) (fun _=>[]) (fun D G1 hr=>⟨ZE hr 12 R R (by kernel_rfl) R R,ZE hr 15 R R (by kernel_rfl) R R,ZE hr 20 R R (by kernel_rfl) R R,Za⟩) (fun D G1 hr=>Za) (fun _ _=>R) (fun _ _=>(.one R R R)) (fun G1 e h' n=>Zr (r:=rB (r4)) (caps:=[]) (bs:=[.agg (k2_ x4),.agg [rI (0),rI (0),rI (r1),rI (3),.r (.sl []),.r (.sl ([r3].map YAN.row)),rI (0),rI (0),.r (.sl []),.r (.sl []),.r (.sl []),.r (.sl []),.r (.sl []),.r (.sl []),.r (.sl []),.r (.sl []),.r (.sl []),.r (.sl []),.r (.sl [])]]) R (.inl R) R ⟨⟨_,(.inr ⟨_,(by exact id),R⟩),.g (cs:=[.int .i64 x4.Kind,.int .i64 x4.Node,.int .i64 x4.New.ID,.int .i64 x4.New.Kind,.sl (x4.New.Attrs.map YAT.row),.sl (x4.New.Flow.map YAN.row),.int .i64 x4.New.Grid.Rows,.int .i64 x4.New.Grid.Cols,.sl (x4.New.Grid.Cells.map YAL.row),.sl (x4.New.Grid.Merges.map YAQ.row),.sl (x4.New.Draw.map YAI.row),.sl (x4.Attrs.map YAT.row),.sl (x4.Steps.map YEn.row),.sl (x4.Grid.Rows.map YAB.row),.sl (x4.Grid.Cols.map YAB.row),.sl (x4.Grid.Cells.map YAL.row),.sl (x4.Grid.Split.map YAQ.row),.sl (x4.Grid.Merge.map YAQ.row),.sl (x4.Draw.map YAI.row)]) R R⟩,⟨_,(.inr ⟨_,(by exact id),R⟩),.agg (by exact ⟨.closed _ R,.closed _ R,.closed _ R,.closed _ R,.nil,.closed _ R,.closed _ R,.closed _ R,.nil,.nil,.nil,.nil,.nil,.nil,.nil,.nil,.nil,.nil,.nil,Za⟩)⟩,Za⟩ (fun hg=>YFr (gdt er4 hg)) R),
       ZH (n1:=fun n=>n) R R (by intro d h; cases h; rfl) R (fun _=>[(144,rB ((((decide (e1=0)) && (decide (cell1=r1))) && (decide ((c1.length:Int)=2))))),(153,.whn ((((decide (e1=0)) && (decide (cell1=r1))) && (decide ((c1.length:Int)=2))) == true) (rB (r4)))]) (fun _=>[]) (fun D G1 hr=>⟨ZE hr 12 R R (by kernel_rfl) R R,ZE hr 21 R R (by kernel_rfl) R R,Za⟩) (fun D G1 hr=>Za) (fun _ _=>R) (fun G1 e h' n=>ZB (v:=rB (((((decide (e1=0)) && (decide (cell1=r1))) && (decide ((c1.length:Int)=2))) && r4))) (Zq R (.inl R) (.inr ⟨_,(by exact id),R⟩)) _),
       ZH (n1:=fun n=>n) R R (by intro d h; cases h; rfl) R (fun _=>[(154,rB (((((decide (e1=0)) && (decide (cell1=r1))) && (decide ((c1.length:Int)=2))) && r4)))]) (fun _=>[]) (fun D G1 hr=>⟨ZE hr 22 R R (by kernel_rfl) R R,Za⟩) (fun D G1 hr=>Za) (fun _ _=>R) (fun G1 e h' n=>ZB (v:=rB (((((decide (e1=0)) && (decide (cell1=r1))) && (decide ((c1.length:Int)=2))) && r4))) (Ze R (.inl R)) _),
       Ob.quietG (n1:=fun n=>n) (c:=(((((decide (e1=0)) && (decide (cell1=r1))) && (decide ((c1.length:Int)=2))) && r4) == true)) (v0:=fun _=>qh c1) R (by intro d h; cases h; rfl) R (fun _=>[(5,qh c1),(155,rB (((((decide (e1=0)) && (decide (cell1=r1))) && (decide ((c1.length:Int)=2))) && r4)))]) (fun _=>[]) (fun D G1 hr=>⟨YAq R R,ZE hr 23 R R (by kernel_rfl) R R,Za⟩) (fun D G1 hr=>Za) (fun _ _=>R) (fun _ _=>(.one R R R)) (fun G1 e h' n=>ZB (v:=qh c1) (Ze R (.inl R)) _),
       Ob.quietG (n1:=fun n=>n) (c:=(((((decide (e1=0)) && (decide (cell1=r1))) && (decide ((c1.length:Int)=2))) && r4) == true)) (v0:=fun _=>.rop (GOp.row x5) 0) R (by intro d h; cases h; rfl) R (fun _=>[(155,rB (((((decide (e1=0)) && (decide (cell1=r1))) && (decide ((c1.length:Int)=2))) && r4))),(156,.whn (((((decide (e1=0)) && (decide (cell1=r1))) && (decide ((c1.length:Int)=2))) && r4) == true) (qh c1))]) (fun _=>[]) (fun D G1 hr=>⟨ZE hr 23 R R (by kernel_rfl) R R,ZE hr 24 R R (by kernel_rfl) R R,Za⟩) (fun D G1 hr=>Za) (fun _ _=>R) (fun _ _=>(.one R R R)) (fun G1 e h' n=>ZB (v:=.rop (GOp.row x5) 0) (Zx R YGj.slice (.inr ⟨_,(by exact id),R⟩) (.inl R) (fun _=>R) (gdt ex5)) _),
       Ob.quietG (n1:=fun n=>n) (c:=(((((decide (e1=0)) && (decide (cell1=r1))) && (decide ((c1.length:Int)=2))) && r4) == true)) (v0:=fun _=>.agg (k2_ x5)) R (by intro d h; cases h; rfl) R (fun _=>[(155,rB (((((decide (e1=0)) && (decide (cell1=r1))) && (decide ((c1.length:Int)=2))) && r4))),(157,.whn (((((decide (e1=0)) && (decide (cell1=r1))) && (decide ((c1.length:Int)=2))) && r4) == true) (.rop (GOp.row x5) 0))]) (fun _=>[]) (fun D G1 hr=>⟨ZE hr 23 R R (by kernel_rfl) R R,ZE hr 25 R R (by kernel_rfl) R R,Za⟩) (fun D G1 hr=>Za) (fun _ _=>R) (fun _ _=>(.one R R R)) (fun G1 e h' n=>ZB (v:=.agg (k2_ x5)) (ZG (cs:=(k2_ x5)) R YPG (.inr ⟨_,(by exact id),R⟩) R R) _),
       Ob.quietG (n1:=fun n=>n) (c:=(((((decide (e1=0)) && (decide (cell1=r1))) && (decide ((c1.length:Int)=2))) && r4) == true)) (v0:=fun _=>.agg [rI (3),rI (m1.ID),rI (0),rI (0),.cst (.slice none 0 0),.cst (.slice none 0 0),rI (0),rI (0),.cst (.slice none 0 0),.cst (.slice none 0 0),.cst (.slice none 0 0),.cst (.slice none 0 0),.cst (.slice none 0 0),.cst (.slice none 0 0),.cst (.slice none 0 0),.own 129 (i6 0),.cst (.slice none 0 0),.cst (.slice none 0 0),.cst (.slice none 0 0)]) R (by intro d h; cases h; rfl) R (fun _=>[(21,.ptr 21 ((i6 0)+1) 0 0),(155,rB (((((decide (e1=0)) && (decide (cell1=r1))) && (decide ((c1.length:Int)=2))) && r4)))]) (fun _=>[(21,some (.box ((i6 0)+1) 76 [rI (3),rI (m1.ID),rI (0),rI (0),.cst (.slice none 0 0),.cst (.slice none 0 0),rI (0),rI (0),.cst (.slice none 0 0),.cst (.slice none 0 0),.cst (.slice none 0 0),.cst (.slice none 0 0),.cst (.slice none 0 0),.cst (.slice none 0 0),.cst (.slice none 0 0),.own 129 (i6 0),.cst (.slice none 0 0),.cst (.slice none 0 0),.cst (.slice none 0 0)]))]) (fun D G1 hr=>⟨YAq R R,ZE hr 23 R R (by kernel_rfl) R R,Za⟩) (fun D G1 hr=>⟨YAj R R,Za⟩) (fun _ _=>R) (fun _ _=>(.one R R R)) (fun G1 e h' n=>ZB (v:=.agg [rI (3),rI (m1.ID),rI (0),rI (0),.cst (.slice none 0 0),.cst (.slice none 0 0),rI (0),rI (0),.cst (.slice none 0 0),.cst (.slice none 0 0),.cst (.slice none 0 0),.cst (.slice none 0 0),.cst (.slice none 0 0),.cst (.slice none 0 0),.cst (.slice none 0 0),.own 129 (i6 0),.cst (.slice none 0 0),.cst (.slice none 0 0),.cst (.slice none 0 0)]) (ZC R YPG (.inl R) R R) _),
       Za⟩) fun G1 n1=>?_
     refine AOps.weak (s':=⟨[(5,qh c1),(6,rI (cell1)),(7,rI (e1)),(19,rI (r1)),(21,.ptr 21 ((i6 0)+1) 0 0),(132,rI (e1)),(133,rB ((decide (e1=0)))),(134,rB ((decide (e1=0)))),(135,.whn ((decide (e1=0)) == true) (rI (cell1))),(136,.whn ((decide (e1=0)) == true) (rI (r1))),(137,.whn ((decide (e1=0)) == true) (rB ((decide (cell1=r1))))),(138,rB (((decide (e1=0)) && (decide (cell1=r1))))),(139,rB (((decide (e1=0)) && (decide (cell1=r1))))),(140,.whn (((decide (e1=0)) && (decide (cell1=r1))) == true) (qh c1)),(141,.whn (((decide (e1=0)) && (decide (cell1=r1))) == true) (rI ((c1.length:Int)))),(142,.whn (((decide (e1=0)) && (decide (cell1=r1))) == true) (rB ((decide ((c1.length:Int)=2))))),(143,rB ((((decide (e1=0)) && (decide (cell1=r1))) && (decide ((c1.length:Int)=2))))),(144,rB ((((decide (e1=0)) && (decide (cell1=r1))) && (decide ((c1.length:Int)=2))))),(145,.whn ((((decide (e1=0)) && (decide (cell1=r1))) && (decide ((c1.length:Int)=2))) == true) (qh c1)),(146,.whn ((((decide (e1=0)) && (decide (cell1=r1))) && (decide ((c1.length:Int)=2))) == true) (.rop (GOp.row x4) 0)),(147,.whn ((((decide (e1=0)) && (decide (cell1=r1))) && (decide ((c1.length:Int)=2))) == true) (.agg (k2_ x4))),(148,.whn ((((decide (e1=0)) && (decide (cell1=r1))) && (decide ((c1.length:Int)=2))) == true) (rI (r1))),(149,.whn ((((decide (e1=0)) && (decide (cell1=r1))) && (decide ((c1.length:Int)=2))) == true) (.agg (k20_ r3))),(150,.whn ((((decide (e1=0)) && (decide (cell1=r1))) && (decide ((c1.length:Int)=2))) == true) (.r (.sl ([r3].map YAN.row)))),(151,.whn ((((decide (e1=0)) && (decide (cell1=r1))) && (decide ((c1.length:Int)=2))) == true) (.agg [rI (r1),rI (3),.cst (.slice none 0 0),.r (.sl ([r3].map YAN.row)),rI (0),rI (0),.cst (.slice none 0 0),.cst (.slice none 0 0),.cst (.slice none 0 0)])),(152,.whn ((((decide (e1=0)) && (decide (cell1=r1))) && (decide ((c1.length:Int)=2))) == true) (.agg [rI (0),rI (0),rI (r1),rI (3),.cst (.slice none 0 0),.r (.sl ([r3].map YAN.row)),rI (0),rI (0),.cst (.slice none 0 0),.cst (.slice none 0 0),.cst (.slice none 0 0),.cst (.slice none 0 0),.cst (.slice none 0 0),.cst (.slice none 0 0),.cst (.slice none 0 0),.cst (.slice none 0 0),.cst (.slice none 0 0),.cst (.slice none 0 0),.cst (.slice none 0 0)])),(153,.whn ((((decide (e1=0)) && (decide (cell1=r1))) && (decide ((c1.length:Int)=2))) == true) (rB (r4))),(154,rB (((((decide (e1=0)) && (decide (cell1=r1))) && (decide ((c1.length:Int)=2))) && r4))),(155,rB (((((decide (e1=0)) && (decide (cell1=r1))) && (decide ((c1.length:Int)=2))) && r4))),(156,.whn (((((decide (e1=0)) && (decide (cell1=r1))) && (decide ((c1.length:Int)=2))) && r4) == true) (qh c1)),(157,.whn (((((decide (e1=0)) && (decide (cell1=r1))) && (decide ((c1.length:Int)=2))) && r4) == true) (.rop (GOp.row x5) 0)),(158,.whn (((((decide (e1=0)) && (decide (cell1=r1))) && (decide ((c1.length:Int)=2))) && r4) == true) (.agg (k2_ x5))),(159,.whn (((((decide (e1=0)) && (decide (cell1=r1))) && (decide ((c1.length:Int)=2))) && r4) == true) (.agg [rI (3),rI (m1.ID),rI (0),rI (0),.cst (.slice none 0 0),.cst (.slice none 0 0),rI (0),rI (0),.cst (.slice none 0 0),.cst (.slice none 0 0),.cst (.slice none 0 0),.cst (.slice none 0 0),.cst (.slice none 0 0),.cst (.slice none 0 0),.cst (.slice none 0 0),.own 129 (i6 0),.cst (.slice none 0 0),.cst (.slice none 0 0),.cst (.slice none 0 0)]))],[(21,some (.box ((i6 0)+1) 76 [rI (3),rI (m1.ID),rI (0),rI (0),.cst (.slice none 0 0),.cst (.slice none 0 0),rI (0),rI (0),.cst (.slice none 0 0),.cst (.slice none 0 0),.cst (.slice none 0 0),.cst (.slice none 0 0),.cst (.slice none 0 0),.cst (.slice none 0 0),.cst (.slice none 0 0),.own 129 (i6 0),.cst (.slice none 0 0),.cst (.slice none 0 0),.cst (.slice none 0 0)])),(129,some (.arr (i6 0) 140 5 ([(YAL.mk row1 col1 [] r1 [])].map YAL.row)))],n1,162⟩) (by exact Zc ⟨jL,jL,jL,jL,jL,jL,jL,jL,jL,jL,jL,jL,jL,jL,jL,jL,jL,jL,jL,jL,jL,jL,jL,jL,jL,jL,jL,jL,jL,jL,jL,jL,jL,Za⟩ ⟨.inl R,.inl R,Za⟩ nL) ?_
     refine jb1k h9 fun p2 hp2 hk3=>?_
     have J3 : ∀ (x6:Bool) (i7:Nat→Nat),p2=x6→K14 ⟨[(16,rB (x6))],[],(i7 0),162⟩:=by
      intro x6 i7 e
      have h10:=hk3 _ e
      refine hK14 _ ?_
      refine Zj ?_
      exact Y2_ h10 iL (.t (.d R))
     refine AOps.split (((((decide (e1=0)) && (decide (cell1=r1))) && (decide ((c1.length:Int)=2))) && r4) == true) (fun hg1=>?_) (fun hg1=>?_)
     ·have h11:=Zn hg1 hp2
      refine AOps.weak (by exact Weak.unw2 (e':=[(5,qh c1),(6,rI (cell1)),(7,rI (e1)),(19,rI (r1)),(21,.ptr 21 ((i6 0)+1) 0 0),(132,rI (e1)),(133,rB ((decide (e1=0)))),(134,rB ((decide (e1=0)))),(138,rB (((decide (e1=0)) && (decide (cell1=r1))))),(139,rB (((decide (e1=0)) && (decide (cell1=r1))))),(143,rB ((((decide (e1=0)) && (decide (cell1=r1))) && (decide ((c1.length:Int)=2))))),(144,rB ((((decide (e1=0)) && (decide (cell1=r1))) && (decide ((c1.length:Int)=2))))),(154,rB (((((decide (e1=0)) && (decide (cell1=r1))) && (decide ((c1.length:Int)=2))) && r4))),(155,rB (((((decide (e1=0)) && (decide (cell1=r1))) && (decide ((c1.length:Int)=2))) && r4))),(156,qh c1),(157,.rop (GOp.row x5) 0),(158,.agg (k2_ x5)),(159,.agg [rI (3),rI (m1.ID),rI (0),rI (0),.cst (.slice none 0 0),.cst (.slice none 0 0),rI (0),rI (0),.cst (.slice none 0 0),.cst (.slice none 0 0),.cst (.slice none 0 0),.cst (.slice none 0 0),.cst (.slice none 0 0),.cst (.slice none 0 0),.cst (.slice none 0 0),.own 129 (i6 0),.cst (.slice none 0 0),.cst (.slice none 0 0),.cst (.slice none 0 0)])]) hg1 ⟨.inl R,.inl R,.inl R,.inl R,.inl R,.inl R,.inl R,.inl R,.inl R,.inl R,.inl R,.inl R,.inl R,.inl R,.inr iL,.inr iL,.inr iL,.inr iL,Za⟩) ?_
      refine AOps.weak (by exact Zc (e':=[(5,qh c1),(6,rI (cell1)),(7,rI (e1)),(19,rI (r1)),(21,.ptr 21 ((i6 0)+1) 0 0),(132,rI (e1)),(133,rB ((decide (e1=0)))),(134,rB ((decide (e1=0)))),(138,rB (((decide (e1=0)) && (decide (cell1=r1))))),(139,rB (((decide (e1=0)) && (decide (cell1=r1))))),(143,rB ((((decide (e1=0)) && (decide (cell1=r1))) && (decide ((c1.length:Int)=2))))),(144,rB ((((decide (e1=0)) && (decide (cell1=r1))) && (decide ((c1.length:Int)=2))))),(154,rB (((((decide (e1=0)) && (decide (cell1=r1))) && (decide ((c1.length:Int)=2))) && r4))),(155,rB (((((decide (e1=0)) && (decide (cell1=r1))) && (decide ((c1.length:Int)=2))) && r4))),(156,qh c1),(157,.rop (GOp.row x5) 0),(158,.agg (k2_ x5)),(159,.agg [rI (3),rI (m1.ID),rI (0),rI (0),.r (.sl []),.r (.sl []),rI (0),rI (0),.r (.sl []),.r (.sl []),.r (.sl []),.r (.sl []),.r (.sl []),.r (.sl []),.r (.sl []),.own 129 (i6 0),.r (.sl []),.r (.sl []),.r (.sl [])])]) (h':=[(21,some (.box ((i6 0)+1) 76 [rI (3),rI (m1.ID),rI (0),rI (0),.cst (.slice none 0 0),.cst (.slice none 0 0),rI (0),rI (0),.cst (.slice none 0 0),.cst (.slice none 0 0),.cst (.slice none 0 0),.cst (.slice none 0 0),.cst (.slice none 0 0),.cst (.slice none 0 0),.cst (.slice none 0 0),.own 129 (i6 0),.cst (.slice none 0 0),.cst (.slice none 0 0),.cst (.slice none 0 0)])),(129,some (.arr (i6 0) 140 5 ([(YAL.mk row1 col1 [] r1 [])].map YAL.row)))]) ⟨jL,jL,jL,jL,jL,jL,jL,jL,jL,jL,jL,jL,jL,jL,jL,jL,jL,.inr ⟨_,_,R,R,⟨.inl R,.inl R,.inl R,.inl R,.inr (.inr ⟨R,R⟩),.inr (.inr ⟨R,R⟩),.inl R,.inl R,.inr (.inr ⟨R,R⟩),.inr (.inr ⟨R,R⟩),.inr (.inr ⟨R,R⟩),.inr (.inr ⟨R,R⟩),.inr (.inr ⟨R,R⟩),.inr (.inr ⟨R,R⟩),.inr (.inr ⟨R,R⟩),.inl R,.inr (.inr ⟨R,R⟩),.inr (.inr ⟨R,R⟩),.inr (.inr ⟨R,R⟩),Za⟩⟩,Za⟩ ⟨.inl R,.inl R,Za⟩ nL) ?_
      refine Zl h11 fun r5 er5 h12=>?_
      refine AOps.stepGT (.one R R R) hg1 R R (Zr (r:=rB (r5)) (caps:=[]) (bs:=[.agg (k2_ x5),.agg [rI (3),rI (m1.ID),rI (0),rI (0),.r (.sl []),.r (.sl []),rI (0),rI (0),.r (.sl []),.r (.sl []),.r (.sl []),.r (.sl []),.r (.sl []),.r (.sl []),.r (.sl []),.r (.sl ([(YAL.mk row1 col1 [] r1 [])].map YAL.row)),.r (.sl []),.r (.sl []),.r (.sl [])]]) R (.inl R) R ⟨⟨_,(.inl R),.g (cs:=[.int .i64 x5.Kind,.int .i64 x5.Node,.int .i64 x5.New.ID,.int .i64 x5.New.Kind,.sl (x5.New.Attrs.map YAT.row),.sl (x5.New.Flow.map YAN.row),.int .i64 x5.New.Grid.Rows,.int .i64 x5.New.Grid.Cols,.sl (x5.New.Grid.Cells.map YAL.row),.sl (x5.New.Grid.Merges.map YAQ.row),.sl (x5.New.Draw.map YAI.row),.sl (x5.Attrs.map YAT.row),.sl (x5.Steps.map YEn.row),.sl (x5.Grid.Rows.map YAB.row),.sl (x5.Grid.Cols.map YAB.row),.sl (x5.Grid.Cells.map YAL.row),.sl (x5.Grid.Split.map YAQ.row),.sl (x5.Grid.Merge.map YAQ.row),.sl (x5.Draw.map YAI.row)]) R R⟩,⟨_,(.inl R),.agg (by exact ⟨.closed _ R,.closed _ R,.closed _ R,.closed _ R,.closed _ R,.closed _ R,.closed _ R,.closed _ R,.closed _ R,.closed _ R,.closed _ R,.closed _ R,.closed _ R,.closed _ R,.closed _ R,.own R,.closed _ R,.closed _ R,.closed _ R,Za⟩)⟩,Za⟩ (fun _=>YFr (er5)) R) ?_
      refine sQ R (Zq R iL iL) (sA R R ?_)
      refine Zt ?_
      exact wK14 _ _ ((by exact Zc ⟨jL,Za⟩ Za nL)) (J3 _ (vec [n1]) (Zd h12).symm)
     ·have h11:=Zo hg1 hp2
      refine AOps.stepGF2 (.one R R R) hg1 R R ?_
      refine sQ R (Zq R iL (iR R)) (sA R R ?_)
      refine Zt ?_
      exact wK14 _ _ ((by exact Zc ⟨jL,Za⟩ Za nL)) (J3 _ (vec [n1]) (Zd h11).symm)
   refine ZP (fun (x2:Int) i4=>⟨[(2,rI (row1)),(3,rI (col1)),(4,rI (site1)),(5,qh c1),(6,rI (cell1)),(7,rI (e1)),(8,.ptr 8 n0 0 0),(9,.ptr 9 (n0+1) 0 0),(60,rI ((m1.Grid.Cells.length:Int))),(61,rI (x2))],[(8,some (.box n0 24 [qf d1.Nodes])),(9,some (.box (n0+1) 46 (k6_ m1)))],(i4 0),162⟩) (vec [(i1 0)]) hit1 ((by exact Zc ⟨jL,jL,jL,jL,jL,jL,jL,jL,jL,jL,Za⟩ ⟨.inl R,.inl R,Za⟩ nL)) ?_
   intro x2 i4 v1 hv1 hx1
   have h13:YCZ m1 row1 col1 c1 cell1 e1 x2=some v1:=hv1; unfold YCZ at h13
   refine aS fun _ hK15 _=>(aR (sQ R (Zv R iL iL) (aZ (hK15 _ ?_))))
   refine aS fun _ hK16 _=>?_
   refine aC R (fun hc3=>?_) (fun hc3=>?_)
   ·have h14:=Zn hc3 h13
    refine Zk (hK16 _ ?_)
    refine aS fun _ hK17 _=>(Zp (aS fun _ hK18 _=>(aR (sM R R (sA R R (aZ (hK18 _ ?_)))))))
    refine aS fun _ hK19 _=>(aR (sQ R (fB R YBL iL fR R) (sQ R (fB R YCJ iL fR R) (sQ R (Zb (a:=qc m1.Grid.Cells) R YE1 iL R R) (sM R R (Zl h14 fun x7 ex7 h15=>(sQ R (Zx R YB2.slice iL iL (fun _=>R) (fun _=>ex7)) (sQ R (Zw R YBy iL) (sQ R (ZO (d:=.int .i64 x7.Row) R ts_3 iL R) (sM R R (sQ R (Zs R iL iL) (sM R R (sV R R R (fB R YBL iL fR R) (sV R R R (fB R YCJ (iR R) fR R) (sV R R R (Zb (a:=qc m1.Grid.Cells) R YE1 (iR R) R R) (sV R R R (Ze R iL) (sV R R R (Zx R YB2.slice (iR R) (iR R) (fun _=>R) (fun _=>ex7)) (sV R R R (Zw R YCV (iR R)) (sV R R R (ZO (d:=.int .i64 x7.Col) R ts_3 (iR R) R) (sV R R R (Ze R iL) (sV R R R (Zs R (iR R) (iR R)) (sQ R (Zq R iL (iR R)) (aZ (hK19 _ ?_))))))))))))))))))))))))
    refine aC R (fun hc4=>?_) (fun hc4=>?_)
    ·have h16:=Zn hc4 h15
     refine aS fun _ hK20 _=>?_
     refine Zi (s':=⟨[(5,qh c1),(6,rI (cell1)),(7,rI (e1)),(9,.ptr 9 (n0+1) 0 0),(18,rI (x2))],[(9,some (.box (n0+1) 46 (k6_ m1)))],(i4 0),162⟩) (by exact Zc ⟨jL,jL,jL,jL,jL,Za⟩ ⟨.inl R,Za⟩ nL) ?_
     refine aR (sM R R (sQ R (Zs R iL iL) (sM R R (sV R R R (Ze R iL) (sV R R R (Zz R YGj.slice (iR R)) (sV R R R (Zs R (iR R) iL) (sQ R (Zq R iL (iR R)) (sM R R (sV R R R (Ze R iL) (sV R R R (fB R YBL iL fR R) (sV R R R (fB R YCJ (iR R) fR R) (sV R R R (Zb (a:=qc m1.Grid.Cells) R YE1 (iR R) R R) (sV R R R (Ze R iL) (sV R R R (Zx R YB2.slice (iR R) (iR R) (fun _=>R) (fun _=>ex7)) (sV R R R (Zw R YBa (iR R)) (sV R R R (ZO (d:=.int .i64 x7.Ref) R ts_3 (iR R) R) (sV R R R (Zs R (iR R) (iR R)) (sQ R (Zq R iL (iR R)) (sA R R (aZ (hK20 _ ?_)))))))))))))))))))))
     refine Zj ?_
     exact Y2_ (he2 _ (hx1 _ (Zd h16).symm)) iL (.t (.d R))
    ·have h16:=Zo hc4 h15
     refine Zk (hK17 _ ?_)
     refine Zi (s':=⟨[(2,rI (row1)),(3,rI (col1)),(4,rI (site1)),(5,qh c1),(6,rI (cell1)),(7,rI (e1)),(8,.ptr 8 n0 0 0),(9,.ptr 9 (n0+1) 0 0),(60,rI ((m1.Grid.Cells.length:Int))),(61,rI (x2))],[(8,some (.box n0 24 [qf d1.Nodes])),(9,some (.box (n0+1) 46 (k6_ m1)))],(i4 0),162⟩) (by exact Zc ⟨jL,jL,jL,jL,jL,jL,jL,jL,jL,jL,Za⟩ ⟨.inl R,.inl R,Za⟩ nL) ?_
     refine aR (Zl h16 fun x8 ex8 h17=>(sQ R (ZI R iL iL (fun _=>ex8)) (sM R R ?_)))
     refine Zt ?_
     exact ZJ h17 (vec [(i4 0)]) ((by exact Zc ⟨jL,jL,jL,jL,jL,jL,jL,jL,jL,jL,Za⟩ ⟨.inl R,.inl R,Za⟩ nL))
   ·have h14:=Zo hc3 h13
    refine ZL ?_
    exact wK7 _ _ ((by exact Zc ⟨jL,jL,jL,jL,jL,jL,jL,jL,Za⟩ ⟨.inl R,.inl R,Za⟩ nL)) (J2 _ (vec [(i4 0)]) (hx1 _ (Zd h14).symm))
 refine aS fun _ hK21 _=>(aR (sQ R (fB R YA0 iL fR R) (sQ R (Zb (a:=rI (m1.Kind)) R ts_3 iL R R) (sQ R (ZD R iL iL) (sA R R (aZ (hK21 _ ?_)))))))
 refine aC R (fun hc5=>?_) (fun hc5=>?_)
 ·have h18:=Zn hc5 hp1
  refine aR (sA R R ?_)
  refine Zt ?_
  exact wK3 _ _ ((by exact Zc ⟨jL,jL,jL,jL,jL,jL,jL,jL,jL,Za⟩ ⟨.inl R,.inl R,Za⟩ nL)) (J1 _ (vec [(n0+2)]) (Zd h18).symm)
 ·have h18:=Zo hc5 hp1
  refine aS fun _ hK22 _=>(aR (sM R R (sQ R (fB R YBL iL fR R) (sQ R (fB R YCj iL fR R) (sQ R (Zb (a:=rI (m1.Grid.Rows)) R ts_3 iL R R) (Zl h18 fun x9 ex9 h19=>(sQ R (YBA R iL iL (fun _=>ex9)) (Zl h19 fun r6 er6 h20=>(Zh R R R (Zr (r:=rB (r6)) (caps:=[]) (bs:=[rI (row1),rI (0),rI (x9)]) R iL R ⟨⟨_,iL,.d R⟩,⟨_,iL,.d R⟩,⟨_,iL,.d R⟩,Za⟩ (fun _=>YBB (er6)) R) (sQ R (ZK R iL) (sM R R (sV R R R (Ze R iL) (sV R R R (fB R YBL iL fR R) (sV R R R (fB R YCi (iR R) fR R) (sV R R R (Zb (a:=rI (m1.Grid.Cols)) R ts_3 (iR R) R R) (Zl h20 fun x10 ex10 h21=>(sV R R R (YBA R (iR R) iL (gdt ex10)) (Zl h21 fun r7 er7 h22=>?_))))))))))))))))))
  refine ZA (.one R R R) R R (Zr (r:=rB (r7)) (caps:=[]) (bs:=[rI (col1),rI (0),rI (x10)]) R iL R ⟨⟨_,(iR R),.d R⟩,⟨_,iL,.d R⟩,⟨_,(iR R),.d R⟩,Za⟩ (fun hg=>YBB (gdt er7 hg)) R) ?_
  refine sV R R R (ZK R (iR R)) (sQ R (Zy R iL (iR R)) (sA R R (aZ (hK22 _ ?_))))
  refine aC R (fun hc6=>?_) (fun hc6=>?_)
  ·have h23:=Zn hc6 h22
   refine Zi (s':=⟨[(2,rI (row1)),(3,rI (col1)),(4,rI (site1)),(5,qh c1),(6,rI (cell1)),(7,rI (e1)),(8,.ptr 8 n0 0 0),(9,.ptr 9 (n0+1) 0 0)],[(8,some (.box n0 24 [qf d1.Nodes])),(9,some (.box (n0+1) 46 (k6_ m1)))],(n0+2),162⟩) (by exact Zc ⟨jL,jL,jL,jL,jL,jL,jL,jL,Za⟩ ⟨.inl R,.inl R,Za⟩ nL) ?_
   refine aR (sA R R ?_)
   refine Zt ?_
   exact wK3 _ _ ((by exact Zc ⟨jL,jL,jL,jL,jL,jL,jL,jL,jL,Za⟩ ⟨.inl R,.inl R,Za⟩ nL)) (J1 _ (vec [(n0+2)]) (Zd h23).symm)
  ·have h23:=Zo hc6 h22
   refine Zk ?_
   exact wK3 _ _ ((by exact Zc ⟨jL,jL,jL,jL,jL,jL,jL,jL,jL,Za⟩ ⟨.inl R,.inl R,Za⟩ nL)) (J1 _ (vec [(n0+2)]) (Zd h23).symm)
theorem YE0 {d1:GDoc} {id1:Int} {at1:Int} {n1:Int} {site1:Int} {r:Bool} (h:YBV d1 id1 at1 n1 site1=some r):ARO Tryz.prog 7 [.agg [qf d1.Nodes],rI (id1),rI (at1),rI (n1),rI (site1)] (rB (r)):=by
 unfold YBV at h
 refine Zu Tryz.func7 R R Tryz.ntmps7 R (Zf R) fun n0=>?_
 refine aS fun _ hK1 _=>(aR (Zh R R R (ZM (cs:=[qf d1.Nodes]) 5 R iL R R) (sA R R (aZ (hK1 _ ?_)))))
 refine aS fun _ hK2 _=>(aS fun _ hK3 _=>(aR (Zl h fun r1 er1 h1=>(Zh R R R (Zr (r:=rB (r1)) (caps:=[]) (bs:=[]) R iL R Za (fun _=>YIZ (er1)) R) (sQ R (ZK R iL) (aZ (hK3 _ ?_)))))))
 refine aC R (fun hc1=>?_) (fun hc1=>?_)
 ·have h2:=Zn hc1 h1
  refine aS fun _ hK4 _=>?_
  refine Zi (s':=⟨[],[],(n0+1),140⟩) (by exact Zc Za Za nL) ?_
  refine aR (sA R R (aZ (hK4 _ ?_)))
  refine Zj ?_
  exact Y2_ h2 iL (.t (.d R))
 ·have h2:=Zo hc1 h1
  refine Zk (hK2 _ ?_)
  refine aS fun _ hK5 _=>(aR (sQ R (ZC R YEv iL R R) (sM R R (sM R R (sM R R (ob2k h2 fun r2 r3 er2 h3=>(Zh R R R (YCs (r:=.tup [qh r2,rI (r3)]) (caps:=[]) (bs:=[.agg [qf d1.Nodes],rI (id1),rI (at1),rI (n1)]) R iL R ⟨.inl ⟨iL,R⟩,.inl ⟨iL,R⟩,.inl ⟨iL,R⟩,.inl ⟨iL,R⟩,Za⟩ (fun _=>YH7 (er2))) (sM R R (sQ R (ZQ (a:=qh r2) R iL R) (sQ R (ZQ (a:=rI (r3)) R iL R) (sA R R (sA R R (aZ (hK5 _ ?_))))))))))))))
  refine aS fun _ hK6 _=>?_
  refine Zi (s':=⟨[(1,rI (id1)),(2,rI (at1)),(3,rI (n1)),(4,rI (site1)),(5,.ptr 5 n0 0 0),(11,qh r2),(12,rI (r3))],[(5,some (.box n0 24 [qf d1.Nodes]))],(n0+1),140⟩) (by exact Zc ⟨jL,jL,jL,jL,jL,jL,jL,Za⟩ ⟨.inl R,Za⟩ nL) ?_
  refine aR (sQ R (ZC R YEv iL R R) (sM R R (sM R R (sM R R (ob2k h3 fun r4 r5 er4 h4=>(Zh R R R (YCs (r:=.tup [qh r4,rI (r5)]) (caps:=[]) (bs:=[.agg [qf d1.Nodes],rI (id1),rI (at1),rI (n1)]) R iL R ⟨.inl ⟨iL,R⟩,.inl ⟨iL,R⟩,.inl ⟨iL,R⟩,.inl ⟨iL,R⟩,Za⟩ (fun _=>YGg (er4))) (sM R R (sQ R (ZQ (a:=qh r4) R iL R) (sQ R (ZQ (a:=rI (r5)) R iL R) (sA R R (sA R R (aZ (hK6 _ ?_)))))))))))))
  refine aS fun _ hK7 _=>(aR (sQ R (ZC R YEv iL R R) (sM R R (sM R R (sM R R (sM R R (ob3k h4 fun r6 r7 r8 er6 h5=>(Zh R R R (YCs (r:=.tup [qh r6,rI (r7),rI (r8)]) (caps:=[]) (bs:=[.agg [qf d1.Nodes],rI (id1),rI (at1),rI (n1),rI (site1)]) R iL R ⟨.inl ⟨iL,R⟩,.inl ⟨iL,R⟩,.inl ⟨iL,R⟩,.inl ⟨iL,R⟩,.inl ⟨iL,R⟩,Za⟩ (fun _=>YH8 (er6))) (sM R R (sQ R (ZQ (a:=qh r6) R iL R) (sQ R (ZQ (a:=rI (r7)) R iL R) (sQ R (ZQ (a:=rI (r8)) R iL R) (sA R R (sA R R (sA R R (aZ (hK7 _ ?_)))))))))))))))))
  refine aS fun _ hK8 _=>?_
  refine Zi (s':=⟨[(1,rI (id1)),(2,rI (at1)),(3,rI (n1)),(4,rI (site1)),(5,.ptr 5 n0 0 0),(11,qh r2),(12,rI (r3)),(13,qh r4),(14,rI (r5)),(15,qh r6),(16,rI (r7)),(17,rI (r8))],[(5,some (.box n0 24 [qf d1.Nodes]))],(n0+1),140⟩) (by exact Zc ⟨jL,jL,jL,jL,jL,jL,jL,jL,jL,jL,jL,jL,Za⟩ ⟨.inl R,Za⟩ nL) ?_
  refine aR (sQ R (ZC R YEv iL R R) (Zl h5 fun f1 ef1 h6=>(Zh R R R (Zr (r:=rI (f1)) (caps:=[]) (bs:=[.agg [qf d1.Nodes]]) R iL R ⟨⟨_,iL,.g (cs:=[.sl (d1.Nodes.map YAJ.row)]) R R⟩,Za⟩ (fun _=>YJq (ef1)) R) (sA R R (aZ (hK8 _ ?_))))))
  refine aS fun K9 hK9 wK9=>(aS fun _ hK10 _=>(aR (sM R R (sQ R (Zs R iL iL) (sM R R (sV R R R (ZC R YEv iL R R) (sV R R R (Ze R iL) (Zl h6 fun r9 er9 h7=>?_))))))))
  refine ZA (.one R R R) R R (Zr (r:=rI (r9)) (caps:=[]) (bs:=[.agg [qf d1.Nodes],rI (id1)]) R iL R ⟨⟨_,(iR R),.g (cs:=[.sl (d1.Nodes.map YAJ.row)]) R R⟩,⟨_,(iR R),.d R⟩,Za⟩ (fun hg=>YGJ (gdt er9 hg)) R) ?_
  refine sV R R R (Zv R (iR R) iL) (sQ R (Zq R iL (iR R)) (aZ (hK10 _ ?_)))
  refine jb1k h7 fun p1 hp1 hk1=>?_
  have J1 : ∀ (f2:Int) (i1:Nat→Nat),p1=f2→K9 ⟨[(1,rI (id1)),(2,rI (at1)),(3,rI (n1)),(4,rI (site1)),(5,.ptr 5 n0 0 0),(11,qh r2),(12,rI (r3)),(13,qh r4),(14,rI (r5)),(15,qh r6),(16,rI (r7)),(17,rI (r8)),(18,rI (f2))],[(5,some (.box n0 24 [qf d1.Nodes]))],(i1 0),140⟩:=by
   intro f2 i1 e
   have h8:=hk1 _ e
   refine hK9 _ ?_
   refine aS fun K11 hK11 wK11=>(aS fun _ hK12 _=>?_)
   refine ZS hmix (by kernel_rfl) ?_
   refine Zm R R R (Ze R iL) (Zm R R R (Zs R iL iL) (Zm R R R (Ze R iL) ?_))
   refine Zg (.one R R R) R R (fB R YBQ iL fR R) ?_
   refine Zg (.one R R R) R R (Zb (a:=qf d1.Nodes) R YEN (iR R) R R) ?_
   refine Zg (.one R R R) R R (ZC R YEv iL R R) ?_
   refine Zg (.one R R R) R R (Ze R iL) ?_
   refine Zl h8 fun r10 er10 h9=>?_
   refine AQ.stepWC (.one R R R) R R (r:=rI (r10)) (caps:=[]) (bs:=[.agg [qf d1.Nodes],rI (id1)]) R iL R ⟨⟨_,(iR R),.g (cs:=[.sl (d1.Nodes.map YAJ.row)]) R R⟩,⟨_,(iR R),.d R⟩,Za⟩ (fun hg=>YGJ (gdt er10 hg)) R ?_
   refine Zl h9 fun x1 ex1 h10=>?_
   refine Zg (.one R R R) R R (Zx R YDc.slice (iR R) (iR R) (fun _=>R) (gdt ex1)) ?_
   refine Zg (.one R R R) R R (Zw R YA0 (iR R)) ?_
   refine Zg (.one R R R) R R (ZO (d:=.int .i64 x1.Kind) R ts_3 (iR R) R) ?_
   refine Zl h10 fun r11 er11 h11=>?_
   refine AQ.stepWC (.one R R R) R R (r:=rB (r11)) (caps:=[]) (bs:=[rI (x1.Kind)]) R iL R ⟨⟨_,(iR R),.d R⟩,Za⟩ (fun hg=>YFM (gdt er11 hg)) R ?_
   refine Zg (.one R R R) R R (ZK R (iR R)) ?_
   refine Zm R R R (Zq R iL (iR R)) ?_
   refine AQ.nil ?_
   refine hK12 _ ?_
   refine jb1k h11 fun p2 hp2 hk2=>?_
   have J2 : ∀ (f3:Int) (i2:Nat→Nat),p2=f3→K11 ⟨[(1,rI (id1)),(2,rI (at1)),(3,rI (n1)),(4,rI (site1)),(5,.ptr 5 n0 0 0),(11,qh r2),(12,rI (r3)),(13,qh r4),(14,rI (r5)),(15,qh r6),(16,rI (r7)),(17,rI (r8)),(18,rI (f3))],[(5,some (.box n0 24 [qf d1.Nodes]))],(i2 0),140⟩:=by
    intro f3 i2 e
    have h12:=hk2 _ e
    refine hK11 _ ?_
    refine aS fun _ hK13 _=>(aS fun _ hK14 _=>(aR (sM R R (sQ R (ZD R iL iL) (aZ (hK14 _ ?_))))))
    refine aC R (fun hc2=>?_) (fun hc2=>?_)
    ·have h13:=Zn hc2 h12
     refine aS fun _ hK15 _=>(aR (sM R R (sM R R (sQ R (Zs R iL iL) (sM R R (sV R R R (Ze R iL) (sV R R R (Ze R iL) (sV R R R (Zs R (iR R) (iR R)) (sQ R (Zq R iL (iR R)) (sM R R (sV R R R (Ze R iL) (sV R R R (Ze R iL) (sV R R R (Zs R (iR R) (iR R)) (sQ R (Zq R iL (iR R)) (sM R R (sV R R R (Ze R iL) (sV R R R (Zz R YGj.slice (iR R)) (sV R R R (Ze R iL) (sV R R R (Zz R YGj.slice (iR R)) (Zl h13 fun x2 ex2 h14=>(sV R R R (ZI R (iR R) (iR R) (gdt ex2)) (sV R R R (Ze R iL) (sV R R R (Zz R YGj.slice (iR R)) (Zl h14 fun x3 ex3 h15=>(sV R R R (ZI R (iR R) (iR R) (gdt ex3)) (sV R R R (Zs R (iR R) iL) (sQ R (Zq R iL (iR R)) (sM R R (sV R R R (Ze R iL) ?_)))))))))))))))))))))))))))))
     refine sV R R R (Zs R (iR R) iL) (sQ R (Zq R iL (iR R)) (sA R R (aZ (hK15 _ ?_))))
     refine Zj ?_
     exact Y2_ h15 iL (.t (.d R))
    ·have h13:=Zo hc2 h12
     refine Zk (hK13 _ ?_)
     refine aS fun _ hK16 _=>(Zl h13 fun r12 er12 h16=>(Zl h16 fun x4 ex4 h17=>?_))
     refine AW.regionP 8 [⟨some 102,(fun _=>.ptr 5 n0 0 0),none,[]⟩,⟨some 103,(fun _=>qf d1.Nodes),none,[]⟩,⟨some 104,(fun _=>.agg [qf d1.Nodes]),none,[]⟩,⟨some 105,(fun _=>rI (id1)),none,[]⟩,⟨some 106,(fun _=>rI (r12)),none,[]⟩,⟨some 107,(fun _=>.rop (YAJ.row x4) 0),none,[]⟩,⟨some 108,(fun _=>.agg (k6_ x4)),none,[]⟩,⟨some 19,(fun G1=>.ptr 19 (G1 7) 0 0),some (19,(fun G1=>some (.box (G1 7) 46 z3_))),[7]⟩] hmix (by kernel_rfl) (by exact ⟨fun _ _ h=>⟨R,fun _ _ e=>by cases e⟩,fun _ _ h=>⟨R,fun _ _ e=>by cases e⟩,fun _ _ h=>⟨R,fun _ _ e=>by cases e⟩,fun _ _ h=>⟨R,fun _ _ e=>by cases e⟩,fun _ _ h=>⟨R,fun _ _ e=>by cases e⟩,fun _ _ h=>⟨R,fun _ _ e=>by cases e⟩,fun _ _ h=>⟨R,fun _ _ e=>by cases e⟩,fun _ _ h=>⟨by simp only [h 7 R],fun _ _ e=>by cases e; simp only [h 7 R]⟩,Za⟩) R (by exact ⟨ZH (n1:=fun n=>n) R R (by intro d h; cases h; rfl) R (fun _=>[(5,.ptr 5 n0 0 0)]) (fun _=>[(5,some (.box n0 24 [qf d1.Nodes]))]) (fun D G1 hr=>⟨YAq R R,Za⟩) (fun D G1 hr=>⟨YAj R R,Za⟩) (fun _ _=>R) (fun G1 e h' n=>ZB (v:=.ptr 5 n0 0 0) (fB R YBQ (.inl R) (fun _=>R) R) _),
       ZH (n1:=fun n=>n) R R (by intro d h; cases h; rfl) R (fun _=>[(102,.ptr 5 n0 0 0)]) (fun _=>[(5,some (.box n0 24 [qf d1.Nodes]))]) (fun D G1 hr=>⟨ZE hr 0 R R (by kernel_rfl) R R,Za⟩) (fun D G1 hr=>⟨YAj R R,Za⟩) (fun _ _=>R) (fun G1 e h' n=>ZB (v:=qf d1.Nodes) (Zb (a:=qf d1.Nodes) R YEN (.inl R) R R) _),
       ZH (n1:=fun n=>n) R R (by intro d h; cases h; rfl) R (fun _=>[(5,.ptr 5 n0 0 0)]) (fun _=>[(5,some (.box n0 24 [qf d1.Nodes]))]) (fun D G1 hr=>⟨YAq R R,Za⟩) (fun D G1 hr=>⟨YAj R R,Za⟩) (fun _ _=>R) (fun G1 e h' n=>ZB (v:=.agg [qf d1.Nodes]) (ZC R YEv (.inl R) R R) _),
       ZH (n1:=fun n=>n) R R (by intro d h; cases h; rfl) R (fun _=>[(1,rI (id1))]) (fun _=>[]) (fun D G1 hr=>⟨YAq R R,Za⟩) (fun D G1 hr=>Za) (fun _ _=>R) (fun G1 e h' n=>ZB (v:=rI (id1)) (Ze R (.inl R)) _),
       ZH (n1:=fun n=>n) R R (by intro d h; cases h; rfl) R (fun _=>[(104,.agg [qf d1.Nodes]),(105,rI (id1))]) (fun _=>[]) (fun D G1 hr=>⟨ZE hr 2 R R (by kernel_rfl) R R,ZE hr 3 R R (by kernel_rfl) R R,Za⟩) (fun D G1 hr=>Za) (fun _ _=>R) (fun G1 e h' n=>Zr (r:=rI (r12)) (caps:=[]) (bs:=[.agg [qf d1.Nodes],rI (id1)]) R (.inl R) R ⟨⟨_,(.inl R),.g (cs:=[.sl (d1.Nodes.map YAJ.row)]) R R⟩,⟨_,(.inl R),.d R⟩,Za⟩ (fun _=>YGJ (er12)) R),
       ZH (n1:=fun n=>n) R R (by intro d h; cases h; rfl) R (fun _=>[(103,qf d1.Nodes),(106,rI (r12))]) (fun _=>[]) (fun D G1 hr=>⟨ZE hr 1 R R (by kernel_rfl) R R,ZE hr 4 R R (by kernel_rfl) R R,Za⟩) (fun D G1 hr=>Za) (fun _ _=>R) (fun G1 e h' n=>ZB (v:=.rop (YAJ.row x4) 0) (Zx R YDc.slice (.inl R) (.inl R) (fun _=>R) (fun _=>ex4)) _),
       ZH (n1:=fun n=>n) R R (by intro d h; cases h; rfl) R (fun _=>[(107,.rop (YAJ.row x4) 0)]) (fun _=>[]) (fun D G1 hr=>⟨ZE hr 5 R R (by kernel_rfl) R R,Za⟩) (fun D G1 hr=>Za) (fun _ _=>R) (fun G1 e h' n=>ZB (v:=.agg (k6_ x4)) (ZG (cs:=(k6_ x4)) R YFl (.inl R) R R) _),
       Ob.make (n1:=fun n=>n+1) R R (by intro d h; cases h; rfl) R (fun _=>[]) (fun _=>[]) (fun D G1 hr=>Za) (fun D G1 hr=>Za) (fun G1 e h' n=>YAi (cs:=z3_) 19 R YLg R R),
       Za⟩) fun G1 n2=>?_
     refine AOps.weak (s':=⟨[(1,rI (id1)),(2,rI (at1)),(3,rI (n1)),(4,rI (site1)),(5,.ptr 5 n0 0 0),(11,qh r2),(12,rI (r3)),(13,qh r4),(14,rI (r5)),(15,qh r6),(16,rI (r7)),(17,rI (r8)),(18,rI (f3)),(19,.ptr 19 (G1 7) 0 0),(72,rI (f3)),(73,rB ((!decide (f3=0)))),(102,.ptr 5 n0 0 0),(103,qf d1.Nodes),(104,.agg [qf d1.Nodes]),(105,rI (id1)),(106,rI (r12)),(107,.rop (YAJ.row x4) 0),(108,.agg (k6_ x4))],[(5,some (.box n0 24 [qf d1.Nodes])),(19,some (.box (G1 7) 46 z3_))],n2,140⟩) (by exact Zc ⟨jL,jL,jL,jL,jL,jL,jL,jL,jL,jL,jL,jL,jL,jL,jL,jL,jL,jL,jL,jL,jL,jL,jL,Za⟩ ⟨.inl R,.inl R,Za⟩ nL) ?_
     refine ZN R R (ZF (ds:=(k6_ x4)) R YIz iL R iL R R R R) (aZ (hK16 _ ?_))
     refine aS fun _ hK17 _=>?_
     refine Zi (s':=⟨[(1,rI (id1)),(2,rI (at1)),(3,rI (n1)),(4,rI (site1)),(5,.ptr 5 n0 0 0),(11,qh r2),(12,rI (r3)),(13,qh r4),(14,rI (r5)),(15,qh r6),(16,rI (r7)),(17,rI (r8)),(19,.ptr 19 (G1 7) 0 0)],[(5,some (.box n0 24 [qf d1.Nodes])),(19,some (.box (G1 7) 46 (k6_ x4)))],n2,140⟩) (by exact Zc ⟨jL,jL,jL,jL,jL,jL,jL,jL,jL,jL,jL,jL,jL,Za⟩ ⟨.inl R,.inl R,Za⟩ nL) ?_
     refine aR (sM R R (sM R R (sM R R (sQ R (fB R YBL iL fR R) (sQ R (fB R YCj iL fR R) (sQ R (Zb (a:=rI (x4.Grid.Rows)) R ts_3 iL R R) (sM R R (sM R R (Zl h17 fun r13 er13 h18=>(Zh R R R (Zr (r:=rB (r13)) (caps:=[]) (bs:=[qh r2,rI (r3),rI (id1),rI (x4.Grid.Rows),rI (at1),rI (n1),rB (true)]) R iL R ⟨⟨_,iL,.d R⟩,⟨_,iL,.d R⟩,⟨_,iL,.d R⟩,⟨_,iL,.d R⟩,⟨_,iL,.d R⟩,⟨_,iL,.d R⟩,⟨_,iL,.d R⟩,Za⟩ (fun _=>YGx (er13)) R) (sM R R (sV R R R (Ze R iL) (sV R R R (Ze R iL) (sV R R R (Ze R iL) (sV R R R (fB R YBL iL fR R) (sV R R R (fB R YCi (iR R) fR R) (sV R R R (Zb (a:=rI (x4.Grid.Cols)) R ts_3 (iR R) R R) (sV R R R (Ze R iL) (sV R R R (Ze R iL) (Zl h18 fun r14 er14 h19=>?_))))))))))))))))))))
     refine ZA (.one R R R) R R (Zr (r:=rB (r14)) (caps:=[]) (bs:=[qh r4,rI (r5),rI (id1),rI (x4.Grid.Cols),rI (at1),rI (n1),rB (false)]) R iL R ⟨⟨_,(iR R),.d R⟩,⟨_,(iR R),.d R⟩,⟨_,(iR R),.d R⟩,⟨_,(iR R),.d R⟩,⟨_,(iR R),.d R⟩,⟨_,(iR R),.d R⟩,⟨_,iL,.d R⟩,Za⟩ (fun hg=>YGx (gdt er14 hg)) R) ?_
     refine sQ R (Zq R iL (iR R)) (sM R R (sV R R R (ZC R YEv iL R R) (sV R R R (ZC R YFl iL R R) (sV R R R (Ze R iL) (sV R R R (Ze R iL) (sV R R R (Ze R iL) (sV R R R (Ze R iL) (sV R R R (Ze R iL) (sV R R R (Ze R iL) (Zl h19 fun r15 er15 h20=>?_))))))))))
     refine ZA (.one R R R) R R (Zr (r:=rB (r15)) (caps:=[]) (bs:=[.agg [qf d1.Nodes],.agg (k6_ x4),rI (at1),rI (n1),rI (site1),qh r6,rI (r7),rI (r8)]) R iL R ⟨⟨_,(iR R),.g (cs:=[.sl (d1.Nodes.map YAJ.row)]) R R⟩,⟨_,(iR R),.g (cs:=[.int .i64 x4.ID,.int .i64 x4.Kind,.sl (x4.Attrs.map YAT.row),.sl (x4.Flow.map YAN.row),.int .i64 x4.Grid.Rows,.int .i64 x4.Grid.Cols,.sl (x4.Grid.Cells.map YAL.row),.sl (x4.Grid.Merges.map YAQ.row),.sl (x4.Draw.map YAI.row)]) R R⟩,⟨_,(iR R),.d R⟩,⟨_,(iR R),.d R⟩,⟨_,(iR R),.d R⟩,⟨_,(iR R),.d R⟩,⟨_,(iR R),.d R⟩,⟨_,(iR R),.d R⟩,Za⟩ (fun hg=>YLT (gdt er15 hg)) R) ?_
     refine sQ R (Zq R iL (iR R)) (sA R R (aZ (hK17 _ ?_)))
     refine Zj ?_
     exact Y2_ h20 iL (.t (.d R))
   refine aC R (fun hc3=>?_) (fun hc3=>?_)
   ·have h21:=Zn hc3 hp2
    refine Zi (s':=⟨[(1,rI (id1)),(2,rI (at1)),(3,rI (n1)),(4,rI (site1)),(5,.ptr 5 n0 0 0),(11,qh r2),(12,rI (r3)),(13,qh r4),(14,rI (r5)),(15,qh r6),(16,rI (r7)),(17,rI (r8))],[(5,some (.box n0 24 [qf d1.Nodes]))],(i1 0),140⟩) (by exact Zc ⟨jL,jL,jL,jL,jL,jL,jL,jL,jL,jL,jL,jL,Za⟩ ⟨.inl R,Za⟩ nL) ?_
    refine aR (sA R R ?_)
    refine Zt ?_
    exact wK11 _ _ ((by exact Zc ⟨jL,jL,jL,jL,jL,jL,jL,jL,jL,jL,jL,jL,jL,Za⟩ ⟨.inl R,Za⟩ nL)) (J2 _ (vec [(i1 0)]) (Zd h21).symm)
   ·have h21:=Zo hc3 hp2
    refine Zk ?_
    exact wK11 _ _ ((by exact Zc ⟨jL,jL,jL,jL,jL,jL,jL,jL,jL,jL,jL,jL,jL,Za⟩ ⟨.inl R,Za⟩ nL)) (J2 _ (vec [(i1 0)]) (Zd h21).symm)
  refine aC R (fun hc4=>?_) (fun hc4=>?_)
  ·have h22:=Zn hc4 hp1
   refine Zi (s':=⟨[(1,rI (id1)),(2,rI (at1)),(3,rI (n1)),(4,rI (site1)),(5,.ptr 5 n0 0 0),(11,qh r2),(12,rI (r3)),(13,qh r4),(14,rI (r5)),(15,qh r6),(16,rI (r7)),(17,rI (r8))],[(5,some (.box n0 24 [qf d1.Nodes]))],(n0+1),140⟩) (by exact Zc ⟨jL,jL,jL,jL,jL,jL,jL,jL,jL,jL,jL,jL,Za⟩ ⟨.inl R,Za⟩ nL) ?_
   refine aR (sA R R ?_)
   refine Zt ?_
   exact wK9 _ _ ((by exact Zc ⟨jL,jL,jL,jL,jL,jL,jL,jL,jL,jL,jL,jL,jL,Za⟩ ⟨.inl R,Za⟩ nL)) (J1 _ (vec [(n0+1)]) (Zd h22).symm)
  ·have h22:=Zo hc4 hp1
   refine Zk ?_
   exact wK9 _ _ ((by exact Zc ⟨jL,jL,jL,jL,jL,jL,jL,jL,jL,jL,jL,jL,jL,Za⟩ ⟨.inl R,Za⟩ nL)) (J1 _ (vec [(n0+1)]) (Zd h22).symm)
end Go.Proofs.YtdafahjmopdleaaGreatDoor.Al
