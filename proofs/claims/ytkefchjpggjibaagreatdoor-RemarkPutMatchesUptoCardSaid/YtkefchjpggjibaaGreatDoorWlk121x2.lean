/- Walks, as printed. -/
import Derived.Test.YtkefchjpggjibaaGreatDoorWlk121
import Derived.Test.YtkefchjpggjibaaGreatDoorProg
set_option maxHeartbeats 4000000
set_option maxRecDepth 20000
set_option linter.unusedVariables false
namespace Go.Proofs.YtkefchjpggjibaaGreatDoor.Al
open Go.Proofs
set_option linter.defProp false
theorem YP2 {s1 r} (h:YHj s1=some r):ARO Tryz.prog 124 [.r (.str s1)] (rB (r)):=by
 unfold YHj at h
 refine mF Tryz.func124 Tryz.ntmps124 R fun n0=>aU (mA R (aZ (aS fun K2 c2 wK2=>(aU (mM R (sQ R (YAj R Tryz.underlying9 iL) (mM R (aZ (Zg (jc1k h fun o1 hit1 hk1 he1=>?_))))))))))
 have J1 : ∀ (u2:Unit) (i5:Nat→Nat),o1 = .nrm u2→K2 ⟨[(0,.r (.str s1))],[],(i5 0),36⟩:=by
  intro u2 i5 e
  have h1:=hk1 _ e
  exact c2 _ (aU (mM R (sQ R (YAj R Tryz.underlying9 iL) (sQ R (YC1 R iL iL) (mM R (vM R (vQ R (YAj R Tryz.underlying9 (iR R)) (vQ R (YFB R (iR R) iL) (sQ R (Zj R iL (iR R)) (mM R (vM R (vM R (vQ R (YAj R Tryz.underlying9 (iR R)) (Ze h1 fun x4 ex4 h2=>(vQ R (YBg R (iR R) iL (gdt ex4)) (Ze h2 fun ch1 ech1 h3=>(vQ R (ZL R Tryz.underlying9 (iR R) (iR R) (gdt ech1)) (vQ R (Zu R (iR R) iL) (sQ R (Zj R iL (iR R)) (mA R (aZ (Zd (Y2_ h3 iL (.t (.d R)))))))))))))))))))))))))
 refine ZE (fun (x2:Int) i3=>⟨[(0,.r (.str s1)),(5,rI ((s1.length:Int))),(6,rI (x2))],[],(i3 0),36⟩) (vec [n0]) hit1 wk ?_
 intro x2 i3 v1 hv1 hx1
 have h4:YC8 s1 x2=some v1:=hv1; unfold YC8 at h4
 refine aU (sQ R (Zo R iL iL) (aZ (aT fun c6=>(cI R h4 (fun h5=>?_) fun h5=>?_))))
 ·refine Zc (c6 _ (aT fun c7=>(Zg (aU (mM R (mA R (aZ (aU (mM R (mM R (Ze h5 fun ch2 ech2 h6=>(sQ R (ZL R Tryz.underlying9 iL iL (fun _=>ech2)) (sQ R (Zo R iL iL) (mM R (vM R (vM R (vQ R (ZL R Tryz.underlying9 (iR R) (iR R) (fun _=>ech2)) (vQ R (ZF R (iR R) iL) (sQ R (Zr R iL (iR R)) (aZ (cI R h6 (fun h7=>?_) fun h7=>?_)))))))))))))))))))))
  ·refine aT fun c10=>(aF [] ?_)
   exact aR (mA R (aZ (c10 _ (Zd (Y2_ (he1 _ (hx1 _ (Za h7).symm)) iL (.t (.d R)))))))
  refine Zc (c7 _ (aF [0,5,6] ?_))
  exact aR (Ze h7 fun x5 ex5 h8=>(sQ R (Zx R iL iL (fun _=>ex5)) (mM R (Zk (ZC h8 (vec [(i3 0)]) wk)))))
 exact Zw (wK2 _ _ wk (J1 _ (vec [(i3 0)]) (hx1 _ (Za h5).symm)))
theorem YNZ {a1 b1 r} (h:YEa a1 b1=some r):ARO Tryz.prog 125 [.agg (k8_ a1),.agg (k8_ b1)] (rB (r)):=by
 unfold YEa at h
 exact mF Tryz.func125 Tryz.ntmps125 R fun n0=>aU (sS R (ZB (cs:=(k8_ a1)) 2 R iL R R) (sS R (ZB (cs:=(k8_ b1)) 3 R iL R R) (mA R (aZ (aU (lF YFG ts_3 R R (lF YFG ts_3 R R (sQ R (Zo R iL iL) (mM R (vF YFG ts_3 R R (vF YFG ts_3 R R (vQ R (Zh R (iR R) (iR R)) (vQ R (Zf R (iR R)) (wQ R (fB R YGn iL fR R) (wQ R (Zi (a:=rI (a1.Site)) R ts_3 (iR R) R R) (wQ R (fB R YGn iL fR R) (wQ R (Zi (a:=rI (b1.Site)) R ts_3 (iR R) R R) (wQ R (Zo R (iR R) (iR R)) (vQ R (Zj R (iR R) (iR R)) (sQ R (Zr R iL (iR R)) (mA R (aZ (Zd (Y2_ h iL (.t (.d R))))))))))))))))))))))))))
theorem YK6 {l1 r} (h:YEJ l1=some r):ARO Tryz.prog 85 [qf l1] (rI (r)):=by
 unfold YEJ at h
 refine mF Tryz.func85 Tryz.ntmps85 R fun n0=>aU (mA R (aZ (aS fun K2 c2 wK2=>(aU (mM R (sQ R (Zq R YIb.slice iL) (mM R (aZ (Zg (jc1k h fun o1 hit1 hk1 he1=>?_))))))))))
 have J1 : ∀ (u2:Unit) (i5:Nat→Nat),o1 = .nrm u2→K2 ⟨[],[],(i5 0),91⟩:=by
  intro u2 i5 e
  have h1:=hk1 _ e
  exact c2 _ (aU (mA R (aZ (Zd (Y1_ h1 iL (.t (.d R)))))))
 refine ZE (fun (x2:Int) i3=>⟨[(0,qf l1),(6,rI ((l1.length:Int))),(7,rI (x2))],[],(i3 0),91⟩) (vec [n0]) hit1 wk ?_
 intro x2 i3 v1 hv1 hx1
 have h2:YCp l1 x2=some v1:=hv1; unfold YCp at h2
 refine aU (sQ R (Zo R iL iL) (aZ (aT fun c6=>(cI R h2 (fun h3=>?_) fun h3=>?_))))
 ·refine Zc (c6 _ (aT fun c7=>(Zg (aU (mM R (mA R (aZ (aU (mM R (mM R (Ze h3 fun x4 ex4 h4=>(sQ R (Zp R YIb.slice iL iL (fun _=>R) (fun _=>ex4)) (sQ R (Zy (cs:=(k8_ x4)) R YI0 iL R R) (sS R (ZH (cs:=[rI (0),rI (0),rI (0),rI (0),rI (0),.r (.str []),.r (.str []),.r (.str [])]) 4 R YWi R R) (Zv R R (Zs (ds:=(k8_ x4)) R YWe iL R iL R R R R) (aZ (aT fun c10=>(aU (lF YD4 ts_3 R R (sQ R (Zu R iL iL) (mM R (vF YD4 ts_3 R R (vQ R (Zu R (iR R) iL) (sQ R (Zj R iL (iR R)) (aZ (cI R h4 (fun h5=>?_) fun h5=>?_))))))))))))))))))))))))))
  ·refine aT fun c12=>(aF [] ?_)
   exact aR (mA R (aZ (c12 _ (Zd (Y1_ (he1 _ (hx1 _ (Za h5).symm)) iL (.t (.d R)))))))
  refine Zc (c10 _ (aT fun c13=>(aT fun c14=>(aG [0,3,4,6,7] [4] ?_))))
  refine aR (lF YFG ts_3 R R (Ze h5 fun r1 er1 h6=>(cL (YBj (er1)) R (sQ R (Zz R iL) (mM R (vF YGn ts_3 R R (Ze h6 fun r2 er2 h7=>vL (fun hg=>YBj (gdt er2 hg)) R (vQ R (Zz R (iR R)) (sQ R (Zr R iL (iR R)) (mM R (vF YNi ts_3 R R (Ze h7 fun r3 er3 h8=>vL (fun hg=>YBj (gdt er3 hg)) R (vQ R (Zz R (iR R)) (sQ R (Zr R iL (iR R)) (aZ (c14 _ (cI R h8 (fun h9=>?_) fun h9=>?_)))))))))))))))))
  ·refine aT fun c15=>(aF [] ?_)
   exact aR (mA R (aZ (c15 _ (Zd (Y1_ (he1 _ (hx1 _ (Za h9).symm)) iL (.t (.d R)))))))
  refine Zc (c13 _ (aS fun K16 c16 wK16=>(aU (lF YD4 ts_3 R R (sQ R (Zh R iL iL) (aZ (jc1k h9 fun p1 hp1 hk2 he2=>?_)))))))
  have J2 : ∀ (u3:Unit) (i6:Nat→Nat),p1 = .nrm u3→K16 ⟨[(0,qf l1),(3,rI (x2)),(4,.ptr 4 (i3 0) 0 0),(6,rI ((l1.length:Int))),(7,rI (x2))],[(4,some (.box (i3 0) 154 (k8_ x4)))],(i6 0),91⟩:=by
   intro u3 i6 e
   have h10:=hk2 _ e
   refine c16 _ (aT fun c18=>?_)
   refine ZI hmix (by kernel_rfl) ?_
   refine qP R (Zf R iL) (qP R (ZF R iL iL) (qP R (Zf R iL) (qO R (Zf R iL) (qO R (Zf R iL) (Ze h10 fun x5 ex5 h11=>qO R (YBg R (iR R) iL (gdt ex5)) (Ze h11 fun x6 ex6 h12=>qO R (Zp R YIb.slice (iR R) (iR R) (fun _=>R) (gdt ex6)) (qO R (Zy (cs:=(k8_ x6)) R YI0 (iR R) R R) (qO R (Zn R YI0 iL R R) (Ze h12 fun r4 er4 h13=>AQ.stepWC (.one R R R) R R (r:=rB (r4)) (caps:=[]) (bs:=[.agg (k8_ x6),.agg (k8_ x4)]) R iL R ⟨⟨_,(iR R),.g (cs:=[.int .i64 x6.Clock,.int .i64 x6.Site,.int .i64 x6.Kind,.int .i64 x6.Item,.int .i64 x6.Parent,.str x6.Place,.str x6.Name,.str x6.Value]) R R⟩,⟨_,(iR R),.g (cs:=[.int .i64 x4.Clock,.int .i64 x4.Site,.int .i64 x4.Kind,.int .i64 x4.Item,.int .i64 x4.Parent,.str x4.Place,.str x4.Name,.str x4.Value]) R R⟩,Zb⟩ (fun hg=>YNZ (gdt er4 hg)) R (qO R (Zz R (iR R)) (qP R (Zj R iL (iR R)) (AQ.nil (c18 _ (cI R h13 (fun h14=>?_) fun h14=>?_))))))))))))))
   ·refine aT fun c19=>(aF [] ?_)
    exact aR (mA R (aZ (c19 _ (Zd (Y1_ (he1 _ (hx1 _ (Za h14).symm)) iL (.t (.d R)))))))
   exact Zc (c7 _ (aR (Ze h14 fun x7 ex7 h15=>(sQ R (Zx R iL iL (fun _=>ex7)) (mM R (Zk (ZC h15 (vec [(i6 0)]) wk)))))))
  refine aC R (fun hc5=>?_) (fun hc5=>?_)
  ·have h16:=YDO hc5 hp1
   refine aT fun c20=>(aT fun c21=>(aG [0,3,4,6,7] [4] ?_))
   refine aR (lF YKd ts_9 R R (sQ R (YCH R iL iL) (mM R (vF YH1 ts_9 R R (vQ R (YCH R (iR R) iL) (sQ R (Zr R iL (iR R)) (aZ (c21 _ (cI R h16 (fun h17=>?_) fun h17=>?_)))))))))
   ·refine aT fun c22=>(aF [] ?_)
    exact aR (mA R (aZ (c22 _ (Zd (Y1_ (he1 _ (hx1 _ (Za (he2 _ (Za h17).symm)).symm)) iL (.t (.d R)))))))
   refine Zc (c20 _ (aT fun c23=>(aU (lF YIy ts_3 R R (Ze h17 fun r5 er5 h18=>(cL (YBj (er5)) R (sQ R (Zz R iL) (aZ (cI R h18 (fun h19=>?_) fun h19=>?_)))))))))
   ·refine aT fun c25=>(aF [] ?_)
    exact aR (mA R (aZ (c25 _ (Zd (Y1_ (he1 _ (hx1 _ (Za (he2 _ (Za h19).symm)).symm)) iL (.t (.d R)))))))
   refine Zc (c23 _ (aT fun c26=>(aG [0,3,4,6,7] [4] ?_)))
   refine aR (lF YKe ts_9 R R (Ze h19 fun r6 er6 h20=>(cL (YP2 (er6)) R (sQ R (Zz R iL) (aZ (c26 _ (cI R h20 (fun h21=>?_) fun h21=>?_)))))))
   ·refine aT fun c27=>(aF [] ?_)
    exact aR (mA R (aZ (c27 _ (Zd (Y1_ (he1 _ (hx1 _ (Za (he2 _ (Za h21).symm)).symm)) iL (.t (.d R)))))))
   exact Zc (wK16 _ _ wk (J2 _ (vec [((i3 0)+1)]) (Za h21).symm))
  ·have h16:=YDP hc5 hp1
   refine aT fun c28=>(aT fun c29=>(aG [0,3,4,6,7] [4] ?_))
   refine aR (lF YIy ts_3 R R (sQ R (Zu R iL iL) (mM R (vF YKe ts_9 R R (vQ R (YCH R (iR R) iL) (sQ R (Zr R iL (iR R)) (aZ (c29 _ (cI R h16 (fun h22=>?_) fun h22=>?_)))))))))
   ·refine aT fun c30=>(aF [] ?_)
    exact aR (mA R (aZ (c30 _ (Zd (Y1_ (he1 _ (hx1 _ (Za (he2 _ (Za h22).symm)).symm)) iL (.t (.d R)))))))
   refine Zc (c28 _ (aT fun c31=>(aU (lF YKd ts_9 R R (Ze h22 fun r7 er7 h23=>(cL (YMp (er7)) R (sQ R (Zz R iL) (aZ (cI R h23 (fun h24=>?_) fun h24=>?_)))))))))
   ·refine aT fun c33=>(aF [] ?_)
    exact aR (mA R (aZ (c33 _ (Zd (Y1_ (he1 _ (hx1 _ (Za (he2 _ (Za h24).symm)).symm)) iL (.t (.d R)))))))
   refine Zc (c31 _ (aT fun c34=>(aG [0,3,4,6,7] [4] ?_)))
   refine aR (lF YH1 ts_9 R R (sQ R (YCH R iL iL) (mM R (vF YH1 ts_9 R R (Ze h24 fun r8 er8 h25=>vL (fun hg=>YIU (gdt er8 hg)) R (vQ R (Zz R (iR R)) (sQ R (Zj R iL (iR R)) (aZ (c34 _ (cI R h25 (fun h26=>?_) fun h26=>?_))))))))))
   ·refine aT fun c35=>(aF [] ?_)
    exact aR (mA R (aZ (c35 _ (Zd (Y1_ (he1 _ (hx1 _ (Za (he2 _ (Za h26).symm)).symm)) iL (.t (.d R)))))))
   exact Zc (wK16 _ _ wk (J2 _ (vec [((i3 0)+1)]) (Za h26).symm))
 exact Zw (wK2 _ _ wk (J1 _ (vec [(i3 0)]) (hx1 _ (Za h3).symm)))
theorem YK1 {n1 r} (h:YEF n1=some r):ARO Tryz.prog 44 (k5_ n1) (rI (r)):=by
 unfold YEF at h
 refine mF Tryz.func44 Tryz.ntmps44 R fun n0=>aU (sS R (ZB (cs:=(k7_ n1)) 1 R iL R R) (mA R (aZ (aT fun c2=>(aU (lF YCT ts_3 R R (Ze h fun r1 er1 h1=>(cL (YBj (er1)) R (sQ R (Zz R iL) (aZ (cI R h1 (fun h2=>?_) fun h2=>?_)))))))))))
 ·exact aU (mA R (aZ (Zd (Y1_ h2 iL (.t (.d R))))))
 refine Zc (c2 _ (aT fun c5=>(aU (lF YA9 ts_3 R R (Ze h2 fun r2 er2 h3=>(cL (YBj (er2)) R (sQ R (Zz R iL) (mM R (vF YCT ts_3 R R (vQ R (Zh R (iR R) iL) (vQ R (Zf R (iR R)) (wQ R (fB R YA9 iL fR R) (wQ R (Zi (a:=rI (n1.Kind)) R ts_3 (iR R) R R) (wQ R (Zu R (iR R) iL) (vQ R (Zj R (iR R) (iR R)) (sQ R (Zr R iL (iR R)) (mM R (vF YCT ts_3 R R (vQ R (Zu R (iR R) iL) (vQ R (Zf R (iR R)) (wQ R (fB R YA9 iL fR R) (wQ R (Zi (a:=rI (n1.Kind)) R ts_3 (iR R) R R) (wQ R (Zh R (iR R) iL) (vQ R (Zj R (iR R) (iR R)) (sQ R (Zr R iL (iR R)) (aZ (cI R h3 (fun h4=>?_) fun h4=>?_)))))))))))))))))))))))))))
 ·refine aT fun c7=>(aF [] ?_)
  exact aR (mA R (aZ (c7 _ (Zd (Y1_ h4 iL (.t (.d R)))))))
 refine Zc (c5 _ (aT fun c8=>(aT fun c9=>(aG [1] [1] ?_))))
 refine aR (lF YNg YCf R R (Ze h4 fun e1 ee1 h5=>(cL (YCe (ee1)) R (mA R (aZ (c9 _ (aU (mM R (sQ R (Zu R iL iL) (aZ (cI R h5 (fun h6=>?_) fun h6=>?_)))))))))))
 ·exact aU (mM R (mA R (aZ (Zd (Y1_ h6 iL (.t (.d R)))))))
 refine Zc (c8 _ (aU (lF YA9 ts_3 R R (Ze h6 fun r3 er3 h7=>(cL (YFD (er3)) R (mM R (vF YA9 ts_3 R R (Ze h7 fun r4 er4 h8=>vL (fun hg=>YNX (gdt er4 hg)) R (sQ R (Zr R iL (iR R)) (mA R (aZ (aT fun c13=>(aT fun c14=>(aG [1,4] [1] ?_))))))))))))))
 refine aR (lF YC0 YDy R R (sQ R (Zq R YAw.slice iL) (sQ R (ZF R iL iL) (mM R (vM R (vQ R (Zz R (iR R)) (sQ R (Zj R iL (iR R)) (mM R (vQ R (fB R YE4 iL fR R) (vQ R (YA5 (ds:=(k20_ n1.Grid)) R YSH (iR R) R R R) (Ze h8 fun r5 er5 h9=>vL (fun hg=>YMD (gdt er5 hg)) R (vQ R (Zz R (iR R)) (vQ R (Zf R (iR R)) (wQ R (fB R YA9 iL fR R) (wQ R (Zi (a:=rI (n1.Kind)) R ts_3 (iR R) R R) (Ze h9 fun r6 er6 h10=>AOps.stepW (.two R R R) R R (YBb (r:=rB (r6)) (caps:=[]) (bs:=[rI (n1.Kind)]) R iL R ⟨⟨_,(iR R),.d R⟩,Zb⟩ (fun hg=>YIv (gdt er6 hg)) R) (wQ R (Zz R (iR R)) (vQ R (Zj R (iR R) (iR R)) (sQ R (Zr R iL (iR R)) (mM R (vF YHR YMN R R (vQ R (Zq R YIb.slice (iR R)) (vQ R (ZF R (iR R) iL) (vQ R (Zf R (iR R)) (wQ R (fB R YA9 iL fR R) (wQ R (Zi (a:=rI (n1.Kind)) R ts_3 (iR R) R R) (Ze h10 fun r7 er7 h11=>AOps.stepW (.two R R R) R R (YBb (r:=rB (r7)) (caps:=[]) (bs:=[rI (n1.Kind)]) R iL R ⟨⟨_,(iR R),.d R⟩,Zb⟩ (fun hg=>YNY (gdt er7 hg)) R) (wQ R (Zz R (iR R)) (vQ R (Zj R (iR R) (iR R)) (sQ R (Zr R iL (iR R)) (aZ (c14 _ (cI R h11 (fun h12=>?_) fun h12=>?_)))))))))))))))))))))))))))))))))
 ·refine aT fun c15=>(aF [] ?_)
  exact aR (mA R (aZ (c15 _ (Zd (Y1_ h12 iL (.t (.d R)))))))
 refine Zc (c13 _ (aT fun c16=>(aT fun c17=>(aG [1,4] [1] ?_))))
 refine aR (mM R (aZ (c17 _ (cI R h12 (fun h13=>?_) fun h13=>?_))))
 ·refine aT fun c18=>?_
  refine ZI hmix (by kernel_rfl) ?_
  exact qP R (fB R YC0 iL fR R) (qP R (Zi (a:=qb n1.Flow) R YDy iL R R) (qP R (fB R YA9 iL fR R) (qP R (Zi (a:=rI (n1.Kind)) R ts_3 iL R R) (AQ.stepC R R R (r:=rB (r3)) (caps:=[]) (bs:=[rI (n1.Kind)]) R iL R ⟨⟨_,iL,.d R⟩,Zb⟩ (fun _=>YFD (er3)) R (Ze h13 fun r9 er9 h14=>AQ.stepC R R R (r:=rI (r9)) (caps:=[]) (bs:=[qb n1.Flow,rB (r3)]) R iL R ⟨⟨_,iL,.d R⟩,⟨_,iL,.d R⟩,Zb⟩ (fun _=>YK3 (er9)) R (qP R (YCI R iL) (AQ.nil (c18 _ (Zd (Y1_ h14 iL (.t (.d R))))))))))))
 refine Zc (c16 _ (aT fun c19=>(aU (lF YA9 ts_3 R R (Ze h13 fun r10 er10 h15=>(cL (YIv (er10)) R (aZ (cI R h15 (fun h16=>?_) fun h16=>?_))))))))
 ·refine aT fun c21=>(aU (sQ R (fB R YE4 iL fR R) (sQ R (YA5 (ds:=(k20_ n1.Grid)) R YSH iL R R R) (Ze h16 fun e2 ee2 h17=>(cL (YK2 (ee2)) R (mA R (aZ (aU (mM R (sQ R (Zu R iL iL) (aZ (cI R h17 (fun h18=>?_) fun h18=>?_))))))))))))
  ·refine aT fun c24=>(aF [5] ?_)
   exact aR (mM R (mA R (aZ (c24 _ (Zd (Y1_ h18 iL (.t (.d R))))))))
  refine Zc (c21 _ (aT fun c25=>(aG [1] [1] ?_)))
  exact aR (lF YA9 ts_3 R R (sQ R (fB R YE4 iL fR R) (lF YEX YIa R R (Ze h18 fun r11 er11 h19=>(cL (YK7 (er11)) R (mA R (aZ (c25 _ (Zd (Y1_ h19 iL (.t (.d R))))))))))))
 exact Zc (c19 _ (aU (lF YHR YMN R R (Ze h16 fun r12 er12 h20=>(cL (YK6 (er12)) R (mA R (aZ (Zd (Y1_ h20 iL (.t (.d R)))))))))))
theorem YOf {n1 r} (h:YGP n1=some r):ARO Tryz.prog 46 (k5_ n1) (.r (.sl (r.map (rInt .i64)))):=by
 unfold YGP at h
 refine mF Tryz.func46 Tryz.ntmps46 R fun n0=>aU (sS R (ZB (cs:=(k7_ n1)) 1 R iL R R) (mA R (aZ (aU (mA R (aZ (aS fun K3 c3 wK3=>(aU (lF YC0 YDy R R (sQ R (Zq R YAw.slice iL) (mM R (aZ (Zg (jb1k h fun o1 hit1 hk1=>?_))))))))))))))
 have J1 : ∀ (out4:List Int) (i5:Nat→Nat),o1=out4→K3 ⟨[(1,.ptr 1 n0 0 0),(3,.own 5003 (i5 0))],[(1,some (.box n0 62 (k7_ n1))),(5003,some (.arr (i5 0) 3 1 (out4.map (rInt .i64))))],(i5 1),56⟩:=by
  intro out4 i5 e
  have h1:=hk1 _ e
  refine c3 _ (aS fun K5 c5 wK5=>(aU (sQ R (fB R YE4 iL fR R) (lF YEX YIa R R (sQ R (Zq R YDz.slice iL) (mM R (aZ (Zg (jb1k h1 fun o2 hit2 hk2=>?_)))))))))
  have J2 : ∀ (out8:List Int) (i10:Nat→Nat),o2=out8→K5 ⟨[(3,.own 5003 (i10 0))],[(5003,some (.arr (i10 0) 3 1 (out8.map (rInt .i64))))],(i10 1),56⟩:=by
   intro out8 i10 e
   have h2:=hk2 _ e
   exact c5 _ (aU (mM R (mA R (aZ (Zd (YHd (P:=Tryz.prog) (fun (r:(List Int))=>.r (.sl (r.map (rInt .i64)))) h2 iL (.t (.one (.own R)))))))))
  refine AW.iter2 (fun (x5:Int) (out6:List Int) i8=>⟨[(1,.ptr 1 n0 0 0),(3,.own 5003 (i8 0)),(32,rI ((n1.Grid.Cells.length:Int))),(33,rI (x5))],[(1,some (.box n0 62 (k7_ n1))),(5003,some (.arr (i8 0) 3 1 (out6.map (rInt .i64))))],(i8 1),56⟩) (vec [(i5 0),(i5 1)]) hit2 wk ?_
  intro x5 out6 i8 v1 hv1 hx2
  have h3:YFI n1 x5 out6=some v1:=hv1; unfold YFI at h3
  refine aU (sQ R (Zo R iL iL) (aZ (aT fun c9=>(cI R h3 (fun h4=>?_) fun h4=>?_))))
  ·refine Zc (c9 _ (aS fun K10 c10 wK10=>(Zg (jb1k h4 fun p1 hp1 hk3=>?_))))
   have J3 : ∀ (out9:List Int) (i11:Nat→Nat),p1=out9→K10 ⟨[(1,.ptr 1 n0 0 0),(3,.own 5003 (i11 0)),(32,rI ((n1.Grid.Cells.length:Int))),(33,rI (x5))],[(1,some (.box n0 62 (k7_ n1))),(5003,some (.arr (i11 0) 3 1 (out9.map (rInt .i64))))],(i11 1),56⟩:=by
    intro out9 i11 e
    have h5:=hk3 _ e
    exact c10 _ (aR (Ze h5 fun x7 ex7 h6=>(sQ R (Zx R iL iL (fun _=>ex7)) (mM R (Zk (YDV.mk h6 (vec [(i11 0),(i11 1)]) wk))))))
   refine aU (mM R (mA R (aZ (aU (sQ R (fB R YE4 iL fR R) (lF YEX YIa R R (mM R (Ze hp1 fun x8 ex8 h7=>(sQ R (Zp R YDz.slice iL iL (fun _=>R) (fun _=>ex8)) (sQ R (Zm R YCU iL) (sQ R (ZA (d:=.int .i64 x8.Ref) R ts_3 iL R) (sQ R (Zu R iL iL) (aZ (cI R h7 (fun h8=>?_) fun h8=>?_))))))))))))))
   ·refine aG [1,3,5,32,33] [1,5003] ?_
    exact aR (mM R (sQ R (fB R YE4 iL fR R) (lF YEX YIa R R (mM R (sQ R (Zp R YDz.slice iL iL (fun _=>R) (fun _=>ex8)) (sQ R (Zm R YCU iL) (sQ R (ZA (d:=.int .i64 x8.Ref) R ts_3 iL R) (sS R (YA6 52 R YC3 (f:=(rInt .i64)) (l:=([x8.Ref]:List Int)) ⟨R,⟨_,iL,R⟩,Zb⟩ R (fun _=>R) R) (Ze h8 fun out10 eout10 h9=>(sS R (YCr R YC3 iL R (.inr (.inl ⟨_,_,iL,R⟩)) eout10) (mA R (Zk (wK10 _ _ wk (J3 _ (vec [((i8 1)+1),((i8 1)+2)]) (Za h9).symm))))))))))))))
   exact Zc (wK10 _ _ wk (J3 _ (vec [(i8 0),(i8 1)]) (Za h8).symm))
  exact Zw (wK5 _ _ wk (J2 _ (vec [(i8 0),(i8 1)]) (hx2 _ (Za h4).symm)))
 refine AW.iter2 (fun (x2:Int) (out2:List Int) i3=>⟨[(1,.ptr 1 n0 0 0),(3,.own 5003 (i3 0)),(8,rI ((n1.Flow.length:Int))),(9,rI (x2))],[(1,some (.box n0 62 (k7_ n1))),(5003,some (.arr (i3 0) 3 1 (out2.map (rInt .i64))))],(i3 1),56⟩) (vec [(n0+1),(n0+2)]) hit1 (Zl (Zl (ZM 3 5003 3 1 (by decide) R) (by exact ZK (e':=[(0,.agg (k7_ n1)),(1,.ptr 1 n0 0 0),(2,cZ),(3,.own 5003 (n0+1)),(6,.ptr 1 n0 0 3),(7,qb n1.Flow),(8,rI ((n1.Flow.length:Int))),(9,rI (0))]) (h':=[(1,some (.box n0 62 (k7_ n1))),(5003,some (.arr (n0+1) 3 1 (([]:List Int).map (rInt .i64))))]) ⟨jL,jL,jL,jL,jL,jL,jL,jL,Zb⟩ ⟨.inl R,.inl R,Zb⟩ nL)) wk) ?_
 intro x2 out2 i3 v2 hv2 hx1
 have h10:YFJ n1 x2 out2=some v2:=hv2; unfold YFJ at h10
 refine aU (sQ R (Zo R iL iL) (aZ (aT fun c14=>(cI R h10 (fun h11=>?_) fun h11=>?_))))
 ·refine Zc (c14 _ (aS fun K15 c15 wK15=>(Zg (jb1k h11 fun p2 hp2 hk4=>?_))))
  have J4 : ∀ (out11:List Int) (i12:Nat→Nat),p2=out11→K15 ⟨[(1,.ptr 1 n0 0 0),(3,.own 5003 (i12 0)),(8,rI ((n1.Flow.length:Int))),(9,rI (x2))],[(1,some (.box n0 62 (k7_ n1))),(5003,some (.arr (i12 0) 3 1 (out11.map (rInt .i64))))],(i12 1),56⟩:=by
   intro out11 i12 e
   have h12:=hk4 _ e
   exact c15 _ (aR (Ze h12 fun x9 ex9 h13=>(sQ R (Zx R iL iL (fun _=>ex9)) (mM R (Zk (YDV.mk h13 (vec [(i12 0),(i12 1)]) wk))))))
  refine aU (mM R (mA R (aZ (aU (lF YC0 YDy R R (mM R (Ze hp2 fun x10 ex10 h14=>(sQ R (Zp R YAw.slice iL iL (fun _=>R) (fun _=>ex10)) (sQ R (Zm R YCS iL) (sQ R (ZA (d:=.int .i64 x10.Ref) R ts_3 iL R) (sQ R (Zu R iL iL) (aZ (cI R h14 (fun h15=>?_) fun h15=>?_)))))))))))))
  ·refine aG [1,3,4,8,9] [1,5003] ?_
   exact aR (mM R (lF YC0 YDy R R (mM R (sQ R (Zp R YAw.slice iL iL (fun _=>R) (fun _=>ex10)) (sQ R (Zm R YCS iL) (sQ R (ZA (d:=.int .i64 x10.Ref) R ts_3 iL R) (sS R (YA6 26 R YC3 (f:=(rInt .i64)) (l:=([x10.Ref]:List Int)) ⟨R,⟨_,iL,R⟩,Zb⟩ R (fun _=>R) R) (Ze h15 fun out12 eout12 h16=>(sS R (YCr R YC3 iL R (.inr (.inl ⟨_,_,iL,R⟩)) eout12) (mA R (Zk (wK15 _ _ wk (J4 _ (vec [((i3 1)+1),((i3 1)+2)]) (Za h16).symm)))))))))))))
  exact Zc (wK15 _ _ wk (J4 _ (vec [(i3 0),(i3 1)]) (Za h15).symm))
 exact Zw (wK3 _ _ wk (J1 _ (vec [(i3 0),(i3 1)]) (hx1 _ (Za h11).symm)))
theorem YGG {d1 i r} (h:YDh d1 i=some r):ARO Tryz.prog 17 [.agg [qe d1.Nodes],rI (i)] (rI (r)):=by
 unfold YDh at h
 refine mF Tryz.func17 Tryz.ntmps17 R fun n0=>aU (sS R (ZB (cs:=[qe d1.Nodes]) 2 R iL R R) (mA R (aZ (aS fun K2 c2 wK2=>(aU (lF YBG YD0 R R (sQ R (Zq R YDH.slice iL) (mM R (aZ (Zg (jc1k h fun o1 hit1 hk1 he1=>?_)))))))))))
 have J1 : ∀ (u2:Unit) (i5:Nat→Nat),o1 = .nrm u2→K2 ⟨[],[],(i5 0),22⟩:=by
  intro u2 i5 e
  have h1:=hk1 _ e
  exact c2 _ (aU (mA R (aZ (Zd (Y1_ h1 iL (.t (.d R)))))))
 refine ZE (fun (x2:Int) i3=>⟨[(1,rI (i)),(2,.ptr 2 n0 0 0),(8,rI ((d1.Nodes.length:Int))),(9,rI (x2))],[(2,some (.box n0 43 [qe d1.Nodes]))],(i3 0),22⟩) (vec [(n0+1)]) hit1 wk ?_
 intro x2 i3 v1 hv1 hx1
 have h2:YFk d1 i x2=some v1:=hv1; unfold YFk at h2
 refine aU (sQ R (Zo R iL iL) (aZ (aT fun c6=>(cI R h2 (fun h3=>?_) fun h3=>?_))))
 ·refine Zc (c6 _ (aT fun c7=>(Zg (aU (mM R (mA R (aZ (aU (lF YBG YD0 R R (mM R (Ze h3 fun x4 ex4 h4=>(sQ R (Zp R YDH.slice iL iL (fun _=>R) (fun _=>ex4)) (sQ R (Zm R YCT iL) (sQ R (ZA (d:=.int .i64 x4.ID) R ts_3 iL R) (mM R (sQ R (Zh R iL iL) (aZ (cI R h4 (fun h5=>?_) fun h5=>?_))))))))))))))))))
  ·refine aT fun c10=>(aF [5] ?_)
   exact aR (mM R (mA R (aZ (c10 _ (Zd (Y1_ (he1 _ (hx1 _ (Za h5).symm)) iL (.t (.d R))))))))
  refine Zc (c7 _ (aG [1,2,8,9] [2] ?_))
  exact aR (Ze h5 fun x5 ex5 h6=>(sQ R (Zx R iL iL (fun _=>ex5)) (mM R (Zk (ZC h6 (vec [(i3 0)]) wk)))))
 exact Zw (wK2 _ _ wk (J1 _ (vec [(i3 0)]) (hx1 _ (Za h3).symm)))
theorem YK0 {p k r} (h:YEE p k=some r):ARO Tryz.prog 86 [rI (p),rI (k)] (rB (r)):=by
 unfold YEE at h
 refine mF Tryz.func86 Tryz.ntmps86 R fun n0=>aU (mA R (aZ (aT fun c2=>(aU (mM R (aZ (Zg (aS fun K4 c4 wK4=>(aU (sQ R (Zh R iL iL) (mA R (aZ (jb1k h fun p1 hp1 hk1=>?_)))))))))))))
 have J1 : ∀ (x1:Bool) (i1:Nat→Nat),p1=x1→K4 ⟨[(0,rI (p)),(5,rI (k)),(6,rB (x1))],[],(i1 0),51⟩:=by
  intro x1 i1 e
  have h1:=hk1 _ e
  refine c4 _ (cI R h1 (fun h2=>?_) fun h2=>?_)
  ·exact aU (mM R (sQ R (Zh R iL iL) (mA R (aZ (Zd (Y2_ h2 iL (.t (.d R))))))))
  refine aU (sQ R (Zh R iL iL) (mA R (aZ (cI R h2 (fun h3=>?_) fun h3=>?_))))
  ·exact aU (mM R (sQ R (Zh R iL iL) (mM R (vM R (vQ R (Zh R (iR R) iL) (sQ R (Zr R iL (iR R)) (mM R (vM R (vQ R (Zh R (iR R) iL) (sQ R (Zr R iL (iR R)) (mA R (aZ (Zd (Y2_ h3 iL (.t (.d R))))))))))))))))
  refine aU (sQ R (Zh R iL iL) (mA R (aZ (cI R h3 (fun h4=>?_) fun h4=>?_))))
  ·exact aU (mM R (sQ R (Zh R iL iL) (mA R (aZ (Zd (Y2_ h4 iL (.t (.d R))))))))
  refine aU (sQ R (Zh R iL iL) (mA R (aZ (cI R h4 (fun h5=>?_) fun h5=>?_))))
  ·exact aU (mM R (sQ R (Zh R iL iL) (mM R (vM R (vQ R (Zh R (iR R) iL) (sQ R (Zr R iL (iR R)) (mA R (aZ (Zd (Y2_ h5 iL (.t (.d R))))))))))))
  refine aU (sQ R (Zh R iL iL) (mA R (aZ (cI R h5 (fun h6=>?_) fun h6=>?_))))
  ·refine aT fun c14=>(aF [0] ?_)
   exact aR (mM R (Ze h6 fun r1 er1 h7=>(cL (YFD (er1)) R (mA R (aZ (c14 _ (Zd (Y2_ h7 iL (.t (.d R))))))))))
  refine aT fun c15=>(aF [0,5] ?_)
  refine aR (sQ R (Zh R iL iL) (mA R (aZ (c15 _ (cI R h6 (fun h8=>?_) fun h8=>?_)))))
  ·exact aU (mM R (sQ R (Zh R iL iL) (mA R (aZ (Zd (Y2_ h8 iL (.t (.d R))))))))
  refine aS fun K17 c17 wK17=>(aU (sQ R (Zh R iL iL) (mA R (aZ (jb1k h8 fun p2 hp2 hk2=>?_)))))
  have J2 : ∀ (x2:Bool) (i2:Nat→Nat),p2=x2→K17 ⟨[(0,rI (p)),(46,rB (x2))],[],(i2 0),51⟩:=by
   intro x2 i2 e
   have h9:=hk2 _ e
   refine c17 _ (cI R h9 (fun h10=>?_) fun h10=>?_)
   ·exact aU (mM R (sQ R (Zh R iL iL) (mA R (aZ (Zd (Y2_ h10 iL (.t (.d R))))))))
   exact Zc (c2 _ (aU (mA R (aZ (Zd (Y2_ h10 iL (.t (.d R))))))))
  refine aC R (fun hc8=>?_) (fun hc8=>?_)
  ·have h11:=YDO hc8 hp2
   exact Zc (wK17 _ _ wk (J2 _ (vec [(i1 0)]) (Za h11).symm))
  ·have h11:=YDP hc8 hp2
   exact aR (sQ R (Zh R iL iL) (mA R (Zk (wK17 _ _ wk (J2 _ (vec [(i1 0)]) (Za h11).symm)))))
 refine aC R (fun hc9=>?_) (fun hc9=>?_)
 ·have h12:=YDO hc9 hp1
  exact Zc (wK4 _ _ wk (J1 _ (vec [n0]) (Za h12).symm))
 ·have h12:=YDP hc9 hp1
  refine aU (sQ R (Zh R iL iL) (mA R (aZ (cI R h12 (fun h13=>?_) fun h13=>?_))))
  ·exact Zc (wK4 _ _ wk (J1 _ (vec [n0]) (Za h13).symm))
  refine aU (sQ R (Zh R iL iL) (mA R (aZ (cI R h13 (fun h14=>?_) fun h14=>?_))))
  ·exact Zc (wK4 _ _ wk (J1 _ (vec [n0]) (Za h14).symm))
  refine aU (sQ R (Zh R iL iL) (mA R (aZ (cI R h14 (fun h15=>?_) fun h15=>?_))))
  ·exact Zc (wK4 _ _ wk (J1 _ (vec [n0]) (Za h15).symm))
  exact aR (sQ R (Zh R iL iL) (mA R (Zk (wK4 _ _ wk (J1 _ (vec [n0]) (Za h15).symm)))))
theorem YKz {d1 k a r} (h:YED d1 k a=some r):ARO Tryz.prog 45 [.agg [qe d1.Nodes],rI (k),.r (.sl (a.map (rInt .i64)))] (rI (r)):=by
 unfold YED at h
 refine mF Tryz.func45 Tryz.ntmps45 R fun n0=>aU (sS R (ZB (cs:=[qe d1.Nodes]) 3 R iL R R) (mA R (aZ (aS fun K2 c2 wK2=>(aU (mM R (sQ R (Zq R YC3.slice iL) (mM R (aZ (Zg (jc1k h fun o1 hit1 hk1 he1=>?_)))))))))))
 have J1 : ∀ (u2:Unit) (i5:Nat→Nat),o1 = .nrm u2→K2 ⟨[],[],(i5 0),32⟩:=by
  intro u2 i5 e
  have h1:=hk1 _ e
  exact c2 _ (aU (mA R (aZ (Zd (Y1_ h1 iL (.t (.d R)))))))
 refine ZE (fun (x2:Int) i3=>⟨[(1,rI (k)),(2,.r (.sl (a.map (rInt .i64)))),(3,.ptr 3 n0 0 0),(10,rI ((a.length:Int))),(11,rI (x2))],[(3,some (.box n0 43 [qe d1.Nodes]))],(i3 0),32⟩) (vec [(n0+1)]) hit1 wk ?_
 intro x2 i3 v1 hv1 hx1
 have h2:YBu d1 k a x2=some v1:=hv1; unfold YBu at h2
 refine aU (sQ R (Zo R iL iL) (aZ (aT fun c6=>(cI R h2 (fun h3=>?_) fun h3=>?_))))
 ·refine Zc (c6 _ (aT fun c7=>(Zg (aU (mM R (mA R (aZ (aT fun c9=>?_))))))))
  refine ZI hmix (by kernel_rfl) ?_
  refine qP R (Zn R YDZ iL R R) (qP R (Zf R iL) (qP R (Zf R iL) (Ze h3 fun x4 ex4 h4=>(qP R (Zp R YC3.slice iL iL (fun _=>R) (fun _=>ex4)) (qP R (ZA (d:=.int .i64 x4) R ts_3 iL R) (Ze h4 fun k1 ek1 h5=>AQ.stepC R R R (r:=rI (k1)) (caps:=[]) (bs:=[.agg [qe d1.Nodes],rI (x4)]) R iL R ⟨⟨_,iL,.g (cs:=[.sl (d1.Nodes.map YAR.row)]) R R⟩,⟨_,iL,.d R⟩,Zb⟩ (fun _=>YGG (ek1)) R (qP R (YCI R iL) (AQ.nil (c9 _ (aT fun c10=>(aT fun c11=>(aG [1,2,3,8,10,11] [3] ?_))))))))))))
  refine aR (mM R (sQ R (Zo R iL iL) (aZ (c11 _ (cI R h5 (fun h6=>?_) fun h6=>?_)))))
  ·exact aU (mA R (aZ (Zd (Y1_ (he1 _ (hx1 _ (Za h6).symm)) iL (.t (.d R))))))
  refine Zc (c10 _ (aU (mM R (lF YBG YD0 R R (mM R (Ze h6 fun x5 ex5 h7=>(sQ R (Zp R YDH.slice iL iL (fun _=>R) (fun _=>ex5)) (sQ R (Zm R YA9 iL) (sQ R (ZA (d:=.int .i64 x5.Kind) R ts_3 iL R) (Ze h7 fun r1 er1 h8=>(cL (YK0 (er1)) R (sQ R (Zz R iL) (aZ (cI R h8 (fun h9=>?_) fun h9=>?_))))))))))))))
  ·refine aT fun c14=>(aF [] ?_)
   exact aR (mA R (aZ (c14 _ (Zd (Y1_ (he1 _ (hx1 _ (Za h9).symm)) iL (.t (.d R)))))))
  refine Zc (c7 _ (aG [1,2,3,10,11] [3] ?_))
  exact aR (Ze h9 fun x6 ex6 h10=>(sQ R (Zx R iL iL (fun _=>ex6)) (mM R (Zk (ZC h10 (vec [(i3 0)]) wk)))))
 exact Zw (wK2 _ _ wk (J1 _ (vec [(i3 0)]) (hx1 _ (Za h3).symm)))
theorem YIM {d1 r} (h:YC9 d1=some r):ARO Tryz.prog 16 [.agg [qe d1.Nodes]] (rI (r)):=by
 unfold YC9 at h
 refine mF Tryz.func16 Tryz.ntmps16 R fun n0=>aU (sS R (ZB (cs:=[qe d1.Nodes]) 1 R iL R R) (mA R (aZ (aT fun c2=>(aU (lF YBG YD0 R R (sQ R (Zq R YDH.slice iL) (sQ R (Zh R iL iL) (aZ (cI R h (fun h1=>?_) fun h1=>?_))))))))))
 ·exact aU (mA R (aZ (Zd (Y1_ h1 iL (.t (.d R))))))
 refine Zc (c2 _ (aS fun K5 c5 wK5=>(aU (lF YBG YD0 R R (sQ R (Zq R YDH.slice iL) (mM R (aZ (Zg (jc1k h1 fun o1 hit1 hk1 he1=>?_)))))))))
 have J1 : ∀ (u2:Unit) (i5:Nat→Nat),o1 = .nrm u2→K5 ⟨[(1,.ptr 1 n0 0 0)],[(1,some (.box n0 43 [qe d1.Nodes]))],(i5 0),81⟩:=by
  intro u2 i5 e
  have h2:=hk1 _ e
  refine c5 _ (aS fun K7 c7 wK7=>(aU (lF YBG YD0 R R (sQ R (Zq R YDH.slice iL) (mM R (aZ (Zg (jc1k h2 fun o2 hit2 hk2 he2=>?_))))))))
  have J2 : ∀ (u4:Unit) (i10:Nat→Nat),o2 = .nrm u4→K7 ⟨[],[],(i10 0),81⟩:=by
   intro u4 i10 e
   have h3:=hk2 _ e
   exact c7 _ (aU (mA R (aZ (Zd (Y1_ h3 iL (.t (.d R)))))))
  refine ZE (fun (x5:Int) i8=>⟨[(1,.ptr 1 n0 0 0),(59,rI ((d1.Nodes.length:Int))),(60,rI (x5))],[(1,some (.box n0 43 [qe d1.Nodes]))],(i8 0),81⟩) (vec [(i5 0)]) hit2 wk ?_
  intro x5 i8 v1 hv1 hx2
  have h4:YBo d1 x5=some v1:=hv1; unfold YBo at h4
  refine aU (sQ R (Zo R iL iL) (aZ (aT fun c11=>(cI R h4 (fun h5=>?_) fun h5=>?_))))
  ·refine Zc (c11 _ (aT fun c12=>(Zg (aU (mM R (mA R (aZ (aT fun c14=>(Ze h5 fun x7 ex7 h6=>(Ze h6 fun r1 er1 h7=>?_))))))))))
   refine rP 13 [pO 63 (.agg [qe d1.Nodes]),pO 64 (.ptr 1 n0 0 0),pO 65 (qe d1.Nodes),pO 66 (rI (x5)),pO 67 (.rop (YAR.row x7) 0),pO 68 (.rop (YAR.row x7) 1),pO 69 (rI (x7.Kind)),pO 70 (.ptr 1 n0 0 0),pO 71 (qe d1.Nodes),pO 72 (rI (x5)),pO 73 (.rop (YAR.row x7) 0),pO 74 (.agg (k7_ x7)),pO 75 (.r (.sl (r1.map (rInt .i64))))] hmix R (by exact ⟨oB [(1,.ptr 1 n0 0 0)] [(1,some (.box n0 43 [qe d1.Nodes]))] (Zn R YDZ (.inl R) R R),oB [(1,.ptr 1 n0 0 0)] [(1,some (.box n0 43 [qe d1.Nodes]))] (fB R YBG (.inl R) (fun _=>R) R),oB [(64,.ptr 1 n0 0 0)] [(1,some (.box n0 43 [qe d1.Nodes]))] (Zi (a:=qe d1.Nodes) R YD0 (.inl R) R R),oB [(5,rI (x5))] [] (Zf R (.inl R)),oB [(65,qe d1.Nodes),(66,rI (x5))] [] (Zp R YDH.slice (.inl R) (.inl R) (fun _=>R) (fun _=>ex7)),oB [(67,.rop (YAR.row x7) 0)] [] (Zm R YA9 (.inl R)),oB [(68,.rop (YAR.row x7) 1)] [] (ZA (d:=.int .i64 x7.Kind) R ts_3 (.inl R) R),oB [(1,.ptr 1 n0 0 0)] [(1,some (.box n0 43 [qe d1.Nodes]))] (fB R YBG (.inl R) (fun _=>R) R),oB [(70,.ptr 1 n0 0 0)] [(1,some (.box n0 43 [qe d1.Nodes]))] (Zi (a:=qe d1.Nodes) R YD0 (.inl R) R R),oB [(5,rI (x5))] [] (Zf R (.inl R)),oB [(71,qe d1.Nodes),(72,rI (x5))] [] (Zp R YDH.slice (.inl R) (.inl R) (fun _=>R) (fun _=>ex7)),oB [(73,.rop (YAR.row x7) 0)] [] (Zy (cs:=(k7_ x7)) R YIE (.inl R) R R),oD (fun _=>[(74,.agg (k7_ x7))]) (fun _=>[]) (fun G1 e h' n=>YBX (r:=.r (.sl (r1.map (rInt .i64)))) (caps:=[]) (bs:=(k5_ x7)) R (.inl R) R ⟨.inl ⟨(.inl R),R⟩,Zb⟩ (fun _=>YOf (er1))),Zb⟩) fun G1 n1=>?_
   refine aGo [1,5,59,60,61,62,63,64,65,66,67,68,69,70,71,72,73,74,75] [1] ?_
   refine Ze h7 fun e1 ee1 h8=>(cL (YKz (ee1)) R (mA R (aZ (c14 _ (aT fun c15=>(aG [1,6,59,60] [1] ?_))))))
   refine aR (mM R (sQ R (Zu R iL iL) (aZ (c15 _ (cI R h8 (fun h9=>?_) fun h9=>?_)))))
   ·exact aU (mM R (mA R (aZ (Zd (Y1_ (he2 _ (hx2 _ (Za h9).symm)) iL (.t (.d R)))))))
   exact Zc (c12 _ (aR (Ze h9 fun x8 ex8 h10=>(sQ R (Zx R iL iL (fun _=>ex8)) (mM R (Zk (ZC h10 (vec [n1]) wk)))))))
  exact Zw (wK7 _ _ wk (J2 _ (vec [(i8 0)]) (hx2 _ (Za h5).symm)))
 refine ZE (fun (x2:Int) i3=>⟨[(1,.ptr 1 n0 0 0),(13,rI ((d1.Nodes.length:Int))),(14,rI (x2))],[(1,some (.box n0 43 [qe d1.Nodes]))],(i3 0),81⟩) (vec [(n0+1)]) hit1 wk ?_
 intro x2 i3 v2 hv2 hx1
 have h11:YCJ d1 x2=some v2:=hv2; unfold YCJ at h11
 refine aU (sQ R (Zo R iL iL) (aZ (aT fun c18=>(cI R h11 (fun h12=>?_) fun h12=>?_))))
 ·refine Zc (c18 _ (aT fun c19=>(Zg (aU (mM R (mA R (aZ (aT fun c21=>(aU (lF YBG YD0 R R (mM R (Ze h12 fun x9 ex9 h13=>(sQ R (Zp R YDH.slice iL iL (fun _=>R) (fun _=>ex9)) (sQ R (Zy (cs:=(k7_ x9)) R YIE iL R R) (Ze h13 fun e2 ee2 h14=>(cL (YK1 (ee2)) R (mA R (aZ (aU (mM R (sQ R (Zu R iL iL) (aZ (cI R h14 (fun h15=>?_) fun h15=>?_)))))))))))))))))))))))
  ·refine aT fun c24=>(aF [4] ?_)
   exact aR (mM R (mA R (aZ (c24 _ (Zd (Y1_ (he1 _ (hx1 _ (Za h15).symm)) iL (.t (.d R))))))))
  refine Zc (c21 _ (aT fun c25=>(aG [1,3,13,14] [1] ?_)))
  refine ZI hmix (by kernel_rfl) ?_
  refine qP R (Zf R iL) (qP R (Zh R iL iL) (qP R (Zf R iL) (qO R (fB R YBG iL fR R) (qO R (Zi (a:=qe d1.Nodes) R YD0 (iR R) R R) (Ze h15 fun x10 ex10 h16=>qO R (Zp R YDH.slice (iR R) iL (fun _=>R) (gdt ex10)) (qO R (Zm R YCT (iR R)) (qO R (ZA (d:=.int .i64 x10.ID) R ts_3 (iR R) R) (qO R (Zu R (iR R) iL) (qP R (Zj R iL (iR R)) (qP R (Zf R iL) (qO R (Zf R iL) (qO R (ZF R (iR R) iL) (qO R (Zf R (iR R)) (qT R (fB R YBG iL fR R) (qT R (Zi (a:=qe d1.Nodes) R YD0 (iR R) R R) (qT R (Zf R iL) (qT R (Zp R YDH.slice (iR R) (iR R) (fun _=>R) (fun _=>ex9)) (qT R (Zm R YCT (iR R)) (qT R (ZA (d:=.int .i64 x9.ID) R ts_3 (iR R) R) (qT R (fB R YBG iL fR R) (qT R (Zi (a:=qe d1.Nodes) R YD0 (iR R) R R) (qT R (Zf R iL) (Ze h16 fun x11 ex11 h17=>qT R (YBg R (iR R) iL (gdt ex11)) (Ze h17 fun x12 ex12 h18=>qT R (Zp R YDH.slice (iR R) (iR R) (fun _=>R) (gdt ex12)) (qT R (Zm R YCT (iR R)) (qT R (ZA (d:=.int .i64 x12.ID) R ts_3 (iR R) R) (qT R (YFB R (iR R) (iR R)) (qO R (Zj R (iR R) (iR R)) (qP R (Zr R iL (iR R)) (AQ.nil (c25 _ (cI R h18 (fun h19=>?_) fun h19=>?_))))))))))))))))))))))))))))))))
  ·refine aT fun c26=>(aF [] ?_)
   exact aR (mA R (aZ (c26 _ (Zd (Y1_ (he1 _ (hx1 _ (Za h19).symm)) iL (.t (.d R)))))))
  exact Zc (c19 _ (aR (Ze h19 fun x13 ex13 h20=>(sQ R (Zx R iL iL (fun _=>ex13)) (mM R (Zk (ZC h20 (vec [(i3 0)]) wk)))))))
 exact Zw (wK5 _ _ wk (J1 _ (vec [(i3 0)]) (hx1 _ (Za h12).symm)))
theorem YS4 {l1 n r} (h:YLj l1 n=some r):ARO Tryz.prog 50 [qa l1,.r (.str n)] (.r (.str r)):=by
 unfold YLj at h
 refine mF Tryz.func50 Tryz.ntmps50 R fun n0=>aU (mA R (aZ (aS fun K2 c2 wK2=>(aU (mM R (sQ R (Zq R YBs.slice iL) (mM R (aZ (Zg (jc1k h fun o1 hit1 hk1 he1=>?_))))))))))
 have J1 : ∀ (u2:Unit) (i5:Nat→Nat),o1 = .nrm u2→K2 ⟨[],[],(i5 0),24⟩:=by
  intro u2 i5 e
  have h1:=hk1 _ e
  exact c2 _ (aU (mA R (aZ (Zd (YHd (P:=Tryz.prog) (fun (r:(List UInt8))=>.r (.str r)) h1 iL (.t (.d R)))))))
 refine ZE (fun (x2:Int) i3=>⟨[(0,qa l1),(1,.r (.str n)),(7,rI ((l1.length:Int))),(8,rI (x2))],[],(i3 0),24⟩) (vec [n0]) hit1 wk ?_
 intro x2 i3 v1 hv1 hx1
 have h2:YGR l1 n x2=some v1:=hv1; unfold YGR at h2
 refine aU (sQ R (Zo R iL iL) (aZ (aT fun c6=>(cI R h2 (fun h3=>?_) fun h3=>?_))))
 ·refine Zc (c6 _ (aT fun c7=>(Zg (aU (mM R (mA R (aZ (aU (mM R (mM R (Ze h3 fun x4 ex4 h4=>(sQ R (Zp R YBs.slice iL iL (fun _=>R) (fun _=>ex4)) (sQ R (Zm R YGm iL) (sQ R (ZA (d:=.str x4.Name) R ts_9 iL R) (mM R (sQ R (YD6 R iL iL) (aZ (cI R h4 (fun h5=>?_) fun h5=>?_))))))))))))))))))
  ·refine aT fun c10=>(aF [0,5] ?_)
   exact aR (mM R (mM R (sQ R (Zp R YBs.slice iL iL (fun _=>R) (fun _=>ex4)) (sQ R (Zm R YHU iL) (sQ R (ZA (d:=.str x4.Value) R ts_9 iL R) (mA R (aZ (c10 _ (Zd (YHd (P:=Tryz.prog) (fun (r:(List UInt8))=>.r (.str r)) (he1 _ (hx1 _ (Za h5).symm)) iL (.t (.d R))))))))))))
  refine Zc (c7 _ (aF [0,1,7,8] ?_))
  exact aR (Ze h5 fun x5 ex5 h6=>(sQ R (Zx R iL iL (fun _=>ex5)) (mM R (Zk (ZC h6 (vec [(i3 0)]) wk)))))
 exact Zw (wK2 _ _ wk (J1 _ (vec [(i3 0)]) (hx1 _ (Za h3).symm)))
theorem YOg {l1 n r} (h:YJk l1 n=some r):ARO Tryz.prog 51 [qa l1,.r (.str n)] (rB (r)):=by
 unfold YJk at h
 refine mF Tryz.func51 Tryz.ntmps51 R fun n0=>aU (mA R (aZ (aS fun K2 c2 wK2=>(aU (mM R (sQ R (Zq R YBs.slice iL) (mM R (aZ (Zg (jc1k h fun o1 hit1 hk1 he1=>?_))))))))))
 have J1 : ∀ (u2:Unit) (i5:Nat→Nat),o1 = .nrm u2→K2 ⟨[],[],(i5 0),19⟩:=by
  intro u2 i5 e
  have h1:=hk1 _ e
  exact c2 _ (aU (mA R (aZ (Zd (Y2_ h1 iL (.t (.d R)))))))
 refine ZE (fun (x2:Int) i3=>⟨[(0,qa l1),(1,.r (.str n)),(7,rI ((l1.length:Int))),(8,rI (x2))],[],(i3 0),19⟩) (vec [n0]) hit1 wk ?_
 intro x2 i3 v1 hv1 hx1
 have h2:YGQ l1 n x2=some v1:=hv1; unfold YGQ at h2
 refine aU (sQ R (Zo R iL iL) (aZ (aT fun c6=>(cI R h2 (fun h3=>?_) fun h3=>?_))))
 ·refine Zc (c6 _ (aT fun c7=>(Zg (aU (mM R (mA R (aZ (aU (mM R (mM R (Ze h3 fun x4 ex4 h4=>(sQ R (Zp R YBs.slice iL iL (fun _=>R) (fun _=>ex4)) (sQ R (Zm R YGm iL) (sQ R (ZA (d:=.str x4.Name) R ts_9 iL R) (mM R (sQ R (YD6 R iL iL) (aZ (cI R h4 (fun h5=>?_) fun h5=>?_))))))))))))))))))
  ·refine aT fun c10=>(aF [] ?_)
   exact aR (mA R (aZ (c10 _ (Zd (Y2_ (he1 _ (hx1 _ (Za h5).symm)) iL (.t (.d R)))))))
  refine Zc (c7 _ (aF [0,1,7,8] ?_))
  exact aR (Ze h5 fun x5 ex5 h6=>(sQ R (Zx R iL iL (fun _=>ex5)) (mM R (Zk (ZC h6 (vec [(i3 0)]) wk)))))
 exact Zw (wK2 _ _ wk (J1 _ (vec [(i3 0)]) (hx1 _ (Za h3).symm)))
theorem YKx {f1 m r} (h:YGO f1 m=some r):ARO Tryz.prog 22 [qb f1,rI (m)] (.r (.sl (r.map (rInt .i64)))):=by
 unfold YGO at h
 refine mF Tryz.func22 Tryz.ntmps22 R fun n0=>aU (mA R (aZ (aU (mA R (aZ (aS fun K3 c3 wK3=>(aU (mM R (sQ R (Zq R YAw.slice iL) (mM R (aZ (Zg (jb1k h fun o1 hit1 hk1=>?_)))))))))))))
 have J1 : ∀ (out4:List Int) (i5:Nat→Nat),o1=out4→K3 ⟨[(5,.own 5005 (i5 0))],[(5005,some (.arr (i5 0) 3 1 (out4.map (rInt .i64))))],(i5 1),58⟩:=by
  intro out4 i5 e
  have h1:=hk1 _ e
  exact c3 _ (aU (mM R (mA R (aZ (Zd (YHd (P:=Tryz.prog) (fun (r:(List Int))=>.r (.sl (r.map (rInt .i64)))) h1 iL (.t (.one (.own R)))))))))
 refine AW.iter2 (fun (x2:Int) (out2:List Int) i3=>⟨[(0,qb f1),(1,rI (m)),(5,.own 5005 (i3 0)),(10,rI ((f1.length:Int))),(11,rI (x2))],[(5005,some (.arr (i3 0) 3 1 (out2.map (rInt .i64))))],(i3 1),58⟩) (vec [n0,(n0+1)]) hit1 (Zl (Zl (ZM 5 5005 3 1 (by decide) R) (by exact ZK (e':=[(0,qb f1),(1,rI (m)),(4,cZ),(5,.own 5005 n0),(9,qb f1),(10,rI ((f1.length:Int))),(11,rI (0))]) (h':=[(5005,some (.arr n0 3 1 (([]:List Int).map (rInt .i64))))]) ⟨jL,jL,jL,jL,jL,jL,jL,Zb⟩ ⟨.inl R,Zb⟩ nL)) wk) ?_
 intro x2 out2 i3 v1 hv1 hx1
 have h2:YDq f1 m x2 out2=some v1:=hv1; unfold YDq at h2
 refine aU (sQ R (Zo R iL iL) (aZ (aT fun c7=>(cI R h2 (fun h3=>?_) fun h3=>?_))))
 ·refine Zc (c7 _ (aS fun K8 c8 wK8=>(Zg (jb1k h3 fun p1 hp1 hk2=>?_))))
  have J2 : ∀ (out5:List Int) (i6:Nat→Nat),p1=out5→K8 ⟨[(0,qb f1),(1,rI (m)),(5,.own 5005 (i6 0)),(10,rI ((f1.length:Int))),(11,rI (x2))],[(5005,some (.arr (i6 0) 3 1 (out5.map (rInt .i64))))],(i6 1),58⟩:=by
   intro out5 i6 e
   have h4:=hk2 _ e
   exact c8 _ (aR (Ze h4 fun x4 ex4 h5=>(sQ R (Zx R iL iL (fun _=>ex4)) (mM R (Zk (YDV.mk h5 (vec [(i6 0),(i6 1)]) wk))))))
  refine aU (mM R (mA R (aZ (aU (mM R (mM R (Ze hp1 fun x5 ex5 h6=>(sQ R (Zp R YAw.slice iL iL (fun _=>R) (fun _=>ex5)) (sQ R (Zm R YGl iL) (sQ R (ZA (d:=.sl (x5.Attrs.map YAD.row)) R YCf iL R) (mA R (aZ (aU (mM R (Ze h6 fun r1 er1 h7=>(cL (YS4 (er1)) R (sQ R (YCH R iL iL) (mA R (aZ (aS fun K12 c12 wK12=>(aT fun c13=>(aG [0,1,5,6,7,8,10,11] [5005] ?_))))))))))))))))))))))
  refine aR (mM R (sQ R (Zh R iL iL) (mM R (vM R (Ze h7 fun r2 er2 h8=>vL (fun hg=>YOg (gdt er2 hg)) R (sQ R (Zj R iL (iR R)) (mM R (vM R (vQ R (Zh R (iR R) iL) (vQ R (Zf R (iR R)) (wQ R (Zf R iL) (Ze h8 fun r3 er3 h9=>AOps.stepW (.two R R R) R R (YBb (r:=rB (r3)) (caps:=[]) (bs:=[qa x5.Attrs,.r (.str [97,100,100])]) R iL R ⟨⟨_,(iR R),.d R⟩,⟨_,iL,.d R⟩,Zb⟩ (fun hg=>YOg (gdt er3 hg)) R) (vQ R (Zj R (iR R) (iR R)) (sQ R (Zr R iL (iR R)) (aZ (c13 _ (jb1k h9 fun p2 hp2 hk3=>?_)))))))))))))))))
  have J3 : ∀ (show1:Bool) (i7:Nat→Nat),p2=show1→K12 ⟨[(0,qb f1),(1,rI (m)),(5,.own 5005 (i3 0)),(6,rI (x2)),(8,rB (show1)),(10,rI ((f1.length:Int))),(11,rI (x2))],[(5005,some (.arr (i3 0) 3 1 (out2.map (rInt .i64))))],(i7 0),58⟩:=by
   intro show1 i7 e
   have h10:=hk3 _ e
   refine c12 _ (aU (mM R (mM R (vM R (vM R (vQ R (Zq R YAw.slice (iR R)) (Ze h10 fun x6 ex6 h11=>(vQ R (YBg R (iR R) iL (gdt ex6)) (vQ R (Zh R (iR R) (iR R)) (vQ R (Zf R (iR R)) (wQ R (Zf R iL) (wQ R (Zf R iL) (wQ R (Zp R YAw.slice (iR R) (iR R) (fun _=>R) (fun _=>ex5)) (wQ R (Zm R YD2 (iR R)) (wQ R (ZA (d:=.int .i64 x5.Char) R ts_3 (iR R) R) (wQ R (Zh R (iR R) iL) (vQ R (Zj R (iR R) (iR R)) (sQ R (Zr R iL (iR R)) (aZ (cI R h11 (fun h12=>?_) fun h12=>?_))))))))))))))))))))
   ·exact aR (mM R (mM R (sS R (YA6 54 R YC3 (f:=(rInt .i64)) (l:=([x2]:List Int)) ⟨R,⟨_,iL,R⟩,Zb⟩ R (fun _=>R) R) (Ze h12 fun out6 eout6 h13=>(sS R (YCr R YC3 iL R (.inr (.inl ⟨_,_,iL,R⟩)) eout6) (mA R (Zk (wK8 _ _ wk (J2 _ (vec [((i7 0)+1),((i7 0)+2)]) (Za h13).symm)))))))))
   exact Zc (wK8 _ _ wk (J2 _ (vec [(i3 0),(i7 0)]) (Za h12).symm))
  refine aC R (fun hc3=>?_) (fun hc3=>?_)
  ·have h14:=YDO hc3 hp2
   exact aR (mA R (Zk (wK12 _ _ wk (J3 _ (vec [(i3 1)]) (Za h14).symm))))
  ·have h14:=YDP hc3 hp2
   exact Zc (wK12 _ _ wk (J3 _ (vec [(i3 1)]) (Za h14).symm))
 exact Zw (wK3 _ _ wk (J1 _ (vec [(i3 0),(i3 1)]) (hx1 _ (Za h3).symm)))
theorem YML {d1 s1 r} (h:YDA d1 s1=some r):ARO Tryz.prog 15 [.agg [qe d1.Nodes],.agg (k28_ s1)] (rI (r)):=by
 unfold YDA at h
 refine mF Tryz.func15 Tryz.ntmps15 R fun n0=>aU (sS R (ZB (cs:=[qe d1.Nodes]) 2 R iL R R) (sS R (ZB (cs:=(k28_ s1)) 3 R iL R R) (mA R (aZ (aT fun c2=>(aU (sQ R (Zn R YDZ iL R R) (Ze h fun e1 ee1 h1=>(cL (YIM (ee1)) R (mA R (aZ (aU (mM R (sQ R (Zu R iL iL) (aZ (cI R h1 (fun h2=>?_) fun h2=>?_))))))))))))))))
 ·refine aT fun c5=>(aF [5] ?_)
  exact aR (mM R (mA R (aZ (c5 _ (Zd (Y1_ h2 iL (.t (.d R))))))))
 refine Zc (c2 _ (aU (sQ R (Zn R YDZ iL R R) (lF YJg ts_3 R R (Ze h2 fun i1 ei1 h3=>(cL (YGG (ei1)) R (mA R (aZ (aT fun c7=>(aT fun c8=>(aG [2,3,6] [2,3] ?_)))))))))))
 refine aR (mM R (sQ R (Zo R iL iL) (aZ (c8 _ (cI R h3 (fun h4=>?_) fun h4=>?_)))))
 ·exact aU (mA R (aZ (Zd (Y1_ h4 iL (.t (.d R))))))
 refine Zc (c7 _ (aT fun c10=>(aU (lF YBG YD0 R R (mM R (Ze h4 fun x1 ex1 h5=>(sQ R (Zp R YDH.slice iL iL (fun _=>R) (fun _=>ex1)) (sQ R (Zm R YA9 iL) (sQ R (ZA (d:=.int .i64 x1.Kind) R ts_3 iL R) (Ze h5 fun r1 er1 h6=>(cL (YFD (er1)) R (sQ R (Zz R iL) (aZ (cI R h6 (fun h7=>?_) fun h7=>?_))))))))))))))
 ·refine aT fun c12=>(aF [] ?_)
  exact aR (mA R (aZ (c12 _ (Zd (Y1_ h7 iL (.t (.d R)))))))
 refine Zc (c10 _ (aT fun c13=>(aT fun c14=>(aG [2,3,6] [2,3] ?_))))
 refine aR (lF YBG YD0 R R (mM R (sQ R (Zp R YDH.slice iL iL (fun _=>R) (fun _=>ex1)) (sQ R (Zm R YC0 iL) (sQ R (ZA (d:=.sl (x1.Flow.map YAB.row)) R YDy iL R) (Ze h7 fun r2 er2 h8=>(sS R (YBX (r:=.r (.sl (r2.map (rInt .i64)))) (caps:=[]) (bs:=[qb x1.Flow,rI (0)]) R iL R ⟨.inl ⟨iL,R⟩,.inl ⟨iL,R⟩,Zb⟩ (fun _=>YKx (er2))) (sQ R (Zq R YC3.slice iL) (mA R (aZ (c14 _ (aT fun c15=>(aG [3,7] [3] ?_)))))))))))))
 refine aR (lF YHT ts_3 R R (sQ R (Zo R iL iL) (mM R (vF YHS ts_3 R R (vF YHT ts_3 R R (vQ R (Zo R (iR R) (iR R)) (sQ R (Zr R iL (iR R)) (mM R (vF YHS ts_3 R R (vM R (vQ R (YC1 R (iR R) (iR R)) (sQ R (Zr R iL (iR R)) (aZ (c15 _ (cI R h8 (fun h9=>?_) fun h9=>?_)))))))))))))))
 ·refine aT fun c16=>(aF [] ?_)
  exact aR (mA R (aZ (c16 _ (Zd (Y1_ h9 iL (.t (.d R)))))))
 refine Zc (c13 _ (aT fun c17=>(aF [] ?_)))
 exact aR (mA R (aZ (c17 _ (Zd (Y1_ h9 iL (.t (.d R)))))))
theorem YQ8 {n r} (h:YKH n=some r):ARO Tryz.prog 19 [.r (.str n)] (qa r):=by
 unfold YKH at h
 refine mF Tryz.func19 Tryz.ntmps19 R fun n0=>aU (mA R (aZ (aT fun c2=>(aR (mM R ?_)))))
 refine sQ R (ZD R YOs (q:=[(0,_),(1,_)]) (by exact ⟨R,R,R,iL,R,R,R,iL,Zb⟩) (cs:=[.r (.str n),.r (.str [111,110])]) (by rfl)) ?_
 exact sS R (YA6 5 R YBs (f:=YAD.row) (l:=([(YAD.mk n [111,110])]:List YAD)) ⟨R,⟨_,iL,R⟩,Zb⟩ R (fun _=>R) R) (mA R (aZ (c2 _ (Zd (YHd (P:=Tryz.prog) (fun (r:(List YAD))=>qa r) h iL (.t (.one (.own R))))))))
theorem YCF {a1 b1 r} (h:YA7 a1 b1=some r):ARO Tryz.prog 31 [qa a1,qa b1] (rB (r)):=by
 unfold YA7 at h
 refine mF Tryz.func31 Tryz.ntmps31 R fun n0=>aU (mA R (aZ (aT fun c2=>(aU (mM R (sQ R (Zq R YBs.slice iL) (mM R (sQ R (Zq R YBs.slice iL) (sQ R (Zu R iL iL) (aZ (cI R h (fun h1=>?_) fun h1=>?_)))))))))))
 ·exact aU (mA R (aZ (Zd (Y2_ h1 iL (.t (.d R))))))
 refine Zc (c2 _ (aS fun K5 c5 wK5=>(aU (mM R (sQ R (Zq R YBs.slice iL) (mM R (aZ (Zg (jc1k h1 fun o1 hit1 hk1 he1=>?_)))))))))
 have J1 : ∀ (u2:Unit) (i5:Nat→Nat),o1 = .nrm u2→K5 ⟨[],[],(i5 0),26⟩:=by
  intro u2 i5 e
  have h2:=hk1 _ e
  exact c5 _ (aU (mA R (aZ (Zd (Y2_ h2 iL (.t (.d R)))))))
 refine ZE (fun (x2:Int) i3=>⟨[(0,qa a1),(1,qa b1),(12,rI ((a1.length:Int))),(13,rI (x2))],[],(i3 0),26⟩) (vec [n0]) hit1 wk ?_
 intro x2 i3 v1 hv1 hx1
 have h3:YCm a1 b1 x2=some v1:=hv1; unfold YCm at h3
 refine aU (sQ R (Zo R iL iL) (aZ (aT fun c9=>(cI R h3 (fun h4=>?_) fun h4=>?_))))
 ·refine Zc (c9 _ (aT fun c10=>(Zg (aU (mM R (mA R (aZ (aT fun c12=>?_))))))))
  refine ZI hmix (by kernel_rfl) ?_
  refine qP R (Zf R iL) (qP R (Zf R iL) (Ze h4 fun x4 ex4 h5=>(qP R (Zp R YBs.slice iL iL (fun _=>R) (fun _=>ex4)) (qP R (Zy (cs:=(k26_ x4)) R YQF iL R R) (qP R (Zf R iL) (qP R (Zf R iL) (Ze h5 fun x5 ex5 h6=>(qP R (Zp R YBs.slice iL iL (fun _=>R) (fun _=>ex5)) (qP R (Zy (cs:=(k26_ x5)) R YQF iL R R) (qP R (YFc R te_36 iL iL R) (AQ.nil (c12 _ (cI R h6 (fun h7=>?_) fun h7=>?_)))))))))))))
  ·refine aT fun c13=>(aF [] ?_)
   exact aR (mA R (aZ (c13 _ (Zd (Y2_ (he1 _ (hx1 _ (Za h7).symm)) iL (.t (.d R)))))))
  refine Zc (c10 _ (aF [0,1,12,13] ?_))
  exact aR (Ze h7 fun x6 ex6 h8=>(sQ R (Zx R iL iL (fun _=>ex6)) (mM R (Zk (ZC h8 (vec [(i3 0)]) wk)))))
 exact Zw (wK5 _ _ wk (J1 _ (vec [(i3 0)]) (hx1 _ (Za h4).symm)))
theorem YMH {a1 b1 r} (h:YEu a1 b1=some r):ARO Tryz.prog 67 [.agg (k27_ a1),.agg (k27_ b1)] (rB (r)):=by
 unfold YEu at h
 exact mF Tryz.func67 Tryz.ntmps67 R fun n0=>aU (sS R (ZB (cs:=(k27_ a1)) 2 R iL R R) (sS R (ZB (cs:=(k27_ b1)) 3 R iL R R) (mA R (aZ (aU (lF YD2 ts_3 R R (lF YD2 ts_3 R R (sQ R (Zh R iL iL) (mM R (vF YCS ts_3 R R (vF YCS ts_3 R R (vQ R (Zh R (iR R) (iR R)) (sQ R (Zj R iL (iR R)) (mM R (vF YGl YCf R R (vF YGl YCf R R (Ze h fun r1 er1 h1=>vL (fun hg=>YCF (gdt er1 hg)) R (sQ R (Zj R iL (iR R)) (mA R (aZ (Zd (Y2_ h1 iL (.t (.d R))))))))))))))))))))))))
theorem YIL {a1 b1 r} (h:YDr a1 b1=some r):ARO Tryz.prog 32 [qb a1,qb b1] (rB (r)):=by
 unfold YDr at h
 refine mF Tryz.func32 Tryz.ntmps32 R fun n0=>aU (mA R (aZ (aT fun c2=>(aU (mM R (sQ R (Zq R YAw.slice iL) (mM R (sQ R (Zq R YAw.slice iL) (sQ R (Zu R iL iL) (aZ (cI R h (fun h1=>?_) fun h1=>?_)))))))))))
 ·exact aU (mA R (aZ (Zd (Y2_ h1 iL (.t (.d R))))))
 refine Zc (c2 _ (aS fun K5 c5 wK5=>(aU (mM R (sQ R (Zq R YAw.slice iL) (mM R (aZ (Zg (jc1k h1 fun o1 hit1 hk1 he1=>?_)))))))))
 have J1 : ∀ (u2:Unit) (i5:Nat→Nat),o1 = .nrm u2→K5 ⟨[],[],(i5 0),27⟩:=by
  intro u2 i5 e
  have h2:=hk1 _ e
  exact c5 _ (aU (mA R (aZ (Zd (Y2_ h2 iL (.t (.d R)))))))
 refine ZE (fun (x2:Int) i3=>⟨[(0,qb a1),(1,qb b1),(12,rI ((a1.length:Int))),(13,rI (x2))],[],(i3 0),27⟩) (vec [n0]) hit1 wk ?_
 intro x2 i3 v1 hv1 hx1
 have h3:YC6 a1 b1 x2=some v1:=hv1; unfold YC6 at h3
 refine aU (sQ R (Zo R iL iL) (aZ (aT fun c9=>(cI R h3 (fun h4=>?_) fun h4=>?_))))
 ·refine Zc (c9 _ (aT fun c10=>(Zg (aU (mM R (mA R (aZ (aT fun c12=>?_))))))))
  refine ZI hmix (by kernel_rfl) ?_
  refine qP R (Zf R iL) (qP R (Zf R iL) (Ze h4 fun x4 ex4 h5=>(qP R (Zp R YAw.slice iL iL (fun _=>R) (fun _=>ex4)) (qP R (Zy (cs:=(k27_ x4)) R YJh iL R R) (qP R (Zf R iL) (qP R (Zf R iL) (Ze h5 fun x5 ex5 h6=>(qP R (Zp R YAw.slice iL iL (fun _=>R) (fun _=>ex5)) (qP R (Zy (cs:=(k27_ x5)) R YJh iL R R) (Ze h6 fun r1 er1 h7=>AQ.stepC R R R (r:=rB (r1)) (caps:=[]) (bs:=[.agg (k27_ x4),.agg (k27_ x5)]) R iL R ⟨⟨_,iL,.g (cs:=[.int .i64 x4.Char,.int .i64 x4.Ref,.sl (x4.Attrs.map YAD.row)]) R R⟩,⟨_,iL,.g (cs:=[.int .i64 x5.Char,.int .i64 x5.Ref,.sl (x5.Attrs.map YAD.row)]) R R⟩,Zb⟩ (fun _=>YMH (er1)) R (qP R (Zz R iL) (AQ.nil (c12 _ (cI R h7 (fun h8=>?_) fun h8=>?_))))))))))))))
  ·refine aT fun c13=>(aF [] ?_)
   exact aR (mA R (aZ (c13 _ (Zd (Y2_ (he1 _ (hx1 _ (Za h8).symm)) iL (.t (.d R)))))))
  refine Zc (c10 _ (aF [0,1,12,13] ?_))
  exact aR (Ze h8 fun x6 ex6 h9=>(sQ R (Zx R iL iL (fun _=>ex6)) (mM R (Zk (ZC h9 (vec [(i3 0)]) wk)))))
 exact Zw (wK5 _ _ wk (J1 _ (vec [(i3 0)]) (hx1 _ (Za h4).symm)))
theorem YMJ {a1 b1 r} (h:YEv a1 b1=some r):ARO Tryz.prog 127 [.agg (k13_ a1),.agg (k13_ b1)] (rB (r)):=by
 unfold YEv at h
 exact mF Tryz.func127 Tryz.ntmps127 R fun n0=>aU (sS R (ZB (cs:=(k13_ a1)) 2 R iL R R) (sS R (ZB (cs:=(k13_ b1)) 3 R iL R R) (mA R (aZ (aT fun c2=>(aR (lF YDI ts_3 R R (lF YDI ts_3 R R (sQ R (Zh R iL iL) (mM R (vF YD5 ts_3 R R (vF YD5 ts_3 R R (vQ R (Zh R (iR R) (iR R)) (sQ R (Zj R iL (iR R)) (mM R (vF YEi ts_9 R R (vF YEi ts_9 R R (vQ R (YD6 R (iR R) (iR R)) (sQ R (Zj R iL (iR R)) (mM R (vF YCU ts_3 R R (vF YCU ts_3 R R (vQ R (Zh R (iR R) (iR R)) (sQ R (Zj R iL (iR R)) (mM R (vF YEh YCf R R (vF YEh YCf R R (Ze h fun r1 er1 h1=>vL (fun hg=>YCF (gdt er1 hg)) R (sQ R (Zj R iL (iR R)) (mA R (aZ (c2 _ (Zd (Y2_ h1 iL (.t (.d R))))))))))))))))))))))))))))))))))))
theorem YHM {a1 b1 r} (h:YDM a1 b1=some r):ARO Tryz.prog 92 [qd a1,qd b1] (rB (r)):=by
 unfold YDM at h
 refine mF Tryz.func92 Tryz.ntmps92 R fun n0=>aU (mA R (aZ (aT fun c2=>(aU (mM R (sQ R (Zq R YDz.slice iL) (mM R (sQ R (Zq R YDz.slice iL) (sQ R (Zu R iL iL) (aZ (cI R h (fun h1=>?_) fun h1=>?_)))))))))))
 ·exact aU (mA R (aZ (Zd (Y2_ h1 iL (.t (.d R))))))
 refine Zc (c2 _ (aS fun K5 c5 wK5=>(aU (mM R (sQ R (Zq R YDz.slice iL) (mM R (aZ (Zg (jc1k h1 fun o1 hit1 hk1 he1=>?_)))))))))
 have J1 : ∀ (u2:Unit) (i5:Nat→Nat),o1 = .nrm u2→K5 ⟨[],[],(i5 0),27⟩:=by
  intro u2 i5 e
  have h2:=hk1 _ e
  exact c5 _ (aU (mA R (aZ (Zd (Y2_ h2 iL (.t (.d R)))))))
 refine ZE (fun (x2:Int) i3=>⟨[(0,qd a1),(1,qd b1),(12,rI ((a1.length:Int))),(13,rI (x2))],[],(i3 0),27⟩) (vec [n0]) hit1 wk ?_
 intro x2 i3 v1 hv1 hx1
 have h3:YCl a1 b1 x2=some v1:=hv1; unfold YCl at h3
 refine aU (sQ R (Zo R iL iL) (aZ (aT fun c9=>(cI R h3 (fun h4=>?_) fun h4=>?_))))
 ·refine Zc (c9 _ (aT fun c10=>(Zg (aU (mM R (mA R (aZ (aT fun c12=>?_))))))))
  refine ZI hmix (by kernel_rfl) ?_
  refine qP R (Zf R iL) (qP R (Zf R iL) (Ze h4 fun x4 ex4 h5=>(qP R (Zp R YDz.slice iL iL (fun _=>R) (fun _=>ex4)) (qP R (Zy (cs:=(k13_ x4)) R YF2 iL R R) (qP R (Zf R iL) (qP R (Zf R iL) (Ze h5 fun x5 ex5 h6=>(qP R (Zp R YDz.slice iL iL (fun _=>R) (fun _=>ex5)) (qP R (Zy (cs:=(k13_ x5)) R YF2 iL R R) (Ze h6 fun r1 er1 h7=>AQ.stepC R R R (r:=rB (r1)) (caps:=[]) (bs:=[.agg (k13_ x4),.agg (k13_ x5)]) R iL R ⟨⟨_,iL,.g (cs:=[.int .i64 x4.Row,.int .i64 x4.Col,.str x4.Text,.int .i64 x4.Ref,.sl (x4.Attrs.map YAD.row)]) R R⟩,⟨_,iL,.g (cs:=[.int .i64 x5.Row,.int .i64 x5.Col,.str x5.Text,.int .i64 x5.Ref,.sl (x5.Attrs.map YAD.row)]) R R⟩,Zb⟩ (fun _=>YMJ (er1)) R (qP R (Zz R iL) (AQ.nil (c12 _ (cI R h7 (fun h8=>?_) fun h8=>?_))))))))))))))
  ·refine aT fun c13=>(aF [] ?_)
   exact aR (mA R (aZ (c13 _ (Zd (Y2_ (he1 _ (hx1 _ (Za h8).symm)) iL (.t (.d R)))))))
  refine Zc (c10 _ (aF [0,1,12,13] ?_))
  exact aR (Ze h8 fun x6 ex6 h9=>(sQ R (Zx R iL iL (fun _=>ex6)) (mM R (Zk (ZC h9 (vec [(i3 0)]) wk)))))
 exact Zw (wK5 _ _ wk (J1 _ (vec [(i3 0)]) (hx1 _ (Za h4).symm)))
theorem YFY {a1 b1 r} (h:YCZ a1 b1=some r):ARO Tryz.prog 93 [qc a1,qc b1] (rB (r)):=by
 unfold YCZ at h
 refine mF Tryz.func93 Tryz.ntmps93 R fun n0=>aU (mA R (aZ (aT fun c2=>(aU (mM R (sQ R (Zq R YFa.slice iL) (mM R (sQ R (Zq R YFa.slice iL) (sQ R (Zu R iL iL) (aZ (cI R h (fun h1=>?_) fun h1=>?_)))))))))))
 ·exact aU (mA R (aZ (Zd (Y2_ h1 iL (.t (.d R))))))
 refine Zc (c2 _ (aS fun K5 c5 wK5=>(aU (mM R (sQ R (Zq R YFa.slice iL) (mM R (aZ (Zg (jc1k h1 fun o1 hit1 hk1 he1=>?_)))))))))
 have J1 : ∀ (u2:Unit) (i5:Nat→Nat),o1 = .nrm u2→K5 ⟨[],[],(i5 0),26⟩:=by
  intro u2 i5 e
  have h2:=hk1 _ e
  exact c5 _ (aU (mA R (aZ (Zd (Y2_ h2 iL (.t (.d R)))))))
 refine ZE (fun (x2:Int) i3=>⟨[(0,qc a1),(1,qc b1),(12,rI ((a1.length:Int))),(13,rI (x2))],[],(i3 0),26⟩) (vec [n0]) hit1 wk ?_
 intro x2 i3 v1 hv1 hx1
 have h3:YCj a1 b1 x2=some v1:=hv1; unfold YCj at h3
 refine aU (sQ R (Zo R iL iL) (aZ (aT fun c9=>(cI R h3 (fun h4=>?_) fun h4=>?_))))
 ·refine Zc (c9 _ (aT fun c10=>(Zg (aU (mM R (mA R (aZ (aT fun c12=>?_))))))))
  refine ZI hmix (by kernel_rfl) ?_
  refine qP R (Zf R iL) (qP R (Zf R iL) (Ze h4 fun x4 ex4 h5=>(qP R (Zp R YFa.slice iL iL (fun _=>R) (fun _=>ex4)) (qP R (Zy (cs:=(k22_ x4)) R YFb iL R R) (qP R (Zf R iL) (qP R (Zf R iL) (Ze h5 fun x5 ex5 h6=>(qP R (Zp R YFa.slice iL iL (fun _=>R) (fun _=>ex5)) (qP R (Zy (cs:=(k22_ x5)) R YFb iL R R) (qP R (YFc R YWf iL iL R) (AQ.nil (c12 _ (cI R h6 (fun h7=>?_) fun h7=>?_)))))))))))))
  ·refine aT fun c13=>(aF [] ?_)
   exact aR (mA R (aZ (c13 _ (Zd (Y2_ (he1 _ (hx1 _ (Za h7).symm)) iL (.t (.d R)))))))
  refine Zc (c10 _ (aF [0,1,12,13] ?_))
  exact aR (Ze h7 fun x6 ex6 h8=>(sQ R (Zx R iL iL (fun _=>ex6)) (mM R (Zk (ZC h8 (vec [(i3 0)]) wk)))))
 exact Zw (wK5 _ _ wk (J1 _ (vec [(i3 0)]) (hx1 _ (Za h4).symm)))
theorem YMG {a1 b1 r} (h:YEt a1 b1=some r):ARO Tryz.prog 90 [.agg (k20_ a1),.agg (k20_ b1)] (rB (r)):=by
 unfold YEt at h
 exact mF Tryz.func90 Tryz.ntmps90 R fun n0=>aU (sS R (ZB (cs:=(k20_ a1)) 2 R iL R R) (sS R (ZB (cs:=(k20_ b1)) 3 R iL R R) (mA R (aZ (aU (lF YE6 ts_3 R R (lF YE6 ts_3 R R (sQ R (Zh R iL iL) (mM R (vF YE5 ts_3 R R (vF YE5 ts_3 R R (vQ R (Zh R (iR R) (iR R)) (sQ R (Zj R iL (iR R)) (mM R (vF YEX YIa R R (vF YEX YIa R R (Ze h fun r1 er1 h1=>vL (fun hg=>YHM (gdt er1 hg)) R (sQ R (Zj R iL (iR R)) (mM R (vF YD3 YHG R R (vF YD3 YHG R R (Ze h1 fun r2 er2 h2=>vL (fun hg=>YFY (gdt er2 hg)) R (sQ R (Zj R iL (iR R)) (mA R (aZ (Zd (Y2_ h2 iL (.t (.d R)))))))))))))))))))))))))))))
theorem YIu {a1 b1 r} (h:YB6 a1 b1=some r):ARO Tryz.prog 54 [qf a1,qf b1] (rB (r)):=by
 unfold YB6 at h
 refine mF Tryz.func54 Tryz.ntmps54 R fun n0=>aU (mA R (aZ (aT fun c2=>(aU (mM R (sQ R (Zq R YIb.slice iL) (mM R (sQ R (Zq R YIb.slice iL) (sQ R (Zu R iL iL) (aZ (cI R h (fun h1=>?_) fun h1=>?_)))))))))))
 ·exact aU (mA R (aZ (Zd (Y2_ h1 iL (.t (.d R))))))
 refine Zc (c2 _ (aS fun K5 c5 wK5=>(aU (mM R (sQ R (Zq R YIb.slice iL) (mM R (aZ (Zg (jc1k h1 fun o1 hit1 hk1 he1=>?_)))))))))
 have J1 : ∀ (u2:Unit) (i5:Nat→Nat),o1 = .nrm u2→K5 ⟨[],[],(i5 0),26⟩:=by
  intro u2 i5 e
  have h2:=hk1 _ e
  exact c5 _ (aU (mA R (aZ (Zd (Y2_ h2 iL (.t (.d R)))))))
 refine ZE (fun (x2:Int) i3=>⟨[(0,qf a1),(1,qf b1),(12,rI ((a1.length:Int))),(13,rI (x2))],[],(i3 0),26⟩) (vec [n0]) hit1 wk ?_
 intro x2 i3 v1 hv1 hx1
 have h3:YB5 a1 b1 x2=some v1:=hv1; unfold YB5 at h3
 refine aU (sQ R (Zo R iL iL) (aZ (aT fun c9=>(cI R h3 (fun h4=>?_) fun h4=>?_))))
 ·refine Zc (c9 _ (aT fun c10=>(Zg (aU (mM R (mA R (aZ (aT fun c12=>?_))))))))
  refine ZI hmix (by kernel_rfl) ?_
  refine qP R (Zf R iL) (qP R (Zf R iL) (Ze h4 fun x4 ex4 h5=>(qP R (Zp R YIb.slice iL iL (fun _=>R) (fun _=>ex4)) (qP R (Zy (cs:=(k8_ x4)) R YI0 iL R R) (qP R (Zf R iL) (qP R (Zf R iL) (Ze h5 fun x5 ex5 h6=>(qP R (Zp R YIb.slice iL iL (fun _=>R) (fun _=>ex5)) (qP R (Zy (cs:=(k8_ x5)) R YI0 iL R R) (qP R (YFc R te_154 iL iL R) (AQ.nil (c12 _ (cI R h6 (fun h7=>?_) fun h7=>?_)))))))))))))
  ·refine aT fun c13=>(aF [] ?_)
   exact aR (mA R (aZ (c13 _ (Zd (Y2_ (he1 _ (hx1 _ (Za h7).symm)) iL (.t (.d R)))))))
  refine Zc (c10 _ (aF [0,1,12,13] ?_))
  exact aR (Ze h7 fun x6 ex6 h8=>(sQ R (Zx R iL iL (fun _=>ex6)) (mM R (Zk (ZC h8 (vec [(i3 0)]) wk)))))
 exact Zw (wK5 _ _ wk (J1 _ (vec [(i3 0)]) (hx1 _ (Za h4).symm)))
theorem YMF {a1 b1 r} (h:YC5 a1 b1=some r):ARO Tryz.prog 52 [.agg (k7_ a1),.agg (k7_ b1)] (rB (r)):=by
 unfold YC5 at h
 exact mF Tryz.func52 Tryz.ntmps52 R fun n0=>aU (sS R (ZB (cs:=(k7_ a1)) 2 R iL R R) (sS R (ZB (cs:=(k7_ b1)) 3 R iL R R) (mA R (aZ (aT fun c2=>(aR (lF YCT ts_3 R R (lF YCT ts_3 R R (sQ R (Zh R iL iL) (mM R (vF YA9 ts_3 R R (vF YA9 ts_3 R R (vQ R (Zh R (iR R) (iR R)) (sQ R (Zj R iL (iR R)) (mM R (vF YNg YCf R R (vF YNg YCf R R (Ze h fun r1 er1 h1=>vL (fun hg=>YCF (gdt er1 hg)) R (sQ R (Zj R iL (iR R)) (mM R (vF YC0 YDy R R (vF YC0 YDy R R (Ze h1 fun r2 er2 h2=>vL (fun hg=>YIL (gdt er2 hg)) R (sQ R (Zj R iL (iR R)) (mM R (vQ R (fB R YE4 iL fR R) (vQ R (YA5 (ds:=(k20_ a1.Grid)) R YSH (iR R) R R R) (vQ R (fB R YE4 iL fR R) (vQ R (YA5 (ds:=(k20_ b1.Grid)) R YSH (iR R) R R R) (Ze h2 fun r3 er3 h3=>vL (fun hg=>YMG (gdt er3 hg)) R (sQ R (Zj R iL (iR R)) (mM R (vF YHR YMN R R (vF YHR YMN R R (Ze h3 fun r4 er4 h4=>vL (fun hg=>YIu (gdt er4 hg)) R (sQ R (Zj R iL (iR R)) (mA R (aZ (c2 _ (Zd (Y2_ h4 iL (.t (.d R)))))))))))))))))))))))))))))))))))))))))))
theorem YKy {a1 b1 r} (h:YCa a1 b1=some r):ARO Tryz.prog 9 [qh a1,qh b1] (rB (r)):=by
 unfold YCa at h
 refine mF Tryz.func9 Tryz.ntmps9 R fun n0=>aU (mA R (aZ (aT fun c2=>(aU (mM R (sQ R (Zq R YBw.slice iL) (mM R (sQ R (Zq R YBw.slice iL) (sQ R (Zu R iL iL) (aZ (cI R h (fun h1=>?_) fun h1=>?_)))))))))))
 ·exact aU (mA R (aZ (Zd (Y2_ h1 iL (.t (.d R))))))
 refine Zc (c2 _ (aS fun K5 c5 wK5=>(aU (mM R (sQ R (Zq R YBw.slice iL) (mM R (aZ (Zg (jc1k h1 fun o1 hit1 hk1 he1=>?_)))))))))
 have J1 : ∀ (u2:Unit) (i5:Nat→Nat),o1 = .nrm u2→K5 ⟨[],[],(i5 0),69⟩:=by
  intro u2 i5 e
  have h2:=hk1 _ e
  exact c5 _ (aU (mA R (aZ (Zd (Y2_ h2 iL (.t (.d R)))))))
 refine ZE (fun (x2:Int) i3=>⟨[(0,qh a1),(1,qh b1),(12,rI ((a1.length:Int))),(13,rI (x2))],[],(i3 0),69⟩) (vec [n0]) hit1 wk ?_
 intro x2 i3 v1 hv1 hx1
 have h3:YCk a1 b1 x2=some v1:=hv1; unfold YCk at h3
 refine aU (sQ R (Zo R iL iL) (aZ (aT fun c9=>(cI R h3 (fun h4=>?_) fun h4=>?_))))
 ·refine Zc (c9 _ (aT fun c10=>(Zg (aU (mM R (mA R (aZ (aT fun c12=>?_))))))))
  refine ZI hmix (by kernel_rfl) ?_
  refine qP R (Zf R iL) (qP R (Zf R iL) (Ze h4 fun x4 ex4 h5=>(qP R (Zp R YBw.slice iL iL (fun _=>R) (fun _=>ex4)) (qP R (Zm R YC4 iL) (qP R (ZA (d:=.int .i64 x4.Kind) R ts_3 iL R) (qP R (Zf R iL) (qP R (Zf R iL) (Ze h5 fun x5 ex5 h6=>(qP R (Zp R YBw.slice iL iL (fun _=>R) (fun _=>ex5)) (qP R (Zm R YC4 iL) (qP R (ZA (d:=.int .i64 x5.Kind) R ts_3 iL R) (qP R (Zu R iL iL) (qP R (Zf R iL) (qO R (Zf R iL) (qO R (Zf R iL) (qO R (Zp R YBw.slice (iR R) (iR R) (fun _=>R) (fun _=>ex4)) (qO R (Zm R YD1 (iR R)) (qO R (ZA (d:=.int .i64 x4.N) R ts_3 (iR R) R) (qO R (Zf R iL) (qO R (Zf R iL) (qO R (Zp R YBw.slice (iR R) (iR R) (fun _=>R) (fun _=>ex5)) (qO R (Zm R YD1 (iR R)) (qO R (ZA (d:=.int .i64 x5.N) R ts_3 (iR R) R) (qO R (Zu R (iR R) (iR R)) (qP R (Zr R iL (iR R)) (qP R (Zf R iL) (qO R (Zf R iL) (qO R (Zf R iL) (qO R (Zp R YBw.slice (iR R) (iR R) (fun _=>R) (fun _=>ex4)) (qO R (Zm R YE3 (iR R)) (qO R (ZA (d:=.sl (x4.Attrs.map YAD.row)) R YCf (iR R) R) (qO R (Zf R iL) (qO R (Zf R iL) (qO R (Zp R YBw.slice (iR R) (iR R) (fun _=>R) (fun _=>ex5)) (qO R (Zm R YE3 (iR R)) (qO R (ZA (d:=.sl (x5.Attrs.map YAD.row)) R YCf (iR R) R) (Ze h6 fun r1 er1 h7=>AQ.stepWC (.one R R R) R R (r:=rB (r1)) (caps:=[]) (bs:=[qa x4.Attrs,qa x5.Attrs]) R iL R ⟨⟨_,(iR R),.d R⟩,⟨_,(iR R),.d R⟩,Zb⟩ (fun hg=>YCF (gdt er1 hg)) R (qO R (Zz R (iR R)) (qP R (Zr R iL (iR R)) (qP R (Zf R iL) ?_))))))))))))))))))))))))))))))))))))))))
  refine qO R (Zf R iL) (qO R (Zf R iL) (qO R (Zp R YBw.slice (iR R) (iR R) (fun _=>R) (fun _=>ex4)) (qO R (Zm R YHQ (iR R)) (qO R (ZA (d:=.sl (x4.Elems.map YAB.row)) R YDy (iR R) R) (qO R (Zf R iL) (qO R (Zf R iL) (qO R (Zp R YBw.slice (iR R) (iR R) (fun _=>R) (fun _=>ex5)) (qO R (Zm R YHQ (iR R)) (qO R (ZA (d:=.sl (x5.Elems.map YAB.row)) R YDy (iR R) R) (Ze h7 fun r2 er2 h8=>AQ.stepWC (.one R R R) R R (r:=rB (r2)) (caps:=[]) (bs:=[qb x4.Elems,qb x5.Elems]) R iL R ⟨⟨_,(iR R),.d R⟩,⟨_,(iR R),.d R⟩,Zb⟩ (fun hg=>YIL (gdt er2 hg)) R (qO R (Zz R (iR R)) (qP R (Zr R iL (iR R)) (AQ.nil (c12 _ (cI R h8 (fun h9=>?_) fun h9=>?_)))))))))))))))
  ·refine aT fun c13=>(aF [] ?_)
   exact aR (mA R (aZ (c13 _ (Zd (Y2_ (he1 _ (hx1 _ (Za h9).symm)) iL (.t (.d R)))))))
  refine Zc (c10 _ (aF [0,1,12,13] ?_))
  exact aR (Ze h9 fun x6 ex6 h10=>(sQ R (Zx R iL iL (fun _=>ex6)) (mM R (Zk (ZC h10 (vec [(i3 0)]) wk)))))
 exact Zw (wK5 _ _ wk (J1 _ (vec [(i3 0)]) (hx1 _ (Za h4).symm)))
theorem YHL {a1 b1 r} (h:YDL a1 b1=some r):ARO Tryz.prog 91 [qi a1,qi b1] (rB (r)):=by
 unfold YDL at h
 refine mF Tryz.func91 Tryz.ntmps91 R fun n0=>aU (mA R (aZ (aT fun c2=>(aU (mM R (sQ R (Zq R YS8.slice iL) (mM R (sQ R (Zq R YS8.slice iL) (sQ R (Zu R iL iL) (aZ (cI R h (fun h1=>?_) fun h1=>?_)))))))))))
 ·exact aU (mA R (aZ (Zd (Y2_ h1 iL (.t (.d R))))))
 refine Zc (c2 _ (aS fun K5 c5 wK5=>(aU (mM R (sQ R (Zq R YS8.slice iL) (mM R (aZ (Zg (jc1k h1 fun o1 hit1 hk1 he1=>?_)))))))))
 have J1 : ∀ (u2:Unit) (i5:Nat→Nat),o1 = .nrm u2→K5 ⟨[],[],(i5 0),26⟩:=by
  intro u2 i5 e
  have h2:=hk1 _ e
  exact c5 _ (aU (mA R (aZ (Zd (Y2_ h2 iL (.t (.d R)))))))
 refine ZE (fun (x2:Int) i3=>⟨[(0,qi a1),(1,qi b1),(12,rI ((a1.length:Int))),(13,rI (x2))],[],(i3 0),26⟩) (vec [n0]) hit1 wk ?_
 intro x2 i3 v1 hv1 hx1
 have h3:YCi a1 b1 x2=some v1:=hv1; unfold YCi at h3
 refine aU (sQ R (Zo R iL iL) (aZ (aT fun c9=>(cI R h3 (fun h4=>?_) fun h4=>?_))))
 ·refine Zc (c9 _ (aT fun c10=>(Zg (aU (mM R (mA R (aZ (aT fun c12=>?_))))))))
  refine ZI hmix (by kernel_rfl) ?_
  refine qP R (Zf R iL) (qP R (Zf R iL) (Ze h4 fun x4 ex4 h5=>(qP R (Zp R YS8.slice iL iL (fun _=>R) (fun _=>ex4)) (qP R (Zy (cs:=[rI (x4.Kind),rI (x4.N)]) R YWg iL R R) (qP R (Zf R iL) (qP R (Zf R iL) (Ze h5 fun x5 ex5 h6=>(qP R (Zp R YS8.slice iL iL (fun _=>R) (fun _=>ex5)) (qP R (Zy (cs:=[rI (x5.Kind),rI (x5.N)]) R YWg iL R R) (qP R (YFc R te_179 iL iL R) (AQ.nil (c12 _ (cI R h6 (fun h7=>?_) fun h7=>?_)))))))))))))
  ·refine aT fun c13=>(aF [] ?_)
   exact aR (mA R (aZ (c13 _ (Zd (Y2_ (he1 _ (hx1 _ (Za h7).symm)) iL (.t (.d R)))))))
  refine Zc (c10 _ (aF [0,1,12,13] ?_))
  exact aR (Ze h7 fun x6 ex6 h8=>(sQ R (Zx R iL iL (fun _=>ex6)) (mM R (Zk (ZC h8 (vec [(i3 0)]) wk)))))
 exact Zw (wK5 _ _ wk (J1 _ (vec [(i3 0)]) (hx1 _ (Za h4).symm)))
theorem YMI {a1 b1 r} (h:YC7 a1 b1=some r):ARO Tryz.prog 53 [.agg (k18_ a1),.agg (k18_ b1)] (rB (r)):=by
 unfold YC7 at h
 exact mF Tryz.func53 Tryz.ntmps53 R fun n0=>aU (sS R (ZB (cs:=(k18_ a1)) 2 R iL R R) (sS R (ZB (cs:=(k18_ b1)) 3 R iL R R) (mA R (aZ (aT fun c2=>(aR (lF YTL YVE R R (lF YTL YVE R R (Ze h fun r1 er1 h1=>(cL (YHL (er1)) R (mM R (vF YTK YVE R R (vF YTK YVE R R (Ze h1 fun r2 er2 h2=>vL (fun hg=>YHL (gdt er2 hg)) R (sQ R (Zj R iL (iR R)) (mM R (vF YTJ YIa R R (vF YTJ YIa R R (Ze h2 fun r3 er3 h3=>vL (fun hg=>YHM (gdt er3 hg)) R (sQ R (Zj R iL (iR R)) (mM R (vF YTI YHG R R (vF YTI YHG R R (Ze h3 fun r4 er4 h4=>vL (fun hg=>YFY (gdt er4 hg)) R (sQ R (Zj R iL (iR R)) (mM R (vF YTH YHG R R (vF YTH YHG R R (Ze h4 fun r5 er5 h5=>vL (fun hg=>YFY (gdt er5 hg)) R (sQ R (Zj R iL (iR R)) (mA R (aZ (c2 _ (Zd (Y2_ h5 iL (.t (.d R)))))))))))))))))))))))))))))))))))))
theorem YF0 {a1 b1 r} (h:YA4 a1 b1=some r):ARO Tryz.prog 23 [.agg (k1_ a1),.agg (k1_ b1)] (rB (r)):=by
 unfold YA4 at h
 exact mF Tryz.func23 Tryz.ntmps23 R fun n0=>aU (sS R (ZB (cs:=(k1_ a1)) 2 R iL R R) (sS R (ZB (cs:=(k1_ b1)) 3 R iL R R) (mA R (aZ (aT fun c2=>(aR (lF YTG ts_3 R R (lF YTG ts_3 R R (sQ R (Zh R iL iL) (mM R (vF YTF ts_3 R R (vF YTF ts_3 R R (vQ R (Zh R (iR R) (iR R)) (sQ R (Zj R iL (iR R)) (mM R (vQ R (fB R YTE iL fR R) (vQ R (YA5 (ds:=(k7_ a1.New)) R YIE (iR R) R R R) (vQ R (fB R YTE iL fR R) (vQ R (YA5 (ds:=(k7_ b1.New)) R YIE (iR R) R R R) (Ze h fun r1 er1 h1=>vL (fun hg=>YMF (gdt er1 hg)) R (sQ R (Zj R iL (iR R)) (mM R (vF YTD YCf R R (vF YTD YCf R R (Ze h1 fun r2 er2 h2=>vL (fun hg=>YCF (gdt er2 hg)) R (sQ R (Zj R iL (iR R)) (mM R (vF YTC YLI R R (vF YTC YLI R R (Ze h2 fun r3 er3 h3=>vL (fun hg=>YKy (gdt er3 hg)) R (sQ R (Zj R iL (iR R)) (mM R (vQ R (fB R YTB iL fR R) (vQ R (YA5 (ds:=(k18_ a1.Grid)) R ta_67 (iR R) R R R) (vQ R (fB R YTB iL fR R) (vQ R (YA5 (ds:=(k18_ b1.Grid)) R ta_67 (iR R) R R R) (Ze h3 fun r4 er4 h4=>vL (fun hg=>YMI (gdt er4 hg)) R (sQ R (Zj R iL (iR R)) (mM R (vF YTA YMN R R (vF YTA YMN R R (Ze h4 fun r5 er5 h5=>vL (fun hg=>YIu (gdt er5 hg)) R (sQ R (Zj R iL (iR R)) (mA R (aZ (c2 _ (Zd (Y2_ h5 iL (.t (.d R))))))))))))))))))))))))))))))))))))))))))))))))))
theorem YKT {a1 b1 r} (h:YB8 a1 b1=some r):ARO Tryz.prog 18 [qg a1,qg b1] (rB (r)):=by
 unfold YB8 at h
 refine mF Tryz.func18 Tryz.ntmps18 R fun n0=>aU (mA R (aZ (aT fun c2=>(aU (mM R (sQ R (Zq R YHH.slice iL) (mM R (sQ R (Zq R YHH.slice iL) (sQ R (Zu R iL iL) (aZ (cI R h (fun h1=>?_) fun h1=>?_)))))))))))
 ·exact aU (mA R (aZ (Zd (Y2_ h1 iL (.t (.d R))))))
 refine Zc (c2 _ (aS fun K5 c5 wK5=>(aU (mM R (sQ R (Zq R YHH.slice iL) (mM R (aZ (Zg (jc1k h1 fun o1 hit1 hk1 he1=>?_)))))))))
 have J1 : ∀ (u2:Unit) (i5:Nat→Nat),o1 = .nrm u2→K5 ⟨[],[],(i5 0),27⟩:=by
  intro u2 i5 e
  have h2:=hk1 _ e
  exact c5 _ (aU (mA R (aZ (Zd (Y2_ h2 iL (.t (.d R)))))))
 refine ZE (fun (x2:Int) i3=>⟨[(0,qg a1),(1,qg b1),(12,rI ((a1.length:Int))),(13,rI (x2))],[],(i3 0),27⟩) (vec [n0]) hit1 wk ?_
 intro x2 i3 v1 hv1 hx1
 have h3:YCL a1 b1 x2=some v1:=hv1; unfold YCL at h3
 refine aU (sQ R (Zo R iL iL) (aZ (aT fun c9=>(cI R h3 (fun h4=>?_) fun h4=>?_))))
 ·refine Zc (c9 _ (aT fun c10=>(Zg (aU (mM R (mA R (aZ (aT fun c12=>?_))))))))
  refine ZI hmix (by kernel_rfl) ?_
  refine qP R (Zf R iL) (qP R (Zf R iL) (Ze h4 fun x4 ex4 h5=>(qP R (Zp R YHH.slice iL iL (fun _=>R) (fun _=>ex4)) (qP R (Zy (cs:=(k1_ x4)) R YTP iL R R) (qP R (Zf R iL) (qP R (Zf R iL) (Ze h5 fun x5 ex5 h6=>(qP R (Zp R YHH.slice iL iL (fun _=>R) (fun _=>ex5)) (qP R (Zy (cs:=(k1_ x5)) R YTP iL R R) (Ze h6 fun r1 er1 h7=>AQ.stepC R R R (r:=rB (r1)) (caps:=[]) (bs:=[.agg (k1_ x4),.agg (k1_ x5)]) R iL R ⟨⟨_,iL,.g (cs:=[.int .i64 x4.Kind,.int .i64 x4.Node,.int .i64 x4.New.ID,.int .i64 x4.New.Kind,.sl (x4.New.Attrs.map YAD.row),.sl (x4.New.Flow.map YAB.row),.int .i64 x4.New.Grid.Rows,.int .i64 x4.New.Grid.Cols,.sl (x4.New.Grid.Cells.map YAd.row),.sl (x4.New.Grid.Merges.map YAW.row),.sl (x4.New.Draw.map YAP.row),.sl (x4.Attrs.map YAD.row),.sl (x4.Steps.map YAC.row),.sl (x4.Grid.Rows.map YAf.row),.sl (x4.Grid.Cols.map YAf.row),.sl (x4.Grid.Cells.map YAd.row),.sl (x4.Grid.Split.map YAW.row),.sl (x4.Grid.Merge.map YAW.row),.sl (x4.Draw.map YAP.row)]) R R⟩,⟨_,iL,.g (cs:=[.int .i64 x5.Kind,.int .i64 x5.Node,.int .i64 x5.New.ID,.int .i64 x5.New.Kind,.sl (x5.New.Attrs.map YAD.row),.sl (x5.New.Flow.map YAB.row),.int .i64 x5.New.Grid.Rows,.int .i64 x5.New.Grid.Cols,.sl (x5.New.Grid.Cells.map YAd.row),.sl (x5.New.Grid.Merges.map YAW.row),.sl (x5.New.Draw.map YAP.row),.sl (x5.Attrs.map YAD.row),.sl (x5.Steps.map YAC.row),.sl (x5.Grid.Rows.map YAf.row),.sl (x5.Grid.Cols.map YAf.row),.sl (x5.Grid.Cells.map YAd.row),.sl (x5.Grid.Split.map YAW.row),.sl (x5.Grid.Merge.map YAW.row),.sl (x5.Draw.map YAP.row)]) R R⟩,Zb⟩ (fun _=>YF0 (er1)) R (qP R (Zz R iL) (AQ.nil (c12 _ (cI R h7 (fun h8=>?_) fun h8=>?_))))))))))))))
  ·refine aT fun c13=>(aF [] ?_)
   exact aR (mA R (aZ (c13 _ (Zd (Y2_ (he1 _ (hx1 _ (Za h8).symm)) iL (.t (.d R)))))))
  refine Zc (c10 _ (aF [0,1,12,13] ?_))
  exact aR (Ze h8 fun x6 ex6 h9=>(sQ R (Zx R iL iL (fun _=>ex6)) (mM R (Zk (ZC h9 (vec [(i3 0)]) wk)))))
 exact Zw (wK5 _ _ wk (J1 _ (vec [(i3 0)]) (hx1 _ (Za h4).symm)))
theorem YWc {s1 b r} (h:YM4 s1 b=some r):ARO Tryz.prog 49 [.r (.str s1),qa b] (.tup [qb r.1,rI (r.2)]):=by
 unfold YM4 at h
 refine mF Tryz.func49 Tryz.ntmps49 R fun n0=>aU (mA R (mA R (aZ (aT fun c2=>(aU (mM R (Ze h fun e1 ee1 h1=>(cL (YCe (ee1)) R (mA R (aZ (aU (mM R (sQ R (Zu R iL iL) (aZ (cI R h1 (fun h2=>?_) fun h2=>?_)))))))))))))))
 ·exact aU (mM R (mA R (mA R (aZ (Zd (YCX (P:=Tryz.prog) (fun (r:(List YAB) × Int)=>qb r.1) (fun (r:(List YAB) × Int)=>rI (r.2)) h2 iL (.t (.one (.nil))) (.t (.d R))))))))
 refine Zc (c2 _ (aU (mA R (aZ (aS fun K7 c7 wK7=>(aU (mA R (aZ (Zg (jc1k h2 fun o1 hit1 hk1 he1=>?_))))))))))
 have J1 : ∀ (out4:List YAB) (i8:Nat→Nat),o1 = .nrm out4→K7 ⟨[(7,.own 5007 (i8 0))],[(5007,some (.arr (i8 0) 78 3 (out4.map YAB.row)))],(i8 1),48⟩:=by
  intro out4 i8 e
  have h3:=hk1 _ e
  exact c7 _ (aU (mM R (mA R (mA R (aZ (Zd (YCX (P:=Tryz.prog) (fun (r:(List YAB) × Int)=>qb r.1) (fun (r:(List YAB) × Int)=>rI (r.2)) h3 iL (.t (.one (.own R))) (.t (.d R)))))))))
 refine AW.iter2 (fun (i4:Int) (out2:List YAB) i5=>⟨[(0,.r (.str s1)),(1,qa b),(7,.own 5007 (i5 0)),(8,rI (i4))],[(5007,some (.arr (i5 0) 78 3 (out2.map YAB.row)))],(i5 1),48⟩) (vec [n0,(n0+1)]) hit1 (Zl (Zl (ZM 7 5007 78 3 (by decide) R) (by exact ZK (e':=[(0,.r (.str s1)),(1,qa b),(4,cZ),(5,rI (0)),(6,rI (e1)),(7,.own 5007 n0),(8,rI (0)),(11,qa b),(12,rI (e1)),(13,rI (e1)),(14,rB ((!decide (e1=0))))]) (h':=[(5007,some (.arr n0 78 3 (([]:List YAB).map YAB.row)))]) ⟨jL,jL,jL,jL,jL,jL,jL,jL,jL,jL,jL,Zb⟩ ⟨.inl R,Zb⟩ nL)) wk) ?_
 intro i4 out2 i5 v1 hv1 hx1
 have h4:YGr s1 b i4 out2=some v1:=hv1; unfold YGr at h4
 refine aT fun c10=>(aU (mM R (mM R (sQ R (YAj R Tryz.underlying9 iL) (sQ R (Zo R iL iL) (aZ (cI R h4 (fun h5=>?_) fun h5=>?_)))))))
 ·refine Zc (c10 _ (Zg (aT fun c12=>(aR (mM R (mM R (Ze h5 fun s2 es2 h6=>?_)))))))
  refine sQ R (YDs R Tryz.underlying9 iL (by exact ⟨_,iL⟩) (by exact R) (fun _=>es2)) ?_
  refine ob2k h6 fun r1 r2 er1 h7=>(cL (YAg (er1)) R (mM R (sQ R (Zt (a:=.r (.int .i32 r1)) R iL R) (sQ R (Zt (a:=rI (r2)) R iL R) (mA R (mA R (aZ (c12 _ (aT fun c13=>(aT fun c14=>(aG [0,1,7,8,9,10] [5007] ?_)))))))))))
  refine aR (mM R (sQ R (Zh R iL iL) (mM R (vM R (vQ R (Zo R (iR R) iL) (sQ R (Zj R iL (iR R)) (aZ (c14 _ (cI R h7 (fun h8=>?_) fun h8=>?_)))))))))
  ·refine aT fun c15=>(aF [] ?_)
   exact aR (mA R (mA R (aZ (c15 _ (Zd (YCX (P:=Tryz.prog) (fun (r:(List YAB) × Int)=>qb r.1) (fun (r:(List YAB) × Int)=>rI (r.2)) (he1 _ (hx1 _ (Za h8).symm)) iL (.t (.one (.nil))) (.t (.d R))))))))
  refine Zc (c13 _ (aT fun c16=>(aU (mM R (sQ R (ZG R Tryz.underlying21 Tryz.underlying3 iL) (Ze h8 fun r3 er3 h9=>(cL (YH0 (er3)) R (sQ R (Zz R iL) (aZ (cI R h9 (fun h10=>?_) fun h10=>?_))))))))))
  ·refine aT fun c18=>(aF [] ?_)
   exact aR (mA R (mA R (aZ (c18 _ (Zd (YCX (P:=Tryz.prog) (fun (r:(List YAB) × Int)=>qb r.1) (fun (r:(List YAB) × Int)=>rI (r.2)) (he1 _ (hx1 _ (Za h10).symm)) iL (.t (.one (.nil))) (.t (.d R))))))))
  refine Zc (c16 _ (aT fun c19=>(aR (mM R (mM R (sQ R (ZG R Tryz.underlying21 Tryz.underlying3 iL) (mM R ?_)))))))
  refine sQ R (ZD R YLM (q:=[(0,_),(2,_)]) (by exact ⟨R,R,R,iL,R,R,R,iL,Zb⟩) (cs:=[rI ((IntKind.i64.wrap r1)),rI (0),qa b]) (by rfl)) ?_
  refine sS R (YA6 42 R YAw (f:=YAB.row) (l:=([(YAB.mk (IntKind.i64.wrap r1) 0 b)]:List YAB)) ⟨R,⟨_,iL,R⟩,Zb⟩ R (fun _=>R) R) (Ze h10 fun out5 eout5 h11=>(sS R (YCr R YAw iL R (.inr (.inl ⟨_,_,iL,R⟩)) eout5) (mA R (aZ (c19 _ (aG [0,1,7,8,10] [5007] ?_))))))
  exact aR (mM R (mM R (Ze h11 fun i9 ei9 h12=>(sQ R (Zx R iL iL (fun _=>ei9)) (mA R (Zk (YDV.mk h12 (vec [((i5 1)+1),((i5 1)+2)]) wk)))))))
 exact Zw (wK7 _ _ wk (J1 _ (vec [(i5 0),(i5 1)]) (hx1 _ (Za h5).symm)))
theorem YS5 {r} (h:YQj=some r):ARO Tryz.prog 25 [] (.agg (k27_ r)):=by
 unfold YQj at h
 refine mF Tryz.func25 Tryz.ntmps25 R fun n0=>aU (sS R (ZH (cs:=z25_) 0 R YQG R R) (aZ (aT fun c2=>(aR ?_))))
 refine sQ R (ZD R YLM (q:=[(0,_)]) (by exact ⟨R,R,R,iL,Zb⟩) (cs:=z24_) (by rfl)) ?_
 refine Zv R R (Zs (ds:=z24_) R YOr iL R iL R R R R) (oZ c2 ?_)
 exact Zd (YHd (P:=Tryz.prog) (fun (r:YAB)=>.agg (k27_ r)) h iL (.a YJh R R R (.agg (by exact ⟨.closed _ R,.closed _ R,.nil,Zb⟩))))
theorem YME {s1 b r} (h:YDp s1 b=some r):AHC Tryz.prog 49 1 [.r (.str s1),qa b] [] (fun rr h'=>∃ (i:Nat→Nat),rr = .tup [.own 1000 (i 0),rI (r.1)]∧h'=[(1000,some (.arr (i 0) 78 3 (r.2.map YAB.row)))]):=by
 unfold YDp at h
 refine AHC.mkw Tryz.func49 R R Tryz.ntmps49 (ZN R) fun n0=>aU (mA R (mA R (aZ (aT fun c2=>(aU (mM R (Ze h fun e1 ee1 h1=>(cL (YCe (ee1)) R (mA R (aZ (aU (mM R (sQ R (Zu R iL iL) (aZ (cI R h1 (fun h2=>?_) fun h2=>?_)))))))))))))))
 ·refine aU (mM R (mA R (mA R (aZ ?_))))
  exact Zd (RetW.mk (s':=⟨[(4,.own 1000 n0),(5,rI (e1))],[(1000,some (.arr n0 78 3 (([]:List YAB).map YAB.row)))],(n0+1),48⟩) (Zl (Zl (ZM 4 1000 78 3 (by decide) R) (by exact ZK (e':=[(0,.r (.str s1)),(1,qa b),(4,.own 1000 n0),(5,rI (e1)),(6,rI (e1)),(11,qa b),(12,rI (e1)),(13,rI (e1)),(14,rB ((!decide (e1=0)))),(15,rI (e1))]) (h':=[(1000,some (.arr n0 78 3 (([]:List YAB).map YAB.row)))]) ⟨jL,jL,jL,jL,jL,jL,jL,jL,jL,jL,Zb⟩ ⟨.inl R,Zb⟩ nL)) wk) (YAu (fun (r:Int × (List YAB)) rr h'=>∃ (i:Nat→Nat),rr = .tup [.own 1000 (i 0),rI (r.1)]∧h'=[(1000,some (.arr (i 0) 78 3 (r.2.map YAB.row)))]) h2 (by exact ⟨.tup [.own 1000 n0,rI (e1)],[(1000,some (.arr n0 78 3 (([]:List YAB).map YAB.row)))],⟨_,R,⟨R,R,Zb⟩⟩,⟨.inr R,Zb⟩,R,R,vec [n0],R,R⟩)))
 refine Zc (c2 _ (aU (mA R (aZ (aS fun K7 c7 wK7=>(aU (mA R (aZ (Zg (jc1k h2 fun o1 hit1 hk1 he1=>?_))))))))))
 have J1 : ∀ (out4:List YAB) (i8:Nat→Nat),o1 = .nrm out4→K7 ⟨[(7,.own 5007 (i8 0))],[(5007,some (.arr (i8 0) 78 3 (out4.map YAB.row)))],(i8 1),48⟩:=by
  intro out4 i8 e
  have h3:=hk1 _ e
  refine c7 _ (aU (mM R (mA R (mA R (aZ ?_)))))
  exact Zd (RetW.mk (s':=⟨[(4,.own 1000 (i8 1)),(5,rI (0))],[(1000,some (.arr (i8 1) 78 3 (out4.map YAB.row)))],((i8 1)+1),48⟩) (Zl (Zl (Weak.ren 4 5007 1000 R R R) (by exact ZK (e':=[(4,.own 1000 (i8 1)),(5,rI (0))]) (h':=[(1000,some (.arr (i8 1) 78 3 (out4.map YAB.row)))]) ⟨jL,jL,Zb⟩ ⟨.inl R,Zb⟩ nL)) wk) (YAu (fun (r:Int × (List YAB)) rr h'=>∃ (i:Nat→Nat),rr = .tup [.own 1000 (i 0),rI (r.1)]∧h'=[(1000,some (.arr (i 0) 78 3 (r.2.map YAB.row)))]) h3 (by exact ⟨.tup [.own 1000 (i8 1),rI (0)],[(1000,some (.arr (i8 1) 78 3 (out4.map YAB.row)))],⟨_,R,⟨R,R,Zb⟩⟩,⟨.inr R,Zb⟩,R,R,vec [(i8 1)],R,R⟩)))
 refine AW.iter2 (fun (i4:Int) (out2:List YAB) i5=>⟨[(0,.r (.str s1)),(1,qa b),(7,.own 5007 (i5 0)),(8,rI (i4))],[(5007,some (.arr (i5 0) 78 3 (out2.map YAB.row)))],(i5 1),48⟩) (vec [n0,(n0+1)]) hit1 (Zl (Zl (ZM 7 5007 78 3 (by decide) R) (by exact ZK (e':=[(0,.r (.str s1)),(1,qa b),(4,cZ),(5,rI (0)),(6,rI (e1)),(7,.own 5007 n0),(8,rI (0)),(11,qa b),(12,rI (e1)),(13,rI (e1)),(14,rB ((!decide (e1=0))))]) (h':=[(5007,some (.arr n0 78 3 (([]:List YAB).map YAB.row)))]) ⟨jL,jL,jL,jL,jL,jL,jL,jL,jL,jL,jL,Zb⟩ ⟨.inl R,Zb⟩ nL)) wk) ?_
 intro i4 out2 i5 v1 hv1 hx1
 have h4:YAs s1 b i4 out2=some v1:=hv1; unfold YAs at h4
 refine aT fun c10=>(aU (mM R (mM R (sQ R (YAj R Tryz.underlying9 iL) (sQ R (Zo R iL iL) (aZ (cI R h4 (fun h5=>?_) fun h5=>?_)))))))
 ·refine Zc (c10 _ (Zg (aT fun c12=>(aR (mM R (mM R (Ze h5 fun s2 es2 h6=>?_)))))))
  refine sQ R (YDs R Tryz.underlying9 iL (by exact ⟨_,iL⟩) (by exact R) (fun _=>es2)) ?_
  refine ob2k h6 fun r1 r2 er1 h7=>(cL (YAg (er1)) R (mM R (sQ R (Zt (a:=.r (.int .i32 r1)) R iL R) (sQ R (Zt (a:=rI (r2)) R iL R) (mA R (mA R (aZ (c12 _ (aT fun c13=>(aT fun c14=>(aG [0,1,7,8,9,10] [5007] ?_)))))))))))
  refine aR (mM R (sQ R (Zh R iL iL) (mM R (vM R (vQ R (Zo R (iR R) iL) (sQ R (Zj R iL (iR R)) (aZ (c14 _ (cI R h7 (fun h8=>?_) fun h8=>?_)))))))))
  ·refine aT fun c15=>(aF [] ?_)
   refine aR (mA R (mA R (oZ c15 ?_)))
   exact Zd (RetW.mk (s':=⟨[(4,.own 1000 (i5 1)),(5,rI (10))],[(1000,some (.arr (i5 1) 78 3 (([]:List YAB).map YAB.row)))],((i5 1)+1),48⟩) (Zl (Zl (ZM 4 1000 78 3 (by decide) R) (by exact ZK (e':=[(4,.own 1000 (i5 1)),(5,rI (10))]) (h':=[(1000,some (.arr (i5 1) 78 3 (([]:List YAB).map YAB.row)))]) ⟨jL,jL,Zb⟩ ⟨.inl R,Zb⟩ nL)) wk) (YAu (fun (r:Int × (List YAB)) rr h'=>∃ (i:Nat→Nat),rr = .tup [.own 1000 (i 0),rI (r.1)]∧h'=[(1000,some (.arr (i 0) 78 3 (r.2.map YAB.row)))]) (he1 _ (hx1 _ (Za h8).symm)) (by exact ⟨.tup [.own 1000 (i5 1),rI (10)],[(1000,some (.arr (i5 1) 78 3 (([]:List YAB).map YAB.row)))],⟨_,R,⟨R,R,Zb⟩⟩,⟨.inr R,Zb⟩,R,R,vec [(i5 1)],R,R⟩)))
  refine Zc (c13 _ (aT fun c16=>(aU (mM R (sQ R (ZG R Tryz.underlying21 Tryz.underlying3 iL) (Ze h8 fun r3 er3 h9=>(cL (YH0 (er3)) R (sQ R (Zz R iL) (aZ (cI R h9 (fun h10=>?_) fun h10=>?_))))))))))
  ·refine aT fun c18=>(aF [] ?_)
   refine aR (mA R (mA R (oZ c18 ?_)))
   exact Zd (RetW.mk (s':=⟨[(4,.own 1000 (i5 1)),(5,rI (2))],[(1000,some (.arr (i5 1) 78 3 (([]:List YAB).map YAB.row)))],((i5 1)+1),48⟩) (Zl (Zl (ZM 4 1000 78 3 (by decide) R) (by exact ZK (e':=[(4,.own 1000 (i5 1)),(5,rI (2))]) (h':=[(1000,some (.arr (i5 1) 78 3 (([]:List YAB).map YAB.row)))]) ⟨jL,jL,Zb⟩ ⟨.inl R,Zb⟩ nL)) wk) (YAu (fun (r:Int × (List YAB)) rr h'=>∃ (i:Nat→Nat),rr = .tup [.own 1000 (i 0),rI (r.1)]∧h'=[(1000,some (.arr (i 0) 78 3 (r.2.map YAB.row)))]) (he1 _ (hx1 _ (Za h10).symm)) (by exact ⟨.tup [.own 1000 (i5 1),rI (2)],[(1000,some (.arr (i5 1) 78 3 (([]:List YAB).map YAB.row)))],⟨_,R,⟨R,R,Zb⟩⟩,⟨.inr R,Zb⟩,R,R,vec [(i5 1)],R,R⟩)))
  refine Zc (c16 _ (aT fun c19=>(aR (mM R (mM R (sQ R (ZG R Tryz.underlying21 Tryz.underlying3 iL) (mM R ?_)))))))
  refine sQ R (ZD R YLM (q:=[(0,_),(2,_)]) (by exact ⟨R,R,R,iL,R,R,R,iL,Zb⟩) (cs:=[rI ((IntKind.i64.wrap r1)),rI (0),qa b]) (by rfl)) ?_
  refine sS R (YA6 42 R YAw (f:=YAB.row) (l:=([(YAB.mk (IntKind.i64.wrap r1) 0 b)]:List YAB)) ⟨R,⟨_,iL,R⟩,Zb⟩ R (fun _=>R) R) (Ze h10 fun out5 eout5 h11=>(sS R (YCr R YAw iL R (.inr (.inl ⟨_,_,iL,R⟩)) eout5) (mA R (aZ (c19 _ (aG [0,1,7,8,10] [5007] ?_))))))
  exact aR (mM R (mM R (Ze h11 fun i9 ei9 h12=>(sQ R (Zx R iL iL (fun _=>ei9)) (mA R (Zk (YDV.mk h12 (vec [((i5 1)+1),((i5 1)+2)]) wk)))))))
 exact Zw (wK7 _ _ wk (J1 _ (vec [(i5 0),(i5 1)]) (hx1 _ (Za h5).symm)))
theorem YOh {d1 c1 i e1 f1 l1 b s r} (h:YIk d1 c1 i e1 f1 l1 b s=some r):ARO Tryz.prog 20 [.agg [qe d1.Nodes],qg c1,rI (i),rI (e1),rI (f1),qa l1,.r (.str b),rI (s)] (rB (r)):=by
 unfold YIk at h
 refine mF Tryz.func20 Tryz.ntmps20 R fun n0=>aU (sS R (ZB (cs:=[qe d1.Nodes]) 8 R iL R R) (mA R (aZ (aS fun K2 C2 wK2=>(aU (mM R (sQ R (Zh R iL iL) (mM R (vM R (Ze h fun x1 ex1 h1=>(vQ R (Zp R YBs.slice (iR R) iL (fun _=>R) (gdt ex1)) (vQ R (Zm R YHU (iR R)) (vQ R (ZA (d:=.str x1.Value) R ts_9 (iR R) R) (Ze h1 fun r1 er1 h2=>vL (fun hg=>YIU (gdt er1 hg)) R (vQ R (Zz R (iR R)) (sQ R (Zj R iL (iR R)) (aZ (jb1k h2 fun p1 hp1 hk1=>?_))))))))))))))))))
 have J1 : ∀ (f2:Int) (i1:Nat→Nat),p1=f2→K2 ⟨[(1,qg c1),(2,rI (i)),(3,rI (e1)),(4,rI (f2)),(5,qa l1),(6,.r (.str b)),(7,rI (s)),(8,.ptr 8 n0 0 0)],[(8,some (.box n0 43 [qe d1.Nodes]))],(i1 0),123⟩:=by
  intro f2 i1 e
  have h3:=hk1 _ e
  refine C2 _ (aU (mA R (aZ (aS fun K5 C5 wK5=>(aU (mM R (sQ R (Zh R iL iL) (aZ (jb2k h3 fun p2 hp2 hk2=>?_)))))))))
  have J2 : ∀ (f3:Int) (next1:Int) (i2:Nat→Nat),p2=(f3,next1)→K5 ⟨[(1,qg c1),(2,rI (i)),(3,rI (e1)),(4,rI (f3)),(5,qa l1),(6,.r (.str b)),(8,.ptr 8 n0 0 0),(17,rI (next1))],[(8,some (.box n0 43 [qe d1.Nodes]))],(i2 0),123⟩:=by
   intro f3 next1 i2 e
   have h4:=hk2 _ _ e
   refine C5 _ (aS fun K7 C7 wK7=>(aU (mM R (sQ R (Zh R iL iL) (mM R (vM R (vQ R (YAj R Tryz.underlying9 (iR R)) (vQ R (ZF R (iR R) iL) (sQ R (Zj R iL (iR R)) (aZ (jb1k h4 fun p3 hp3 hk3=>?_)))))))))))
   have J3 : ∀ (f4:Int) (i3:Nat→Nat),p3=f4→K7 ⟨[(1,qg c1),(2,rI (i)),(3,rI (e1)),(4,rI (f4)),(5,qa l1),(6,.r (.str b)),(8,.ptr 8 n0 0 0),(17,rI (next1))],[(8,some (.box n0 43 [qe d1.Nodes]))],(i3 0),123⟩:=by
    intro f4 i3 e
    have h5:=hk3 _ e
    refine C7 _ (aU (mA R (aZ (aS fun K10 C10 wK10=>(aU (mM R (sQ R (Zh R iL iL) (aZ (jb2k h5 fun p4 hp4 hk4=>?_)))))))))
    have J4 : ∀ (f5:Int) (t1:List YAB) (i4:Nat→Nat),p4=(f5,t1)→K10 ⟨[(1,qg c1),(2,rI (i)),(3,rI (e1)),(4,rI (f5)),(5,qa l1),(8,.ptr 8 n0 0 0),(17,rI (next1)),(18,.own 51 (i4 0))],[(8,some (.box n0 43 [qe d1.Nodes])),(51,some (.arr (i4 0) 78 3 (t1.map YAB.row)))],(i4 1),123⟩:=by
     intro f5 t1 i4 e
     have h6:=hk4 _ _ e
     refine C10 _ (aT fun C12=>(aU (mM R (sQ R (Zu R iL iL) (aZ (cI R h6 (fun h7=>?_) fun h7=>?_))))))
     ·exact aU (mM R (mM R (sQ R (Zh R iL iL) (mM R (vM R (vQ R (Zq R YHH.slice (iR R)) (vQ R (Zh R (iR R) iL) (sQ R (Zj R iL (iR R)) (mM R (vM R (vQ R (Zh R (iR R) iL) (sQ R (Zj R iL (iR R)) (mA R (aZ (Zd (Y2_ h7 iL (.t (.d R))))))))))))))))))
     refine Zc (C12 _ (aT fun C15=>(aR (mM R (mM R (mM R (Ze h7 fun r2 er2 h8=>(sS R (YBX (r:=.agg (k27_ r2)) (caps:=[]) (bs:=[]) R iL R Zb (fun _=>YS5 (er2))) (sS R (YA6 72 R YAw (f:=YAB.row) (l:=([r2]:List YAB)) ⟨R,⟨_,iL,R⟩,Zb⟩ R (fun _=>R) R) (Ze h8 fun l2 el2 h9=>(sS R (YCr R YAw iL R (.inr (.inl ⟨_,_,iL,R⟩)) el2) ?_)))))))))))
     refine sQ R (ZD R YXL (q:=[(0,_),(1,_),(2,_),(3,_)]) (by exact ⟨R,R,R,iL,R,R,R,iL,R,R,R,iL,R,R,R,iL,Zb⟩) (cs:=[rI (next1),rI (12),qa l1,.own 51 ((i4 1)+1),rI (0),rI (0),cZ,cZ,cZ]) (by rfl)) ?_
     refine sS R (ZH (cs:=z4_) 19 R YQH R R) (Zv R R (Zs (ds:=[rI (next1),rI (12),qa l1,.own 51 ((i4 1)+1),rI (0),rI (0),cZ,cZ,cZ]) R YP9 iL R iL R R R R) (aZ (C15 _ (aT fun C16=>(aG [1,2,3,8,17,19] [8,19,51] ?_)))))
     refine aR (mA R (aZ (C16 _ (aS fun K17 C17 wK17=>(aU (lF YBG YD0 R R (Ze h9 fun x2 ex2 h10=>(sQ R (Zp R YDH.slice iL iL (fun _=>R) (fun _=>ex2)) (sQ R (Zm R YC0 iL) (sQ R (ZA (d:=.sl (x2.Flow.map YAB.row)) R YDy iL R) (sQ R (Zq R YAw.slice iL) (mA R (aZ (aU (mM R (sQ R (ZF R iL iL) (aZ (jb1k h10 fun p5 hp5 hk5=>?_))))))))))))))))))
     have J5 : ∀ (steps1:List YAC) (i5:Nat→Nat),p5=steps1→K17 ⟨[(1,qg c1),(2,rI (i)),(3,rI (e1)),(17,rI (next1)),(19,.ptr 19 ((i4 1)+2) 0 0),(20,.own 87 (i5 0))],[(19,some (.box ((i4 1)+2) 62 [rI (next1),rI (12),qa l1,.own 51 ((i4 1)+1),rI (0),rI (0),cZ,cZ,cZ])),(51,some (.arr ((i4 1)+1) 78 3 (l2.map YAB.row))),(87,some (.arr (i5 0) 81 4 (steps1.map YAC.row)))],(i5 1),123⟩:=by
      intro steps1 i5 e
      have h11:=hk5 _ e
      refine C17 _ (aT fun C20=>(aR (mM R (mM R ?_))))
      refine sQ R (ZD R YLM (q:=[(1,_)]) (by exact ⟨R,R,R,iL,Zb⟩) (cs:=[rI (0),rI (next1),cZ]) (by rfl)) ?_
      refine sS R (YA6 91 R YAw (f:=YAB.row) (l:=([(YAB.mk 0 next1 [])]:List YAB)) ⟨R,⟨_,iL,R⟩,Zb⟩ R (fun _=>R) R) ?_
      refine sQ R (ZD R YNj (q:=[(0,_),(3,_)]) (by exact ⟨R,R,R,iL,R,R,R,iL,Zb⟩) (cs:=[rI (1),rI (0),cZ,.own 91 (i5 1)]) (by rfl)) ?_
      refine AOps.weak (by exact Weak.frz (e':=[(1,qg c1),(2,rI (i)),(3,rI (e1)),(17,rI (next1)),(19,.ptr 19 ((i4 1)+2) 0 0),(20,.own 87 (i5 0)),(88,.own 87 (i5 0)),(89,rI (next1)),(90,.agg [rI (0),rI (next1),cZ]),(91,.r (.sl ([(YAB.mk 0 next1 [])].map YAB.row))),(92,.agg [rI (1),rI (0),cZ,.r (.sl ([(YAB.mk 0 next1 [])].map YAB.row))])]) (h':=[(19,some (.box ((i4 1)+2) 62 [rI (next1),rI (12),qa l1,.own 51 ((i4 1)+1),rI (0),rI (0),cZ,cZ,cZ])),(51,some (.arr ((i4 1)+1) 78 3 (l2.map YAB.row))),(87,some (.arr (i5 0) 81 4 (steps1.map YAC.row)))]) 91 R ⟨jL,jL,jL,jL,jL,jL,jL,jL,jL,.inl (.inr (.inr ⟨R,R⟩)),.inr ⟨_,_,R,R,⟨.inl R,.inl R,.inl R,.inr (.inr ⟨R,R⟩),Zb⟩⟩,Zb⟩ ⟨R,.inl R,R,.inl R,R,.inl R,Zb⟩) ?_
      refine sS R (YA6 93 R YBw (f:=YAC.row) (l:=([(YAC.mk 1 0 [] [(YAB.mk 0 next1 [])])]:List YAC)) ⟨R,⟨_,iL,R⟩,Zb⟩ R (fun _=>R) R) (Ze h11 fun steps2 esteps2 h12=>(sS R (YCr R YBw iL R (.inr (.inl ⟨_,_,iL,R⟩)) esteps2) (mA R (aZ (C20 _ (aT fun C21=>?_))))))
      refine ZI hmix (by kernel_rfl) ?_
      refine qP R (Zf R iL) (qP R (Zh R iL iL) (qP R (Zf R iL) (qO R (Zf R iL) (qO R (Zf R iL) (qO R (Zh R (iR R) (iR R)) (qP R (Zj R iL (iR R)) (qP R (Zf R iL) (qO R (Zf R iL) (qO R (Zq R YHH.slice (iR R)) (qO R (ZF R (iR R) iL) (qP R (Zj R iL (iR R)) (qP R (Zf R iL) (qO R (Zf R iL) (Ze h12 fun x3 ex3 h13=>qO R (Zp R YHH.slice (iR R) iL (fun _=>R) (gdt ex3)) (qO R (Zy (cs:=(k1_ x3)) R YTP (iR R) R R) (qO R (Zn R YIE iL R R) ?_))))))))))))))))
      refine qO R (ZD R YMR (q:=[(0,_),(2,_)]) (by exact ⟨R,R,R,iL,R,R,R,(iR R),Zb⟩) (cs:=[rI (0),rI (0),rI (next1),rI (12),qa l1,.own 51 ((i4 1)+1),rI (0),rI (0),cZ,cZ,cZ,cZ,cZ,cZ,cZ,cZ,cZ,cZ,cZ]) (by rfl)) ?_
      refine Ze h13 fun r3 er3 h14=>?_
      refine AQ.stepWC (.one R R R) R R (r:=rB (r3)) (caps:=[]) (bs:=[.agg (k1_ x3),.agg [rI (0),rI (0),rI (next1),rI (12),qa l1,qb l2,rI (0),rI (0),.r (.sl []),.r (.sl []),.r (.sl []),.r (.sl []),.r (.sl []),.r (.sl []),.r (.sl []),.r (.sl []),.r (.sl []),.r (.sl []),.r (.sl [])]]) R iL R ⟨⟨_,(iR R),.g (cs:=[.int .i64 x3.Kind,.int .i64 x3.Node,.int .i64 x3.New.ID,.int .i64 x3.New.Kind,.sl (x3.New.Attrs.map YAD.row),.sl (x3.New.Flow.map YAB.row),.int .i64 x3.New.Grid.Rows,.int .i64 x3.New.Grid.Cols,.sl (x3.New.Grid.Cells.map YAd.row),.sl (x3.New.Grid.Merges.map YAW.row),.sl (x3.New.Draw.map YAP.row),.sl (x3.Attrs.map YAD.row),.sl (x3.Steps.map YAC.row),.sl (x3.Grid.Rows.map YAf.row),.sl (x3.Grid.Cols.map YAf.row),.sl (x3.Grid.Cells.map YAd.row),.sl (x3.Grid.Split.map YAW.row),.sl (x3.Grid.Merge.map YAW.row),.sl (x3.Draw.map YAP.row)]) R R⟩,⟨_,(iR R),.agg (by exact ⟨.closed _ R,.closed _ R,.closed _ R,.closed _ R,.closed _ R,.own R,.closed _ R,.closed _ R,.nil,.nil,.nil,.nil,.nil,.nil,.nil,.nil,.nil,.nil,.nil,Zb⟩)⟩,Zb⟩ (fun hg=>YF0 (gdt er3 hg)) R ?_
      refine qP R (Zj R iL (iR R)) (qP R (Zf R iL) (qO R (Zf R iL) (Ze h14 fun x4 ex4 h15=>qO R (Zp R YHH.slice (iR R) iL (fun _=>R) (gdt ex4)) (qO R (Zy (cs:=(k1_ x4)) R YTP (iR R) R R) (qO R (Zf R iL) ?_)))))
      refine qO R (ZD R YMR (q:=[(0,_),(1,_),(12,_)]) (by exact ⟨R,R,R,iL,R,R,R,iL,R,R,R,(iR R),Zb⟩) (cs:=[rI (2),rI (1),rI (0),rI (0),cZ,cZ,rI (0),rI (0),cZ,cZ,cZ,cZ,.own 87 ((i5 1)+2),cZ,cZ,cZ,cZ,cZ,cZ]) (by rfl)) ?_
      refine Ze h15 fun r4 er4 h16=>?_
      refine AQ.stepWC (.one R R R) R R (r:=rB (r4)) (caps:=[]) (bs:=[.agg (k1_ x4),.agg [rI (2),rI (1),rI (0),rI (0),.r (.sl []),.r (.sl []),rI (0),rI (0),.r (.sl []),.r (.sl []),.r (.sl []),.r (.sl []),qh steps2,.r (.sl []),.r (.sl []),.r (.sl []),.r (.sl []),.r (.sl []),.r (.sl [])]]) R iL R ⟨⟨_,(iR R),.g (cs:=[.int .i64 x4.Kind,.int .i64 x4.Node,.int .i64 x4.New.ID,.int .i64 x4.New.Kind,.sl (x4.New.Attrs.map YAD.row),.sl (x4.New.Flow.map YAB.row),.int .i64 x4.New.Grid.Rows,.int .i64 x4.New.Grid.Cols,.sl (x4.New.Grid.Cells.map YAd.row),.sl (x4.New.Grid.Merges.map YAW.row),.sl (x4.New.Draw.map YAP.row),.sl (x4.Attrs.map YAD.row),.sl (x4.Steps.map YAC.row),.sl (x4.Grid.Rows.map YAf.row),.sl (x4.Grid.Cols.map YAf.row),.sl (x4.Grid.Cells.map YAd.row),.sl (x4.Grid.Split.map YAW.row),.sl (x4.Grid.Merge.map YAW.row),.sl (x4.Draw.map YAP.row)]) R R⟩,⟨_,(iR R),.agg (by exact ⟨.closed _ R,.closed _ R,.closed _ R,.closed _ R,.nil,.nil,.closed _ R,.closed _ R,.nil,.nil,.nil,.nil,.own R,.nil,.nil,.nil,.nil,.nil,.nil,Zb⟩)⟩,Zb⟩ (fun hg=>YF0 (gdt er4 hg)) R ?_
      exact qP R (Zj R iL (iR R)) (qP R (YCI R iL) (AQ.nil (C21 _ (Zd (Y2_ h16 iL (.t (.d R)))))))
     refine aC R (fun hc2=>?_) (fun hc2=>?_)
     ·have h17:=YDO hc2 hp5
      refine aG [1,2,3,17,19,20,21] [19,51] ?_
      refine aR (mM R (mM R ?_))
      refine sQ R (ZD R YNj (q:=[(0,_),(1,_)]) (by exact ⟨R,R,R,iL,R,R,R,iL,Zb⟩) (cs:=[rI (0),rI ((x2.Flow.length:Int)),cZ,cZ]) (by rfl)) ?_
      exact sS R (YA6 86 R YBw (f:=YAC.row) (l:=([(YAC.mk 0 (x2.Flow.length:Int) [] [])]:List YAC)) ⟨R,⟨_,iL,R⟩,Zb⟩ R (fun _=>R) R) (Ze h17 fun steps3 esteps3 h18=>(sS R (YGV 87 (f:=YAC.row) R YBw iL (.inr (.inl ⟨_,_,iL,R⟩)) esteps3) (mA R (Zk (wK17 _ _ wk (J5 _ (vec [((i4 1)+4),((i4 1)+5)]) (Za h18).symm))))))
     ·have h17:=YDP hc2 hp5
      refine Zc ?_
      exact wK17 _ _ (Zl (Zl (ZM 20 87 81 4 (by decide) R) (by exact ZK (e':=[(1,qg c1),(2,rI (i)),(3,rI (e1)),(8,.ptr 8 n0 0 0),(17,rI (next1)),(19,.ptr 19 ((i4 1)+2) 0 0),(20,.own 87 ((i4 1)+3)),(21,rI ((x2.Flow.length:Int))),(75,.ptr 8 n0 0 0),(76,qe d1.Nodes),(77,.rop (YAR.row x2) 0),(78,.rop (YAR.row x2) 3),(79,qb x2.Flow),(80,rI ((x2.Flow.length:Int))),(81,rI ((x2.Flow.length:Int))),(82,rB ((decide (0<(x2.Flow.length:Int)))))]) (h':=[(8,some (.box n0 43 [qe d1.Nodes])),(19,some (.box ((i4 1)+2) 62 [rI (next1),rI (12),qa l1,.own 51 ((i4 1)+1),rI (0),rI (0),cZ,cZ,cZ])),(51,some (.arr ((i4 1)+1) 78 3 (l2.map YAB.row))),(87,some (.arr ((i4 1)+3) 81 4 (([]:List YAC).map YAC.row)))]) ⟨jL,jL,jL,jL,jL,jL,jL,jL,jL,jL,jL,jL,jL,jL,jL,jL,Zb⟩ ⟨.inl R,.inl R,.inl R,.inl R,Zb⟩ nL)) wk) (J5 _ (vec [((i4 1)+3),((i4 1)+4)]) (Za h17).symm)
    refine aC R (fun hc3=>?_) (fun hc3=>?_)
    ·have h19:=YDO hc3 hp4
     refine aR (mM R (ob2k h19 fun r5 w1 er5 h20=>?_))
     refine AOps.stepHI [51] (hc:=[]) (bs:=[.r (.str b),.r (.sl [])]) (caps:=[]) R R R R iL R ⟨.inl ⟨iL,R⟩,.inr ⟨iL,R⟩,Zb⟩ Zb (by decide) (YME er5) ?_
     intro i6 n1
     refine aGo [1,2,3,4,5,6,8,17,18,47,48,50,51] [8,51] ?_
     exact mM R (sQ R (Zt (a:=.own 51 (i6 0)) R iL R) (sQ R (Zt (a:=rI (r5)) R iL R) (mA R (mA R (Zk (wK10 _ _ wk (J4 _ _ (vec [(i6 0),n1]) (Za h20).symm)))))))
    ·have h19:=YDP hc3 hp4
     refine Zc ?_
     exact wK10 _ _ (Zl (Zl (ZM 18 51 78 3 (by decide) R) (by exact ZK (e':=[(1,qg c1),(2,rI (i)),(3,rI (e1)),(4,rI (f4)),(5,qa l1),(6,.r (.str b)),(8,.ptr 8 n0 0 0),(17,rI (next1)),(18,.own 51 (i3 0)),(47,rI (f4)),(48,rB ((decide (f4=0))))]) (h':=[(8,some (.box n0 43 [qe d1.Nodes])),(51,some (.arr (i3 0) 78 3 (([]:List YAB).map YAB.row)))]) ⟨jL,jL,jL,jL,jL,jL,jL,jL,jL,jL,jL,Zb⟩ ⟨.inl R,.inl R,Zb⟩ nL)) wk) (J4 _ _ (vec [(i3 0),((i3 0)+1)]) (Za h19).symm)
   refine aC R (fun hc4=>?_) (fun hc4=>?_)
   ·have h21:=YDO hc4 hp3
    exact aR (mA R (Zk (wK7 _ _ wk (J3 _ (vec [(i2 0)]) (Za h21).symm))))
   ·have h21:=YDP hc4 hp3
    exact Zc (wK7 _ _ wk (J3 _ (vec [(i2 0)]) (Za h21).symm))
  refine aC R (fun hc5=>?_) (fun hc5=>?_)
  ·have h22:=YDO hc5 hp2
   exact aR (sQ R (Zn R YDZ iL R R) (mM R (ob2k h22 fun r6 r7 er6 h23=>(cL (YJe (er6)) R (mM R (sQ R (Zt (a:=rI (r6)) R iL R) (sQ R (Zt (a:=rI (r7)) R iL R) (mA R (mA R (Zk (wK5 _ _ wk (J2 _ _ (vec [(i1 0)]) (Za h23).symm))))))))))))
  ·have h22:=YDP hc5 hp2
   exact Zc (wK5 _ _ wk (J2 _ _ (vec [(i1 0)]) (Za h22).symm))
 refine aC R (fun hc6=>?_) (fun hc6=>?_)
 ·have h24:=YDO hc6 hp1
  refine aG [1,2,3,5,6,7,8] [8] ?_
  exact aR (mA R (Zk (wK2 _ _ wk (J1 _ (vec [(n0+1)]) (Za h24).symm))))
 ·have h24:=YDP hc6 hp1
  exact Zc (wK2 _ _ wk (J1 _ (vec [(n0+1)]) (Za h24).symm))
theorem YMq {n1 r} (h:YH3 n1=some r):ARO Tryz.prog 21 [rI (n1)] (.r (.str r)):=by
 unfold YH3 at h
 refine mF Tryz.func21 Tryz.ntmps21 R fun n0=>aU (mA R (aZ (aU (mA R (aZ (aS fun K3 c3 wK3=>(aU (mM R (sQ R (Zo R iL iL) (aZ (jb1k h fun p1 hp1 hk1=>?_)))))))))))
 have J1 : ∀ (sign1:List UInt8) (i1:Nat→Nat),p1=sign1→K3 ⟨[(0,rI (n1)),(3,.r (.str sign1))],[],(i1 0),30⟩:=by
  intro sign1 i1 e
  have h1:=hk1 _ e
  refine c3 _ (aU (mA R (aZ (aS fun K6 c6 wK6=>(Zg (jb1k h1 fun o1 hit1 hk2=>?_))))))
  have J2 : ∀ (out4:List UInt8) (i6:Nat→Nat),o1=out4→K6 ⟨[(3,.r (.str sign1)),(4,.r (.str out4))],[],(i6 0),30⟩:=by
   intro out4 i6 e
   have h2:=hk2 _ e
   exact c6 _ (aU (mM R (mM R (Ze h2 fun s1 es1 h3=>(sQ R (YN7 R iL iL (fun _=>es1)) (mA R (aZ (Zd (YHd (P:=Tryz.prog) (fun (r:(List UInt8))=>.r (.str r)) h3 iL (.t (.d R)))))))))))
  refine AW.iter2 (fun (n3:Int) (out2:List UInt8) i4=>⟨[(0,rI (n3)),(3,.r (.str sign1)),(4,.r (.str out2))],[],(i4 0),30⟩) (vec [(i1 0)]) hit1 wk ?_
  intro n3 out2 i4 v1 hv1 hx1
  have h4:YBd n3 out2=some v1:=hv1; unfold YBd at h4
  refine aT fun c8=>(aU (mM R (sQ R (YD6 R iL iL) (mM R (vM R (vQ R (Zu R (iR R) iL) (sQ R (Zr R iL (iR R)) (aZ (cI R h4 (fun h5=>?_) fun h5=>?_)))))))))
  ·refine Zc (c8 _ (Zg (aU (mM R (Ze h5 fun x1 ex1 h6=>(sQ R (YWz R iL iL (fun _=>ex1)) (mM R (sQ R (YWz R iL iL (fun _=>ex1)) (Ze h6 fun x2 ex2 h7=>(sQ R (ms_neg R iL (fun _=>ex2)) (sQ R (YRH R iL iL) (Ze h7 fun x3 ex3 h8=>(sQ R (Zx R iL iL (fun _=>ex3)) (sQ R (ZG R Tryz.underlying3 Tryz.underlying5 iL) (sS R (YA6 21 R tg_99 (f:=(rInt .u8)) (l:=([(IntKind.u8.wrap x3)]:List Int)) ⟨R,⟨_,iL,R⟩,Zb⟩ R (fun _=>R) R) (sS R (ms_str (ys:=[(IntKind.u8.wrap x3)]) R Tryz.underlying99 Tryz.underlying5 Tryz.underlying9 (.inr (.inl ⟨_,_,iL,R⟩))) (mM R (Ze h8 fun out5 eout5 h9=>(sQ R (YN7 R iL iL (fun _=>eout5)) (mA R (aZ (aF [0,3,4] ?_))))))))))))))))))))))
   exact aR (mM R (Ze h9 fun n5 en5 h10=>(sQ R (ms_quo R iL iL (fun _=>en5)) (mA R (Zk (YDV.mk h10 (vec [((i4 0)+1)]) wk))))))
  exact Zw (wK6 _ _ wk (J2 _ (vec [(i4 0)]) (hx1 _ (Za h5).symm)))
 refine aC R (fun hc2=>?_) (fun hc2=>?_)
 ·have h11:=YDO hc2 hp1
  exact aR (mA R (Zk (wK3 _ _ wk (J1 _ (vec [n0]) (Za h11).symm))))
 ·have h11:=YDP hc2 hp1
  exact Zc (wK3 _ _ wk (J1 _ (vec [n0]) (Za h11).symm))
theorem YNa {a1 r} (h:YEb a1=some r):ARO Tryz.prog 10 (k9_ a1) (qh r):=by
 unfold YEb at h
 refine mF Tryz.func10 Tryz.ntmps10 R fun n0=>aU (sS R (ZB (cs:=(k10_ a1)) 1 R iL R R) (mA R (aZ (aU (mA R (aZ (aU (mA R (aZ (aU (mA R (aZ (aS fun K5 c5 wK5=>(aU (mA R (aZ (Zg (jb1k h fun o1 hit1 hk1=>?_))))))))))))))))))
 have J1 : ∀ (out4:List YAC) (i8:Nat→Nat),o1=out4→K5 ⟨[(3,.own 5003 (i8 0))],[(5003,some (.arr (i8 0) 81 4 (out4.map YAC.row)))],(i8 1),100⟩:=by
  intro out4 i8 e
  have h1:=hk1 _ e
  exact c5 _ (aU (mM R (mA R (aZ (Zd (YHd (P:=Tryz.prog) (fun (r:(List YAC))=>qh r) h1 iL (.t (.one (.own R)))))))))
 refine AW.iter4 (fun (cuts2:Int) (i4:Int) (out2:List YAC) (adds2:List YAB) i5=>⟨[(1,.ptr 1 n0 0 0),(3,.own 5003 (i5 0)),(4,.own 5004 (i5 1)),(5,rI (cuts2)),(6,rI (i4))],[(1,some (.box n0 34 (k10_ a1))),(5003,some (.arr (i5 0) 81 4 (out2.map YAC.row))),(5004,some (.arr (i5 1) 78 3 (adds2.map YAB.row)))],(i5 2),100⟩) (vec [(n0+1),(n0+2),(n0+3)]) hit1 (Zl (Zl (ZM 3 5003 81 4 (by decide) R) (by exact ZK (e':=[(0,.agg (k10_ a1)),(1,.ptr 1 n0 0 0),(2,cZ),(3,.own 5003 (n0+1)),(4,cZ),(5,rI (0)),(6,rI (0))]) (h':=[(1,some (.box n0 34 (k10_ a1))),(5003,some (.arr (n0+1) 81 4 (([]:List YAC).map YAC.row)))]) ⟨jL,jL,jL,jL,jL,jL,jL,Zb⟩ ⟨.inl R,.inl R,Zb⟩ nL)) (Zl (Zl (ZM 4 5004 78 3 (by decide) R) (by exact ZK (e':=[(0,.agg (k10_ a1)),(1,.ptr 1 n0 0 0),(2,cZ),(3,.own 5003 (n0+1)),(4,.own 5004 (n0+2)),(5,rI (0)),(6,rI (0))]) (h':=[(1,some (.box n0 34 (k10_ a1))),(5003,some (.arr (n0+1) 81 4 (([]:List YAC).map YAC.row))),(5004,some (.arr (n0+2) 78 3 (([]:List YAB).map YAB.row)))]) ⟨jL,jL,jL,jL,jL,jL,jL,Zb⟩ ⟨.inl R,.inl R,.inl R,Zb⟩ nL)) wk)) ?_
 intro cuts2 i4 out2 adds2 i5 v1 hv1 hx1
 have h2:YBm a1 cuts2 i4 out2 adds2=some v1:=hv1; unfold YBm at h2
 refine aT fun c8=>(aU (mM R (lF YNh YVF R R (sQ R (Zq R YS9.slice iL) (sQ R (YFB R iL iL) (aZ (cI R h2 (fun h3=>?_) fun h3=>?_)))))))
 ·refine Zc (c8 _ (aS fun K10 c10 wK10=>(Zg (jc3k h3 fun p1 hp1 hk2 he2=>?_))))
  have J2 : ∀ (cuts4:Int) (out5:List YAC) (adds4:List YAB) (i9:Nat→Nat),p1 = .nrm (cuts4,out5,adds4)→K10 ⟨[(1,.ptr 1 n0 0 0),(3,.own 5003 (i9 0)),(4,.own 5004 (i9 1)),(5,rI (cuts4)),(6,rI (i4))],[(1,some (.box n0 34 (k10_ a1))),(5003,some (.arr (i9 0) 81 4 (out5.map YAC.row))),(5004,some (.arr (i9 1) 78 3 (adds4.map YAB.row)))],(i9 2),100⟩:=by
   intro cuts4 out5 adds4 i9 e
   have h4:=hk2 _ _ _ e
   exact c10 _ (aR (mM R (Ze h4 fun i10 ei10 h5=>(sQ R (Zx R iL iL (fun _=>ei10)) (mA R (Zk (YR6.mk h5 (vec [(i9 0),(i9 1),(i9 2)]) wk)))))))
  refine aU (mM R (lF YXK ts_30 R R (mM R (Ze hp1 fun x1 ex1 h6=>(sQ R (Zp R tg_30.slice iL iL (fun _=>R) (fun _=>ex1)) (sQ R (ZA (d:=.sl (x1.map YAB.row)) R YDy iL R) (Ze h6 fun adds5 eadds5 h7=>(sS R (YCr R YAw iL R (.inl ⟨iL,fun _=>R⟩) eadds5) (mA R (aZ (aT fun c12=>(aT fun c13=>(aG [1,3,4,5,6] [1,5003,5004] ?_)))))))))))))
  refine aR (mM R (lF YNh YVF R R (sQ R (Zq R YS9.slice iL) (sQ R (Zo R iL iL) (mM R (vF YNh YVF R R (vM R (Ze h7 fun x2 ex2 h8=>(vQ R (Zp R YS9.slice (iR R) (iR R) (fun _=>R) (gdt ex2)) (vQ R (ZA (d:=.bool x2) R ts_4 (iR R) R) (sQ R (Zj R iL (iR R)) (aZ (c13 _ (cI R h8 (fun h9=>?_) fun h9=>?_))))))))))))))
  ·exact aU (mM R (Ze h9 fun cuts5 ecuts5 h10=>(sQ R (Zx R iL iL (fun _=>ecuts5)) (mA R (aZ (Zw (wK10 _ _ wk (J2 _ _ _ (vec [(i5 0),(i5 2),((i5 2)+1)]) (Za h10).symm))))))))
  refine Zc (c12 _ (aS fun K15 c15 wK15=>(aU (mM R (sQ R (YH4 R YAw.slice iL R) (sQ R (ZF R iL iL) (aZ (jb1k h9 fun p2 hp2 hk3=>?_))))))))
  have J3 : ∀ (out6:List YAC) (i11:Nat→Nat),p2=out6→K15 ⟨[(1,.ptr 1 n0 0 0),(3,.own 5003 (i11 0)),(5,rI (cuts2)),(6,rI (i4))],[(1,some (.box n0 34 (k10_ a1))),(5003,some (.arr (i11 0) 81 4 (out6.map YAC.row)))],(i11 1),100⟩:=by
   intro out6 i11 e
   have h11:=hk3 _ e
   refine c15 _ (aS fun K17 c17 wK17=>(aU (mM R (sQ R (ZF R iL iL) (aZ (jb1k h11 fun p3 hp3 hk4=>?_))))))
   have J4 : ∀ (out7:List YAC) (i12:Nat→Nat),p3=out7→K17 ⟨[(1,.ptr 1 n0 0 0),(3,.own 5003 (i12 0)),(6,rI (i4))],[(1,some (.box n0 34 (k10_ a1))),(5003,some (.arr (i12 0) 81 4 (out7.map YAC.row)))],(i12 1),100⟩:=by
    intro out7 i12 e
    have h12:=hk4 _ e
    refine c17 _ (aU (mA R (mA R (aZ (aT fun c20=>(aU (mM R (lF YNh YVF R R (sQ R (Zq R YS9.slice iL) (sQ R (Zh R iL iL) (aZ (cI R h12 (fun h13=>?_) fun h13=>?_))))))))))))
    ·exact Zw (wK5 _ _ wk (J1 _ (vec [(i12 0),(i12 1)]) (hx1 _ (Za (he2 _ (Za h13).symm)).symm)))
    refine Zc (c20 _ (aU (mM R (sQ R (YH4 R YBw.slice iL R) (Ze h13 fun k1 ek1 h14=>(sQ R (YBg R iL iL (fun _=>ek1)) (mA R (aZ (aT fun c23=>?_)))))))))
    refine ZI hmix (by kernel_rfl) ?_
    refine qP R (Zf R iL) (qP R (YC1 R iL iL) (qP R (Zf R iL) (qO R (Zf R iL) (qO R (Zf R iL) (Ze h14 fun x3 ex3 h15=>qO R (YCw R YBw.slice (iR R) R (iR R) (gdt ex3)) (qO R (YAk (ob:=.arr _ _ _ _) R YC4 (iR R) fR R) (qO R (YEd (d:=.int .i64 x3.Kind) R ts_3 (iR R) fR (gdt ex3) R) (qO R (Zh R (iR R) iL) (qP R (Zj R iL (iR R)) (qP R (Zf R iL) (qO R (Zf R iL) (qO R (Zf R iL) (Ze h15 fun x4 ex4 h16=>qO R (YCw R YBw.slice (iR R) R (iR R) (gdt ex4)) (qO R (YAk (ob:=.arr _ _ _ _) R YE3 (iR R) fR R) (qO R (YEd (d:=.sl (x4.Attrs.map YAD.row)) R YCf (iR R) fR (gdt ex4) R) (qO R (fB R YQB iL fR R) (qO R (Zi (a:=.r (.sl (a1.Attrs.map (rSl YAD.row)))) R YXI (iR R) R R) (qO R (Zf R iL) (Ze h16 fun x5 ex5 h17=>qO R (Zp R YVG.slice (iR R) (iR R) (fun _=>R) (gdt ex5)) (qO R (ZA (d:=.sl (x5.map YAD.row)) R YCf (iR R) R) (Ze h17 fun r1 er1 h18=>AQ.stepWC (.one R R R) R R (r:=rB (r1)) (caps:=[]) (bs:=[qa x4.Attrs,qa x5]) R iL R ⟨⟨_,(iR R),.d R⟩,⟨_,(iR R),.d R⟩,Zb⟩ (fun hg=>YCF (gdt er1 hg)) R (qP R (Zj R iL (iR R)) (AQ.nil (c23 _ (cI R h18 (fun h19=>?_) fun h19=>?_)))))))))))))))))))))))))
    ·refine aG [1,3,4,5,6,7] [1,5003] ?_
     refine aR (mM R (mM R (Ze h19 fun x6 ex6 h20=>(sQ R (YCw R YBw.slice iL R iL (fun _=>ex6)) (sQ R (YAk (ob:=.arr _ _ _ _) R YD1 iL fR R) (sQ R (YEd (d:=.int .i64 x6.N) R ts_3 iL fR (fun _=>ex6) R) (Ze h20 fun x7 ex7 h21=>(sQ R (Zx R iL iL (fun _=>ex7)) (sQ R (YCw R YBw.slice iL R iL (fun _=>ex6)) (sQ R (YAk (ob:=.arr _ _ _ _) R YD1 iL fR R) (Zv R R (YN5 (v:=(YAC.mk x6.Kind x7 x6.Attrs x6.Elems)) R tz_3 iL R ex6 iL R R R R) (Zk ?_))))))))))))
     exact wK10 _ _ (Zl (Zl (ZM 4 5004 78 3 (by decide) R) (by exact ZK (e':=[(1,.ptr 1 n0 0 0),(3,.own 5003 (i12 0)),(4,.own 5004 (i12 1)),(5,rI (0)),(6,rI (i4)),(7,rI (k1)),(82,.own 5003 (i12 0)),(83,rI (k1)),(84,.ptr 5003 (i12 0) k1.toNat 0),(85,.ptr 5003 (i12 0) k1.toNat 1),(86,rI (x6.N)),(87,rI (x7)),(88,.ptr 5003 (i12 0) k1.toNat 0),(89,.ptr 5003 (i12 0) k1.toNat 1)]) (h':=[(1,some (.box n0 34 (k10_ a1))),(5003,some (.arr (i12 0) 81 4 ((out7.set k1.toNat (YAC.mk x6.Kind x7 x6.Attrs x6.Elems)).map YAC.row))),(5004,some (.arr (i12 1) 78 3 (([]:List YAB).map YAB.row)))]) ⟨jL,jL,jL,jL,jL,jL,jL,jL,jL,jL,jL,jL,jL,jL,Zb⟩ ⟨.inl R,.inl R,.inl R,Zb⟩ nL)) wk) (J2 _ _ _ (vec [(i12 0),(i12 1),((i12 1)+1)]) (Za h21).symm)
    refine aG [1,3,4,5,6] [1,5003] ?_
    refine aR (mM R (lF YQB YXI R R (mM R (Ze h19 fun x8 ex8 h22=>(sQ R (Zp R YVG.slice iL iL (fun _=>R) (fun _=>ex8)) (sQ R (ZA (d:=.sl (x8.map YAD.row)) R YCf iL R) ?_))))))
    refine sQ R (ZD R YNj (q:=[(0,_),(1,_),(2,_)]) (by exact ⟨R,R,R,iL,R,R,R,iL,R,R,R,iL,Zb⟩) (cs:=[rI (0),rI (1),qa x8,cZ]) (by rfl)) ?_
    refine sS R (YA6 97 R YBw (f:=YAC.row) (l:=([(YAC.mk 0 1 x8 [])]:List YAC)) ⟨R,⟨_,iL,R⟩,Zb⟩ R (fun _=>R) R) (Ze h22 fun out8 eout8 h23=>(sS R (YCr R YBw iL R (.inr (.inl ⟨_,_,iL,R⟩)) eout8) (mA R (Zk ?_))))
    exact wK10 _ _ (Zl (Zl (ZM 4 5004 78 3 (by decide) R) (by exact ZK (e':=[(1,.ptr 1 n0 0 0),(3,.own 5003 ((i12 1)+1)),(4,.own 5004 ((i12 1)+2)),(5,rI (0)),(6,rI (i4)),(91,.ptr 1 n0 0 2),(92,.r (.sl (a1.Attrs.map (rSl YAD.row)))),(93,rI (i4)),(94,.rop ((rSl YAD.row) x8) 0),(95,qa x8),(96,.agg [rI (0),rI (1),qa x8,cZ]),(97,.own 97 (i12 1)),(98,.own 5003 ((i12 1)+1))]) (h':=[(1,some (.box n0 34 (k10_ a1))),(97,some (.arr (i12 1) 81 4 ([(YAC.mk 0 1 x8 [])].map YAC.row))),(5003,some (.arr ((i12 1)+1) 81 4 (out8.map YAC.row))),(5004,some (.arr ((i12 1)+2) 78 3 (([]:List YAB).map YAB.row)))]) ⟨jL,jL,jL,jL,jL,jL,jL,jL,jL,jL,jL,jL,jL,Zb⟩ ⟨.inl R,.inl R,.inl R,.inl R,Zb⟩ nL)) wk) (J2 _ _ _ (vec [((i12 1)+1),((i12 1)+2),((i12 1)+3)]) (Za h23).symm)
   refine aC R (fun hc5=>?_) (fun hc5=>?_)
   ·have h24:=YDO hc5 hp3
    refine aR (mM R (mM R ?_))
    refine sQ R (ZD R YNj (q:=[(0,_),(1,_)]) (by exact ⟨R,R,R,iL,R,R,R,iL,Zb⟩) (cs:=[rI (2),rI (cuts2),cZ,cZ]) (by rfl)) ?_
    exact sS R (YA6 49 R YBw (f:=YAC.row) (l:=([(YAC.mk 2 cuts2 [] [])]:List YAC)) ⟨R,⟨_,iL,R⟩,Zb⟩ R (fun _=>R) R) (Ze h24 fun out9 eout9 h25=>(sS R (YCr R YBw iL R (.inr (.inl ⟨_,_,iL,R⟩)) eout9) (mA R (Zk (wK17 _ _ wk (J4 _ (vec [((i11 1)+1),((i11 1)+2)]) (Za h25).symm))))))
   ·have h24:=YDP hc5 hp3
    exact Zc (wK17 _ _ wk (J4 _ (vec [(i11 0),(i11 1)]) (Za h24).symm))
  refine aC R (fun hc6=>?_) (fun hc6=>?_)
  ·have h26:=YDO hc6 hp2
   refine aG [1,3,4,5,6] [1,5003,5004] ?_
   refine aR (mM R (mM R ?_))
   refine sQ R (ZD R YNj (q:=[(0,_),(3,_)]) (by exact ⟨R,R,R,iL,R,R,R,iL,Zb⟩) (cs:=[rI (1),rI (0),cZ,.own 5004 (i5 2)]) (by rfl)) ?_
   refine AOps.weak (by exact Weak.frz (e':=[(1,.ptr 1 n0 0 0),(3,.own 5003 (i5 0)),(4,qb adds5),(5,rI (cuts2)),(6,rI (i4)),(39,.own 5003 (i5 0)),(40,qb adds5),(41,.agg [rI (1),rI (0),cZ,qb adds5])]) (h':=[(1,some (.box n0 34 (k10_ a1))),(5003,some (.arr (i5 0) 81 4 (out2.map YAC.row)))]) 5004 R ⟨jL,jL,.inl (.inr (.inr ⟨R,R⟩)),jL,jL,jL,.inl (.inr (.inr ⟨R,R⟩)),.inr ⟨_,_,R,R,⟨.inl R,.inl R,.inl R,.inr (.inr ⟨R,R⟩),Zb⟩⟩,Zb⟩ ⟨R,.inl R,R,.inl R,Zb⟩) ?_
   exact sS R (YA6 42 R YBw (f:=YAC.row) (l:=([(YAC.mk 1 0 [] adds5)]:List YAC)) ⟨R,⟨_,iL,R⟩,Zb⟩ R (fun _=>R) R) (Ze h26 fun out10 eout10 h27=>(sS R (YCr R YBw iL R (.inr (.inl ⟨_,_,iL,R⟩)) eout10) (mA R (Zk (wK15 _ _ wk (J3 _ (vec [((i5 2)+2),((i5 2)+3)]) (Za h27).symm))))))
  ·have h26:=YDP hc6 hp2
   exact Zc (wK15 _ _ wk (J3 _ (vec [(i5 0),((i5 2)+1)]) (Za h26).symm))
 exact Zw (wK5 _ _ wk (J1 _ (vec [(i5 0),(i5 2)]) (hx1 _ (Za h3).symm)))
theorem YHF {d1 s1 i b j s r} (h:YCE d1 s1 i b j s=some r):ARO Tryz.prog 4 [.agg [qe d1.Nodes],.agg (k28_ s1),rI (i),.r (.str b),.r (.str j),rI (s)] (rB (r)):=by
 unfold YCE at h
 refine mF Tryz.func4 Tryz.ntmps4 R fun n0=>aU (sS R (ZB (cs:=[qe d1.Nodes]) 6 R iL R R) (sS R (ZB (cs:=(k28_ s1)) 7 R iL R R) (mA R (aZ (aT fun c2=>(aU (Ze h fun r1 er1 h1=>(cL (YJd (er1)) R (sQ R (Zz R iL) (aZ (cI R h1 (fun h2=>?_) fun h2=>?_)))))))))))
 ·refine aT fun c4=>(aF [] ?_)
  exact aR (mA R (aZ (c4 _ (Zd (Y2_ h2 iL (.t (.d R)))))))
 refine Zc (c2 _ (aU (sQ R (Zn R YDZ iL R R) (sQ R (Zn R YVJ iL R R) (mM R (mM R (mM R (ob3k h2 fun r2 r3 r4 er2 h3=>(sS R (YBX (r:=.tup [qg r2,rI (r3),rI (r4)]) (caps:=[]) (bs:=[.agg [qe d1.Nodes],.agg (k28_ s1),.r (.str b),.r (.str j),rI (s)]) R iL R ⟨.inl ⟨iL,R⟩,.inl ⟨iL,R⟩,.inl ⟨iL,R⟩,.inl ⟨iL,R⟩,.inl ⟨iL,R⟩,Zb⟩ (fun _=>YOe (er2))) (mM R (sQ R (Zt (a:=qg r2) R iL R) (sQ R (Zt (a:=rI (r3)) R iL R) (sQ R (Zt (a:=rI (r4)) R iL R) (mA R (mA R (mA R (aZ (aT fun c6=>(aG [2,3,4,5,6,7,13,14,15] [6,7] ?_)))))))))))))))))))
 refine aR (sQ R (Zn R YDZ iL R R) (mM R (mM R (mM R (mM R (ob3k h3 fun r5 r6 r7 er5 h4=>(sS R (YBX (r:=.tup [qg r5,rI (r6),rI (r7)]) (caps:=[]) (bs:=[.agg [qe d1.Nodes],rI (i),.r (.str b),.r (.str j),rI (s)]) R iL R ⟨.inl ⟨iL,R⟩,.inl ⟨iL,R⟩,.inl ⟨iL,R⟩,.inl ⟨iL,R⟩,.inl ⟨iL,R⟩,Zb⟩ (fun _=>YMC (er5))) (mM R (sQ R (Zt (a:=qg r5) R iL R) (sQ R (Zt (a:=rI (r6)) R iL R) (sQ R (Zt (a:=rI (r7)) R iL R) (mA R (mA R (mA R (aZ (c6 _ (aT fun c7=>(aG [2,3,4,5,6,7,13,14,15,16,17,18] [6,7] ?_))))))))))))))))))
 refine aR (sQ R (Zn R YDZ iL R R) (mM R (ob2k h4 fun r8 r9 er8 h5=>(sS R (YBX (r:=.tup [qg r8,rI (r9)]) (caps:=[]) (bs:=[.agg [qe d1.Nodes],rI (i),rB (true)]) R iL R ⟨.inl ⟨iL,R⟩,.inl ⟨iL,R⟩,.inl ⟨iL,R⟩,Zb⟩ (fun _=>YNW (er8))) (mM R (sQ R (Zt (a:=qg r8) R iL R) (sQ R (Zt (a:=rI (r9)) R iL R) (mA R (mA R (aZ (c7 _ (aU (sQ R (Zn R YDZ iL R R) (sQ R (Zn R YVJ iL R R) (Ze h5 fun p1 ep1 h6=>(cL (YML (ep1)) R (mA R (aZ (aS fun K9 c9 wK9=>(aT fun c10=>(aG [2,3,4,5,6,7,13,14,15,16,17,18,19,20,21] [6,7] ?_)))))))))))))))))))))
 refine aR (mM R (sQ R (Zh R iL iL) (mM R (vF YHT ts_3 R R (vF YHS ts_3 R R (vQ R (Zh R (iR R) (iR R)) (sQ R (Zj R iL (iR R)) (aZ (c10 _ (jb1k h6 fun p3 hp1 hk1=>?_))))))))))
 have J1 : ∀ (p2:Int) (i1:Nat→Nat),p3=p2→K9 ⟨[(2,rI (i)),(3,.r (.str b)),(4,.r (.str j)),(5,rI (s)),(6,.ptr 6 n0 0 0),(7,.ptr 7 (n0+1) 0 0),(13,qg r2),(14,rI (r3)),(15,rI (r4)),(16,qg r5),(17,rI (r6)),(18,rI (r7)),(19,qg r8),(20,rI (r9)),(21,rI (p2))],[(6,some (.box n0 43 [qe d1.Nodes])),(7,some (.box (n0+1) 45 (k28_ s1)))],(i1 0),199⟩:=by
  intro p2 i1 e
  have h7:=hk1 _ e
  refine c9 _ (aU (sQ R (Zn R YDZ iL R R) (Ze h7 fun q1 eq1 h8=>(cL (YIM (eq1)) R (mA R (aZ (aS fun K12 c12 wK12=>(aU (mM R (sQ R (Zh R iL iL) (mM R (vQ R (Zn R YDZ iL R R) (vM R (Ze h8 fun r10 er10 h9=>vL (fun hg=>YGG (gdt er10 hg)) R (vQ R (Zo R (iR R) iL) (sQ R (Zj R iL (iR R)) (aZ (jb1k h9 fun p4 hp2 hk2=>?_))))))))))))))))))
  have J2 : ∀ (q2:Int) (i2:Nat→Nat),p4=q2→K12 ⟨[(2,rI (i)),(3,.r (.str b)),(4,.r (.str j)),(5,rI (s)),(6,.ptr 6 n0 0 0),(7,.ptr 7 (n0+1) 0 0),(13,qg r2),(14,rI (r3)),(15,rI (r4)),(16,qg r5),(17,rI (r6)),(18,rI (r7)),(19,qg r8),(20,rI (r9)),(21,rI (p2)),(22,rI (q2))],[(6,some (.box n0 43 [qe d1.Nodes])),(7,some (.box (n0+1) 45 (k28_ s1)))],(i2 0),199⟩:=by
   intro q2 i2 e
   have h10:=hk2 _ e
   refine c12 _ (aS fun K14 c14 wK14=>(aT fun c15=>?_))
   refine ZI hmix (by kernel_rfl) ?_
   refine qP R (Zf R iL) (qP R (Zh R iL iL) (qP R (Zf R iL) (qO R (fB R YBG iL fR R) (qO R (Zi (a:=qe d1.Nodes) R YD0 (iR R) R R) (qO R (Zn R YDZ iL R R) (qO R (Zf R iL) (Ze h10 fun r11 er11 h11=>AQ.stepWC (.one R R R) R R (r:=rI (r11)) (caps:=[]) (bs:=[.agg [qe d1.Nodes],rI (i)]) R iL R ⟨⟨_,(iR R),.g (cs:=[.sl (d1.Nodes.map YAR.row)]) R R⟩,⟨_,(iR R),.d R⟩,Zb⟩ (fun hg=>YGG (gdt er11 hg)) R (Ze h11 fun x1 ex1 h12=>qO R (Zp R YDH.slice (iR R) (iR R) (fun _=>R) (gdt ex1)) (qO R (Zm R YA9 (iR R)) (qO R (ZA (d:=.int .i64 x1.Kind) R ts_3 (iR R) R) (qO R (Zu R (iR R) iL) (qP R (Zj R iL (iR R)) (AQ.nil (c15 _ (jb1k h12 fun p5 hp3 hk3=>?_)))))))))))))))
   have J3 : ∀ (q3:Int) (i3:Nat→Nat),p5=q3→K14 ⟨[(2,rI (i)),(3,.r (.str b)),(4,.r (.str j)),(5,rI (s)),(6,.ptr 6 n0 0 0),(7,.ptr 7 (n0+1) 0 0),(13,qg r2),(14,rI (r3)),(15,rI (r4)),(16,qg r5),(17,rI (r6)),(18,rI (r7)),(19,qg r8),(20,rI (r9)),(21,rI (p2)),(22,rI (q3))],[(6,some (.box n0 43 [qe d1.Nodes])),(7,some (.box (n0+1) 45 (k28_ s1)))],(i3 0),199⟩:=by
    intro q3 i3 e
    have h13:=hk3 _ e
    refine c14 _ (aT fun c16=>(aS fun K17 c17 wK17=>(aR (mM R (mM R (sQ R (Zu R iL iL) (mM R (vM R (vQ R (Zh R (iR R) iL) (vM R (vM R (jb1k h13 fun p6 hp4 hk4=>?_))))))))))))
    have J4 : ∀ (x2:Bool) (i4:Nat→Nat),p6=x2→K17 ⟨[(2,rI (i)),(3,.r (.str b)),(4,.r (.str j)),(5,rI (s)),(6,.ptr 6 n0 0 0),(7,.ptr 7 (n0+1) 0 0),(13,qg r2),(14,rI (r3)),(15,rI (r4)),(16,qg r5),(17,rI (r6)),(18,rI (r7)),(21,rI (p2)),(22,rI (q3)),(104,rB (x2))],[(6,some (.box n0 43 [qe d1.Nodes])),(7,some (.box (n0+1) 45 (k28_ s1)))],(i4 0),199⟩:=by
     intro x2 i4 e
     have h14:=hk4 _ e
     refine c17 _ (cI R h14 (fun h15=>?_) fun h15=>?_)
     ·refine aT fun c18=>(aF [] ?_)
      exact aR (mA R (aZ (c18 _ (Zd (Y2_ h15 iL (.t (.d R)))))))
     refine Zc (c16 _ (aT fun c19=>(aR (mM R ?_))))
     refine sQ R (ZD R YOs (q:=[(0,_),(1,_)]) (by exact ⟨R,R,R,iL,R,R,R,iL,Zb⟩) (cs:=[.r (.str [97,117,116,104,111,114]),.r (.str b)]) (by rfl)) ?_
     refine sS R (YQe 107 R YBs (f:=YAD.row) (l:=([(YAD.mk [97,117,116,104,111,114] b)]:List YAD)) ⟨R,⟨_,iL,R⟩,Zb⟩ R (fun _=>R) R) (mA R (aZ (c19 _ (aT fun c20=>(aT fun c21=>(Ze h15 fun r12 er12 h16=>(Ze h16 fun r13 er13 h17=>(Ze h17 fun l1 el1 h18=>?_))))))))
     refine rP 24 [pO 108 (.agg [qe d1.Nodes]),pO 109 (qg r2),pO 110 (rI (r3)),pO 111 (rI (r4)),pO 112 (rI (p2)),pO 113 (.full ([(YAD.mk [97,117,116,104,111,114] b)].map YAD.row)),pO 114 (.r (.str j)),pO 115 (rI (s)),pO 116 (rB (r12)),pO 117 (rB ((!r12))),pO 118 (rB ((!r12))),pO 119 (.whn ((!r12) == false) (.agg [qe d1.Nodes])),pO 120 (.whn ((!r12) == false) (qg r5)),pO 121 (.whn ((!r12) == false) (rI (r6))),pO 122 (.whn ((!r12) == false) (rI (r7))),pO 123 (.whn ((!r12) == false) (rI (q3))),pO 124 (.whn ((!r12) == false) (.full ([(YAD.mk [97,117,116,104,111,114] b)].map YAD.row))),pO 125 (.whn ((!r12) == false) (rI (i))),pO 126 (.whn ((!r12) == false) (.r (.str r13))),pO 127 (.whn ((!r12) == false) (.agg [.r (.str [114,101,112,108,121]),.r (.str r13)])),pO 128 (.whn ((!r12) == false) (.r (.sl ([(YAD.mk [114,101,112,108,121] r13)].map YAD.row)))),pO 129 (.whn ((!r12) == false) (qa l1)),pO 130 (.whn ((!r12) == false) (.r (.str j))),pO 131 (.whn ((!r12) == false) (rI (s)))] hmix R (by exact ⟨oB [(6,.ptr 6 n0 0 0)] [(6,some (.box n0 43 [qe d1.Nodes]))] (Zn R YDZ (.inl R) R R),oB [(13,qg r2)] [] (Zf R (.inl R)),oB [(14,rI (r3))] [] (Zf R (.inl R)),oB [(15,rI (r4))] [] (Zf R (.inl R)),oB [(21,rI (p2))] [] (Zf R (.inl R)),oB [(23,.full ([(YAD.mk [97,117,116,104,111,114] b)].map YAD.row))] [] (Zf R (.inl R)),oB [(4,.r (.str j))] [] (Zf R (.inl R)),oB [(5,rI (s))] [] (Zf R (.inl R)),oD (fun _=>[(108,.agg [qe d1.Nodes]),(109,qg r2),(110,rI (r3)),(111,rI (r4)),(112,rI (p2)),(113,.full ([(YAD.mk [97,117,116,104,111,114] b)].map YAD.row)),(114,.r (.str j)),(115,rI (s))]) (fun _=>[]) (fun G1 e h' n=>YBb (r:=rB (r12)) (caps:=[]) (bs:=[.agg [qe d1.Nodes],qg r2,rI (r3),rI (r4),rI (p2),.r (.sl ([(YAD.mk [97,117,116,104,111,114] b)].map YAD.row)),.r (.str j),rI (s)]) R (.inl R) R ⟨⟨_,(.inl R),.g (cs:=[.sl (d1.Nodes.map YAR.row)]) R R⟩,⟨_,(.inl R),.d R⟩,⟨_,(.inl R),.d R⟩,⟨_,(.inl R),.d R⟩,⟨_,(.inl R),.d R⟩,⟨_,(.inl R),.one .full⟩,⟨_,(.inl R),.d R⟩,⟨_,(.inl R),.d R⟩,Zb⟩ (fun _=>YOh (er12)) R),oB [(116,rB (r12))] [] (Zz R (.inl R)),oB [(117,rB ((!r12)))] [] (Zf R (.inl R)),oG [(6,.ptr 6 n0 0 0),(118,rB ((!r12)))] [(6,some (.box n0 43 [qe d1.Nodes]))] (fun _ _=>R) (Zn R YDZ (.inl R) R R),oG [(16,qg r5),(118,rB ((!r12)))] [] (fun _ _=>R) (Zf R (.inl R)),oG [(17,rI (r6)),(118,rB ((!r12)))] [] (fun _ _=>R) (Zf R (.inl R)),oG [(18,rI (r7)),(118,rB ((!r12)))] [] (fun _ _=>R) (Zf R (.inl R)),oG [(22,rI (q3)),(118,rB ((!r12)))] [] (fun _ _=>R) (Zf R (.inl R)),oG [(23,.full ([(YAD.mk [97,117,116,104,111,114] b)].map YAD.row)),(118,rB ((!r12)))] [] (fun _ _=>R) (Zf R (.inl R)),oG [(2,rI (i)),(118,rB ((!r12)))] [] (fun _ _=>R) (Zf R (.inl R)),oH (fun _=>[(118,rB ((!r12))),(125,.whn ((!r12) == false) (rI (i)))]) (fun _=>[]) (fun _ _=>R) (fun G1 e h' n=>YBb (r:=.r (.str r13)) (caps:=[]) (bs:=[rI (i)]) R (.inl R) R ⟨⟨_,(.inr ⟨_,(by exact id),R⟩),.d R⟩,Zb⟩ (fun hg=>YMq (gdt er13 hg)) R),oG [(118,rB ((!r12))),(126,.whn ((!r12) == false) (.r (.str r13)))] [] (fun _ _=>R) (ZD R YOs (q:=[(0,_),(1,_)]) (by exact ⟨R,R,R,(.inl R),R,R,R,(.inr ⟨_,(by exact id),R⟩),Zb⟩) (cs:=[.r (.str [114,101,112,108,121]),.r (.str r13)]) (by rfl)),Ob.makeGF (c:=((!r12) == false)) (id:=128) R (by intro d h; cases h; rfl) R (fun _=>[(118,rB ((!r12))),(127,.whn ((!r12) == false) (.agg [.r (.str [114,101,112,108,121]),.r (.str r13)]))]) (fun _=>[(128,none)]) (fun D G1 hr=>⟨YJD hr 10 R R (by kernel_rfl) R R,YJD hr 19 R R (by kernel_rfl) R R,Zb⟩) (fun D G1 hr=>⟨YF6 R R,Zb⟩) (fun _ _=>R) (fun _ _=>(.one R R R)) (fun _ _=>R) (fun G1 e h' n=>YXo 128 R YBs (f:=YAD.row) (l:=([(YAD.mk [114,101,112,108,121] r13)]:List YAD)) ⟨R,⟨_,(.inr ⟨_,(by exact id),R⟩),R⟩,Zb⟩ R (fun _=>R) R),Ob.makeGF (c:=((!r12) == false)) (id:=129) R (by intro d h; cases h; rfl) R (fun _=>[(118,rB ((!r12))),(124,.whn ((!r12) == false) (.full ([(YAD.mk [97,117,116,104,111,114] b)].map YAD.row))),(128,.whn ((!r12) == false) (.r (.sl ([(YAD.mk [114,101,112,108,121] r13)].map YAD.row))))]) (fun _=>[(129,none)]) (fun D G1 hr=>⟨YJD hr 10 R R (by kernel_rfl) R R,YJD hr 16 R R (by kernel_rfl) R R,YJD hr 20 R R (by kernel_rfl) R R,Zb⟩) (fun D G1 hr=>⟨YF6 R R,Zb⟩) (fun _ _=>R) (fun _ _=>(.one R R R)) (fun _ _=>R) (fun G1 e h' n=>YPN 129 (f:=YAD.row) R YBs (.inr ⟨_,(by exact id),R⟩) (.inr ⟨_,(by exact id),R⟩) (fun _=>R) (gdt el1)),oG [(4,.r (.str j)),(118,rB ((!r12)))] [] (fun _ _=>R) (Zf R (.inl R)),oG [(5,rI (s)),(118,rB ((!r12)))] [] (fun _ _=>R) (Zf R (.inl R)),Zb⟩) fun G1 n1=>?_
     refine aGo [2,3,4,5,6,7,13,14,15,16,17,18,21,22,23,104,105,106,107,108,109,110,111,112,113,114,115,116,117,118,119,120,121,122,123,124,125,126,127,128,129,130,131] [6,7] ?_
     refine Ze h18 fun r14 er14 h19=>vL (fun hg=>YOh (gdt er14 hg)) R (vQ R (Zz R (iR R)) (sQ R (Zr R iL (iR R)) (aZ (c21 _ (cI R h19 (fun h20=>?_) fun h20=>?_)))))
     ·refine aT fun c22=>(aF [] ?_)
      exact aR (mA R (aZ (c22 _ (Zd (Y2_ h20 iL (.t (.d R)))))))
     refine Zc (c20 _ (aT fun c23=>(aT fun c24=>(aG [6,7,13,14,15,16,18] [6,7] ?_))))
     refine aR (mM R (sQ R (Zh R iL iL) (aZ (c24 _ (cI R h20 (fun h21=>?_) fun h21=>?_)))))
     ·refine aT fun c25=>?_
      refine ZI hmix (by kernel_rfl) ?_
      refine qP R (fB R YBG iL fR R) (qP R (Zi (a:=qe d1.Nodes) R YD0 iL R R) (qP R (Zn R YDZ iL R R) (qP R (fB R YJg iL fR R) (qP R (Zi (a:=rI (s1.Node)) R ts_3 iL R R) (Ze h21 fun r15 er15 h22=>AQ.stepC R R R (r:=rI (r15)) (caps:=[]) (bs:=[.agg [qe d1.Nodes],rI (s1.Node)]) R iL R ⟨⟨_,iL,.g (cs:=[.sl (d1.Nodes.map YAR.row)]) R R⟩,⟨_,iL,.d R⟩,Zb⟩ (fun _=>YGG (er15)) R (Ze h22 fun x3 ex3 h23=>(qP R (Zp R YDH.slice iL iL (fun _=>R) (fun _=>ex3)) (qP R (Zm R YC0 iL) (qP R (ZA (d:=.sl (x3.Flow.map YAB.row)) R YDy iL R) (qP R (YCI R iL) (AQ.nil (c25 _ (aT fun c26=>(aG [7,13,14,24] [7] ?_))))))))))))))
      refine Ze h23 fun x4 ex4 h24=>(Ze h24 fun l2 el2 h25=>(Ze h25 fun l3 el3 h26=>(Ze h26 fun l4 el4 h27=>?_)))
      refine AW.regionP 12 [pO 146 (qb x3.Flow),pO 147 (rI ((x3.Flow.length:Int))),pO 148 (rI (x4)),⟨some 149,(fun G2=>.own 149 (G2 3)),some (149,(fun G2=>some (.arr (G2 3) 55 1 (l2.map (rSl YAB.row))))),[3]⟩,pO 150 (qb x3.Flow),pO 151 (rI ((x3.Flow.length:Int))),⟨some 152,(fun G2=>.own 152 (G2 6)),some (152,(fun G2=>some (.arr (G2 6) 4 1 (l3.map YNv)))),[6]⟩,pO 153 (qb x3.Flow),pO 154 (rI ((x3.Flow.length:Int))),⟨some 155,(fun G2=>.own 155 (G2 9)),some (155,(fun G2=>some (.arr (G2 9) 37 1 (l4.map (rSl YAD.row))))),[9]⟩,⟨some 156,(fun G2=>.agg [.own 149 (G2 3),.own 152 (G2 6),.own 155 (G2 9)]),none,[3,6,9]⟩,⟨some 25,(fun G2=>.ptr 25 (G2 11) 0 0),some (25,(fun G2=>some (.box (G2 11) 34 z12_))),[11]⟩] hmix (by kernel_rfl) (by exact ⟨fun _ _ h=>⟨R,fun _ _ e=>by cases e⟩,fun _ _ h=>⟨R,fun _ _ e=>by cases e⟩,fun _ _ h=>⟨R,fun _ _ e=>by cases e⟩,fun _ _ h=>⟨by simp only [h 3 R],fun _ _ e=>by cases e; simp only [h 3 R]⟩,fun _ _ h=>⟨R,fun _ _ e=>by cases e⟩,fun _ _ h=>⟨R,fun _ _ e=>by cases e⟩,fun _ _ h=>⟨by simp only [h 6 R],fun _ _ e=>by cases e; simp only [h 6 R]⟩,fun _ _ h=>⟨R,fun _ _ e=>by cases e⟩,fun _ _ h=>⟨R,fun _ _ e=>by cases e⟩,fun _ _ h=>⟨by simp only [h 9 R],fun _ _ e=>by cases e; simp only [h 9 R]⟩,fun _ _ h=>⟨by simp only [h 3 R,h 6 R,h 9 R],fun _ _ e=>by cases e⟩,fun _ _ h=>⟨by simp only [h 11 R],fun _ _ e=>by cases e; simp only [h 11 R]⟩,Zb⟩) R (by exact ⟨oB [(24,qb x3.Flow)] [] (Zf R (.inl R)),oB [(146,qb x3.Flow)] [] (Zq R YAw.slice (.inl R)),oB [(147,rI ((x3.Flow.length:Int)))] [] (Zx R (.inl R) (.inl R) (fun _=>ex4)),oM (fun _=>[(148,rI (x4))]) (fun _=>[]) R (fun G2 e h' n=>YVq 149 R tg_30 (f:=(rSl YAB.row)) (z0:=[]) tr_55 (.inl R) (.inl R) el2),oB [(24,qb x3.Flow)] [] (Zf R (.inl R)),oB [(150,qb x3.Flow)] [] (Zq R YAw.slice (.inl R)),oM (fun _=>[(151,rI ((x3.Flow.length:Int)))]) (fun _=>[]) R (fun G2 e h' n=>YVq 152 R YS9 (f:=YNv) (z0:=false) tr_4 (.inl R) (.inl R) el3),oB [(24,qb x3.Flow)] [] (Zf R (.inl R)),oB [(153,qb x3.Flow)] [] (Zq R YAw.slice (.inl R)),oM (fun _=>[(154,rI ((x3.Flow.length:Int)))]) (fun _=>[]) R (fun G2 e h' n=>YVq 155 R YVG (f:=(rSl YAD.row)) (z0:=[]) tr_37 (.inl R) (.inl R) el4),oC (fun G2=>[(149,.own 149 (G2 3)),(152,.own 152 (G2 6)),(155,.own 155 (G2 9))]) (fun G2=>[(149,some (.arr (G2 3) 55 1 (l2.map (rSl YAB.row)))),(152,some (.arr (G2 6) 4 1 (l3.map YNv))),(155,some (.arr (G2 9) 37 1 (l4.map (rSl YAD.row))))]) (fun G2 e h'=>ZD R tb_34 (q:=[(0,_),(1,_),(2,_)]) (by exact ⟨R,R,R,(.inl R),R,R,R,(.inl R),R,R,R,(.inl R),Zb⟩) (cs:=[.own 149 (G2 3),.own 152 (G2 6),.own 155 (G2 9)]) (by rfl)),oM (fun _=>[]) (fun _=>[]) R (fun G2 e h' n=>ZH (cs:=z12_) 25 R t0_34 R R),Zb⟩) fun G2 n2=>?_
      refine aGo [7,13,14,24,25,146,147,148,149,150,151,152,153,154,155,156] [7,25,149,152,155] ?_
      refine Zv R R (Zs (ds:=[.own 149 (G2 3),.own 152 (G2 6),.own 155 (G2 9)]) R tz_34 iL R iL R R R R) (aZ (c26 _ (aS fun K27 c27 wK27=>(aT fun c28=>(aG [7,13,14,24,25] [7,25,149,152,155] ?_)))))
      refine Ze h27 fun r16 er16 h28=>(Ze h28 fun l5 el5 h29=>?_)
      refine rP 9 [pO 157 (qb x3.Flow),pO 158 (.r (.sl (r16.map (rInt .i64)))),pO 159 (.ptr 7 (n0+1) 0 1),pO 160 (rI (s1.From)),pO 161 (.ptr 7 (n0+1) 0 2),pO 162 (rI (s1.To)),pO 163 (.r (.sl (l5.map (rInt .i64)))),pO 164 (rI ((l5.length:Int))),pO 165 (rI (0))] hmix R (by exact ⟨oB [(24,qb x3.Flow)] [] (Zf R (.inl R)),oD (fun _=>[(157,qb x3.Flow)]) (fun _=>[]) (fun G3 e h' n=>YBX (r:=.r (.sl (r16.map (rInt .i64)))) (caps:=[]) (bs:=[qb x3.Flow,rI (0)]) R (.inl R) R ⟨.inl ⟨(.inl R),R⟩,.inl ⟨(.inl R),R⟩,Zb⟩ (fun _=>YKx (er16))),oB [(7,.ptr 7 (n0+1) 0 0)] [(7,some (.box (n0+1) 45 (k28_ s1)))] (fB R YHT (.inl R) (fun _=>R) R),oB [(159,.ptr 7 (n0+1) 0 1)] [(7,some (.box (n0+1) 45 (k28_ s1)))] (Zi (a:=rI (s1.From)) R ts_3 (.inl R) R R),oB [(7,.ptr 7 (n0+1) 0 0)] [(7,some (.box (n0+1) 45 (k28_ s1)))] (fB R YHS (.inl R) (fun _=>R) R),oB [(161,.ptr 7 (n0+1) 0 2)] [(7,some (.box (n0+1) 45 (k28_ s1)))] (Zi (a:=rI (s1.To)) R ts_3 (.inl R) R R),oB [(158,.r (.sl (r16.map (rInt .i64)))),(160,rI (s1.From)),(162,rI (s1.To))] [] (YN6 R YC3.slice (.inl R) (by exact ⟨_,(.inl R)⟩) (by exact ⟨_,(.inl R)⟩) (fun _=>R) (fun _=>el5)),oB [(163,.r (.sl (l5.map (rInt .i64))))] [] (Zq R YC3.slice (.inl R)),oB [] [] (Zf R (.inl R)),Zb⟩) fun G3 n3=>?_
      refine aGo [7,13,14,24,25,157,158,159,160,161,162,163,164,165] [7,25,149,152,155] ?_
      refine aZ (c28 _ (Zg (jb1k h29 fun o1 hit1 hk5=>?_)))
      have J5 : ∀ (x11:YAq) (i9:Nat→Nat),o1=x11→K27 ⟨[(7,.ptr 7 (n0+1) 0 0),(13,qg r2),(25,.ptr 25 (G2 11) 0 0)],[(7,some (.box (n0+1) 45 (k28_ s1))),(25,some (.box (G2 11) 34 [.own 149 (i9 0),.own 152 (i9 1),.own 155 (i9 2)])),(149,some (.arr (i9 0) 55 1 (x11.Adds.map (rSl YAB.row)))),(152,some (.arr (i9 1) 4 1 (x11.Cuts.map YNv))),(155,some (.arr (i9 2) 37 1 (x11.Attrs.map (rSl YAD.row))))],(i9 3),199⟩:=by
       intro x11 i9 e
       have h30:=hk5 _ e
       refine c27 _ (aS fun K29 c29 wK29=>?_)
       refine AW.weak (by exact Weak.frz (e':=[(7,.ptr 7 (n0+1) 0 0),(13,qg r2),(25,.ptr 25 (G2 11) 0 0)]) (h':=[(7,some (.box (n0+1) 45 (k28_ s1))),(25,some (.box (G2 11) 34 [.r (.sl (x11.Adds.map (rSl YAB.row))),.own 152 (i9 1),.own 155 (i9 2)])),(152,some (.arr (i9 1) 4 1 (x11.Cuts.map YNv))),(155,some (.arr (i9 2) 37 1 (x11.Attrs.map (rSl YAD.row))))]) 149 R ⟨jL,jL,jL,Zb⟩ ⟨R,.inl R,R,.inr (.inr (.inl ⟨_,_,_,_,R,R,⟨.inr (.inr ⟨R,R⟩),.inl R,.inl R,Zb⟩⟩)),R,.inl R,R,.inl R,Zb⟩) ?_
       refine AW.weak (by exact Weak.frz (e':=[(7,.ptr 7 (n0+1) 0 0),(13,qg r2),(25,.ptr 25 (G2 11) 0 0)]) (h':=[(7,some (.box (n0+1) 45 (k28_ s1))),(25,some (.box (G2 11) 34 [.r (.sl (x11.Adds.map (rSl YAB.row))),.r (.sl (x11.Cuts.map YNv)),.own 155 (i9 2)])),(155,some (.arr (i9 2) 37 1 (x11.Attrs.map (rSl YAD.row))))]) 152 R ⟨jL,jL,jL,Zb⟩ ⟨R,.inl R,R,.inr (.inr (.inl ⟨_,_,_,_,R,R,⟨.inl R,.inr (.inr ⟨R,R⟩),.inl R,Zb⟩⟩)),R,.inl R,Zb⟩) ?_
       refine AW.weak (by exact Weak.frz (e':=[(7,.ptr 7 (n0+1) 0 0),(13,qg r2),(25,.ptr 25 (G2 11) 0 0)]) (h':=[(7,some (.box (n0+1) 45 (k28_ s1))),(25,some (.box (G2 11) 34 (k10_ x11)))]) 155 R ⟨jL,jL,jL,Zb⟩ ⟨R,.inl R,R,.inr (.inr (.inl ⟨_,_,_,_,R,R,⟨.inl R,.inl R,.inr (.inr ⟨R,R⟩),Zb⟩⟩)),Zb⟩) ?_
       refine Ze h30 fun x12 ex12 h31=>(Ze h31 fun r17 er17 h32=>?_)
       refine rP 12 [pO 178 (qg r2),pO 179 (rI ((r2.length:Int))),pO 180 (rB ((decide ((r2.length:Int)=3)))),pO 181 (rB ((decide ((r2.length:Int)=3)))),pO 182 (.whn ((decide ((r2.length:Int)=3)) == true) (qg r2)),pO 183 (.whn ((decide ((r2.length:Int)=3)) == true) (.rop (GOp.row x12) 0)),pO 184 (.whn ((decide ((r2.length:Int)=3)) == true) (.agg (k1_ x12))),pO 185 (.whn ((decide ((r2.length:Int)=3)) == true) (.ptr 7 (n0+1) 0 0)),pO 186 (.whn ((decide ((r2.length:Int)=3)) == true) (rI (s1.Node))),pO 187 (.whn ((decide ((r2.length:Int)=3)) == true) (.agg (k10_ x11))),pO 188 (.whn ((decide ((r2.length:Int)=3)) == true) (qh r17)),pO 189 (.whn ((decide ((r2.length:Int)=3)) == true) (.agg [rI (2),rI (s1.Node),rI (0),rI (0),cZ,cZ,rI (0),rI (0),cZ,cZ,cZ,cZ,qh r17,cZ,cZ,cZ,cZ,cZ,cZ]))] hmix R (by exact ⟨oB [(13,qg r2)] [] (Zf R (.inl R)),oB [(178,qg r2)] [] (Zq R YHH.slice (.inl R)),oB [(179,rI ((r2.length:Int)))] [] (Zh R (.inl R) (.inl R)),oB [(180,rB ((decide ((r2.length:Int)=3))))] [] (Zf R (.inl R)),oG [(13,qg r2),(181,rB ((decide ((r2.length:Int)=3))))] [] (fun _ _=>R) (Zf R (.inl R)),oG [(181,rB ((decide ((r2.length:Int)=3)))),(182,.whn ((decide ((r2.length:Int)=3)) == true) (qg r2))] [] (fun _ _=>R) (Zp R YHH.slice (.inr ⟨_,(by exact id),R⟩) (.inl R) (fun _=>R) (gdt ex12)),oG [(181,rB ((decide ((r2.length:Int)=3)))),(183,.whn ((decide ((r2.length:Int)=3)) == true) (.rop (GOp.row x12) 0))] [] (fun _ _=>R) (Zy (cs:=(k1_ x12)) R YTP (.inr ⟨_,(by exact id),R⟩) R R),oG [(7,.ptr 7 (n0+1) 0 0),(181,rB ((decide ((r2.length:Int)=3))))] [(7,some (.box (n0+1) 45 (k28_ s1)))] (fun _ _=>R) (fB R YJg (.inl R) (fun _=>R) R),oG [(181,rB ((decide ((r2.length:Int)=3)))),(185,.whn ((decide ((r2.length:Int)=3)) == true) (.ptr 7 (n0+1) 0 0))] [(7,some (.box (n0+1) 45 (k28_ s1)))] (fun _ _=>R) (Zi (a:=rI (s1.Node)) R ts_3 (.inr ⟨_,(by exact id),R⟩) R R),oG [(25,.ptr 25 (G2 11) 0 0),(181,rB ((decide ((r2.length:Int)=3))))] [(25,some (.box (G2 11) 34 (k10_ x11)))] (fun _ _=>R) (Zn R ta_34 (.inl R) R R),oH (fun _=>[(181,rB ((decide ((r2.length:Int)=3)))),(187,.whn ((decide ((r2.length:Int)=3)) == true) (.agg (k10_ x11)))]) (fun _=>[]) (fun _ _=>R) (fun G4 e h' n=>YBX (r:=qh r17) (caps:=[]) (bs:=(k9_ x11)) R (.inl R) R ⟨.inl ⟨(.inr ⟨_,(by exact id),R⟩),R⟩,Zb⟩ (fun hg=>YNa (gdt er17 hg))),oG [(181,rB ((decide ((r2.length:Int)=3)))),(186,.whn ((decide ((r2.length:Int)=3)) == true) (rI (s1.Node))),(188,.whn ((decide ((r2.length:Int)=3)) == true) (qh r17))] [] (fun _ _=>R) (ZD R YMR (q:=[(0,_),(1,_),(12,_)]) (by exact ⟨R,R,R,(.inl R),R,R,R,(.inr ⟨_,(by exact id),R⟩),R,R,R,(.inr ⟨_,(by exact id),R⟩),Zb⟩) (cs:=[rI (2),rI (s1.Node),rI (0),rI (0),cZ,cZ,rI (0),rI (0),cZ,cZ,cZ,cZ,qh r17,cZ,cZ,cZ,cZ,cZ,cZ]) (by rfl)),Zb⟩) fun G4 n4=>?_
       refine aGo [7,13,25,178,179,180,181,182,183,184,185,186,187,188,189] [7,25] ?_
       refine jb1k h32 fun p7 hp5 hk6=>?_
       have J6 : ∀ (x13:Bool) (i10:Nat→Nat),p7=x13→K29 ⟨[(12,rB (x13))],[],(i10 0),199⟩:=by
        intro x13 i10 e
        have h33:=hk6 _ e
        exact c29 _ (Zd (Y2_ h33 iL (.t (.d R))))
       refine AOps.split ((decide ((r2.length:Int)=3)) == true) (fun hg1=>?_) (fun hg1=>?_)
       ·have h34:=YDO hg1 hp5
        refine AOps.weak (by exact Weak.unw2 (e':=[(7,.ptr 7 (n0+1) 0 0),(13,qg r2),(25,.ptr 25 (G2 11) 0 0),(178,qg r2),(179,rI ((r2.length:Int))),(180,rB ((decide ((r2.length:Int)=3)))),(181,rB ((decide ((r2.length:Int)=3)))),(182,qg r2),(183,.rop (GOp.row x12) 0),(184,.agg (k1_ x12)),(185,.ptr 7 (n0+1) 0 0),(186,rI (s1.Node)),(187,.agg (k10_ x11)),(188,qh r17),(189,.agg [rI (2),rI (s1.Node),rI (0),rI (0),cZ,cZ,rI (0),rI (0),cZ,cZ,cZ,cZ,qh r17,cZ,cZ,cZ,cZ,cZ,cZ])]) hg1 ⟨.inl R,.inl R,.inl R,.inl R,.inl R,.inl R,.inl R,.inr iL,.inr iL,.inr iL,.inr iL,.inr iL,.inr iL,.inr iL,.inr iL,Zb⟩) ?_
        refine AOps.weak (by exact ZK (e':=[(7,.ptr 7 (n0+1) 0 0),(13,qg r2),(25,.ptr 25 (G2 11) 0 0),(178,qg r2),(179,rI ((r2.length:Int))),(180,rB ((decide ((r2.length:Int)=3)))),(181,rB ((decide ((r2.length:Int)=3)))),(182,qg r2),(183,.rop (GOp.row x12) 0),(184,.agg (k1_ x12)),(185,.ptr 7 (n0+1) 0 0),(186,rI (s1.Node)),(187,.agg (k10_ x11)),(188,qh r17),(189,.agg [rI (2),rI (s1.Node),rI (0),rI (0),.r (.sl []),.r (.sl []),rI (0),rI (0),.r (.sl []),.r (.sl []),.r (.sl []),.r (.sl []),qh r17,.r (.sl []),.r (.sl []),.r (.sl []),.r (.sl []),.r (.sl []),.r (.sl [])])]) (h':=[(7,some (.box (n0+1) 45 (k28_ s1))),(25,some (.box (G2 11) 34 (k10_ x11)))]) ⟨jL,jL,jL,jL,jL,jL,jL,jL,jL,jL,jL,jL,jL,jL,.inr ⟨_,_,R,R,⟨.inl R,.inl R,.inl R,.inl R,.inr (.inr ⟨R,R⟩),.inr (.inr ⟨R,R⟩),.inl R,.inl R,.inr (.inr ⟨R,R⟩),.inr (.inr ⟨R,R⟩),.inr (.inr ⟨R,R⟩),.inr (.inr ⟨R,R⟩),.inl R,.inr (.inr ⟨R,R⟩),.inr (.inr ⟨R,R⟩),.inr (.inr ⟨R,R⟩),.inr (.inr ⟨R,R⟩),.inr (.inr ⟨R,R⟩),.inr (.inr ⟨R,R⟩),Zb⟩⟩,Zb⟩ ⟨.inl R,.inl R,Zb⟩ nL) ?_
        exact Ze h34 fun r18 er18 h35=>AOps.stepGT (.one R R R) hg1 R R (YBb (r:=rB (r18)) (caps:=[]) (bs:=[.agg (k1_ x12),.agg [rI (2),rI (s1.Node),rI (0),rI (0),.r (.sl []),.r (.sl []),rI (0),rI (0),.r (.sl []),.r (.sl []),.r (.sl []),.r (.sl []),qh r17,.r (.sl []),.r (.sl []),.r (.sl []),.r (.sl []),.r (.sl []),.r (.sl [])]]) R (.inl R) R ⟨⟨_,(.inl R),.g (cs:=[.int .i64 x12.Kind,.int .i64 x12.Node,.int .i64 x12.New.ID,.int .i64 x12.New.Kind,.sl (x12.New.Attrs.map YAD.row),.sl (x12.New.Flow.map YAB.row),.int .i64 x12.New.Grid.Rows,.int .i64 x12.New.Grid.Cols,.sl (x12.New.Grid.Cells.map YAd.row),.sl (x12.New.Grid.Merges.map YAW.row),.sl (x12.New.Draw.map YAP.row),.sl (x12.Attrs.map YAD.row),.sl (x12.Steps.map YAC.row),.sl (x12.Grid.Rows.map YAf.row),.sl (x12.Grid.Cols.map YAf.row),.sl (x12.Grid.Cells.map YAd.row),.sl (x12.Grid.Split.map YAW.row),.sl (x12.Grid.Merge.map YAW.row),.sl (x12.Draw.map YAP.row)]) R R⟩,⟨_,(.inl R),.g (cs:=[.int .i64 2,.int .i64 s1.Node,.int .i64 0,.int .i64 0,.sl ([].map YAD.row),.sl ([].map YAB.row),.int .i64 0,.int .i64 0,.sl ([].map YAd.row),.sl ([].map YAW.row),.sl ([].map YAP.row),.sl ([].map YAD.row),.sl (r17.map YAC.row),.sl ([].map YAf.row),.sl ([].map YAf.row),.sl ([].map YAd.row),.sl ([].map YAW.row),.sl ([].map YAW.row),.sl ([].map YAP.row)]) R R⟩,Zb⟩ (fun _=>YF0 (er18)) R) (sQ R (Zj R iL iL) (mA R (Zk (wK29 _ _ wk (J6 _ (vec [n4]) (Za h35).symm)))))
       ·have h34:=YDP hg1 hp5
        exact AOps.stepGF2 (.one R R R) hg1 R R (sQ R (Zj R iL (iR R)) (mA R (Zk (wK29 _ _ wk (J6 _ (vec [n4]) (Za h34).symm)))))
      refine AW.iter2 (fun (x7:Int) (x8:YAq) i7=>⟨[(7,.ptr 7 (n0+1) 0 0),(13,qg r2),(14,rI (r3)),(25,.ptr 25 (G2 11) 0 0),(163,.r (.sl (l5.map (rInt .i64)))),(164,rI ((l5.length:Int))),(165,rI (x7))],[(7,some (.box (n0+1) 45 (k28_ s1))),(25,some (.box (G2 11) 34 [.own 149 (i7 0),.own 152 (i7 1),.own 155 (i7 2)])),(149,some (.arr (i7 0) 55 1 (x8.Adds.map (rSl YAB.row)))),(152,some (.arr (i7 1) 4 1 (x8.Cuts.map YNv))),(155,some (.arr (i7 2) 37 1 (x8.Attrs.map (rSl YAD.row))))],(i7 3),199⟩) (vec [(G2 3),(G2 6),(G2 9),n3]) hit1 wk ?_
      intro x7 x8 i7 v1 hv1 hx1
      have h36:YAp r3 l5 x7 x8=some v1:=hv1; unfold YAp at h36
      refine aU (sQ R (Zo R iL iL) (aZ (aT fun c31=>(cI R h36 (fun h37=>?_) fun h37=>?_))))
      ·refine Zc (c31 _ (aT fun c32=>(Zg (aU (Ze h37 fun x14 ex14 h38=>(sQ R (Zp R YC3.slice iL iL (fun _=>R) (fun _=>ex14)) (sQ R (ZA (d:=.int .i64 x14) R ts_3 iL R) (mA R (aZ (Ze h38 fun r19 er19 h39=>(Ze h39 fun s2 es2 h40=>(Ze h40 fun r20 er20 h41=>?_))))))))))))
       refine rP 7 [pO 169 (.ptr 25 (G2 11) 0 2),pO 170 (.own 155 (i7 2)),pO 171 (rI (x14)),pO 172 (rI (r3)),pO 173 (.r (.str r19)),pO 174 (.r (.str s2)),pO 175 (qa r20)] hmix R (by exact ⟨oB [(25,.ptr 25 (G2 11) 0 0)] [(25,some (.box (G2 11) 34 [.own 149 (i7 0),.own 152 (i7 1),.own 155 (i7 2)]))] (fB R YQB (.inl R) (fun _=>R) R),oB [(169,.ptr 25 (G2 11) 0 2)] [(25,some (.box (G2 11) 34 [.own 149 (i7 0),.own 152 (i7 1),.own 155 (i7 2)]))] (Zi (a:=.own 155 (i7 2)) R YXI (.inl R) R R),oB [(27,rI (x14))] [] (Zf R (.inl R)),oB [(14,rI (r3))] [] (Zf R (.inl R)),oD (fun _=>[(172,rI (r3))]) (fun _=>[]) (fun G5 e h' n=>YBb (r:=.r (.str r19)) (caps:=[]) (bs:=[rI (r3)]) R (.inl R) R ⟨⟨_,(.inl R),.d R⟩,Zb⟩ (fun _=>YMq (er19)) R),oB [(173,.r (.str r19))] [] (YN7 R (.inl R) (.inl R) (fun _=>es2)),oD (fun _=>[(174,.r (.str s2))]) (fun _=>[]) (fun G5 e h' n=>YBX (r:=qa r20) (caps:=[]) (bs:=[.r (.str s2)]) R (.inl R) R ⟨.inl ⟨(.inl R),R⟩,Zb⟩ (fun _=>YQ8 (er20))),Zb⟩) fun G5 n5=>?_
       refine aGo [7,13,14,25,27,163,164,165,166,167,168,169,170,171,172,173,174,175] [7,25,149,152,155] ?_
       refine Ze h41 fun x15 ex15 h42=>(sQ R (YCw R YVG.slice iL R iL (fun _=>ex15)) (Zv R R (YN5 (v:=r20) R tz_37 iL R ex15 iL R R R R) (aZ (c32 _ (aG [7,13,14,25,163,164,165] [7,25,149,152,155] ?_)))))
       exact aR (Ze h42 fun x16 ex16 h43=>(sQ R (Zx R iL iL (fun _=>ex16)) (mM R (Zk (YDV.mk h43 (vec [(i7 0),(i7 1),(i7 2),n5]) wk)))))
      exact Zw (wK27 _ _ wk (J5 _ (vec [(i7 0),(i7 1),(i7 2),(i7 3)]) (hx1 _ (Za h37).symm)))
     exact Zc (c23 _ (aU (mM R (sQ R (Zu R iL iL) (mM R (vM R (vQ R (Zq R YHH.slice (iR R)) (vQ R (Zh R (iR R) iL) (sQ R (Zr R iL (iR R)) (mA R (aZ (Zd (Y2_ h21 iL (.t (.d R)))))))))))))))
    refine AOps.split ((!decide (r9=q3)) == false) (fun hg2=>?_) (fun hg2=>?_)
    ·have h44:=YDO hg2 hp4
     refine AOps.weak (by exact Weak.unw2 (e':=[(2,rI (i)),(3,.r (.str b)),(4,.r (.str j)),(5,rI (s)),(6,.ptr 6 n0 0 0),(7,.ptr 7 (n0+1) 0 0),(13,qg r2),(14,rI (r3)),(15,rI (r4)),(16,qg r5),(17,rI (r6)),(18,rI (r7)),(19,qg r8),(20,rI (r9)),(21,rI (p2)),(22,rI (q3)),(91,rI (r9)),(92,rI (q3)),(93,rB ((!decide (r9=q3)))),(94,rB ((!decide (r9=q3)))),(95,rI (q3)),(96,rB ((decide (q3=0)))),(97,qg r8),(98,rI (i))]) hg2 ⟨.inl R,.inl R,.inl R,.inl R,.inl R,.inl R,.inl R,.inl R,.inl R,.inl R,.inl R,.inl R,.inl R,.inl R,.inl R,.inl R,.inl R,.inl R,.inl R,.inl R,.inr iL,.inr iL,.inr iL,.inr iL,Zb⟩) ?_
     refine Ze h44 fun r21 er21 h45=>AOps.stepGT (.one R R R) hg2 R R (YBX (r:=qa r21) (caps:=[]) (bs:=[.r (.str [100,111,110,101])]) R (.inl R) R ⟨.inl ⟨(.inl R),R⟩,Zb⟩ (fun _=>YQ8 (er21))) ?_
     refine AOps.stepGT (.one R R R) hg2 R R (OpQ.spec (ZD R YMR (q:=[(0,_),(1,_),(11,_)]) (by exact ⟨R,R,R,(.inl R),R,R,R,(.inl R),R,R,R,(.inl R),Zb⟩) (cs:=[rI (1),rI (i),rI (0),rI (0),cZ,cZ,rI (0),rI (0),cZ,cZ,cZ,qa r21,cZ,cZ,cZ,cZ,cZ,cZ,cZ]) (by rfl)) _) ?_
     exact AOps.stepGT (.one R R R) hg2 R R (YA6 101 R YHH (f:=GOp.row) (l:=([(GOp.mk 1 i (YAR.mk 0 0 [] [] (YAy.mk 0 0 [] []) []) r21 [] (YAY.mk [] [] [] [] []) [])]:List GOp)) ⟨R,⟨_,(.inl R),R⟩,Zb⟩ R (fun _=>R) R) (Ze h45 fun r22 er22 h46=>AOps.stepGT (.one R R R) hg2 R R (YBb (r:=rB (r22)) (caps:=[]) (bs:=[qg r8,.r (.sl ([(GOp.mk 1 i (YAR.mk 0 0 [] [] (YAy.mk 0 0 [] []) []) r21 [] (YAY.mk [] [] [] [] []) [])].map GOp.row))]) R (.inl R) R ⟨⟨_,(.inl R),.d R⟩,⟨_,(.inl R),.one (.own R)⟩,Zb⟩ (fun _=>YKT (er22)) R) (AOps.stepGT (.one R R R) hg2 R R (OpQ.spec (YQN R Tryz.underlying4 (.inl R) (.inl R)) _) (sQ R (Zr R iL iL) (Zk (wK17 _ _ wk (J4 _ (vec [((i3 0)+1)]) (Za h46).symm))))))
    ·have h44:=YDP hg2 hp4
     exact AOps.stepGF2 (.one R R R) hg2 R R (AOps.stepGF2 (.one R R R) hg2 R R (AOps.stepGF2 (.one R R R) hg2 R R (AOps.stepGF2 (.one R R R) hg2 R R (AOps.stepGF2 (.one R R R) hg2 R R (sQ R (Zr R iL (iR R)) (Zk (wK17 _ _ wk (J4 _ (vec [(i3 0)]) (Za h44).symm))))))))
   refine aC R (fun hc6=>?_) (fun hc6=>?_)
   ·have h47:=YDO hc6 hp3
    refine aG [2,3,4,5,6,7,13,14,15,16,17,18,19,20,21] [6,7] ?_
    exact aR (mA R (Zk (wK14 _ _ wk (J3 _ (vec [(i2 0)]) (Za h47).symm))))
   ·have h47:=YDP hc6 hp3
    exact Zc (wK14 _ _ wk (J3 _ (vec [(i2 0)]) (Za h47).symm))
  refine aC R (fun hc7=>?_) (fun hc7=>?_)
  ·have h48:=YDO hc7 hp2
   refine aG [2,3,4,5,6,7,13,14,15,16,17,18,19,20,21] [6,7] ?_
   exact aR (mA R (Zk (wK12 _ _ wk (J2 _ (vec [(i1 0)]) (Za h48).symm))))
  ·have h48:=YDP hc7 hp2
   exact Zc (wK12 _ _ wk (J2 _ (vec [(i1 0)]) (Za h48).symm))
 refine aC R (fun hc8=>?_) (fun hc8=>?_)
 ·have h49:=YDO hc8 hp1
  refine aG [2,3,4,5,6,7,13,14,15,16,17,18,19,20] [6,7] ?_
  exact aR (mA R (Zk (wK9 _ _ wk (J1 _ (vec [(n0+2)]) (Za h49).symm))))
 ·have h49:=YDP hc8 hp1
  exact Zc (wK9 _ _ wk (J1 _ (vec [(n0+2)]) (Za h49).symm))
end Go.Proofs.YtkefchjpggjibaaGreatDoor.Al
