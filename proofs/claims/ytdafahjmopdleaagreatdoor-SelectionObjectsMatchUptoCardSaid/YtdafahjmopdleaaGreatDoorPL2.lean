/- Plain laws over the models, a part of them. -/
import Derived.Test.YtdafahjmopdleaaGreatDoorPL1
set_option linter.all false
namespace Go.Proofs.YtdafahjmopdleaaGreatDoor.Al
theorem uq{s s':AI}{rest}{u n}{p}(q:s.Kind≠1)(h:Fx ⟨s::rest,u⟩ n=some (s',p)):s'.N=n:=by
 unfold Fx at h
 dsimp only at h
 change AB (some s) _=_ at h
 rw[AD,ne (by rw[vx];exact q),AD] at h
 cases j:AN .i64 (u+n) with
 | none=>rw[j] at h;cases h
 | some a=>
  rw[j,AD] at h
  cases l:HS s with
  | none=>rw[l] at h;cases h
  | some b=>
   rw[l,AD] at h
   generalize (if(decide (a=b))=true then _ else _:Option BX)=r at h
   cases r with
   | none=>cases h
   | some r=>
    rw[AD] at h
    cases h;rfl
theorem lf{s:AI}{rest}{u:Int}(h:Fu ⟨s::rest,u⟩)(B:s.Kind≠2):RE (CK ⟨s::rest,u⟩)∧0<Bv (CK ⟨s::rest,u⟩):=by
 have w:=h.stp s (v8 ..)
 have J:=HT w.1 w.2
 have C:=h.u0
 have E:=h.fit s rest rfl
 dsimp only at C E
 have A:u.toNat<(BO s).length:=by omega
 have F:∀v∈BO s,FK v=true:=by
  intro v j
  unfold BO at j
  split at j
  ·obtain⟨e,_,rfl⟩:=xd.1 j;rfl
  ·have:=xY j
   subst this
   rw[vy B];rfl
 have e:CK ⟨s::rest,u⟩=(BO s)[u.toNat]::((BO s).drop (u.toNat+1)++Aj rest):=by
  show(BO s).drop u.toNat++Aj rest=_
  rw[xq A,wN]
 have l:=F _ (xw A)
 rw[e]
 constructor
 ·intro t M I
  injection I with q _
  rw[q] at l;cases l
 ·rw[Hy,l,vw rfl];omega
theorem s9(U V:List Un)(p q:BX)(hp:Fu p)(B:Fu q)(ha:CK p=U)(hb:CK q=V)(oa:Dp U)(ob:Dp V)(hc:Bv U=Av V)(ak:U.length≤4294967296)(al:V.length≤4294967296)(I:p.steps.length≤4294967296)(C:q.steps.length≤4294967296) :
  iter (λ(a:Ah × BX × BX)=>Nd a.1 a.2.1 a.2.2) ((Ah.mk [] [] 0),p,q)=some (Co (Ay (Ba U V))):=by
 have key:∃r,iter (λ(a:Ah × BX × BX)=>Nd a.1 a.2.1 a.2.2) ((Ah.mk [] [] 0),p,q)=some r∧r=Co (Ay (Ba U V)):=by
  refine eT (λF=>Fu F.2.1∧Fu F.2.2∧Dp (CK F.2.1)∧Dp (CK F.2.2)∧F.2.1.steps.length≤4294967296∧F.2.2.steps.length≤4294967296∧Bv (CK F.2.1)=Av (CK F.2.2) ∧
   ∃X,F.1=Co (Ay X)∧X++Ba (CK F.2.1) (CK F.2.2)=Ba U V)
   (λF=>(CK F.2.1).length+(CK F.2.2).length) _ ?_ ⟨hp,B,by rw[ha];exact oa,by rw[hb];exact ob,I,C,by rw[ha,hb];exact hc,[],rfl,by rw[ha,hb];rfl⟩
  rintro⟨x,p,q⟩ ⟨hp,B,J,oQ,I,C,hc,X,hx,j⟩
  dsimp only at hp B J oQ I C hc hx j
  subst hx
  have an:X.length≤8589934592:=by
   have A:=ye List.length j
   have M:=ZR U V
   rw[wG] at A
   omega
  have O:∀u∈X,Di u:=λu hu=>fp U V oa ob u (by rw[← j];exact yE _ hu)
  dsimp only
  unfold Nd
  obtain⟨ps,pu⟩:=p
  obtain⟨qs,qu⟩:=q
  match ps,qs with
  | [],[]=>
   refine .inr ?_
   rw[M2,M2]
   simp only[AD]
   refine⟨_,rfl,?_⟩
   have e1:Ba [] []=[]:=by rw[Ba]
   change X++Ba [] []=_ at j
   rw[e1,wS] at j
   rw[j]
  | s::ps,qs=>
   have hs:=hp.stp s (v8 ..)
   have hsz:=HT hs.1 hs.2
   have ac:=hp.u0
   have ad:=hp.fit s ps rfl
   have ao:=Jk hs.1
   dsimp only at ac ad I
   rw[wK] at I
   rw[Mm,AD]
   have a6:decide (0≤s.Kind)=true:=by rw[vx];omega
   rw[a6,show(true==false)=false from rfl,ne (by decide),AD,vw (by decide)]
   refine .inl ?_
   by_cases hk:s.Kind=2
   ·have z1:CF s=s.N:=by unfold CF;rw[ne (by omega)]
    obtain⟨p',s',A,M,E,h4,k1,k2,_⟩:=Hv (n:=CF s-pu) hp (by omega) (by omega) (by omega)
    have hN:=uq (by omega) A
    rw[vw (by rw[vx];exact hk),Hi hp,AD,A,CL,hN]
    rw[PN (by omega) (by omega),vz hk] at E
    rw[E] at j hc J ⊢
    rw[eI,← wJ] at j
    rw[QP,TP] at hc
    rw[T3 O (by omega) (CF s-pu) [] (by omega) (by omega) (λw=>some (Sum.inl (w,p',(⟨qs,qu⟩:BX))))]
    refine⟨_,rfl,⟨M,B,J.app,oQ,by dsimp only;omega,C,by simpa using hc,_,rfl,j⟩,?_⟩
    dsimp only
    rw[wG,ws];omega
   ·rw[ne (by rw[vx];exact hk)]
    have a0:=lf hp hk
    match qs with
    | []=>
     exfalso
     have A:=a0.2
     rw[hc] at A
     exact absurd A (by show ¬ (0<Av []);simp[Av])
    | t::qs=>
     have Y:=B.stp t (v8 ..)
     have ae:=HT Y.1 Y.2
     have a7:=B.u0
     have a8:=B.fit t qs rfl
     have af:=Jk Y.1
     dsimp only at a7 a8 C
     rw[wK] at C
     rw[Mm,AD]
     by_cases l:t.Kind=1
     ·obtain⟨q',t',A,M,E,h4,k1,k2,T⟩:=Hv (n:=CF t-qu) B (by omega) (by omega) (by omega)
      obtain⟨T,k4,k5⟩:=T l
      rw[vw (by rw[vx];exact l),Hi B,AD,A,CL,Mj O (by omega) t'.Elems (by omega) (λe he=>Y.2.ea e (k5 e he)),AD]
      rw[← T] at E
      rw[E] at j hc oQ ⊢
      rw[RK _ _ _ a0.1,← wJ] at j
      rw[Hq,OX,wW] at hc
      refine⟨_,rfl,⟨hp,M,J,oQ.app,by dsimp only [List.length_cons];omega,by dsimp only;omega,hc,_,rfl,j⟩,?_⟩
      dsimp only
      rw[wG,wZ];omega
     ·rw[ne (by rw[vx];exact l),Hi hp,AD,Hi B,AD]
      generalize hn:min (CF s-pu) (CF t-qu)=n
      have aa:1≤n:=by omega
      have ag:n≤CF s-pu:=by omega
      have ah:n≤CF t-qu:=by omega
      have z2:CF t=t.N:=by unfold CF;rw[ne l]
      obtain⟨p',s',A,M,E,h4,k1,k2,T⟩:=Hv (n:=n) hp aa ag (by omega)
      obtain⟨q',t',j1,j2,j3,j4,l1,l2,_⟩:=Hv (n:=n) B aa ah (by omega)
      rw[PN l (by omega)] at j3
      rw[j3] at oQ
      obtain⟨m,hm⟩:∃m,n.toNat=m+1:=⟨n.toNat-1,by omega⟩
      have u2:=oQ (.r (decide (t.Kind=2)) t.Attrs) (by rw[hm,wc];simp)
      dsimp only at u2
      rw[A,CL,j1,CL,k1,l1,k2,l2]
      by_cases h0:s.Kind=0
      ·have z1:CF s=s.N:=by unfold CF;rw[ne (by omega)]
       rw[PN (by omega) (by omega),vy (by omega)] at E
       rw[E] at J
       have u1:=J (.r false s.Attrs) (by rw[hm,wc];simp)
       dsimp only at u1
       have a1:=u1.1 rfl
       rw[E,j3] at j hc ⊢
       rw[cE,← wJ] at j
       rw[QP,TP,Hq,Om] at hc
       have ab:Bv (CK p')=Av (CK q'):=by simp at hc;exact hc
       by_cases g0:t.Kind=0
       ·have Z:decide (t.Kind=2)=false:=by rw[g0];rfl
        have a2:=u2.1 Z
        have lk:=(aH a1 a2 u1.2.2 u2.2.2).2
        rw[Z] at j ⊢
        rw[vz h0,vz g0,vw (by decide),q9 _ _ (by omega),AD,show Bs Fi s.Attrs t.Attrs []=IR s.Attrs t.Attrs from rfl,Ko O (by omega) n _ (by omega) (by omega) lk.1,AD]
        refine⟨_,rfl,⟨M,j2,J.app,oQ.app,by dsimp only;omega,by dsimp only;omega,ab,_,rfl,j⟩,?_⟩
        dsimp only
        rw[wG,wG,ws];omega
       ·have Z:decide (t.Kind=2)=true:=by rw[vx];omega
        rw[Z] at j ⊢
        rw[vz h0,vy g0,ne (by decide),vw (by decide)]
        rw[T3 O (by omega) n [] (by omega) (by omega) (λw=>some (Sum.inl (w,p',q')))]
        refine⟨_,rfl,⟨M,j2,J.app,oQ.app,by dsimp only;omega,by dsimp only;omega,ab,_,rfl,j⟩,?_⟩
        dsimp only
        rw[wG,wG,ws];omega
      ·have ai:s.Kind=1:=by omega
       obtain⟨T,k4,k5⟩:=T ai
       rw[← T] at E
       rw[E] at J
       rw[E,j3] at j hc ⊢
       rw[show n.toNat=s'.Elems.length by omega] at j hc oQ ⊢
       rw[aP,← wJ] at j
       rw[QP,Yv,Hq,Om] at hc
       rw[vy h0]
       by_cases g0:t.Kind=0
       ·have Z:decide (t.Kind=2)=false:=by rw[g0];rfl
        have a2:=u2.1 Z
        rw[Z] at j ⊢
        rw[vz g0,ne (by decide),ne (by decide),vw rfl,rC _ _ (by omega) (λe he=>hs.2.ea e (k5 e he)) (by omega),AD]
        rw[ne (by decide)] at j
        rw[Mj O (by omega) _ (by rw[wZ];omega) (λe he=>by
         obtain⟨e0,aj,rfl⟩:=xd.1 he
         have:=J (.a e0) (yE _ (List.mem_map_of_mem aj))
         exact(Va this.1 this.2 a2 u2.2.2).2),AD]
        refine⟨_,rfl,⟨M,j2,J.app,oQ.app,by dsimp only;omega,by dsimp only;omega,by dsimp only;omega,_,rfl,j⟩,?_⟩
        dsimp only
        rw[wG,wG,ws];omega
       ·have Z:decide (t.Kind=2)=true:=by rw[vx];omega
        rw[Z] at j ⊢
        rw[vy g0,ne (by decide),ne (by decide),ne (by decide)]
        rw[vw rfl,wS] at j
        refine⟨_,rfl,⟨M,j2,J.app,oQ.app,by dsimp only;omega,by dsimp only;omega,by dsimp only;omega,_,rfl,j⟩,?_⟩
        dsimp only
        rw[wG,wG,ws];omega
  | [],t::qs=>
   have Y:=B.stp t (v8 ..)
   have ae:=HT Y.1 Y.2
   have a7:=B.u0
   have a8:=B.fit t qs rfl
   have af:=Jk Y.1
   dsimp only at a7 a8 C
   rw[wK] at C
   rw[M2,AD,show decide ((0:Int) ≤ -1)=false by decide,show(false==false)=true from rfl,vw rfl,Mm,AD,AD]
   have a6:decide (0≤t.Kind)=true:=by rw[vx];omega
   rw[a6,vw (by decide),ne (by decide),AD]
   refine .inl ?_
   by_cases l:t.Kind=1
   ·obtain⟨q',t',A,M,E,h4,k1,k2,T⟩:=Hv (n:=CF t-qu) B (by omega) (by omega) (by omega)
    obtain⟨T,k4,k5⟩:=T l
    rw[vw (by rw[vx];exact l),Hi B,AD,A,CL,Mj O (by omega) t'.Elems (by omega) (λe he=>Y.2.ea e (k5 e he)),AD]
    rw[← T] at E
    rw[E] at j hc oQ ⊢
    rw[RK _ _ _ (show RE (CK ⟨[],pu⟩) from iN),← wJ] at j
    rw[Hq,OX,wW] at hc
    refine⟨_,rfl,⟨hp,M,J,oQ.app,I,by dsimp only;omega,hc,_,rfl,j⟩,?_⟩
    dsimp only
    rw[wG,wZ];omega
   ·exfalso
    have A:=(XZ B l).2
    rw[← hc] at A
    exact absurd A (by show ¬ (0<Bv []);simp[Bv])
 obtain⟨r,A,M⟩:=key
 rw[A,M]
theorem me{d}(h:∀s∈d,Fb s):(Bv (Aj d):Int)=BH d:=by
 induction d with
 | nil=>rfl
 | cons s d j=>
  have l:=j (λx q=>h x (wC _ q))
  have u:=(h s (v8 ..)).kind
  rw[UP,QP,Jq,← l]
  have:(Bv (BO s):Int)=Cu s:=by
   unfold BO Cu
   rcases u with ⟨k,e,w,_,_⟩ | ⟨k,e,_,w,_⟩ | ⟨k,n,_,_,_⟩
   ·rw[ne (by omega),ne (by omega),ne (by omega),vy (by omega),TP];simp;omega
   ·rw[ne (by omega),vw (by omega),vz k,TP];simp
   ·rw[vw k,ne (by omega),vw k,Yv]
  omega
def VN(a b:List AI):List AI × Int:=if CY (BT (Ba (Aj a) (Aj b)))≠0 then([],3) else(BT (Ba (Aj a) (Aj b)),0)
theorem qE a b(B:FS a)(C:FS b)(E:Gu a)(F:Gu b):Nk a b=some (if CY a≠0 then([],CY a) else if CY b≠0 then([],CY b) else
  if A5 b≠BH a then([],14) else VN a b):=by
 unfold Nk
 rw[PU a B,AD]
 by_cases j:CY a≠0
 ·rw[vw (Bb j),vw j]
 have j:=wU.1 j
 rw[ne (CI j),ne (show ¬ (CY a≠0) by simpa using j),PU b C,AD]
 by_cases l:CY b≠0
 ·rw[vw (Bb l),vw l]
 have l:=wU.1 l
 have q:=Nf j
 have u:=Nf l
 rw[ne (CI l),ne (show ¬ (CY b≠0) by simpa using l),TR a B q,TR b C u,CL,CL]
 by_cases w:A5 b≠BH a
 ·rw[vw (Bb w),vw w]
 have w:=wU.1 w
 have O:=Ok q.st
 have T:=Ok u.st
 have U:=me q.st
 have V:=UY u.st
 have I:=Sr q.st E
 have J:=Sr u.st F
 have X:=q.olds
 have g2:=u.olds
 have Y:=E.sum
 have Z:=F.sum
 have n1:=E.len
 have n2:=F.len
 rw[ne (CI w),ne (show ¬ (A5 b≠BH a) by simpa using w)]
 rw[s9 (Aj a) (Aj b) ⟨a,0⟩ ⟨b,0⟩ (RO λs A=>⟨q.st s A,B.st s A⟩) (RO λs A=>⟨u.st s A,C.st s A⟩) (OT a) (OT b) I J (by omega) (by omega) (by omega) (by dsimp only;omega) (by dsimp only;omega),AD]
 have px:=ZR (Aj a) (Aj b)
 have M:=fp _ _ I J
 have lx:=JV M
 have cx:=tg (Aj a) (Aj b)
 have wa:=Sb q.st
 have wb:=Sb u.st
 rw[Q8 M (by omega) (by omega)]
 unfold VN
 split<;>rfl
def Gy(u:Un):Prop:=match u with | .a e=>Bx e=0∧e.Attrs.length≤1048576 | .r c t=>(c=false→Ao t true=0)∧(c=true→t=[])∧t.length≤1048576
theorem Q4{u}(h:Gy u):Di u:=by
 match u,h with
 | .a e,h=>exact⟨h.1,Gc (Ho h.1) (by have:=h.2;omega)⟩
 | .r true t,h=>
  obtain rfl:=h.2.1 rfl
  exact⟨λh=>(by cases h),GM⟩
 | .r false t,h=>exact⟨h.1,Gc (h.1 rfl) (by have:=h.2.2;omega)⟩
def I8(s:DS):List Un:=Aj s.out++s.adds.map Un.a
def Jf(s:DS):Prop:=∀x∈s.out,0≤x.N
theorem Me(s:DS)(h:Jf s):Aj (BP s)=I8 s++List.replicate s.cuts (.r true [])∧∀x∈BP s,0≤x.N:=by
 obtain⟨o,A,c⟩:=s
 unfold BP I8
 dsimp only
 have l:Aj (if 0<A.length then o++[⟨1,0,[],A⟩] else o)=Aj o++A.map Un.a∧∀x∈(if 0<A.length then o++[⟨1,0,[],A⟩] else o),0≤x.N:=by
  by_cases hA:0<A.length
  ·rw[vw hA]
   refine⟨by rw[NG];simp[Aj,BO],λx j=>?_⟩
   rcases wm.1 j with j | j
   ·exact h x j
   ·rw[wq] at j;subst j;exact zU 0
  ·rw[ne hA]
   obtain rfl:A=[]:=xf (by omega)
   exact⟨by simp,h⟩
 by_cases q:0<c
 ·rw[vw q,NG,l.1]
  refine⟨by simp[Aj,BO],λx j=>?_⟩
  rcases wm.1 j with j | j
  ·exact l.2 x j
  ·rw[wq] at j;subst j;exact yi c
 ·rw[ne q,wS]
  obtain rfl:c=0:=by omega
  exact⟨by rw[l.1];simp,l.2⟩
theorem X6:∀(P:List Un) (f:List AG) (X Y:List Un),Av P≤f.length→(∀g:List AG,g.length=f.length-Av P→A8 X g=A8 Y g)→A8 (P++X) f=A8 (P++Y) f
 | [],f,X,Y,_,h=>h f rfl
 | .a e::P,f,X,Y,j,h=>by
  have q:Av (.a e::P)=Av P:=by unfold Av;rw[List.countP_cons_of_neg];simp[Un.isR]
  rw[q] at j h
  rw[wN,wN,A8,A8,X6 P f X Y j h]
 | .r c t::P,f,X,Y,j,h=>by
  have u:Av (.r c t::P)=Av P+1:=by unfold Av;rw[y8];rfl
  rw[u] at j h
  match f,j,h with
  | [],j,_=>simp at j
  | x::f,j,h=>
   have l:=X6 P f X Y (by simp only[wK] at j;omega) (λg hg=>h g (by simp only[wK];omega))
   cases c with
   | true=>rw[wN,wN,A8,A8,l]
   | false=>rw[wN,wN,A8,A8,l]
theorem TN:∀(us:List Un) (s:DS),Jf s→(∀u∈us,Gy u)→∀f:List AG,Av (Aj (BP s))+Av us≤f.length→A8 (Aj (BP (us.foldl dU s))) f=A8 (Aj (BP s)++us) f
 | [],s,_,_,f,_=>by rw[wS];rfl
 | u::us,s,I,M,f,l=>by
  obtain⟨F,O⟩:=Me s I
  have q:Av (u::us)=(if u.isR then 1 else 0)+Av us:=by unfold Av;rw[xT];omega
  have w:=M u (v8 ..)
  have A:∀v∈us,Gy v:=λv T=>M v (wC _ T)
  rw[wh]
  match u,q,w with
  | .a e,q,_=>
   have j:Jf (dU s (.a e)):=I
   obtain⟨B,_⟩:=Me _ j
   have J:I8 (dU s (.a e))=I8 s++[.a e]:=by
    show Aj s.out++(s.adds++[e]).map Un.a=_
    unfold I8
    rw[yX,wJ];rfl
   have C:(dU s (.a e)).cuts=s.cuts:=rfl
   rw[J,C] at B
   have U:∀n,Av (List.replicate n (.r true []))=n:=λn=>by unfold Av;rw[xu];rfl
   have V:Av [Un.a e]=0:=rfl
   rw[TN us _ j A f (by rw[B,Gq,Gq,V];rw[F,Gq,q] at l;simp only[Un.isR] at l;simp at l;omega),B,F]
   rw[wJ,wJ,wJ]
   rw[F,Gq,U] at l
   refine X6 _ _ _ _ (by omega) λg hg=>?_
   rw[zO,A8,WN _ _ _ _ (by omega),WN _ _ _ _ (by omega),A8]
  | .r true t,q,w=>
   obtain rfl:=w.2.1 rfl
   have j:Jf (dU s (.r true [])):=I
   obtain⟨B,_⟩:=Me _ j
   have E:Aj (BP (dU s (.r true [])))=Aj (BP s)++[.r true []]:=by
    rw[B,F]
    show I8 s++List.replicate (s.cuts+1) _=_
    rw[yr,wJ]
   rw[TN us _ j A f (by rw[E,Gq];rw[q] at l;show _+1+_≤_;simp only[Un.isR,xm] at l;omega),E,wJ];rfl
  | .r false t,q,_=>
   obtain⟨X,Y⟩:=Vh t O
   have j:Jf (dU s (.r false t)):=Y
   have E:Aj (BP (dU s (.r false t)))=Aj (BP s)++[.r false t]:=by
    show Aj (BP ⟨Hc (BP s) t,[],0⟩)=_
    rw[SQ,X]
   rw[TN us _ j A f (by rw[E,Gq];rw[q] at l;show _+1+_≤_;simp only[Un.isR,xm] at l;omega),E,wJ];rfl
theorem uj{us}(j:∀u∈us,Gy u)(f:List AG)(h:Av us≤f.length):A8 (Aj (BT us)) f=A8 us f:=by
 have:=TN us D0 (λx l=>by cases l) j f (by rw[show BP D0=[] from rfl];show 0+_≤_;omega)
 exact this
def I7:List UInt8:=[99,117,116]
def IS:List UInt8:=[97,100,100]
def Hn(au:List UInt8)(b:Bool)(x:AG):Un:=if b=false then .r false [] else if au=[]∨Dc x.Attrs IS=au then .r true [] else .r false [⟨I7,au⟩]
def G5(au:List UInt8)(g:List Bool)(f:List AG):List Un:=List.zipWith (Hn au) g f
theorem lz(f:List AG){a m}(h:a+m≤(BI f).length):CS (shown f 0 f.length) (a:Int) ((a+m:Nat):Int)=some (((BI f).drop a).take m |>.map λ(i:Nat)=>(i:Int)):=by
 unfold CS
 have j:=Qd f
 rw[vw (by omega),YE]
 congr 1
 rw[← List.map_drop,← List.map_take]
 congr 1
 rw[xK,xK,show a+m-a=m by omega]
theorem tv f{a m x}(h:a+m≤(BI f).length)(j:x<m):((BI f).drop a |>.take m)[x]?=some (BI f)[a+x]!:=by
 rw[xh,vw j,xW,wB (by omega),wF _ _ (by omega)]
theorem mq f{a m}(h:a+m≤(BI f).length):((BI f).drop a |>.take m).length=m:=by
 rw[xl,wv];omega
def Dw(f:List AG)(a m:Nat):List Bool:=(List.range f.length).map λi=>decide (∃j,j<m∧(BI f)[a+j]! = i)
theorem MO(f:List AG) a m:(Dw f a m).length=f.length:=by simp[Dw]
theorem uH(f:List AG) a:Dw f a 0=List.replicate f.length false:=by
 refine yg (by simp[Dw]) λi _ _=>?_
 simp[Dw]
theorem lI f{a m}(h:a+m<(BI f).length):(Dw f a m).set (BI f)[a+m]! true=Dw f a (m+1):=by
 refine yg (by simp[Dw]) λi u l=>?_
 rw[List.getElem_set]
 simp only[Dw,yt,zV]
 split
 ·rename_i e
  symm
  exact vz ⟨m,by omega,e⟩
 ·rename_i e
  rw[wo,vx,vx]
  constructor
  ·rintro⟨j,u,l⟩;exact⟨j,by omega,l⟩
  ·rintro⟨j,A,q⟩
   refine⟨j,?_,q⟩
   by_cases w:j=m
   ·subst w;exact absurd q e
   ·omega
theorem lN(f:List AG){a m}(h:a+m≤(BI f).length)(E:f.length≤1048576) :
  iter (λ(s:Int × (List Bool))=>KU (((BI f).drop a |>.take m).map λ(i:Nat)=>(i:Int)) s.1 s.2) (0,List.replicate f.length false)=some (Dw f a m):=by
 have F:=JN f
 have j:=mq f h
 obtain⟨b,w,A⟩:=FA (f:=λ(s:Int × (List Bool))=>KU (((BI f).drop a |>.take m).map λ(i:Nat)=>(i:Int)) s.1 s.2) m (λk u=>u=((k:Int),Dw f a k)) (λb=>b=Dw f a m) (s:=(0,List.replicate f.length false)) (λk u q l=>by
  subst l
  left
  refine⟨_,?_,rfl⟩
  unfold KU
  dsimp only
  have B:=HW (f:=f) (k:=a+k) (by omega)
  have C:AL (((BI f).drop a |>.take m).map λ(i:Nat)=>(i:Int)) (k:Int)=some (((BI f)[a+k]!:Nat):Int):=by
   rw[AZ (by rw[wZ,j];exact q)]
   congr 1
   rw[wF _ _ (by rw[wZ,j];exact q),yt]
   have:=tv f h q
   rw[wB (by rw[j];exact q)] at this
   injection this with this
   rw[this]
  rw[vw (vz (by rw[wZ,j];omega)),C,AD,AZ (by rw[MO];exact B),AD,Ae (by omega),AD,xK,lI f (by omega)]) (λu l=>by
  subst l
  refine⟨_,?_,rfl⟩
  unfold KU
  dsimp only
  rw[ne (by rw[wZ,j];simp)]) (by rw[uH];rfl)
 rw[w,A]
theorem RM au{g:List Bool}{f:List AG}(h:g.length=f.length):(G5 au g f).length=f.length:=by simp[G5,h]
theorem ZK au{g:List Bool}{f:List AG}(h:g.length=f.length){k}(j:k<f.length):(G5 au g f)[k]! = Hn au g[k]! f[k]!:=by
 rw[wF _ k (by rw[RM au h];exact j),wF g k (by omega),wF f k j]
 simp[G5]
structure Je(au:List UInt8):Prop where
 v:au=[]∨Dt au=true
 l:au.length≤1073741824
theorem TC{au}(h:Je au):Ao [⟨I7,au⟩] true=0∧Ao [⟨IS,au⟩,⟨I7,[]⟩] true=0:=by
 have e:∀n,Ef n=true→VA true ⟨n,au⟩:=λn u=>⟨u,by rcases h.v with h | h;exact .inr ⟨rfl,h⟩;exact .inl h⟩
 have l:Ef I7=true:=by decide
 have w:Ef IS=true:=by decide
 have A:VA true ⟨I7,[]⟩:=⟨l,.inr ⟨rfl,rfl⟩⟩
 refine⟨(FU _ _).2 ⟨by simp[Bg],λx j=>by rw[wq] at j;subst j;exact e _ l⟩,(FU _ _).2 ⟨?_,λx j=>?_⟩⟩
 ·unfold Bg
  rw[List.pairwise_cons]
  refine⟨λy q=>?_,by simp⟩
  rw[wq] at q;subst q
  show A4 IS I7=true
  decide
 ·rcases wM.1 j with rfl | j
  ·exact e _ w
  ·rw[wq] at j;subst j;exact A
theorem sb{au}(h:Je au)(b:Bool)(x:AG):JG (Hn au b x):=by
 unfold Hn
 split
 ·exact⟨λ_=>NW,λh=>(by cases h),by simp⟩
 split
 ·exact⟨λh=>(by cases h),λ_=>rfl,by simp⟩
 ·exact⟨λ_=>(TC h).1,λh=>(by cases h),by simp⟩
theorem X3{au}(h:Je au)(g:List Bool)(f:List AG):∀u∈G5 au g f,JG u:=by
 intro u j
 unfold G5 at j
 rw[xD] at j
 obtain⟨k,l,rfl⟩:=j
 rw[List.getElem_zipWith]
 exact sb h _ _
theorem sD(f:List AG){au}{g:List Bool}(hg:g.length=f.length)(F:f.length≤1048576)(w:∀e∈f,e.Attrs.length≤1048576) :
  iter (λ(s:Int × (List AI))=>Ka f au g s.1 s.2) (0,[])=some ((G5 au g f).map Dm):=by
 have:=Ky (f:=λ(s:Int × (List AI))=>Ka f au g s.1 s.2) (G5 au g f) (λk o=>((k:Int),o)) (λo u=>o++[Dm u]) (λo=>o) (λo k=>o.length≤k)
  (λb k j I=>by simp;omega) (λo k j C=>by
   rw[RM au hg] at j
   rw[ZK au hg j]
   dsimp only
   unfold Ka Hn
   rw[vw (by simpa using j),AZ j,AD,AZ (by omega),AD]
   cases g[k]! with
   | false=>rw[vw (show(!false)=true from rfl),AD,Hx (by omega),AD,Ae (by omega),vw (show false=false from rfl)];rfl
   | true=>
    rw[ne (by decide),ne (by decide)]
    by_cases A:au=[]
    ·subst A
     rw[vz rfl,vw (.inl rfl)]
     show AB (AB (some default) λB=>if(true||(B=[]))=true then _ else _) _=_
     rw[AD,vw (show(true||((default:List UInt8)=[]))=true from rfl),AD,Hx (by omega),AD,Ae (by omega)];rfl
    ·rw[vy A]
     show AB (AB (G9 f[k]!.Attrs IS) λB=>if(false||(B=au))=true then _ else _) _=_
     rw[PI _ _ (by have:=w _ (BN j);omega),AD]
     by_cases q:Dc f[k]!.Attrs IS=au
     ·rw[vw (by simpa using q),AD,Hx (by omega),AD,Ae (by omega),vw (.inr q)];rfl
     ·rw[ne (by simpa using q),AD,Hx (by omega),AD,Ae (by omega),ne (by rintro(h | h);exact A h;exact q h)];rfl) (λo C=>by
   rw[RM au hg]
   dsimp only
   unfold Ka
   rw[ne (by simp)]) [] (by simp)
 rw[show((0:Nat):Int)=0 from rfl] at this
 rw[this]
 congr 1
 have key:∀(l:List Un) (o:List AI),l.foldl (λo u=>o++[Dm u]) o=o++l.map Dm:=by
  intro l
  induction l with
  | nil=>simp
  | cons x l E=>intro o;rw[wh,E];simp
 rw[key];rfl
theorem uP(f:List AG){au}(j:Je au){a m}(h:a+m≤(BI f).length)(l:f.length≤1048576)(q:∀e∈f,e.Attrs.length≤1048576) :
  Pc f (((BI f).drop a |>.take m).map λ(i:Nat)=>(i:Int)) au=some (BT (G5 au (Dw f a m) f)):=by
 unfold Pc
 rw[nR (by omega),AD,lN f h l,AD,sD f (MO f a m) l q,AD,uI _ (X3 j _ _) (by rw[RM au (MO f a m)];exact l)]
 rfl
def A2(f:List AG)(a:Nat):Nat:=if a=0 then 0 else(BI f)[a-1]!+1
theorem qV(f:List AG){a}(h:a≤(BI f).length):A2 f a≤f.length:=by
 unfold A2
 split
 ·omega
 ·have:=HW (f:=f) (k:=a-1) (by omega);omega
theorem mL(f:List AG){a}(h:a≤(BI f).length)(l:f.length≤1048576):QC (shown f 0 f.length) (a:Int)=some (A2 f a:Int):=by
 have q:=JN f
 unfold QC A2
 by_cases j:a=0
 ·subst j;rfl
 ·have:=HW (f:=f) (k:=a-1) (by omega)
  rw[ne (by simp only[vx];omega),E8 (by omega) (by omega),AD,Lb (by omega),AD,Ae (by omega),AD,ne j]
def marks(au:List UInt8):List AC:=[⟨IS,au⟩,⟨I7,[]⟩]
theorem pS(f:List AG)(l:f.length≤4294967296)(h:∀e∈f,CZ e.Attrs):RP f=some f:=by
 unfold RP
 rw[VY _ l,AD]
 have:=VD (f:=λ(a:Int × List AG)=>J0 f a.1 a.2) f (λx=>x) (AG.mk 0 0 []) (λk out j q=>by
  show J0 f (k:Int) out=_
  unfold J0
  rw[vw (by simpa using j),AZ j,AD,Q1 (h _ (BN j)).1,AD,AZ (by omega),AD,Ae (by omega)]
  rfl) (λout=>by
  show J0 f (f.length:Int) out=_
  unfold J0
  rw[ne (by simp)])
 rw[this]
 simp
def CH(g:Nat)(L:List AG)(r:Nat):List Un:=List.replicate g (.r false [])++(L.map Un.a++List.replicate r (.r false []))
theorem pH au(L:List AG)(B:L.length≤1048576)(h:∀e∈L,e.Attrs.length≤1073741824) :
  iter (λ(a:Int × (List AG))=>LE au L a.1 a.2) (0,L)=some (L.map (C1 (marks au))):=by
 obtain⟨b,w,A⟩:=FA (f:=λ(a:Int × (List AG))=>LE au L a.1 a.2) L.length (λk q=>q=((k:Int),(L.take k).map (C1 (marks au))++L.drop k)) (λb=>b=L.map (C1 (marks au))) (s:=(0,L)) (λk q j l=>by
  subst l
  left
  refine⟨_,?_,rfl⟩
  unfold LE
  dsimp only
  have u:((L.take k).map (C1 (marks au))++L.drop k).length=L.length:=by simp;omega
  have hg:((L.take k).map (C1 (marks au))++L.drop k)[k]! = L[k]!:=by
   rw[wF _ k (by rw[u];exact j),yw (by simp;omega),wF L k j]
   simp
   congr 1
   omega
  have C:=h _ (BN j)
  rw[vw (by simpa using j),AZ (by rw[u];exact j),hg,AD,U6 _ _ (by rw[wK,wu];omega),AD,Ae (by omega),AD,xK]
  congr 3
  rw[zN _ _ (by rw[wZ,xl];omega),wZ,xl,show k-min k L.length=0 by omega,Hr j,yy,Iv j,yX,wJ]
  rfl) (λq l=>by
  subst l
  refine⟨_,?_,rfl⟩
  unfold LE
  dsimp only
  rw[ne (by simp),yC,zg,wS]) (by simp)
 rw[w,A]
def YZ(u:Un):Prop:=∀t,u≠.r true t
theorem XO:∀(us:List Un) (s:DS),Jf s→s.cuts=0→(∀u∈us,YZ u)→Aj (BP (us.foldl dU s))=Aj (BP s)++us
 | [],s,_,_,_=>by simp
 | .a e::us,s,w,A,l=>by
  have j:Jf (dU s (.a e)):=w
  have q:(dU s (.a e)).cuts=0:=A
  rw[wh,XO us _ j q λv B=>l v (wC _ B),(Me _ j).1,(Me s w).1,A,q]
  have C:I8 (dU s (.a e))=I8 s++[.a e]:=by
   show Aj s.out++(s.adds++[e]).map Un.a=_
   unfold I8
   rw[yX,wJ];rfl
  rw[C]
  simp
 | .r true t::us,s,_,_,l=>absurd rfl (l _ (v8 ..) t)
 | .r false t::us,s,w,A,l=>by
  obtain⟨M,E⟩:=Me s w
  obtain⟨F,I⟩:=Vh t E
  have j:Jf (dU s (.r false t)):=I
  have J:Aj (BP (dU s (.r false t)))=Aj (BP s)++[.r false t]:=by
   show Aj (BP ⟨Hc (BP s) t,[],0⟩)=_
   rw[SQ,F]
  rw[wh,XO us _ j rfl λv B=>l v (wC _ B),J,wJ];rfl
theorem dF{us}(h:∀u∈us,YZ u):Aj (BT us)=us:=XO us D0 (λx j=>by cases j) rfl h
theorem ed{g r}{L}{u}(h:u∈CH g L r):u=.r false []∨∃e∈L,u=.a e:=by
 unfold CH at h
 rcases wm.1 h with h | h
 ·exact .inl (xY h)
 ·rcases wm.1 h with h | h
  ·obtain⟨e,j,rfl⟩:=xd.1 h
   exact .inr ⟨e,j,rfl⟩
  ·exact .inl (xY h)
theorem bU g L r:∀u∈CH g L r,YZ u:=by
 intro u j t e
 subst e
 rcases ed j with h | ⟨_,_,h⟩<;>cases h
theorem X5{g r}{L}(h:∀e∈L,Bx e=0∧e.Attrs.length≤1048576):∀u∈CH g L r,Gy u:=by
 intro u j
 rcases ed j with rfl | ⟨e,l,rfl⟩
 ·exact⟨λ_=>NW,λh=>(by cases h),by simp⟩
 ·exact h e l
theorem TH g(L:List AG) r:(CH g L r).length=g+(L.length+r):=by simp[CH]
theorem ik n c t:Av (List.replicate n (.r c t))=n:=by unfold Av;rw[xu];rfl
theorem Wx(L:List AG):Av (L.map Un.a)=0:=by
 induction L with
 | nil=>rfl
 | cons e L j=>unfold Av at j ⊢;rw[wP,List.countP_cons_of_neg (by simp[Un.isR])];exact j
theorem VG g L r:Av (CH g L r)=g+r:=by
 unfold CH
 rw[Gq,Gq,ik,ik,Wx];omega
theorem bK g(L:List AG) r:BR (CH g L r)=L.length:=by
 have:=mZ (CH g L r)
 rw[VG,TH] at this;omega
theorem S1(L:List AG) r:CH 0 L r=L.map Un.a++List.replicate r (.r false []):=rfl
theorem Wz g L r:CH (g+1) L r=.r false []::CH g L r:=by unfold CH;rw[wc];rfl
def FH(u:Un):Prop:=match u with | .a _=>False | .r c t=>(c=true→t=[])∧IR t []=t
theorem gA:∀(E:List Un),(∀u∈E,FH u)→CJ (List.replicate E.length (.r false [])) E=List.replicate (Bv E) (.r false [])
 | [],_=>by rw[yJ,List.replicate_zero,CJ];rfl
 | .a e::E,h=>(h _ (v8 ..)).elim
 | .r c t::E,h=>by
  have j:=gA E λu l=>h u (wC _ l)
  rw[wK,wc,CJ,j,Hy]
  cases c with
  | true=>show(if true=true then _ else _)=_;rw[vw rfl];show _=List.replicate (0+_) _;rw[wW]
  | false=>
   show(if false=true then _ else _)=_
   rw[ne (by decide)]
   show _=List.replicate (1+_) _
   rw[yx,wc];rfl
theorem Ys L(j:List Un)(q:∀u∈j,FH u):∀(l:List Un),(∀u∈l,FH u)→CJ (CH l.length L j.length) (l++j)=CH (Bv l) L (Bv j)
 | [],_=>by
  show CJ (CH 0 L j.length) j=CH 0 L (Bv j)
  rw[S1,Zo,gA j q,S1]
 | .a e::E,h=>(h _ (v8 ..)).elim
 | .r c t::E,h=>by
  have w:=Ys L j q E λu A=>h u (wC _ A)
  rw[wK,Wz,wN,CJ,w,Hy]
  cases c with
  | true=>show(if true=true then _ else _)=_;rw[vw rfl];show _=CH (0+_) _ _;rw[wW]
  | false=>
   show(if false=true then _ else _)=_
   rw[ne (by decide)]
   show _=CH (1+_) _ _
   rw[yx,Wz];rfl
theorem SH:∀(E:List Un),(∀u∈E,FH u)→Ba E (List.replicate (Bv E) (.r false []))=E
 | [],_=>by
  show Ba [] []=[]
  rw[Ba]
 | .a e::E,h=>(h _ (v8 ..)).elim
 | .r true t::E,h=>by
  obtain⟨j,_⟩:=h _ (v8 ..)
  obtain rfl:=j rfl
  have l:=SH E λu q=>h u (wC _ q)
  rw[PS,Hy,show(if FK (.r true [])=true then 1 else 0)=0 from rfl,wW,l]
 | .r false t::E,h=>by
  obtain⟨_,j⟩:=h _ (v8 ..)
  have l:=SH E λu q=>h u (wC _ q)
  rw[Hy,show(if FK (.r false t)=true then 1 else 0)=1 from rfl,yx,wc,Xp,l]
  unfold Mv
  rw[ne (by decide),j]
theorem Ry L j:∀(l:List Un),(∀u∈l,FH u)→Ba (l++j) (CH (Bv l) L (Bv j))=l++Ba j (CH 0 L (Bv j))
 | [],_=>rfl
 | .a e::E,h=>(h _ (v8 ..)).elim
 | .r true t::E,h=>by
  obtain⟨q,_⟩:=h _ (v8 ..)
  obtain rfl:=q rfl
  have w:=Ry L j E λu A=>h u (wC _ A)
  rw[wN,PS,Hy,show(if FK (.r true [])=true then 1 else 0)=0 from rfl,wW,w];rfl
 | .r false t::E,h=>by
  obtain⟨_,q⟩:=h _ (v8 ..)
  have w:=Ry L j E λu A=>h u (wC _ A)
  rw[wN,Hy,show(if FK (.r false t)=true then 1 else 0)=1 from rfl,yx,Wz,Xp,w]
  unfold Mv
  rw[ne (by decide),q];rfl
theorem ff(L:List AG):∀(E:List Un) (f:List AG),(∀u∈E,FH u)→E.length=f.length→A8 (Ba E (CH 0 L (Bv E))) f=L++A8 E f
 | [],f,_,j=>by
  show A8 (Ba [] (L.map Un.a++[])) f=_
  rw[wS,ZH]
  have:=S8 L [] f
  rw[wS] at this
  rw[this]
 | .a e::E,f,h,_=>(h _ (v8 ..)).elim
 | .r true t::E,[],_,j=>by simp at j
 | .r true t::E,x::f,h,j=>by
  have l:=ff L E f (λu q=>h u (wC _ q)) (by simpa using j)
  rw[PS,Hy,show(if FK (.r true t)=true then 1 else 0)=0 from rfl,wW,A8,l,A8]
 | .r false t::E,f,h,j=>by
  rw[S1,RK _ _ _ (aD t E),SH _ h,S8]
theorem Se:∀(E:List Un) (f g:List AG) (X:List Un),(∀u∈E,FH u)→E.length=f.length→A8 (E++X) (f++g)=A8 E f++A8 X g
 | [],[],g,X,_,_=>by show A8 X g=A8 [] []++A8 X g;rw[A8];rfl
 | [],x::f,_,_,_,j=>by simp at j
 | .a e::E,_,_,_,h,_=>(h _ (v8 ..)).elim
 | .r _ t::E,[],_,_,_,j=>by simp at j
 | .r true t::E,x::f,g,X,h,j=>by
  have l:=Se E f g X (λu q=>h u (wC _ q)) (by simpa using j)
  rw[wN,wN,A8,l,A8]
 | .r false t::E,x::f,g,X,h,j=>by
  have l:=Se E f g X (λu q=>h u (wC _ q)) (by simpa using j)
  rw[wN,wN,A8,l,A8];rfl
theorem s0 L(j l:List Un)(w q:List AG)(A:∀u∈j,FH u)(B:∀u∈l,FH u)(C:j.length=w.length)(E:l.length=q.length) :
  A8 (Ba (j++l) (CH (Bv j) L (Bv l))) (w++q)=A8 j w++(L++A8 l q):=by
 rw[Ry L l j A,Se j w q _ A C,ff L l q B E]
theorem tG x:IR [x] []=[x]:=by
 unfold IR
 simp[Bs,Fi,DC]
theorem sL au b x:FH (Hn au b x):=by
 unfold Hn
 split
 ·exact⟨λh=>(by cases h),by simp[IR,Bs]⟩
 split
 ·exact⟨λ_=>rfl,by simp[IR,Bs]⟩
 ·exact⟨λh=>(by cases h),tG _⟩
def ft(e:AG):Prop:=e.Attrs.length≤1048576
def TD(x:AI):Prop:=x.Attrs.length≤1048576∧∀e∈x.Elems,ft e
def Xa(s:DS):Prop:=(∀x∈s.out,TD x)∧∀e∈s.adds,ft e
theorem aY{s}(h:Xa s):∀x∈BP s,TD x:=by
 intro x j
 unfold BP at j
 rcases wm.1 j with j | j
 ·split at j
  ·rcases wm.1 j with j | j
   ·exact h.1 x j
   ·rw[wq] at j;subst j
    exact⟨by simp,h.2⟩
  ·exact h.1 x j
 ·split at j
  ·rw[wq] at j;subst j
   exact⟨by simp,λe l=>by simp at l⟩
  ·simp at j
theorem mo{l:List AI}{t:List AC}(h:∀x∈l,TD x)(q:t.length≤1048576):∀x∈Hc l t,TD x:=by
 intro x j
 unfold Hc at j
 split at j
 ·rename_i w
  rcases yP j with j | j
  ·exact h x j
  ·subst j
   have:=h l[l.length-1]! (BN (by omega))
   exact this
 ·rcases wm.1 j with j | j
  ·exact h x j
  ·rw[wq] at j;subst j
   exact⟨q,λe u=>by simp at u⟩
theorem cT:∀(us:List Un) (s:DS),Xa s→(∀u∈us,Gy u)→Xa (us.foldl dU s)
 | [],_,h,_=>h
 | u::us,s,h,q=>by
  rw[wh]
  refine cT us _ ?_ λv w=>q v (wC _ w)
  have j:=q u (v8 ..)
  match u,j with
  | .a e,j=>exact⟨h.1,λx l=>by
    rcases wm.1 l with l | l
    ·exact h.2 x l
    ·rw[wq] at l;subst l;exact j.2⟩
  | .r true t,j=>exact⟨h.1,h.2⟩
  | .r false t,j=>exact⟨mo (aY h) j.2.2,λe A=>by cases A⟩
theorem SX{us}(h:∀u∈us,Gy u)(q:(BT us).length≤1048576)(w:BR us≤1048576):Gu (BT us):=by
 have l:=aY (cT us D0 ⟨λx j=>(by cases j),λx j=>(by cases j)⟩ h)
 refine⟨λx j=>(l x j).1,λx j=>(l x j).2,?_,q⟩
 have:=am us
 unfold Dr at this
 rw[KE,this];exact w
structure DF(us:List Un):Prop where
 ok:FS (BT us)
 err:CY (BT us)=0
 old:A5 (BT us)=Av us
 now:BH (BT us)=Bv us
 len:(BT us).length≤us.length
theorem OF{us:List Un}(h:∀u∈us,Di u)(A:us.length≤4194304):DF us:=by
 have j:=KR h
 obtain⟨B,C,l,q,w,E⟩:=Nz j
 have F:=So us
 have I:=V0 us
 have a3:Av us≤us.length:=yO
 exact⟨by rw[KE];exact fN h (by omega) (by omega),by rw[KE];exact gm j (by omega) (by omega),by rw[KE];exact l,by rw[KE];exact q,by rw[KE];exact w⟩
theorem fi(s:DS) n t:(EX s n t).out.length≤s.out.length+3:=by
 unfold EX
 split
 ·omega
 ·have j:=Xf (BP s) t n
  have l:=R0 s
  show(DX (BP s) t n).length≤_
  omega
theorem mh g(L:List AG) r:(BT (CH g L r)).length≤8:=by
 have e:Ay (CH g L r)=EX ⟨(EX D0 g []).out,(EX D0 g []).adds++L,(EX D0 g []).cuts⟩ r []:=by
  have j:=Kr [] (g:Int) [] (by omega)
  rw[yh,xK] at j
  rw[show EX D0 (g:Int) []=EX (Ay []) (g:Int) [] from rfl,j,NB]
  have l:=Kr (List.replicate g (.r false [])++L.map Un.a) (r:Int) [] (by omega)
  rw[xK] at l
  rw[l]
  unfold CH
  rw[wJ]
 rw[KE]
 have q:=R0 (Ay (CH g L r))
 have w:=fi D0 (g:Int) []
 have u:=fi ⟨(EX D0 g []).out,(EX D0 g []).adds++L,(EX D0 g []).cuts⟩ (r:Int) []
 rw[e] at q
 rw[e]
 have A:D0.out.length=0:=rfl
 dsimp only at u
 omega
theorem fQ{n:Nat}(h:n≤1048576):EB ⟨0,(n:Int),[],[]⟩=0:=by
 unfold EB
 by_cases j:n=0
 ·subst j;decide
 ·have:=YD (n:=(n:Int)) (t:=[]) (by omega) (by omega) NW
  rw[this]
  split<;>first | exact NW | rfl
theorem nY{A}(h:∀e∈A,Bx e=0):EB ⟨1,0,[],A⟩=0:=by
 unfold EB
 by_cases j:A=[]
 ·subst j;decide
 ·rw[iC j h]
  split<;>first | exact NW | rfl
theorem tF(g:Nat){L:List AG}(r:Nat)(q:∀e∈L,Bx e=0∧e.Attrs.length≤1048576)(hg:g+r≤1048576)(E:L.length≤1048576):IZ [(AI.mk 0 g [] []),(AI.mk 1 0 [] L),(AI.mk 0 r [] [])]=some (BT (CH g L r),0):=by
 have w:∀e∈L,CZ e.Attrs:=λe l=>Gc (Ho (q e l).1) (by have:=(q e l).2;omega)
 have B:FS [(AI.mk 0 g [] []),(AI.mk 1 0 [] L),(AI.mk 0 r [] [])]:=⟨by simp,λs j=>by
  rcases wM.1 j with rfl | j
  ·exact⟨GM,by simp,λe l=>by simp at l⟩
  rcases wM.1 j with rfl | j
  ·exact⟨GM,by show L.length≤_;omega,w⟩
  ·rw[wq] at j;subst j
   exact⟨GM,by simp,λe l=>by simp at l⟩,by simp;omega⟩
 have j:Gu [(AI.mk 0 g [] []),(AI.mk 1 0 [] L),(AI.mk 0 r [] [])]:=⟨λs j=>by
  rcases wM.1 j with rfl | j
  ·simp
  rcases wM.1 j with rfl | j
  ·simp
  ·rw[wq] at j;subst j;simp,λs j=>by
  rcases wM.1 j with rfl | j
  ·intro e l;simp at l
  rcases wM.1 j with rfl | j
  ·exact λe l=>(q e l).2
  ·rw[wq] at j;subst j;intro e l;simp at l,by simp;omega,by simp⟩
 have C:=X5 (g:=g) (r:=r) q
 have hd:=OF (λu A=>Q4 (C u A)) (by rw[TH];omega)
 rw[kK _ B j,SV,fQ (by omega),ne (by simp),ne (by simp),SV,nY λe l=>(q e l).1,ne (by simp),ne (by simp),SV,fQ (by omega),ne (by simp),ne (by simp)]
 have A:([]++BO ⟨0,(g:Int),[],[]⟩++BO ⟨1,0,[],L⟩++BO ⟨0,(r:Int),[],[]⟩)=CH g L r:=by
  rw[eO,eO,xK,xK]
  show []++List.replicate g (.r false [])++L.map Un.a++_=_
  rw[yh,wJ];rfl
 rw[A]
 unfold Ld
 rw[ne (by simpa using hd.err)]
theorem bI{au}(h:Je au){e:AG}(j:Bx e=0)(l:e.Attrs.length≤1048574):Bx (C1 (marks au) e)=0∧(C1 (marks au) e).Attrs.length≤1048576:=by
 refine⟨(Va j (by omega) (TC h).2 (by simp)).1,?_⟩
 have:=T7 FV U3 _ e.Attrs (marks au) [] rfl
 show(Bs FV e.Attrs (marks au) []).length≤_
 simp only[yJ,marks,wK] at this
 unfold marks
 omega
theorem jq(f:List AG){au}(q:Je au){g}(hg:g≤f.length)(B:f.length≤1048576){L:List AG}(l:∀e∈L,Bx e=0∧e.Attrs.length≤1048574)(w:L.length≤1048576) :
  O7 f (g:Int) L au=some (BT (CH g (L.map (C1 (marks au))) (f.length-g))):=by
 have u:∀e∈L.map (C1 (marks au)),Bx e=0∧e.Attrs.length≤1048576:=by
  intro e j
  obtain⟨x,A,rfl⟩:=xd.1 j
  exact bI q (l x A).1 (l x A).2
 unfold O7
 rw[pS L (by omega) λe j=>Gc (Ho (l e j).1) (by have:=(l e j).2;omega),AD,pH au L w λe j=>by have:=(l e j).2;omega,AD]
 rw[show((f.length:Int)-(g:Int))=((f.length-g:Nat):Int) by omega,JR (by omega) (by omega),AD,tF g _ u (by omega) (by simpa using w),CL]
structure JF(E:List Un)(L:List AG)(T:List Un):Prop where
 mem:∀u∈T,u∈E∨∃e∈L,u=.a e
 cr:Av T=E.length
 len:T.length=E.length+L.length
theorem SE:∀ {E:List Un},(∀u∈E,FH u)→Av E=E.length
 | [],_=>rfl
 | .a e::E,h=>(h _ (v8 ..)).elim
 | .r c t::E,h=>by
  have j:=SE (E:=E) λu l=>h u (wC _ l)
  unfold Av at j ⊢
  rw[y8 (by rfl),j];rfl
theorem dS(L:List AG):∀(E:List Un),(∀u∈E,FH u)→JF E L (Ba E (CH 0 L (Bv E)))
 | [],_=>by
  show JF [] L (Ba [] (L.map Un.a++[]))
  rw[wS,ZH]
  exact⟨λu j=>by obtain⟨e,l,rfl⟩:=xd.1 j;exact .inr ⟨e,l,rfl⟩,Wx L,by simp⟩
 | .a e::E,h=>(h _ (v8 ..)).elim
 | .r true t::E,h=>by
  obtain⟨w,_⟩:=h _ (v8 ..)
  obtain rfl:=w rfl
  have q:=dS L E λu j=>h u (wC _ j)
  rw[PS,Hy,show(if FK (.r true [])=true then 1 else 0)=0 from rfl,wW]
  refine⟨λu j=>?_,?_,?_⟩
  ·rcases wM.1 j with rfl | j
   ·exact .inl (v8 ..)
   ·rcases q.mem u j with h | h
    ·exact .inl (wC _ h)
    ·exact .inr h
  ·have:=q.cr
   unfold Av at this ⊢
   rw[y8 (by rfl),this];rfl
  ·rw[wK,q.len,wK];omega
 | .r false t::E,h=>by
  rw[S1,RK _ _ _ (aD t E),SH _ h]
  refine⟨λu j=>?_,?_,?_⟩
  ·rcases wm.1 j with j | j
   ·obtain⟨e,l,rfl⟩:=xd.1 j;exact .inr ⟨e,l,rfl⟩
   ·exact .inl j
  ·rw[Gq,Wx,SE h];omega
  ·simp;omega
theorem ip{us}(h:∀u∈us,Gy u):Dp us:=by
 intro u j
 have:=h u j
 match u,this with
 | .a e,h=>exact h
 | .r c t,h=>exact h
theorem XB{u}(h:JG u):Gy u:=by
 match u,h with
 | .r c t,h=>exact⟨h.1,h.2.1,by have:=h.2.2;omega⟩
theorem Ub au g f:∀u∈G5 au g f,FH u:=by
 intro u j
 unfold G5 at j
 rw[xD] at j
 obtain⟨k,l,rfl⟩:=j
 rw[List.getElem_zipWith]
 exact sL _ _ _
abbrev Br(f:List AG)(au:List UInt8)(a m:Nat):List Un:=G5 au (Dw f a m) f
def DJ(au:List UInt8)(L:List AG):List AG:=L.map (C1 (marks au))
def Fy(f:List AG)(au:List UInt8)(a m:Nat)(L:List AG):List Un:=CH (Bv ((Br f au a m).take (A2 f a))) (DJ au L) (Bv ((Br f au a m).drop (A2 f a)))
def E4(f:List AG)(au:List UInt8)(a m:Nat)(L:List AG):List Un:=Ba (Br f au a m) (Fy f au a m L)
def E5(node:Int)(d:List AI):Ai:=Ai.mk 2 node (AX.mk 0 0 [] [] (A1.mk 0 0 [] []) []) [] d (DW.mk [] [] [] [] []) []
structure B3(f:List AG)(au:List UInt8)(a m:Nat)(L:List AG):Prop where
 au:Je au
 win:a+m≤(BI f).length
 fl:f.length≤262144
 fe:∀e∈f,Bx e=0∧e.Attrs.length≤1048576
 le:∀e∈L,Bx e=0∧e.Attrs.length≤1048574
 ll:L.length≤20000
section
variable{f:List AG}{au:List UInt8}{a m:Nat}{L:List AG}
theorem B3.el(_:B3 f au a m L):(Br f au a m).length=f.length:=RM au (MO f a m)
theorem B3.gl(h:B3 f au a m L):A2 f a≤f.length:=qV f (by have:=h.win;omega)
theorem B3.t1(h:B3 f au a m L):((Br f au a m).take (A2 f a)).length=A2 f a:=by rw[xl,h.el];have:=h.gl;omega
theorem B3.t2(h:B3 f au a m L):((Br f au a m).drop (A2 f a)).length=f.length-A2 f a:=by rw[wv,h.el]
theorem B3.r1(_:B3 f au a m L):∀u∈(Br f au a m).take (A2 f a),FH u:=λu j=>Ub au _ f u (xy j)
theorem B3.r2(_:B3 f au a m L):∀u∈(Br f au a m).drop (A2 f a),FH u:=λu j=>Ub au _ f u (xx j)
theorem B3.nl(h:B3 f au a m L):∀e∈DJ au L,Bx e=0∧e.Attrs.length≤1048576:=by
 intro e l
 obtain⟨x,j,rfl⟩:=xd.1 l
 exact bI h.au (h.le x j).1 (h.le x j).2
theorem B3.pair(h:B3 f au a m L):CJ (CH (A2 f a) (DJ au L) (f.length-A2 f a)) (Br f au a m)=Fy f au a m L:=by
 have:=Ys (DJ au L) _ h.r2 _ h.r1
 rw[h.t1,h.t2,xt] at this
 exact this
theorem B3.cut(h:B3 f au a m L):Bv ((Br f au a m).take (A2 f a))+Bv ((Br f au a m).drop (A2 f a))=Bv (Br f au a m):=by
 rw[← QP,xt]
theorem B3.chg(h:B3 f au a m L):E4 f au a m L=(Br f au a m).take (A2 f a)++Ba ((Br f au a m).drop (A2 f a)) (CH 0 (DJ au L) (Bv ((Br f au a m).drop (A2 f a)))):=by
 have:=Ry (DJ au L) ((Br f au a m).drop (A2 f a)) _ h.r1
 rw[xt] at this
 exact this
theorem B3.chgW(h:B3 f au a m L):(∀u∈E4 f au a m L,Gy u)∧Av (E4 f au a m L)=f.length∧(E4 f au a m L).length=f.length+L.length:=by
 have q:=dS (DJ au L) _ h.r2
 have hg:=h.gl
 have w:=h.t1
 have A:=h.t2
 have B:(DJ au L).length=L.length:=by simp[DJ]
 have j:=X3 h.au (Dw f a m) f
 rw[h.chg]
 refine⟨λu l=>?_,?_,?_⟩
 ·rcases wm.1 l with l | l
  ·exact XB (j u (xy l))
  ·rcases q.mem u l with l | ⟨e,C,rfl⟩
   ·exact XB (j u (xx l))
   ·exact h.nl e C
 ·rw[Gq,q.cr,SE h.r1,w,A];omega
 ·rw[wG,q.len,w,A,B];omega
theorem B3.done(h:B3 f au a m L):A8 (E4 f au a m L) f=A8 ((Br f au a m).take (A2 f a)) (f.take (A2 f a))++(DJ au L++A8 ((Br f au a m).drop (A2 f a)) (f.drop (A2 f a))):=by
 have hg:=h.gl
 have:=s0 (DJ au L) _ _ (f.take (A2 f a)) (f.drop (A2 f a)) h.r1 h.r2 (by rw[h.t1,xl];omega) (by rw[h.t2,wv])
 rw[xt,xt] at this
 exact this
structure fL(f:List AG)(U:List Un):Prop where
 df:DF U
 sm:Gu (BT U)
 old:A5 (BT U)=f.length
 done:A8 (Aj (BT U)) f=A8 U f
 ul:((Aj (BT U)).length:Int)≤4294967296
theorem B3.d57(h:B3 f au a m L):fL f (E4 f au a m L):=by
 obtain⟨q,A,C⟩:=h.chgW
 have E:=h.fl
 have F:=h.ll
 have l:=OF (λu B=>Q4 (q u B)) (by omega)
 have dl:=l.len
 have I:=So (E4 f au a m L)
 have w:=SX q (by omega) (by omega)
 have gd:=Nf l.err
 have j:A5 (BT (E4 f au a m L))=f.length:=by rw[l.old,A]
 refine⟨l,w,j,uj q f (by omega),?_⟩
 have:=Ok gd.st
 have J:=w.sum
 rw[this,j]
 omega
theorem B3.steps(h:B3 f au a m L){n:AX}(Y:n.Flow=f)(s:Am)(A:s.From=(a:Int))(B:s.To=((a+m:Nat):Int)) :
  MP (Lj n au) s L=some ([E5 s.Node (BT (E4 f au a m L))],Am.mk s.Node ((a:Int)+L.length) ((a:Int)+L.length),0):=by
 subst Y
 have hf:=h.fl
 have hl:=h.ll
 have hv:=JN n.Flow
 have hw:=h.win
 have hg:=h.gl
 have C:∀e∈n.Flow,e.Attrs.length≤1048576:=λe Z=>(h.fe e Z).2
 have q:(DJ au L).length=L.length:=by simp[DJ]
 unfold MP
 dsimp only
 rw[A,B,lz _ h.win,AD,uP n.Flow h.au h.win (by omega) C,AD,mL n.Flow (by omega) (by omega),AD,jq n.Flow h.au hg (by omega) h.le (by omega),AD]
 have E:=X5 (g:=A2 n.Flow a) (r:=n.Flow.length-A2 n.Flow a) h.nl
 have lA:=TH (A2 n.Flow a) (DJ au L) (n.Flow.length-A2 n.Flow a)
 have J:=X3 h.au (Dw n.Flow a m) n.Flow
 have F:∀u∈Br n.Flow au a m,Gy u:=λu j=>XB (J u j)
 have lE:=h.el
 have M:∀u∈Fy n.Flow au a m L,Gy u:=X5 h.nl
 have O:=h.cut
 have a0:=V0 (Br n.Flow au a m)
 have lX:(Fy n.Flow au a m L).length=Bv (Br n.Flow au a m)+L.length:=by
  unfold Fy;rw[TH,q];omega
 have cX:Av (Fy n.Flow au a m L)=Bv (Br n.Flow au a m):=by
  unfold Fy;rw[VG];omega
 have I:=OF (λu j=>Q4 (E u j)) (by omega)
 have l:=OF (λu j=>Q4 (F u j)) (by omega)
 have w:=OF (λu j=>Q4 (M u j)) (by omega)
 have yW:=W5 _ _ (ip E) (ip F)
 have yl:=Wl (CH (A2 n.Flow a) (DJ au L) (n.Flow.length-A2 n.Flow a)) (Br n.Flow au a m)
 have dY:=OF yW (by omega)
 have a1:=bK (A2 n.Flow a) (DJ au L) (n.Flow.length-A2 n.Flow a)
 have a2:BR (Fy n.Flow au a m L)=L.length:=by unfold Fy;rw[bK,q]
 have a6:=So (Br n.Flow au a m)
 have sA:=SX E (by have:=mh (A2 n.Flow a) (DJ au L) (n.Flow.length-A2 n.Flow a);omega) (by omega)
 have T:=SX F (by have:=l.len;omega) (by omega)
 have sX:=SX M (by have:=w.len;omega) (by omega)
 have uA:=dF (bU (A2 n.Flow a) (DJ au L) (n.Flow.length-A2 n.Flow a))
 have U:Aj (BT (Br n.Flow au a m))=Br n.Flow au a m:=km J
 have uX:Aj (BT (Fy n.Flow au a m L))=Fy n.Flow au a m L:=dF (bU _ _ _)
 have V:Av (Br n.Flow au a m)=(Br n.Flow au a m).length:=SE (Ub au (Dw n.Flow a m) n.Flow)
 have X:=I.old
 rw[VG] at X
 have o2:=l.old
 have o3:=l.now
 have o4:=w.old
 have dJ:=h.d57.df
 have nA:List.map (C1 (marks au)) L=DJ au L:=rfl
 have eP:Ns (BT (CH (A2 n.Flow a) (DJ au L) (n.Flow.length-A2 n.Flow a))) (BT (Br n.Flow au a m))=some (BT (Fy n.Flow au a m L),BT (Cp (CH (A2 n.Flow a) (DJ au L) (n.Flow.length-A2 n.Flow a)) (Br n.Flow au a m)),0):=by
  rw[ld _ _ I.ok l.ok sA T,ne (by rw[I.err];simp),ne (by rw[l.err];simp),ne (by rw[X,o2];omega)]
  unfold YS
  rw[uA,U,h.pair,ne (by rintro(e | e);exact e w.err;exact e dY.err)]
 have eJ:Nk (BT (Br n.Flow au a m)) (BT (Fy n.Flow au a m L))=some (BT (E4 n.Flow au a m L),0):=by
  rw[qE _ _ l.ok w.ok T sX,ne (by rw[l.err];simp),ne (by rw[w.err];simp),ne (by rw[o4,o3,cX];simp)]
  unfold VN
  rw[U,uX]
  rw[show Ba (Br n.Flow au a m) (Fy n.Flow au a m L)=E4 n.Flow au a m L from rfl,ne (by rw[dJ.err];simp)]
 rw[nA,eP,GQ,ne (by decide),eJ,CL,ne (by decide),JR (by omega) (by omega),AD]
 rfl
end
def vN(f:List AG)(k:Nat):List Nat:=(List.range k).filter (DI f 0)
theorem P6 f k:vN f (k+1)=vN f k++(if DI f 0 k=true then [k] else []):=by
 unfold vN
 rw[List.range_succ,List.filter_append]
 congr 1
 cases h:DI f 0 k<;>simp[h]
theorem Xj f i:∀d,∃r,vN f (i+d)=vN f i++r∧∀x∈r,i≤x
 | 0=>⟨[],by simp,by simp⟩
 | d+1=>by
  obtain⟨r,l,q⟩:=Xj f i d
  refine⟨r++(if DI f 0 (i+d)=true then [i+d] else []),?_,λx j=>?_⟩
  ·rw[← yD,P6,l,wJ]
  ·rcases wm.1 j with j | j
   ·exact q x j
   ·split at j
    ·rw[wq] at j;omega
    ·simp at j
theorem Y9{f:List AG}{i}(u:i<f.length)(q:DI f 0 i=true):(vN f i).length<(BI f).length∧(BI f)[(vN f i).length]! = i:=by
 obtain⟨r,j,_⟩:=Xj f (i+1) (f.length-(i+1))
 rw[show i+1+(f.length-(i+1))=f.length by omega,P6,vw q,wJ] at j
 have e:BI f=vN f i++([i]++r):=j
 have l:(vN f i).length<(BI f).length:=by rw[e];simp
 refine⟨l,?_⟩
 rw[wF (BI f) _ l]
 simp only[e]
 rw[yw (by omega)]
 simp
theorem sw{f:List AG}{i}(B:i<f.length)(q:¬ DI f 0 i=true)(j:(vN f i).length<(BI f).length):(BI f)[(vN f i).length]!≠i:=by
 obtain⟨r,l,u⟩:=Xj f (i+1) (f.length-(i+1))
 rw[show i+1+(f.length-(i+1))=f.length by omega,P6,ne q,wS] at l
 have e:BI f=vN f i++r:=l
 have w:0<r.length:=by rw[e] at j;simp at j;omega
 have A:(BI f)[(vN f i).length]! = r[0]:=by
  rw[wF (BI f) _ j]
  simp only[e]
  rw[yw (by omega)]
  simp
 rw[A]
 have:=u r[0] (xw w)
 omega
theorem aK(f:List AG) a m{i}(l:i<f.length):(Dw f a m)[i]! = decide (∃j,j<m∧(BI f)[a+j]! = i):=by
 rw[wF _ i (by rw[MO];exact l)]
 simp[Dw]
theorem oY{f:List AG}{a m i}(C:a+m≤(BI f).length)(l:i<f.length)(w:DI f 0 i=true):(Dw f a m)[i]! = (((a:Int)≤((vN f i).length:Int))&&(((vN f i).length:Int)<((a+m:Nat):Int))):=by
 obtain⟨A,q⟩:=Y9 l w
 rw[aK f a m l,wo,vx,v7,vx,vx]
 constructor
 ·rintro⟨j,B,u⟩
  have:=sr (f:=f) (j:=a+j) (k:=(vN f i).length) (by omega) A (by rw[u,q])
  omega
 ·rintro⟨B,u⟩
  refine⟨(vN f i).length-a,by omega,?_⟩
  rw[show a+((vN f i).length-a)=(vN f i).length by omega,q]
theorem jo{f:List AG}{a m i}(A:a+m≤(BI f).length)(l:i<f.length)(q:¬ DI f 0 i=true):(Dw f a m)[i]! = false:=by
 rw[aK f a m l]
 refine vy ?_
 rintro⟨j,B,u⟩
 have w:i∈BI f:=by rw[← u];exact BN (by omega)
 exact q (yj.1 w).2
def Z5:Un→AG→List AG
 | .a e,_=>[e]
 | .r true _,_=>[]
 | .r false t,x=>[C1 t x]
theorem Vz{E:List Un}{f:List AG}(l:∀u∈E,FH u)(w:E.length=f.length){i}(q:i<f.length):A8 (E.take (i+1)) (f.take (i+1))=A8 (E.take i) (f.take i)++Z5 E[i]! f[i]!:=by
 rw[Iv (show i<E.length by omega),Iv q,Se _ _ _ _ (λu j=>l u (xy j)) (by simp;omega)]
 congr 1
 have j:=l _ (BN (show i<E.length by omega))
 match E[i]!,j with
 | .r true t,_=>rw[A8,A8];rfl
 | .r false t,_=>rw[A8,A8];rfl
section
variable{f:List AG}{au:List UInt8}{a m:Nat}{L:List AG}
def E6(f:List AG)(au:List UInt8)(a m:Nat)(L:List AG)(i:Nat):List AG:=
 if i≤A2 f a then A8 ((Br f au a m).take i) (f.take i)
 else A8 ((Br f au a m).take (A2 f a)) (f.take (A2 f a))++(DJ au L++A8 (((Br f au a m).drop (A2 f a)).take (i-A2 f a)) ((f.drop (A2 f a)).take (i-A2 f a)))
def FF(f:List AG)(au:List UInt8)(a m:Nat)(L:List AG)(i:Nat):List AG:=E6 f au a m L i++(if i=A2 f a then DJ au L else [])
theorem B3.out_succ(h:B3 f au a m L){i}(q:i<f.length):E6 f au a m L (i+1)=FF f au a m L i++Z5 (Br f au a m)[i]! f[i]!:=by
 have hg:=h.gl
 have j:=Ub au (Dw f a m) f
 have l:=h.el
 unfold FF E6
 by_cases E:i+1≤A2 f a
 ·rw[vw E,vw (show i≤A2 f a by omega),ne (show ¬ i=A2 f a by omega),wS]
  exact Vz j l q
 ·rw[ne E]
  by_cases w:i=A2 f a
  ·rw[vw (show i≤A2 f a by omega),vw w,← w,show i+1-i=0+1 by omega]
   have A:((Br f au a m).drop i)[0]! = (Br f au a m)[i]!:=by
    rw[wF _ 0 (by rw[wv];omega),wF _ i (by omega)];simp
   have B:(f.drop i)[0]! = f[i]!:=by
    rw[wF _ 0 (by rw[wv];omega),wF _ i q];simp
   rw[Vz (E:=(Br f au a m).drop i) (λu C=>j u (xx C)) (by rw[wv,wv,l]) (by rw[wv];omega),A,B]
   simp[A8]
  ·rw[ne (show ¬ i≤A2 f a by omega),ne w,wS,show i+1-A2 f a=(i-A2 f a)+1 by omega]
   have A:((Br f au a m).drop (A2 f a))[i-A2 f a]! = (Br f au a m)[i]!:=by
    rw[wF _ (i-A2 f a) (by rw[wv];omega),wF _ i (by omega),List.getElem_drop]
    congr 1;omega
   have B:(f.drop (A2 f a))[i-A2 f a]! = f[i]!:=by
    rw[wF _ (i-A2 f a) (by rw[wv];omega),wF _ i q,List.getElem_drop]
    congr 1;omega
   rw[Vz (E:=(Br f au a m).drop (A2 f a)) (λu C=>j u (xx C)) (by rw[wv,wv,l]) (by rw[wv];omega),A,B]
   simp
theorem lZ f au a m L:E6 f au a m L 0=[]:=by
 unfold E6
 rw[vw (yR _)]
 simp[A8]
theorem B3.out_end(h:B3 f au a m L):FF f au a m L f.length=A8 (E4 f au a m L) f:=by
 have hg:=h.gl
 have j:=h.el
 rw[h.done]
 unfold FF E6
 by_cases c:f.length=A2 f a
 ·rw[vw (by omega),vw c,← c,yS (by omega),yS (wL _),zD (by omega),zD (wL _)]
  simp[A8]
 ·rw[ne (by omega),ne c,wS,yS (l:=(Br f au a m).drop (A2 f a)) (by rw[wv];omega),yS (l:=f.drop (A2 f a)) (by rw[wv];omega)]
theorem B3.outG_len(h:B3 f au a m L) i(A:i≤f.length):(FF f au a m L i).length≤1048576:=by
 have B:=h.fl
 have C:=h.ll
 have j:=h.el
 have E:(DJ au L).length=L.length:=by simp[DJ]
 have d:=λ(l:List Un) (f:List AG)=>Ws l f
 unfold FF E6
 have q:=d ((Br f au a m).take i) (f.take i)
 have u:=d ((Br f au a m).take (A2 f a)) (f.take (A2 f a))
 have w:=d (((Br f au a m).drop (A2 f a)).take (i-A2 f a)) ((f.drop (A2 f a)).take (i-A2 f a))
 simp only[xl,wv] at q u w
 rw[wG]
 have:(if i=A2 f a then DJ au L else []).length≤L.length:=by split;omega;simp
 split
 ·omega
 ·rw[wG,wG];omega
theorem dQ(h:B3 f au a m L)(out:List AG)(u:out.length≤1048576):iter (λ(s:Int × (List AG))=>Ij L au s.1 s.2) (0,out)=some (.ext (out++DJ au L)):=by
 have B:=h.ll
 have:=Ky (f:=λ(s:Int × (List AG))=>Ij L au s.1 s.2) L (λk o=>((k:Int),o)) (λo e=>o++[C1 (marks au) e]) (λo=>(.ext o:As Unit (List AG))) (λo k=>o.length≤1048576+k)
  (λb k j C=>by simp;omega) (λo k j u=>by
   dsimp only
   have w:=h.le _ (BN j)
   have q:H4 L[k]!.Attrs [⟨[97,100,100],au⟩,⟨[99,117,116],[]⟩]=some (GR L[k]!.Attrs (marks au)):=Vl (Ho w.1) (TC h.au).2 (by omega) (by simp)
   unfold Ij
   rw[vw (by simpa using j),AZ j,AD,q,AD,HV (by rw[wu];omega),AD,Ae (by omega)]
   rfl) (λo u=>by
   dsimp only
   unfold Ij
   rw[ne (by simp)]) out (by omega)
 rw[show((0:Nat):Int)=0 from rfl] at this
 rw[this]
 congr 2
 have key:∀(l o:List AG),l.foldl (λo e=>o++[C1 (marks au) e]) o=o++l.map (C1 (marks au)):=by
  intro l
  induction l with
  | nil=>simp
  | cons x l A=>intro o;rw[wh,A];simp
 rw[key];rfl
theorem Yq{x}(h:Bx x=0):C1 [] x=x:=jT (Ho h)
theorem B3.round(h:B3 f au a m L){i}(q:i<f.length) :
  Jp f (a:Int) ((a+m:Nat):Int) L au (shown f 0 f.length) (A2 f a:Int) ((vN f i).length:Int) (i:Int) (E6 f au a m L i)=some (.inl (((vN f (i+1)).length:Int),((i+1:Nat):Int),E6 f au a m L (i+1))):=by
 have hf:=h.fl
 have hl:=h.ll
 have B:=h.fe _ (BN q)
 have hv:=JN f
 have T:=Qd f
 have M:=h.outG_len i (by omega)
 have U:(vN f i).length≤i:=by unfold vN;exact xF (yo _ _) (by simp)
 have E:(E6 f au a m L i).length≤1048576:=by unfold FF at M;rw[wG] at M;omega
 unfold Jp
 rw[vw (vz (show(i:Int)≤(f.length:Int) by omega))]
 have V:(if decide ((i:Int)=(A2 f a:Int))=true then Aq (iter (λ(a:Int × (List AG))=>Ij L au a.1 a.2) (0,E6 f au a m L i)) λ(u3:Unit)=>none else some (E6 f au a m L i))=some (FF f au a m L i):=by
  unfold FF
  by_cases c:i=A2 f a
  ·rw[vw (vz (by omega)),dQ h _ E,vw c];rfl
  ·rw[ne (by simp only[vx];omega),ne c,wS]
 rw[V,AD,ne (by simp only[vx];omega),AZ q,AD,h.out_succ q]
 have X:(Br f au a m)[i]! = Hn au (Dw f a m)[i]! f[i]!:=ZK au (MO f a m) q
 rw[X]
 generalize hX:f[i]! = x at B
 by_cases A:DI f 0 i=true
 ·obtain⟨v1,Y⟩:=Y9 q A
  have u:(vN f (i+1)).length=(vN f i).length+1:=by rw[P6,vw A];simp
  rw[u,oY h.win q A,vz (show((vN f i).length:Int)<((shown f 0 f.length).length:Int) by omega)]
  rw[show(true==true)=true from rfl,An,Lb v1,AD,Y,vz rfl,vw (show(true&&true)=true from rfl)]
  by_cases O:(((a:Int)≤((vN f i).length:Int))&&(((vN f i).length:Int)<((a+m:Nat):Int)))=true
  ·rw[O,vw rfl]
   have Z:Hn au true x=if au=[]∨Dc x.Attrs IS=au then .r true [] else .r false [⟨I7,au⟩]:=by unfold Hn;rw[ne (by decide)]
   rw[Z]
   by_cases C:au=[]
   ·rw[vw (.inl C),vz C]
    show FO (FO (Aq (AB (some default) λF=>if(true||(F=au))=true then _ else _) _) _) _=_
    rw[AD,vw (show(true||((default:List UInt8)=au))=true from rfl),Ae (by omega),AD]
    show AB (AN .i64 ((i:Int)+1)) _=_
    rw[Ae (by omega),AD]
    show _=some (Sum.inl (_,_,FF f au a m L i++[]))
    rw[wS]
   ·rw[vy C]
    show FO (FO (Aq (AB (I3 x.Attrs IS) λF=>if(false||(F=au))=true then _ else _) _) _) _=_
    rw[Ul _ _ (by omega),AD]
    by_cases hg:Dc x.Attrs IS=au
    ·rw[vw (by simpa using hg),vw (.inr hg),Ae (by omega),AD]
     show AB (AN .i64 ((i:Int)+1)) _=_
     rw[Ae (by omega),AD]
     show _=some (Sum.inl (_,_,FF f au a m L i++[]))
     rw[wS]
    ·rw[ne (by simpa using hg),ne (by rintro(e | e);exact C e;exact hg e)]
     have I:H4 x.Attrs [⟨[99,117,116],au⟩]=some (GR x.Attrs [⟨I7,au⟩]):=Vl (Ho B.1) (TC h.au).1 B.2 (by simp)
     rw[I,AD,IC,Ae (by omega),AD,F1,HV (by rw[wu];omega),AD,F1,Ae (by omega),AD]
     rfl
  ·have J:=yG.2 O
   rw[J,ne (by decide),IC,Ae (by omega),AD,F1,HV (by rw[wu];omega),AD,F1,Ae (by omega),AD]
   show _=some (Sum.inl (_,_,FF f au a m L i++[C1 [] x]))
   rw[Yq B.1]
 ·have u:(vN f (i+1)).length=(vN f i).length:=by rw[P6,ne A,wS]
  rw[u,jo h.win q A]
  have hc:∀w,gd (decide (((vN f i).length:Int)<((shown f 0 f.length).length:Int))==true) (AL (shown f 0 f.length) ((vN f i).length:Int))=some w→((((vN f i).length:Int)<((shown f 0 f.length).length:Int))&&(w=(i:Int)))=false:=by
   intro w j
   by_cases l:(vN f i).length<(BI f).length
   ·rw[vz (show((vN f i).length:Int)<((shown f 0 f.length).length:Int) by omega)] at j ⊢
    rw[show(true==true)=true from rfl,An,Lb l] at j
    injection j with j
    have:=sw q A l
    rw[xM]
    exact vy (by omega)
   ·rw[vy (by omega)];rfl
  have hd:∃w,gd (decide (((vN f i).length:Int)<((shown f 0 f.length).length:Int))==true) (AL (shown f 0 f.length) ((vN f i).length:Int))=some w:=by
   by_cases l:(vN f i).length<(BI f).length
   ·rw[vz (show((vN f i).length:Int)<((shown f 0 f.length).length:Int) by omega),show(true==true)=true from rfl,An,Lb l]
    exact⟨_,rfl⟩
   ·rw[vy (by omega)];exact⟨_,rfl⟩
  obtain⟨w,j⟩:=hd
  rw[j,AD,hc w j,ne (by decide),F1,HV (by rw[wu];omega),AD,F1,Ae (by omega),AD]
  show _=some (Sum.inl (_,_,FF f au a m L i++[C1 [] x]))
  rw[Yq B.1]
theorem B3.last(h:B3 f au a m L) :
  Jp f (a:Int) ((a+m:Nat):Int) L au (shown f 0 f.length) (A2 f a:Int) ((vN f f.length).length:Int) (f.length:Int) (E6 f au a m L f.length)=some (.inr (A8 (E4 f au a m L) f)):=by
 have l:=h.outG_len f.length (wL _)
 have j:(E6 f au a m L f.length).length≤1048576:=by unfold FF at l;rw[wG] at l;omega
 unfold Jp
 rw[vw (vz (zU _))]
 have q:(if decide ((f.length:Int)=(A2 f a:Int))=true then Aq (iter (λ(a:Int × (List AG))=>Ij L au a.1 a.2) (0,E6 f au a m L f.length)) λ(u:Unit)=>none else some (E6 f au a m L f.length))=some (FF f au a m L f.length):=by
  unfold FF
  by_cases c:f.length=A2 f a
  ·rw[vw (vz (by omega)),dQ h _ j,vw c];rfl
  ·rw[ne (by simp only[vx];omega),ne c,wS]
 rw[q,AD,vw (vz rfl),h.out_end]
 rfl
theorem B3.replaced(h:B3 f au a m L)(B:H7 f 0=some (shown f 0 f.length)):Kf f (a:Int) ((a+m:Nat):Int) L au=some (A8 (E4 f au a m L) f):=by
 have J:=JN f
 have M:=h.win
 have O:=h.fl
 unfold Kf
 have C:(if decide ((0:Int)<(a:Int))=true then AB (AN .i64 ((a:Int)-1)) λ(q:Int)=>AB (AL (shown f 0 f.length) q) λ(u:Int)=>AB (AN .i64 (u+1)) λ(l:Int)=>some l else some 0)=some (A2 f a:Int):=by
  unfold A2
  by_cases A:a=0
  ·subst A;rfl
  ·have:=HW (f:=f) (k:=a-1) (by omega)
   rw[vw (vz (by omega)),E8 (by omega) (by omega),AD,Lb (by omega),AD,Ae (by omega),AD,ne A]
 rw[B,AD,C,AD]
 obtain⟨b,E,F⟩:=FA (f:=λ(s:Int × Int × (List AG))=>Jp f (a:Int) ((a+m:Nat):Int) L au (shown f 0 f.length) (A2 f a:Int) s.1 s.2.1 s.2.2) f.length (λk w=>w=(((vN f k).length:Int),(k:Int),E6 f au a m L k)) (λb=>b=A8 (E4 f au a m L) f) (s:=(0,0,[])) (λk w I j=>by
  subst j
  exact .inl ⟨_,h.round I,rfl⟩) (λw j=>by
  subst j
  exact⟨_,h.last,rfl⟩) (by rw[lZ];rfl)
 rw[E,F,AD]
end
theorem qH(node:Int)(D:List AI)(C:1≤node∧node≤1073741824)(q:FS D)(u:CY D=0):OM (E5 node D)=some 0:=by
 have w:JC (AX.mk 0 0 [] [] (A1.mk 0 0 [] []) []):=by
  constructor<;>simp[CZ,HZ,PX]
 have A:JL (E5 node D).New (AX.mk 0 0 [] [] (A1.mk 0 0 [] []) [])=some true:=by
  show JL (AX.mk 0 0 [] [] (A1.mk 0 0 [] []) []) (AX.mk 0 0 [] [] (A1.mk 0 0 [] []) [])=_
  rw[iW _ _ w];simp
 have j:AN .i64 ((0:Int)+0)=some 0:=JR (by omega) (by omega)
 have B:iter (λ(a:Int)=>Kw (E5 node D) true 0 a) 0=some (.nrm ()):=by
  have:=CP (f:=λ(a:Int)=>Kw (E5 node D) true 0 a) (n:=5) (λ_=>(none:Option Int)) (λk l=>by
   unfold Kw
   rw[vw (by simp only[vx];omega),AZ (by simpa using l),AD,Ae (by omega)]
   have:(([(!true),(decide (0<((E5 node D).Attrs.length:Int))),(decide (0<((E5 node D).Steps.length:Int))),(decide ((0:Int)<0)),(decide (0<((E5 node D).Draw.length:Int)))]:List Bool)[k]!&&(!((k:Int)=(E5 node D).Kind)))=false:=by
    match k,l with
    | 0,_=>rfl
    | 1,_=>rfl
    | 2,_=>
     show(_&&(!((2:Int)=2)))=false
     rw[vz rfl,zG,yz]
    | 3,_=>rfl
    | 4,_=>rfl
   rw[this,ne (by decide),AD];rfl) (by unfold Kw;rw[ne (by decide)])
  rw[this,(wz).2 (λ_ _=>rfl)];rfl
 unfold OM
 rw[Ix,AD,ne (by show ¬ ((!(((0:Int)≤2)&&((2:Int)≤4)))=true);decide),A,AD]
 show AB (AN .i64 ((0:Int)+0)) _=_
 rw[j,AD]
 show AB (AN .i64 ((0:Int)+0)) _=_
 rw[j,AD]
 show AB (AN .i64 ((0:Int)+0)) _=_
 rw[j,AD]
 show AB (AN .i64 ((0:Int)+0)) _=_
 rw[j,AD,B,IC]
 show(if decide ((2:Int)=0)=true then _ else AB (CX node 1 1073741824) _)=_
 rw[ne (by decide),Ix,AD,ne (by simp;omega)]
 show(if decide ((2:Int)=1)=true then _ else if decide ((2:Int)=2)=true then AB (NC D) _ else _)=_
 rw[ne (by decide),vw (by decide),rh D q,u];rfl
theorem Zc{f}(h:∀e∈f,Bx e=0∧e.Attrs.length≤1048576):Li f:=h
theorem kf{d:Bc}{node:Int}{k:Nat}{f:List AG}{U:List Un}{l:List AG}(B:FP d node=some (k:Int))(C:k<d.Nodes.length)(E:d.Nodes[k]!.Flow=f)(F:1≤node∧node≤1073741824)
  (h:fL f U) (I:f.length≤1048576) (q:∀e∈f,Bx e=0∧e.Attrs.length≤1048576) (J:A8 U f=l):Kq d [E5 node (BT U)] node l=some true:=by
 have j:=Nf h.df.err
 have u:=nW j.st h.sm
 have M:=h.ul
 have w:=th (Aj (BT U)) f (Zc q) u
 have O:=Ws (Aj (BT U)) f
 have T:=h.sm.len
 obtain⟨x,V,A,a3⟩:=oW (BT U) (λs X=>by rcases (j.st s X).kind with h | h | h<;>omega) (by omega) (by omega)
 have Y:x.Cuts.length=f.length:=by
  have:=A.cnt
  rw[a3] at this
  have Z:=UY j.st
  rw[h.old] at Z
  omega
 have hd:=s7 f x A Y (Zc q) (by rw[a3];exact u) (by rw[a3];omega)
 have hA:NZ f (BT U)=some (A8 (Aj (BT U)) f):=by
  unfold NZ
  rw[V,AD,hd,AD,a3]
 have hi:AL [E5 node (BT U)] 0=some (E5 node (BT U)):=rfl
 unfold Kq
 rw[show((!(([E5 node (BT U)].length:Int)=1))==false)=true from rfl,An,hi,AD]
 rw[show(((!(([E5 node (BT U)].length:Int)=1))||(!((E5 node (BT U)).Kind=2)))==false)=true from rfl,An,AD]
 rw[ne (by show ¬ ((((!((1:Int)=1))||(!((2:Int)=2)))||(!(node=node)))=true);simp),B,AD,AZ C,AD,AD,qH node _ F h.df.ok h.df.err,AD,E]
 show AB (gd (decide ((0:Int)=0)==true) (NR (BT U))) _=_
 rw[vz rfl,show(true==true)=true from rfl,An,lj _ h.df.ok j,AD,h.old,vz rfl,vw (by rfl)]
 show AB (AB (NZ f (BT U)) _) _=_
 rw[hA,AD,Ya _ _ (by omega) w,AD,AD,h.done,J,vz rfl]
 rfl
theorem eM{n:AX}(j:Dz n=some 0):1≤n.ID∧n.ID≤1073741824:=by
 unfold Dz at j
 split at j
 ·cases j
 ·rename_i c
  simp only[wD,vx] at c
  omega
def KP(d:Bc):Prop:=∀n∈d.Nodes,n.Flow.length≤262144∧∀e∈n.Flow,e.Attrs.length≤349525
theorem VZ{α:Type}{μ}{c}(h:∀x,c≤μ x):∀l:List α,c * l.length≤(l.map μ).sum
 | []=>by simp
 | x::l=>by
  have j:=h x
  have q:=VZ h l
  simp only[wP,xJ,wK,Nat.mul_succ]
  omega
theorem nM{μ}{ν}{κ}(q:∀n,(n.Flow.map ν).sum≤μ n)(l:∀e,(e.Attrs.map κ).sum+4≤ν e)(u:∀a,3≤κ a){d:Bc}(A:(d.Nodes.map μ).sum≤1048576):KP d:=by
 intro n w
 have B:=IL (μ:=μ) w
 have C:=q n
 have E:=VZ (μ:=ν) (c:=4) (λe=>by have:=l e;omega) n.Flow
 refine⟨by omega,λe j=>?_⟩
 have F:=IL (μ:=ν) j
 have I:=l e
 have J:=VZ (μ:=κ) (c:=3) u e.Attrs
 omega
theorem tN{d:Bc}(h:F5 d)(l:Ed d=some 0):0<d.Nodes.length∧d.Nodes[0]!.ID=1:=by
 obtain⟨-,q⟩:=SJ h l
 unfold Ed at l
 split at l
 ·cases l
 rename_i w
 have j:0<d.Nodes.length:=by
  rcases Nat.eq_zero_or_pos d.Nodes.length with h | h
  ·exact absurd (vz (show((d.Nodes.length:Int))=0 by omega)) w
  ·exact h
 refine⟨j,?_⟩
 by_cases B1:d.Nodes[0]!.ID=1
 ·exact B1
 exfalso
 have u:iter (λ(a:Int)=>Gb d a) 0=some (.ext 5):=by
  refine Ch ?_
  have A:=q 0 j
  show Gb d ((0:Nat):Int)=_
  unfold Gb
  rw[vw (by simpa using j),AZ j,AD,A,AD,ne (by decide),vz (show((0:Nat):Int)=0 from rfl),vy (show ¬ (0:Int)<((0:Nat):Int) by omega),vy B1]
  rfl
 rw[u] at l
 cases l
theorem ZE(d:Bc) site(h:F5 d)(F:Ed d=some 0):∃n e,GJ d site=some (n,e)∧(e=0→2≤n∧n≤1073741824):=by
 obtain⟨T,B⟩:=SJ h F
 obtain⟨I,C⟩:=tN h F
 have U:=h.1
 unfold GJ
 rw[F,AD,ne (by decide)]
 split
 ·exact⟨_,_,rfl,λe=>by cases e⟩
 ·rename_i M
  simp only[wD,vx] at M
  have u:DV .i64 site 16=site * 65536:=by
   unfold DV
   have:(2:Int) ^ (min 16 (IntKind.i64).bits)=65536:=by decide
   rw[this]
   have:=By (z:=site * 65536) (by omega) (by omega)
   exact(WQ this).1
  have l:∀z:Int,Eu .i64 z 16=z / 65536:=by
   intro z
   unfold Eu
   have e:(2:Int) ^ (min 16 (IntKind.i64).bits)=65536:=by decide
   rw[e,Int.fdiv_eq_ediv_of_nonneg _ (by decide)]
  obtain⟨b,O,V⟩:=FA (f:=λ(a:Int × Int)=>Nq d site a.1 a.2) d.Nodes.length
   (λk q=>q.2=(k:Int)∧0≤q.1∧(1≤q.1∨k=0∧site=0)∧q.1≤site * 65536+65535) (λb=>1≤b∧b≤site * 65536+65535)
   (λk q J w=>by
    obtain⟨a,x⟩:=q
    obtain⟨rfl,A⟩:=w
    left
    unfold Nq
    dsimp only
    rw[vw (vz (show(k:Int)<(d.Nodes.length:Int) by omega)),AZ J,AD]
    unfold TJ
    rw[AD]
    have X:=eM (B k J)
    by_cases j:Eu .i64 d.Nodes[k]!.ID 16=site
    ·rw[vw (vz j),AD,Ae (by omega)]
     have Y:d.Nodes[k]!.ID≤site * 65536+65535:=by
      rw[l] at j
      omega
     exact⟨_,rfl,rfl,by dsimp only;omega,.inl (by dsimp only;omega),by dsimp only;omega⟩
    ·rw[ne (by simpa using j),AD,Ae (by omega)]
     refine⟨_,rfl,rfl,A.1,.inl ?_,A.2.2⟩
     rcases A.2.1 with E | E
     ·exact E
     ·exfalso
      rw[E.1,C,l] at j
      exact j (by have:=E.2;omega))
   (λq w=>by
    obtain⟨a,x⟩:=q
    obtain⟨rfl,A⟩:=w
    unfold Nq
    dsimp only
    rw[ne (by simp)]
    exact⟨_,rfl,by have:=A.2.1;dsimp only at this ⊢;omega,A.2.2⟩)
   (s:=(DV .i64 site 16,0)) ⟨rfl,by rw[u];dsimp only;omega,by rw[u];dsimp only;omega,by rw[u];dsimp only;omega⟩
  rw[O,AD]
  split
  ·exact⟨_,_,rfl,λe=>by cases e⟩
  ·rw[JR (by omega) (by omega),AD]
   exact⟨_,_,rfl,λ_=>by omega⟩
theorem qY{id rows cols}(h:2≤id∧id≤1073741824)(q:1≤rows∧rows≤1000∧1≤cols∧cols≤1000):Dz (AX.mk id 2 [] [] (A1.mk rows cols [] []) [])=some 0:=by
 unfold Dz
 dsimp only
 rw[ne (by simp;omega),ne (by simp;omega),Y3,AD,ne (by decide)]
 have t:F7 2=some false:=rfl
 have l:Iq 2=some false:=rfl
 have g:JE 2=some true:=rfl
 have d:HB 2=some false:=rfl
 have gc:LA (A1.mk rows cols [] [])=some 0:=by
  rw[es _ ⟨by simp,by simp,λc j=>by cases j⟩]
  unfold Mz
  rw[ne (by unfold F6;simp;omega)]
  rfl
 rw[t,l,g,d]
 show(AB (LA (A1.mk rows cols [] [])) λ(u:Int)=>_)=some 0
 rw[gc,AD,ne (by decide),gt _ _ (by simp)]
 rfl
theorem sp{id}(h:2≤id∧id≤1073741824){v}(q:v=[102,111,111,116]∨v=[101,110,100]):Dz (AX.mk id 4 [(AC.mk [107,105,110,100] v)] [(AG.mk 10 0 [])] (A1.mk 0 0 [] []) [])=some 0:=by
 have j:HM [(AC.mk [107,105,110,100] v)]=some 0:=by
  rcases q with rfl | rfl
  ·rw[Le _ (λa j=>by rw[wq] at j;subst j;decide) (by decide)];rfl
  ·rw[Le _ (λa j=>by rw[wq] at j;subst j;decide) (by decide)];rfl
 unfold Dz
 dsimp only
 rw[ne (by simp;omega),ne (by simp;omega),j,AD,ne (by decide)]
 have t:F7 4=some true:=rfl
 have l:Iq 4=some false:=rfl
 have g:JE 4=some false:=rfl
 have d:HB 4=some false:=rfl
 rw[t,l,g,d,Uw]
 show(AB (Gp [AG.mk 10 0 []] true) λ(u:Int)=>some u)=some 0
 rw[lY];rfl
theorem sW{id}(h:2≤id∧id≤1073741824){l}(j:HM l=some 0):Dz (AX.mk id 5 l [] (A1.mk 0 0 [] []) [])=some 0:=by
 unfold Dz
 dsimp only
 rw[ne (by simp;omega),ne (by simp;omega),j,AD,ne (by decide)]
 have t:F7 5=some false:=rfl
 have l:Iq 5=some false:=rfl
 have g:JE 5=some false:=rfl
 have d:HB 5=some false:=rfl
 rw[t,l,g,d,Uw]
 show(AB (MF []) λ(q:Int)=>some q)=some 0
 rw[Zh _ (by simp) (λo u=>by cases u)];rfl
noncomputable def Ep(d1:Bc)(q:Am)(j:List UInt8)(u g2:Int)(l:List Ai)(e1 C:Int)(t1:Am)(n1:AX):Option (As Unit (Int ⊕ (As Unit Bool))):=
 AB (
  if(decide (C=0)) then(
   AB (Gd d1 q j) λ(J:Int)=>
   some J
  ) else(
   some C
  )
 ) λ(w:Int)=>
 AB (gd ((decide (w=0))==true) (FP d1 q.Node)) λ(M:Int)=>
 AB (gd ((decide (w=0))==true) (AL d1.Nodes M)) λ(O:AX)=>
 AB (gd ((decide (w=0))==true) (L3 O.Kind n1.Kind)) λ(T:Bool)=>
 AB (
  if((w=0)&&(!T)) then(
   some 8
  ) else(
   some w
  )
 ) λ(E:Int)=>
 AB (
  if(decide (E=0)) then(
   some g2
  ) else(
   some E
  )
 ) λ(F:Int)=>
 if(!(F=0)) then(
  if(((!(e1=F))||(!((l.length:Int)=0)))||(!((t1.Node=0)&&((t1.From=0)&&((t1.To=0)&&true))))) then(
   some (.ext (.inr (.ext false)))
  ) else(
   some (.nrm ())
  )
 ) else(
  AB (FP d1 q.Node) λ(U:Int)=>
  AB (AL d1.Nodes U) λ(I:AX)=>
  AB (LF I.Flow) λ(V:List AG)=>
  AB (KL V q.From) λ(X:List AC)=>
  AB (gd (((!(e1=0))||(!((l.length:Int)=2)))==false) (AL l 0)) λ(Y:Ai)=>
  AB (gd (((!(e1=0))||(!((l.length:Int)=2)))==false) (IY Y (Ai.mk 0 0 (AX.mk n1.ID n1.Kind n1.Attrs n1.Flow (A1.mk n1.Grid.Rows n1.Grid.Cols [] []) []) [] [] (DW.mk [] [] [] [] []) []))) λ(A:Bool)=>
  AB (gd ((((!(e1=0))||(!((l.length:Int)=2)))||(!A))==false) (AN .i64 (q.From+1))) λ(B:Int)=>
  AB (gd (((((!(e1=0))||(!((l.length:Int)=2)))||(!A))||(!(t1.From=B)))==false) (CS l 1 (l.length:Int))) λ(Z:List Ai)=>
  AB (gd (((((!(e1=0))||(!((l.length:Int)=2)))||(!A))||(!(t1.From=B)))==false) (Kf I.Flow q.From q.To [(AG.mk 0 u X)] j)) λ(r8:List AG)=>
  AB (gd (((((!(e1=0))||(!((l.length:Int)=2)))||(!A))||(!(t1.From=B)))==false) (Kq d1 Z q.Node r8)) λ(r9:Bool)=>
  if(((((!(e1=0))||(!((l.length:Int)=2)))||(!A))||(!(t1.From=B)))||(!r9)) then(
   some (.ext (.inr (.ext false)))
  ) else(
   some (.nrm ())
  )
 )
section
variable{d:Bc}{s:Am}{au:List UInt8}{nx g2:Int}{n:AX}
theorem Zp{f}(j:f≠0):Ep d s au nx g2 [] f f (Am.mk 0 0 0) n=some (.nrm ()):=by
 unfold Ep
 rw[vy j,ne (by decide),AD,vy j,show(false==true)=false from rfl,EM,AD,EM,AD,EM,AD,ne (by simp),AD,vy j,ne (by decide),AD,vy j,vw (by decide),vz rfl]
 rfl
theorem gT{e}(j:e≠0)(hA:Gd d s au=some e):Ep d s au nx g2 [] e 0 (Am.mk 0 0 0) n=some (.nrm ()):=by
 unfold Ep
 rw[vw (by decide),hA,AD,AD,vy j,show(false==true)=false from rfl,EM,AD,EM,AD,EM,AD,ne (by simp),AD,vy j,ne (by decide),AD,vy j,vw (by decide),vz rfl]
 rfl
theorem mJ{k:Nat}(hA:Gd d s au=some 0)(j:FP d s.Node=some (k:Int))(l:k<d.Nodes.length)(hp:Ii d.Nodes[k]!.Kind n.Kind=false):Ep d s au nx g2 [] 8 0 (Am.mk 0 0 0) n=some (.nrm ()):=by
 unfold Ep
 rw[vw (by decide),hA,AD,AD,show((decide ((0:Int)=0))==true)=true from rfl,An,j,AD,An,AZ l,AD,An,SK,hp,AD,vw (by decide),AD,ne (by decide),AD,vw (by decide)]
 rfl
theorem mH{k:Nat}(hA:Gd d s au=some 0)(j:FP d s.Node=some (k:Int))(l:k<d.Nodes.length)(hp:Ii d.Nodes[k]!.Kind n.Kind=true)(hg:g2≠0):Ep d s au nx g2 [] g2 0 (Am.mk 0 0 0) n=some (.nrm ()):=by
 unfold Ep
 rw[vw (by decide),hA,AD,AD,show((decide ((0:Int)=0))==true)=true from rfl,An,j,AD,An,AZ l,AD,An,SK,hp,AD,ne (by decide),AD,vw (by decide),AD,vy hg,vw (by decide),vz rfl]
 rfl
def Eg(n:AX):Ai:=Ai.mk 0 0 n [] [] (DW.mk [] [] [] [] []) []
theorem tY{k:Nat}(hA:Gd d s au=some 0)(B:FP d s.Node=some (k:Int))(q:k<d.Nodes.length)(hp:Ii d.Nodes[k]!.Kind n.Kind=true)
  {o:Ai} {v:List AG} {t:List AC} {j:List AG} {a:Nat} (C:LF d.Nodes[k]!.Flow=some v) (E:KL v s.From=some t)
  (u:n=AX.mk nx n.Kind n.Attrs n.Flow (A1.mk n.Grid.Rows n.Grid.Cols [] []) []) (F:IY (Eg n) (Eg n)=some true) (w:s.From=(a:Int)) (I:a≤1048576)
  (A:Kf d.Nodes[k]!.Flow s.From s.To [AG.mk 0 nx t] au=some j) (J:Kq d [o] s.Node j=some true):Ep d s au nx 0 [Eg n,o] 0 0 (Am.mk s.Node ((a:Int)+1) ((a:Int)+1)) n=some (.nrm ()):=by
 have B1:n.ID=nx:=by rw[u]
 have l:IY (Eg n) (Ai.mk 0 0 (AX.mk n.ID n.Kind n.Attrs n.Flow (A1.mk n.Grid.Rows n.Grid.Cols [] []) []) [] [] (DW.mk [] [] [] [] []) [])=some true:=by
  rw[B1,← u];exact F
 unfold Ep
 rw[vw (by decide),hA,AD,AD,show((decide ((0:Int)=0))==true)=true from rfl,An,B,AD,An,AZ q,AD,An,SK,hp,AD,ne (by decide),AD,vw (by decide),AD,ne (by decide)]
 rw[AD,AZ q,AD,C,AD,E,AD]
 rw[show(((!((0:Int)=0))||(!(([Eg n,o].length:Int)=2)))==false)=true from rfl,An,show AL [Eg n,o] 0=some (Eg n) from rfl,AD,An,l,AD]
 rw[show((((!((0:Int)=0))||(!(([Eg n,o].length:Int)=2)))||(!true))==false)=true from rfl,An,w,JR (by omega) (by omega),AD]
 rw[show(((((!((0:Int)=0))||(!(([Eg n,o].length:Int)=2)))||(!true))||(!((Am.mk s.Node ((a:Int)+1) ((a:Int)+1)).From=(a:Int)+1)))==false)=true by simp,An,show CS [Eg n,o] 1 ([Eg n,o].length:Int)=some [o] from rfl,AD,An]
 rw[w] at A
 rw[A,AD,An,J,AD,ne (by simp)]
end
theorem qC(o:Ai)(j:JC o.New)(E:o.Attrs.length≤1048576)(hd:o.Steps.length≤1099511627776∧∀s∈o.Steps,Gn s)(hg:o.Grid.Rows.length≤1048576∧o.Grid.Cols.length≤1048576∧(o.Grid.Cells.length≤1048576∧∀x∈o.Grid.Cells,x.Attrs.length≤1073741824)∧o.Grid.Split.length≤1048576∧o.Grid.Merge.length≤1048576)(l:o.Draw=[]):IY o o=some true:=by
 unfold IY
 have q:((o.Kind=o.Kind)&&(o.Node=o.Node))=true:=by simp
 have u:JL o.New o.New=some true:=by rw[iW _ _ j];simp
 have w:GI o.Attrs o.Attrs=some true:=by rw[M7 _ _ (by omega)];simp
 have A:NP o.Steps o.Steps=some true:=by rw[om _ _ (by omega) hd.2];simp
 have B:Pt o.Grid o.Grid=some true:=by
  obtain⟨F,g2,⟨g3,g4⟩,I,J⟩:=hg
  unfold Pt
  rw[gf _ _ (by omega),gf _ _ (by omega),co _ _ (by omega) g4,VM _ _ (by omega),VM _ _ (by omega)]
  simp
 have C:Jy o.Draw o.Draw=some true:=by
  rw[l]
  unfold Jy
  rw[ne (by simp),Ch (r:=.nrm ()) (by unfold NS;rw[ne (by simp)])];rfl
 rw[q,u,w,A,B,C];rfl
theorem lm{n}(h:JC n):IY (Eg n) (Eg n)=some true:=
 qC (Eg n) h (by simp[Eg]) ⟨by simp[Eg],λs j=>by cases j⟩ (by simp[Eg]) rfl
theorem lO{nx}{t}(h:2≤nx∧nx≤1073741824)(j:Ao t false=0):Bx ⟨0,nx,t⟩=0:=by
 unfold Bx
 rw[ne (by simp;omega),ne (by simp;omega)]
 exact j
theorem tP{x y:Ai} : app 360 [x] [y]=some [x,y]:=by unfold app;rw[vw (by simp)];rfl
theorem W2(d:Bc)(s:Am)(au:List UInt8)(site:Int)(h:F5 d)(hs:KP d)(ha:au.length≤1073741824)(K:Int)(A:List AC)(F:List AG)(O T:Int)
  (hN:∀id:Int,2≤id∧id≤1073741824→Dz (AX.mk id K A F (A1.mk O T [] []) [])=some 0∧JC (AX.mk id K A F (A1.mk O T [] []) [])) (nx g2:Int)
  (ad:Ed d=some 0→GJ d site=some (nx,g2)) :
  ∃c t e,HX d s (AX.mk 0 K A F (A1.mk O T [] []) []) site au=some (c,t,e)∧Ep d s au nx g2 c e 0 t (AX.mk nx K A F (A1.mk O T [] []) [])=some (.nrm ()):=by
 rcases qj d s au h ha with ⟨e,l,w,h2⟩ | ⟨k,Y,hf,B1,hn,-,B,f0,f1,f2,U,h2,w⟩
 ·refine⟨[],Am.mk 0 0 0,e,?_,gT l (by unfold Gd;rw[h2,AD,vw (Bb l)])⟩
  unfold HX;rw[w,CL,vw (Bb l)]
 by_cases q:au≠[]∧Dt au=false
 ·rw[vw q] at w
  refine⟨[],Am.mk 0 0 0,23,?_,gT (by decide) ?_⟩
  ·unfold HX;rw[w,CL,vw (by decide)]
  ·unfold Gd
   rw[h2,AD,ne (by decide),vy q.1,show((!false)==true)=true from rfl,An,SA _ (by omega),q.2,AD,vw (by decide)]
 rw[ne q] at w
 have a0:Je au:=⟨by
  by_cases e:au=[]
  ·exact .inl e
  ·right
   by_cases e2:Dt au=true
   ·exact e2
   ·exact absurd ⟨e,yG.2 e2⟩ q,ha⟩
 have hA:Gd d s au=some 0:=by
  unfold Gd
  rw[h2,AD,ne (by decide)]
  by_cases e:au=[]
  ·subst e;rfl
  ·have hv:Dt au=true:=by rcases a0.v with h | h;exact absurd h e;exact h
   rw[vy e,show((!false)==true)=true from rfl,An,SA _ (by omega),hv,AD,ne (by decide)]
 have C:FP d s.Node=some (k:Int):=by rw[VV d s.Node h.1,hf]
 cases hp:Ii d.Nodes[k]!.Kind K with
 | false=>
  refine⟨[],Am.mk 0 0 0,8,?_,mJ hA C Y hp⟩
  unfold HX
  rw[w,CL,ne (by decide)]
  dsimp only
  rw[US,hp,AD,vw (by decide)]
 | true=>
  have V:=ad U
  by_cases hg:g2≠0
  ·refine⟨[],Am.mk 0 0 0,g2,?_,mH hA C Y hp hg⟩
   unfold HX
   rw[w,CL,ne (by decide)]
   dsimp only
   rw[US,hp,AD,ne (by decide),V,CL,vw (Bb hg)]
  have ae:g2=0:=by omega
  subst ae
  obtain⟨n',e',hb,af⟩:=ZE d site h U
  rw[V] at hb
  obtain⟨rfl,rfl⟩:nx=n'∧0=e':=by simpa using hb
  have hr:=af rfl
  obtain⟨ag,ah⟩:=hN nx hr
  obtain⟨a1,E⟩:=hs _ (BN Y)
  have j:=hn.ok.fl
  have a2:=(SJ h U).2 k Y
  generalize I:d.Nodes[k]! = n at B1 hn B f2 j w a1 E a2 hp
  have hv:=JN n.Flow
  have al:=Qd n.Flow
  obtain⟨a,ea⟩:∃a:Nat,s.From=(a:Int):=⟨s.From.toNat,by omega⟩
  obtain⟨m,em⟩:∃m:Nat,s.To=((a+m:Nat):Int):=⟨(s.To-s.From).toNat,by omega⟩
  have a6:FR n.Flow=0:=by
   unfold JS at B
   split at B
   ·rename_i Z;exact absurd B Z
   ·rename_i Z;simpa using Z
  have hE:∀x∈n.Flow,ES x:=λx Z=>⟨by have:=(hn.ok.fa x Z).1;omega,(hn.ok.fa x Z).2⟩
  have a7:H7 n.Flow 0=some (shown n.Flow 0 n.Flow.length):=ij _ 0 hE a6 j
  have hF:Li n.Flow:=s6 a6 λe l=>by have:=E e l;omega
  have J:P9 n.Flow:=λe l=>⟨Ho (hF e l).1,(hF e l).2⟩
  have M:a<(BI n.Flow).length:=by omega
  have a8:Ao (Gt n.Flow a) false=0∧(Gt n.Flow a).length≤1048574:=by
   have l1:Ao (ER n.Flow a).Attrs false=0∧(ER n.Flow a).Attrs.length≤349525:=by
    unfold ER
    split
    ·exact⟨by decide,by decide⟩
    ·exact⟨(J _ (BN (HW (by omega)))).1,E _ (BN (HW (by omega)))⟩
   have:=sy l1.1 (J _ (BN (HW M))).1 l1.2 (E _ (BN (HW M)))
   exact⟨this.1,by have:=this.2;unfold Gt GN;omega⟩
  have aa:=tj au M j J
  have X:B3 n.Flow au a m [⟨0,nx,Gt n.Flow a⟩]:=⟨a0,by omega,a1,hF,λe l=>by rw[wq] at l;subst l;exact⟨lO hr a8.1,a8.2⟩,by simp⟩
  have ai:=X.steps (n:=n) rfl s ea em
  have ab:=X.d57
  have ac:=X.replaced a7
  have aj:KL (I6 n.Flow) s.From=some (Gt n.Flow a):=by rw[ea];exact qA M j J
  have u:=eM a2
  rw[B1] at u
  have ak:=kf C Y (by rw[I]) u ab j hF rfl
  refine⟨[Eg (AX.mk nx K A F (A1.mk O T [] []) []),E5 s.Node (BT (E4 n.Flow au a m [⟨0,nx,Gt n.Flow a⟩]))],Am.mk s.Node ((a:Int)+1) ((a:Int)+1),0,?_,
   tY (n:=AX.mk nx K A F (A1.mk O T [] []) []) hA C Y (by rw[I];exact hp) (by rw[I];exact oK _ a7 j) aj rfl (lm ah) ea (by omega) (by rw[I,ea,em];exact ac) ak⟩
  unfold HX
  rw[w,CL,ne (by decide)]
  dsimp only
  rw[US,hp,AD,ne (by decide),V,CL,ne (by decide),ag,AD,ne (by decide),ea]
  show(AB (Nh (Lj n au) (a:Int)) _)=_
  rw[aa,AD]
  show(FG (MP (Lj n au) s [⟨0,nx,Gt n.Flow a⟩]) _)=_
  rw[ai,GQ,ne (by decide)]
  show(AB (app 360 [Eg (AX.mk nx K A F (A1.mk O T [] []) [])] [E5 s.Node (BT (E4 n.Flow au a m [⟨0,nx,Gt n.Flow a⟩]))]) _)=_
  rw[tP,AD]
  rfl
section
variable{d:Bc}{s:Am}{rows cols site:Int}{attrs:List AC}{au:List UInt8}{nx g2:Int}
theorem T2 x a b:CX x a b=some (decide (a≤x∧x≤b)):=by
 unfold CX;congr 1;rw[wo];simp
theorem Ut{id K q u}{A}{F}(hA:CZ A)(l:F=[]∨F=[AG.mk 10 0 []]):JC (AX.mk id K A F (A1.mk q u [] []) []):=by
 refine⟨hA,?_,?_,⟨by simp,by simp,λx w=>by cases w⟩,by simp⟩
 ·rcases l with rfl | rfl<;>simp
 ·rcases l with rfl | rfl
  ·intro e j;cases j
  ·intro e j
   have:e=AG.mk 10 0 []:=by simpa using j
   subst this;exact fM
theorem mf(h:F5 d)(A:KP d)(B:au.length≤1073741824)(l:Ed d=some 0→GJ d site=some (nx,g2)):GE d s rows cols site attrs au nx g2 0=some (.inl 1):=by
 unfold GE
 rw[vw (by decide),vw (by decide)]
 by_cases j:1≤rows∧rows≤1000∧1≤cols∧cols≤1000
 ·obtain⟨c,t,e,C,E⟩:=W2 d s au site h A B 2 [] [] rows cols (λid B1=>⟨qY B1 j,Ut fM (.inl rfl)⟩) nx g2 l
  have q:LG d s rows cols site au=some (c,t,e):=by
   unfold LG
   rw[ne (by simp;omega),C,GQ]
  rw[q,GQ,T2,T2,vz (show 1≤rows∧rows≤1000 from⟨j.1,j.2.1⟩),AD,show((!true)==false)=true from rfl,An,vz (show 1≤cols∧cols≤1000 from j.2.2),AD,ne (by decide)]
  show Aq (Ep d s au nx g2 c e 0 t (AX.mk nx 2 [] [] (A1.mk rows cols [] []) [])) _=_
  rw[E];rfl
 ·have q:LG d s rows cols site au=some ([],Am.mk 0 0 0,2):=by
   unfold LG
   rw[vw (by simp;omega)]
  rw[q,GQ,T2,T2,AD]
  have F:∃b:Bool,gd ((!(1≤rows∧rows≤1000))==false) (some (decide (1≤cols∧cols≤1000)))=some b∧((!(1≤rows∧rows≤1000))||(!b))=true:=by
   by_cases w:1≤rows∧rows≤1000
   ·rw[vz w]
    exact⟨_,rfl,by rw[vy (by omega)];rfl⟩
   ·rw[vy w]
    exact⟨_,rfl,rfl⟩
  obtain⟨b,I,u⟩:=F
  rw[I,AD,vw u]
  show Aq (Ep d s au nx g2 [] 2 2 (Am.mk 0 0 0) _) _=_
  rw[Zp (by decide)];rfl
theorem g8(h:F5 d)(w:KP d)(A:au.length≤1073741824)(q:Ed d=some 0→GJ d site=some (nx,g2))(b:Bool)(v:List UInt8)(u:v=if b then [101,110,100] else [102,111,111,116]) :
  ∃c t e,PC d s b site au=some (c,t,e)∧Ep d s au nx g2 c e 0 t (AX.mk nx 4 [AC.mk [107,105,110,100] v] [AG.mk 10 0 []] (A1.mk 0 0 [] []) [])=some (.nrm ()):=by
 have j:v=[102,111,111,116]∨v=[101,110,100]:=by subst u;cases b<;>simp
 have hA:CZ [AC.mk [107,105,110,100] v]:=by
  refine Gc (ch:=false) ?_ (by simp)
  rcases j with rfl | rfl<;>rfl
 obtain⟨c,t,e,l,B⟩:=W2 d s au site h w A 4 [AC.mk [107,105,110,100] v] [AG.mk 10 0 []] 0 0 (λid B1=>⟨sp B1 j,Ut hA (.inr rfl)⟩) nx g2 q
 refine⟨c,t,e,?_,B⟩
 unfold PC
 subst u
 cases b
 ·rw[ne (by decide),AD]
  rw[ne (by decide)] at l
  rw[l,GQ]
 ·rw[vw rfl,AD]
  rw[vw rfl] at l
  rw[l,GQ]
theorem oO(h:F5 d)(l:KP d)(q:au.length≤1073741824)(j:Ed d=some 0→GJ d site=some (nx,g2)):GE d s rows cols site attrs au nx g2 1=some (.inl 2):=by
 obtain⟨c,t,e,u,w⟩:=g8 (s:=s) h l q j false [102,111,111,116] rfl
 unfold GE
 rw[vw (by decide),ne (by decide),ne (by decide),show decide ((1:Int)=2)=false from rfl,u,GQ]
 show Aq (Ep d s au nx g2 c e 0 t (AX.mk nx 4 [AC.mk [107,105,110,100] [102,111,111,116]] [AG.mk 10 0 []] (A1.mk 0 0 [] []) [])) _=_
 rw[w];rfl
theorem jr(h:F5 d)(l:KP d)(q:au.length≤1073741824)(j:Ed d=some 0→GJ d site=some (nx,g2)):GE d s rows cols site attrs au nx g2 2=some (.inl 3):=by
 obtain⟨c,t,e,u,w⟩:=g8 (s:=s) h l q j true [101,110,100] rfl
 unfold GE
 rw[vw (by decide),ne (by decide),ne (by decide),show decide ((2:Int)=2)=true from rfl,u,GQ]
 show Aq (Ep d s au nx g2 c e 0 t (AX.mk nx 4 [AC.mk [107,105,110,100] [101,110,100]] [AG.mk 10 0 []] (A1.mk 0 0 [] []) [])) _=_
 rw[w];rfl
theorem pr(h:F5 d)(A:KP d)(B:au.length≤1073741824)(hA:CZ attrs)(C:attrs.length≤1048576)(l:Ed d=some 0→GJ d site=some (nx,g2)):GE d s rows cols site attrs au nx g2 3=some (.inl 4):=by
 have j:=Le attrs hA.2 (by omega)
 have q:=QX attrs false hA.2 (by omega)
 unfold GE
 rw[vw (by decide),ne (by decide),vw (by decide)]
 by_cases u:Ao attrs false=0
 ·rw[u] at j q
  obtain⟨c,t,e,E,F⟩:=W2 d s au site h A B 5 attrs [] 0 0 (λid B1=>⟨sW B1 j,Ut hA (.inl rfl)⟩) nx g2 l
  have w:LU d s attrs site au=some (c,t,e):=by
   unfold LU
   rw[j,AD,ne (by decide),tW 32 attrs (by decide) C,AD,E,GQ]
  rw[w,GQ,q,AD]
  show Aq (Ep d s au nx g2 c e 0 t (AX.mk nx 5 attrs [] (A1.mk 0 0 [] []) [])) _=_
  rw[F];rfl
 ·have w:LU d s attrs site au=some ([],Am.mk 0 0 0,Ao attrs false):=by
   unfold LU
   rw[j,AD,vw (Bb u)]
  rw[w,GQ,q,AD]
  show Aq (Ep d s au nx g2 [] (Ao attrs false) (Ao attrs false) (Am.mk 0 0 0) _) _=_
  rw[Zp u];rfl
end
theorem nd(d:Bc)(s:Am)(rows cols site:Int)(attrs:List AC)(au:List UInt8)(h:F5 d)(l:KP d)(q:au.length≤1073741824)(hA:CZ attrs)(C:attrs.length≤1048576) :
  T8 d s rows cols site attrs au=some true:=by
 obtain⟨e,A,E⟩:=Ye d h
 unfold T8 Ti
 rw[AD,ne (by decide),E,AD]
 have key:∀nx g2,(Ed d=some 0→GJ d site=some (nx,g2))→iter (λ(a:Int)=>GE d s rows cols site attrs au nx g2 a) 0=some (.nrm ()):=by
  intro nx g2 j
  rw[DP (mf h l q j),DP (oO h l q j),DP (jr h l q j),DP (pr h l q hA C j)]
  exact Ch (by unfold GE;rw[ne (by decide)])
 by_cases w:e=0
 ·subst w
  obtain⟨n,F,B,-⟩:=ZE d site h A
  rw[vw (by decide),B,CL,CL,key n F (λ_=>B)]
  rfl
 ·rw[ne (by simpa using w),CL,key 0 e (λu=>by rw[A] at u;injection u with u;exact absurd u w)]
  rfl
end Go.Proofs.YtdafahjmopdleaaGreatDoor.Al
