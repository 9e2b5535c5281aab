/- Plain laws over the models, a part of them. -/
import Derived.Test.YtmeadkhpiobenaaGreatDoorPL1
set_option linter.all false
set_option linter.unusedVariables false
set_option linter.unusedSimpArgs false
namespace Go.Proofs.YtmeadkhpiobenaaGreatDoor.Al
open Go
def A7(v:Am):AZ:=⟨v.id,v.parent,v.visible⟩
def Gd(d:Aa)(j:List Am):Prop:=(j.Pairwise λa b=>a.id≠b.id)∧∀w∈j,Cj d w.id
theorem iZ:∀(l A:List Int),l.Pairwise (· ≠ ·)→(∀z∈l,z∈A)→l.length≤A.length:=by
 intro l
 induction l with
 | nil=>intro A _ _;exact sh _
 | cons a r w=>
  intro A hp j
  rw[tq] at hp
  have m:=j a (rg ..)
  have:=w (A.erase a) hp.2 λz q=>(List.mem_erase_of_ne (λe=>hp.1 z q e.symm)).2 (j z (rY _ q))
  rw[List.length_erase_of_mem m] at this
  have:0<A.length:=List.length_pos_of_mem m
  simp;omega
theorem Gd.len{d:Aa}{j:List Am}(h:Gd d j):j.length≤d.Nodes.length:=by
 have:=iZ (j.map (·.id)) (d.Nodes.map (·.ID)) (by rw[tt];exact h.1) (λz l=>by
  obtain⟨w,m,rfl⟩:=sM.1 l
  obtain⟨k,q⟩:=h.2 w m
  obtain⟨A,B⟩:=Ed q
  exact sM.2 ⟨d.Nodes[k]!,Bz A,B⟩)
 simpa using this
theorem Gd.snoc{d}{j}(h:Gd d j){v:Am}(m:Cj d v.id)(q:B1 j v.id=false):Gd d (j++[v]):=by
 refine⟨List.pairwise_append.2 ⟨h.1,by simp,λa A b B e=>?_⟩,λw l=>?_⟩
 ·obtain rfl:=tM.1 B
  have:B1 j b.id=true:=by unfold B1;rw[sf];exact⟨a,A,by simpa using e⟩
  rw[q] at this;cases this
 ·rcases sp.1 l with l | l
  ·exact h.2 w l
  ·obtain rfl:=tM.1 l;exact m
theorem Z5{d}(h:Da d):∀(n:Nat) (j:List Am) (v:Am),Cj d v.id→Gd d j→Gd d (CY d n j v)∧Dn d (CY d n j v)≤Dn d j:=by
 intro n
 induction n with
 | zero=>intro j v _ hg;exact⟨hg,rN _⟩
 | succ n E=>
  intro j v B hg
  unfold CY
  split
  ·exact⟨hg,rN _⟩
  ·rename_i l
   have l:B1 j v.id=false:=by simpa using l
   have F:=UF h B
   have key:∀(ks:List Am) (a:List Am),(∀w∈ks,Cj d w.id)→Gd d a→Gd d (ks.foldl (λa w=>CY d n a w) a)∧Dn d (ks.foldl (λa w=>CY d n a w) a)≤Dn d a:=by
    intro ks
    induction ks with
    | nil=>intro a _ m;exact⟨m,rN _⟩
    | cons w r q=>
     intro a C m
     obtain⟨A,g2⟩:=E a w (C w (rg ..)) m
     obtain⟨g3,g4⟩:=q (CY d n a w) (λz I=>C z (rY _ I)) A
     exact⟨g3,by rw[sj];omega⟩
   obtain⟨A,g2⟩:=key _ (j++[v]) F (hg.snoc B l)
   exact⟨A,rZ g2 (ZI d j [v])⟩
theorem lQ(l:List Am) id(B:l.length≤1048576):∃r,IG (l.map A7) id=some r∧decide (0≤r)=B1 l id:=by
 unfold IG
 have h:=Bx (f:=λ(a:Int)=>Hp (l.map A7) id a) (n:=l.length) (λk=>if l[k]!.id=id then some (k:Int) else none) (λk j=>by
  have q:k<(l.map A7).length:=by simpa using j
  unfold Hp
  rw[rF (by simpa using j),D9 q,AD,uY]
  show(if decide ((A7 l[k]).ID=id)=true then _ else _)=_
  rw[re l k j]
  by_cases h:l[k].id=id
  ·rw[rF (by rw[rJ];exact h),rF h];rfl
  ·rw[rE (by rw[rJ];exact h),rE h,Ar (by omega)];rfl) (by unfold Hp;rw[rE (by simp)])
 rw[h]
 cases w:(List.range l.length).findSome? λ(k:Nat)=>if l[k]!.id=id then some (k:Int) else none with
 | none=>
  refine⟨-1,rfl,?_⟩
  rw[se] at w
  have:B1 l id=false:=by
   unfold B1
   rw[uz]
   intro v A
   obtain⟨k,j,rfl⟩:=sJ.1 A
   have:=w k (rp.2 j)
   rw[re l k j] at this
   split at this
   ·cases this
   ·rename_i h;simpa using h
  rw[this];rfl
 | some r=>
  obtain⟨k,j,m⟩:=sN w
  have j:=rp.1 j
  rw[re l k j] at m
  split at m
  ·rename_i h
   cases m
   refine⟨(k:Int),rfl,?_⟩
   have:B1 l id=true:=by
    unfold B1
    rw[sf]
    exact⟨l[k],ry j,by simpa using h⟩
   rw[this];simp
  ·cases m
noncomputable def Oa(v:Am)(g:BF)(r:List Ao):List Am:=(r.filter λc=>!(c.Ref=0)).map (HN v g)
theorem WK v g(x:Ao) r:Oa v g (x::r)=(if x.Ref=0 then [] else [HN v g x])++Oa v g r:=by
 unfold Oa
 rw[tj]
 by_cases h:x.Ref=0<;>simp[h]
def lj(d:Aa)(n:Nat):Prop:=∀(j:List Am) (v:Am),Cj d v.id→Dn d j<n→Gd d j→CA n (j.map A7) d (A7 v)=some ((CY d n j v).map A7)
theorem gY{d:Aa}(h:Da d):∀n,lj d n:=by
 intro n
 induction n with
 | zero=>intro A v _ hu;omega
 | succ n IH=>
  intro A v hv hu hg
  have hm:=h.ok.1
  have av:=hg.len
  show IZ (λm F B=>CA n m F B) (A.map A7) d (A7 v)=_
  unfold IZ
  obtain⟨r,r1,r2⟩:=lQ A v.id (by omega)
  rw[show(A7 v).ID=v.id from rfl,r1,AD,r2]
  by_cases hs:B1 A v.id=true
  ·rw[rF hs]
   unfold CY
   rw[rF hs]
  ·rw[rE hs]
   have a7:B1 A v.id=false:=by simpa using hs
   have aw:=VP hv a7
   have a8:=hg.snoc hv a7
   obtain⟨U,ai,aa,ab,ax,ac⟩:=h.node hv
   obtain⟨kk,a0⟩:=hv
   have a1:Gf d v.id=some (kk:Int):=by rw[PD d v.id hm,a0]
   have ad:AN d.Nodes (kk:Int)=some (Bq d v.id):=by rw[a0] at ac;exact ac
   have ae:app 24 (A.map A7) [A7 v]=some ((A++[v]).map A7):=by
    unfold app
    rw[rF ⟨by simp;omega,by simp;omega⟩]
    simp
   rw[ae,AD,a1,AD,ad,AD]
   have hR:CY d (n+1) A v=(kids d v (Bq d v.id)).foldl (λa w=>CY d n a w) (A++[v]):=by
    conv=>lhs;unfold CY
    rw[rE hs]
   rw[hR]
   unfold kids
   rw[List.foldl_append,List.foldl_append]
   have O:=UF h ⟨kk,a0⟩
   unfold kids at O
   generalize hN:Bq d v.id=N at *
   have C:∀(a:List Am) (w:Am),Cj d w.id→Dn d a<n→Gd d a→CA n (a.map A7) d (A7 w)=some ((CY d n a w).map A7)∧Dn d (CY d n a w)<n∧Gd d (CY d n a w):=λa w V ha af=>by
    obtain⟨g1,g2⟩:=Z5 h n a w V af
    exact⟨IH a w V ha af,by omega,g1⟩
   have ay:=U.ok.fl
   have az:=U.ok.gr.1
   have w1:=G8 (f:=λ(a:Int × (List AZ))=>FQ d (A7 v) (λm F B=>CA n m F B) N a.1 a.2) N.Flow (λ(c:List Am) i=>((i:Int),c.map A7))
    (λr c=>(((CW r).map λid=>(⟨id,v.id,v.visible⟩:Am)).foldl (λa w=>CY d n a w) c).map A7) (λi c=>(Dn d c<n∧Gd d c)∧∀x∈N.Flow,x.Ref≠0→Cj d x.Ref)
    (λi c I ⟨⟨Z,c2⟩,c3⟩=>by
     left
     show ∃c',FQ d (A7 v) _ N (i:Int) (c.map A7)=_∧_
     unfold FQ
     rw[rF (by simpa using I),Af I,AD,Ar (by omega)]
     by_cases E:N.Flow[i]!.Ref=0
     ·refine⟨c,by rw[rH E];rfl,⟨⟨Z,c2⟩,c3⟩,?_⟩
      rw[Qn,rF E,sc]
     ·obtain⟨B,s2,s3⟩:=C c ⟨N.Flow[i]!.Ref,v.id,v.visible⟩ (c3 _ (Bz I) E) Z c2
      refine⟨_,?_,⟨⟨s2,s3⟩,c3⟩,?_⟩
      ·rw[rG E,rF (by decide)]
       show AC (AC (CA n (c.map A7) d (A7 ⟨N.Flow[i]!.Ref,v.id,v.visible⟩)) _) _=_
       rw[B];rfl
      ·rw[Qn,rE E];rfl)
    (λc _=>by
     show FQ d (A7 v) _ N (N.Flow.length:Int) (c.map A7)=_
     unfold FQ
     rw[rE (by simp)]
     rfl) (A++[v]) ⟨⟨by omega,a8⟩,λx J E=>ab x.Ref (tP _ (by unfold CW;exact sM.2 ⟨x,tD.2 ⟨J,by simpa using E⟩,rfl⟩))⟩ ((0:Int),(A++[v]).map A7) rfl
   have aj:iter (λ(a:Int × (List AZ))=>FQ d (A7 v) (λm F B=>CA n m F B) N a.1 a.2) (0,(A++[v]).map A7)=_:=w1
   rw[aj,AD]
   have T:∀(ks:List Am) (a:List Am),(∀w∈ks,Cj d w.id)→Dn d a<n→Gd d a→Dn d (ks.foldl (λa w=>CY d n a w) a)<n∧Gd d (ks.foldl (λa w=>CY d n a w) a):=by
    intro ks
    induction ks with
    | nil=>intro a _ h1 h2;exact⟨h1,h2⟩
    | cons w r ak=>
     intro a V h1 h2
     obtain⟨_,s2,s3⟩:=C a w (V w (rg ..)) h1 h2
     exact ak _ (λz hz=>V z (rY _ hz)) s2 s3
   have al:(CW N.Flow).map (λid=>(⟨id,v.id,v.visible⟩:Am))=LQ v N:=rfl
   rw[al]
   obtain⟨b1,b2⟩:=T (LQ v N) (A++[v]) (λw V=>O w (tP _ V)) (by omega) a8
   generalize (LQ v N).foldl (λa w=>CY d n a w) (A++[v])=A1 at *
   have ag:=VI U aa
   have w2:=G8 (f:=λ(a:Int × (List AZ))=>Fb d (A7 v) (λm F B=>CA n m F B) N a.1 a.2) N.Grid.Cells (λ(c:List Am) i=>((i:Int),c.map A7))
    (λ(r:List Ao) (c:List Am)=>((Oa v N.Grid r).foldl (λa w=>CY d n a w) c).map A7) (λi c=>(Dn d c<n∧Gd d c)∧∀x∈N.Grid.Cells,x.Ref≠0→Cj d x.Ref)
    (λi c I ⟨⟨Z,c2⟩,c3⟩=>by
     left
     show ∃c',Fb d (A7 v) _ N (i:Int) (c.map A7)=_∧_
     unfold Fb
     rw[rF (by simpa using I),Af I,AD,Ar (by omega)]
     obtain⟨q,q1,q2⟩:=ag _ (Bz I)
     by_cases E:N.Grid.Cells[i]!.Ref=0
     ·refine⟨c,by rw[rH E];rfl,⟨⟨Z,c2⟩,c3⟩,?_⟩
      rw[WK,rF E,sc]
     ·have a2:HN v N.Grid N.Grid.Cells[i]! = ⟨N.Grid.Cells[i]!.Ref,v.id,((v.visible&&(q.Row=N.Grid.Cells[i]!.Row))&&(q.Col=N.Grid.Cells[i]!.Col))⟩:=by unfold HN;rw[q1]
      obtain⟨B,s2,s3⟩:=C c (HN v N.Grid N.Grid.Cells[i]!) (by rw[a2];exact c3 _ (Bz I) E) Z c2
      refine⟨_,?_,⟨⟨s2,s3⟩,c3⟩,?_⟩
      ·rw[rG E,rF (by decide),q2,AD]
       rw[a2] at B
       show AC (AC (CA n (c.map A7) d (A7 ⟨N.Grid.Cells[i]!.Ref,v.id,((v.visible&&(q.Row=N.Grid.Cells[i]!.Row))&&(q.Col=N.Grid.Cells[i]!.Col))⟩)) _) _=_
       rw[B,a2];rfl
      ·rw[WK,rE E];rfl)
    (λc _=>by
     show Fb d (A7 v) _ N (N.Grid.Cells.length:Int) (c.map A7)=_
     unfold Fb
     rw[rE (by simp)]
     rfl) A1 ⟨⟨b1,b2⟩,λx J E=>ab x.Ref (tY _ (by unfold Er;exact sM.2 ⟨x,tD.2 ⟨J,by simpa using E⟩,rfl⟩))⟩ ((0:Int),A1.map A7) rfl
   have an:iter (λ(a:Int × (List AZ))=>Fb d (A7 v) (λm F B=>CA n m F B) N a.1 a.2) (0,A1.map A7)=_:=w2
   rw[an,AD]
   have ao:Oa v N.Grid N.Grid.Cells=KK v N:=rfl
   rw[ao]
   obtain⟨b3,b4⟩:=T (KK v N) A1 (λw V=>O w (tY _ (tP _ V))) b1 b2
   generalize (KK v N).foldl (λa w=>CY d n a w) A1=A2 at *
   obtain⟨L,X,t1,t2,t3,t4⟩:=TS h.ids h.ok.1 h.srt U ai aa
   have aq:HQ d N=L.filterMap (ED d):=by unfold HQ;rw[t1];rfl
   rw[t2,Bo]
   have a6:∀x id,ED d x=some id→Cj d id:=λx id J=>by
    unfold ED I6 at J
    cases M:Bv d.Nodes (EB (CQ x.Attrs H9)) with
    | none=>rw[M] at J;cases J
    | some j=>
     rw[M] at J
     simp only at J
     split at J
     ·cases J;exact⟨j,M⟩
     ·cases J
   have w3:=G8 (f:=λ(a:Int × (List AZ))=>FT d (A7 v) (λm F B=>CA n m F B) (L++X) (L.length:Int) a.1 a.2) L (λ(c:List Am) i=>((i:Int),c.map A7))
    (λr c=>(((r.filterMap (ED d)).map λid=>(⟨id,v.id,v.visible⟩:Am)).foldl (λa w=>CY d n a w) c).map A7) (λi c=>Dn d c<n∧Gd d c)
    (λi c I ⟨Z,c2⟩=>by
     left
     have ar:i<(L++X).length:=by simp;omega
     have hget:(L++X)[i]=L[i]!:=by rw[uL I,re L i I]
     show ∃c',FT d (A7 v) _ (L++X) (L.length:Int) (i:Int) (c.map A7)=_∧_
     unfold FT
     have b0:=t4 _ (Bz I)
     rw[rF (by simpa using I),D9 ar,AD,hget,Ar (by simp at t3;omega),U1 _ _ (by omega),AD,nS,AD,PD _ _ hm,AD]
     rw[show([110,111,100,101]:List UInt8)=H9 from rfl]
     cases l:ED d L[i]! with
     | none=>
      refine⟨c,?_,⟨Z,c2⟩,by rw[uj,l]⟩
      unfold ED I6 at l
      generalize EB (CQ L[i]!.Attrs H9)=id at *
      cases M:Bv d.Nodes id with
      | none=>simp[CL,AD]
      | some j=>
       rw[M] at l
       obtain⟨hj,_⟩:=Ed M
       obtain⟨f1,f2⟩:=Qf h.ids M
       simp only at l ⊢
       rw[rH (show 0<id by omega),rH (show(0:Int)≤(j:Int) by omega)]
       simp only[uD,sV,Aj,rz]
       rw[Af hj,AD]
       split at l
       ·cases l
       ·rename_i hk
        rw[rE (by simpa using hk)]
        rfl
     | some id=>
      obtain⟨B,s2,s3⟩:=C c ⟨id,v.id,v.visible⟩ (a6 _ _ l) Z c2
      refine⟨_,?_,⟨s2,s3⟩,by rw[uj,l];rfl⟩
      unfold ED I6 at l
      generalize EB (CQ L[i]!.Attrs H9)=ah at *
      cases M:Bv d.Nodes ah with
      | none=>rw[M] at l;cases l
      | some j=>
       rw[M] at l
       obtain⟨hj,_⟩:=Ed M
       obtain⟨f1,f2⟩:=Qf h.ids M
       simp only at l ⊢
       rw[rH (show 0<ah by omega),rH (show(0:Int)≤(j:Int) by omega)]
       simp only[uD,sV,Aj,rz]
       rw[Af hj,AD]
       split at l
       ·rename_i hk
        cases l
        rw[rF (by simpa using hk)]
        show AC (AC (CA n (c.map A7) d (A7 ⟨id,v.id,v.visible⟩)) _) _=_
        rw[B];rfl
       ·cases l)
    (λc _=>by
     show FT d (A7 v) _ (L++X) (L.length:Int) (L.length:Int) (c.map A7)=_
     unfold FT
     rw[rE (by simp)]
     rfl) A2 ⟨b3,b4⟩ ((0:Int),A2.map A7) rfl
   have au:iter (λ(a:Int × (List AZ))=>FT d (A7 v) (λm F B=>CA n m F B) (L++X) (L.length:Int) a.1 a.2) (0,A2.map A7)=_:=w3
   rw[au,AD]
   unfold Mu
   rw[aq]
theorem oP:∀(n:Nat) (o:List AZ) (d:Aa) (s:AZ) r,CA n o d s=some r→CA (n+1) o d s=some r:=by
 intro n
 induction n with
 | zero=>intro o d s r h;cases h
 | succ n U=>
  intro o d s r h
  change IZ (λj l m=>CA n j l m) o d s=some r at h
  show IZ (λj l m=>CA (n+1) j l m) o d s=some r
  have m1:∀(N:Ac) (A:Int × List AZ) v,FQ d s (λj l m=>CA n j l m) N A.1 A.2=some v→FQ d s (λj l m=>CA (n+1) j l m) N A.1 A.2=some v:=λN A v h=>by
   unfold FQ at h ⊢
   split at h
   ·rename_i C
    rw[rF C]
    obtain⟨y,B,F⟩:=BX h
    obtain⟨x,V,I⟩:=BX B
    rw[V,AD]
    split at I
    ·rename_i E
     rw[rF E]
     obtain⟨w,J,M⟩:=BX I
     dsimp only
     rw[U _ _ _ _ J,AD,M,AD];exact F
    ·rename_i E
     rw[rE E,I,AD];exact F
   ·rename_i C
    rw[rE C];exact h
  have m2:∀(N:Ac) (A:Int × List AZ) v,Fb d s (λj l m=>CA n j l m) N A.1 A.2=some v→Fb d s (λj l m=>CA (n+1) j l m) N A.1 A.2=some v:=λN A v h=>by
   unfold Fb at h ⊢
   split at h
   ·rename_i C
    rw[rF C]
    obtain⟨y,B,F⟩:=BX h
    obtain⟨x,V,I⟩:=BX B
    rw[V,AD]
    split at I
    ·rename_i E
     rw[rF E]
     obtain⟨q,h7,h8⟩:=BX I
     obtain⟨w,J,M⟩:=BX h8
     rw[h7,AD]
     dsimp only
     rw[U _ _ _ _ J,AD,M,AD];exact F
    ·rename_i E
     rw[rE E,I,AD];exact F
   ·rename_i C
    rw[rE C];exact h
  have m3:∀(X:List AB) (Z:Int) (A:Int × List AZ) v,FT d s (λj l m=>CA n j l m) X Z A.1 A.2=some v→FT d s (λj l m=>CA (n+1) j l m) X Z A.1 A.2=some v:=λX Z A v h=>by
   unfold FT at h ⊢
   split at h
   ·rename_i C
    rw[rF C]
    obtain⟨y,B,F⟩:=BX h
    obtain⟨x1,a1,B⟩:=BX B
    obtain⟨x2,a2,B⟩:=BX B
    obtain⟨x3,a3,B⟩:=BX B
    obtain⟨T,a4,B⟩:=BX B
    obtain⟨x5,a5,B⟩:=BX B
    rw[a1,AD,a2,AD,a3,AD,a4,AD,a5,AD]
    split at B
    ·rename_i E
     rw[rF E]
     obtain⟨w,J,M⟩:=BX B
     dsimp only
     rw[U _ _ _ _ J,AD,M,AD];exact F
    ·rename_i E
     rw[rE E,B,AD];exact F
   ·rename_i C
    rw[rE C];exact h
  unfold IZ at h ⊢
  obtain⟨x1,a1,h⟩:=BX h
  rw[a1,AD]
  split at h
  ·rename_i C
   rw[rF C];exact h
  ·rename_i C
   rw[rE C]
   obtain⟨x2,a2,h⟩:=BX h
   obtain⟨x3,a3,h⟩:=BX h
   obtain⟨T,a4,h⟩:=BX h
   obtain⟨x5,a5,h⟩:=BX h
   obtain⟨x6,a6,h⟩:=BX h
   rw[a2,AD,a3,AD,a4,AD,Ip (g:=λ(a:Int × (List AZ))=>FQ d s (λj l m=>CA (n+1) j l m) T a.1 a.2) (λs v O=>m1 _ s v O) a5,AD,
    Ip (g:=λ(a:Int × (List AZ))=>Fb d s (λj l m=>CA (n+1) j l m) T a.1 a.2) (λs v O=>m2 _ s v O) a6,AD]
   cases hI:Ke T.Draw with
   | none=>rw[hI] at h;cases h
   | some p=>
    rw[hI,Bo] at h
    rw[Bo]
    obtain⟨x7,a7,h⟩:=BX h
    rw[Ip (g:=λ(a:Int × (List AZ))=>FT d s (λj l m=>CA (n+1) j l m) p.1 p.2 a.1 a.2) (λs v O=>m3 _ _ s v O) a7,AD]
    exact h
theorem jT{d:Aa}(h:Da d):MZ d=some ((Cn d).map A7):=by
 have j:=gY h (d.Nodes.length+1) [] ⟨1,0,true⟩ (Uf h) (V3 d) ⟨List.Pairwise.nil,λw l=>by cases l⟩
 unfold MZ Qi
 rw[Ro (N:=λn=>CA n [] d ⟨1,0,true⟩) (λn r m=>oP n _ _ _ r m) j,AD]
 rfl
theorem Ur{d}(h:Da d):Gd d (Cn d):=(Z5 h _ [] _ (Uf h) ⟨List.Pairwise.nil,λw j=>by cases j⟩).1
end Go.Proofs.YtmeadkhpiobenaaGreatDoor.Al

set_option linter.unusedVariables false
set_option linter.unusedSimpArgs false
namespace Go.Proofs.YtmeadkhpiobenaaGreatDoor.Al
open Go
def Lu{σ:Type}(F:σ→Int→Int→Option (Nat × σ)):List Am→σ→Option (Nat × σ)
 | [],s=>some (0,s)
 | v::l,s=>match F s v.id v.parent with
  | none=>none
  | some (0,j)=>Lu F l j
  | some (w+1,j)=>some (w+1,j)
theorem d6{σ:Type}{F:σ→Int→Int→Option (Nat × σ)}{j:σ}{ys:List (List RV)}{s:σ}(h:Fe (EL F) ys (0,j)=some (0,s))(v:Am):Fe (EL F) (ys++[Oc v]) (0,j)=F s v.id v.parent:=by
 rw[Th,h,sD]
 rfl
theorem eJ{σ:Type}(F:σ→Int→Int→Option (Nat × σ))(q:σ):∀(l:List Am) (ys:List (List RV)) (s:σ) {r:Nat × σ},Fe (EL F) ys (0,q)=some (0,s)→Lu F l s=some r →
  ∃b j,DS (λys v=>F9 (FN (λs=>D0 s.1) (EL F) (0,q)) ys v) l ys=some (b,j)∧Fe (EL F) j (0,q)=some r:=by
 intro l
 induction l with
 | nil=>intro ys s r B m;cases m;exact⟨true,ys,rfl,B⟩
 | cons v l I=>
  intro ys s r B m
  have A:=d6 B v
  unfold Lu at m
  cases C:F s v.id v.parent with
  | none=>rw[C] at m;cases m
  | some p=>
   obtain⟨w,J⟩:=p
   rw[C] at m A
   have E:F9 (FN (λs=>D0 s.1) (EL F) (0,q)) ys v=some ((D0 w).isNone,ys++[Oc v]):=by
    unfold F9
    show AC (FN (λs=>D0 s.1) (EL F) (0,q) (ys++[Oc v])) _=_
    unfold FN
    rw[A];rfl
   cases w with
   | zero=>
    obtain⟨b,j,M,O⟩:=I (ys++[Oc v]) J A m
    refine⟨b,j,?_,O⟩
    simp only[DS,E]
    exact M
   | succ w=>
    cases m
    refine⟨false,ys++[Oc v],?_,A⟩
    have:(D0 (w+1)).isNone=false:=by cases w<;>rfl
    simp only[DS,E,this]
theorem kn{σ:Type}{d}(h:Da d)(F:σ→Int→Int→Option (Nat × σ))(j:σ){r}(m:Lu F (Cn d) j=some r):rng2L (λA=>Fg A [] d) F j=some r:=by
 obtain⟨b,l,q,w⟩:=eJ F j (Cn d) [] j (r:=r) rfl m
 show(Fg (FN (λs=>D0 s.1) (EL F) (0,j)) [] d).bind _=_
 have B:Fg (FN (λs=>D0 s.1) (EL F) (0,j)) [] d=some l:=by
  unfold Fg
  rw[h.ch,AD,rE (by decide),dW h q,AD]
 rw[B,sD]
 exact w
theorem oW{σ:Type}{d}{e}(h:E9 d=some e)(l:e≠0)(F:σ→Int→Int→Option (Nat × σ))(j:σ):rng2L (λA=>Fg A [] d) F j=some (0,j):=by
 show(Fg (FN (λs=>D0 s.1) (EL F) (0,j)) [] d).bind _=_
 have m:Fg (FN (λs=>D0 s.1) (EL F) (0,j)) [] d=some []:=by
  unfold Fg
  rw[h,AD,rF (by simpa using l)]
 rw[m,sD]
 rfl
end Go.Proofs.YtmeadkhpiobenaaGreatDoor.Al

set_option linter.unusedVariables false
set_option linter.unusedSimpArgs false
namespace Go.Proofs.YtmeadkhpiobenaaGreatDoor.Al
open Go
theorem VT{d}(h:HH d):OG d=some d:=by
 obtain⟨l⟩:=d
 obtain⟨C,A⟩:=h
 dsimp only at C A
 unfold OG
 have w:mk 152 (l.length:Int) (Ac.mk 0 0 [] [] (BF.mk 0 0 [] []) [])=some (List.replicate l.length (Ac.mk 0 0 [] [] (BF.mk 0 0 [] []) [])):=by
  unfold mk
  rw[rF ⟨by omega,by omega,by omega⟩,so]
 dsimp only
 rw[w,AD]
 have key:∀j k,k+j=l.length→iter (λ(a:Int × Aa)=>IQ ⟨l⟩ a.1 a.2) ((k:Int),⟨l.take k++List.replicate j (Ac.mk 0 0 [] [] (BF.mk 0 0 [] []) [])⟩)=some ⟨l⟩:=by
  intro j
  induction j with
  | zero=>
   intro k E
   refine Ba ?_
   show IQ ⟨l⟩ (k:Int) _=_
   unfold IQ
   rw[rE (by simp;omega),ts (by omega)]
   simp
  | succ j F=>
   intro k E
   have m:k<l.length:=by omega
   rw[B7 (s':=(((k+1:Nat):Int),⟨l.take (k+1)++List.replicate j (Ac.mk 0 0 [] [] (BF.mk 0 0 [] []) [])⟩)) (by
    show IQ ⟨l⟩ (k:Int) _=_
    unfold IQ
    have B:(l.take k++List.replicate (j+1) (Ac.mk 0 0 [] [] (BF.mk 0 0 [] []) [])).length=l.length:=by simp;omega
    dsimp only
    rw[rF (by simpa using m),Af m,AD,lm _ (A _ (Bz m)).ok,AD,Af (by omega),AD,Ar (by omega),AD,so]
    congr 4
    rw[Mb m,sZ,ub _ _ (by simp;omega),sk,Nat.min_eq_left (by omega),uK]
    rfl)]
   exact F (k+1) (by omega)
 have:=key l.length 0 (by omega)
 rw[List.take_zero,sc] at this
 have q:iter (λ(a:Int × Aa)=>IQ ⟨l⟩ a.1 a.2) (0,⟨List.replicate l.length (Ac.mk 0 0 [] [] (BF.mk 0 0 [] []) [])⟩)=_:=this
 rw[q,AD]
end Go.Proofs.YtmeadkhpiobenaaGreatDoor.Al

set_option linter.unusedVariables false
set_option linter.unusedSimpArgs false
namespace Go.Proofs.YtmeadkhpiobenaaGreatDoor.Al
open Go
theorem p9(d:Aa) id(A:d.Nodes.length≤1048576):Hc d id=some (-1)∨∃k,k<d.Nodes.length∧Hc d id=some (k:Int):=by
 obtain⟨l⟩:=d
 dsimp only at A ⊢
 have key:∃r,iter (λ(a:Int × Int)=>IC l id a.1 a.2) (0,(l.length:Int))=some r∧∃I:Nat,r=(I:Int)∧I≤l.length:=by
  refine JF l.length (λk m=>∃I J:Nat,m=((I:Int),(J:Int))∧I≤J∧J≤l.length∧J-I≤l.length-k) (λr=>∃I:Nat,r=(I:Int)∧I≤l.length) ?_ ?_ ⟨0,l.length,rfl,by omega,by omega,by omega⟩
  ·rintro k m M ⟨I,J,rfl,B,q,C⟩
   dsimp only
   unfold IC
   by_cases E:I<J
   ·left
    rw[rF (by rw[rJ];omega),show(I:Int)+(J:Int)=((I+J:Nat):Int) by omega,CP (by omega) (by omega),AD,Zs _ (by omega),Af (by omega),AD,PZ,AD]
    by_cases w:l[(I+J) / 2]!.ID<id
    ·rw[rF w,rF (by decide),Ar (by omega)]
     exact⟨_,rfl,(I+J) / 2+1,J,rfl,by omega,q,by omega⟩
    ·rw[rE w,rE (show ¬ decide ((if id<l[(I+J) / 2]!.ID then(1:Int) else 0)<0)=true by split<;>decide)]
     exact⟨_,rfl,I,(I+J) / 2,rfl,by omega,by omega,by omega⟩
   ·right
    rw[rE (by rw[rJ];omega)]
    exact⟨_,rfl,I,rfl,by omega⟩
  ·rintro m ⟨I,J,rfl,B,q,C⟩
   dsimp only
   unfold IC
   rw[rE (by rw[rJ];omega)]
   exact⟨_,rfl,I,rfl,by omega⟩
 obtain⟨r,F,I,rfl,O⟩:=key
 unfold Hc Fm O4
 rw[F,AD]
 by_cases j:I<l.length
 ·rw[rH (show(I:Int)<(l.length:Int) by omega),show((true==true):Bool)=true from rfl,Aj,Af j,AD,Aj,PZ,AD,Bo,Bo]
  generalize (true&&((if l[I]!.ID<id then(-1:Int) else if id<l[I]!.ID then 1 else 0)=0))=b
  cases b with
  | true=>exact .inr ⟨I,j,rfl⟩
  | false=>exact .inl rfl
 ·rw[rG (show ¬ (I:Int)<(l.length:Int) by omega),show((false==true):Bool)=false from rfl,CL,AD,CL,AD,Bo,Bo]
  exact .inl rfl
def Ea:List UInt8:=[110,97,109,101]
def EG(d:Aa)(j:List UInt8)(v:Am):Bool:=((Bq d v.id).Kind=6)&&(CQ (Bq d v.id).Attrs Ea=j)
theorem N6{d:Aa}(h:HH d){k}(j:k<d.Nodes.length):d.Nodes[k]!.Attrs.length≤9223372036854775807:=by
 have:=(h.2 _ (Bz j)).ok.at_.1
 omega
theorem bL{d:Aa}(hg:Da d) id j o(v:Am)(A:Cj d v.id):Iw d id j o v.id v.parent=some (if EG d j v=true then(1,if v.id=id then j else []) else(0,o)):=by
 obtain⟨k,m⟩:=A
 obtain⟨l,_⟩:=Ed m
 unfold Iw EG
 rw[Yt _ hg.ok.1 hg.srt,m,AD,MJ m]
 dsimp only
 rw[Af l,AD]
 by_cases q:d.Nodes[k]!.Kind=6
 ·rw[rH q,show((true==true):Bool)=true from rfl,Aj,PU _ _ (N6 hg.ok l),AD]
  simp only[rz]
  show(if decide (CQ d.Nodes[k]!.Attrs Ea=j)=true then _ else _)=_
  by_cases w:CQ d.Nodes[k]!.Attrs Ea=j
  ·rw[rH w,rF rfl,rF rfl]
   by_cases Az:v.id=id
   ·rw[rH Az,rF rfl,rF Az]
   ·rw[rG Az,rE (by decide),rE Az]
  ·rw[rG w,rE (by decide),rE (by decide)]
 ·rw[rG q,show((false==true):Bool)=false from rfl,CL,AD]
  rfl
theorem p7{d}(hg:Da d)(id:Int)(j:List UInt8):∀l:List Am,(∀v∈l,Cj d v.id)→Lu (λ(a:List UInt8)=>Iw d id j a) l []=some (match l.find? (EG d j) with | some v=>(1,if v.id=id then j else []) | none=>(0,[])):=by
 intro l
 induction l with
 | nil=>intro _;rfl
 | cons v l q=>
  intro h
  unfold Lu
  rw[bL hg id j [] v (h v (rg ..))]
  cases m:EG d j v with
  | true=>rw[List.find?_cons_of_pos m];rfl
  | false=>
   rw[List.find?_cons_of_neg (by rw[m];decide)]
   exact q λw A=>h w (rY _ A)
theorem pr(l:List Am) id(O:l.length≤1048576):(∃k,k<l.length∧l[k]!.id=id∧IG (l.map A7) id=some (k:Int)∧∀j,j<k→l[j]!.id≠id)∨(IG (l.map A7) id=some (-1)∧∀v∈l,v.id≠id):=by
 unfold IG
 have h:=Bx (f:=λ(a:Int)=>Hp (l.map A7) id a) (n:=l.length) (λk=>if l[k]!.id=id then some (k:Int) else none) (λk m=>by
  have C:k<(l.map A7).length:=by simpa using m
  unfold Hp
  rw[rF (by simpa using m),D9 C,AD,uY]
  show(if decide ((A7 l[k]).ID=id)=true then _ else _)=_
  rw[re l k m]
  by_cases h:l[k].id=id
  ·rw[rF (by rw[rJ];exact h),rF h];rfl
  ·rw[rE (by rw[rJ];exact h),rE h,Ar (by omega)];rfl) (by unfold Hp;rw[rE (by simp)])
 rw[h]
 cases A:(List.range l.length).findSome? λ(k:Nat)=>if l[k]!.id=id then some (k:Int) else none with
 | none=>
  refine .inr ⟨rfl,λv I e=>?_⟩
  rw[se] at A
  obtain⟨k,m,rfl⟩:=sJ.1 I
  have:=A k (rp.2 m)
  rw[re l k m,rF e] at this
  cases this
 | some r=>
  rw[List.findSome?_eq_some_iff] at A
  obtain⟨B,k,T,E,F,J⟩:=A
  have m:B.length=k∧k<l.length:=by
   have w:B.length<(List.range l.length).length:=by rw[E];simp
   have q:(List.range l.length)[B.length]?=some k:=by rw[E];simp
   rw[tU (by simpa using w)] at q
   have q:=rn q
   exact⟨q,by rw[← q];simpa using w⟩
  split at F
  ·rename_i Az
   cases F
   refine .inl ⟨k,m.2,Az,rfl,λj U e=>?_⟩
   have M:j∈B:=by
    have q:(List.range l.length)[j]?=some j:=tU (by omega)
    rw[E,rf (by omega)] at q
    exact rj q
   have:=J j M
   rw[rF e] at this
   cases this
  ·cases F
def Lo(d:Aa)(l:List Am)(j:List UInt8):List UInt8:=l.foldl (λc v=>if EG d c v=true then [] else c) j
theorem dA d l:Lo d l []=[]:=by
 induction l with
 | nil=>rfl
 | cons v l j=>
  unfold Lo at *
  rw[sj]
  split<;>exact j
theorem lc d(l:List Am) j:Lo d l j=if l.any (EG d j)=true then [] else j:=by
 induction l with
 | nil=>rfl
 | cons v l m=>
  rw[tn]
  show Lo d l (if EG d j v=true then [] else j)=_
  cases q:EG d j v with
  | true=>rw[rF rfl,dA];rfl
  | false=>rw[rE (by decide),m];rfl
theorem jv{d:Aa}(hg:Da d)(l r:List Am)(F:∀v∈l,Cj d v.id)(C:l.length≤1048576) m :
  iter (λ(a:(List UInt8) × Int)=>Gy d ((l++r).map A7) (l.length:Int) a.1 a.2) (m,0)=some (Lo d l m):=by
 have w:=G8 (f:=λ(a:(List UInt8) × Int)=>Gy d ((l++r).map A7) (l.length:Int) a.1 a.2) l (λ(c:List UInt8) i=>(c,(i:Int))) (λr c=>Lo d r c) (λi c=>True)
  (λi c q _=>by
   left
   show ∃M,Gy d ((l++r).map A7) (l.length:Int) c (i:Int)=_∧_
   unfold Gy
   have I:i<(l++r).length:=by simp;omega
   have A:i<((l++r).map A7).length:=by simp;omega
   have J:(A7 (l++r)[i]).ID=l[i]!.id:=by rw[uL q,re l i q];rfl
   obtain⟨k,B⟩:=F _ (Bz q)
   obtain⟨j,_⟩:=Ed B
   rw[rF (by simpa using q),D9 A,AD,uY,J,PD d _ hg.ok.1,B,AD,Af j,AD]
   refine⟨if EG d c l[i]! = true then [] else c,?_,trivial,rfl⟩
   unfold EG
   rw[MJ B]
   by_cases E:d.Nodes[k]!.Kind=6
   ·rw[rH E,show((true==true):Bool)=true from rfl,Aj,U1 _ _ (N6 hg.ok j),AD]
    simp only[rz]
    show(AC (if decide (CQ d.Nodes[k]!.Attrs Ea=c)=true then _ else _) _)=_
    split
    ·rename_i e;rw[AD,Ar (by omega),AD]
    ·rename_i e;rw[AD,Ar (by omega),AD]
   ·rw[rG E,show((false==true):Bool)=false from rfl,CL,AD]
    simp only[tK]
    rw[rE (by decide),AD,Ar (by omega),AD]
    rfl)
  (λc _=>by
   show Gy d ((l++r).map A7) (l.length:Int) c (l.length:Int)=_
   unfold Gy
   rw[rE (by simp)]
   rfl) m trivial (m,(0:Int)) rfl
 exact w
end Go.Proofs.YtmeadkhpiobenaaGreatDoor.Al

set_option linter.unusedVariables false
set_option linter.unusedSimpArgs false
namespace Go.Proofs.YtmeadkhpiobenaaGreatDoor.Al
open Go
theorem iF{d:Aa}(hg:Da d) id:Jp d id=some (match Bv d.Nodes id with
  | none=>[]
  | some _=>if(Bq d id).Kind=6 then(match (Cn d).find? (EG d (CQ (Bq d id).Attrs Ea)) with | some v=>if v.id=id then CQ (Bq d id).Attrs Ea else [] | none=>[]) else []):=by
 have w:=hg.ok.1
 unfold Jp
 rw[Yt _ w hg.srt]
 cases m:Bv d.Nodes id with
 | none=>rfl
 | some k=>
  obtain⟨q,_⟩:=Ed m
  rw[AD]
  dsimp only
  rw[rG (show ¬ ((k:Int)<0) by omega),show((false==false):Bool)=true from rfl,Aj,Af q,AD,MJ m]
  simp only[sO]
  by_cases j:d.Nodes[k]!.Kind=6
  ·rw[rH j,rE (by decide),AD,PU _ _ (N6 hg.ok q),AD,rF j]
   have l:=p7 hg id (CQ d.Nodes[k]!.Attrs Ea) (Cn d) (Ur hg).2
   have B:=kn hg (λ(a:List UInt8)=>Iw d id (CQ d.Nodes[k]!.Attrs Ea) a) [] l
   unfold Ow
   rw[VT hg.ok,AD,AD]
   show CO (rng2L (λA=>Fg A [] d) (λ(a:List UInt8)=>Iw d id (CQ d.Nodes[k]!.Attrs Ea) a) []) _=_
   rw[B]
   cases (Cn d).find? (EG d (CQ d.Nodes[k]!.Attrs Ea)) with
   | none=>rfl
   | some v=>rfl
  ·rw[rG j,rE j]
   rfl
theorem iM{d:Aa}(h:HH d) id{e}(q:E9 d=some e)(w:e≠0):Jp d id=some []:=by
 unfold Jp
 rcases p9 d id h.1 with j | ⟨k,l,j⟩
 ·rw[j];rfl
 ·rw[j,AD,rG (show ¬ ((k:Int)<0) by omega),show((false==false):Bool)=true from rfl,Aj,Af l,AD]
  simp only[sO]
  by_cases m:d.Nodes[k]!.Kind=6
  ·rw[rH m,rE (by decide),AD,PU _ _ (N6 h l),AD]
   unfold Ow
   rw[VT h,AD,AD,oW q w]
   rfl
  ·rw[rG m]
   rfl
theorem jE(d:Aa) id(h:HH d)(hd:∀n∈d.Nodes,Ir n.Draw):Pi d id=some true:=by
 have hm:=h.1
 obtain⟨e,Z,h2⟩:=pS d h
 unfold Pi Ql
 rw[AD,rE (by decide)]
 by_cases O:e=0
 ·subst O
  have hg:Da d:=⟨h,hd,Z⟩
  have a0:=(Ur hg).len
  have E:=(Ur hg).2
  rw[iF hg,AD,h2,AD,rE (by decide),jT hg,AD]
  rcases pr (Cn d) id (by omega) with ⟨k,T,Az,U,w⟩ | ⟨U,V⟩
  ·rw[U,AD]
   obtain⟨j,M⟩:Cj d id:=by rw[← Az];exact E _ (Bz T)
   obtain⟨C,_⟩:=Ed M
   rw[rG (show ¬ ((k:Int)<0) by omega),show((false==false):Bool)=true from rfl,Aj,PD d _ hm,M,AD,Aj]
   dsimp only
   rw[Af C,AD,MJ M]
   simp only[sO]
   by_cases F:d.Nodes[j]!.Kind=6
   ·rw[rH F,rE (by decide),AD,Af C,AD,U1 _ _ (N6 h C),AD,rF F]
    have l:Cn d=(Cn d).take k++(Cn d).drop k:=(List.take_append_drop k _).symm
    have B:((Cn d).take k).length=k:=by rw[sk];omega
    have I:=jv hg ((Cn d).take k) ((Cn d).drop k) (λv A=>E v (ui A)) (by omega) (CQ d.Nodes[j]!.Attrs Ea)
    rw[← l,B] at I
    show AC (iter (λ(a:(List UInt8) × Int)=>Gy d ((Cn d).map A7) (k:Int) a.1 a.2) (CQ d.Nodes[j]!.Attrs Ea,0)) _=_
    rw[I,AD,lc]
    congr 1
    rw[rJ]
    have J:EG d (CQ d.Nodes[j]!.Attrs Ea) (Cn d)[k]! = true:=by
     unfold EG
     rw[Az,MJ M,rH F,rH rfl];rfl
    cases m:((Cn d).take k).any (EG d (CQ d.Nodes[j]!.Attrs Ea)) with
    | true=>
     rw[rF rfl]
     rw[l,List.find?_append]
     cases q:((Cn d).take k).find? (EG d (CQ d.Nodes[j]!.Attrs Ea)) with
     | none=>
      rw[uJ] at q
      rw[sf] at m
      obtain⟨v,A,X⟩:=m
      exact absurd X (q v A)
     | some v=>
      rw[Option.some_or]
      dsimp only
      have A:=tg q
      obtain⟨i,hi,rfl⟩:=sJ.1 A
      rw[B] at hi
      have:=w i hi
      rw[re (Cn d) i (by omega)] at this
      rw[rE (by rw[List.getElem_take];exact this)]
    | false=>
     rw[rE (by decide)]
     rw[l,List.find?_append]
     have q:((Cn d).take k).find? (EG d (CQ d.Nodes[j]!.Attrs Ea))=none:=by
      rw[uJ]
      intro v A e
      rw[uz] at m
      exact m v A e
     rw[q,Option.none_or,sA T]
     rw[re (Cn d) k T] at J Az
     rw[List.find?_cons_of_pos J]
     dsimp only
     rw[rF Az]
   ·rw[rG F,rF (by decide),rE F]
    rfl
  ·rw[U,AD,show(decide ((-1:Int)<0))=true from rfl,show((true==false):Bool)=false from rfl,CL,AD,CL,AD,tu,rF rfl]
   congr 1
   rw[rJ]
   cases hf:Bv d.Nodes id with
   | none=>rfl
   | some j=>
    dsimp only
    split
    ·split
     ·rename_i v A
      rw[rE (V v (tg A))]
     ·rfl
    ·rfl
 ·rw[iM h id Z O,AD,h2,AD,rF (by simpa using O)]
  rfl
end Go.Proofs.YtmeadkhpiobenaaGreatDoor.Al

namespace Go.Proofs.YtmeadkhpiobenaaGreatDoor.Al
theorem gk{μ}{δ}(j:∀n,(n.Draw.map δ).sum+1≤μ n)(hd:∀o,o.Place.length+o.Name.length+o.Value.length+1≤δ o){d:Aa}(m:(d.Nodes.map μ).sum≤1048576):∀n∈d.Nodes,Ir n.Draw:=by
 intro n l
 have q:=HZ (μ:=μ) l
 have w:=j n
 exact(di hd n.Draw (by omega)).1
end Go.Proofs.YtmeadkhpiobenaaGreatDoor.Al
