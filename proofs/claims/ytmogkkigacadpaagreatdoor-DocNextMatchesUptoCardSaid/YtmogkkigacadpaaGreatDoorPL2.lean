/- Plain laws over the models, a part of them. -/
import Derived.Test.YtmogkkigacadpaaGreatDoorPL1
set_option linter.all false
set_option linter.unusedVariables false
set_option linter.unusedSimpArgs false
namespace Go.Proofs.YtmogkkigacadpaaGreatDoor.Al
open Go
def BF(v:Af):AY:=⟨v.id,v.parent,v.visible⟩
def Gd(d:AM)(j:List Af):Prop:=(j.Pairwise λa b=>a.id≠b.id)∧∀w∈j,DG d w.id
theorem kJ:∀(l A:List Int),l.Pairwise (· ≠ ·)→(∀z∈l,z∈A)→l.length≤A.length:=by
 intro l
 induction l with
 | nil=>intro A _ _;exact oo _
 | cons a r w=>
  intro A hp j
  rw[pY] at hp
  have m:=j a (nc ..)
  have:=w (A.erase a) hp.2 λz q=>(List.mem_erase_of_ne (λe=>hp.1 z q e.symm)).2 (j z (nY _ q))
  rw[List.length_erase_of_mem m] at this
  have:0<A.length:=List.length_pos_of_mem m
  simp;omega
theorem Gd.len{d:AM}{j:List Af}(h:Gd d j):j.length≤d.Nodes.length:=by
 have:=kJ (j.map (·.id)) (d.Nodes.map (·.ID)) (by rw[pq];exact h.1) (λz l=>by
  obtain⟨w,m,rfl⟩:=oA.1 l
  obtain⟨k,q⟩:=h.2 w m
  obtain⟨A,B⟩:=FV q
  exact oA.2 ⟨d.Nodes[k]!,Bv A,B⟩)
 simpa using this
theorem Gd.snoc{d}{j}(h:Gd d j){v:Af}(m:DG d v.id)(q:BV j v.id=false):Gd d (j++[v]):=by
 refine⟨List.pairwise_append.2 ⟨h.1,by simp,λa A b B e=>?_⟩,λw l=>?_⟩
 ·obtain rfl:=pR.1 B
  have:BV j b.id=true:=by unfold BV;rw[pA];exact⟨a,A,by simpa using e⟩
  rw[q] at this;cases this
 ·rcases oe.1 l with l | l
  ·exact h.2 w l
  ·obtain rfl:=pR.1 l;exact m
theorem UF{d}(h:Do d):∀(n:Nat) (j:List Af) (v:Af),DG d v.id→Gd d j→Gd d (CR d n j v)∧Dg d (CR d n j v)≤Dg d j:=by
 intro n
 induction n with
 | zero=>intro j v _ hg;exact⟨hg,nO _⟩
 | succ n E=>
  intro j v B hg
  unfold CR
  split
  ·exact⟨hg,nO _⟩
  ·rename_i l
   have l:BV j v.id=false:=by simpa using l
   have F:=QZ h B
   have key:∀(ks:List Af) (a:List Af),(∀w∈ks,DG d w.id)→Gd d a→Gd d (ks.foldl (λa w=>CR d n a w) a)∧Dg d (ks.foldl (λa w=>CR d n a w) a)≤Dg d a:=by
    intro ks
    induction ks with
    | nil=>intro a _ m;exact⟨m,nO _⟩
    | cons w r q=>
     intro a C m
     obtain⟨A,g2⟩:=E a w (C w (nc ..)) m
     obtain⟨g3,g4⟩:=q (CR d n a w) (λz I=>C z (nY _ I)) A
     exact⟨g3,by rw[oK];omega⟩
   obtain⟨A,g2⟩:=key _ (j++[v]) F (hg.snoc B l)
   exact⟨A,nX g2 (Uz d j [v])⟩
theorem Wr(l:List Af) id(B:l.length≤1048576):∃r,Ju (l.map BF) id=some r∧decide (0≤r)=BV l id:=by
 unfold Ju
 have h:=Bo (f:=λ(a:Int)=>LW (l.map BF) id a) (n:=l.length) (λk=>if l[k]!.id=id then some (k:Int) else none) (λk j=>by
  have q:k<(l.map BF).length:=by simpa using j
  unfold LW
  rw[nH (by simpa using j),EH q,AD,List.getElem_map]
  show(if decide ((BF l[k]).ID=id)=true then _ else _)=_
  rw[nW l k j]
  by_cases h:l[k].id=id
  ·rw[nH (by rw[nK];exact h),nH h];rfl
  ·rw[nG (by rw[nK];exact h),nG h,An (by omega)];rfl) (by unfold LW;rw[nG (by simp)])
 rw[h]
 cases w:(List.range l.length).findSome? λ(k:Nat)=>if l[k]!.id=id then some (k:Int) else none with
 | none=>
  refine⟨-1,rfl,?_⟩
  rw[oq] at w
  have:BV l id=false:=by
   unfold BV
   rw[List.any_eq_false]
   intro v A
   obtain⟨k,j,rfl⟩:=oL.1 A
   have:=w k (nm.2 j)
   rw[nW l k j] at this
   split at this
   ·cases this
   ·rename_i h;simpa using h
  rw[this];rfl
 | some r=>
  obtain⟨k,j,m⟩:=oO w
  have j:=nm.1 j
  rw[nW l k j] at m
  split at m
  ·rename_i h
   cases m
   refine⟨(k:Int),rfl,?_⟩
   have:BV l id=true:=by
    unfold BV
    rw[pA]
    exact⟨l[k],nq j,by simpa using h⟩
   rw[this];simp
  ·cases m
noncomputable def Np(v:Af)(g:Av)(r:List Ak):List Af:=(r.filter λc=>!(c.Ref=0)).map (Gf v g)
theorem WI v g(x:Ak) r:Np v g (x::r)=(if x.Ref=0 then [] else [Gf v g x])++Np v g r:=by
 unfold Np
 rw[oh]
 by_cases h:x.Ref=0<;>simp[h]
def Z0(d:AM)(n:Nat):Prop:=∀(j:List Af) (v:Af),DG d v.id→Dg d j<n→Gd d j→CA n (j.map BF) d (BF v)=some ((CR d n j v).map BF)
theorem Xk{d:AM}(h:Do d):∀n,Z0 d n:=by
 intro n
 induction n with
 | zero=>intro A v _ hu;omega
 | succ n IH=>
  intro A v hv hu hg
  have hm:=h.ok.1
  have av:=hg.len
  show IP (λm F B=>CA n m F B) (A.map BF) d (BF v)=_
  unfold IP
  obtain⟨r,r1,r2⟩:=Wr A v.id (by omega)
  rw[show(BF v).ID=v.id from rfl,r1,AD,r2]
  by_cases hs:BV A v.id=true
  ·rw[nH hs]
   unfold CR
   rw[nH hs]
  ·rw[nG hs]
   have a7:BV A v.id=false:=by simpa using hs
   have aw:=TD hv a7
   have a8:=hg.snoc hv a7
   obtain⟨U,ai,aa,ab,ax,ac⟩:=h.node hv
   obtain⟨kk,a0⟩:=hv
   have a1:H8 d v.id=some (kk:Int):=by rw[Ro d v.id hm,a0]
   have ad:AL d.Nodes (kk:Int)=some (B4 d v.id):=by rw[a0] at ac;exact ac
   have ae:app 24 (A.map BF) [BF v]=some ((A++[v]).map BF):=by
    unfold app
    rw[nH ⟨by simp;omega,by simp;omega⟩]
    simp
   rw[ae,AD,a1,AD,ad,AD]
   have hR:CR d (n+1) A v=(kids d v (B4 d v.id)).foldl (λa w=>CR d n a w) (A++[v]):=by
    conv=>lhs;unfold CR
    rw[nG hs]
   rw[hR]
   unfold kids
   rw[List.foldl_append,List.foldl_append]
   have O:=QZ h ⟨kk,a0⟩
   unfold kids at O
   generalize hN:B4 d v.id=N at *
   have C:∀(a:List Af) (w:Af),DG d w.id→Dg d a<n→Gd d a→CA n (a.map BF) d (BF w)=some ((CR d n a w).map BF)∧Dg d (CR d n a w)<n∧Gd d (CR d n a w):=λa w V ha af=>by
    obtain⟨g1,g2⟩:=UF h n a w V af
    exact⟨IH a w V ha af,by omega,g1⟩
   have ay:=U.ok.fl
   have az:=U.ok.gr.1
   have w1:=FH (f:=λ(a:Int × (List AY))=>FQ d (BF v) (λm F B=>CA n m F B) N a.1 a.2) N.Flow (λ(c:List Af) i=>((i:Int),c.map BF))
    (λr c=>(((CS r).map λid=>(⟨id,v.id,v.visible⟩:Af)).foldl (λa w=>CR d n a w) c).map BF) (λi c=>(Dg d c<n∧Gd d c)∧∀x∈N.Flow,x.Ref≠0→DG d x.Ref)
    (λi c I ⟨⟨Z,c2⟩,c3⟩=>by
     left
     show ∃c',FQ d (BF v) _ N (i:Int) (c.map BF)=_∧_
     unfold FQ
     rw[nH (by simpa using I),Ac I,AD,An (by omega)]
     by_cases E:N.Flow[i]!.Ref=0
     ·refine⟨c,by rw[nJ E];rfl,⟨⟨Z,c2⟩,c3⟩,?_⟩
      rw[Ot,nH E,oV]
     ·obtain⟨B,s2,s3⟩:=C c ⟨N.Flow[i]!.Ref,v.id,v.visible⟩ (c3 _ (Bv I) E) Z c2
      refine⟨_,?_,⟨⟨s2,s3⟩,c3⟩,?_⟩
      ·rw[nI E,nH (by decide)]
       show AB (AB (CA n (c.map BF) d (BF ⟨N.Flow[i]!.Ref,v.id,v.visible⟩)) _) _=_
       rw[B];rfl
      ·rw[Ot,nG E];rfl)
    (λc _=>by
     show FQ d (BF v) _ N (N.Flow.length:Int) (c.map BF)=_
     unfold FQ
     rw[nG (by simp)]
     rfl) (A++[v]) ⟨⟨by omega,a8⟩,λx J E=>ab x.Ref (pS _ (by unfold CS;exact oA.2 ⟨x,o5.2 ⟨J,by simpa using E⟩,rfl⟩))⟩ ((0:Int),(A++[v]).map BF) rfl
   have aj:iter (λ(a:Int × (List AY))=>FQ d (BF v) (λm F B=>CA n m F B) N a.1 a.2) (0,(A++[v]).map BF)=_:=w1
   rw[aj,AD]
   have T:∀(ks:List Af) (a:List Af),(∀w∈ks,DG d w.id)→Dg d a<n→Gd d a→Dg d (ks.foldl (λa w=>CR d n a w) a)<n∧Gd d (ks.foldl (λa w=>CR d n a w) a):=by
    intro ks
    induction ks with
    | nil=>intro a _ h1 h2;exact⟨h1,h2⟩
    | cons w r ak=>
     intro a V h1 h2
     obtain⟨_,s2,s3⟩:=C a w (V w (nc ..)) h1 h2
     exact ak _ (λz hz=>V z (nY _ hz)) s2 s3
   have al:(CS N.Flow).map (λid=>(⟨id,v.id,v.visible⟩:Af))=LU v N:=rfl
   rw[al]
   obtain⟨b1,b2⟩:=T (LU v N) (A++[v]) (λw V=>O w (pS _ V)) (by omega) a8
   generalize (LU v N).foldl (λa w=>CR d n a w) (A++[v])=A1 at *
   have ag:=RI U aa
   have w2:=FH (f:=λ(a:Int × (List AY))=>FM d (BF v) (λm F B=>CA n m F B) N a.1 a.2) N.Grid.Cells (λ(c:List Af) i=>((i:Int),c.map BF))
    (λ(r:List Ak) (c:List Af)=>((Np v N.Grid r).foldl (λa w=>CR d n a w) c).map BF) (λi c=>(Dg d c<n∧Gd d c)∧∀x∈N.Grid.Cells,x.Ref≠0→DG d x.Ref)
    (λi c I ⟨⟨Z,c2⟩,c3⟩=>by
     left
     show ∃c',FM d (BF v) _ N (i:Int) (c.map BF)=_∧_
     unfold FM
     rw[nH (by simpa using I),Ac I,AD,An (by omega)]
     obtain⟨q,q1,q2⟩:=ag _ (Bv I)
     by_cases E:N.Grid.Cells[i]!.Ref=0
     ·refine⟨c,by rw[nJ E];rfl,⟨⟨Z,c2⟩,c3⟩,?_⟩
      rw[WI,nH E,oV]
     ·have a2:Gf v N.Grid N.Grid.Cells[i]! = ⟨N.Grid.Cells[i]!.Ref,v.id,((v.visible&&(q.Row=N.Grid.Cells[i]!.Row))&&(q.Col=N.Grid.Cells[i]!.Col))⟩:=by unfold Gf;rw[q1]
      obtain⟨B,s2,s3⟩:=C c (Gf v N.Grid N.Grid.Cells[i]!) (by rw[a2];exact c3 _ (Bv I) E) Z c2
      refine⟨_,?_,⟨⟨s2,s3⟩,c3⟩,?_⟩
      ·rw[nI E,nH (by decide),q2,AD]
       rw[a2] at B
       show AB (AB (CA n (c.map BF) d (BF ⟨N.Grid.Cells[i]!.Ref,v.id,((v.visible&&(q.Row=N.Grid.Cells[i]!.Row))&&(q.Col=N.Grid.Cells[i]!.Col))⟩)) _) _=_
       rw[B,a2];rfl
      ·rw[WI,nG E];rfl)
    (λc _=>by
     show FM d (BF v) _ N (N.Grid.Cells.length:Int) (c.map BF)=_
     unfold FM
     rw[nG (by simp)]
     rfl) A1 ⟨⟨b1,b2⟩,λx J E=>ab x.Ref (pb _ (by unfold Eg;exact oA.2 ⟨x,o5.2 ⟨J,by simpa using E⟩,rfl⟩))⟩ ((0:Int),A1.map BF) rfl
   have an:iter (λ(a:Int × (List AY))=>FM d (BF v) (λm F B=>CA n m F B) N a.1 a.2) (0,A1.map BF)=_:=w2
   rw[an,AD]
   have ao:Np v N.Grid N.Grid.Cells=JL v N:=rfl
   rw[ao]
   obtain⟨b3,b4⟩:=T (JL v N) A1 (λw V=>O w (pb _ (pS _ V))) b1 b2
   generalize (JL v N).foldl (λa w=>CR d n a w) A1=A2 at *
   obtain⟨L,X,t1,t2,t3,t4⟩:=SN h.ids h.ok.1 h.srt U ai aa
   have aq:Gu d N=L.filterMap (D7 d):=by unfold Gu;rw[t1];rfl
   rw[t2,BZ]
   have a6:∀x id,D7 d x=some id→DG d id:=λx id J=>by
    unfold D7 If at J
    cases M:CF d.Nodes (Dv (E8 x.Attrs Hn)) with
    | none=>rw[M] at J;cases J
    | some j=>
     rw[M] at J
     simp only at J
     split at J
     ·cases J;exact⟨j,M⟩
     ·cases J
   have w3:=FH (f:=λ(a:Int × (List AY))=>FR d (BF v) (λm F B=>CA n m F B) (L++X) (L.length:Int) a.1 a.2) L (λ(c:List Af) i=>((i:Int),c.map BF))
    (λr c=>(((r.filterMap (D7 d)).map λid=>(⟨id,v.id,v.visible⟩:Af)).foldl (λa w=>CR d n a w) c).map BF) (λi c=>Dg d c<n∧Gd d c)
    (λi c I ⟨Z,c2⟩=>by
     left
     have ar:i<(L++X).length:=by simp;omega
     have hget:(L++X)[i]=L[i]!:=by rw[List.getElem_append_left I,nW L i I]
     show ∃c',FR d (BF v) _ (L++X) (L.length:Int) (i:Int) (c.map BF)=_∧_
     unfold FR
     have b0:=t4 _ (Bv I)
     rw[nH (by simpa using I),EH ar,AD,hget,An (by simp at t3;omega),Zq _ _ (by omega),AD,iT,AD,Ro _ _ hm,AD]
     rw[show([110,111,100,101]:List UInt8)=Hn from rfl]
     cases l:D7 d L[i]! with
     | none=>
      refine⟨c,?_,⟨Z,c2⟩,by rw[qi,l]⟩
      unfold D7 If at l
      generalize Dv (E8 L[i]!.Attrs Hn)=id at *
      cases M:CF d.Nodes id with
      | none=>simp[Ci,AD]
      | some j=>
       rw[M] at l
       obtain⟨hj,_⟩:=FV M
       obtain⟨f1,f2⟩:=O5 h.ids M
       simp only at l ⊢
       rw[nJ (show 0<id by omega),nJ (show(0:Int)≤(j:Int) by omega)]
       simp only[qH,oN,Aq,nt]
       rw[Ac hj,AD]
       split at l
       ·cases l
       ·rename_i hk
        rw[nG (by simpa using hk)]
        rfl
     | some id=>
      obtain⟨B,s2,s3⟩:=C c ⟨id,v.id,v.visible⟩ (a6 _ _ l) Z c2
      refine⟨_,?_,⟨s2,s3⟩,by rw[qi,l];rfl⟩
      unfold D7 If at l
      generalize Dv (E8 L[i]!.Attrs Hn)=ah at *
      cases M:CF d.Nodes ah with
      | none=>rw[M] at l;cases l
      | some j=>
       rw[M] at l
       obtain⟨hj,_⟩:=FV M
       obtain⟨f1,f2⟩:=O5 h.ids M
       simp only at l ⊢
       rw[nJ (show 0<ah by omega),nJ (show(0:Int)≤(j:Int) by omega)]
       simp only[qH,oN,Aq,nt]
       rw[Ac hj,AD]
       split at l
       ·rename_i hk
        cases l
        rw[nH (by simpa using hk)]
        show AB (AB (CA n (c.map BF) d (BF ⟨id,v.id,v.visible⟩)) _) _=_
        rw[B];rfl
       ·cases l)
    (λc _=>by
     show FR d (BF v) _ (L++X) (L.length:Int) (L.length:Int) (c.map BF)=_
     unfold FR
     rw[nG (by simp)]
     rfl) A2 ⟨b3,b4⟩ ((0:Int),A2.map BF) rfl
   have au:iter (λ(a:Int × (List AY))=>FR d (BF v) (λm F B=>CA n m F B) (L++X) (L.length:Int) a.1 a.2) (0,A2.map BF)=_:=w3
   rw[au,AD]
   unfold NP
   rw[aq]
theorem kE:∀(n:Nat) (o:List AY) (d:AM) (s:AY) r,CA n o d s=some r→CA (n+1) o d s=some r:=by
 intro n
 induction n with
 | zero=>intro o d s r h;cases h
 | succ n U=>
  intro o d s r h
  change IP (λj l m=>CA n j l m) o d s=some r at h
  show IP (λj l m=>CA (n+1) j l m) o d s=some r
  have m1:∀(N:AK) (A:Int × List AY) v,FQ d s (λj l m=>CA n j l m) N A.1 A.2=some v→FQ d s (λj l m=>CA (n+1) j l m) N A.1 A.2=some v:=λN A v h=>by
   unfold FQ at h ⊢
   split at h
   ·rename_i C
    rw[nH C]
    obtain⟨y,B,F⟩:=BT h
    obtain⟨x,V,I⟩:=BT B
    rw[V,AD]
    split at I
    ·rename_i E
     rw[nH E]
     obtain⟨w,J,M⟩:=BT I
     dsimp only
     rw[U _ _ _ _ J,AD,M,AD];exact F
    ·rename_i E
     rw[nG E,I,AD];exact F
   ·rename_i C
    rw[nG C];exact h
  have m2:∀(N:AK) (A:Int × List AY) v,FM d s (λj l m=>CA n j l m) N A.1 A.2=some v→FM d s (λj l m=>CA (n+1) j l m) N A.1 A.2=some v:=λN A v h=>by
   unfold FM at h ⊢
   split at h
   ·rename_i C
    rw[nH C]
    obtain⟨y,B,F⟩:=BT h
    obtain⟨x,V,I⟩:=BT B
    rw[V,AD]
    split at I
    ·rename_i E
     rw[nH E]
     obtain⟨q,h7,h8⟩:=BT I
     obtain⟨w,J,M⟩:=BT h8
     rw[h7,AD]
     dsimp only
     rw[U _ _ _ _ J,AD,M,AD];exact F
    ·rename_i E
     rw[nG E,I,AD];exact F
   ·rename_i C
    rw[nG C];exact h
  have m3:∀(X:List AC) (Z:Int) (A:Int × List AY) v,FR d s (λj l m=>CA n j l m) X Z A.1 A.2=some v→FR d s (λj l m=>CA (n+1) j l m) X Z A.1 A.2=some v:=λX Z A v h=>by
   unfold FR at h ⊢
   split at h
   ·rename_i C
    rw[nH C]
    obtain⟨y,B,F⟩:=BT h
    obtain⟨x1,a1,B⟩:=BT B
    obtain⟨x2,a2,B⟩:=BT B
    obtain⟨x3,a3,B⟩:=BT B
    obtain⟨T,a4,B⟩:=BT B
    obtain⟨x5,a5,B⟩:=BT B
    rw[a1,AD,a2,AD,a3,AD,a4,AD,a5,AD]
    split at B
    ·rename_i E
     rw[nH E]
     obtain⟨w,J,M⟩:=BT B
     dsimp only
     rw[U _ _ _ _ J,AD,M,AD];exact F
    ·rename_i E
     rw[nG E,B,AD];exact F
   ·rename_i C
    rw[nG C];exact h
  unfold IP at h ⊢
  obtain⟨x1,a1,h⟩:=BT h
  rw[a1,AD]
  split at h
  ·rename_i C
   rw[nH C];exact h
  ·rename_i C
   rw[nG C]
   obtain⟨x2,a2,h⟩:=BT h
   obtain⟨x3,a3,h⟩:=BT h
   obtain⟨T,a4,h⟩:=BT h
   obtain⟨x5,a5,h⟩:=BT h
   obtain⟨x6,a6,h⟩:=BT h
   rw[a2,AD,a3,AD,a4,AD,Ir (g:=λ(a:Int × (List AY))=>FQ d s (λj l m=>CA (n+1) j l m) T a.1 a.2) (λs v O=>m1 _ s v O) a5,AD,
    Ir (g:=λ(a:Int × (List AY))=>FM d s (λj l m=>CA (n+1) j l m) T a.1 a.2) (λs v O=>m2 _ s v O) a6,AD]
   cases hI:JF T.Draw with
   | none=>rw[hI] at h;cases h
   | some p=>
    rw[hI,BZ] at h
    rw[BZ]
    obtain⟨x7,a7,h⟩:=BT h
    rw[Ir (g:=λ(a:Int × (List AY))=>FR d s (λj l m=>CA (n+1) j l m) p.1 p.2 a.1 a.2) (λs v O=>m3 _ _ s v O) a7,AD]
    exact h
theorem Tu{d:AM}(h:Do d):KP d=some ((Cj d).map BF):=by
 have j:=Xk h (d.Nodes.length+1) [] ⟨1,0,true⟩ (SA h) (UV d) ⟨List.Pairwise.nil,λw l=>by cases l⟩
 unfold KP On
 rw[QF (N:=λn=>CA n [] d ⟨1,0,true⟩) (λn r m=>kE n _ _ _ r m) j,AD]
 rfl
theorem ZB{d}(h:Do d):Gd d (Cj d):=(UF h _ [] _ (SA h) ⟨List.Pairwise.nil,λw j=>by cases j⟩).1
end Go.Proofs.YtmogkkigacadpaaGreatDoor.Al

set_option linter.unusedVariables false
set_option linter.unusedSimpArgs false
namespace Go.Proofs.YtmogkkigacadpaaGreatDoor.Al
open Go
theorem ZO{d}(h:Fa d):QQ d=some d:=by
 obtain⟨l⟩:=d
 obtain⟨C,A⟩:=h
 dsimp only at C A
 unfold QQ
 have w:mk 152 (l.length:Int) (AK.mk 0 0 [] [] (Av.mk 0 0 [] []) [])=some (List.replicate l.length (AK.mk 0 0 [] [] (Av.mk 0 0 [] []) [])):=by
  unfold mk
  rw[nH ⟨by omega,by omega,by omega⟩,oP]
 dsimp only
 rw[w,AD]
 have key:∀j k,k+j=l.length→iter (λ(a:Int × AM)=>Iq ⟨l⟩ a.1 a.2) ((k:Int),⟨l.take k++List.replicate j (AK.mk 0 0 [] [] (Av.mk 0 0 [] []) [])⟩)=some ⟨l⟩:=by
  intro j
  induction j with
  | zero=>
   intro k E
   refine BL ?_
   show Iq ⟨l⟩ (k:Int) _=_
   unfold Iq
   rw[nG (by simp;omega),pL (by omega)]
   simp
  | succ j F=>
   intro k E
   have m:k<l.length:=by omega
   rw[Bm (s':=(((k+1:Nat):Int),⟨l.take (k+1)++List.replicate j (AK.mk 0 0 [] [] (Av.mk 0 0 [] []) [])⟩)) (by
    show Iq ⟨l⟩ (k:Int) _=_
    unfold Iq
    have B:(l.take k++List.replicate (j+1) (AK.mk 0 0 [] [] (Av.mk 0 0 [] []) [])).length=l.length:=by simp;omega
    dsimp only
    rw[nH (by simpa using m),Ac m,AD,ap _ (A _ (Bv m)).ok,AD,Ac (by omega),AD,An (by omega),AD,oP]
    congr 4
    rw[Ha m,oR,qR _ _ (by simp;omega),oW,Nat.min_eq_left (by omega),qu]
    rfl)]
   exact F (k+1) (by omega)
 have:=key l.length 0 (by omega)
 rw[List.take_zero,oV] at this
 have q:iter (λ(a:Int × AM)=>Iq ⟨l⟩ a.1 a.2) (0,⟨List.replicate l.length (AK.mk 0 0 [] [] (Av.mk 0 0 [] []) [])⟩)=_:=this
 rw[q,AD]
end Go.Proofs.YtmogkkigacadpaaGreatDoor.Al

namespace Go.Proofs.YtmogkkigacadpaaGreatDoor.Al
theorem YV{μ}{δ}(j:∀n,(n.Draw.map δ).sum+1≤μ n)(hd:∀o,o.Place.length+o.Name.length+o.Value.length+1≤δ o){d:AM}(m:(d.Nodes.map μ).sum≤1048576):∀n∈d.Nodes,Il n.Draw:=by
 intro n l
 have q:=G6 (μ:=μ) l
 have w:=j n
 exact(jY hd n.Draw (by omega)).1
end Go.Proofs.YtmogkkigacadpaaGreatDoor.Al

set_option linter.unusedVariables false
set_option linter.unusedSimpArgs false
namespace Go.Proofs.YtmogkkigacadpaaGreatDoor.Al
open Go
theorem Y8:Of=Iq:=by funext d x o;rfl
theorem kr{d:AM}(h:Fa d):Ln d=some d.Nodes:=by
 have j:=ZO h
 unfold QQ at j
 unfold Ln
 rw[Y8]
 obtain⟨l,m,j⟩:=BT j
 rw[m,AD]
 obtain⟨o,q,j⟩:=BT j
 rw[q,AD]
 injection j with j
 rw[j]
def D4(c:List Int)(l:List AK):List AK:=l.filter λn=>!(n.ID∈c)
theorem RS c a b:D4 c (a++b)=D4 c a++D4 c b:=List.filter_append ..
theorem eD{c}{n:AK}(h:¬ n.ID∈c):D4 c [n]=[n]:=by
 unfold D4;rw[oh,nH (by simpa using h)];rfl
theorem Tl{c}{n:AK}(h:n.ID∈c):D4 c [n]=[]:=by
 unfold D4;rw[oh,nG (by simpa using h)];rfl
theorem TW{c}{l}(h:∀n∈l,¬ n.ID∈c):D4 c l=l:=by
 unfold D4;rw[List.filter_eq_self];intro n j;simpa using h n j
theorem UD(c:List Int)(n:AK)(j:c.length≤1048576):JH c n=some (decide (n.ID∈c)):=by
 unfold JH;rw[H4 _ _ j,AD]
theorem YS(s:List AK)(c:List Int)(M:s.length≤1048576)(hc:c.length≤1048576) :
  (∃k,k<s.length∧Ke s c=some (k:Int)∧(∀j,j<k→¬ s[j]!.ID∈c)∧s[k]!.ID∈c) ∨
  (Ke s c=some (-1)∧∀n∈s,¬ n.ID∈c):=by
 unfold Ke
 obtain⟨b,C,E⟩:=Ht (f:=λ(a:Int)=>LH s c a) s.length
  (λk A=>A=(k:Int)∧∀j,j<k→¬ s[j]!.ID∈c)
  (λb=>(b=(.nrm ():Ar Unit Int)∧∀j,j<s.length→¬ s[j]!.ID∈c)∨∃k,k<s.length∧b=.ext (k:Int)∧(∀j,j<k→¬ s[j]!.ID∈c)∧s[k]!.ID∈c)
  (λk A q m=>by
   obtain⟨rfl,l⟩:=m
   unfold LH
   rw[nH (by simpa using q),Ac q,AD,UD _ _ hc,AD]
   by_cases w:s[k]!.ID∈c
   ·right
    rw[nH (by simpa using w)]
    exact⟨_,rfl,.inr ⟨k,q,rfl,l,w⟩⟩
   ·left
    rw[nG (by simpa using w),An (by omega),AD]
    refine⟨_,rfl,rfl,λj B=>?_⟩
    rcases Nat.lt_succ_iff_lt_or_eq.1 B with h | h
    ·exact l j h
    ·rw[h];exact w)
  (λA m=>by
   obtain⟨rfl,l⟩:=m
   unfold LH
   rw[nG (by simp)]
   exact⟨_,rfl,.inl ⟨rfl,l⟩⟩)
  (s:=0) ⟨rfl,λj l=>by omega⟩
 rw[C]
 rcases E with ⟨rfl,h⟩ | ⟨k,q,rfl,F,I⟩
 ·right
  refine⟨rfl,λn J=>?_⟩
  obtain⟨j,l,e⟩:=p6 J
  have:=h j l
  rw[nW s j l,e] at this
  exact this
 ·left
  exact⟨k,q,rfl,F,I⟩
theorem lT(c:List Int)(l:List AK)(hl:l.length≤1048576)(hc:c.length≤1048576) E j(h0:E≤j)(X:j≤l.length)(V:l.take E=D4 c (l.take j)) :
  ∃(i:Nat) (s:List AK),iter (λ(a:Int × Int × (List AK))=>I2 c a.1 a.2.1 a.2.2) ((E:Int),(j:Int),l)=some ((i:Int),s)∧i≤s.length∧s.take i=D4 c l:=by
 obtain⟨b,Z,hq⟩:=Ht (f:=λ(a:Int × Int × (List AK))=>I2 c a.1 a.2.1 a.2.2) (l.length-j)
  (λk m=>∃i:Nat,m.1=(i:Int)∧m.2.1=((j+k:Nat):Int)∧i≤j+k∧j+k≤l.length∧m.2.2.length=l.length∧m.2.2.take i=D4 c (l.take (j+k))∧m.2.2.drop (j+k)=l.drop (j+k))
  (λb=>∃i:Nat,b.1=(i:Int)∧i≤b.2.length∧b.2.take i=D4 c l)
  (λk m V A=>by
   obtain⟨a1,a2,s⟩:=m
   obtain⟨i,F,I,h3,h4,J,C,M⟩:=A
   dsimp only at F I J C M
   subst F I
   left
   have q:j+k<l.length:=by omega
   have B:j+k<s.length:=by omega
   have hx:s[j+k]! = l[j+k]!:=by
    have w:=List.getElem_cons_drop B
    have U:=List.getElem_cons_drop q
    rw[M,← U] at w
    injection w with w _
    rw[nW s _ B,nW l _ q,w]
   have hd:s.drop (j+k+1)=l.drop (j+k+1):=by
    have w:=nb (List.drop 1) M
    rw[List.drop_drop,List.drop_drop] at w
    exact w
   dsimp only
   unfold I2
   rw[nH (by simp;omega),Ac B,AD,hx,UD _ _ hc,AD]
   by_cases T:l[j+k]!.ID∈c
   ·rw[nG (by simpa using T),BZ,An (by omega),AD]
    refine⟨_,rfl,i,rfl,rfl,by omega,by omega,J,?_,hd⟩
    show s.take i=D4 c (l.take (j+k+1))
    rw[Ha q,RS,Tl T,ot,C]
   ·rw[nH (by simpa using T),Ac (show i<s.length by omega),AD,An (by omega),AD,BZ,An (by omega),AD]
    refine⟨_,rfl,i+1,rfl,rfl,by omega,by omega,by rw[pG];exact J,?_,?_⟩
    ·show(s.set (i:Int).toNat l[j+k]!).take (i+1)=D4 c (l.take (j+k+1))
     have O:i<(s.set i l[j+k]!).length:=by rw[pG];omega
     rw[oP,Ha O,List.take_set,List.set_eq_of_length_le (by rw[oW];omega),C,nW (s.set i l[j+k]!) i O,List.getElem_set_self,Ha q,RS,eD T]
    ·show(s.set (i:Int).toNat l[j+k]!).drop (j+k+1)=_
     rw[oP,List.drop_set_of_lt (by omega)];exact hd)
  (λm A=>by
   obtain⟨a1,a2,s⟩:=m
   obtain⟨i,F,I,h3,h4,J,C,M⟩:=A
   dsimp only at F I J C M
   subst F I
   dsimp only
   unfold I2
   rw[nG (by simp;omega)]
   refine⟨_,rfl,i,rfl,by dsimp only;omega,?_⟩
   rw[C,pL (by omega)])
  (s:=((E:Int),(j:Int),l)) ⟨E,rfl,rfl,by omega,by omega,rfl,V,rfl⟩
 obtain⟨i,w,U,e3⟩:=hq
 refine⟨i,b.2,?_,U,e3⟩
 rw[Z,← w]
theorem aW(l:List AK)(c:List Int)(w:l.length≤1048576)(hc:c.length≤1048576):NR l c=some (D4 c l):=by
 unfold NR
 rcases YS l c w hc with ⟨k,A,e,B,C⟩ | ⟨e,h⟩
 ·rw[e,AD,nG (by simp),An (by omega),AD]
  obtain⟨i,s,E,M,F⟩:=lT c l w hc k (k+1) (by omega) (by omega) (by
   rw[Ha A,RS,Tl C,ot,TW]
   intro n I
   obtain⟨j,J,e⟩:=p6 I
   rw[oW] at J
   have:=B j (by omega)
   rw[nW l j (by omega)] at this
   rw[List.getElem_take] at e
   rw[← e];exact this)
  rw[E,BZ]
  have m:OA s (i:Int) (AK.mk 0 0 [] [] (Av.mk 0 0 [] []) [])=some (s.take i++List.replicate (s.length-i) (AK.mk 0 0 [] [] (Av.mk 0 0 [] []) [])):=by
   unfold OA;rw[nH ⟨by omega,by omega⟩,oP]
  rw[m,AD]
  have q:C0 (s.take i++List.replicate (s.length-i) (AK.mk 0 0 [] [] (Av.mk 0 0 [] []) [])) 0 (i:Int)=some (s.take i):=by
   unfold C0
   rw[nH ⟨by omega,by omega,by simp;omega⟩,oP]
   have:i-(0:Int).toNat=i:=by simp
   rw[this,show(0:Int).toNat=0 from rfl,pQ,List.take_append_of_le_length (by rw[oW];omega),List.take_take,Nat.min_self]
  rw[q,AD,F]
 ·rw[e,AD,nH (by decide),TW h]
theorem ga{d:AM}{n:AK}(l:n∈d.Nodes):decide (n.ID∈Kt d)=!BV (Cj d) n.ID:=by
 unfold Kt
 rw[ns,nK,oA]
 constructor
 ·rintro⟨m,j,e⟩
  rw[o5] at j
  rw[← e];exact j.2
 ·intro h
  exact⟨n,o5.2 ⟨l,h⟩,rfl⟩
theorem eP(d:AM):D4 (Kt d) d.Nodes=d.Nodes.filter λn=>BV (Cj d) n.ID:=by
 unfold D4
 apply List.filter_congr
 intro n j
 rw[ga j,Bool.not_not]
theorem T7{d:AM}(h:Do d):JG d=some (⟨d.Nodes.filter λn=>BV (Cj d) n.ID⟩,0):=by
 have j:(Kt d).length≤1048576:=by unfold Kt;rw[ni];exact nX (oT ..) h.ok.1
 unfold JG
 rw[mB h,BZ,nG (by decide),kr h.ok,AD,aW _ _ h.ok.1 j,AD,eP]
end Go.Proofs.YtmogkkigacadpaaGreatDoor.Al

set_option linter.unusedVariables false
set_option linter.unusedSimpArgs false
namespace Go.Proofs.YtmogkkigacadpaaGreatDoor.Al
open Go
theorem kN{n:Nat}(h:n<4611686018427387904):B5 .i64 (n:Int) 65535=((n % 65536:Nat):Int):=by
 have e:(BitVec.ofInt 64 (n:Int) &&& BitVec.ofInt 64 65535).toNat=n % 65536:=by
  have j:(BitVec.ofInt 64 (n:Int)).toNat=n:=by
   rw[BitVec.toNat_ofInt];omega
  rw[BitVec.toNat_and,j,show(BitVec.ofInt 64 65535).toNat=2 ^ 16-1 by decide,Nat.and_two_pow_sub_one_eq_mod]
 show IntKind.i64.wrap ((BitVec.ofInt 64 (n:Int) &&& BitVec.ofInt 64 65535).toNat:Int)=_
 rw[e]
 exact(LF (KS (x:=((n % 65536:Nat):Int)) (by omega) (by omega))).1
theorem gf(x:Int):Pm x=some (x / 65536):=by
 show some (x.fdiv 65536)=_
 rw[Int.fdiv_eq_ediv_of_nonneg _ (by omega)]
theorem T6{x}(h:0≤x)(j:x≤4611686018427387904):Kj .i64 x 65536=some (x / 65536):=by
 unfold Kj
 rw[nG (by decide),Int.tdiv_eq_ediv_of_nonneg h,KS (by omega) (by omega)]
def EA(j:Int)(l:List AK)(last:Int):Int:=l.foldl (λa n=>if n.ID / 65536=j then n.ID else a) last
def LK(j:Int)(l:List AK)(nx:Int):Int:=l.foldl (λa n=>if n.ID / 65536=j∧a≤n.ID then n.ID+1 else a) nx
theorem Zb j:∀(l:List AK) (last:Int),l.Pairwise (λa b=>a.ID<b.ID)→(∀n∈l,n.ID / 65536=j→last≤n.ID)→LK j l (last+1)=EA j l last+1:=by
 intro l
 induction l with
 | nil=>intro last _ _;rfl
 | cons n r A=>
  intro last hp B
  rw[pY] at hp
  unfold LK EA
  rw[oK,oK]
  by_cases q:n.ID / 65536=j
  ·rw[nH q]
   have E:=B n (nc ..) q
   have e:(if n.ID / 65536=j∧last+1≤n.ID then n.ID+1 else last+1)=n.ID+1:=by
    split
    ·rfl
    ·rename_i C
     have:¬ last+1≤n.ID:=λh=>C ⟨q,h⟩
     omega
   rw[e]
   exact A n.ID hp.2 λm w _=>Int.le_of_lt (hp.1 m w)
  ·rw[nG q,nG (λh=>q h.1)]
   exact A last hp.2 λm w=>B m (nY _ w)
theorem fU j:∀(l:List AK) (last:Int),last / 65536=j→EA j l last / 65536=j:=by
 intro l
 induction l with
 | nil=>intro last h;exact h
 | cons n r m=>
  intro last h
  unfold EA
  rw[oK]
  refine m _ ?_
  split
  ·rename_i q;exact q
  ·exact h
theorem bB{l:List AK}(h:Gw l):l.Pairwise λa b=>a.ID<b.ID:=by
 rw[pC]
 intro i j w q m
 have:=h i j m q
 rwa [nW l i w,nW l j q] at this
theorem UB{d:AM}(h:Fa d)(m:DX d=some 0):∀n∈d.Nodes,1≤n.ID∧n.ID≤1073741824:=by
 intro n q
 obtain⟨j,l,e⟩:=p6 q
 have:=V4 ((Jw h m).2 j l)
 rwa [nW _ j l,e] at this
theorem lz{d:AM}(h:Fa d)(q:DX d=some 0) j last:iter (λ(a:Int × Int)=>HM d j a.1 a.2) (last,0)=some (EA j d.Nodes last):=by
 have w:=h.1
 exact FH (f:=λ(a:Int × Int)=>HM d j a.1 a.2) d.Nodes (λ(c:Int) i=>(c,(i:Int))) (λr c=>EA j r c) (λ_ _=>True)
  (λi c m _=>by
   left
   show ∃A,HM d j c (i:Int)=_∧_
   unfold HM
   rw[nH (by simpa using m),Ac m,AD,gf,AD,An (by omega)]
   by_cases l:d.Nodes[i]!.ID / 65536=j
   ·rw[nH (by simpa using l)]
    refine⟨_,rfl,trivial,?_⟩
    unfold EA
    rw[oK,nH l]
   ·rw[nG (by simpa using l)]
    refine⟨_,rfl,trivial,?_⟩
    unfold EA
    rw[oK,nG l])
  (λc _=>by
   show HM d j c (d.Nodes.length:Int)=_
   unfold HM
   rw[nG (by simp)]
   rfl) last trivial (last,0) rfl
theorem ko{d:AM}(h:Fa d)(q:DX d=some 0) j nx:iter (λ(a:Int × Int)=>Hs d j a.1 a.2) (nx,0)=some (LK j d.Nodes nx):=by
 have w:=h.1
 have hp:=UB h q
 exact FH (f:=λ(a:Int × Int)=>Hs d j a.1 a.2) d.Nodes (λ(c:Int) i=>(c,(i:Int))) (λr c=>LK j r c) (λ_ _=>True)
  (λi c m _=>by
   left
   have BG:=hp _ (Bv m)
   show ∃A,Hs d j c (i:Int)=_∧_
   unfold Hs
   rw[nH (by simpa using m),Ac m,AD,T6 (by omega) (by omega),AD,An (by omega)]
   by_cases l:d.Nodes[i]!.ID / 65536=j∧c≤d.Nodes[i]!.ID
   ·rw[nH (by simpa using l),KS (by omega) (by omega)]
    refine⟨_,rfl,trivial,?_⟩
    unfold LK
    rw[oK,nH l]
   ·rw[nG (by simpa using l)]
    refine⟨_,rfl,trivial,?_⟩
    unfold LK
    rw[oK,nG l])
  (λc _=>by
   show Hs d j c (d.Nodes.length:Int)=_
   unfold Hs
   rw[nG (by simp)]
   rfl) nx trivial (nx,0) rfl
theorem V6{d:AM}(h:Do d)(m:(Cj d).length≤1048576):iter (λ(a:Int × AM)=>HX d ((Cj d).map BF) a.1 a.2) (0,(AM.mk []))=some ⟨d.Nodes.filter λn=>BV (Cj d) n.ID⟩:=by
 have C:=h.ok.1
 have:=FH (f:=λ(a:Int × AM)=>HX d ((Cj d).map BF) a.1 a.2) d.Nodes (λ(c:List AK) i=>((i:Int),(⟨c⟩:AM))) (λr c=>(⟨c++r.filter λn=>BV (Cj d) n.ID⟩:AM)) (λi c=>c.length≤i)
  (λi c j q=>by
   left
   show ∃E,HX d ((Cj d).map BF) (i:Int) ⟨c⟩=_∧_
   unfold HX
   obtain⟨r,w,A⟩:=Wr (Cj d) d.Nodes[i]!.ID m
   rw[nH (by simpa using j),Ac j,AD,w,AD,A,An (by omega)]
   cases l:BV (Cj d) d.Nodes[i]!.ID with
   | true=>
    have B:app 152 c [d.Nodes[i]!]=some (c++[d.Nodes[i]!]):=by
     unfold app
     rw[nH ⟨by simp;omega,by simp;omega⟩]
    rw[nH rfl]
    dsimp only
    rw[B]
    refine⟨c++[d.Nodes[i]!],rfl,by simp;omega,?_⟩
    rw[oh,l];simp
   | false=>
    rw[nG (by decide)]
    refine⟨c,rfl,by omega,?_⟩
    rw[oh,l];simp)
  (λc q=>by
   show HX d ((Cj d).map BF) (d.Nodes.length:Int) ⟨c⟩=_
   unfold HX
   rw[nG (by simp)]
   simp) [] (by simp) ((0:Int),⟨[]⟩) rfl
 rw[oV] at this
 exact this
theorem cF(d:AM) j(h:Fa d)(hd:∀n∈d.Nodes,Il n.Draw):O6 d j=some true:=by
 have X:=h.1
 obtain⟨e,A,O⟩:=mC d h
 unfold O6
 rw[Z7,AD,nG (by decide)]
 by_cases E:e=0
 ·subst E
  have hg:Do d:=⟨h,hd,A⟩
  have Z:=(ZB hg).len
  have F:JD ⟨d.Nodes.filter λn=>BV (Cj d) n.ID⟩ ⟨d.Nodes.filter λn=>BV (Cj d) n.ID⟩=some true:=by
   rw[VA _ _ ⟨nX (oT ..) X,λn U=>(h.2 n (o5.1 U).1).ok⟩,nJ rfl]
  have I:CW j 0 1000=some ((0≤j)&&(j≤1000)):=rfl
  have tail:∀l m:Int,Fe d j=some (l,m)→(AB (Fe d j) λw=>some w)=some (l,m):=λl m e=>by rw[e];rfl
  by_cases hs:0≤j∧j≤1000
  ·have T:Ct .i64 j 16=j * 65536:=by
    unfold Ct
    have:(2:Int) ^ (min 16 (IntKind.i64).bits)=65536:=by decide
    rw[this]
    have:=CH (z:=j * 65536) (by omega) (by omega)
    exact(LF this).1
   have a0:=UB h A
   have J:=Zb j d.Nodes (j * 65536) (bB (Jw h A).1) (λn U hq=>by omega)
   have a1:=fU j d.Nodes (j * 65536) (by omega)
   have q:Fe d j=if decide (B5 .i64 (EA j d.Nodes (j * 65536)) 65535=65535)=true then some (0,18) else some (EA j d.Nodes (j * 65536)+1,0):=by
    unfold Fe
    rw[A,AD,nG (by decide),nG (by simp;omega),T,lz h A,AD,KS (by omega) (by omega),AD]
   have M:B5 .i64 (EA j d.Nodes (j * 65536)) 65535=EA j d.Nodes (j * 65536) % 65536:=by
    obtain⟨k,hk⟩:=Int.eq_ofNat_of_zero_le (show 0≤EA j d.Nodes (j * 65536) by omega)
    rw[hk,kN (by omega)]
    omega
   rw[M] at q
   have rest:∀l m:Int,(if decide (EA j d.Nodes (j * 65536) % 65536=65535)=true then some ((0:Int),(18:Int)) else some (EA j d.Nodes (j * 65536)+1,0))=some (l,m) →
     (if(!((EA j d.Nodes (j * 65536)+1) / 65536=j))=true then(some ((m=18)&&(l=0))) else some ((m=0)&&(l=EA j d.Nodes (j * 65536)+1)))=some true:=by
    intro l m B
    by_cases V:EA j d.Nodes (j * 65536) % 65536=65535
    ·rw[nH (by simpa using V)] at B
     cases B
     rw[nH (by simp;omega)]
     rfl
    ·rw[nG (by simpa using V)] at B
     cases B
     rw[nG (by simp;omega)]
     simp
   obtain⟨l,m,B⟩:∃l m,Fe d j=some (l,m):=by
    rw[q];split
    ·exact⟨_,_,rfl⟩
    ·exact⟨_,_,rfl⟩
   have C:=rest l m (by rw[← q,B])
   rw[B,BZ,T7 hg,BZ,O,AD,nG (by decide),Tu hg,AD,V6 hg (by omega),AD,F,show((!((0:Int)=0))==false)=true from rfl,Aq,AD,nG (by decide),I,AD,nG (by simp;omega),KS (by omega) (by omega),AD,KS (by omega) (by omega),AD,ko h A,AD,J,T6 (by omega) (by omega),AD]
   exact C
  ·have q:Fe d j=some (0,2):=by
    unfold Fe
    rw[A,AD,nG (by decide),nH (by simp;omega)]
   rw[q,BZ,T7 hg,BZ,O,AD,nG (by decide),Tu hg,AD,V6 hg (by omega),AD,F,show((!((0:Int)=0))==false)=true from rfl,Aq,AD,nG (by decide),I,AD,nH (by simp;omega)]
   rfl
 ·have hL:IO d=some ([],e):=by
   unfold IO
   rw[A,AD,nH (by simpa using E)]
  have hC:JG d=some (⟨[]⟩,e):=by
   unfold JG
   rw[hL,BZ,nH (by simpa using E)]
  have hN:Fe d j=some (0,e):=by
   unfold Fe
   rw[A,AD,nH (by simpa using E)]
  rw[hN,BZ,hC,BZ,O,AD,nH (by simpa using E)]
  simp
end Go.Proofs.YtmogkkigacadpaaGreatDoor.Al
