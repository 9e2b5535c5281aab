/- Plain laws over the models, a part of them. -/
import Derived.Test.YtifgmfoihehlbaaGreatDoorPL1
set_option linter.all false
set_option linter.unusedVariables false
set_option linter.unusedSimpArgs false
namespace Go.Proofs.YtifgmfoihehlbaaGreatDoor.Al
open Go
theorem ka{d:AP}(h:Is d)(l:D2 d=some 0):0<d.Nodes.length∧d.Nodes[0]!.ID=1:=by
 obtain⟨-,m⟩:=N7 h l
 unfold D2 at l
 split at l
 ·cases l
 rename_i w
 have j:0<d.Nodes.length:=by
  rcases uy d.Nodes.length with h | h
  ·exact absurd (rR (show((d.Nodes.length:Int))=0 by omega)) w
  ·exact h
 refine⟨j,?_⟩
 by_cases BT:d.Nodes[0]!.ID=1
 ·exact BT
 exfalso
 have q:iter (λ(a:Int)=>CJ d a) 0=some (.ext 5):=by
  refine BN ?_
  have e0:=m 0 j
  show CJ d ((0:Nat):Int)=_
  unfold CJ
  rw[rO (by simpa using j),Ae j,AD,e0,AD,rN (by decide),rR (show((0:Nat):Int)=0 from rfl),rQ (show ¬ (0:Int)<((0:Nat):Int) by omega),rQ BT]
  rfl
 rw[q] at l
 cases l
theorem Ui{d:AP}(h:B4 d):DT d 1:=by
 obtain⟨l,m⟩:=ka h.ok h.ch
 unfold DT
 cases j:CQ d.Nodes 1 with
 | some k=>exact⟨k,rfl⟩
 | none=>
  exfalso
  unfold CQ at j
  rw[uP] at j
  exact j 0 (sA.2 l) (by simpa using m)
noncomputable def C3(d:AP):List Aw:=CL d (d.Nodes.length+1) [] ⟨1,0,true⟩
theorem Vr(d:AP):D8 d []<d.Nodes.length+1:=Nat.lt_succ_of_le (List.countP_le_length ..)
theorem fH{σ:Type}(Y:σ→Aw→Option (Bool × σ)){d:AP}(h:B4 d){s s'}{b}(l:Du Y (C3 d) s=some (b,s')):∃j,gN Y d (d.Nodes.length+1) [] s ⟨1,0,true⟩=some (b,j,s'):=by
 obtain⟨new,m,_,w⟩:=kl Y h (d.Nodes.length+1) [] ⟨1,0,true⟩ [] s (Ui h) (Vr d) (λi=>rfl)
 have:C3 d=new:=by unfold C3;rw[m,se]
 rw[this] at l
 obtain⟨j,q,_⟩:=w b s' l
 exact⟨j,q⟩
section
variable{σ:Type}(Y:σ→Aw→Option (Bool × σ)){d:AP}
theorem Wf{v:Aw}{self j:Kq σ}(C:∀m s w r,self m s w=some r→j m s w=some r){l:List Int}{x:Int}{m:List (Int × Bool)}{s:σ}{r}(h:ES v self l x m s=some r):ES v j l x m s=some r:=by
 unfold ES at h ⊢
 split at h
 ·rename_i q
  rw[rO q]
  cases B:AM l x with
  | none=>rw[B] at h;cases h
  | some y=>
   rw[B,AD] at h
   rw[AD]
   cases A:self m s ⟨y,v.id,v.visible⟩ with
   | none=>rw[A] at h;cases h
   | some p=>rw[A] at h;rw[C _ _ _ _ A];exact h
 ·rename_i q
  rw[rN q];exact h
theorem aV{v:Aw}{self j:Kq σ}(E:∀m s w r,self m s w=some r→j m s w=some r){n:AI}{x:Int}{m:List (Int × Bool)}{s:σ}{r}(h:ED v self n x m s=some r):ED v j n x m s=some r:=by
 unfold ED at h ⊢
 split at h
 ·rename_i l
  rw[rO l]
  cases C:AM n.Grid.Cells x with
  | none=>rw[C] at h;cases h
  | some c=>
   rw[C,AD] at h
   rw[AD]
   cases hg:He n.Grid c.Row c.Col with
   | none=>rw[hg] at h;cases h
   | some q=>
    rw[hg,AD] at h
    rw[AD]
    split at h
    ·rename_i A
     rw[rO A]
     cases B:self m s ⟨c.Ref,v.id,((v.visible&&(q.Row=c.Row))&&(q.Col=c.Col))⟩ with
     | none=>rw[B] at h;cases h
     | some p=>rw[B] at h;rw[E _ _ _ _ B];exact h
    ·rename_i A
     rw[rN A];exact h
 ·rename_i l
  rw[rN l];exact h
theorem co{self j}(B:∀m s w r,self m s w=some r→j m s w=some r){m}{s}{v:Aw}{r}(h:gB Y d self m s v=some r):gB Y d j m s v=some r:=by
 unfold gB at h ⊢
 split at h
 ·rename_i C
  rw[rO C];exact h
 ·rename_i C
  rw[rN C]
  cases M:Y s v with
  | none=>rw[M] at h;cases h
  | some p=>
   rw[M,BW] at h
   rw[BW]
   split at h
   ·rename_i E
    rw[rO E];exact h
   ·rename_i E
    rw[rN E]
    cases O:FX d v.id with
    | none=>rw[O] at h;cases h
    | some q=>
     rw[O,BW] at h
     rw[BW]
     cases T:AM d.Nodes q.1 with
     | none=>rw[T] at h;cases h
     | some n=>
      rw[T,AD] at h
      rw[AD]
      cases U:K0 n.Flow with
      | none=>rw[U] at h;cases h
      | some l=>
       rw[U,AD] at h
       rw[AD]
       cases F:iter (λ(a:Int × (List (Int × Bool)) × σ)=>ES v self l a.1 a.2.1 a.2.2) (0,(An m v.id true),p.2) with
       | none=>rw[F] at h;cases h
       | some c1=>
        rw[F] at h
        rw[JH (g:=λ(a:Int × (List (Int × Bool)) × σ)=>ES v j l a.1 a.2.1 a.2.2) (λs v A=>Wf B A) F]
        cases c1 with
        | ext e=>exact h
        | nrm t=>
         change F8 (iter (λ(a:Int × (List (Int × Bool)) × σ)=>ED v self n a.1 a.2.1 a.2.2) (0,t.1,t.2)) _=_ at h
         show F8 (iter (λ(a:Int × (List (Int × Bool)) × σ)=>ED v j n a.1 a.2.1 a.2.2) (0,t.1,t.2)) _=_
         cases I:iter (λ(a:Int × (List (Int × Bool)) × σ)=>ED v self n a.1 a.2.1 a.2.2) (0,t.1,t.2) with
         | none=>rw[I] at h;cases h
         | some c2=>
          rw[I] at h
          rw[JH (g:=λ(a:Int × (List (Int × Bool)) × σ)=>ED v j n a.1 a.2.1 a.2.2) (λs v A=>aV B A) I]
          cases c2 with
          | ext e=>exact h
          | nrm V=>
           change AB (GF d n) _=_ at h
           show AB (GF d n) _=_
           cases X:GF d n with
           | none=>rw[X] at h;cases h
           | some Z=>
            rw[X,AD] at h
            rw[AD]
            cases J:iter (λ(a:Int × (List (Int × Bool)) × σ)=>ES v self Z a.1 a.2.1 a.2.2) (0,V.1,V.2) with
            | none=>rw[J] at h;cases h
            | some c3=>
             rw[J] at h
             rw[JH (g:=λ(a:Int × (List (Int × Bool)) × σ)=>ES v j Z a.1 a.2.1 a.2.2) (λs v A=>Wf B A) J]
             exact h
theorem fw:∀(n:Nat) (m:List (Int × Bool)) (s:σ) (v:Aw) r,gN Y d n m s v=some r→gN Y d (n+1) m s v=some r:=by
 intro n
 induction n with
 | zero=>intro m s v r h;cases h
 | succ n j=>intro m s v r h;exact co Y j h
end
theorem Vo j d:∀(n:Nat) m ys v,HX n j m ys d v=gN (λys v=>G0 j ys v) d n m ys v:=by
 intro n
 induction n with
 | zero=>intro m ys v;rfl
 | succ n q=>
  intro m ys v
  have e:gN (λys v=>G0 j ys v) d n=λm ys v=>HX n j m ys d v:=by
   funext m ys v;exact(q m ys v).symm
  show SU (λj w l A v1=>HX n j w l A v1) j m ys d v=gB (λys v=>G0 j ys v) d (gN (λys v=>G0 j ys v) d n) m ys v
  rw[e]
  rfl
theorem lr{l}{d}(h:B4 d){ys j}{b}(q:Du (λys v=>G0 l ys v) (C3 d) ys=some (b,j)):NH l ys d=some j:=by
 obtain⟨A,w⟩:=fH _ h q
 unfold NH P6
 rw[P8 (N:=λn=>HX n l [] ys d ⟨1,0,true⟩) (λn r m=>by rw[Vo] at m ⊢;exact fw _ n _ _ _ r m) (by rw[Vo];exact w),Gi]
def GY(v:Aw):List RV:=[.int .i64 v.id,.int .i64 v.parent]
theorem ib{σ:Type}(F:σ→List RV→Option σ) a b(j:σ){r}(h:EN F (a++b) j=some r):∃m,EN F a j=some m:=by
 induction a generalizing j with
 | nil=>exact⟨j,rfl⟩
 | cons y a q=>
  rw[sv] at h
  simp only[EN] at h ⊢
  cases l:F j y with
  | none=>rw[l] at h;cases h
  | some s=>rw[l,sJ] at h;rw[sJ];exact q s h
theorem p7{σ:Type}(F:σ→List RV→Option σ)(j:σ):∀(l:List Aw) (ys:List (List RV)) {r:σ},EN F (ys++l.map GY) j=some r→Du (λys v=>G0 (Ig F j) ys v) l ys=some (true,ys++l.map GY):=by
 intro l
 induction l with
 | nil=>intro ys r _;simp[Du]
 | cons v l q=>
  intro ys r h
  have e:ys++(v::l).map GY=(ys++[GY v])++l.map GY:=by simp
  rw[e] at h ⊢
  obtain⟨w,m⟩:=ib F (ys++[GY v]) _ j h
  have:G0 (Ig F j) ys v=some (true,ys++[GY v]):=by
   unfold G0
   show AB (Ig F j (ys++[GY v])) _=_
   unfold Ig
   rw[m];rfl
  simp only[Du,this]
  exact q _ h
theorem iH{σ:Type}{d}(h:B4 d)(F:σ→Int→Int→Option σ)(j:σ){r}(l:EN (λs=>m2 (F s)) ((C3 d).map GY) j=some r):rng2 (λA=>IM A [] d) F j=some r:=by
 have m:=p7 (λs=>m2 (F s)) j (C3 d) [] (r:=r) (by rw[se];exact l)
 rw[se] at m
 have q:IM (Ig (λs=>m2 (F s)) j) [] d=some ((C3 d).map GY):=by
  unfold IM
  rw[h.ch,AD,rN (by decide),lr h m,AD]
 show(IM (Ig (λs=>m2 (F s)) j) [] d).bind _=_
 rw[q,sJ]
 exact l
end Go.Proofs.YtifgmfoihehlbaaGreatDoor.Al

set_option linter.unusedVariables false
set_option linter.unusedSimpArgs false
namespace Go.Proofs.YtifgmfoihehlbaaGreatDoor.Al
open Go
def BO(v:Aw):Ac:=⟨v.id,v.parent,v.visible⟩
def Gd(d:AP)(j:List Aw):Prop:=(j.Pairwise λa b=>a.id≠b.id)∧∀w∈j,DT d w.id
theorem WX:∀(l A:List Int),l.Pairwise (· ≠ ·)→(∀z∈l,z∈A)→l.length≤A.length:=by
 intro l
 induction l with
 | nil=>intro A _ _;exact s6 _
 | cons a r w=>
  intro A hp j
  rw[uA] at hp
  have m:=j a (rn ..)
  have:=w (A.erase a) hp.2 λz q=>(List.mem_erase_of_ne (λe=>hp.1 z q e.symm)).2 (j z (rj _ q))
  rw[List.length_erase_of_mem m] at this
  have:0<A.length:=List.length_pos_of_mem m
  simp;omega
theorem Gd.len{d:AP}{j:List Aw}(h:Gd d j):j.length≤d.Nodes.length:=by
 have:=WX (j.map (·.id)) (d.Nodes.map (·.ID)) (by rw[tq];exact h.1) (λz l=>by
  obtain⟨w,m,rfl⟩:=sK.1 l
  obtain⟨k,q⟩:=h.2 w m
  obtain⟨A,B⟩:=FF q
  exact sK.2 ⟨d.Nodes[k]!,Bk A,B⟩)
 simpa using this
theorem Gd.snoc{d}{j}(h:Gd d j){v:Aw}(m:DT d v.id)(q:CM j v.id=false):Gd d (j++[v]):=by
 refine⟨ut.2 ⟨h.1,by simp,λa A b B e=>?_⟩,λw l=>?_⟩
 ·obtain rfl:=s7.1 B
  have:CM j b.id=true:=by unfold CM;rw[sw];exact⟨a,A,by simpa using e⟩
  rw[q] at this;cases this
 ·rcases sk.1 l with l | l
  ·exact h.2 w l
  ·obtain rfl:=s7.1 l;exact m
theorem ZP{d}(h:B4 d):∀(n:Nat) (j:List Aw) (v:Aw),DT d v.id→Gd d j→Gd d (CL d n j v)∧D8 d (CL d n j v)≤D8 d j:=by
 intro n
 induction n with
 | zero=>intro j v _ hg;exact⟨hg,rV _⟩
 | succ n E=>
  intro j v B hg
  unfold CL
  split
  ·exact⟨hg,rV _⟩
  ·rename_i l
   have l:CM j v.id=false:=by simpa using l
   have F:=Ts h B
   have key:∀(ks:List Aw) (a:List Aw),(∀w∈ks,DT d w.id)→Gd d a→Gd d (ks.foldl (λa w=>CL d n a w) a)∧D8 d (ks.foldl (λa w=>CL d n a w) a)≤D8 d a:=by
    intro ks
    induction ks with
    | nil=>intro a _ m;exact⟨m,rV _⟩
    | cons w r q=>
     intro a C m
     obtain⟨A,g2⟩:=E a w (C w (rn ..)) m
     obtain⟨g3,g4⟩:=q (CL d n a w) (λz I=>C z (rj _ I)) A
     exact⟨g3,by rw[sm];omega⟩
   obtain⟨A,g2⟩:=key _ (j++[v]) F (hg.snoc B l)
   exact⟨A,rh g2 (YO d j [v])⟩
theorem kN(l:List Aw) id(B:l.length≤1048576):∃r,Om (l.map BO) id=some r∧decide (0≤r)=CM l id:=by
 unfold Om
 have h:=By (f:=λ(a:Int)=>Ld (l.map BO) id a) (n:=l.length) (λk=>if l[k]!.id=id then some (k:Int) else none) (λk j=>by
  have q:k<(l.map BO).length:=by simpa using j
  unfold Ld
  rw[rO (by simpa using j),EG q,AD,uh]
  show(if decide ((BO l[k]).ID=id)=true then _ else _)=_
  rw[ri l k j]
  by_cases h:l[k].id=id
  ·rw[rO (by rw[rT];exact h),rO h];rfl
  ·rw[rN (by rw[rT];exact h),rN h,Ap (by omega)];rfl) (by unfold Ld;rw[rN (by simp)])
 rw[h]
 cases w:(List.range l.length).findSome? λ(k:Nat)=>if l[k]!.id=id then some (k:Int) else none with
 | none=>
  refine⟨-1,rfl,?_⟩
  rw[sh] at w
  have:CM l id=false:=by
   unfold CM
   rw[vC]
   intro v A
   obtain⟨k,j,rfl⟩:=sN.1 A
   have:=w k (sA.2 j)
   rw[ri l k j] at this
   split at this
   ·cases this
   ·rename_i h;simpa using h
  rw[this];rfl
 | some r=>
  obtain⟨k,j,m⟩:=sP w
  have j:=sA.1 j
  rw[ri l k j] at m
  split at m
  ·rename_i h
   cases m
   refine⟨(k:Int),rfl,?_⟩
   have:CM l id=true:=by
    unfold CM
    rw[sw]
    exact⟨l[k],sG j,by simpa using h⟩
   rw[this];simp
  ·cases m
noncomputable def PL(v:Aw)(g:Ar)(r:List Aj):List Aw:=(r.filter λc=>!(c.Ref=0)).map (HR v g)
theorem VW v g(x:Aj) r:PL v g (x::r)=(if x.Ref=0 then [] else [HR v g x])++PL v g r:=by
 unfold PL
 rw[tW]
 by_cases h:x.Ref=0<;>simp[h]
def gp(d:AP)(n:Nat):Prop:=∀(j:List Aw) (v:Aw),DT d v.id→D8 d j<n→Gd d j→Ca n (j.map BO) d (BO v)=some ((CL d n j v).map BO)
theorem fE{d:AP}(h:B4 d):∀n,gp d n:=by
 intro n
 induction n with
 | zero=>intro A v _ hu;omega
 | succ n IH=>
  intro A v hv hu hg
  have hm:=h.ok.1
  have av:=hg.len
  show Jr (λm F B=>Ca n m F B) (A.map BO) d (BO v)=_
  unfold Jr
  obtain⟨r,r1,r2⟩:=kN A v.id (by omega)
  rw[show(BO v).ID=v.id from rfl,r1,AD,r2]
  by_cases hs:CM A v.id=true
  ·rw[rO hs]
   unfold CL
   rw[rO hs]
  ·rw[rN hs]
   have a7:CM A v.id=false:=by simpa using hs
   have aw:=WP hv a7
   have a8:=hg.snoc hv a7
   obtain⟨U,ai,aa,ab,ax,ac⟩:=h.node hv
   obtain⟨kk,a0⟩:=hv
   have a1:IG d v.id=some (kk:Int):=by rw[RA d v.id hm,a0]
   have ad:AM d.Nodes (kk:Int)=some (Bi d v.id):=by rw[a0] at ac;exact ac
   have ae:app 24 (A.map BO) [BO v]=some ((A++[v]).map BO):=by
    unfold app
    rw[rO ⟨by simp;omega,by simp;omega⟩]
    simp
   rw[ae,AD,a1,AD,ad,AD]
   have hR:CL d (n+1) A v=(kids d v (Bi d v.id)).foldl (λa w=>CL d n a w) (A++[v]):=by
    conv=>lhs;unfold CL
    rw[rN hs]
   rw[hR]
   unfold kids
   rw[vD,vD]
   have O:=Ts h ⟨kk,a0⟩
   unfold kids at O
   generalize hN:Bi d v.id=N at *
   have C:∀(a:List Aw) (w:Aw),DT d w.id→D8 d a<n→Gd d a→Ca n (a.map BO) d (BO w)=some ((CL d n a w).map BO)∧D8 d (CL d n a w)<n∧Gd d (CL d n a w):=λa w V ha af=>by
    obtain⟨g1,g2⟩:=ZP h n a w V af
    exact⟨IH a w V ha af,by omega,g1⟩
   have ay:=U.ok.fl
   have az:=U.ok.gr.1
   have w1:=Eo (f:=λ(a:Int × (List Ac))=>Fi d (BO v) (λm F B=>Ca n m F B) N a.1 a.2) N.Flow (λ(c:List Aw) i=>((i:Int),c.map BO))
    (λr c=>(((CX r).map λid=>(⟨id,v.id,v.visible⟩:Aw)).foldl (λa w=>CL d n a w) c).map BO) (λi c=>(D8 d c<n∧Gd d c)∧∀x∈N.Flow,x.Ref≠0→DT d x.Ref)
    (λi c I ⟨⟨Z,c2⟩,c3⟩=>by
     left
     show ∃c',Fi d (BO v) _ N (i:Int) (c.map BO)=_∧_
     unfold Fi
     rw[rO (by simpa using I),Ae I,AD,Ap (by omega)]
     by_cases E:N.Flow[i]!.Ref=0
     ·refine⟨c,by rw[rR E];rfl,⟨⟨Z,c2⟩,c3⟩,?_⟩
      rw[Qv,rO E,se]
     ·obtain⟨B,s2,s3⟩:=C c ⟨N.Flow[i]!.Ref,v.id,v.visible⟩ (c3 _ (Bk I) E) Z c2
      refine⟨_,?_,⟨⟨s2,s3⟩,c3⟩,?_⟩
      ·rw[rQ E,rO (by decide)]
       show AB (AB (Ca n (c.map BO) d (BO ⟨N.Flow[i]!.Ref,v.id,v.visible⟩)) _) _=_
       rw[B];rfl
      ·rw[Qv,rN E];rfl)
    (λc _=>by
     show Fi d (BO v) _ N (N.Flow.length:Int) (c.map BO)=_
     unfold Fi
     rw[rN (by simp)]
     rfl) (A++[v]) ⟨⟨by omega,a8⟩,λx J E=>ab x.Ref (ta _ (by unfold CX;exact sK.2 ⟨x,tS.2 ⟨J,by simpa using E⟩,rfl⟩))⟩ ((0:Int),(A++[v]).map BO) rfl
   have aj:iter (λ(a:Int × (List Ac))=>Fi d (BO v) (λm F B=>Ca n m F B) N a.1 a.2) (0,(A++[v]).map BO)=_:=w1
   rw[aj,AD]
   have T:∀(ks:List Aw) (a:List Aw),(∀w∈ks,DT d w.id)→D8 d a<n→Gd d a→D8 d (ks.foldl (λa w=>CL d n a w) a)<n∧Gd d (ks.foldl (λa w=>CL d n a w) a):=by
    intro ks
    induction ks with
    | nil=>intro a _ h1 h2;exact⟨h1,h2⟩
    | cons w r ak=>
     intro a V h1 h2
     obtain⟨_,s2,s3⟩:=C a w (V w (rn ..)) h1 h2
     exact ak _ (λz hz=>V z (rj _ hz)) s2 s3
   have al:(CX N.Flow).map (λid=>(⟨id,v.id,v.visible⟩:Aw))=MX v N:=rfl
   rw[al]
   obtain⟨b1,b2⟩:=T (MX v N) (A++[v]) (λw V=>O w (ta _ V)) (by omega) a8
   generalize (MX v N).foldl (λa w=>CL d n a w) (A++[v])=A1 at *
   have ag:=Ue U aa
   have w2:=Eo (f:=λ(a:Int × (List Ac))=>F0 d (BO v) (λm F B=>Ca n m F B) N a.1 a.2) N.Grid.Cells (λ(c:List Aw) i=>((i:Int),c.map BO))
    (λ(r:List Aj) (c:List Aw)=>((PL v N.Grid r).foldl (λa w=>CL d n a w) c).map BO) (λi c=>(D8 d c<n∧Gd d c)∧∀x∈N.Grid.Cells,x.Ref≠0→DT d x.Ref)
    (λi c I ⟨⟨Z,c2⟩,c3⟩=>by
     left
     show ∃c',F0 d (BO v) _ N (i:Int) (c.map BO)=_∧_
     unfold F0
     rw[rO (by simpa using I),Ae I,AD,Ap (by omega)]
     obtain⟨q,q1,q2⟩:=ag _ (Bk I)
     by_cases E:N.Grid.Cells[i]!.Ref=0
     ·refine⟨c,by rw[rR E];rfl,⟨⟨Z,c2⟩,c3⟩,?_⟩
      rw[VW,rO E,se]
     ·have a2:HR v N.Grid N.Grid.Cells[i]! = ⟨N.Grid.Cells[i]!.Ref,v.id,((v.visible&&(q.Row=N.Grid.Cells[i]!.Row))&&(q.Col=N.Grid.Cells[i]!.Col))⟩:=by unfold HR;rw[q1]
      obtain⟨B,s2,s3⟩:=C c (HR v N.Grid N.Grid.Cells[i]!) (by rw[a2];exact c3 _ (Bk I) E) Z c2
      refine⟨_,?_,⟨⟨s2,s3⟩,c3⟩,?_⟩
      ·rw[rQ E,rO (by decide),q2,AD]
       rw[a2] at B
       show AB (AB (Ca n (c.map BO) d (BO ⟨N.Grid.Cells[i]!.Ref,v.id,((v.visible&&(q.Row=N.Grid.Cells[i]!.Row))&&(q.Col=N.Grid.Cells[i]!.Col))⟩)) _) _=_
       rw[B,a2];rfl
      ·rw[VW,rN E];rfl)
    (λc _=>by
     show F0 d (BO v) _ N (N.Grid.Cells.length:Int) (c.map BO)=_
     unfold F0
     rw[rN (by simp)]
     rfl) A1 ⟨⟨b1,b2⟩,λx J E=>ab x.Ref (tg _ (by unfold Eu;exact sK.2 ⟨x,tS.2 ⟨J,by simpa using E⟩,rfl⟩))⟩ ((0:Int),A1.map BO) rfl
   have an:iter (λ(a:Int × (List Ac))=>F0 d (BO v) (λm F B=>Ca n m F B) N a.1 a.2) (0,A1.map BO)=_:=w2
   rw[an,AD]
   have ao:PL v N.Grid N.Grid.Cells=LG v N:=rfl
   rw[ao]
   obtain⟨b3,b4⟩:=T (LG v N) A1 (λw V=>O w (tg _ (ta _ V))) b1 b2
   generalize (LG v N).foldl (λa w=>CL d n a w) A1=A2 at *
   obtain⟨L,X,t1,t2,t3,t4⟩:=Qe h.ids h.ok.1 h.srt U ai aa
   have aq:GQ d N=L.filterMap (EP d):=by unfold GQ;rw[t1];rfl
   rw[t2,BW]
   have a6:∀x id,EP d x=some id→DT d id:=λx id J=>by
    unfold EP JP at J
    cases M:CQ d.Nodes (EO (BF x.Attrs IX)) with
    | none=>rw[M] at J;cases J
    | some j=>
     rw[M] at J
     simp only at J
     split at J
     ·cases J;exact⟨j,M⟩
     ·cases J
   have w3:=Eo (f:=λ(a:Int × (List Ac))=>F3 d (BO v) (λm F B=>Ca n m F B) (L++X) (L.length:Int) a.1 a.2) L (λ(c:List Aw) i=>((i:Int),c.map BO))
    (λr c=>(((r.filterMap (EP d)).map λid=>(⟨id,v.id,v.visible⟩:Aw)).foldl (λa w=>CL d n a w) c).map BO) (λi c=>D8 d c<n∧Gd d c)
    (λi c I ⟨Z,c2⟩=>by
     left
     have ar:i<(L++X).length:=by simp;omega
     have hget:(L++X)[i]=L[i]!:=by rw[List.getElem_append_left I,ri L i I]
     show ∃c',F3 d (BO v) _ (L++X) (L.length:Int) (i:Int) (c.map BO)=_∧_
     unfold F3
     have b0:=t4 _ (Bk I)
     rw[rO (by simpa using I),EG ar,AD,hget,Ap (by simp at t3;omega),I3 _ _ (by omega),AD,mU,AD,RA _ _ hm,AD]
     rw[show([110,111,100,101]:List UInt8)=IX from rfl]
     cases l:EP d L[i]! with
     | none=>
      refine⟨c,?_,⟨Z,c2⟩,by rw[tu,l]⟩
      unfold EP JP at l
      generalize EO (BF L[i]!.Attrs IX)=id at *
      cases M:CQ d.Nodes id with
      | none=>simp[Bp,AD]
      | some j=>
       rw[M] at l
       obtain⟨hj,_⟩:=FF M
       obtain⟨f1,f2⟩:=Q7 h.ids M
       simp only at l ⊢
       rw[rR (show 0<id by omega),rR (show(0:Int)≤(j:Int) by omega)]
       simp only[uY,sc,Ak,sE]
       rw[Ae hj,AD]
       split at l
       ·cases l
       ·rename_i hk
        rw[rN (by simpa using hk)]
        rfl
     | some id=>
      obtain⟨B,s2,s3⟩:=C c ⟨id,v.id,v.visible⟩ (a6 _ _ l) Z c2
      refine⟨_,?_,⟨s2,s3⟩,by rw[tu,l];rfl⟩
      unfold EP JP at l
      generalize EO (BF L[i]!.Attrs IX)=ah at *
      cases M:CQ d.Nodes ah with
      | none=>rw[M] at l;cases l
      | some j=>
       rw[M] at l
       obtain⟨hj,_⟩:=FF M
       obtain⟨f1,f2⟩:=Q7 h.ids M
       simp only at l ⊢
       rw[rR (show 0<ah by omega),rR (show(0:Int)≤(j:Int) by omega)]
       simp only[uY,sc,Ak,sE]
       rw[Ae hj,AD]
       split at l
       ·rename_i hk
        cases l
        rw[rO (by simpa using hk)]
        show AB (AB (Ca n (c.map BO) d (BO ⟨id,v.id,v.visible⟩)) _) _=_
        rw[B];rfl
       ·cases l)
    (λc _=>by
     show F3 d (BO v) _ (L++X) (L.length:Int) (L.length:Int) (c.map BO)=_
     unfold F3
     rw[rN (by simp)]
     rfl) A2 ⟨b3,b4⟩ ((0:Int),A2.map BO) rfl
   have au:iter (λ(a:Int × (List Ac))=>F3 d (BO v) (λm F B=>Ca n m F B) (L++X) (L.length:Int) a.1 a.2) (0,A2.map BO)=_:=w3
   rw[au,AD]
   unfold HK
   rw[aq]
theorem fT:∀(n:Nat) (o:List Ac) (d:AP) (s:Ac) r,Ca n o d s=some r→Ca (n+1) o d s=some r:=by
 intro n
 induction n with
 | zero=>intro o d s r h;cases h
 | succ n U=>
  intro o d s r h
  change Jr (λj l m=>Ca n j l m) o d s=some r at h
  show Jr (λj l m=>Ca (n+1) j l m) o d s=some r
  have m1:∀(N:AI) (A:Int × List Ac) v,Fi d s (λj l m=>Ca n j l m) N A.1 A.2=some v→Fi d s (λj l m=>Ca (n+1) j l m) N A.1 A.2=some v:=λN A v h=>by
   unfold Fi at h ⊢
   split at h
   ·rename_i C
    rw[rO C]
    obtain⟨y,B,F⟩:=Bl h
    obtain⟨x,V,I⟩:=Bl B
    rw[V,AD]
    split at I
    ·rename_i E
     rw[rO E]
     obtain⟨w,J,M⟩:=Bl I
     dsimp only
     rw[U _ _ _ _ J,AD,M,AD];exact F
    ·rename_i E
     rw[rN E,I,AD];exact F
   ·rename_i C
    rw[rN C];exact h
  have m2:∀(N:AI) (A:Int × List Ac) v,F0 d s (λj l m=>Ca n j l m) N A.1 A.2=some v→F0 d s (λj l m=>Ca (n+1) j l m) N A.1 A.2=some v:=λN A v h=>by
   unfold F0 at h ⊢
   split at h
   ·rename_i C
    rw[rO C]
    obtain⟨y,B,F⟩:=Bl h
    obtain⟨x,V,I⟩:=Bl B
    rw[V,AD]
    split at I
    ·rename_i E
     rw[rO E]
     obtain⟨q,h7,h8⟩:=Bl I
     obtain⟨w,J,M⟩:=Bl h8
     rw[h7,AD]
     dsimp only
     rw[U _ _ _ _ J,AD,M,AD];exact F
    ·rename_i E
     rw[rN E,I,AD];exact F
   ·rename_i C
    rw[rN C];exact h
  have m3:∀(X:List AE) (Z:Int) (A:Int × List Ac) v,F3 d s (λj l m=>Ca n j l m) X Z A.1 A.2=some v→F3 d s (λj l m=>Ca (n+1) j l m) X Z A.1 A.2=some v:=λX Z A v h=>by
   unfold F3 at h ⊢
   split at h
   ·rename_i C
    rw[rO C]
    obtain⟨y,B,F⟩:=Bl h
    obtain⟨x1,a1,B⟩:=Bl B
    obtain⟨x2,a2,B⟩:=Bl B
    obtain⟨x3,a3,B⟩:=Bl B
    obtain⟨T,a4,B⟩:=Bl B
    obtain⟨x5,a5,B⟩:=Bl B
    rw[a1,AD,a2,AD,a3,AD,a4,AD,a5,AD]
    split at B
    ·rename_i E
     rw[rO E]
     obtain⟨w,J,M⟩:=Bl B
     dsimp only
     rw[U _ _ _ _ J,AD,M,AD];exact F
    ·rename_i E
     rw[rN E,B,AD];exact F
   ·rename_i C
    rw[rN C];exact h
  unfold Jr at h ⊢
  obtain⟨x1,a1,h⟩:=Bl h
  rw[a1,AD]
  split at h
  ·rename_i C
   rw[rO C];exact h
  ·rename_i C
   rw[rN C]
   obtain⟨x2,a2,h⟩:=Bl h
   obtain⟨x3,a3,h⟩:=Bl h
   obtain⟨T,a4,h⟩:=Bl h
   obtain⟨x5,a5,h⟩:=Bl h
   obtain⟨x6,a6,h⟩:=Bl h
   rw[a2,AD,a3,AD,a4,AD,JH (g:=λ(a:Int × (List Ac))=>Fi d s (λj l m=>Ca (n+1) j l m) T a.1 a.2) (λs v O=>m1 _ s v O) a5,AD,
    JH (g:=λ(a:Int × (List Ac))=>F0 d s (λj l m=>Ca (n+1) j l m) T a.1 a.2) (λs v O=>m2 _ s v O) a6,AD]
   cases hI:Iz T.Draw with
   | none=>rw[hI] at h;cases h
   | some p=>
    rw[hI,BW] at h
    rw[BW]
    obtain⟨x7,a7,h⟩:=Bl h
    rw[JH (g:=λ(a:Int × (List Ac))=>F3 d s (λj l m=>Ca (n+1) j l m) p.1 p.2 a.1 a.2) (λs v O=>m3 _ _ s v O) a7,AD]
    exact h
theorem ev{d:AP}(h:B4 d):O0 d=some ((C3 d).map BO):=by
 have j:=fE h (d.Nodes.length+1) [] ⟨1,0,true⟩ (Ui h) (Vr d) ⟨List.Pairwise.nil,λw l=>by cases l⟩
 unfold O0 QS
 rw[P8 (N:=λn=>Ca n [] d ⟨1,0,true⟩) (λn r m=>fT n _ _ _ r m) j,AD]
 rfl
theorem MC{d}(h:B4 d):Gd d (C3 d):=(ZP h _ [] _ (Ui h) ⟨List.Pairwise.nil,λw j=>by cases j⟩).1
end Go.Proofs.YtifgmfoihehlbaaGreatDoor.Al

set_option linter.unusedVariables false
set_option linter.unusedSimpArgs false
namespace Go.Proofs.YtifgmfoihehlbaaGreatDoor.Al
open Go
theorem fS{d}(h:Is d):PU d=some d:=by
 obtain⟨l⟩:=d
 obtain⟨C,A⟩:=h
 dsimp only at C A
 unfold PU
 have w:mk 152 (l.length:Int) (AI.mk 0 0 [] [] (Ar.mk 0 0 [] []) [])=some (List.replicate l.length (AI.mk 0 0 [] [] (Ar.mk 0 0 [] []) [])):=by
  unfold mk
  rw[rO ⟨by omega,by omega,by omega⟩,sr]
 dsimp only
 rw[w,AD]
 have key:∀j k,k+j=l.length→iter (λ(a:Int × AP)=>Ii ⟨l⟩ a.1 a.2) ((k:Int),⟨l.take k++List.replicate j (AI.mk 0 0 [] [] (Ar.mk 0 0 [] []) [])⟩)=some ⟨l⟩:=by
  intro j
  induction j with
  | zero=>
   intro k E
   refine BN ?_
   show Ii ⟨l⟩ (k:Int) _=_
   unfold Ii
   rw[rN (by simp;omega),tf (by omega)]
   simp
  | succ j F=>
   intro k E
   have m:k<l.length:=by omega
   rw[Bg (s':=(((k+1:Nat):Int),⟨l.take (k+1)++List.replicate j (AI.mk 0 0 [] [] (Ar.mk 0 0 [] []) [])⟩)) (by
    show Ii ⟨l⟩ (k:Int) _=_
    unfold Ii
    have B:(l.take k++List.replicate (j+1) (AI.mk 0 0 [] [] (Ar.mk 0 0 [] []) [])).length=l.length:=by simp;omega
    dsimp only
    rw[rO (by simpa using m),Ae m,AD,mK _ (A _ (Bk m)).ok,AD,Ae (by omega),AD,Ap (by omega),AD,sr]
    congr 4
    rw[MW m,sg,uj _ _ (by simp;omega),sp,Nat.min_eq_left (by omega),vI]
    rfl)]
   exact F (k+1) (by omega)
 have:=key l.length 0 (by omega)
 rw[List.take_zero,se] at this
 have q:iter (λ(a:Int × AP)=>Ii ⟨l⟩ a.1 a.2) (0,⟨List.replicate l.length (AI.mk 0 0 [] [] (Ar.mk 0 0 [] []) [])⟩)=_:=this
 rw[q,AD]
end Go.Proofs.YtifgmfoihehlbaaGreatDoor.Al

set_option linter.unusedVariables false
set_option linter.unusedSimpArgs false
namespace Go.Proofs.YtifgmfoihehlbaaGreatDoor.Al
open Go
theorem Pa{o:List AI}{x}(h:o.length≤4194304):app 152 o [x]=some (o++[x]):=by
 unfold app
 rw[rO ⟨by simp;omega,by simp;omega⟩]
def eW:List UInt8:=[98,97,115,101]
def Dy:List UInt8:=[110,97,109,101]
def Su:List UInt8:=[111,102]
def Kc(n:AI):Bool:=decide (n.Kind=11)
noncomputable def CK(d:AP):List AI:=((C3 d).map λv=>Bi d v.id).filter Kc
theorem em{d}(hg:B4 d):∀(l:List Aw) (o:List AI),(∀v∈l,DT d v.id)→o.length+l.length≤4194304→EN (λs=>m2 (Ik d s)) (l.map GY) ⟨o⟩=some ⟨o++(l.map λv=>Bi d v.id).filter Kc⟩:=by
 intro l
 induction l with
 | nil=>intro o _ _;simp[EN]
 | cons v l B=>
  intro o A C
  obtain⟨k,j⟩:=A v (rn ..)
  obtain⟨m,_⟩:=FF j
  have q:m2 (Ik d ⟨o⟩) (GY v)=some ⟨if Kc (Bi d v.id)=true then o++[Bi d v.id] else o⟩:=by
   show Ik d ⟨o⟩ v.id v.parent=_
   unfold Ik
   rw[mC _ hg.ok.1 hg.srt,j,AD,QP j]
   dsimp only
   rw[Ae m,AD]
   unfold Kc
   simp only[sL] at C
   split
   ·rw[Pa (by omega)];rfl
   ·rfl
  simp only[ru,EN]
  rw[q,sJ,B _ (λw E=>A w (rj _ E)) (by have F:(v::l).length=l.length+1:=rfl;split<;>(try rw[sI,tO])<;>omega)]
  rw[tW]
  split<;>simp
theorem Tt{d}(hg:B4 d):J9 d=some ⟨CK d⟩:=by
 have l:=(MC hg).len
 have m:=hg.ok.1
 have j:=em hg (C3 d) [] (MC hg).2 (by simp;omega)
 unfold J9 SD
 rw[fS hg.ok,AD,AD]
 have:=iH hg (Ik d) (Dh.mk []) j
 show AB (rng2 (λA=>IM A [] d) (λa=>Ik d a) (Dh.mk [])) _=_
 rw[this];rfl
theorem dy{d}(hg:B4 d):OS d=some (CK d):=by
 have F:=(MC hg).len
 have l:=(MC hg).2
 have B:=hg.ok.1
 unfold OS
 rw[ev hg,AD]
 have w:=Eo (f:=λ(a:Int × (List AI))=>IP d ((C3 d).map BO) a.1 a.2) (C3 d) (λ(c:List AI) i=>((i:Int),c)) (λr c=>c++(r.map λv=>Bi d v.id).filter Kc) (λi c=>c.length≤i)
  (λi c j C=>by
   left
   show ∃I,IP d ((C3 d).map BO) (i:Int) c=_∧_
   have m:i<((C3 d).map BO).length:=by simpa using j
   have E:(BO (C3 d)[i]).ID=(C3 d)[i]!.id:=by rw[ri (C3 d) i j];rfl
   obtain⟨k,q⟩:=l _ (Bk j)
   obtain⟨A,_⟩:=FF q
   unfold IP
   rw[rO (by simpa using j),EG m,AD,uh,E,RA d _ B,q,AD,Ae A,AD]
   refine⟨if Kc (Bi d (C3 d)[i]!.id)=true then c++[Bi d (C3 d)[i]!.id] else c,?_,by split<;>(try rw[sI,tO])<;>omega,?_⟩
   ·rw[QP q]
    unfold Kc
    split
    ·rw[Pa (by omega),AD,AD,Ap (by omega)];rfl
    ·rw[AD,Ap (by omega)];rfl
   ·rw[ru,tW]
    split<;>simp)
  (λc C=>by
   show IP d ((C3 d).map BO) ((C3 d).length:Int) c=_
   unfold IP
   rw[rN (by simp)]
   simp) [] (by simp) ((0:Int),[]) rfl
 have w':iter (λ(a:Int × (List AI))=>IP d ((C3 d).map BO) a.1 a.2) (0,[])=some (CK d):=w
 rw[w'];rfl
def D6(l j:List UInt8)(n:AI):Bool:=(!(l=[])&&(BF n.Attrs Dy=l))&&(BF n.Attrs Su=j)
theorem fJ{j l:List UInt8}{n:AI}{α:Type}{A B:Option α}(m:n.Attrs.length≤9223372036854775807) :
  (AB (gd ((!(j=[]))==true) (FP n.Attrs [110,97,109,101])) λ(q:List UInt8)=>
  AB (gd (((!(j=[]))&&(q=j))==true) (FP n.Attrs [111,102])) λ(E:List UInt8)=>
  if(((!(j=[]))&&(q=j))&&(E=l)) then A else B)=if D6 j l n=true then A else B:=by
 unfold D6
 rw[show([110,97,109,101]:List UInt8)=Dy from rfl,show([111,102]:List UInt8)=Su from rfl]
 by_cases w:j=[]
 ·rw[rR w,show((!true)==true)=false from rfl,Bp,AD,tQ,sR,show((false==true):Bool)=false from rfl,Bp,AD,sR,sR,sR]
 ·rw[rQ w,show((!false)==true)=true from rfl,Ak,JU _ _ m,AD]
  simp only[tJ,sE]
  by_cases C:BF n.Attrs Dy=j
  ·rw[rR C,show((true==true):Bool)=true from rfl,Ak,JU _ _ m,AD]
  ·rw[rQ C,show((false==true):Bool)=false from rfl,Bp,AD,sR,sR]
theorem dS{j m:List UInt8}{l:List AI}{i:Nat}(F:i<l.length){α:Type}{A B:Option α}(w:l[i]!.Attrs.length≤9223372036854775807) :
  (AB (gd ((!(j=[]))==true) (AM l (i:Int))) λ(I:AI)=>
   AB (gd ((!(j=[]))==true) (Fb I.Attrs [110,97,109,101])) λ(q:List UInt8)=>
   AB (gd (((!(j=[]))&&(q=j))==true) (AM l (i:Int))) λ(J:AI)=>
   AB (gd (((!(j=[]))&&(q=j))==true) (Fb J.Attrs [111,102])) λ(M:List UInt8)=>
   if(((!(j=[]))&&(q=j))&&(M=m)) then A else B)=if D6 j m l[i]! = true then A else B:=by
 unfold D6
 rw[show([110,97,109,101]:List UInt8)=Dy from rfl,show([111,102]:List UInt8)=Su from rfl]
 by_cases C:j=[]
 ·rw[rR C,show((!true)==true)=false from rfl,Bp,AD,Bp,AD,tQ,sR,show((false==true):Bool)=false from rfl,Bp,AD,Bp,AD,sR,sR,sR]
 ·rw[rQ C,show((!false)==true)=true from rfl,Ak,Ae F,AD,Ak,I3 _ _ w,AD]
  simp only[tJ,sE]
  by_cases E:BF l[i]!.Attrs Dy=j
  ·rw[rR E,show((true==true):Bool)=true from rfl,Ak,AD,Ak,I3 _ _ w,AD]
  ·rw[rQ E,show((false==true):Bool)=false from rfl,Bp,AD,Bp,AD,sR,sR]
structure HO(l:List AI):Prop where
 len:l.length≤1048576
 at_:∀n∈l,n.Attrs.length≤1048576
theorem fQ(l:List AI) m j(h:HO l):Np ⟨l⟩ m j=some (match l.find? (D6 m j) with | some n=>(n,true) | none=>(AI.mk 0 0 [] [] (Ar.mk 0 0 [] []) [],false)):=by
 have B:=h.len
 unfold Np
 have w:=Eo (f:=λ(a:Int)=>Gk ⟨l⟩ m j a) l (λ(c:Unit) i=>(i:Int)) (λr _=>(match r.find? (D6 m j) with | some n=>.ext (n,true) | none=>.nrm ():As Unit (AI × Bool))) (λi c=>True)
  (λi c A _=>by
   have C:=h.at_ _ (Bk A)
   have e:Gk ⟨l⟩ m j (i:Int)=if D6 m j l[i]! = true then some (.inr (.ext (l[i]!,true))) else some (.inl ((i+1:Nat):Int)):=by
    unfold Gk
    rw[rO (by simpa using A)]
    show AB (AM l (i:Int)) _=_
    rw[Ae A,AD,Ap (by omega),AD]
    exact fJ (by omega)
   cases q:D6 m j l[i]! with
   | true=>
    right
    show Gk ⟨l⟩ m j (i:Int)=_
    rw[e,q,rO rfl,List.find?_cons_of_pos q]
   | false=>
    left
    refine⟨(),?_,trivial,?_⟩
    ·show Gk ⟨l⟩ m j (i:Int)=_
     rw[e,q,rN (by decide)]
    ·rw[List.find?_cons_of_neg (by rw[q];decide)])
  (λc _=>by
   show Gk ⟨l⟩ m j (l.length:Int)=_
   unfold Gk
   rw[rN (by simp)]
   rfl) () trivial (0:Int) rfl
 have w':iter (λ(a:Int)=>Gk ⟨l⟩ m j a) 0=_:=w
 rw[w']
 cases l.find? (D6 m j)<;>rfl
theorem mX(l:List AI) q m(h:HO l):∀(j:Nat) (at_:Int),j≤l.length→iter (λ(a:Int × Int)=>H2 m l q a.1 a.2) (at_,(j:Int)-1)=some (match (l.take j).findIdx? (D6 q m) with | some k=>(k:Int) | none=>at_):=by
 have A:=h.len
 intro j
 induction j with
 | zero=>
  intro at_ _
  refine BN ?_
  show H2 m l q at_ _=_
  unfold H2
  rw[rN (by simp)]
  rfl
 | succ j B=>
  intro at_ F
  have w:j<l.length:=by omega
  have I:=h.at_ _ (Bk w)
  have e:H2 m l q at_ (j:Int)=some (.inl (if D6 q m l[j]! = true then(j:Int) else at_,(j:Int)-1)):=by
   unfold H2
   rw[rO (by simp),dS w (by omega),CR (by omega) (by omega)]
   split<;>rfl
  rw[show((j+1:Nat):Int)-1=(j:Int) by omega,Bg (s':=(if D6 q m l[j]! = true then(j:Int) else at_,(j:Int)-1)) e,B _ (by omega)]
  have C:l.take (j+1)=l.take j++[l[j]!]:=by rw[MW w]
  rw[C,List.findIdx?_append]
  cases (l.take j).findIdx? (D6 q m) with
  | some k=>rfl
  | none=>
   simp only[Option.none_or]
   have E:(l.take j).length=j:=by rw[sp];omega
   rw[E,List.findIdx?_cons,List.findIdx?_nil]
   cases D6 q m l[j]!<;>simp
def stepC(l:List AI)(j:List UInt8)(s:List UInt8 × List AI):(List UInt8 × List AI) ⊕ As Unit (List AI):=
 match l.find? (D6 s.1 j) with
 | none=>.inr (.ext s.2)
 | some n=>if s.2.any (λm=>decide (m.ID=n.ID))=true then .inr (.ext s.2) else .inl (BF n.Attrs eW,s.2++[n])
theorem cM(out:List AI)(n:AI)(h:out.length≤1048576):Pc out n=some (out.any λm=>decide (m.ID=n.ID)):=by
 unfold Pc Ra
 have w:=By (f:=λ(a:Int)=>MT out n a) (n:=out.length) (λk=>if out[k]!.ID=n.ID then some (k:Int) else none) (λk j=>by
  unfold MT Og
  rw[rO (by simpa using j),Ae j,AD,AD,Ap (by omega)]
  by_cases h:out[k]!.ID=n.ID
  ·rw[rR h,rO rfl,rO h];rfl
  ·rw[rQ h,rN (by decide),rN h];rfl) (by unfold MT;rw[rN (by simp)])
 rw[w]
 cases q:(List.range out.length).findSome? λ(k:Nat)=>if out[k]!.ID=n.ID then some (k:Int) else none with
 | none=>
  rw[sh] at q
  have:(out.any λm=>decide (m.ID=n.ID))=false:=by
   rw[vC]
   intro m A e
   obtain⟨k,j,rfl⟩:=sN.1 A
   have:=q k (sA.2 j)
   rw[ri out k j,rO (by simpa using e)] at this
   cases this
  rw[this];rfl
 | some r=>
  obtain⟨k,j,l⟩:=sP q
  have j:=sA.1 j
  split at l
  ·rename_i e
   cases l
   have:(out.any λm=>decide (m.ID=n.ID))=true:=by
    rw[sw]
    exact⟨out[k]!,Bk j,by simpa using e⟩
   rw[this]
   show some (decide ((0:Int)≤(k:Int)))=_
   rw[rR (by omega)]
  ·cases l
theorem fF(l:List AI) j(h:HO l) s(m:s.2.length≤1048576):MH ⟨l⟩ j s.1 s.2=some (stepC l j s):=by
 unfold MH stepC
 rw[fQ l _ _ h]
 cases q:l.find? (D6 s.1 j) with
 | none=>rfl
 | some n=>
  have w:=h.at_ _ (uN q)
  rw[BW]
  dsimp only
  rw[rO (show((!true)==false)=true from rfl),cM _ _ m,AD,AD]
  simp only[tQ,sb]
  split
  ·rfl
  ·rw[Pa (by omega),AD,JU _ _ (by omega)];rfl
theorem ap(l:List AI) q(h:HO l) s(X:s.2.length≤1048576):Ln q l s.1 s.2=some (stepC l q s):=by
 have I:=h.len
 unfold Ln stepC
 have J:=mX l s.1 q h l.length (-1) (rV _)
 rw[vE] at J
 rw[CR (by omega) (by omega),AD]
 show AB (iter (λ(a:Int × Int)=>H2 q l s.1 a.1 a.2) (-1,(l.length:Int)-1)) _=_
 rw[J,AD]
 cases B:l.findIdx? (D6 s.1 q) with
 | none=>
  have:l.find? (D6 s.1 q)=none:=by
   rw[List.findIdx?_eq_none_iff] at B
   rw[uP]
   intro x E e
   have:=B x E
   rw[this] at e;cases e
  rw[this]
  rfl
 | some k=>
  obtain⟨C,M,O⟩:=List.findIdx?_eq_some_iff_getElem.1 B
  have T:l.find? (D6 s.1 q)=some l[k]!:=by
   have e:l=l.take k++l.drop k:=(List.take_append_drop k l).symm
   rw[e,List.find?_append]
   have U:(l.take k).find? (D6 s.1 q)=none:=by
    rw[uP]
    intro x E
    obtain⟨j,V,rfl⟩:=sN.1 E
    have F:j<k:=by rw[sp] at V;omega
    rw[List.getElem_take]
    exact O j F
   rw[U,Option.none_or,← e,sH C,List.find?_cons_of_pos M,ri l k C]
  rw[T]
  have Z:=h.at_ _ (Bk C)
  dsimp only
  rw[rQ (show ¬ ((k:Int)<0) by omega),rN (by decide)]
  have w:=Eo (f:=λ(a:Int)=>Gy l s.2 (k:Int) a) s.2 (λ(c:Unit) i=>(i:Int)) (λr _=>(if r.any (λm=>decide (m.ID=l[k]!.ID))=true then .ext (.inr (.ext s.2)) else .nrm ():As Unit (((List UInt8) × (List AI)) ⊕ (As Unit (List AI))))) (λi c=>True)
   (λi c B _=>by
    have e:Gy l s.2 (k:Int) (i:Int)=if s.2[i]!.ID=l[k]!.ID then some (.inr (.ext (.inr (.ext s.2)))) else some (.inl ((i+1:Nat):Int)):=by
     unfold Gy
     rw[rO (by simpa using B),Ae B,AD,Ae C,AD,Ap (by omega),AD]
     by_cases A:s.2[i]!.ID=l[k]!.ID
     ·rw[rR A,rO rfl,rO A]
     ·rw[rQ A,rN (by decide),rN A]
    by_cases A:s.2[i]!.ID=l[k]!.ID
    ·right
     show Gy l s.2 (k:Int) (i:Int)=_
     rw[e,rO A,tm,rR A,uO,rO rfl]
    ·left
     refine⟨(),?_,trivial,?_⟩
     ·show Gy l s.2 (k:Int) (i:Int)=_
      rw[e,rN A]
     ·rw[tm,rQ A,sb])
   (λc _=>by
    show Gy l s.2 (k:Int) (s.2.length:Int)=_
    unfold Gy
    rw[rN (by simp)]
    rfl) () trivial (0:Int) rfl
  have w':iter (λ(a:Int)=>Gy l s.2 (k:Int) a) 0=_:=w
  rw[w']
  split
  ·rfl
  ·simp only[Jg]
   rw[Ae C,AD,Pa (by omega),AD,I3 _ _ (by omega)];rfl
end Go.Proofs.YtifgmfoihehlbaaGreatDoor.Al

set_option linter.unusedVariables false
set_option linter.unusedSimpArgs false
namespace Go.Proofs.YtifgmfoihehlbaaGreatDoor.Al
open Go
def Fj(l out:List AI):Prop:=(out.Pairwise λa b=>a.ID≠b.ID)∧∀n∈out,n∈l
theorem Fj.len{l out:List AI}(h:Fj l out):out.length≤l.length:=by
 have:=WX (out.map (·.ID)) (l.map (·.ID)) (by rw[tq];exact h.1) (λz j=>by
  obtain⟨n,m,rfl⟩:=sK.1 j
  exact sK.2 ⟨n,h.2 n m,rfl⟩)
 simpa using this
theorem XH{l}{A}{s s'}(h:Fj l s.2)(j:stepC l A s=.inl s'):Fj l s'.2∧s'.2.length=s.2.length+1:=by
 unfold stepC at j
 split at j
 ·cases j
 ·rename_i n B
  split at j
  ·cases j
  ·rename_i q
   cases j
   refine⟨⟨?_,λm w=>?_⟩,by simp⟩
   ·rw[ut]
    refine⟨h.1,List.pairwise_singleton ..,λa C b E=>?_⟩
    obtain rfl:=s7.1 E
    intro e
    apply q
    rw[sw]
    exact⟨a,C,by simpa using e⟩
   ·rcases sk.1 w with w | w
    ·exact h.2 m w
    ·obtain rfl:=s7.1 w
     exact uN B
theorem aO{l}{m}{s}{u}(j:stepC l m s=.inr (.nrm u)):False:=by
 unfold stepC at j
 split at j
 ·cases j
 ·split at j<;>cases j
theorem gW{l}{m}{s}{o}(j:stepC l m s=.inr (.ext o)):o=s.2:=by
 unfold stepC at j
 split at j
 ·cases j;rfl
 ·split at j<;>cases j;rfl
def Mi(l:List AI)(j:List UInt8):Nat→List UInt8 × List AI→List AI
 | 0,s=>s.2
 | n+1,s=>match stepC l j s with
  | .inl m=>Mi l j n m
  | .inr _=>s.2
theorem W7{l}{j} : ∀(n:Nat) (s:List UInt8 × List AI),Fj l s.2→Fj l (Mi l j n s)
 | 0,s,h=>h
 | n+1,s,h=>by
  unfold Mi
  split
  ·rename_i m q;exact W7 n m (XH h q).1
  ·exact h
theorem U6{l:List AI}{j}(q:HO l){f}(w:∀s,s.2.length≤1048576→f s=some (stepC l j s)):∀(n:Nat) (s:List UInt8 × List AI),Fj l s.2→l.length<n+s.2.length→iter f s=some (.ext (Mi l j n s))
 | 0,s,h,B=>by have:=h.len;omega
 | n+1,s,h,B=>by
  have A:=q.len
  have e:=w s (by have:=h.len;omega)
  unfold Mi
  cases m:stepC l j s with
  | inl C=>
   obtain⟨E,F⟩:=XH h m
   rw[m] at e
   rw[Bg e]
   exact U6 q w n C E (by omega)
  | inr c=>
   rw[m] at e
   cases c with
   | nrm u=>exact(aO m).elim
   | ext o=>
    rw[BN e,gW m]
def Ef(l:List AI)(m j:List UInt8):List AI:=Mi l j (l.length+1) (m,[])
theorem Fj.nil l:Fj l []:=⟨List.Pairwise.nil,λn j=>by cases j⟩
theorem SA l m j:Fj l (Ef l m j):=W7 _ _ (Fj.nil l)
theorem ZE{l:List AI}(q:HO l)(m j:List UInt8):Lk ⟨l⟩ m j=some (Ef l m j):=by
 unfold Lk
 rw[U6 (f:=λ(a:(List UInt8) × (List AI))=>MH ⟨l⟩ j a.1 a.2) q (λs w=>fF l j q s w) (l.length+1) (m,[]) (Fj.nil l) (by simp)]
 rfl
theorem Nn{d}(hg:B4 d)(m:HO (CK d))(l j:List UInt8):LY d l j=some (Ef (CK d) l j):=by
 unfold LY
 rw[dy hg,AD,U6 (f:=λ(a:(List UInt8) × (List AI))=>Ln j (CK d) a.1 a.2) m (λs q=>ap _ j m s q) ((CK d).length+1) (l,[]) (Fj.nil _) (by simp)]
 rfl
def PA(j:List UInt8):Bool:=((2<(j.length:Int))&&(j.take 2=[112,46]))&&DR (j.drop 2)
def E9(a:AC):Option AC:=if PA a.Name=true then some ⟨a.Name.drop 2,a.Value⟩ else none
def pA(n:AI):List AC:=n.Attrs.filterMap E9
theorem iw{a:AC}{l:List AC}(I:a.Name.length≤1073741824)(hc:l.length≤1073741824) :
  (AB (gd ((decide (2<(a.Name.length:Int)))==true) (CB a.Name 0 2)) λ(m:List UInt8)=>
   AB (gd (((2<(a.Name.length:Int))&&(m=[112,46]))==true) (CB a.Name 2 (a.Name.length:Int))) λ(A:List UInt8)=>
   AB (gd (((2<(a.Name.length:Int))&&(m=[112,46]))==true) (Jy A)) λ(B:Bool)=>
   if(((2<(a.Name.length:Int))&&(m=[112,46]))&&B) then(
    AB (CB a.Name 2 (a.Name.length:Int)) λ(C:List UInt8)=>
    AB (app 32 l [(AC.mk C a.Value)]) λ(j:List AC)=>
    some j
   ) else(
    some l
   ))=some (l++(E9 a).toList):=by
 unfold E9 PA
 by_cases q:2<(a.Name.length:Int)
 ·have E:CB a.Name 2 (a.Name.length:Int)=some (a.Name.drop 2):=Xh a.Name 2 (by omega) (by omega)
  rw[rR q,show((true==true):Bool)=true from rfl,Ak,Uu a.Name 2 (by omega) (by omega),AD,show(2:Int).toNat=2 from rfl]
  simp only[sE]
  by_cases w:a.Name.take 2=[112,46]
  ·rw[rR w,show((true==true):Bool)=true from rfl,Ak,E,AD,Ak,Rh _ (by rw[te];omega),AD]
   simp only[sE]
   split
   ·rename_i F
    rw[AD,JJ (by omega),AD];rfl
   ·rename_i F
    simp
  ·rw[rQ w,show((false==true):Bool)=false from rfl,Bp,AD,Bp,AD]
   simp
 ·rw[rQ q,show((false==true):Bool)=false from rfl,Bp,AD]
  simp only[sR]
  rw[show((false==true):Bool)=false from rfl,Bp,AD,Bp,AD]
  simp
theorem lA(n:AI)(h:FZ n.Attrs)(l:∀a∈n.Attrs,a.Name.length≤1073741824):iter (λ(a:Int × (List AC))=>H5 n a.1 a.2) (0,[])=some (pA n):=by
 have q:=h.1
 have w:=Eo (f:=λ(a:Int × (List AC))=>H5 n a.1 a.2) n.Attrs (λ(c:List AC) i=>((i:Int),c)) (λr c=>c++r.filterMap E9) (λi c=>c.length≤i)
  (λi c j m=>by
   left
   show ∃A,H5 n (i:Int) c=_∧_
   refine⟨c++(E9 n.Attrs[i]!).toList,?_,?_,?_⟩
   ·unfold H5
    rw[rO (by simpa using j),Ae j,AD,iw (l _ (Bk j)) (by omega),AD,Ap (by omega)]
    rfl
   ·rw[sI]
    cases E9 n.Attrs[i]!<;>simp<;>omega
   ·rw[tu]
    cases E9 n.Attrs[i]!<;>simp)
  (λc m=>by
   show H5 n (n.Attrs.length:Int) c=_
   unfold H5
   rw[rN (by simp)]
   simp) [] (by simp) ((0:Int),[]) rfl
 exact w
def Eb:List AI→List AC
 | []=>[]
 | n::r=>Fx (Eb r) (pA n)
theorem dZ a b x:Ao (a++b) x=match Ao a x with | some v=>some v | none=>Ao b x:=by
 induction a with
 | nil=>rfl
 | cons v a j=>
  show(if v.Name=x then some v else Ao (a++b) x)=match (if v.Name=x then some v else Ao a x) with | some v=>some v | none=>Ao b x
  split
  ·rfl
  ·exact j
structure IU(n:AI)(M:Nat):Prop where
 err:BE n.Attrs false=0
 okA_:FZ n.Attrs
 nm:∀a∈n.Attrs,a.Name.length≤1073741824
 len:n.Attrs.length≤M
theorem Si{a:List UInt8}(h:PA a=true):∃r,a=112::46::r∧DR r=true:=by
 unfold PA at h
 simp only[rZ,rT] at h
 obtain⟨⟨m,j⟩,l⟩:=h
 refine⟨a.drop 2,?_,l⟩
 have:=List.take_append_drop 2 a
 rw[j] at this
 exact this.symm
theorem jF{n:AI}{M}(h:IU n M):BE (pA n) false=0:=by
 have A:=(KH _ _).1 h.err
 refine(KH _ _).2 ⟨?_,λe E=>?_⟩
 ·have F:n.Attrs.Pairwise λx y=>Au x.Name y.Name=true:=A.1
  show(n.Attrs.filterMap E9).Pairwise _
  rw[List.pairwise_filterMap]
  refine F.imp λ{a b} j x l y m=>?_
  unfold E9 at l m
  split at l
  ·rename_i q
   split at m
   ·rename_i I
    cases l;cases m
    obtain⟨U,B,_⟩:=Si q
    obtain⟨V,C,_⟩:=Si I
    rw[B,C] at j
    show Au (a.Name.drop 2) (b.Name.drop 2)=true
    rw[B,C]
    simpa[Au,Op.bytesLess] using j
   ·cases m
  ·cases l
 ·obtain⟨a,q,hp⟩:=List.mem_filterMap.1 E
  unfold E9 at hp
  split at hp
  ·rename_i J
   cases hp
   obtain⟨r,O,T⟩:=Si J
   have w:=A.2 a q
   refine⟨?_,w.2⟩
   show DR (a.Name.drop 2)=true
   rw[O];exact T
  ·cases hp
theorem OM{l}(h:BE l false=0):BE l true=0:=by
 have:=(KH _ _).1 h
 exact(KH _ _).2 ⟨this.1,λe j=>(this.2 e j).up⟩
theorem TP(n:AI):(pA n).length≤n.Attrs.length:=List.length_filterMap_le ..
theorem QL{M} : ∀c:List AI,(∀n∈c,IU n M)→BE (Eb c) false=0∧(Eb c).length≤c.length * M∧∀x,Ao (Eb c) x=Ao (c.flatMap pA) x
 | [],_=>⟨by decide,by simp[Eb],λx=>rfl⟩
 | n::r,h=>by
  have l:=h n (rn ..)
  obtain⟨q,I,B⟩:=QL r λm C=>h m (rj _ C)
  have hp:=jF l
  have w:=FM q
  have j:=FM hp
  refine⟨Tj q (OM hp),?_,λx=>?_⟩
  ·have A:=Kk (Eb r) (pA n)
   have J:=TP n
   have O:=l.len
   show(Fx (Eb r) (pA n)).length≤(r.length+1) * M
   rw[s4,tT]
   omega
  ·have A:=(RT (stp:=EZ) (g:=KP) (G:=GR) SB Rc w.1 j.1 w.2.1 j.2.1).2 x
   show Ao (CO EZ (Eb r) (pA n) []) x=_
   rw[A,ss,dZ,B]
   cases E:Ao (pA n) x with
   | none=>rfl
   | some v=>
    have F:=j.2.2 rfl v (LC E).2
    show(if v.Value=[] then none else some v)=some v
    rw[rN F]
end Go.Proofs.YtifgmfoihehlbaaGreatDoor.Al

set_option linter.unusedVariables false
set_option linter.unusedSimpArgs false
namespace Go.Proofs.YtifgmfoihehlbaaGreatDoor.Al
open Go
theorem gO{n}{M}(j:IU n M)(l:M≤1048576){out:List AC}(m:out.length≤1099511627776) a:Hy out a n=some (Fx out (pA n)):=by
 have q:=TP n
 have w:=j.len
 unfold Hy
 rw[lA n j.okA_ j.nm,AD,TW _ _ (by omega)]
 rfl
theorem XI{c:List AI}{M}(h:∀n∈c,IU n M)(m:M≤1048576)(w:c.length * M≤549755813888):∀k,k≤c.length→Gt c (λ(a:List AC)=>Hy a) k (Eb (c.drop k))=some (Eb c)
 | 0,_=>by rw[tY];rfl
 | k+1,B=>by
  have j:k<c.length:=by omega
  have l:(Eb (c.drop (k+1))).length≤1099511627776:=by
   have C:=(QL (c.drop (k+1)) λn A=>h n (uH A)).2.1
   have E:(c.drop (k+1)).length * M≤c.length * M:=sD _ (by rw[te];omega)
   omega
  have q:=XI h m w k (by omega)
  unfold Gt
  rw[rU j,sJ]
  show(Hy (Eb (c.drop (k+1))) (k:Int) c[k]).bind _=_
  rw[gO (h _ (sG j)) m l,sJ]
  rw[sH j] at q
  exact q
theorem me{l:List AI}(A:HO l) m j{M}(h:∀n∈l,IU n M)(E:M≤1048576)(F:l.length * M≤549755813888):Gm ⟨l⟩ m j=some (Eb (Ef l m j)):=by
 have B:=SA l m j
 have q:=B.len
 have I:=A.len
 unfold Gm
 rw[ZE A,AD]
 show AB (L5 (Ef l m j) (λ(a:List AC)=>Hy a) []) _=_
 have C:=XI (c:=Ef l m j) (λn J=>h n (B.2 n J)) E (rh (sD _ q) F) (Ef l m j).length (rV _)
 rw[List.drop_length] at C
 unfold L5
 rw[rO (by omega)]
 have w:Gt (Ef l m j) (λ(a:List AC)=>Hy a) (Ef l m j).length []=some (Eb (Ef l m j)):=C
 rw[w,AD]
def EE(o:List AC)(b:AC):List AC:=if(Ao o b.Name).isSome=true then o else DE o b
theorem XR(o:List AC) b:(EE o b).length≤o.length+1:=by
 unfold EE
 split
 ·omega
 ·exact Uc o b
theorem Xw{o}(b:AC)(h:Ba o):Ba (EE o b):=by
 unfold EE
 split
 ·exact h
 ·exact Tu b h
theorem fp o(b:AC) x:Ao (EE o b) x=match Ao o x with | some v=>some v | none=>if b.Name=x then some b else none:=by
 unfold EE
 split
 ·rename_i h
  cases j:Ao o x with
  | some v=>rfl
  | none=>
   by_cases e:b.Name=x
   ·rw[e,j] at h;cases h
   ·rw[rN e]
 ·rename_i h
  rw[SJ]
  by_cases e:b.Name=x
  ·rw[rO e,rO e]
   rw[e] at h
   cases j:Ao o x with
   | some v=>rw[j] at h;exact absurd rfl h
   | none=>rfl
  ·rw[rN e,rN e]
   cases Ao o x<;>rfl
theorem UT:∀(l o:List AC),Ba o→Ba (l.foldl EE o)∧∀x,Ao (l.foldl EE o) x=match Ao o x with | some v=>some v | none=>Ao l x
 | [],o,h=>⟨h,λx=>by rw[List.foldl_nil];cases Ao o x<;>rfl⟩
 | b::l,o,h=>by
  obtain⟨j,m⟩:=UT l (EE o b) (Xw b h)
  refine⟨j,λx=>?_⟩
  rw[sm,m,fp]
  cases Ao o x with
  | some v=>rfl
  | none=>
   show _=if b.Name=x then some b else Ao l x
   by_cases e:b.Name=x
   ·rw[rO e,rO e]
   ·rw[rN e,rN e]
theorem WN:∀(l o:List AC),(l.foldl EE o).length≤o.length+l.length
 | [],o=>rV _
 | b::l,o=>by
  have j:=WN l (EE o b)
  have m:=XR o b
  rw[sm,sL]
  omega
theorem kZ(s:List UInt8)(h:s.length≤1073741824):MU s [112,46]=some ((2<(s.length:Int))&&(s.take 2=[112,46])):=by
 unfold MU
 show AB (gd ((decide ((2:Int)<(s.length:Int)))==true) (CB s 0 (2:Int))) _=_
 by_cases j:2<(s.length:Int)
 ·rw[rR j,show((true==true):Bool)=true from rfl,Ak,Uu s 2 (by omega) (by omega),AD]
  show some (((2:Int)<(s.length:Int))&&_)=_
  rw[rR j];rfl
 ·rw[rQ j,show((false==true):Bool)=false from rfl,Bp,AD]
  show some (((2:Int)<(s.length:Int))&&_)=_
  rw[rQ j];rfl
def O7(o:List AC)(b:Option AC):List AC:=match b with | some b=>EE o b | none=>o
theorem ee{a:AC}{out:List AC}(B:a.Name.length≤1073741824)(C:Ba out)(hc:out.length≤1099511627776) :
  (AB (MU a.Name [112,46]) λ(l:Bool)=>
   AB (gd (l==true) (CB a.Name 2 (a.Name.length:Int))) λ(E:List UInt8)=>
   AB (gd (l==true) (JR E)) λ(m:Bool)=>
   AB (gd ((l&&m)==true) (CB a.Name 2 (a.Name.length:Int))) λ(F:List UInt8)=>
   AB (gd ((l&&m)==true) (Lm out F)) λ(I:Bool)=>
   if((l&&m)&&(!I)) then(
    AB (CB a.Name 2 (a.Name.length:Int)) λ(J:List UInt8)=>
    AB (Ir out (AC.mk J a.Value)) λ(j:List AC)=>
    some j
   ) else(
    some out
   ))=some (O7 out (E9 a)):=by
 unfold E9 PA O7
 rw[kZ _ B,AD]
 cases w:((2<(a.Name.length:Int))&&(a.Name.take 2=[112,46])) with
 | false=>
  rw[show((false==true):Bool)=false from rfl,Bp,AD,Bp,AD]
  simp only[sR]
  rw[show((false==true):Bool)=false from rfl,Bp,AD,Bp,AD]
  simp
 | true=>
  have M:2<(a.Name.length:Int):=by
   rw[rZ] at w
   exact tR w.1
  have q:CB a.Name 2 (a.Name.length:Int)=some (a.Name.drop 2):=Xh a.Name 2 (by omega) (by omega)
  rw[show((true==true):Bool)=true from rfl,Ak,q,AD,Ak,Tn _ (by rw[te];omega),AD]
  simp only[sE]
  cases O:DR (a.Name.drop 2) with
  | false=>
   rw[show((false==true):Bool)=false from rfl,Bp,AD,Bp,AD]
   simp
  | true=>
   rw[show((true==true):Bool)=true from rfl,Ak,AD,Ak,ez _ _ (by omega),AD,rO rfl]
   unfold EE
   cases A:(Ao out (a.Name.drop 2)).isSome with
   | true=>simp[A]
   | false=>
    rw[rO (by decide),AD,Xp _ _ C (by omega),AD]
    simp[A]
theorem kj(n:AI)(m:∀a∈n.Attrs,a.Name.length≤1073741824)(B:n.Attrs.length≤1073741824){out:List AC}(q:Ba out)(C:out.length+n.Attrs.length≤1099511627776) :
  iter (λ(a:(List AC) × Int)=>Ho n a.1 a.2) (out,0)=some ((pA n).foldl EE out):=by
 have w:=Eo (f:=λ(a:(List AC) × Int)=>Ho n a.1 a.2) n.Attrs (λ(c:List AC) i=>(c,(i:Int))) (λr c=>(r.filterMap E9).foldl EE c) (λi c=>Ba c∧c.length≤out.length+i)
  (λi c l ⟨j,A⟩=>by
   left
   show ∃E,Ho n c (i:Int)=_∧_
   refine⟨O7 c (E9 n.Attrs[i]!),?_,?_,?_⟩
   ·unfold Ho
    rw[rO (by simpa using l),Ae l,AD,ee (m _ (Bk l)) j (by omega),AD,Ap (by omega)]
    rfl
   ·unfold O7
    split
    ·rename_i b _
     have:=XR c b
     exact⟨Xw b j,by omega⟩
    ·exact⟨j,by omega⟩
   ·rw[tu]
    unfold O7
    cases E9 n.Attrs[i]!<;>rfl)
  (λc _=>by
   show Ho n c (n.Attrs.length:Int)=_
   unfold Ho
   rw[rN (by simp)]
   rfl) out ⟨q,by simp⟩ (out,(0:Int)) rfl
 exact w
theorem l4{c:List AI}{M}(h:∀n∈c,IU n M)(C:M≤1048576)(hc:c.length≤1048576)(q:c.length * M≤549755813888):iter (λ(a:(List AC) × Int)=>IC c a.1 a.2) ([],0)=some ((c.flatMap pA).foldl EE []):=by
 have w:=Eo (f:=λ(a:(List AC) × Int)=>IC c a.1 a.2) c (λ(o:List AC) i=>(o,(i:Int))) (λr o=>(r.flatMap pA).foldl EE o) (λi o=>Ba o∧o.length≤i * M)
  (λi o j ⟨l,E⟩=>by
   left
   have m:=h _ (Bk j)
   have A:=m.len
   have B:i * M≤549755813888:=rh (sD _ (by omega)) q
   show ∃F,IC c o (i:Int)=_∧_
   refine⟨(pA c[i]!).foldl EE o,?_,⟨(UT _ _ l).1,?_⟩,?_⟩
   ·unfold IC
    rw[rO (by simpa using j),Ae j,AD]
    show AB (iter (λ(a:(List AC) × Int)=>Ho c[i]! a.1 a.2) (o,0)) _=_
    rw[kj _ m.nm (by omega) l (by omega),AD,Ap (by omega)]
    rfl
   ·have:=WN (pA c[i]!) o
    have:=TP c[i]!
    rw[s4,tT]
    omega
   ·rw[ss,vD])
  (λo _=>by
   show IC c o (c.length:Int)=_
   unfold IC
   rw[rN (by simp)]
   rfl) [] ⟨List.Pairwise.nil,by simp⟩ ([],(0:Int)) rfl
 exact w
theorem eM{c:List AI}{M}(h:∀n∈c,IU n M):(c.flatMap pA).foldl EE []=Eb c:=by
 obtain⟨j,l⟩:=UT (c.flatMap pA) [] List.Pairwise.nil
 obtain⟨m,_,q⟩:=QL c h
 refine UC j (FM m).1 λx=>?_
 rw[l,q]
 rfl
theorem e9{d}(hg:B4 d)(A:HO (CK d))(l j:List UInt8){M}(h:∀n∈CK d,IU n M)(B:M≤1048576)(C:(CK d).length * M≤549755813888):Gw d l j=some (Eb (Ef (CK d) l j)):=by
 have m:=SA (CK d) l j
 have q:=m.len
 have E:=A.len
 unfold Gw
 rw[Nn hg A,AD,l4 (λn w=>h n (m.2 n w)) B (by omega) (rh (sD _ q) C),AD,eM (λn w=>h n (m.2 n w))]
end Go.Proofs.YtifgmfoihehlbaaGreatDoor.Al

set_option linter.unusedVariables false
set_option linter.unusedSimpArgs false
namespace Go.Proofs.YtifgmfoihehlbaaGreatDoor.Al
open Go
theorem ls{n:AI}(h:GO n)(j:Ch n=some 0):BE n.Attrs false=0:=by
 have l:=h.ok.at_
 unfold Ch at j
 split at j
 ·cases j
 split at j
 ·cases j
 obtain⟨e,m,j⟩:=Bl j
 rw[I7 _ l.2 (by have:=l.1;omega)] at m
 cases m
 split at j
 ·injection j
 ·rename_i c
  simpa using c
def FH(d:AP):Prop:=∀n∈d.Nodes,d.Nodes.length+n.Attrs.length≤1048576∧∀a∈n.Attrs,a.Name.length≤1048576
theorem oo{a b}(h:a+b≤1048576):a * b≤412316860416:=by
 by_cases j:a≤262144
 ·exact rh (uS j (show b≤1048576 by omega)) (by decide)
 by_cases l:b≤262144
 ·exact rh (uS (show a≤1048576 by omega) l) (by decide)
 by_cases m:a≤524288
 ·exact rh (uS m (show b≤786432 by omega)) (by decide)
 ·exact rh (uS (show a≤786432 by omega) (show b≤524288 by omega)) (by decide)
theorem XV{d:AP}(hg:B4 d){n:AI}(j:n∈CK d):n∈d.Nodes∧BE n.Attrs false=0:=by
 unfold CK at j
 obtain⟨j,_⟩:=tS.1 j
 obtain⟨v,A,rfl⟩:=sK.1 j
 have B:=(MC hg).2 v A
 obtain⟨k,l⟩:=B
 obtain⟨m,_⟩:=FF l
 obtain⟨q,_,w,_⟩:=hg.node ⟨k,l⟩
 rw[QP l] at q w ⊢
 exact⟨Bk m,ls q w⟩
theorem VV{d:AP}(hg:B4 d):(CK d).length≤d.Nodes.length:=by
 have j:=(MC hg).len
 have l:(CK d).length≤(C3 d).length:=by
  unfold CK
  exact rh (sn ..) (by rw[rt];exact rV _)
 omega
theorem T4{d}(hg:B4 d)(j:FH d):HO (CK d):=⟨rh (VV hg) hg.ok.1,λn l=>by have:=(j n (XV hg l).1).1;omega⟩
theorem Sy{d:AP}(hg:B4 d)(l:FH d):∀n∈CK d,IU n (1048576-d.Nodes.length):=λn m=>by
 obtain⟨j,q⟩:=XV hg m
 obtain⟨B,w⟩:=l n j
 exact⟨q,(hg.ok.2 n j).ok.at_,λa A=>by have:=w a A;omega,by omega⟩
theorem Ss{d:AP}(hg:B4 d):(CK d).length * (1048576-d.Nodes.length)≤412316860416:=by
 have j:=VV hg
 have l:=hg.ok.1
 exact oo (by omega)
def CF:List UInt8:=[115,116,121,108,101]
def Dd:List UInt8:=[112,97,114,97,103,114,97,112,104]
def Fw:List UInt8:=[116,101,120,116]
def N9:List AC:=[AC.mk CF []]
theorem Xb:BE N9 true=0:=by decide
noncomputable def C0(d:AP)(l j:List UInt8):List AC:=Eb (Ef (CK d) l j)
theorem Ih{d:AP}(hg:B4 d)(q:FH d)(l j:List UInt8):BE (C0 d l j) false=0∧(C0 d l j).length≤412316860416:=by
 have m:=SA (CK d) l j
 obtain⟨w,A,_⟩:=QL (M:=1048576-d.Nodes.length) (Ef (CK d) l j) λn B=>Sy hg q n (m.2 n B)
 exact⟨w,rh A (rh (sD _ m.len) (Ss hg))⟩
theorem T9{d}(hg:B4 d)(m:FH d)(l j:List UInt8):Gm ⟨CK d⟩ l j=some (C0 d l j):=me (T4 hg m) l j (Sy hg m) (by omega) (by have:=Ss hg;omega)
theorem Sq{d}(hg:B4 d)(m:FH d)(l j:List UInt8):Gw d l j=some (C0 d l j):=e9 hg (T4 hg m) l j (Sy hg m) (by omega) (by have:=Ss hg;omega)
theorem Rv{l t:List AC}(j:BE l false=0)(m:BE t true=0)(q:l.length+t.length≤1099511627776):Gg l t=some (Fx l t):=by
 rw[X0 l t (FM j).1 (FM m).1 q,← Yy j m];rfl
theorem RE{l t:List AC}(j:l.length+t.length≤1099511627776):GE l t=some (Fx l t):=TW l t (by omega)
def D1(l:List AC):List AC:=Fx l N9
theorem FL(l:List AC):(D1 l).length≤l.length+1:=Kk l N9
theorem KM{l}(h:BE l false=0):BE (D1 l) false=0:=Tj h Xb
theorem PZ{l:List AC}(j:l.length≤549755813888):IQ l=some (D1 l):=by
 unfold IQ
 rw[show([AC.mk [115,116,121,108,101] []]:List AC)=N9 from rfl,RE (by show l.length+1≤_;omega)]
 rfl
theorem Od{l:List AC}(h:BE l false=0)(j:l.length≤549755813888):IS l=some (D1 l):=by
 unfold IS
 rw[show([AC.mk [115,116,121,108,101] []]:List AC)=N9 from rfl,Rv h Xb (by show l.length+1≤_;omega)]
 rfl
noncomputable def J8(d:AP)(l:List AC):List AC:=Fx (D1 (C0 d (BF l CF) Dd)) (D1 l)
noncomputable def Hd(d:AP)(x l:List AC):List AC:=Fx (Fx (D1 (C0 d (BF l CF) Dd)) (D1 (C0 d (BF x CF) Fw))) (D1 x)
theorem ek{d}(hg:B4 d)(j:FH d){l:List AC}(m:l.length≤1048576):Pu ⟨CK d⟩ l=some (J8 d l):=by
 obtain⟨q,g2⟩:=Ih hg j (BF l CF) Dd
 have w:=FL (C0 d (BF l CF) Dd)
 have A:=FL l
 unfold Pu
 rw[JU _ _ (by omega),AD]
 show AB (Gm ⟨CK d⟩ (BF l CF) Dd) _=_
 rw[T9 hg j,AD,PZ (by omega),AD,PZ (by omega),AD,RE (by omega)]
 rfl
theorem ij{d}(hg:B4 d)(j:FH d){l:List AC}(w:l.length≤1048576)(m:BE l false=0):Oi d l=some (J8 d l):=by
 obtain⟨q,g2⟩:=Ih hg j (BF l CF) Dd
 have A:=FL (C0 d (BF l CF) Dd)
 have B:=FL l
 unfold Oi
 rw[I3 _ _ (by omega),AD]
 show AB (Gw d (BF l CF) Dd) _=_
 rw[Sq hg j,AD,Od q (by omega),AD,Od m (by omega),AD,Rv (KM q) (OM (KM m)) (by omega)]
 rfl
theorem Zu{d}(hg:B4 d)(j:FH d){x l:List AC}(m:x.length≤1048576)(q:l.length≤1048576):NF ⟨CK d⟩ x l=some (Hd d x l):=by
 obtain⟨w,g2⟩:=Ih hg j (BF l CF) Dd
 obtain⟨A,B⟩:=Ih hg j (BF x CF) Fw
 have C:=FL (C0 d (BF l CF) Dd)
 have E:=FL (C0 d (BF x CF) Fw)
 have F:=FL x
 have I:=Kk (D1 (C0 d (BF l CF) Dd)) (D1 (C0 d (BF x CF) Fw))
 unfold NF
 rw[JU _ _ (by omega),AD]
 show AB (Gm ⟨CK d⟩ (BF l CF) Dd) _=_
 rw[T9 hg j,AD,PZ (by omega),AD,JU _ _ (by omega),AD]
 show AB (Gm ⟨CK d⟩ (BF x CF) Fw) _=_
 rw[T9 hg j,AD,PZ (by omega),AD,RE (by omega),AD,PZ (by omega),AD,RE (by omega)]
 rfl
theorem pE{d}(hg:B4 d)(j:FH d){x l:List AC}(A:x.length≤1048576)(B:l.length≤1048576)(w:BE x false=0):Oc d x l=some (Hd d x l):=by
 obtain⟨m,g2⟩:=Ih hg j (BF l CF) Dd
 obtain⟨q,C⟩:=Ih hg j (BF x CF) Fw
 have E:=FL (C0 d (BF l CF) Dd)
 have F:=FL (C0 d (BF x CF) Fw)
 have I:=FL x
 have J:=Kk (D1 (C0 d (BF l CF) Dd)) (D1 (C0 d (BF x CF) Fw))
 unfold Oc
 rw[I3 _ _ (by omega),AD]
 show AB (Gw d (BF l CF) Dd) _=_
 rw[Sq hg j,AD,Od m (by omega),AD,I3 _ _ (by omega),AD]
 show AB (Gw d (BF x CF) Fw) _=_
 rw[Sq hg j,AD,Od q (by omega),AD,Rv (KM m) (OM (KM q)) (by omega),AD,Od w (by omega),AD,Rv (Tj (KM m) (OM (KM q))) (OM (KM w)) (by omega)]
 rfl
theorem eQ{d}(hg:B4 d)(j:FH d){x l:List AC}(m:x.length≤1048576):(Hd d x l).length≤1099511627776:=by
 obtain⟨q,g2⟩:=Ih hg j (BF l CF) Dd
 obtain⟨w,A⟩:=Ih hg j (BF x CF) Fw
 have B:=FL (C0 d (BF l CF) Dd)
 have C:=FL (C0 d (BF x CF) Fw)
 have E:=FL x
 have F:=Kk (D1 (C0 d (BF l CF) Dd)) (D1 (C0 d (BF x CF) Fw))
 have I:=Kk (Fx (D1 (C0 d (BF l CF) Dd)) (D1 (C0 d (BF x CF) Fw))) (D1 x)
 unfold Hd
 omega
theorem fu{d}(hg:B4 d)(j:FH d){l:List AC}(m:l.length≤1048576):(J8 d l).length≤1099511627776:=by
 obtain⟨q,g2⟩:=Ih hg j (BF l CF) Dd
 have w:=FL (C0 d (BF l CF) Dd)
 have A:=FL l
 have B:=Kk (D1 (C0 d (BF l CF) Dd)) (D1 l)
 unfold J8
 omega
theorem iF(c:List AI)(hc:c.length≤1048576)(l:∀n∈c,n.Attrs.length≤1048576):iter (λ(a:Int × (List (List UInt8)))=>Iv c a.1 a.2) (0,[])=some (c.map λn=>BF n.Attrs Dy):=by
 have w:=Eo (f:=λ(a:Int × (List (List UInt8)))=>Iv c a.1 a.2) c (λ(o:List (List UInt8)) i=>((i:Int),o)) (λr o=>o++r.map λn=>BF n.Attrs Dy) (λi o=>o.length≤i)
  (λi o j m=>by
   left
   have q:=l _ (Bk j)
   show ∃A,Iv c (i:Int) o=_∧_
   refine⟨o++[BF c[i]!.Attrs Dy],?_,by simp;omega,by simp⟩
   unfold Iv
   have e:app 16 o [BF c[i]!.Attrs Dy]=some (o++[BF c[i]!.Attrs Dy]):=by
    unfold app
    rw[rO ⟨by simp;omega,by simp;omega⟩]
   rw[rO (by simpa using j),Ae j,AD,JU _ _ (by omega),AD]
   show AB (app 16 o [BF c[i]!.Attrs Dy]) _=_
   rw[e,AD,Ap (by omega)]
   rfl)
  (λo _=>by
   show Iv c (c.length:Int) o=_
   unfold Iv
   rw[rN (by simp)]
   simp) [] (by simp) ((0:Int),[]) rfl
 exact w
theorem oW(c:List AI)(hc:c.length≤1048576)(m:∀n∈c,n.Attrs.length≤1048576):iter (λ(a:Int)=>HS (c.map λn=>BF n.Attrs Dy) c a) 0=some (.nrm ()):=by
 have w:=Eo (f:=λ(a:Int)=>HS (c.map λn=>BF n.Attrs Dy) c a) c (λ(u:Unit) i=>(i:Int)) (λr u=>(.nrm ():As Unit Bool)) (λi u=>True)
  (λi u j _=>by
   left
   have q:=m _ (Bk j)
   refine⟨(),?_,trivial,rfl⟩
   show HS (c.map λn=>BF n.Attrs Dy) c (i:Int)=_
   unfold HS
   have l:i<(c.map λn=>BF n.Attrs Dy).length:=by simpa using j
   rw[rO (by simpa using j),EG l,AD,uh,Ae j,AD,I3 _ _ (by omega),AD,ri c i j]
   show(if(!(BF c[i].Attrs Dy=BF c[i].Attrs Dy))=true then _ else _)=_
   rw[rN (by simp),Ap (by omega)]
   rfl)
  (λu _=>by
   show HS (c.map λn=>BF n.Attrs Dy) c (c.length:Int)=_
   unfold HS
   rw[rN (by simp)]) () trivial (0:Int) rfl
 exact w
theorem eT x:Md [x]=DO x:=by
 unfold Md
 have:List.range [x].length=[0]:=rfl
 rw[this,so]
 unfold GX
 have e0:[x][0]! = x:=rfl
 rw[e0]
 by_cases h:DO x=0
 ·rw[rO h,h];rfl
 ·rw[rN h];rfl
theorem Xm{d}(hg:B4 d)(w:FH d){x:AL}{last:List AC}(A:FB x)(m:x.Attrs.length≤1048576)(B:Gn last)(q:last.length≤1048576):Hb d x last=some (if DO x=0 then(if BE last false=0 then(Hd d x.Attrs last,0) else([],BE last false)) else([],DO x)):=by
 have C:=hg.ch
 unfold Hb
 rw[C,AD,rN (by decide),cV [x] (λy E=>by obtain rfl:=s7.1 E;exact A) (by simp),AD,eT]
 by_cases j:DO x=0
 ·rw[rO j,j,rN (by decide),I7 _ B (by omega),AD]
  by_cases l:BE last false=0
  ·rw[rO l,l,rN (by decide),Tt hg,AD,Zu hg w m q,AD]
  ·rw[rN l,rO (by simpa using l)]
 ·rw[rN j,rO (by simpa using j)]
end Go.Proofs.YtifgmfoihehlbaaGreatDoor.Al

namespace Go.Proofs.YtifgmfoihehlbaaGreatDoor.Al
theorem gf{μ}{δ}(j:∀n,(n.Draw.map δ).sum+1≤μ n)(hd:∀o,o.Place.length+o.Name.length+o.Value.length+1≤δ o){d:AP}(m:(d.Nodes.map μ).sum≤1048576):∀n∈d.Nodes,JY n.Draw:=by
 intro n l
 have q:=Hg (μ:=μ) l
 have w:=j n
 exact(gP hd n.Draw (by omega)).1
theorem PG{α:Type}{μ}(h:∀a,1≤μ a):∀l:List α,l.length≤(l.map μ).sum
 | []=>rV _
 | a::l=>by
  have:=PG h l
  have:=h a
  simp only[sL,ru,su]
  omega
theorem WM{α:Type}{μ}(h:∀a,1≤μ a):∀(l:List α) (a:α),a∈l→l.length+μ a≤(l.map μ).sum+1
 | b::l,a,j=>by
  have m:=PG h l
  have q:=h b
  simp only[sL,ru,su]
  rcases sB.1 j with rfl | j
  ·omega
  ·have:=WM h l a j
   omega
theorem mN{μ}{κ}(l:∀n,(n.Attrs.map κ).sum+1≤μ n)(m:∀a,a.Name.length+a.Value.length+1≤κ a){d:AP}(w:(d.Nodes.map μ).sum≤1048576):FH d:=by
 intro n q
 have A:=WM (μ:=μ) (λn=>by have:=l n;omega) d.Nodes n q
 have B:=PG (μ:=κ) (λa=>by have:=m a;omega) n.Attrs
 have C:=l n
 refine⟨by omega,λa j=>?_⟩
 have E:=Hg (μ:=κ) j
 have F:=m a
 omega
end Go.Proofs.YtifgmfoihehlbaaGreatDoor.Al

set_option linter.unusedVariables false
set_option linter.unusedSimpArgs false
namespace Go.Proofs.YtifgmfoihehlbaaGreatDoor.Al
open Go
def Pb:List AC:=[⟨[110,97,109,101],[104]⟩,⟨[111,102],[112,97,114,97,103,114,97,112,104]⟩,⟨[112,46,98,111,108,100],[111,110]⟩]
def Fv:AI:=AI.mk 1 0 [] [(AL.mk 0 2 []),(AL.mk 0 3 [])] (Ar.mk 0 0 [] []) []
def GJ:AI:=AI.mk 3 11 Pb [] (Ar.mk 0 0 [] []) []
def BG:AP:=AP.mk [Fv,Cm,GJ]
theorem Va c r:FB (AL.mk c r []):=⟨by simp,λa j=>by cases j⟩
theorem YE:FZ Pb:=⟨by decide,λa j=>by
 have:a=⟨[110,97,109,101],[104]⟩∨a=⟨[111,102],[112,97,114,97,103,114,97,112,104]⟩∨a=⟨[112,46,98,111,108,100],[111,110]⟩:=by simpa[Pb] using j
 rcases this with rfl | rfl | rfl<;>exact⟨by decide,by decide⟩⟩
theorem oO:Is BG:=by
 refine⟨by decide,λn q=>?_⟩
 have:n=Fv∨n=Cm∨n=GJ:=by simpa[BG] using q
 rcases this with rfl | rfl | rfl
 ·exact⟨⟨JO,by decide,λe j=>by
   have:e=AL.mk 0 2 []∨e=AL.mk 0 3 []:=by simpa[Fv] using j
   rcases this with rfl | rfl<;>exact JO,MA,by decide⟩,λc l=>(by cases l),λo m=>(by cases m)⟩
 ·exact⟨⟨JO,by decide,λe j=>by
   have:e=AL.mk 10 0 []:=by simpa[Cm] using j
   subst this;exact JO,MA,by decide⟩,λc l=>(by cases l),λo m=>(by cases m)⟩
 ·exact⟨⟨YE,by decide,λe j=>(by cases j),MA,by decide⟩,λc l=>(by cases l),λo m=>(by cases m)⟩
theorem oQ:∀n∈BG.Nodes,n.Draw=[]:=λn j=>by
 have:n=Fv∨n=Cm∨n=GJ:=by simpa[BG] using j
 rcases this with rfl | rfl | rfl<;>rfl
theorem iJ:FO [AL.mk 0 2 [],AL.mk 0 3 []] false=some 0:=by
 rw[Tk _ (λx j=>by
  have:x=AL.mk 0 2 []∨x=AL.mk 0 3 []:=by simpa using j
  rcases this with rfl | rfl<;>exact Va _ _) (by decide)]
 rfl
theorem hO:Gu Pb=some 0:=by
 rw[I7 _ YE.2 (by decide)]
 have:BE Pb false=0:=by decide +kernel
 rw[this]
theorem gC:Ch Fv=some 0:=by
 unfold Ch Fv
 dsimp only
 rw[rN (by decide),rN (by decide),Uv,AD,rN (by decide)]
 have t:Fp 0=some false:=rfl
 have l:F6 0=some true:=rfl
 have g:FD 0=some false:=rfl
 have d:F1 0=some false:=rfl
 rw[t,l,g,d,R2]
 show(AB (FO [AL.mk 0 2 [],AL.mk 0 3 []] false) λ(j:Int)=>some j)=some 0
 rw[iJ];rfl
theorem pC:Ch GJ=some 0:=by
 unfold Ch GJ
 dsimp only
 rw[rN (by decide),rN (by decide),hO,AD,rN (by decide)]
 have t:Fp 11=some false:=rfl
 have l:F6 11=some false:=rfl
 have g:FD 11=some false:=rfl
 have d:F1 11=some false:=rfl
 rw[t,l,g,d,R2]
 show(AB (IT []) λ(j:Int)=>some j)=some 0
 have:IT []=some 0:=by
  rw[XN [] (λx m=>(by cases m)) (by decide)]
  rfl
 rw[this];rfl
theorem jh:HF BG.Nodes:=Uw λk l j=>by
 have j:k<3:=j
 have:k=1∨k=2:=by omega
 rcases this with rfl | rfl<;>decide
theorem iG:BG.Nodes.length≤1048576:=by decide
theorem Ve id k(h:CQ BG.Nodes id=some k):FX BG id=some ((k:Int),true):=by
 obtain⟨i,j,l⟩:=MY BG id iG jh
 rw[j,h,l k h];rfl
theorem Ut(n:AI)(l:n.Flow.length≤3)(j:n.Grid.Cells=[]):GM n=some (CX n.Flow):=by
 rw[Vd n (by omega) (by rw[j];decide),j]
 simp[Eu]
theorem mB:Ej BG 0 [2,3]=some 0:=by
 unfold Ej
 have j:(λ(a:Int)=>Ci BG 0 [2,3] a) 0=some (.inl 1):=by
  show Ci BG 0 [2,3] 0=_
  unfold Ci
  rw[rO (by decide),show AM ([2,3]:List Int) 0=some 2 from rfl,AD,Ve 2 1 (by decide),BW,rN (by decide),show AM BG.Nodes ((1:Nat):Int)=some Cm from rfl,AD,Rb,AD]
  rfl
 have l:(λ(a:Int)=>Ci BG 0 [2,3] a) 1=some (.inl 2):=by
  show Ci BG 0 [2,3] 1=_
  unfold Ci
  rw[rO (by decide),show AM ([2,3]:List Int) 1=some 3 from rfl,AD,Ve 3 2 (by decide),BW,rN (by decide),show AM BG.Nodes ((2:Nat):Int)=some GJ from rfl,AD,Rb,AD]
  rfl
 have m:(λ(a:Int)=>Ci BG 0 [2,3] a) 2=some (.inr (.nrm ())):=by
  show Ci BG 0 [2,3] 2=_
  unfold Ci;rfl
 rw[Bg j,Bg l,BN m];rfl
theorem Vp k:Ej BG k []=some 0:=by
 unfold Ej
 have j:(λ(a:Int)=>Ci BG k [] a) 0=some (.inr (.nrm ())):=by
  show Ci BG k [] 0=_
  unfold Ci;rfl
 rw[BN j];rfl
theorem cR:D2 BG=some 0:=by
 unfold D2
 have j:(λ(a:Int)=>CJ BG a) 0=some (.inl 1):=by
  show CJ BG 0=_
  unfold CJ
  rw[rO (by decide),show AM BG.Nodes 0=some Fv from rfl,AD,gC];rfl
 have l:(λ(a:Int)=>CJ BG a) 1=some (.inl 2):=by
  show CJ BG 1=_
  unfold CJ
  rw[rO (by decide),show AM BG.Nodes 1=some Cm from rfl,AD,V7];rfl
 have a3:(λ(a:Int)=>CJ BG a) 2=some (.inl 3):=by
  show CJ BG 2=_
  unfold CJ
  rw[rO (by decide),show AM BG.Nodes 2=some GJ from rfl,AD,pC];rfl
 have a4:(λ(a:Int)=>CJ BG a) 3=some (.inr (.nrm ())):=by
  show CJ BG 3=_
  unfold CJ;rfl
 have m:(λ(a:Int)=>Cc BG a) 0=some (.inl 1):=by
  show Cc BG 0=_
  unfold Cc
  rw[rO (by decide),show AM BG.Nodes 0=some Fv from rfl,AD,Ut Fv (by decide) rfl,AD,show Fv.Kind=0 from rfl,show CX Fv.Flow=[2,3] from by decide,mB];rfl
 have q:(λ(a:Int)=>Cc BG a) 1=some (.inl 2):=by
  show Cc BG 1=_
  unfold Cc
  rw[rO (by decide),show AM BG.Nodes 1=some Cm from rfl,AD,Ut Cm (by decide) rfl,AD,show CX Cm.Flow=[] from by decide,Vp];rfl
 have w:(λ(a:Int)=>Cc BG a) 2=some (.inl 3):=by
  show Cc BG 2=_
  unfold Cc
  rw[rO (by decide),show AM BG.Nodes 2=some GJ from rfl,AD,Ut GJ (by decide) rfl,AD,show CX GJ.Flow=[] from by decide,Vp];rfl
 have A:(λ(a:Int)=>Cc BG a) 3=some (.inr (.nrm ())):=by
  show Cc BG 3=_
  unfold Cc;rfl
 rw[rN (by decide),Bg j,Bg l,Bg a3,BN a4,Bg m,Bg q,Bg w,BN A];rfl
theorem RX:B4 BG:=⟨oO,λn j=>by rw[oQ n j];exact λx l=>(by cases l),cR⟩
theorem jP:Iz []=some ([],0):=by
 obtain⟨j,l,q,B,m⟩:=We (l:=[]) (by decide) (λx C=>(by cases C))
 have E:j=[]:=tF.1 (by have:=q.li;simpa using this)
 subst E
 obtain⟨e,M,w⟩:=q.fo (by decide)
 have F:=Wv m w
 have I:=XP w
 have A:=tF.1 (Nat.le_zero.1 I)
 rw[F,A]
 rw[(List.append_eq_nil_iff.1 A).1];rfl
theorem UF{d}(hg:B4 d){i}(l:DT d i)(m:(Bi d i).Draw=[]):GQ d (Bi d i)=[]:=by
 obtain⟨q,w,A,_⟩:=hg.node l
 obtain⟨L,X,B,j,_⟩:=Qe hg.ids hg.ok.1 hg.srt q w A
 rw[m,jP] at j
 have C:L++X=[]:=by injection j with j;injection j with j _;exact j.symm
 unfold GQ
 rw[B,(List.append_eq_nil_iff.1 C).1];rfl
theorem T0 d n j(v:Aw):CL d (n+1) j v=if CM j v.id=true then j else(kids d v (Bi d v.id)).foldl (λa w=>CL d n a w) (j++[v]):=rfl
theorem gV p b:kids BG ⟨1,p,b⟩ (Bi BG 1)=[⟨2,1,b⟩,⟨3,1,b⟩]:=by
 have j:HK BG ⟨1,p,b⟩ (Bi BG 1)=[]:=by unfold HK;rw[UF RX ⟨0,by decide⟩ rfl];rfl
 unfold kids;rw[j];rfl
theorem fc p b:kids BG ⟨2,p,b⟩ (Bi BG 2)=[]:=by
 have j:HK BG ⟨2,p,b⟩ (Bi BG 2)=[]:=by unfold HK;rw[UF RX ⟨1,by decide⟩ rfl];rfl
 unfold kids;rw[j];rfl
theorem bJ p b:kids BG ⟨3,p,b⟩ (Bi BG 3)=[]:=by
 have j:HK BG ⟨3,p,b⟩ (Bi BG 3)=[]:=by unfold HK;rw[UF RX ⟨2,by decide⟩ rfl];rfl
 unfold kids;rw[j];rfl
theorem mW:C3 BG=[⟨1,0,true⟩,⟨2,1,true⟩,⟨3,1,true⟩]:=by
 have j:CL BG (2+1) [⟨1,0,true⟩] ⟨2,1,true⟩=[⟨1,0,true⟩,⟨2,1,true⟩]:=by
  rw[T0,rN (by decide)]
  dsimp only
  rw[fc];rfl
 have l:CL BG (2+1) [⟨1,0,true⟩,⟨2,1,true⟩] ⟨3,1,true⟩=[⟨1,0,true⟩,⟨2,1,true⟩,⟨3,1,true⟩]:=by
  rw[T0,rN (by decide)]
  dsimp only
  rw[bJ];rfl
 unfold C3
 show CL BG (3+1) [] _=_
 rw[T0,rN (by decide)]
 dsimp only
 rw[gV]
 show CL BG (2+1) (CL BG (2+1) [⟨1,0,true⟩] ⟨2,1,true⟩) ⟨3,1,true⟩=_
 rw[j,l]
theorem iy:CK BG=[GJ]:=by
 unfold CK
 rw[mW];rfl
theorem ew:FH BG:=λn j=>by
 have:n=Fv∨n=Cm∨n=GJ:=by simpa[BG] using j
 rcases this with rfl | rfl | rfl<;>exact⟨by decide,by decide⟩
theorem fh:Hd BG [] [AC.mk [115,116,121,108,101] [104]]=[AC.mk [98,111,108,100] [111,110]]:=by
 unfold Hd C0
 rw[iy]
 decide +kernel
theorem pf:Hb BG (AL.mk 97 0 []) [AC.mk [115,116,121,108,101] [104]]=some ([AC.mk [98,111,108,100] [111,110]],0):=by
 have h:=Xm RX ew (x:=AL.mk 97 0 []) (last:=[AC.mk [115,116,121,108,101] [104]]) (Va 97 0) (by decide) (λa j=>by
  have:a=⟨[115,116,121,108,101],[104]⟩:=by simpa using j
  subst this;exact⟨by decide,by decide⟩) (by decide)
 rw[h,rO (by decide),rO (by decide)]
 show some (Hd BG [] _,(0:Int))=_
 rw[fh]
theorem cU:Oe=some true:=by
 unfold Oe
 rw[show Ls=some (AL.mk 10 0 []) from rfl,AD,show Qy [AL.mk 10 0 []]=some [(AI.mk 1 0 [] [(AL.mk 0 2 [])] (Ar.mk 0 0 [] []) []),Cm] from rfl,AD,show AM [(AI.mk 1 0 [] [(AL.mk 0 2 [])] (Ar.mk 0 0 [] []) []),Cm] 0=some (AI.mk 1 0 [] [(AL.mk 0 2 [])] (Ar.mk 0 0 [] []) []) from rfl,AD]
 dsimp only
 rw[show Re 40 [(AL.mk 0 2 [])] [(AL.mk 0 3 [])]=some [(AL.mk 0 2 []),(AL.mk 0 3 [])] from rfl,AD]
 rw[show([(AI.mk 1 0 [] [(AL.mk 0 2 [])] (Ar.mk 0 0 [] []) []),Cm]:List AI).set (0:Int).toNat (AI.mk 1 0 [] [(AL.mk 0 2 []),(AL.mk 0 3 [])] (Ar.mk 0 0 [] []) [])=[Fv,Cm] from rfl,Pa (by decide),AD]
 show CT (Hb BG _ _) _=_
 rw[pf,BW,kg,AD,rO (by decide),show Qq [98,111,108,100]=some [AC.mk [98,111,108,100] [111,110]] from rfl,AD,MR _ _ (by decide)]
 rfl
end Go.Proofs.YtifgmfoihehlbaaGreatDoor.Al

set_option linter.unusedVariables false
set_option linter.unusedSimpArgs false
namespace Go.Proofs.YtifgmfoihehlbaaGreatDoor.Al
open Go
theorem lm(d:AP)(x:AL)(last:List AC)(w j:List UInt8)(h:Is d)(hd:∀n∈d.Nodes,JY n.Draw)(B:FH d)(J:FB x)(C:x.Attrs.length≤1048576)(F:Gn last)(m:last.length≤1048576):SW d x last w j=some true:=by
 obtain⟨e,I,h2⟩:=ov d h
 unfold SW
 rw[cU,AD,rN (by decide)]
 by_cases M:e=0
 ·subst M
  have hg:B4 d:=⟨h,hd,I⟩
  have E:=T4 hg B
  have hc:=SA (CK d) w j
  have a2:=hc.len
  have a6:=E.len
  have O:∀n∈Ef (CK d) w j,n.Attrs.length≤1048576:=λn hn=>E.at_ n (hc.2 n hn)
  have V:LN d w j=some ((Ef (CK d) w j).map λn=>BF n.Attrs Dy,0):=by
   unfold LN
   rw[I,AD,rN (by decide),Tt hg,AD,ZE E,AD,iF _ (by omega) O,AD]
  have X:=Xm hg B J C F m
  have Z:KT d last=some (if BE last false=0 then(J8 d last,0) else([],BE last false)):=by
   unfold KT
   rw[I,AD,rN (by decide),I7 _ F (by omega),AD]
   by_cases l:BE last false=0
   ·rw[rO l,l,rN (by decide),Tt hg,AD,ek hg B m,AD]
   ·rw[rN l,rO (by simpa using l)]
  have T:GH (J8 d last) (J8 d last)=some true:=by
   rw[MR _ _ (by have:=fu hg B m;omega),rR rfl]
  have a0:GH (Hd d x.Attrs last) (Hd d x.Attrs last)=some true:=by
   rw[MR _ _ (by have:=eQ hg B (l:=last) C;omega),rR rfl]
  have U:iter (λ(a:Int)=>HS ((Ef (CK d) w j).map λn=>BF n.Attrs Dy) (Ef (CK d) w j) a) 0=some (.nrm ()):=oW _ (by omega) O
  rw[V,BW,X,Z,h2]
  by_cases l:BE last false=0
  ·have A:=ij hg B m l
   by_cases q:DO x=0
   ·have a1:=pE hg B C m (x:=x.Attrs) (lj q) (l:=last)
    rw[rO q,rO l,rO l,BW,BW,AD,rN (by decide),Nn hg E,AD,rN (by simp),U]
    simp only[Jg]
    rw[MK x J,AD,Kx _ _ F (by omega),AD,l,q]
    simp[A,T,a1,a0]
   ·rw[rN q,rO l,BW,BW,AD,rN (by decide),Nn hg E,AD,rN (by simp),U]
    simp only[Jg]
    rw[MK x J,AD,Kx _ _ F (by omega),AD,l]
    simp[A,T,q]
  ·by_cases q:DO x=0
   ·rw[rO q,rN l,rN l,BW,BW,AD,rN (by decide),Nn hg E,AD,rN (by simp),U]
    simp only[Jg]
    rw[MK x J,AD,Kx _ _ F (by omega),AD,q]
    simp[l]
   ·rw[rN q,rN l,BW,BW,AD,rN (by decide),Nn hg E,AD,rN (by simp),U]
    simp only[Jg]
    rw[MK x J,AD,Kx _ _ F (by omega),AD]
    simp[l,q]
 ·have V:LN d w j=some ([],e):=by
   unfold LN
   rw[I,AD,rO (by simpa using M)]
  have X:Hb d x last=some ([],e):=by
   unfold Hb
   rw[I,AD,rO (by simpa using M)]
  have Z:KT d last=some ([],e):=by
   unfold KT
   rw[I,AD,rO (by simpa using M)]
  rw[V,X,Z,BW,BW,BW,h2,AD,rO (by simpa using M)]
  simp[Ak]
  rfl
end Go.Proofs.YtifgmfoihehlbaaGreatDoor.Al
