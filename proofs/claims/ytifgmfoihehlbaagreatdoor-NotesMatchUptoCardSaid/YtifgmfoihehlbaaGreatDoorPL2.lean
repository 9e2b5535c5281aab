/- Plain laws over the models, a part of them. -/
import Derived.Test.YtifgmfoihehlbaaGreatDoorPL1
set_option linter.all false
set_option linter.unusedVariables false
set_option linter.unusedSimpArgs false
namespace Go.Proofs.YtifgmfoihehlbaaGreatDoor.Al
open Go
theorem aK{d:AR}(h:Id d)(l:Em d=some 0):0<d.Nodes.length∧d.Nodes[0]!.ID=1:=by
 obtain⟨-,m⟩:=NP h l
 unfold Em at l
 split at l
 ·cases l
 rename_i w
 have j:0<d.Nodes.length:=by
  rcases uZ d.Nodes.length with h | h
  ·exact absurd (q7 (show((d.Nodes.length:Int))=0 by omega)) w
  ·exact h
 refine⟨j,?_⟩
 by_cases A3:d.Nodes[0]!.ID=1
 ·exact A3
 exfalso
 have q:iter (λ(a:Int)=>CL d a) 0=some (.ext 5):=by
  refine BJ ?_
  have e0:=m 0 j
  show CL d ((0:Nat):Int)=_
  unfold CL
  rw[qy (by simpa using j),Ac j,AD,e0,AD,qx (by decide),q7 (show((0:Nat):Int)=0 from rfl),qz (show ¬ (0:Int)<((0:Nat):Int) by omega),qz A3]
  rfl
 rw[q] at l
 cases l
theorem S7{d:AR}(h:Bt d):Ba d 1:=by
 obtain⟨l,m⟩:=aK h.ok h.ch
 unfold Ba
 cases j:B5 d.Nodes 1 with
 | some k=>exact⟨k,rfl⟩
 | none=>
  exfalso
  unfold B5 at j
  rw[List.find?_eq_none] at j
  exact j 0 (rV.2 l) (by simpa using m)
noncomputable def Bp(d:AR):List Aq:=CD d (d.Nodes.length+1) [] ⟨1,0,true⟩
theorem Vi(d:AR):D9 d []<d.Nodes.length+1:=Nat.lt_succ_of_le (List.countP_le_length ..)
theorem ow{σ:Type}(Y:σ→Aq→Option (Bool × σ)){d:AR}(h:Bt d){s s'}{b}(l:Dv Y (Bp d) s=some (b,s')):∃j,gN Y d (d.Nodes.length+1) [] s ⟨1,0,true⟩=some (b,j,s'):=by
 obtain⟨new,m,_,w⟩:=bA Y h (d.Nodes.length+1) [] ⟨1,0,true⟩ [] s (S7 h) (Vi d) (λi=>rfl)
 have:Bp d=new:=by unfold Bp;rw[m,sO]
 rw[this] at l
 obtain⟨j,q,_⟩:=w b s' l
 exact⟨j,q⟩
section
variable{σ:Type}(Y:σ→Aq→Option (Bool × σ)){d:AR}
theorem WH{v:Aq}{self self':Ka σ}(B:∀m s w r,self m s w=some r→self' m s w=some r){l:List Int}{x:Int}{m:List (Int × Bool)}{s:σ}{r}(h:Eb v self l x m s=some r):Eb v self' l x m s=some r:=by
 unfold Eb at h ⊢
 split at h
 ·rename_i j
  rw[qy j]
  cases A:AL l x with
  | none=>rw[A] at h;cases h
  | some y=>
   rw[A,AD] at h
   rw[AD]
   cases q:self m s ⟨y,v.id,v.visible⟩ with
   | none=>rw[q] at h;cases h
   | some p=>rw[q] at h;rw[B _ _ _ _ q];exact h
 ·rename_i j
  rw[qx j];exact h
theorem bW{v:Aq}{self self':Ka σ}(C:∀m s w r,self m s w=some r→self' m s w=some r){n:AO}{x:Int}{m:List (Int × Bool)}{s:σ}{r}(h:EW v self n x m s=some r):EW v self' n x m s=some r:=by
 unfold EW at h ⊢
 split at h
 ·rename_i j
  rw[qy j]
  cases B:AL n.Grid.Cells x with
  | none=>rw[B] at h;cases h
  | some c=>
   rw[B,AD] at h
   rw[AD]
   cases hg:F9 n.Grid c.Row c.Col with
   | none=>rw[hg] at h;cases h
   | some q=>
    rw[hg,AD] at h
    rw[AD]
    split at h
    ·rename_i l
     rw[qy l]
     cases A:self m s ⟨c.Ref,v.id,((v.visible&&(q.Row=c.Row))&&(q.Col=c.Col))⟩ with
     | none=>rw[A] at h;cases h
     | some p=>rw[A] at h;rw[C _ _ _ _ A];exact h
    ·rename_i l
     rw[qx l];exact h
 ·rename_i j
  rw[qx j];exact h
theorem jD{self self'}(A:∀m s w r,self m s w=some r→self' m s w=some r){m}{s}{v:Aq}{r}(h:gB Y d self m s v=some r):gB Y d self' m s v=some r:=by
 unfold gB at h ⊢
 split at h
 ·rename_i B
  rw[qy B];exact h
 ·rename_i B
  rw[qx B]
  cases J:Y s v with
  | none=>rw[J] at h;cases h
  | some p=>
   rw[J,By] at h
   rw[By]
   split at h
   ·rename_i C
    rw[qy C];exact h
   ·rename_i C
    rw[qx C]
    cases M:Fc d v.id with
    | none=>rw[M] at h;cases h
    | some q=>
     rw[M,By] at h
     rw[By]
     cases O:AL d.Nodes q.1 with
     | none=>rw[O] at h;cases h
     | some n=>
      rw[O,AD] at h
      rw[AD]
      cases T:Jp n.Flow with
      | none=>rw[T] at h;cases h
      | some l=>
       rw[T,AD] at h
       rw[AD]
       cases E:iter (λ(a:Int × (List (Int × Bool)) × σ)=>Eb v self l a.1 a.2.1 a.2.2) (0,(Ah m v.id true),p.2) with
       | none=>rw[E] at h;cases h
       | some c1=>
        rw[E] at h
        rw[Ik (g:=λ(a:Int × (List (Int × Bool)) × σ)=>Eb v self' l a.1 a.2.1 a.2.2) (λs v j=>WH A j) E]
        cases c1 with
        | ext e=>exact h
        | nrm t=>
         change GA (iter (λ(a:Int × (List (Int × Bool)) × σ)=>EW v self n a.1 a.2.1 a.2.2) (0,t.1,t.2)) _=_ at h
         show GA (iter (λ(a:Int × (List (Int × Bool)) × σ)=>EW v self' n a.1 a.2.1 a.2.2) (0,t.1,t.2)) _=_
         cases F:iter (λ(a:Int × (List (Int × Bool)) × σ)=>EW v self n a.1 a.2.1 a.2.2) (0,t.1,t.2) with
         | none=>rw[F] at h;cases h
         | some Z=>
          rw[F] at h
          rw[Ik (g:=λ(a:Int × (List (Int × Bool)) × σ)=>EW v self' n a.1 a.2.1 a.2.2) (λs v j=>bW A j) F]
          cases Z with
          | ext e=>exact h
          | nrm U=>
           change AB (Gh d n) _=_ at h
           show AB (Gh d n) _=_
           cases V:Gh d n with
           | none=>rw[V] at h;cases h
           | some X=>
            rw[V,AD] at h
            rw[AD]
            cases I:iter (λ(a:Int × (List (Int × Bool)) × σ)=>Eb v self X a.1 a.2.1 a.2.2) (0,U.1,U.2) with
            | none=>rw[I] at h;cases h
            | some c3=>
             rw[I] at h
             rw[Ik (g:=λ(a:Int × (List (Int × Bool)) × σ)=>Eb v self' X a.1 a.2.1 a.2.2) (λs v j=>WH A j) I]
             exact h
theorem pq:∀(n:Nat) (m:List (Int × Bool)) (s:σ) (v:Aq) r,gN Y d n m s v=some r→gN Y d (n+1) m s v=some r:=by
 intro n
 induction n with
 | zero=>intro m s v r h;cases h
 | succ n j=>intro m s v r h;exact jD Y j h
end
theorem U1 j d:∀(n:Nat) m ys v,Hr n j m ys d v=gN (λys v=>HO j ys v) d n m ys v:=by
 intro n
 induction n with
 | zero=>intro m ys v;rfl
 | succ n q=>
  intro m ys v
  have e:gN (λys v=>HO j ys v) d n=λm ys v=>Hr n j m ys d v:=by
   funext m ys v;exact(q m ys v).symm
  show Ru (λj w l A v1=>Hr n j w l A v1) j m ys d v=gB (λys v=>HO j ys v) d (gN (λys v=>HO j ys v) d n) m ys v
  rw[e]
  rfl
theorem iH{l}{d}(h:Bt d){ys j}{b}(q:Dv (λys v=>HO l ys v) (Bp d) ys=some (b,j)):OC l ys d=some j:=by
 obtain⟨A,w⟩:=ow _ h q
 unfold OC P5
 rw[Lb (N:=λn=>Hr n l [] ys d ⟨1,0,true⟩) (λn r m=>by rw[U1] at m ⊢;exact pq _ n _ _ _ r m) (by rw[U1];exact w),FJ]
def GQ(v:Aq):List RV:=[.int .i64 v.id,.int .i64 v.parent]
theorem p8{σ:Type}(F:σ→List RV→Option σ) a b(j:σ){r}(h:Ed F (a++b) j=some r):∃m,Ed F a j=some m:=by
 induction a generalizing j with
 | nil=>exact⟨j,rfl⟩
 | cons y a q=>
  rw[sc] at h
  simp only[Ed] at h ⊢
  cases l:F j y with
  | none=>rw[l] at h;cases h
  | some s=>rw[l,rt] at h;rw[rt];exact q s h
theorem lx{σ:Type}(F:σ→List RV→Option σ)(j:σ):∀(l:List Aq) (ys:List (List RV)) {r:σ},Ed F (ys++l.map GQ) j=some r→Dv (λys v=>HO (Ie F j) ys v) l ys=some (true,ys++l.map GQ):=by
 intro l
 induction l with
 | nil=>intro ys r _;simp[Dv]
 | cons v l q=>
  intro ys r h
  have e:ys++(v::l).map GQ=(ys++[GQ v])++l.map GQ:=by simp
  rw[e] at h ⊢
  obtain⟨w,m⟩:=p8 F (ys++[GQ v]) _ j h
  have:HO (Ie F j) ys v=some (true,ys++[GQ v]):=by
   unfold HO
   show AB (Ie F j (ys++[GQ v])) _=_
   unfold Ie
   rw[m];rfl
  simp only[Dv,this]
  exact q _ h
theorem l9{σ:Type}{d}(h:Bt d)(F:σ→Int→Int→Option σ)(j:σ){r}(l:Ed (λs=>m2 (F s)) ((Bp d).map GQ) j=some r):rng2 (λA=>H0 A [] d) F j=some r:=by
 have m:=lx (λs=>m2 (F s)) j (Bp d) [] (r:=r) (by rw[sO];exact l)
 rw[sO] at m
 have q:H0 (Ie (λs=>m2 (F s)) j) [] d=some ((Bp d).map GQ):=by
  unfold H0
  rw[h.ch,AD,qx (by decide),iH h m,AD]
 show(H0 (Ie (λs=>m2 (F s)) j) [] d).bind _=_
 rw[q,rt]
 exact l
end Go.Proofs.YtifgmfoihehlbaaGreatDoor.Al

set_option linter.unusedVariables false
set_option linter.unusedSimpArgs false
namespace Go.Proofs.YtifgmfoihehlbaaGreatDoor.Al
open Go
def Az(v:Aq):Ae:=⟨v.id,v.parent,v.visible⟩
def Gd(d:AR)(j:List Aq):Prop:=(j.Pairwise λa b=>a.id≠b.id)∧∀w∈j,Ba d w.id
theorem bT:∀(l A:List Int),l.Pairwise (· ≠ ·)→(∀z∈l,z∈A)→l.length≤A.length:=by
 intro l
 induction l with
 | nil=>intro A _ _;exact si _
 | cons a r w=>
  intro A hp j
  rw[tP] at hp
  have m:=j a (rT ..)
  have:=w (A.erase a) hp.2 λz q=>(List.mem_erase_of_ne (λe=>hp.1 z q e.symm)).2 (j z (rO _ q))
  rw[List.length_erase_of_mem m] at this
  have:0<A.length:=List.length_pos_of_mem m
  simp;omega
theorem Gd.len{d:AR}{j:List Aq}(h:Gd d j):j.length≤d.Nodes.length:=by
 have:=bT (j.map (·.id)) (d.Nodes.map (·.ID)) (by rw[tj];exact h.1) (λz l=>by
  obtain⟨w,m,rfl⟩:=rn.1 l
  obtain⟨k,q⟩:=h.2 w m
  obtain⟨A,B⟩:=EF q
  exact rn.2 ⟨d.Nodes[k]!,Bm A,B⟩)
 simpa using this
theorem Gd.snoc{d}{j}(h:Gd d j){v:Aq}(m:Ba d v.id)(q:Bv j v.id=false):Gd d (j++[v]):=by
 refine⟨List.pairwise_append.2 ⟨h.1,by simp,λa A b B e=>?_⟩,λw l=>?_⟩
 ·obtain rfl:=tH.1 B
  have:Bv j b.id=true:=by unfold Bv;rw[sj];exact⟨a,A,by simpa using e⟩
  rw[q] at this;cases this
 ·rcases sU.1 l with l | l
  ·exact h.2 w l
  ·obtain rfl:=tH.1 l;exact m
theorem Vh{d}(h:Bt d):∀(n:Nat) (j:List Aq) (v:Aq),Ba d v.id→Gd d j→Gd d (CD d n j v)∧D9 d (CD d n j v)≤D9 d j:=by
 intro n
 induction n with
 | zero=>intro j v _ hg;exact⟨hg,q9 _⟩
 | succ n E=>
  intro j v B hg
  unfold CD
  split
  ·exact⟨hg,q9 _⟩
  ·rename_i l
   have l:Bv j v.id=false:=by simpa using l
   have F:=ST h B
   have key:∀(ks:List Aq) (a:List Aq),(∀w∈ks,Ba d w.id)→Gd d a→Gd d (ks.foldl (λa w=>CD d n a w) a)∧D9 d (ks.foldl (λa w=>CD d n a w) a)≤D9 d a:=by
    intro ks
    induction ks with
    | nil=>intro a _ m;exact⟨m,q9 _⟩
    | cons w r q=>
     intro a C m
     obtain⟨A,g2⟩:=E a w (C w (rT ..)) m
     obtain⟨g3,g4⟩:=q (CD d n a w) (λz I=>C z (rO _ I)) A
     exact⟨g3,by rw[sZ];omega⟩
   obtain⟨A,g2⟩:=key _ (j++[v]) F (hg.snoc B l)
   exact⟨A,rM g2 (Uz d j [v])⟩
theorem aQ(l:List Aq) id(B:l.length≤1048576):∃r,Dx (l.map Az) id=some r∧decide (0≤r)=Bv l id:=by
 unfold Dx
 have h:=B2 (f:=λ(a:Int)=>H8 (l.map Az) id a) (n:=l.length) (λk=>if l[k]!.id=id then some (k:Int) else none) (λk j=>by
  have q:k<(l.map Az).length:=by simpa using j
  unfold H8
  rw[qy (by simpa using j),Dz q,AD,ta]
  show(if decide ((Az l[k]).ID=id)=true then _ else _)=_
  rw[rN l k j]
  by_cases h:l[k].id=id
  ·rw[qy (by rw[q8];exact h),qy h];rfl
  ·rw[qx (by rw[q8];exact h),qx h,Ar (by omega)];rfl) (by unfold H8;rw[qx (by simp)])
 rw[h]
 cases w:(List.range l.length).findSome? λ(k:Nat)=>if l[k]!.id=id then some (k:Int) else none with
 | none=>
  refine⟨-1,rfl,?_⟩
  rw[sH] at w
  have:Bv l id=false:=by
   unfold Bv
   rw[List.any_eq_false]
   intro v A
   obtain⟨k,j,rfl⟩:=sA.1 A
   have:=w k (rV.2 j)
   rw[rN l k j] at this
   split at this
   ·cases this
   ·rename_i h;simpa using h
  rw[this];rfl
 | some r=>
  obtain⟨k,j,m⟩:=sF w
  have j:=rV.1 j
  rw[rN l k j] at m
  split at m
  ·rename_i h
   cases m
   refine⟨(k:Int),rfl,?_⟩
   have:Bv l id=true:=by
    unfold Bv
    rw[sj]
    exact⟨l[k],rm j,by simpa using h⟩
   rw[this];simp
  ·cases m
noncomputable def PW(v:Aq)(g:Av)(r:List An):List Aq:=(r.filter λc=>!(c.Ref=0)).map (G7 v g)
theorem Wq v g(x:An) r:PW v g (x::r)=(if x.Ref=0 then [] else [G7 v g x])++PW v g r:=by
 unfold PW
 rw[tb]
 by_cases h:x.Ref=0<;>simp[h]
def eD(d:AR)(n:Nat):Prop:=∀(j:List Aq) (v:Aq),Ba d v.id→D9 d j<n→Gd d j→Cc n (j.map Az) d (Az v)=some ((CD d n j v).map Az)
theorem dT{d:AR}(h:Bt d):∀n,eD d n:=by
 intro n
 induction n with
 | zero=>intro A v _ hu;omega
 | succ n IH=>
  intro A v hv hu hg
  have hm:=h.ok.1
  have av:=hg.len
  show Jm (λm F B=>Cc n m F B) (A.map Az) d (Az v)=_
  unfold Jm
  obtain⟨r,r1,r2⟩:=aQ A v.id (by omega)
  rw[show(Az v).ID=v.id from rfl,r1,AD,r2]
  by_cases hs:Bv A v.id=true
  ·rw[qy hs]
   unfold CD
   rw[qy hs]
  ·rw[qx hs]
   have a7:Bv A v.id=false:=by simpa using hs
   have aw:=We hv a7
   have a8:=hg.snoc hv a7
   obtain⟨U,ai,aa,ab,ax,ac⟩:=h.node hv
   obtain⟨kk,a0⟩:=hv
   have a1:GS d v.id=some (kk:Int):=by rw[Kp d v.id hm,a0]
   have ad:AL d.Nodes (kk:Int)=some (AJ d v.id):=by rw[a0] at ac;exact ac
   have ae:app 24 (A.map Az) [Az v]=some ((A++[v]).map Az):=by
    unfold app
    rw[qy ⟨by simp;omega,by simp;omega⟩]
    simp
   rw[ae,AD,a1,AD,ad,AD]
   have hR:CD d (n+1) A v=(kids d v (AJ d v.id)).foldl (λa w=>CD d n a w) (A++[v]):=by
    conv=>lhs;unfold CD
    rw[qx hs]
   rw[hR]
   unfold kids
   rw[uB,uB]
   have O:=ST h ⟨kk,a0⟩
   unfold kids at O
   generalize hN:AJ d v.id=N at *
   have C:∀(a:List Aq) (w:Aq),Ba d w.id→D9 d a<n→Gd d a→Cc n (a.map Az) d (Az w)=some ((CD d n a w).map Az)∧D9 d (CD d n a w)<n∧Gd d (CD d n a w):=λa w V ha af=>by
    obtain⟨g1,g2⟩:=Vh h n a w V af
    exact⟨IH a w V ha af,by omega,g1⟩
   have ay:=U.ok.fl
   have az:=U.ok.gr.1
   have w1:=Im (f:=λ(a:Int × (List Ae))=>GG d (Az v) (λm F B=>Cc n m F B) N a.1 a.2) N.Flow (λ(c:List Aq) i=>((i:Int),c.map Az))
    (λr c=>(((CQ r).map λid=>(⟨id,v.id,v.visible⟩:Aq)).foldl (λa w=>CD d n a w) c).map Az) (λi c=>(D9 d c<n∧Gd d c)∧∀x∈N.Flow,x.Ref≠0→Ba d x.Ref)
    (λi c I ⟨⟨c1,Z⟩,c3⟩=>by
     left
     show ∃c',GG d (Az v) _ N (i:Int) (c.map Az)=_∧_
     unfold GG
     rw[qy (by simpa using I),Ac I,AD,Ar (by omega)]
     by_cases E:N.Flow[i]!.Ref=0
     ·refine⟨c,by rw[q7 E];rfl,⟨⟨c1,Z⟩,c3⟩,?_⟩
      rw[RY,qy E,sO]
     ·obtain⟨B,s2,s3⟩:=C c ⟨N.Flow[i]!.Ref,v.id,v.visible⟩ (c3 _ (Bm I) E) c1 Z
      refine⟨_,?_,⟨⟨s2,s3⟩,c3⟩,?_⟩
      ·rw[qz E,qy (by decide)]
       show AB (AB (Cc n (c.map Az) d (Az ⟨N.Flow[i]!.Ref,v.id,v.visible⟩)) _) _=_
       rw[B];rfl
      ·rw[RY,qx E];rfl)
    (λc _=>by
     show GG d (Az v) _ N (N.Flow.length:Int) (c.map Az)=_
     unfold GG
     rw[qx (by simp)]
     rfl) (A++[v]) ⟨⟨by omega,a8⟩,λx J E=>ab x.Ref (sh _ (by unfold CQ;exact rn.2 ⟨x,sV.2 ⟨J,by simpa using E⟩,rfl⟩))⟩ ((0:Int),(A++[v]).map Az) rfl
   have aj:iter (λ(a:Int × (List Ae))=>GG d (Az v) (λm F B=>Cc n m F B) N a.1 a.2) (0,(A++[v]).map Az)=_:=w1
   rw[aj,AD]
   have T:∀(ks:List Aq) (a:List Aq),(∀w∈ks,Ba d w.id)→D9 d a<n→Gd d a→D9 d (ks.foldl (λa w=>CD d n a w) a)<n∧Gd d (ks.foldl (λa w=>CD d n a w) a):=by
    intro ks
    induction ks with
    | nil=>intro a _ h1 h2;exact⟨h1,h2⟩
    | cons w r ak=>
     intro a V h1 h2
     obtain⟨_,s2,s3⟩:=C a w (V w (rT ..)) h1 h2
     exact ak _ (λz hz=>V z (rO _ hz)) s2 s3
   have al:(CQ N.Flow).map (λid=>(⟨id,v.id,v.visible⟩:Aq))=K1 v N:=rfl
   rw[al]
   obtain⟨b1,b2⟩:=T (K1 v N) (A++[v]) (λw V=>O w (sh _ V)) (by omega) a8
   generalize (K1 v N).foldl (λa w=>CD d n a w) (A++[v])=A1 at *
   have ag:=OZ U aa
   have w2:=Im (f:=λ(a:Int × (List Ae))=>F1 d (Az v) (λm F B=>Cc n m F B) N a.1 a.2) N.Grid.Cells (λ(c:List Aq) i=>((i:Int),c.map Az))
    (λ(r:List An) (c:List Aq)=>((PW v N.Grid r).foldl (λa w=>CD d n a w) c).map Az) (λi c=>(D9 d c<n∧Gd d c)∧∀x∈N.Grid.Cells,x.Ref≠0→Ba d x.Ref)
    (λi c I ⟨⟨c1,Z⟩,c3⟩=>by
     left
     show ∃c',F1 d (Az v) _ N (i:Int) (c.map Az)=_∧_
     unfold F1
     rw[qy (by simpa using I),Ac I,AD,Ar (by omega)]
     obtain⟨q,q1,q2⟩:=ag _ (Bm I)
     by_cases E:N.Grid.Cells[i]!.Ref=0
     ·refine⟨c,by rw[q7 E];rfl,⟨⟨c1,Z⟩,c3⟩,?_⟩
      rw[Wq,qy E,sO]
     ·have a2:G7 v N.Grid N.Grid.Cells[i]! = ⟨N.Grid.Cells[i]!.Ref,v.id,((v.visible&&(q.Row=N.Grid.Cells[i]!.Row))&&(q.Col=N.Grid.Cells[i]!.Col))⟩:=by unfold G7;rw[q1]
      obtain⟨B,s2,s3⟩:=C c (G7 v N.Grid N.Grid.Cells[i]!) (by rw[a2];exact c3 _ (Bm I) E) c1 Z
      refine⟨_,?_,⟨⟨s2,s3⟩,c3⟩,?_⟩
      ·rw[qz E,qy (by decide),q2,AD]
       rw[a2] at B
       show AB (AB (Cc n (c.map Az) d (Az ⟨N.Grid.Cells[i]!.Ref,v.id,((v.visible&&(q.Row=N.Grid.Cells[i]!.Row))&&(q.Col=N.Grid.Cells[i]!.Col))⟩)) _) _=_
       rw[B,a2];rfl
      ·rw[Wq,qx E];rfl)
    (λc _=>by
     show F1 d (Az v) _ N (N.Grid.Cells.length:Int) (c.map Az)=_
     unfold F1
     rw[qx (by simp)]
     rfl) A1 ⟨⟨b1,b2⟩,λx J E=>ab x.Ref (sn _ (by unfold ER;exact rn.2 ⟨x,sV.2 ⟨J,by simpa using E⟩,rfl⟩))⟩ ((0:Int),A1.map Az) rfl
   have an:iter (λ(a:Int × (List Ae))=>F1 d (Az v) (λm F B=>Cc n m F B) N a.1 a.2) (0,A1.map Az)=_:=w2
   rw[an,AD]
   have ao:PW v N.Grid N.Grid.Cells=JV v N:=rfl
   rw[ao]
   obtain⟨b3,b4⟩:=T (JV v N) A1 (λw V=>O w (sn _ (sh _ V))) b1 b2
   generalize (JV v N).foldl (λa w=>CD d n a w) A1=A2 at *
   obtain⟨L,X,t1,t2,t3,t4⟩:=Pv h.ids h.ok.1 h.srt U ai aa
   have aq:GV d N=L.filterMap (Eg d):=by unfold GV;rw[t1];rfl
   rw[t2,By]
   have a6:∀x id,Eg d x=some id→Ba d id:=λx id J=>by
    unfold Eg I7 at J
    cases M:B5 d.Nodes (Ec (Cw x.Attrs IQ)) with
    | none=>rw[M] at J;cases J
    | some j=>
     rw[M] at J
     simp only at J
     split at J
     ·cases J;exact⟨j,M⟩
     ·cases J
   have w3:=Im (f:=λ(a:Int × (List Ae))=>Ft d (Az v) (λm F B=>Cc n m F B) (L++X) (L.length:Int) a.1 a.2) L (λ(c:List Aq) i=>((i:Int),c.map Az))
    (λr c=>(((r.filterMap (Eg d)).map λid=>(⟨id,v.id,v.visible⟩:Aq)).foldl (λa w=>CD d n a w) c).map Az) (λi c=>D9 d c<n∧Gd d c)
    (λi c I ⟨c1,Z⟩=>by
     left
     have ar:i<(L++X).length:=by simp;omega
     have hget:(L++X)[i]=L[i]!:=by rw[List.getElem_append_left I,rN L i I]
     show ∃c',Ft d (Az v) _ (L++X) (L.length:Int) (i:Int) (c.map Az)=_∧_
     unfold Ft
     have b0:=t4 _ (Bm I)
     rw[qy (by simpa using I),Dz ar,AD,hget,Ar (by simp at t3;omega),SA _ _ (by omega),AD,ll,AD,Kp _ _ hm,AD]
     rw[show([110,111,100,101]:List UInt8)=IQ from rfl]
     cases l:Eg d L[i]! with
     | none=>
      refine⟨c,?_,⟨c1,Z⟩,by rw[uU,l]⟩
      unfold Eg I7 at l
      generalize Ec (Cw L[i]!.Attrs IQ)=id at *
      cases M:B5 d.Nodes id with
      | none=>simp[DV,AD]
      | some j=>
       rw[M] at l
       obtain⟨hj,_⟩:=EF M
       obtain⟨f1,f2⟩:=Qy h.ids M
       simp only at l ⊢
       rw[q7 (show 0<id by omega),q7 (show(0:Int)≤(j:Int) by omega)]
       simp only[uE,sE,At,rq]
       rw[Ac hj,AD]
       split at l
       ·cases l
       ·rename_i hk
        rw[qx (by simpa using hk)]
        rfl
     | some id=>
      obtain⟨B,s2,s3⟩:=C c ⟨id,v.id,v.visible⟩ (a6 _ _ l) c1 Z
      refine⟨_,?_,⟨s2,s3⟩,by rw[uU,l];rfl⟩
      unfold Eg I7 at l
      generalize Ec (Cw L[i]!.Attrs IQ)=ah at *
      cases M:B5 d.Nodes ah with
      | none=>rw[M] at l;cases l
      | some j=>
       rw[M] at l
       obtain⟨hj,_⟩:=EF M
       obtain⟨f1,f2⟩:=Qy h.ids M
       simp only at l ⊢
       rw[q7 (show 0<ah by omega),q7 (show(0:Int)≤(j:Int) by omega)]
       simp only[uE,sE,At,rq]
       rw[Ac hj,AD]
       split at l
       ·rename_i hk
        cases l
        rw[qy (by simpa using hk)]
        show AB (AB (Cc n (c.map Az) d (Az ⟨id,v.id,v.visible⟩)) _) _=_
        rw[B];rfl
       ·cases l)
    (λc _=>by
     show Ft d (Az v) _ (L++X) (L.length:Int) (L.length:Int) (c.map Az)=_
     unfold Ft
     rw[qx (by simp)]
     rfl) A2 ⟨b3,b4⟩ ((0:Int),A2.map Az) rfl
   have au:iter (λ(a:Int × (List Ae))=>Ft d (Az v) (λm F B=>Cc n m F B) (L++X) (L.length:Int) a.1 a.2) (0,A2.map Az)=_:=w3
   rw[au,AD]
   unfold GN
   rw[aq]
theorem nT:∀(n:Nat) (o:List Ae) (d:AR) (s:Ae) r,Cc n o d s=some r→Cc (n+1) o d s=some r:=by
 intro n
 induction n with
 | zero=>intro o d s r h;cases h
 | succ n U=>
  intro o d s r h
  change Jm (λj l m=>Cc n j l m) o d s=some r at h
  show Jm (λj l m=>Cc (n+1) j l m) o d s=some r
  have m1:∀(N:AO) (A:Int × List Ae) v,GG d s (λj l m=>Cc n j l m) N A.1 A.2=some v→GG d s (λj l m=>Cc (n+1) j l m) N A.1 A.2=some v:=λN A v h=>by
   unfold GG at h ⊢
   split at h
   ·rename_i C
    rw[qy C]
    obtain⟨y,B,F⟩:=BQ h
    obtain⟨x,V,I⟩:=BQ B
    rw[V,AD]
    split at I
    ·rename_i E
     rw[qy E]
     obtain⟨w,J,M⟩:=BQ I
     dsimp only
     rw[U _ _ _ _ J,AD,M,AD];exact F
    ·rename_i E
     rw[qx E,I,AD];exact F
   ·rename_i C
    rw[qx C];exact h
  have m2:∀(N:AO) (A:Int × List Ae) v,F1 d s (λj l m=>Cc n j l m) N A.1 A.2=some v→F1 d s (λj l m=>Cc (n+1) j l m) N A.1 A.2=some v:=λN A v h=>by
   unfold F1 at h ⊢
   split at h
   ·rename_i C
    rw[qy C]
    obtain⟨y,B,F⟩:=BQ h
    obtain⟨x,V,I⟩:=BQ B
    rw[V,AD]
    split at I
    ·rename_i E
     rw[qy E]
     obtain⟨q,h7,h8⟩:=BQ I
     obtain⟨w,J,M⟩:=BQ h8
     rw[h7,AD]
     dsimp only
     rw[U _ _ _ _ J,AD,M,AD];exact F
    ·rename_i E
     rw[qx E,I,AD];exact F
   ·rename_i C
    rw[qx C];exact h
  have m3:∀(X:List AC) (Z:Int) (A:Int × List Ae) v,Ft d s (λj l m=>Cc n j l m) X Z A.1 A.2=some v→Ft d s (λj l m=>Cc (n+1) j l m) X Z A.1 A.2=some v:=λX Z A v h=>by
   unfold Ft at h ⊢
   split at h
   ·rename_i C
    rw[qy C]
    obtain⟨y,B,F⟩:=BQ h
    obtain⟨x1,a1,B⟩:=BQ B
    obtain⟨x2,a2,B⟩:=BQ B
    obtain⟨x3,a3,B⟩:=BQ B
    obtain⟨T,a4,B⟩:=BQ B
    obtain⟨x5,a5,B⟩:=BQ B
    rw[a1,AD,a2,AD,a3,AD,a4,AD,a5,AD]
    split at B
    ·rename_i E
     rw[qy E]
     obtain⟨w,J,M⟩:=BQ B
     dsimp only
     rw[U _ _ _ _ J,AD,M,AD];exact F
    ·rename_i E
     rw[qx E,B,AD];exact F
   ·rename_i C
    rw[qx C];exact h
  unfold Jm at h ⊢
  obtain⟨x1,a1,h⟩:=BQ h
  rw[a1,AD]
  split at h
  ·rename_i C
   rw[qy C];exact h
  ·rename_i C
   rw[qx C]
   obtain⟨x2,a2,h⟩:=BQ h
   obtain⟨x3,a3,h⟩:=BQ h
   obtain⟨T,a4,h⟩:=BQ h
   obtain⟨x5,a5,h⟩:=BQ h
   obtain⟨x6,a6,h⟩:=BQ h
   rw[a2,AD,a3,AD,a4,AD,Ik (g:=λ(a:Int × (List Ae))=>GG d s (λj l m=>Cc (n+1) j l m) T a.1 a.2) (λs v O=>m1 _ s v O) a5,AD,
    Ik (g:=λ(a:Int × (List Ae))=>F1 d s (λj l m=>Cc (n+1) j l m) T a.1 a.2) (λs v O=>m2 _ s v O) a6,AD]
   cases hI:Iv T.Draw with
   | none=>rw[hI] at h;cases h
   | some p=>
    rw[hI,By] at h
    rw[By]
    obtain⟨x7,a7,h⟩:=BQ h
    rw[Ik (g:=λ(a:Int × (List Ae))=>Ft d s (λj l m=>Cc (n+1) j l m) p.1 p.2 a.1 a.2) (λs v O=>m3 _ _ s v O) a7,AD]
    exact h
theorem iX{d:AR}(h:Bt d):Nh d=some ((Bp d).map Az):=by
 have j:=dT h (d.Nodes.length+1) [] ⟨1,0,true⟩ (S7 h) (Vi d) ⟨List.Pairwise.nil,λw l=>by cases l⟩
 unfold Nh P3
 rw[Lb (N:=λn=>Cc n [] d ⟨1,0,true⟩) (λn r m=>nT n _ _ _ r m) j,AD]
 rfl
theorem SP{d}(h:Bt d):Gd d (Bp d):=(Vh h _ [] _ (S7 h) ⟨List.Pairwise.nil,λw j=>by cases j⟩).1
end Go.Proofs.YtifgmfoihehlbaaGreatDoor.Al

set_option linter.unusedVariables false
set_option linter.unusedSimpArgs false
namespace Go.Proofs.YtifgmfoihehlbaaGreatDoor.Al
open Go
theorem dE{d}(h:Id d):PY d=some d:=by
 obtain⟨l⟩:=d
 obtain⟨C,A⟩:=h
 dsimp only at C A
 unfold PY
 have w:mk 152 (l.length:Int) (AO.mk 0 0 [] [] (Av.mk 0 0 [] []) [])=some (List.replicate l.length (AO.mk 0 0 [] [] (Av.mk 0 0 [] []) [])):=by
  unfold mk
  rw[qy ⟨by omega,by omega,by omega⟩,sf]
 dsimp only
 rw[w,AD]
 have key:∀j k,k+j=l.length→iter (λ(a:Int × AR)=>Ii ⟨l⟩ a.1 a.2) ((k:Int),⟨l.take k++List.replicate j (AO.mk 0 0 [] [] (Av.mk 0 0 [] []) [])⟩)=some ⟨l⟩:=by
  intro j
  induction j with
  | zero=>
   intro k E
   refine BJ ?_
   show Ii ⟨l⟩ (k:Int) _=_
   unfold Ii
   rw[qx (by simp;omega),th (by omega)]
   simp
  | succ j F=>
   intro k E
   have m:k<l.length:=by omega
   rw[BW (s':=(((k+1:Nat):Int),⟨l.take (k+1)++List.replicate j (AO.mk 0 0 [] [] (Av.mk 0 0 [] []) [])⟩)) (by
    show Ii ⟨l⟩ (k:Int) _=_
    unfold Ii
    have B:(l.take k++List.replicate (j+1) (AO.mk 0 0 [] [] (Av.mk 0 0 [] []) [])).length=l.length:=by simp;omega
    dsimp only
    rw[qy (by simpa using m),Ac m,AD,cO _ (A _ (Bm m)).ok,AD,Ac (by omega),AD,Ar (by omega),AD,sf]
    congr 4
    rw[O6 m,sJ,uO _ _ (by simp;omega),sb,Nat.min_eq_left (by omega),ur]
    rfl)]
   exact F (k+1) (by omega)
 have:=key l.length 0 (by omega)
 rw[List.take_zero,sO] at this
 have q:iter (λ(a:Int × AR)=>Ii ⟨l⟩ a.1 a.2) (0,⟨List.replicate l.length (AO.mk 0 0 [] [] (Av.mk 0 0 [] []) [])⟩)=_:=this
 rw[q,AD]
end Go.Proofs.YtifgmfoihehlbaaGreatDoor.Al

set_option linter.unusedVariables false
set_option linter.unusedSimpArgs false
namespace Go.Proofs.YtifgmfoihehlbaaGreatDoor.Al
open Go
def I6(l:List Aq):Prop:=∀(j:Nat) (v:Aq),l[j]?=some v→v.parent=0∨∃(i:Nat) (u:Aq),i<j∧l[i]?=some u∧u.id=v.parent
theorem I6.snoc{l:List Aq}(h:I6 l){v:Aq}(m:v.parent=0∨Bv l v.parent=true):I6 (l++[v]):=by
 intro j w q
 by_cases C:j<l.length
 ·rw[rQ C] at q
  rcases h j w q with A | ⟨i,u,A,E,F⟩
  ·exact .inl A
  ·exact .inr ⟨i,u,A,by rw[rQ (by omega)];exact E,F⟩
 ·have:j=l.length:=by have:=(rC.1 q).1;simp at this;omega
  subst this
  rw[rR (q9 _)] at q
  simp at q
  subst q
  rcases m with m | m
  ·exact .inl m
  ·unfold Bv at m
   rw[sj] at m
   obtain⟨u,I,e⟩:=m
   obtain⟨i,B,rfl⟩:=sA.1 I
   exact .inr ⟨i,l[i],B,by rw[rQ B,rA B],by simpa using e⟩
theorem cX d(v:Aq) n:∀w∈kids d v n,w.parent=v.id∨w.parent=0:=by
 intro w l
 unfold kids at l
 rcases sU.1 l with l | l
 ·unfold K1 at l
  obtain⟨j,m,rfl⟩:=rn.1 l
  exact .inl rfl
 ·rcases sU.1 l with l | l
  ·unfold JV at l
   obtain⟨c,q,rfl⟩:=rn.1 l
   unfold G7
   split
   ·exact .inl rfl
   ·exact .inr rfl
  ·unfold GN at l
   obtain⟨j,m,rfl⟩:=rn.1 l
   exact .inl rfl
theorem Pw d n j(v:Aq):CD d (n+1) j v=if Bv j v.id=true then j else(kids d v (AJ d v.id)).foldl (λa w=>CD d n a w) (j++[v]):=rfl
theorem cG(d:AR):∀(n:Nat) (j:List Aq) (v:Aq),I6 j→(v.parent=0∨Bv j v.parent=true)→I6 (CD d n j v)∧∀i,Bv j i=true→Bv (CD d n j v) i=true:=by
 intro n
 induction n with
 | zero=>intro j v h _;exact⟨h,λ_ h=>h⟩
 | succ n E=>
  intro j v h F
  rw[Pw]
  split
  ·exact⟨h,λ_ h=>h⟩
  ·have key:∀(ks a:List Aq),(∀w∈ks,w.parent=v.id∨w.parent=0)→I6 a→Bv a v.id=true→I6 (ks.foldl (λa w=>CD d n a w) a)∧∀i,Bv a i=true→Bv (ks.foldl (λa w=>CD d n a w) a) i=true:=by
    intro ks
    induction ks with
    | nil=>intro a _ m _;exact⟨m,λ_ h=>h⟩
    | cons w ks I=>
     intro a B m C
     obtain⟨q,l⟩:=E a w m ((B w (rT ..)).elim (λe=>.inr (by rw[e];exact C)) .inl)
     obtain⟨J,M⟩:=I (CD d n a w) (λu O=>B u (rO _ O)) q (l _ C)
     exact⟨J,λi A=>M i (l i A)⟩
   obtain⟨q,l⟩:=key (kids d v (AJ d v.id)) (j++[v]) (cX d v _) (h.snoc F) (by rw[LX];simp[Bv])
   exact⟨q,λi A=>l i (by rw[LX,A];rfl)⟩
theorem gz d:I6 (Bp d):=(cG d _ [] ⟨1,0,true⟩ (λj v h=>by simp at h) (.inl rfl)).1
def Gn(v:Aq):Int × Int:=(v.id,v.parent)
noncomputable def CV(d:AR):List (Int × Int):=(Bp d).map Gn
noncomputable def BU(d:AR)(x:Int):Int:=(AU (CV d) x).getD 0
def rk(l:List Aq)(x:Int):Nat:=l.findIdx λv=>decide (v.id=x)
theorem Xd(w:Aq) r x:rk (w::r) x=if w.id=x then 0 else rk r x+1:=by
 unfold rk
 rw[List.findIdx_cons]
 by_cases h:w.id=x<;>simp[h]
theorem nR:∀(l:List Aq) (x p:Int),AU (l.map Gn) x=some p→∃v,l[rk l x]?=some v∧v.id=x∧v.parent=p:=by
 intro l
 induction l with
 | nil=>intro x p h;cases h
 | cons w r m=>
  intro x p h
  rw[rc] at h
  unfold AU at h
  rw[show(Gn w).1=w.id from rfl,show(Gn w).2=w.parent from rfl] at h
  rw[Xd]
  by_cases j:x=w.id
  ·rw[qy j] at h
   rw[qy j.symm]
   exact⟨w,rfl,j.symm,rW h⟩
  ·rw[qx j] at h
   rw[qx λe=>j e.symm]
   obtain⟨v,q,A⟩:=m x p h
   exact⟨v,by simpa using q,A⟩
theorem nl:∀(l:List Aq) (i:Nat) (u:Aq),l[i]?=some u→rk l u.id≤i:=by
 intro l
 induction l with
 | nil=>intro i u h;simp at h
 | cons w r m=>
  intro i u h
  rw[Xd]
  split
  ·omega
  ·rename_i j
   cases i with
   | zero=>simp at h;subst h;exact absurd rfl j
   | succ i=>have:=m i u (by simpa using h);omega
theorem Yd(d:AR)(hg:Bt d)(x:Int):rk (Bp d) x≤d.Nodes.length:=rM List.findIdx_le_length (SP hg).len
theorem lB{d}{x}(h:BU d x≠0):rk (Bp d) (BU d x)<rk (Bp d) x:=by
 cases j:AU (CV d) x with
 | none=>exact absurd (by unfold BU;rw[j];rfl) h
 | some p=>
  have hp:BU d x=p:=by unfold BU;rw[j];rfl
  rw[hp] at h ⊢
  obtain⟨v,m,A,l⟩:=nR _ x p j
  rcases gz d _ v m with e | ⟨i,u,B,q,w⟩
  ·exact absurd (l.symm.trans e) h
  ·have:=nl _ i u q
   rw[w,l] at this
   omega
theorem ek:∀(l:List Aq) (x:Int) (k:Nat),k<l.length→l[k]!.id=x→(∀j,j<k→l[j]!.id≠x)→AU (l.map Gn) x=some l[k]!.parent:=by
 intro l
 induction l with
 | nil=>intro x k m;simp at m
 | cons w r C=>
  intro x k m q B
  rw[rc]
  unfold AU
  cases k with
  | zero=>
   have A:w.id=x:=q
   rw[qy (show x=(Gn w).1 from A.symm)];rfl
  | succ k=>
   have E:w.id≠x:=B 0 (by omega)
   rw[qx (show ¬ x=(Gn w).1 from λe=>E e.symm)]
   have e:∀j,(w::r)[j+1]! = r[j]!:=λj=>by simp
   rw[e] at q ⊢
   exact C x k (by simpa using m) q λj F=>by have:=B (j+1) (by omega);rwa [e] at this
theorem lR:∀(l:List Aq) (x:Int),(∀v∈l,v.id≠x)→AU (l.map Gn) x=none:=by
 intro l
 induction l with
 | nil=>intro x _;rfl
 | cons w r j=>
  intro x h
  rw[rc]
  unfold AU
  rw[qx (show ¬ x=(Gn w).1 from λe=>h w (rT ..) e.symm)]
  exact j x λv m=>h v (rO _ m)
theorem gm{α:Type} : ∀(m:List (Int × α)) (k:Int),(∀p∈m,p.1≠k)→Ak m k=none:=by
 intro m
 induction m with
 | nil=>intro k _;rfl
 | cons p r j=>
  intro k h
  unfold Ak
  rw[qx λe=>h p (rT ..) e.symm,j k λq l=>h q (rO _ l)];rfl
theorem Z4:∀(l:List Aq) (o:List (Int × Int)),(∀v∈l,∀p∈o,p.1≠v.id)→(l.Pairwise λa b=>a.id≠b.id)→Ed (λs=>m2 (Hw s)) (l.map GQ) o=some (o++l.map Gn):=by
 intro l
 induction l with
 | nil=>intro o _ _;simp[Ed]
 | cons v l B=>
  intro o q j
  rw[tP] at j
  have m:m2 (Hw o) (GQ v)=some (o++[Gn v]):=by
   show Hw o v.id v.parent=_
   unfold Hw
   rw[(Eu (gm o v.id λp hp=>q v (rT ..) p hp)).2];rfl
  simp only[rc,Ed]
  rw[m,rt,B _ (λw A p hp=>by
   rcases sU.1 hp with hp | hp
   ·exact q w (rO _ A) p hp
   ·simp at hp;subst hp;exact j.1 w A) j.2]
  simp
theorem hU{d}(hg:Bt d):rng2 (λA=>H0 A [] d) (λ(a:(List (Int × Int)))=>Hw a) []=some (CV d):=
 l9 hg (λ(a:(List (Int × Int)))=>Hw a) [] (by rw[Z4 (Bp d) [] (λv _ p hp=>by cases hp) (SP hg).1];rfl)
theorem pb(l:List Aq) id(O:l.length≤1048576):(∃k,k<l.length∧l[k]!.id=id∧Dx (l.map Az) id=some (k:Int)∧∀j,j<k→l[j]!.id≠id)∨(Dx (l.map Az) id=some (-1)∧∀v∈l,v.id≠id):=by
 unfold Dx
 have h:=B2 (f:=λ(a:Int)=>H8 (l.map Az) id a) (n:=l.length) (λk=>if l[k]!.id=id then some (k:Int) else none) (λk m=>by
  have C:k<(l.map Az).length:=by simpa using m
  unfold H8
  rw[qy (by simpa using m),Dz C,AD,ta]
  show(if decide ((Az l[k]).ID=id)=true then _ else _)=_
  rw[rN l k m]
  by_cases h:l[k].id=id
  ·rw[qy (by rw[q8];exact h),qy h];rfl
  ·rw[qx (by rw[q8];exact h),qx h,Ar (by omega)];rfl) (by unfold H8;rw[qx (by simp)])
 rw[h]
 cases A:(List.range l.length).findSome? λ(k:Nat)=>if l[k]!.id=id then some (k:Int) else none with
 | none=>
  refine .inr ⟨rfl,λv I e=>?_⟩
  rw[sH] at A
  obtain⟨k,m,rfl⟩:=sA.1 I
  have:=A k (rV.2 m)
  rw[rN l k m,qy e] at this
  cases this
 | some r=>
  rw[List.findSome?_eq_some_iff] at A
  obtain⟨B,k,T,E,F,J⟩:=A
  have m:B.length=k∧k<l.length:=by
   have w:B.length<(List.range l.length).length:=by rw[E];simp
   have q:(List.range l.length)[B.length]?=some k:=by rw[E];simp
   rw[tN (by simpa using w)] at q
   have q:=rW q
   exact⟨q,by rw[← q];simpa using w⟩
  split at F
  ·rename_i A3
   cases F
   refine .inl ⟨k,m.2,A3,rfl,λj U e=>?_⟩
   have M:j∈B:=by
    have q:(List.range l.length)[j]?=some j:=tN (by omega)
    rw[E,rQ (by omega)] at q
    exact rX q
   have:=J j M
   rw[qy e] at this
   cases this
  ·cases F
theorem Vg{d}(hg:Bt d) x:∃r:Int,Dx ((Bp d).map Az) x=some r∧((r<0∧BU d x=0)∨∃s,0≤r∧AL ((Bp d).map Az) r=some s∧s.Parent=BU d x):=by
 have m:(Bp d).length≤1048576:=rM (SP hg).len hg.ok.1
 rcases pb (Bp d) x m with ⟨k,j,l,q,w⟩ | ⟨j,l⟩
 ·refine⟨k,q,.inr ⟨Az (Bp d)[k],by omega,?_,?_⟩⟩
  ·rw[Dz (by simpa using j),ta]
  ·unfold BU CV
   rw[ek _ x k j l w,rN _ k j];rfl
 ·exact⟨-1,j,.inl ⟨by decide,by unfold BU CV;rw[lR _ x l];rfl⟩⟩
end Go.Proofs.YtifgmfoihehlbaaGreatDoor.Al

set_option linter.unusedVariables false
set_option linter.unusedSimpArgs false
namespace Go.Proofs.YtifgmfoihehlbaaGreatDoor.Al
open Go
def EO(f:List AN):List Nat:=(List.range f.length).filter (seen f 0)
theorem U6(f:List AN):shown f 0 f.length=(EO f).map λ(i:Nat)=>(i:Int):=rfl
theorem Ta{f:List AN}{i}(h:i∈EO f):i<f.length:=rV.1 (sV.1 h).1
theorem lW f:(EO f).Pairwise (· < ·):=List.Pairwise.filter _ List.pairwise_lt_range
def Kx(f:List AN)(i:Nat):Bool:=(List.range i).all λj=>!(f[j]!.Ref=f[i]!.Ref)
noncomputable def E2(d:AR)(n:AO)(i:Nat):Bool:=!(n.Flow[i]!.Ref=0)&&(BU d n.Flow[i]!.Ref=n.ID)&&Kx n.Flow i
def Ht(l:List An)(k:Nat):Bool:=(List.range k).all λj=>!(l[j]!.Ref=l[k]!.Ref)
noncomputable def Ol(g:Av)(c:An):Bool:=match F9 g c.Row c.Col with | some r=>(r.Row=c.Row)&&(r.Col=c.Col) | none=>false
noncomputable def Fv(d:AR)(n:AO)(k:Nat):Bool:=!(n.Grid.Cells[k]!.Ref=0)&&(BU d n.Grid.Cells[k]!.Ref=n.ID)&&Ht n.Grid.Cells k&&Ol n.Grid n.Grid.Cells[k]!
noncomputable def lG(d:AR)(self:Int→List Int)(n:AO)(r:List Nat):List Int:=r.flatMap λk=>if Fv d n k=true then n.Grid.Cells[k]!.Ref::self n.Grid.Cells[k]!.Ref else []
noncomputable def FR(d:AR)(self:Int→List Int)(n:AO):List Int:=if n.Kind=2 then lG d self n (List.range n.Grid.Cells.length) else []
noncomputable def gQ(d:AR)(self:Int→List Int)(n:AO)(r:List Nat):List Int:=r.flatMap λi=>if E2 d n i=true then n.Flow[i]!.Ref::FR d self (AJ d n.Flow[i]!.Ref) else []
noncomputable def BN(d:AR):Nat→Int→List Int
 | 0,_=>[]
 | n+1,id=>gQ d (BN d n) (AJ d id) (EO (AJ d id).Flow)
def R6:List UInt8:=[107,105,110,100]
def Tz:List UInt8:=[101,110,100]
def Ew(d:AR)(s:(Int × Int) × List AP)(id:Int):(Int × Int) × List AP:=
 let n:=AJ d id
 if n.Kind=4 then(if Cw n.Attrs R6=Tz then((s.1.1,s.1.2+1),s.2++[⟨n.ID,s.1.2+1,true⟩]) else((s.1.1+1,s.1.2),s.2++[⟨n.ID,s.1.1+1,false⟩])) else s
def DH(d:AR)(l:List Int)(s:(Int × Int) × List AP):(Int × Int) × List AP:=l.foldl (Ew d) s
theorem W4 d a b(s:(Int × Int) × List AP):DH d (a++b) s=DH d b (DH d a s):=uB ..
theorem fq d a b(s:(Int × Int) × List AP):DH d (a::b) s=DH d b (Ew d s a):=rfl
def GB(s:(Int × Int) × List AP)(m:Nat):Prop:=s.2.length≤m∧0≤s.1.1∧s.1.1≤m∧0≤s.1.2∧s.1.2≤m
theorem RO{d}{s}{m}(h:GB s m)(id:Int):GB (Ew d s id) (m+1):=by
 obtain⟨j,l,q,w,A⟩:=h
 unfold Ew GB
 dsimp only
 split
 ·split<;>exact⟨by simp;omega,by dsimp only;omega,by dsimp only;omega,by dsimp only;omega,by dsimp only;omega⟩
 ·exact⟨by omega,by omega,by omega,by omega,by omega⟩
theorem Tk{d} : ∀(l:List Int) {s:(Int × Int) × List AP} {m:Nat},GB s m→GB (DH d l s) (m+l.length):=by
 intro l
 induction l with
 | nil=>intro s m h;exact h
 | cons a l j=>intro s m h;rw[fq];have:=j (RO (d:=d) h a);rw[rp,show m+(l.length+1)=m+1+l.length by omega];exact this
theorem Xn{d}(hg:Bt d){id}(j:Ba d id):(AJ d id).Attrs.length≤1073741824:=by
 obtain⟨l,_⟩:=hg.node j
 have:=l.ok.at_.1
 omega
theorem Xy{d}(hg:Bt d){id}(q:Ba d id){c}{o}{m}(h:GB (c,o) m)(F:m≤1048576):JG c o (AJ d id)=some (Ew d (c,o) id):=by
 obtain⟨w,A,B,C,E⟩:=h
 have I:=Xn hg q
 unfold JG Ew
 dsimp only at w A B C E ⊢
 by_cases j:(AJ d id).Kind=4
 ·rw[qx (by simpa using j),qy j,N4 _ _ (by omega),AD]
  by_cases l:Cw (AJ d id).Attrs R6=Tz
  ·rw[qy (by rw[q8];exact l),qy l,Mf (by omega) (by omega),AD,P0 (by omega),AD]
   rfl
  ·rw[qx (by rw[q8];exact l),qx l,Mf (by omega) (by omega),AD,P0 (by omega),AD]
   rfl
 ·rw[qy (by simpa using j),qx j]
end Go.Proofs.YtifgmfoihehlbaaGreatDoor.Al

set_option linter.unusedVariables false
set_option linter.unusedSimpArgs false
namespace Go.Proofs.YtifgmfoihehlbaaGreatDoor.Al
open Go
def un(d:AR)(m:List (Int × Bool)):Nat:=d.Nodes.countP λn=>!BF m n.ID
theorem Wr{d:AR}{m}{x}(l:Ba d x)(q:BF m x=false):un d (Ah m x true)<un d m:=by
 obtain⟨k,w⟩:=l
 obtain⟨A,j⟩:=EF w
 refine UN (z:=d.Nodes[k]!) (λy _ h=>?_) (Bm A) ?_ ?_
 ·rw[J8] at h
  cases B:BF m y.ID
  ·rfl
  ·rw[B] at h;simp at h
 ·simp only[j,q];rfl
 ·simp only[j,J8];simp
theorem Oi{d}{x}(l:Ba d x):(AJ d x).ID=x:=by
 obtain⟨k,j⟩:=l
 rw[Ke j]
 exact(EF j).2
theorem QM{d}(hg:Bt d){x}(j:Ba d x):1≤x:=by
 obtain⟨_,_,l,_⟩:=hg.node j
 have:=(XF l).1
 rwa [Oi j] at this
noncomputable def EI(d:AR)(x:Int):Nat:=rk (Bp d) x
structure Gg(d:AR)(start id:Int)(m:List (Int × Bool)):Prop where
 J:∀x,BF m x=true→BU d x=start∨BF m (BU d x)=true
 me:id=start∨BF m id=true
 sr:EI d start≤EI d id
 fr:∀x,BF m x=true→BU d x≠id
structure CW(d:AR)(start id:Int)(m m':List (Int × Bool)):Prop where
 mono:∀x,BF m x=true→BF m' x=true
 nw:∀x,BF m' x=true→BF m x=true∨EI d id≤EI d (BU d x)
 J:∀x,BF m' x=true→BU d x=start∨BF m' (BU d x)=true
theorem CW.refl{d}{start id}{m}(h:Gg d start id m):CW d start id m m:=⟨λ_ h=>h,λ_ h=>.inl h,h.J⟩
theorem LA{d}{id x}(A3:1≤id)(j:BU d x=id):EI d id<EI d x:=by
 have:=lB (d:=d) (x:=x) (by omega)
 rwa [j] at this
theorem Gj{m}{x y} : BF (Ah m x true) y=true↔y=x∨BF m y=true:=by
 rw[J8];simp
theorem CW.mark{d}{start id x}{l m}(hp:Gg d start id l)(h:CW d start id l m)(q:BU d x=id):CW d start id l (Ah m x true):=by
 refine⟨λy j=>Gj.2 (.inr (h.mono y j)),λy j=>?_,λy j=>?_⟩
 ·rcases Gj.1 j with rfl | j
  ·exact .inr (by rw[q];exact q9 _)
  ·exact h.nw y j
 ·rcases Gj.1 j with rfl | j
  ·rw[q]
   exact hp.me.imp _root_.id λe=>Gj.2 (.inr (h.mono _ e))
  ·exact(h.J y j).imp _root_.id λe=>Gj.2 (.inr e)
theorem CW.child{d}{start id x}{A m}(hp:Gg d start id A)(h:CW d start id A m)(A3:1≤id)(q:BU d x=id)(B:BF m x=false):Gg d start x (Ah m x true):=by
 have j:=LA A3 q
 refine⟨(h.mark hp q).J,.inr (Gj.2 (.inl rfl)),ut (uc hp.sr j),λy w e=>?_⟩
 rcases Gj.1 w with rfl | w
 ·rw[q] at e
  rw[e] at j
  exact Nat.lt_irrefl _ j
 ·rcases h.J y w with l | l
  ·have:x=start:=e.symm.trans l
   rw[this] at j
   exact Nat.lt_irrefl _ (uc hp.sr j)
  ·rw[e,B] at l;cases l
theorem CW.sub{d}{start id x}{j m w}(hp:Gg d start id j)(h:CW d start id j m)(A3:1≤id)(A:BU d x=id)(l:CW d start x (Ah m x true) w):CW d start id j w:=by
 have C:=LA A3 A
 have B:=h.mark hp A
 refine⟨λy q=>l.mono y (B.mono y q),λy q=>?_,l.J⟩
 rcases l.nw y q with e | e
 ·exact B.nw y e
 ·exact .inr (rM (ut C) e)
theorem CW.own{d}{start id x}{m j}(A3:1≤id)(l:BU d x=id)(q:CW d start x (Ah m x true) j){y}(w:BF j y=true)(hp:BU d y=id):y=x∨BF m y=true:=by
 have A:=LA A3 l
 rcases q.nw y w with e | e
 ·exact Gj.1 e
 ·rw[hp] at e
  exact absurd A (Nat.not_lt.2 e)
end Go.Proofs.YtifgmfoihehlbaaGreatDoor.Al

set_option linter.unusedVariables false
set_option linter.unusedSimpArgs false
namespace Go.Proofs.YtifgmfoihehlbaaGreatDoor.Al
open Go
def MI(d:AR)(start:Int)(n:Nat):Prop:=∀(id:Int) (m:List (Int × Bool)) (s:(Int × Int) × List AP) (M:Nat),Ba d id→d.Nodes.length<n+EI d id→Gg d start id m→GB s M→M+un d m≤d.Nodes.length →
 ∃j,Ca n ⟨d⟩ (CV d) m s.1 s.2 (AJ d id)=some (j,DH d (BN d n id) s)∧CW d start id m j∧(BN d n id).length+un d j≤un d m
noncomputable def cellO(d:AR)(self:Int→List Int)(n:AO)(k:Nat):List Int:=if Fv d n k=true then n.Grid.Cells[k]!.Ref::self n.Grid.Cells[k]!.Ref else []
theorem X9 d x:(AU (CV d) x).getD 0=BU d x:=rfl
theorem Wa{d:AR}(hg:Bt d){x}(m:Ba d x):∃k:Int,HE d x=some k∧AL d.Nodes k=some (AJ d x):=by
 obtain⟨k,j⟩:=m
 obtain⟨l,_⟩:=EF j
 exact⟨k,by rw[UG _ hg.ok.1 hg.srt,j],by rw[Ke j];exact Ac l⟩
theorem dM{d:AR}(hg:Bt d){start}{n}(IH:MI d start n){id}(hi:Ba d id)(hf:d.Nodes.length<n+EI d id){m0 m}(hp:Gg d start id m0)(hm:CW d start id m0 m)
 {k} (hk:k<(AJ d id).Grid.Cells.length) (c1:∀x, BF m x=true→BU d x=id→∃j, j<k∧(AJ d id).Grid.Cells[j]!.Ref=x)
 (c2:∀j, j<k→(AJ d id).Grid.Cells[j]!.Ref≠0→BU d (AJ d id).Grid.Cells[j]!.Ref=id→BF m (AJ d id).Grid.Cells[j]!.Ref=true)
 {s} {M} (hs:GB s M) (hM:M+un d m≤d.Nodes.length) (ab:k≤1073741824) :
    ∃A, F2 ⟨d⟩ (CV d) (AJ d id) (Ca n) k m s.1 s.2=some (.inl (((k+1:Nat):Int), A, DH d (cellO d (BN d n) (AJ d id) k) s))∧CW d start id m0 A ∧
      (cellO d (BN d n) (AJ d id) k).length+un d A≤un d m∧(∀x, BF A x=true→BU d x=id→∃j, j<k+1∧(AJ d id).Grid.Cells[j]!.Ref=x) ∧
      (∀j, j<k+1→(AJ d id).Grid.Cells[j]!.Ref≠0→BU d (AJ d id).Grid.Cells[j]!.Ref=id→BF A (AJ d id).Grid.Cells[j]!.Ref=true) := by
  have A3 := QM hg hi
  have Z := Oi hi
  obtain⟨n1, n2, n3, n4, _⟩ := hg.node hi
  have T:(AJ d id).Grid.Cells[k]! ∈ (AJ d id).Grid.Cells := Bm hk
  obtain⟨r, hr, _⟩ := OZ n1 n3 _ T
  have a1:AL (AJ d id).Grid.Cells (k:Int)=some (AJ d id).Grid.Cells[k]! := Ac hk
  have U:Ol (AJ d id).Grid (AJ d id).Grid.Cells[k]! = ((r.Row=(AJ d id).Grid.Cells[k]!.Row)&&(r.Col=(AJ d id).Grid.Cells[k]!.Col)) := by unfold Ol;rw[hr]
  generalize l:(AJ d id).Grid.Cells[k]! = c at *
  have skip:Fv d (AJ d id) k=false→∀A, CW d start id m0 A→un d A≤un d m→(∀x, BF A x=true→BU d x=id→∃j, j<k+1∧(AJ d id).Grid.Cells[j]!.Ref=x) →
      (∀j, j<k+1→(AJ d id).Grid.Cells[j]!.Ref≠0→BU d (AJ d id).Grid.Cells[j]!.Ref=id→BF A (AJ d id).Grid.Cells[j]!.Ref=true) →
      F2 ⟨d⟩ (CV d) (AJ d id) (Ca n) k m s.1 s.2=some (.inl (((k+1:Nat):Int), A, s)) →
      ∃A, F2 ⟨d⟩ (CV d) (AJ d id) (Ca n) k m s.1 s.2=some (.inl (((k+1:Nat):Int), A, DH d (cellO d (BN d n) (AJ d id) k) s))∧CW d start id m0 A ∧
      (cellO d (BN d n) (AJ d id) k).length+un d A≤un d m∧(∀x, BF A x=true→BU d x=id→∃j, j<k+1∧(AJ d id).Grid.Cells[j]!.Ref=x) ∧
      (∀j, j<k+1→(AJ d id).Grid.Cells[j]!.Ref≠0→BU d (AJ d id).Grid.Cells[j]!.Ref=id→BF A (AJ d id).Grid.Cells[j]!.Ref=true) := by
    intro a0 A B C F h4 h5
    have e:cellO d (BN d n) (AJ d id) k=[] := by unfold cellO;rw[a0];rfl
    rw[e]
    exact⟨A, h5, B, by simpa using C, F, h4⟩
  have J:∀x, BF m x=true→BU d x=id→∃j, j<k+1∧(AJ d id).Grid.Cells[j]!.Ref=x := λx B C => by
    obtain⟨j, F, h4⟩ := c1 x B C
    exact⟨j, by omega, h4⟩
  have w:∀A s', (CK (
      AB (AL (AJ d id).Grid.Cells (k:Int)) λ(I:An) =>
      AB (F9 (AJ d id).Grid I.Row I.Col) λ(r1:Ap) =>
      if(((I.Ref=0)||(!(((AU (CV d) I.Ref).getD 0)=(AJ d id).ID)))||((AU m I.Ref).getD false)) then(
        some (m, s.1, s.2)
      ) else(
        if((r1.Row=I.Row)&&(r1.Col=I.Col)) then(
          AB (HE d I.Ref) λ(r2:Int) =>
          AB (AL d.Nodes r2) λ(x6:AO) =>
          CE (JG s.1 s.2 x6) λ(w2:(Int × Int)) (w3:List AP) =>
          CK (Ca n ⟨d⟩ (CV d) (Ah m I.Ref true) w2 w3 x6) λ(w4:List (Int × Bool)) (w5:(Int × Int)) (w6:List AP) =>
          some (w4, w5, w6)
        ) else(
          some ((Ah m I.Ref true), s.1, s.2)
        )
      )) λ(a:List (Int × Bool)) (b:Int × Int) (e:List AP) => some (a, b, e))=some (A, s'.1, s'.2)→F2 ⟨d⟩ (CV d) (AJ d id) (Ca n) k m s.1 s.2=some (.inl (((k+1:Nat):Int), A, s')) := by
    intro A s' h
    unfold F2
    rw[qy (by simpa using hk)]
    dsimp only at h ⊢
    revert h
    generalize (AB (AL (AJ d id).Grid.Cells (k:Int)) _:Option (List (Int × Bool) × (Int × Int) × List AP))=q
    intro h
    cases q with
    | none => cases h
    | some q =>
      obtain⟨a, b, e⟩ := q
      have h':some (a, b, e)=some (A, s'.1, s'.2) := h
      cases h'
      show AB (AZ .i64 ((k:Int)+1)) _=_
      rw[Ar (by omega), AD]
  rw[a1, AD, hr, AD] at w
  simp only[X9, Z] at w
  have a2:(AU m c.Ref).getD false=BF m c.Ref := rfl
  rw[a2] at w
  by_cases V:c.Ref=0
  · refine skip (by unfold Fv;rw[l, V];simp) m hm (q9 _) J (λj hj B C => ?_) (w m s (by rw[qy (by simp[V])];rfl))
    by_cases E:j=k
    · subst E;rw[l] at B;exact absurd V B
    · exact c2 j (by omega) B C
  by_cases B:¬ BU d c.Ref=id
  · refine skip (by unfold Fv;rw[l, Z];simp[B]) m hm (q9 _) J (λj hj F C => ?_) (w m s (by rw[qy (by simp[B])];rfl))
    by_cases E:j=k
    · subst E;rw[l] at C;exact absurd C B
    · exact c2 j (by omega) F C
  have B:BU d c.Ref=id := Decidable.not_not.1 B
  cases C:BF m c.Ref with
  | true =>
    obtain⟨j0, a7, a8⟩ := c1 _ C B
    refine skip (by
      unfold Fv Ht
      rw[l]
      have:((List.range k).all λj => !((AJ d id).Grid.Cells[j]!.Ref=c.Ref))=false := by
        rw[uj]
        exact⟨j0, rV.2 a7, by rw[q7 a8];decide⟩
      rw[this];simp) m hm (q9 _) J (λj hj F h4 => ?_) (w m s (by rw[qy (by simp[C])];rfl))
    by_cases E:j=k
    · subst E;rw[l];exact C
    · exact c2 j (by omega) F h4
  | false =>
    have hx:Ba d c.Ref := n4 c.Ref (sn _ (by
      unfold ER
      exact rn.2 ⟨c, sV.2 ⟨T, by simpa using V⟩, rfl⟩))
    have aa := Wr hx C
    have a6:Ht (AJ d id).Grid.Cells k=true := by
      unfold Ht
      rw[rZ, l]
      intro j hj
      have hj := rV.1 hj
      by_cases e:(AJ d id).Grid.Cells[j]!.Ref=c.Ref
      · have := c2 j hj (by rw[e];exact V) (by rw[e];exact B)
        rw[e, C] at this;cases this
      · rw[qz e];rfl
    have d1:∀m2, (∀x, BF m2 x=true→BU d x=id→x=c.Ref∨BF m x=true)→∀x, BF m2 x=true→BU d x=id→∃j, j<k+1∧(AJ d id).Grid.Cells[j]!.Ref=x := λm2 O x e1 X => by
      rcases O x e1 X with rfl | e3
      · exact⟨k, by omega, by rw[l]⟩
      · exact J x e3 X
    have d2:∀m2, (∀x, BF (Ah m c.Ref true) x=true→BF m2 x=true)→∀j, j<k+1→(AJ d id).Grid.Cells[j]!.Ref≠0→BU d (AJ d id).Grid.Cells[j]!.Ref=id→BF m2 (AJ d id).Grid.Cells[j]!.Ref=true := λm2 O j hj e1 X => by
      by_cases E:j=k
      · subst E;rw[l];exact O _ (Gj.2 (.inl rfl))
      · exact O _ (Gj.2 (.inr (c2 j (by omega) e1 X)))
    by_cases F:((r.Row=c.Row)&&(r.Col=c.Col))=true
    · have a0:Fv d (AJ d id) k=true := by
        unfold Fv;rw[l, Z, a6, U, F];simp[V, B]
      have e:cellO d (BN d n) (AJ d id) k=c.Ref::BN d n c.Ref := by unfold cellO;rw[a0, l];rfl
      rw[e]
      obtain⟨q, q1, q2⟩ := Wa hg hx
      have hb := hg.ok.1
      have hv := Xy hg hx (c := s.1) (o := s.2) (m := M) hs (by omega)
      obtain⟨m2, e1, X, e3⟩ := IH c.Ref (Ah m c.Ref true) (Ew d s c.Ref) (M+1) hx (by have := LA A3 B;omega) (hm.child hp A3 B C) (RO hs _) (by omega)
      refine⟨m2, ?_, hm.sub hp A3 B X, by simp only[rp];omega, d1 m2 λx e4 e5 => CW.own A3 B X e4 e5, d2 m2 X.mono⟩
      refine w m2 (DH d (c.Ref::BN d n c.Ref) s) ?_
      rw[qx (by simp[V, B, C]), qy F, q1, AD, q2, AD, hv]
      show CK (CK (Ca n ⟨d⟩ (CV d) (Ah m c.Ref true) (Ew d s c.Ref).1 (Ew d s c.Ref).2 (AJ d c.Ref)) _) _=_
      rw[e1];rfl
    · refine skip (by unfold Fv;rw[l, U];simp only[ru] at F;rw[F];simp) (Ah m c.Ref true) (hm.mark hp B) (ut aa) (d1 _ λx e1 _ => Gj.1 e1) (d2 _ λx h => h) (w (Ah m c.Ref true) s ?_)
      rw[qx (by simp[V, B, C]), qx F];rfl
end Go.Proofs.YtifgmfoihehlbaaGreatDoor.Al

set_option linter.unusedVariables false
set_option linter.unusedSimpArgs false
namespace Go.Proofs.YtifgmfoihehlbaaGreatDoor.Al
open Go
theorem R5{L k}(j:k<L):(List.range L).drop k=k::(List.range L).drop (k+1):=by
 rw[rf (by simpa using j),uX]
theorem bE{d:AR}(hg:Bt d){start}{n}(E:MI d start n){id}(F:Ba d id)(I:d.Nodes.length<n+EI d id){l}(hp:Gg d start id l)(hL:(AJ d id).Grid.Cells.length≤1073741824) :
  ∀(j k:Nat) (m:List (Int × Bool)) (s:(Int × Int) × List AP) (M:Nat),k+j=(AJ d id).Grid.Cells.length→CW d start id l m→(∀x,BF m x=true→BU d x=id→∃j,j<k∧(AJ d id).Grid.Cells[j]!.Ref=x) →
  (∀j,j<k→(AJ d id).Grid.Cells[j]!.Ref≠0→BU d (AJ d id).Grid.Cells[j]!.Ref=id→BF m (AJ d id).Grid.Cells[j]!.Ref=true)→GB s M→M+un d m≤d.Nodes.length →
  ∃q,iter (λ(a:Int × (List (Int × Bool)) × (Int × Int) × (List AP))=>F2 ⟨d⟩ (CV d) (AJ d id) (Ca n) a.1 a.2.1 a.2.2.1 a.2.2.2) ((k:Int),m,s.1,s.2) =
   some (.ext (q,DH d (((List.range (AJ d id).Grid.Cells.length).drop k).flatMap (cellO d (BN d n) (AJ d id))) s))∧CW d start id l q ∧
   (((List.range (AJ d id).Grid.Cells.length).drop k).flatMap (cellO d (BN d n) (AJ d id))).length+un d q≤un d m:=by
 intro j
 induction j with
 | zero=>
  intro k m s M w A _ _ _ _
  have w:k=(AJ d id).Grid.Cells.length:=by omega
  subst w
  refine⟨m,?_,A,by rw[rx (by simp)];simp⟩
  rw[BJ (r:=.ext (m,s.1,s.2)) (by
   show F2 ⟨d⟩ (CV d) (AJ d id) (Ca n) (((AJ d id).Grid.Cells.length:Nat):Int) m s.1 s.2=_
   unfold F2
   rw[qx (by simp)])]
  rw[rx (by simp)]
  rfl
 | succ j J=>
  intro k m s M w A c1 O B T
  obtain⟨C,U,V,e3,X,Z⟩:=dM hg E F I hp A (k:=k) (by omega) c1 O B T (by omega)
  obtain⟨m2,f1,f2,f3⟩:=J (k+1) C (DH d (cellO d (BN d n) (AJ d id) k) s) (M+(cellO d (BN d n) (AJ d id) k).length) (by omega) V X Z (Tk _ B) (by omega)
  refine⟨m2,?_,f2,?_⟩
  ·rw[BW (s':=(((k+1:Nat):Int),C,DH d (cellO d (BN d n) (AJ d id) k) s)) U]
   rw[R5 (by omega),sC,W4]
   exact f1
  ·rw[R5 (by omega),sC,rj]
   omega
theorem fV{d:AR}(hg:Bt d){start}{n}(B:MI d start n){id}(A:Ba d id)(C:d.Nodes.length<n+EI d id){m}(hp:Gg d start id m){s}{M}(E:GB s M)(F:M+un d m≤d.Nodes.length) :
  ∃q,Ha (Ca n) ⟨d⟩ (CV d) m s.1 s.2 (AJ d id)=some (q,DH d (FR d (BN d n) (AJ d id)) s)∧CW d start id m q∧(FR d (BN d n) (AJ d id)).length+un d q≤un d m:=by
 unfold Ha FR
 by_cases l:(AJ d id).Kind=2
 ·obtain⟨I,_⟩:=hg.node A
  have J:(AJ d id).Grid.Cells.length≤1073741824:=by have:=I.ok.gr.1;omega
  obtain⟨q,O,T,U⟩:=bE hg B A C hp J (AJ d id).Grid.Cells.length 0 m s M (by omega) (CW.refl hp) (λx V X=>absurd X (hp.fr x V)) (λj Z=>by omega) E F
  refine⟨q,?_,T,by rw[qy l];exact U⟩
  rw[qx (by simpa using l),qy l]
  have w:iter (λ(a:Int × (List (Int × Bool)) × (Int × Int) × (List AP))=>F2 ⟨d⟩ (CV d) (AJ d id) (Ca n) a.1 a.2.1 a.2.2.1 a.2.2.2) (0,m,s.1,s.2)=_:=O
  rw[w,GK]
  rfl
 ·refine⟨m,?_,CW.refl hp,by rw[qx l];simp⟩
  rw[qy (by simpa using l),qx l]
  rfl
theorem ep r(f:List AN):∀p,p≤f.length→(f.take p).foldl (λb x=>b&&!(x.Ref=r)) true=(List.range p).all λj=>!(f[j]!.Ref=r):=by
 intro p
 induction p with
 | zero=>intro _;rfl
 | succ p l=>
  intro hp
  rw[List.take_succ_eq_append_getElem (by omega),uB,l (by omega),tx,List.all_append]
  have e:f[p]! = f[p]:=rN f p (by omega)
  simp only[sZ,List.foldl_nil,te,List.all_nil,uF,e]
theorem lc(x:AN)(l:List AN)(m:l.length≤1073741824):iter (λ(a:Bool × Int)=>HN x l a.1 a.2) (true,0)=some (l.foldl (λb y=>b&&!(y.Ref=x.Ref)) true):=
 Xr (f:=λ(a:Bool × Int)=>HN x l a.1 a.2) l (λb y=>b&&!(y.Ref=x.Ref)) (λ_ _=>True) (λ_ _ _ _=>trivial)
  (λb k j _=>by
   show HN x l b (k:Int)=_
   unfold HN
   rw[qy (by simpa using j),Ac j,AD,Ar (by omega),AD])
  (λb=>by
   show HN x l b (l.length:Int)=_
   unfold HN
   rw[qx (by simp)]) true trivial
noncomputable def Cv(d:AR)(self:Int→List Int)(n:AO)(i:Nat):List Int:=if E2 d n i=true then n.Flow[i]!.Ref::FR d self (AJ d n.Flow[i]!.Ref) else []
theorem aB{d:AR}(hg:Bt d){start}{n}(IH:MI d start n){id}(hi:Ba d id)(hf:d.Nodes.length<n+1+EI d id){m0 m}(hp:Gg d start id m0)(V:CW d start id m0 m)
 {v:List Nat} (hv:v=EO (AJ d id).Flow) {k} (X:k<v.length) (c1:∀x, BF m x=true→BU d x=id→∃j, j<k∧(AJ d id).Flow[v[j]!]!.Ref=x)
 {s} {M} (hs:GB s M) (hM:M+un d m≤d.Nodes.length) :
    ∃A, F7 ⟨d⟩ (CV d) (AJ d id) (Ca n) (v.map λ(i:Nat) => (i:Int)) k m s.1 s.2=some (.inl (((k+1:Nat):Int), A, DH d (Cv d (BN d n) (AJ d id) v[k]!) s))∧CW d start id m0 A ∧
      (Cv d (BN d n) (AJ d id) v[k]!).length+un d A≤un d m∧(∀x, BF A x=true→BU d x=id→∃j, j<k+1∧(AJ d id).Flow[v[j]!]!.Ref=x) := by
  have A3 := QM hg hi
  have I := Oi hi
  obtain⟨n1, n2, n3, n4, _⟩ := hg.node hi
  have ai := n1.ok.fl
  have ac:v[k]! ∈ v := Bm X
  have a0:v[k]!<(AJ d id).Flow.length := by subst hv;exact Ta ac
  have aj:v.length≤(AJ d id).Flow.length := by
    subst hv
    unfold EO
    exact rM (sR ..) (by simp)
  have J:AL (v.map λ(i:Nat) => (i:Int)) (k:Int)=some ((v[k]!:Nat):Int) := by
    rw[Dz (by simpa using X), ta, rN v k X]
  have a1:∀j, j<k→v[j]!<v[k]! := λj hj => by
    have := lW (AJ d id).Flow
    rw[← hv, s7] at this
    rw[rN v j (by omega), rN v k X]
    exact this j k (by omega) X hj
  generalize ad:v[k]! = p at *
  have a2:(AJ d id).Flow[p]! ∈ (AJ d id).Flow := Bm a0
  have a6:AL (AJ d id).Flow (p:Int)=some (AJ d id).Flow[p]! := Ac a0
  have a7:DY (AJ d id).Flow 0 (p:Int)=some ((AJ d id).Flow.take p) := by
    unfold DY
    rw[qy ⟨by omega, by omega, by omega⟩]
    simp
  generalize l:(AJ d id).Flow[p]! = c at *
  have a8:iter (λ(a:Bool × Int) => HN c ((AJ d id).Flow.take p) a.1 a.2) (true, 0)=some (Kx (AJ d id).Flow p) := by
    rw[lc c _ (by rw[sb];omega), ep c.Ref _ p (by omega)]
    unfold Kx
    rw[l]
  have E:∀x, BF m x=true→BU d x=id→∃j, j<k+1∧(AJ d id).Flow[v[j]!]!.Ref=x := λx B C => by
    obtain⟨j, O, h4⟩ := c1 x B C
    exact⟨j, by omega, h4⟩
  have skip:E2 d (AJ d id) p=false→∀A, CW d start id m0 A→un d A≤un d m→(∀x, BF A x=true→BU d x=id→∃j, j<k+1∧(AJ d id).Flow[v[j]!]!.Ref=x) →
      F7 ⟨d⟩ (CV d) (AJ d id) (Ca n) (v.map λ(i:Nat) => (i:Int)) k m s.1 s.2=some (.inl (((k+1:Nat):Int), A, s)) →
      ∃A, F7 ⟨d⟩ (CV d) (AJ d id) (Ca n) (v.map λ(i:Nat) => (i:Int)) k m s.1 s.2=some (.inl (((k+1:Nat):Int), A, DH d (Cv d (BN d n) (AJ d id) p) s))∧CW d start id m0 A ∧
      (Cv d (BN d n) (AJ d id) p).length+un d A≤un d m∧(∀x, BF A x=true→BU d x=id→∃j, j<k+1∧(AJ d id).Flow[v[j]!]!.Ref=x) := by
    intro T A B C O h5
    have e:Cv d (BN d n) (AJ d id) p=[] := by unfold Cv;rw[T];rfl
    rw[e]
    exact⟨A, h5, B, by simpa using C, O⟩
  have w:∀A Z, (CK (
      AB (AL (v.map λ(i:Nat) => (i:Int)) (k:Int)) λ(x5:Int) =>
      AB (AL (AJ d id).Flow x5) λ(U:AN) =>
      if(((U.Ref=0)||(!(((AU (CV d) U.Ref).getD 0)=(AJ d id).ID)))||((AU m U.Ref).getD false)) then(
        some (m, s.1, s.2)
      ) else(
        AB (DY (AJ d id).Flow 0 x5) λ(l1:List AN) =>
        AB (iter (λ(a:Bool × Int) => HN U l1 a.1 a.2) (true, 0)) λ(F:Bool) =>
        if(!F) then(
          some ((Ah m U.Ref true), s.1, s.2)
        ) else(
          AB (HE d U.Ref) λ(r2:Int) =>
          AB (AL d.Nodes r2) λ(aa:AO) =>
          CE (JG s.1 s.2 aa) λ(w2:(Int × Int)) (w3:List AP) =>
          CK (Ha (Ca n) ⟨d⟩ (CV d) (Ah m U.Ref true) w2 w3 aa) λ(w4:List (Int × Bool)) (w5:(Int × Int)) (w6:List AP) =>
          some (w4, w5, w6)
        )
      )) λ(a:List (Int × Bool)) (b:Int × Int) (e:List AP) => some (a, b, e))=some (A, Z.1, Z.2)→F7 ⟨d⟩ (CV d) (AJ d id) (Ca n) (v.map λ(i:Nat) => (i:Int)) k m s.1 s.2=some (.inl (((k+1:Nat):Int), A, Z)) := by
    intro A Z h
    unfold F7
    rw[qy (by simpa using X)]
    dsimp only at h ⊢
    revert h
    generalize (AB (AL (v.map λ(i:Nat) => (i:Int)) (k:Int)) _:Option (List (Int × Bool) × (Int × Int) × List AP))=q
    intro h
    cases q with
    | none => cases h
    | some q =>
      obtain⟨a, b, e⟩ := q
      have h':some (a, b, e)=some (A, Z.1, Z.2) := h
      cases h'
      show AB (AZ .i64 ((k:Int)+1)) _=_
      rw[Ar (by omega), AD]
  rw[J, AD, a6, AD, a7, AD, a8, AD] at w
  simp only[X9, I] at w
  have ab:(AU m c.Ref).getD false=BF m c.Ref := rfl
  rw[ab] at w
  by_cases h0:c.Ref=0
  · exact skip (by unfold E2;rw[l, h0];simp) m V (q9 _) E (w m s (by rw[qy (by simp[h0])];rfl))
  by_cases B:¬ BU d c.Ref=id
  · exact skip (by unfold E2;rw[l, I];simp[B]) m V (q9 _) E (w m s (by rw[qy (by simp[B])];rfl))
  have B:BU d c.Ref=id := Decidable.not_not.1 B
  cases C:BF m c.Ref with
  | true =>
    obtain⟨j0, ae, af⟩ := c1 _ C B
    refine skip (by
      unfold E2 Kx
      rw[l]
      have:((List.range p).all λj => !((AJ d id).Flow[j]!.Ref=c.Ref))=false := by
        rw[uj]
        exact⟨v[j0]!, rV.2 (a1 j0 ae), by rw[q7 af];decide⟩
      rw[this];simp) m V (q9 _) E (w m s (by rw[qy (by simp[C])];rfl))
  | false =>
    have hx:Ba d c.Ref := n4 c.Ref (sh _ (by
      unfold CQ
      exact rn.2 ⟨c, sV.2 ⟨a2, by simpa using h0⟩, rfl⟩))
    have ag := Wr hx C
    have d1:∀m2, (∀x, BF m2 x=true→BU d x=id→x=c.Ref∨BF m x=true)→∀x, BF m2 x=true→BU d x=id→∃j, j<k+1∧(AJ d id).Flow[v[j]!]!.Ref=x := λm2 ah x e1 e2 => by
      rcases ah x e1 e2 with rfl | e3
      · exact⟨k, by omega, by rw[ad, l]⟩
      · exact E x e3 e2
    cases O:Kx (AJ d id).Flow p with
    | true =>
      have T:E2 d (AJ d id) p=true := by
        unfold E2;rw[l, I, O];simp[h0, B]
      have e:Cv d (BN d n) (AJ d id) p=c.Ref::FR d (BN d n) (AJ d c.Ref) := by unfold Cv;rw[T, l];rfl
      rw[e]
      obtain⟨q, q1, q2⟩ := Wa hg hx
      have hb := hg.ok.1
      have hv := Xy hg hx (c := s.1) (o := s.2) (m := M) hs (by omega)
      obtain⟨m2, e1, e2, e3⟩ := fV hg IH (id := c.Ref) (m := Ah m c.Ref true) (s := Ew d s c.Ref) (M := M+1) hx (by have := LA A3 B;omega) (V.child hp A3 B C) (RO hs _) (by omega)
      refine⟨m2, ?_, V.sub hp A3 B e2, by simp only[rp];omega, d1 m2 λx e4 e5 => CW.own A3 B e2 e4 e5⟩
      refine w m2 (DH d (c.Ref::FR d (BN d n) (AJ d c.Ref)) s) ?_
      rw[qx (by simp[h0, B, C]), qx (by rw[O];decide), q1, AD, q2, AD, hv]
      show CK (CK (Ha (Ca n) ⟨d⟩ (CV d) (Ah m c.Ref true) (Ew d s c.Ref).1 (Ew d s c.Ref).2 (AJ d c.Ref)) _) _=_
      rw[e1];rfl
    | false =>
      refine skip (by unfold E2;rw[O];simp) (Ah m c.Ref true) (V.mark hp B) (ut ag) (d1 _ λx e1 _ => Gj.1 e1) (w (Ah m c.Ref true) s ?_)
      rw[qx (by simp[h0, B, C]), qy (by rw[O];decide)];rfl
end Go.Proofs.YtifgmfoihehlbaaGreatDoor.Al

set_option linter.unusedVariables false
set_option linter.unusedSimpArgs false
namespace Go.Proofs.YtifgmfoihehlbaaGreatDoor.Al
open Go
def CY{α:Type}(a b:Option α):Prop:=∀r,a=some r→b=some r
theorem CY.rfl{α:Type}{a:Option α} : CY a a:=λ_ h=>h
theorem CY.b1{a α:Type}{x j:Option a}{f l:a→Option α}(h:CY x j)(q:∀y,CY (f y) (l y)):CY (AB x f) (AB j l):=λr m=>by
 cases x with
 | none=>cases m
 | some y=>rw[h y _root_.rfl,AD];exact q y r m
theorem CY.b2{a b α:Type}{x j:Option (a × b)}{f l:a→b→Option α}(h:CY x j)(q:∀y z,CY (f y z) (l y z)):CY (CE x f) (CE j l):=λr m=>by
 cases x with
 | none=>cases m
 | some y=>obtain⟨y,z⟩:=y;rw[h _ _root_.rfl,By];exact q y z r m
theorem CY.b3{a b c α:Type}{x j:Option (a × b × c)}{f l:a→b→c→Option α}(h:CY x j)(q:∀y z w,CY (f y z w) (l y z w)):CY (CK x f) (CK j l):=λr m=>by
 cases x with
 | none=>cases m
 | some y=>obtain⟨y,z,w⟩:=y;rw[h _ _root_.rfl,FJ];exact q y z w r m
theorem CY.c1{a α:Type}{x j:Option (Ax a α)}{f:a→Option α}(h:CY x j):CY (A7 x f) (A7 j f):=λr l=>by
 cases x with
 | none=>cases l
 | some y=>rw[h _ _root_.rfl];exact l
theorem CY.ite{α:Type}{c:Prop}[Decidable c]{a b a' b':Option α}(m:CY a a')(q:CY b b'):CY (if c then a else b) (if c then a' else b'):=λr j=>by
 split at j
 ·rename_i l;rw[qy l];exact m r j
 ·rename_i l;rw[qx l];exact q r j
theorem CY.it{σ β:Type}{f g:σ→Option (σ ⊕ β)}(h:∀s,CY (f s) (g s))(s:σ):CY (iter f s) (iter g s):=λr j=>Ik (λs v l=>h s v l) j
abbrev Wz:=Dg→(List (Int × Int))→(List (Int × Bool))→(Int × Int)→(List AP)→AO→Option ((List (Int × Bool)) × (Int × Int) × (List AP))
theorem cB{self self':Wz}(l:∀w j m2 c o n,CY (self w j m2 c o n) (self' w j m2 c o n))(w:Dg)(j:List (Int × Int))(m2:List (Int × Bool))(c:Int × Int)(o:List AP)(n:AO):CY (Ha self w j m2 c o n) (Ha self' w j m2 c o n):=by
 unfold Ha
 refine .ite .rfl (.c1 (.it (λs=>?_) _))
 unfold F2
 exact .ite (.b3 (.b1 .rfl λ_=>.b1 .rfl λ_=>.ite .rfl (.ite (.b1 .rfl λ_=>.b1 .rfl λ_=>.b2 .rfl λ_ _=>.b3 (l _ _ _ _ _ _) λ_ _ _=>.rfl) .rfl)) λ_ _ _=>.rfl) .rfl
theorem pr{self self':Wz}(l:∀w j m2 c o n,CY (self w j m2 c o n) (self' w j m2 c o n))(w:Dg)(j:List (Int × Int))(m2:List (Int × Bool))(c:Int × Int)(o:List AP)(n:AO):CY (I4 self w j m2 c o n) (I4 self' w j m2 c o n):=by
 unfold I4
 refine .b1 .rfl λ_=>.c1 (.it (λs=>?_) _)
 unfold F7
 exact .ite (.b3 (.b1 .rfl λ_=>.b1 .rfl λ_=>.ite .rfl (.b1 .rfl λ_=>.b1 .rfl λ_=>.ite .rfl (.b1 .rfl λ_=>.b1 .rfl λ_=>.b2 .rfl λ_ _=>.b3 (cB l _ _ _ _ _ _) λ_ _ _=>.rfl))) λ_ _ _=>.rfl) .rfl
theorem ny:∀(n:Nat) w j m2 c o g,CY (Ca n w j m2 c o g) (Ca (n+1) w j m2 c o g):=by
 intro n
 induction n with
 | zero=>intro w j m2 c o g r h;cases h
 | succ n l=>intro w j m2 c o g;exact pr (self:=Ca n) (self':=Ca (n+1)) l w j m2 c o g
theorem fb{d:AR}(hg:Bt d){start}{n}(F:MI d start n){id}(I:Ba d id)(J:d.Nodes.length<n+1+EI d id){q}(hp:Gg d start id q){v:List Nat}(O:v=EO (AJ d id).Flow) :
  ∀(j k:Nat) (m:List (Int × Bool)) (s:(Int × Int) × List AP) (M:Nat),k+j=v.length→CW d start id q m→(∀x,BF m x=true→BU d x=id→∃j,j<k∧(AJ d id).Flow[v[j]!]!.Ref=x)→GB s M→M+un d m≤d.Nodes.length →
  ∃w,iter (λ(a:Int × (List (Int × Bool)) × (Int × Int) × (List AP))=>F7 ⟨d⟩ (CV d) (AJ d id) (Ca n) (v.map λ(i:Nat)=>(i:Int)) a.1 a.2.1 a.2.2.1 a.2.2.2) ((k:Int),m,s.1,s.2) =
   some (.ext (w,DH d ((v.drop k).flatMap (Cv d (BN d n) (AJ d id))) s))∧CW d start id q w∧((v.drop k).flatMap (Cv d (BN d n) (AJ d id))).length+un d w≤un d m:=by
 intro j
 induction j with
 | zero=>
  intro k m s M A B _ _ _
  have A:k=v.length:=by omega
  subst A
  refine⟨m,?_,B,by rw[rx (q9 _)];simp⟩
  rw[BJ (r:=.ext (m,s.1,s.2)) (by
   show F7 ⟨d⟩ (CV d) (AJ d id) (Ca n) (v.map λ(i:Nat)=>(i:Int)) ((v.length:Nat):Int) m s.1 s.2=_
   unfold F7
   rw[qx (by simp)])]
  rw[rx (q9 _)]
  rfl
 | succ j T=>
  intro k m s M A B c1 C U
  have l:k<v.length:=by omega
  obtain⟨E,V,X,e3,Z⟩:=aB hg F I J hp B O l c1 C U
  obtain⟨m2,f1,f2,f3⟩:=T (k+1) E (DH d (Cv d (BN d n) (AJ d id) v[k]!) s) (M+(Cv d (BN d n) (AJ d id) v[k]!).length) (by omega) X Z (Tk _ C) (by omega)
  have hd:v.drop k=v[k]!::v.drop (k+1):=by rw[rf l,rN v k l]
  refine⟨m2,?_,f2,?_⟩
  ·rw[BW (s':=(((k+1:Nat):Int),E,DH d (Cv d (BN d n) (AJ d id) v[k]!) s)) V]
   rw[hd,sC,W4]
   exact f1
  ·rw[hd,sC,rj]
   omega
theorem lq{d}(hg:Bt d) start:∀n,MI d start n:=by
 intro n
 induction n with
 | zero=>
  intro id m s M j l _ _ _
  have:=Yd d hg id
  unfold EI at l
  omega
 | succ n C=>
  intro id m s M j l hp E F
  obtain⟨q,_⟩:=hg.node j
  have w:∀x∈(AJ d id).Flow,Eo x:=λx B=>⟨by have:=(q.ok.fa x B).1;omega,(q.ok.fa x B).2⟩
  obtain⟨I,J,O,T⟩:=fb hg C j l hp (v:=EO (AJ d id).Flow) rfl (EO (AJ d id).Flow).length 0 m s M (by omega) (CW.refl hp) (λx U V=>absurd V (hp.fr x U)) E F
  refine⟨I,?_,O,T⟩
  show I4 (Ca n) ⟨d⟩ (CV d) m s.1 s.2 (AJ d id)=_
  unfold I4
  rw[iZ _ 0 w q.ok.fl,AD,U6]
  have A:iter (λ(a:Int × (List (Int × Bool)) × (Int × Int) × (List AP))=>F7 ⟨d⟩ (CV d) (AJ d id) (Ca n) ((EO (AJ d id).Flow).map λ(i:Nat)=>(i:Int)) a.1 a.2.1 a.2.2.1 a.2.2.2) (0,m,s.1,s.2)=_:=J
  rw[A,GK]
  rfl
noncomputable def Fw(d:AR)(id:Int):List Int:=BN d (d.Nodes.length+1) id
theorem Xw(d:AR):un d []≤d.Nodes.length:=List.countP_le_length
theorem bN d id:Gg d id id []:=⟨λx h=>(by cases h),.inl rfl,q9 _,λx h=>(by cases h)⟩
theorem Rb{d:AR}(hg:Bt d){id}(l:Ba d id):∃j,Lk ⟨d⟩ (CV d) [] (0,0) [] (AJ d id)=some (j,DH d (Fw d id) ((0,0),[]))∧(Fw d id).length≤d.Nodes.length:=by
 obtain⟨j,m,_,w⟩:=lq hg id (d.Nodes.length+1) id [] ((0,0),[]) 0 l (by omega) (bN d id) ⟨by simp,by decide,by decide,by decide,by decide⟩ (by have:=Xw d;omega)
 have:=Xw d
 refine⟨j,?_,by unfold Fw;omega⟩
 unfold Lk
 exact Lb (N:=λn=>Ca n ⟨d⟩ (CV d) [] (0,0) [] (AJ d id)) (λn r q=>ny n _ _ _ _ _ _ r q) m
end Go.Proofs.YtifgmfoihehlbaaGreatDoor.Al

set_option linter.unusedVariables false
set_option linter.unusedSimpArgs false
namespace Go.Proofs.YtifgmfoihehlbaaGreatDoor.Al
open Go
theorem fG{f:List AN}(h:((List.range f.length).findSome? (Fs false f)).getD 0=0):IZ f=0:=by
 have m:(List.range f.length).findSome? (Fs false f)=none:=by
  cases q:(List.range f.length).findSome? (Fs false f) with
  | none=>rfl
  | some r=>
   rw[q] at h
   obtain⟨C,k,E,F,j,I⟩:=List.findSome?_eq_some_iff.1 q
   unfold Fs at j
   split at j
   ·split at j
    ·cases j;simp at h
    ·cases j
   ·rename_i l;cases j;exact absurd h l
 have w:(List.range f.length).findSome? (Fe f)=none:=by
  rw[sH] at m ⊢
  intro k A
  have:=m k A
  unfold Fs at this
  unfold Fe
  split at this
  ·rename_i B;rw[qy B]
  ·cases this
 unfold IZ
 rw[w];rfl
theorem kw{n:AO}(h:Fj n)(j:CZ n=some 0):IZ n.Flow=0:=by
 have A:∀x∈n.Flow,Eo x:=λx m=>⟨by have:=(h.ok.fa x m).1;omega,(h.ok.fa x m).2⟩
 have F:=h.ok.fl
 obtain⟨t,B⟩:∃t,Ds n.Kind=some t:=⟨_,rfl⟩
 cases t with
 | true=>
  have l:=aW h j B
  unfold MT at l
  split at l
  ·rename_i m;exact absurd l m
  ·rename_i m;simpa using m
 | false=>
  unfold CZ at j
  split at j
  ·cases j
  split at j
  ·cases j
  obtain⟨e,_,j⟩:=BQ j
  split at j
  ·rename_i c;injection j with j;rw[j] at c;simp at c
  obtain⟨O,C,j⟩:=BQ j
  rw[B] at C
  cases C
  obtain⟨I,_,j⟩:=BQ j
  obtain⟨g,_,j⟩:=BQ j
  obtain⟨J,q,j⟩:=BQ j
  cases J with
  | true=>cases j
  | false=>
   rw[qx (by decide)] at j
   cases I with
   | true=>
    rw[qy (by decide)] at j
    obtain⟨T,w,j⟩:=BQ j
    injection j with j
    rw[Tp _ A (by omega),j] at w
    injection w with w
    exact fG w
   | false=>
    by_cases E:n.Flow=[]
    ·rw[E];rfl
    ·exfalso
     have hp:0<n.Flow.length:=s4.2 E
     have hd:decide (0<(n.Flow.length:Int))=true:=by rw[q8];omega
     rw[hd] at q
     rw[qx (by decide)] at q
     obtain⟨M,_,q⟩:=BQ q
     cases q
theorem Xs{d:AR}(hg:Bt d) node:Hp d node=some (match B5 d.Nodes node with | none=>([],7) | some k=>if Ds d.Nodes[k]!.Kind=some true then((DH d (Fw d node) ((0,0),[])).2,0) else([],8)):=by
 unfold Hp
 rw[hg.ch,AD,qx (by decide),UG node hg.ok.1 hg.srt,AD]
 cases j:B5 d.Nodes node with
 | none=>rfl
 | some k=>
  obtain⟨l,A3⟩:=EF j
  dsimp only
  have m:Ba d node:=⟨k,j⟩
  rw[qx (by simp),Ac l,AD]
  obtain⟨t,q⟩:∃t,Ds d.Nodes[k]!.Kind=some t:=⟨_,rfl⟩
  rw[q,AD]
  cases t with
  | false=>rfl
  | true=>
   rw[qx (by decide),qy rfl]
   obtain⟨C,w,_⟩:=Rb hg m
   have B:M0 (0,0) [] d node=some (DH d (Fw d node) ((0,0),[])):=by
    unfold M0 QQ
    rw[dE hg.ok,AD,AD]
    show AB (rng2 (λA=>H0 A [] d) (λ(a:(List (Int × Int)))=>Hw a) []) _=_
    rw[hU hg,AD,UG node hg.ok.1 hg.srt,j,AD,Ac l,AD,← Ke j]
    show CK (Lk ⟨d⟩ (CV d) [] (0,0) [] (AJ d node)) _=_
    rw[w];rfl
   rw[B];rfl
theorem fH{d:AR}(hg:Bt d)(j:L0 d=some 0) node:KP d node=some (match B5 d.Nodes node with | none=>7 | some k=>if Ds d.Nodes[k]!.Kind=some true then 0 else 8):=by
 unfold KP
 rw[j,AD,qx (by decide),Kp d node hg.ok.1,AD]
 cases l:B5 d.Nodes node with
 | none=>rfl
 | some k=>
  obtain⟨m,A3⟩:=EF l
  dsimp only
  rw[qx (by simp),Ac m,AD,Va]
  obtain⟨t,q⟩:∃t,Ds d.Nodes[k]!.Kind=some t:=⟨_,rfl⟩
  rw[q,AD]
  cases t<;>rfl
theorem fz f p q(A:q≤p)(l:f[q]!.Ref=f[p]!.Ref)(m:∀j,j<q→f[j]!.Ref≠f[p]!.Ref):Kx f p=decide (q=p):=by
 unfold Kx
 by_cases h:q=p
 ·subst h
  rw[q7 rfl,rZ]
  intro j w
  rw[qz (m j (rV.1 w))];rfl
 ·rw[qz h,uj]
  exact⟨q,rV.2 (by omega),by rw[q7 l];decide⟩
theorem lE(n:AO)(I:n.Flow.length≤1073741824){p}(hp:p<n.Flow.length):∀(j k:Nat),k+j=p→(∀i,i<k→n.Flow[i]!.Ref≠n.Flow[p]!.Ref) →
  ∃q,q≤p∧n.Flow[q]!.Ref=n.Flow[p]!.Ref∧(∀i,i<q→n.Flow[i]!.Ref≠n.Flow[p]!.Ref)∧iter (λ(a:Int)=>HC n n.Flow[p]! a) (k:Int)=some (q:Int):=by
 intro j
 induction j with
 | zero=>
  intro k w h
  have w:k=p:=by omega
  subst w
  refine⟨k,q9 _,rfl,h,BJ ?_⟩
  show HC n n.Flow[k]! (k:Int)=_
  unfold HC
  rw[Ac hp,AD,qx (by simp)]
 | succ j A=>
  intro k w h
  have l:k<n.Flow.length:=by omega
  by_cases m:n.Flow[k]!.Ref=n.Flow[p]!.Ref
  ·refine⟨k,by omega,m,h,BJ ?_⟩
   show HC n n.Flow[p]! (k:Int)=_
   unfold HC
   rw[Ac l,AD,qx (by rw[q7 m];decide)]
  ·obtain⟨q,B,C,E,F⟩:=A (k+1) (by omega) λi J=>by
    by_cases e:i=k
    ·subst e;exact m
    ·exact h i (by omega)
   refine⟨q,B,C,E,?_⟩
   rw[BW (s':=((k+1:Nat):Int)) (by
    show HC n n.Flow[p]! (k:Int)=_
    unfold HC
    rw[Ac l,AD,qy (by rw[qz m];decide),Ar (by omega),AD])]
   exact F
theorem pe(n:AO)(B:n.Grid.Cells.length≤1073741824){k}(C:k<n.Grid.Cells.length):∀(j i:Nat) (b:Bool),i+j=k→b=(!(List.range i).all λq=>!(n.Grid.Cells[q]!.Ref=n.Grid.Cells[k]!.Ref)) →
  iter (λ(a:Bool × Int)=>IM n (k:Int) n.Grid.Cells[k]! a.1 a.2) (b,(i:Int))=some (!Ht n.Grid.Cells k):=by
 intro j
 induction j with
 | zero=>
  intro i b l m
  have l:i=k:=by omega
  subst l
  rw[BJ (r:=b) (by
   show IM n (i:Int) n.Grid.Cells[i]! b (i:Int)=_
   unfold IM
   rw[qx (by simp)]),m]
  rfl
 | succ j A=>
  intro i b l m
  have w:i<n.Grid.Cells.length:=by omega
  rw[BW (s':=(b||(n.Grid.Cells[i]!.Ref=n.Grid.Cells[k]!.Ref),((i+1:Nat):Int))) (by
   show IM n (k:Int) n.Grid.Cells[k]! b (i:Int)=_
   unfold IM
   rw[qy (by rw[q8];omega),Ac w]
   cases b with
   | true=>
    rw[show gd ((true:Bool)==false) (some n.Grid.Cells[i]!)=some default from rfl,AD,Ar (by omega),AD]
    simp
   | false=>
    rw[show gd ((false:Bool)==false) (some n.Grid.Cells[i]!)=some n.Grid.Cells[i]! from rfl,AD,Ar (by omega),AD])]
  refine A (i+1) _ (by omega) ?_
  rw[m,tx,List.all_append]
  simp only[te,List.all_nil,uF,Bool.not_and,Bool.not_not]
end Go.Proofs.YtifgmfoihehlbaaGreatDoor.Al

set_option linter.unusedVariables false
set_option linter.unusedSimpArgs false
namespace Go.Proofs.YtifgmfoihehlbaaGreatDoor.Al
open Go
theorem SJ{o l:List Int}(h:o.length+l.length≤4194304):app 8 o l=some (o++l):=by
 unfold app
 rw[qy ⟨by omega,by omega⟩]
def Om(d:AR)(n:Nat):Prop:=∀id,Ba d id→d.Nodes.length<n+EI d id→(BN d n id).length≤1048576→D6 n d id=some (BN d n id)
theorem kX{d:AR}(hg:Bt d){n}(IH:Om d n){id}(I:Ba d id)(hf:d.Nodes.length<n+EI d id){x7:AN}(J:x7.Ref=id){k}(F:k<(AJ d id).Grid.Cells.length){out:List Int}
 (hl:out.length+(cellO d (BN d n) (AJ d id) k).length≤1048576) :
    Hu d (D6 n) ((Bp d).map Az) x7 (AJ d id) (k:Int) out=some (.inl (((k+1:Nat):Int), out++cellO d (BN d n) (AJ d id) k)) := by
  have A3 := QM hg I
  have M := Oi I
  obtain⟨n1, n2, n3, n4, _⟩ := hg.node I
  have a0 := n1.ok.gr.1
  have w:(AJ d id).Grid.Cells[k]! ∈ (AJ d id).Grid.Cells := Bm F
  obtain⟨r, hr, O⟩ := OZ n1 n3 _ w
  have E:Ol (AJ d id).Grid (AJ d id).Grid.Cells[k]! = ((r.Row=(AJ d id).Grid.Cells[k]!.Row)&&(r.Col=(AJ d id).Grid.Cells[k]!.Col)) := by unfold Ol;rw[hr]
  have he := pe (AJ d id) (by omega) F k 0 false (by omega) rfl
  have he':iter (λ(a:Bool × Int) => IM (AJ d id) (k:Int) (AJ d id).Grid.Cells[k]! a.1 a.2) (false, 0)=some (!Ht (AJ d id).Grid.Cells k) := he
  unfold Hu
  rw[qy (by simpa using F), Ac F, AD, O, AD, he', AD]
  obtain⟨q, hq, T⟩ := Vg hg (AJ d id).Grid.Cells[k]!.Ref
  have j:Fv d (AJ d id) k=((((!((AJ d id).Grid.Cells[k]!.Ref=0))&&(!(!Ht (AJ d id).Grid.Cells k)))&&(r.Row=(AJ d id).Grid.Cells[k]!.Row))&&(r.Col=(AJ d id).Grid.Cells[k]!.Col)&&(BU d (AJ d id).Grid.Cells[k]!.Ref=id)) := by
    unfold Fv
    rw[E, M]
    cases decide ((AJ d id).Grid.Cells[k]!.Ref=0)<;>cases Ht (AJ d id).Grid.Cells k<;>cases decide (r.Row=(AJ d id).Grid.Cells[k]!.Row)<;>cases decide (r.Col=(AJ d id).Grid.Cells[k]!.Col)<;>cases decide (BU d (AJ d id).Grid.Cells[k]!.Ref=id)<;>rfl
  have hx:(AJ d id).Grid.Cells[k]!.Ref≠0→Ba d (AJ d id).Grid.Cells[k]!.Ref := λh0 => n4 _ (sn _ (by
    unfold ER
    exact rn.2 ⟨_, sV.2 ⟨w, by simpa using h0⟩, rfl⟩))
  have U:((((!((AJ d id).Grid.Cells[k]!.Ref=0))&&(!(!Ht (AJ d id).Grid.Cells k)))&&(r.Row=(AJ d id).Grid.Cells[k]!.Row))&&(r.Col=(AJ d id).Grid.Cells[k]!.Col))=true→(AJ d id).Grid.Cells[k]!.Ref≠0 := λh e => by
    rw[q7 e] at h
    cases h
  generalize hA:((((!((AJ d id).Grid.Cells[k]!.Ref=0))&&(!(!Ht (AJ d id).Grid.Cells k)))&&(r.Row=(AJ d id).Grid.Cells[k]!.Row))&&(r.Col=(AJ d id).Grid.Cells[k]!.Col))=A at *
  have l:cellO d (BN d n) (AJ d id) k=if Fv d (AJ d id) k=true then(AJ d id).Grid.Cells[k]!.Ref::BN d n (AJ d id).Grid.Cells[k]!.Ref else [] := rfl
  generalize V:(AJ d id).Grid.Cells[k]! = c at *
  have m:∀o2, o2=out++cellO d (BN d n) (AJ d id) k→(AB (some o2) λ(C:List Int) => AB (AZ .i64 ((k:Int)+1)) λ(X:Int) => some (.inl (X, C)):Option ((Int × (List Int)) ⊕ (Ax Unit (List Int))))=some (.inl (((k+1:Nat):Int), out++cellO d (BN d n) (AJ d id) k)) := λo2 e => by
    rw[AD, Ar (by omega), AD, e]
  cases A with
  | false =>
    rw[show gd ((false:Bool)==true) (Dx ((Bp d).map Az) c.Ref)=some default from rfl, AD]
    simp only[tF]
    rw[show gd ((false:Bool)==true) (Dx ((Bp d).map Az) c.Ref)=some default from rfl, AD]
    rw[show gd ((false:Bool)==true) (AL ((Bp d).map Az) default)=some default from rfl, AD]
    exact m out (by rw[l, j];simp)
  | true =>
    rw[show gd ((true:Bool)==true) (Dx ((Bp d).map Az) c.Ref)=Dx ((Bp d).map Az) c.Ref from rfl, hq, AD]
    simp only[rq]
    have Z := U rfl
    rcases T with ⟨h1, h2⟩ | ⟨s, h1, h2, h3⟩
    · rw[qz (by omega)]
      rw[show gd ((false:Bool)==true) (some q)=some default from rfl, AD]
      rw[show gd ((false:Bool)==true) (AL ((Bp d).map Az) default)=some default from rfl, AD]
      exact m out (by rw[l, j, h2, qz (show ¬ (0:Int)=id by omega)];simp)
    · rw[q7 h1]
      rw[show gd ((true:Bool)==true) (some q)=some q from rfl, AD]
      rw[show gd ((true:Bool)==true) (AL ((Bp d).map Az) q)=AL ((Bp d).map Az) q from rfl, h2, AD, h3, J]
      by_cases hp:BU d c.Ref=id
      · have B:cellO d (BN d n) (AJ d id) k=c.Ref::BN d n c.Ref := by rw[l, j, q7 hp];rfl
        rw[B] at hl
        simp only[rp] at hl
        have hr := LA A3 hp
        rw[qy (by rw[q7 hp];rfl), SJ (by simp;omega), AD, IH c.Ref (hx Z) (by omega) (by omega), AD, SJ (by simp;omega), AD]
        exact m _ (by rw[B];simp)
      · rw[qx (by rw[qz hp];decide)]
        exact m out (by rw[l, j, qz hp];simp)
theorem iW{d:AR}(hg:Bt d){n}(w:Om d n){id}(A:Ba d id)(B:d.Nodes.length<n+EI d id){x7:AN}(l:x7.Ref=id) :
  ∀(j k:Nat) (out:List Int),k+j=(AJ d id).Grid.Cells.length→out.length+(((List.range (AJ d id).Grid.Cells.length).drop k).flatMap (cellO d (BN d n) (AJ d id))).length≤1048576 →
  iter (λ(a:Int × (List Int))=>Hu d (D6 n) ((Bp d).map Az) x7 (AJ d id) a.1 a.2) ((k:Int),out)=some (.ext (out++((List.range (AJ d id).Grid.Cells.length).drop k).flatMap (cellO d (BN d n) (AJ d id)))):=by
 intro j
 induction j with
 | zero=>
  intro k out m _
  have m:k=(AJ d id).Grid.Cells.length:=by omega
  subst m
  rw[rx (by simp)]
  refine BJ ?_
  show Hu d (D6 n) ((Bp d).map Az) x7 (AJ d id) (((AJ d id).Grid.Cells.length:Nat):Int) out=_
  unfold Hu
  rw[qx (by simp)]
  simp
 | succ j C=>
  intro k out m q
  rw[R5 (by omega),sC] at q ⊢
  rw[rj] at q
  rw[BW (s':=(((k+1:Nat):Int),out++cellO d (BN d n) (AJ d id) k)) (kX (out:=out) hg w A B l (by omega) (by omega))]
  rw[C (k+1) _ (by omega) (by rw[rj];omega),sJ]
end Go.Proofs.YtifgmfoihehlbaaGreatDoor.Al

set_option linter.unusedVariables false
set_option linter.unusedSimpArgs false
namespace Go.Proofs.YtifgmfoihehlbaaGreatDoor.Al
open Go
theorem kp{d:AR}(hg:Bt d){n}(IH:Om d n){id}(O:Ba d id)(hf:d.Nodes.length<n+1+EI d id){v:List Nat}(hv:v=EO (AJ d id).Flow){k}(T:k<v.length){out:List Int}
 (hl:out.length+(Cv d (BN d n) (AJ d id) v[k]!).length≤1048576) :
    Hk d id (D6 n) ((Bp d).map Az) (AJ d id) (v.map λ(i:Nat) => (i:Int)) (k:Int) out=some (.inl (((k+1:Nat):Int), out++Cv d (BN d n) (AJ d id) v[k]!)) := by
  have A3 := QM hg O
  have V := Oi O
  obtain⟨n1, n2, n3, n4, _⟩ := hg.node O
  have a8 := n1.ok.fl
  have X:v[k]! ∈ v := Bm T
  have B:v[k]!<(AJ d id).Flow.length := by subst hv;exact Ta X
  have aa:v.length≤(AJ d id).Flow.length := by
    subst hv
    unfold EO
    exact rM (sR ..) (by simp)
  have C:AL (v.map λ(i:Nat) => (i:Int)) (k:Int)=some ((v[k]!:Nat):Int) := by
    rw[Dz (by simpa using T), ta, rN v k T]
  generalize ab:v[k]! = p at *
  have I:(AJ d id).Flow[p]! ∈ (AJ d id).Flow := Bm B
  obtain⟨J, f1, f2, f3, f4⟩ := lE (AJ d id) (by omega) B p 0 (by omega) (λi O => by omega)
  have f5 := fz (AJ d id).Flow p J f1 f2 f3
  have Z:iter (λ(a:Int) => HC (AJ d id) (AJ d id).Flow[p]! a) 0=some (J:Int) := f4
  obtain⟨q, hq, a0⟩ := Vg hg (AJ d id).Flow[p]!.Ref
  have hx:(AJ d id).Flow[p]!.Ref≠0→Ba d (AJ d id).Flow[p]!.Ref := λA => n4 _ (sh _ (by
    unfold CQ
    exact rn.2 ⟨_, sV.2 ⟨I, by simpa using A⟩, rfl⟩))
  have l:E2 d (AJ d id) p=((!((AJ d id).Flow[p]!.Ref=0))&&(BU d (AJ d id).Flow[p]!.Ref=id)&&(J=p)) := by
    unfold E2
    rw[V, f5]
  have m:Cv d (BN d n) (AJ d id) p=if E2 d (AJ d id) p=true then(AJ d id).Flow[p]!.Ref::FR d (BN d n) (AJ d (AJ d id).Flow[p]!.Ref) else [] := rfl
  unfold Hk
  rw[qy (by simpa using T), C, AD, Ac B, AD]
  generalize a1:(AJ d id).Flow[p]! = c at *
  have j:∀o2, o2=out++Cv d (BN d n) (AJ d id) p→(AB (some o2) λ(M:List Int) => AB (AZ .i64 ((k:Int)+1)) λ(x5:Int) => some (.inl (x5, M)):Option ((Int × (List Int)) ⊕ (List Int)))=some (.inl (((k+1:Nat):Int), out++Cv d (BN d n) (AJ d id) p)) := λo2 e => by
    rw[AD, Ar (by omega), AD, e]
  by_cases A:c.Ref=0
  · rw[q7 A]
    rw[show gd ((true:Bool)==false) (Dx ((Bp d).map Az) c.Ref)=some default from rfl, AD]
    simp only[tz]
    rw[show gd ((true:Bool)==false) (Dx ((Bp d).map Az) c.Ref)=some default from rfl, AD]
    rw[show gd ((true:Bool)==false) (AL ((Bp d).map Az) default)=some default from rfl, AD]
    exact j out (by rw[m, l, q7 A];simp)
  · rw[qz A]
    rw[show gd ((false:Bool)==false) (Dx ((Bp d).map Az) c.Ref)=Dx ((Bp d).map Az) c.Ref from rfl, hq, AD]
    simp only[sN]
    rcases a0 with ⟨h1, h2⟩ | ⟨s, h1, h2, h3⟩
    · rw[q7 h1]
      rw[show gd ((true:Bool)==false) (some q)=some default from rfl, AD]
      rw[show gd ((true:Bool)==false) (AL ((Bp d).map Az) default)=some default from rfl, AD]
      exact j out (by rw[m, l, h2, qz (show ¬ (0:Int)=id by omega)];simp)
    · rw[qz (show ¬ q<0 by omega)]
      rw[show gd ((false:Bool)==false) (some q)=some q from rfl, AD]
      rw[show gd ((false:Bool)==false) (AL ((Bp d).map Az) q)=AL ((Bp d).map Az) q from rfl, h2, AD, h3]
      by_cases hp:BU d c.Ref=id
      · rw[qx (by rw[q7 hp];decide), Z, AD]
        by_cases E:J=p
        · have w:Cv d (BN d n) (AJ d id) p=c.Ref::FR d (BN d n) (AJ d c.Ref) := by rw[m, l, q7 hp, q7 E, qz A];rfl
          rw[w] at hl
          simp only[rp] at hl
          have a2 := hx A
          have hr := LA A3 hp
          obtain⟨k2, F⟩ := a2
          obtain⟨a6, _⟩ := EF F
          rw[qx (by rw[E];simp), SJ (by simp;omega), AD, Kp d c.Ref hg.ok.1, F, AD]
          dsimp only
          rw[Ac a6, AD, ← Ke F]
          by_cases U:(AJ d c.Ref).Kind=2
          · have ht:FR d (BN d n) (AJ d c.Ref)=(List.range (AJ d c.Ref).Grid.Cells.length).flatMap (cellO d (BN d n) (AJ d c.Ref)) := by unfold FR;rw[qy U];rfl
            have hc := iW hg IH (id := c.Ref) (hx A) (by omega) (x7 := c) rfl (AJ d c.Ref).Grid.Cells.length 0 (out++[c.Ref]) (by omega) (by rw[sg, ← ht];simp;omega)
            rw[sg, ← ht] at hc
            have a7:iter (λ(a:Int × (List Int)) => Hu d (D6 n) ((Bp d).map Az) c (AJ d c.Ref) a.1 a.2) (0, out++[c.Ref])=_ := hc
            rw[qx (by rw[q7 U];decide), a7, GK]
            exact j _ (by rw[w];simp)
          · rw[qy (by rw[qz U];decide)]
            exact j _ (by rw[w];unfold FR;rw[qx U])
        · rw[qy (by rw[qz (show ¬ (J:Int)=(p:Int) by omega)];decide)]
          exact j out (by rw[m, l, qz E];simp)
      · rw[qy (by rw[qz hp];decide)]
        exact j out (by rw[m, l, qz hp];simp)
theorem ZM{d:AR}(hg:Bt d){n}(w:Om d n){id}(A:Ba d id)(B:d.Nodes.length<n+1+EI d id){v:List Nat}(C:v=EO (AJ d id).Flow) :
  ∀(j k:Nat) (out:List Int),k+j=v.length→out.length+((v.drop k).flatMap (Cv d (BN d n) (AJ d id))).length≤1048576 →
  iter (λ(a:Int × (List Int))=>Hk d id (D6 n) ((Bp d).map Az) (AJ d id) (v.map λ(i:Nat)=>(i:Int)) a.1 a.2) ((k:Int),out)=some (out++(v.drop k).flatMap (Cv d (BN d n) (AJ d id))):=by
 intro j
 induction j with
 | zero=>
  intro k out m _
  have m:k=v.length:=by omega
  subst m
  rw[rx (q9 _)]
  refine BJ ?_
  show Hk d id (D6 n) ((Bp d).map Az) (AJ d id) (v.map λ(i:Nat)=>(i:Int)) ((v.length:Nat):Int) out=_
  unfold Hk
  rw[qx (by simp)]
  simp
 | succ j E=>
  intro k out m q
  have l:k<v.length:=by omega
  have hd:v.drop k=v[k]!::v.drop (k+1):=by rw[rf l,rN v k l]
  rw[hd,sC] at q ⊢
  rw[rj] at q
  rw[BW (s':=(((k+1:Nat):Int),out++Cv d (BN d n) (AJ d id) v[k]!)) (kp (out:=out) hg w A B C l (by omega))]
  rw[E (k+1) _ (by omega) (by rw[rj];omega),sJ]
theorem pT{d}(hg:Bt d):∀n,Om d n:=by
 intro n
 induction n with
 | zero=>
  intro id j m _
  have:=Yd d hg id
  unfold EI at m
  omega
 | succ n F=>
  intro id j m I
  obtain⟨l,_,J,_⟩:=hg.node j
  have q:∀x∈(AJ d id).Flow,Eo x:=λx C=>⟨by have:=(l.ok.fa x C).1;omega,(l.ok.fa x C).2⟩
  have E:=ZM hg F j m (v:=EO (AJ d id).Flow) rfl (EO (AJ d id).Flow).length 0 [] (by omega) (by rw[sg,tf,rl];exact I)
  rw[sg,sO] at E
  obtain⟨k,w⟩:=j
  obtain⟨A,_⟩:=EF w
  show JB (D6 n) d id=_
  unfold JB
  rw[iX hg,AD,Kp d id hg.ok.1,w,AD]
  dsimp only
  rw[Ac A,AD,← Ke w,pF _ 0 q (kw l J) l.ok.fl,AD,U6]
  have B:iter (λ(a:Int × (List Int))=>Hk d id (D6 n) ((Bp d).map Az) (AJ d id) ((EO (AJ d id).Flow).map λ(i:Nat)=>(i:Int)) a.1 a.2) (0,[])=_:=E
  rw[B,AD]
  rfl
end Go.Proofs.YtifgmfoihehlbaaGreatDoor.Al

set_option linter.unusedVariables false
set_option linter.unusedSimpArgs false
namespace Go.Proofs.YtifgmfoihehlbaaGreatDoor.Al
open Go
theorem ma{self self'}(j:∀d i,CY (self d i) (self' d i)) d i:CY (JB self d i) (JB self' d i):=by
 unfold JB
 refine .b1 .rfl λ_=>.b1 .rfl λ_=>.b1 .rfl λ_=>.b1 .rfl λ_=>.b1 (.it (λs=>?_) _) λ_=>.rfl
 unfold Hk
 refine .ite (.b1 (.b1 .rfl λ_=>.b1 .rfl λ_=>.b1 .rfl λ_=>.b1 .rfl λ_=>.b1 .rfl λ_=>.ite .rfl (.b1 .rfl λ_=>.ite .rfl (.b1 .rfl λ_=>.b1 .rfl λ_=>.b1 .rfl λ_=>.ite .rfl (.c1 (.it (λs=>?_) _))))) λ_=>.rfl) .rfl
 unfold Hu
 exact .ite (.b1 (.b1 .rfl λ_=>.b1 .rfl λ_=>.b1 .rfl λ_=>.b1 .rfl λ_=>.b1 .rfl λ_=>.b1 .rfl λ_=>.ite (.b1 .rfl λ_=>.b1 (j _ _) λ_=>.rfl) .rfl) λ_=>.rfl) .rfl
theorem lS:∀(n:Nat) d i,CY (D6 n d i) (D6 (n+1) d i):=by
 intro n
 induction n with
 | zero=>intro d i r h;cases h
 | succ n j=>intro d i;exact ma (self:=D6 n) (self':=D6 (n+1)) j d i
theorem bY{d:AR}(hg:Bt d){id}(j:Ba d id):NK d id=some (Fw d id):=by
 obtain⟨_,_,l⟩:=Rb hg j
 unfold NK
 exact Lb (N:=λn=>D6 n d id) (λn r m=>lS n d id r m) (pT hg (d.Nodes.length+1) id j (by omega) (rM l hg.ok.1))
theorem Zz{d}(hg:Bt d):∀n id,Ba d id→∀x∈BN d n id,Ba d x:=by
 intro n
 induction n with
 | zero=>intro id _ x j;cases j
 | succ n A=>
  intro id B x j
  have j:x∈(EO (AJ d id).Flow).flatMap (Cv d (BN d n) (AJ d id)):=j
  obtain⟨p,hp,j⟩:=tr.1 j
  unfold Cv at j
  split at j
  ·rename_i m
   obtain⟨_,_,_,C,_⟩:=hg.node B
   have E:(AJ d id).Flow[p]!.Ref≠0:=λe=>by
    unfold E2 at m
    rw[q7 e] at m
    cases m
   have q:Ba d (AJ d id).Flow[p]!.Ref:=C _ (sh _ (by
    unfold CQ
    exact rn.2 ⟨_,sV.2 ⟨Bm (Ta hp),by simpa using E⟩,rfl⟩))
   rcases ri.1 j with rfl | j
   ·exact q
   ·unfold FR at j
    split at j
    ·obtain⟨k,F,j⟩:=tr.1 j
     split at j
     ·rename_i l
      obtain⟨_,_,_,I,_⟩:=hg.node q
      have J:(AJ d (AJ d id).Flow[p]!.Ref).Grid.Cells[k]!.Ref≠0:=λe=>by
       unfold Fv at l
       rw[q7 e] at l
       cases l
      have w:Ba d (AJ d (AJ d id).Flow[p]!.Ref).Grid.Cells[k]!.Ref:=I _ (sn _ (by
       unfold ER
       exact rn.2 ⟨_,sV.2 ⟨Bm (rV.1 F),by simpa using J⟩,rfl⟩))
      rcases ri.1 j with rfl | j
      ·exact w
      ·exact A _ w x j
     ·cases j
    ·cases j
  ·cases j
theorem dL{d}(hg:Bt d)(l:List Int)(Z:l.length≤1048576)(F:∀x∈l,Ba d x):∀(j k:Nat) (s:(Int × Int) × List AP),k+j=l.length→GB s k →
  iter (λ(a:Int × Int × Int × (List AP))=>II d l a.1 a.2.1 a.2.2.1 a.2.2.2) (s.1.1,s.1.2,(k:Int),s.2)=some (DH d (l.drop k) s).2:=by
 intro j
 induction j with
 | zero=>
  intro k s B _
  have B:k=l.length:=by omega
  subst B
  rw[rx (q9 _)]
  refine BJ ?_
  show II d l s.1.1 s.1.2 (l.length:Int) s.2=_
  unfold II
  rw[qx (by simp)]
  rfl
 | succ j I=>
  intro k s B J
  have m:k<l.length:=by omega
  have hd:l.drop k=l[k]!::l.drop (k+1):=by rw[rf m,rN l k m]
  have E:=F _ (Bm m)
  have M:=Xn hg E
  obtain⟨O,T,U,V,X⟩:=J
  rw[BW (s':=((Ew d s l[k]!).1.1,(Ew d s l[k]!).1.2,((k+1:Nat):Int),(Ew d s l[k]!).2)) (by
   show II d l s.1.1 s.1.2 (k:Int) s.2=_
   obtain⟨k2,q⟩:=E
   obtain⟨C,_⟩:=EF q
   unfold II Ew
   rw[qy (by simpa using m),Ac m,AD,Kp d _ hg.ok.1,q,AD]
   dsimp only
   rw[Ac C,AD,← Ke q]
   by_cases w:(AJ d l[k]!).Kind=4
   ·rw[qx (by rw[q7 w];decide),qy w,SA _ _ (by omega),AD]
    by_cases A:Cw (AJ d l[k]!).Attrs R6=Tz
    ·rw[qy (by rw[q8];exact A),qy A,Mf (by omega) (by omega),AD,P0 (by omega),AD,FJ,Ar (by omega),AD]
    ·rw[qx (by rw[q8];exact A),qx A,Mf (by omega) (by omega),AD,P0 (by omega),AD,FJ,Ar (by omega),AD]
   ·rw[qy (by rw[qz w];decide),qx w,FJ,Ar (by omega),AD])]
  rw[I (k+1) (Ew d s l[k]!) (by omega) (RO ⟨O,T,U,V,X⟩ _),hd]
  rfl
theorem fM{d}(hg:Bt d){id}(j:Ba d id):Oc d id=some (DH d (Fw d id) ((0,0),[])).2:=by
 obtain⟨_,_,m⟩:=Rb hg j
 have l:=rM m hg.ok.1
 have h:=dL hg (Fw d id) l (Zz hg _ id j) (Fw d id).length 0 ((0,0),[]) (by omega) ⟨by simp,by decide,by decide,by decide,by decide⟩
 unfold Oc
 rw[bY hg j,AD]
 have q:iter (λ(a:Int × Int × Int × (List AP))=>II d (Fw d id) a.1 a.2.1 a.2.2.1 a.2.2.2) (0,0,0,[])=_:=h
 rw[q,AD,sg]
theorem lm(l:List AP)(m:l.length≤1073741824):iter (λ(a:Int)=>K0 l l a) 0=some (.nrm ()):=by
 have h:=B2 (f:=λ(a:Int)=>K0 l l a) (n:=l.length) (λ_=>(none:Option Bool)) (λk j=>by
  unfold K0
  rw[qy (by simpa using j),Ac j,AD,AD,qx (by simp),Ar (by omega),AD]
  rfl) (by unfold K0;rw[qx (by simp)])
 rw[h]
 have e:((List.range l.length).findSome? λ_=>(none:Option Bool))=none:=by rw[sH];intro _ _;rfl
 rw[e];rfl
end Go.Proofs.YtifgmfoihehlbaaGreatDoor.Al

set_option linter.unusedVariables false
set_option linter.unusedSimpArgs false
namespace Go.Proofs.YtifgmfoihehlbaaGreatDoor.Al
open Go
theorem jZ{o:List AO}{x}(h:o.length≤4194304):app 152 o [x]=some (o++[x]):=by
 unfold app
 rw[qy ⟨by simp;omega,by simp;omega⟩]
def Db:AO:=AO.mk 2 1 [] [(AN.mk 0 3 []),(AN.mk 10 0 [])] (Av.mk 0 0 [] []) []
def HA:AO:=AO.mk 3 4 [] [(AN.mk 10 0 [])] (Av.mk 0 0 [] []) []
def BA:AR:=AR.mk [Dh,Db,HA]
theorem jY c r:Eo (AN.mk c r []):=⟨by simp,λa j=>by cases j⟩
theorem mQ:Id BA:=by
 refine⟨by decide,λn q=>?_⟩
 have:n=Dh∨n=Db∨n=HA:=by simpa[BA] using q
 rcases this with rfl | rfl | rfl
 ·exact⟨⟨Hm,by decide,λe j=>by
   have:e=AN.mk 0 2 []:=by simpa[Dh] using j
   subst this;exact Hm,MC,by decide⟩,λc l=>(by cases l),λo m=>(by cases m)⟩
 ·exact⟨⟨Hm,by decide,λe j=>by
   have:e=AN.mk 0 3 []∨e=AN.mk 10 0 []:=by simpa[Db] using j
   rcases this with rfl | rfl<;>exact Hm,MC,by decide⟩,λc l=>(by cases l),λo m=>(by cases m)⟩
 ·exact⟨⟨Hm,by decide,λe j=>by
   have:e=AN.mk 10 0 []:=by simpa[HA] using j
   subst this;exact Hm,MC,by decide⟩,λc l=>(by cases l),λo m=>(by cases m)⟩
theorem bB:∀n∈BA.Nodes,n.Draw=[]:=λn j=>by
 have:n=Dh∨n=Db∨n=HA:=by simpa[BA] using j
 rcases this with rfl | rfl | rfl<;>rfl
theorem mG:FI [AN.mk 0 3 [],AN.mk 10 0 []] true=some 0:=by
 rw[Q7 _ (λx j=>by
  have:x=AN.mk 0 3 []∨x=AN.mk 10 0 []:=by simpa using j
  rcases this with rfl | rfl<;>exact jY _ _) (by decide)]
 rfl
theorem iO:CZ Db=some 0:=by
 unfold CZ Db
 dsimp only
 rw[qx (by decide),qx (by decide),Rj,AD,qx (by decide)]
 have t:Ds 1=some true:=rfl
 have l:F6 1=some false:=rfl
 have g:FS 1=some false:=rfl
 have d:Fk 1=some false:=rfl
 rw[t,l,g,d,QD]
 show(AB (FI [AN.mk 0 3 [],AN.mk 10 0 []] true) λ(j:Int)=>some j)=some 0
 rw[mG];rfl
theorem ci:CZ HA=some 0:=by
 unfold CZ HA
 dsimp only
 rw[qx (by decide),qx (by decide),Rj,AD,qx (by decide)]
 have t:Ds 4=some true:=rfl
 have l:F6 4=some false:=rfl
 have g:FS 4=some false:=rfl
 have d:Fk 4=some false:=rfl
 rw[t,l,g,d,QD]
 show(AB (FI [AN.mk 10 0 []] true) λ(j:Int)=>some j)=some 0
 rw[YO];rfl
theorem oe:Gu BA.Nodes:=TO λk l j=>by
 have j:k<3:=j
 have:k=1∨k=2:=by omega
 rcases this with rfl | rfl<;>decide
theorem Um id k(h:B5 BA.Nodes id=some k):Fc BA id=some ((k:Int),true):=by
 obtain⟨i,j,l⟩:=Lv BA id (by decide) oe
 rw[j,h,l k h];rfl
theorem Ua(n:AO)(l:n.Flow.length≤3)(j:n.Grid.Cells=[]):Gf n=some (CQ n.Flow):=by
 rw[WW n (by omega) (by rw[j];decide),j]
 simp[ER]
theorem dN:EV BA 0 [2]=some 0:=by
 unfold EV
 have j:(λ(a:Int)=>CU BA 0 [2] a) 0=some (.inl 1):=by
  show CU BA 0 [2] 0=_
  unfold CU
  rw[qy (by decide),show AL ([2]:List Int) 0=some 2 from rfl,AD,Um 2 1 (by decide),By,qx (by decide),show AL BA.Nodes ((1:Nat):Int)=some Db from rfl,AD,Pt,AD]
  rfl
 have l:(λ(a:Int)=>CU BA 0 [2] a) 1=some (.inr (.nrm ())):=by
  show CU BA 0 [2] 1=_
  unfold CU;rfl
 rw[BW j,BJ l];rfl
theorem gW:EV BA 1 [3]=some 0:=by
 unfold EV
 have j:(λ(a:Int)=>CU BA 1 [3] a) 0=some (.inl 1):=by
  show CU BA 1 [3] 0=_
  unfold CU
  rw[qy (by decide),show AL ([3]:List Int) 0=some 3 from rfl,AD,Um 3 2 (by decide),By,qx (by decide),show AL BA.Nodes ((2:Nat):Int)=some HA from rfl,AD,Pt,AD]
  rfl
 have l:(λ(a:Int)=>CU BA 1 [3] a) 1=some (.inr (.nrm ())):=by
  show CU BA 1 [3] 1=_
  unfold CU;rfl
 rw[BW j,BJ l];rfl
theorem ZA k:EV BA k []=some 0:=by
 unfold EV
 have j:(λ(a:Int)=>CU BA k [] a) 0=some (.inr (.nrm ())):=by
  show CU BA k [] 0=_
  unfold CU;rfl
 rw[BJ j];rfl
theorem iA:Em BA=some 0:=by
 unfold Em
 have j:(λ(a:Int)=>CL BA a) 0=some (.inl 1):=by
  show CL BA 0=_
  unfold CL
  rw[qy (by decide),show AL BA.Nodes 0=some Dh from rfl,AD,Do];rfl
 have l:(λ(a:Int)=>CL BA a) 1=some (.inl 2):=by
  show CL BA 1=_
  unfold CL
  rw[qy (by decide),show AL BA.Nodes 1=some Db from rfl,AD,iO];rfl
 have a3:(λ(a:Int)=>CL BA a) 2=some (.inl 3):=by
  show CL BA 2=_
  unfold CL
  rw[qy (by decide),show AL BA.Nodes 2=some HA from rfl,AD,ci];rfl
 have a4:(λ(a:Int)=>CL BA a) 3=some (.inr (.nrm ())):=by
  show CL BA 3=_
  unfold CL;rfl
 have b1:(λ(a:Int)=>Ch BA a) 0=some (.inl 1):=by
  show Ch BA 0=_
  unfold Ch
  rw[qy (by decide),show AL BA.Nodes 0=some Dh from rfl,AD,Ua Dh (by decide) rfl,AD,show Dh.Kind=0 from rfl,show CQ Dh.Flow=[2] from by decide,dN];rfl
 have b2:(λ(a:Int)=>Ch BA a) 1=some (.inl 2):=by
  show Ch BA 1=_
  unfold Ch
  rw[qy (by decide),show AL BA.Nodes 1=some Db from rfl,AD,Ua Db (by decide) rfl,AD,show Db.Kind=1 from rfl,show CQ Db.Flow=[3] from by decide,gW];rfl
 have b3:(λ(a:Int)=>Ch BA a) 2=some (.inl 3):=by
  show Ch BA 2=_
  unfold Ch
  rw[qy (by decide),show AL BA.Nodes 2=some HA from rfl,AD,Ua HA (by decide) rfl,AD,show CQ HA.Flow=[] from by decide,ZA];rfl
 have m:(λ(a:Int)=>Ch BA a) 3=some (.inr (.nrm ())):=by
  show Ch BA 3=_
  unfold Ch;rfl
 rw[qx (by decide),BW j,BW l,BW a3,BJ a4,BW b1,BW b2,BW b3,BJ m];rfl
theorem Po:Bt BA:=⟨mQ,λn j=>by rw[bB n j];exact λx l=>(by cases l),iA⟩
theorem jx:Iv []=some ([],0):=by
 obtain⟨j,l,q,B,m⟩:=XM (l:=[]) (by decide) (λx C=>(by cases C))
 have E:j=[]:=ss.1 (by have:=q.li;simpa using this)
 subst E
 obtain⟨e,M,w⟩:=q.fo (by decide)
 have F:=YR m w
 have I:=Yt w
 have A:=ss.1 (Nat.le_zero.1 I)
 rw[F,A]
 rw[(List.append_eq_nil_iff.1 A).1];rfl
theorem S4{d}(hg:Bt d){i}(l:Ba d i)(m:(AJ d i).Draw=[]):GV d (AJ d i)=[]:=by
 obtain⟨q,w,A,_⟩:=hg.node l
 obtain⟨L,X,B,j,_⟩:=Pv hg.ids hg.ok.1 hg.srt q w A
 rw[m,jx] at j
 have C:L++X=[]:=by injection j with j;injection j with j _;exact j.symm
 unfold GV
 rw[B,(List.append_eq_nil_iff.1 C).1];rfl
theorem og p b:kids BA ⟨1,p,b⟩ (AJ BA 1)=[⟨2,1,b⟩]:=by
 have j:GN BA ⟨1,p,b⟩ (AJ BA 1)=[]:=by unfold GN;rw[S4 Po ⟨0,by decide⟩ rfl];rfl
 unfold kids;rw[j];rfl
theorem fW p b:kids BA ⟨2,p,b⟩ (AJ BA 2)=[⟨3,2,b⟩]:=by
 have j:GN BA ⟨2,p,b⟩ (AJ BA 2)=[]:=by unfold GN;rw[S4 Po ⟨1,by decide⟩ rfl];rfl
 unfold kids;rw[j];rfl
theorem oc p b:kids BA ⟨3,p,b⟩ (AJ BA 3)=[]:=by
 have j:GN BA ⟨3,p,b⟩ (AJ BA 3)=[]:=by unfold GN;rw[S4 Po ⟨2,by decide⟩ rfl];rfl
 unfold kids;rw[j];rfl
theorem ZI:Bp BA=[⟨1,0,true⟩,⟨2,1,true⟩,⟨3,2,true⟩]:=by
 have j:CD BA (1+1) [⟨1,0,true⟩,⟨2,1,true⟩] ⟨3,2,true⟩=[⟨1,0,true⟩,⟨2,1,true⟩,⟨3,2,true⟩]:=by
  rw[Pw,qx (by decide)]
  dsimp only
  rw[oc];rfl
 have l:CD BA (2+1) [⟨1,0,true⟩] ⟨2,1,true⟩=[⟨1,0,true⟩,⟨2,1,true⟩,⟨3,2,true⟩]:=by
  rw[Pw,qx (by decide)]
  dsimp only
  rw[fW]
  exact j
 unfold Bp
 show CD BA (3+1) [] _=_
 rw[Pw,qx (by decide)]
 dsimp only
 rw[og]
 exact l
theorem aA:Fw BA 2=[3]:=by
 have hp:BU BA 3=2:=by unfold BU CV;rw[ZI];rfl
 have e0:E2 BA Db 0=true:=by unfold E2;rw[show Db.Flow[0]!.Ref=3 from rfl,hp];decide
 have j:E2 BA Db 1=false:=by unfold E2;rw[show Db.Flow[1]!.Ref=0 from rfl];simp
 have l:FR BA (BN BA 3) (AJ BA 3)=[]:=by unfold FR;rw[qx (by decide)]
 show(EO Db.Flow).flatMap (Cv BA (BN BA 3) Db)=[3]
 rw[show EO Db.Flow=[0,1] from by decide]
 have m:Cv BA (BN BA 3) Db 0=[3]:=by
  unfold Cv
  rw[e0,qy rfl,show Db.Flow[0]!.Ref=3 from rfl,l]
 have q:Cv BA (BN BA 3) Db 1=[]:=by
  unfold Cv
  rw[j,qx (by decide)]
 simp only[sC,List.flatMap_nil,m,q]
 rfl
theorem km:Hp BA 2=some ([AP.mk 3 1 false],0):=by
 rw[Xs Po,show B5 BA.Nodes 2=some 1 from by decide]
 dsimp only
 rw[qy (by rfl),aA]
 rfl
theorem fh:M4=some true:=by
 unfold M4
 rw[show L7=some (AN.mk 10 0 []) from rfl,AD,show Px [AN.mk 0 3 [],AN.mk 10 0 []]=some [Dh,Db] from rfl,AD,jZ (by decide),AD]
 show CE (Hp BA 2) _=_
 rw[km,By,aO,AD]
 rfl
theorem pL(d:AR) node(h:Id d)(hd:∀n∈d.Nodes,Iz n.Draw):Ri d node=some true:=by
 obtain⟨e,m,q⟩:=nV d h
 unfold Ri
 rw[fh,AD,qx (by decide)]
 by_cases j:e=0
 ·subst j
  have hg:Bt d:=⟨h,hd,m⟩
  rw[Xs hg node,fH hg q node]
  cases w:B5 d.Nodes node with
  | none=>rfl
  | some k=>
   dsimp only
   by_cases l:Ds d.Nodes[k]!.Kind=some true
   ·rw[qy l,qy l,By,AD,qx (by decide),fM hg ⟨k,w⟩,AD]
    obtain⟨_,_,E⟩:=Rb hg (id:=node) ⟨k,w⟩
    have A:=Tk (d:=d) (Fw d node) (s:=((0,0),[])) (m:=0) ⟨by simp,by decide,by decide,by decide,by decide⟩
    have F:=hg.ok.1
    have I:(DH d (Fw d node) ((0,0),[])).2.length≤1048576:=by have:=A.1;omega
    rw[qx (by simp),lm _ (by omega),Pk]
   ·rw[qx l,qx l];rfl
 ·have B:Hp d node=some ([],e):=by
   unfold Hp
   rw[m,AD,qy (by simpa using j)]
  have C:KP d node=some e:=by
   unfold KP
   rw[q,AD,qy (by simpa using j)]
  rw[B,C,By,AD,qy (by simpa using j)]
  simp
end Go.Proofs.YtifgmfoihehlbaaGreatDoor.Al

namespace Go.Proofs.YtifgmfoihehlbaaGreatDoor.Al
theorem jf{μ}{δ}(j:∀n,(n.Draw.map δ).sum+1≤μ n)(hd:∀o,o.Place.length+o.Name.length+o.Value.length+1≤δ o){d:AR}(m:(d.Nodes.map μ).sum≤1048576):∀n∈d.Nodes,Iz n.Draw:=by
 intro n l
 have q:=H4 (μ:=μ) l
 have w:=j n
 exact(oP hd n.Draw (by omega)).1
end Go.Proofs.YtifgmfoihehlbaaGreatDoor.Al
