/- Plain laws over the models, a part of them. -/
import Derived.Test.YtcgleifameckmaaGreatDoorPL1
set_option linter.all false
set_option linter.unusedVariables false
set_option linter.unusedSimpArgs false
namespace Go.Proofs.YtcgleifameckmaaGreatDoor.Al
open Go
noncomputable def Hv(d:Ac)(n:Int)(v:As)(o:List Ag):List Ag:=if FJ (Bu d v.id).Kind=some true then FO n v.id (Bu d v.id).Flow 0 false o else o
structure Rest(d:Ac)(l:List As)(done:Int->Prop):Prop where
 nd:∀v∈l,Cr d v.id
 new:∀v∈l,¬ done v.id
 pw:l.Pairwise λa b=>a.id≠b.id
theorem Rest.tail{d}{v:As}{l}{done}(h:Rest d (v::l) done):Rest d l λq=>done q\/q=v.id:=by
 obtain⟨A,B,m⟩:=h
 rw[zO] at m
 exact⟨λw j=>A w (xZ _ j),λw j hd=>hd.elim (B w (xZ _ j)) λe=>m.1 w j e.symm,m.2⟩
structure Ii(done:Int->Prop)(N:Nat)(o:List Ag):Prop where
 nd:∀c∈o,done c.Node
 len:o.length<=N * 1048576
theorem UQ{d:Ac}(hg:Cy d){v:As}(w:Cr d v.id):∃k,k<d.Nodes.length/\B4 d.Nodes v.id=some k/\Bu d v.id=d.Nodes[k]!/\d.Nodes[k]!.ID=v.id/\d.Nodes[k]!.Flow.length<=1048576/\(∀e∈d.Nodes[k]!.Flow,e.Attrs.length<=9223372036854775807)/\d.Nodes[k]!.Attrs.length<=9223372036854775807:=by
 obtain⟨k,m⟩:=w
 obtain⟨j,l⟩:=FC m
 have q:=(hg.ok.2 _ (Bs j)).ok
 exact⟨k,j,m,UJ m,l,q.fl,λe A=>by have:=(q.fa e A).1;omega,by have:=q.at_.1;omega⟩
theorem Ii.step{d}(hg:Cy d){n}{done}{N}{o}(h:Ii done N o)(v:As)(l:Cr d v.id):Ii (λq=>done q\/q=v.id) (N+1) (Hv d n v o):=by
 obtain⟨k,m,B,w,e2,C,_,_⟩:=UQ hg l
 unfold Hv
 split
 .refine⟨ko (λq=>done q\/q=v.id) n v.id (.inr rfl) _ _ _ _ λc j=>.inl (h.nd c j),?_⟩
  have A:=lc n v.id (Bu d v.id).Flow 0 false o
  rw[w] at A ⊢
  have:=h.len
  omega
 .exact⟨λc j=>.inl (h.nd c j),xW h.len (xi _ (zH N))⟩
theorem Ii.last{done}{N}{o}(h:Ii done N o){q}(j:¬ done q):o≠[]->(CP o).Node≠q:=λl e=>j (e ▸ h.nd _ (dX l))
theorem fL{d:Ac}(hg:Cy d){n}(A:Jz n):∀(l:List As) (done:Int->Prop) (N:Nat) (o:List Ag),Rest d l done->Ii done N o->N+l.length<=1048576 ->
  EC (λs=>m2 (I5 d n s)) (l.map Fv) o=some (l.foldl (λo v=>Hv d n v o) o)
 | [],done,N,o,m,q,B=>rfl
 | v::l,done,N,o,m,q,B=>by
  have C:=m.nd v (xY ..)
  obtain⟨k,w,E,F,e2,I,J,_⟩:=UQ hg C
  simp only[xz] at B
  have j:m2 (I5 d n o) (Fv v)=some (Hv d n v o):=by
   show I5 d n o v.id v.parent=_
   unfold I5 Hv
   rw[XJ _ hg.ok.1 hg.srt,E,AD]
   dsimp only
   rw[Ak w,AD,F]
   obtain⟨b,M⟩:∃b,FJ d.Nodes[k]!.Kind=some b:=⟨_,rfl⟩
   rw[M,AD]
   cases b with
   | true=>
    rw[wv (by decide),ww rfl,sT A _ J I o (by have:=q.len;have:=xi 1048576 (show N<=1048575 by omega);omega) (q.last (m.new v (xY ..))),G6]
   | false=>rw[ww (by decide),wv (by simp)]
  rw[xj]
  simp only[EC,j,yJ,yK]
  exact fL hg A l _ (N+1) _ m.tail (q.step hg v C) (by omega)
theorem Z7{d}(hg:Cy d):∀(l:List As) (done:Int->Prop) (N:Nat) (s:List Ae × List (Int × Int)),Rest d l done->I8 d done N s->N+l.length<=1048576 ->
  ∃m,EC (λs=>m2 (Ij d s.1 s.2)) (l.map Fv) s=some (l.foldl (λt v=>G0 d v t) s.1,m)
 | [],done,N,s,q,w,A=>⟨s.2,rfl⟩
 | v::l,done,N,s,q,w,A=>by
  simp only[xz] at A
  have B:=q.nd v (xY ..)
  obtain⟨m,C,E⟩:=w.step hg (by omega) v B (q.new v (xY ..))
  obtain⟨F,I⟩:=Z7 hg l _ (N+1) _ q.tail E (by omega)
  refine⟨F,?_⟩
  have j:m2 (Ij d s.1 s.2) (Fv v)=some (G0 d v s.1,m):=C
  rw[xj]
  simp only[EC,j,yJ,yK]
  exact I
theorem TS{d}(hg:Cy d):Rest d (DH d) λ_=>False:=⟨(Ng hg).2,λ_ _ h=>h,(Ng hg).1⟩
theorem WZ:Ii (λ_=>False) 0 []:=⟨λc j=>(by cases j),yL _⟩
theorem WF d:I8 d (λ_=>False) 0 ([],[]):=⟨λq=>rfl,λq k h=>(by cases h),λ_ h=>h.elim,yL _,λt j=>(by cases j)⟩
noncomputable def UT(d:Ac)(n:Int):List Ag:=(DH d).foldl (λo v=>Hv d n v o) []
noncomputable def In(d:Ac):List Ae:=(DH d).foldl (λt v=>G0 d v t) []
theorem rt{d:Ac}(hg:Cy d){n}(M:Jz n):iter (λ(a:Int × (List Ag) × (List Ae))=>Lm d n ((DH d).map BS) a.1 a.2.1 a.2.2) (0,[],[])=some (UT d n,In d):=by
 have O:=(Ng hg).len
 have T:=hg.ok.1
 have:=Ex (f:=λ(a:Int × (List Ag) × (List Ae))=>Lm d n ((DH d).map BS) a.1 a.2.1 a.2.2) (DH d) (λ(c:List Ag × List Ae) k=>((k:Int),c.1,c.2)) (λr c=>(r.foldl (λo v=>Hv d n v o) c.1,r.foldl (λt v=>G0 d v t) c.2))
  (λk c=>∃done m,Rest d ((DH d).drop k) done/\Ii done k c.1/\I8 d done k (c.2,m))
  (λk c A J=>by
   obtain⟨done,m,w,B,C⟩:=J
   rw[ft A] at w
   have E:=w.nd _ (xY ..)
   obtain⟨j,F,U,V,e2,X,Z,e5⟩:=UQ hg E
   obtain⟨m',_,h3⟩:=C.step hg (by omega) _ E (w.new _ (xY ..))
   refine .inl ⟨(Hv d n (DH d)[k]! c.1,G0 d (DH d)[k]! c.2),?_,⟨_,m',w.tail,B.step hg _ E,h3⟩,by rw[yK,yK]⟩
   dsimp only
   have I:k<((DH d).map BS).length:=by simpa using A
   unfold Lm
   rw[ww (by simpa using A),Ei I,AD,List.getElem_map,<- xg (DH d) k A]
   show B3 (AB (Gs d (DH d)[k]!.id) _) _=_
   rw[PZ d _ T,U,AD]
   dsimp only
   have l:=B.last (w.new _ (xY ..))
   rw[<- e2] at l
   rw[Ak F,AD,jH M _ Z X c.1 (by have:=B.len;have:=xi 1048576 (show k<=1048575 by omega);omega) l,AD]
   unfold Hv G0
   rw[V,e2]
   by_cases q:d.Nodes[j]!.Kind=12
   .rw[ww (w9 q),ww q,oH c.2 _ e5 (by have:=C.len;dsimp only at this;omega) (λt ht=>by have:=C.rep t ht;omega),AD,By,Au (by omega),AD,e2]
   .rw[wv (by simpa using q),wv q,By,Au (by omega),AD])
  (λc J=>by
   dsimp only
   unfold Lm
   rw[wv (by simp)]
   rfl) ([],[]) ⟨λ_=>False,[],by rw[zL];exact TS hg,WZ,WF d⟩ _ rfl
 exact this
theorem iw{d:Ac}(hg:Cy d){n}(l:Jz n):∃o e,KW d n=some (o,e)/\(match B4 d.Nodes n with | none=>e=7/\o=[] | some k=>if d.Nodes[k]!.Kind=12 then e=0/\o=UT d n else e=8/\o=[]):=by
 have m:=(Ng hg).len
 have q:=hg.ok.1
 have w:=fL hg l (DH d) _ 0 [] (TS hg) WZ (by omega)
 unfold KW N5
 rw[hg.ch,AD,wv (by decide),XJ _ q hg.srt,AD]
 cases B:B4 d.Nodes n with
 | none=>exact⟨[],7,rfl,rfl,rfl⟩
 | some k=>
  obtain⟨C,_⟩:=FC B
  dsimp only
  rw[wv (by simp only[xG];omega),Ak C,AD]
  by_cases j:d.Nodes[k]!.Kind=12
  .rw[wv (Cv j),AD,wv (by decide)]
   unfold M9
   rw[fV hg.ok,AD,AD]
   have:=cT hg (λ(a:List Ag)=>I5 d n a) [] w
   refine⟨_,0,?_,by rw[ww j];exact⟨rfl,rfl⟩⟩
   show AB (rng2 (λA=>GO A [] d) (λ(a:List Ag)=>I5 d n a) []) _=_
   rw[this,AD]
   rfl
  .rw[ww (DJ j),AD,ww (by decide)]
   grind
theorem mQ{d}(hg:Cy d):Kf d=some (In d,0):=by
 have j:=(Ng hg).len
 have q:=hg.ok.1
 obtain⟨m,l⟩:=Z7 hg (DH d) _ 0 ([],[]) (TS hg) (WF d) (by omega)
 unfold Kf M9
 rw[hg.ch,AD,wv (by decide),fV hg.ok,AD,AD]
 have:=cT hg (λ(a:(List Ae) × (List (Int × Int)))=>Ij d a.1 a.2) ([],[]) l
 show B3 (rng2 (λA=>GO A [] d) (λ(a:(List Ae) × (List (Int × Int)))=>Ij d a.1 a.2) ([],[])) _=_
 rw[this,By]
 rfl
theorem qy(o:List Ag)(j:o.length<=1125899906842624):iter (λ(a:Int)=>Ha o o a) 0=some (.nrm ()):=by
 refine Ex (f:=λ(a:Int)=>Ha o o a) o (λ(_:Unit) k=>(k:Int)) (λ_ _=>(.nrm ():A3 Unit Bool)) (λ_ _=>True) (λk c l _=>.inl ⟨(),?_,trivial,rfl⟩) (λc _=>?_) () trivial _ rfl
 .grind [Ha,Ak,AD,Au]
 .grind [Ha]
theorem Z8 o:iter (λ(a:Int)=>Ha [] o a) 0=some (.nrm ()):=by
 refine Ex (f:=λ(a:Int)=>Ha [] o a) ([]:List Ag) (λ(_:Unit) k=>(k:Int)) (λ_ _=>(.nrm ():A3 Unit Bool)) (λ_ _=>True) (λk c j _=>by simp at j) (λc _=>?_) () trivial _ rfl
 grind [Ha]
theorem ku(l:List Ae)(j:l.length<=1048576)(m:∀t∈l,t.Replies.length<=1048576):iter (λ(a:Int)=>IT l l a) 0=some (.nrm ()):=by
 refine Ex (f:=λ(a:Int)=>IT l l a) l (λ(_:Unit) k=>(k:Int)) (λ_ _=>(.nrm ():A3 Unit Bool)) (λ_ _=>True) (λk c q _=>.inl ⟨(),?_,trivial,rfl⟩) (λc _=>?_) () trivial _ rfl
 .grind [IT,Ak,AD,sY,Bs,Av,Au]
 .grind [IT]
theorem Y0{d}(hg:Cy d){n} : ∀(l:List As) (done:Int->Prop) (N:Nat) (o:List Ag) (s:List Ae × List (Int × Int)),Rest d l done->Ii done N o->I8 d done N s->N+l.length<=1048576 ->
  (l.foldl (λo v=>Hv d n v o) o).length<=(N+l.length) * 1048576/\(l.foldl (λt v=>G0 d v t) s.1).length<=N+l.length/\∀t∈l.foldl (λt v=>G0 d v t) s.1,t.Replies.length<=N+l.length
 | [],done,N,o,s,j,w,q,A=>⟨w.len,q.len,q.rep⟩
 | v::l,done,N,o,s,j,w,q,A=>by
  simp only[xz] at A ⊢
  have B:=j.nd v (xY ..)
  obtain⟨m,_,C⟩:=q.step hg (by omega) v B (j.new v (xY ..))
  have:=Y0 hg (n:=n) l _ (N+1) _ _ j.tail (w.step (n:=n) hg v B) C (by omega)
  rw[show N+(l.length+1)=N+1+l.length by omega]
  exact this
theorem tm(d:Ac)(n:Int)(h:JR d)(hd:∀n∈d.Nodes,Jp n.Draw)(l:Jz n):Sc d n=some true:=by
 have C:=h.1
 obtain⟨e,E,m⟩:=tX d h
 unfold Sc S5
 rw[AD,wv (by decide)]
 by_cases q:e=0
 .subst q
  have hg:Cy d:=⟨h,hd,E⟩
  have F:=(Ng hg).len
  obtain⟨o,e,I,w⟩:=iw hg l
  obtain⟨V,J,M⟩:=Y0 hg (n:=n) (DH d) _ 0 [] ([],[]) (TS hg) WZ (WF d) (by omega)
  have X:iter (λ(a:Int)=>IT (In d) (In d) a) 0=some (.nrm ()):=ku _ (by have O:(In d).length<=0+(DH d).length:=J;omega) λt T=>by have:=M t T;omega
  have A:(if((!((0:Int)=0))||(!(((In d).length:Int)=((In d).length:Int)))) then(some false) else(A7 (iter (λ(a:Int)=>IT (In d) (In d) a) 0) λ(Z:Unit)=>some true))=some true:=by
   simp_all
  rw[I,By,mQ hg,By,m,AD,wv (by decide),rx hg,AD,rt hg l,By,PZ d n C,AD]
  cases B:B4 d.Nodes n with
  | none=>
   grind [Mx,Z8]
  | some k=>
   obtain⟨U,_⟩:=FC B
   rw[B] at w
   dsimp only at w ⊢
   rw[wv (by simp only[xG];omega),Ak U,AD]
   grind [Cv,Mx,qy,UT,DH,DJ,Z8]
 .have hC:KW d n=some ([],e):=by
   grind [KW,N5,AD,DJ]
  have j:Kf d=some ([],e):=by
   grind [Kf,AD,DJ]
  rw[hC,By,j,By,m,AD,ww (DJ q)]
  simp only[decide_true,zk,yS,Av,zq]
  rfl
end Go.Proofs.YtcgleifameckmaaGreatDoor.Al

namespace Go.Proofs.YtcgleifameckmaaGreatDoor.Al
theorem lq{μ}{δ}(j:∀n,(n.Draw.map δ).sum+1<=μ n)(hd:∀o,o.Place.length+o.Name.length+o.Value.length+1<=δ o){d:Ac}(m:(d.Nodes.map μ).sum<=1048576):∀n∈d.Nodes,Jp n.Draw:=by
 intro n l
 have q:=Jf (μ:=μ) l
 have w:=j n
 exact(oP hd n.Draw (by omega)).1
end Go.Proofs.YtcgleifameckmaaGreatDoor.Al
