/- Plain laws over the models, a part of them. -/
import Derived.Test.YtgcalnmhoifpoaaGreatDoorPL1
set_option linter.all false
namespace Go.Proofs.YtgcalnmhoifpoaaGreatDoor.Al
def IV:List UInt8:=[99,117,116]
def Ho:List UInt8:=[97,100,100]
def Hm(au:List UInt8)(b:Bool)(x:AD):Un:=if b=false then .r false [] else if au=[]∨Du x.Attrs Ho=au then .r true [] else .r false [⟨IV,au⟩]
def GS(au:List UInt8)(g:List Bool)(f:List AD):List Un:=List.zipWith (Hm au) g f
theorem oW(f:List AD){a m}(h:a+m≤(Be f).length):Bx (shown f 0 f.length) (a:Int) ((a+m:Nat):Int)=some (((Be f).drop a).take m |>.map λ(i:Nat)=>(i:Int)):=by
 unfold Bx
 have j:=Uu f
 rw[vh (by omega),V9]
 congr 1
 rw[← List.map_drop,← ya]
 congr 1
 rw[wd,wd,show a+m-a=m by omega]
theorem oF f{a m x}(h:a+m≤(Be f).length)(j:x<m):((Be f).drop a |>.take m)[x]?=some (Be f)[a+x]!:=by
 rw[wW,vh j,xJ,vo (by omega),vr _ _ (by omega)]
theorem qK f{a m}(h:a+m≤(Be f).length):((Be f).drop a |>.take m).length=m:=by
 rw[wi,we];omega
def Dp(f:List AD)(a m:Nat):List Bool:=(List.range f.length).map λi=>decide (∃j,j<m∧(Be f)[a+j]! = i)
theorem Lo(f:List AD) a m:(Dp f a m).length=f.length:=by simp[Dp]
theorem lC(f:List AD) a:Dp f a 0=List.replicate f.length false:=by
 refine yq (by simp[Dp]) λi _ _=>?_
 simp[Dp]
theorem lr f{a m}(h:a+m<(Be f).length):(Dp f a m).set (Be f)[a+m]! true=Dp f a (m+1):=by
 refine yq (by simp[Dp]) λi u l=>?_
 rw[List.getElem_set]
 simp only[Dp,zL,zX]
 split
 ·rename_i e
  symm
  exact vj ⟨m,by omega,e⟩
 ·rename_i e
  rw[wc,vi,vi]
  constructor
  ·rintro⟨j,u,l⟩;exact⟨j,by omega,l⟩
  ·rintro⟨j,A,q⟩
   refine⟨j,?_,q⟩
   by_cases w:j=m
   ·subst w;exact absurd q e
   ·omega
theorem pA(f:List AD){a m}(h:a+m≤(Be f).length)(E:f.length≤1048576) :
  iter (λ(s:Int × (List Bool))=>KG (((Be f).drop a |>.take m).map λ(i:Nat)=>(i:Int)) s.1 s.2) (0,List.replicate f.length false)=some (Dp f a m):=by
 have F:=M0 f
 have j:=qK f h
 obtain⟨b,w,A⟩:=EL (f:=λ(s:Int × (List Bool))=>KG (((Be f).drop a |>.take m).map λ(i:Nat)=>(i:Int)) s.1 s.2) m (λk u=>u=((k:Int),Dp f a k)) (λb=>b=Dp f a m) (s:=(0,List.replicate f.length false)) (λk u q l=>by
  subst l
  left
  refine⟨_,?_,rfl⟩
  unfold KG
  dsimp only
  have B:=Te (f:=f) (k:=a+k) (by omega)
  have C:AM (((Be f).drop a |>.take m).map λ(i:Nat)=>(i:Int)) (k:Int)=some (((Be f)[a+k]!:Nat):Int):=by
   rw[Aa (by rw[v7,j];exact q)]
   congr 1
   rw[vr _ _ (by rw[v7,j];exact q),zL]
   have:=oF f h q
   rw[vo (by rw[j];exact q)] at this
   injection this with this
   rw[this]
  rw[vh (vj (by rw[v7,j];omega)),C,AE,Aa (by rw[Lo];exact B),AE,Ad (by omega),AE,wd,lr f (by omega)]) (λu l=>by
  subst l
  refine⟨_,?_,rfl⟩
  unfold KG
  dsimp only
  rw[vg (by rw[v7,j];simp)]) (by rw[lC];rfl)
 rw[w,A]
theorem P5 au{g:List Bool}{f:List AD}(h:g.length=f.length):(GS au g f).length=f.length:=by simp[GS,h]
theorem e8 au{g:List Bool}{f:List AD}(h:g.length=f.length){k}(j:k<f.length):(GS au g f)[k]! = Hm au g[k]! f[k]!:=by
 rw[vr _ k (by rw[P5 au h];exact j),vr g k (by omega),vr f k j]
 simp[GS]
structure Jx(au:List UInt8):Prop where
 v:au=[]∨Di au=true
 l:au.length≤1073741824
theorem So{au}(h:Jx au):BC [⟨IV,au⟩] true=0∧BC [⟨Ho,au⟩,⟨IV,[]⟩] true=0:=by
 have e:∀n,ER n=true→VA true ⟨n,au⟩:=λn u=>⟨u,by rcases h.v with h | h;exact .inr ⟨rfl,h⟩;exact .inl h⟩
 have l:ER IV=true:=by decide
 have w:ER Ho=true:=by decide
 have A:VA true ⟨IV,[]⟩:=⟨l,.inr ⟨rfl,rfl⟩⟩
 refine⟨(Ju _ _).2 ⟨by simp[Bs],λx j=>by rw[wz] at j;subst j;exact e _ l⟩,(Ju _ _).2 ⟨?_,λx j=>?_⟩⟩
 ·unfold Bs
  rw[List.pairwise_cons]
  refine⟨λy q=>?_,by simp⟩
  rw[wz] at q;subst q
  show Ay Ho IV=true
  decide
 ·rcases wC.1 j with rfl | j
  ·exact e _ w
  ·rw[wz] at j;subst j;exact A
theorem sC{au}(h:Jx au)(b:Bool)(x:AD):IO (Hm au b x):=by
 unfold Hm
 split
 ·exact⟨λ_=>NW,λh=>(by cases h),by simp⟩
 split
 ·exact⟨λh=>(by cases h),λ_=>rfl,by simp⟩
 ·exact⟨λ_=>(So h).1,λh=>(by cases h),by simp⟩
theorem VQ{au}(h:Jx au)(g:List Bool)(f:List AD):∀u∈GS au g f,IO u:=by
 intro u j
 unfold GS at j
 rw[ww] at j
 obtain⟨k,l,rfl⟩:=j
 rw[List.getElem_zipWith]
 exact sC h _ _
theorem mo(f:List AD){au}{g:List Bool}(hg:g.length=f.length)(F:f.length≤1048576)(w:∀e∈f,e.Attrs.length≤1048576) :
  iter (λ(s:Int × (List AI))=>KE f au g s.1 s.2) (0,[])=some ((GS au g f).map Dg):=by
 have:=TY (f:=λ(s:Int × (List AI))=>KE f au g s.1 s.2) (GS au g f) (λk o=>((k:Int),o)) (λo u=>o++[Dg u]) (λo=>o) (λo k=>o.length≤k)
  (λb k j I=>by simp;omega) (λo k j C=>by
   rw[P5 au hg] at j
   rw[e8 au hg j]
   dsimp only
   unfold KE Hm
   rw[vh (by simpa using j),Aa j,AE,Aa (by omega),AE]
   cases g[k]! with
   | false=>rw[vh (show(!false)=true from rfl),AE,Hq (by omega),AE,Ad (by omega),vh (show false=false from rfl)];rfl
   | true=>
    rw[vg (by decide),vg (by decide)]
    by_cases A:au=[]
    ·subst A
     rw[vj rfl,vh (.inl rfl)]
     show AB (AB (some default) λB=>if(true||(B=[]))=true then _ else _) _=_
     rw[AE,vh (show(true||((default:List UInt8)=[]))=true from rfl),AE,Hq (by omega),AE,Ad (by omega)];rfl
    ·rw[vk A]
     show AB (AB (It f[k]!.Attrs Ho) λB=>if(false||(B=au))=true then _ else _) _=_
     rw[ST _ _ (by have:=w _ (BT j);omega),AE]
     by_cases q:Du f[k]!.Attrs Ho=au
     ·rw[vh (by simpa using q),AE,Hq (by omega),AE,Ad (by omega),vh (.inr q)];rfl
     ·rw[vg (by simpa using q),AE,Hq (by omega),AE,Ad (by omega),vg (by rintro(h | h);exact A h;exact q h)];rfl) (λo C=>by
   rw[P5 au hg]
   dsimp only
   unfold KE
   rw[vg (by simp)]) [] (by simp)
 rw[show((0:Nat):Int)=0 from rfl] at this
 rw[this]
 congr 1
 have key:∀(l:List Un) (o:List AI),l.foldl (λo u=>o++[Dg u]) o=o++l.map Dg:=by
  intro l
  induction l with
  | nil=>simp
  | cons x l E=>intro o;rw[wT,E];simp
 rw[key];rfl
theorem uW(f:List AD){au}(j:Jx au){a m}(h:a+m≤(Be f).length)(l:f.length≤1048576)(q:∀e∈f,e.Attrs.length≤1048576) :
  QQ f (((Be f).drop a |>.take m).map λ(i:Nat)=>(i:Int)) au=some (BN (GS au (Dp f a m) f)):=by
 unfold QQ
 rw[uZ (by omega),AE,pA f h l,AE,mo f (Lo f a m) l q,AE,ld _ (VQ j _ _) (by rw[P5 au (Lo f a m)];exact l)]
 rfl
def Aw(f:List AD)(a:Nat):Nat:=if a=0 then 0 else(Be f)[a-1]!+1
theorem jw(f:List AD){a}(h:a≤(Be f).length):Aw f a≤f.length:=by
 unfold Aw
 split
 ·omega
 ·have:=Te (f:=f) (k:=a-1) (by omega);omega
theorem uR(f:List AD){a}(h:a≤(Be f).length)(l:f.length≤1048576):Nz (shown f 0 f.length) (a:Int)=some (Aw f a:Int):=by
 have q:=M0 f
 unfold Nz Aw
 by_cases j:a=0
 ·subst j;rfl
 ·have:=Te (f:=f) (k:=a-1) (by omega)
  rw[vg (by simp only[vi];omega),FH (by omega) (by omega),AE,PD (by omega),AE,Ad (by omega),AE,vg j]
def marks(au:List UInt8):List AC:=[⟨Ho,au⟩,⟨IV,[]⟩]
theorem iZ(f:List AD)(l:f.length≤4294967296)(h:∀e∈f,Co e.Attrs):QH f=some f:=by
 unfold QH
 rw[RO _ l,AE]
 have:=RF (f:=λ(a:Int × List AD)=>JP f a.1 a.2) f (λx=>x) (AD.mk 0 0 []) (λk out j q=>by
  show JP f (k:Int) out=_
  unfold JP
  rw[vh (by simpa using j),Aa j,AE,NX (h _ (BT j)).1,AE,Aa (by omega),AE,Ad (by omega)]
  rfl) (λout=>by
  show JP f (f.length:Int) out=_
  unfold JP
  rw[vg (by simp)])
 rw[this]
 simp
def CE(g:Nat)(L:List AD)(r:Nat):List Un:=List.replicate g (.r false [])++(L.map Un.a++List.replicate r (.r false []))
theorem uS au(L:List AD)(B:L.length≤1048576)(h:∀e∈L,e.Attrs.length≤1073741824) :
  iter (λ(a:Int × (List AD))=>LF au L a.1 a.2) (0,L)=some (L.map (Cw (marks au))):=by
 obtain⟨b,w,A⟩:=EL (f:=λ(a:Int × (List AD))=>LF au L a.1 a.2) L.length (λk q=>q=((k:Int),(L.take k).map (Cw (marks au))++L.drop k)) (λb=>b=L.map (Cw (marks au))) (s:=(0,L)) (λk q j l=>by
  subst l
  left
  refine⟨_,?_,rfl⟩
  unfold LF
  dsimp only
  have u:((L.take k).map (Cw (marks au))++L.drop k).length=L.length:=by simp;omega
  have hg:((L.take k).map (Cw (marks au))++L.drop k)[k]! = L[k]!:=by
   rw[vr _ k (by rw[u];exact j),yU (by simp;omega),vr L k j]
   simp
   congr 1
   omega
  have C:=h _ (BT j)
  rw[vh (by simpa using j),Aa (by rw[u];exact j),hg,AE,cA _ _ (by rw[v6,wg];omega),AE,Ad (by omega),AE,wd]
  congr 3
  rw[yi _ _ (by rw[v7,wi];omega),v7,wi,show k-min k L.length=0 by omega,Hd j,ye,Fi j,yF,vy]
  rfl) (λq l=>by
  subst l
  refine⟨_,?_,rfl⟩
  unfold LF
  dsimp only
  rw[vg (by simp),xf,zK,wG]) (by simp)
 rw[w,A]
def VG(u:Un):Prop:=∀t,u≠.r true t
theorem Up:∀(us:List Un) (s:DS),I8 s→s.cuts=0→(∀u∈us,VG u)→Ag (BJ (us.foldl dU s))=Ag (BJ s)++us
 | [],s,_,_,_=>by simp
 | .a e::us,s,w,A,l=>by
  have j:I8 (dU s (.a e)):=w
  have q:(dU s (.a e)).cuts=0:=A
  rw[wT,Up us _ j q λv B=>l v (vp _ B),(NF _ j).1,(NF s w).1,A,q]
  have C:Ia (dU s (.a e))=Ia s++[.a e]:=by
   show Ag s.out++(s.adds++[e]).map Un.a=_
   unfold Ia
   rw[yF,vy];rfl
  rw[C]
  simp
 | .r true t::us,s,_,_,l=>absurd rfl (l _ (vn ..) t)
 | .r false t::us,s,w,A,l=>by
  obtain⟨M,E⟩:=NF s w
  obtain⟨F,I⟩:=Wf t E
  have j:I8 (dU s (.r false t)):=I
  have J:Ag (BJ (dU s (.r false t)))=Ag (BJ s)++[.r false t]:=by
   show Ag (BJ ⟨Gq (BJ s) t,[],0⟩)=_
   rw[TE,F]
  rw[wT,Up us _ j rfl λv B=>l v (vp _ B),J,vy];rfl
theorem eq{us}(h:∀u∈us,VG u):Ag (BN us)=us:=Up us D0 (λx j=>by cases j) rfl h
theorem gj{g r}{L}{u}(h:u∈CE g L r):u=.r false []∨∃e∈L,u=.a e:=by
 unfold CE at h
 rcases wX.1 h with h | h
 ·exact .inl (xK h)
 ·rcases wX.1 h with h | h
  ·obtain⟨e,j,rfl⟩:=wu.1 h
   exact .inr ⟨e,j,rfl⟩
  ·exact .inl (xK h)
theorem Zq g L r:∀u∈CE g L r,VG u:=by
 intro u j t e
 subst e
 rcases gj j with h | ⟨_,_,h⟩<;>cases h
theorem Vv{g r}{L}(h:∀e∈L,Bq e=0∧e.Attrs.length≤1048576):∀u∈CE g L r,GY u:=by
 intro u j
 rcases gj j with rfl | ⟨e,l,rfl⟩
 ·exact⟨λ_=>NW,λh=>(by cases h),by simp⟩
 ·exact h e l
theorem SI g(L:List AD) r:(CE g L r).length=g+(L.length+r):=by simp[CE]
theorem X3 n c t:Ao (List.replicate n (.r c t))=n:=by unfold Ao;rw[xp];rfl
theorem Vn(L:List AD):Ao (L.map Un.a)=0:=by
 induction L with
 | nil=>rfl
 | cons e L j=>unfold Ao at j ⊢;rw[wB,List.countP_cons_of_neg (by simp[Un.isR])];exact j
theorem UB g L r:Ao (CE g L r)=g+r:=by
 unfold CE
 rw[GH,GH,X3,X3,Vn];omega
theorem ev g(L:List AD) r:BL (CE g L r)=L.length:=by
 have:=jg (CE g L r)
 rw[UB,SI] at this;omega
theorem Sa(L:List AD) r:CE 0 L r=L.map Un.a++List.replicate r (.r false []):=rfl
theorem Uw g L r:CE (g+1) L r=.r false []::CE g L r:=by unfold CE;rw[wP];rfl
def FD(u:Un):Prop:=match u with | .a _=>False | .r c t=>(c=true→t=[])∧Hk t []=t
theorem Ys:∀(E:List Un),(∀u∈E,FD u)→CJ (List.replicate E.length (.r false [])) E=List.replicate (Br E) (.r false [])
 | [],_=>by rw[yO,List.replicate_zero,CJ];rfl
 | .a e::E,h=>(h _ (vn ..)).elim
 | .r c t::E,h=>by
  have j:=Ys E λu l=>h u (vp _ l)
  rw[v6,wP,CJ,j,HU]
  cases c with
  | true=>show(if true=true then _ else _)=_;rw[vh rfl];show _=List.replicate (0+_) _;rw[wK]
  | false=>
   show(if false=true then _ else _)=_
   rw[vg (by decide)]
   show _=List.replicate (1+_) _
   rw[yf,wP];rfl
theorem eL L(j:List Un)(q:∀u∈j,FD u):∀(l:List Un),(∀u∈l,FD u)→CJ (CE l.length L j.length) (l++j)=CE (Br l) L (Br j)
 | [],_=>by
  show CJ (CE 0 L j.length) j=CE 0 L (Br j)
  rw[Sa,YH,Ys j q,Sa]
 | .a e::E,h=>(h _ (vn ..)).elim
 | .r c t::E,h=>by
  have w:=eL L j q E λu A=>h u (vp _ A)
  rw[v6,Uw,wF,CJ,w,HU]
  cases c with
  | true=>show(if true=true then _ else _)=_;rw[vh rfl];show _=CE (0+_) _ _;rw[wK]
  | false=>
   show(if false=true then _ else _)=_
   rw[vg (by decide)]
   show _=CE (1+_) _ _
   rw[yf,Uw];rfl
theorem T4:∀(E:List Un),(∀u∈E,FD u)→BZ E (List.replicate (Br E) (.r false []))=E
 | [],_=>by
  show BZ [] []=[]
  rw[BZ]
 | .a e::E,h=>(h _ (vn ..)).elim
 | .r true t::E,h=>by
  obtain⟨j,_⟩:=h _ (vn ..)
  obtain rfl:=j rfl
  have l:=T4 E λu q=>h u (vp _ q)
  rw[OX,HU,show(if E7 (.r true [])=true then 1 else 0)=0 from rfl,wK,l]
 | .r false t::E,h=>by
  obtain⟨_,j⟩:=h _ (vn ..)
  have l:=T4 E λu q=>h u (vp _ q)
  rw[HU,show(if E7 (.r false t)=true then 1 else 0)=1 from rfl,yf,wP,UE,l]
  unfold M3
  rw[vg (by decide),j]
theorem Tu L j:∀(l:List Un),(∀u∈l,FD u)→BZ (l++j) (CE (Br l) L (Br j))=l++BZ j (CE 0 L (Br j))
 | [],_=>rfl
 | .a e::E,h=>(h _ (vn ..)).elim
 | .r true t::E,h=>by
  obtain⟨q,_⟩:=h _ (vn ..)
  obtain rfl:=q rfl
  have w:=Tu L j E λu A=>h u (vp _ A)
  rw[wF,OX,HU,show(if E7 (.r true [])=true then 1 else 0)=0 from rfl,wK,w];rfl
 | .r false t::E,h=>by
  obtain⟨_,q⟩:=h _ (vn ..)
  have w:=Tu L j E λu A=>h u (vp _ A)
  rw[wF,HU,show(if E7 (.r false t)=true then 1 else 0)=1 from rfl,yf,Uw,UE,w]
  unfold M3
  rw[vg (by decide),q];rfl
theorem X6(L:List AD):∀(E:List Un) (f:List AD),(∀u∈E,FD u)→E.length=f.length→A1 (BZ E (CE 0 L (Br E))) f=L++A1 E f
 | [],f,_,j=>by
  show A1 (BZ [] (L.map Un.a++[])) f=_
  rw[wG,dK]
  have:=SG L [] f
  rw[wG] at this
  rw[this]
 | .a e::E,f,h,_=>(h _ (vn ..)).elim
 | .r true t::E,[],_,j=>by simp at j
 | .r true t::E,x::f,h,j=>by
  have l:=X6 L E f (λu q=>h u (vp _ q)) (by simpa using j)
  rw[OX,HU,show(if E7 (.r true t)=true then 1 else 0)=0 from rfl,wK,A1,l,A1]
 | .r false t::E,f,h,j=>by
  rw[Sa,QJ _ _ _ (bR t E),T4 _ h,SG]
theorem RI:∀(E:List Un) (f g:List AD) (X:List Un),(∀u∈E,FD u)→E.length=f.length→A1 (E++X) (f++g)=A1 E f++A1 X g
 | [],[],g,X,_,_=>by show A1 X g=A1 [] []++A1 X g;rw[A1];rfl
 | [],x::f,_,_,_,j=>by simp at j
 | .a e::E,_,_,_,h,_=>(h _ (vn ..)).elim
 | .r _ t::E,[],_,_,_,j=>by simp at j
 | .r true t::E,x::f,g,X,h,j=>by
  have l:=RI E f g X (λu q=>h u (vp _ q)) (by simpa using j)
  rw[wF,wF,A1,l,A1]
 | .r false t::E,x::f,g,X,h,j=>by
  have l:=RI E f g X (λu q=>h u (vp _ q)) (by simpa using j)
  rw[wF,wF,A1,l,A1];rfl
theorem kz L(j l:List Un)(f1 f2:List AD)(q:∀u∈j,FD u)(w:∀u∈l,FD u)(A:j.length=f1.length)(B:l.length=f2.length) :
  A1 (BZ (j++l) (CE (Br j) L (Br l))) (f1++f2)=A1 j f1++(L++A1 l f2):=by
 rw[Tu L l j q,RI j f1 f2 _ q A,X6 L l f2 w B]
theorem tn x:Hk [x] []=[x]:=by
 unfold Hk
 simp[Bo,FU,C3]
theorem ir au b x:FD (Hm au b x):=by
 unfold Hm
 split
 ·exact⟨λh=>(by cases h),by simp[Hk,Bo]⟩
 split
 ·exact⟨λ_=>rfl,by simp[Hk,Bo]⟩
 ·exact⟨λh=>(by cases h),tn _⟩
def Yq(e:AD):Prop:=e.Attrs.length≤1048576
def Rj(x:AI):Prop:=x.Attrs.length≤1048576∧∀e∈x.Elems,Yq e
def Ul(s:DS):Prop:=(∀x∈s.out,Rj x)∧∀e∈s.adds,Yq e
theorem gX{s}(h:Ul s):∀x∈BJ s,Rj x:=by
 intro x j
 unfold BJ at j
 rcases wX.1 j with j | j
 ·split at j
  ·rcases wX.1 j with j | j
   ·exact h.1 x j
   ·rw[wz] at j;subst j
    exact⟨by simp,h.2⟩
  ·exact h.1 x j
 ·split at j
  ·rw[wz] at j;subst j
   exact⟨by simp,λe l=>by simp at l⟩
  ·simp at j
theorem ja{l:List AI}{t:List AC}(h:∀x∈l,Rj x)(q:t.length≤1048576):∀x∈Gq l t,Rj x:=by
 intro x j
 unfold Gq at j
 split at j
 ·rename_i w
  rcases xi j with j | j
  ·exact h x j
  ·subst j
   have:=h l[l.length-1]! (BT (by omega))
   exact this
 ·rcases wX.1 j with j | j
  ·exact h x j
  ·rw[wz] at j;subst j
   exact⟨q,λe u=>by simp at u⟩
theorem gp:∀(us:List Un) (s:DS),Ul s→(∀u∈us,GY u)→Ul (us.foldl dU s)
 | [],_,h,_=>h
 | u::us,s,h,q=>by
  rw[wT]
  refine gp us _ ?_ λv w=>q v (vp _ w)
  have j:=q u (vn ..)
  match u,j with
  | .a e,j=>exact⟨h.1,λx l=>by
    rcases wX.1 l with l | l
    ·exact h.2 x l
    ·rw[wz] at l;subst l;exact j.2⟩
  | .r true t,j=>exact⟨h.1,h.2⟩
  | .r false t,j=>exact⟨ja (gX h) j.2.2,λe A=>by cases A⟩
theorem RP{us}(h:∀u∈us,GY u)(q:(BN us).length≤1048576)(w:BL us≤1048576):GD (BN us):=by
 have l:=gX (gp us D0 ⟨λx j=>(by cases j),λx j=>(by cases j)⟩ h)
 refine⟨λx j=>(l x j).1,λx j=>(l x j).2,?_,q⟩
 have:=ex us
 unfold Df at this
 rw[JA,this];exact w
structure DF(us:List Un):Prop where
 ok:Ey (BN us)
 err:CY (BN us)=0
 old:Ax (BN us)=Ao us
 now:BB (BN us)=Br us
 len:(BN us).length≤us.length
theorem Lz{us:List Un}(h:∀u∈us,DT u)(A:us.length≤4194304):DF us:=by
 have j:=JO h
 obtain⟨B,C,l,q,w,E⟩:=MJ j
 have F:=TD us
 have I:=WV us
 have a3:Ao us≤us.length:=yN
 exact⟨by rw[JA];exact Y6 h (by omega) (by omega),by rw[JA];exact co j (by omega) (by omega),by rw[JA];exact l,by rw[JA];exact q,by rw[JA];exact w⟩
theorem Y1(s:DS) n t:(ES s n t).out.length≤s.out.length+3:=by
 unfold ES
 split
 ·omega
 ·have j:=Wu (BJ s) t n
  have l:=Tz s
  show(DO (BJ s) t n).length≤_
  omega
theorem ln g(L:List AD) r:(BN (CE g L r)).length≤8:=by
 have e:Aq (CE g L r)=ES ⟨(ES D0 g []).out,(ES D0 g []).adds++L,(ES D0 g []).cuts⟩ r []:=by
  have j:=Ka [] (g:Int) [] (by omega)
  rw[yc,wd] at j
  rw[show ES D0 (g:Int) []=ES (Aq []) (g:Int) [] from rfl,j,L5]
  have e2:=Ka (List.replicate g (.r false [])++L.map Un.a) (r:Int) [] (by omega)
  rw[wd] at e2
  rw[e2]
  unfold CE
  rw[vy]
 rw[JA]
 have l:=Tz (Aq (CE g L r))
 have u:=Y1 D0 (g:Int) []
 have q:=Y1 ⟨(ES D0 g []).out,(ES D0 g []).adds++L,(ES D0 g []).cuts⟩ (r:Int) []
 rw[e] at l
 rw[e]
 have w:D0.out.length=0:=rfl
 dsimp only at q
 omega
theorem gP{n:Nat}(h:n≤1048576):D8 ⟨0,(n:Int),[],[]⟩=0:=by
 unfold D8
 by_cases j:n=0
 ·subst j;decide
 ·have:=XF (n:=(n:Int)) (t:=[]) (by omega) (by omega) NW
  rw[this]
  split<;>first | exact NW | rfl
theorem sK{A}(h:∀e∈A,Bq e=0):D8 ⟨1,0,[],A⟩=0:=by
 unfold D8
 by_cases j:A=[]
 ·subst j;decide
 ·rw[aE j h]
  split<;>first | exact NW | rfl
theorem kp(g:Nat){L:List AD}(r:Nat)(q:∀e∈L,Bq e=0∧e.Attrs.length≤1048576)(hg:g+r≤1048576)(E:L.length≤1048576):Ir [(AI.mk 0 g [] []),(AI.mk 1 0 [] L),(AI.mk 0 r [] [])]=some (BN (CE g L r),0):=by
 have w:∀e∈L,Co e.Attrs:=λe l=>HA (Ht (q e l).1) (by have:=(q e l).2;omega)
 have B:Ey [(AI.mk 0 g [] []),(AI.mk 1 0 [] L),(AI.mk 0 r [] [])]:=⟨by simp,λs j=>by
  rcases wC.1 j with rfl | j
  ·exact⟨GB,by simp,λe l=>by simp at l⟩
  rcases wC.1 j with rfl | j
  ·exact⟨GB,by show L.length≤_;omega,w⟩
  ·rw[wz] at j;subst j
   exact⟨GB,by simp,λe l=>by simp at l⟩,by simp;omega⟩
 have j:GD [(AI.mk 0 g [] []),(AI.mk 1 0 [] L),(AI.mk 0 r [] [])]:=⟨λs j=>by
  rcases wC.1 j with rfl | j
  ·simp
  rcases wC.1 j with rfl | j
  ·simp
  ·rw[wz] at j;subst j;simp,λs j=>by
  rcases wC.1 j with rfl | j
  ·intro e l;simp at l
  rcases wC.1 j with rfl | j
  ·exact λe l=>(q e l).2
  ·rw[wz] at j;subst j;intro e l;simp at l,by simp;omega,by simp⟩
 have C:=Vv (g:=g) (r:=r) q
 have hd:=Lz (λu A=>OJ (C u A)) (by rw[SI];omega)
 rw[pY _ B j,Sy,gP (by omega),vg (by simp),vg (by simp),Sy,sK λe l=>(q e l).1,vg (by simp),vg (by simp),Sy,gP (by omega),vg (by simp),vg (by simp)]
 have A:([]++BG ⟨0,(g:Int),[],[]⟩++BG ⟨1,0,[],L⟩++BG ⟨0,(r:Int),[],[]⟩)=CE g L r:=by
  rw[dW,dW,wd,wd]
  show []++List.replicate g (.r false [])++L.map Un.a++_=_
  rw[yc,vy];rfl
 rw[A]
 unfold Ki
 rw[vg (by simpa using hd.err)]
theorem aD{au}(h:Jx au){e:AD}(j:Bq e=0)(l:e.Attrs.length≤1048574):Bq (Cw (marks au) e)=0∧(Cw (marks au) e).Attrs.length≤1048576:=by
 refine⟨(XJ j (by omega) (So h).2 (by simp)).1,?_⟩
 have:=T5 FA U9 _ e.Attrs (marks au) [] rfl
 show(Bo FA e.Attrs (marks au) []).length≤_
 simp only[yO,marks,v6] at this
 unfold marks
 omega
theorem nk(f:List AD){au}(q:Jx au){g}(hg:g≤f.length)(B:f.length≤1048576){L:List AD}(l:∀e∈L,Bq e=0∧e.Attrs.length≤1048574)(w:L.length≤1048576) :
  PS f (g:Int) L au=some (BN (CE g (L.map (Cw (marks au))) (f.length-g))):=by
 have u:∀e∈L.map (Cw (marks au)),Bq e=0∧e.Attrs.length≤1048576:=by
  intro e j
  obtain⟨x,A,rfl⟩:=wu.1 j
  exact aD q (l x A).1 (l x A).2
 unfold PS
 rw[iZ L (by omega) λe j=>HA (Ht (l e j).1) (by have:=(l e j).2;omega),AE,uS au L w λe j=>by have:=(l e j).2;omega,AE]
 rw[show((f.length:Int)-(g:Int))=((f.length-g:Nat):Int) by omega,Li (by omega) (by omega),AE,kp g _ u (by omega) (by simpa using w),CB]
structure JF(E:List Un)(L:List AD)(T:List Un):Prop where
 mem:∀u∈T,u∈E∨∃e∈L,u=.a e
 cr:Ao T=E.length
 len:T.length=E.length+L.length
theorem RW:∀ {E:List Un},(∀u∈E,FD u)→Ao E=E.length
 | [],_=>rfl
 | .a e::E,h=>(h _ (vn ..)).elim
 | .r c t::E,h=>by
  have j:=RW (E:=E) λu l=>h u (vp _ l)
  unfold Ao at j ⊢
  rw[yz (by rfl),j];rfl
theorem aY(L:List AD):∀(E:List Un),(∀u∈E,FD u)→JF E L (BZ E (CE 0 L (Br E)))
 | [],_=>by
  show JF [] L (BZ [] (L.map Un.a++[]))
  rw[wG,dK]
  exact⟨λu j=>by obtain⟨e,l,rfl⟩:=wu.1 j;exact .inr ⟨e,l,rfl⟩,Vn L,by simp⟩
 | .a e::E,h=>(h _ (vn ..)).elim
 | .r true t::E,h=>by
  obtain⟨w,_⟩:=h _ (vn ..)
  obtain rfl:=w rfl
  have q:=aY L E λu j=>h u (vp _ j)
  rw[OX,HU,show(if E7 (.r true [])=true then 1 else 0)=0 from rfl,wK]
  refine⟨λu j=>?_,?_,?_⟩
  ·rcases wC.1 j with rfl | j
   ·exact .inl (vn ..)
   ·rcases q.mem u j with h | h
    ·exact .inl (vp _ h)
    ·exact .inr h
  ·have:=q.cr
   unfold Ao at this ⊢
   rw[yz (by rfl),this];rfl
  ·rw[v6,q.len,v6];omega
 | .r false t::E,h=>by
  rw[Sa,QJ _ _ _ (bR t E),T4 _ h]
  refine⟨λu j=>?_,?_,?_⟩
  ·rcases wX.1 j with j | j
   ·obtain⟨e,l,rfl⟩:=wu.1 j;exact .inr ⟨e,l,rfl⟩
   ·exact .inl j
  ·rw[GH,Vn,RW h];omega
  ·simp;omega
theorem ff{us}(h:∀u∈us,GY u):De us:=by
 intro u j
 have:=h u j
 match u,this with
 | .a e,h=>exact h
 | .r c t,h=>exact h
theorem UZ{u}(h:IO u):GY u:=by
 match u,h with
 | .r c t,h=>exact⟨h.1,h.2.1,by have:=h.2.2;omega⟩
theorem TS au g f:∀u∈GS au g f,FD u:=by
 intro u j
 unfold GS at j
 rw[ww] at j
 obtain⟨k,l,rfl⟩:=j
 rw[List.getElem_zipWith]
 exact ir _ _ _
abbrev Bl(f:List AD)(au:List UInt8)(a m:Nat):List Un:=GS au (Dp f a m) f
def DG(au:List UInt8)(L:List AD):List AD:=L.map (Cw (marks au))
def Ff(f:List AD)(au:List UInt8)(a m:Nat)(L:List AD):List Un:=CE (Br ((Bl f au a m).take (Aw f a))) (DG au L) (Br ((Bl f au a m).drop (Aw f a)))
def FB(f:List AD)(au:List UInt8)(a m:Nat)(L:List AD):List Un:=BZ (Bl f au a m) (Ff f au a m L)
def Ew(node:Int)(d:List AI):BS:=BS.mk 2 node (Ak.mk 0 0 [] [] (BX.mk 0 0 [] []) []) [] d (Ez.mk [] [] [] [] []) []
structure Bw(f:List AD)(au:List UInt8)(a m:Nat)(L:List AD):Prop where
 au:Jx au
 win:a+m≤(Be f).length
 fl:f.length≤262144
 fe:∀e∈f,Bq e=0∧e.Attrs.length≤1048576
 le:∀e∈L,Bq e=0∧e.Attrs.length≤1048574
 ll:L.length≤20000
section
variable{f:List AD}{au:List UInt8}{a m:Nat}{L:List AD}
theorem Bw.el(_:Bw f au a m L):(Bl f au a m).length=f.length:=P5 au (Lo f a m)
theorem Bw.gl(h:Bw f au a m L):Aw f a≤f.length:=jw f (by have:=h.win;omega)
theorem Bw.t1(h:Bw f au a m L):((Bl f au a m).take (Aw f a)).length=Aw f a:=by rw[wi,h.el];have:=h.gl;omega
theorem Bw.t2(h:Bw f au a m L):((Bl f au a m).drop (Aw f a)).length=f.length-Aw f a:=by rw[we,h.el]
theorem Bw.r1(_:Bw f au a m L):∀u∈(Bl f au a m).take (Aw f a),FD u:=λu j=>TS au _ f u (xG j)
theorem Bw.r2(_:Bw f au a m L):∀u∈(Bl f au a m).drop (Aw f a),FD u:=λu j=>TS au _ f u (xt j)
theorem Bw.nl(h:Bw f au a m L):∀e∈DG au L,Bq e=0∧e.Attrs.length≤1048576:=by
 intro e l
 obtain⟨x,j,rfl⟩:=wu.1 l
 exact aD h.au (h.le x j).1 (h.le x j).2
theorem Bw.pair(h:Bw f au a m L):CJ (CE (Aw f a) (DG au L) (f.length-Aw f a)) (Bl f au a m)=Ff f au a m L:=by
 have:=eL (DG au L) _ h.r2 _ h.r1
 rw[h.t1,h.t2,xo] at this
 exact this
theorem Bw.cut(h:Bw f au a m L):Br ((Bl f au a m).take (Aw f a))+Br ((Bl f au a m).drop (Aw f a))=Br (Bl f au a m):=by
 rw[← Qq,xo]
theorem Bw.chg(h:Bw f au a m L):FB f au a m L=(Bl f au a m).take (Aw f a)++BZ ((Bl f au a m).drop (Aw f a)) (CE 0 (DG au L) (Br ((Bl f au a m).drop (Aw f a)))):=by
 have:=Tu (DG au L) ((Bl f au a m).drop (Aw f a)) _ h.r1
 rw[xo] at this
 exact this
theorem Bw.chgW(h:Bw f au a m L):(∀u∈FB f au a m L,GY u)∧Ao (FB f au a m L)=f.length∧(FB f au a m L).length=f.length+L.length:=by
 have q:=aY (DG au L) _ h.r2
 have hg:=h.gl
 have w:=h.t1
 have e2:=h.t2
 have A:(DG au L).length=L.length:=by simp[DG]
 have j:=VQ h.au (Dp f a m) f
 rw[h.chg]
 refine⟨λu l=>?_,?_,?_⟩
 ·rcases wX.1 l with l | l
  ·exact UZ (j u (xG l))
  ·rcases q.mem u l with l | ⟨e,B,rfl⟩
   ·exact UZ (j u (xt l))
   ·exact h.nl e B
 ·rw[GH,q.cr,RW h.r1,w,e2];omega
 ·rw[vw,q.len,w,e2,A];omega
theorem Bw.done(h:Bw f au a m L):A1 (FB f au a m L) f=A1 ((Bl f au a m).take (Aw f a)) (f.take (Aw f a))++(DG au L++A1 ((Bl f au a m).drop (Aw f a)) (f.drop (Aw f a))):=by
 have hg:=h.gl
 have:=kz (DG au L) _ _ (f.take (Aw f a)) (f.drop (Aw f a)) h.r1 h.r2 (by rw[h.t1,wi];omega) (by rw[h.t2,we])
 rw[xo,xo] at this
 exact this
structure Yt(f:List AD)(U:List Un):Prop where
 df:DF U
 sm:GD (BN U)
 old:Ax (BN U)=f.length
 done:A1 (Ag (BN U)) f=A1 U f
 ul:((Ag (BN U)).length:Int)≤4294967296
theorem Bw.d57(h:Bw f au a m L):Yt f (FB f au a m L):=by
 obtain⟨q,A,C⟩:=h.chgW
 have E:=h.fl
 have F:=h.ll
 have l:=Lz (λu B=>OJ (q u B)) (by omega)
 have dl:=l.len
 have I:=TD (FB f au a m L)
 have w:=RP q (by omega) (by omega)
 have gd:=L2 l.err
 have j:Ax (BN (FB f au a m L))=f.length:=by rw[l.old,A]
 refine⟨l,w,j,tV q f (by omega),?_⟩
 have:=Pn gd.st
 have J:=w.sum
 rw[this,j]
 omega
theorem Bw.steps(h:Bw f au a m L){n:Ak}(Y:n.Flow=f)(s:BW)(A:s.From=(a:Int))(B:s.To=((a+m:Nat):Int)) :
  Qp (o9 n au) s L=some ([Ew s.Node (BN (FB f au a m L))],BW.mk s.Node ((a:Int)+L.length) ((a:Int)+L.length),0):=by
 subst Y
 have hf:=h.fl
 have hl:=h.ll
 have hv:=M0 n.Flow
 have hw:=h.win
 have hg:=h.gl
 have C:∀e∈n.Flow,e.Attrs.length≤1048576:=λe Z=>(h.fe e Z).2
 have q:(DG au L).length=L.length:=by simp[DG]
 unfold Qp
 dsimp only
 rw[A,B,oW _ h.win,AE,uW n.Flow h.au h.win (by omega) C,AE,uR n.Flow (by omega) (by omega),AE,nk n.Flow h.au hg (by omega) h.le (by omega),AE]
 have E:=Vv (g:=Aw n.Flow a) (r:=n.Flow.length-Aw n.Flow a) h.nl
 have lA:=SI (Aw n.Flow a) (DG au L) (n.Flow.length-Aw n.Flow a)
 have J:=VQ h.au (Dp n.Flow a m) n.Flow
 have F:∀u∈Bl n.Flow au a m,GY u:=λu j=>UZ (J u j)
 have lE:=h.el
 have M:∀u∈Ff n.Flow au a m L,GY u:=Vv h.nl
 have O:=h.cut
 have a0:=WV (Bl n.Flow au a m)
 have lX:(Ff n.Flow au a m L).length=Br (Bl n.Flow au a m)+L.length:=by
  unfold Ff;rw[SI,q];omega
 have cX:Ao (Ff n.Flow au a m L)=Br (Bl n.Flow au a m):=by
  unfold Ff;rw[UB];omega
 have I:=Lz (λu j=>OJ (E u j)) (by omega)
 have l:=Lz (λu j=>OJ (F u j)) (by omega)
 have w:=Lz (λu j=>OJ (M u j)) (by omega)
 have yW:=Xb _ _ (ff E) (ff F)
 have yl:=Vo (CE (Aw n.Flow a) (DG au L) (n.Flow.length-Aw n.Flow a)) (Bl n.Flow au a m)
 have dY:=Lz yW (by omega)
 have a1:=ev (Aw n.Flow a) (DG au L) (n.Flow.length-Aw n.Flow a)
 have a2:BL (Ff n.Flow au a m L)=L.length:=by unfold Ff;rw[ev,q]
 have a6:=TD (Bl n.Flow au a m)
 have sA:=RP E (by have:=ln (Aw n.Flow a) (DG au L) (n.Flow.length-Aw n.Flow a);omega) (by omega)
 have T:=RP F (by have:=l.len;omega) (by omega)
 have sX:=RP M (by have:=w.len;omega) (by omega)
 have uA:=eq (Zq (Aw n.Flow a) (DG au L) (n.Flow.length-Aw n.Flow a))
 have U:Ag (BN (Bl n.Flow au a m))=Bl n.Flow au a m:=pX J
 have uX:Ag (BN (Ff n.Flow au a m L))=Ff n.Flow au a m L:=eq (Zq _ _ _)
 have V:Ao (Bl n.Flow au a m)=(Bl n.Flow au a m).length:=RW (TS au (Dp n.Flow a m) n.Flow)
 have X:=I.old
 rw[UB] at X
 have o2:=l.old
 have o3:=l.now
 have o4:=w.old
 have dJ:=h.d57.df
 have nA:List.map (Cw (marks au)) L=DG au L:=rfl
 have eP:MY (BN (CE (Aw n.Flow a) (DG au L) (n.Flow.length-Aw n.Flow a))) (BN (Bl n.Flow au a m))=some (BN (Ff n.Flow au a m L),BN (Ck (CE (Aw n.Flow a) (DG au L) (n.Flow.length-Aw n.Flow a)) (Bl n.Flow au a m)),0):=by
  rw[rz _ _ I.ok l.ok sA T,vg (by rw[I.err];simp),vg (by rw[l.err];simp),vg (by rw[X,o2];omega)]
  unfold WQ
  rw[uA,U,h.pair,vg (by rintro(e | e);exact e w.err;exact e dY.err)]
 have eJ:MW (BN (Bl n.Flow au a m)) (BN (Ff n.Flow au a m L))=some (BN (FB n.Flow au a m L),0):=by
  rw[p9 _ _ l.ok w.ok T sX,vg (by rw[l.err];simp),vg (by rw[w.err];simp),vg (by rw[o4,o3,cX];simp)]
  unfold VZ
  rw[U,uX]
  rw[show BZ (Bl n.Flow au a m) (Ff n.Flow au a m L)=FB n.Flow au a m L from rfl,vg (by rw[dJ.err];simp)]
 rw[nA,eP,OL,vg (by decide),eJ,CB,vg (by decide),Li (by omega) (by omega),AE]
 rfl
end
def vN(f:List AD)(k:Nat):List Nat:=(List.range k).filter (Bi f 0)
theorem N2 f k:vN f (k+1)=vN f k++(if Bi f 0 k=true then [k] else []):=by
 unfold vN
 rw[List.range_succ,za]
 congr 1
 cases h:Bi f 0 k<;>simp[h]
theorem Vq f i:∀d,∃r,vN f (i+d)=vN f i++r∧∀x∈r,i≤x
 | 0=>⟨[],by simp,by simp⟩
 | d+1=>by
  obtain⟨r,l,q⟩:=Vq f i d
  refine⟨r++(if Bi f 0 (i+d)=true then [i+d] else []),?_,λx j=>?_⟩
  ·rw[← xl,N2,l,vy]
  ·rcases wX.1 j with j | j
   ·exact q x j
   ·split at j
    ·rw[wz] at j;omega
    ·simp at j
theorem Xu{f:List AD}{i}(u:i<f.length)(q:Bi f 0 i=true):(vN f i).length<(Be f).length∧(Be f)[(vN f i).length]! = i:=by
 obtain⟨r,j,_⟩:=Vq f (i+1) (f.length-(i+1))
 rw[show i+1+(f.length-(i+1))=f.length by omega,N2,vh q,vy] at j
 have e:Be f=vN f i++([i]++r):=j
 have l:(vN f i).length<(Be f).length:=by rw[e];simp
 refine⟨l,?_⟩
 rw[vr (Be f) _ l]
 simp only[e]
 rw[yU (by omega)]
 simp
theorem sZ{f:List AD}{i}(B:i<f.length)(q:¬ Bi f 0 i=true)(j:(vN f i).length<(Be f).length):(Be f)[(vN f i).length]!≠i:=by
 obtain⟨r,l,u⟩:=Vq f (i+1) (f.length-(i+1))
 rw[show i+1+(f.length-(i+1))=f.length by omega,N2,vg q,wG] at l
 have e:Be f=vN f i++r:=l
 have w:0<r.length:=by rw[e] at j;simp at j;omega
 have A:(Be f)[(vN f i).length]! = r[0]:=by
  rw[vr (Be f) _ j]
  simp only[e]
  rw[yU (by omega)]
  simp
 rw[A]
 have:=u r[0] (xr w)
 omega
theorem cV(f:List AD) a m{i}(l:i<f.length):(Dp f a m)[i]! = decide (∃j,j<m∧(Be f)[a+j]! = i):=by
 rw[vr _ i (by rw[Lo];exact l)]
 simp[Dp]
theorem ma{f:List AD}{a m i}(C:a+m≤(Be f).length)(l:i<f.length)(w:Bi f 0 i=true):(Dp f a m)[i]! = (((a:Int)≤((vN f i).length:Int))&&(((vN f i).length:Int)<((a+m:Nat):Int))):=by
 obtain⟨A,q⟩:=Xu l w
 rw[cV f a m l,wc,vi,vm,vi,vi]
 constructor
 ·rintro⟨j,B,u⟩
  have:=nE (f:=f) (j:=a+j) (k:=(vN f i).length) (by omega) A (by rw[u,q])
  omega
 ·rintro⟨B,u⟩
  refine⟨(vN f i).length-a,by omega,?_⟩
  rw[show a+((vN f i).length-a)=(vN f i).length by omega,q]
theorem mw{f:List AD}{a m i}(A:a+m≤(Be f).length)(l:i<f.length)(q:¬ Bi f 0 i=true):(Dp f a m)[i]! = false:=by
 rw[cV f a m l]
 refine vk ?_
 rintro⟨j,B,u⟩
 have w:i∈Be f:=by rw[← u];exact BT (by omega)
 exact q (yd.1 w).2
def gS:Un→AD→List AD
 | .a e,_=>[e]
 | .r true _,_=>[]
 | .r false t,x=>[Cw t x]
theorem Wg{E:List Un}{f:List AD}(l:∀u∈E,FD u)(w:E.length=f.length){i}(q:i<f.length):A1 (E.take (i+1)) (f.take (i+1))=A1 (E.take i) (f.take i)++gS E[i]! f[i]!:=by
 rw[Fi (show i<E.length by omega),Fi q,RI _ _ _ _ (λu j=>l u (xG j)) (by simp;omega)]
 congr 1
 have j:=l _ (BT (show i<E.length by omega))
 match E[i]!,j with
 | .r true t,_=>rw[A1,A1];rfl
 | .r false t,_=>rw[A1,A1];rfl
section
variable{f:List AD}{au:List UInt8}{a m:Nat}{L:List AD}
def Es(f:List AD)(au:List UInt8)(a m:Nat)(L:List AD)(i:Nat):List AD:=
 if i≤Aw f a then A1 ((Bl f au a m).take i) (f.take i)
 else A1 ((Bl f au a m).take (Aw f a)) (f.take (Aw f a))++(DG au L++A1 (((Bl f au a m).drop (Aw f a)).take (i-Aw f a)) ((f.drop (Aw f a)).take (i-Aw f a)))
def E0(f:List AD)(au:List UInt8)(a m:Nat)(L:List AD)(i:Nat):List AD:=Es f au a m L i++(if i=Aw f a then DG au L else [])
theorem Bw.out_succ(h:Bw f au a m L){i}(q:i<f.length):Es f au a m L (i+1)=E0 f au a m L i++gS (Bl f au a m)[i]! f[i]!:=by
 have hg:=h.gl
 have j:=TS au (Dp f a m) f
 have l:=h.el
 unfold E0 Es
 by_cases C:i+1≤Aw f a
 ·rw[vh C,vh (show i≤Aw f a by omega),vg (show ¬ i=Aw f a by omega),wG]
  exact Wg j l q
 ·rw[vg C]
  by_cases w:i=Aw f a
  ·rw[vh (show i≤Aw f a by omega),vh w,← w,show i+1-i=0+1 by omega]
   have A:((Bl f au a m).drop i)[0]! = (Bl f au a m)[i]!:=by
    rw[vr _ 0 (by rw[we];omega),vr _ i (by omega)];simp
   have e2:(f.drop i)[0]! = f[i]!:=by
    rw[vr _ 0 (by rw[we];omega),vr _ i q];simp
   rw[Wg (E:=(Bl f au a m).drop i) (λu B=>j u (xt B)) (by rw[we,we,l]) (by rw[we];omega),A,e2]
   simp[A1]
  ·rw[vg (show ¬ i≤Aw f a by omega),vg w,wG,show i+1-Aw f a=(i-Aw f a)+1 by omega]
   have A:((Bl f au a m).drop (Aw f a))[i-Aw f a]! = (Bl f au a m)[i]!:=by
    rw[vr _ (i-Aw f a) (by rw[we];omega),vr _ i (by omega),zf]
    congr 1;omega
   have e2:(f.drop (Aw f a))[i-Aw f a]! = f[i]!:=by
    rw[vr _ (i-Aw f a) (by rw[we];omega),vr _ i q,zf]
    congr 1;omega
   rw[Wg (E:=(Bl f au a m).drop (Aw f a)) (λu B=>j u (xt B)) (by rw[we,we,l]) (by rw[we];omega),A,e2]
   simp
theorem oU f au a m L:Es f au a m L 0=[]:=by
 unfold Es
 rw[vh (xd _)]
 simp[A1]
theorem Bw.out_end(h:Bw f au a m L):E0 f au a m L f.length=A1 (FB f au a m L) f:=by
 have hg:=h.gl
 have j:=h.el
 rw[h.done]
 unfold E0 Es
 by_cases c:f.length=Aw f a
 ·rw[vh (by omega),vh c,← c,xx (by omega),xx (vu _),zC (by omega),zC (vu _)]
  simp[A1]
 ·rw[vg (by omega),vg c,wG,xx (l:=(Bl f au a m).drop (Aw f a)) (by rw[we];omega),xx (l:=f.drop (Aw f a)) (by rw[we];omega)]
theorem Bw.outG_len(h:Bw f au a m L) i(A:i≤f.length):(E0 f au a m L i).length≤1048576:=by
 have B:=h.fl
 have C:=h.ll
 have j:=h.el
 have E:(DG au L).length=L.length:=by simp[DG]
 have d:=λ(l:List Un) (f:List AD)=>VW l f
 unfold E0 Es
 have q:=d ((Bl f au a m).take i) (f.take i)
 have u:=d ((Bl f au a m).take (Aw f a)) (f.take (Aw f a))
 have w:=d (((Bl f au a m).drop (Aw f a)).take (i-Aw f a)) ((f.drop (Aw f a)).take (i-Aw f a))
 simp only[wi,we] at q u w
 rw[vw]
 have:(if i=Aw f a then DG au L else []).length≤L.length:=by split;omega;simp
 split
 ·omega
 ·rw[vw,vw];omega
theorem Xr(h:Bw f au a m L)(out:List AD)(u:out.length≤1048576):iter (λ(s:Int × (List AD))=>Ij L au s.1 s.2) (0,out)=some (.ext (out++DG au L)):=by
 have B:=h.ll
 have:=TY (f:=λ(s:Int × (List AD))=>Ij L au s.1 s.2) L (λk o=>((k:Int),o)) (λo e=>o++[Cw (marks au) e]) (λo=>(.ext o:Au Unit (List AD))) (λo k=>o.length≤1048576+k)
  (λb k j C=>by simp;omega) (λo k j u=>by
   dsimp only
   have w:=h.le _ (BT j)
   have q:H4 L[k]!.Attrs [⟨[97,100,100],au⟩,⟨[99,117,116],[]⟩]=some (Hu L[k]!.Attrs (marks au)):=V8 (Ht w.1) (So h.au).2 (by omega) (by simp)
   unfold Ij
   rw[vh (by simpa using j),Aa j,AE,q,AE,HF (by rw[wg];omega),AE,Ad (by omega)]
   rfl) (λo u=>by
   dsimp only
   unfold Ij
   rw[vg (by simp)]) out (by omega)
 rw[show((0:Nat):Int)=0 from rfl] at this
 rw[this]
 congr 2
 have key:∀(l o:List AD),l.foldl (λo e=>o++[Cw (marks au) e]) o=o++l.map (Cw (marks au)):=by
  intro l
  induction l with
  | nil=>simp
  | cons x l A=>intro o;rw[wT,A];simp
 rw[key];rfl
theorem bL{x}(h:Bq x=0):Cw [] x=x:=o0 (Ht h)
theorem Bw.round(h:Bw f au a m L){i}(q:i<f.length) :
  Jh f (a:Int) ((a+m:Nat):Int) L au (shown f 0 f.length) (Aw f a:Int) ((vN f i).length:Int) (i:Int) (Es f au a m L i)=some (.inl (((vN f (i+1)).length:Int),((i+1:Nat):Int),Es f au a m L (i+1))):=by
 have hf:=h.fl
 have hl:=h.ll
 have B:=h.fe _ (BT q)
 have hv:=M0 f
 have T:=Uu f
 have M:=h.outG_len i (by omega)
 have U:(vN f i).length≤i:=by unfold vN;exact wq (yh _ _) (by simp)
 have E:(Es f au a m L i).length≤1048576:=by unfold E0 at M;rw[vw] at M;omega
 unfold Jh
 rw[vh (vj (show(i:Int)≤(f.length:Int) by omega))]
 have V:(if decide ((i:Int)=(Aw f a:Int))=true then At (iter (λ(a:Int × (List AD))=>Ij L au a.1 a.2) (0,Es f au a m L i)) λ(u3:Unit)=>none else some (Es f au a m L i))=some (E0 f au a m L i):=by
  unfold E0
  by_cases c:i=Aw f a
  ·rw[vh (vj (by omega)),Xr h _ E,vh c];rfl
  ·rw[vg (by simp only[vi];omega),vg c,wG]
 rw[V,AE,vg (by simp only[vi];omega),Aa q,AE,h.out_succ q]
 have X:(Bl f au a m)[i]! = Hm au (Dp f a m)[i]! f[i]!:=e8 au (Lo f a m) q
 rw[X]
 generalize hX:f[i]! = x at B
 by_cases A:Bi f 0 i=true
 ·obtain⟨v1,Y⟩:=Xu q A
  have u:(vN f (i+1)).length=(vN f i).length+1:=by rw[N2,vh A];simp
  rw[u,ma h.win q A,vj (show((vN f i).length:Int)<((shown f 0 f.length).length:Int) by omega)]
  rw[show(true==true)=true from rfl,An,PD v1,AE,Y,vj rfl,vh (show(true&&true)=true from rfl)]
  by_cases O:(((a:Int)≤((vN f i).length:Int))&&(((vN f i).length:Int)<((a+m:Nat):Int)))=true
  ·rw[O,vh rfl]
   have Z:Hm au true x=if au=[]∨Du x.Attrs Ho=au then .r true [] else .r false [⟨IV,au⟩]:=by unfold Hm;rw[vg (by decide)]
   rw[Z]
   by_cases C:au=[]
   ·rw[vh (.inl C),vj C]
    show E1 (E1 (At (AB (some default) λF=>if(true||(F=au))=true then _ else _) _) _) _=_
    rw[AE,vh (show(true||((default:List UInt8)=au))=true from rfl),Ad (by omega),AE]
    show AB (AN .i64 ((i:Int)+1)) _=_
    rw[Ad (by omega),AE]
    show _=some (Sum.inl (_,_,E0 f au a m L i++[]))
    rw[wG]
   ·rw[vk C]
    show E1 (E1 (At (AB (Ko x.Attrs Ho) λF=>if(false||(F=au))=true then _ else _) _) _) _=_
    rw[fy _ _ (by omega),AE]
    by_cases hg:Du x.Attrs Ho=au
    ·rw[vh (by simpa using hg),vh (.inr hg),Ad (by omega),AE]
     show AB (AN .i64 ((i:Int)+1)) _=_
     rw[Ad (by omega),AE]
     show _=some (Sum.inl (_,_,E0 f au a m L i++[]))
     rw[wG]
    ·rw[vg (by simpa using hg),vg (by rintro(e | e);exact C e;exact hg e)]
     have I:H4 x.Attrs [⟨[99,117,116],au⟩]=some (Hu x.Attrs [⟨IV,au⟩]):=V8 (Ht B.1) (So h.au).1 B.2 (by simp)
     rw[I,AE,Gs,Ad (by omega),AE,Fm,HF (by rw[wg];omega),AE,Fm,Ad (by omega),AE]
     rfl
  ·have J:=yD.2 O
   rw[J,vg (by decide),Gs,Ad (by omega),AE,Fm,HF (by rw[wg];omega),AE,Fm,Ad (by omega),AE]
   show _=some (Sum.inl (_,_,E0 f au a m L i++[Cw [] x]))
   rw[bL B.1]
 ·have u:(vN f (i+1)).length=(vN f i).length:=by rw[N2,vg A,wG]
  rw[u,mw h.win q A]
  have hc:∀w,gd (decide (((vN f i).length:Int)<((shown f 0 f.length).length:Int))==true) (AM (shown f 0 f.length) ((vN f i).length:Int))=some w→((((vN f i).length:Int)<((shown f 0 f.length).length:Int))&&(w=(i:Int)))=false:=by
   intro w j
   by_cases l:(vN f i).length<(Be f).length
   ·rw[vj (show((vN f i).length:Int)<((shown f 0 f.length).length:Int) by omega)] at j ⊢
    rw[show(true==true)=true from rfl,An,PD l] at j
    injection j with j
    have:=sZ q A l
    rw[wy]
    exact vk (by omega)
   ·rw[vk (by omega)];rfl
  have hd:∃w,gd (decide (((vN f i).length:Int)<((shown f 0 f.length).length:Int))==true) (AM (shown f 0 f.length) ((vN f i).length:Int))=some w:=by
   by_cases l:(vN f i).length<(Be f).length
   ·rw[vj (show((vN f i).length:Int)<((shown f 0 f.length).length:Int) by omega),show(true==true)=true from rfl,An,PD l]
    exact⟨_,rfl⟩
   ·rw[vk (by omega)];exact⟨_,rfl⟩
  obtain⟨w,j⟩:=hd
  rw[j,AE,hc w j,vg (by decide),Fm,HF (by rw[wg];omega),AE,Fm,Ad (by omega),AE]
  show _=some (Sum.inl (_,_,E0 f au a m L i++[Cw [] x]))
  rw[bL B.1]
theorem Bw.last(h:Bw f au a m L) :
  Jh f (a:Int) ((a+m:Nat):Int) L au (shown f 0 f.length) (Aw f a:Int) ((vN f f.length).length:Int) (f.length:Int) (Es f au a m L f.length)=some (.inr (A1 (FB f au a m L) f)):=by
 have l:=h.outG_len f.length (vu _)
 have j:(Es f au a m L f.length).length≤1048576:=by unfold E0 at l;rw[vw] at l;omega
 unfold Jh
 rw[vh (vj (y9 _))]
 have q:(if decide ((f.length:Int)=(Aw f a:Int))=true then At (iter (λ(a:Int × (List AD))=>Ij L au a.1 a.2) (0,Es f au a m L f.length)) λ(u:Unit)=>none else some (Es f au a m L f.length))=some (E0 f au a m L f.length):=by
  unfold E0
  by_cases c:f.length=Aw f a
  ·rw[vh (vj (by omega)),Xr h _ j,vh c];rfl
  ·rw[vg (by simp only[vi];omega),vg c,wG]
 rw[q,AE,vh (vj rfl),h.out_end]
 rfl
theorem Bw.replaced(h:Bw f au a m L)(B:I1 f 0=some (shown f 0 f.length)):Og f (a:Int) ((a+m:Nat):Int) L au=some (A1 (FB f au a m L) f):=by
 have J:=M0 f
 have M:=h.win
 have O:=h.fl
 unfold Og
 have C:(if decide ((0:Int)<(a:Int))=true then AB (AN .i64 ((a:Int)-1)) λ(q:Int)=>AB (AM (shown f 0 f.length) q) λ(u:Int)=>AB (AN .i64 (u+1)) λ(l:Int)=>some l else some 0)=some (Aw f a:Int):=by
  unfold Aw
  by_cases A:a=0
  ·subst A;rfl
  ·have:=Te (f:=f) (k:=a-1) (by omega)
   rw[vh (vj (by omega)),FH (by omega) (by omega),AE,PD (by omega),AE,Ad (by omega),AE,vg A]
 rw[B,AE,C,AE]
 obtain⟨b,E,F⟩:=EL (f:=λ(s:Int × Int × (List AD))=>Jh f (a:Int) ((a+m:Nat):Int) L au (shown f 0 f.length) (Aw f a:Int) s.1 s.2.1 s.2.2) f.length (λk w=>w=(((vN f k).length:Int),(k:Int),Es f au a m L k)) (λb=>b=A1 (FB f au a m L) f) (s:=(0,0,[])) (λk w I j=>by
  subst j
  exact .inl ⟨_,h.round I,rfl⟩) (λw j=>by
  subst j
  exact⟨_,h.last,rfl⟩) (by rw[oU];rfl)
 rw[E,F,AE]
end
theorem pH(node:Int)(D:List AI)(B:1≤node∧node≤1073741824)(q:Ey D)(u:CY D=0):PQ (Ew node D)=some 0:=by
 have w:Ol (Ak.mk 0 0 [] [] (BX.mk 0 0 [] []) []):=by
  constructor<;>simp[Co,G0,Np]
 have A:LG (Ew node D).New (Ak.mk 0 0 [] [] (BX.mk 0 0 [] []) [])=some true:=by
  show LG (Ak.mk 0 0 [] [] (BX.mk 0 0 [] []) []) (Ak.mk 0 0 [] [] (BX.mk 0 0 [] []) [])=_
  rw[pZ _ _ w];simp
 have j:AN .i64 ((0:Int)+0)=some 0:=Li (by omega) (by omega)
 have e2:iter (λ(a:Int)=>KA (Ew node D) true 0 a) 0=some (.nrm ()):=by
  have:=Cb (f:=λ(a:Int)=>KA (Ew node D) true 0 a) (n:=5) (λ_=>(none:Option Int)) (λk l=>by
   unfold KA
   rw[vh (by simp only[vi];omega),Aa (by simpa using l),AE,Ad (by omega)]
   have:(([(!true),(decide (0<((Ew node D).Attrs.length:Int))),(decide (0<((Ew node D).Steps.length:Int))),(decide ((0:Int)<0)),(decide (0<((Ew node D).Draw.length:Int)))]:List Bool)[k]!&&(!((k:Int)=(Ew node D).Kind)))=false:=by
    match k,l with
    | 0,_=>rfl
    | 1,_=>rfl
    | 2,_=>
     show(_&&(!((2:Int)=2)))=false
     rw[vj rfl,zG,yx]
    | 3,_=>rfl
    | 4,_=>rfl
   rw[this,vg (by decide),AE];rfl) (by unfold KA;rw[vg (by decide)])
  rw[this,(wx).2 (λ_ _=>rfl)];rfl
 unfold PQ
 rw[IL,AE,vg (by show ¬ ((!(((0:Int)≤2)&&((2:Int)≤4)))=true);decide),A,AE]
 show AB (AN .i64 ((0:Int)+0)) _=_
 rw[j,AE]
 show AB (AN .i64 ((0:Int)+0)) _=_
 rw[j,AE]
 show AB (AN .i64 ((0:Int)+0)) _=_
 rw[j,AE]
 show AB (AN .i64 ((0:Int)+0)) _=_
 rw[j,AE,e2,Gs]
 show(if decide ((2:Int)=0)=true then _ else AB (Cq node 1 1073741824) _)=_
 rw[vg (by decide),IL,AE,vg (by simp;omega)]
 show(if decide ((2:Int)=1)=true then _ else if decide ((2:Int)=2)=true then AB (L8 D) _ else _)=_
 rw[vg (by decide),vh (by decide),tg D q,u];rfl
theorem X9{f}(h:∀e∈f,Bq e=0∧e.Attrs.length≤1048576):KQ f:=h
theorem qx{d:B2}{node:Int}{k:Nat}{f:List AD}{U:List Un}{l:List AD}(B:HO d node=some (k:Int))(C:k<d.Nodes.length)(E:d.Nodes[k]!.Flow=f)(F:1≤node∧node≤1073741824)
  (h:Yt f U) (I:f.length≤1048576) (q:∀e∈f,Bq e=0∧e.Attrs.length≤1048576) (J:A1 U f=l):Ps d [Ew node (BN U)] node l=some true:=by
 have j:=L2 h.df.err
 have u:=o5 j.st h.sm
 have M:=h.ul
 have w:=pm (Ag (BN U)) f (X9 q) u
 have O:=VW (Ag (BN U)) f
 have T:=h.sm.len
 obtain⟨x,V,A,a3⟩:=kx (BN U) (λs X=>by rcases (j.st s X).kind with h | h | h<;>omega) (by omega) (by omega)
 have Y:x.Cuts.length=f.length:=by
  have:=A.cnt
  rw[a3] at this
  have Z:=R9 j.st
  rw[h.old] at Z
  omega
 have hd:=jS f x A Y (X9 q) (by rw[a3];exact u) (by rw[a3];omega)
 have hA:Mu f (BN U)=some (A1 (Ag (BN U)) f):=by
  unfold Mu
  rw[V,AE,hd,AE,a3]
 have hi:AM [Ew node (BN U)] 0=some (Ew node (BN U)):=rfl
 unfold Ps
 rw[show((!(([Ew node (BN U)].length:Int)=1))==false)=true from rfl,An,hi,AE]
 rw[show(((!(([Ew node (BN U)].length:Int)=1))||(!((Ew node (BN U)).Kind=2)))==false)=true from rfl,An,AE]
 rw[vg (by show ¬ ((((!((1:Int)=1))||(!((2:Int)=2)))||(!(node=node)))=true);simp),B,AE,Aa C,AE,AE,pH node _ F h.df.ok h.df.err,AE,E]
 show AB (gd (decide ((0:Int)=0)==true) (ND (BN U))) _=_
 rw[vj rfl,show(true==true)=true from rfl,An,jd _ h.df.ok j,AE,h.old,vj rfl,vh (by rfl)]
 show AB (AB (Mu f (BN U)) _) _=_
 rw[hA,AE,dC _ _ (by omega) w,AE,AE,h.done,J,vj rfl]
 rfl
theorem tF{n:Ak}(j:FM n=some 0):1≤n.ID∧n.ID≤1073741824:=by
 unfold FM at j
 split at j
 ·cases j
 ·rename_i c
  simp only[vt,vi] at c
  omega
def eX(d:B2):Prop:=∀n∈d.Nodes,n.Flow.length≤262144∧∀e∈n.Flow,e.Attrs.length≤349525
end Go.Proofs.YtgcalnmhoifpoaaGreatDoor.Al

set_option linter.unusedVariables false
set_option linter.unusedSimpArgs false
namespace Go.Proofs.YtgcalnmhoifpoaaGreatDoor.Al
open Go
def pF(a:AC):Bool:=(((a.Name=[97,100,100])||(a.Name=[99,117,116]))||(a.Name=[104,105,100,100,101,110]))||((!(a.Name=[108,105,110,107]))&&shr a.Name)
theorem gy(a:AC):Lr a=some (pF a):=by
 unfold Lr pF
 cases j:(((a.Name=[97,100,100])||(a.Name=[99,117,116]))||(a.Name=[104,105,100,100,101,110])) with
 | true=>rfl
 | false=>
  cases l:(!(a.Name=[108,105,110,107])) with
  | false=>rfl
  | true=>
   rw[show((false==false)&&(true==true))=true from rfl,An,ik,AE]
def E3(l:List AC):List AC:=l.filter λq=>!pF q
theorem V0 a b:E3 (a++b)=E3 a++E3 b:=za ..
theorem nW{n}(h:¬ pF n=true):E3 [n]=[n]:=by
 unfold E3;rw[zj,vh (by simpa using h)];rfl
theorem cJ{n}(h:pF n=true):E3 [n]=[]:=by
 unfold E3;rw[zj,vg (by simpa using h)];rfl
theorem eI{l}(h:∀n∈l,¬ pF n=true):E3 l=l:=by
 unfold E3;rw[List.filter_eq_self];intro n j;simpa using h n j
theorem s8(s:List AC)(M:s.length≤4194304) :
  (∃k,k<s.length∧MF s=some (k:Int)∧(∀j,j<k→¬ pF s[j]! = true)∧pF s[k]! = true) ∨
  (MF s=some (-1)∧∀n∈s,¬ pF n=true):=by
 unfold MF
 obtain⟨b,C,E⟩:=EL (f:=λ(a:Int)=>Lx s a) s.length
  (λk A=>A=(k:Int)∧∀j,j<k→¬ pF s[j]! = true)
  (λb=>(b=(.nrm ():Au Unit Int)∧∀j,j<s.length→¬ pF s[j]! = true)∨∃k,k<s.length∧b=.ext (k:Int)∧(∀j,j<k→¬ pF s[j]! = true)∧pF s[k]! = true)
  (λk A u q=>by
   obtain⟨rfl,l⟩:=q
   unfold Lx
   rw[vh (by simpa using u),Aa u,AE,gy,AE]
   by_cases w:pF s[k]! = true
   ·right
    rw[vh (by simpa using w)]
    exact⟨_,rfl,.inr ⟨k,u,rfl,l,w⟩⟩
   ·left
    rw[vg (by simpa using w),Ad (by omega),AE]
    refine⟨_,rfl,rfl,λj B=>?_⟩
    rcases Nat.lt_succ_iff_lt_or_eq.1 B with h | h
    ·exact l j h
    ·rw[h];exact w)
  (λA q=>by
   obtain⟨rfl,l⟩:=q
   unfold Lx
   rw[vg (by simp)]
   exact⟨_,rfl,.inl ⟨rfl,l⟩⟩)
  (s:=0) ⟨rfl,λj l=>by omega⟩
 rw[C]
 rcases E with ⟨rfl,h⟩ | ⟨k,u,rfl,F,I⟩
 ·right
  refine⟨rfl,λn J=>?_⟩
  obtain⟨j,l,e⟩:=yZ J
  have:=h j l
  rw[vr s j l,e] at this
  exact this
 ·left
  exact⟨k,u,rfl,F,I⟩
theorem uE(l:List AC)(hl:l.length≤4194304) E j(h0:E≤j)(V:j≤l.length)(U:l.take E=E3 (l.take j)) :
  ∃(i:Nat) (s:List AC),iter (λ(a:Int × Int × (List AC))=>KI a.1 a.2.1 a.2.2) ((E:Int),(j:Int),l)=some ((i:Int),s)∧i≤s.length∧s.take i=E3 l:=by
 obtain⟨b,X,Y⟩:=EL (f:=λ(a:Int × Int × (List AC))=>KI a.1 a.2.1 a.2.2) (l.length-j)
  (λk q=>∃i:Nat,q.1=(i:Int)∧q.2.1=((j+k:Nat):Int)∧i≤j+k∧j+k≤l.length∧q.2.2.length=l.length∧q.2.2.take i=E3 (l.take (j+k))∧q.2.2.drop (j+k)=l.drop (j+k))
  (λb=>∃i:Nat,b.1=(i:Int)∧i≤b.2.length∧b.2.take i=E3 l)
  (λk q U A=>by
   obtain⟨Z,a2,s⟩:=q
   obtain⟨i,F,I,h3,h4,J,C,M⟩:=A
   dsimp only at F I J C M
   subst F I
   left
   have u:j+k<l.length:=by omega
   have B:j+k<s.length:=by omega
   have hx:s[j+k]! = l[j+k]!:=by
    have w:=zD B
    have e2:=zD u
    rw[M,← e2] at w
    injection w with w _
    rw[vr s _ B,vr l _ u,w]
   have hd:s.drop (j+k+1)=l.drop (j+k+1):=by
    have w:=yC (List.drop 1) M
    rw[zW,zW] at w
    exact w
   dsimp only
   unfold KI
   rw[vh (by simp;omega),Aa B,AE,hx,gy,AE]
   by_cases T:pF l[j+k]! = true
   ·rw[vg (by simpa using T),CB,Ad (by omega),AE]
    refine⟨_,rfl,i,rfl,rfl,by omega,by omega,J,?_,hd⟩
    show s.take i=E3 (l.take (j+k+1))
    rw[Fi u,V0,cJ T,wG,C]
   ·rw[vh (by simpa using T),Aa (show i<s.length by omega),AE,Ad (by omega),AE,CB,Ad (by omega),AE]
    refine⟨_,rfl,i+1,rfl,rfl,by omega,by omega,by rw[xM];exact J,?_,?_⟩
    ·show(s.set (i:Int).toNat l[j+k]!).take (i+1)=E3 (l.take (j+k+1))
     have O:i<(s.set i l[j+k]!).length:=by rw[xM];omega
     rw[wd,Fi O,List.take_set,List.set_eq_of_length_le (by rw[wi];omega),C,vr (s.set i l[j+k]!) i O,zO,Fi u,V0,nW T]
    ·show(s.set (i:Int).toNat l[j+k]!).drop (j+k+1)=_
     rw[wd,List.drop_set_of_lt (by omega)];exact hd)
  (λq A=>by
   obtain⟨Z,a2,s⟩:=q
   obtain⟨i,F,I,h3,h4,J,C,M⟩:=A
   dsimp only at F I J C M
   subst F I
   dsimp only
   unfold KI
   rw[vg (by simp;omega)]
   refine⟨_,rfl,i,rfl,by dsimp only;omega,?_⟩
   rw[C,xx (by omega)])
  (s:=((E:Int),(j:Int),l)) ⟨E,rfl,rfl,by omega,by omega,rfl,U,rfl⟩
 obtain⟨i,w,e2,e3⟩:=Y
 refine⟨i,b.2,?_,e2,e3⟩
 rw[X,← w]
theorem qL(l:List AC)(w:l.length≤4194304):O2 l=some (E3 l):=by
 unfold O2
 rcases s8 l w with ⟨k,A,e,B,C⟩ | ⟨e,h⟩
 ·rw[e,AE,vg (by simp),Ad (by omega),AE]
  obtain⟨i,s,E,e2,F⟩:=uE l w k (k+1) (by omega) (by omega) (by
   rw[Fi A,V0,cJ C,wG,eI]
   intro n I
   obtain⟨j,J,e⟩:=yZ I
   rw[wi] at J
   have:=B j (by omega)
   rw[vr l j (by omega)] at this
   rw[List.getElem_take] at e
   rw[← e];exact this)
  rw[E,CB]
  have q:Nn s (i:Int) (AC.mk [] [])=some (s.take i++List.replicate (s.length-i) (AC.mk [] [])):=by
   unfold Nn;rw[vh ⟨by omega,by omega⟩,wd]
  rw[q,AE]
  have u:Bx (s.take i++List.replicate (s.length-i) (AC.mk [] [])) 0 (i:Int)=some (s.take i):=by
   unfold Bx
   rw[vh ⟨by omega,by omega,by simp;omega⟩,wd]
   have:i-(0:Int).toNat=i:=by simp
   rw[this,show(0:Int).toNat=0 from rfl,List.drop_zero,List.take_append_of_le_length (by rw[wi];omega),List.take_take,Nat.min_self]
  rw[u,AE,F]
 ·rw[e,AE,vh (by decide),eI h]
end Go.Proofs.YtgcalnmhoifpoaaGreatDoor.Al

namespace Go.Proofs.YtgcalnmhoifpoaaGreatDoor.Al
theorem Q9{α:Type}{μ}{c}(h:∀x,c≤μ x):∀l:List α,c * l.length≤(l.map μ).sum
 | []=>by simp
 | x::l=>by
  have j:=h x
  have q:=Q9 h l
  simp only[wB,wv,v6,Nat.mul_succ]
  omega
theorem ns{μ}{ν}{κ}(q:∀n,(n.Flow.map ν).sum≤μ n)(l:∀e,(e.Attrs.map κ).sum+4≤ν e)(u:∀a,3≤κ a){d:B2}(A:(d.Nodes.map μ).sum≤1048576):eX d:=by
 intro n w
 have B:=HB (μ:=μ) w
 have C:=q n
 have E:=Q9 (μ:=ν) (c:=4) (λe=>by have:=l e;omega) n.Flow
 refine⟨by omega,λe j=>?_⟩
 have F:=HB (μ:=ν) j
 have I:=l e
 have J:=Q9 (μ:=κ) (c:=3) u e.Attrs
 omega
end Go.Proofs.YtgcalnmhoifpoaaGreatDoor.Al

set_option linter.unusedVariables false
set_option linter.unusedSimpArgs false
namespace Go.Proofs.YtgcalnmhoifpoaaGreatDoor.Al
open Go
def EK(e:AD):AD:=⟨e.Char,0,e.Attrs.filter λa=>!pF a⟩
theorem Rv(a:AC) A B(hA:A=((7<(a.Name.length:Int))&&(a.Name.take 7=JX)))(hB:A=true∨B=((5<(a.Name.length:Int))&&(a.Name.take 5=Jp))) :
  (((((!(a.Name=[97,100,100]))&&(!(a.Name=[99,117,116])))&&(!(a.Name=[104,105,100,100,101,110])))&&(!(a.Name=[108,111,99,107])))&&(!(A||B)))=!pF a:=by
 unfold pF shr
 by_cases q:a.Name=[108,105,110,107]
 ·rw[q] at hA hB ⊢
  have j:A=false:=hA
  subst j
  have l:B=false:=by rcases hB with h | h;cases h;exact h
  rw[l];decide
 ·rw[vk q,← hA]
  generalize decide (a.Name=[97,100,100])=u
  generalize decide (a.Name=[99,117,116])=w
  generalize decide (a.Name=[104,105,100,100,101,110])=C
  generalize decide (a.Name=[108,111,99,107])=E
  rcases hB with h | h
  ·subst h;cases u<;>cases w<;>cases C<;>cases E<;>cases B<;>simp
  ·rw[← h];cases u<;>cases w<;>cases C<;>cases E<;>cases A<;>cases B<;>rfl
theorem uF(a:AC){β:Type}(G:Bool→Option β) :
  (AB (gd ((decide (7<(a.Name.length:Int)))==true) (Bx a.Name 0 7)) λ(w:List UInt8)=>
   AB (gd ((((7<(a.Name.length:Int))&&(w=[114,101,109,97,114,107,46]))==false)&&((decide (5<(a.Name.length:Int)))==true)) (Bx a.Name 0 5)) λ(u:List UInt8)=>
   G (((((!(a.Name=[97,100,100]))&&(!(a.Name=[99,117,116])))&&(!(a.Name=[104,105,100,100,101,110])))&&(!(a.Name=[108,111,99,107])))&&(!(((7<(a.Name.length:Int))&&(w=[114,101,109,97,114,107,46]))||((5<(a.Name.length:Int))&&(u=[109,97,114,107,46]))))))=G (!pF a):=by
 by_cases q:(7:Int)<a.Name.length
 ·have j:(5:Int)<a.Name.length:=by omega
  rw[vj q,show(true==true)=true from rfl,An,KV _ 7 (by omega) (by omega),AE,vj j]
  show(AB (gd (((true&&(a.Name.take 7=JX))==false)&&(true==true)) (Bx a.Name 0 5)) λ(u:List UInt8)=>G (_&&(!((true&&(a.Name.take 7=JX))||(true&&(u=Jp))))))=_
  cases A:decide (a.Name.take 7=JX) with
  | true=>
   rw[show(((true&&true)==false)&&(true==true))=false from rfl]
   have l:=λB=>Rv a true B (by rw[vj q,A];rfl) (.inl rfl)
   show G _=_
   exact yC G (l _)
  | false=>
   rw[show(((true&&false)==false)&&(true==true))=true from rfl,An,KV _ 5 (by omega) (by omega),AE]
   have l:=Rv a false (true&&(a.Name.take 5=Jp)) (by rw[vj q,A];rfl) (.inr (by rw[vj j]))
   exact yC G l
 ·rw[vk q]
  show(AB (gd (decide (5<(a.Name.length:Int))==true) (Bx a.Name 0 5)) λ(u:List UInt8)=>G (_&&(!(false||((5<(a.Name.length:Int))&&(u=Jp))))))=_
  by_cases j:(5:Int)<a.Name.length
  ·rw[vj j,show(true==true)=true from rfl,An,KV _ 5 (by omega) (by omega),AE]
   have l:=Rv a false (true&&(a.Name.take 5=Jp)) (by rw[vk q];rfl) (.inr (by rw[vj j]))
   exact yC G l
  ·rw[vk j]
   have l:=Rv a false false (by rw[vk q];rfl) (.inr (by rw[vk j];rfl))
   exact yC G l
theorem tG(f:List AD)(l:f.length≤4294967296)(h:∀e∈f,Co e.Attrs):No f=some f:=by
 unfold No
 rw[RO _ l,AE]
 have:=RF (f:=λ(a:Int × List AD)=>I5 f a.1 a.2) f (λx=>x) (AD.mk 0 0 []) (λk out j q=>by
  show I5 f (k:Int) out=_
  unfold I5
  rw[vh (by simpa using j),Aa j,AE,NX (h _ (BT j)).1,AE,Aa (by omega),AE,Ad (by omega)]
  rfl) (λout=>by
  show I5 f (f.length:Int) out=_
  unfold I5
  rw[vg (by simp)])
 rw[this]
 simp
theorem fE(L:List AD)(U:L.length≤1048576)(J:∀e∈L,e.Attrs.length≤1048576) :
  (iter (λ(a:Int × (List AD))=>HL L a.1 a.2) (0,L)=some (.nrm (L.map EK))∧∀e∈L,e.Ref=0) ∨
  (iter (λ(a:Int × (List AD))=>HL L a.1 a.2) (0,L)=some (.ext ([],BW.mk 0 0 0,8))∧∃e∈L,e.Ref≠0):=by
 obtain⟨b,I,M⟩:=EL (f:=λ(a:Int × (List AD))=>HL L a.1 a.2) L.length
  (λk E=>E=((k:Int),(L.take k).map EK++L.drop k)∧∀j,j<k→L[j]!.Ref=0)
  (λb=>(b=.nrm (L.map EK)∧∀e∈L,e.Ref=0)∨(b=.ext ([],BW.mk 0 0 0,8)∧∃e∈L,e.Ref≠0))
  (λk E w q=>by
   obtain⟨rfl,C⟩:=q
   have u:((L.take k).map EK).length=k:=by rw[v7,wi];omega
   have l:k<((L.take k).map EK++L.drop k).length:=by rw[vw,u,we];omega
   have O:((L.take k).map EK++L.drop k)[k]! = L[k]!:=by
    rw[vr _ k l,yU (by omega),zf,vr L k w]
    simp only[u,zV,ws]
   dsimp only
   unfold HL
   rw[vh (by simpa using w),Aa l,AE,O]
   by_cases A:L[k]!.Ref=0
   ·left
    rw[vg (CM A),qL _ (by have:=J _ (BT w);omega),AE,Ad (by omega),AE]
    refine⟨_,rfl,?_,λj F=>?_⟩
    ·rw[A,wd]
     refine Prod.ext rfl ?_
     show((L.take k).map EK++L.drop k).set k (EK L[k]!)=(L.take (k+1)).map EK++L.drop (k+1)
     rw[yi _ _ (by omega),u,zV,← zD w,ye,Fi w,yF,vy]
     rfl
    ·rcases Nat.lt_succ_iff_lt_or_eq.1 F with h | h
     ·exact C j h
     ·rw[h];exact A
   ·right
    rw[vh (Ba A)]
    exact⟨_,rfl,.inr ⟨rfl,_,BT w,A⟩⟩)
  (λE q=>by
   obtain⟨rfl,C⟩:=q
   dsimp only
   unfold HL
   rw[vg (by simp)]
   refine⟨_,rfl,.inl ⟨by rw[xf,zK,wG],λe T=>?_⟩⟩
   obtain⟨j,B,e2⟩:=yZ T
   have:=C j B
   rw[vr L j B,e2] at this
   exact this)
  (s:=(0,L)) ⟨by simp,λj C=>by omega⟩
 rcases M with ⟨rfl,h⟩ | ⟨rfl,h⟩
 ·exact .inl ⟨I,h⟩
 ·exact .inr ⟨I,h⟩
theorem lf(x:AD)(A:x.Attrs.length≤1048576):iter (λ(a:Int × AD)=>IK x a.1 a.2) (0,AD.mk x.Char 0 [])=some (EK x):=by
 have:=TY (f:=λ(a:Int × AD)=>IK x a.1 a.2) x.Attrs (λk b=>((k:Int),AD.mk x.Char 0 b)) (Nx λa=>!pF a) (λb=>AD.mk x.Char 0 b) (λb k=>b.length≤k)
  (λb k j l=>by
   unfold Nx
   split
   ·rw[vw];simp;omega
   ·omega)
  (λb k j l=>by
   dsimp only
   unfold IK
   rw[vh (by simpa using j),Aa j,AE]
   have u:=uF x.Attrs[k]! (β:=AD) (λq=>if q=true then AB (app 32 b [x.Attrs[k]!]) λ(w:List AC)=>some (AD.mk x.Char 0 w) else some (AD.mk x.Char 0 b))
   rw[u,show Nx (λa=>!pF a) b x.Attrs[k]! = if(!pF x.Attrs[k]!)=true then b++[x.Attrs[k]!] else b from rfl]
   cases hp:(!pF x.Attrs[k]!) with
   | true=>rw[vh rfl,H0 (by omega),AE,AE,Ad (by omega),AE,vh rfl]
   | false=>rw[vg (by decide),AE,Ad (by omega),AE,vg (by decide)])
  (λb l=>by
   dsimp only
   unfold IK
   rw[vg (by simp)])
  [] (vu _)
 rw[bQ] at this
 exact this
def E4(f:Int)(e:AD):Int:=if f=0∧e.Ref≠0 then 8 else f
theorem NY:∀(l:List AD) {f:Int},f≠0→l.foldl E4 f=f
 | [],f,h=>rfl
 | e::l,f,h=>by rw[wT,show E4 f e=f from vg (λq=>h q.1)];exact NY l h
theorem cE:∀(l:List AD),(∀e∈l,e.Ref=0)→l.foldl E4 0=0
 | [],h=>rfl
 | e::l,h=>by rw[wT,show E4 0 e=0 from vg (λq=>q.2 (h e (vn ..)))];exact cE l λx j=>h x (vp _ j)
theorem aO:∀(l:List AD),(∃e∈l,e.Ref≠0)→l.foldl E4 0=8
 | [],h=>by obtain⟨_,h,_⟩:=h;cases h
 | e::l,h=>by
  rw[wT]
  by_cases j:e.Ref=0
  ·rw[show E4 0 e=0 from vg (λq=>q.2 j)]
   obtain⟨x,u,w⟩:=h
   rcases wC.1 u with rfl | u
   ·exact absurd j w
   ·exact aO l ⟨x,u,w⟩
  ·rw[show E4 0 e=8 from vh ⟨rfl,j⟩];exact NY l (by decide)
theorem cK(L:List AD)(V:L.length≤1048576)(M:∀e∈L,e.Attrs.length≤1048576) f:iter (λ(a:Int × Int × (List AD))=>KJ L a.1 a.2.1 a.2.2) (f,0,[])=some (L.foldl E4 f,L.map EK):=by
 have:=TY (f:=λ(a:Int × Int × (List AD))=>KJ L a.1 a.2.1 a.2.2) L (λk (b:Int × List AD)=>(b.1,(k:Int),b.2)) (λb e=>(E4 b.1 e,b.2++[EK e])) (λb=>b) (λb k=>b.2.length≤k)
  (λb k u J=>by dsimp only;rw[List.length_append];simp;omega)
  (λb k u J=>by
   dsimp only
   unfold KJ
   have O:(AB (gd ((decide (b.1=0))==true) (AM L (k:Int))) λ(T:AD)=>AB (if((b.1=0)&&(!(T.Ref=0))) then(some (8:Int)) else(some b.1)) λ(B:Int)=>AB (AM L (k:Int)) λ(C:AD)=>AB (iter (λ(a:Int × AD)=>IK C a.1 a.2) (0,(AD.mk C.Char 0 []))) λ(w:AD)=>AB (app 40 b.2 [w]) λ(I:List AD)=>AB (AN .i64 ((k:Int)+1)) λ(A:Int)=>some (Sum.inl (B,A,I)))
     = some ((.inl (E4 b.1 L[k]!,((k+1:Nat):Int),b.2++[EK L[k]!]):(Int × Int × (List AD)) ⊕ (Int × (List AD)))):=by
    have j:∀B:Int,(AB (AM L (k:Int)) λ(C:AD)=>AB (iter (λ(a:Int × AD)=>IK C a.1 a.2) (0,(AD.mk C.Char 0 []))) λ(w:AD)=>AB (app 40 b.2 [w]) λ(I:List AD)=>AB (AN .i64 ((k:Int)+1)) λ(A:Int)=>some ((Sum.inl (B,A,I)):(Int × Int × (List AD)) ⊕ (Int × (List AD))))=some (.inl (B,((k+1:Nat):Int),b.2++[EK L[k]!])):=by
     intro B
     rw[Aa u,AE,lf _ (M _ (BT u)),AE,HF (by simp;omega),AE,Ad (by omega),AE]
    by_cases E:b.1=0
    ·rw[vj E,show(true==true)=true from rfl,An,Aa u,AE]
     by_cases F:L[k]!.Ref=0
     ·rw[vj F,vg (by decide),AE,← Aa u,j,show E4 b.1 L[k]! = b.1 from vg (λq=>q.2 F)]
     ·rw[vk F,vh (by decide),AE,← Aa u,j,show E4 b.1 L[k]! = 8 from vh ⟨E,F⟩]
    ·rw[vk E]
     rw[show(false==true)=false from rfl,Fa,AE,yM,vg (by decide),AE,j,show E4 b.1 L[k]! = b.1 from vg (λq=>E q.1)]
   rw[vh (by simpa using u)]
   exact O)
  (λb J=>by
   dsimp only
   unfold KJ
   rw[vg (by simp)])
  (f,[]) (vu _)
 have key:∀(l:List AD) (f:Int) (o:List AD),l.foldl (λ(b:Int × List AD) e=>(E4 b.1 e,b.2++[EK e])) (f,o)=(l.foldl E4 f,o++l.map EK):=by
  intro l
  induction l with
  | nil=>intro f o;simp
  | cons e l U=>intro f o;rw[wT,U];simp
 rw[key] at this
 exact this
theorem QN{d}{s}{j:List AD}{l}(q:j.length≤1048576)(u:∀e ∈ j, e.Attrs.length≤1048576){e f1 f2 f3:Int}(w:G4 d s j l=some ([], BW.mk 0 0 0, e))(A:e≠0)(hA:JB d s l=some f1)
 (B:(if(decide (f1=0)) then(AB (JV j) λ(C:Int) => some C) else(some f1))=some f2) (E:(if((f2=0)&&(20000<(j.length:Int))) then(some (3:Int)) else(some f2))=some f3)
 (F:j.foldl E4 f3=e):MB d s j l=some true := by
  unfold MB Nl
  rw[AE, vg (by simp), w, OL, hA, AE, B, AE, E, AE, cK j q u, F, CB, vh (Ba A), vj rfl]
  rfl
theorem kE(d:B2)(s:BW)(l:List AD)(q:List UInt8)(h:OE d)(hs:eX d)(V:l.length≤1048576)(F:∀e∈l,Co e.Attrs∧e.Attrs.length≤1048574)(ha:q.length≤1073741824):MB d s l q=some true:=by
 have A:∀e∈l,e.Attrs.length≤1048576:=λe w=>by have:=(F e w).2;omega
 have a1:∀e∈l,EG e:=λe w=>⟨by have:=(F e w).2;omega,(F e w).1.2⟩
 rcases ml d s q h ha with ⟨e,w,T,h2⟩ | ⟨k,hk,hf,Ca,hn,-,U,f0,f1,f2,ag,h2,T⟩
 ·refine QN V A (e:=e) (f1:=e) (f2:=e) (f3:=e) (by unfold G4;rw[T,CB,vh (Ba w)]) w (by unfold JB;rw[h2,AE,vh (Ba w)]) ?_ ?_ (NY _ w)
  ·rw[vk w,vg (by decide)]
  ·rw[vk w,vg (by simp)]
 by_cases I:q≠[]∧Di q=false
 ·rw[vh I] at T
  refine QN V A (e:=23) (f1:=23) (f2:=23) (f3:=23) (by unfold G4;rw[T,CB,vh (by decide)]) (by decide) ?_ rfl ?_ (NY _ (by decide))
  ·unfold JB
   rw[h2,AE,vg (by decide),vk I.1,show((!false)==true)=true from rfl,An,Th _ (by omega),I.2,AE,vh (by decide)]
  ·rw[show decide ((23:Int)=0)=false from rfl,vg (by simp)]
 rw[vg I] at T
 have a2:Jx q:=⟨by
  by_cases e:q=[]
  ·exact .inl e
  ·right
   by_cases e2:Di q=true
   ·exact e2
   ·exact absurd ⟨e,yD.2 e2⟩ I,ha⟩
 have hA:JB d s q=some 0:=by
  unfold JB
  rw[h2,AE,vg (by decide)]
  by_cases e:q=[]
  ·subst e;rfl
  ·have hv:Di q=true:=by rcases a2.v with h | h;exact absurd h e;exact h
   rw[vk e,show((!false)==true)=true from rfl,An,Th _ (by omega),hv,AE,vg (by decide)]
 have hP:(if(decide ((0:Int)=0)) then(AB (JV l) λ(f9:Int)=>some f9) else(some (0:Int)))=some (EJ l):=by
  rw[vh (by decide),fV l a1 (by omega),AE]
 have J:=dA l a1 (by omega)
 by_cases B:¬ EJ l=0
 ·refine QN V A (e:=EJ l) (by unfold G4;rw[T,CB,vg (by decide),J,AE,vh (Ba B)]) B hA hP ?_ (NY _ B)
  rw[vk B,vg (by simp)]
 have B:EJ l=0:=wL.1 B
 rw[B] at hP J
 by_cases u:20000<(l.length:Int)
 ·refine QN V A (e:=3) (by unfold G4;rw[T,CB,vg (by decide),J,AE,vg (by decide),vh (vj u)]) (by decide) hA hP (f3:=3) ?_ (NY _ (by decide))
  rw[vj u,vh (by decide)]
 have h3:(if(((0:Int)=0)&&(20000<(l.length:Int))) then(some (3:Int)) else(some 0))=some 0:=by
  rw[vk u,vg (by simp)]
 have M:=tG l (by omega) λe w=>(F e w).1
 by_cases hr:∃e∈l,e.Ref≠0
 ·have C:iter (λ(a:Int × (List AD))=>HL l a.1 a.2) (0,l)=some (.ext ([],BW.mk 0 0 0,8)):=by
   rcases fE l V A with ⟨_,Y⟩ | ⟨Y,_⟩
   ·obtain⟨e,w,E⟩:=hr;exact absurd (Y e w) E
   ·exact Y
  exact QN V A (e:=8) (by unfold G4;rw[T,CB,vg (by decide),J,AE,vg (by decide),vg (by simpa using u),M,AE,C,Xw]) (by decide) hA hP h3 (aO _ hr)
 have a6:∀e∈l,e.Ref=0:=λe w=>wM λE=>hr ⟨e,w,E⟩
 have C:iter (λ(a:Int × (List AD))=>HL l a.1 a.2) (0,l)=some (.nrm (l.map EK)):=by
  rcases fE l V A with ⟨Y,_⟩ | ⟨_,Y⟩
  ·exact Y
  ·exact absurd Y hr
 obtain⟨a7,a8⟩:=hs _ (BT hk)
 have Z:=hn.ok.fl
 have aa:=(Yj h ag).2 k hk
 generalize hN:d.Nodes[k]! = n at Ca hn U f2 Z T a7 a8 aa
 have ak:=Uu n.Flow
 have hv:=M0 n.Flow
 obtain⟨a,ea⟩:∃a:Nat,s.From=(a:Int):=⟨s.From.toNat,by omega⟩
 obtain⟨m,em⟩:∃m:Nat,s.To=((a+m:Nat):Int):=⟨(s.To-s.From).toNat,by omega⟩
 have hp:EJ n.Flow=0:=by
  unfold Ji at U
  split at U
  ·rename_i E;exact absurd U E
  ·rename_i E;simpa using E
 have hE:∀x∈n.Flow,EG x:=λx E=>⟨by have:=(hn.ok.fa x E).1;omega,(hn.ok.fa x E).2⟩
 have ah:I1 n.Flow 0=some (shown n.Flow 0 n.Flow.length):=fF _ 0 hE hp Z
 have hF:KQ n.Flow:=sY hp λe w=>by have:=a8 e w;omega
 have hL:∀e∈l.map EK,Bq e=0∧e.Attrs.length≤1048574:=by
  intro e w
  obtain⟨x,E,rfl⟩:=wu.1 w
  obtain⟨j,hj,ej⟩:=yZ E
  have X:=Nf B hj
  rw[vr l j hj,ej] at X
  refine⟨?_,wq (yh _ _) (F x E).2⟩
  have ai:=a6 x E
  have ab:BC (x.Attrs.filter λa=>!pF a) false=0:=sd _ (Ht X)
  unfold Bq at X
  rw[ai] at X
  show(if(x.Char=0∧(0:Int)=0)∨(x.Char≠0∧(0:Int)≠0) then(4:Int) else if(x.Char≠0∧GI x.Char=false)∨((0:Int)≠0∧¬ (1≤(0:Int)∧(0:Int)≤1073741824)) then 2 else BC (x.Attrs.filter λa=>!pF a) false)=0
  rw[ab]
  split at X
  ·cases X
  ·rename_i c1
   rw[vg c1]
   split at X
   ·cases X
   ·rename_i c2
    rw[vg c2]
 have a0:Bw n.Flow q a m (l.map EK):=⟨a2,by omega,a7,hF,hL,by rw[v7];omega⟩
 have ac:=a0.steps (n:=n) rfl s ea em
 have ad:=a0.d57
 have ae:=a0.replaced ah
 rw[v7] at ac
 have hT:G4 d s l q=some ([Ew s.Node (BN (FB n.Flow q a m (l.map EK)))],BW.mk s.Node ((a:Int)+l.length) ((a:Int)+l.length),0):=by
  unfold G4
  rw[T,CB,vg (by decide),J,AE,vg (by decide),vg (by simpa using u),M,AE,C,Gs,ac,OL]
 have af:HO d s.Node=some (k:Int):=by rw[Ws d s.Node h.1,hf]
 have O:=tF aa
 rw[Ca] at O
 have aj:=qx af hk (by rw[hN]) O ad Z hF rfl
 unfold MB Nl
 rw[AE,vg (by simp),hT,OL,hA,AE,hP,AE,h3,AE,cK l V A,cE _ a6,CB,vg (by decide),af,AE,Aa hk,hN,AE,v7,ea,show(decide ((0:Int)=0)==true)=true from rfl,An,Li (by omega) (by omega),AE]
 have e1:((((0:Int)=0)&&((BW.mk s.Node ((a:Int)+l.length) ((a:Int)+l.length)).From=(a:Int)+l.length))&&((BW.mk s.Node ((a:Int)+l.length) ((a:Int)+l.length)).To=(BW.mk s.Node ((a:Int)+l.length) ((a:Int)+l.length)).From))=true:=by simp
 rw[e1,show(true==true)=true from rfl,An,em,ae,AE,An,aj,AE]
 rfl
theorem qj{ν}{κ}(q:∀e,(e.Attrs.map κ).sum+4≤ν e)(u:∀a,3≤κ a){l:List AD}(w:(l.map ν).sum≤1048576):∀e∈l,e.Attrs.length≤1048574:=by
 intro e j
 have A:=HB (μ:=ν) j
 have B:=q e
 have C:=Q9 (μ:=κ) (c:=3) u e.Attrs
 omega
end Go.Proofs.YtgcalnmhoifpoaaGreatDoor.Al
