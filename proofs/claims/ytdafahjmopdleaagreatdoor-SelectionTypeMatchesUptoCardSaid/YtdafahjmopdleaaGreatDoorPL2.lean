/- Plain laws over the models, a part of them. -/
import Derived.Test.YtdafahjmopdleaaGreatDoorPL1
set_option linter.all false
namespace Go.Proofs.YtdafahjmopdleaaGreatDoor.Al
abbrev Hn(n:Ag)(a:List UInt8):CN:=CN.mk n (shown n.Flow 0 n.Flow.length) a
def V1:AD:=⟨10,0,[]⟩
def DI(f:List AD)(k:Nat):AD:=f[(Az f)[k]!]!
def EP(f:List AD)(k:Nat):AD:=if k=0 then V1 else DI f (k-1)
theorem RJ(f:List AD):(shown f 0 f.length).length=(Az f).length:=by rw[Xx,wN]
theorem Tu{n:Ag} a{k}(j:k<(Az n.Flow).length):If (Hn n a) (k:Int)=some (DI n.Flow k):=by
 unfold If DI
 dsimp only [Hn]
 have l:=RJ n.Flow
 rw[ne (by simp only[wF,vy];omega),Kx j,AE,AR (Gh j),AE]
theorem kr{n:Ag} a{k}(j:k<(Az n.Flow).length):If (Hn n a) ((k:Int)-1)=some (EP n.Flow k):=by
 unfold EP
 split
 ·rename_i h;subst h;rfl
 ·rw[show((k:Int)-1)=((k-1:Nat):Int) by omega]
  exact Tu a (by omega)
def La(f:List AD):Prop:=∀e∈f,Am e.Attrs false=0∧e.Attrs.length≤1048576
theorem mU:Am V1.Attrs false=0∧V1.Attrs.length≤1048576:=⟨by decide,by decide⟩
theorem NV{f}(h:La f){k}(j:k<(Az f).length):Am (DI f k).Attrs false=0∧(DI f k).Attrs.length≤1048576:=h _ (BL (Gh j))
theorem gp{f}(h:La f){k}(j:k<(Az f).length):Am (EP f k).Attrs false=0∧(EP f k).Attrs.length≤1048576:=by
 unfold EP
 split
 ·exact mU
 ·exact NV h (by omega)
theorem Yh{l r:AD}(j:Am l.Attrs false=0∧l.Attrs.length≤1048576)(q:Am r.Attrs false=0∧r.Attrs.length≤1048576):Am (Dv l r).Attrs false=0∧(Dv l r).Attrs.length≤1048576:=by
 unfold Dv;split;exact q;exact j
def F2(f:List AD)(k:Nat):List AC:=Nd (EP f k) (DI f k)
theorem nb{n:Ag}(a:List UInt8){k}(j:k<(Az n.Flow).length)(B:n.Flow.length≤1048576)(h:La n.Flow):P9 (Hn n a) (k:Int)=some (F2 n.Flow k):=by
 have C:=G0 n.Flow
 have l:=gp h j
 have q:=NV h j
 have u:=Yh l q
 unfold P9 F2
 rw[LG (show(-9223372036854775808:Int)≤(k:Int)-1 by omega) (by omega),AE,kr a j,AE,Tu a j,AE]
 have w:(if decide ((EP n.Flow k).Char=10)=true then some (DI n.Flow k) else some (EP n.Flow k))=some (Dv (EP n.Flow k) (DI n.Flow k)):=by
  unfold Dv
  by_cases h:(EP n.Flow k).Char=10
  ·rw[vx (by simpa using h),vx h]
  ·rw[ne (by simpa using h),ne h]
 rw[w,AE,nB u.2,nD (by
  by_cases A:k=0
  ·right;unfold EP;rw[vx A];rfl
  ·left;omega) l.1 q.1 l.2 q.2]
 rfl
def F6(f:List AD):List AD:=(Az f).map λi=>f[i]!
theorem cD f:(F6 f).length=(Az f).length:=by simp[F6]
theorem Tm{f}{k}(j:k<(Az f).length):(F6 f)[k]! = DI f k:=by
 have l:k<((Az f).map λi=>f[i]!).length:=by simpa using j
 show((Az f).map λi=>f[i]!)[k]! = f[(Az f)[k]!]!
 rw[wD _ k l,yj,wD (Az f) k j]
theorem kV(f:List AD)(q:HV f 0=some (shown f 0 f.length))(A:f.length≤1048576):PT f=some (F6 f):=by
 have B:=G0 f
 have C:=RJ f
 unfold PT
 rw[q,AE]
 have:=Ie (f:=λ(a:Int × (List AD))=>MF f (shown f 0 f.length) a.1 a.2) (Az f) (λk o=>((k:Int),o)) (λo i=>o++[f[i]!]) (λo=>o) (λo k=>o.length≤k)
  (λb k j E=>by simp;omega) (λo k j u=>by
   dsimp only
   unfold MF
   rw[vx (by simp only[vy];omega),Kx j,AE,AR (Gh j),AE,F5 (by rw[wm];omega),AE,Aa (by omega)];rfl) (λo u=>by
   dsimp only
   unfold MF
   rw[ne (by simp only[vy];omega)]) [] (by simp)
 rw[show((0:Nat):Int)=0 from rfl] at this
 rw[this,AE]
 have key:∀(l:List Nat) (o:List AD),l.foldl (λo i=>o++[f[i]!]) o=o++l.map λi=>f[i]!:=by
  intro l
  induction l with
  | nil=>simp
  | cons x l w=>intro o;rw[wg,w];simp
 rw[key];rfl
theorem rg{f:List AD}{k}(q:k<(Az f).length)(M:f.length≤1048576)(h:La f):Ld (F6 f) (k:Int)=some (F2 f k):=by
 have O:=G0 f
 have E:=cD f
 have u:=gp h q
 have w:=NV h q
 have j:=Yh u w
 unfold Ld F2
 have F:(if decide ((0:Int)<(k:Int))=true then AB (AM .i64 ((k:Int)-1)) λ(A:Int)=>AB (AL (F6 f) A) λ(B:AD)=>some B else some (AD.mk 10 0 []))=some (EP f k):=by
  unfold EP
  by_cases l:k=0
  ·subst l;rfl
  ·rw[vx (by simp only[vy];omega),Es (by omega) (by omega),AE,AR (by omega),AE,ne l,Tm (by omega)]
 have I:(if decide ((k:Int)<((F6 f).length:Int))=true then AB (AL (F6 f) (k:Int)) λ(C:AD)=>some C else some (AD.mk 10 0 []))=some (DI f k):=by
  rw[vx (by simp only[vy];omega),AR (by omega),AE,Tm q]
 have J:(if decide ((EP f k).Char=10)=true then some (DI f k) else some (EP f k))=some (Dv (EP f k) (DI f k)):=by
  unfold Dv
  by_cases h:(EP f k).Char=10
  ·rw[vx (by simpa using h),vx h]
  ·rw[ne (by simpa using h),ne h]
 rw[F,AE,I,AE,J,AE,nT j.1 j.2]
 by_cases l:k=0
 ·subst l
  rw[ne (by decide),AE]
  rfl
 ·rw[vx (by simp only[vy];omega),lg u.1 w.1 u.2 w.2]
  rfl
def Po(a:AC):Bool:=!(a.Name∈([[97,100,100],[99,117,116],[104,105,100,100,101,110],[108,111,99,107],[115,101,99,116,105,111,110],[98,114,101,97,107],[115,116,97,114,116]]:List (List UInt8)))&&!shr a.Name
def GI(e:AD):List AC:=e.Attrs.filter Po
theorem oR{e:AD}(l:e.Attrs.length≤1048576):iter (λ(a:Int × (List AC))=>L3 e a.1 a.2) (0,[])=some (GI e):=by
 have:=Ie (f:=λ(a:Int × (List AC))=>L3 e a.1 a.2) e.Attrs (λk o=>((k:Int),o)) (Ji Po) (λo=>o) (λo k=>o.length≤k)
  (λb k j l=>by unfold Ji;split;simp;omega;omega) (λo k j q=>by
   dsimp only
   unfold L3 Ji Po
   rw[vx (by simpa using j),AR j,AE,im _ _ (by decide),AE,eQ]
   generalize decide (e.Attrs[k]!.Name∈([[97,100,100],[99,117,116],[104,105,100,100,101,110],[108,111,99,107],[115,101,99,116,105,111,110],[98,114,101,97,107],[115,116,97,114,116]]:List (List UInt8)))=u
   cases u with
   | true=>
    show AB (AB (some default) _) _=_
    rw[AE,ne (by simp),AE,Aa (by omega),AE,ne (by simp)]
   | false=>
    show AB (AB (some (shr e.Attrs[k]!.Name)) _) _=_
    rw[AE]
    by_cases hp:shr e.Attrs[k]!.Name=true
    ·rw[hp,ne (by simp),AE,Aa (by omega),AE,ne (by simp)]
    ·rw[xt.2 hp,vx (by decide),en (by omega),AE,AE,Aa (by omega),AE,vx (by decide)]) (λo q=>by
   dsimp only
   unfold L3
   rw[ne (by simp)]) [] (by simp)
 rw[show((0:Nat):Int)=0 from rfl] at this
 rw[this,XV];rfl
theorem mX{e:AD}(F:Am e.Attrs false=0)(j:e.Attrs.length≤1048576):iter (λ(a:(List AC) × Int)=>Lc e a.1 a.2) ([],0)=some (GI e):=by
 obtain⟨I,O⟩:=(Ew _ _).1 F
 have:=Ie (f:=λ(a:(List AC) × Int)=>Lc e a.1 a.2) e.Attrs (λk o=>(o,(k:Int))) (Dz Po) (λo=>o) (λo k=>o.length≤k∧Bc o)
  (λb k l j=>by
   unfold Dz
   split
   ·exact⟨by have:=KO b e.Attrs[k]!;omega,OL _ j.2⟩
   ·exact⟨by omega,j.2⟩) (λo k l C=>by
   dsimp only
   unfold Lc Dz Po
   rw[vx (by simpa using l),AR l,AE,dG]
   generalize e.Attrs[k]! = x
   have J:(if(decide (x.Name=[97,100,100])) then(
     some (decide (x.Name=[97,100,100]))
    ) else(
     if(decide (x.Name=[99,117,116])) then(
      some (decide (x.Name=[99,117,116]))
     ) else(
      if(decide (x.Name=[104,105,100,100,101,110])) then(
       some (decide (x.Name=[104,105,100,100,101,110]))
      ) else(
       if(decide (x.Name=[115,101,99,116,105,111,110])) then(
        some (decide (x.Name=[115,101,99,116,105,111,110]))
       ) else(
        if(decide (x.Name=[98,114,101,97,107])) then(
         some (decide (x.Name=[98,114,101,97,107]))
        ) else(
         some (decide (x.Name=[115,116,97,114,116]))
        )
       )
      )
     )
    ))=some (decide (x.Name∈([[97,100,100],[99,117,116],[104,105,100,100,101,110],[115,101,99,116,105,111,110],[98,114,101,97,107],[115,116,97,114,116]]:List (List UInt8)))):=by
    generalize x.Name=n
    simp only[wM,yx,zZ]
    by_cases q:n=[97,100,100]
    ·subst q;rfl
    by_cases u:n=[99,117,116]
    ·subst u;rfl
    by_cases w:n=[104,105,100,100,101,110]
    ·subst w;rfl
    by_cases A:n=[115,101,99,116,105,111,110]
    ·subst A;rfl
    by_cases B:n=[98,114,101,97,107]
    ·subst B;rfl
    rw[ne (by simpa using q),ne (by simpa using u),ne (by simpa using w),ne (by simpa using A),ne (by simpa using B)]
    simp only[q,u,w,A,B,zX]
   rw[J,AE]
   have j:((!(x.Name∈([[97,100,100],[99,117,116],[104,105,100,100,101,110],[108,111,99,107],[115,101,99,116,105,111,110],[98,114,101,97,107],[115,116,97,114,116]]:List (List UInt8))))&&!shr x.Name)=((!(x.Name∈([[97,100,100],[99,117,116],[104,105,100,100,101,110],[115,101,99,116,105,111,110],[98,114,101,97,107],[115,116,97,114,116]]:List (List UInt8))))&&!shr x.Name):=by
    by_cases E:x.Name=[108,111,99,107]
    ·rw[E];rfl
    ·congr 2
     simp only[wM,yx,zZ,E,zX]
   rw[j]
   generalize decide (x.Name∈([[97,100,100],[99,117,116],[104,105,100,100,101,110],[115,101,99,116,105,111,110],[98,114,101,97,107],[115,116,97,114,116]]:List (List UInt8)))=M
   cases M with
   | true=>rw[vx rfl,AE,Aa (by omega),AE,ne (by simp)]
   | false=>
    rw[ne (by decide),AE]
    by_cases hp:shr x.Name=true
    ·rw[hp,ne (by simp),AE,Aa (by omega),AE,ne (by simp)]
    ·rw[xt.2 hp,vx (by decide),SH _ _ C.2 (by omega),AE,AE,Aa (by omega),AE,vx (by decide)]) (λo C=>by
   dsimp only
   unfold Lc
   rw[ne (by simp)]) [] ⟨by simp,by simp[Bc]⟩
 rw[show((0:Nat):Int)=0 from rfl] at this
 rw[this,Sj _ _ _ I (by simp)];rfl
theorem sr{n:Ag}(a:List UInt8){k z}(w:n.Flow.length≤1048576)(h:La n.Flow)(q:z<(Az n.Flow).length)(j:n.Flow[(Az n.Flow)[z]!]!.Char=10)(l:k≤z) :
  Kj (Hn n a) (k:Int)=some (GI (DI n.Flow (El n k (z-k)))):=by
 have A:=G0 n.Flow
 have u:=Si n (z-k) k
 unfold Kj
 rw[Ys (n:=n) (λk l=>by
  unfold TK
  rw[Tu a l,AE]
  unfold DI
  by_cases j:n.Flow[(Az n.Flow)[k]!]!.Char=10
  ·rw[ne (CI j),vx j]
  ·rw[vx (BX j),ne j,Aa (by omega)];rfl) q j (z-k) k (by omega),AE,Tu a (by omega),AE,oR (NV h (by omega)).2]
 rfl
theorem je{n:Ag}{k z}(A:n.Flow.length≤1048576)(h:La n.Flow)(q:z<(Az n.Flow).length)(j:n.Flow[(Az n.Flow)[z]!]!.Char=10)(l:k≤z) :
  LO (F6 n.Flow) (k:Int)=some (GI (DI n.Flow (El n k (z-k)))):=by
 have B:=G0 n.Flow
 have u:=cD n.Flow
 have w:=Si n (z-k) k
 unfold LO
 rw[Ys (n:=n) (λk l=>by
  unfold Rq
  rw[vz (show(k:Int)<((F6 n.Flow).length:Int) by omega)]
  show AB (AL (F6 n.Flow) (k:Int)) _=_
  rw[AR (by omega),AE,Tm l]
  unfold DI
  by_cases j:n.Flow[(Az n.Flow)[k]!]!.Char=10
  ·rw[ne (by simpa using j),vx j]
  ·rw[vx (by simpa using j),ne j,Aa (by omega)];rfl) q j (z-k) k (by omega),AE,ne (by simp only[vy];omega),AR (by omega),AE,Tm (by omega),mX (NV h (by omega)).1 (NV h (by omega)).2]
 rfl
def eC(t:List AC)(c:Int):AD:=⟨c,0,t⟩
def Y7(t:List AC):An (List Int) Int→An (List AD) (Int × List AD)
 | .nrm l=>.nrm (l.map (eC t))
 | .ext e=>.ext (e,[])
structure pr(m:Nat)(R:An (List Int) Int):Prop where
 nrm:∀l,R=.nrm l→l.length≤m∧∀c∈l,Er c=true
 ext:∀e,R=.ext e→e≠0
theorem qq(at_:List AC)(T:at_.length≤1073741824)(j:List UInt8)(Z:j.length≤1048576):∀(n i:Nat) (out:List Int),j.length-i=n→i≤j.length→out.length≤i→(∀c∈out,Er c=true) →
  ∃R,iter (λ(a:(List UInt8) × (List AD))=>Gt at_ a.1 a.2) (j.drop i,out.map (eC at_))=some (Y7 at_ R)∧iter (λ(a:Int × (List AD))=>Gv j [] a.1 a.2) ((i:Int),out.map (eC []))=some (Y7 [] R)∧pr j.length R:=by
 intro n
 induction n using Nat.strongRecOn with
 | _ n U=>
  intro i out hn hi ho B
  by_cases V:i<j.length
  ·have u:j.drop i≠[]:=by
    intro e
    have:=yZ List.length e
    rw[wq] at this
    simp at this;omega
   obtain⟨r,k,w,h2,X⟩:=mh _ u
   rw[wq] at X
   have E:=VF j i (by omega)
   by_cases C:r=65533∧k=1
   ·refine⟨.ext 10,B3 ?_,B3 ?_,⟨λl e=>(by cases e),λe h=>(by cases h;decide)⟩⟩
    ·show Gt at_ (j.drop i) _=_
     unfold Gt
     rw[vx (BX u),w,Bi,vx (by rw[C.1,C.2];rfl)];rfl
    ·show Gv j [] (i:Int) _=_
     unfold Gv
     rw[vx (by rw[vy];omega),E,AE,w,Bi,vx (by rw[C.1,C.2];rfl)];rfl
   ·have I:¬ (((r=65533)&&((k:Int)=1))=true):=by
     rw[v7,vy,vy];omega
    have J:¬ (((r=65533)&&((k:Int)<2))=true):=by
     rw[v7,vy,vy];omega
    by_cases q:Er (IntKind.i64.wrap r)=true
    ·obtain⟨R,M,O,Y⟩:=U (j.length-(i+k)) (by omega) (i+k) (out++[IntKind.i64.wrap r]) rfl (by omega) (by simp;omega) (λe A=>by
      rcases wn.1 A with A | A
      ·exact B e A
      ·rw[wv] at A;subst A;exact q)
     rw[yK] at M O
     refine⟨R,?_,?_,Y⟩
     ·rw[← M,← List.drop_drop]
      refine DM ?_
      show Gt at_ (j.drop i) _=_
      unfold Gt
      rw[vx (BX u),w,Bi,ne I,TL,AE,ne (by rw[q];decide),rj _ T,AE,F5 (by rw[wm,wN];omega),AE,VF _ k (by rw[wq];omega),AE]
      rfl
     ·rw[← O]
      refine DM ?_
      show Gv j [] (i:Int) _=_
      unfold Gv
      rw[vx (by rw[vy];omega),E,AE,w,Bi,ne J,Tn,AE,ne (by rw[q];decide),F5 (by rw[wm,wN];omega),AE,Bz (by omega) (by omega),AE]
      rfl
    ·have q:Er (IntKind.i64.wrap r)=false:=by simpa using q
     refine⟨.ext 2,B3 ?_,B3 ?_,⟨λl e=>(by cases e),λe h=>(by cases h;decide)⟩⟩
     ·show Gt at_ (j.drop i) _=_
      unfold Gt
      rw[vx (BX u),w,Bi,ne I,TL,AE,vx (by rw[q];rfl)];rfl
     ·show Gv j [] (i:Int) _=_
      unfold Gv
      rw[vx (by rw[vy];omega),E,AE,w,Bi,ne J,Tn,AE,vx (by rw[q];rfl)];rfl
  ·have F:i=j.length:=by omega
   subst F
   refine⟨.nrm out,B3 ?_,B3 ?_,⟨λl e=>(by cases e;exact⟨by omega,B⟩),λe h=>(by cases h)⟩⟩
   ·show Gt at_ (j.drop j.length) _=_
    unfold Gt
    rw[yi,ne (CI rfl)];rfl
   ·show Gv j [] (j.length:Int) _=_
    unfold Gv
    rw[ne (by simp)];rfl
theorem lr(s:List UInt8) at_(q:Co at_)(w:Am at_ false=0)(A:s.length≤1048576) :
  (∃l:List Int,MG s at_=some (0,l.map (eC at_))∧LS s []=some (0,l.map (eC []))∧l.length≤s.length∧∀c∈l,Er c=true) ∨
  (∃e:Int,e≠0∧MG s at_=some (e,[])∧LS s []=some (e,[])):=by
 have B:=q.1
 obtain⟨R,u,C,j⟩:=qq at_ B s A s.length 0 [] (by omega) (by omega) (by simp) (by simp)
 rw[List.drop_zero] at u
 unfold MG LS
 rw[PP _ q.2 (by omega),RN [] _ (λa h=>by simp at h) (by simp),AE,AE,w,ne (by decide),ne (by decide)]
 rw[show([]:List AD)=([]:List Int).map (eC at_) from rfl,u]
 rw[show(([]:List Int).map (eC at_))=([]:List Int).map (eC []) from rfl,show(0:Int)=((0:Nat):Int) from rfl,C]
 match R,j with
 | .nrm l,j=>
  obtain⟨E,F⟩:=j.nrm l rfl
  exact .inl ⟨l,rfl,rfl,E,F⟩
 | .ext e,j=>exact .inr ⟨e,j.ext e rfl,rfl,rfl⟩
def H1(a b:List AC):List AC:=Bs FX a b []
def My(c:Bool)(j l:List AC):Un:=.r c (if c then [] else H1 j l)
def Ba:List Un→List Un→List Un
 | .r true _::j,l=>.r true []::Ba j l
 | j,.a e::l=>.a e::Ba j l
 | .a e::j,.r q u::l=>if q then Ba j l else .a (C0 u e)::Ba j l
 | .r false w::j,.r q u::l=>My q w u::Ba j l
 | [],.r _ _::_=>[]
 | .a _::_,[]=>[]
 | .r false _::_,[]=>[]
 | [],[]=>[]
  termination_by j l=>j.length+l.length
def Og(us:List Un):Prop:=∀t j,us≠.r true t::j
theorem Pq t us vs:Ba (.r true t::us) vs=.r true []::Ba us vs:=by rw[Ba]
theorem io t us vs:∀n:Nat,Ba (List.replicate n (.r true t)++us) vs=List.replicate n (.r true [])++Ba us vs
 | 0=>rfl
 | n+1=>by rw[wc,wO,Pq,io t us vs n];rfl
theorem PH(B:List AD)(us vs:List Un)(h:Og us):Ba us (B.map Un.a++vs)=B.map Un.a++Ba us vs:=by
 induction B with
 | nil=>rfl
 | cons e B j=>
  simp only[wS,wO]
  rw[← j]
  match us,h with
  | [],_=>rw[Ba];intro _ _ h;cases h
  | .r false t::us,_=>rw[Ba];intro _ _ h;cases h
  | .r true t::us,h=>exact absurd rfl (h t us)
  | .a e::us,h=>rw[Ba];intro _ _ h;cases h
theorem cS t us:Og (.r false t::us):=λ_ _ h=>by cases h
theorem eX:Og []:=λ_ _ h=>by cases h
theorem sw e us vs j l:Ba (.a e::us) (.r j l::vs)=(if j then [] else [.a (C0 l e)])++Ba us vs:=by
 rw[Ba];cases j<;>rfl
theorem Vb us vs j l q:Ba (.r false l::us) (.r j q::vs)=My j l q::Ba us vs:=by rw[Ba]
theorem Y4 us vs j l:∀A:List AD,Ba (A.map Un.a++us) (List.replicate A.length (.r j l)++vs)=(if j then [] else(A.map (C0 l)).map Un.a)++Ba us vs
 | []=>by cases j<;>rfl
 | e::A=>by
  rw[wS,wK,wc,wO,wO,sw,Y4 us vs j l A]
  cases j<;>rfl
theorem ZX us vs j l q:∀n:Nat,Ba (List.replicate n (.r false l)++us) (List.replicate n (.r j q)++vs)=List.replicate n (My j l q)++Ba us vs
 | 0=>rfl
 | n+1=>by rw[wc,wc,wO,wO,Vb,ZX us vs j l q n];rfl
theorem eS(B:List AD):Ba [] (B.map Un.a)=B.map Un.a:=by
 have:=PH B [] [] eX
 rw[wR] at this
 rw[this,Ba,wR]
theorem ia:∀(us vs:List Un),(Ba us vs).length≤us.length+vs.length:=by
 intro us vs
 fun_induction Ba us vs<;>simp_all<;>omega
theorem rl:∀(us vs:List Un),BS (Ba us vs)≤BS us+BS vs:=by
 intro us vs
 fun_induction Ba us vs with
 | case1 t us vs j=>rw[DW,DW];simp only[Un.isR,xo,xm,ya];omega
 | case2 us e vs q j=>rw[DW,DW];omega
 | case3 e us l vs j=>rw[DW,DW];simp only[Un.isR,xo,xm,ya];omega
 | case4 e us u l vs w j=>rw[DW,DW,DW];simp only[Un.isR,xo,xm,ya];omega
 | case5 A us u l vs j=>rw[DW,DW,DW];simp only[Un.isR,My,xo,xm,ya];omega
 | case6=>simp[BS]
 | case7=>simp[BS]
 | case8=>simp[BS]
 | case9=>simp[BS]
theorem HX u us:By (u::us)=(if FJ u then 1 else 0)+By us:=by unfold By;rw[xT];omega
theorem QY a b:By (a++b)=By a+By b:=by simp[By]
theorem dS(l:List AD):By (l.map Un.a)=l.length:=by
 induction l with
 | nil=>rfl
 | cons x l j=>rw[wS,HX,j,wK];simp only[FJ,xm];omega
theorem SZ n c t:By (List.replicate n (.r c t))=if c then 0 else n:=by
 cases c<;>simp[By,xx,FJ]
theorem Uu{e:AD}{t:List AC}(j:Bv e=0)(w:e.Attrs.length≤1048576)(q:Am t true=0)(u:t.length≤1048576):Bv (C0 t e)=0∧Co (C0 t e).Attrs:=by
 have l:=lL (Hx j) q
 have A:=Y2 e.Attrs t
 refine⟨?_,GS (l:=F3 e.Attrs t) l (by omega)⟩
 unfold Bv at j ⊢
 unfold C0
 dsimp only
 split
 ·rename_i h;rw[vx h] at j;exact j
 ·rename_i h
  rw[ne h] at j
  split
  ·rename_i h;rw[vx h] at j;exact j
  ·exact l
theorem eo{a b:List AC}(l:Am a true=0)(q:Am b true=0)(u:a.length≤1048576)(w:b.length≤1048576):Am (H1 a b) true=0∧Co (H1 a b):=by
 have j:=o6 l q
 have A:=l8 a b
 exact⟨j,GS j (by unfold H1;omega)⟩
theorem iC:∀(us vs:List Un),Dk us→Dk vs→∀u∈Ba us vs,DZ u:=by
 intro us vs
 fun_induction Ba us vs with
 | case1 t us vs w=>
  intro q l u j
  rcases wM.1 j with rfl | j
  ·exact⟨λh=>(by cases h),GF⟩
  ·exact w q.tl l u j
 | case2 us e vs I w=>
  intro q l u j
  rcases wM.1 j with rfl | j
  ·exact S4 l (v8 ..)
  ·exact w q l.tl u j
 | case3 e us E vs w=>intro q l u j;exact w q.tl l.tl u j
 | case4 e us F E vs C w=>
  intro q l u j
  rcases wM.1 j with rfl | j
  ·have A:=q _ (v8 ..)
   have B:=l _ (v8 ..)
   dsimp only at A B
   exact Uu A.1 A.2 (B.1 (by simpa using C)) B.2.2
  ·exact w q.tl l.tl u j
 | case5 O us F E vs w=>
  intro q l u j
  rcases wM.1 j with rfl | j
  ·have A:=q _ (v8 ..)
   have B:=l _ (v8 ..)
   dsimp only at A B
   cases F with
   | true=>exact⟨λh=>(by cases h),GF⟩
   | false=>
    obtain⟨J,M⟩:=eo (A.1 rfl) (B.1 rfl) A.2.2 B.2.2
    exact⟨λ_=>J,M⟩
  ·exact w q.tl l.tl u j
 | case6=>intro _ _ u j;cases j
 | case7=>intro _ _ u j;cases j
 | case8=>intro _ _ u j;cases j
 | case9=>intro _ _ u j;cases j
theorem sG{s s':AI}{rest}{u n}{p}(q:s.Kind≠1)(h:F1 ⟨s::rest,u⟩ n=some (s',p)):s'.N=n:=by
 unfold F1 at h
 dsimp only at h
 change AB (some s) _=_ at h
 rw[AE,ne (by rw[vy];exact q),AE] at h
 cases j:AM .i64 (u+n) with
 | none=>rw[j] at h;cases h
 | some a=>
  rw[j,AE] at h
  cases l:HO s with
  | none=>rw[l] at h;cases h
  | some b=>
   rw[l,AE] at h
   generalize (if(decide (a=b))=true then _ else _:Option BZ)=r at h
   cases r with
   | none=>cases h
   | some r=>
    rw[AE] at h
    cases h;rfl
theorem kB{s:AI}{rest}{u:Int}(h:Fy ⟨s::rest,u⟩)(B:s.Kind≠2):Og (CQ ⟨s::rest,u⟩)∧0<By (CQ ⟨s::rest,u⟩):=by
 have w:=h.stp s (v8 ..)
 have J:=Gy w.1 w.2
 have C:=h.u0
 have E:=h.fit s rest rfl
 dsimp only at C E
 have A:u.toNat<(BM s).length:=by omega
 have F:∀v∈BM s,FJ v=true:=by
  intro v j
  unfold BM at j
  split at j
  ·obtain⟨e,_,rfl⟩:=xY.1 j;rfl
  ·have:=xZ j
   subst this
   rw[v6 B];rfl
 have e:CQ ⟨s::rest,u⟩=(BM s)[u.toNat]::((BM s).drop (u.toNat+1)++Ai rest):=by
  show(BM s).drop u.toNat++Ai rest=_
  rw[xr A,wO]
 have l:=F _ (xz A)
 rw[e]
 constructor
 ·intro t M I
  injection I with q _
  rw[q] at l;cases l
 ·rw[HX,l,vx rfl];omega
theorem qS(U V:List Un)(p q:BZ)(hp:Fy p)(B:Fy q)(ha:CQ p=U)(hb:CQ q=V)(oa:Dk U)(ob:Dk V)(hc:By U=Au V)(ak:U.length≤4294967296)(al:V.length≤4294967296)(I:p.steps.length≤4294967296)(C:q.steps.length≤4294967296) :
  iter (λ(a:Ae × BZ × BZ)=>Me a.1 a.2.1 a.2.2) ((Ae.mk [] [] 0),p,q)=some (Cm (Av (Ba U V))):=by
 have key:∃r,iter (λ(a:Ae × BZ × BZ)=>Me a.1 a.2.1 a.2.2) ((Ae.mk [] [] 0),p,q)=some r∧r=Cm (Av (Ba U V)):=by
  refine Yr (λF=>Fy F.2.1∧Fy F.2.2∧Dk (CQ F.2.1)∧Dk (CQ F.2.2)∧F.2.1.steps.length≤4294967296∧F.2.2.steps.length≤4294967296∧By (CQ F.2.1)=Au (CQ F.2.2) ∧
   ∃X,F.1=Cm (Av X)∧X++Ba (CQ F.2.1) (CQ F.2.2)=Ba U V)
   (λF=>(CQ F.2.1).length+(CQ F.2.2).length) _ ?_ ⟨hp,B,by rw[ha];exact oa,by rw[hb];exact ob,I,C,by rw[ha,hb];exact hc,[],rfl,by rw[ha,hb];rfl⟩
  rintro⟨x,p,q⟩ ⟨hp,B,J,oQ,I,C,hc,X,hx,j⟩
  dsimp only at hp B J oQ I C hc hx j
  subst hx
  have an:X.length≤8589934592:=by
   have A:=yZ List.length j
   have M:=ia U V
   rw[wG] at A
   omega
  have O:∀u∈X,DZ u:=λu hu=>iC U V oa ob u (by rw[← j];exact yG _ hu)
  dsimp only
  unfold Me
  obtain⟨ps,pu⟩:=p
  obtain⟨qs,qu⟩:=q
  match ps,qs with
  | [],[]=>
   refine .inr ?_
   rw[NL,NL]
   simp only[AE]
   refine⟨_,rfl,?_⟩
   have e1:Ba [] []=[]:=by rw[Ba]
   change X++Ba [] []=_ at j
   rw[e1,wR] at j
   rw[j]
  | s::ps,qs=>
   have hs:=hp.stp s (v8 ..)
   have hsz:=Gy hs.1 hs.2
   have ac:=hp.u0
   have ad:=hp.fit s ps rfl
   have ao:=JL hs.1
   dsimp only at ac ad I
   rw[wK] at I
   rw[MO,AE]
   have a6:decide (0≤s.Kind)=true:=by rw[vy];omega
   rw[a6,show(true==false)=false from rfl,ne (by decide),AE,vx (by decide)]
   refine .inl ?_
   by_cases hk:s.Kind=2
   ·have z1:CH s=s.N:=by unfold CH;rw[ne (by omega)]
    obtain⟨p',s',A,M,E,h4,k1,k2,_⟩:=H3 (n:=CH s-pu) hp (by omega) (by omega) (by omega)
    have hN:=sG (by omega) A
    rw[vx (by rw[vy];exact hk),HT hp,AE,A,Bi,hN]
    rw[O9 (by omega) (by omega),vz hk] at E
    rw[E] at j hc J ⊢
    rw[io,← wJ] at j
    rw[QY,SZ] at hc
    rw[Sz O (by omega) (CH s-pu) [] (by omega) (by omega) (λw=>some (Sum.inl (w,p',(⟨qs,qu⟩:BZ))))]
    refine⟨_,rfl,⟨M,B,J.app,oQ,by dsimp only;omega,C,by simpa using hc,_,rfl,j⟩,?_⟩
    dsimp only
    rw[wG,wu];omega
   ·rw[ne (by rw[vy];exact hk)]
    have a0:=kB hp hk
    match qs with
    | []=>
     exfalso
     have A:=a0.2
     rw[hc] at A
     exact absurd A (by show ¬ (0<Au []);simp[Au])
    | t::qs=>
     have Y:=B.stp t (v8 ..)
     have ae:=Gy Y.1 Y.2
     have a7:=B.u0
     have a8:=B.fit t qs rfl
     have af:=JL Y.1
     dsimp only at a7 a8 C
     rw[wK] at C
     rw[MO,AE]
     by_cases l:t.Kind=1
     ·obtain⟨q',t',A,M,E,h4,k1,k2,T⟩:=H3 (n:=CH t-qu) B (by omega) (by omega) (by omega)
      obtain⟨T,k4,k5⟩:=T l
      rw[vx (by rw[vy];exact l),HT B,AE,A,Bi,NK O (by omega) t'.Elems (by omega) (λe he=>Y.2.ea e (k5 e he)),AE]
      rw[← T] at E
      rw[E] at j hc oQ ⊢
      rw[PH _ _ _ a0.1,← wJ] at j
      rw[Ho,Ph,wY] at hc
      refine⟨_,rfl,⟨hp,M,J,oQ.app,by dsimp only [List.length_cons];omega,by dsimp only;omega,hc,_,rfl,j⟩,?_⟩
      dsimp only
      rw[wG,wN];omega
     ·rw[ne (by rw[vy];exact l),HT hp,AE,HT B,AE]
      generalize hn:min (CH s-pu) (CH t-qu)=n
      have aa:1≤n:=by omega
      have ag:n≤CH s-pu:=by omega
      have ah:n≤CH t-qu:=by omega
      have z2:CH t=t.N:=by unfold CH;rw[ne l]
      obtain⟨p',s',A,M,E,h4,k1,k2,T⟩:=H3 (n:=n) hp aa ag (by omega)
      obtain⟨q',t',j1,j2,j3,j4,l1,l2,_⟩:=H3 (n:=n) B aa ah (by omega)
      rw[O9 l (by omega)] at j3
      rw[j3] at oQ
      obtain⟨m,hm⟩:∃m,n.toNat=m+1:=⟨n.toNat-1,by omega⟩
      have u2:=oQ (.r (decide (t.Kind=2)) t.Attrs) (by rw[hm,wc];simp)
      dsimp only at u2
      rw[A,Bi,j1,Bi,k1,l1,k2,l2]
      by_cases h0:s.Kind=0
      ·have z1:CH s=s.N:=by unfold CH;rw[ne (by omega)]
       rw[O9 (by omega) (by omega),v6 (by omega)] at E
       rw[E] at J
       have u1:=J (.r false s.Attrs) (by rw[hm,wc];simp)
       dsimp only at u1
       have a1:=u1.1 rfl
       rw[E,j3] at j hc ⊢
       rw[ZX,← wJ] at j
       rw[QY,SZ,Ho,Pg] at hc
       have ab:By (CQ p')=Au (CQ q'):=by simp at hc;exact hc
       by_cases g0:t.Kind=0
       ·have Z:decide (t.Kind=2)=false:=by rw[g0];rfl
        have a2:=u2.1 Z
        have lk:=(eo a1 a2 u1.2.2 u2.2.2).2
        rw[Z] at j ⊢
        rw[vz h0,vz g0,vx (by decide),kx _ _ (by omega),AE,show Bs FX s.Attrs t.Attrs []=H1 s.Attrs t.Attrs from rfl,KV O (by omega) n _ (by omega) (by omega) lk.1,AE]
        refine⟨_,rfl,⟨M,j2,J.app,oQ.app,by dsimp only;omega,by dsimp only;omega,ab,_,rfl,j⟩,?_⟩
        dsimp only
        rw[wG,wG,wu];omega
       ·have Z:decide (t.Kind=2)=true:=by rw[vy];omega
        rw[Z] at j ⊢
        rw[vz h0,v6 g0,ne (by decide),vx (by decide)]
        rw[Sz O (by omega) n [] (by omega) (by omega) (λw=>some (Sum.inl (w,p',q')))]
        refine⟨_,rfl,⟨M,j2,J.app,oQ.app,by dsimp only;omega,by dsimp only;omega,ab,_,rfl,j⟩,?_⟩
        dsimp only
        rw[wG,wG,wu];omega
      ·have ai:s.Kind=1:=by omega
       obtain⟨T,k4,k5⟩:=T ai
       rw[← T] at E
       rw[E] at J
       rw[E,j3] at j hc ⊢
       rw[show n.toNat=s'.Elems.length by omega] at j hc oQ ⊢
       rw[Y4,← wJ] at j
       rw[QY,dS,Ho,Pg] at hc
       rw[v6 h0]
       by_cases g0:t.Kind=0
       ·have Z:decide (t.Kind=2)=false:=by rw[g0];rfl
        have a2:=u2.1 Z
        rw[Z] at j ⊢
        rw[vz g0,ne (by decide),ne (by decide),vx rfl,ko _ _ (by omega) (λe he=>hs.2.ea e (k5 e he)) (by omega),AE]
        rw[ne (by decide)] at j
        rw[NK O (by omega) _ (by rw[wN];omega) (λe he=>by
         obtain⟨e0,aj,rfl⟩:=xY.1 he
         have:=J (.a e0) (yG _ (List.mem_map_of_mem aj))
         exact(Uu this.1 this.2 a2 u2.2.2).2),AE]
        refine⟨_,rfl,⟨M,j2,J.app,oQ.app,by dsimp only;omega,by dsimp only;omega,by dsimp only;omega,_,rfl,j⟩,?_⟩
        dsimp only
        rw[wG,wG,wu];omega
       ·have Z:decide (t.Kind=2)=true:=by rw[vy];omega
        rw[Z] at j ⊢
        rw[v6 g0,ne (by decide),ne (by decide),ne (by decide)]
        rw[vx rfl,wR] at j
        refine⟨_,rfl,⟨M,j2,J.app,oQ.app,by dsimp only;omega,by dsimp only;omega,by dsimp only;omega,_,rfl,j⟩,?_⟩
        dsimp only
        rw[wG,wG,wu];omega
  | [],t::qs=>
   have Y:=B.stp t (v8 ..)
   have ae:=Gy Y.1 Y.2
   have a7:=B.u0
   have a8:=B.fit t qs rfl
   have af:=JL Y.1
   dsimp only at a7 a8 C
   rw[wK] at C
   rw[NL,AE,show decide ((0:Int) ≤ -1)=false by decide,show(false==false)=true from rfl,vx rfl,MO,AE,AE]
   have a6:decide (0≤t.Kind)=true:=by rw[vy];omega
   rw[a6,vx (by decide),ne (by decide),AE]
   refine .inl ?_
   by_cases l:t.Kind=1
   ·obtain⟨q',t',A,M,E,h4,k1,k2,T⟩:=H3 (n:=CH t-qu) B (by omega) (by omega) (by omega)
    obtain⟨T,k4,k5⟩:=T l
    rw[vx (by rw[vy];exact l),HT B,AE,A,Bi,NK O (by omega) t'.Elems (by omega) (λe he=>Y.2.ea e (k5 e he)),AE]
    rw[← T] at E
    rw[E] at j hc oQ ⊢
    rw[PH _ _ _ (show Og (CQ ⟨[],pu⟩) from eX),← wJ] at j
    rw[Ho,Ph,wY] at hc
    refine⟨_,rfl,⟨hp,M,J,oQ.app,I,by dsimp only;omega,hc,_,rfl,j⟩,?_⟩
    dsimp only
    rw[wG,wN];omega
   ·exfalso
    have A:=(Wz B l).2
    rw[← hc] at A
    exact absurd A (by show ¬ (0<By []);simp[By])
 obtain⟨r,A,M⟩:=key
 rw[A,M]
theorem tQ{d}(h:∀s∈d,FV s):(By (Ai d):Int)=BH d:=by
 induction d with
 | nil=>rfl
 | cons s d j=>
  have l:=j (λx q=>h x (wC _ q))
  have u:=(h s (v8 ..)).kind
  rw[Um,QY,Jy,← l]
  have:(By (BM s):Int)=Ct s:=by
   unfold BM Ct
   rcases u with ⟨k,e,w,_,_⟩ | ⟨k,e,_,w,_⟩ | ⟨k,n,_,_,_⟩
   ·rw[ne (by omega),ne (by omega),ne (by omega),v6 (by omega),SZ];simp;omega
   ·rw[ne (by omega),vx (by omega),vz k,SZ];simp
   ·rw[vx k,ne (by omega),vx k,dS]
  omega
def V4(a b:List AI):List AI × Int:=if CZ (BO (Ba (Ai a) (Ai b)))≠0 then([],3) else(BO (Ba (Ai a) (Ai b)),0)
theorem uB a b(B:FR a)(C:FR b)(E:GQ a)(F:GQ b):Nr a b=some (if CZ a≠0 then([],CZ a) else if CZ b≠0 then([],CZ b) else
  if A4 b≠BH a then([],14) else V4 a b):=by
 unfold Nr
 rw[RR a B,AE]
 by_cases j:CZ a≠0
 ·rw[vx (BX j),vx j]
 have j:=wU.1 j
 rw[ne (CI j),ne (show ¬ (CZ a≠0) by simpa using j),RR b C,AE]
 by_cases l:CZ b≠0
 ·rw[vx (BX l),vx l]
 have l:=wU.1 l
 have q:=MN j
 have u:=MN l
 rw[ne (CI l),ne (show ¬ (CZ b≠0) by simpa using l),Tc a B q,Tc b C u,Bi,Bi]
 by_cases w:A4 b≠BH a
 ·rw[vx (BX w),vx w]
 have w:=wU.1 w
 have O:=Ox q.st
 have T:=Ox u.st
 have U:=tQ q.st
 have V:=SI u.st
 have I:=Rz q.st E
 have J:=Rz u.st F
 have X:=q.olds
 have g2:=u.olds
 have Y:=E.sum
 have Z:=F.sum
 have n1:=E.len
 have n2:=F.len
 rw[ne (CI w),ne (show ¬ (A4 b≠BH a) by simpa using w)]
 rw[qS (Ai a) (Ai b) ⟨a,0⟩ ⟨b,0⟩ (QN λs A=>⟨q.st s A,B.st s A⟩) (QN λs A=>⟨u.st s A,C.st s A⟩) (Qp a) (Qp b) I J (by omega) (by omega) (by omega) (by dsimp only;omega) (by dsimp only;omega),AE]
 have px:=ia (Ai a) (Ai b)
 have M:=iC _ _ I J
 have lx:=J8 M
 have cx:=rl (Ai a) (Ai b)
 have wa:=UP q.st
 have wb:=UP u.st
 rw[P2 M (by omega) (by omega)]
 unfold V4
 split<;>rfl
def Gf(u:Un):Prop:=match u with | .a e=>Bv e=0∧e.Attrs.length≤1048576 | .r c t=>(c=false→Am t true=0)∧(c=true→t=[])∧t.length≤1048576
theorem Ql{u}(h:Gf u):DZ u:=by
 match u,h with
 | .a e,h=>exact⟨h.1,GS (Hx h.1) (by have:=h.2;omega)⟩
 | .r true t,h=>
  obtain rfl:=h.2.1 rfl
  exact⟨λh=>(by cases h),GF⟩
 | .r false t,h=>exact⟨h.1,GS (h.1 rfl) (by have:=h.2.2;omega)⟩
def Iv(s:DS):List Un:=Ai s.out++s.adds.map Un.a
def JX(s:DS):Prop:=∀x∈s.out,0≤x.N
theorem M4(s:DS)(h:JX s):Ai (BQ s)=Iv s++List.replicate s.cuts (.r true [])∧∀x∈BQ s,0≤x.N:=by
 obtain⟨o,A,c⟩:=s
 unfold BQ Iv
 dsimp only
 have l:Ai (if 0<A.length then o++[⟨1,0,[],A⟩] else o)=Ai o++A.map Un.a∧∀x∈(if 0<A.length then o++[⟨1,0,[],A⟩] else o),0≤x.N:=by
  by_cases hA:0<A.length
  ·rw[vx hA]
   refine⟨by rw[Nx];simp[Ai,BM],λx j=>?_⟩
   rcases wn.1 j with j | j
   ·exact h x j
   ·rw[wv] at j;subst j;exact za 0
  ·rw[ne hA]
   obtain rfl:A=[]:=xf (by omega)
   exact⟨by simp,h⟩
 by_cases q:0<c
 ·rw[vx q,Nx,l.1]
  refine⟨by simp[Ai,BM],λx j=>?_⟩
  rcases wn.1 j with j | j
  ·exact l.2 x j
  ·rw[wv] at j;subst j;exact ym c
 ·rw[ne q,wR]
  obtain rfl:c=0:=by omega
  exact⟨by rw[l.1];simp,l.2⟩
theorem YV:∀(P:List Un) (f:List AD) (X Y:List Un),Au P≤f.length→(∀g:List AD,g.length=f.length-Au P→A8 X g=A8 Y g)→A8 (P++X) f=A8 (P++Y) f
 | [],f,X,Y,_,h=>h f rfl
 | .a e::P,f,X,Y,j,h=>by
  have q:Au (.a e::P)=Au P:=by unfold Au;rw[List.countP_cons_of_neg];simp[Un.isR]
  rw[q] at j h
  rw[wO,wO,A8,A8,YV P f X Y j h]
 | .r c t::P,f,X,Y,j,h=>by
  have u:Au (.r c t::P)=Au P+1:=by unfold Au;rw[zA];rfl
  rw[u] at j h
  match f,j,h with
  | [],j,_=>simp at j
  | x::f,j,h=>
   have l:=YV P f X Y (by simp only[wK] at j;omega) (λg hg=>h g (by simp only[wK];omega))
   cases c with
   | true=>rw[wO,wO,A8,A8,l]
   | false=>rw[wO,wO,A8,A8,l]
theorem SN:∀(us:List Un) (s:DS),JX s→(∀u∈us,Gf u)→∀f:List AD,Au (Ai (BQ s))+Au us≤f.length→A8 (Ai (BQ (us.foldl dU s))) f=A8 (Ai (BQ s)++us) f
 | [],s,_,_,f,_=>by rw[wR];rfl
 | u::us,s,I,M,f,l=>by
  obtain⟨F,O⟩:=M4 s I
  have q:Au (u::us)=(if u.isR then 1 else 0)+Au us:=by unfold Au;rw[xT];omega
  have w:=M u (v8 ..)
  have A:∀v∈us,Gf v:=λv T=>M v (wC _ T)
  rw[wg]
  match u,q,w with
  | .a e,q,_=>
   have j:JX (dU s (.a e)):=I
   obtain⟨B,_⟩:=M4 _ j
   have J:Iv (dU s (.a e))=Iv s++[.a e]:=by
    show Ai s.out++(s.adds++[e]).map Un.a=_
    unfold Iv
    rw[yK,wJ];rfl
   have C:(dU s (.a e)).cuts=s.cuts:=rfl
   rw[J,C] at B
   have U:∀n,Au (List.replicate n (.r true []))=n:=λn=>by unfold Au;rw[xx];rfl
   have V:Au [Un.a e]=0:=rfl
   rw[SN us _ j A f (by rw[B,Gs,Gs,V];rw[F,Gs,q] at l;simp only[Un.isR] at l;simp at l;omega),B,F]
   rw[wJ,wJ,wJ]
   rw[F,Gs,U] at l
   refine YV _ _ _ _ (by omega) λg hg=>?_
   rw[zQ,A8,YZ _ _ _ _ (by omega),YZ _ _ _ _ (by omega),A8]
  | .r true t,q,w=>
   obtain rfl:=w.2.1 rfl
   have j:JX (dU s (.r true [])):=I
   obtain⟨B,_⟩:=M4 _ j
   have E:Ai (BQ (dU s (.r true [])))=Ai (BQ s)++[.r true []]:=by
    rw[B,F]
    show Iv s++List.replicate (s.cuts+1) _=_
    rw[yw,wJ]
   rw[SN us _ j A f (by rw[E,Gs];rw[q] at l;show _+1+_≤_;simp only[Un.isR,xm] at l;omega),E,wJ];rfl
  | .r false t,q,_=>
   obtain⟨X,Y⟩:=Xy t O
   have j:JX (dU s (.r false t)):=Y
   have E:Ai (BQ (dU s (.r false t)))=Ai (BQ s)++[.r false t]:=by
    show Ai (BQ ⟨HD (BQ s) t,[],0⟩)=_
    rw[T2,X]
   rw[SN us _ j A f (by rw[E,Gs];rw[q] at l;show _+1+_≤_;simp only[Un.isR,xm] at l;omega),E,wJ];rfl
theorem ry{us}(j:∀u∈us,Gf u)(f:List AD)(h:Au us≤f.length):A8 (Ai (BO us)) f=A8 us f:=by
 have:=SN us D0 (λx l=>by cases l) j f (by rw[show BQ D0=[] from rfl];show 0+_≤_;omega)
 exact this
def I2:List UInt8:=[99,117,116]
def Hj:List UInt8:=[97,100,100]
def H9(au:List UInt8)(b:Bool)(x:AD):Un:=if b=false then .r false [] else if au=[]∨DU x.Attrs Hj=au then .r true [] else .r false [⟨I2,au⟩]
def GT(au:List UInt8)(g:List Bool)(f:List AD):List Un:=List.zipWith (H9 au) g f
theorem kS(f:List AD){a m}(h:a+m≤(Az f).length):CV (shown f 0 f.length) (a:Int) ((a+m:Nat):Int)=some (((Az f).drop a).take m |>.map λ(i:Nat)=>(i:Int)):=by
 unfold CV
 have j:=RJ f
 rw[vx (by omega),Xx]
 congr 1
 rw[← List.map_drop,← List.map_take]
 congr 1
 rw[wy,wy,show a+m-a=m by omega]
theorem jd f{a m x}(h:a+m≤(Az f).length)(j:x<m):((Az f).drop a |>.take m)[x]?=some (Az f)[a+x]!:=by
 rw[xh,vx j,xW,wB (by omega),wD _ _ (by omega)]
theorem kf f{a m}(h:a+m≤(Az f).length):((Az f).drop a |>.take m).length=m:=by
 rw[xl,wq];omega
def Dr(f:List AD)(a m:Nat):List Bool:=(List.range f.length).map λi=>decide (∃j,j<m∧(Az f)[a+j]! = i)
theorem NM(f:List AD) a m:(Dr f a m).length=f.length:=by simp[Dr]
theorem sy(f:List AD) a:Dr f a 0=List.replicate f.length false:=by
 refine yh (by simp[Dr]) λi _ _=>?_
 simp[Dr]
theorem pS f{a m}(h:a+m<(Az f).length):(Dr f a m).set (Az f)[a+m]! true=Dr f a (m+1):=by
 refine yh (by simp[Dr]) λi u l=>?_
 rw[List.getElem_set]
 simp only[Dr,yj,zb]
 split
 ·rename_i e
  symm
  exact vz ⟨m,by omega,e⟩
 ·rename_i e
  rw[ws,vy,vy]
  constructor
  ·rintro⟨j,u,l⟩;exact⟨j,by omega,l⟩
  ·rintro⟨j,A,q⟩
   refine⟨j,?_,q⟩
   by_cases w:j=m
   ·subst w;exact absurd q e
   ·omega
theorem uT(f:List AD){a m}(h:a+m≤(Az f).length)(E:f.length≤1048576) :
  iter (λ(s:Int × (List Bool))=>KU (((Az f).drop a |>.take m).map λ(i:Nat)=>(i:Int)) s.1 s.2) (0,List.replicate f.length false)=some (Dr f a m):=by
 have F:=G0 f
 have j:=kf f h
 obtain⟨b,w,A⟩:=Ec (f:=λ(s:Int × (List Bool))=>KU (((Az f).drop a |>.take m).map λ(i:Nat)=>(i:Int)) s.1 s.2) m (λk u=>u=((k:Int),Dr f a k)) (λb=>b=Dr f a m) (s:=(0,List.replicate f.length false)) (λk u q l=>by
  subst l
  left
  refine⟨_,?_,rfl⟩
  unfold KU
  dsimp only
  have B:=Gh (f:=f) (k:=a+k) (by omega)
  have C:AL (((Az f).drop a |>.take m).map λ(i:Nat)=>(i:Int)) (k:Int)=some (((Az f)[a+k]!:Nat):Int):=by
   rw[AR (by rw[wN,j];exact q)]
   congr 1
   rw[wD _ _ (by rw[wN,j];exact q),yj]
   have:=jd f h q
   rw[wB (by rw[j];exact q)] at this
   injection this with this
   rw[this]
  rw[vx (vz (by rw[wN,j];omega)),C,AE,AR (by rw[NM];exact B),AE,Aa (by omega),AE,wy,pS f (by omega)]) (λu l=>by
  subst l
  refine⟨_,?_,rfl⟩
  unfold KU
  dsimp only
  rw[ne (by rw[wN,j];simp)]) (by rw[sy];rfl)
 rw[w,A]
theorem Rg au{g:List Bool}{f:List AD}(h:g.length=f.length):(GT au g f).length=f.length:=by simp[GT,h]
theorem ZW au{g:List Bool}{f:List AD}(h:g.length=f.length){k}(j:k<f.length):(GT au g f)[k]! = H9 au g[k]! f[k]!:=by
 rw[wD _ k (by rw[Rg au h];exact j),wD g k (by omega),wD f k j]
 simp[GT]
structure JR(au:List UInt8):Prop where
 v:au=[]∨Dl au=true
 l:au.length≤1073741824
theorem Uh{au}(h:JR au):Am [⟨I2,au⟩] true=0∧Am [⟨Hj,au⟩,⟨I2,[]⟩] true=0:=by
 have e:∀n,EV n=true→VA true ⟨n,au⟩:=λn u=>⟨u,by rcases h.v with h | h;exact .inr ⟨rfl,h⟩;exact .inl h⟩
 have l:EV I2=true:=by decide
 have w:EV Hj=true:=by decide
 have A:VA true ⟨I2,[]⟩:=⟨l,.inr ⟨rfl,rfl⟩⟩
 refine⟨(Ew _ _).2 ⟨by simp[Bc],λx j=>by rw[wv] at j;subst j;exact e _ l⟩,(Ew _ _).2 ⟨?_,λx j=>?_⟩⟩
 ·unfold Bc
  rw[List.pairwise_cons]
  refine⟨λy q=>?_,by simp⟩
  rw[wv] at q;subst q
  show A1 Hj I2=true
  decide
 ·rcases wM.1 j with rfl | j
  ·exact e _ w
  ·rw[wv] at j;subst j;exact A
theorem tZ{au}(h:JR au)(b:Bool)(x:AD):Ic (H9 au b x):=by
 unfold H9
 split
 ·exact⟨λ_=>NT,λh=>(by cases h),by simp⟩
 split
 ·exact⟨λh=>(by cases h),λ_=>rfl,by simp⟩
 ·exact⟨λ_=>(Uh h).1,λh=>(by cases h),by simp⟩
theorem V3{au}(h:JR au)(g:List Bool)(f:List AD):∀u∈GT au g f,Ic u:=by
 intro u j
 unfold GT at j
 rw[xE] at j
 obtain⟨k,l,rfl⟩:=j
 rw[List.getElem_zipWith]
 exact tZ h _ _
theorem ke(f:List AD){au}{g:List Bool}(hg:g.length=f.length)(F:f.length≤1048576)(w:∀e∈f,e.Attrs.length≤1048576) :
  iter (λ(s:Int × (List AI))=>Kd f au g s.1 s.2) (0,[])=some ((GT au g f).map Dn):=by
 have:=Ie (f:=λ(s:Int × (List AI))=>Kd f au g s.1 s.2) (GT au g f) (λk o=>((k:Int),o)) (λo u=>o++[Dn u]) (λo=>o) (λo k=>o.length≤k)
  (λb k j I=>by simp;omega) (λo k j C=>by
   rw[Rg au hg] at j
   rw[ZW au hg j]
   dsimp only
   unfold Kd H9
   rw[vx (by simpa using j),AR j,AE,AR (by omega),AE]
   cases g[k]! with
   | false=>rw[vx (show(!false)=true from rfl),AE,IM (by omega),AE,Aa (by omega),vx (show false=false from rfl)];rfl
   | true=>
    rw[ne (by decide),ne (by decide)]
    by_cases A:au=[]
    ·subst A
     rw[vz rfl,vx (.inl rfl)]
     show AB (AB (some default) λB=>if(true||(B=[]))=true then _ else _) _=_
     rw[AE,vx (show(true||((default:List UInt8)=[]))=true from rfl),AE,IM (by omega),AE,Aa (by omega)];rfl
    ·rw[v6 A]
     show AB (AB (G9 f[k]!.Attrs Hj) λB=>if(false||(B=au))=true then _ else _) _=_
     rw[RE _ _ (by have:=w _ (BL j);omega),AE]
     by_cases q:DU f[k]!.Attrs Hj=au
     ·rw[vx (by simpa using q),AE,IM (by omega),AE,Aa (by omega),vx (.inr q)];rfl
     ·rw[ne (by simpa using q),AE,IM (by omega),AE,Aa (by omega),ne (by rintro(h | h);exact A h;exact q h)];rfl) (λo C=>by
   rw[Rg au hg]
   dsimp only
   unfold Kd
   rw[ne (by simp)]) [] (by simp)
 rw[show((0:Nat):Int)=0 from rfl] at this
 rw[this]
 congr 1
 have key:∀(l:List Un) (o:List AI),l.foldl (λo u=>o++[Dn u]) o=o++l.map Dn:=by
  intro l
  induction l with
  | nil=>simp
  | cons x l E=>intro o;rw[wg,E];simp
 rw[key];rfl
theorem rn(f:List AD){au}(j:JR au){a m}(h:a+m≤(Az f).length)(l:f.length≤1048576)(q:∀e∈f,e.Attrs.length≤1048576) :
  P6 f (((Az f).drop a |>.take m).map λ(i:Nat)=>(i:Int)) au=some (BO (GT au (Dr f a m) f)):=by
 unfold P6
 rw[pX (by omega),AE,uT f h l,AE,ke f (NM f a m) l q,AE,u6 _ (V3 j _ _) (by rw[Rg au (NM f a m)];exact l)]
 rfl
def Ax(f:List AD)(a:Nat):Nat:=if a=0 then 0 else(Az f)[a-1]!+1
theorem rY(f:List AD){a}(h:a≤(Az f).length):Ax f a≤f.length:=by
 unfold Ax
 split
 ·omega
 ·have:=Gh (f:=f) (k:=a-1) (by omega);omega
theorem oq(f:List AD){a}(h:a≤(Az f).length)(l:f.length≤1048576):Ot (shown f 0 f.length) (a:Int)=some (Ax f a:Int):=by
 have q:=G0 f
 unfold Ot Ax
 by_cases j:a=0
 ·subst j;rfl
 ·have:=Gh (f:=f) (k:=a-1) (by omega)
  rw[ne (by simp only[vy];omega),Es (by omega) (by omega),AE,Kx (by omega),AE,Aa (by omega),AE,ne j]
def marks(au:List UInt8):List AC:=[⟨Hj,au⟩,⟨I2,[]⟩]
theorem pF(f:List AD)(l:f.length≤4294967296)(h:∀e∈f,Co e.Attrs):Pm f=some f:=by
 unfold Pm
 rw[V7 _ l,AE]
 have:=WO (f:=λ(a:Int × List AD)=>Jw f a.1 a.2) f (λx=>x) (AD.mk 0 0 []) (λk out j q=>by
  show Jw f (k:Int) out=_
  unfold Jw
  rw[vx (by simpa using j),AR j,AE,OP (h _ (BL j)).1,AE,AR (by omega),AE,Aa (by omega)]
  rfl) (λout=>by
  show Jw f (f.length:Int) out=_
  unfold Jw
  rw[ne (by simp)])
 rw[this]
 simp
def CL(g:Nat)(L:List AD)(r:Nat):List Un:=List.replicate g (.r false [])++(L.map Un.a++List.replicate r (.r false []))
theorem pP au(L:List AD)(B:L.length≤1048576)(h:∀e∈L,e.Attrs.length≤1073741824) :
  iter (λ(a:Int × (List AD))=>Kt au L a.1 a.2) (0,L)=some (L.map (C0 (marks au))):=by
 obtain⟨b,w,A⟩:=Ec (f:=λ(a:Int × (List AD))=>Kt au L a.1 a.2) L.length (λk q=>q=((k:Int),(L.take k).map (C0 (marks au))++L.drop k)) (λb=>b=L.map (C0 (marks au))) (s:=(0,L)) (λk q j l=>by
  subst l
  left
  refine⟨_,?_,rfl⟩
  unfold Kt
  dsimp only
  have u:((L.take k).map (C0 (marks au))++L.drop k).length=L.length:=by simp;omega
  have hg:((L.take k).map (C0 (marks au))++L.drop k)[k]! = L[k]!:=by
   rw[wD _ k (by rw[u];exact j),yd (by simp;omega),wD L k j]
   simp
   congr 1
   omega
  have C:=h _ (BL j)
  rw[vx (by simpa using j),AR (by rw[u];exact j),hg,AE,WL _ _ (by rw[wK,wm];omega),AE,Aa (by omega),AE,wy]
  congr 3
  rw[yt _ _ (by rw[wN,xl];omega),wN,xl,show k-min k L.length=0 by omega,G6 j,yo,H4 j,yK,wJ]
  rfl) (λq l=>by
  subst l
  refine⟨_,?_,rfl⟩
  unfold Kt
  dsimp only
  rw[ne (by simp),xp,yi,wR]) (by simp)
 rw[w,A]
def Wb(u:Un):Prop:=∀t,u≠.r true t
theorem Xe:∀(us:List Un) (s:DS),JX s→s.cuts=0→(∀u∈us,Wb u)→Ai (BQ (us.foldl dU s))=Ai (BQ s)++us
 | [],s,_,_,_=>by simp
 | .a e::us,s,w,A,l=>by
  have j:JX (dU s (.a e)):=w
  have q:(dU s (.a e)).cuts=0:=A
  rw[wg,Xe us _ j q λv B=>l v (wC _ B),(M4 _ j).1,(M4 s w).1,A,q]
  have C:Iv (dU s (.a e))=Iv s++[.a e]:=by
   show Ai s.out++(s.adds++[e]).map Un.a=_
   unfold Iv
   rw[yK,wJ];rfl
  rw[C]
  simp
 | .r true t::us,s,_,_,l=>absurd rfl (l _ (v8 ..) t)
 | .r false t::us,s,w,A,l=>by
  obtain⟨M,E⟩:=M4 s w
  obtain⟨F,I⟩:=Xy t E
  have j:JX (dU s (.r false t)):=I
  have J:Ai (BQ (dU s (.r false t)))=Ai (BQ s)++[.r false t]:=by
   show Ai (BQ ⟨HD (BQ s) t,[],0⟩)=_
   rw[T2,F]
  rw[wg,Xe us _ j rfl λv B=>l v (wC _ B),J,wJ];rfl
theorem fi{us}(h:∀u∈us,Wb u):Ai (BO us)=us:=Xe us D0 (λx j=>by cases j) rfl h
theorem fD{g r}{L}{u}(h:u∈CL g L r):u=.r false []∨∃e∈L,u=.a e:=by
 unfold CL at h
 rcases wn.1 h with h | h
 ·exact .inl (xZ h)
 ·rcases wn.1 h with h | h
  ·obtain⟨e,j,rfl⟩:=xY.1 h
   exact .inr ⟨e,j,rfl⟩
  ·exact .inl (xZ h)
theorem aO g L r:∀u∈CL g L r,Wb u:=by
 intro u j t e
 subst e
 rcases fD j with h | ⟨_,_,h⟩<;>cases h
theorem V9{g r}{L}(h:∀e∈L,Bv e=0∧e.Attrs.length≤1048576):∀u∈CL g L r,Gf u:=by
 intro u j
 rcases fD j with rfl | ⟨e,l,rfl⟩
 ·exact⟨λ_=>NT,λh=>(by cases h),by simp⟩
 ·exact h e l
theorem TN g(L:List AD) r:(CL g L r).length=g+(L.length+r):=by simp[CL]
theorem bW n c t:Au (List.replicate n (.r c t))=n:=by unfold Au;rw[xx];rfl
theorem VB(L:List AD):Au (L.map Un.a)=0:=by
 induction L with
 | nil=>rfl
 | cons e L j=>unfold Au at j ⊢;rw[wS,List.countP_cons_of_neg (by simp[Un.isR])];exact j
theorem WR g L r:Au (CL g L r)=g+r:=by
 unfold CL
 rw[Gs,Gs,bW,bW,VB];omega
theorem eA g(L:List AD) r:BS (CL g L r)=L.length:=by
 have:=ua (CL g L r)
 rw[WR,TN] at this;omega
theorem SU(L:List AD) r:CL 0 L r=L.map Un.a++List.replicate r (.r false []):=rfl
theorem XW g L r:CL (g+1) L r=.r false []::CL g L r:=by unfold CL;rw[wc];rfl
def FL(u:Un):Prop:=match u with | .a _=>False | .r c t=>(c=true→t=[])∧H1 t []=t
theorem gT:∀(E:List Un),(∀u∈E,FL u)→CP (List.replicate E.length (.r false [])) E=List.replicate (By E) (.r false [])
 | [],_=>by rw[yJ,List.replicate_zero,CP];rfl
 | .a e::E,h=>(h _ (v8 ..)).elim
 | .r c t::E,h=>by
  have j:=gT E λu l=>h u (wC _ l)
  rw[wK,wc,CP,j,HX]
  cases c with
  | true=>show(if true=true then _ else _)=_;rw[vx rfl];show _=List.replicate (0+_) _;rw[wY]
  | false=>
   show(if false=true then _ else _)=_
   rw[ne (by decide)]
   show _=List.replicate (1+_) _
   rw[y8,wc];rfl
theorem gG L(j:List Un)(q:∀u∈j,FL u):∀(l:List Un),(∀u∈l,FL u)→CP (CL l.length L j.length) (l++j)=CL (By l) L (By j)
 | [],_=>by
  show CP (CL 0 L j.length) j=CL 0 L (By j)
  rw[SU,bI,gT j q,SU]
 | .a e::E,h=>(h _ (v8 ..)).elim
 | .r c t::E,h=>by
  have w:=gG L j q E λu A=>h u (wC _ A)
  rw[wK,XW,wO,CP,w,HX]
  cases c with
  | true=>show(if true=true then _ else _)=_;rw[vx rfl];show _=CL (0+_) _ _;rw[wY]
  | false=>
   show(if false=true then _ else _)=_
   rw[ne (by decide)]
   show _=CL (1+_) _ _
   rw[y8,XW];rfl
theorem TF:∀(E:List Un),(∀u∈E,FL u)→Ba E (List.replicate (By E) (.r false []))=E
 | [],_=>by
  show Ba [] []=[]
  rw[Ba]
 | .a e::E,h=>(h _ (v8 ..)).elim
 | .r true t::E,h=>by
  obtain⟨j,_⟩:=h _ (v8 ..)
  obtain rfl:=j rfl
  have l:=TF E λu q=>h u (wC _ q)
  rw[Pq,HX,show(if FJ (.r true [])=true then 1 else 0)=0 from rfl,wY,l]
 | .r false t::E,h=>by
  obtain⟨_,j⟩:=h _ (v8 ..)
  have l:=TF E λu q=>h u (wC _ q)
  rw[HX,show(if FJ (.r false t)=true then 1 else 0)=1 from rfl,y8,wc,Vb,l]
  unfold My
  rw[ne (by decide),j]
theorem Tt L j:∀(l:List Un),(∀u∈l,FL u)→Ba (l++j) (CL (By l) L (By j))=l++Ba j (CL 0 L (By j))
 | [],_=>rfl
 | .a e::E,h=>(h _ (v8 ..)).elim
 | .r true t::E,h=>by
  obtain⟨q,_⟩:=h _ (v8 ..)
  obtain rfl:=q rfl
  have w:=Tt L j E λu A=>h u (wC _ A)
  rw[wO,Pq,HX,show(if FJ (.r true [])=true then 1 else 0)=0 from rfl,wY,w];rfl
 | .r false t::E,h=>by
  obtain⟨_,q⟩:=h _ (v8 ..)
  have w:=Tt L j E λu A=>h u (wC _ A)
  rw[wO,HX,show(if FJ (.r false t)=true then 1 else 0)=1 from rfl,y8,XW,Vb,w]
  unfold My
  rw[ne (by decide),q];rfl
theorem gc(L:List AD):∀(E:List Un) (f:List AD),(∀u∈E,FL u)→E.length=f.length→A8 (Ba E (CL 0 L (By E))) f=L++A8 E f
 | [],f,_,j=>by
  show A8 (Ba [] (L.map Un.a++[])) f=_
  rw[wR,eS]
  have:=TQ L [] f
  rw[wR] at this
  rw[this]
 | .a e::E,f,h,_=>(h _ (v8 ..)).elim
 | .r true t::E,[],_,j=>by simp at j
 | .r true t::E,x::f,h,j=>by
  have l:=gc L E f (λu q=>h u (wC _ q)) (by simpa using j)
  rw[Pq,HX,show(if FJ (.r true t)=true then 1 else 0)=0 from rfl,wY,A8,l,A8]
 | .r false t::E,f,h,j=>by
  rw[SU,PH _ _ _ (cS t E),TF _ h,TQ]
theorem TW:∀(E:List Un) (f g:List AD) (X:List Un),(∀u∈E,FL u)→E.length=f.length→A8 (E++X) (f++g)=A8 E f++A8 X g
 | [],[],g,X,_,_=>by show A8 X g=A8 [] []++A8 X g;rw[A8];rfl
 | [],x::f,_,_,_,j=>by simp at j
 | .a e::E,_,_,_,h,_=>(h _ (v8 ..)).elim
 | .r _ t::E,[],_,_,_,j=>by simp at j
 | .r true t::E,x::f,g,X,h,j=>by
  have l:=TW E f g X (λu q=>h u (wC _ q)) (by simpa using j)
  rw[wO,wO,A8,l,A8]
 | .r false t::E,x::f,g,X,h,j=>by
  have l:=TW E f g X (λu q=>h u (wC _ q)) (by simpa using j)
  rw[wO,wO,A8,l,A8];rfl
theorem sg L(j l:List Un)(f1 q:List AD)(w:∀u∈j,FL u)(A:∀u∈l,FL u)(B:j.length=f1.length)(C:l.length=q.length) :
  A8 (Ba (j++l) (CL (By j) L (By l))) (f1++q)=A8 j f1++(L++A8 l q):=by
 rw[Tt L l j w,TW j f1 q _ w B,gc L l q A C]
theorem o5 x:H1 [x] []=[x]:=by
 unfold H1
 simp[Bs,FX,DB]
theorem kq au b x:FL (H9 au b x):=by
 unfold H9
 split
 ·exact⟨λh=>(by cases h),by simp[H1,Bs]⟩
 split
 ·exact⟨λ_=>rfl,by simp[H1,Bs]⟩
 ·exact⟨λh=>(by cases h),o5 _⟩
def ZY(e:AD):Prop:=e.Attrs.length≤1048576
def UC(x:AI):Prop:=x.Attrs.length≤1048576∧∀e∈x.Elems,ZY e
def Xn(s:DS):Prop:=(∀x∈s.out,UC x)∧∀e∈s.adds,ZY e
theorem Y1{s}(h:Xn s):∀x∈BQ s,UC x:=by
 intro x j
 unfold BQ at j
 rcases wn.1 j with j | j
 ·split at j
  ·rcases wn.1 j with j | j
   ·exact h.1 x j
   ·rw[wv] at j;subst j
    exact⟨by simp,h.2⟩
  ·exact h.1 x j
 ·split at j
  ·rw[wv] at j;subst j
   exact⟨by simp,λe l=>by simp at l⟩
  ·simp at j
theorem lH{l:List AI}{t:List AC}(h:∀x∈l,UC x)(q:t.length≤1048576):∀x∈HD l t,UC x:=by
 intro x j
 unfold HD at j
 split at j
 ·rename_i w
  rcases yQ j with j | j
  ·exact h x j
  ·subst j
   have:=h l[l.length-1]! (BL (by omega))
   exact this
 ·rcases wn.1 j with j | j
  ·exact h x j
  ·rw[wv] at j;subst j
   exact⟨q,λe u=>by simp at u⟩
theorem ZJ:∀(us:List Un) (s:DS),Xn s→(∀u∈us,Gf u)→Xn (us.foldl dU s)
 | [],_,h,_=>h
 | u::us,s,h,q=>by
  rw[wg]
  refine ZJ us _ ?_ λv w=>q v (wC _ w)
  have j:=q u (v8 ..)
  match u,j with
  | .a e,j=>exact⟨h.1,λx l=>by
    rcases wn.1 l with l | l
    ·exact h.2 x l
    ·rw[wv] at l;subst l;exact j.2⟩
  | .r true t,j=>exact⟨h.1,h.2⟩
  | .r false t,j=>exact⟨lH (Y1 h) j.2.2,λe A=>by cases A⟩
theorem Ty{us}(h:∀u∈us,Gf u)(q:(BO us).length≤1048576)(w:BS us≤1048576):GQ (BO us):=by
 have l:=Y1 (ZJ us D0 ⟨λx j=>(by cases j),λx j=>(by cases j)⟩ h)
 refine⟨λx j=>(l x j).1,λx j=>(l x j).2,?_,q⟩
 have:=Zc us
 unfold De at this
 rw[Jx,this];exact w
structure DF(us:List Un):Prop where
 ok:FR (BO us)
 err:CZ (BO us)=0
 old:A4 (BO us)=Au us
 now:BH (BO us)=By us
 len:(BO us).length≤us.length
theorem Ng{us:List Un}(h:∀u∈us,DZ u)(A:us.length≤4194304):DF us:=by
 have j:=JK h
 obtain⟨B,C,l,q,w,E⟩:=MM j
 have F:=Ta us
 have I:=W9 us
 have a3:Au us≤us.length:=yP
 exact⟨by rw[Jx];exact gB h (by omega) (by omega),by rw[Jx];exact fT j (by omega) (by omega),by rw[Jx];exact l,by rw[Jx];exact q,by rw[Jx];exact w⟩
theorem es(s:DS) n t:(EW s n t).out.length≤s.out.length+3:=by
 unfold EW
 split
 ·omega
 ·have j:=VQ (BQ s) t n
  have l:=Tk s
  show(DL (BQ s) t n).length≤_
  omega
theorem tW g(L:List AD) r:(BO (CL g L r)).length≤8:=by
 have e:Av (CL g L r)=EW ⟨(EW D0 g []).out,(EW D0 g []).adds++L,(EW D0 g []).cuts⟩ r []:=by
  have j:=Km [] (g:Int) [] (by omega)
  rw[yk,wy] at j
  rw[show EW D0 (g:Int) []=EW (Av []) (g:Int) [] from rfl,j,Mk]
  have l:=Km (List.replicate g (.r false [])++L.map Un.a) (r:Int) [] (by omega)
  rw[wy] at l
  rw[l]
  unfold CL
  rw[wJ]
 rw[Jx]
 have q:=Tk (Av (CL g L r))
 have w:=es D0 (g:Int) []
 have u:=es ⟨(EW D0 g []).out,(EW D0 g []).adds++L,(EW D0 g []).cuts⟩ (r:Int) []
 rw[e] at q
 rw[e]
 have A:D0.out.length=0:=rfl
 dsimp only at u
 omega
theorem fN{n:Nat}(h:n≤1048576):EB ⟨0,(n:Int),[],[]⟩=0:=by
 unfold EB
 by_cases j:n=0
 ·subst j;decide
 ·have:=Xr (n:=(n:Int)) (t:=[]) (by omega) (by omega) NT
  rw[this]
  split<;>first | exact NT | rfl
theorem su{A}(h:∀e∈A,Bv e=0):EB ⟨1,0,[],A⟩=0:=by
 unfold EB
 by_cases j:A=[]
 ·subst j;decide
 ·rw[Yj j h]
  split<;>first | exact NT | rfl
theorem sM(g:Nat){L:List AD}(r:Nat)(q:∀e∈L,Bv e=0∧e.Attrs.length≤1048576)(hg:g+r≤1048576)(E:L.length≤1048576):It [(AI.mk 0 g [] []),(AI.mk 1 0 [] L),(AI.mk 0 r [] [])]=some (BO (CL g L r),0):=by
 have w:∀e∈L,Co e.Attrs:=λe l=>GS (Hx (q e l).1) (by have:=(q e l).2;omega)
 have B:FR [(AI.mk 0 g [] []),(AI.mk 1 0 [] L),(AI.mk 0 r [] [])]:=⟨by simp,λs j=>by
  rcases wM.1 j with rfl | j
  ·exact⟨GF,by simp,λe l=>by simp at l⟩
  rcases wM.1 j with rfl | j
  ·exact⟨GF,by show L.length≤_;omega,w⟩
  ·rw[wv] at j;subst j
   exact⟨GF,by simp,λe l=>by simp at l⟩,by simp;omega⟩
 have j:GQ [(AI.mk 0 g [] []),(AI.mk 1 0 [] L),(AI.mk 0 r [] [])]:=⟨λs j=>by
  rcases wM.1 j with rfl | j
  ·simp
  rcases wM.1 j with rfl | j
  ·simp
  ·rw[wv] at j;subst j;simp,λs j=>by
  rcases wM.1 j with rfl | j
  ·intro e l;simp at l
  rcases wM.1 j with rfl | j
  ·exact λe l=>(q e l).2
  ·rw[wv] at j;subst j;intro e l;simp at l,by simp;omega,by simp⟩
 have C:=V9 (g:=g) (r:=r) q
 have hd:=Ng (λu A=>Ql (C u A)) (by rw[TN];omega)
 rw[tF _ B j,Sw,fN (by omega),ne (by simp),ne (by simp),Sw,su λe l=>(q e l).1,ne (by simp),ne (by simp),Sw,fN (by omega),ne (by simp),ne (by simp)]
 have A:([]++BM ⟨0,(g:Int),[],[]⟩++BM ⟨1,0,[],L⟩++BM ⟨0,(r:Int),[],[]⟩)=CL g L r:=by
  rw[iQ,iQ,wy,wy]
  show []++List.replicate g (.r false [])++L.map Un.a++_=_
  rw[yk,wJ];rfl
 rw[A]
 unfold L8
 rw[ne (by simpa using hd.err)]
theorem eG{au}(h:JR au){e:AD}(j:Bv e=0)(l:e.Attrs.length≤1048574):Bv (C0 (marks au) e)=0∧(C0 (marks au) e).Attrs.length≤1048576:=by
 refine⟨(Uu j (by omega) (Uh h).2 (by simp)).1,?_⟩
 have:=Rv FP XU _ e.Attrs (marks au) [] rfl
 show(Bs FP e.Attrs (marks au) []).length≤_
 simp only[yJ,marks,wK] at this
 unfold marks
 omega
theorem pT(f:List AD){au}(q:JR au){g}(hg:g≤f.length)(B:f.length≤1048576){L:List AD}(l:∀e∈L,Bv e=0∧e.Attrs.length≤1048574)(w:L.length≤1048576) :
  RG f (g:Int) L au=some (BO (CL g (L.map (C0 (marks au))) (f.length-g))):=by
 have u:∀e∈L.map (C0 (marks au)),Bv e=0∧e.Attrs.length≤1048576:=by
  intro e j
  obtain⟨x,A,rfl⟩:=xY.1 j
  exact eG q (l x A).1 (l x A).2
 unfold RG
 rw[pF L (by omega) λe j=>GS (Hx (l e j).1) (by have:=(l e j).2;omega),AE,pP au L w λe j=>by have:=(l e j).2;omega,AE]
 rw[show((f.length:Int)-(g:Int))=((f.length-g:Nat):Int) by omega,LG (by omega) (by omega),AE,sM g _ u (by omega) (by simpa using w),Bi]
structure JF(E:List Un)(L:List AD)(T:List Un):Prop where
 mem:∀u∈T,u∈E∨∃e∈L,u=.a e
 cr:Au T=E.length
 len:T.length=E.length+L.length
theorem TS:∀ {E:List Un},(∀u∈E,FL u)→Au E=E.length
 | [],_=>rfl
 | .a e::E,h=>(h _ (v8 ..)).elim
 | .r c t::E,h=>by
  have j:=TS (E:=E) λu l=>h u (wC _ l)
  unfold Au at j ⊢
  rw[zA (by rfl),j];rfl
theorem iJ(L:List AD):∀(E:List Un),(∀u∈E,FL u)→JF E L (Ba E (CL 0 L (By E)))
 | [],_=>by
  show JF [] L (Ba [] (L.map Un.a++[]))
  rw[wR,eS]
  exact⟨λu j=>by obtain⟨e,l,rfl⟩:=xY.1 j;exact .inr ⟨e,l,rfl⟩,VB L,by simp⟩
 | .a e::E,h=>(h _ (v8 ..)).elim
 | .r true t::E,h=>by
  obtain⟨w,_⟩:=h _ (v8 ..)
  obtain rfl:=w rfl
  have q:=iJ L E λu j=>h u (wC _ j)
  rw[Pq,HX,show(if FJ (.r true [])=true then 1 else 0)=0 from rfl,wY]
  refine⟨λu j=>?_,?_,?_⟩
  ·rcases wM.1 j with rfl | j
   ·exact .inl (v8 ..)
   ·rcases q.mem u j with h | h
    ·exact .inl (wC _ h)
    ·exact .inr h
  ·have:=q.cr
   unfold Au at this ⊢
   rw[zA (by rfl),this];rfl
  ·rw[wK,q.len,wK];omega
 | .r false t::E,h=>by
  rw[SU,PH _ _ _ (cS t E),TF _ h]
  refine⟨λu j=>?_,?_,?_⟩
  ·rcases wn.1 j with j | j
   ·obtain⟨e,l,rfl⟩:=xY.1 j;exact .inr ⟨e,l,rfl⟩
   ·exact .inl j
  ·rw[Gs,VB,TS h];omega
  ·simp;omega
theorem Yo{us}(h:∀u∈us,Gf u):Dk us:=by
 intro u j
 have:=h u j
 match u,this with
 | .a e,h=>exact h
 | .r c t,h=>exact h
theorem Xl{u}(h:Ic u):Gf u:=by
 match u,h with
 | .r c t,h=>exact⟨h.1,h.2.1,by have:=h.2.2;omega⟩
theorem UO au g f:∀u∈GT au g f,FL u:=by
 intro u j
 unfold GT at j
 rw[xE] at j
 obtain⟨k,l,rfl⟩:=j
 rw[List.getElem_zipWith]
 exact kq _ _ _
abbrev Bp(f:List AD)(au:List UInt8)(a m:Nat):List Un:=GT au (Dr f a m) f
def DH(au:List UInt8)(L:List AD):List AD:=L.map (C0 (marks au))
def Fj(f:List AD)(au:List UInt8)(a m:Nat)(L:List AD):List Un:=CL (By ((Bp f au a m).take (Ax f a))) (DH au L) (By ((Bp f au a m).drop (Ax f a)))
def Eb(f:List AD)(au:List UInt8)(a m:Nat)(L:List AD):List Un:=Ba (Bp f au a m) (Fj f au a m L)
def Eh(node:Int)(d:List AI):BE:=BE.mk 2 node (Ag.mk 0 0 [] [] (BW.mk 0 0 [] []) []) [] d (EY.mk [] [] [] [] []) []
structure B6(f:List AD)(au:List UInt8)(a m:Nat)(L:List AD):Prop where
 au:JR au
 win:a+m≤(Az f).length
 fl:f.length≤262144
 fe:∀e∈f,Bv e=0∧e.Attrs.length≤1048576
 le:∀e∈L,Bv e=0∧e.Attrs.length≤1048574
 ll:L.length≤20000
section
variable{f:List AD}{au:List UInt8}{a m:Nat}{L:List AD}
theorem B6.el(_:B6 f au a m L):(Bp f au a m).length=f.length:=Rg au (NM f a m)
theorem B6.gl(h:B6 f au a m L):Ax f a≤f.length:=rY f (by have:=h.win;omega)
theorem B6.t1(h:B6 f au a m L):((Bp f au a m).take (Ax f a)).length=Ax f a:=by rw[xl,h.el];have:=h.gl;omega
theorem B6.t2(h:B6 f au a m L):((Bp f au a m).drop (Ax f a)).length=f.length-Ax f a:=by rw[wq,h.el]
theorem B6.r1(_:B6 f au a m L):∀u∈(Bp f au a m).take (Ax f a),FL u:=λu j=>UO au _ f u (yC j)
theorem B6.r2(_:B6 f au a m L):∀u∈(Bp f au a m).drop (Ax f a),FL u:=λu j=>UO au _ f u (yA j)
theorem B6.nl(h:B6 f au a m L):∀e∈DH au L,Bv e=0∧e.Attrs.length≤1048576:=by
 intro e l
 obtain⟨x,j,rfl⟩:=xY.1 l
 exact eG h.au (h.le x j).1 (h.le x j).2
theorem B6.pair(h:B6 f au a m L):CP (CL (Ax f a) (DH au L) (f.length-Ax f a)) (Bp f au a m)=Fj f au a m L:=by
 have:=gG (DH au L) _ h.r2 _ h.r1
 rw[h.t1,h.t2,xw] at this
 exact this
theorem B6.cut(h:B6 f au a m L):By ((Bp f au a m).take (Ax f a))+By ((Bp f au a m).drop (Ax f a))=By (Bp f au a m):=by
 rw[← QY,xw]
theorem B6.chg(h:B6 f au a m L):Eb f au a m L=(Bp f au a m).take (Ax f a)++Ba ((Bp f au a m).drop (Ax f a)) (CL 0 (DH au L) (By ((Bp f au a m).drop (Ax f a)))):=by
 have:=Tt (DH au L) ((Bp f au a m).drop (Ax f a)) _ h.r1
 rw[xw] at this
 exact this
theorem B6.chgW(h:B6 f au a m L):(∀u∈Eb f au a m L,Gf u)∧Au (Eb f au a m L)=f.length∧(Eb f au a m L).length=f.length+L.length:=by
 have q:=iJ (DH au L) _ h.r2
 have hg:=h.gl
 have w:=h.t1
 have A:=h.t2
 have B:(DH au L).length=L.length:=by simp[DH]
 have j:=V3 h.au (Dr f a m) f
 rw[h.chg]
 refine⟨λu l=>?_,?_,?_⟩
 ·rcases wn.1 l with l | l
  ·exact Xl (j u (yC l))
  ·rcases q.mem u l with l | ⟨e,C,rfl⟩
   ·exact Xl (j u (yA l))
   ·exact h.nl e C
 ·rw[Gs,q.cr,TS h.r1,w,A];omega
 ·rw[wG,q.len,w,A,B];omega
theorem B6.done(h:B6 f au a m L):A8 (Eb f au a m L) f=A8 ((Bp f au a m).take (Ax f a)) (f.take (Ax f a))++(DH au L++A8 ((Bp f au a m).drop (Ax f a)) (f.drop (Ax f a))):=by
 have hg:=h.gl
 have:=sg (DH au L) _ _ (f.take (Ax f a)) (f.drop (Ax f a)) h.r1 h.r2 (by rw[h.t1,xl];omega) (by rw[h.t2,wq])
 rw[xw,xw] at this
 exact this
structure gQ(f:List AD)(U:List Un):Prop where
 df:DF U
 sm:GQ (BO U)
 old:A4 (BO U)=f.length
 done:A8 (Ai (BO U)) f=A8 U f
 ul:((Ai (BO U)).length:Int)≤4294967296
theorem B6.d57(h:B6 f au a m L):gQ f (Eb f au a m L):=by
 obtain⟨q,A,C⟩:=h.chgW
 have E:=h.fl
 have F:=h.ll
 have l:=Ng (λu B=>Ql (q u B)) (by omega)
 have dl:=l.len
 have I:=Ta (Eb f au a m L)
 have w:=Ty q (by omega) (by omega)
 have gd:=MN l.err
 have j:A4 (BO (Eb f au a m L))=f.length:=by rw[l.old,A]
 refine⟨l,w,j,ry q f (by omega),?_⟩
 have:=Ox gd.st
 have J:=w.sum
 rw[this,j]
 omega
theorem B6.steps(h:B6 f au a m L){n:Ag}(Y:n.Flow=f)(s:BK)(A:s.From=(a:Int))(B:s.To=((a+m:Nat):Int)) :
  Qy (Hn n au) s L=some ([Eh s.Node (BO (Eb f au a m L))],BK.mk s.Node ((a:Int)+L.length) ((a:Int)+L.length),0):=by
 subst Y
 have hf:=h.fl
 have hl:=h.ll
 have hv:=G0 n.Flow
 have hw:=h.win
 have hg:=h.gl
 have C:∀e∈n.Flow,e.Attrs.length≤1048576:=λe Z=>(h.fe e Z).2
 have q:(DH au L).length=L.length:=by simp[DH]
 unfold Qy
 dsimp only
 rw[A,B,kS _ h.win,AE,rn n.Flow h.au h.win (by omega) C,AE,oq n.Flow (by omega) (by omega),AE,pT n.Flow h.au hg (by omega) h.le (by omega),AE]
 have E:=V9 (g:=Ax n.Flow a) (r:=n.Flow.length-Ax n.Flow a) h.nl
 have lA:=TN (Ax n.Flow a) (DH au L) (n.Flow.length-Ax n.Flow a)
 have J:=V3 h.au (Dr n.Flow a m) n.Flow
 have F:∀u∈Bp n.Flow au a m,Gf u:=λu j=>Xl (J u j)
 have lE:=h.el
 have M:∀u∈Fj n.Flow au a m L,Gf u:=V9 h.nl
 have O:=h.cut
 have a0:=W9 (Bp n.Flow au a m)
 have lX:(Fj n.Flow au a m L).length=By (Bp n.Flow au a m)+L.length:=by
  unfold Fj;rw[TN,q];omega
 have cX:Au (Fj n.Flow au a m L)=By (Bp n.Flow au a m):=by
  unfold Fj;rw[WR];omega
 have I:=Ng (λu j=>Ql (E u j)) (by omega)
 have l:=Ng (λu j=>Ql (F u j)) (by omega)
 have w:=Ng (λu j=>Ql (M u j)) (by omega)
 have yW:=WV _ _ (Yo E) (Yo F)
 have yl:=Wd (CL (Ax n.Flow a) (DH au L) (n.Flow.length-Ax n.Flow a)) (Bp n.Flow au a m)
 have dY:=Ng yW (by omega)
 have a1:=eA (Ax n.Flow a) (DH au L) (n.Flow.length-Ax n.Flow a)
 have a2:BS (Fj n.Flow au a m L)=L.length:=by unfold Fj;rw[eA,q]
 have a6:=Ta (Bp n.Flow au a m)
 have sA:=Ty E (by have:=tW (Ax n.Flow a) (DH au L) (n.Flow.length-Ax n.Flow a);omega) (by omega)
 have T:=Ty F (by have:=l.len;omega) (by omega)
 have sX:=Ty M (by have:=w.len;omega) (by omega)
 have uA:=fi (aO (Ax n.Flow a) (DH au L) (n.Flow.length-Ax n.Flow a))
 have U:Ai (BO (Bp n.Flow au a m))=Bp n.Flow au a m:=kI J
 have uX:Ai (BO (Fj n.Flow au a m L))=Fj n.Flow au a m L:=fi (aO _ _ _)
 have V:Au (Bp n.Flow au a m)=(Bp n.Flow au a m).length:=TS (UO au (Dr n.Flow a m) n.Flow)
 have X:=I.old
 rw[WR] at X
 have o2:=l.old
 have o3:=l.now
 have o4:=w.old
 have dJ:=h.d57.df
 have nA:List.map (C0 (marks au)) L=DH au L:=rfl
 have eP:M8 (BO (CL (Ax n.Flow a) (DH au L) (n.Flow.length-Ax n.Flow a))) (BO (Bp n.Flow au a m))=some (BO (Fj n.Flow au a m L),BO (Cp (CL (Ax n.Flow a) (DH au L) (n.Flow.length-Ax n.Flow a)) (Bp n.Flow au a m)),0):=by
  rw[mv _ _ I.ok l.ok sA T,ne (by rw[I.err];simp),ne (by rw[l.err];simp),ne (by rw[X,o2];omega)]
  unfold Wh
  rw[uA,U,h.pair,ne (by rintro(e | e);exact e w.err;exact e dY.err)]
 have eJ:Nr (BO (Bp n.Flow au a m)) (BO (Fj n.Flow au a m L))=some (BO (Eb n.Flow au a m L),0):=by
  rw[uB _ _ l.ok w.ok T sX,ne (by rw[l.err];simp),ne (by rw[w.err];simp),ne (by rw[o4,o3,cX];simp)]
  unfold V4
  rw[U,uX]
  rw[show Ba (Bp n.Flow au a m) (Fj n.Flow au a m L)=Eb n.Flow au a m L from rfl,ne (by rw[dJ.err];simp)]
 rw[nA,eP,Kp,ne (by decide),eJ,Bi,ne (by decide),LG (by omega) (by omega),AE]
 rfl
end
def vN(f:List AD)(k:Nat):List Nat:=(List.range k).filter (Ce f 0)
theorem Pn f k:vN f (k+1)=vN f k++(if Ce f 0 k=true then [k] else []):=by
 unfold vN
 rw[List.range_succ,zc]
 congr 1
 cases h:Ce f 0 k<;>simp[h]
theorem Vm f i:∀d,∃r,vN f (i+d)=vN f i++r∧∀x∈r,i≤x
 | 0=>⟨[],by simp,by simp⟩
 | d+1=>by
  obtain⟨r,l,q⟩:=Vm f i d
  refine⟨r++(if Ce f 0 (i+d)=true then [i+d] else []),?_,λx j=>?_⟩
  ·rw[← yF,Pn,l,wJ]
  ·rcases wn.1 j with j | j
   ·exact q x j
   ·split at j
    ·rw[wv] at j;omega
    ·simp at j
theorem bX{f:List AD}{i}(u:i<f.length)(q:Ce f 0 i=true):(vN f i).length<(Az f).length∧(Az f)[(vN f i).length]! = i:=by
 obtain⟨r,j,_⟩:=Vm f (i+1) (f.length-(i+1))
 rw[show i+1+(f.length-(i+1))=f.length by omega,Pn,vx q,wJ] at j
 have e:Az f=vN f i++([i]++r):=j
 have l:(vN f i).length<(Az f).length:=by rw[e];simp
 refine⟨l,?_⟩
 rw[wD (Az f) _ l]
 simp only[e]
 rw[yd (by omega)]
 simp
theorem oE{f:List AD}{i}(B:i<f.length)(q:¬ Ce f 0 i=true)(j:(vN f i).length<(Az f).length):(Az f)[(vN f i).length]!≠i:=by
 obtain⟨r,l,u⟩:=Vm f (i+1) (f.length-(i+1))
 rw[show i+1+(f.length-(i+1))=f.length by omega,Pn,ne q,wR] at l
 have e:Az f=vN f i++r:=l
 have w:0<r.length:=by rw[e] at j;simp at j;omega
 have A:(Az f)[(vN f i).length]! = r[0]:=by
  rw[wD (Az f) _ j]
  simp only[e]
  rw[yd (by omega)]
  simp
 rw[A]
 have:=u r[0] (xz w)
 omega
theorem fY(f:List AD) a m{i}(l:i<f.length):(Dr f a m)[i]! = decide (∃j,j<m∧(Az f)[a+j]! = i):=by
 rw[wD _ i (by rw[NM];exact l)]
 simp[Dr]
theorem ky{f:List AD}{a m i}(C:a+m≤(Az f).length)(l:i<f.length)(w:Ce f 0 i=true):(Dr f a m)[i]! = (((a:Int)≤((vN f i).length:Int))&&(((vN f i).length:Int)<((a+m:Nat):Int))):=by
 obtain⟨A,q⟩:=bX l w
 rw[fY f a m l,ws,vy,v7,vy,vy]
 constructor
 ·rintro⟨j,B,u⟩
  have:=ut (f:=f) (j:=a+j) (k:=(vN f i).length) (by omega) A (by rw[u,q])
  omega
 ·rintro⟨B,u⟩
  refine⟨(vN f i).length-a,by omega,?_⟩
  rw[show a+((vN f i).length-a)=(vN f i).length by omega,q]
theorem so{f:List AD}{a m i}(A:a+m≤(Az f).length)(l:i<f.length)(q:¬ Ce f 0 i=true):(Dr f a m)[i]! = false:=by
 rw[fY f a m l]
 refine v6 ?_
 rintro⟨j,B,u⟩
 have w:i∈Az f:=by rw[← u];exact BL (by omega)
 exact q (yn.1 w).2
def iV:Un→AD→List AD
 | .a e,_=>[e]
 | .r true _,_=>[]
 | .r false t,x=>[C0 t x]
theorem Xg{E:List Un}{f:List AD}(l:∀u∈E,FL u)(w:E.length=f.length){i}(q:i<f.length):A8 (E.take (i+1)) (f.take (i+1))=A8 (E.take i) (f.take i)++iV E[i]! f[i]!:=by
 rw[H4 (show i<E.length by omega),H4 q,TW _ _ _ _ (λu j=>l u (yC j)) (by simp;omega)]
 congr 1
 have j:=l _ (BL (show i<E.length by omega))
 match E[i]!,j with
 | .r true t,_=>rw[A8,A8];rfl
 | .r false t,_=>rw[A8,A8];rfl
section
variable{f:List AD}{au:List UInt8}{a m:Nat}{L:List AD}
def E0(f:List AD)(au:List UInt8)(a m:Nat)(L:List AD)(i:Nat):List AD:=
 if i≤Ax f a then A8 ((Bp f au a m).take i) (f.take i)
 else A8 ((Bp f au a m).take (Ax f a)) (f.take (Ax f a))++(DH au L++A8 (((Bp f au a m).drop (Ax f a)).take (i-Ax f a)) ((f.drop (Ax f a)).take (i-Ax f a)))
def FM(f:List AD)(au:List UInt8)(a m:Nat)(L:List AD)(i:Nat):List AD:=E0 f au a m L i++(if i=Ax f a then DH au L else [])
theorem B6.out_succ(h:B6 f au a m L){i}(q:i<f.length):E0 f au a m L (i+1)=FM f au a m L i++iV (Bp f au a m)[i]! f[i]!:=by
 have hg:=h.gl
 have j:=UO au (Dr f a m) f
 have l:=h.el
 unfold FM E0
 by_cases E:i+1≤Ax f a
 ·rw[vx E,vx (show i≤Ax f a by omega),ne (show ¬ i=Ax f a by omega),wR]
  exact Xg j l q
 ·rw[ne E]
  by_cases w:i=Ax f a
  ·rw[vx (show i≤Ax f a by omega),vx w,← w,show i+1-i=0+1 by omega]
   have A:((Bp f au a m).drop i)[0]! = (Bp f au a m)[i]!:=by
    rw[wD _ 0 (by rw[wq];omega),wD _ i (by omega)];simp
   have B:(f.drop i)[0]! = f[i]!:=by
    rw[wD _ 0 (by rw[wq];omega),wD _ i q];simp
   rw[Xg (E:=(Bp f au a m).drop i) (λu C=>j u (yA C)) (by rw[wq,wq,l]) (by rw[wq];omega),A,B]
   simp[A8]
  ·rw[ne (show ¬ i≤Ax f a by omega),ne w,wR,show i+1-Ax f a=(i-Ax f a)+1 by omega]
   have A:((Bp f au a m).drop (Ax f a))[i-Ax f a]! = (Bp f au a m)[i]!:=by
    rw[wD _ (i-Ax f a) (by rw[wq];omega),wD _ i (by omega),zi]
    congr 1;omega
   have B:(f.drop (Ax f a))[i-Ax f a]! = f[i]!:=by
    rw[wD _ (i-Ax f a) (by rw[wq];omega),wD _ i q,zi]
    congr 1;omega
   rw[Xg (E:=(Bp f au a m).drop (Ax f a)) (λu C=>j u (yA C)) (by rw[wq,wq,l]) (by rw[wq];omega),A,B]
   simp
theorem lV f au a m L:E0 f au a m L 0=[]:=by
 unfold E0
 rw[vx (yS _)]
 simp[A8]
theorem B6.out_end(h:B6 f au a m L):FM f au a m L f.length=A8 (Eb f au a m L) f:=by
 have hg:=h.gl
 have j:=h.el
 rw[h.done]
 unfold FM E0
 by_cases c:f.length=Ax f a
 ·rw[vx (by omega),vx c,← c,yT (by omega),yT (wL _),zG (by omega),zG (wL _)]
  simp[A8]
 ·rw[ne (by omega),ne c,wR,yT (l:=(Bp f au a m).drop (Ax f a)) (by rw[wq];omega),yT (l:=f.drop (Ax f a)) (by rw[wq];omega)]
theorem B6.outG_len(h:B6 f au a m L) i(A:i≤f.length):(FM f au a m L i).length≤1048576:=by
 have B:=h.fl
 have C:=h.ll
 have j:=h.el
 have E:(DH au L).length=L.length:=by simp[DH]
 have d:=λ(l:List Un) (f:List AD)=>YM l f
 unfold FM E0
 have q:=d ((Bp f au a m).take i) (f.take i)
 have u:=d ((Bp f au a m).take (Ax f a)) (f.take (Ax f a))
 have w:=d (((Bp f au a m).drop (Ax f a)).take (i-Ax f a)) ((f.drop (Ax f a)).take (i-Ax f a))
 simp only[xl,wq] at q u w
 rw[wG]
 have:(if i=Ax f a then DH au L else []).length≤L.length:=by split;omega;simp
 split
 ·omega
 ·rw[wG,wG];omega
theorem iM(h:B6 f au a m L)(out:List AD)(u:out.length≤1048576):iter (λ(s:Int × (List AD))=>I0 L au s.1 s.2) (0,out)=some (.ext (out++DH au L)):=by
 have B:=h.ll
 have:=Ie (f:=λ(s:Int × (List AD))=>I0 L au s.1 s.2) L (λk o=>((k:Int),o)) (λo e=>o++[C0 (marks au) e]) (λo=>(.ext o:An Unit (List AD))) (λo k=>o.length≤1048576+k)
  (λb k j C=>by simp;omega) (λo k j u=>by
   dsimp only
   have w:=h.le _ (BL j)
   have q:IE L[k]!.Attrs [⟨[97,100,100],au⟩,⟨[99,117,116],[]⟩]=some (F3 L[k]!.Attrs (marks au)):=WP (Hx w.1) (Uh h.au).2 (by omega) (by simp)
   unfold I0
   rw[vx (by simpa using j),AR j,AE,q,AE,F5 (by rw[wm];omega),AE,Aa (by omega)]
   rfl) (λo u=>by
   dsimp only
   unfold I0
   rw[ne (by simp)]) out (by omega)
 rw[show((0:Nat):Int)=0 from rfl] at this
 rw[this]
 congr 2
 have key:∀(l o:List AD),l.foldl (λo e=>o++[C0 (marks au) e]) o=o++l.map (C0 (marks au)):=by
  intro l
  induction l with
  | nil=>simp
  | cons x l A=>intro o;rw[wg,A];simp
 rw[key];rfl
theorem ey{x}(h:Bv x=0):C0 [] x=x:=oV (Hx h)
theorem B6.round(h:B6 f au a m L){i}(q:i<f.length) :
  Jh f (a:Int) ((a+m:Nat):Int) L au (shown f 0 f.length) (Ax f a:Int) ((vN f i).length:Int) (i:Int) (E0 f au a m L i)=some (.inl (((vN f (i+1)).length:Int),((i+1:Nat):Int),E0 f au a m L (i+1))):=by
 have hf:=h.fl
 have hl:=h.ll
 have B:=h.fe _ (BL q)
 have hv:=G0 f
 have T:=RJ f
 have M:=h.outG_len i (by omega)
 have U:(vN f i).length≤i:=by unfold vN;exact w0 (yY _ _) (by simp)
 have E:(E0 f au a m L i).length≤1048576:=by unfold FM at M;rw[wG] at M;omega
 unfold Jh
 rw[vx (vz (show(i:Int)≤(f.length:Int) by omega))]
 have V:(if decide ((i:Int)=(Ax f a:Int))=true then Ao (iter (λ(a:Int × (List AD))=>I0 L au a.1 a.2) (0,E0 f au a m L i)) λ(u3:Unit)=>none else some (E0 f au a m L i))=some (FM f au a m L i):=by
  unfold FM
  by_cases c:i=Ax f a
  ·rw[vx (vz (by omega)),iM h _ E,vx c];rfl
  ·rw[ne (by simp only[vy];omega),ne c,wR]
 rw[V,AE,ne (by simp only[vy];omega),AR q,AE,h.out_succ q]
 have X:(Bp f au a m)[i]! = H9 au (Dr f a m)[i]! f[i]!:=ZW au (NM f a m) q
 rw[X]
 generalize hX:f[i]! = x at B
 by_cases A:Ce f 0 i=true
 ·obtain⟨v1,Y⟩:=bX q A
  have u:(vN f (i+1)).length=(vN f i).length+1:=by rw[Pn,vx A];simp
  rw[u,ky h.win q A,vz (show((vN f i).length:Int)<((shown f 0 f.length).length:Int) by omega)]
  rw[show(true==true)=true from rfl,At,Kx v1,AE,Y,vz rfl,vx (show(true&&true)=true from rfl)]
  by_cases O:(((a:Int)≤((vN f i).length:Int))&&(((vN f i).length:Int)<((a+m:Nat):Int)))=true
  ·rw[O,vx rfl]
   have Z:H9 au true x=if au=[]∨DU x.Attrs Hj=au then .r true [] else .r false [⟨I2,au⟩]:=by unfold H9;rw[ne (by decide)]
   rw[Z]
   by_cases C:au=[]
   ·rw[vx (.inl C),vz C]
    show FS (FS (Ao (AB (some default) λF=>if(true||(F=au))=true then _ else _) _) _) _=_
    rw[AE,vx (show(true||((default:List UInt8)=au))=true from rfl),Aa (by omega),AE]
    show AB (AM .i64 ((i:Int)+1)) _=_
    rw[Aa (by omega),AE]
    show _=some (Sum.inl (_,_,FM f au a m L i++[]))
    rw[wR]
   ·rw[v6 C]
    show FS (FS (Ao (AB (Ia x.Attrs Hj) λF=>if(false||(F=au))=true then _ else _) _) _) _=_
    rw[Vw _ _ (by omega),AE]
    by_cases hg:DU x.Attrs Hj=au
    ·rw[vx (by simpa using hg),vx (.inr hg),Aa (by omega),AE]
     show AB (AM .i64 ((i:Int)+1)) _=_
     rw[Aa (by omega),AE]
     show _=some (Sum.inl (_,_,FM f au a m L i++[]))
     rw[wR]
    ·rw[ne (by simpa using hg),ne (by rintro(e | e);exact C e;exact hg e)]
     have I:IE x.Attrs [⟨[99,117,116],au⟩]=some (F3 x.Attrs [⟨I2,au⟩]):=WP (Hx B.1) (Uh h.au).1 B.2 (by simp)
     rw[I,AE,Hi,Aa (by omega),AE,Fo,F5 (by rw[wm];omega),AE,Fo,Aa (by omega),AE]
     rfl
  ·have J:=xt.2 O
   rw[J,ne (by decide),Hi,Aa (by omega),AE,Fo,F5 (by rw[wm];omega),AE,Fo,Aa (by omega),AE]
   show _=some (Sum.inl (_,_,FM f au a m L i++[C0 [] x]))
   rw[ey B.1]
 ·have u:(vN f (i+1)).length=(vN f i).length:=by rw[Pn,ne A,wR]
  rw[u,so h.win q A]
  have hc:∀w,gd (decide (((vN f i).length:Int)<((shown f 0 f.length).length:Int))==true) (AL (shown f 0 f.length) ((vN f i).length:Int))=some w→((((vN f i).length:Int)<((shown f 0 f.length).length:Int))&&(w=(i:Int)))=false:=by
   intro w j
   by_cases l:(vN f i).length<(Az f).length
   ·rw[vz (show((vN f i).length:Int)<((shown f 0 f.length).length:Int) by omega)] at j ⊢
    rw[show(true==true)=true from rfl,At,Kx l] at j
    injection j with j
    have:=oE q A l
    rw[xJ]
    exact v6 (by omega)
   ·rw[v6 (by omega)];rfl
  have hd:∃w,gd (decide (((vN f i).length:Int)<((shown f 0 f.length).length:Int))==true) (AL (shown f 0 f.length) ((vN f i).length:Int))=some w:=by
   by_cases l:(vN f i).length<(Az f).length
   ·rw[vz (show((vN f i).length:Int)<((shown f 0 f.length).length:Int) by omega),show(true==true)=true from rfl,At,Kx l]
    exact⟨_,rfl⟩
   ·rw[v6 (by omega)];exact⟨_,rfl⟩
  obtain⟨w,j⟩:=hd
  rw[j,AE,hc w j,ne (by decide),Fo,F5 (by rw[wm];omega),AE,Fo,Aa (by omega),AE]
  show _=some (Sum.inl (_,_,FM f au a m L i++[C0 [] x]))
  rw[ey B.1]
theorem B6.last(h:B6 f au a m L) :
  Jh f (a:Int) ((a+m:Nat):Int) L au (shown f 0 f.length) (Ax f a:Int) ((vN f f.length).length:Int) (f.length:Int) (E0 f au a m L f.length)=some (.inr (A8 (Eb f au a m L) f)):=by
 have l:=h.outG_len f.length (wL _)
 have j:(E0 f au a m L f.length).length≤1048576:=by unfold FM at l;rw[wG] at l;omega
 unfold Jh
 rw[vx (vz (za _))]
 have q:(if decide ((f.length:Int)=(Ax f a:Int))=true then Ao (iter (λ(a:Int × (List AD))=>I0 L au a.1 a.2) (0,E0 f au a m L f.length)) λ(u:Unit)=>none else some (E0 f au a m L f.length))=some (FM f au a m L f.length):=by
  unfold FM
  by_cases c:f.length=Ax f a
  ·rw[vx (vz (by omega)),iM h _ j,vx c];rfl
  ·rw[ne (by simp only[vy];omega),ne c,wR]
 rw[q,AE,vx (vz rfl),h.out_end]
 rfl
theorem B6.replaced(h:B6 f au a m L)(B:HV f 0=some (shown f 0 f.length)):Pu f (a:Int) ((a+m:Nat):Int) L au=some (A8 (Eb f au a m L) f):=by
 have J:=G0 f
 have M:=h.win
 have O:=h.fl
 unfold Pu
 have C:(if decide ((0:Int)<(a:Int))=true then AB (AM .i64 ((a:Int)-1)) λ(q:Int)=>AB (AL (shown f 0 f.length) q) λ(u:Int)=>AB (AM .i64 (u+1)) λ(l:Int)=>some l else some 0)=some (Ax f a:Int):=by
  unfold Ax
  by_cases A:a=0
  ·subst A;rfl
  ·have:=Gh (f:=f) (k:=a-1) (by omega)
   rw[vx (vz (by omega)),Es (by omega) (by omega),AE,Kx (by omega),AE,Aa (by omega),AE,ne A]
 rw[B,AE,C,AE]
 obtain⟨b,E,F⟩:=Ec (f:=λ(s:Int × Int × (List AD))=>Jh f (a:Int) ((a+m:Nat):Int) L au (shown f 0 f.length) (Ax f a:Int) s.1 s.2.1 s.2.2) f.length (λk w=>w=(((vN f k).length:Int),(k:Int),E0 f au a m L k)) (λb=>b=A8 (Eb f au a m L) f) (s:=(0,0,[])) (λk w I j=>by
  subst j
  exact .inl ⟨_,h.round I,rfl⟩) (λw j=>by
  subst j
  exact⟨_,h.last,rfl⟩) (by rw[lV];rfl)
 rw[E,F,AE]
end
theorem tg(node:Int)(D:List AI)(C:1≤node∧node≤1073741824)(q:FR D)(u:CZ D=0):Oi (Eh node D)=some 0:=by
 have w:OO (Ag.mk 0 0 [] [] (BW.mk 0 0 [] []) []):=by
  constructor<;>simp[Co,GR,Nw]
 have A:IF (Eh node D).New (Ag.mk 0 0 [] [] (BW.mk 0 0 [] []) [])=some true:=by
  show IF (Ag.mk 0 0 [] [] (BW.mk 0 0 [] []) []) (Ag.mk 0 0 [] [] (BW.mk 0 0 [] []) [])=_
  rw[hM _ _ w];simp
 have j:AM .i64 ((0:Int)+0)=some 0:=LG (by omega) (by omega)
 have B:iter (λ(a:Int)=>Lo (Eh node D) true 0 a) 0=some (.nrm ()):=by
  have:=CT (f:=λ(a:Int)=>Lo (Eh node D) true 0 a) (n:=5) (λ_=>(none:Option Int)) (λk l=>by
   unfold Lo
   rw[vx (by simp only[vy];omega),AR (by simpa using l),AE,Aa (by omega)]
   have:(([(!true),(decide (0<((Eh node D).Attrs.length:Int))),(decide (0<((Eh node D).Steps.length:Int))),(decide ((0:Int)<0)),(decide (0<((Eh node D).Draw.length:Int)))]:List Bool)[k]!&&(!((k:Int)=(Eh node D).Kind)))=false:=by
    match k,l with
    | 0,_=>rfl
    | 1,_=>rfl
    | 2,_=>
     show(_&&(!((2:Int)=2)))=false
     rw[vz rfl,zJ,y9]
    | 3,_=>rfl
    | 4,_=>rfl
   rw[this,ne (by decide),AE];rfl) (by unfold Lo;rw[ne (by decide)])
  rw[this,(xD).2 (λ_ _=>rfl)];rfl
 unfold Oi
 rw[Is,AE,ne (by show ¬ ((!(((0:Int)≤2)&&((2:Int)≤4)))=true);decide),A,AE]
 show AB (AM .i64 ((0:Int)+0)) _=_
 rw[j,AE]
 show AB (AM .i64 ((0:Int)+0)) _=_
 rw[j,AE]
 show AB (AM .i64 ((0:Int)+0)) _=_
 rw[j,AE]
 show AB (AM .i64 ((0:Int)+0)) _=_
 rw[j,AE,B,Hi]
 show(if decide ((2:Int)=0)=true then _ else AB (Cr node 1 1073741824) _)=_
 rw[ne (by decide),Is,AE,ne (by simp;omega)]
 show(if decide ((2:Int)=1)=true then _ else if decide ((2:Int)=2)=true then AB (Nz D) _ else _)=_
 rw[ne (by decide),vx (by decide),pL D q,u];rfl
theorem Zr{f}(h:∀e∈f,Bv e=0∧e.Attrs.length≤1048576):L4 f:=h
theorem rW{d:B0}{node:Int}{k:Nat}{f:List AD}{U:List Un}{l:List AD}(B:Hh d node=some (k:Int))(C:k<d.Nodes.length)(E:d.Nodes[k]!.Flow=f)(F:1≤node∧node≤1073741824)
  (h:gQ f U) (I:f.length≤1048576) (q:∀e∈f,Bv e=0∧e.Attrs.length≤1048576) (J:A8 U f=l):PZ d [Eh node (BO U)] node l=some true:=by
 have j:=MN h.df.err
 have u:=jA j.st h.sm
 have M:=h.ul
 have w:=np (Ai (BO U)) f (Zr q) u
 have O:=YM (Ai (BO U)) f
 have T:=h.sm.len
 obtain⟨x,V,A,a3⟩:=kj (BO U) (λs X=>by rcases (j.st s X).kind with h | h | h<;>omega) (by omega) (by omega)
 have Y:x.Cuts.length=f.length:=by
  have:=A.cnt
  rw[a3] at this
  have Z:=SI j.st
  rw[h.old] at Z
  omega
 have hd:=u7 f x A Y (Zr q) (by rw[a3];exact u) (by rw[a3];omega)
 have hA:MD f (BO U)=some (A8 (Ai (BO U)) f):=by
  unfold MD
  rw[V,AE,hd,AE,a3]
 have hi:AL [Eh node (BO U)] 0=some (Eh node (BO U)):=rfl
 unfold PZ
 rw[show((!(([Eh node (BO U)].length:Int)=1))==false)=true from rfl,At,hi,AE]
 rw[show(((!(([Eh node (BO U)].length:Int)=1))||(!((Eh node (BO U)).Kind=2)))==false)=true from rfl,At,AE]
 rw[ne (by show ¬ ((((!((1:Int)=1))||(!((2:Int)=2)))||(!(node=node)))=true);simp),B,AE,AR C,AE,AE,tg node _ F h.df.ok h.df.err,AE,E]
 show AB (gd (decide ((0:Int)=0)==true) (Nk (BO U))) _=_
 rw[vz rfl,show(true==true)=true from rfl,At,tb _ h.df.ok j,AE,h.old,vz rfl,vx (by rfl)]
 show AB (AB (MD f (BO U)) _) _=_
 rw[hA,AE,WF _ _ (by omega) w,AE,AE,h.done,J,vz rfl]
 rfl
theorem kn{n:Ag}(j:Fc n=some 0):1≤n.ID∧n.ID≤1073741824:=by
 unfold Fc at j
 split at j
 ·cases j
 ·rename_i c
  simp only[wF,vy] at c
  omega
def gO(d:B0):Prop:=∀n∈d.Nodes,n.Flow.length≤262144∧∀e∈n.Flow,e.Attrs.length≤349525
theorem iO{α β:Type}[Inhabited α][Inhabited β](F G:α→β)(l:List α){k}(j:k<l.length) :
  ((l.take k).map F++(l.drop k).map G).length=l.length∧((l.take k).map F++(l.drop k).map G)[k]! = G l[k]!∧((l.take k).map F++(l.drop k).map G).set k (F l[k]!)=(l.take (k+1)).map F++(l.drop (k+1)).map G:=by
 have q:((l.take k).map F++(l.drop k).map G).length=l.length:=by simp;omega
 have u:((l.take k).map F).length=k:=by simp;omega
 refine⟨q,?_,?_⟩
 ·rw[wD _ k (by rw[q];exact j),yd (by omega)]
  simp only[u,zW,yj,zi,xM]
  rw[wD l k j]
 ·rw[yt _ _ (by omega),u,zW,G6 j,wS,yo,H4 j,yK,wJ]
  rfl
theorem jE{α:Type}[Inhabited α]{l:List α}{k}(j:k<l.length):l.set k l[k]! = l:=by
 rw[wD l k j,List.set_getElem_self]
def eT(t z:List AC)(c:Int):AD:=⟨c,0,if c=10 then z else t⟩
theorem uv{n}{au}{s:BK}{t z}(E:Kj (Hn n au) s.To=some z)(l:List Int)(J:l.length≤1048576) :
  iter (λ(a:Int × (List AD))=>Kc s (Hn n au) (l.map (eC t)) a.1 a.2) (0,l.map (eC t))=some (l.map (eT t z)):=by
 obtain⟨b,F,I⟩:=Ec (f:=λ(a:Int × (List AD))=>Kc s (Hn n au) (l.map (eC t)) a.1 a.2) l.length (λk w=>w=((k:Int),(l.take k).map (eT t z)++(l.drop k).map (eC t))) (λb=>b=l.map (eT t z)) (s:=(0,l.map (eC t))) (λk w q j=>by
  subst j
  left
  refine⟨_,?_,rfl⟩
  obtain⟨A,B,C⟩:=iO (eT t z) (eC t) l q
  unfold Kc
  dsimp only
  rw[vx (by rw[wN];simpa using q),AR (by rw[A];exact q),AE,B]
  by_cases u:l[k]! = 10
  ·rw[vx (show decide ((eC t l[k]!).Char=10)=true from vz u),E,AE,AE,Aa (by omega),AE,wy,← C]
   unfold eT eC
   rw[vx u]
  ·rw[ne (show ¬ decide ((eC t l[k]!).Char=10)=true from λe=>u (xu e)),AE,Aa (by omega),AE,← C]
   have e:eT t z l[k]! = eC t l[k]!:=by unfold eT eC;rw[ne u]
   rw[e,← B,jE (by rw[A];exact q)]) (λw j=>by
  subst j
  refine⟨_,?_,rfl⟩
  unfold Kc
  dsimp only
  rw[ne (by rw[wN];simp),xp,yi,yD,wR]) (by simp)
 rw[F,I]
theorem sv{s:BK}{v}{t z}(C:Ld v s.From=some t)(E:LO v s.To=some z)(l:List Int)(O:l.length≤1048576) :
  iter (λ(a:Int × (List AD))=>Lq s (l.map (eC [])) v a.1 a.2) (0,l.map (eC []))=some (l.map (eT t z)):=by
 obtain⟨b,F,I⟩:=Ec (f:=λ(a:Int × (List AD))=>Lq s (l.map (eC [])) v a.1 a.2) l.length (λk w=>w=((k:Int),(l.take k).map (eT t z)++(l.drop k).map (eC []))) (λb=>b=l.map (eT t z)) (s:=(0,l.map (eC []))) (λk w q j=>by
  subst j
  left
  refine⟨_,?_,rfl⟩
  obtain⟨A,J,B⟩:=iO (eT t z) (eC []) l q
  unfold Lq
  dsimp only
  rw[vx (by rw[wN];simpa using q),C,AE,AR (by rw[A];exact q),AE,J,wy]
  have M:AL (((l.take k).map (eT t z)++(l.drop k).map (eC [])).set k (AD.mk (eC [] l[k]!).Char (eC [] l[k]!).Ref t)) (k:Int)=some (AD.mk (eC [] l[k]!).Char (eC [] l[k]!).Ref t):=by
   rw[AR (by rw[yL,A];exact q),wD _ k (by rw[yL,A];exact q),zP]
  rw[M,AE]
  by_cases u:l[k]! = 10
  ·rw[vx (show decide ((AD.mk (eC [] l[k]!).Char (eC [] l[k]!).Ref t).Char=10)=true from vz u),E,AE,AE,Aa (by omega),AE,List.set_set,← B]
   unfold eT eC
   rw[vx u]
  ·rw[ne (show ¬ decide ((AD.mk (eC [] l[k]!).Char (eC [] l[k]!).Ref t).Char=10)=true from λe=>u (xu e)),AE,Aa (by omega),AE,← B]
   unfold eT eC
   rw[ne u]) (λw j=>by
  subst j
  refine⟨_,?_,rfl⟩
  unfold Lq
  dsimp only
  rw[ne (by rw[wN];simp),xp,yi,yD,wR]) (by simp)
 rw[F,I]
theorem rA{t z:List AC}{c}(hc:Er c=true)(u:Am t false=0∧t.length≤1048574)(w:Am z false=0∧z.length≤1048574):Bv (eT t z c)=0∧(eT t z c).Attrs.length≤1048574:=by
 have A:c≠0:=by rintro rfl;exact absurd hc (by decide)
 have q:Am (eT t z c).Attrs false=0∧(eT t z c).Attrs.length≤1048574:=by
  unfold eT;dsimp only;split;exact w;exact u
 refine⟨?_,q.2⟩
 unfold Bv
 rw[ne (by rintro(⟨j,_⟩ | ⟨_,l⟩);exact A j;exact l rfl),ne (by rintro(⟨_,l⟩ | ⟨j,_⟩);exact absurd (l.symm.trans hc) (by decide);exact j rfl)]
 exact q.1
theorem s0:Ha [] []=some true:=by
 unfold Ha
 rw[ne (by simp),B3 (r:=.nrm ()) (by unfold MH;rw[ne (by simp)])];rfl
theorem Z2{d}{s}{text j}{c}{t:BK}{e}(A:FO d s text j=some (c,t,e))(hc:Ha c c=some true){α:Type} G(_:α=α) :
  (Ao (
   if(decide (text=[])) then(
    F8 (MC d s j) λ(u:List BE) (l:BK) (q:Int)=>
    AB (gd (((!(q=e))||(!((l.Node=t.Node)&&((l.From=t.From)&&((l.To=t.To)&&true)))))==false) (Ha u c)) λ(w:Bool)=>
    if(((!(q=e))||(!((l.Node=t.Node)&&((l.From=t.From)&&((l.To=t.To)&&true)))))||(!w)) then(
     some (.ext false)
    ) else(
     some (.nrm ())
    )
   ) else(
    some (.nrm ())
   )
  ) G)=G ():=by
 by_cases h:text=[]
 ·subst h
  rw[vx (vz rfl)]
  have B:MC d s j=some (c,t,e):=by unfold MC;rw[A,Kp]
  rw[B,Kp]
  have C:((!(e=e))||(!((t.Node=t.Node)&&((t.From=t.From)&&((t.To=t.To)&&true)))))=false:=by simp
  rw[C,show(false==false)=true from rfl,At,hc,AE,ne (by decide)]
  rfl
 ·rw[ne (by simpa using h)]
  rfl
theorem gm{d}{s}(h:Kl d):∃r,Rh d s=some r∧Jp d s=some r:=by
 unfold Rh
 rcases iF d s [] h (by simp) with ⟨e,u,j,l⟩ | ⟨k,w,A,Ch,B,-,q,C,E,F,-,l,j⟩
 ·exact⟨e,by rw[j,Bi],l⟩
 ·rw[ne (by simp)] at j
  exact⟨0,by rw[j,Bi],l⟩
theorem SW{d}{s}{text j:List UInt8}(h:Kl d){e f1}(q:FO d s text j=some ([], BK.mk 0 0 0, e))(w:e≠0)(hA:JY d s j=some f1)
 (A:∀G:Int→List AD→Option Bool, (AB (
 if((f1=0)&&(20000<(text.length:Int))) then(
 some 3
 ) else(
 some f1
 )
 ) λ(u:Int) =>
 B5 (
 if(decide (u=0)) then(
 B5 (LS text []) λ(l:Int) (B:List AD) =>
 some (l, B)
 ) else(
 some (u, [])
 )
 ) G)=G e []):ME d s text j=some true := by
  obtain⟨r, C, E⟩ := gm (s := s) h
  unfold ME QK
  rw[AE, show((!true)==false)=true from rfl, At, At, C, AE, E, AE, ne (by simp), q, Kp, Z2 q s0 (α := Unit) _ rfl, hA, AE, A, vx (BX w), vz rfl]
  rfl
theorem tX(d:B0)(s:BK)(text j:List UInt8)(h:Kl d)(hs:gO d)(ht:text.length≤1048576)(ha:j.length≤1073741824):ME d s text j=some true:=by
 rcases iF d s j h ha with ⟨e,w,M,h2⟩ | ⟨k,hk,hf,Ch,hn,-,B,f0,f1,f2,ad,h2,M⟩
 ·have J:FO d s text j=some ([],BK.mk 0 0 0,e):=by unfold FO;rw[M,Bi,vx (BX w)]
  refine SW h J w (f1:=e) (by unfold JY;rw[h2,AE,vx (BX w)]) λG=>?_
  rw[v6 w,ne (by simp),AE,v6 w,ne (by decide),Bi]
 by_cases C:j≠[]∧Dl j=false
 ·rw[vx C] at M
  have J:FO d s text j=some ([],BK.mk 0 0 0,23):=by unfold FO;rw[M,Bi,vx (by decide)]
  refine SW h J (by decide) (f1:=23) ?_ λG=>?_
  ·unfold JY
   rw[h2,AE,ne (by decide),v6 C.1,show((!false)==true)=true from rfl,At,UW _ (by omega),C.2,AE,vx (by decide)]
  ·rw[show decide ((23:Int)=0)=false from rfl,ne (by simp),AE,show decide ((23:Int)=0)=false from rfl,ne (by decide),Bi]
 rw[ne C] at M
 have a0:JR j:=⟨by
  by_cases e:j=[]
  ·exact .inl e
  ·right
   by_cases e2:Dl j=true
   ·exact e2
   ·exact absurd ⟨e,xt.2 e2⟩ C,ha⟩
 have hA:JY d s j=some 0:=by
  unfold JY
  rw[h2,AE,ne (by decide)]
  by_cases e:j=[]
  ·subst e;rfl
  ·have hv:Dl j=true:=by rcases a0.v with h | h;exact absurd h e;exact h
   rw[v6 e,show((!false)==true)=true from rfl,At,UW _ (by omega),hv,AE,ne (by decide)]
 by_cases q:20000<(text.length:Int)
 ·have J:FO d s text j=some ([],BK.mk 0 0 0,3):=by unfold FO;rw[M,Bi,ne (by decide),vx (vz q)]
  refine SW h J (by decide) hA λG=>?_
  rw[vz q,vx (by decide),AE,ne (by decide),Bi]
 obtain⟨a1,E⟩:=hs _ (BL hk)
 have u:=hn.ok.fl
 have a2:=(aX h ad).2 k hk
 generalize hN:d.Nodes[k]! = n at Ch hn B f2 u M a1 E a2
 have hv:=G0 n.Flow
 have ai:=RJ n.Flow
 obtain⟨z,hz,aj,T⟩:=pJ B
 obtain⟨a,ea⟩:∃a:Nat,s.From=(a:Int):=⟨s.From.toNat,by omega⟩
 obtain⟨m,em⟩:∃m:Nat,s.To=((a+m:Nat):Int):=⟨(s.To-s.From).toNat,by omega⟩
 have hp:FN n.Flow=0:=by
  unfold IB at B
  split at B
  ·rename_i Z;exact absurd B Z
  ·rename_i Z;simpa using Z
 have hE:∀x∈n.Flow,EX x:=λx Z=>⟨by have:=(hn.ok.fa x Z).1;omega,(hn.ok.fa x Z).2⟩
 have a6:HV n.Flow 0=some (shown n.Flow 0 n.Flow.length):=ep _ 0 hE hp u
 have hF:L4 n.Flow:=ui hp λe w=>by have:=E e w;omega
 have A:La n.Flow:=λe w=>⟨Hx (hF e w).1,(hF e w).2⟩
 have O:a<(Az n.Flow).length:=by omega
 have V:Am (F2 n.Flow a) false=0∧(F2 n.Flow a).length≤1048574:=by
  have l1:Am (EP n.Flow a).Attrs false=0∧(EP n.Flow a).Attrs.length≤349525:=by
   unfold EP
   split
   ·exact⟨by decide,by decide⟩
   ·exact⟨(A _ (BL (Gh (by omega)))).1,E _ (BL (Gh (by omega)))⟩
  have:=nZ l1.1 (A _ (BL (Gh O))).1 l1.2 (E _ (BL (Gh O)))
  exact⟨this.1,by have:=this.2;unfold F2 DI;omega⟩
 have ak:=Si n (z-(a+m)) (a+m)
 have a7:Am (GI (DI n.Flow (El n (a+m) (z-(a+m))))) false=0∧(GI (DI n.Flow (El n (a+m) (z-(a+m))))).length≤1048574:=by
  have a8:=Gh (f:=n.Flow) (k:=El n (a+m) (z-(a+m))) (by omega)
  refine⟨bT _ (A _ (BL a8)).1,w0 (yY _ _) ?_⟩
  have:=E _ (BL a8)
  unfold DI;omega
 have U:=nb j O u A
 rcases lr text (F2 n.Flow a) (GS V.1 (by omega)) V.1 ht with ⟨l,o1,o2,o3,o4⟩ | ⟨e,w,o1,o2⟩
 ·have hL:∀e∈l.map (eT (F2 n.Flow a) (GI (DI n.Flow (El n (a+m) (z-(a+m)))))),Bv e=0∧e.Attrs.length≤1048574:=by
   intro e w
   obtain⟨c,hc,rfl⟩:=xY.1 w
   exact rA (o4 c hc) V a7
  have X:B6 n.Flow j a m (l.map (eT (F2 n.Flow a) (GI (DI n.Flow (El n (a+m) (z-(a+m))))))):=⟨a0,by omega,a1,hF,hL,by rw[wN];omega⟩
  have aa:=X.steps (n:=n) rfl s ea em
  have F:=X.d57
  have ab:=X.replaced a6
  rw[wN] at aa
  have ae:Kj (Hn n j) s.To=some (GI (DI n.Flow (El n (a+m) (z-(a+m))))):=by
   rw[em];exact sr j u A hz T (by omega)
  have J:FO d s text j=some ([Eh s.Node (BO (Eb n.Flow j a m (l.map (eT (F2 n.Flow a) (GI (DI n.Flow (El n (a+m) (z-(a+m)))))))))],BK.mk s.Node ((a:Int)+l.length) ((a:Int)+l.length),0):=by
   unfold FO
   rw[M,Bi,ne (by decide),ne (by simpa using q),ea,U,AE,o1,Bi,ne (by decide),uv ae l (by omega),AE,aa,Kp]
  have Y:Ha [Eh s.Node (BO (Eb n.Flow j a m (l.map (eT (F2 n.Flow a) (GI (DI n.Flow (El n (a+m) (z-(a+m)))))))))] [Eh s.Node (BO (Eb n.Flow j a m (l.map (eT (F2 n.Flow a) (GI (DI n.Flow (El n (a+m) (z-(a+m)))))))))]=some true:=
   tC s.Node _ (by have:=F.sm.len;omega) F.df.ok.st
  have ac:Hh d s.Node=some (k:Int):=by rw[WI d s.Node h.1,hf]
  have af:Ld (F6 n.Flow) s.From=some (F2 n.Flow a):=by rw[ea];exact rg O u A
  have ag:LO (F6 n.Flow) s.To=some (GI (DI n.Flow (El n (a+m) (z-(a+m))))):=by rw[em];exact je u A hz T (by omega)
  have I:=kn a2
  rw[Ch] at I
  have ah:=rW ac hk (by rw[hN]) I F u hF rfl
  obtain⟨r,c1,c2⟩:=gm (s:=s) h
  unfold ME QK
  rw[AE,show((!true)==false)=true from rfl,At,At,c1,AE,c2,AE,ne (by simp),J,Kp,Z2 J Y (α:=Unit) _ rfl,hA,AE]
  rw[v6 q,ne (by decide),AE,vx (by decide),o2,Bi,Bi,ne (by decide),ac,AE,AR hk,hN,AE,kV _ a6 u,AE,sv af ag l (by omega),AE,wN,ea,LG (by omega) (by omega),AE]
  have e1:(((0:Int)=0)&&(((BK.mk s.Node ((a:Int)+l.length) ((a:Int)+l.length)).Node=s.Node)&&(((BK.mk s.Node ((a:Int)+l.length) ((a:Int)+l.length)).From=(a:Int)+l.length)&&(((BK.mk s.Node ((a:Int)+l.length) ((a:Int)+l.length)).To=(a:Int)+l.length)&&true))))=true:=by simp
  rw[e1,show(true==true)=true from rfl,At,em,ab,AE,At,ah,AE]
  rfl
 ·have J:FO d s text j=some ([],BK.mk 0 0 0,e):=by
   unfold FO
   rw[M,Bi,ne (by decide),ne (by simpa using q),ea,U,AE,o1,Bi,vx (BX w)]
  refine SW h J w hA λG=>?_
  rw[v6 q,ne (by decide),AE,vx (by decide),o2,Bi,Bi]
theorem XP{α:Type}{μ}{c}(h:∀x,c≤μ x):∀l:List α,c * l.length≤(l.map μ).sum
 | []=>by simp
 | x::l=>by
  have j:=h x
  have q:=XP h l
  simp only[wS,xK,wK,Nat.mul_succ]
  omega
theorem ph{μ}{ν}{κ}(q:∀n,(n.Flow.map ν).sum≤μ n)(l:∀e,(e.Attrs.map κ).sum+4≤ν e)(u:∀a,3≤κ a){d:B0}(A:(d.Nodes.map μ).sum≤1048576):gO d:=by
 intro n w
 have B:=IK (μ:=μ) w
 have C:=q n
 have E:=XP (μ:=ν) (c:=4) (λe=>by have:=l e;omega) n.Flow
 refine⟨by omega,λe j=>?_⟩
 have F:=IK (μ:=ν) j
 have I:=l e
 have J:=XP (μ:=κ) (c:=3) u e.Attrs
 omega
end Go.Proofs.YtdafahjmopdleaaGreatDoor.Al
