/- Plain laws over the models, a part of them. -/
import Derived.Test.YtdafahjmopdleaaGreatDoorPL1
namespace Go.Proofs.YtdafahjmopdleaaGreatDoor.Al
abbrev HP(n:Ae)(a:List UInt8):B2:=B2.mk n (shown n.Flow 0 n.Flow.length) a
def Xr:AC:=⟨10,0,[]⟩
def Cn(f:List AC)(k:Nat):AC:=f[(At f)[k]!]!
def Dt(f:List AC)(k:Nat):AC:=if k=0 then Xr else Cn f (k-1)
theorem Pj(f:List AC):(shown f 0 f.length).length=(At f).length:=by rw[Xs,wq]
theorem TR{n:Ae} a{k}(j:k<(At n.Flow).length):IN (HP n a) (k:Int)=some (Cn n.Flow k):=by
 unfold IN Cn
 dsimp only [HP]
 have l:=Pj n.Flow
 rw[ne (by simp only[wh,wV];omega),Lf j,AE,AO (F5 j),AE]
theorem uv{n:Ae} a{k}(j:k<(At n.Flow).length):IN (HP n a) ((k:Int)-1)=some (Dt n.Flow k):=by
 unfold Dt
 split
 ·rename_i h;subst h;rfl
 ·rw[show((k:Int)-1)=((k-1:Nat):Int) by omega]
  exact TR a (by omega)
def LF(f:List AC):Prop:=∀e∈f,Ah e.Attrs false=0∧e.Attrs.length≤1048576
theorem la:Ah Xr.Attrs false=0∧Xr.Attrs.length≤1048576:=⟨by decide,by decide⟩
theorem Mf{f}(h:LF f){k}(j:k<(At f).length):Ah (Cn f k).Attrs false=0∧(Cn f k).Attrs.length≤1048576:=h _ (BA (F5 j))
theorem cM{f}(h:LF f){k}(j:k<(At f).length):Ah (Dt f k).Attrs false=0∧(Dt f k).Attrs.length≤1048576:=by
 unfold Dt
 split
 ·exact la
 ·exact Mf h (by omega)
theorem Z4{l r:AC}(j:Ah l.Attrs false=0∧l.Attrs.length≤1048576)(q:Ah r.Attrs false=0∧r.Attrs.length≤1048576):Ah (DX l r).Attrs false=0∧(DX l r).Attrs.length≤1048576:=by
 unfold DX;split;exact q;exact j
def FZ(f:List AC)(k:Nat):List AD:=Lt (Dt f k) (Cn f k)
theorem s9{n:Ae}(a:List UInt8){k}(j:k<(At n.Flow).length)(B:n.Flow.length≤1048576)(h:LF n.Flow):PL (HP n a) (k:Int)=some (FZ n.Flow k):=by
 have C:=GY n.Flow
 have l:=cM h j
 have q:=Mf h j
 have u:=Z4 l q
 unfold PL FZ
 rw[Lc (show(-9223372036854775808:Int)≤(k:Int)-1 by omega) (by omega),AE,uv a j,AE,TR a j,AE]
 have w:(if decide ((Dt n.Flow k).Char=10)=true then some (Cn n.Flow k) else some (Dt n.Flow k))=some (DX (Dt n.Flow k) (Cn n.Flow k)):=by
  unfold DX
  by_cases h:(Dt n.Flow k).Char=10
  ·rw[wU (by simpa using h),wU h]
  ·rw[ne (by simpa using h),ne h]
 rw[w,AE,mb u.2,oK (by
  by_cases A:k=0
  ·right;unfold Dt;rw[wU A];rfl
  ·left;omega) l.1 q.1 l.2 q.2]
 rfl
def Fs(f:List AC):List AC:=(At f).map λi=>f[i]!
theorem en f:(Fs f).length=(At f).length:=by simp[Fs]
theorem S7{f}{k}(j:k<(At f).length):(Fs f)[k]! = Cn f k:=by
 have l:k<((At f).map λi=>f[i]!).length:=by simpa using j
 show((At f).map λi=>f[i]!)[k]! = f[(At f)[k]!]!
 rw[wg _ k l,zJ,wg (At f) k j]
theorem vD(f:List AC)(q:HS f 0=some (shown f 0 f.length))(A:f.length≤1048576):PH f=some (Fs f):=by
 have B:=GY f
 have C:=Pj f
 unfold PH
 rw[q,AE]
 have:=IL (f:=λ(a:Int × (List AC))=>L9 f (shown f 0 f.length) a.1 a.2) (At f) (λk o=>((k:Int),o)) (λo i=>o++[f[i]!]) (λo=>o) (λo k=>o.length≤k)
  (λb k j E=>by simp;omega) (λo k j u=>by
   dsimp only
   unfold L9
   rw[wU (by simp only[wV];omega),Lf j,AE,AO (F5 j),AE,Fo (by rw[xY];omega),AE,AX (by omega)];rfl) (λo u=>by
   dsimp only
   unfold L9
   rw[ne (by simp only[wV];omega)]) [] (by simp)
 rw[show((0:Nat):Int)=0 from rfl] at this
 rw[this,AE]
 have key:∀(l:List Nat) (o:List AC),l.foldl (λo i=>o++[f[i]!]) o=o++l.map λi=>f[i]!:=by
  intro l
  induction l with
  | nil=>simp
  | cons x l w=>intro o;rw[xM,w];simp
 rw[key];rfl
theorem lS{f:List AC}{k}(q:k<(At f).length)(M:f.length≤1048576)(h:LF f):LW (Fs f) (k:Int)=some (FZ f k):=by
 have O:=GY f
 have E:=en f
 have u:=cM h q
 have w:=Mf h q
 have j:=Z4 u w
 unfold LW FZ
 have F:(if decide ((0:Int)<(k:Int))=true then AB (AK .i64 ((k:Int)-1)) λ(A:Int)=>AB (AJ (Fs f) A) λ(B:AC)=>some B else some (AC.mk 10 0 []))=some (Dt f k):=by
  unfold Dt
  by_cases l:k=0
  ·subst l;rfl
  ·rw[wU (by simp only[wV];omega),Ec (by omega) (by omega),AE,AO (by omega),AE,ne l,S7 (by omega)]
 have I:(if decide ((k:Int)<((Fs f).length:Int))=true then AB (AJ (Fs f) (k:Int)) λ(C:AC)=>some C else some (AC.mk 10 0 []))=some (Cn f k):=by
  rw[wU (by simp only[wV];omega),AO (by omega),AE,S7 q]
 have J:(if decide ((Dt f k).Char=10)=true then some (Cn f k) else some (Dt f k))=some (DX (Dt f k) (Cn f k)):=by
  unfold DX
  by_cases h:(Dt f k).Char=10
  ·rw[wU (by simpa using h),wU h]
  ·rw[ne (by simpa using h),ne h]
 rw[F,AE,I,AE,J,AE,kx j.1 j.2]
 by_cases l:k=0
 ·subst l
  rw[ne (by decide),AE]
  rfl
 ·rw[wU (by simp only[wV];omega),p8 u.1 w.1 u.2 w.2]
  rfl
def PF(a:AD):Bool:=!(a.Name∈([[97,100,100],[99,117,116],[104,105,100,100,101,110],[108,111,99,107],[115,101,99,116,105,111,110],[98,114,101,97,107],[115,116,97,114,116]]:List (List UInt8)))&&!shr a.Name
def Fg(e:AC):List AD:=e.Attrs.filter PF
theorem oR{e:AC}(l:e.Attrs.length≤1048576):iter (λ(a:Int × (List AD))=>Kb e a.1 a.2) (0,[])=some (Fg e):=by
 have:=IL (f:=λ(a:Int × (List AD))=>Kb e a.1 a.2) e.Attrs (λk o=>((k:Int),o)) (Jk PF) (λo=>o) (λo k=>o.length≤k)
  (λb k j l=>by unfold Jk;split;simp;omega;omega) (λo k j q=>by
   dsimp only
   unfold Kb Jk PF
   rw[wU (by simpa using j),AO j,AE,ik _ _ (by decide),AE,e9]
   generalize decide (e.Attrs[k]!.Name∈([[97,100,100],[99,117,116],[104,105,100,100,101,110],[108,111,99,107],[115,101,99,116,105,111,110],[98,114,101,97,107],[115,116,97,114,116]]:List (List UInt8)))=u
   cases u with
   | true=>
    show AB (AB (some default) _) _=_
    rw[AE,ne (by simp),AE,AX (by omega),AE,ne (by simp)]
   | false=>
    show AB (AB (some (shr e.Attrs[k]!.Name)) _) _=_
    rw[AE]
    by_cases hp:shr e.Attrs[k]!.Name=true
    ·rw[hp,ne (by simp),AE,AX (by omega),AE,ne (by simp)]
    ·rw[yS.2 hp,wU (by decide),eq (by omega),AE,AE,AX (by omega),AE,wU (by decide)]) (λo q=>by
   dsimp only
   unfold Kb
   rw[ne (by simp)]) [] (by simp)
 rw[show((0:Nat):Int)=0 from rfl] at this
 rw[this,Ws];rfl
theorem nH{e:AC}(F:Ah e.Attrs false=0)(j:e.Attrs.length≤1048576):iter (λ(a:(List AD) × Int)=>KF e a.1 a.2) ([],0)=some (Fg e):=by
 obtain⟨I,O⟩:=(Ef _ _).1 F
 have:=IL (f:=λ(a:(List AD) × Int)=>KF e a.1 a.2) e.Attrs (λk o=>(o,(k:Int))) (DW PF) (λo=>o) (λo k=>o.length≤k∧BP o)
  (λb k l j=>by
   unfold DW
   split
   ·exact⟨by have:=KL b e.Attrs[k]!;omega,Mh _ j.2⟩
   ·exact⟨by omega,j.2⟩) (λo k l C=>by
   dsimp only
   unfold KF DW PF
   rw[wU (by simpa using l),AO l,AE,ci]
   generalize e.Attrs[k]! = x
   have J:(if(decide (x.Name=[97,100,100])) then(
     some (decide (x.Name=[97,100,100]))
    ) else(
     if(decide (x.Name=[99,117,116])) then(
      some (decide (x.Name=[99,117,116]))
     ) else(
      if(decide (x.Name=[104,105,100,100,101,110])) then(
       some (decide (x.Name=[104,105,100,100,101,110]))
      ) else(
       if(decide (x.Name=[115,101,99,116,105,111,110])) then(
        some (decide (x.Name=[115,101,99,116,105,111,110]))
       ) else(
        if(decide (x.Name=[98,114,101,97,107])) then(
         some (decide (x.Name=[98,114,101,97,107]))
        ) else(
         some (decide (x.Name=[115,116,97,114,116]))
        )
       )
      )
     )
    ))=some (decide (x.Name∈([[97,100,100],[99,117,116],[104,105,100,100,101,110],[115,101,99,116,105,111,110],[98,114,101,97,107],[115,116,97,114,116]]:List (List UInt8)))):=by
    generalize x.Name=n
    simp only[wo,zV,zy]
    by_cases q:n=[97,100,100]
    ·subst q;rfl
    by_cases u:n=[99,117,116]
    ·subst u;rfl
    by_cases w:n=[104,105,100,100,101,110]
    ·subst w;rfl
    by_cases A:n=[115,101,99,116,105,111,110]
    ·subst A;rfl
    by_cases B:n=[98,114,101,97,107]
    ·subst B;rfl
    rw[ne (by simpa using q),ne (by simpa using u),ne (by simpa using w),ne (by simpa using A),ne (by simpa using B)]
    simp only[q,u,w,A,B,zw]
   rw[J,AE]
   have j:((!(x.Name∈([[97,100,100],[99,117,116],[104,105,100,100,101,110],[108,111,99,107],[115,101,99,116,105,111,110],[98,114,101,97,107],[115,116,97,114,116]]:List (List UInt8))))&&!shr x.Name)=((!(x.Name∈([[97,100,100],[99,117,116],[104,105,100,100,101,110],[115,101,99,116,105,111,110],[98,114,101,97,107],[115,116,97,114,116]]:List (List UInt8))))&&!shr x.Name):=by
    by_cases E:x.Name=[108,111,99,107]
    ·rw[E];rfl
    ·congr 2
     simp only[wo,zV,zy,E,zw]
   rw[j]
   generalize decide (x.Name∈([[97,100,100],[99,117,116],[104,105,100,100,101,110],[115,101,99,116,105,111,110],[98,114,101,97,107],[115,116,97,114,116]]:List (List UInt8)))=M
   cases M with
   | true=>rw[wU rfl,AE,AX (by omega),AE,ne (by simp)]
   | false=>
    rw[ne (by decide),AE]
    by_cases hp:shr x.Name=true
    ·rw[hp,ne (by simp),AE,AX (by omega),AE,ne (by simp)]
    ·rw[yS.2 hp,wU (by decide),R6 _ _ C.2 (by omega),AE,AE,AX (by omega),AE,wU (by decide)]) (λo C=>by
   dsimp only
   unfold KF
   rw[ne (by simp)]) [] ⟨by simp,by simp[BP]⟩
 rw[show((0:Nat):Int)=0 from rfl] at this
 rw[this,Rt _ _ _ I (by simp)];rfl
theorem sv{n:Ae}(a:List UInt8){k z}(w:n.Flow.length≤1048576)(h:LF n.Flow)(q:z<(At n.Flow).length)(j:n.Flow[(At n.Flow)[z]!]!.Char=10)(l:k≤z) :
  Jy (HP n a) (k:Int)=some (Fg (Cn n.Flow (EL n k (z-k)))):=by
 have A:=GY n.Flow
 have u:=Tm n (z-k) k
 unfold Jy
 rw[gT (n:=n) (λk l=>by
  unfold TO
  rw[TR a l,AE]
  unfold Cn
  by_cases j:n.Flow[(At n.Flow)[k]!]!.Char=10
  ·rw[ne (Bx j),wU j]
  ·rw[wU (BK j),ne j,AX (by omega)];rfl) q j (z-k) k (by omega),AE,TR a (by omega),AE,oR (Mf h (by omega)).2]
 rfl
theorem rO{n:Ae}{k z}(A:n.Flow.length≤1048576)(h:LF n.Flow)(q:z<(At n.Flow).length)(j:n.Flow[(At n.Flow)[z]!]!.Char=10)(l:k≤z) :
  J8 (Fs n.Flow) (k:Int)=some (Fg (Cn n.Flow (EL n k (z-k)))):=by
 have B:=GY n.Flow
 have u:=en n.Flow
 have w:=Tm n (z-k) k
 unfold J8
 rw[gT (n:=n) (λk l=>by
  unfold T3
  rw[wW (show(k:Int)<((Fs n.Flow).length:Int) by omega)]
  show AB (AJ (Fs n.Flow) (k:Int)) _=_
  rw[AO (by omega),AE,S7 l]
  unfold Cn
  by_cases j:n.Flow[(At n.Flow)[k]!]!.Char=10
  ·rw[ne (by simpa using j),wU j]
  ·rw[wU (by simpa using j),ne j,AX (by omega)];rfl) q j (z-k) k (by omega),AE,ne (by simp only[wV];omega),AO (by omega),AE,S7 (by omega),nH (Mf h (by omega)).1 (Mf h (by omega)).2]
 rfl
def eC(t:List AD)(c:Int):AC:=⟨c,0,t⟩
def fr(t:List AD):Ai (List Int) Int→Ai (List AC) (Int × List AC)
 | .nrm l=>.nrm (l.map (eC t))
 | .ext e=>.ext (e,[])
structure l8(m:Nat)(R:Ai (List Int) Int):Prop where
 nrm:∀l,R=.nrm l→l.length≤m∧∀c∈l,ER c=true
 ext:∀e,R=.ext e→e≠0
theorem nK(at_:List AD)(T:at_.length≤1073741824)(j:List UInt8)(Z:j.length≤1048576):∀(n i:Nat) (out:List Int),j.length-i=n→i≤j.length→out.length≤i→(∀c∈out,ER c=true) →
  ∃R,iter (λ(a:(List UInt8) × (List AC))=>GQ at_ a.1 a.2) (j.drop i,out.map (eC at_))=some (fr at_ R)∧iter (λ(a:Int × (List AC))=>GK j [] a.1 a.2) ((i:Int),out.map (eC []))=some (fr [] R)∧l8 j.length R:=by
 intro n
 induction n using Nat.strongRecOn with
 | _ n U=>
  intro i out hn hi ho B
  by_cases V:i<j.length
  ·have u:j.drop i≠[]:=by
    intro e
    have:=yz List.length e
    rw[xd] at this
    simp at this;omega
   obtain⟨r,k,w,h2,X⟩:=vB _ u
   rw[xd] at X
   have E:=Wh j i (by omega)
   by_cases C:r=65533∧k=1
   ·refine⟨.ext 10,Bq ?_,Bq ?_,⟨λl e=>(by cases e),λe h=>(by cases h;decide)⟩⟩
    ·show GQ at_ (j.drop i) _=_
     unfold GQ
     rw[wU (BK u),w,BU,wU (by rw[C.1,C.2];rfl)];rfl
    ·show GK j [] (i:Int) _=_
     unfold GK
     rw[wU (by rw[wV];omega),E,AE,w,BU,wU (by rw[C.1,C.2];rfl)];rfl
   ·have I:¬ (((r=65533)&&((k:Int)=1))=true):=by
     rw[wY,wV,wV];omega
    have J:¬ (((r=65533)&&((k:Int)<2))=true):=by
     rw[wY,wV,wV];omega
    by_cases q:ER (IntKind.i64.wrap r)=true
    ·obtain⟨R,M,O,Y⟩:=U (j.length-(i+k)) (by omega) (i+k) (out++[IntKind.i64.wrap r]) rfl (by omega) (by simp;omega) (λe A=>by
      rcases xZ.1 A with A | A
      ·exact B e A
      ·rw[xh] at A;subst A;exact q)
     rw[yj] at M O
     refine⟨R,?_,?_,Y⟩
     ·rw[← M,← List.drop_drop]
      refine Cv ?_
      show GQ at_ (j.drop i) _=_
      unfold GQ
      rw[wU (BK u),w,BU,ne I,S9,AE,ne (by rw[q];decide),tG _ T,AE,Fo (by rw[xY,wq];omega),AE,Wh _ k (by rw[xd];omega),AE]
      rfl
     ·rw[← O]
      refine Cv ?_
      show GK j [] (i:Int) _=_
      unfold GK
      rw[wU (by rw[wV];omega),E,AE,w,BU,ne J,TV,AE,ne (by rw[q];decide),Fo (by rw[xY,wq];omega),AE,Bk (by omega) (by omega),AE]
      rfl
    ·have q:ER (IntKind.i64.wrap r)=false:=by simpa using q
     refine⟨.ext 2,Bq ?_,Bq ?_,⟨λl e=>(by cases e),λe h=>(by cases h;decide)⟩⟩
     ·show GQ at_ (j.drop i) _=_
      unfold GQ
      rw[wU (BK u),w,BU,ne I,S9,AE,wU (by rw[q];rfl)];rfl
     ·show GK j [] (i:Int) _=_
      unfold GK
      rw[wU (by rw[wV];omega),E,AE,w,BU,ne J,TV,AE,wU (by rw[q];rfl)];rfl
  ·have F:i=j.length:=by omega
   subst F
   refine⟨.nrm out,Bq ?_,Bq ?_,⟨λl e=>(by cases e;exact⟨by omega,B⟩),λe h=>(by cases h)⟩⟩
   ·show GQ at_ (j.drop j.length) _=_
    unfold GQ
    rw[zH,ne (Bx rfl)];rfl
   ·show GK j [] (j.length:Int) _=_
    unfold GK
    rw[ne (by simp)];rfl
theorem mn(s:List UInt8) at_(q:CS at_)(w:Ah at_ false=0)(A:s.length≤1048576) :
  (∃l:List Int,Nu s at_=some (0,l.map (eC at_))∧Kp s []=some (0,l.map (eC []))∧l.length≤s.length∧∀c∈l,ER c=true) ∨
  (∃e:Int,e≠0∧Nu s at_=some (e,[])∧Kp s []=some (e,[])):=by
 have B:=q.1
 obtain⟨R,u,C,j⟩:=nK at_ B s A s.length 0 [] (by omega) (by omega) (by simp) (by simp)
 rw[List.drop_zero] at u
 unfold Nu Kp
 rw[OR _ q.2 (by omega),Pi [] _ (λa h=>by simp at h) (by simp),AE,AE,w,ne (by decide),ne (by decide)]
 rw[show([]:List AC)=([]:List Int).map (eC at_) from rfl,u]
 rw[show(([]:List Int).map (eC at_))=([]:List Int).map (eC []) from rfl,show(0:Int)=((0:Nat):Int) from rfl,C]
 match R,j with
 | .nrm l,j=>
  obtain⟨E,F⟩:=j.nrm l rfl
  exact .inl ⟨l,rfl,rfl,E,F⟩
 | .ext e,j=>exact .inr ⟨e,j.ext e rfl,rfl,rfl⟩
def HA(a b:List AD):List AD:=Bf FF a b []
def MR(c:Bool)(j l:List AD):Un:=.r c (if c then [] else HA j l)
def BN:List Un→List Un→List Un
 | .r true _::j,l=>.r true []::BN j l
 | j,.a e::l=>.a e::BN j l
 | .a e::j,.r q u::l=>if q then BN j l else .a (Ce u e)::BN j l
 | .r false w::j,.r q u::l=>MR q w u::BN j l
 | [],.r _ _::_=>[]
 | .a _::_,[]=>[]
 | .r false _::_,[]=>[]
 | [],[]=>[]
  termination_by j l=>j.length+l.length
def Q3(us:List Un):Prop:=∀t j,us≠.r true t::j
theorem Qs t us vs:BN (.r true t::us) vs=.r true []::BN us vs:=by rw[BN]
theorem ir t us vs:∀n:Nat,BN (List.replicate n (.r true t)++us) vs=List.replicate n (.r true [])++BN us vs
 | 0=>rfl
 | n+1=>by rw[xG,ws,Qs,ir t us vs n];rfl
theorem OF(B:List AC)(us vs:List Un)(h:Q3 us):BN us (B.map Un.a++vs)=B.map Un.a++BN us vs:=by
 induction B with
 | nil=>rfl
 | cons e B j=>
  simp only[ww,ws]
  rw[← j]
  match us,h with
  | [],_=>rw[BN];intro _ _ h;cases h
  | .r false t::us,_=>rw[BN];intro _ _ h;cases h
  | .r true t::us,h=>exact absurd rfl (h t us)
  | .a e::us,h=>rw[BN];intro _ _ h;cases h
theorem eu t us:Q3 (.r false t::us):=λ_ _ h=>by cases h
theorem eh:Q3 []:=λ_ _ h=>by cases h
theorem tD e us vs j l:BN (.a e::us) (.r j l::vs)=(if j then [] else [.a (Ce l e)])++BN us vs:=by
 rw[BN];cases j<;>rfl
theorem Ud us vs j l q:BN (.r false l::us) (.r j q::vs)=MR j l q::BN us vs:=by rw[BN]
theorem f6 us vs j l:∀A:List AC,BN (A.map Un.a++us) (List.replicate A.length (.r j l)++vs)=(if j then [] else(A.map (Ce l)).map Un.a)++BN us vs
 | []=>by cases j<;>rfl
 | e::A=>by
  rw[ww,wm,xG,ws,ws,tD,f6 us vs j l A]
  cases j<;>rfl
theorem iH us vs j l q:∀n:Nat,BN (List.replicate n (.r false l)++us) (List.replicate n (.r j q)++vs)=List.replicate n (MR j l q)++BN us vs
 | 0=>rfl
 | n+1=>by rw[xG,xG,ws,ws,Ud,iH us vs j l q n];rfl
theorem Yv(B:List AC):BN [] (B.map Un.a)=B.map Un.a:=by
 have:=OF B [] [] eh
 rw[wv] at this
 rw[this,BN,wv]
theorem eY:∀(us vs:List Un),(BN us vs).length≤us.length+vs.length:=by
 intro us vs
 fun_induction BN us vs<;>simp_all<;>omega
theorem pp:∀(us vs:List Un),BF (BN us vs)≤BF us+BF vs:=by
 intro us vs
 fun_induction BN us vs with
 | case1 t us vs j=>rw[Cy,Cy];simp only[Un.isR,yO,yN,y8];omega
 | case2 us e vs q j=>rw[Cy,Cy];omega
 | case3 e us l vs j=>rw[Cy,Cy];simp only[Un.isR,yO,yN,y8];omega
 | case4 e us u l vs w j=>rw[Cy,Cy,Cy];simp only[Un.isR,yO,yN,y8];omega
 | case5 A us u l vs j=>rw[Cy,Cy,Cy];simp only[Un.isR,MR,yO,yN,y8];omega
 | case6=>simp[BF]
 | case7=>simp[BF]
 | case8=>simp[BF]
 | case9=>simp[BF]
theorem HT u us:Bi (u::us)=(if Eo u then 1 else 0)+Bi us:=by unfold Bi;rw[xz];omega
theorem OW a b:Bi (a++b)=Bi a+Bi b:=by simp[Bi]
theorem iC(l:List AC):Bi (l.map Un.a)=l.length:=by
 induction l with
 | nil=>rfl
 | cons x l j=>rw[ww,HT,j,wm];simp only[Eo,yN];omega
theorem Sr n c t:Bi (List.replicate n (.r c t))=if c then 0 else n:=by
 cases c<;>simp[Bi,yX,Eo]
theorem X6{e:AC}{t:List AD}(j:Bb e=0)(w:e.Attrs.length≤1048576)(q:Ah t true=0)(u:t.length≤1048576):Bb (Ce t e)=0∧CS (Ce t e).Attrs:=by
 have l:=rZ (HJ j) q
 have A:=cY e.Attrs t
 refine⟨?_,F9 (l:=Fi e.Attrs t) l (by omega)⟩
 unfold Bb at j ⊢
 unfold Ce
 dsimp only
 split
 ·rename_i h;rw[wU h] at j;exact j
 ·rename_i h
  rw[ne h] at j
  split
  ·rename_i h;rw[wU h] at j;exact j
  ·exact l
theorem hJ{a b:List AD}(l:Ah a true=0)(q:Ah b true=0)(u:a.length≤1048576)(w:b.length≤1048576):Ah (HA a b) true=0∧CS (HA a b):=by
 have j:=mH l q
 have A:=vA a b
 exact⟨j,F9 j (by unfold HA;omega)⟩
theorem YM:∀(us vs:List Un),DJ us→DJ vs→∀u∈BN us vs,DA u:=by
 intro us vs
 fun_induction BN us vs with
 | case1 t us vs w=>
  intro q l u j
  rcases wo.1 j with rfl | j
  ·exact⟨λh=>(by cases h),Ff⟩
  ·exact w q.tl l u j
 | case2 us e vs I w=>
  intro q l u j
  rcases wo.1 j with rfl | j
  ·exact R4 l (wZ ..)
  ·exact w q l.tl u j
 | case3 e us E vs w=>intro q l u j;exact w q.tl l.tl u j
 | case4 e us F E vs C w=>
  intro q l u j
  rcases wo.1 j with rfl | j
  ·have A:=q _ (wZ ..)
   have B:=l _ (wZ ..)
   dsimp only at A B
   exact X6 A.1 A.2 (B.1 (by simpa using C)) B.2.2
  ·exact w q.tl l.tl u j
 | case5 O us F E vs w=>
  intro q l u j
  rcases wo.1 j with rfl | j
  ·have A:=q _ (wZ ..)
   have B:=l _ (wZ ..)
   dsimp only at A B
   cases F with
   | true=>exact⟨λh=>(by cases h),Ff⟩
   | false=>
    obtain⟨J,M⟩:=hJ (A.1 rfl) (B.1 rfl) A.2.2 B.2.2
    exact⟨λ_=>J,M⟩
  ·exact w q.tl l.tl u j
 | case6=>intro _ _ u j;cases j
 | case7=>intro _ _ u j;cases j
 | case8=>intro _ _ u j;cases j
 | case9=>intro _ _ u j;cases j
theorem qw{s s':AH}{rest}{u n}{p}(q:s.Kind≠1)(h:FY ⟨s::rest,u⟩ n=some (s',p)):s'.N=n:=by
 unfold FY at h
 dsimp only at h
 change AB (some s) _=_ at h
 rw[AE,ne (by rw[wV];exact q),AE] at h
 cases j:AK .i64 (u+n) with
 | none=>rw[j] at h;cases h
 | some a=>
  rw[j,AE] at h
  cases l:Gh s with
  | none=>rw[l] at h;cases h
  | some b=>
   rw[l,AE] at h
   generalize (if(decide (a=b))=true then _ else _:Option BM)=r at h
   cases r with
   | none=>cases h
   | some r=>
    rw[AE] at h
    cases h;rfl
theorem rE{s:AH}{rest}{u:Int}(h:FS ⟨s::rest,u⟩)(B:s.Kind≠2):Q3 (B5 ⟨s::rest,u⟩)∧0<Bi (B5 ⟨s::rest,u⟩):=by
 have w:=h.stp s (wZ ..)
 have J:=Gz w.1 w.2
 have C:=h.u0
 have E:=h.fit s rest rfl
 dsimp only at C E
 have A:u.toNat<(BC s).length:=by omega
 have F:∀v∈BC s,Eo v=true:=by
  intro v j
  unfold BC at j
  split at j
  ·obtain⟨e,_,rfl⟩:=yC.1 j;rfl
  ·have:=yD j
   subst this
   rw[wX B];rfl
 have e:B5 ⟨s::rest,u⟩=(BC s)[u.toNat]::((BC s).drop (u.toNat+1)++Af rest):=by
  show(BC s).drop u.toNat++Af rest=_
  rw[yR A,ws]
 have l:=F _ (yZ A)
 rw[e]
 constructor
 ·intro t M I
  injection I with q _
  rw[q] at l;cases l
 ·rw[HT,l,wU rfl];omega
theorem ts(U V:List Un)(p q:BM)(hp:FS p)(B:FS q)(ha:B5 p=U)(hb:B5 q=V)(oa:DJ U)(ob:DJ V)(hc:Bi U=Ao V)(ak:U.length≤4294967296)(al:V.length≤4294967296)(I:p.steps.length≤4294967296)(C:q.steps.length≤4294967296) :
  iter (λ(a:Ac × BM × BM)=>NE a.1 a.2.1 a.2.2) ((Ac.mk [] [] 0),p,q)=some (CR (Ap (BN U V))):=by
 have key:∃r,iter (λ(a:Ac × BM × BM)=>NE a.1 a.2.1 a.2.2) ((Ac.mk [] [] 0),p,q)=some r∧r=CR (Ap (BN U V)):=by
  refine eA (λF=>FS F.2.1∧FS F.2.2∧DJ (B5 F.2.1)∧DJ (B5 F.2.2)∧F.2.1.steps.length≤4294967296∧F.2.2.steps.length≤4294967296∧Bi (B5 F.2.1)=Ao (B5 F.2.2) ∧
   ∃X,F.1=CR (Ap X)∧X++BN (B5 F.2.1) (B5 F.2.2)=BN U V)
   (λF=>(B5 F.2.1).length+(B5 F.2.2).length) _ ?_ ⟨hp,B,by rw[ha];exact oa,by rw[hb];exact ob,I,C,by rw[ha,hb];exact hc,[],rfl,by rw[ha,hb];rfl⟩
  rintro⟨x,p,q⟩ ⟨hp,B,J,oQ,I,C,hc,X,hx,j⟩
  dsimp only at hp B J oQ I C hc hx j
  subst hx
  have an:X.length≤8589934592:=by
   have A:=yz List.length j
   have M:=eY U V
   rw[wi] at A
   omega
  have O:∀u∈X,DA u:=λu hu=>YM U V oa ob u (by rw[← j];exact yg _ hu)
  dsimp only
  unfold NE
  obtain⟨ps,pu⟩:=p
  obtain⟨qs,qu⟩:=q
  match ps,qs with
  | [],[]=>
   refine .inr ?_
   rw[Ny,Ny]
   simp only[AE]
   refine⟨_,rfl,?_⟩
   have e1:BN [] []=[]:=by rw[BN]
   change X++BN [] []=_ at j
   rw[e1,wv] at j
   rw[j]
  | s::ps,qs=>
   have hs:=hp.stp s (wZ ..)
   have hsz:=Gz hs.1 hs.2
   have ac:=hp.u0
   have ad:=hp.fit s ps rfl
   have ao:=JZ hs.1
   dsimp only at ac ad I
   rw[wm] at I
   rw[Mo,AE]
   have a6:decide (0≤s.Kind)=true:=by rw[wV];omega
   rw[a6,show(true==false)=false from rfl,ne (by decide),AE,wU (by decide)]
   refine .inl ?_
   by_cases hk:s.Kind=2
   ·have z1:Bv s=s.N:=by unfold Bv;rw[ne (by omega)]
    obtain⟨p',s',A,M,E,h4,k1,k2,_⟩:=HG (n:=Bv s-pu) hp (by omega) (by omega) (by omega)
    have hN:=qw (by omega) A
    rw[wU (by rw[wV];exact hk),HO hp,AE,A,BU,hN]
    rw[Qv (by omega) (by omega),wW hk] at E
    rw[E] at j hc J ⊢
    rw[ir,← wl] at j
    rw[OW,Sr] at hc
    rw[TT O (by omega) (Bv s-pu) [] (by omega) (by omega) (λw=>some (Sum.inl (w,p',(⟨qs,qu⟩:BM))))]
    refine⟨_,rfl,⟨M,B,J.app,oQ,by dsimp only;omega,C,by simpa using hc,_,rfl,j⟩,?_⟩
    dsimp only
    rw[wi,xg];omega
   ·rw[ne (by rw[wV];exact hk)]
    have a0:=rE hp hk
    match qs with
    | []=>
     exfalso
     have A:=a0.2
     rw[hc] at A
     exact absurd A (by show ¬ (0<Ao []);simp[Ao])
    | t::qs=>
     have Y:=B.stp t (wZ ..)
     have ae:=Gz Y.1 Y.2
     have a7:=B.u0
     have a8:=B.fit t qs rfl
     have af:=JZ Y.1
     dsimp only at a7 a8 C
     rw[wm] at C
     rw[Mo,AE]
     by_cases l:t.Kind=1
     ·obtain⟨q',t',A,M,E,h4,k1,k2,T⟩:=HG (n:=Bv t-qu) B (by omega) (by omega) (by omega)
      obtain⟨T,k4,k5⟩:=T l
      rw[wU (by rw[wV];exact l),HO B,AE,A,BU,Ni O (by omega) t'.Elems (by omega) (λe he=>Y.2.ea e (k5 e he)),AE]
      rw[← T] at E
      rw[E] at j hc oQ ⊢
      rw[OF _ _ _ a0.1,← wl] at j
      rw[He,Ov,xE] at hc
      refine⟨_,rfl,⟨hp,M,J,oQ.app,by dsimp only [List.length_cons];omega,by dsimp only;omega,hc,_,rfl,j⟩,?_⟩
      dsimp only
      rw[wi,wq];omega
     ·rw[ne (by rw[wV];exact l),HO hp,AE,HO B,AE]
      generalize hn:min (Bv s-pu) (Bv t-qu)=n
      have aa:1≤n:=by omega
      have ag:n≤Bv s-pu:=by omega
      have ah:n≤Bv t-qu:=by omega
      have z2:Bv t=t.N:=by unfold Bv;rw[ne l]
      obtain⟨p',s',A,M,E,h4,k1,k2,T⟩:=HG (n:=n) hp aa ag (by omega)
      obtain⟨q',t',j1,j2,j3,j4,l1,l2,_⟩:=HG (n:=n) B aa ah (by omega)
      rw[Qv l (by omega)] at j3
      rw[j3] at oQ
      obtain⟨m,hm⟩:∃m,n.toNat=m+1:=⟨n.toNat-1,by omega⟩
      have u2:=oQ (.r (decide (t.Kind=2)) t.Attrs) (by rw[hm,xG];simp)
      dsimp only at u2
      rw[A,BU,j1,BU,k1,l1,k2,l2]
      by_cases h0:s.Kind=0
      ·have z1:Bv s=s.N:=by unfold Bv;rw[ne (by omega)]
       rw[Qv (by omega) (by omega),wX (by omega)] at E
       rw[E] at J
       have u1:=J (.r false s.Attrs) (by rw[hm,xG];simp)
       dsimp only at u1
       have a1:=u1.1 rfl
       rw[E,j3] at j hc ⊢
       rw[iH,← wl] at j
       rw[OW,Sr,He,Of] at hc
       have ab:Bi (B5 p')=Ao (B5 q'):=by simp at hc;exact hc
       by_cases g0:t.Kind=0
       ·have Z:decide (t.Kind=2)=false:=by rw[g0];rfl
        have a2:=u2.1 Z
        have lk:=(hJ a1 a2 u1.2.2 u2.2.2).2
        rw[Z] at j ⊢
        rw[wW h0,wW g0,wU (by decide),nc _ _ (by omega),AE,show Bf FF s.Attrs t.Attrs []=HA s.Attrs t.Attrs from rfl,KW O (by omega) n _ (by omega) (by omega) lk.1,AE]
        refine⟨_,rfl,⟨M,j2,J.app,oQ.app,by dsimp only;omega,by dsimp only;omega,ab,_,rfl,j⟩,?_⟩
        dsimp only
        rw[wi,wi,xg];omega
       ·have Z:decide (t.Kind=2)=true:=by rw[wV];omega
        rw[Z] at j ⊢
        rw[wW h0,wX g0,ne (by decide),wU (by decide)]
        rw[TT O (by omega) n [] (by omega) (by omega) (λw=>some (Sum.inl (w,p',q')))]
        refine⟨_,rfl,⟨M,j2,J.app,oQ.app,by dsimp only;omega,by dsimp only;omega,ab,_,rfl,j⟩,?_⟩
        dsimp only
        rw[wi,wi,xg];omega
      ·have ai:s.Kind=1:=by omega
       obtain⟨T,k4,k5⟩:=T ai
       rw[← T] at E
       rw[E] at J
       rw[E,j3] at j hc ⊢
       rw[show n.toNat=s'.Elems.length by omega] at j hc oQ ⊢
       rw[f6,← wl] at j
       rw[OW,iC,He,Of] at hc
       rw[wX h0]
       by_cases g0:t.Kind=0
       ·have Z:decide (t.Kind=2)=false:=by rw[g0];rfl
        have a2:=u2.1 Z
        rw[Z] at j ⊢
        rw[wW g0,ne (by decide),ne (by decide),wU rfl,kN _ _ (by omega) (λe he=>hs.2.ea e (k5 e he)) (by omega),AE]
        rw[ne (by decide)] at j
        rw[Ni O (by omega) _ (by rw[wq];omega) (λe he=>by
         obtain⟨e0,aj,rfl⟩:=yC.1 he
         have:=J (.a e0) (yg _ (List.mem_map_of_mem aj))
         exact(X6 this.1 this.2 a2 u2.2.2).2),AE]
        refine⟨_,rfl,⟨M,j2,J.app,oQ.app,by dsimp only;omega,by dsimp only;omega,by dsimp only;omega,_,rfl,j⟩,?_⟩
        dsimp only
        rw[wi,wi,xg];omega
       ·have Z:decide (t.Kind=2)=true:=by rw[wV];omega
        rw[Z] at j ⊢
        rw[wX g0,ne (by decide),ne (by decide),ne (by decide)]
        rw[wU rfl,wv] at j
        refine⟨_,rfl,⟨M,j2,J.app,oQ.app,by dsimp only;omega,by dsimp only;omega,by dsimp only;omega,_,rfl,j⟩,?_⟩
        dsimp only
        rw[wi,wi,xg];omega
  | [],t::qs=>
   have Y:=B.stp t (wZ ..)
   have ae:=Gz Y.1 Y.2
   have a7:=B.u0
   have a8:=B.fit t qs rfl
   have af:=JZ Y.1
   dsimp only at a7 a8 C
   rw[wm] at C
   rw[Ny,AE,show decide ((0:Int) ≤ -1)=false by decide,show(false==false)=true from rfl,wU rfl,Mo,AE,AE]
   have a6:decide (0≤t.Kind)=true:=by rw[wV];omega
   rw[a6,wU (by decide),ne (by decide),AE]
   refine .inl ?_
   by_cases l:t.Kind=1
   ·obtain⟨q',t',A,M,E,h4,k1,k2,T⟩:=HG (n:=Bv t-qu) B (by omega) (by omega) (by omega)
    obtain⟨T,k4,k5⟩:=T l
    rw[wU (by rw[wV];exact l),HO B,AE,A,BU,Ni O (by omega) t'.Elems (by omega) (λe he=>Y.2.ea e (k5 e he)),AE]
    rw[← T] at E
    rw[E] at j hc oQ ⊢
    rw[OF _ _ _ (show Q3 (B5 ⟨[],pu⟩) from eh),← wl] at j
    rw[He,Ov,xE] at hc
    refine⟨_,rfl,⟨hp,M,J,oQ.app,I,by dsimp only;omega,hc,_,rfl,j⟩,?_⟩
    dsimp only
    rw[wi,wq];omega
   ·exfalso
    have A:=(WP B l).2
    rw[← hc] at A
    exact absurd A (by show ¬ (0<Bi []);simp[Bi])
 obtain⟨r,A,M⟩:=key
 rw[A,M]
theorem nF{d}(h:∀s∈d,E7 s):(Bi (Af d):Int)=A7 d:=by
 induction d with
 | nil=>rfl
 | cons s d j=>
  have l:=j (λx q=>h x (we _ q))
  have u:=(h s (wZ ..)).kind
  rw[UA,OW,Iy,← l]
  have:(Bi (BC s):Int)=CY s:=by
   unfold BC CY
   rcases u with ⟨k,e,w,_,_⟩ | ⟨k,e,_,w,_⟩ | ⟨k,n,_,_,_⟩
   ·rw[ne (by omega),ne (by omega),ne (by omega),wX (by omega),Sr];simp;omega
   ·rw[ne (by omega),wU (by omega),wW k,Sr];simp
   ·rw[wU k,ne (by omega),wU k,iC]
  omega
def XY(a b:List AH):List AH × Int:=if CH (BD (BN (Af a) (Af b)))≠0 then([],3) else(BD (BN (Af a) (Af b)),0)
theorem jy a b(B:El a)(C:El b)(E:GW a)(F:GW b):L5 a b=some (if CH a≠0 then([],CH a) else if CH b≠0 then([],CH b) else
  if Av b≠A7 a then([],14) else XY a b):=by
 unfold L5
 rw[Ps a B,AE]
 by_cases j:CH a≠0
 ·rw[wU (BK j),wU j]
 have j:=wy.1 j
 rw[ne (Bx j),ne (show ¬ (CH a≠0) by simpa using j),Ps b C,AE]
 by_cases l:CH b≠0
 ·rw[wU (BK l),wU l]
 have l:=wy.1 l
 have q:=MY j
 have u:=MY l
 rw[ne (Bx l),ne (show ¬ (CH b≠0) by simpa using l),RU a B q,RU b C u,BU,BU]
 by_cases w:Av b≠A7 a
 ·rw[wU (BK w),wU w]
 have w:=wy.1 w
 have O:=QE q.st
 have T:=QE u.st
 have U:=nF q.st
 have V:=TE u.st
 have I:=UF q.st E
 have J:=UF u.st F
 have X:=q.olds
 have g2:=u.olds
 have Y:=E.sum
 have Z:=F.sum
 have n1:=E.len
 have n2:=F.len
 rw[ne (Bx w),ne (show ¬ (Av b≠A7 a) by simpa using w)]
 rw[ts (Af a) (Af b) ⟨a,0⟩ ⟨b,0⟩ (Oq λs A=>⟨q.st s A,B.st s A⟩) (Oq λs A=>⟨u.st s A,C.st s A⟩) (QK a) (QK b) I J (by omega) (by omega) (by omega) (by dsimp only;omega) (by dsimp only;omega),AE]
 have px:=eY (Af a) (Af b)
 have M:=YM _ _ I J
 have lx:=Je M
 have cx:=pp (Af a) (Af b)
 have wa:=Tp q.st
 have wb:=Tp u.st
 rw[PA M (by omega) (by omega)]
 unfold XY
 split<;>rfl
def GO(u:Un):Prop:=match u with | .a e=>Bb e=0∧e.Attrs.length≤1048576 | .r c t=>(c=false→Ah t true=0)∧(c=true→t=[])∧t.length≤1048576
theorem Q8{u}(h:GO u):DA u:=by
 match u,h with
 | .a e,h=>exact⟨h.1,F9 (HJ h.1) (by have:=h.2;omega)⟩
 | .r true t,h=>
  obtain rfl:=h.2.1 rfl
  exact⟨λh=>(by cases h),Ff⟩
 | .r false t,h=>exact⟨h.1,F9 (h.1 rfl) (by have:=h.2.2;omega)⟩
def IG(s:DS):List Un:=Af s.out++s.adds.map Un.a
def JH(s:DS):Prop:=∀x∈s.out,0≤x.N
theorem Lz(s:DS)(h:JH s):Af (BE s)=IG s++List.replicate s.cuts (.r true [])∧∀x∈BE s,0≤x.N:=by
 obtain⟨o,A,c⟩:=s
 unfold BE IG
 dsimp only
 have l:Af (if 0<A.length then o++[⟨1,0,[],A⟩] else o)=Af o++A.map Un.a∧∀x∈(if 0<A.length then o++[⟨1,0,[],A⟩] else o),0≤x.N:=by
  by_cases hA:0<A.length
  ·rw[wU hA]
   refine⟨by rw[Mw];simp[Af,BC],λx j=>?_⟩
   rcases xZ.1 j with j | j
   ·exact h x j
   ·rw[xh] at j;subst j;exact z7 0
  ·rw[ne hA]
   obtain rfl:A=[]:=yG (by omega)
   exact⟨by simp,h⟩
 by_cases q:0<c
 ·rw[wU q,Mw,l.1]
  refine⟨by simp[Af,BC],λx j=>?_⟩
  rcases xZ.1 j with j | j
  ·exact l.2 x j
  ·rw[xh] at j;subst j;exact zL c
 ·rw[ne q,wv]
  obtain rfl:c=0:=by omega
  exact⟨by rw[l.1];simp,l.2⟩
theorem V2:∀(P:List Un) (f:List AC) (X Y:List Un),Ao P≤f.length→(∀g:List AC,g.length=f.length-Ao P→A0 X g=A0 Y g)→A0 (P++X) f=A0 (P++Y) f
 | [],f,X,Y,_,h=>h f rfl
 | .a e::P,f,X,Y,j,h=>by
  have q:Ao (.a e::P)=Ao P:=by unfold Ao;rw[List.countP_cons_of_neg];simp[Un.isR]
  rw[q] at j h
  rw[ws,ws,A0,A0,V2 P f X Y j h]
 | .r c t::P,f,X,Y,j,h=>by
  have u:Ao (.r c t::P)=Ao P+1:=by unfold Ao;rw[za];rfl
  rw[u] at j h
  match f,j,h with
  | [],j,_=>simp at j
  | x::f,j,h=>
   have l:=V2 P f X Y (by simp only[wm] at j;omega) (λg hg=>h g (by simp only[wm];omega))
   cases c with
   | true=>rw[ws,ws,A0,A0,l]
   | false=>rw[ws,ws,A0,A0,l]
theorem Tr:∀(us:List Un) (s:DS),JH s→(∀u∈us,GO u)→∀f:List AC,Ao (Af (BE s))+Ao us≤f.length→A0 (Af (BE (us.foldl dU s))) f=A0 (Af (BE s)++us) f
 | [],s,_,_,f,_=>by rw[wv];rfl
 | u::us,s,I,M,f,l=>by
  obtain⟨F,O⟩:=Lz s I
  have q:Ao (u::us)=(if u.isR then 1 else 0)+Ao us:=by unfold Ao;rw[xz];omega
  have w:=M u (wZ ..)
  have A:∀v∈us,GO v:=λv T=>M v (we _ T)
  rw[xM]
  match u,q,w with
  | .a e,q,_=>
   have j:JH (dU s (.a e)):=I
   obtain⟨B,_⟩:=Lz _ j
   have J:IG (dU s (.a e))=IG s++[.a e]:=by
    show Af s.out++(s.adds++[e]).map Un.a=_
    unfold IG
    rw[yj,wl];rfl
   have C:(dU s (.a e)).cuts=s.cuts:=rfl
   rw[J,C] at B
   have U:∀n,Ao (List.replicate n (.r true []))=n:=λn=>by unfold Ao;rw[yX];rfl
   have V:Ao [Un.a e]=0:=rfl
   rw[Tr us _ j A f (by rw[B,GM,GM,V];rw[F,GM,q] at l;simp only[Un.isR] at l;simp at l;omega),B,F]
   rw[wl,wl,wl]
   rw[F,GM,U] at l
   refine V2 _ _ _ _ (by omega) λg hg=>?_
   rw[zn,A0,X8 _ _ _ _ (by omega),X8 _ _ _ _ (by omega),A0]
  | .r true t,q,w=>
   obtain rfl:=w.2.1 rfl
   have j:JH (dU s (.r true [])):=I
   obtain⟨B,_⟩:=Lz _ j
   have E:Af (BE (dU s (.r true [])))=Af (BE s)++[.r true []]:=by
    rw[B,F]
    show IG s++List.replicate (s.cuts+1) _=_
    rw[zU,wl]
   rw[Tr us _ j A f (by rw[E,GM];rw[q] at l;show _+1+_≤_;simp only[Un.isR,yN] at l;omega),E,wl];rfl
  | .r false t,q,_=>
   obtain⟨X,Y⟩:=XE t O
   have j:JH (dU s (.r false t)):=Y
   have E:Af (BE (dU s (.r false t)))=Af (BE s)++[.r false t]:=by
    show Af (BE ⟨Gx (BE s) t,[],0⟩)=_
    rw[SL,X]
   rw[Tr us _ j A f (by rw[E,GM];rw[q] at l;show _+1+_≤_;simp only[Un.isR,yN] at l;omega),E,wl];rfl
theorem pS{us}(j:∀u∈us,GO u)(f:List AC)(h:Ao us≤f.length):A0 (Af (BD us)) f=A0 us f:=by
 have:=Tr us D0 (λx l=>by cases l) j f (by rw[show BE D0=[] from rfl];show 0+_≤_;omega)
 exact this
def IE:List UInt8:=[99,117,116]
def Hy:List UInt8:=[97,100,100]
def HB(au:List UInt8)(b:Bool)(x:AC):Un:=if b=false then .r false [] else if au=[]∨C1 x.Attrs Hy=au then .r true [] else .r false [⟨IE,au⟩]
def GH(au:List UInt8)(g:List Bool)(f:List AC):List Un:=List.zipWith (HB au) g f
theorem rT(f:List AC){a m}(h:a+m≤(At f).length):B8 (shown f 0 f.length) (a:Int) ((a+m:Nat):Int)=some (((At f).drop a).take m |>.map λ(i:Nat)=>(i:Int)):=by
 unfold B8
 have j:=Pj f
 rw[wU (by omega),Xs]
 congr 1
 rw[← List.map_drop,← List.map_take]
 congr 1
 rw[xl,xl,show a+m-a=m by omega]
theorem uR f{a m x}(h:a+m≤(At f).length)(j:x<m):((At f).drop a |>.take m)[x]?=some (At f)[a+x]!:=by
 rw[yJ,wU j,yA,wd (by omega),wg _ _ (by omega)]
theorem pK f{a m}(h:a+m≤(At f).length):((At f).drop a |>.take m).length=m:=by
 rw[yM,xd];omega
def DV(f:List AC)(a m:Nat):List Bool:=(List.range f.length).map λi=>decide (∃j,j<m∧(At f)[a+j]! = i)
theorem MJ(f:List AC) a m:(DV f a m).length=f.length:=by simp[DV]
theorem jt(f:List AC) a:DV f a 0=List.replicate f.length false:=by
 refine zG (by simp[DV]) λi _ _=>?_
 simp[DV]
theorem oW f{a m}(h:a+m<(At f).length):(DV f a m).set (At f)[a+m]! true=DV f a (m+1):=by
 refine zG (by simp[DV]) λi u l=>?_
 rw[List.getElem_set]
 simp only[DV,zJ,z8]
 split
 ·rename_i e
  symm
  exact wW ⟨m,by omega,e⟩
 ·rename_i e
  rw[xf,wV,wV]
  constructor
  ·rintro⟨j,u,l⟩;exact⟨j,by omega,l⟩
  ·rintro⟨j,A,q⟩
   refine⟨j,?_,q⟩
   by_cases w:j=m
   ·subst w;exact absurd q e
   ·omega
theorem mP(f:List AC){a m}(h:a+m≤(At f).length)(E:f.length≤1048576) :
  iter (λ(s:Int × (List Bool))=>LP (((At f).drop a |>.take m).map λ(i:Nat)=>(i:Int)) s.1 s.2) (0,List.replicate f.length false)=some (DV f a m):=by
 have F:=GY f
 have j:=pK f h
 obtain⟨b,w,A⟩:=EG (f:=λ(s:Int × (List Bool))=>LP (((At f).drop a |>.take m).map λ(i:Nat)=>(i:Int)) s.1 s.2) m (λk u=>u=((k:Int),DV f a k)) (λb=>b=DV f a m) (s:=(0,List.replicate f.length false)) (λk u q l=>by
  subst l
  left
  refine⟨_,?_,rfl⟩
  unfold LP
  dsimp only
  have B:=F5 (f:=f) (k:=a+k) (by omega)
  have C:AJ (((At f).drop a |>.take m).map λ(i:Nat)=>(i:Int)) (k:Int)=some (((At f)[a+k]!:Nat):Int):=by
   rw[AO (by rw[wq,j];exact q)]
   congr 1
   rw[wg _ _ (by rw[wq,j];exact q),zJ]
   have:=uR f h q
   rw[wd (by rw[j];exact q)] at this
   injection this with this
   rw[this]
  rw[wU (wW (by rw[wq,j];omega)),C,AE,AO (by rw[MJ];exact B),AE,AX (by omega),AE,xl,oW f (by omega)]) (λu l=>by
  subst l
  refine⟨_,?_,rfl⟩
  unfold LP
  dsimp only
  rw[ne (by rw[wq,j];simp)]) (by rw[jt];rfl)
 rw[w,A]
theorem QQ au{g:List Bool}{f:List AC}(h:g.length=f.length):(GH au g f).length=f.length:=by simp[GH,h]
theorem fu au{g:List Bool}{f:List AC}(h:g.length=f.length){k}(j:k<f.length):(GH au g f)[k]! = HB au g[k]! f[k]!:=by
 rw[wg _ k (by rw[QQ au h];exact j),wg g k (by omega),wg f k j]
 simp[GH]
structure I4(au:List UInt8):Prop where
 v:au=[]∨DR au=true
 l:au.length≤1073741824
theorem TZ{au}(h:I4 au):Ah [⟨IE,au⟩] true=0∧Ah [⟨Hy,au⟩,⟨IE,[]⟩] true=0:=by
 have e:∀n,D7 n=true→VA true ⟨n,au⟩:=λn u=>⟨u,by rcases h.v with h | h;exact .inr ⟨rfl,h⟩;exact .inl h⟩
 have l:D7 IE=true:=by decide
 have w:D7 Hy=true:=by decide
 have A:VA true ⟨IE,[]⟩:=⟨l,.inr ⟨rfl,rfl⟩⟩
 refine⟨(Ef _ _).2 ⟨by simp[BP],λx j=>by rw[xh] at j;subst j;exact e _ l⟩,(Ef _ _).2 ⟨?_,λx j=>?_⟩⟩
 ·unfold BP
  rw[List.pairwise_cons]
  refine⟨λy q=>?_,by simp⟩
  rw[xh] at q;subst q
  show Au Hy IE=true
  decide
 ·rcases wo.1 j with rfl | j
  ·exact e _ w
  ·rw[xh] at j;subst j;exact A
theorem uB{au}(h:I4 au)(b:Bool)(x:AC):IH (HB au b x):=by
 unfold HB
 split
 ·exact⟨λ_=>Na,λh=>(by cases h),by simp⟩
 split
 ·exact⟨λh=>(by cases h),λ_=>rfl,by simp⟩
 ·exact⟨λ_=>(TZ h).1,λh=>(by cases h),by simp⟩
theorem Vt{au}(h:I4 au)(g:List Bool)(f:List AC):∀u∈GH au g f,IH u:=by
 intro u j
 unfold GH at j
 rw[xp] at j
 obtain⟨k,l,rfl⟩:=j
 rw[List.getElem_zipWith]
 exact uB h _ _
theorem sn(f:List AC){au}{g:List Bool}(hg:g.length=f.length)(F:f.length≤1048576)(w:∀e∈f,e.Attrs.length≤1048576) :
  iter (λ(s:Int × (List AH))=>Lh f au g s.1 s.2) (0,[])=some ((GH au g f).map DK):=by
 have:=IL (f:=λ(s:Int × (List AH))=>Lh f au g s.1 s.2) (GH au g f) (λk o=>((k:Int),o)) (λo u=>o++[DK u]) (λo=>o) (λo k=>o.length≤k)
  (λb k j I=>by simp;omega) (λo k j C=>by
   rw[QQ au hg] at j
   rw[fu au hg j]
   dsimp only
   unfold Lh HB
   rw[wU (by simpa using j),AO j,AE,AO (by omega),AE]
   cases g[k]! with
   | false=>rw[wU (show(!false)=true from rfl),AE,Hu (by omega),AE,AX (by omega),wU (show false=false from rfl)];rfl
   | true=>
    rw[ne (by decide),ne (by decide)]
    by_cases A:au=[]
    ·subst A
     rw[wW rfl,wU (.inl rfl)]
     show AB (AB (some default) λB=>if(true||(B=[]))=true then _ else _) _=_
     rw[AE,wU (show(true||((default:List UInt8)=[]))=true from rfl),AE,Hu (by omega),AE,AX (by omega)];rfl
    ·rw[wX A]
     show AB (AB (Gs f[k]!.Attrs Hy) λB=>if(false||(B=au))=true then _ else _) _=_
     rw[Oj _ _ (by have:=w _ (BA j);omega),AE]
     by_cases q:C1 f[k]!.Attrs Hy=au
     ·rw[wU (by simpa using q),AE,Hu (by omega),AE,AX (by omega),wU (.inr q)];rfl
     ·rw[ne (by simpa using q),AE,Hu (by omega),AE,AX (by omega),ne (by rintro(h | h);exact A h;exact q h)];rfl) (λo C=>by
   rw[QQ au hg]
   dsimp only
   unfold Lh
   rw[ne (by simp)]) [] (by simp)
 rw[show((0:Nat):Int)=0 from rfl] at this
 rw[this]
 congr 1
 have key:∀(l:List Un) (o:List AH),l.foldl (λo u=>o++[DK u]) o=o++l.map DK:=by
  intro l
  induction l with
  | nil=>simp
  | cons x l E=>intro o;rw[xM,E];simp
 rw[key];rfl
theorem sx(f:List AC){au}(j:I4 au){a m}(h:a+m≤(At f).length)(l:f.length≤1048576)(q:∀e∈f,e.Attrs.length≤1048576) :
  PI f (((At f).drop a |>.take m).map λ(i:Nat)=>(i:Int)) au=some (BD (GH au (DV f a m) f)):=by
 unfold PI
 rw[s4 (by omega),AE,mP f h l,AE,sn f (MJ f a m) l q,AE,rA _ (Vt j _ _) (by rw[QQ au (MJ f a m)];exact l)]
 rfl
def As(f:List AC)(a:Nat):Nat:=if a=0 then 0 else(At f)[a-1]!+1
theorem ut(f:List AC){a}(h:a≤(At f).length):As f a≤f.length:=by
 unfold As
 split
 ·omega
 ·have:=F5 (f:=f) (k:=a-1) (by omega);omega
theorem oS(f:List AC){a}(h:a≤(At f).length)(l:f.length≤1048576):QJ (shown f 0 f.length) (a:Int)=some (As f a:Int):=by
 have q:=GY f
 unfold QJ As
 by_cases j:a=0
 ·subst j;rfl
 ·have:=F5 (f:=f) (k:=a-1) (by omega)
  rw[ne (by simp only[wV];omega),Ec (by omega) (by omega),AE,Lf (by omega),AE,AX (by omega),AE,ne j]
def marks(au:List UInt8):List AD:=[⟨Hy,au⟩,⟨IE,[]⟩]
theorem mE(f:List AC)(l:f.length≤4294967296)(h:∀e∈f,CS e.Attrs):Qw f=some f:=by
 unfold Qw
 rw[Vo _ l,AE]
 have:=VC (f:=λ(a:Int × List AC)=>Jc f a.1 a.2) f (λx=>x) (AC.mk 0 0 []) (λk out j q=>by
  show Jc f (k:Int) out=_
  unfold Jc
  rw[wU (by simpa using j),AO j,AE,OO (h _ (BA j)).1,AE,AO (by omega),AE,AX (by omega)]
  rfl) (λout=>by
  show Jc f (f.length:Int) out=_
  unfold Jc
  rw[ne (by simp)])
 rw[this]
 simp
def B3(g:Nat)(L:List AC)(r:Nat):List Un:=List.replicate g (.r false [])++(L.map Un.a++List.replicate r (.r false []))
theorem td au(L:List AC)(B:L.length≤1048576)(h:∀e∈L,e.Attrs.length≤1073741824) :
  iter (λ(a:Int × (List AC))=>KZ au L a.1 a.2) (0,L)=some (L.map (Ce (marks au))):=by
 obtain⟨b,w,A⟩:=EG (f:=λ(a:Int × (List AC))=>KZ au L a.1 a.2) L.length (λk q=>q=((k:Int),(L.take k).map (Ce (marks au))++L.drop k)) (λb=>b=L.map (Ce (marks au))) (s:=(0,L)) (λk q j l=>by
  subst l
  left
  refine⟨_,?_,rfl⟩
  unfold KZ
  dsimp only
  have u:((L.take k).map (Ce (marks au))++L.drop k).length=L.length:=by simp;omega
  have hg:((L.take k).map (Ce (marks au))++L.drop k)[k]! = L[k]!:=by
   rw[wg _ k (by rw[u];exact j),zA (by simp;omega),wg L k j]
   simp
   congr 1
   omega
  have C:=h _ (BA j)
  rw[wU (by simpa using j),AO (by rw[u];exact j),hg,AE,WC _ _ (by rw[wm,xY];omega),AE,AX (by omega),AE,xl]
  congr 3
  rw[zR _ _ (by rw[wq,yM];omega),wq,yM,show k-min k L.length=0 by omega,Gg j,zN,Hq j,yj,wl]
  rfl) (λq l=>by
  subst l
  refine⟨_,?_,rfl⟩
  unfold KZ
  dsimp only
  rw[ne (by simp),yP,zH,wv]) (by simp)
 rw[w,A]
def Vg(u:Un):Prop:=∀t,u≠.r true t
theorem W9:∀(us:List Un) (s:DS),JH s→s.cuts=0→(∀u∈us,Vg u)→Af (BE (us.foldl dU s))=Af (BE s)++us
 | [],s,_,_,_=>by simp
 | .a e::us,s,w,A,l=>by
  have j:JH (dU s (.a e)):=w
  have q:(dU s (.a e)).cuts=0:=A
  rw[xM,W9 us _ j q λv B=>l v (we _ B),(Lz _ j).1,(Lz s w).1,A,q]
  have C:IG (dU s (.a e))=IG s++[.a e]:=by
   show Af s.out++(s.adds++[e]).map Un.a=_
   unfold IG
   rw[yj,wl];rfl
  rw[C]
  simp
 | .r true t::us,s,_,_,l=>absurd rfl (l _ (wZ ..) t)
 | .r false t::us,s,w,A,l=>by
  obtain⟨M,E⟩:=Lz s w
  obtain⟨F,I⟩:=XE t E
  have j:JH (dU s (.r false t)):=I
  have J:Af (BE (dU s (.r false t)))=Af (BE s)++[.r false t]:=by
   show Af (BE ⟨Gx (BE s) t,[],0⟩)=_
   rw[SL,F]
  rw[xM,W9 us _ j rfl λv B=>l v (we _ B),J,wl];rfl
theorem iY{us}(h:∀u∈us,Vg u):Af (BD us)=us:=W9 us D0 (λx j=>by cases j) rfl h
theorem ew{g r}{L}{u}(h:u∈B3 g L r):u=.r false []∨∃e∈L,u=.a e:=by
 unfold B3 at h
 rcases xZ.1 h with h | h
 ·exact .inl (yD h)
 ·rcases xZ.1 h with h | h
  ·obtain⟨e,j,rfl⟩:=yC.1 h
   exact .inr ⟨e,j,rfl⟩
  ·exact .inl (yD h)
theorem fz g L r:∀u∈B3 g L r,Vg u:=by
 intro u j t e
 subst e
 rcases ew j with h | ⟨_,_,h⟩<;>cases h
theorem XL{g r}{L}(h:∀e∈L,Bb e=0∧e.Attrs.length≤1048576):∀u∈B3 g L r,GO u:=by
 intro u j
 rcases ew j with rfl | ⟨e,l,rfl⟩
 ·exact⟨λ_=>Na,λh=>(by cases h),by simp⟩
 ·exact h e l
theorem Ra g(L:List AC) r:(B3 g L r).length=g+(L.length+r):=by simp[B3]
theorem Yu n c t:Ao (List.replicate n (.r c t))=n:=by unfold Ao;rw[yX];rfl
theorem Wk(L:List AC):Ao (L.map Un.a)=0:=by
 induction L with
 | nil=>rfl
 | cons e L j=>unfold Ao at j ⊢;rw[ww,List.countP_cons_of_neg (by simp[Un.isR])];exact j
theorem V8 g L r:Ao (B3 g L r)=g+r:=by
 unfold B3
 rw[GM,GM,Yu,Yu,Wk];omega
theorem dD g(L:List AC) r:BF (B3 g L r)=L.length:=by
 have:=ny (B3 g L r)
 rw[V8,Ra] at this;omega
theorem T8(L:List AC) r:B3 0 L r=L.map Un.a++List.replicate r (.r false []):=rfl
theorem VM g L r:B3 (g+1) L r=.r false []::B3 g L r:=by unfold B3;rw[xG];rfl
def Et(u:Un):Prop:=match u with | .a _=>False | .r c t=>(c=true→t=[])∧HA t []=t
theorem gK:∀(E:List Un),(∀u∈E,Et u)→B4 (List.replicate E.length (.r false [])) E=List.replicate (Bi E) (.r false [])
 | [],_=>by rw[yi,List.replicate_zero,B4];rfl
 | .a e::E,h=>(h _ (wZ ..)).elim
 | .r c t::E,h=>by
  have j:=gK E λu l=>h u (we _ l)
  rw[wm,xG,B4,j,HT]
  cases c with
  | true=>show(if true=true then _ else _)=_;rw[wU rfl];show _=List.replicate (0+_) _;rw[xE]
  | false=>
   show(if false=true then _ else _)=_
   rw[ne (by decide)]
   show _=List.replicate (1+_) _
   rw[zY,xG];rfl
theorem bT L(j:List Un)(q:∀u∈j,Et u):∀(l:List Un),(∀u∈l,Et u)→B4 (B3 l.length L j.length) (l++j)=B3 (Bi l) L (Bi j)
 | [],_=>by
  show B4 (B3 0 L j.length) j=B3 0 L (Bi j)
  rw[T8,bC,gK j q,T8]
 | .a e::E,h=>(h _ (wZ ..)).elim
 | .r c t::E,h=>by
  have w:=bT L j q E λu A=>h u (we _ A)
  rw[wm,VM,ws,B4,w,HT]
  cases c with
  | true=>show(if true=true then _ else _)=_;rw[wU rfl];show _=B3 (0+_) _ _;rw[xE]
  | false=>
   show(if false=true then _ else _)=_
   rw[ne (by decide)]
   show _=B3 (1+_) _ _
   rw[zY,VM];rfl
theorem Sm:∀(E:List Un),(∀u∈E,Et u)→BN E (List.replicate (Bi E) (.r false []))=E
 | [],_=>by
  show BN [] []=[]
  rw[BN]
 | .a e::E,h=>(h _ (wZ ..)).elim
 | .r true t::E,h=>by
  obtain⟨j,_⟩:=h _ (wZ ..)
  obtain rfl:=j rfl
  have l:=Sm E λu q=>h u (we _ q)
  rw[Qs,HT,show(if Eo (.r true [])=true then 1 else 0)=0 from rfl,xE,l]
 | .r false t::E,h=>by
  obtain⟨_,j⟩:=h _ (wZ ..)
  have l:=Sm E λu q=>h u (we _ q)
  rw[HT,show(if Eo (.r false t)=true then 1 else 0)=1 from rfl,zY,xG,Ud,l]
  unfold MR
  rw[ne (by decide),j]
theorem Si L j:∀(l:List Un),(∀u∈l,Et u)→BN (l++j) (B3 (Bi l) L (Bi j))=l++BN j (B3 0 L (Bi j))
 | [],_=>rfl
 | .a e::E,h=>(h _ (wZ ..)).elim
 | .r true t::E,h=>by
  obtain⟨q,_⟩:=h _ (wZ ..)
  obtain rfl:=q rfl
  have w:=Si L j E λu A=>h u (we _ A)
  rw[ws,Qs,HT,show(if Eo (.r true [])=true then 1 else 0)=0 from rfl,xE,w];rfl
 | .r false t::E,h=>by
  obtain⟨_,q⟩:=h _ (wZ ..)
  have w:=Si L j E λu A=>h u (we _ A)
  rw[ws,HT,show(if Eo (.r false t)=true then 1 else 0)=1 from rfl,zY,VM,Ud,w]
  unfold MR
  rw[ne (by decide),q];rfl
theorem Yn(L:List AC):∀(E:List Un) (f:List AC),(∀u∈E,Et u)→E.length=f.length→A0 (BN E (B3 0 L (Bi E))) f=L++A0 E f
 | [],f,_,j=>by
  show A0 (BN [] (L.map Un.a++[])) f=_
  rw[wv,Yv]
  have:=Sq L [] f
  rw[wv] at this
  rw[this]
 | .a e::E,f,h,_=>(h _ (wZ ..)).elim
 | .r true t::E,[],_,j=>by simp at j
 | .r true t::E,x::f,h,j=>by
  have l:=Yn L E f (λu q=>h u (we _ q)) (by simpa using j)
  rw[Qs,HT,show(if Eo (.r true t)=true then 1 else 0)=0 from rfl,xE,A0,l,A0]
 | .r false t::E,f,h,j=>by
  rw[T8,OF _ _ _ (eu t E),Sm _ h,Sq]
theorem Sb:∀(E:List Un) (f g:List AC) (X:List Un),(∀u∈E,Et u)→E.length=f.length→A0 (E++X) (f++g)=A0 E f++A0 X g
 | [],[],g,X,_,_=>by show A0 X g=A0 [] []++A0 X g;rw[A0];rfl
 | [],x::f,_,_,_,j=>by simp at j
 | .a e::E,_,_,_,h,_=>(h _ (wZ ..)).elim
 | .r _ t::E,[],_,_,_,j=>by simp at j
 | .r true t::E,x::f,g,X,h,j=>by
  have l:=Sb E f g X (λu q=>h u (we _ q)) (by simpa using j)
  rw[ws,ws,A0,l,A0]
 | .r false t::E,x::f,g,X,h,j=>by
  have l:=Sb E f g X (λu q=>h u (we _ q)) (by simpa using j)
  rw[ws,ws,A0,l,A0];rfl
theorem ki L(j l:List Un)(f1 q:List AC)(w:∀u∈j,Et u)(A:∀u∈l,Et u)(B:j.length=f1.length)(C:l.length=q.length) :
  A0 (BN (j++l) (B3 (Bi j) L (Bi l))) (f1++q)=A0 j f1++(L++A0 l q):=by
 rw[Si L l j w,Sb j f1 q _ w B,Yn L l q A C]
theorem lO x:HA [x] []=[x]:=by
 unfold HA
 simp[Bf,FF,Ci]
theorem lJ au b x:Et (HB au b x):=by
 unfold HB
 split
 ·exact⟨λh=>(by cases h),by simp[HA,Bf]⟩
 split
 ·exact⟨λ_=>rfl,by simp[HA,Bf]⟩
 ·exact⟨λh=>(by cases h),lO _⟩
def eg(e:AC):Prop:=e.Attrs.length≤1048576
def Sd(x:AH):Prop:=x.Attrs.length≤1048576∧∀e∈x.Elems,eg e
def V1(s:DS):Prop:=(∀x∈s.out,Sd x)∧∀e∈s.adds,eg e
theorem Yf{s}(h:V1 s):∀x∈BE s,Sd x:=by
 intro x j
 unfold BE at j
 rcases xZ.1 j with j | j
 ·split at j
  ·rcases xZ.1 j with j | j
   ·exact h.1 x j
   ·rw[xh] at j;subst j
    exact⟨by simp,h.2⟩
  ·exact h.1 x j
 ·split at j
  ·rw[xh] at j;subst j
   exact⟨by simp,λe l=>by simp at l⟩
  ·simp at j
theorem mv{l:List AH}{t:List AD}(h:∀x∈l,Sd x)(q:t.length≤1048576):∀x∈Gx l t,Sd x:=by
 intro x j
 unfold Gx at j
 split at j
 ·rename_i w
  rcases yq j with j | j
  ·exact h x j
  ·subst j
   have:=h l[l.length-1]! (BA (by omega))
   exact this
 ·rcases xZ.1 j with j | j
  ·exact h x j
  ·rw[xh] at j;subst j
   exact⟨q,λe u=>by simp at u⟩
theorem ia:∀(us:List Un) (s:DS),V1 s→(∀u∈us,GO u)→V1 (us.foldl dU s)
 | [],_,h,_=>h
 | u::us,s,h,q=>by
  rw[xM]
  refine ia us _ ?_ λv w=>q v (we _ w)
  have j:=q u (wZ ..)
  match u,j with
  | .a e,j=>exact⟨h.1,λx l=>by
    rcases xZ.1 l with l | l
    ·exact h.2 x l
    ·rw[xh] at l;subst l;exact j.2⟩
  | .r true t,j=>exact⟨h.1,h.2⟩
  | .r false t,j=>exact⟨mv (Yf h) j.2.2,λe A=>by cases A⟩
theorem T2{us}(h:∀u∈us,GO u)(q:(BD us).length≤1048576)(w:BF us≤1048576):GW (BD us):=by
 have l:=Yf (ia us D0 ⟨λx j=>(by cases j),λx j=>(by cases j)⟩ h)
 refine⟨λx j=>(l x j).1,λx j=>(l x j).2,?_,q⟩
 have:=ei us
 unfold DM at this
 rw[JK,this];exact w
structure DF(us:List Un):Prop where
 ok:El (BD us)
 err:CH (BD us)=0
 old:Av (BD us)=Ao us
 now:A7 (BD us)=Bi us
 len:(BD us).length≤us.length
theorem MV{us:List Un}(h:∀u∈us,DA u)(A:us.length≤4194304):DF us:=by
 have j:=Jl h
 obtain⟨B,C,l,q,w,E⟩:=NB j
 have F:=RX us
 have I:=V3 us
 have a3:Ao us≤us.length:=yp
 exact⟨by rw[JK];exact iX h (by omega) (by omega),by rw[JK];exact ee j (by omega) (by omega),by rw[JK];exact l,by rw[JK];exact q,by rw[JK];exact w⟩
theorem eD(s:DS) n t:(D5 s n t).out.length≤s.out.length+3:=by
 unfold D5
 split
 ·omega
 ·have j:=Wp (BE s) t n
  have l:=SA s
  show(Cu (BE s) t n).length≤_
  omega
theorem tm g(L:List AC) r:(BD (B3 g L r)).length≤8:=by
 have e:Ap (B3 g L r)=D5 ⟨(D5 D0 g []).out,(D5 D0 g []).adds++L,(D5 D0 g []).cuts⟩ r []:=by
  have j:=KX [] (g:Int) [] (by omega)
  rw[zK,xl] at j
  rw[show D5 D0 (g:Int) []=D5 (Ap []) (g:Int) [] from rfl,j,Ls]
  have l:=KX (List.replicate g (.r false [])++L.map Un.a) (r:Int) [] (by omega)
  rw[xl] at l
  rw[l]
  unfold B3
  rw[wl]
 rw[JK]
 have q:=SA (Ap (B3 g L r))
 have w:=eD D0 (g:Int) []
 have u:=eD ⟨(D5 D0 g []).out,(D5 D0 g []).adds++L,(D5 D0 g []).cuts⟩ (r:Int) []
 rw[e] at q
 rw[e]
 have A:D0.out.length=0:=rfl
 dsimp only at u
 omega
theorem aH{n:Nat}(h:n≤1048576):Dm ⟨0,(n:Int),[],[]⟩=0:=by
 unfold Dm
 by_cases j:n=0
 ·subst j;decide
 ·have:=XF (n:=(n:Int)) (t:=[]) (by omega) (by omega) Na
  rw[this]
  split<;>first | exact Na | rfl
theorem jv{A}(h:∀e∈A,Bb e=0):Dm ⟨1,0,[],A⟩=0:=by
 unfold Dm
 by_cases j:A=[]
 ·subst j;decide
 ·rw[gI j h]
  split<;>first | exact Na | rfl
theorem lL(g:Nat){L:List AC}(r:Nat)(q:∀e∈L,Bb e=0∧e.Attrs.length≤1048576)(hg:g+r≤1048576)(E:L.length≤1048576):IU [(AH.mk 0 g [] []),(AH.mk 1 0 [] L),(AH.mk 0 r [] [])]=some (BD (B3 g L r),0):=by
 have w:∀e∈L,CS e.Attrs:=λe l=>F9 (HJ (q e l).1) (by have:=(q e l).2;omega)
 have B:El [(AH.mk 0 g [] []),(AH.mk 1 0 [] L),(AH.mk 0 r [] [])]:=⟨by simp,λs j=>by
  rcases wo.1 j with rfl | j
  ·exact⟨Ff,by simp,λe l=>by simp at l⟩
  rcases wo.1 j with rfl | j
  ·exact⟨Ff,by show L.length≤_;omega,w⟩
  ·rw[xh] at j;subst j
   exact⟨Ff,by simp,λe l=>by simp at l⟩,by simp;omega⟩
 have j:GW [(AH.mk 0 g [] []),(AH.mk 1 0 [] L),(AH.mk 0 r [] [])]:=⟨λs j=>by
  rcases wo.1 j with rfl | j
  ·simp
  rcases wo.1 j with rfl | j
  ·simp
  ·rw[xh] at j;subst j;simp,λs j=>by
  rcases wo.1 j with rfl | j
  ·intro e l;simp at l
  rcases wo.1 j with rfl | j
  ·exact λe l=>(q e l).2
  ·rw[xh] at j;subst j;intro e l;simp at l,by simp;omega,by simp⟩
 have C:=XL (g:=g) (r:=r) q
 have hd:=MV (λu A=>Q8 (C u A)) (by rw[Ra];omega)
 rw[kb _ B j,SM,aH (by omega),ne (by simp),ne (by simp),SM,jv λe l=>(q e l).1,ne (by simp),ne (by simp),SM,aH (by omega),ne (by simp),ne (by simp)]
 have A:([]++BC ⟨0,(g:Int),[],[]⟩++BC ⟨1,0,[],L⟩++BC ⟨0,(r:Int),[],[]⟩)=B3 g L r:=by
  rw[eS,eS,xl,xl]
  show []++List.replicate g (.r false [])++L.map Un.a++_=_
  rw[zK,wl];rfl
 rw[A]
 unfold Jv
 rw[ne (by simpa using hd.err)]
theorem bD{au}(h:I4 au){e:AC}(j:Bb e=0)(l:e.Attrs.length≤1048574):Bb (Ce (marks au) e)=0∧(Ce (marks au) e).Attrs.length≤1048576:=by
 refine⟨(X6 j (by omega) (TZ h).2 (by simp)).1,?_⟩
 have:=SK Ew Wn _ e.Attrs (marks au) [] rfl
 show(Bf Ew e.Attrs (marks au) []).length≤_
 simp only[yi,marks,wm] at this
 unfold marks
 omega
theorem lB(f:List AC){au}(q:I4 au){g}(hg:g≤f.length)(B:f.length≤1048576){L:List AC}(l:∀e∈L,Bb e=0∧e.Attrs.length≤1048574)(w:L.length≤1048576) :
  Pw f (g:Int) L au=some (BD (B3 g (L.map (Ce (marks au))) (f.length-g))):=by
 have u:∀e∈L.map (Ce (marks au)),Bb e=0∧e.Attrs.length≤1048576:=by
  intro e j
  obtain⟨x,A,rfl⟩:=yC.1 j
  exact bD q (l x A).1 (l x A).2
 unfold Pw
 rw[mE L (by omega) λe j=>F9 (HJ (l e j).1) (by have:=(l e j).2;omega),AE,td au L w λe j=>by have:=(l e j).2;omega,AE]
 rw[show((f.length:Int)-(g:Int))=((f.length-g:Nat):Int) by omega,Lc (by omega) (by omega),AE,lL g _ u (by omega) (by simpa using w),BU]
structure JF(E:List Un)(L:List AC)(T:List Un):Prop where
 mem:∀u∈T,u∈E∨∃e∈L,u=.a e
 cr:Ao T=E.length
 len:T.length=E.length+L.length
theorem T5:∀ {E:List Un},(∀u∈E,Et u)→Ao E=E.length
 | [],_=>rfl
 | .a e::E,h=>(h _ (wZ ..)).elim
 | .r c t::E,h=>by
  have j:=T5 (E:=E) λu l=>h u (we _ l)
  unfold Ao at j ⊢
  rw[za (by rfl),j];rfl
theorem aK(L:List AC):∀(E:List Un),(∀u∈E,Et u)→JF E L (BN E (B3 0 L (Bi E)))
 | [],_=>by
  show JF [] L (BN [] (L.map Un.a++[]))
  rw[wv,Yv]
  exact⟨λu j=>by obtain⟨e,l,rfl⟩:=yC.1 j;exact .inr ⟨e,l,rfl⟩,Wk L,by simp⟩
 | .a e::E,h=>(h _ (wZ ..)).elim
 | .r true t::E,h=>by
  obtain⟨w,_⟩:=h _ (wZ ..)
  obtain rfl:=w rfl
  have q:=aK L E λu j=>h u (we _ j)
  rw[Qs,HT,show(if Eo (.r true [])=true then 1 else 0)=0 from rfl,xE]
  refine⟨λu j=>?_,?_,?_⟩
  ·rcases wo.1 j with rfl | j
   ·exact .inl (wZ ..)
   ·rcases q.mem u j with h | h
    ·exact .inl (we _ h)
    ·exact .inr h
  ·have:=q.cr
   unfold Ao at this ⊢
   rw[za (by rfl),this];rfl
  ·rw[wm,q.len,wm];omega
 | .r false t::E,h=>by
  rw[T8,OF _ _ _ (eu t E),Sm _ h]
  refine⟨λu j=>?_,?_,?_⟩
  ·rcases xZ.1 j with j | j
   ·obtain⟨e,l,rfl⟩:=yC.1 j;exact .inr ⟨e,l,rfl⟩
   ·exact .inl j
  ·rw[GM,Wk,T5 h];omega
  ·simp;omega
theorem eU{us}(h:∀u∈us,GO u):DJ us:=by
 intro u j
 have:=h u j
 match u,this with
 | .a e,h=>exact h
 | .r c t,h=>exact h
theorem U7{u}(h:IH u):GO u:=by
 match u,h with
 | .r c t,h=>exact⟨h.1,h.2.1,by have:=h.2.2;omega⟩
theorem Te au g f:∀u∈GH au g f,Et u:=by
 intro u j
 unfold GH at j
 rw[xp] at j
 obtain⟨k,l,rfl⟩:=j
 rw[List.getElem_zipWith]
 exact lJ _ _ _
abbrev Bc(f:List AC)(au:List UInt8)(a m:Nat):List Un:=GH au (DV f a m) f
def Cm(au:List UInt8)(L:List AC):List AC:=L.map (Ce (marks au))
def FN(f:List AC)(au:List UInt8)(a m:Nat)(L:List AC):List Un:=B3 (Bi ((Bc f au a m).take (As f a))) (Cm au L) (Bi ((Bc f au a m).drop (As f a)))
def EP(f:List AC)(au:List UInt8)(a m:Nat)(L:List AC):List Un:=BN (Bc f au a m) (FN f au a m L)
def EO(node:Int)(d:List AH):A3:=A3.mk 2 node (Ae.mk 0 0 [] [] (BI.mk 0 0 [] []) []) [] d (D4.mk [] [] [] [] []) []
structure Bo(f:List AC)(au:List UInt8)(a m:Nat)(L:List AC):Prop where
 au:I4 au
 win:a+m≤(At f).length
 fl:f.length≤262144
 fe:∀e∈f,Bb e=0∧e.Attrs.length≤1048576
 le:∀e∈L,Bb e=0∧e.Attrs.length≤1048574
 ll:L.length≤20000
section
variable{f:List AC}{au:List UInt8}{a m:Nat}{L:List AC}
theorem Bo.el(_:Bo f au a m L):(Bc f au a m).length=f.length:=QQ au (MJ f a m)
theorem Bo.gl(h:Bo f au a m L):As f a≤f.length:=ut f (by have:=h.win;omega)
theorem Bo.t1(h:Bo f au a m L):((Bc f au a m).take (As f a)).length=As f a:=by rw[yM,h.el];have:=h.gl;omega
theorem Bo.t2(h:Bo f au a m L):((Bc f au a m).drop (As f a)).length=f.length-As f a:=by rw[xd,h.el]
theorem Bo.r1(_:Bo f au a m L):∀u∈(Bc f au a m).take (As f a),Et u:=λu j=>Te au _ f u (yc j)
theorem Bo.r2(_:Bo f au a m L):∀u∈(Bc f au a m).drop (As f a),Et u:=λu j=>Te au _ f u (ya j)
theorem Bo.nl(h:Bo f au a m L):∀e∈Cm au L,Bb e=0∧e.Attrs.length≤1048576:=by
 intro e l
 obtain⟨x,j,rfl⟩:=yC.1 l
 exact bD h.au (h.le x j).1 (h.le x j).2
theorem Bo.pair(h:Bo f au a m L):B4 (B3 (As f a) (Cm au L) (f.length-As f a)) (Bc f au a m)=FN f au a m L:=by
 have:=bT (Cm au L) _ h.r2 _ h.r1
 rw[h.t1,h.t2,yV] at this
 exact this
theorem Bo.cut(h:Bo f au a m L):Bi ((Bc f au a m).take (As f a))+Bi ((Bc f au a m).drop (As f a))=Bi (Bc f au a m):=by
 rw[← OW,yV]
theorem Bo.chg(h:Bo f au a m L):EP f au a m L=(Bc f au a m).take (As f a)++BN ((Bc f au a m).drop (As f a)) (B3 0 (Cm au L) (Bi ((Bc f au a m).drop (As f a)))):=by
 have:=Si (Cm au L) ((Bc f au a m).drop (As f a)) _ h.r1
 rw[yV] at this
 exact this
theorem Bo.chgW(h:Bo f au a m L):(∀u∈EP f au a m L,GO u)∧Ao (EP f au a m L)=f.length∧(EP f au a m L).length=f.length+L.length:=by
 have q:=aK (Cm au L) _ h.r2
 have hg:=h.gl
 have w:=h.t1
 have A:=h.t2
 have B:(Cm au L).length=L.length:=by simp[Cm]
 have j:=Vt h.au (DV f a m) f
 rw[h.chg]
 refine⟨λu l=>?_,?_,?_⟩
 ·rcases xZ.1 l with l | l
  ·exact U7 (j u (yc l))
  ·rcases q.mem u l with l | ⟨e,C,rfl⟩
   ·exact U7 (j u (ya l))
   ·exact h.nl e C
 ·rw[GM,q.cr,T5 h.r1,w,A];omega
 ·rw[wi,q.len,w,A,B];omega
theorem Bo.done(h:Bo f au a m L):A0 (EP f au a m L) f=A0 ((Bc f au a m).take (As f a)) (f.take (As f a))++(Cm au L++A0 ((Bc f au a m).drop (As f a)) (f.drop (As f a))):=by
 have hg:=h.gl
 have:=ki (Cm au L) _ _ (f.take (As f a)) (f.drop (As f a)) h.r1 h.r2 (by rw[h.t1,yM];omega) (by rw[h.t2,xd])
 rw[yV,yV] at this
 exact this
structure cU(f:List AC)(U:List Un):Prop where
 df:DF U
 sm:GW (BD U)
 old:Av (BD U)=f.length
 done:A0 (Af (BD U)) f=A0 U f
 ul:((Af (BD U)).length:Int)≤4294967296
theorem Bo.d57(h:Bo f au a m L):cU f (EP f au a m L):=by
 obtain⟨q,A,C⟩:=h.chgW
 have E:=h.fl
 have F:=h.ll
 have l:=MV (λu B=>Q8 (q u B)) (by omega)
 have dl:=l.len
 have I:=RX (EP f au a m L)
 have w:=T2 q (by omega) (by omega)
 have gd:=MY l.err
 have j:Av (BD (EP f au a m L))=f.length:=by rw[l.old,A]
 refine⟨l,w,j,pS q f (by omega),?_⟩
 have:=QE gd.st
 have J:=w.sum
 rw[this,j]
 omega
theorem Bo.steps(h:Bo f au a m L){n:Ae}(Y:n.Flow=f)(s:A9)(A:s.From=(a:Int))(B:s.To=((a+m:Nat):Int)) :
  Qr (HP n au) s L=some ([EO s.Node (BD (EP f au a m L))],A9.mk s.Node ((a:Int)+L.length) ((a:Int)+L.length),0):=by
 subst Y
 have hf:=h.fl
 have hl:=h.ll
 have hv:=GY n.Flow
 have hw:=h.win
 have hg:=h.gl
 have C:∀e∈n.Flow,e.Attrs.length≤1048576:=λe Z=>(h.fe e Z).2
 have q:(Cm au L).length=L.length:=by simp[Cm]
 unfold Qr
 dsimp only
 rw[A,B,rT _ h.win,AE,sx n.Flow h.au h.win (by omega) C,AE,oS n.Flow (by omega) (by omega),AE,lB n.Flow h.au hg (by omega) h.le (by omega),AE]
 have E:=XL (g:=As n.Flow a) (r:=n.Flow.length-As n.Flow a) h.nl
 have lA:=Ra (As n.Flow a) (Cm au L) (n.Flow.length-As n.Flow a)
 have J:=Vt h.au (DV n.Flow a m) n.Flow
 have F:∀u∈Bc n.Flow au a m,GO u:=λu j=>U7 (J u j)
 have lE:=h.el
 have M:∀u∈FN n.Flow au a m L,GO u:=XL h.nl
 have O:=h.cut
 have a0:=V3 (Bc n.Flow au a m)
 have lX:(FN n.Flow au a m L).length=Bi (Bc n.Flow au a m)+L.length:=by
  unfold FN;rw[Ra,q];omega
 have cX:Ao (FN n.Flow au a m L)=Bi (Bc n.Flow au a m):=by
  unfold FN;rw[V8];omega
 have I:=MV (λu j=>Q8 (E u j)) (by omega)
 have l:=MV (λu j=>Q8 (F u j)) (by omega)
 have w:=MV (λu j=>Q8 (M u j)) (by omega)
 have yW:=Vs _ _ (eU E) (eU F)
 have yl:=U9 (B3 (As n.Flow a) (Cm au L) (n.Flow.length-As n.Flow a)) (Bc n.Flow au a m)
 have dY:=MV yW (by omega)
 have a1:=dD (As n.Flow a) (Cm au L) (n.Flow.length-As n.Flow a)
 have a2:BF (FN n.Flow au a m L)=L.length:=by unfold FN;rw[dD,q]
 have a6:=RX (Bc n.Flow au a m)
 have sA:=T2 E (by have:=tm (As n.Flow a) (Cm au L) (n.Flow.length-As n.Flow a);omega) (by omega)
 have T:=T2 F (by have:=l.len;omega) (by omega)
 have sX:=T2 M (by have:=w.len;omega) (by omega)
 have uA:=iY (fz (As n.Flow a) (Cm au L) (n.Flow.length-As n.Flow a))
 have U:Af (BD (Bc n.Flow au a m))=Bc n.Flow au a m:=qZ J
 have uX:Af (BD (FN n.Flow au a m L))=FN n.Flow au a m L:=iY (fz _ _ _)
 have V:Ao (Bc n.Flow au a m)=(Bc n.Flow au a m).length:=T5 (Te au (DV n.Flow a m) n.Flow)
 have X:=I.old
 rw[V8] at X
 have o2:=l.old
 have o3:=l.now
 have o4:=w.old
 have dJ:=h.d57.df
 have nA:List.map (Ce (marks au)) L=Cm au L:=rfl
 have eP:NU (BD (B3 (As n.Flow a) (Cm au L) (n.Flow.length-As n.Flow a))) (BD (Bc n.Flow au a m))=some (BD (FN n.Flow au a m L),BD (CW (B3 (As n.Flow a) (Cm au L) (n.Flow.length-As n.Flow a)) (Bc n.Flow au a m)),0):=by
  rw[sk _ _ I.ok l.ok sA T,ne (by rw[I.err];simp),ne (by rw[l.err];simp),ne (by rw[X,o2];omega)]
  unfold XN
  rw[uA,U,h.pair,ne (by rintro(e | e);exact e w.err;exact e dY.err)]
 have eJ:L5 (BD (Bc n.Flow au a m)) (BD (FN n.Flow au a m L))=some (BD (EP n.Flow au a m L),0):=by
  rw[jy _ _ l.ok w.ok T sX,ne (by rw[l.err];simp),ne (by rw[w.err];simp),ne (by rw[o4,o3,cX];simp)]
  unfold XY
  rw[U,uX]
  rw[show BN (Bc n.Flow au a m) (FN n.Flow au a m L)=EP n.Flow au a m L from rfl,ne (by rw[dJ.err];simp)]
 rw[nA,eP,Kd,ne (by decide),eJ,BU,ne (by decide),Lc (by omega) (by omega),AE]
 rfl
end
def vN(f:List AC)(k:Nat):List Nat:=(List.range k).filter (CO f 0)
theorem OL f k:vN f (k+1)=vN f k++(if CO f 0 k=true then [k] else []):=by
 unfold vN
 rw[List.range_succ,WAA]
 congr 1
 cases h:CO f 0 k<;>simp[h]
theorem XX f i:∀d,∃r,vN f (i+d)=vN f i++r∧∀x∈r,i≤x
 | 0=>⟨[],by simp,by simp⟩
 | d+1=>by
  obtain⟨r,l,q⟩:=XX f i d
  refine⟨r++(if CO f 0 (i+d)=true then [i+d] else []),?_,λx j=>?_⟩
  ·rw[← yf,OL,l,wl]
  ·rcases xZ.1 j with j | j
   ·exact q x j
   ·split at j
    ·rw[xh] at j;omega
    ·simp at j
theorem eN{f:List AC}{i}(u:i<f.length)(q:CO f 0 i=true):(vN f i).length<(At f).length∧(At f)[(vN f i).length]! = i:=by
 obtain⟨r,j,_⟩:=XX f (i+1) (f.length-(i+1))
 rw[show i+1+(f.length-(i+1))=f.length by omega,OL,wU q,wl] at j
 have e:At f=vN f i++([i]++r):=j
 have l:(vN f i).length<(At f).length:=by rw[e];simp
 refine⟨l,?_⟩
 rw[wg (At f) _ l]
 simp only[e]
 rw[zA (by omega)]
 simp
theorem pe{f:List AC}{i}(B:i<f.length)(q:¬ CO f 0 i=true)(j:(vN f i).length<(At f).length):(At f)[(vN f i).length]!≠i:=by
 obtain⟨r,l,u⟩:=XX f (i+1) (f.length-(i+1))
 rw[show i+1+(f.length-(i+1))=f.length by omega,OL,ne q,wv] at l
 have e:At f=vN f i++r:=l
 have w:0<r.length:=by rw[e] at j;simp at j;omega
 have A:(At f)[(vN f i).length]! = r[0]:=by
  rw[wg (At f) _ j]
  simp only[e]
  rw[zA (by omega)]
  simp
 rw[A]
 have:=u r[0] (yZ w)
 omega
theorem Z2(f:List AC) a m{i}(l:i<f.length):(DV f a m)[i]! = decide (∃j,j<m∧(At f)[a+j]! = i):=by
 rw[wg _ i (by rw[MJ];exact l)]
 simp[DV]
theorem pq{f:List AC}{a m i}(C:a+m≤(At f).length)(l:i<f.length)(w:CO f 0 i=true):(DV f a m)[i]! = (((a:Int)≤((vN f i).length:Int))&&(((vN f i).length:Int)<((a+m:Nat):Int))):=by
 obtain⟨A,q⟩:=eN l w
 rw[Z2 f a m l,xf,wV,wY,wV,wV]
 constructor
 ·rintro⟨j,B,u⟩
  have:=jx (f:=f) (j:=a+j) (k:=(vN f i).length) (by omega) A (by rw[u,q])
  omega
 ·rintro⟨B,u⟩
  refine⟨(vN f i).length-a,by omega,?_⟩
  rw[show a+((vN f i).length-a)=(vN f i).length by omega,q]
theorem pF{f:List AC}{a m i}(A:a+m≤(At f).length)(l:i<f.length)(q:¬ CO f 0 i=true):(DV f a m)[i]! = false:=by
 rw[Z2 f a m l]
 refine wX ?_
 rintro⟨j,B,u⟩
 have w:i∈At f:=by rw[← u];exact BA (by omega)
 exact q (zM.1 w).2
def cG:Un→AC→List AC
 | .a e,_=>[e]
 | .r true _,_=>[]
 | .r false t,x=>[Ce t x]
theorem Uq{E:List Un}{f:List AC}(l:∀u∈E,Et u)(w:E.length=f.length){i}(q:i<f.length):A0 (E.take (i+1)) (f.take (i+1))=A0 (E.take i) (f.take i)++cG E[i]! f[i]!:=by
 rw[Hq (show i<E.length by omega),Hq q,Sb _ _ _ _ (λu j=>l u (yc j)) (by simp;omega)]
 congr 1
 have j:=l _ (BA (show i<E.length by omega))
 match E[i]!,j with
 | .r true t,_=>rw[A0,A0];rfl
 | .r false t,_=>rw[A0,A0];rfl
section
variable{f:List AC}{au:List UInt8}{a m:Nat}{L:List AC}
def EV(f:List AC)(au:List UInt8)(a m:Nat)(L:List AC)(i:Nat):List AC:=
 if i≤As f a then A0 ((Bc f au a m).take i) (f.take i)
 else A0 ((Bc f au a m).take (As f a)) (f.take (As f a))++(Cm au L++A0 (((Bc f au a m).drop (As f a)).take (i-As f a)) ((f.drop (As f a)).take (i-As f a)))
def Er(f:List AC)(au:List UInt8)(a m:Nat)(L:List AC)(i:Nat):List AC:=EV f au a m L i++(if i=As f a then Cm au L else [])
theorem Bo.out_succ(h:Bo f au a m L){i}(q:i<f.length):EV f au a m L (i+1)=Er f au a m L i++cG (Bc f au a m)[i]! f[i]!:=by
 have hg:=h.gl
 have j:=Te au (DV f a m) f
 have l:=h.el
 unfold Er EV
 by_cases E:i+1≤As f a
 ·rw[wU E,wU (show i≤As f a by omega),ne (show ¬ i=As f a by omega),wv]
  exact Uq j l q
 ·rw[ne E]
  by_cases w:i=As f a
  ·rw[wU (show i≤As f a by omega),wU w,← w,show i+1-i=0+1 by omega]
   have A:((Bc f au a m).drop i)[0]! = (Bc f au a m)[i]!:=by
    rw[wg _ 0 (by rw[xd];omega),wg _ i (by omega)];simp
   have B:(f.drop i)[0]! = f[i]!:=by
    rw[wg _ 0 (by rw[xd];omega),wg _ i q];simp
   rw[Uq (E:=(Bc f au a m).drop i) (λu C=>j u (ya C)) (by rw[xd,xd,l]) (by rw[xd];omega),A,B]
   simp[A0]
  ·rw[ne (show ¬ i≤As f a by omega),ne w,wv,show i+1-As f a=(i-As f a)+1 by omega]
   have A:((Bc f au a m).drop (As f a))[i-As f a]! = (Bc f au a m)[i]!:=by
    rw[wg _ (i-As f a) (by rw[xd];omega),wg _ i (by omega),WAG]
    congr 1;omega
   have B:(f.drop (As f a))[i-As f a]! = f[i]!:=by
    rw[wg _ (i-As f a) (by rw[xd];omega),wg _ i q,WAG]
    congr 1;omega
   rw[Uq (E:=(Bc f au a m).drop (As f a)) (λu C=>j u (ya C)) (by rw[xd,xd,l]) (by rw[xd];omega),A,B]
   simp
theorem lI f au a m L:EV f au a m L 0=[]:=by
 unfold EV
 rw[wU (yt _)]
 simp[A0]
theorem Bo.out_end(h:Bo f au a m L):Er f au a m L f.length=A0 (EP f au a m L) f:=by
 have hg:=h.gl
 have j:=h.el
 rw[h.done]
 unfold Er EV
 by_cases c:f.length=As f a
 ·rw[wU (by omega),wU c,← c,yu (by omega),yu (wn _),ze (by omega),ze (wn _)]
  simp[A0]
 ·rw[ne (by omega),ne c,wv,yu (l:=(Bc f au a m).drop (As f a)) (by rw[xd];omega),yu (l:=f.drop (As f a)) (by rw[xd];omega)]
theorem Bo.outG_len(h:Bo f au a m L) i(A:i≤f.length):(Er f au a m L i).length≤1048576:=by
 have B:=h.fl
 have C:=h.ll
 have j:=h.el
 have E:(Cm au L).length=L.length:=by simp[Cm]
 have d:=λ(l:List Un) (f:List AC)=>XR l f
 unfold Er EV
 have q:=d ((Bc f au a m).take i) (f.take i)
 have u:=d ((Bc f au a m).take (As f a)) (f.take (As f a))
 have w:=d (((Bc f au a m).drop (As f a)).take (i-As f a)) ((f.drop (As f a)).take (i-As f a))
 simp only[yM,xd] at q u w
 rw[wi]
 have:(if i=As f a then Cm au L else []).length≤L.length:=by split;omega;simp
 split
 ·omega
 ·rw[wi,wi];omega
theorem eI(h:Bo f au a m L)(out:List AC)(u:out.length≤1048576):iter (λ(s:Int × (List AC))=>Id L au s.1 s.2) (0,out)=some (.ext (out++Cm au L)):=by
 have B:=h.ll
 have:=IL (f:=λ(s:Int × (List AC))=>Id L au s.1 s.2) L (λk o=>((k:Int),o)) (λo e=>o++[Ce (marks au) e]) (λo=>(.ext o:Ai Unit (List AC))) (λo k=>o.length≤1048576+k)
  (λb k j C=>by simp;omega) (λo k j u=>by
   dsimp only
   have w:=h.le _ (BA j)
   have q:Hj L[k]!.Attrs [⟨[97,100,100],au⟩,⟨[99,117,116],[]⟩]=some (Fi L[k]!.Attrs (marks au)):=Uv (HJ w.1) (TZ h.au).2 (by omega) (by simp)
   unfold Id
   rw[wU (by simpa using j),AO j,AE,q,AE,Fo (by rw[xY];omega),AE,AX (by omega)]
   rfl) (λo u=>by
   dsimp only
   unfold Id
   rw[ne (by simp)]) out (by omega)
 rw[show((0:Nat):Int)=0 from rfl] at this
 rw[this]
 congr 2
 have key:∀(l o:List AC),l.foldl (λo e=>o++[Ce (marks au) e]) o=o++l.map (Ce (marks au)):=by
  intro l
  induction l with
  | nil=>simp
  | cons x l A=>intro o;rw[xM,A];simp
 rw[key];rfl
theorem iJ{x}(h:Bb x=0):Ce [] x=x:=qR (HJ h)
theorem Bo.round(h:Bo f au a m L){i}(q:i<f.length) :
  JD f (a:Int) ((a+m:Nat):Int) L au (shown f 0 f.length) (As f a:Int) ((vN f i).length:Int) (i:Int) (EV f au a m L i)=some (.inl (((vN f (i+1)).length:Int),((i+1:Nat):Int),EV f au a m L (i+1))):=by
 have hf:=h.fl
 have hl:=h.ll
 have B:=h.fe _ (BA q)
 have hv:=GY f
 have T:=Pj f
 have M:=h.outG_len i (by omega)
 have U:(vN f i).length≤i:=by unfold vN;exact xw (yy _ _) (by simp)
 have E:(EV f au a m L i).length≤1048576:=by unfold Er at M;rw[wi] at M;omega
 unfold JD
 rw[wU (wW (show(i:Int)≤(f.length:Int) by omega))]
 have V:(if decide ((i:Int)=(As f a:Int))=true then Aj (iter (λ(a:Int × (List AC))=>Id L au a.1 a.2) (0,EV f au a m L i)) λ(u3:Unit)=>none else some (EV f au a m L i))=some (Er f au a m L i):=by
  unfold Er
  by_cases c:i=As f a
  ·rw[wU (wW (by omega)),eI h _ E,wU c];rfl
  ·rw[ne (by simp only[wV];omega),ne c,wv]
 rw[V,AE,ne (by simp only[wV];omega),AO q,AE,h.out_succ q]
 have X:(Bc f au a m)[i]! = HB au (DV f a m)[i]! f[i]!:=fu au (MJ f a m) q
 rw[X]
 generalize hX:f[i]! = x at B
 by_cases A:CO f 0 i=true
 ·obtain⟨v1,Y⟩:=eN q A
  have u:(vN f (i+1)).length=(vN f i).length+1:=by rw[OL,wU A];simp
  rw[u,pq h.win q A,wW (show((vN f i).length:Int)<((shown f 0 f.length).length:Int) by omega)]
  rw[show(true==true)=true from rfl,Am,Lf v1,AE,Y,wW rfl,wU (show(true&&true)=true from rfl)]
  by_cases O:(((a:Int)≤((vN f i).length:Int))&&(((vN f i).length:Int)<((a+m:Nat):Int)))=true
  ·rw[O,wU rfl]
   have Z:HB au true x=if au=[]∨C1 x.Attrs Hy=au then .r true [] else .r false [⟨IE,au⟩]:=by unfold HB;rw[ne (by decide)]
   rw[Z]
   by_cases C:au=[]
   ·rw[wU (.inl C),wW C]
    show E1 (E1 (Aj (AB (some default) λF=>if(true||(F=au))=true then _ else _) _) _) _=_
    rw[AE,wU (show(true||((default:List UInt8)=au))=true from rfl),AX (by omega),AE]
    show AB (AK .i64 ((i:Int)+1)) _=_
    rw[AX (by omega),AE]
    show _=some (Sum.inl (_,_,Er f au a m L i++[]))
    rw[wv]
   ·rw[wX C]
    show E1 (E1 (Aj (AB (Ib x.Attrs Hy) λF=>if(false||(F=au))=true then _ else _) _) _) _=_
    rw[YG _ _ (by omega),AE]
    by_cases hg:C1 x.Attrs Hy=au
    ·rw[wU (by simpa using hg),wU (.inr hg),AX (by omega),AE]
     show AB (AK .i64 ((i:Int)+1)) _=_
     rw[AX (by omega),AE]
     show _=some (Sum.inl (_,_,Er f au a m L i++[]))
     rw[wv]
    ·rw[ne (by simpa using hg),ne (by rintro(e | e);exact C e;exact hg e)]
     have I:Hj x.Attrs [⟨[99,117,116],au⟩]=some (Fi x.Attrs [⟨IE,au⟩]):=Uv (HJ B.1) (TZ h.au).1 B.2 (by simp)
     rw[I,AE,Hr,AX (by omega),AE,FM,Fo (by rw[xY];omega),AE,FM,AX (by omega),AE]
     rfl
  ·have J:=yS.2 O
   rw[J,ne (by decide),Hr,AX (by omega),AE,FM,Fo (by rw[xY];omega),AE,FM,AX (by omega),AE]
   show _=some (Sum.inl (_,_,Er f au a m L i++[Ce [] x]))
   rw[iJ B.1]
 ·have u:(vN f (i+1)).length=(vN f i).length:=by rw[OL,ne A,wv]
  rw[u,pF h.win q A]
  have hc:∀w,gd (decide (((vN f i).length:Int)<((shown f 0 f.length).length:Int))==true) (AJ (shown f 0 f.length) ((vN f i).length:Int))=some w→((((vN f i).length:Int)<((shown f 0 f.length).length:Int))&&(w=(i:Int)))=false:=by
   intro w j
   by_cases l:(vN f i).length<(At f).length
   ·rw[wW (show((vN f i).length:Int)<((shown f 0 f.length).length:Int) by omega)] at j ⊢
    rw[show(true==true)=true from rfl,Am,Lf l] at j
    injection j with j
    have:=pe q A l
    rw[xt]
    exact wX (by omega)
   ·rw[wX (by omega)];rfl
  have hd:∃w,gd (decide (((vN f i).length:Int)<((shown f 0 f.length).length:Int))==true) (AJ (shown f 0 f.length) ((vN f i).length:Int))=some w:=by
   by_cases l:(vN f i).length<(At f).length
   ·rw[wW (show((vN f i).length:Int)<((shown f 0 f.length).length:Int) by omega),show(true==true)=true from rfl,Am,Lf l]
    exact⟨_,rfl⟩
   ·rw[wX (by omega)];exact⟨_,rfl⟩
  obtain⟨w,j⟩:=hd
  rw[j,AE,hc w j,ne (by decide),FM,Fo (by rw[xY];omega),AE,FM,AX (by omega),AE]
  show _=some (Sum.inl (_,_,Er f au a m L i++[Ce [] x]))
  rw[iJ B.1]
theorem Bo.last(h:Bo f au a m L) :
  JD f (a:Int) ((a+m:Nat):Int) L au (shown f 0 f.length) (As f a:Int) ((vN f f.length).length:Int) (f.length:Int) (EV f au a m L f.length)=some (.inr (A0 (EP f au a m L) f)):=by
 have l:=h.outG_len f.length (wn _)
 have j:(EV f au a m L f.length).length≤1048576:=by unfold Er at l;rw[wi] at l;omega
 unfold JD
 rw[wU (wW (z7 _))]
 have q:(if decide ((f.length:Int)=(As f a:Int))=true then Aj (iter (λ(a:Int × (List AC))=>Id L au a.1 a.2) (0,EV f au a m L f.length)) λ(u:Unit)=>none else some (EV f au a m L f.length))=some (Er f au a m L f.length):=by
  unfold Er
  by_cases c:f.length=As f a
  ·rw[wU (wW (by omega)),eI h _ j,wU c];rfl
  ·rw[ne (by simp only[wV];omega),ne c,wv]
 rw[q,AE,wU (wW rfl),h.out_end]
 rfl
theorem Bo.replaced(h:Bo f au a m L)(B:HS f 0=some (shown f 0 f.length)):P4 f (a:Int) ((a+m:Nat):Int) L au=some (A0 (EP f au a m L) f):=by
 have J:=GY f
 have M:=h.win
 have O:=h.fl
 unfold P4
 have C:(if decide ((0:Int)<(a:Int))=true then AB (AK .i64 ((a:Int)-1)) λ(q:Int)=>AB (AJ (shown f 0 f.length) q) λ(u:Int)=>AB (AK .i64 (u+1)) λ(l:Int)=>some l else some 0)=some (As f a:Int):=by
  unfold As
  by_cases A:a=0
  ·subst A;rfl
  ·have:=F5 (f:=f) (k:=a-1) (by omega)
   rw[wU (wW (by omega)),Ec (by omega) (by omega),AE,Lf (by omega),AE,AX (by omega),AE,ne A]
 rw[B,AE,C,AE]
 obtain⟨b,E,F⟩:=EG (f:=λ(s:Int × Int × (List AC))=>JD f (a:Int) ((a+m:Nat):Int) L au (shown f 0 f.length) (As f a:Int) s.1 s.2.1 s.2.2) f.length (λk w=>w=(((vN f k).length:Int),(k:Int),EV f au a m L k)) (λb=>b=A0 (EP f au a m L) f) (s:=(0,0,[])) (λk w I j=>by
  subst j
  exact .inl ⟨_,h.round I,rfl⟩) (λw j=>by
  subst j
  exact⟨_,h.last,rfl⟩) (by rw[lI];rfl)
 rw[E,F,AE]
end
theorem qM(node:Int)(D:List AH)(C:1≤node∧node≤1073741824)(q:El D)(u:CH D=0):N0 (EO node D)=some 0:=by
 have w:Mp (Ae.mk 0 0 [] [] (BI.mk 0 0 [] []) []):=by
  constructor<;>simp[CS,GC,Lr]
 have A:Hf (EO node D).New (Ae.mk 0 0 [] [] (BI.mk 0 0 [] []) [])=some true:=by
  show Hf (Ae.mk 0 0 [] [] (BI.mk 0 0 [] []) []) (Ae.mk 0 0 [] [] (BI.mk 0 0 [] []) [])=_
  rw[ig _ _ w];simp
 have j:AK .i64 ((0:Int)+0)=some 0:=Lc (by omega) (by omega)
 have B:iter (λ(a:Int)=>KA (EO node D) true 0 a) 0=some (.nrm ()):=by
  have:=CA (f:=λ(a:Int)=>KA (EO node D) true 0 a) (n:=5) (λ_=>(none:Option Int)) (λk l=>by
   unfold KA
   rw[wU (by simp only[wV];omega),AO (by simpa using l),AE,AX (by omega)]
   have:(([(!true),(decide (0<((EO node D).Attrs.length:Int))),(decide (0<((EO node D).Steps.length:Int))),(decide ((0:Int)<0)),(decide (0<((EO node D).Draw.length:Int)))]:List Bool)[k]!&&(!((k:Int)=(EO node D).Kind)))=false:=by
    match k,l with
    | 0,_=>rfl
    | 1,_=>rfl
    | 2,_=>
     show(_&&(!((2:Int)=2)))=false
     rw[wW rfl,zg,zZ]
    | 3,_=>rfl
    | 4,_=>rfl
   rw[this,ne (by decide),AE];rfl) (by unfold KA;rw[ne (by decide)])
  rw[this,(xo).2 (λ_ _=>rfl)];rfl
 unfold N0
 rw[IX,AE,ne (by show ¬ ((!(((0:Int)≤2)&&((2:Int)≤4)))=true);decide),A,AE]
 show AB (AK .i64 ((0:Int)+0)) _=_
 rw[j,AE]
 show AB (AK .i64 ((0:Int)+0)) _=_
 rw[j,AE]
 show AB (AK .i64 ((0:Int)+0)) _=_
 rw[j,AE]
 show AB (AK .i64 ((0:Int)+0)) _=_
 rw[j,AE,B,Hr]
 show(if decide ((2:Int)=0)=true then _ else AB (CV node 1 1073741824) _)=_
 rw[ne (by decide),IX,AE,ne (by simp;omega)]
 show(if decide ((2:Int)=1)=true then _ else if decide ((2:Int)=2)=true then AB (Mc D) _ else _)=_
 rw[ne (by decide),wU (by decide),ol D q,u];rfl
theorem dB{f}(h:∀e∈f,Bb e=0∧e.Attrs.length≤1048576):KM f:=h
theorem rn{d:Bj}{node:Int}{k:Nat}{f:List AC}{U:List Un}{l:List AC}(B:Hv d node=some (k:Int))(C:k<d.Nodes.length)(E:d.Nodes[k]!.Flow=f)(F:1≤node∧node≤1073741824)
  (h:cU f U) (I:f.length≤1048576) (q:∀e∈f,Bb e=0∧e.Attrs.length≤1048576) (J:A0 U f=l):P1 d [EO node (BD U)] node l=some true:=by
 have j:=MY h.df.err
 have u:=sh j.st h.sm
 have M:=h.ul
 have w:=pQ (Af (BD U)) f (dB q) u
 have O:=XR (Af (BD U)) f
 have T:=h.sm.len
 obtain⟨x,V,A,a3⟩:=sc (BD U) (λs X=>by rcases (j.st s X).kind with h | h | h<;>omega) (by omega) (by omega)
 have Y:x.Cuts.length=f.length:=by
  have:=A.cnt
  rw[a3] at this
  have Z:=TE j.st
  rw[h.old] at Z
  omega
 have hd:=qV f x A Y (dB q) (by rw[a3];exact u) (by rw[a3];omega)
 have hA:Np f (BD U)=some (A0 (Af (BD U)) f):=by
  unfold Np
  rw[V,AE,hd,AE,a3]
 have hi:AJ [EO node (BD U)] 0=some (EO node (BD U)):=rfl
 unfold P1
 rw[show((!(([EO node (BD U)].length:Int)=1))==false)=true from rfl,Am,hi,AE]
 rw[show(((!(([EO node (BD U)].length:Int)=1))||(!((EO node (BD U)).Kind=2)))==false)=true from rfl,Am,AE]
 rw[ne (by show ¬ ((((!((1:Int)=1))||(!((2:Int)=2)))||(!(node=node)))=true);simp),B,AE,AO C,AE,AE,qM node _ F h.df.ok h.df.err,AE,E]
 show AB (gd (decide ((0:Int)=0)==true) (MX (BD U))) _=_
 rw[wW rfl,show(true==true)=true from rfl,Am,mV _ h.df.ok j,AE,h.old,wW rfl,wU (by rfl)]
 show AB (AB (Np f (BD U)) _) _=_
 rw[hA,AE,UX _ _ (by omega) w,AE,AE,h.done,J,wW rfl]
 rfl
theorem oz{n:Ae}(j:E9 n=some 0):1≤n.ID∧n.ID≤1073741824:=by
 unfold E9 at j
 split at j
 ·cases j
 ·rename_i c
  simp only[wh,wV] at c
  omega
def aV(d:Bj):Prop:=∀n∈d.Nodes,n.Flow.length≤262144∧∀e∈n.Flow,e.Attrs.length≤349525
theorem YR{α β:Type}[Inhabited α][Inhabited β](F G:α→β)(l:List α){k}(j:k<l.length) :
  ((l.take k).map F++(l.drop k).map G).length=l.length∧((l.take k).map F++(l.drop k).map G)[k]! = G l[k]!∧((l.take k).map F++(l.drop k).map G).set k (F l[k]!)=(l.take (k+1)).map F++(l.drop (k+1)).map G:=by
 have q:((l.take k).map F++(l.drop k).map G).length=l.length:=by simp;omega
 have u:((l.take k).map F).length=k:=by simp;omega
 refine⟨q,?_,?_⟩
 ·rw[wg _ k (by rw[q];exact j),zA (by omega)]
  simp only[u,zu,zJ,WAG,xv]
  rw[wg l k j]
 ·rw[zR _ _ (by omega),u,zu,Gg j,ww,zN,Hq j,yj,wl]
  rfl
theorem qI{α:Type}[Inhabited α]{l:List α}{k}(j:k<l.length):l.set k l[k]! = l:=by
 rw[wg l k j,List.set_getElem_self]
def eT(t z:List AD)(c:Int):AC:=⟨c,0,if c=10 then z else t⟩
theorem uz{n}{au}{s:A9}{t z}(E:Jy (HP n au) s.To=some z)(l:List Int)(J:l.length≤1048576) :
  iter (λ(a:Int × (List AC))=>LX s (HP n au) (l.map (eC t)) a.1 a.2) (0,l.map (eC t))=some (l.map (eT t z)):=by
 obtain⟨b,F,I⟩:=EG (f:=λ(a:Int × (List AC))=>LX s (HP n au) (l.map (eC t)) a.1 a.2) l.length (λk w=>w=((k:Int),(l.take k).map (eT t z)++(l.drop k).map (eC t))) (λb=>b=l.map (eT t z)) (s:=(0,l.map (eC t))) (λk w q j=>by
  subst j
  left
  refine⟨_,?_,rfl⟩
  obtain⟨A,B,C⟩:=YR (eT t z) (eC t) l q
  unfold LX
  dsimp only
  rw[wU (by rw[wq];simpa using q),AO (by rw[A];exact q),AE,B]
  by_cases u:l[k]! = 10
  ·rw[wU (show decide ((eC t l[k]!).Char=10)=true from wW u),E,AE,AE,AX (by omega),AE,xl,← C]
   unfold eT eC
   rw[wU u]
  ·rw[ne (show ¬ decide ((eC t l[k]!).Char=10)=true from λe=>u (yT e)),AE,AX (by omega),AE,← C]
   have e:eT t z l[k]! = eC t l[k]!:=by unfold eT eC;rw[ne u]
   rw[e,← B,qI (by rw[A];exact q)]) (λw j=>by
  subst j
  refine⟨_,?_,rfl⟩
  unfold LX
  dsimp only
  rw[ne (by rw[wq];simp),yP,zH,yd,wv]) (by simp)
 rw[F,I]
theorem qQ{s:A9}{v}{t z}(C:LW v s.From=some t)(E:J8 v s.To=some z)(l:List Int)(O:l.length≤1048576) :
  iter (λ(a:Int × (List AC))=>KU s (l.map (eC [])) v a.1 a.2) (0,l.map (eC []))=some (l.map (eT t z)):=by
 obtain⟨b,F,I⟩:=EG (f:=λ(a:Int × (List AC))=>KU s (l.map (eC [])) v a.1 a.2) l.length (λk w=>w=((k:Int),(l.take k).map (eT t z)++(l.drop k).map (eC []))) (λb=>b=l.map (eT t z)) (s:=(0,l.map (eC []))) (λk w q j=>by
  subst j
  left
  refine⟨_,?_,rfl⟩
  obtain⟨A,J,B⟩:=YR (eT t z) (eC []) l q
  unfold KU
  dsimp only
  rw[wU (by rw[wq];simpa using q),C,AE,AO (by rw[A];exact q),AE,J,xl]
  have M:AJ (((l.take k).map (eT t z)++(l.drop k).map (eC [])).set k (AC.mk (eC [] l[k]!).Char (eC [] l[k]!).Ref t)) (k:Int)=some (AC.mk (eC [] l[k]!).Char (eC [] l[k]!).Ref t):=by
   rw[AO (by rw[yk,A];exact q),wg _ k (by rw[yk,A];exact q),zm]
  rw[M,AE]
  by_cases u:l[k]! = 10
  ·rw[wU (show decide ((AC.mk (eC [] l[k]!).Char (eC [] l[k]!).Ref t).Char=10)=true from wW u),E,AE,AE,AX (by omega),AE,List.set_set,← B]
   unfold eT eC
   rw[wU u]
  ·rw[ne (show ¬ decide ((AC.mk (eC [] l[k]!).Char (eC [] l[k]!).Ref t).Char=10)=true from λe=>u (yT e)),AE,AX (by omega),AE,← B]
   unfold eT eC
   rw[ne u]) (λw j=>by
  subst j
  refine⟨_,?_,rfl⟩
  unfold KU
  dsimp only
  rw[ne (by rw[wq];simp),yP,zH,yd,wv]) (by simp)
 rw[F,I]
theorem mq{t z:List AD}{c}(hc:ER c=true)(u:Ah t false=0∧t.length≤1048574)(w:Ah z false=0∧z.length≤1048574):Bb (eT t z c)=0∧(eT t z c).Attrs.length≤1048574:=by
 have A:c≠0:=by rintro rfl;exact absurd hc (by decide)
 have q:Ah (eT t z c).Attrs false=0∧(eT t z c).Attrs.length≤1048574:=by
  unfold eT;dsimp only;split;exact w;exact u
 refine⟨?_,q.2⟩
 unfold Bb
 rw[ne (by rintro(⟨j,_⟩ | ⟨_,l⟩);exact A j;exact l rfl),ne (by rintro(⟨_,l⟩ | ⟨j,_⟩);exact absurd (l.symm.trans hc) (by decide);exact j rfl)]
 exact q.1
theorem qo:Hi [] []=some true:=by
 unfold Hi
 rw[ne (by simp),Bq (r:=.nrm ()) (by unfold No;rw[ne (by simp)])];rfl
theorem im{d}{s}{text j}{c}{t:A9}{e}(A:Eu d s text j=some (c,t,e))(hc:Hi c c=some true){α:Type} G(_:α=α) :
  (Aj (
   if(decide (text=[])) then(
    Fc (ND d s j) λ(u:List A3) (l:A9) (q:Int)=>
    AB (gd (((!(q=e))||(!((l.Node=t.Node)&&((l.From=t.From)&&((l.To=t.To)&&true)))))==false) (Hi u c)) λ(w:Bool)=>
    if(((!(q=e))||(!((l.Node=t.Node)&&((l.From=t.From)&&((l.To=t.To)&&true)))))||(!w)) then(
     some (.ext false)
    ) else(
     some (.nrm ())
    )
   ) else(
    some (.nrm ())
   )
  ) G)=G ():=by
 by_cases h:text=[]
 ·subst h
  rw[wU (wW rfl)]
  have B:ND d s j=some (c,t,e):=by unfold ND;rw[A,Kd]
  rw[B,Kd]
  have C:((!(e=e))||(!((t.Node=t.Node)&&((t.From=t.From)&&((t.To=t.To)&&true)))))=false:=by simp
  rw[C,show(false==false)=true from rfl,Am,hc,AE,ne (by decide)]
  rfl
 ·rw[ne (by simpa using h)]
  rfl
theorem ij{d}{s}(h:Ld d):∃r,Qu d s=some r∧JG d s=some r:=by
 unfold Qu
 rcases eZ d s [] h (by simp) with ⟨e,u,j,l⟩ | ⟨k,w,A,CQ,B,-,q,C,E,F,-,l,j⟩
 ·exact⟨e,by rw[j,BU],l⟩
 ·rw[ne (by simp)] at j
  exact⟨0,by rw[j,BU],l⟩
theorem Sg{d}{s}{text j:List UInt8}(h:Ld d){e f1}(q:Eu d s text j=some ([], A9.mk 0 0 0, e))(w:e≠0)(hA:Jg d s j=some f1)
 (A:∀G:Int→List AC→Option Bool, (AB (
 if((f1=0)&&(20000<(text.length:Int))) then(
 some 3
 ) else(
 some f1
 )
 ) λ(u:Int) =>
 Bm (
 if(decide (u=0)) then(
 Bm (Kp text []) λ(l:Int) (B:List AC) =>
 some (l, B)
 ) else(
 some (u, [])
 )
 ) G)=G e []):M3 d s text j=some true := by
  obtain⟨r, C, E⟩ := ij (s := s) h
  unfold M3 P7
  rw[AE, show((!true)==false)=true from rfl, Am, Am, C, AE, E, AE, ne (by simp), q, Kd, im q qo (α := Unit) _ rfl, hA, AE, A, wU (BK w), wW rfl]
  rfl
theorem nb(d:Bj)(s:A9)(text j:List UInt8)(h:Ld d)(hs:aV d)(ht:text.length≤1048576)(ha:j.length≤1073741824):M3 d s text j=some true:=by
 rcases eZ d s j h ha with ⟨e,w,M,h2⟩ | ⟨k,hk,hf,CQ,hn,-,B,f0,f1,f2,ad,h2,M⟩
 ·have J:Eu d s text j=some ([],A9.mk 0 0 0,e):=by unfold Eu;rw[M,BU,wU (BK w)]
  refine Sg h J w (f1:=e) (by unfold Jg;rw[h2,AE,wU (BK w)]) λG=>?_
  rw[wX w,ne (by simp),AE,wX w,ne (by decide),BU]
 by_cases C:j≠[]∧DR j=false
 ·rw[wU C] at M
  have J:Eu d s text j=some ([],A9.mk 0 0 0,23):=by unfold Eu;rw[M,BU,wU (by decide)]
  refine Sg h J (by decide) (f1:=23) ?_ λG=>?_
  ·unfold Jg
   rw[h2,AE,ne (by decide),wX C.1,show((!false)==true)=true from rfl,Am,Rd _ (by omega),C.2,AE,wU (by decide)]
  ·rw[show decide ((23:Int)=0)=false from rfl,ne (by simp),AE,show decide ((23:Int)=0)=false from rfl,ne (by decide),BU]
 rw[ne C] at M
 have a0:I4 j:=⟨by
  by_cases e:j=[]
  ·exact .inl e
  ·right
   by_cases e2:DR j=true
   ·exact e2
   ·exact absurd ⟨e,yS.2 e2⟩ C,ha⟩
 have hA:Jg d s j=some 0:=by
  unfold Jg
  rw[h2,AE,ne (by decide)]
  by_cases e:j=[]
  ·subst e;rfl
  ·have hv:DR j=true:=by rcases a0.v with h | h;exact absurd h e;exact h
   rw[wX e,show((!false)==true)=true from rfl,Am,Rd _ (by omega),hv,AE,ne (by decide)]
 by_cases q:20000<(text.length:Int)
 ·have J:Eu d s text j=some ([],A9.mk 0 0 0,3):=by unfold Eu;rw[M,BU,ne (by decide),wU (wW q)]
  refine Sg h J (by decide) hA λG=>?_
  rw[wW q,wU (by decide),AE,ne (by decide),BU]
 obtain⟨a1,E⟩:=hs _ (BA hk)
 have u:=hn.ok.fl
 have a2:=(ge h ad).2 k hk
 generalize hN:d.Nodes[k]! = n at CQ hn B f2 u M a1 E a2
 have hv:=GY n.Flow
 have ai:=Pj n.Flow
 obtain⟨z,hz,aj,T⟩:=pW B
 obtain⟨a,ea⟩:∃a:Nat,s.From=(a:Int):=⟨s.From.toNat,by omega⟩
 obtain⟨m,em⟩:∃m:Nat,s.To=((a+m:Nat):Int):=⟨(s.To-s.From).toNat,by omega⟩
 have hp:Ep n.Flow=0:=by
  unfold Hg at B
  split at B
  ·rename_i Z;exact absurd B Z
  ·rename_i Z;simpa using Z
 have hE:∀x∈n.Flow,EA x:=λx Z=>⟨by have:=(hn.ok.fa x Z).1;omega,(hn.ok.fa x Z).2⟩
 have a6:HS n.Flow 0=some (shown n.Flow 0 n.Flow.length):=fG _ 0 hE hp u
 have hF:KM n.Flow:=jT hp λe w=>by have:=E e w;omega
 have A:LF n.Flow:=λe w=>⟨HJ (hF e w).1,(hF e w).2⟩
 have O:a<(At n.Flow).length:=by omega
 have V:Ah (FZ n.Flow a) false=0∧(FZ n.Flow a).length≤1048574:=by
  have l1:Ah (Dt n.Flow a).Attrs false=0∧(Dt n.Flow a).Attrs.length≤349525:=by
   unfold Dt
   split
   ·exact⟨by decide,by decide⟩
   ·exact⟨(A _ (BA (F5 (by omega)))).1,E _ (BA (F5 (by omega)))⟩
  have:=lm l1.1 (A _ (BA (F5 O))).1 l1.2 (E _ (BA (F5 O)))
  exact⟨this.1,by have:=this.2;unfold FZ Cn;omega⟩
 have ak:=Tm n (z-(a+m)) (a+m)
 have a7:Ah (Fg (Cn n.Flow (EL n (a+m) (z-(a+m))))) false=0∧(Fg (Cn n.Flow (EL n (a+m) (z-(a+m))))).length≤1048574:=by
  have a8:=F5 (f:=n.Flow) (k:=EL n (a+m) (z-(a+m))) (by omega)
  refine⟨e7 _ (A _ (BA a8)).1,xw (yy _ _) ?_⟩
  have:=E _ (BA a8)
  unfold Cn;omega
 have U:=s9 j O u A
 rcases mn text (FZ n.Flow a) (F9 V.1 (by omega)) V.1 ht with ⟨l,o1,o2,o3,o4⟩ | ⟨e,w,o1,o2⟩
 ·have hL:∀e∈l.map (eT (FZ n.Flow a) (Fg (Cn n.Flow (EL n (a+m) (z-(a+m)))))),Bb e=0∧e.Attrs.length≤1048574:=by
   intro e w
   obtain⟨c,hc,rfl⟩:=yC.1 w
   exact mq (o4 c hc) V a7
  have X:Bo n.Flow j a m (l.map (eT (FZ n.Flow a) (Fg (Cn n.Flow (EL n (a+m) (z-(a+m))))))):=⟨a0,by omega,a1,hF,hL,by rw[wq];omega⟩
  have aa:=X.steps (n:=n) rfl s ea em
  have F:=X.d57
  have ab:=X.replaced a6
  rw[wq] at aa
  have ae:Jy (HP n j) s.To=some (Fg (Cn n.Flow (EL n (a+m) (z-(a+m))))):=by
   rw[em];exact sv j u A hz T (by omega)
  have J:Eu d s text j=some ([EO s.Node (BD (EP n.Flow j a m (l.map (eT (FZ n.Flow a) (Fg (Cn n.Flow (EL n (a+m) (z-(a+m)))))))))],A9.mk s.Node ((a:Int)+l.length) ((a:Int)+l.length),0):=by
   unfold Eu
   rw[M,BU,ne (by decide),ne (by simpa using q),ea,U,AE,o1,BU,ne (by decide),uz ae l (by omega),AE,aa,Kd]
  have Y:Hi [EO s.Node (BD (EP n.Flow j a m (l.map (eT (FZ n.Flow a) (Fg (Cn n.Flow (EL n (a+m) (z-(a+m)))))))))] [EO s.Node (BD (EP n.Flow j a m (l.map (eT (FZ n.Flow a) (Fg (Cn n.Flow (EL n (a+m) (z-(a+m)))))))))]=some true:=
   qj s.Node _ (by have:=F.sm.len;omega) F.df.ok.st
  have ac:Hv d s.Node=some (k:Int):=by rw[VJ d s.Node h.1,hf]
  have af:LW (Fs n.Flow) s.From=some (FZ n.Flow a):=by rw[ea];exact lS O u A
  have ag:J8 (Fs n.Flow) s.To=some (Fg (Cn n.Flow (EL n (a+m) (z-(a+m))))):=by rw[em];exact rO u A hz T (by omega)
  have I:=oz a2
  rw[CQ] at I
  have ah:=rn ac hk (by rw[hN]) I F u hF rfl
  obtain⟨r,c1,c2⟩:=ij (s:=s) h
  unfold M3 P7
  rw[AE,show((!true)==false)=true from rfl,Am,Am,c1,AE,c2,AE,ne (by simp),J,Kd,im J Y (α:=Unit) _ rfl,hA,AE]
  rw[wX q,ne (by decide),AE,wU (by decide),o2,BU,BU,ne (by decide),ac,AE,AO hk,hN,AE,vD _ a6 u,AE,qQ af ag l (by omega),AE,wq,ea,Lc (by omega) (by omega),AE]
  have e1:(((0:Int)=0)&&(((A9.mk s.Node ((a:Int)+l.length) ((a:Int)+l.length)).Node=s.Node)&&(((A9.mk s.Node ((a:Int)+l.length) ((a:Int)+l.length)).From=(a:Int)+l.length)&&(((A9.mk s.Node ((a:Int)+l.length) ((a:Int)+l.length)).To=(a:Int)+l.length)&&true))))=true:=by simp
  rw[e1,show(true==true)=true from rfl,Am,em,ab,AE,Am,ah,AE]
  rfl
 ·have J:Eu d s text j=some ([],A9.mk 0 0 0,e):=by
   unfold Eu
   rw[M,BU,ne (by decide),ne (by simpa using q),ea,U,AE,o1,BU,wU (BK w)]
  refine Sg h J w hA λG=>?_
  rw[wX q,ne (by decide),AE,wU (by decide),o2,BU,BU]
theorem Xx{α:Type}{μ}{c}(h:∀x,c≤μ x):∀l:List α,c * l.length≤(l.map μ).sum
 | []=>by simp
 | x::l=>by
  have j:=h x
  have q:=Xx h l
  simp only[ww,xu,wm,Nat.mul_succ]
  omega
theorem tn{μ}{ν}{κ}(q:∀n,(n.Flow.map ν).sum≤μ n)(l:∀e,(e.Attrs.map κ).sum+4≤ν e)(u:∀a,3≤κ a){d:Bj}(A:(d.Nodes.map μ).sum≤1048576):aV d:=by
 intro n w
 have B:=G9 (μ:=μ) w
 have C:=q n
 have E:=Xx (μ:=ν) (c:=4) (λe=>by have:=l e;omega) n.Flow
 refine⟨by omega,λe j=>?_⟩
 have F:=G9 (μ:=ν) j
 have I:=l e
 have J:=Xx (μ:=κ) (c:=3) u e.Attrs
 omega
end Go.Proofs.YtdafahjmopdleaaGreatDoor.Al
