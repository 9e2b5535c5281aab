/- Plain laws over the models, a part of them. -/
import Derived.Test.YtmeadkhpiobenaaGreatDoorMod1
import Derived.Lib.AtoiAllCases
import Derived.Lib.DecodeNEq
import Derived.Lib.ItoaMem
import Derived.Lib.TrimUEq
import Derived.Lib.ValidLaws
set_option linter.all false
namespace Go.Proofs.YtmeadkhpiobenaaGreatDoor.Al
@[simp] theorem AD{a α:Type}(x:a)(f:a→Option α):AC (some x) f=f x:=rfl
@[simp] theorem Bo{a b α:Type}(x:a)(y:b)(f:a→b→Option α):CO (some (x,y)) f=f x y:=rfl
@[simp] theorem GJ{a b c α:Type}(x:a)(y:b)(z:c)(f:a→b→c→Option α):Dv (some (x,y,z)) f=f x y z:=rfl
@[simp] theorem q9{a b c d α:Type}(x:a)(y:b)(z:c)(u:d)(f:a→b→c→d→Option α):dt (some (x,y,z,u)) f=f x y z u:=rfl
@[simp] theorem T9{a α:Type}(x:a)(f:a→Option α):BA (some (.nrm x)) f=f x:=rfl
@[simp] theorem Hy{a α:Type}(t:α)(f:a→Option α):BA (some (.ext t)) f=some t:=rfl
@[simp] theorem q7{a b α:Type}(x:a)(y:b)(f:a→b→Option α):FR (some (.nrm (x,y))) f=f x y:=rfl
@[simp] theorem q8{a b α:Type}(t:α)(f:a→b→Option α):FR (some (.ext t)) f=some t:=rfl
@[simp] theorem qy{a b c α:Type}(x:a)(y:b)(z:c)(f:a→b→c→Option α):Vt (some (.nrm (x,y,z))) f=f x y z:=rfl
@[simp] theorem qz{a b c α:Type}(t:α)(f:a→b→c→Option α):Vt (some (.ext t)) f=some t:=rfl
@[simp] theorem Aj{α:Type}[Inhabited α](m:Option α):gd true m=m:=rfl
@[simp] theorem CL{α:Type}[Inhabited α](m:Option α):gd false m=some default:=rfl
theorem Af{α:Type}[Inhabited α]{l:List α}{k}(h:k<l.length):AN l (k:Int)=some l[k]!:=by
 unfold AN
 rw[rF (tp k),so,rK h,re l k h]
theorem D9{α:Type}{l:List α}{k}(h:k<l.length):AN l (k:Int)=some l[k]:=by
 unfold AN
 rw[rF (tp k),so,rK h]
theorem Ar{k:Nat}(h:k<9223372036854775807):AY .i64 ((k:Int)+1)=some (((k+1:Nat)):Int):=by
 rw[CP (by omega) (by omega)];rfl
theorem Ey{k:Nat}(h:0<k)(j:k≤9223372036854775807):AY .i64 ((k:Int)-1)=some ((k-1:Nat):Int):=by
 rw[CP (by omega) (by omega)];congr 1;omega
def C3{ρ:Type}(k:Nat):Option ρ→Option (Int ⊕ Ax Unit ρ)
 | none=>some (.inl ((k+1:Nat):Int))
 | some r=>some (.inr (.ext r))
def DE{ρ:Type} : Option ρ→Ax Unit ρ
 | none=>.nrm ()
 | some r=>.ext r
theorem Bx{ρ:Type}{f}{n}(g:Nat→Option ρ)(j:∀k:Nat, k<n→f k=C3 k (g k))
 (l:f n=some (.inr (.nrm ()))):iter f 0=some (DE ((List.range n).findSome? g)) := by
  have key:∀m k:Nat, k+m=n→iter f (k:Int)=some (DE ((List.range' k m).findSome? g)) := by
    intro m
    induction m with
    | zero =>
      intro k q
      obtain rfl:k=n := by omega
      rw[Ba l];rfl
    | succ m w =>
      intro k q
      rw[List.range'_succ, sm]
      have := j k (by omega)
      cases hg:g k with
      | none => rw[hg] at this;rw[B7 this, w (k+1) (by omega)]
      | some r => rw[hg] at this;rw[Ba this];rfl
  rw[ud]
  exact key n 0 (by omega)
theorem VR{α ρ:Type}{l:List α}{g h:α→Option ρ}(e:∀x∈l,g x=h x):l.findSome? g=l.findSome? h:=by
 induction l with
 | nil=>rfl
 | cons a l j=>rw[sm,sm,e a (rg ..),j λx m=>e x (rY _ m)]
theorem QE{α ρ:Type}[Inhabited α](l:List α)(p:α→Bool)(r:ρ):(List.range l.length).findSome? (λk=>if p l[k]! then none else some r)=if l.all p then none else some r:=by
 induction l with
 | nil=>rfl
 | cons a l j=>
  rw[sH,List.range_succ_eq_map,sm,List.findSome?_map]
  have m:(List.range l.length).findSome? ((λk=>if p (a::l)[k]! = true then none else some r) ∘ Nat.succ)=if l.all p=true then none else some r:=by
   rw[← j];exact VR λk _=>by simp
  rw[m]
  by_cases hp:p a=true
  ·simp[hp]
  ·simp[hp]
theorem Fk{ρ:Type}(o:Option ρ)(f:Unit→Option ρ):BA (some (DE o)) f=match o with | none=>f () | some r=>some r:=by cases o<;>rfl
def F2(c:UInt8):Bool:=((97≤c.toNat)&&(c.toNat≤122))||((48≤c.toNat)&&(c.toNat≤57))||(c.toNat=46)||(c.toNat=45)
def EE(s:List UInt8):Bool:=(1≤s.length)&&(s.length≤24)&&((97≤s[0]!.toNat)&&(s[0]!.toNat≤122))&&s.all F2
def F8(c:UInt8):Bool:=(32≤c.toNat)&&(c.toNat≤126)
def Dc(s:List UInt8):Bool:=(1≤s.length)&&(s.length≤200)&&s.all F8
theorem gm(s:List UInt8) k(j:k<s.length)(l:s.length≤9223372036854775807):ML s k=C3 k (if F2 s[k]! then none else some false):=by
 unfold ML
 rw[rF (by simpa using j),Af j,AD,Ar (by omega)]
 generalize s[k]! = c
 have e:((((((c.toNat:Int)<97)||(122<(c.toNat:Int)))&&(((c.toNat:Int)<48)||(57<(c.toNat:Int))))&&(!((c.toNat:Int)=46)))&&(!((c.toNat:Int)=45)))=!F2 c:=by
  unfold F2
  rw[sE]
  simp only[rV,rO,rJ,sB,sW,s6,tJ]
  omega
 rw[e]
 cases F2 c<;>rfl
theorem R6(s:List UInt8)(B:s.length≤9223372036854775807):MU s=some (EE s):=by
 unfold MU
 rw[Bx (n:=s.length) (λk=>if F2 s[k]! then none else some false) (λk C=>gm s k C B) (by unfold ML;rw[rE (by simp)]),QE]
 unfold EE
 cases s with
 | nil=>simp
 | cons c t=>
  have E:AN (c::t) 0=some c:=rfl
  rw[E]
  simp only[List.getElem!_cons_zero,rG (uB c t),sO]
  generalize (c::t).all F2=F
  generalize I:(c::t).length=L
  have M:1≤L:=by rw[← I];simp
  by_cases q:24<(L:Int)
  ·have j:decide (L≤24)=false:=by simp;omega
   simp[q,j]
  ·rw[rG q]
   simp only[sO,sV,Aj,AD]
   have j:decide (L≤24)=true:=by simp;omega
   have J:decide (1≤L)=true:=by simp;omega
   rw[j,J]
   by_cases w:(c.toNat:Int)<97
   ·have l:decide (97≤c.toNat)=false:=by simp;omega
    simp[w,l]
   ·rw[rG w]
    have l:decide (97≤c.toNat)=true:=by simp;omega
    simp only[sV,Aj,AD,sO]
    by_cases A:122<(c.toNat:Int)
    ·have m:decide (c.toNat≤122)=false:=by simp;omega
     simp[A,m]
    ·have m:decide (c.toNat≤122)=true:=by simp;omega
     rw[rE (by simpa using A),Fk,l,m]
     cases F<;>rfl
def HJ(k:Nat)(c:UInt8):Bool:=((97≤c.toNat)&&(c.toNat≤122))||((k≠0)&&F2 c)
theorem gU(s:List UInt8) k(j:k<s.length)(l:s.length≤9223372036854775807) :
  Lw s k=C3 k (if HJ k s[k]! then none else some false):=by
 unfold Lw
 rw[rF (by simpa using j),Af j,AD,Ar (by omega)]
 generalize s[k]! = c
 have e:((!((97≤(c.toNat:Int))&&((c.toNat:Int)≤122)))&&(((k:Int)=0)||(((!((c.toNat:Int)=46))&&(!((c.toNat:Int)=45)))&&(((c.toNat:Int)<48)||(57<(c.toNat:Int))))))=!HJ k c:=by
  unfold HJ F2
  rw[sE]
  simp only[rV,rO,rJ,sB,sW,s6,tJ]
  omega
 rw[e]
 cases HJ k c<;>rfl
theorem XJ{ρ:Type}(n:Nat)(g:Nat→Option ρ):(List.range n).findSome? g=none↔∀k,k<n→g k=none:=by
 rw[se];simp
theorem nM{α:Type}[Inhabited α](l:List α)(p:α→Bool):l.all p=true↔∀k,k<l.length→p l[k]! = true:=by
 rw[ri]
 constructor
 ·intro h k j;rw[re l k j];exact h _ (ry j)
 ·intro h x m
  obtain⟨k,j,rfl⟩:=sJ.1 m
  rw[← re l k j];exact h k j
theorem Po{ρ:Type} n p(r:ρ):(List.range n).findSome? (λk=>if p k then none else some r)=if(List.range n).all p then none else some r:=by
 generalize List.range n=l
 induction l with
 | nil=>rfl
 | cons a l j=>rw[sm,uR,];by_cases h:p a=true<;>simp[h,j]
theorem Yk(s:List UInt8)(q:s.length≤9223372036854775807):Ll s=some (EE s):=by
 unfold Ll
 rw[Bx (n:=s.length) (λk=>if HJ k s[k]! then none else some false) (λk j=>gU s k j q) (by unfold Lw;rw[rE (by simp)]),Po,Fk]
 have key:((List.range s.length).all λk=>HJ k s[k]!)=((s=[])||(((97≤s[0]!.toNat)&&(s[0]!.toNat≤122))&&s.all F2)):=by
  rw[sE,ri]
  simp only[rp,rV,rJ,rO,nM]
  constructor
  ·intro h
   cases m:s with
   | nil=>exact .inl rfl
   | cons c t=>
    rw[← m]
    have w:0<s.length:=by rw[m];simp
    have A:=h 0 w
    simp only[HJ,rV,rO,rJ] at A
    refine .inr ⟨by omega,λk j=>?_⟩
    have:=h k j
    simp only[HJ,F2,rV,rO,rJ] at this ⊢
    omega
  ·rintro(rfl | ⟨J,B⟩) k j
   ·cases j
   ·have:=B k j
    by_cases l:k=0
    ·subst l;simp only[HJ,rV,rO,rJ];omega
    ·simp only[HJ,rV,rO,rJ];exact .inr ⟨l,this⟩
 rw[key]
 unfold EE
 cases s with
 | nil=>rfl
 | cons c t=>
  rw[rG (uB c t),sO]
  generalize (c::t).all F2=C
  generalize ((97≤(c::t)[0]!.toNat)&&((c::t)[0]!.toNat≤122))=E
  have F:decide (1≤((c::t).length:Int))=decide (1≤(c::t).length):=by simp;omega
  have I:decide (((c::t).length:Int)≤24)=decide ((c::t).length≤24):=by simp;omega
  rw[F,I]
  cases E<;>cases C<;>simp
theorem Sd(s:List UInt8)(B:s.length≤9223372036854775807):Ld s=some (Dc s):=by
 unfold Ld Dc
 rw[Bx (n:=s.length) (λk=>if F8 s[k]! then none else some false) (λk l=>by
  unfold Ni
  rw[rF (by simpa using l),Af l,AD,Ar (by omega)]
  generalize s[k]! = c
  have e:(((c.toNat:Int)<32)||(126<(c.toNat:Int)))=!F8 c:=by
   unfold F8
   rw[sE]
   simp only[rV,rO,rJ,sB,sW,tJ]
   omega
  rw[e]
  cases F8 c<;>rfl) (by unfold Ni;rw[rE (by simp)]),QE,Fk]
 generalize s.all F8=q
 cases s with
 | nil=>simp
 | cons c t=>
  rw[rG (uB c t),sO]
  generalize w:(c::t).length=L
  have C:1≤L:=by rw[← w];simp
  by_cases m:200<(L:Int)
  ·have j:decide (L≤200)=false:=by simp;omega
   simp[m,j]
  ·have j:decide (L≤200)=true:=by simp;omega
   have A:decide (1≤L)=true:=by simp;omega
   rw[rE (by simpa using m),j,A]
   cases q<;>rfl
theorem WA(s:List UInt8)(w:s.length≤9223372036854775807):LO s=some (Dc s):=by
 unfold LO Dc
 rw[Bx (n:=s.length) (λk=>if F8 s[k]! then none else some false) (λk j=>by
  unfold OF
  rw[rF (by simpa using j),Af j,AD,Ar (by omega)]
  generalize s[k]! = c
  have e:(((c.toNat:Int)<32)||(126<(c.toNat:Int)))=!F8 c:=by
   unfold F8
   rw[sE]
   simp only[rV,rO,rJ,sB,sW,tJ]
   omega
  rw[e]
  cases F8 c<;>rfl) (by unfold OF;rw[rE (by simp)]),QE,Fk]
 generalize s.all F8=l
 have m:decide (1≤(s.length:Int))=decide (1≤s.length):=by simp;omega
 have q:decide ((s.length:Int)≤200)=decide (s.length≤200):=by simp;omega
 rw[m,q]
 cases l<;>simp
theorem TX a b x y:Ap (a::x) (b::y)=((a<b)||(a==b&&Ap x y)):=rfl
theorem Jr:∀(a b:List UInt8),(Ap a b||(a=b))=!Ap b a
 | [],[]=>rfl
 | [],_::_=>rfl
 | _::_,[]=>rfl
 | a::x,b::y=>by
  rw[TX,TX]
  have l:=Jr x y
  by_cases h:a=b
  ·subst h
   have m:¬ a<a:=λh=>by simp[tz] at h
   simp only[rG m,sV,rz,sO,uI,uk]
   exact l
  ·have q:(a==b)=false:=by simpa using h
   have w:(b==a)=false:=by simpa using λe:b=a=>h e.symm
   have A:¬ (a::x=b::y):=λe=>h (List.cons.inj e).1
   rw[q,w,rG A]
   simp only[tK,uu]
   have B:a.toNat≠b.toNat:=λe=>h (UInt8.toNat_inj.1 e)
   by_cases j:a<b
   ·have:¬ b<a:=by rw[tz] at j ⊢;omega
    simp[j,this]
   ·have:b<a:=by rw[tz] at j ⊢;omega
    simp[j,this]
theorem Iq a:Ap a a=false:=by
 have:=Jr a a
 cases h:Ap a a
 ·rfl
 ·rw[h] at this;simp at this
theorem Wt{a b}(h:Ap a b=true):Ap b a=false:=by
 have:=Jr a b
 rw[h] at this;simpa using this.symm
def IF(l:List AE):Prop:=∀a∈l,a.Name.length≤9223372036854775807∧a.Value.length≤9223372036854775807
def EY(l:List AE)(j:Bool)(k:Nat):Option Int:=
 if EE l[k]!.Name=false then some 9 else if Dc l[k]!.Value=false∧¬ (j=true∧l[k]!.Value=[]) then some 23 else if 0<k∧Ap l[k-1]!.Name l[k]!.Name=false then some 5 else none
def Bw(l:List AE)(j:Bool):Int:=((List.range l.length).findSome? (EY l j)).getD 0
theorem IF.at{l:List AE}(h:IF l){k}(j:k<l.length):l[k]!.Name.length≤9223372036854775807∧l[k]!.Value.length≤9223372036854775807:=by
 rw[re l k j];exact h _ (ry j)
theorem iA(l:List AE) q(h:IF l)(E:l.length≤9223372036854775807) k(A:k<l.length):MK l q k=C3 k (EY l q k):=by
 unfold MK EY
 obtain⟨j,m⟩:=h.at A
 rw[rF (by simpa using A),Af A,AD]
 generalize l[k]! = x at j m ⊢
 rw[R6 _ j,AD]
 cases EE x.Name
 ·rfl
 rw[rE (by decide),rE (by decide),Sd _ m,AD,Ar (by omega)]
 by_cases w:Dc x.Value=false∧¬ (q=true∧x.Value=[])
 ·rw[rF w,rF (by simp[w.1];cases q<;>simp_all)];rfl
 rw[rE w,rE (by intro e;simp at e;exact w ⟨e.1,by rintro⟨a,b⟩;simp[a,b] at e⟩)]
 by_cases B:k=0
 ·subst B;rfl
 ·have C:decide ((0:Int)<(k:Int))=true:=by simp;omega
  rw[C,Ey (by omega) (by omega)]
  simp only[sV,Aj,AD,rz]
  rw[Af (by omega),AD,Jr]
  have:(0<k∧Ap l[k-1]!.Name x.Name=false)↔Ap l[k-1]!.Name x.Name=false:=by constructor;exact λh=>h.2;exact λh=>⟨by omega,h⟩
  simp only[this]
  cases Ap l[k-1]!.Name x.Name<;>rfl
theorem dU(l:List AE) q(h:IF l)(E:l.length≤9223372036854775807) k(A:k<l.length):La l q k=C3 k (EY l q k):=by
 unfold La EY
 obtain⟨j,m⟩:=h.at A
 rw[rF (by simpa using A),Af A,AD]
 generalize l[k]! = x at j m ⊢
 rw[Yk _ j,AD]
 cases EE x.Name
 ·rfl
 rw[rE (by decide),rE (by decide),WA _ m,AD,Ar (by omega)]
 by_cases w:Dc x.Value=false∧¬ (q=true∧x.Value=[])
 ·rw[rF w,rF (by simp[w.1];cases q<;>simp_all)];rfl
 rw[rE w,rE (by intro e;simp at e;exact w ⟨e.1,by rintro⟨a,b⟩;simp[a,b] at e⟩)]
 by_cases B:k=0
 ·subst B;rfl
 ·have C:decide ((0:Int)<(k:Int))=true:=by simp;omega
  rw[C,Ey (by omega) (by omega)]
  simp only[sV,Aj,AD,rz]
  rw[Af (by omega),AD]
  have:(0<k∧Ap l[k-1]!.Name x.Name=false)↔Ap l[k-1]!.Name x.Name=false:=by constructor;exact λh=>h.2;exact λh=>⟨by omega,h⟩
  simp only[this]
  cases Ap l[k-1]!.Name x.Name<;>rfl
theorem Eu{o:Option Int} : (BA (some (DE o)) λ_:Unit=>some 0)=some (o.getD 0):=by cases o<;>rfl
theorem dB(l:List AE) j(h:IF l)(m:l.length≤9223372036854775807):Mm l j=some (Bw l j):=by
 unfold Mm
 rw[Bx (n:=l.length) (EY l j) (λk q=>iA l j h m k q) (by unfold MK;rw[rE (by simp)]),Eu];rfl
theorem TT(l:List AE) j(h:IF l)(m:l.length≤9223372036854775807):Jl l j=some (Bw l j):=by
 unfold Jl
 rw[Bx (n:=l.length) (EY l j) (λk q=>dU l j h m k q) (by unfold La;rw[rE (by simp)]),Eu];rfl
theorem R7(l:List AE)(h:IF l)(j:l.length≤9223372036854775807):Kc l=some (Bw l false):=by unfold Kc;rw[dB l _ h j];rfl
def CQ(l:List AE)(name:List UInt8):List UInt8:=((List.range l.length).findSome? λk=>if l[k]!.Name=name then some l[k]!.Value else none).getD []
theorem Z3{o:Option (List UInt8)} : (BA (some (DE o)) λ_:Unit=>some [])=some (o.getD []):=by cases o<;>rfl
theorem PU(l:List AE) name(m:l.length≤9223372036854775807):Jz l name=some (CQ l name):=by
 unfold Jz
 rw[Bx (n:=l.length) (λk=>if l[k]!.Name=name then some l[k]!.Value else none) (λk j=>by
  unfold Oj
  rw[rF (by simpa using j),Af j,AD,Ar (by omega)]
  generalize l[k]! = x
  by_cases h:x.Name=name<;>simp[h,C3]) (by unfold Oj;rw[rE (by simp)]),Z3];rfl
theorem U1(l:List AE) name(m:l.length≤9223372036854775807):Jo l name=some (CQ l name):=by
 unfold Jo
 rw[Bx (n:=l.length) (λk=>if l[k]!.Name=name then some l[k]!.Value else none) (λk j=>by
  unfold NI
  rw[rF (by simpa using j),Af j,AD,Ar (by omega)]
  generalize l[k]! = x
  by_cases h:x.Name=name<;>simp[h,C3]) (by unfold NI;rw[rE (by simp)]),Z3];rfl
def Ct:AE:=⟨[],[]⟩
def CH(j:AE→AE→List AE→List AE):List AE→List AE→List AE→List AE
 | [],[],c=>c
 | x::a,[],c=>CH j a [] (j x Ct c)
 | [],y::b,c=>CH j [] b (j Ct y c)
 | x::a,y::b,c=>if Ap x.Name y.Name then CH j a (y::b) (j x Ct c) else if Ap y.Name x.Name then CH j (x::a) b (j Ct y c) else CH j a b (j x y c)
  termination_by a b=>a.length+b.length
def Q7(l:AE→AE→List AE→List AE)(a b:List AE)(i j:Nat)(o:List AE):Option ((Int × Int × List AE) ⊕ Ax Unit (List AE)):=
 if i<a.length∨j<b.length then
  if j=b.length∨(i<a.length∧Ap a[i]!.Name b[j]!.Name=true) then some (.inl (((i+1:Nat):Int),(j:Int),l a[i]! Ct o))
  else if i=a.length∨Ap b[j]!.Name a[i]!.Name=true then some (.inl ((i:Int),((j+1:Nat):Int),l Ct b[j]! o))
  else some (.inl (((i+1:Nat):Int),((j+1:Nat):Int),l a[i]! b[j]! o))
 else some (.inr (.ext o))
theorem Na{l:List AE}{i}(h:i<l.length):l.drop i=l[i]!::l.drop (i+1):=by
 rw[sA h,re l i h]
theorem jr{f} C(a b c:List AE) B(l:∀x y o, (C x y o).length≤o.length+1)
 (V:∀(i j:Nat) (o:List AE), i≤a.length→j≤b.length→o.length+(a.length - i)+(b.length - j)≤B→f (i, j, o)=Q7 C a b i j o) (hB:c.length+a.length+b.length≤B):iter f (0, 0, c)=some (.ext (CH C a b c)) := by
  have key:∀(m i j:Nat) (o:List AE), i≤a.length→j≤b.length→(a.length - i)+(b.length - j)=m→o.length+m≤B→iter f ((i:Int), (j:Int), o)=some (.ext (CH C (a.drop i) (b.drop j) o)) := by
    intro m
    induction m using Nat.strongRecOn with
    | _ m F =>
      intro i j o O T X Z
      have q := V i j o O T (by omega)
      unfold Q7 at q
      by_cases w:i<a.length
      · rw[Na w]
        by_cases A:j<b.length
        · rw[Na A]
          rw[rF (.inl w)] at q
          by_cases I:Ap a[i]!.Name b[j]!.Name=true
          · rw[rF (.inr ⟨w, I⟩)] at q
            rw[B7 q, CH, rF I, ← Na A]
            exact F (m - 1) (by omega) (i+1) j _ (by omega) T (by omega) (by have := l a[i]! Ct o;omega)
          · rw[rE (by rintro(h | h);omega;exact I h.2)] at q
            by_cases M:Ap b[j]!.Name a[i]!.Name=true
            · rw[rF (.inr M)] at q
              rw[B7 q, CH, rE I, rF M, ← Na w]
              exact F (m - 1) (by omega) i (j+1) _ O (by omega) (by omega) (by have := l Ct b[j]! o;omega)
            · rw[rE (by rintro(h | h);omega;exact M h)] at q
              rw[B7 q, CH, rE I, rE M]
              exact F (m - 2) (by omega) (i+1) (j+1) _ (by omega) (by omega) (by omega) (by have := l a[i]! b[j]! o;omega)
        · have E:j=b.length := by omega
          rw[rF (.inl w), rF (.inl E)] at q
          have hd:b.drop j=[] := by rw[E];simp
          rw[B7 q, hd, CH, ← hd]
          exact F (m - 1) (by omega) (i+1) j _ (by omega) T (by omega) (by have := l a[i]! Ct o;omega)
      · have J:i=a.length := by omega
        have hd:a.drop i=[] := by rw[J];simp
        by_cases A:j<b.length
        · rw[rF (.inr A), rE (by rintro(h | h);omega;omega), rF (.inl J)] at q
          rw[Na A, B7 q, hd, CH, ← hd]
          exact F (m - 1) (by omega) i (j+1) _ O (by omega) (by omega) (by have := l Ct b[j]! o;omega)
        · have E:j=b.length := by omega
          rw[rE (by omega)] at q
          have U:b.drop j=[] := by rw[E];simp
          rw[Ba q, hd, U, CH]
  exact key _ 0 0 c (sh _) (sh _) rfl (by omega)
theorem Kv{o:List AE}{x}(h:o.length+1≤4398046511104):app 32 o [x]=some (o++[x]):=by
 unfold app;rw[rF (by simp;omega)]
def FD(x y:AE)(o:List AE):List AE:=if y.Name=[] then o++[x] else if y.Value=[] then o else o++[y]
theorem X2(x y o):(FD x y o).length≤o.length+1:=by unfold FD;split;simp;split<;>simp
theorem Md(c:List AE)(x y:AE)(h:c.length+1≤4398046511104):Kf c x y=some (FD x y c):=by
 unfold Kf FD
 rw[Kv h,Kv h]
 by_cases j:y.Name=[]<;>by_cases l:y.Value=[]<;>simp[j,l]
theorem pf(x y:AE):x=y↔x.Name=y.Name∧x.Value=y.Value:=by cases x;cases y;simp
theorem nD(a b:List AE) i j(o:List AE)(M:a.length+b.length≤4398046511104)(U:i≤a.length)(V:j≤b.length)(X:o.length+(a.length-i)+(b.length-j)≤4398046511104):OZ a b i j o=Q7 FD a b i j o:=by
 unfold OZ Q7
 by_cases l:i<a.length
 ·rw[rF (by simp;omega),rF (.inl l),Af l]
  have A:decide ((i:Int)<(a.length:Int))=true:=by simp;omega
  have B:decide ((i:Int)=(a.length:Int))=false:=by simp;omega
  rw[A,B]
  by_cases m:j<b.length
  ·have w:decide ((j:Int)=(b.length:Int))=false:=by simp;omega
   rw[w,Af m]
   simp only[sV,rz,uD,Aj,AD,sO]
   rw[Md _ _ _ (by omega),Md _ _ _ (by omega),Md _ _ _ (by omega)]
   simp only[AD]
   rw[Ar (by omega),Ar (by omega)]
   simp only[AD]
   have q:¬ j=b.length:=by omega
   have C:¬ i=a.length:=by omega
   simp only[q,C,l,uk,false_or];rfl
  ·have E:j=b.length:=by omega
   have w:decide ((j:Int)=(b.length:Int))=true:=by simp;omega
   rw[w]
   have F:((true==false)&&(true==true))=false:=rfl
   rw[F]
   simp only[CL,AD,tu]
   rw[rF trivial,rF (.inl E),Md _ _ _ (by omega),AD,Ar (by omega),AD];rfl
 ·have I:i=a.length:=by omega
  have A:decide ((i:Int)<(a.length:Int))=false:=by simp;omega
  have B:decide ((i:Int)=(a.length:Int))=true:=by simp;omega
  rw[A,B]
  by_cases m:j<b.length
  ·have w:decide ((j:Int)=(b.length:Int))=false:=by simp;omega
   have J:decide ((j:Int)<(b.length:Int))=true:=by simp;omega
   have q:¬ j=b.length:=by omega
   rw[w,J,rF (by rfl),rF (.inr m),Af m]
   have F:((false==false)&&(false==true))=false:=rfl
   have O:((true==false))=false:=rfl
   rw[F,O]
   simp only[CL,AD,sO,tK,tu,tm,si,tV]
   have T:¬ (j=b.length∨i<a.length∧Ap a[i]!.Name b[j]!.Name=true):=by
    intro h;rcases h with h | h
    ·exact q h
    ·exact l h.1
   rw[rE T,rF (.inl I),Md _ _ _ (by omega),AD,Ar (by omega),AD];rfl
  ·have J:decide ((j:Int)<(b.length:Int))=false:=by simp;omega
   rw[J,rE (by decide),rE (by omega)]
theorem bX(c a b:List AE)(h:c.length+a.length+b.length≤4398046511104):Nh c a b=some (CH FD a b c):=by
 unfold Nh
 rw[jr FD a b c 4398046511104 X2 (λi j o l m q=>nD a b i j o (by omega) l m q) h];rfl
theorem pN(a b:List AE)(h:a.length+b.length≤4398046511104):Lx a b=some (CH FD a b []):=by
 unfold Lx;rw[bX [] a b (by simpa using h)];rfl
theorem kg(a b:List AE)(B:a.length≤9223372036854775807):O0 a b=some (decide (a=b)):=by
 unfold O0
 by_cases m:a.length=b.length
 ·rw[rE (by simp[m]),Bx (n:=a.length) (λk=>if decide (a[k]! = b[k]!) then none else some false) (λk w=>by
   unfold NM
   rw[rF (by simpa using w),Af w,Af (by omega),AD,AD,Ar (by omega)]
   generalize a[k]! = x
   generalize b[k]! = y
   by_cases h:x=y
   ·subst h;simp[C3]
   ·have A:=h;rw[pf] at A
    simp only[rG h,Bool.and_true]
    by_cases j:x.Name=y.Name
    ·have q:¬ x.Value=y.Value:=λe=>A ⟨j,e⟩
     simp[j,q,C3]
    ·simp[j,C3]) (by unfold NM;rw[rE (by simp)]),Po,Fk]
  by_cases h:a=b
  ·subst h;simp
  ·rw[rG h]
   have:((List.range a.length).all λk=>decide (a[k]! = b[k]!))=false:=by
    rw[← sT,ri]
    intro l
    apply h
    apply List.ext_getElem m
    intro k j q
    have:=l k (rp.2 j)
    simp only[rJ] at this
    rwa [re a k j,re b k q] at this
   rw[this];rfl
 ·rw[rF (by simp;omega),rG (by rintro rfl;exact m rfl)]
theorem fd{α β:Type}[Inhabited α]{f}(l:List α)(j:β→α→β)(I:β→Nat→Prop)(B:∀b k, k<l.length→I b k→I (j b l[k]!) (k+1))
 (C:∀b (k:Nat), k<l.length→I b k→f (b, (k:Int))=some (.inl (j b l[k]!, ((k+1:Nat):Int)))) (E:∀b, f (b, (l.length:Int))=some (.inr b)) (w:β) (F:I w 0):iter f (w, 0)=some (l.foldl j w) := by
  have key:∀(m k:Nat) (b:β), k+m=l.length→I b k→iter f (b, (k:Int))=some ((l.drop k).foldl j b) := by
    intro m
    induction m with
    | zero =>
      intro k b J _
      have:k=l.length := by omega
      subst this
      rw[Ba (E b)];simp
    | succ m M =>
      intro k b J A
      have q:k<l.length := by omega
      rw[B7 (C b k q A), M (k+1) _ (by omega) (B b k q A), sA q, sj, re l k q]
  have := key l.length 0 w (by omega) F
  simpa using this
theorem g9{α β:Type}[Inhabited α]{f}(l:List α)(j:β→α→β)(I:β→Nat→Prop)(B:∀b k, k<l.length→I b k→I (j b l[k]!) (k+1))
 (C:∀b (k:Nat), k<l.length→I b k→f ((k:Int), b)=some (.inl (((k+1:Nat):Int), j b l[k]!))) (E:∀b, f ((l.length:Int), b)=some (.inr b)) (w:β) (F:I w 0):iter f (0, w)=some (l.foldl j w) := by
  have key:∀(m k:Nat) (b:β), k+m=l.length→I b k→iter f ((k:Int), b)=some ((l.drop k).foldl j b) := by
    intro m
    induction m with
    | zero =>
      intro k b J _
      have:k=l.length := by omega
      subst this
      rw[Ba (E b)];simp
    | succ m M =>
      intro k b J A
      have q:k<l.length := by omega
      rw[B7 (C b k q A), M (k+1) _ (by omega) (B b k q A), sA q, sj, re l k q]
  have := key l.length 0 w (by omega) F
  simpa using this
theorem pa{α γ β:Type}[Inhabited α]{f}(l:List α)(j:γ × β→α→γ × β)(I:γ × β→Nat→Prop)(B:∀b k, k<l.length→I b k→I (j b l[k]!) (k+1))
 (C:∀c b (k:Nat), k<l.length→I (c, b) k→f (c, (k:Int), b)=some (.inl ((j (c, b) l[k]!).1, ((k+1:Nat):Int), (j (c, b) l[k]!).2))) (E:∀c b, f (c, (l.length:Int), b)=some (.inr (c, b))) (c0:γ) (w:β) (F:I (c0, w) 0) :
    iter f (c0, 0, w)=some (l.foldl j (c0, w)) := by
  have key:∀(m k:Nat) (b:γ × β), k+m=l.length→I b k→iter f (b.1, (k:Int), b.2)=some ((l.drop k).foldl j b) := by
    intro m
    induction m with
    | zero =>
      intro k b J _
      have:k=l.length := by omega
      subst this
      rw[Ba (E _ _)];simp
    | succ m M =>
      intro k b J A
      have q:k<l.length := by omega
      rw[B7 (C b.1 b.2 k q A), M (k+1) _ (by omega) (B b k q A), sA q, sj, re l k q]
  have := key l.length 0 (c0, w) (by omega) F
  simpa using this
theorem Zk a:Ap a []=false:=by cases a<;>rfl
theorem FV:∀ {a b c:List UInt8},Ap a b=true→Ap b c=true→Ap a c=true
 | _,[],_,h,_=>by rw[Zk] at h;cases h
 | _,_::_,[],_,h=>by cases h
 | [],_::_,_::_,_,_=>rfl
 | a::x,b::y,c::z,h,k=>by
  rw[TX] at h k ⊢
  simp only[rV,rJ,rO,u5,tz] at h k ⊢
  rcases h with h | ⟨rfl,h⟩<;>rcases k with k | ⟨rfl,k⟩
  ·left;omega
  ·left;exact h
  ·left;exact k
  ·right;exact⟨rfl,FV h k⟩
def Bl(l:List AE):Prop:=l.Pairwise λx y=>Ap x.Name y.Name=true
def Av:List AE→List UInt8→Option AE
 | [],_=>none
 | x::l,n=>if x.Name=n then some x else Av l n
theorem H0{l}{n}(h:∀e∈l,e.Name≠n):Av l n=none:=by
 induction l with
 | nil=>rfl
 | cons x l j=>rw[Av,rE (h x (rg ..)),j λe m=>h e (rY _ m)]
theorem Qj{l}{n}{e:AE}(h:Av l n=some e):e.Name=n∧e∈l:=by
 induction l with
 | nil=>cases h
 | cons x l j=>
  rw[Av] at h
  split at h
  ·cases h;exact⟨‹_›,rg ..⟩
  ·exact⟨(j h).1,rY _ (j h).2⟩
theorem E2{a b}(h:Ap a b=true):b≠a:=by rintro rfl;rw[Iq] at h;cases h
theorem EW{x:AE}{l} : Bl (x::l)↔(∀e∈l,Ap x.Name e.Name=true)∧Bl l:=tq
theorem Vy:∀ {l m:List AE},Bl l→Bl m→(∀n,Av l n=Av m n)→l=m
 | [],[],_,_,_=>rfl
 | [],y::m,_,_,h=>by have:=h y.Name;simp[Av] at this
 | x::l,[],_,_,h=>by have:=h x.Name;simp[Av] at this
 | x::l,y::m,F,I,h=>by
  have A:=EW.1 F
  have B:=EW.1 I
  have C:x.Name=y.Name:=by
   rcases j:Ap x.Name y.Name with _ | _
   ·rcases q:Ap y.Name x.Name with _ | _
    ·have:=Jr x.Name y.Name
     rw[j,q] at this
     simpa using this
    ·have:=h y.Name
     rw[Av,rE (E2 q),H0 λe w=>E2 (FV q (A.1 e w)),Av,rF rfl] at this
     cases this
   ·have:=h x.Name
    rw[Av,rF rfl,Av,rE (E2 j),H0 λe w=>E2 (FV j (B.1 e w))] at this
    cases this
  have J:x=y:=by
   have:=h x.Name
   rw[Av,rF rfl,Av,rF C.symm] at this
   exact rn this
  subst J
  rw[Vy A.2 B.2 λn=>?_]
  by_cases E:x.Name=n
  ·subst E
   rw[H0 λe w=>E2 (A.1 e w),H0 λe w=>E2 (B.1 e w)]
  ·have:=h n
   rwa [Av,rE E,Av,rE E] at this
def Cv:List AE→AE→List AE
 | [],a=>[a]
 | x::l,a=>if x.Name=a.Name then a::l else if Ap x.Name a.Name=true then x::Cv l a else a::x::l
theorem ls{l}{a e}(h:e∈Cv l a):e=a∨e∈l:=by
 induction l with
 | nil=>simpa[Cv] using h
 | cons x l j=>
  rw[Cv] at h
  split at h
  ·rcases ro.1 h with h | h
   ·exact .inl h
   ·exact .inr (rY _ h)
  ·split at h
   ·rcases ro.1 h with h | h
    ·exact .inr (h ▸ rg ..)
    ·rcases j h with h | h
     ·exact .inl h
     ·exact .inr (rY _ h)
   ·rcases ro.1 h with h | h
    ·exact .inl h
    ·exact .inr h
theorem SG{a b}(j:a≠b)(l:¬ Ap a b=true):Ap b a=true:=by
 have:=Jr a b
 rw[te.2 l,rG j] at this
 simpa using this
theorem Y9{l}(a:AE)(h:Bl l):Bl (Cv l a):=by
 induction l with
 | nil=>simp[Cv,Bl]
 | cons x l B=>
  have q:=EW.1 h
  rw[Cv]
  split
  ·rename_i A;exact EW.2 ⟨λe j=>by rw[← A];exact q.1 e j,q.2⟩
  ·rename_i A
   split
   ·rename_i m
    exact EW.2 ⟨λe j=>by rcases ls j with rfl | j;exact m;exact q.1 e j,B q.2⟩
   ·rename_i m
    have w:=SG A m
    exact EW.2 ⟨λe j=>by rcases ro.1 j with rfl | j;exact w;exact FV w (q.1 e j),h⟩
theorem UM l(a:AE) n:Av (Cv l a) n=if a.Name=n then some a else Av l n:=by
 induction l with
 | nil=>simp[Cv,Av]
 | cons x l m=>
  rw[Cv]
  split
  ·rename_i j
   rw[Av,Av]
   by_cases h:a.Name=n
   ·rw[rF h,rF h]
   ·rw[rE h,rE h,rE (by rw[j];exact h)]
  ·rename_i j
   split
   ·rw[Av,Av,m]
    by_cases h:a.Name=n
    ·rw[rF h,rE (by rw[← h];exact j),rF h]
    ·rw[rE h,rE h]
   ·rw[Av]
theorem ZG(l:List AE) a:(Cv l a).length≤l.length+1:=by
 induction l with
 | nil=>simp[Cv]
 | cons x l j=>rw[Cv];split;simp;split;simp;omega;simp
def Df(a:AE)(s:Bool × List AE)(x:AE):Bool × List AE:=
 let j:=if s.1=false∧Ap x.Name a.Name=false then(true,s.2++[a]) else s
 if x.Name=a.Name then j else(j.1,j.2++[x])
theorem Tr(a:AE):∀(l:List AE) (o:List AE),(∀e∈l,Ap a.Name e.Name=true)→l.foldl (Df a) (true,o)=(true,o++l)
 | [],o,_=>by simp
 | x::l,o,h=>by
  have j:=h x (rg ..)
  have:Df a (true,o) x=(true,o++[x]):=by simp[Df,E2 j]
  rw[sj,this,Tr a l _ λe m=>h e (rY _ m)]
  simp
theorem Xt(a:AE):∀(l:List AE) (o:List AE),Bl l→(let s:=l.foldl (Df a) (false,o);if s.1 then s.2 else s.2++[a])=o++Cv l a
 | [],o,_=>by simp[Cv]
 | x::l,o,h=>by
  have q:=EW.1 h
  rw[sj,Cv]
  by_cases m:x.Name=a.Name
  ·have B:Ap x.Name a.Name=false:=by rw[m];exact Iq _
   have:Df a (false,o) x=(true,o++[a]):=by simp[Df,m,Iq]
   rw[this,Tr a l _ λe w=>by rw[← m];exact q.1 e w,rF m]
   simp
  ·by_cases j:Ap x.Name a.Name=true
   ·have:Df a (false,o) x=(false,o++[x]):=by simp[Df,m,j]
    rw[this,Xt a l _ q.2,rE m,rF j]
    simp
   ·have A:=SG m j
    have:Df a (false,o) x=(true,o++[a]++[x]):=by simp[Df,m,te.2 j]
    rw[this,Tr a l _ λe w=>FV A (q.1 e w),rE m,rE j]
    simp
theorem aO(a:AE) s(x:AE):(Df a s x).2.length≤s.2.length+2:=by
 unfold Df
 have:(if s.1=false∧Ap x.Name a.Name=false then(true,s.2++[a]) else s).2.length≤s.2.length+1:=by split<;>simp
 generalize (if s.1=false∧Ap x.Name a.Name=false then(true,s.2++[a]) else s)=t at this
 by_cases j:x.Name=a.Name
 ·simp only[j,tm];omega
 ·simp only[j,tV,sG,tI];omega
theorem cJ(l:List AE)(a:AE)(C:Bl l)(h:l.length≤1099511627776):KZ l a=some (Cv l a):=by
 unfold KZ
 rw[pa l (Df a) (λs k=>s.2.length≤2 * k) (λb k _ w=>by have:=aO a b l[k]!;show(Df a b l[k]!).2.length≤_;omega) (λc b k A w=>by
  have E:b.length≤2 * k:=w
  unfold Ox
  rw[rF (by simpa using A),Af A,Ar (by omega)]
  simp only[AD]
  generalize l[k]! = x
  have F:app 32 b [a]=some (b++[a]):=Kv (by omega)
  have B:app 32 b [x]=some (b++[x]):=Kv (by omega)
  have I:app 32 (b++[a]) [x]=some (b++[a]++[x]):=Kv (by simp;omega)
  cases c
  ·simp only[tL,sV,Aj,AD,rz]
   unfold Df
   cases M:Ap x.Name a.Name
   ·by_cases q:x.Name=a.Name<;>simp[F,I,q]
   ·by_cases q:x.Name=a.Name<;>simp[B,q]
  ·have:((!true)==true)=false:=rfl
   rw[this,CL]
   simp only[AD,tS,tK,si,tV,Bo]
   unfold Df
   by_cases q:x.Name=a.Name<;>simp[B,q]) (λc b=>by unfold Ox;rw[rE (by simp)]) false [] (by simp)]
 have hp:=Xt a l [] C
 have j:(l.foldl (Df a) (false,([]:List AE))).2.length≤2 * l.length:=by
  have:∀(m:List AE) (s:Bool × List AE),(m.foldl (Df a) s).2.length≤s.2.length+2 * m.length:=by
   intro m
   induction m with
   | nil=>intro s;simp
   | cons x m J=>intro s;rw[sj];have:=J (Df a s x);have:=aO a s x;simp only[sH];omega
  have:=this l (false,[])
  simpa using this
 generalize l.foldl (Df a) (false,([]:List AE))=s at hp j
 obtain⟨c,o⟩:=s
 simp only[Bo]
 cases c
 ·simp only[tL,tm]
  rw[Kv (by simp at j;omega)]
  simpa using hp
 ·simpa using hp
def DO(g:AE→AE→List AE):List AE→List AE→List AE
 | [],[]=>[]
 | x::a,[]=>g x Ct++DO g a []
 | [],y::b=>g Ct y++DO g [] b
 | x::a,y::b=>if Ap x.Name y.Name then g x Ct++DO g a (y::b) else if Ap y.Name x.Name then g Ct y++DO g (x::a) b else g x y++DO g a b
  termination_by a b=>a.length+b.length
theorem mL l g(h:∀x y o,l x y o=o++g x y):∀(m:Nat) (a b c:List AE),a.length+b.length=m→CH l a b c=c++DO g a b:=by
 intro m
 induction m using Nat.strongRecOn with
 | _ m q=>
  intro a b c j
  cases a with
  | nil=>
   cases b with
   | nil=>simp[CH,DO]
   | cons y b=>rw[CH,DO,q (m-1) (by simp at j;omega) [] b _ (by simp at j ⊢;omega),h];simp
  | cons x a=>
   cases b with
   | nil=>rw[CH,DO,q (m-1) (by simp at j;omega) a [] _ (by simp at j ⊢;omega),h];simp
   | cons y b=>
    rw[CH,DO]
    split
    ·rw[q (m-1) (by simp at j;omega) a (y::b) _ (by simp at j ⊢;omega),h];simp
    ·split
     ·rw[q (m-1) (by simp at j;omega) (x::a) b _ (by simp at j ⊢;omega),h];simp
     ·rw[q (m-2) (by simp at j;omega) a b _ (by simp at j ⊢;omega),h];simp
def PW(l:List AE)(n:List UInt8)(o:Option AE):Prop:=l=o.toList∧∀e,o=some e→e.Name=n
structure PP(g:AE→AE→List AE)(G:Option AE→Option AE→Option AE):Prop where
 l:∀x:AE,x.Name≠[]→PW (g x Ct) x.Name (G (some x) none)
 r:∀y:AE,y.Name≠[]→PW (g Ct y) y.Name (G none (some y))
 b:∀x y:AE,x.Name=y.Name→x.Name≠[]→PW (g x y) x.Name (G (some x) (some y))
 n:G none none=none
theorem ne{o:Option AE}{j}{rest}(A:∀e,o=some e→e.Name=j)(m:∀e∈rest,Ap j e.Name=true)(q:Bl rest):Bl (o.toList++rest)∧∀n,Av (o.toList++rest) n=if j=n then o else Av rest n:=by
 cases o with
 | none=>
  refine⟨q,λn=>?_⟩
  split
  ·rename_i h;subst h;exact H0 λe l=>E2 (m e l)
  ·rfl
 | some x=>
  have w:=A x rfl
  refine⟨EW.2 ⟨λe l=>by rw[w];exact m e l,q⟩,λn=>?_⟩
  show Av (x::rest) n=_
  rw[Av,w]
def Nm(l:List AE):Prop:=∀e∈l,e.Name≠[]
theorem mP{g}{G}(hg:PP g G):∀(m:Nat) (a b:List AE),a.length+b.length=m→Bl a→Bl b→Nm a→Nm b →
  (∀n,(∀e∈a,Ap n e.Name=true)→(∀e∈b,Ap n e.Name=true)→∀e∈DO g a b,Ap n e.Name=true)∧Bl (DO g a b)∧∀n,Av (DO g a b) n=G (Av a n) (Av b n):=by
 intro m
 induction m using Nat.strongRecOn with
 | _ m ih=>
  intro a b U X V T M
  have tail:∀ {l:List AE} {J:List UInt8} {o:Option AE} {a' b':List AE},PW l J o→a'.length+b'.length<m→Bl a'→Bl b'→Nm a'→Nm b'→(∀e∈a',Ap J e.Name=true)→(∀e∈b',Ap J e.Name=true) →
    (∀n,Ap n J=true→∀e∈l++DO g a' b',Ap n e.Name=true)∧Bl (l++DO g a' b')∧∀n,Av (l++DO g a' b') n=if J=n then o else G (Av a' n) (Av b' n):=by
   rintro l J o a' b' ⟨rfl,ho⟩ q Z a0 a1 a2 w C
   obtain⟨i1,i2,i3⟩:=ih _ q a' b' rfl Z a0 a1 a2
   obtain⟨j1,j2⟩:=ne ho (i1 J w C) i2
   refine⟨λn B e j=>?_,j1,λn=>by rw[j2 n,i3 n]⟩
   rcases sp.1 j with j | j
   ·rw[Option.mem_toList] at j;rw[ho e j];exact B
   ·exact FV B (i1 J w C e j)
  cases a with
  | nil=>
   cases b with
   | nil=>exact⟨λn _ _ e j=>by simp[DO] at j,by simp[DO,Bl],λn=>by simp[DO,Av,hg.n]⟩
   | cons y b=>
    have w:=EW.1 V
    have hy:=M y (rg ..)
    rw[DO]
    obtain⟨E,F,I⟩:=tail (a':=[]) (b':=b) (hg.r y hy) (by simp at U ⊢;omega) X w.2 T (λe j=>M e (rY _ j)) (λe j=>by cases j) w.1
    refine⟨λn _ h e j=>E n (h y (rg ..)) e j,F,λn=>?_⟩
    rw[I n]
    conv=>rhs;rw[Av,Av]
    split
    ·rfl
    ·rfl
  | cons x a=>
   have w:=EW.1 X
   have hx:=T x (rg ..)
   cases b with
   | nil=>
    rw[DO]
    obtain⟨E,F,I⟩:=tail (a':=a) (b':=[]) (hg.l x hx) (by simp at U ⊢;omega) w.2 V (λe j=>T e (rY _ j)) M w.1 (λe j=>by cases j)
    refine⟨λn h _ e j=>E n (h x (rg ..)) e j,F,λn=>?_⟩
    rw[I n]
    conv=>rhs;rw[Av,Av]
    split
    ·rfl
    ·rfl
   | cons y b=>
    have C:=EW.1 V
    have hy:=M y (rg ..)
    rw[DO]
    split
    ·rename_i q
     obtain⟨E,F,I⟩:=tail (a':=a) (b':=y::b) (hg.l x hx) (by simp at U ⊢;omega) w.2 V (λe j=>T e (rY _ j)) M w.1 (λe j=>by
      rcases ro.1 j with rfl | j
      ·exact q
      ·exact FV q (C.1 e j))
     refine⟨λn h _ e j=>E n (h x (rg ..)) e j,F,λn=>?_⟩
     rw[I n]
     by_cases B:x.Name=n
     ·subst B
      rw[rF rfl,Av,rF rfl,H0 λe j=>by
       rcases ro.1 j with rfl | j
       ·exact E2 q
       ·exact E2 (FV q (C.1 e j))]
     ·rw[rE B];conv=>rhs;rw[Av,rE B]
    ·rename_i q
     split
     ·rename_i A
      obtain⟨E,F,I⟩:=tail (a':=x::a) (b':=b) (hg.r y hy) (by simp at U ⊢;omega) X C.2 T (λe j=>M e (rY _ j)) (λe j=>by
       rcases ro.1 j with rfl | j
       ·exact A
       ·exact FV A (w.1 e j)) C.1
      refine⟨λn _ h e j=>E n (h y (rg ..)) e j,F,λn=>?_⟩
      rw[I n]
      by_cases B:y.Name=n
      ·subst B
       rw[rF rfl]
       conv=>rhs;rw[H0 (l:=x::a) (λe j=>by
        rcases ro.1 j with rfl | j
        ·exact E2 A
        ·exact E2 (FV A (w.1 e j))),Av,rF rfl]
      ·rw[rE B];conv=>rhs;arg 2;rw[Av,rE B]
     ·rename_i A
      have O:x.Name=y.Name:=by
       have:=Jr x.Name y.Name
       rw[te.2 q,te.2 A] at this
       simpa using this
      obtain⟨E,F,I⟩:=tail (a':=a) (b':=b) (hg.b x y O hx) (by simp at U ⊢;omega) w.2 C.2 (λe j=>T e (rY _ j)) (λe j=>M e (rY _ j)) w.1 (λe j=>by rw[O];exact C.1 e j)
      refine⟨λn h _ e j=>E n (h x (rg ..)) e j,F,λn=>?_⟩
      rw[I n]
      conv=>rhs;rw[Av,Av,← O]
      split<;>rfl
def G2:Option AE→Option AE→Option AE
 | o,none=>o
 | _,some y=>if y.Value=[] then none else some y
theorem Xw{j}{g}{G}(h:∀x y o,j x y o=o++g x y)(hg:PP g G){a b}(l:Bl a)(m:Bl b)(q:Nm a)(w:Nm b) :
  Bl (CH j a b [])∧∀n,Av (CH j a b []) n=G (Av a n) (Av b n):=by
 rw[mL j g h _ a b [] rfl,sc]
 exact(mP hg _ a b rfl l m q w).2
def LP(x y:AE):List AE:=if y.Name=[] then [x] else if y.Value=[] then [] else [y]
theorem ZM:PP LP G2:=by
 refine⟨λx m=>⟨by simp[LP,G2,Ct],by rintro e ⟨⟩;rfl⟩,λy q=>⟨?_,?_⟩,λx y l m=>⟨?_,?_⟩,rfl⟩
 ·simp only[LP,G2,rE q];split<;>rfl
 ·intro e j;simp only[G2] at j;split at j<;>cases j;rfl
 ·rw[l] at m;simp only[LP,G2,rE m];split<;>rfl
 ·intro e j;simp only[G2] at j;split at j<;>cases j;exact l.symm
theorem YF(x y o):FD x y o=o++LP x y:=by unfold FD LP;split;rfl;split;simp;rfl
theorem pV{l:List AE}(h:∀k,k+1<l.length→Ap l[k]!.Name l[k+1]!.Name=true):Bl l:=by
 induction l with
 | nil=>exact List.Pairwise.nil
 | cons x l w=>
  have m:=w λk A=>by have:=h (k+1) (by simp;omega);simpa using this
  refine EW.2 ⟨λe j=>?_,m⟩
  cases l with
  | nil=>cases j
  | cons y l=>
   have q:Ap x.Name y.Name=true:=by have:=h 0 (by simp);simpa using this
   rcases ro.1 j with rfl | j
   ·exact q
   ·exact FV q ((EW.1 m).1 e j)
theorem Jq{l:List AE}{ch:Bool}(h:Bw l ch=0):Bl l∧Nm l∧(ch=false→∀e∈l,e.Value≠[]):=by
 have hn:∀k,k<l.length→EY l ch k=none:=by
  intro k hk
  unfold Bw at h
  cases hf:(List.range l.length).findSome? (EY l ch) with
  | none=>exact(XJ _ _).1 hf k hk
  | some r=>
   rw[hf] at h
   obtain⟨j,_,hj⟩:=sN hf
   exfalso
   unfold EY at hj
   simp only[sY] at h
   subst h
   repeat' split at hj
   all_goals simp at hj
 have hname:∀k,k<l.length→EE l[k]!.Name=true∧¬ (Dc l[k]!.Value=false∧¬ (ch=true∧l[k]!.Value=[]))∧¬ (0<k∧Ap l[k-1]!.Name l[k]!.Name=false):=by
  intro k hk
  have:=hn k hk
  unfold EY at this
  split at this
  ·cases this
  ·split at this
   ·cases this
   ·split at this
    ·cases this
    ·exact⟨by rcases hx:EE l[k]!.Name with _ | _;exact absurd hx (by assumption);rfl,‹_›,‹_›⟩
 refine⟨pV λk hk=>?_,λe he=>?_,λhc e he=>?_⟩
 ·have:=(hname (k+1) hk).2.2
  rw[uo] at this
  simpa using this
 ·obtain⟨k,hk,rfl⟩:=sJ.1 he
  have:=(hname k hk).1
  rw[re l k hk] at this
  intro e0
  rw[e0] at this
  simp[EE] at this
 ·obtain⟨k,hk,rfl⟩:=sJ.1 he
  have:=(hname k hk).2.1
  rw[re l k hk,hc] at this
  intro e0
  apply this
  rw[e0]
  exact⟨rfl,by simp⟩
theorem XC(p:AE→Bool)(h:AE→AE)(j:∀x,(h x).Name=x.Name):∀(l o:List AE),Bl l→Bl o →
  Bl (l.foldl (λo x=>if p x then Cv o (h x) else o) o)∧∀n,Av (l.foldl (λo x=>if p x then Cv o (h x) else o) o) n=match Av l n with | some x=>if p x then some (h x) else Av o n | none=>Av o n
 | [],o,_,m=>⟨m,λn=>rfl⟩
 | x::l,o,B,m=>by
  have A:=EW.1 B
  have w:Bl (if p x then Cv o (h x) else o):=by split;exact Y9 _ m;exact m
  obtain⟨C,E⟩:=XC p h j l _ A.2 w
  refine⟨C,λn=>?_⟩
  rw[sj,E n,Av]
  by_cases q:x.Name=n
  ·subst q
   rw[rF rfl,H0 λe F=>E2 (A.1 e F)]
   cases hp:p x
   ·simp[hp]
   ·simp[hp,UM,j]
  ·rw[rE q]
   cases I:Av l n with
   | some z => 
    cases hp:p x
    ·simp[hp]
    ·simp[hp,UM,j,q]
   | none=>
    cases hp:p x
    ·simp[hp]
    ·simp[hp,UM,j,q]
theorem oA(p:AE→Bool)(h:AE→AE)(l o:List AE):(l.foldl (λo x=>if p x then Cv o (h x) else o) o).length≤o.length+l.length:=by
 induction l generalizing o with
 | nil=>simp
 | cons x l j=>
  rw[sj]
  have m:=j (if p x then Cv o (h x) else o)
  have q:(if p x then Cv o (h x) else o).length≤o.length+1:=by split;exact ZG _ _;omega
  simp only[sH]
  omega
def FU(l o:List AE):List AE:=l.foldl (λo x=>if(λ_=>true) x then Cv o (id x) else o) o
theorem SD{l o}(j:Bl l)(m:Bl o):Bl (FU l o)∧∀n,Av (FU l o) n=match Av l n with | some x=>some x | none=>Av o n:=by
 obtain⟨q,w⟩:=XC (λ_=>true) id (λ_=>rfl) l o j m
 refine⟨q,λn=>?_⟩
 unfold FU
 rw[w n]
 cases Av l n<;>simp
theorem YL(l o:List AE):(FU l o).length≤o.length+l.length:=oA _ _ _ _
theorem XB{f}(l o:List AE)(q:Bl o)(C:o.length+l.length≤1099511627776)
 (w:∀b (k:Nat), k<l.length→f (b, (k:Int))=(AC (KZ b l[k]!) λo2 => AC (AY .i64 ((k:Int)+1)) λx => some (.inl (o2, x)))) (A:∀b, f (b, (l.length:Int))=some (.inr b)):iter f (o, 0)=some (FU l o) := by
  unfold FU
  refine fd l _ (λb k => Bl b∧b.length≤o.length+k) (λb k m ⟨j, B⟩ => ?_) (λb k m ⟨j, B⟩ => ?_) A o ⟨q, by omega⟩
  · have := ZG b l[k]!
    exact⟨Y9 _ j, by show(Cv b l[k]!).length≤_;omega⟩
  · rw[w b k m, cJ b _ j (by omega), AD, Ar (by omega)];rfl
def E3(l:List AE):List AE:=l.filter λa=>!(a.Value=[])
theorem bP{l}(h:Bl l):Bl (E3 l)∧∀n,Av (E3 l) n=(Av l n).filter λa=>!(a.Value=[]):=by
 induction l with
 | nil=>exact⟨List.Pairwise.nil,λn=>rfl⟩
 | cons x l C=>
  have w:=EW.1 h
  obtain⟨A,B⟩:=C w.2
  have j:∀e∈E3 l,Ap x.Name e.Name=true:=λe q=>w.1 e (tD.1 q).1
  by_cases m:x.Value=[]
  ·have:E3 (x::l)=E3 l:=by simp[E3,m]
   rw[this]
   refine⟨A,λn=>?_⟩
   rw[Av]
   split
   ·rename_i E;subst E
    rw[H0 λe q=>E2 (j e q)]
    simp[Option.filter,m]
   ·exact B n
  ·have:E3 (x::l)=x::E3 l:=by simp[E3,m]
   rw[this]
   refine⟨EW.2 ⟨j,A⟩,λn=>?_⟩
   rw[Av,Av]
   split
   ·simp[Option.filter,m]
   ·exact B n
theorem jo(l q:List AE)(C:Bl l)(hc:Bl q)(h:l.length+q.length≤1099511627776):LU l q=some (E3 (FU q (FU l []))):=by
 unfold LU
 have B:Bl ([]:List AE):=List.Pairwise.nil
 have E:=(SD C B).1
 have A:=YL l []
 have F:=YL q (FU l [])
 rw[XB l [] B (by simp;omega) (λb k j=>by unfold OR;rw[rF (by simpa using j),Af j];rfl) (λb=>by unfold OR;rw[rE (by simp)]),AD,
  XB q _ E (by simp at A;omega) (λb k j=>by unfold MX;rw[rF (by simpa using j),Af j];rfl) (λb=>by unfold MX;rw[rE (by simp)]),AD]
 generalize FU q (FU l [])=r at F
 rw[g9 r (λo x=>if x.Value=[] then o else o++[x]) (λb k=>b.length≤k) (λb k j I=>by split;omega;simp;omega) (λb k j I=>by
  unfold Nd
  rw[rF (by simpa using j),Af j,AD,Ar (by simp at A;omega)]
  generalize r[k]! = x
  by_cases w:x.Value=[]
  ·simp[w]
  ·have:=Kv (o:=b) (x:=x) (by simp at A;omega)
   simp[w,this]) (λb=>by unfold Nd;rw[rE (by simp)]) [] (by simp),AD]
 have:∀(m o:List AE),m.foldl (λo x=>if x.Value=[] then o else o++[x]) o=o++E3 m:=by
  intro m
  induction m with
  | nil=>intro o;simp[E3]
  | cons x m J=>
   intro o
   rw[sj,J]
   by_cases w:x.Value=[]
   ·simp[w,E3]
   ·simp[w,E3]
 rw[this];rfl
theorem mD{l j}(w:Bw l false=0)(A:Bw j true=0):CH FD l j []=E3 (FU j (FU l [])):=by
 obtain⟨m,B,v1⟩:=Jq w
 obtain⟨q,C,_⟩:=Jq A
 have E:Bl ([]:List AE):=List.Pairwise.nil
 obtain⟨F,I⟩:=SD m E
 obtain⟨J,M⟩:=SD q F
 obtain⟨O,T⟩:=bP J
 obtain⟨U,m2⟩:=Xw YF ZM m q B C
 refine Vy U O λn=>?_
 rw[m2,T,M,I]
 cases Z:Av j n with
 | some y=>
  simp only[G2,Option.filter]
  by_cases V:y.Value=[]<;>simp[V]
 | none=>
  cases X:Av l n with
  | some x=>simp[G2,Option.filter,v1 rfl x (Qj X).2]
  | none=>simp[G2,Av,Option.filter]
theorem gX{ρ:Type}(g:AE→Option ρ)(l:List AE):(List.range l.length).findSome? (λk=>g l[k]!)=l.findSome? g:=by
 induction l with
 | nil=>rfl
 | cons a l j=>
  rw[sH,List.range_succ_eq_map,sm,List.findSome?_map,sm]
  have:(List.range l.length).findSome? ((λk=>g (a::l)[k]!) ∘ Nat.succ)=l.findSome? g:=by
   rw[← j];exact VR λk _=>by simp
  rw[this]
  simp
theorem qC{ρ:Type}(l:List AE)(n:List UInt8)(v:AE→ρ):(l.findSome? λx=>if x.Name=n then some (v x) else none)=(Av l n).map v:=by
 induction l with
 | nil=>rfl
 | cons x l j=>
  rw[sm,Av]
  by_cases h:x.Name=n
  ·simp[h]
  ·simp[h,j]
theorem fE(l:List AE)(n:List UInt8):CQ l n=match Av l n with | some x=>x.Value | none=>[]:=by
 unfold CQ
 rw[gX (λx=>if x.Name=n then some x.Value else none) l,qC l n (·.Value)]
 cases Av l n<;>rfl
theorem db j(h:∀x y o,(j x y o).length≤o.length+1):∀(m:Nat) (a b c:List AE),a.length+b.length=m→(CH j a b c).length≤c.length+m:=by
 intro m
 induction m using Nat.strongRecOn with
 | _ m q=>
  intro a b c l
  cases a with
  | nil=>
   cases b with
   | nil=>simp[CH]
   | cons y b=>rw[CH];have:=q (m-1) (by simp at l;omega) [] b (j Ct y c) (by simp at l ⊢;omega);have:=h Ct y c;simp at l;omega
  | cons x a=>
   cases b with
   | nil=>rw[CH];have:=q (m-1) (by simp at l;omega) a [] (j x Ct c) (by simp at l ⊢;omega);have:=h x Ct c;simp at l;omega
   | cons y b=>
    rw[CH]
    split
    ·have:=q (m-1) (by simp at l;omega) a (y::b) (j x Ct c) (by simp at l ⊢;omega);have:=h x Ct c;simp at l;omega
    ·split
     ·have:=q (m-1) (by simp at l;omega) (x::a) b (j Ct y c) (by simp at l ⊢;omega);have:=h Ct y c;simp at l;omega
     ·have:=q (m-2) (by simp at l;omega) a b (j x y c) (by simp at l ⊢;omega);have:=h x y c;simp at l;omega
theorem JF{σ β:Type}{f}(n:Nat)(R:Nat→σ→Prop)(Q:β→Prop)
 (A:∀k s, k<n→R k s→(∃j, f s=some (.inl j)∧R (k+1) j)∨(∃b, f s=some (.inr b)∧Q b))
 (B:∀s, R n s→∃b, f s=some (.inr b)∧Q b) {s} (C:R 0 s):∃b, iter f s=some b∧Q b := by
  have key:∀m k s, k+m=n→R k s→∃b, iter f s=some b∧Q b := by
    intro m
    induction m with
    | zero =>
      intro k s E l
      obtain rfl:k=n := by omega
      obtain⟨b, F, I⟩ := B s l
      exact⟨b, Ba F, I⟩
    | succ m J =>
      intro k s E l
      rcases A k s (by omega) l with ⟨j, q, w⟩ | ⟨b, q, w⟩
      · obtain⟨b, M, O⟩ := J (k+1) j (by omega) w
        exact⟨b, by rw[B7 q, M], O⟩
      · exact⟨b, Ba q, w⟩
  exact key n 0 s (by omega) C
theorem pj{α:Type}[Inhabited α]{l:List α}{k}(h:k<l.length):l.drop k=l[k]!::l.drop (k+1):=by
 rw[sA h,re l k h]
theorem Mb{α:Type}[Inhabited α]{l:List α}{k}(h:k<l.length):l.take (k+1)=l.take k++[l[k]!]:=by
 rw[List.take_add_one,rK h,re l k h];rfl
theorem Bz{α:Type}[Inhabited α]{l:List α}{k}(h:k<l.length):l[k]! ∈ l:=by
 rw[re l k h];exact ry h
theorem NQ x j l:Ck x j l=some ((j≤x)&&(x≤l)):=by
 unfold Ck
 rfl
theorem G8{α σ β γ:Type}[Inhabited α]{f}(l:List α)(mk:γ→Nat→σ)(j:List α→γ→β)(I:Nat→γ→Prop)
 (B:∀k c, k<l.length→I k c→(∃q, f (mk c k)=some (.inl (mk q (k+1)))∧I (k+1) q∧j (l[k]!::l.drop (k+1)) c=j (l.drop (k+1)) q)∨f (mk c k)=some (.inr (j (l[k]!::l.drop (k+1)) c)))
 (C:∀c, I l.length c→f (mk c l.length)=some (.inr (j [] c))) (c:γ) (E:I 0 c) (s:σ) (F:s=mk c 0):iter f s=some (j l c) := by
  subst F
  have key:∀m k c, k+m=l.length→I k c→iter f (mk c k)=some (j (l.drop k) c) := by
    intro m
    induction m with
    | zero =>
      intro k c J w
      obtain rfl:k=l.length := by omega
      rw[List.drop_length]
      exact Ba (C c w)
    | succ m M =>
      intro k c J w
      rw[pj (by omega)]
      rcases B k c (by omega) w with ⟨q, A, O, T⟩ | A
      · rw[B7 A, M (k+1) q (by omega) O, T]
      · exact Ba A
  have := key l.length 0 c (by omega) E
  rwa [tW] at this
theorem OP{o:List Int}{x}(h:o.length+1≤1099511627776):app 8 o [x]=some (o++[x]):=by
 unfold app;rw[rF (by simp;omega)]
def Gb(c:Int):Bool:=(c=9)||(c=10)||((32≤c)&&(c≤126))||((160≤c)&&(c≤55295))||((57344≤c)&&(c≤1114111))
def FB(x:An):Int:=
 if(x.Char=0∧x.Ref=0)∨(x.Char≠0∧x.Ref≠0) then 4 else if(x.Char≠0∧Gb x.Char=false)∨(x.Ref≠0∧¬ (1≤x.Ref∧x.Ref≤1073741824)) then 2 else Bw x.Attrs false
def Ik(x:An):Prop:=x.Attrs.length≤9223372036854775807∧IF x.Attrs
theorem Zx c:LD c=some (Gb c):=by
 unfold LD Gb
 congr 1
 rw[sE]
 simp only[rV,rO,rJ]
 omega
theorem WG c:Lq c=some (Gb c):=by
 unfold Lq Gb
 rw[NQ,NQ,NQ]
 generalize decide (c=9)=j
 generalize decide (c=10)=l
 generalize ((32≤c)&&(c≤126))=a3
 generalize ((160≤c)&&(c≤55295))=a4
 generalize ((57344≤c)&&(c≤1114111))=a5
 cases j<;>cases l<;>cases a3<;>cases a4<;>cases a5<;>rfl
theorem Xq(x:An)(h:Ik x):OB x=some (FB x):=by
 unfold OB FB
 rw[Zx,R7 _ h.2 h.1]
 by_cases c:x.Char=0
 ·by_cases r:x.Ref=0
  ·simp[c,r]
  ·by_cases q:1≤x.Ref∧x.Ref≤1073741824
   ·have j:¬ x.Ref<1:=by omega
    have l:¬ 1073741824<x.Ref:=by omega
    simp[c,r,q,j,l]
   ·have j:x.Ref<1∨1073741824<x.Ref:=by omega
    simp[c,r,q,j]
 ·by_cases r:x.Ref=0
  ·cases m:Gb x.Char<;>simp[c,r,m]
  ·simp[c,r]
theorem Ya(x:An)(h:Ik x):NA x=some (FB x):=by
 unfold NA FB
 rw[WG,TT _ _ h.2 h.1,NQ]
 by_cases c:x.Char=0
 ·by_cases r:x.Ref=0
  ·simp[c,r]
  ·by_cases q:1≤x.Ref∧x.Ref≤1073741824
   ·simp[c,r,q]
   ·have j:((1≤x.Ref)&&(x.Ref≤1073741824))=false:=by rw[← sT];simpa using q
    simp[c,r,q,j]
 ·by_cases r:x.Ref=0
  ·cases l:Gb x.Char<;>simp[c,r,l]
  ·simp[c,r]
def Ha(f:List An)(k:Nat):Option Int:=if FB f[k]! = 0 then none else some (FB f[k]!)
def SK(f:List An):Int:=((List.range f.length).findSome? (Ha f)).getD 0
def dC:List UInt8:=[104,105,100,100,101,110]
def jR:List UInt8:=[111,110]
def gT:List UInt8:=[99,117,116]
def od:List UInt8:=[97,100,100]
def Az(x:An)(mode:Int):Bool:=(CQ x.Attrs dC=jR)||((mode=0)&&!(CQ x.Attrs gT=[]))||((mode=1)&&!(CQ x.Attrs od=[]))
def seen(f:List An)(mode:Int)(k:Nat):Bool:=!Az f[k]! mode||((k+1=f.length)&&(f[k]!.Char=10))
def shown(f:List An)(mode:Int)(k:Nat):List Int:=((List.range k).filter (seen f mode)).map λ(i:Nat)=>(i:Int)
theorem B8{p}[Decidable p](h:¬ p):(!decide p)=true:=by simp[h]
theorem DC{p}[Decidable p](h:p):¬ ((!decide p)=true):=by simp[h]
def If(l:List AE):Prop:=l.length≤1073741824∧IF l
inductive Un where
 | a (e:An)
 | r (cut:Bool) (at_:List AE)
theorem Wm{α:Type}{l:List α}{k:Nat}{x:α} : l.set ((k:Int).toNat) x=l.set k x:=by simp
theorem eu{α β:Type}[Inhabited α]{f}(l:List α)(g:α→β)(z:β)
 (h:∀(k:Nat) (out:List β), k<l.length→out.length=l.length→f ((k:Int), out)=some (.inl (((k+1:Nat):Int), out.set k (g l[k]!)))) (j:∀out, f ((l.length:Int), out)=some (.inr out)) :
    iter f (0, List.replicate l.length z)=some (l.map g) := by
  have key:∃r, iter f (0, List.replicate l.length z)=some r∧r=l.map g := by
    refine JF l.length (λk q => q=((k:Int), (l.take k).map g++List.replicate (l.length - k) z)) _ ?_ ?_ (by simp)
    · rintro k q w rfl
      refine .inl ⟨_, h k _ w (by simp;omega), ?_⟩
      congr 1
      obtain⟨m, A⟩:∃m, l.length - k=m+1 := ⟨l.length - k - 1, by omega⟩
      rw[A, List.replicate_succ, Mb w, s9, ub _ _ (by rw[rx, sk];omega), show l.length - (k+1)=m by omega]
      have:k - ((l.take k).map g).length=0 := by simp;omega
      rw[this, List.set_cons_zero, sZ];rfl
    · rintro q rfl
      refine⟨_, j _, by simp⟩
  obtain⟨r, B, C⟩ := key
  rw[B, C]
theorem UI{l:List AE}(h:l.length≤1073741824):app 32 [] l=some l:=by
 unfold app;rw[rF];rfl;simp;omega
theorem fF{α:Type}{n:Nat}(z:α)(h:n≤4294967296):mk 40 (n:Int) z=some (List.replicate n z):=by
 unfold mk;rw[rF (by omega)];simp
theorem lA(f:List An)(l:f.length≤4294967296)(h:∀e∈f,If e.Attrs):Mx f=some f:=by
 unfold Mx
 rw[fF _ l,AD]
 have:=eu (f:=λ(a:Int × (List An))=>I5 f a.1 a.2) f id (An.mk 0 0 []) (λk out j q=>by
  have m:=(h _ (Bz j)).1
  show I5 f (k:Int) out=_
  unfold I5
  rw[rF (by simpa using j),Af j,AD,UI m,AD,Af (by omega),AD,Ar (by omega),AD,Wm]
  rfl) (λout=>by
  show I5 f (f.length:Int) out=_
  unfold I5
  rw[rE (by simp)])
 rw[this,List.map_id];rfl
theorem ke{α:Type}(l:List α)(n:Int)(j:0≤n)(h:n≤l.length):DX l 0 n=some (l.take n.toNat):=by
 unfold DX;rw[rF (by omega)];simp
theorem dT{α:Type}[Inhabited α][DecidableEq α]{a b:List α}(l:a.length=b.length)(h:((List.range a.length).all λk=>decide (a[k]! = b[k]!))=true):a=b:=by
 apply List.ext_getElem l
 intro k j m
 have:=ri.1 h k (rp.2 j)
 simp only[rJ] at this
 rwa [re a k j,re b k m] at this
theorem ix{α:Type}[Inhabited α][DecidableEq α](a:List α):((List.range a.length).all λk=>decide (a[k]! = a[k]!))=true:=by
 rw[ri];intro k _;rw[rH rfl]
theorem TZ{κ}(j:∀a,a.Name.length+a.Value.length+1≤κ a){l:List AE}(q:(l.map κ).sum≤1048576):If l:=by
 have w:=MM (μ:=κ) (λa=>by have:=j a;omega) l
 refine⟨by omega,λa m=>?_⟩
 have A:=HZ (μ:=κ) m
 have:=j a
 omega
theorem fe{ν}{κ}(j:∀e,(e.Attrs.map κ).sum+1≤ν e)(l:∀a,a.Name.length+a.Value.length+1≤κ a){f:List An}(q:(f.map ν).sum≤1048576):f.length≤1048576∧∀e∈f,If e.Attrs:=by
 have w:=MM (μ:=ν) (λe=>by have:=j e;omega) f
 refine⟨by omega,λe m=>TZ l ?_⟩
 have A:=HZ (μ:=ν) m
 have:=j e
 omega
def W0:Yi:=⟨[],0,0⟩
def QB(f:List An):Int:=if SK f≠0 then SK f else if f=[]∨f[f.length-1]!.Char≠10 then 11 else 0
theorem nb{f}{k}{r}(h:Ha f k=some r):r≠0:=by
 unfold Ha at h
 split at h
 ·cases h
 ·rename_i j;cases h;exact j
theorem ZF(f:List An)(C:f.length≤1073741824):(BA (some (DE ((List.range f.length).findSome? (Ha f)))) λ(_:Unit)=>
  AC (gd ((true==true)&&((decide ((f.length:Int)=0))==false)) (AY .i64 ((f.length:Int)-1))) λ(q:Int)=>
  AC (gd ((true==true)&&((decide ((f.length:Int)=0))==false)) (AN f q)) λ(w:An)=>
  if(true&&(((f.length:Int)=0)||(!(w.Char=10)))) then some (11:Int) else some 0)=some (QB f):=by
 rw[Fk]
 unfold QB SK
 cases A:(List.range f.length).findSome? (Ha f) with
 | some r=>
  have l:r≠0:=by
   obtain⟨k,B⟩:=sN A
   exact nb B.2
  dsimp only [Option.getD]
  rw[rF l]
 | none=>
  dsimp only [Option.getD]
  rw[rE (by decide)]
  by_cases m:f=[]
  ·subst m;rfl
  ·have E:0<f.length:=tE.2 m
   have hd:decide ((f.length:Int)=0)=false:=rG (by omega)
   rw[hd,show((true==true)&&(false==false))=true from rfl,Aj,show((f.length:Int)-1)=((f.length-1:Nat):Int) by omega,CP (by omega) (by omega),AD,Aj,Af (by omega),AD]
   by_cases j:f[f.length-1]!.Char=10
   ·rw[rE (by rw[rH j];decide),rE (λh=>h.elim m λh=>h j)]
   ·rw[rF (by rw[rG j];decide),rF (.inr j)]
theorem p8(f:List An)(h:∀x∈f,Ik x)(l:f.length≤1073741824):JM f true=some (QB f):=by
 unfold JM
 rw[Bx (n:=f.length) (Ha f) (λk j=>by
  unfold KU Ha
  rw[rF (by simpa using j),Af j,AD,Ar (by omega),Xq _ (h _ (Bz j)),AD]
  by_cases e:FB f[k]! = 0
  ·rw[rE (DC e),rF e];rfl
  ·rw[rF (B8 e),rE e];rfl) (by unfold KU;rw[rE (by simp)])]
 exact ZF f l
theorem cE(f:List An)(h:∀x∈f,Ik x)(l:f.length≤1073741824):Iv f true=some (QB f):=by
 unfold Iv
 rw[Bx (n:=f.length) (Ha f) (λk j=>by
  unfold Jy Ha
  rw[rF (by simpa using j),Af j,AD,Ar (by omega),Ya _ (h _ (Bz j)),AD]
  by_cases e:FB f[k]! = 0
  ·rw[rE (DC e),rF e];rfl
  ·rw[rF (B8 e),rE e];rfl) (by unfold Jy;rw[rE (by simp)])]
 exact ZF f l
instance:Inhabited Un:=⟨.r false []⟩
def off(n:List UInt8):AE:=⟨n,[]⟩
theorem ef:F5.length=256:=by decide +kernel
theorem kS(s:List UInt8) k(j:k≤s.length):DX s (k:Int) (s.length:Int)=some (s.drop k):=by
 unfold DX
 rw[rF (by omega)]
 congr 1
 rw[ts (by simp),so]
def JA(t:Bool)(f:List An)(k:Nat):Option Int:=if FB f[k]! = 0 then(if t=false∧f[k]!.Ref=0 then some 8 else none) else some (FB f[k]!)
theorem mn{x:An}(h:FB x=0):(x.Ref=0↔x.Char≠0):=by
 unfold FB at h
 by_cases c:x.Char=0<;>by_cases r:x.Ref=0<;>simp[c,r] at h ⊢
theorem nB(f:List An)(h:∀x∈f,Ik x)(l:f.length≤1073741824):JM f false=some (((List.range f.length).findSome? (JA false f)).getD 0):=by
 unfold JM
 rw[Bx (n:=f.length) (JA false f) (λk j=>by
  unfold KU JA
  rw[rF (by simpa using j),Af j,AD,Ar (by omega),Xq _ (h _ (Bz j)),AD]
  generalize f[k]! = x
  by_cases e:FB x=0
  ·rw[rE (DC e),rF e]
   by_cases r:x.Ref=0
   ·rw[rF (show(!false&&(x.Ref=0))=true by rw[rH r];rfl),rF ⟨rfl,r⟩];rfl
   ·rw[rE (show ¬ (!false&&(x.Ref=0))=true by rw[rG r];decide),rE (λh=>r h.2)];rfl
  ·rw[rF (B8 e),rE e];rfl) (by unfold KU;rw[rE (by simp)])]
 cases (List.range f.length).findSome? (JA false f)<;>rfl
theorem nZ(f:List An)(h:∀x∈f,Ik x)(q:f.length≤1073741824):Iv f false=some (((List.range f.length).findSome? (JA false f)).getD 0):=by
 unfold Iv
 rw[Bx (n:=f.length) (JA false f) (λk j=>by
  unfold Jy JA
  rw[rF (by simpa using j),Af j,AD,Ar (by omega),Ya _ (h _ (Bz j)),AD]
  generalize f[k]! = x
  by_cases e:FB x=0
  ·rw[rE (DC e),rF e]
   have m:=mn e
   by_cases r:x.Ref=0
   ·rw[rF (show(!false&&!(x.Char=0))=true by rw[rG (m.1 r)];rfl),rF ⟨rfl,r⟩];rfl
   ·have l:x.Char=0:=rm λl=>r (m.2 l)
    rw[rE (show ¬ (!false&&!(x.Char=0))=true by rw[rH l];decide),rE (λh=>r h.2)];rfl
  ·rw[rF (B8 e),rE e];rfl) (by unfold Jy;rw[rE (by simp)])]
 cases (List.range f.length).findSome? (JA false f)<;>rfl
theorem kq(f:List An) t(h:∀x∈f,Ik x)(j:f.length≤1073741824):∃r,JM f t=some r∧Iv f t=some r:=by
 cases t
 ·exact⟨_,nB f h j,nZ f h j⟩
 ·exact⟨_,p8 f h j,cE f h j⟩
theorem nk(f:List An)(q:f.length≤1073741824):∃r,iter (λ(a:Int × (List Int))=>FK f a.1 a.2) (0,[])=some r∧r.length≤f.length:=by
 refine JF f.length (λk l=>l.1=(k:Int)∧l.2.length≤k) _ ?_ ?_ ⟨rfl,by simp⟩
 ·rintro k ⟨x,out⟩ m ⟨rfl,j⟩
  dsimp only at j ⊢
  left
  unfold FK
  rw[rF (by simpa using m),Af m,AD]
  by_cases r:f[k]!.Ref=0
  ·rw[rE (DC r),AD,Ar (by omega),AD]
   exact⟨_,rfl,rfl,by dsimp only;omega⟩
  ·rw[rF (B8 r),OP (by omega),AD,AD,Ar (by omega),AD]
   exact⟨_,rfl,rfl,by dsimp only;rw[List.length_append,List.length_singleton];omega⟩
 ·rintro⟨x,out⟩ ⟨rfl,j⟩
  dsimp only at j ⊢
  unfold FK
  rw[rE (by simp)]
  exact⟨_,rfl,j⟩
theorem aL{α:Type}[Inhabited α][DecidableEq α]{f}(a b:List α)(j:a.length=b.length)
 (l:∀k:Nat, k<a.length→f k=C3 k (if decide (a[k]! = b[k]!) then none else some false)) (m:f a.length=some (.inr (.nrm ()))) :
    (BA (iter f 0) λ(_:Unit) => some true)=some (decide (a=b)) := by
  rw[Bx (n := a.length) (λk => if decide (a[k]! = b[k]!) then none else some false) l m, Po, Fk]
  by_cases h:a=b
  · subst h;rw[ix, rH rfl];rfl
  · rw[rG h]
    have:((List.range a.length).all λk => decide (a[k]! = b[k]!))=false := by
      rw[← sT];exact λq => h (dT j q)
    rw[this];rfl
theorem cN(x y:Ak):((x.Row=y.Row)&&((x.Col=y.Col)&&((x.H=y.H)&&((x.W=y.W)&&true))))=decide (x=y):=by
 obtain⟨j,l,m,q⟩:=x
 obtain⟨w,A,B,C⟩:=y
 rw[sE];simp
theorem ms(a b:List Ak)(m:a.length≤9223372036854775806):Mr a b=some (decide (a=b)):=by
 unfold Mr
 by_cases j:a.length=b.length
 ·rw[rE (by simp[j])]
  exact aL a b j (λk l=>by
   unfold Ot
   rw[rF (by simpa using l),Af l,Af (by omega),AD,AD,cN,Ar (by omega)]
   generalize a[k]! = x
   generalize b[k]! = y
   by_cases h:x=y<;>simp[h,C3]) (by unfold Ot;rw[rE (by simp)])
 ·rw[rF (by simp;omega),rG (by rintro rfl;exact j rfl)]
theorem fY(x y:Ao)(U:x.Attrs.length≤1073741824):Mo x y=some (decide (x=y)):=by
 unfold Mo
 rw[kg _ _ (by omega)]
 obtain⟨j,l,m,q,w⟩:=x
 obtain⟨A,B,C,E,F⟩:=y
 by_cases I:j=A<;>by_cases J:l=B<;>by_cases M:m=C<;>by_cases O:q=E<;>by_cases T:w=F<;>simp[I,J,M,O,T,gd,AD]
theorem kc(a b:List Ao)(m:a.length≤9223372036854775806)(h:∀x∈a,x.Attrs.length≤1073741824):OI a b=some (decide (a=b)):=by
 unfold OI
 by_cases j:a.length=b.length
 ·rw[rE (by simp[j])]
  exact aL a b j (λk l=>by
   unfold Mg
   rw[rF (by simpa using l),Af l,Af (by omega),AD,AD,fY _ _ (h _ (Bz l)),AD,Ar (by omega)]
   generalize a[k]! = x
   generalize b[k]! = y
   by_cases h:x=y<;>simp[h,C3]) (by unfold Mg;rw[rE (by simp)])
 ·rw[rF (by simp;omega),rG (by rintro rfl;exact j rfl)]
def Z7(g:BF):Prop:=g.Cells.length≤1048576∧g.Merges.length≤1048576∧∀x∈g.Cells,If x.Attrs
structure R1(n:Ac):Prop where
 at_:If n.Attrs
 fl:n.Flow.length≤1048576
 fa:∀e∈n.Flow,If e.Attrs
 gr:Z7 n.Grid
 dr:n.Draw.length≤1048576
def cR(d:Aa):Prop:=d.Nodes.length≤1048576∧∀n∈d.Nodes,R1 n
theorem Vi x y(h:Z7 x):Mf x y=some (decide (x=y)):=by
 obtain⟨l,m,j⟩:=h
 unfold Mf
 rw[ms _ _ (by omega),kc _ _ (by omega) (λe q=>(j e q).1)]
 obtain⟨w,A,B,C⟩:=x
 obtain⟨E,F,I,J⟩:=y
 by_cases l:w=E<;>by_cases m:A=F<;>by_cases j:B=I<;>by_cases M:C=J<;>simp[l,m,j,M,gd,AD]
theorem dN(g:BF)(A:g.Cells.length≤1048576)(h:∀x∈g.Cells,If x.Attrs):iter (λ(a:Int × BF)=>Kh g.Cells a.1 a.2) (0,g)=some g:=by
 have key:∃r,iter (λ(a:Int × BF)=>Kh g.Cells a.1 a.2) (0,g)=some r∧r=g:=by
  refine JF g.Cells.length (λk l=>l=((k:Int),g)) _ ?_ ?_ rfl
  ·rintro k l j rfl
   left
   refine⟨_,?_,rfl⟩
   dsimp only
   unfold Kh
   have m:=(h _ (Bz j)).1
   rw[rF (by simpa using j),Af j,AD,UI m,AD,Ar (by omega),AD,Wm]
   have q:g.Cells.set k (Ao.mk g.Cells[k]!.Row g.Cells[k]!.Col g.Cells[k]!.Text g.Cells[k]!.Ref g.Cells[k]!.Attrs)=g.Cells:=by
    rw[show(Ao.mk g.Cells[k]!.Row g.Cells[k]!.Col g.Cells[k]!.Text g.Cells[k]!.Ref g.Cells[k]!.Attrs)=g.Cells[k]! from rfl,re g.Cells k j]
    exact List.set_getElem_self j
   rw[q]
  ·rintro l rfl
   refine⟨g,?_,rfl⟩
   dsimp only
   unfold Kh
   rw[rE (by simp)]
 obtain⟨r,w,rfl⟩:=key
 exact w
theorem TR{α:Type} b(l:List α)(j:b≤128)(h:l.length≤1048576):app b ([]:List α) l=some l:=by
 unfold app
 rw[rF];rfl
 simp only[uG,ru]
 refine⟨?_,by omega⟩
 calc l.length * b≤1048576 * 128:=Nat.mul_le_mul h j
  _≤_:=by decide
theorem lm(n:Ac)(h:R1 n):ON n=some n:=by
 unfold ON
 have hg:=h.gr
 have j:=h.fl
 rw[UI h.at_.1,AD,lA _ (by omega) h.fa,AD,TR _ _ (by decide) h.dr,AD,TR _ _ (by decide) hg.2.1,AD,TR _ _ (by decide) hg.1,AD]
 have:=dN n.Grid hg.1 hg.2.2
 rw[show(BF.mk n.Grid.Rows n.Grid.Cols n.Grid.Cells n.Grid.Merges)=n.Grid from rfl,this];rfl
theorem Rj{β:Type}(p:Nat→Bool)(F:Nat→β)(l:List Nat):(l.findSome? λk=>if p k then some (F k) else none)=(l.find? p).map F:=by
 induction l with
 | nil=>rfl
 | cons a l j=>rw[sm,List.find?_cons];by_cases h:p a=true<;>simp[h,j]
def Bv(l:List Ac)(id:Int):Option Nat:=(List.range l.length).find? λk=>decide (l[k]!.ID=id)
theorem Ed{l:List Ac}{id}{k}(h:Bv l id=some k):k<l.length∧l[k]!.ID=id:=by
 have j:=tg h
 have m:=List.find?_some h
 exact⟨rp.1 j,tf m⟩
theorem PD(d:Aa)(id:Int)(l:d.Nodes.length≤1048576):Gf d id=some (match Bv d.Nodes id with | some k=>(k:Int) | none=>-1):=by
 unfold Gf
 rw[Bx (n:=d.Nodes.length) (λk=>if decide (d.Nodes[k]!.ID=id) then some (k:Int) else none) (λk j=>by
  unfold Nw
  rw[rF (by simpa using j),Af j,AD,Ar (by omega)]
  by_cases h:d.Nodes[k]!.ID=id
  ·rw[rF (rH h),rF (rH h)];rfl
  ·rw[rE (by simpa using h),rE (by simpa using h)];rfl) (by unfold Nw;rw[rE (by simp)]),Rj,Fk]
 unfold Bv
 cases (List.range d.Nodes.length).find? λk=>decide (d.Nodes[k]!.ID=id)<;>rfl
def PA:Ac:=Ac.mk 1 0 [] [(An.mk 0 2 [])] (BF.mk 0 0 [] []) []
theorem G3:H1 PA=some [2]:=by
 unfold H1 Kx
 have j:(λ(a:Int × (List Int))=>HA PA.Flow a.1 a.2) (0,[])=some (.inl (1,[2])):=by
  show HA [An.mk 0 2 []] 0 []=_
  unfold HA;rfl
 have l:(λ(a:Int × (List Int))=>HA PA.Flow a.1 a.2) (1,[2])=some (.inr [2]):=by
  show HA [An.mk 0 2 []] 1 [2]=_
  unfold HA;rfl
 have m:(λ(a:Int × (List Int))=>Ee PA a.1 a.2) (0,[2])=some (.inr [2]):=by
  show Ee PA 0 [2]=_
  unfold Ee;rfl
 rw[B7 j,Ba l,AD,AD,Ba m];rfl
theorem ld{μ:Ac→Nat}{γ:BF→Nat}{ψ:Ao→Nat}{ρ:Ak→Nat}{δ:A3→Nat}{ν:An→Nat}{κ:AE→Nat}
  (m:∀n,(n.Attrs.map κ).sum+(n.Flow.map ν).sum+γ n.Grid+(n.Draw.map δ).sum+1≤μ n) (hg:∀g,(g.Cells.map ψ).sum+(g.Merges.map ρ).sum+1≤γ g)
  (hc:∀c,(c.Attrs.map κ).sum+1≤ψ c) (w:∀r,1≤ρ r) (hd:∀o,1≤δ o) (A:∀e,(e.Attrs.map κ).sum+1≤ν e) (j:∀a,a.Name.length+a.Value.length+1≤κ a)
  {d:Aa} (C:(d.Nodes.map μ).sum≤1048576):cR d:=by
 have E:=MM (μ:=μ) (λn=>by have:=m n;omega) d.Nodes
 refine⟨by omega,λn B=>?_⟩
 have F:=HZ (μ:=μ) B
 have I:=m n
 have J:=hg n.Grid
 have q:=fe (ν:=ν) (κ:=κ) A j (f:=n.Flow) (by omega)
 have M:=MM (μ:=ψ) (λc=>by have:=hc c;omega) n.Grid.Cells
 have O:=MM (μ:=ρ) w n.Grid.Merges
 have T:=MM (μ:=δ) hd n.Draw
 refine⟨TZ j (by omega),q.1,q.2,⟨by omega,by omega,λc l=>TZ j ?_⟩,by omega⟩
 have U:=HZ (μ:=ψ) l
 have:=hc c
 omega
theorem Fi{n:Nat}(h:n<2147483648):IntKind.i32.wrap (n:Int)=(n:Int):=by
 have e:(n:Int) % (2 ^ (32:Nat):Int)=(n:Int):=uw (by omega) (by omega)
 show(if(true&&((n:Int) % (2 ^ (32:Nat):Int) ≥ (2 ^ (31:Nat):Int)))=true then(n:Int) % (2 ^ (32:Nat):Int)-(2 ^ (32:Nat):Int) else(n:Int) % (2 ^ (32:Nat):Int))=_
 rw[e,rE]
 simp only[rz,rJ]
 omega
theorem We{n:Nat}(h:n<9223372036854775808):IntKind.i64.wrap (n:Int)=(n:Int):=by
 have e:(n:Int) % (2 ^ (64:Nat):Int)=(n:Int):=uw (by omega) (by omega)
 show(if(true&&((n:Int) % (2 ^ (64:Nat):Int) ≥ (2 ^ (63:Nat):Int)))=true then(n:Int) % (2 ^ (64:Nat):Int)-(2 ^ (64:Nat):Int) else(n:Int) % (2 ^ (64:Nat):Int))=_
 rw[e,rE]
 simp only[rz,rJ]
 omega
theorem Lt(i a b:Nat)(j:b<2 ^ i)(l:a * 2 ^ i+b<2147483648):D5 .i32 ((a * 2 ^ i:Nat):Int) (b:Int)=((a * 2 ^ i+b:Nat):Int):=by
 unfold D5
 have m:(BitVec.ofInt 32 ((a * 2 ^ i:Nat):Int) ||| BitVec.ofInt 32 (b:Int)).toNat=a * 2 ^ i+b:=by
  rw[BitVec.toNat_or,BitVec.ofInt_natCast,BitVec.ofInt_natCast,BitVec.toNat_ofNat,BitVec.toNat_ofNat,uS (by omega),uS (by omega)]
  rw[← Nat.shiftLeft_eq,Nat.shiftLeft_add_eq_or_of_lt j]
 show IntKind.i32.wrap ((BitVec.ofInt 32 ((a * 2 ^ i:Nat):Int) ||| BitVec.ofInt 32 (b:Int)).toNat:Int)=_
 rw[m];exact Fi l
theorem eZ:∀b:Fin 256,CE .u8 ((b.val:Nat):Int) 31=((b.val % 32:Nat):Int):=by decide +kernel
theorem fQ:∀b:Fin 256,CE .u8 ((b.val:Nat):Int) 15=((b.val % 16:Nat):Int):=by decide +kernel
theorem mV:∀b:Fin 256,CE .u8 ((b.val:Nat):Int) 7=((b.val % 8:Nat):Int):=by decide +kernel
theorem LB:∀b:Fin 256,CE .u8 ((b.val:Nat):Int) 63=((b.val % 64:Nat):Int):=by decide +kernel
theorem LN(i a:Nat)(j:i≤32)(l:a * 2 ^ i<2147483648):DR .i32 (a:Int) i=((a * 2 ^ i:Nat):Int):=by
 unfold DR
 show IntKind.i32.wrap ((a:Int) * 2 ^ (min i 32))=_
 rw[Nat.min_eq_left j,show(a:Int) * 2 ^ i=((a * 2 ^ i:Nat):Int) by push_cast;rfl,Fi l]
theorem oJ:∀c:Fin 256,F5[c.val]! = (Lib.firstT c.val:Int):=by decide +kernel
theorem o7:∀c:Fin 256,D5 .i32 (O1 .i32 (IntKind.i32.wrap (c.val:Int)) (FO .i32 (DR .i32 (IntKind.i32.wrap 241) 31) 31)) (CE .i32 65533 (FO .i32 (DR .i32 (IntKind.i32.wrap 241) 31) 31))=65533:=by decide +kernel
theorem jg:∀c:Fin 256,IntKind.i64.wrap (CE .u8 (Lib.firstT c.val:Int) 7)=((Lib.firstT c.val % 8:Nat):Int):=by decide +kernel
theorem kX:∀c:Fin 256,AN Pm (FO .u8 (Lib.firstT c.val:Int) 4)=some (IP.mk (Lib.accLo (Lib.firstT c.val / 16)) (Lib.accHi (Lib.firstT c.val / 16))):=by decide +kernel
theorem eA:∀c:Fin 256,128≤c.val→Lib.firstT c.val=241∨(2≤Lib.firstT c.val % 8∧Lib.firstT c.val % 8≤4∧Lib.firstT c.val<240):=by decide +kernel
theorem jb(c d:Fin 256):D5 .i32 (DR .i32 (IntKind.i32.wrap (CE .u8 ((c.val:Nat):Int) 31)) 6) (IntKind.i32.wrap (CE .u8 ((d.val:Nat):Int) 63))=((c.val % 32 * 64+d.val % 64:Nat):Int):=by
 rw[eZ,LB,Fi (by omega),Fi (by omega),LN 6 _ (by omega) (by omega),Lt 6 _ _ (by omega) (by omega)]
theorem lG(c d e:Fin 256):D5 .i32 (D5 .i32 (DR .i32 (IntKind.i32.wrap (CE .u8 ((c.val:Nat):Int) 15)) 12) (DR .i32 (IntKind.i32.wrap (CE .u8 ((d.val:Nat):Int) 63)) 6)) (IntKind.i32.wrap (CE .u8 ((e.val:Nat):Int) 63)) =
  ((c.val % 16 * 4096+d.val % 64 * 64+e.val % 64:Nat):Int):=by
 rw[fQ,LB,LB,Fi (by omega),Fi (by omega),Fi (by omega),LN 12 _ (by omega) (by omega),LN 6 _ (by omega) (by omega),Lt 12 _ _ (by omega) (by omega),
  show c.val % 16 * 2 ^ 12+d.val % 64 * 2 ^ 6=(c.val % 16 * 64+d.val % 64) * 2 ^ 6 by omega,Lt 6 _ _ (by omega) (by omega)]
theorem ig(c d e f:Fin 256):D5 .i32 (D5 .i32 (D5 .i32 (DR .i32 (IntKind.i32.wrap (CE .u8 ((c.val:Nat):Int) 7)) 18) (DR .i32 (IntKind.i32.wrap (CE .u8 ((d.val:Nat):Int) 63)) 12)) (DR .i32 (IntKind.i32.wrap (CE .u8 ((e.val:Nat):Int) 63)) 6)) (IntKind.i32.wrap (CE .u8 ((f.val:Nat):Int) 63)) =
  ((c.val % 8 * 262144+d.val % 64 * 4096+e.val % 64 * 64+f.val % 64:Nat):Int):=by
 rw[mV,LB,LB,LB,Fi (by omega),Fi (by omega),Fi (by omega),Fi (by omega),LN 18 _ (by omega) (by omega),LN 12 _ (by omega) (by omega),LN 6 _ (by omega) (by omega),Lt 18 _ _ (by omega) (by omega),
  show c.val % 8 * 2 ^ 18+d.val % 64 * 2 ^ 12=(c.val % 8 * 64+d.val % 64) * 2 ^ 12 by omega,Lt 12 _ _ (by omega) (by omega),
  show(c.val % 8 * 64+d.val % 64) * 2 ^ 12+e.val % 64 * 2 ^ 6=((c.val % 8 * 64+d.val % 64) * 64+e.val % 64) * 2 ^ 6 by omega,Lt 6 _ _ (by omega) (by omega)]
theorem Nr(s:List UInt8) k(h:k<s.length):s.getD k 0=s[k]!:=by
 rw[re s k h,tH,rK h];rfl
theorem mX(s:List UInt8)(h:s≠[])(j:128≤(s.getD 0 0).toNat):OT s=some (((Lib.decodeL s).1:Int),((Lib.decodeL s).2:Int)):=by
 have l:0<s.length:=tE.2 h
 rw[Lib.decodeL_N]
 unfold OT
 rw[rE (by rw[rJ];omega),show(0:Int)=((0:Nat):Int) from rfl,Af l,AD]
 rw[Nr s 0 l] at j ⊢
 generalize s[0]! = c at j ⊢
 obtain⟨C,hC⟩:∃C:Fin 256,C.val=c.toNat:=⟨⟨c.toNat,c.toNat_lt⟩,rfl⟩
 rw[← hC] at j ⊢
 rw[Af (l:=F5) (by rw[ef];exact C.isLt),AD,oJ,kX,jg]
 rcases eA C j with B | ⟨m,q,w⟩
 ·rw[rF (by rw[rJ];omega),Lib.bad_eq _ _ _ _ _ C.isLt B,B]
  show some (_,(1:Int))=_
  rw[show((241:Nat):Int)=241 from rfl,o7 C];rfl
 ·rw[rE (by rw[rJ];omega),AD]
  have A:=Lib.slow_eq s.length C.val (s.getD 1 0).toNat (s.getD 2 0).toNat (s.getD 3 0).toNat l (UInt8.toNat_lt _) (UInt8.toNat_lt _) (UInt8.toNat_lt _) w
  rw[← A]
  generalize hsz:Lib.firstT C.val % 8=sz at m q ⊢
  generalize Lib.accLo (Lib.firstT C.val / 16)=V
  generalize Lib.accHi (Lib.firstT C.val / 16)=X
  unfold Lib.slowN
  by_cases I:s.length<sz
  ·rw[rF (by rw[rJ];omega),rF I];rfl
  rw[rE (by rw[rJ];omega),rE I,show(1:Int)=((1:Nat):Int) from rfl,Af (by omega),AD,Nr s 1 (by omega)]
  generalize s[1]! = d
  obtain⟨D,Z⟩:∃D:Fin 256,D.val=d.toNat:=⟨⟨d.toNat,d.toNat_lt⟩,rfl⟩
  rw[← Z]
  by_cases J:D.val<V∨X<D.val
  ·rw[rF (by simp only[rV,rJ];omega),rF J];rfl
  rw[rE (by simp only[rV,rJ];omega),rE J]
  by_cases M:sz≤2
  ·rw[rF (by rw[rJ];omega),rF M,jb];rfl
  rw[rE (by rw[rJ];omega),rE M,show(2:Int)=((2:Nat):Int) from rfl,Af (by omega),AD,Nr s 2 (by omega)]
  generalize s[2]! = e
  obtain⟨E,hE⟩:∃E:Fin 256,E.val=e.toNat:=⟨⟨e.toNat,e.toNat_lt⟩,rfl⟩
  rw[← hE]
  by_cases O:E.val<128∨191<E.val
  ·rw[rF (by simp only[rV,rJ];omega),rF O];rfl
  rw[rE (by simp only[rV,rJ];omega),rE O]
  by_cases T:sz≤3
  ·rw[rF (by rw[rJ];omega),rF T,lG];rfl
  rw[rE (by rw[rJ];omega),rE T,show(3:Int)=((3:Nat):Int) from rfl,Af (by omega),AD,Nr s 3 (by omega)]
  generalize s[3]! = f
  obtain⟨F,hF⟩:∃F:Fin 256,F.val=f.toNat:=⟨⟨f.toNat,f.toNat_lt⟩,rfl⟩
  rw[← hF]
  by_cases U:F.val<128∨191<F.val
  ·rw[rF (by simp only[rV,rJ];omega),rF U];rfl
  rw[rE (by simp only[rV,rJ];omega),rE U,ig];rfl
theorem ip(s:List UInt8)(h:s≠[]):Mk s=some (((Lib.decodeL s).1:Int),((Lib.decodeL s).2:Int)):=by
 have l:0<s.length:=tE.2 h
 unfold Mk
 rw[rG h,show((!false)==true)=true from rfl,Aj,show(0:Int)=((0:Nat):Int) from rfl,Af l,AD,tL,rz]
 by_cases m:(s[0]!).toNat<128
 ·rw[rF (by rw[rJ];omega),AD,Fi (by omega)]
  obtain⟨c,t,rfl⟩:=List.exists_cons_of_ne_nil h
  have j:c.toNat<128:=m
  rw[Lib.decodeL_ascii c t j];rfl
 ·rw[rE (by rw[rJ];omega),mX s h (by rw[Nr s 0 l];omega),Bo]
def Fj(r:Nat):Bool:=(r=10)||!Gb (r:Int)
def Gp:Nat→List UInt8→Bool
 | 0,_=>true
 | n+1,s=>if s=[] then true else if((Lib.decodeL s).1=65533∧(Lib.decodeL s).2=1)∨Fj (Lib.decodeL s).1=true then false else Gp n (s.drop (Lib.decodeL s).2)
theorem Xo n(s:List UInt8):Gp (n+1) s=if s=[] then true else if((Lib.decodeL s).1=65533∧(Lib.decodeL s).2=1)∨Fj (Lib.decodeL s).1=true then false else Gp n (s.drop (Lib.decodeL s).2):=rfl
def Nj:Nat→List UInt8→Bool
 | 0,_=>true
 | n+1,s=>if s=[] then true else if Fj (Lib.decodeL s).1=true then false else Nj n (s.drop (Lib.decodeL s).2)
theorem Vk n(s:List UInt8):Nj (n+1) s=if s=[] then true else if Fj (Lib.decodeL s).1=true then false else Nj n (s.drop (Lib.decodeL s).2):=rfl
theorem gb:∀(n:Nat) (s:List UInt8),s.length≤n→(Lib.validD s&&Nj n s)=Gp n s:=by
 intro n
 induction n with
 | zero=>intro s q;obtain rfl:=tB (Nat.le_zero.1 q);rfl
 | succ n w=>
  intro s q
  rw[Xo,Vk]
  by_cases j:s=[]
  ·subst j;rfl
  ·have A:=Lib.decodeL_width s
   have B:=tE.2 j
   rw[rE j,rE j,Lib.validD_step s j]
   by_cases l:(Lib.decodeL s).1=65533∧(Lib.decodeL s).2=1
   ·rw[rF l,rF (show((Lib.decodeL s).1=65533∧(Lib.decodeL s).2=1)∨Fj (Lib.decodeL s).1=true from .inl l)];rfl
   ·rw[rE l]
    by_cases m:Fj (Lib.decodeL s).1=true
    ·rw[rF m,rF (.inr m),uN]
    ·rw[rE m,rE (by rintro(h | h);exact l h;exact m h)]
     exact w _ (by rw[uU];omega)
theorem Xg(r:Nat)(h:r≤1114111):IntKind.i64.wrap (r:Int)=(r:Int):=We (by omega)
theorem jy(s:List UInt8):Ns s=some (Gp s.length s):=by
 unfold Ns
 have key:∀(n:Nat) (s:List UInt8),s.length≤n→(BA (iter (λ(a:(List UInt8))=>FE a) s) λ(_:Unit)=>some true)=some (Gp n s):=by
  intro n
  induction n with
  | zero=>
   intro s hs
   obtain rfl:=tB (Nat.le_zero.1 hs)
   have h1:(λ(a:(List UInt8))=>FE a) []=some (.inr (.nrm ())):=by
    show FE []=_
    unfold FE;rfl
   rw[Ba h1];rfl
  | succ n ih=>
   intro s hs
   rw[Xo]
   by_cases hn:s=[]
   ·subst hn
    have h1:(λ(a:(List UInt8))=>FE a) []=some (.inr (.nrm ())):=by
     show FE []=_
     unfold FE;rfl
    rw[Ba h1];rfl
   ·have hw:=Lib.decodeL_width s
    have hle:=Lib.decodeL_le s hn
    have hr:=Lib.decodeL_rune s
    have hstep:FE s=if((Lib.decodeL s).1=65533∧(Lib.decodeL s).2=1)∨Fj (Lib.decodeL s).1=true then some (.inr (.ext false)) else some (.inl (s.drop (Lib.decodeL s).2)):=by
     unfold FE Fj
     rw[rF (B8 hn),ip s hn,Bo,Xg _ hr,Zx]
     generalize (Lib.decodeL s).1=r at *
     generalize (Lib.decodeL s).2=w at *
     by_cases h1:r=65533∧w=1
     ·obtain⟨rfl,rfl⟩:=h1
      rw[rF (.inl ⟨rfl,rfl⟩)];rfl
     ·have e1:(((r:Int)=65533)&&((w:Int)=1))=false:=by
       rw[← sT,rO,rJ,rJ];omega
      by_cases h2:r=10
      ·subst h2
       rw[rF (.inr (by rfl)),e1];rfl
      ·have e2:(decide ((r:Int)=10))=false:=rG (by omega)
       rw[e1,e2,rG h2]
       show(AC (gd true (some (Gb (r:Int)))) λ(r3:Bool)=>_)=_
       rw[Aj,AD,kS s w hle,AD]
       cases Gb (r:Int)
       ·rw[rF (show(r=65533∧w=1)∨(false||!false)=true from .inr rfl)];rfl
       ·rw[rE (show ¬ ((r=65533∧w=1)∨(false||!true)=true) by rintro(h | h);exact h1 h;exact absurd h (by decide))];rfl
    by_cases hb:((Lib.decodeL s).1=65533∧(Lib.decodeL s).2=1)∨Fj (Lib.decodeL s).1=true
    ·rw[rF hb] at hstep
     rw[Ba (f:=λ(a:(List UInt8))=>FE a) hstep,rE hn,rF hb];rfl
    ·rw[rE hb] at hstep
     rw[B7 (f:=λ(a:(List UInt8))=>FE a) hstep,rE hn,rE hb]
     exact ih _ (by rw[uU];omega)
 exact key s.length s (rN _)
theorem oV(s:List UInt8) p:Fh s p=Lib.decodeL (s.drop p):=(Lib.decodeL_drop ⟨s.toArray⟩ p).symm
theorem mK(s:List UInt8)(hs:s.length≤9223372036854775807):MY s=some (Gp s.length s):=by
 unfold MY Py QG
 rw[rF hs,AD,← gb s.length s (rN _)]
 cases Lib.validD s with
 | false=>rfl
 | true=>
  rw[rE (by decide),rz]
  have key:∀(n p:Nat),s.length-p≤n→(BA (iter (λ(a:(Nat))=>E8 s a) p) λ(_:Unit)=>some true)=some (Nj n (s.drop p)):=by
   intro n
   induction n with
   | zero=>
    intro p hp
    have h1:(λ(a:(Nat))=>E8 s a) p=some (.inr (.nrm ())):=by
     show E8 s p=_
     unfold E8;rw[rE (by rw[rJ];omega)]
    rw[Ba h1];rfl
   | succ n ih=>
    intro p hp
    rw[Vk]
    by_cases hn:s.length≤p
    ·have h1:(λ(a:(Nat))=>E8 s a) p=some (.inr (.nrm ())):=by
      show E8 s p=_
      unfold E8;rw[rE (by rw[rJ];omega)]
     rw[Ba h1,rF (ss hn)];rfl
    ·have hne:s.drop p≠[]:=by
      intro e
      have:=rh List.length e
      rw[uU,uG] at this
      omega
     have hw:=Lib.decodeL_width (s.drop p)
     have hr:=Lib.decodeL_rune (s.drop p)
     have hstep:E8 s p=if Fj (Lib.decodeL (s.drop p)).1=true then some (.inr (.ext false)) else some (.inl (p+(Lib.decodeL (s.drop p)).2)):=by
      unfold E8 Fj
      rw[rF (by rw[rJ];omega),oV,Xg _ hr,WG]
      generalize (Lib.decodeL (s.drop p)).1=r at *
      generalize (Lib.decodeL (s.drop p)).2=w at *
      by_cases h2:r=10
      ·subst h2;rfl
      ·rw[rG h2,rG (show ¬ ((r:Int)=10) by omega)]
       show(AC (gd true (some (Gb (r:Int)))) λ(r3:Bool)=>_)=_
       rw[Aj,AD]
     rw[rE hne]
     by_cases hb:Fj (Lib.decodeL (s.drop p)).1=true
     ·rw[rF hb] at hstep
      rw[Ba (f:=λ(a:(Nat))=>E8 s a) hstep,rF hb];rfl
     ·rw[rE hb] at hstep
      rw[B7 (f:=λ(a:(Nat))=>E8 s a) hstep,rE hb,List.drop_drop]
      exact ih _ (by omega)
  have:=key s.length 0 (by omega)
  rw[tW] at this
  exact this
theorem TQ{ρ:Type}{f g}{n}(I:Nat→Prop)(w:I 0)(h:∀k:Nat, k<n→I k→∃o:Option ρ, f k=C3 k o∧g k=C3 k o∧(o=none→I (k+1)))
 (A:f n=some (.inr (.nrm ()))) (hg:g n=some (.inr (.nrm ()))):∃o:Option ρ, iter f 0=some (DE o)∧iter g 0=some (DE o)∧(o=none→I n) := by
  have key:∀m k:Nat, k+m=n→I k→∃o:Option ρ, iter f (k:Int)=some (DE o)∧iter g (k:Int)=some (DE o)∧(o=none→I n) := by
    intro m
    induction m with
    | zero =>
      intro k B j
      obtain rfl:k=n := by omega
      exact⟨none, Ba A, Ba hg, λ_ => j⟩
    | succ m C =>
      intro k B j
      obtain⟨o, l, q, E⟩ := h k (by omega) j
      cases o with
      | some r => exact⟨some r, Ba l, Ba q, λe => by cases e⟩
      | none =>
        obtain⟨o, F, J, M⟩ := C (k+1) (by omega) (E rfl)
        exact⟨o, (B7 l).trans F, (B7 q).trans J, M⟩
  exact key n 0 (by omega) w
theorem P0 x y:F1 x y=some (if x<y then -1 else if y<x then 1 else 0):=by
 unfold F1 Le
 rw[rH (rfl:x=x),rH (rfl:y=y),AD,AD,rE (by decide),rE (by decide)]
 by_cases j:x<y
 ·rw[rF (rH j),rF j]
 ·rw[rE (by simpa using j),rE j]
  by_cases l:y<x
  ·rw[rF (rH l),rF l]
  ·rw[rE (by simpa using l),rE l]
theorem Xr a b:H8 [a,b]=some (if a≠0 then a else b):=by
 unfold H8
 by_cases j:a≠0
 ·have m:(λ(x:Int)=>Dh [a,b] x) 0=some (.inr (.ext a)):=by
   show Dh [a,b] 0=_
   unfold Dh
   rw[rF (by simp),show AN [a,b] 0=some a from rfl,AD,rF (B8 j)]
  rw[Ba m,rF j];rfl
 ·have q:a=0:=rt.1 j
  have m:(λ(x:Int)=>Dh [a,b] x) 0=some (.inl 1):=by
   show Dh [a,b] 0=_
   unfold Dh
   rw[rF (by simp),show AN [a,b] 0=some a from rfl,AD,rE (DC q)];rfl
  by_cases A:b≠0
  ·have w:(λ(x:Int)=>Dh [a,b] x) 1=some (.inr (.ext b)):=by
    show Dh [a,b] 1=_
    unfold Dh
    rw[rF (by simp),show AN [a,b] 1=some b from rfl,AD,rF (B8 A)]
   rw[B7 m,Ba w,rE j];rfl
  ·have l:b=0:=rt.1 A
   have w:(λ(x:Int)=>Dh [a,b] x) 1=some (.inl 2):=by
    show Dh [a,b] 1=_
    unfold Dh
    rw[rF (by simp),show AN [a,b] 1=some b from rfl,AD,rE (DC l)];rfl
   have B:(λ(x:Int)=>Dh [a,b] x) 2=some (.inr (.nrm ())):=by
    show Dh [a,b] 2=_
    unfold Dh
    rw[rE (by simp)]
   rw[B7 m,B7 w,Ba B,rE j,l];rfl
def Bk(a b c d:Int):Int:=if a<b then -1 else if b<a then 1 else if c<d then -1 else if d<c then 1 else 0
theorem Y0 a b c d:(if(if a<b then -1 else if b<a then 1 else 0)≠(0:Int) then(if a<b then -1 else if b<a then 1 else 0) else if c<d then -1 else if d<c then 1 else(0:Int))=Bk a b c d:=by
 unfold Bk
 by_cases j:a<b
 ·simp[j]
 ·by_cases l:b<a
  ·simp[j,l]
  ·simp[j,l]
theorem RS a b c d:0≤Bk a b c d↔(b<a∨(b=a∧d≤c)):=by
 unfold Bk
 split
 ·constructor<;>intro h<;>omega
 ·split
  ·constructor<;>intro h<;>omega
  ·split
   ·constructor<;>intro h<;>omega
   ·split
    ·constructor<;>intro h<;>omega
    ·constructor<;>intro h<;>omega
theorem jt(a b:Ao):L7 a b=some (Bk a.Row b.Row a.Col b.Col):=by
 unfold L7
 rw[P0,P0,AD,AD,Xr,AD,Y0]
theorem Ds x a b:Ck x a b=some (decide (a≤x∧x≤b)):=by
 rw[NQ]
 congr 1
 rw[sE];simp
def Gv(j l:Int)(c:Ao):Prop:=0≤c.Row∧c.Row<j∧0≤c.Col∧c.Col<l∧0≤c.Ref∧c.Ref≤1073741824
instance (rows cols:Int) (c:Ao):Decidable (Gv rows cols c):=by unfold Gv;infer_instance
def JG(c:Ao):Bool:=(c.Text=[])&&(c.Ref=0)&&(c.Attrs=[])
def LA(l m:Int)(j:Bool)(c:Ao):Int:=
 if ¬ Gv l m c then 2 else if Gp c.Text.length c.Text=false then 23 else if Bw c.Attrs false≠0 then Bw c.Attrs false else if(!j&&JG c)=true then 4 else 0
def H3(m q:Int)(j:Bool)(l:List Ao)(k:Nat):Option Int:=
 if LA m q j l[k]!≠0 then some (LA m q j l[k]!) else if 0<k∧0≤Bk l[k-1]!.Row l[k]!.Row l[k-1]!.Col l[k]!.Col then some 5 else none
def Im(m q:Int)(j:Bool)(l:List Ao):Int:=((List.range l.length).findSome? (H3 m q j l)).getD 0
theorem ZV(l:List AE):decide ((l.length:Int)=0)=decide (l=[]):=by
 rw[sE,rJ,rJ,← tT];omega
def Qz(c:Ao):Prop:=If c.Attrs∧c.Text.length≤1073741824
theorem ew(l:List Ao) k(C:k<l.length)(E:l.length≤9223372036854775806) :
  (AC (gd ((decide (0<(k:Int)))==true) (AY .i64 ((k:Int)-1))) λ(q:Int)=>
   AC (gd ((decide (0<(k:Int)))==true) (AN l q)) λ(w:Ao)=>
   AC (gd ((decide (0<(k:Int)))==true) (L7 w l[k]!)) λ(A:Int)=>
   if((0<(k:Int))&&(0≤A)) then(some (.inr (.ext 5)):Option (Int ⊕ (Ax Unit Int))) else(
    AC (AY .i64 ((k:Int)+1)) λ(B:Int)=>some (.inl B)))=C3 k (if 0<k∧0≤Bk l[k-1]!.Row l[k]!.Row l[k-1]!.Col l[k]!.Col then some 5 else none):=by
 by_cases m:0<k
 ·rw[rH (show(0:Int)<k by omega),show((true==true):Bool)=true from rfl,Aj,Ey m (by omega),AD,Aj,Af (by omega),AD,Aj,jt,AD]
  by_cases j:0≤Bk l[k-1]!.Row l[k]!.Row l[k-1]!.Col l[k]!.Col
  ·rw[rF (show(true&&(0≤Bk l[k-1]!.Row l[k]!.Row l[k-1]!.Col l[k]!.Col))=true by rw[rH j];rfl),rF ⟨m,j⟩];rfl
  ·rw[rE (show ¬ (true&&(0≤Bk l[k-1]!.Row l[k]!.Row l[k-1]!.Col l[k]!.Col))=true by rw[rG j];decide),rE (λh=>j h.2),Ar (by omega)];rfl
 ·obtain rfl:k=0:=by omega
  rw[rE (show ¬ (0<0∧_) from λh=>absurd h.1 (by decide))];rfl
theorem mJ j m w (l:List Ao) (U:l.length≤1073741824) (M:∀c∈l,Qz c):On l j m w=some (Im j m w l):=by
 unfold On
 rw[Bx (n:=l.length) (H3 j m w l) (λk A=>by
  obtain⟨J,V⟩:=M _ (Bz A)
  have E:=ew l k A (by omega)
  unfold NB H3 LA
  rw[rF (by simpa using A),Af A,AD]
  by_cases B:Gv j m l[k]!
  ·have F:=B
   unfold Gv at F
   rw[rE (by simp only[rV,rJ];omega),rE (by simp only[rV,rJ];omega),jy,AD,R7 _ J.2 (by have:=J.1;omega),AD,E]
   rw[rE (rt.2 B)]
   cases O:Gp l[k]!.Text.length l[k]!.Text with
   | false=>rfl
   | true=>
    rw[rE (show ¬ ((!true)=true) by decide),rE (show ¬ (true=false) by decide)]
    by_cases q:Bw l[k]!.Attrs false=0
    ·rw[rE (DC q),rE (rt.2 q)]
     have T:OM l[k]! = some (JG l[k]!):=by unfold OM JG;rw[ZV]
     rw[T,AD]
     by_cases C:(!w&&JG l[k]!)=true
     ·rw[rF (by rw[Bool.and_comm];exact C),rF C];rfl
     ·rw[rE (by rw[Bool.and_comm];exact C),rE C,rE (show ¬ ((0:Int)≠0) from λh=>h rfl)]
    ·rw[rF (B8 q),rF q,rF q];rfl
  ·rw[rF B]
   unfold Gv at B
   by_cases I:((((l[k]!.Row<0)||(j≤l[k]!.Row))||(l[k]!.Col<0))||(m≤l[k]!.Col))=true
   ·rw[rF I];rfl
   ·rw[rE I,rF (by simp only[rV,rJ] at I ⊢;omega)];rfl) (by unfold NB;rw[rE (by simp)]),Eu]
 rfl
theorem d9(l:List Ao) k(J:k<l.length)(M:l.length≤9223372036854775806) :
  (AC (gd ((decide (0<(k:Int)))==true) (AY .i64 ((k:Int)-1))) λ(F:Int)=>
      AC (gd ((decide (0<(k:Int)))==true) (AN l F)) λ(j:Ao)=>
      AC (gd ((((decide (0<(k:Int)))==true)&&((decide (l[k]!.Row<j.Row))==false))&&((decide (l[k]!.Row=j.Row))==true)) (AY .i64 ((k:Int)-1))) λ(I:Int)=>
      AC (gd ((((decide (0<(k:Int)))==true)&&((decide (l[k]!.Row<j.Row))==false))&&((decide (l[k]!.Row=j.Row))==true)) (AN l I)) λ(w:Ao)=>
      if((0<(k:Int))&&((l[k]!.Row<j.Row)||((l[k]!.Row=j.Row)&&(l[k]!.Col≤w.Col)))) then(some (.inr (.ext 5)):Option (Int ⊕ (Ax Unit Int))) else(
       AC (AY .i64 ((k:Int)+1)) λ(A:Int)=>some (.inl A)))=C3 k (if 0<k∧0≤Bk l[k-1]!.Row l[k]!.Row l[k-1]!.Col l[k]!.Col then some 5 else none):=by
 have m:=RS l[k-1]!.Row l[k]!.Row l[k-1]!.Col l[k]!.Col
 by_cases B:0<k
 ·rw[rH (show(0:Int)<k by omega),show((true==true):Bool)=true from rfl,Aj,Ey B (by omega),AD,Aj,Af (show k-1<l.length by omega),AD]
  by_cases q:l[k]!.Row<l[k-1]!.Row
  ·rw[rH q,rF (show 0<k∧0≤Bk l[k-1]!.Row l[k]!.Row l[k-1]!.Col l[k]!.Col from⟨B,m.2 (.inl q)⟩)];rfl
  ·by_cases C:l[k]!.Row=l[k-1]!.Row
   ·rw[rG q,rH C,show(((true&&(false==false))&&(true==true)):Bool)=true from rfl,Aj,AD,Aj,Af (show k-1<l.length by omega),AD]
    by_cases E:l[k]!.Col≤l[k-1]!.Col
    ·rw[rH E,rF (show 0<k∧0≤Bk l[k-1]!.Row l[k]!.Row l[k-1]!.Col l[k]!.Col from⟨B,m.2 (.inr ⟨C,E⟩)⟩)];rfl
    ·rw[rG E,rE (show ¬ (0<k∧0≤Bk l[k-1]!.Row l[k]!.Row l[k-1]!.Col l[k]!.Col) from λh=>by have:=m.1 h.2;omega),Ar (by omega)];rfl
   ·rw[rG q,rG C,rE (show ¬ (0<k∧0≤Bk l[k-1]!.Row l[k]!.Row l[k-1]!.Col l[k]!.Col) from λh=>by have:=m.1 h.2;omega),Ar (by omega)];rfl
 ·obtain rfl:k=0:=by omega
  rw[rE (show ¬ (0<0∧_) from λh=>absurd h.1 (by decide))];rfl
theorem iz j m w (l:List Ao) (V:l.length≤1073741824) (M:∀c∈l,Qz c) (X:0≤j∧j≤2147483647) (O:0≤m∧m≤2147483647):NX l j m w=some (Im j m w l):=by
 unfold NX
 rw[Bx (n:=l.length) (H3 j m w l) (λk A=>by
  obtain⟨F,Z⟩:=M _ (Bz A)
  have C:=d9 l k A (by omega)
  unfold Nx H3 LA
  rw[rF (by simpa using A),Af A,AD,CP (by omega) (by omega),AD,Ds,AD,Ds,C]
  by_cases B:Gv j m l[k]!
  ·have E:=B
   unfold Gv at E
   rw[rE (rt.2 B),rH (show 0≤l[k]!.Row∧l[k]!.Row≤j-1 by omega),show((!true)==false)=true from rfl,Aj,CP (by omega) (by omega),AD,Aj,Ds,AD,rH (show 0≤l[k]!.Col∧l[k]!.Col≤m-1 by omega),
    show(((!true)||(!true))==false)=true from rfl,Aj,AD,rH (show 0≤l[k]!.Ref∧l[k]!.Ref≤1073741824 by omega),rE (by decide),mK _ (by omega),AD,TT _ _ F.2 (by have:=F.1;omega),AD]
   cases T:Gp l[k]!.Text.length l[k]!.Text with
   | false=>rfl
   | true=>
    rw[rE (show ¬ ((!true)=true) by decide),rE (show ¬ (true=false) by decide)]
    by_cases q:Bw l[k]!.Attrs false=0
    ·rw[rE (DC q),rE (rt.2 q)]
     have U:O7 l[k]! = some (JG l[k]!):=by unfold O7 JG;rw[ZV]
     rw[U]
     cases w with
     | true=>rfl
     | false=>
      show(AC (gd true (some (JG l[k]!))) λ(r5:Bool)=>_)=_
      rw[Aj,AD]
      cases JG l[k]!<;>rfl
    ·rw[rF (B8 q),rF q,rF q];rfl
  ·rw[rF B]
   unfold Gv at B
   by_cases I:0≤l[k]!.Row∧l[k]!.Row≤j-1
   ·rw[rH I,show((!true)==false)=true from rfl,Aj,CP (by omega) (by omega),AD,Aj,Ds,AD]
    by_cases J:0≤l[k]!.Col∧l[k]!.Col≤m-1
    ·rw[rH J,show(((!true)||(!true))==false)=true from rfl,Aj,AD,rG (show ¬ (0≤l[k]!.Ref∧l[k]!.Ref≤1073741824) by omega)];rfl
    ·rw[rG J];rfl
   ·rw[rG I];rfl) (by unfold Nx;rw[rE (by simp)]),Eu]
 rfl
theorem Vp{ρ:Type}{f}{n}(g:Nat→Option ρ)(w:∀k:Nat, k<n→(∀j, j<k→g j=none)→f k=C3 k (g k))
 (A:f n=some (.inr (.nrm ()))):iter f 0=some (DE ((List.range n).findSome? g)) := by
  have key:∀m k:Nat, k+m=n→(∀j, j<k→g j=none)→iter f (k:Int)=some (DE ((List.range' k m).findSome? g)) := by
    intro m
    induction m with
    | zero =>
      intro k B _
      obtain rfl:k=n := by omega
      rw[Ba A];rfl
    | succ m C =>
      intro k B l
      have q := w k (by omega) l
      rw[List.range'_succ, sm]
      cases hg:g k with
      | some r => rw[hg] at q;rw[Ba q];rfl
      | none =>
        rw[hg] at q
        rw[B7 q]
        exact C (k+1) (by omega) (λj E => by
          by_cases e:j=k
          · rw[e];exact hg
          · exact l j (by omega))
  have := key n 0 (by omega) (λj l => absurd l (Nat.not_lt_zero _))
  rw[ud]
  exact this
def Cg(j l:Int)(r:Ak):Prop:=0≤r.Row∧r.Row<j∧0≤r.Col∧r.Col<l∧1≤r.H∧r.H≤j-r.Row∧1≤r.W∧r.W≤l-r.Col
instance (rows cols:Int) (r:Ak):Decidable (Cg rows cols r):=by unfold Cg;infer_instance
def GD(a b:Ak):Bool:=decide (a.Row<b.Row+b.H∧b.Row<a.Row+a.H∧a.Col<b.Col+b.W∧b.Col<a.Col+a.W)
def Ef(j l:Int):Prop:=0≤j∧j≤2147483647∧0≤l∧l≤2147483647
instance (rows cols:Int):Decidable (Ef rows cols):=by unfold Ef;infer_instance
theorem mq(r:Ak) j l(h:Ef j l):NW r j l=some (decide (Cg j l r)):=by
 obtain⟨F,I,J,M⟩:=h
 unfold NW
 by_cases w:0≤r.Row∧0≤r.Col∧1≤r.H∧1≤r.W∧r.Row<j∧r.Col<l
 ·obtain⟨A,B,a3,a4,a5,C⟩:=w
  rw[rH A,rH B,rH a3,rH a4,rH a5,rH C,show((((((true&&true)&&true)&&true)&&true)&&true)==true)=true from rfl,Aj,CP (by omega) (by omega),AD]
  by_cases m:r.H≤j-r.Row
  ·rw[rH m,show(((((((true&&true)&&true)&&true)&&true)&&true)&&true)==true)=true from rfl,Aj,CP (by omega) (by omega),AD]
   by_cases q:r.W≤l-r.Col
   ·rw[rH q,rH (show Cg j l r from⟨A,a5,B,C,a3,m,a4,q⟩)];rfl
   ·rw[rG q,rG (show ¬ Cg j l r from λh=>q h.2.2.2.2.2.2.2)];rfl
  ·rw[rG m,rG (show ¬ Cg j l r from λh=>m h.2.2.2.2.2.1)];rfl
 ·have E:((((((0≤r.Row)&&(0≤r.Col))&&(1≤r.H))&&(1≤r.W))&&(r.Row<j))&&(r.Col<l))=false:=by
   rw[← sT]
   simp only[rO,rJ]
   intro h;exact w (by omega)
  rw[E,rG (show ¬ Cg j l r from λh=>w ⟨h.1,h.2.2.1,h.2.2.2.2.1,h.2.2.2.2.2.2.1,h.2.1,h.2.2.2.1⟩)];rfl
theorem fA(r:Ak) j l(h:Ef j l):M8 r j l=some (decide (Cg j l r)):=by
 obtain⟨w,A,B,C⟩:=h
 unfold M8
 rw[CP (by omega) (by omega),AD,Ds,AD]
 by_cases m:0≤r.Row∧r.Row≤j-1
 ·rw[rH m,show((true==true):Bool)=true from rfl,Aj,CP (by omega) (by omega),AD,Aj,Ds,AD]
  by_cases q:0≤r.Col∧r.Col≤l-1
  ·rw[rH q,show((true&&true)==true)=true from rfl,Aj,CP (by omega) (by omega),AD,Aj,Ds,AD]
   by_cases a3:1≤r.H∧r.H≤j-r.Row
   ·rw[rH a3,show(((true&&true)&&true)==true)=true from rfl,Aj,CP (by omega) (by omega),AD,Aj,Ds,AD]
    by_cases a4:1≤r.W∧r.W≤l-r.Col
    ·rw[rH a4,rH (show Cg j l r from⟨m.1,by omega,q.1,by omega,a3.1,a3.2,a4.1,a4.2⟩)];rfl
    ·rw[rG a4,rG (show ¬ Cg j l r from λh=>a4 ⟨h.2.2.2.2.2.2.1,h.2.2.2.2.2.2.2⟩)];rfl
   ·rw[rG a3,rG (show ¬ Cg j l r from λh=>a3 ⟨h.2.2.2.2.1,h.2.2.2.2.2.1⟩)];rfl
  ·rw[rG q,rG (show ¬ Cg j l r from λh=>q ⟨h.2.2.1,by have:=h.2.2.2.1;omega⟩)];rfl
 ·rw[rG m,rG (show ¬ Cg j l r from λh=>m ⟨h.1,by have:=h.2.1;omega⟩)];rfl
theorem fG{j l}(h:Ef j l){a b:Ak}(B:Cg j l a)(C:Cg j l b):OU a b=some (GD a b):=by
 obtain⟨E,F,I,J⟩:=h
 obtain⟨M,O,a3,a4,a5,T,U,V⟩:=B
 obtain⟨X,Z,b3,b4,b5,b6,b7,b8⟩:=C
 unfold OU GD
 rw[CP (by omega) (by omega),AD]
 by_cases m:a.Row<b.Row+b.H
 ·rw[rH m,show((true==true):Bool)=true from rfl,Aj,CP (by omega) (by omega),AD]
  by_cases q:b.Row<a.Row+a.H
  ·rw[rH q,show((true&&true)==true)=true from rfl,Aj,CP (by omega) (by omega),AD]
   by_cases w:a.Col<b.Col+b.W
   ·rw[rH w,show(((true&&true)&&true)==true)=true from rfl,Aj,CP (by omega) (by omega),AD]
    by_cases A:b.Col<a.Col+a.W
    ·rw[rH A,rH (show _∧_∧_∧_ from⟨m,q,w,A⟩)];rfl
    ·rw[rG A,rG (show ¬ (a.Row<b.Row+b.H∧b.Row<a.Row+a.H∧a.Col<b.Col+b.W∧b.Col<a.Col+a.W) from λh=>A h.2.2.2)];rfl
   ·rw[rG w,rG (show ¬ (a.Row<b.Row+b.H∧b.Row<a.Row+a.H∧a.Col<b.Col+b.W∧b.Col<a.Col+a.W) from λh=>w h.2.2.1)];rfl
  ·rw[rG q,rG (show ¬ (a.Row<b.Row+b.H∧b.Row<a.Row+a.H∧a.Col<b.Col+b.W∧b.Col<a.Col+a.W) from λh=>q h.2.1)];rfl
 ·rw[rG m,rG (show ¬ (a.Row<b.Row+b.H∧b.Row<a.Row+a.H∧a.Col<b.Col+b.W∧b.Col<a.Col+a.W) from λh=>m h.1)];rfl
theorem pM{j l}(h:Ef j l){a b:Ak}(w:Cg j l a)(A:Cg j l b):Ok a b=some (GD b a):=by
 obtain⟨B,C,E,F⟩:=h
 obtain⟨I,J,a3,a4,a5,M,O,T⟩:=w
 obtain⟨U,V,X,Z,b5,b6,b7,b8⟩:=A
 unfold Ok GD
 rw[CP (by omega) (by omega),AD,CP (by omega) (by omega),AD]
 by_cases m:max a.Row b.Row<min (a.Row+a.H) (b.Row+b.H)
 ·rw[rH m,show((true==true):Bool)=true from rfl,Aj,CP (by omega) (by omega),AD,Aj,CP (by omega) (by omega),AD]
  by_cases q:max a.Col b.Col<min (a.Col+a.W) (b.Col+b.W)
  ·rw[rH q,rH (show b.Row<a.Row+a.H∧a.Row<b.Row+b.H∧b.Col<a.Col+a.W∧a.Col<b.Col+b.W by omega)];rfl
  ·rw[rG q,rG (show ¬ (b.Row<a.Row+a.H∧a.Row<b.Row+b.H∧b.Col<a.Col+a.W∧a.Col<b.Col+b.W) by omega)];rfl
 ·rw[rG m,rG (show ¬ (b.Row<a.Row+a.H∧a.Row<b.Row+b.H∧b.Col<a.Col+a.W∧a.Col<b.Col+b.W) by omega)];rfl
theorem iD{α:Type}[Inhabited α]{l:List α}{k j}(m:j<k)(q:k≤l.length):(l.take k)[j]! = l[j]!:=by
 rw[re (l.take k) j (by rw[sk];omega),re l j (by omega),List.getElem_take]
def MF(l:List Ak)(k:Nat)(w:Ak):Option Nat:=(List.range k).find? λj=>GD l[j]! w
theorem lT{m q}(h:Ef m q)(l:List Ak) k(C:k≤l.length)(I:l.length≤1073741824)(E:∀j,j<k→Cg m q l[j]!){w}(hw:Cg m q w) :
  Lb w (l.take k)=some (MF l k w).isSome:=by
 unfold Lb Pw
 have A:(l.take k).length=k:=by rw[sk];omega
 rw[Bx (n:=k) (λj=>if GD l[j]! w then some (j:Int) else none) (λj B=>by
  unfold NG QR
  rw[rF (by rw[A,rJ];omega),Af (by rw[A];exact B),AD,iD B C,fG h (E j B) hw,AD,AD,Ar (by omega)]
  cases GD l[j]! w<;>rfl) (by unfold NG;rw[rE (by rw[A];simp)]),Rj,Fk]
 unfold MF
 cases (List.range k).find? λj=>GD l[j]! w with
 | none=>rfl
 | some j=>
  show(AC (some (j:Int)) λ(F:Int)=>some (decide (0≤F)))=_
  rw[AD,rH (tp j)];rfl
def JN(j m:Int)(l:List Ak)(k:Nat):Option Int:=
 if ¬ Cg j m l[k]! then some 2 else if l[k]!.H=1∧l[k]!.W=1 then some 4 else if 0<k∧0≤Bk l[k-1]!.Row l[k]!.Row l[k-1]!.Col l[k]!.Col then some 5 else if(MF l k l[k]!).isSome=true then some 21 else none
theorem S7{j m}{l}{k}(h:JN j m l k=none):Cg j m l[k]!:=by
 unfold JN at h
 by_cases q:Cg j m l[k]!
 ·exact q
 ·rw[rF q] at h;cases h
def G0(g:BF):Int:=
 if ¬ Ef g.Rows g.Cols then 2 else if Im g.Rows g.Cols false g.Cells≠0 then Im g.Rows g.Cols false g.Cells else((List.range g.Merges.length).findSome? (JN g.Rows g.Cols g.Merges)).getD 0
def TG(g:BF):Prop:=g.Cells.length≤1048576∧g.Merges.length≤1048576∧∀c∈g.Cells,Qz c
theorem dk(a b:Ak):Ng a b=some (!(0≤Bk a.Row b.Row a.Col b.Col)):=by
 unfold Ng
 congr 1
 rw[sE]
 have:=RS a.Row b.Row a.Col b.Col
 simp only[rV,rO,rJ,sB,sW,this]
 omega
theorem Wk(g:BF)(h:TG g):M3 g=some (G0 g):=by
 obtain⟨Z,hm,E⟩:=h
 unfold M3 G0
 by_cases q:Ef g.Rows g.Cols
 ·have F:=q
  obtain⟨r1,r2,M,r4⟩:=F
  rw[rE (by simp only[rV,rJ];omega),mJ _ _ _ _ (by omega) E,AD,rE (rt.2 q)]
  by_cases B:Im g.Rows g.Cols false g.Cells=0
  ·rw[rE (DC B),rE (rt.2 B),Vp (n:=g.Merges.length) (JN g.Rows g.Cols g.Merges) (λk O T=>by
    unfold Nc
    rw[rF (by simpa using O),Af O,AD,mq _ _ _ q,AD]
    unfold JN
    by_cases w:Cg g.Rows g.Cols g.Merges[k]!
    ·rw[rH w,rE (show ¬ ((!true)=true) by decide),rE (rt.2 w)]
     by_cases A:g.Merges[k]!.H=1∧g.Merges[k]!.W=1
     ·rw[rF (by rw[rH A.1,rH A.2];rfl),rF A];rfl
     ·rw[rE (by simp only[rO,rJ];exact A),rE A]
      have m:=lT q g.Merges k (by omega) (by omega) (λj I=>S7 (T j I)) w
      have U:DX g.Merges 0 (k:Int)=some (g.Merges.take k):=by
       rw[ke g.Merges k (by omega) (by omega)];simp
      have l:(AC (DX g.Merges 0 (k:Int)) λ(V:List Ak)=>
        AC (Lb g.Merges[k]! V) λ(M:Bool)=>
        if M then(some (.inr (.ext 21)):Option (Int ⊕ (Ax Unit Int))) else(
         AC (AY .i64 ((k:Int)+1)) λ(X:Int)=>some (.inl X)))=C3 k (if(MF g.Merges k g.Merges[k]!).isSome=true then some 21 else none):=by
       rw[U,AD,m,AD,Ar (by omega)]
       cases (MF g.Merges k g.Merges[k]!).isSome<;>rfl
      by_cases J:0<k
      ·rw[rH (show(0:Int)<k by omega),show((true==true):Bool)=true from rfl,Aj,Ey J (by omega),AD,Aj,Af (show k-1<g.Merges.length by omega),AD,Aj,dk,AD]
       by_cases C:0≤Bk g.Merges[k-1]!.Row g.Merges[k]!.Row g.Merges[k-1]!.Col g.Merges[k]!.Col
       ·rw[rH C,rF (show 0<k∧0≤Bk g.Merges[k-1]!.Row g.Merges[k]!.Row g.Merges[k-1]!.Col g.Merges[k]!.Col from⟨J,C⟩)];rfl
       ·rw[rG C,rE (show ¬ (0<k∧0≤Bk g.Merges[k-1]!.Row g.Merges[k]!.Row g.Merges[k-1]!.Col g.Merges[k]!.Col) from λh=>C h.2)]
        exact l
      ·have e0:k=0:=by omega
       rw[rE (show ¬ (0<k∧0≤Bk g.Merges[k-1]!.Row g.Merges[k]!.Row g.Merges[k-1]!.Col g.Merges[k]!.Col) from λh=>J h.1),rG (show ¬ (0:Int)<k by omega)]
       exact l
    ·rw[rG w,rF w];rfl) (by unfold Nc;rw[rE (by simp)]),Eu]
  ·rw[rF (B8 B),rF B]
 ·rw[rF q,rF (by unfold Ef at q;simp only[rV,rJ];omega)]
theorem gy{X:Type}(l:List Ak)(k:Nat)(I:k<l.length)(J:l.length≤9223372036854775806)(a b:Option X) :
  (AC (gd ((decide (0<(k:Int)))==true) (AY .i64 ((k:Int)-1))) λ(C:Int)=>
    AC (gd ((decide (0<(k:Int)))==true) (AN l C)) λ(j:Ak)=>
    AC (gd ((((decide (0<(k:Int)))==true)&&((decide (l[k]!.Row<j.Row))==false))&&((decide (l[k]!.Row=j.Row))==true)) (AY .i64 ((k:Int)-1))) λ(E:Int)=>
    AC (gd ((((decide (0<(k:Int)))==true)&&((decide (l[k]!.Row<j.Row))==false))&&((decide (l[k]!.Row=j.Row))==true)) (AN l E)) λ(F:Ak)=>
    if((0<(k:Int))&&((l[k]!.Row<j.Row)||((l[k]!.Row=j.Row)&&(l[k]!.Col≤F.Col)))) then a else b) =
   if 0<k∧0≤Bk l[k-1]!.Row l[k]!.Row l[k-1]!.Col l[k]!.Col then a else b:=by
 have m:=RS l[k-1]!.Row l[k]!.Row l[k-1]!.Col l[k]!.Col
 by_cases q:0<k
 ·rw[rH (show(0:Int)<k by omega),show((true==true):Bool)=true from rfl,Aj,Ey q (by omega),AD,Aj,Af (show k-1<l.length by omega),AD]
  by_cases w:l[k]!.Row<l[k-1]!.Row
  ·rw[rH w,rF (show 0<k∧0≤Bk l[k-1]!.Row l[k]!.Row l[k-1]!.Col l[k]!.Col from⟨q,m.2 (.inl w)⟩)];rfl
  ·by_cases A:l[k]!.Row=l[k-1]!.Row
   ·rw[rG w,rH A,show(((true&&(false==false))&&(true==true)):Bool)=true from rfl,Aj,AD,Aj,Af (show k-1<l.length by omega),AD]
    by_cases B:l[k]!.Col≤l[k-1]!.Col
    ·rw[rH B,rF (show 0<k∧0≤Bk l[k-1]!.Row l[k]!.Row l[k-1]!.Col l[k]!.Col from⟨q,m.2 (.inr ⟨A,B⟩)⟩)];rfl
    ·rw[rG B,rE (show ¬ (0<k∧0≤Bk l[k-1]!.Row l[k]!.Row l[k-1]!.Col l[k]!.Col) from λh=>by have:=m.1 h.2;omega)];rfl
   ·rw[rG w,rG A,rE (show ¬ (0<k∧0≤Bk l[k-1]!.Row l[k]!.Row l[k-1]!.Col l[k]!.Col) from λh=>by have:=m.1 h.2;omega)];rfl
 ·rw[rE (show ¬ (0<k∧0≤Bk l[k-1]!.Row l[k]!.Row l[k-1]!.Col l[k]!.Col) from λh=>q h.1),rG (show ¬ (0:Int)<k by omega)];rfl
theorem pZ(g:BF)(h:TG g):O5 g=some (G0 g):=by
 obtain⟨U,V,B⟩:=h
 unfold O5 G0
 rw[Ds,AD]
 by_cases l:Ef g.Rows g.Cols
 ·have C:=l
  obtain⟨I,J,M,O⟩:=C
  rw[rH (show 0≤g.Rows∧g.Rows≤2147483647 from⟨I,J⟩),show((!true)==false)=true from rfl,Aj,Ds,AD,rH (show 0≤g.Cols∧g.Cols≤2147483647 from⟨M,O⟩),rE (by decide),
   iz _ _ _ _ (by omega) B ⟨I,J⟩ ⟨M,O⟩,AD,rE (rt.2 l)]
  by_cases w:Im g.Rows g.Cols false g.Cells=0
  ·rw[rE (DC w),rE (rt.2 w),Vp (n:=g.Merges.length) (JN g.Rows g.Cols g.Merges) (λk E T=>by
    unfold Mi
    rw[rF (by simpa using E),Af E,AD,fA _ _ _ l,AD]
    unfold JN
    by_cases m:Cg g.Rows g.Cols g.Merges[k]!
    ·rw[rH m,rE (show ¬ ((!true)=true) by decide),rE (rt.2 m)]
     by_cases q:g.Merges[k]!.H=1∧g.Merges[k]!.W=1
     ·rw[rF (by rw[rH q.1,rH q.2];rfl),rF q];rfl
     ·rw[rE (by simp only[rO,rJ];exact q),rE q,gy _ k E (by omega)]
      by_cases A:0<k∧0≤Bk g.Merges[k-1]!.Row g.Merges[k]!.Row g.Merges[k-1]!.Col g.Merges[k]!.Col
      ·rw[rF A,rF A];rfl
      ·rw[rE A,rE A,Bx (n:=k) (λj=>if GD g.Merges[j]! g.Merges[k]! then some (.inr (.ext 21)) else none) (λj F=>by
        unfold OJ
        rw[rF (by rw[rJ];omega),Af (by omega),AD,pM l m (S7 (T j F)),AD,Ar (by omega)]
        cases GD g.Merges[j]! g.Merges[k]!<;>rfl) (by unfold OJ;rw[rE (by rw[rJ];omega)]),Rj,Fk]
       unfold MF
       cases (List.range k).find? λj=>GD g.Merges[j]! g.Merges[k]! with
       | none=>rw[Ar (by omega)];rfl
       | some j=>rfl
    ·rw[rG m,rF m];rfl) (by unfold Mi;rw[rE (by simp)]),Eu]
  ·rw[rF (B8 w),rF w]
 ·rw[rF l]
  unfold Ef at l
  by_cases a:0≤g.Rows∧g.Rows≤2147483647
  ·rw[rH a,show((!true)==false)=true from rfl,Aj,Ds,AD,rG (show ¬ (0≤g.Cols∧g.Cols≤2147483647) by omega)];rfl
  ·rw[rG a];rfl
def VD(c:UInt8):Bool:=(97≤c.toNat)&&(c.toNat≤122)
def Pt(s:List UInt8):Bool:=(List.range s.length).all λk=>VD s[k]!
def KB(s:List UInt8):Bool:=(1≤s.length)&&(s.length≤200)&&!(s[s.length-1]!.toNat=97)&&Pt s
theorem YM(s:List UInt8)(l:s.length≤9223372036854775806):iter (λ(a:Int)=>KY s a) 0=some (DE (if Pt s then none else some false)):=by
 rw[Bx (n:=s.length) (λk=>if VD s[k]! then none else some false) (λk j=>by
  unfold KY
  rw[rF (by simpa using j),Af j,AD,Ar (by omega)]
  unfold VD
  generalize s[k]! = c
  by_cases h:97≤c.toNat∧c.toNat≤122
  ·rw[rE (by simp only[rV,rJ];omega),rF (by simp only[rO,rJ];exact h)];rfl
  ·rw[rF (by simp only[rV,rJ];omega),rE (by simp only[rO,rJ];exact h)];rfl) (by unfold KY;rw[rE (by simp)]),Po]
 rfl
theorem df:JZ=KY:=by funext s x;rfl
theorem fK(s:List UInt8)(m:s.length≤9223372036854775806):KT s=some (KB s):=by
 unfold KT KB
 rw[df,YM s m]
 by_cases h:1≤s.length∧s.length≤200
 ·have j:s≠[]:=tE.1 h.1
  rw[rG j,rG (show ¬ (200:Int)<(s.length:Int) by omega),show((false||false)==false)=true from rfl,Aj,Ey h.1 (by omega),AD,Aj,Af (by omega),AD,rH h.1,rH h.2]
  by_cases l:s[s.length-1]!.toNat=97
  ·rw[rH l,rF (by rw[rH (show((s[s.length-1]!.toNat:Int)=97) by omega)];rfl)];rfl
  ·rw[rG l,rE (by rw[rG (show ¬ ((s[s.length-1]!.toNat:Int)=97) by omega)];decide)]
   cases Pt s<;>rfl
 ·have q:((s=[])||(200<(s.length:Int)))=true:=by
   rw[rV,rJ,rJ,← tT];omega
  have hd:((1≤s.length)&&(s.length≤200))=false:=by
   rw[← sT,rO,rJ,rJ];exact h
  rw[q,hd];rfl
theorem eH(s:List UInt8)(l:s.length≤9223372036854775806):NS s=some (KB s):=by
 unfold NS KB
 rw[YM s l,Fk]
 cases Pt s with
 | false=>rw[uN];rfl
 | true=>
  rw[rF rfl,Bool.and_true]
  dsimp only
  by_cases h:1≤s.length∧s.length≤200
  ·rw[rH (show(1:Int)≤(s.length:Int) by omega),rH (show(s.length:Int)≤200 by omega),show((true&&true)==true)=true from rfl,Aj,Ey h.1 (by omega),AD,Aj,Af (by omega),AD,rH h.1,rH h.2]
   by_cases j:s[s.length-1]!.toNat=97
   ·rw[rH j,rH (show((s[s.length-1]!.toNat:Int)=97) by omega)]
   ·rw[rG j,rG (show ¬ ((s[s.length-1]!.toNat:Int)=97) by omega)]
  ·have m:((1≤(s.length:Int))&&((s.length:Int)≤200))=false:=by
    rw[← sT,rO,rJ,rJ];omega
   have hd:((1≤s.length)&&(s.length≤200))=false:=by
    rw[← sT,rO,rJ,rJ];exact h
   rw[m,hd];rfl
def GR(o:A3):Prop:=(1≤o.Clock∧o.Clock≤1073741824)∧(0≤o.Site∧o.Site≤1000)∧(1≤o.Item∧o.Item≤1073741824)
instance (o:A3):Decidable (GR o):=by unfold GR;infer_instance
def MP(o:A3):Int:=
 if ¬ (o.Kind=0∨o.Kind=1) then 8 else if ¬ GR o then 2
 else if o.Kind=0 then(if o.Name≠[]∨o.Value≠[] then 4 else if ¬ (-1≤o.Parent∧o.Parent≤1073741824) then 2 else if KB o.Place=false then 9 else 0)
 else(if o.Parent≠0∨o.Place≠[] then 4 else if EE o.Name=false then 9 else if o.Value≠[]∧Dc o.Value=false then 23 else 0)
def N0(l:List A3)(k:Nat):Option Int:=
 if MP l[k]!≠0 then some (MP l[k]!) else if 0<k∧0≤Bk l[k-1]!.Clock l[k]!.Clock l[k-1]!.Site l[k]!.Site then some 5 else none
def Wu(l:List A3):Int:=((List.range l.length).findSome? (N0 l)).getD 0
def Q2(o:A3):Prop:=o.Place.length≤1073741824∧o.Name.length≤1073741824∧o.Value.length≤1073741824
theorem mf(o:A3)(h:Q2 o):JY o=some (MP o):=by
 obtain⟨hp,I,J⟩:=h
 unfold JY MP
 rw[fK _ (by omega),R6 _ (by omega),Sd _ (by omega)]
 by_cases l:o.Kind=0
 ·have q:¬ o.Kind=1:=by omega
  rw[rE (show ¬ ((!(o.Kind=0))&&(!(o.Kind=1)))=true by rw[rH l];simp),rE (show ¬ ¬ (o.Kind=0∨o.Kind=1) from λh=>h (.inl l))]
  by_cases m:GR o
  ·have w:=m
   unfold GR at w
   rw[rE (by simp only[rV,rJ];omega),rE (rt.2 m),rF l,rH l,rG q]
   by_cases j:o.Name≠[]∨o.Value≠[]
   ·have A:(true&&((!(o.Name=[]))||(!(o.Value=[]))))=true:=by
     rw[rz,rV]
     rcases j with c | c
     ·exact .inl (B8 c)
     ·exact .inr (B8 c)
    rw[rF j,A];rfl
   ·have C:o.Name=[]∧o.Value=[]:=⟨rm λh=>j (.inl h),rm λh=>j (.inr h)⟩
    have A:(true&&((!(o.Name=[]))||(!(o.Value=[]))))=false:=by rw[rH C.1,rH C.2];rfl
    rw[rE j,A]
    by_cases B : -1≤o.Parent∧o.Parent≤1073741824
    ·rw[rE (rt.2 B)]
     have E:((o.Parent<(-1))||(1073741824<o.Parent))=false:=by
      rw[← sT,rV,rJ,rJ];omega
     rw[E]
     cases KB o.Place with
     | false=>rfl
     | true=>rw[rH C.2];rfl
    ·rw[rF B]
     have E:((o.Parent<(-1))||(1073741824<o.Parent))=true:=by
      rw[rV,rJ,rJ];omega
     rw[E];rfl
  ·rw[rF (by unfold GR at m;simp only[rV,rJ];omega),rF m]
 ·by_cases q:o.Kind=1
  ·rw[rE (show ¬ ((!(o.Kind=0))&&(!(o.Kind=1)))=true by rw[rH q,rG l];decide),rE (show ¬ ¬ (o.Kind=0∨o.Kind=1) from λh=>h (.inr q))]
   by_cases m:GR o
   ·have w:=m
    unfold GR at w
    rw[rE (by simp only[rV,rJ];omega),rE (rt.2 m),rE l,rG l,rH q]
    by_cases j:o.Parent≠0∨o.Place≠[]
    ·have A:(true&&((!(o.Parent=0))||(!(o.Place=[]))))=true:=by
      rw[rz,rV]
      rcases j with c | c
      ·exact .inl (B8 c)
      ·exact .inr (B8 c)
     rw[rF j,A];rfl
    ·have C:o.Parent=0∧o.Place=[]:=⟨rm λh=>j (.inl h),rm λh=>j (.inr h)⟩
     have A:(true&&((!(o.Parent=0))||(!(o.Place=[]))))=false:=by rw[rH C.1,rH C.2];rfl
     rw[rE j,A]
     cases EE o.Name with
     | false=>rfl
     | true=>
      by_cases B:o.Value=[]
      ·rw[rH B,rE (show ¬ (true=false) by decide),rE (show ¬ (o.Value≠[]∧Dc o.Value=false) from λh=>h.1 B)];rfl
      ·rw[rG B,rE (show ¬ (true=false) by decide)]
       cases F:Dc o.Value with
       | false=>rw[rF (show o.Value≠[]∧false=false from⟨B,rfl⟩)];rfl
       | true=>rw[rE (show ¬ (o.Value≠[]∧true=false) from λh=>by cases h.2)];rfl
   ·rw[rF (by unfold GR at m;simp only[rV,rJ];omega),rF m]
  ·rw[rF (show((!(o.Kind=0))&&(!(o.Kind=1)))=true by rw[rG q,rG l];rfl),rF (show ¬ (o.Kind=0∨o.Kind=1) from λh=>h.elim l q)]
theorem mO(a b:A3):J8 a b=some (Bk a.Clock b.Clock a.Site b.Site):=by
 unfold J8
 rw[P0,P0,AD,AD,Xr,AD,Y0]
theorem eB(a b:A3):Lc a b=some (!(0≤Bk a.Clock b.Clock a.Site b.Site)):=by
 unfold Lc
 congr 1
 rw[sE]
 have:=RS a.Clock b.Clock a.Site b.Site
 simp only[rV,rO,rJ,sB,sW,this]
 omega
theorem oN(l:List A3)(A:l.length≤1073741824)(w:∀o∈l,Q2 o):Jx l=some (Wu l):=by
 unfold Jx
 rw[Bx (n:=l.length) (N0 l) (λk m=>by
  unfold Jk N0
  rw[rF (by simpa using m),Af m,AD,mf _ (w _ (Bz m)),AD]
  by_cases e:MP l[k]! = 0
  ·rw[rE (DC e),rE (rt.2 e)]
   by_cases q:0<k
   ·rw[rH (show(0:Int)<k by omega),show((true==true):Bool)=true from rfl,Aj,Ey q (by omega),AD,Aj,Af (show k-1<l.length by omega),AD,Aj,mO,AD]
    by_cases j:0≤Bk l[k-1]!.Clock l[k]!.Clock l[k-1]!.Site l[k]!.Site
    ·rw[rH j,rF (show 0<k∧0≤Bk l[k-1]!.Clock l[k]!.Clock l[k-1]!.Site l[k]!.Site from⟨q,j⟩)];rfl
    ·rw[rG j,rE (show ¬ (0<k∧0≤Bk l[k-1]!.Clock l[k]!.Clock l[k-1]!.Site l[k]!.Site) from λh=>j h.2),Ar (by omega)];rfl
   ·rw[rE (show ¬ (0<k∧0≤Bk l[k-1]!.Clock l[k]!.Clock l[k-1]!.Site l[k]!.Site) from λh=>q h.1),rG (show ¬ (0:Int)<k by omega),Ar (by omega)];rfl
  ·rw[rF (B8 e),rF e];rfl) (by unfold Jk;rw[rE (by simp)]),Eu]
 rfl
theorem fJ(l:List A3)(hm:l.length≤1073741824)(U:∀o∈l,Q2 o):Nt l=some (Wu l):=by
 unfold Nt
 rw[Bx (n:=l.length) (N0 l) (λk F=>by
  obtain⟨hp,V,X⟩:=U _ (Bz F)
  have q:(AC (gd ((decide (0<(k:Int)))==true) (AY .i64 ((k:Int)-1))) λ(Z:Int)=>
    AC (gd ((decide (0<(k:Int)))==true) (AN l Z)) λ(x6:A3)=>
    AC (gd ((decide (0<(k:Int)))==true) (Lc x6 l[k]!)) λ(r4:Bool)=>
    if((0<(k:Int))&&(!r4)) then(some (.inr (.ext 5)):Option (Int ⊕ (Ax Unit Int))) else(
     AC (AY .i64 ((k:Int)+1)) λ(x7:Int)=>some (.inl x7)))=C3 k (if 0<k∧0≤Bk l[k-1]!.Clock l[k]!.Clock l[k-1]!.Site l[k]!.Site then some 5 else none):=by
   by_cases I:0<k
   ·rw[rH (show(0:Int)<k by omega),show((true==true):Bool)=true from rfl,Aj,Ey I (by omega),AD,Aj,Af (show k-1<l.length by omega),AD,Aj,eB,AD]
    by_cases C:0≤Bk l[k-1]!.Clock l[k]!.Clock l[k-1]!.Site l[k]!.Site
    ·rw[rH C,rF (show 0<k∧0≤Bk l[k-1]!.Clock l[k]!.Clock l[k-1]!.Site l[k]!.Site from⟨I,C⟩)];rfl
    ·rw[rG C,rE (show ¬ (0<k∧0≤Bk l[k-1]!.Clock l[k]!.Clock l[k-1]!.Site l[k]!.Site) from λh=>C h.2),Ar (by omega)];rfl
   ·rw[rE (show ¬ (0<k∧0≤Bk l[k-1]!.Clock l[k]!.Clock l[k-1]!.Site l[k]!.Site) from λh=>I h.1),rG (show ¬ (0:Int)<k by omega),Ar (by omega)];rfl
  unfold NL N0 MP
  rw[rF (by simpa using F),Af F,AD,q,Ds,AD,Ds,Ds,Ds,eH _ (by omega),Yk _ (by omega),WA _ (by omega)]
  generalize l[k]! = o at hp V X ⊢
  by_cases A:o.Kind=0∨o.Kind=1
  ·rw[rE (show ¬ ((!(o.Kind=0))&&(!(o.Kind=1)))=true by rcases A with h | h<;>rw[rH h]<;>simp),rE (rt.2 A)]
   by_cases w:GR o
   ·rw[rE (rt.2 w),rH w.1,show((!true)==false)=true from rfl,Aj,AD,rH w.2.1,show(((!true)||(!true))==false)=true from rfl,Aj,AD,rH w.2.2,rE (show ¬ (((!true)||(!true))||(!true))=true by decide)]
    by_cases E:o.Kind=0
    ·rw[rF (rH E),rF E]
     by_cases j:o.Name≠[]∨o.Value≠[]
     ·have J:((!(o.Name=[]))||(!(o.Value=[])))=true:=by
       rw[rV]
       rcases j with c | c
       ·exact .inl (B8 c)
       ·exact .inr (B8 c)
      rw[rF j,rF J];rfl
     ·have B:o.Name=[]∧o.Value=[]:=⟨rm λh=>j (.inl h),rm λh=>j (.inr h)⟩
      rw[rE j,rE (show ¬ ((!(o.Name=[]))||(!(o.Value=[])))=true by rw[rH B.1,rH B.2];decide),AD]
      by_cases m : -1≤o.Parent∧o.Parent≤1073741824
      ·rw[rE (rt.2 m),rH m,rE (show ¬ ((!true)=true) by decide),AD]
       cases KB o.Place<;>rfl
      ·rw[rF m,rG m];rfl
    ·rw[rE (show ¬ decide (o.Kind=0)=true by simpa using E),rE E]
     by_cases j:o.Parent≠0∨o.Place≠[]
     ·have J:((!(o.Parent=0))||(!(o.Place=[])))=true:=by
       rw[rV]
       rcases j with c | c
       ·exact .inl (B8 c)
       ·exact .inr (B8 c)
      rw[rF j,rF J];rfl
     ·have B:o.Parent=0∧o.Place=[]:=⟨rm λh=>j (.inl h),rm λh=>j (.inr h)⟩
      rw[rE j,rE (show ¬ ((!(o.Parent=0))||(!(o.Place=[])))=true by rw[rH B.1,rH B.2];decide),AD]
      cases EE o.Name with
      | false=>rfl
      | true=>
       by_cases m:o.Value=[]
       ·rw[rH m,rE (show ¬ (true=false) by decide),rE (show ¬ (o.Value≠[]∧Dc o.Value=false) from λh=>h.1 m)];rfl
       ·rw[rG m,rE (show ¬ (true=false) by decide)]
        cases a0:Dc o.Value with
        | false=>rw[rF (show o.Value≠[]∧false=false from⟨m,rfl⟩)];rfl
        | true=>rw[rE (show ¬ (o.Value≠[]∧true=false) from λh=>by cases h.2)];rfl
   ·rw[rF w]
    unfold GR at w
    by_cases O:1≤o.Clock∧o.Clock≤1073741824
    ·rw[rH O,show((!true)==false)=true from rfl,Aj,AD]
     by_cases T:0≤o.Site∧o.Site≤1000
     ·rw[rH T,show(((!true)||(!true))==false)=true from rfl,Aj,AD,rG (show ¬ (1≤o.Item∧o.Item≤1073741824) by omega)];rfl
     ·rw[rG T];rfl
    ·rw[rG O];rfl
  ·have M:((!(o.Kind=0))&&(!(o.Kind=1)))=true:=by
    rw[rG (λh=>A (.inl h)),rG (λh=>A (.inr h))];rfl
   rw[rF M,rF A];rfl) (by unfold NL;rw[rE (by simp)]),Eu]
 rfl
theorem ey:LW=H6:=by funext k;rfl
theorem fZ:RN=Hl:=by funext k;rfl
theorem iW:OE=GL:=by funext k;rfl
theorem fq:PK=Hn:=by funext k;rfl
structure F6(n:Ac):Prop where
 ok:R1 n
 ce:∀c∈n.Grid.Cells,Qz c
 dr:∀o∈n.Draw,Q2 o
theorem F6.gd{n:Ac}(h:F6 n):TG n.Grid:=⟨h.ok.gr.1,h.ok.gr.2.1,h.ce⟩
def LY(kind:Int)(c:Ao):Bool:=((kind=2)&&((!(c.Text=[]))||(0<(c.Attrs.length:Int))))||((kind=6)&&(!(c.Ref=0)))
def Wo(kind:Int)(l:List Ao):Int:=((List.range l.length).findSome? λk=>if LY kind l[k]! then some (4:Int) else none).getD 0
theorem pQ kind(l:List Ao)(m:l.length≤1073741824):M5 kind l=some (Wo kind l):=by
 unfold M5
 rw[Bx (n:=l.length) (λk=>if LY kind l[k]! then some (4:Int) else none) (λk j=>by
  unfold NC
  rw[rF (by simpa using j),Af j,AD,Ar (by omega)]
  show(if LY kind l[k]! = true then _ else _)=_
  cases LY kind l[k]!<;>rfl) (by unfold NC;rw[rE (by simp)]),Eu]
 rfl
theorem cC kind(l:List Ao)(A:l.length≤1073741824):Og kind l=some (Wo kind l):=by
 unfold Og
 rw[Bx (n:=l.length) (λk=>if LY kind l[k]! then some (4:Int) else none) (λk w=>by
  unfold N7 LY
  rw[rF (by simpa using w),Af w,Ar (by omega)]
  generalize l[k]! = c
  by_cases m:kind=2
  ·have j:¬ kind=6:=by omega
   rw[rH m,rG j]
   rw[show((true==true):Bool)=true from rfl,Aj,AD]
   generalize ((!(c.Text=[]))||(0<(c.Attrs.length:Int)))=q
   cases q<;>rfl
  ·by_cases j:kind=6
   ·rw[rG m,rH j]
    rw[show((false==true):Bool)=false from rfl,CL,AD]
    show(AC (gd true (some c)) λ(B:Ao)=>_)=_
    rw[Aj,AD]
    generalize (!(c.Ref=0))=q
    cases q<;>rfl
   ·rw[rG m,rG j];rfl) (by unfold N7;rw[rE (by simp)]),Eu]
 rfl
def SS(t l g z d j m:Bool):Bool:=((!(t||l)&&j)||(!g&&!z))||(!d&&m)
theorem fw t l g z d j m :
  (if(((!(t||l))&&j)==false) then(
   if((!g)==true) then(
    AC (gd ((((!(t||l))&&j)||((!g)&&(!z)))==false) (some d)) λ(w:Bool)=>
    some ((((!(t||l))&&j)||((!g)&&(!z)))||((!w)&&m))
   ) else(
    AC (gd ((((!(t||l))&&j)||((!g)&&false))==false) (some d)) λ(A:Bool)=>
    some ((((!(t||l))&&j)||((!g)&&false))||((!A)&&m))
   )
  ) else(
   AC (gd ((((!(t||l))&&j)||false)==false) (some d)) λ(q:Bool)=>
   some ((((!(t||l))&&j)||false)||((!q)&&m))
  ))=some (SS t l g z d j m):=by
 cases t<;>cases l<;>cases g<;>cases z<;>cases d<;>cases j<;>cases m<;>rfl
theorem f8{X:Type}(t l g z d j m:Bool)(A B:Option X) :
  (AC (gd ((j&&(!(t||l)))==false) (some z)) λ(q:Bool)=>
   AC (gd (((j&&(!(t||l)))==false)&&((!q)==true)) (some g)) λ(w:Bool)=>
   AC (gd ((((j&&(!(t||l)))||((!q)&&(!w)))==false)&&(m==true)) (some d)) λ(C:Bool)=>
   if(((j&&(!(t||l)))||((!q)&&(!w)))||(m&&(!C))) then A else B)=if SS t l g z d j m=true then A else B:=by
 cases t<;>cases l<;>cases g<;>cases z<;>cases d<;>cases j<;>cases m<;>rfl
theorem aQ{α:Type}(l:List α):decide ((l.length:Int)=0)=l.isEmpty:=by
 cases l with
 | nil=>rfl
 | cons a l=>exact rG (by simp only[sH];omega)
theorem dE g:N3 g=some (decide (g=BF.mk 0 0 [] [])):=by
 unfold N3
 congr 1
 obtain⟨a,b,c,d⟩:=g
 rw[aQ,aQ,sE]
 simp[and_assoc]
theorem QQ(n:Ac)(h:F6 n):∃e,Dg n=some e∧OL n=some e:=by
 have A:=h.ok.at_
 have hf:=h.ok.fl
 have hg:=h.ok.gr
 have hd:=h.ok.dr
 have M:∀x∈n.Flow,Ik x:=λx hx=>⟨by have:=(h.ok.fa x hx).1;omega,(h.ok.fa x hx).2⟩
 unfold Dg OL
 rw[ey,fZ,iW,fq,Ds,AD]
 by_cases c1:1≤n.ID∧n.ID≤1073741824
 ·rw[rE (show ¬ ((n.ID<1)||(1073741824<n.ID))=true by simp only[rV,rJ];omega),rH c1,rE (show ¬ ((!true)=true) by decide),Ds,AD]
  by_cases j:(0≤n.Kind∧n.Kind≤12)∧(n.ID=1↔n.Kind=0)
  ·obtain⟨j,B⟩:=j
   have O:(((n.Kind<0)||(13≤n.Kind))||(!((decide (n.ID=1))==(decide (n.Kind=0)))))=false:=by
    rw[rG (show ¬ n.Kind<0 by omega),rG (show ¬ 13≤n.Kind by omega)]
    by_cases q:n.ID=1
    ·rw[rH q,rH (B.1 q)];rfl
    ·rw[rG q,rG (λe=>q (B.2 e))];rfl
   have T:(((!(0≤n.Kind∧n.Kind≤12))||((n.ID=1)&&(!(n.Kind=0))))||((!(n.ID=1))&&(n.Kind=0)))=false:=by
    rw[rH j]
    by_cases q:n.ID=1
    ·rw[rH q,rH (B.1 q)];rfl
    ·rw[rG q,rG (λe=>q (B.2 e))];rfl
   rw[O,T,rE (show ¬ (false=true) by decide),rE (show ¬ (false=true) by decide),R7 _ A.2 (by have:=A.1;omega),AD,TT _ _ A.2 (by have:=A.1;omega),AD]
   by_cases C:Bw n.Attrs false=0
   ·rw[rE (DC C),rE (DC C)]
    obtain⟨t,ht⟩:∃t,H6 n.Kind=some t:=⟨_,rfl⟩
    obtain⟨l,hl⟩:∃t,Hl n.Kind=some t:=⟨_,rfl⟩
    obtain⟨g,U⟩:∃t,GL n.Kind=some t:=⟨_,rfl⟩
    obtain⟨d,V⟩:∃t,Hn n.Kind=some t:=⟨_,rfl⟩
    rw[ht,hl,U,V,AD,AD,Vi _ _ hg,dE]
    have X:∃E,gd (t==false) (some l)=some E:=by cases t<;>exact⟨_,rfl⟩
    obtain⟨E,Z⟩:=X
    rw[Z,AD,AD,AD,fw,AD,AD,f8]
    by_cases F:SS t E g (decide (n.Grid=BF.mk 0 0 [] [])) d (decide (0<(n.Flow.length:Int))) (decide (0<(n.Draw.length:Int)))=true
    ·rw[rF F,rF F];exact⟨_,rfl,rfl⟩
    ·rw[rE F,rE F]
     by_cases I:(t||E)=true
     ·obtain⟨r,h1,h2⟩:=kq n.Flow t M (by omega)
      rw[rF I,rF I,h1,h2];exact⟨_,rfl,rfl⟩
     ·rw[rE I,rE I]
      cases g with
      | true=>
       rw[rF rfl,Wk _ h.gd,AD,AD,rF rfl,pZ _ h.gd,AD]
       by_cases J:G0 n.Grid=0
       ·rw[rE (DC J),rE (DC J),pQ _ _ (by have:=hg.1;omega),cC _ _ (by have:=hg.1;omega)];exact⟨_,rfl,rfl⟩
       ·rw[rF (B8 J),rF (B8 J)];exact⟨_,rfl,rfl⟩
      | false=>
       rw[rE (show ¬ (false=true) by decide),AD,rE (show ¬ (false=true) by decide),oN _ (by omega) h.dr,fJ _ (by omega) h.dr];exact⟨_,rfl,rfl⟩
   ·rw[rF (B8 C),rF (B8 C)];exact⟨_,rfl,rfl⟩
  ·have O:(((n.Kind<0)||(13≤n.Kind))||(!((decide (n.ID=1))==(decide (n.Kind=0)))))=true:=by
    by_cases m:0≤n.Kind∧n.Kind≤12
    ·have w:¬ (n.ID=1↔n.Kind=0):=λe=>j ⟨m,e⟩
     by_cases q:n.ID=1
     ·rw[rH q,rG (λe=>w ⟨λ_=>e,λ_=>q⟩),rV];exact .inr rfl
     ·rw[rG q,rH (rm λe=>w ⟨λx=>absurd x q,λx=>absurd x e⟩),rV];exact .inr rfl
    ·simp only[rV,rJ];exact .inl (by omega)
   have T:(((!(0≤n.Kind∧n.Kind≤12))||((n.ID=1)&&(!(n.Kind=0))))||((!(n.ID=1))&&(n.Kind=0)))=true:=by
    by_cases m:0≤n.Kind∧n.Kind≤12
    ·have w:¬ (n.ID=1↔n.Kind=0):=λe=>j ⟨m,e⟩
     rw[rH m]
     by_cases q:n.ID=1
     ·rw[rH q,rG (λe=>w ⟨λ_=>e,λ_=>q⟩)];rfl
     ·rw[rG q,rH (rm λe=>w ⟨λx=>absurd x q,λx=>absurd x e⟩)];rfl
    ·rw[rG m];rfl
   rw[O,T];exact⟨_,rfl,rfl⟩
 ·rw[rF (show((n.ID<1)||(1073741824<n.ID))=true by simp only[rV,rJ];omega),rG c1];exact⟨_,rfl,rfl⟩
theorem km(s:List Int) v(q:s.length≤1048576):L8 s v=some ((List.range s.length).find? λj=>decide (v=s[j]!)).isSome:=by
 unfold L8 RR
 rw[Bx (n:=s.length) (λj=>if decide (v=s[j]!) then some (j:Int) else none) (λj l=>by
  unfold OK
  rw[rF (by simpa using l),Af l,AD,Ar (by omega)]
  cases decide (v=s[j]!)<;>rfl) (by unfold OK;rw[rE (by simp)]),Rj,Fk]
 cases (List.range s.length).find? λj=>decide (v=s[j]!) with
 | none=>rfl
 | some j=>
  show(AC (some (j:Int)) λ(m:Int)=>some (decide (0≤m)))=_
  rw[AD,rH (tp j)];rfl
theorem Kq(s:List Int) v(m:s.length≤1048576):L8 s v=some (decide (v∈s)):=by
 rw[km s v m]
 congr 1
 rw[sE,rJ,List.find?_isSome]
 constructor
 ·rintro⟨j,q,w⟩
  have l:=rp.1 q
  rw[tf w];exact Bz l
 ·intro h
  obtain⟨j,l,e⟩:=List.getElem_of_mem h
  exact⟨j,rp.2 l,rH (by rw[re s j l,e])⟩
def Kt(p k:Int):Bool:=
 if p=0 then decide (k∈[1,6,7,10,11,12]) else if p=1 then decide (k∈[2,4,5,10]) else if p=3 then decide (k∈[4,5,10]) else if p=4∨p=12 then decide (k=5) else if p=2 then decide (k=3) else if p=7 then decide (k=8∨k=9) else false
theorem WV p k:OH p k=some (Kt p k):=by
 unfold OH Kt
 by_cases l:p=0
 ·rw[rF (rH l),rF l,AD,Kq _ _ (by decide)];rfl
 ·rw[rE (show ¬ decide (p=0)=true by simpa using l),rE l]
  by_cases m:p=1
  ·rw[rF (rH m),rF m,AD,Kq _ _ (by decide)];rfl
  ·rw[rE (show ¬ decide (p=1)=true by simpa using m),rE m]
   by_cases q:p=3
   ·rw[rF (rH q),rF q,AD,Kq _ _ (by decide)];rfl
   ·rw[rE (show ¬ decide (p=3)=true by simpa using q),rE q]
    have B:(if decide (p=4)=true then some (decide (p=4)) else some (decide (p=12)))=some (decide (p=4∨p=12)):=by
     by_cases j:p=4
     ·rw[rF (rH j),rH j,rH (Or.inl j:p=4∨p=12)]
     ·rw[rE (show ¬ decide (p=4)=true by simpa using j)]
      congr 1
      rw[sE,rJ,rJ]
      exact⟨.inr,λh=>h.elim (λh=>absurd h j) id⟩
    rw[B,AD]
    by_cases j:p=4∨p=12
    ·rw[rF (rH j),rF j,AD,Kq _ _ (by decide),AD]
     congr 1;rw[sE];simp
    ·rw[rE (show ¬ decide (p=4∨p=12)=true by simpa using j),rE j]
     by_cases w:p=2
     ·rw[rF (rH w),rF w,AD,Kq _ _ (by decide),AD]
      congr 1;rw[sE];simp
     ·rw[rE (show ¬ decide (p=2)=true by simpa using w),rE w]
      by_cases A:p=7
      ·rw[rF (rH A),rF A,AD,Kq _ _ (by decide),AD]
       congr 1;rw[sE];simp
      ·rw[rE (show ¬ decide (p=7)=true by simpa using A),rE A,AD,Kq _ _ (by decide),AD];simp
theorem pp p k:NT p k=some (Kt p k) := by
  have hk:k=1∨k=2∨k=3∨k=4∨k=5∨k=6∨k=7∨k=8∨k=9∨k=10∨k=11∨k=12∨(k≠1∧k≠2∧k≠3∧k≠4∧k≠5∧k≠6∧k≠7∧k≠8∧k≠9∧k≠10∧k≠11∧k≠12) := by omega
  have hp:p=0∨p=1∨p=2∨p=3∨p=4∨p=7∨p=12∨(p≠0∧p≠1∧p≠2∧p≠3∧p≠4∧p≠7∧p≠12) := by omega
  unfold NT Kt LW
  rcases hk with rfl | rfl | rfl | rfl | rfl | rfl | rfl | rfl | rfl | rfl | rfl | rfl | ⟨I, J, M, O, T, U, V, X, Z, l, m, q⟩
  all_goals first
    | (rcases hp with rfl | rfl | rfl | rfl | rfl | rfl | rfl | ⟨w, A, B, C, E, F, j⟩
       all_goals first | rfl | (simp[w, A, B, C, E, F, j];done))
    | (rcases hp with rfl | rfl | rfl | rfl | rfl | rfl | rfl | ⟨w, A, B, C, E, F, j⟩
       all_goals first
         | (simp[I, J, M, O, T, U, V, X, Z, l, m, q];done)
         | (simp[I, J, M, O, T, U, V, X, Z, l, m, q, w, A, B, C, E, F, j];done))
theorem lM{n:Nat}(h:n<9223372036854775808):IntKind.u64.wrap (n:Int)=(n:Int):=by
 have e:(n:Int) % (2 ^ (64:Nat):Int)=(n:Int):=uw (by omega) (by omega)
 show(if(false&&((n:Int) % (2 ^ (64:Nat):Int) ≥ (2 ^ (63:Nat):Int)))=true then(n:Int) % (2 ^ (64:Nat):Int)-(2 ^ (64:Nat):Int) else(n:Int) % (2 ^ (64:Nat):Int))=_
 rw[e,rE (by simp)]
theorem Zs(m:Nat)(h:m<4294967296):IntKind.i64.wrap (FO .u64 (IntKind.u64.wrap (m:Int)) 1)=((m / 2:Nat):Int):=by
 rw[lM (by omega)]
 show IntKind.i64.wrap ((m:Int).fdiv (2 ^ (min 1 64)))=_
 rw[show((2:Int) ^ (min 1 64))=2 from rfl,Int.fdiv_eq_ediv_of_nonneg _ (by omega),show(m:Int) / 2=((m / 2:Nat):Int) by omega,We (by omega)]
def HK(l:List Ac):Prop:=∀a b:Nat,a<b→b<l.length→l[a]!.ID<l[b]!.ID
theorem PZ(n:Ac) id:Lz n id=some (if n.ID<id then -1 else if id<n.ID then 1 else 0):=by
 unfold Lz
 by_cases j:n.ID<id
 ·rw[rF (rH j),rF j]
 ·rw[rE (show ¬ decide (n.ID<id)=true by simpa using j),rE j]
  by_cases l:id<n.ID
  ·rw[rF (rH l),rF l]
  ·rw[rE (show ¬ decide (id<n.ID)=true by simpa using l),rE l]
theorem OA(d:Aa) id(V:d.Nodes.length≤1048576)(F:HK d.Nodes):∃i:Nat,Fm d id=some ((i:Int),(Bv d.Nodes id).isSome)∧(∀k,Bv d.Nodes id=some k→i=k):=by
 obtain⟨l⟩:=d
 dsimp only at V F ⊢
 have key:∃r,iter (λ(a:Int × Int)=>IC l id a.1 a.2) (0,(l.length:Int))=some r ∧
   ∃I:Nat,r=(I:Int)∧I≤l.length∧(∀m,m<I→l[m]!.ID<id)∧∀m,I≤m→m<l.length→¬ l[m]!.ID<id:=by
  refine JF l.length (λk T=>∃I J:Nat,T=((I:Int),(J:Int))∧I≤J∧J≤l.length∧J-I≤l.length-k∧(∀m,m<I→l[m]!.ID<id)∧∀m,J≤m→m<l.length→¬ l[m]!.ID<id) _ ?_ ?_ ⟨0,l.length,rfl,by omega,by omega,by omega,λm h=>absurd h (Nat.not_lt_zero _),λm U M=>absurd M (by omega)⟩
  ·rintro k T hk ⟨I,J,rfl,U,M,X,C,w⟩
   dsimp only
   unfold IC
   by_cases Z:I<J
   ·left
    rw[rF (by rw[rJ];omega),show(I:Int)+(J:Int)=((I+J:Nat):Int) by omega,CP (by omega) (by omega),AD,Zs _ (by omega),Af (by omega),AD,PZ,AD]
    by_cases O:l[(I+J) / 2]!.ID<id
    ·rw[rF O,rF (by decide),Ar (by omega)]
     refine⟨_,rfl,(I+J) / 2+1,J,rfl,by omega,M,by omega,λm a0=>?_,w⟩
     by_cases e:m=(I+J) / 2
     ·rw[e];exact O
     ·have:=F m ((I+J) / 2) (by omega) (by omega);omega
    ·rw[rE O,rE (show ¬ decide ((if id<l[(I+J) / 2]!.ID then(1:Int) else 0)<0)=true by split<;>decide)]
     refine⟨_,rfl,I,(I+J) / 2,rfl,by omega,by omega,by omega,C,λm E j=>?_⟩
     by_cases e:m=(I+J) / 2
     ·rw[e];exact O
     ·have:=F ((I+J) / 2) m (by omega) j;omega
   ·right
    rw[rE (by rw[rJ];omega)]
    exact⟨_,rfl,I,rfl,by omega,C,λm E j=>w m (by omega) j⟩
  ·rintro T ⟨I,J,rfl,U,M,X,C,w⟩
   dsimp only
   unfold IC
   rw[rE (by rw[rJ];omega)]
   exact⟨_,rfl,I,rfl,by omega,C,λm E j=>w m (by omega) j⟩
 obtain⟨r,hr,I,rfl,hI,C,w⟩:=key
 unfold Fm O4
 rw[hr,AD]
 have A:∀k,Bv l id=some k→I=k:=by
  intro k q
  obtain⟨E,j⟩:=Ed q
  have a1:¬ k<I:=λh=>by have:=C k h;omega
  by_cases e:I=k
  ·exact e
  ·have:=F I k (by omega) E
   have:=w I (rN _) (by omega)
   omega
 refine⟨I,?_,A⟩
 by_cases B:I<l.length
 ·rw[rH (show(I:Int)<(l.length:Int) by omega),show((true==true):Bool)=true from rfl,Aj,Af B,AD,Aj,PZ,AD,Bo]
  congr 2
  have h6:=w I (rN _) B
  rw[rE h6]
  cases q:Bv l id with
  | some k=>
   obtain⟨E,j⟩:=Ed q
   have:=A k q
   subst this
   rw[rE (by omega)];rfl
  | none=>
   have a2:l[I]!.ID≠id:=by
    intro e
    have:=uJ.1 q I (rp.2 B)
    exact this (rH e)
   rw[rF (by omega)];rfl
 ·rw[rG (show ¬ (I:Int)<(l.length:Int) by omega)]
  show some ((I:Int),false)=_
  cases q:Bv l id with
  | some k=>
   obtain⟨E,j⟩:=Ed q
   have:=A k q
   omega
  | none=>rfl
def HH(d:Aa):Prop:=d.Nodes.length≤1048576∧∀n∈d.Nodes,F6 n
theorem XK:HA=FK:=by funext f x o;rfl
theorem oz(n:Ac):Qy n=FK n.Flow:=by funext x o;rfl
theorem gu:PV=Ee:=by funext n x o;rfl
theorem lS(n:Ac)(w:List Int)(q:n.Grid.Cells.length≤1048576)(hw:w.length≤1048576):∃r,iter (λ(a:Int × (List Int))=>Ee n a.1 a.2) (0,w)=some r∧r.length≤2097152:=by
 refine JF n.Grid.Cells.length (λk l=>l.1=(k:Int)∧l.2.length≤1048576+k) _ ?_ ?_ ⟨rfl,by simpa using hw⟩
 ·rintro k ⟨x,out⟩ m ⟨rfl,j⟩
  dsimp only at j ⊢
  left
  unfold Ee
  rw[rF (by simpa using m),Af m,AD]
  by_cases r:n.Grid.Cells[k]!.Ref=0
  ·rw[rE (DC r),AD,Ar (by omega),AD]
   exact⟨_,rfl,rfl,by dsimp only;omega⟩
  ·rw[rF (B8 r),OP (by omega),AD,AD,Ar (by omega),AD]
   exact⟨_,rfl,rfl,by dsimp only;rw[List.length_append,List.length_singleton];omega⟩
 ·rintro⟨x,out⟩ ⟨rfl,j⟩
  dsimp only at j ⊢
  unfold Ee
  rw[rE (by simp)]
  exact⟨_,rfl,by omega⟩
theorem dO(n:Ac)(h:F6 n):∃r,H1 n=some r∧Ma n=some r∧r.length≤2097152:=by
 have q:=h.ok.fl
 obtain⟨w,j,A⟩:=nk n.Flow (by omega)
 obtain⟨r,l,m⟩:=lS n w h.ok.gr.1 (by omega)
 refine⟨r,?_,?_,m⟩
 ·unfold H1 Kx
  rw[XK,j,AD,AD,l];rfl
 ·unfold Ma
  rw[oz,gu,j,AD,l];rfl
theorem UK(d:Aa) kind(l:List Int)(w:d.Nodes.length≤1048576)(B:HK d.Nodes)(J:l.length≤2097152):∃e,Hb d kind l=some e∧Nv d kind l=some e:=by
 obtain⟨o,C,E,_⟩:=TQ (ρ:=Int) (f:=λ(a:Int)=>IL d kind l a) (g:=λ(a:Int)=>LG d kind l a) (n:=l.length) (λ_=>True) trivial (λk m _=>by
  unfold IL LG
  obtain⟨i,F,q⟩:=OA d l[k]! w B
  rw[rF (by simpa using m),rF (by simpa using m),Af m,AD,AD,F,Bo,PD _ _ w,AD]
  cases A:Bv d.Nodes l[k]! with
  | none=>exact⟨some 7,rfl,rfl,λe=>by cases e⟩
  | some j=>
   obtain⟨I,M⟩:=Ed A
   have:=q j A
   subst this
   dsimp only
   rw[rE (show ¬ ((!Option.isSome (some i))=true) by simp),Af I,AD,WV,AD,rE (show ¬ decide ((i:Int)<0)=true by simp),AD,pp,AD]
   cases Kt kind d.Nodes[i]!.Kind with
   | false=>exact⟨some 8,rfl,rfl,λe=>by cases e⟩
   | true=>
    rw[Ar (by omega)]
    exact⟨none,rfl,rfl,λ_=>trivial⟩) (by unfold IL;rw[rE (by simp)]) (by unfold LG;rw[rE (by simp)])
 refine⟨o.getD 0,?_,?_⟩
 ·unfold Hb;rw[C,Eu]
 ·unfold Nv;rw[E,Eu]
theorem Z9{l:List Ac}(h:∀k,0<k→k<l.length→l[k-1]!.ID<l[k]!.ID):HK l:=by
 intro a b m q
 induction b with
 | zero=>omega
 | succ b w=>
  have j:=h (b+1) (by omega) q
  rw[uo] at j
  by_cases e:a=b
  ·rw[e];exact j
  ·have:=w (by omega) (by omega);omega
theorem pS(d:Aa)(h:HH d):∃e,E9 d=some e∧M0 d=some e:=by
 obtain⟨F,C⟩:=h
 unfold E9 M0
 by_cases h0:d.Nodes.length=0
 ·rw[rF (by rw[rJ];omega),rF (by rw[rJ];omega)];exact⟨_,rfl,rfl⟩
 ·rw[rE (by rw[rJ];omega),rE (by rw[rJ];omega)]
  obtain⟨o,I,J,M⟩:=TQ (ρ:=Int) (f:=λ(a:Int)=>Ez d a) (g:=λ(a:Int)=>Lp d a) (n:=d.Nodes.length) (λk=>∀j,0<j→j<k→d.Nodes[j-1]!.ID<d.Nodes[j]!.ID) (λj _ O=>absurd O (Nat.not_lt_zero _)) (λk l T=>by
   unfold Ez Lp
   obtain⟨e,w,A⟩:=QQ _ (C _ (Bz l))
   rw[rF (by simpa using l),rF (by simpa using l),Af l,AD,AD,w,A,AD,AD]
   by_cases m:e=0
   ·rw[rE (DC m),rE (DC m)]
    by_cases U:k=0
    ·subst U
     rw[rH (show((0:Nat):Int)=0 from rfl),show((true==true):Bool)=true from rfl,Aj,show(0:Int)=((0:Nat):Int) from rfl,Af l,AD,rG (show ¬ ((0:Nat):Int)<((0:Nat):Int) by omega)]
     by_cases Az:d.Nodes[0]!.ID=1
     ·refine⟨none,?_,?_,λ_ j E V=>by omega⟩
      ·rw[rH Az];rfl
      ·rw[rH Az];rfl
     ·refine⟨some 5,?_,?_,λe=>by cases e⟩
      ·rw[rG Az];rfl
      ·rw[rG Az];rfl
    ·have X:0<k:=by omega
     rw[rG (show ¬ ((k:Int)=0) by omega),rH (show(0:Int)<(k:Int) by omega),show((false==true):Bool)=false from rfl,CL,AD]
     show ∃o:Option Int,(AC (gd true (AY .i64 ((k:Int)-1))) λ(B:Int)=>AC (gd true (AN d.Nodes B)) λ(q:Ac)=>_)=_∧(AC (gd true (AY .i64 ((k:Int)-1))) λ(q:Int)=>AC (gd true (AN d.Nodes q)) λ(Z:Ac)=>_)=_∧_
     rw[Aj,Ey X (by omega),AD,AD,Aj,Af (show k-1<d.Nodes.length by omega),AD,AD,Ar (by omega)]
     by_cases Az:d.Nodes[k]!.ID≤d.Nodes[k-1]!.ID
     ·rw[rH Az]
      exact⟨some 5,rfl,rfl,λe=>by cases e⟩
     ·rw[rG Az]
      refine⟨none,rfl,rfl,λ_ j E V=>?_⟩
      by_cases e:j=k
      ·rw[e];omega
      ·exact T j E (by omega)
   ·rw[rF (B8 m),rF (B8 m)]
    exact⟨some e,rfl,rfl,λe=>by cases e⟩) (by unfold Ez;rw[rE (by simp)]) (by unfold Lp;rw[rE (by simp)])
  rw[I,J]
  cases o with
  | some e=>exact⟨e,rfl,rfl⟩
  | none=>
   have hs:=Z9 (M rfl)
   show ∃e,(BA (iter (λ(a:Int)=>Gr d a) 0) λ(u4:Unit)=>some 0)=some e∧(BA (iter (λ(a:Int)=>Jn d a) 0) λ(u4:Unit)=>some 0)=some e
   obtain⟨o,w,A,_⟩:=TQ (ρ:=Int) (f:=λ(a:Int)=>Gr d a) (g:=λ(a:Int)=>Jn d a) (n:=d.Nodes.length) (λ_=>True) trivial (λk l _=>by
    unfold Gr Jn
    obtain⟨r,r1,r2,r3⟩:=dO _ (C _ (Bz l))
    obtain⟨e,c1,c2⟩:=UK d d.Nodes[k]!.Kind r F hs r3
    rw[rF (by simpa using l),rF (by simpa using l),Af l,AD,AD,r1,r2,AD,AD,c1,c2,AD]
    by_cases m:e=0
    ·rw[rE (DC m),Ar (by omega)]
     exact⟨none,rfl,rfl,λ_=>trivial⟩
    ·rw[rF (B8 m)]
     exact⟨some e,rfl,rfl,λ_=>trivial⟩) (by unfold Gr;rw[rE (by simp)]) (by unfold Jn;rw[rE (by simp)])
   exact⟨o.getD 0,by rw[w,Eu],by rw[A,Eu]⟩
theorem bR{μ:Ac→Nat}{γ:BF→Nat}{ψ:Ao→Nat}{ρ:Ak→Nat}{δ:A3→Nat}{ν:An→Nat}{κ:AE→Nat}
  (m:∀n,(n.Attrs.map κ).sum+(n.Flow.map ν).sum+γ n.Grid+(n.Draw.map δ).sum+1≤μ n) (hg:∀g,(g.Cells.map ψ).sum+(g.Merges.map ρ).sum+1≤γ g)
  (hc:∀c,c.Text.length+(c.Attrs.map κ).sum+1≤ψ c) (A:∀r,1≤ρ r) (hd:∀o,o.Place.length+o.Name.length+o.Value.length+1≤δ o) (B:∀e,(e.Attrs.map κ).sum+1≤ν e) (C:∀a,a.Name.length+a.Value.length+1≤κ a)
  {d:Aa} (E:(d.Nodes.map μ).sum≤1048576):HH d:=by
 have q:=ld m hg (λc=>by have:=hc c;omega) A (λo=>by have:=hd o;omega) B C E
 refine⟨q.1,λn l=>⟨q.2 n l,λc j=>⟨(q.2 n l).gr.2.2 c j,?_⟩,λo w=>?_⟩⟩
 ·have F:=HZ (μ:=μ) l
  have I:=m n
  have M:=hg n.Grid
  have J:=HZ (μ:=ψ) j
  have:=hc c
  omega
 ·have F:=HZ (μ:=μ) l
  have I:=m n
  have J:=HZ (μ:=δ) w
  have:=hd o
  exact⟨by omega,by omega,by omega⟩
end Go.Proofs.YtmeadkhpiobenaaGreatDoor.Al

set_option linter.unusedVariables false
set_option linter.unusedSimpArgs false
namespace Go.Proofs.YtmeadkhpiobenaaGreatDoor.Al
open Go
def Cd:Nat→List UInt8→Option Nat
 | j,[]=>some j
 | j,c::r=>if 48≤c.toNat∧c.toNat≤57 then Cd (j * 10+(c.toNat-48)) r else none
theorem Wi(c:UInt8):∀(l:List UInt8) (j:Nat),Cd j (l++[c])=(Cd j l).bind λa=>if 48≤c.toNat∧c.toNat≤57 then some (a * 10+(c.toNat-48)) else none:=by
 intro l
 induction l with
 | nil=>intro j;simp only[sc,Cd,sD]
 | cons x r m=>
  intro j
  rw[sq,Cd,Cd]
  split
  ·rw[m]
  ·rfl
theorem VU:∀(l:List UInt8) (j v:Nat),Cd j l=some v→j≤v:=by
 intro l
 induction l with
 | nil=>intro j v h;simp only[Cd,rR] at h;omega
 | cons x r m=>
  intro j v h
  rw[Cd] at h
  split at h
  ·have:=m _ _ h;omega
  ·cases h
theorem bZ:∀(l:List UInt8) (j v:Nat),Cd j l=some v→v<1152921504606846976→Lib.parseUint10 j l=.ok v:=by
 intro l
 induction l with
 | nil=>intro j v h _;simp only[Cd,rR] at h;rw[h];rfl
 | cons x r m=>
  intro j v h q
  rw[Cd] at h
  simp only[Lib.parseUint10]
  split at h
  ·rename_i hd
   have:=VU _ _ _ h
   rw[rF hd,rE (by omega),rE (by omega)]
   exact m _ _ h q
  ·cases h
theorem nN u:Cd 0 (Lib.decDigits u)=some u:=by
 induction u using Nat.strongRecOn with
 | _ u j=>
  rw[Lib.decDigits]
  split
  ·rename_i h
   have:(UInt8.ofNat (48+u)).toNat=48+u:=by simp;omega
   simp only[Cd,this]
   rw[rF (by omega)]
   congr 1;omega
  ·rename_i h
   rw[Wi,j (u / 10) (by omega),sD]
   have:(UInt8.ofNat (48+u % 10)).toNat=48+u % 10:=by simp;omega
   rw[this,rF (by omega)]
   congr 1;omega
theorem YV u(h:1≤u):∃c r,Lib.decDigits u=c::r∧49≤c.toNat∧c.toNat≤57:=by
 induction u using Nat.strongRecOn with
 | _ u j=>
  rw[Lib.decDigits]
  split
  ·exact⟨_,[],rfl,by simp;omega,by simp;omega⟩
  ·obtain⟨c,r,e,l,m⟩:=j (u / 10) (by omega) (by omega)
   exact⟨c,r++[UInt8.ofNat (48+u % 10)],by rw[e];rfl,l,m⟩
theorem dv:∀(k u:Nat),u<10 ^ (k+1)→(Lib.decDigits u).length≤k+1:=by
 intro k
 induction k with
 | zero=>
  intro u h
  rw[Lib.decDigits,tv (by simpa using h)];simp
 | succ k j=>
  intro u h
  rw[Lib.decDigits]
  split
  ·simp
  ·have:=j (u / 10) (by rw[Nat.pow_succ] at h;omega)
   simp;omega
theorem eO:∀(n:Nat) (l:List UInt8) (u:Nat),l.length=n→Cd 0 l=some u→(∃c r,l=c::r∧(c.toNat≠48∨r=[]))→l=Lib.decDigits u:=by
 intro n
 induction n with
 | zero=>rintro l u w _ ⟨c,r,rfl,_⟩;simp at w
 | succ n C=>
  rintro l u w j ⟨c,r,rfl,E⟩
  rcases List.eq_nil_or_concat r with rfl | ⟨A,d,rfl⟩
  ·simp only[Cd] at j
   split at j
   ·rename_i hd
    simp only[rR] at j
    rw[Lib.decDigits,tv (by omega)]
    congr 1
    apply UInt8.toNat_inj.1
    simp;omega
   ·cases j
  ·rw[List.concat_eq_append,← sq,Wi] at j
   cases m:Cd 0 (c::A) with
   | none=>rw[m] at j;cases j
   | some a=>
    rw[m,sD] at j
    split at j
    ·rename_i hd
     simp only[rR] at j
     have B:c.toNat≠48:=by
      rcases E with h | h
      ·exact h
      ·simp at h
     have F:1≤a:=by
      have q:=m
      rw[Cd] at q
      split at q
      ·have:=VU _ _ _ q;omega
      ·cases q
     have e:=C (c::A) a (by simp at w ⊢;omega) m ⟨c,A,rfl,.inl B⟩
     rw[List.concat_eq_append,← sq,e,Lib.decDigits.eq_def u,dif_neg (by omega)]
     congr 1
     ·congr 1;omega
     ·congr 1
      apply UInt8.toNat_inj.1
      simp;omega
    ·cases j
def EB(s:List UInt8):Int:=
 match s with
 | []=>-1
 | c::r=>if 10<(c::r).length∨(c.toNat=48∧r≠[]) then -1 else match Cd 0 (c::r) with | some v=>(v:Int) | none=>-1
theorem cY(c:UInt8)(j:48≤c.toNat):IntKind.i64.wrap (IntKind.u8.wrap ((c.toNat:Int)-48))=((c.toNat-48:Nat):Int):=by
 have:=c.toNat_lt
 rw[show IntKind.u8.wrap ((c.toNat:Int)-48)=((c.toNat-48:Nat):Int) by unfold IntKind.wrap;simp[IntKind.signed,IntKind.bits];omega]
 unfold IntKind.wrap
 simp[IntKind.signed,IntKind.bits]
 omega
theorem nS(s:List UInt8):Mv s=some (EB s):=by
 unfold Mv
 cases s with
 | nil=>simp[CL,EB]
 | cons c r=>
  rw[rG (by simp:¬ (c::r)=[]),sO]
  have hN:EB (c::r)=if 10<(c::r).length∨(c.toNat=48∧r≠[]) then -1 else match Cd 0 (c::r) with | some v=>(v:Int) | none=>-1:=rfl
  by_cases h10:10<(c::r).length
  ·have hN1:EB (c::r) = -1:=by rw[hN,rF (.inl h10)]
   rw[hN1,rH (by exact_mod_cast h10)]
   simp[CL]
  ·rw[rG (by exact_mod_cast h10)]
   simp only[show((false==false)=true) from rfl,Aj,sO]
   rw[show AN (c::r) 0=some c from rfl,AD]
   by_cases h0:c.toNat=48∧r≠[]
   ·have hN1:EB (c::r) = -1:=by rw[hN,rF (.inr h0)]
    have h3:0<r.length:=tE.2 h0.2
    rw[hN1,rF (by simp[h0.1];omega)]
   ·have hN1:EB (c::r)=match Cd 0 (c::r) with | some v=>(v:Int) | none=>-1:=by
     rw[hN,rE (by rintro(h | h);exact h10 h;exact h0 h)]
    rw[hN1,rE]
    ·have h:=G8 (f:=λ(a:Int × Int)=>G7 (c::r) a.1 a.2) (c::r) (λ(n:Nat) i=>((n:Int),(i:Int))) (λl n=>match Cd n l with | some v=>(.nrm (v:Int):Ax Int Int) | none=>.ext (-1)) (λi n=>n<10 ^ i)
      (λi n hi hn=>by
       show(∃c',G7 (c::r) (n:Int) (i:Int)=_∧_)∨G7 (c::r) (n:Int) (i:Int)=_
       unfold G7
       rw[rF (by rw[rJ];exact_mod_cast hi),Af hi,AD]
       generalize (c::r)[i]! = x
       have hi10:i≤9:=by omega
       have hp:10 ^ i≤10 ^ 9:=Nat.pow_le_pow_right (by omega) hi10
       by_cases hd:48≤x.toNat∧x.toNat≤57
       ·left
        refine⟨n * 10+(x.toNat-48),?_,by rw[Nat.pow_succ];omega,?_⟩
        ·rw[rE (by simp;omega),CP (by omega) (by omega),AD,cY x hd.1,CP (by omega) (by omega),AD,Ar (by omega),AD]
         congr 3;omega
        ·rw[Cd,rF hd]
       ·right
        rw[rF (by simp;omega),Cd,rE hd])
      (λn hn=>by
       show G7 (c::r) (n:Int) ((c::r).length:Int)=_
       unfold G7
       rw[rE (by simp)]
       rfl) (0:Nat) (by simp) ((0:Int),(0:Int)) rfl
     have h':iter (λ(a:Int × Int)=>G7 (c::r) a.1 a.2) ((0:Int),(0:Int))=_:=h
     rw[h']
     cases Cd 0 (c::r) with
     | none=>rfl
     | some v=>rfl
    ·intro h
     apply h0
     rw[rO,rJ,rJ] at h
     exact⟨by omega,λe=>by rw[e] at h;simp at h⟩
theorem Xk s(n:Int)(F:1≤n)(I:n≤1073741824):(Lib.atoiAll s=.ok n∧Lib.itoa n=s)↔EB s=n:=by
 obtain⟨u,rfl⟩:∃u:Nat,n=(u:Int):=⟨n.toNat,by omega⟩
 have l:1≤u:=by omega
 rw[Lib.itoa_nonneg]
 constructor
 ·rintro⟨_,rfl⟩
  obtain⟨c,r,e,q,w⟩:=YV u l
  have A:=dv 9 u (by omega)
  have j:=nN u
  rw[e] at A j ⊢
  unfold EB
  simp only
  rw[rE (by rintro(h | ⟨h,_⟩)<;>omega),j]
 ·intro h
  unfold EB at h
  split at h
  ·omega
  ·rename_i c r
   split at h
   ·omega
   ·rename_i B
    cases j:Cd 0 (c::r) with
    | none=>rw[j] at h;simp only at h;omega
    | some v=>
     rw[j] at h
     simp only at h
     have:v=u:=by omega
     subst this
     have e:=eO _ (c::r) v rfl j ⟨c,r,rfl,by
      by_cases m:c.toNat=48
      ·right
       apply rm
       intro C
       exact B (.inr ⟨m,C⟩)
      ·exact .inl m⟩
     refine⟨?_,e.symm⟩
     obtain⟨J,M,E,q,w⟩:=YV v l
     rw[E] at e
     simp only[uI] at e
     rw[Lib.atoiAll_plain c r (by rw[e.1];omega) (by rw[e.1];omega)]
     unfold Lib.parseMag
     rw[rE (by simp),bZ _ _ _ j (by omega)]
     simp only[Lib.signless]
     rw[rE (by omega)]
end Go.Proofs.YtmeadkhpiobenaaGreatDoor.Al

namespace Go.Proofs.YtmeadkhpiobenaaGreatDoor.Al
theorem BX{α β:Type}{o:Option α}{f:α→Option β}{r:β}(h:AC o f=some r):∃a,o=some a∧f a=some r:=by
 cases o with
 | none=>cases h
 | some a=>exact⟨a,rfl,h⟩
theorem Nk{d:Aa}(h:HH d)(l:E9 d=some 0):HK d.Nodes∧∀k,k<d.Nodes.length→Dg d.Nodes[k]! = some 0:=by
 obtain⟨T,F⟩:=h
 unfold E9 at l
 split at l
 ·cases l
 let g:Nat→Option Int:=λk=>if(Dg d.Nodes[k]!).getD 0≠0 then some ((Dg d.Nodes[k]!).getD 0) else if(k=0∧d.Nodes[k]!.ID≠1)∨(0<k∧d.Nodes[k]!.ID≤d.Nodes[k-1]!.ID) then some 5 else none
 have hit:iter (λ(a:Int)=>Ez d a) 0=some (DE ((List.range d.Nodes.length).findSome? g)):=by
  refine Bx g (λk j=>?_) (by unfold Ez;rw[rE (by simp)])
  unfold Ez
  obtain⟨e,A,_⟩:=QQ _ (F _ (Bz j))
  show _=C3 k (g k)
  simp only[g]
  rw[rF (by simpa using j),Af j,AD,A,AD]
  show _=C3 k (if e≠0 then some e else _)
  by_cases q:e=0
  ·rw[rE (DC q),rE (by simpa using q)]
   by_cases B:k=0
   ·subst B
    rw[rH (show((0:Nat):Int)=0 from rfl),rG (show ¬ (0:Int)<((0:Nat):Int) by omega)]
    by_cases Az:d.Nodes[0]!.ID=1
    ·rw[rH Az,rE (show ¬ ((0=0∧d.Nodes[0]!.ID≠1)∨(0<0∧d.Nodes[0]!.ID≤d.Nodes[0-1]!.ID)) by rintro(⟨_,b⟩ | ⟨a,_⟩);exact b Az;omega)]
     rfl
    ·rw[rG Az,rF (show((0=0∧d.Nodes[0]!.ID≠1)∨(0<0∧d.Nodes[0]!.ID≤d.Nodes[0-1]!.ID)) from .inl ⟨rfl,Az⟩)]
     rfl
   ·have I:0<k:=by omega
    rw[rG (show ¬ ((k:Int)=0) by omega),rH (show(0:Int)<(k:Int) by omega)]
    show(AC (gd true (AY .i64 ((k:Int)-1))) λ(C:Int)=>AC (gd true (AN d.Nodes C)) λ(J:Ac)=>_)=_
    rw[Aj,Ey I (by omega),AD,Aj,Af (show k-1<d.Nodes.length by omega),AD,Ar (by omega)]
    by_cases Az:d.Nodes[k]!.ID≤d.Nodes[k-1]!.ID
    ·rw[rH Az,rF (show((k=0∧d.Nodes[k]!.ID≠1)∨(0<k∧d.Nodes[k]!.ID≤d.Nodes[k-1]!.ID)) from .inr ⟨I,Az⟩)]
     rfl
    ·rw[rG Az,rE (show ¬ ((k=0∧d.Nodes[k]!.ID≠1)∨(0<k∧d.Nodes[k]!.ID≤d.Nodes[k-1]!.ID)) by rintro(⟨a,_⟩ | ⟨_,b⟩);exact B a;exact Az b)]
     rfl
  ·rw[rF (B8 q),rF q]
   rfl
 rw[hit] at l
 cases w:(List.range d.Nodes.length).findSome? g with
 | some e=>
  rw[w] at l
  have l:(some e:Option Int)=some 0:=l
  injection l with l
  obtain⟨k,_,j⟩:=sN w
  simp only[g] at j
  split at j
  ·rename_i E;injection j with j;exact absurd (j.trans l) E
  ·split at j
   ·injection j with j;omega
   ·cases j
 | none=>
  rw[se] at w
  have j:∀k,k<d.Nodes.length→(Dg d.Nodes[k]!).getD 0=0∧¬ ((k=0∧d.Nodes[k]!.ID≠1)∨(0<k∧d.Nodes[k]!.ID≤d.Nodes[k-1]!.ID)):=by
   intro k j
   have:=w k (rp.2 j)
   simp only[g] at this
   split at this
   ·cases this
   ·rename_i M
    split at this
    ·cases this
    ·rename_i O;exact⟨by simpa using M,O⟩
  refine⟨Z9 λk B m=>?_,λk m=>?_⟩
  ·have:=(j k m).2
   have U:¬ (0<k∧d.Nodes[k]!.ID≤d.Nodes[k-1]!.ID):=λe=>this (.inr e)
   omega
  ·obtain⟨e,A,_⟩:=QQ _ (F _ (Bz m))
   have:=(j k m).1
   rw[A] at this ⊢
   exact rh some this
theorem Yt{d:Aa} id(j:d.Nodes.length≤1048576)(l:HK d.Nodes):Hc d id=some (match Bv d.Nodes id with | some k=>(k:Int) | none=>-1):=by
 unfold Hc
 obtain⟨i,m,q⟩:=OA d id j l
 rw[m,Bo]
 cases w:Bv d.Nodes id with
 | none=>rfl
 | some k=>rw[q k w];rfl
def g0:BF:=BF.mk 2 1 [(Ao.mk 1 0 [120] 0 [])] []
def e0:My:=My.mk [(KR.mk 1 1),(KR.mk 0 2)] [] [] [] []
def nv(c t:Ao):Int:=Bk c.Row t.Row c.Col t.Col
def jJ(l:List Ao):Prop:=∀k,k+1<l.length→nv l[k]! l[k+1]!<0
def Sj(r:Ak)(row j:Int):Bool:=decide (r.Row≤row∧row<r.Row+r.H∧r.Col≤j∧j<r.Col+r.W)
def OY(l:List Ak)(row j:Int)(k:Nat):Option Ak:=if Sj l[k]! row j=true then some l[k]! else none
theorem mU(g:BF) row j (J:Ef g.Rows g.Cols) (M:∀k,k<g.Merges.length→Cg g.Rows g.Cols g.Merges[k]!) (Z:g.Merges.length≤1048576) (hr:row≤9223372036854775807) (hc:j≤9223372036854775807) :
  ∃o:Option Ak,iter (λ(a:Int)=>It g row j a) 0=some (DE o)∧iter (λ(a:Int)=>Ia g row j a) 0=some (DE o):=by
 refine⟨(List.range g.Merges.length).findSome? (OY g.Merges row j),?_,?_⟩
 ·refine Bx (f:=λ(a:Int)=>It g row j a) (n:=g.Merges.length) (OY g.Merges row j) (λk l=>?_) ?_
  ·obtain⟨w,A,B,C,E,F,I,i8⟩:=M k l
   unfold It OY Sj
   rw[rF (by simpa using l),Af l,AD]
   generalize g.Merges[k]! = r at w A B C E F I i8
   obtain⟨T,U,V,X⟩:=J
   by_cases q:r.Row≤row
   ·rw[rH q]
    simp only[sV,Aj,rz]
    rw[CP (by omega) (by omega),AD]
    by_cases m:row-r.Row<r.H∧r.Col≤j
    ·rw[rH m.1,rH m.2]
     simp only[uD,sV,Aj,rz]
     rw[CP (by omega) (by omega),AD]
     by_cases O:j-r.Col<r.W
     ·rw[rF (rH O),rF (by rw[rJ];omega)];rfl
     ·rw[rE (by rw[rJ];exact O),rE (by rw[rJ];omega),Ar (by omega),AD];rfl
    ·have e:((row-r.Row<r.H)&&(r.Col≤j))=false:=by
      rw[← sT,rO,rJ,rJ];exact m
     rw[e]
     simp only[show(false==true)=false from rfl,CL,AD,tK]
     rw[rE (by decide),rE (by rw[rJ];omega),Ar (by omega),AD];rfl
   ·rw[rG q]
    simp only[show(false==true)=false from rfl,CL,AD,tK]
    rw[rE (by decide),rE (by rw[rJ];omega),Ar (by omega),AD];rfl
  ·show It g row j (g.Merges.length:Int)=_
   unfold It
   rw[rE (by simp)]
 ·refine Bx (f:=λ(a:Int)=>Ia g row j a) (n:=g.Merges.length) (OY g.Merges row j) (λk l=>?_) ?_
  ·obtain⟨w,A,B,C,E,F,I,i8⟩:=M k l
   unfold Ia OY Sj
   rw[rF (by simpa using l),Af l,AD]
   generalize g.Merges[k]! = r at w A B C E F I i8
   obtain⟨T,U,V,X⟩:=J
   rw[CP (by omega) (by omega),AD,CP (by omega) (by omega),AD,Ds,AD]
   by_cases q:r.Row≤row∧row≤r.Row+r.H-1
   ·rw[rH q]
    simp only[sV,Aj,rz]
    rw[CP (by omega) (by omega),AD,CP (by omega) (by omega),AD,Ds,AD]
    by_cases m:r.Col≤j∧j≤r.Col+r.W-1
    ·rw[rF (rH m),rF (by rw[rJ];omega)];rfl
    ·rw[rE (by rw[rJ];exact m),rE (by rw[rJ];omega),Ar (by omega),AD];rfl
   ·rw[rG q]
    simp only[show(false==true)=false from rfl,CL,AD,tK]
    rw[rE (by decide),rE (by rw[rJ];omega),Ar (by omega),AD];rfl
  ·show Ia g row j (g.Merges.length:Int)=_
   unfold Ia
   rw[rE (by simp)]
theorem Uh{l:Nat}{G:Nat→Option Int}(h:((List.range l).findSome? G).getD 0=0)(hn:∀k,k<l→G k≠some 0):∀k,k<l→G k=none:=by
 intro k hk
 cases hf:(List.range l).findSome? G with
 | none=>
  rw[se] at hf
  exact hf k (rp.2 hk)
 | some v=>
  rw[hf] at h
  obtain⟨j,hj,hjv⟩:=sN hf
  have h0:v=0:=h
  rw[h0] at hjv
  exact absurd hjv (hn j (rp.1 hj))
theorem YC{g:BF}(h:G0 g=0):Ef g.Rows g.Cols∧jJ g.Cells∧∀k,k<g.Merges.length→Cg g.Rows g.Cols g.Merges[k]!:=by
 unfold G0 at h
 by_cases h1:Ef g.Rows g.Cols
 ·rw[rE (by simpa using h1)] at h
  by_cases h2:Im g.Rows g.Cols false g.Cells=0
  ·rw[rE (by simpa using h2)] at h
   refine⟨h1,λk hk=>?_,λk hk=>?_⟩
   ·have:=Uh h2 (λk _ he=>by
     unfold H3 at he
     split at he
     ·rename_i hne
      injection he with he
      exact hne he
     ·split at he
      ·cases he
      ·cases he) (k+1) (by omega)
    unfold H3 at this
    split at this
    ·cases this
    ·split at this
     ·cases this
     ·rename_i hq
      rw[uo] at hq
      show Bk _ _ _ _<0
      have:=λh=>hq ⟨by omega,h⟩
      omega
   ·have:=Uh h (λk _ he=>by
     unfold JN at he
     split at he
     ·cases he
     ·split at he
      ·cases he
      ·split at he
       ·cases he
       ·split at he
        ·cases he
        ·cases he) k hk
    exact S7 this
  ·rw[rF h2] at h;exact absurd h h2
 ·rw[rF h1] at h;cases h
def Ka(c:UInt8):Bool:=(97≤c.toNat)&&(c.toNat≤122)
def LL(s:List UInt8):Bool:=s.all Ka&&(1≤s.length)&&(s.length≤200)&&!(s[s.length-1]!.toNat=97)
theorem iw(c:UInt8):(((c.toNat:Int)<97)||(122<(c.toNat:Int)))=!Ka c:=by
 unfold Ka
 rw[sE]
 simp only[rV,rJ,sB,tJ,sW]
 omega
theorem cP(s:List UInt8)(l:s.length≤1048576):iter (λ(a:Int)=>JZ s a) 0=some (DE (if s.all Ka then none else some false)):=by
 rw[Bx (n:=s.length) (λk=>if Ka s[k]! then none else some false) (λk j=>by
  unfold JZ
  rw[rF (by simpa using j),Af j,AD,Ar (by omega),iw]
  cases Ka s[k]!<;>rfl) (by unfold JZ;rw[rE (by simp)]),QE]
theorem nP(c:UInt8):decide ((c.toNat:Int)=97)=decide (c.toNat=97):=by
 rw[sE];simp only[rJ];omega
theorem jO(s:List UInt8)(w:s.length≤1048576):KT s=some (LL s):=by
 unfold KT
 rw[cP s w]
 unfold LL
 by_cases j:s=[]
 ·subst j;rfl
 ·have m:1≤s.length:=tE.2 j
  rw[rG j,sO]
  by_cases q:s.length≤200
  ·have l:decide (200<(s.length:Int))=false:=by simp;omega
   rw[l,show((false==false)=true) from rfl,Aj,Ey m (by omega),AD,Aj,Af (by omega),AD,sO,nP]
   rw[rH m,rH q]
   generalize s.all Ka=A
   cases decide (s[s.length-1]!.toNat=97)<;>cases A<;>rfl
  ·have l:decide (200<(s.length:Int))=true:=by simp;omega
   rw[l,show((true==false)=false) from rfl,CL,AD,CL,AD,tu,rF rfl,rG q]
   simp
def FH(x:A3):Int:=
 if x.Kind≠0∧x.Kind≠1 then 8
 else if ¬ (((1≤x.Clock∧x.Clock≤1073741824)∧(0≤x.Site∧x.Site≤1000))∧(1≤x.Item∧x.Item≤1073741824)) then 2
 else if x.Kind=0 then(if x.Name≠[]∨x.Value≠[] then 4 else if ¬ (-1≤x.Parent∧x.Parent≤1073741824) then 2 else if LL x.Place then 0 else 9)
 else(if x.Parent≠0∨x.Place≠[] then 4 else if EE x.Name then(if x.Value≠[]∧Dc x.Value=false then 23 else 0) else 9)
structure Yy(x:A3):Prop where
 place:x.Place.length≤1048576
 name:x.Name.length≤1048576
 value:x.Value.length≤1048576
theorem cX x(h:Yy x):JY x=some (FH x):=by
 unfold JY FH
 rw[jO _ h.place,R6 _ (by have:=h.name;omega),Sd _ (by have:=h.value;omega)]
 obtain⟨Clock,Site,Kind,Item,j,Place,Name,Value⟩:=x
 dsimp only
 by_cases w:Kind≠0∧Kind≠1
 ·rw[rF w,rF (by simp[w.1,w.2])]
 rw[rE w,rE (by simpa using w)]
 by_cases B:((1≤Clock∧Clock≤1073741824)∧(0≤Site∧Site≤1000))∧(1≤Item∧Item≤1073741824)
 ·rw[rE (rt.2 B),rE (by simp only[rV,rJ];omega)]
  by_cases A:Kind=0
  ·subst A
   rw[rF rfl]
   by_cases l:Name≠[]∨Value≠[]
   ·rw[rF l,rF (by rcases l with h | h<;>simp[h])]
    rcases l with h | h<;>simp[h]
   ·have m:Name=[]:=rm λh=>l (.inl h)
    have q:Value=[]:=rm λh=>l (.inr h)
    subst m;subst q
    rw[rE l]
    simp only[ul,tS,Bool.or_self,uN,si,tV,AD,show(decide ((0:Int)=1))=false from rfl,tK,rz,sV,Aj]
    by_cases hp : -1≤j∧j≤1073741824
    ·rw[rE (rt.2 hp),rE (by simp only[rV,rJ];omega)]
     cases LL Place<;>simp[CL]
    ·rw[rF hp,rF (by simp only[rV,rJ];omega)]
  ·have E:Kind=1:=rm λh=>w ⟨A,h⟩
   subst E
   rw[rE A]
   simp only[show(decide ((1:Int)=0))=false from rfl,tK,si,tV,AD,ul,rz,show(false==true)=false from rfl,CL,sV,Aj]
   by_cases l:j≠0∨Place≠[]
   ·rw[rF l,rF (by rcases l with h | h<;>simp[h])]
   ·have m:j=0:=rm λh=>l (.inl h)
    have q:Place=[]:=rm λh=>l (.inr h)
    subst m;subst q
    rw[rE l,rE (by simp)]
    cases EE Name
    ·simp
    ·by_cases C:Value=[]
     ·subst C;simp[CL]
     ·simp[C]
      cases Dc Value<;>rfl
 ·rw[rF B,rF (by simp only[rV,rJ];omega)]
def Lh(a b:A3):Bool:=(a.Clock<b.Clock)||((a.Clock=b.Clock)&&(a.Site<b.Site))
def GB(x y:Int):Int:=if x<y then -1 else if y<x then 1 else 0
theorem PX x y:F1 x y=some (GB x y):=by
 unfold F1 GB Le
 simp only[ul,tS,AD,si,tV,rJ]
 split
 ·rfl
 ·split<;>rfl
theorem YP x y:H8 [x,y]=some (if x≠0 then x else y):=by
 unfold H8
 rw[Bx (n:=2) (λk=>if [x,y][k]!≠0 then some [x,y][k]! else none) (λk m=>by
  unfold Dh
  rw[rF (by simp;omega),Af (by simpa using m),AD,Ar (by omega)]
  by_cases h:[x,y][k]! = 0
  ·rw[rE (by rw[h];decide),rE (rt.2 h)];rfl
  ·rw[rF (by rw[rG h];rfl),rF h];rfl) (by unfold Dh;rw[rE (by simp)])]
 by_cases j:x=0
 ·by_cases l:y=0
  ·subst j;subst l;rfl
  ·subst j;simp[List.range_succ,l,DE]
 ·simp[List.range_succ,j,DE]
theorem gx(a b:A3):∃r,J8 a b=some r∧decide (r<0)=Lh a b∧decide (0≤r)=!Lh a b:=by
 unfold J8
 rw[PX,PX,AD,AD,YP,AD]
 refine⟨_,rfl,?_⟩
 have key:(if GB a.Clock b.Clock≠0 then GB a.Clock b.Clock else GB a.Site b.Site)<0↔Lh a b=true:=by
  unfold Lh GB
  simp only[rV,rO,rJ]
  by_cases j:a.Clock<b.Clock
  ·simp[j]
  ·by_cases l:b.Clock<a.Clock
   ·simp[j,l];omega
   ·by_cases m:a.Site<b.Site
    ·simp[j,l,m];omega
    ·by_cases q:b.Site<a.Site
     ·simp[j,l,m,q]
     ·simp[j,l,m,q]
 constructor
 ·rw[sE,rJ];exact key
 ·rw[sE,rJ,sB,← sT,← key];omega
def Ir(l:List A3):Prop:=∀x∈l,Yy x
def L1(l:List A3)(k:Nat):Option Int:=if FH l[k]!≠0 then some (FH l[k]!) else if 0<k∧Lh l[k-1]! l[k]! = false then some 5 else none
def QA(l:List A3):Int:=((List.range l.length).findSome? (L1 l)).getD 0
theorem gQ(l:List A3)(h:Ir l)(C:l.length≤1048576):Jx l=some (QA l):=by
 unfold Jx
 rw[Bx (n:=l.length) (L1 l) (λk m=>by
  unfold Jk L1
  rw[rF (by simpa using m),Af m,AD,cX _ (h _ (Bz m)),AD,Ar (by omega)]
  by_cases j:FH l[k]! = 0
  ·rw[rE (by rw[j];decide),rE (rt.2 j)]
   by_cases q:k=0
   ·subst q;rfl
   ·have w:decide ((0:Int)<(k:Int))=true:=by simp;omega
    obtain⟨r,A,_,B⟩:=gx l[k-1]! l[k]!
    rw[w,show((true==true)=true) from rfl,Aj,Ey (by omega) (by omega),AD,Aj,Af (by omega),AD,Aj,A,AD,B,rz]
    cases j:Lh l[k-1]! l[k]!
    ·rw[rF (by decide),rF ⟨by omega,rfl⟩];rfl
    ·rw[rE (by simp),rE (by simp)];rfl
  ·rw[rF (by rw[rG j];rfl),rF j];rfl) (by unfold Jk;rw[rE (by simp)]),Eu]
 rfl
def LR(j:Bool)(e:AE):Prop:=EE e.Name=true∧(Dc e.Value=true∨(j=true∧e.Value=[]))
theorem NU(l:List AE)(ch:Bool):Bw l ch=0↔Bl l∧∀e∈l,LR ch e:=by
 constructor
 ·intro h
  refine⟨(Jq h).1,λe he=>?_⟩
  obtain⟨k,hk,rfl⟩:=sJ.1 he
  have hn:EY l ch k=none:=by
   unfold Bw at h
   cases hf:(List.range l.length).findSome? (EY l ch) with
   | none=>exact(XJ _ _).1 hf k hk
   | some r=>
    rw[hf] at h
    obtain⟨j,_,hj⟩:=sN hf
    exfalso
    unfold EY at hj
    simp only[sY] at h
    subst h
    repeat' split at hj
    all_goals simp at hj
  unfold EY at hn
  rw[re l k hk] at hn
  generalize l[k]=x at hn ⊢
  unfold LR
  by_cases c1:EE x.Name=false
  ·rw[rF c1] at hn;cases hn
  ·rw[rE c1] at hn
   by_cases c2:Dc x.Value=false∧¬ (ch=true∧x.Value=[])
   ·rw[rF c2] at hn;cases hn
   ·refine⟨by simpa using c1,?_⟩
    by_cases c3:Dc x.Value=true
    ·exact .inl c3
    ·exact .inr (rm λh3=>c2 ⟨by simpa using c3,h3⟩)
 ·rintro⟨hs,hv⟩
  unfold Bw
  have:(List.range l.length).findSome? (EY l ch)=none:=by
   rw[se]
   intro k hk
   have hk:=rp.1 hk
   have h1:=hv _ (Bz hk)
   unfold EY
   unfold LR at h1
   rw[rE (by rw[h1.1];simp),rE (by rintro⟨a1,a2⟩;rcases h1.2 with h2 | h2;rw[a1] at h2;cases h2;exact a2 h2),rE]
   rintro⟨h0,h2⟩
   have:=tN.1 hs (k-1) k (by omega) hk (by omega)
   rw[re l k hk,re l (k-1) (by omega)] at h2
   rw[this] at h2;cases h2
  rw[this];rfl
theorem YD:∀ {l:List AE},Bl l→∀e∈l,Av l e.Name=some e
 | [],_,e,h=>by simp at h
 | x::l,j,e,h=>by
  obtain⟨m,q⟩:=EW.1 j
  rcases ro.1 h with rfl | h
  ·unfold Av;rw[rF rfl]
  ·have:=E2 (m e h)
   unfold Av;rw[rE (uM this)]
   exact YD q e h
theorem cA{j}{g}{G}(h:∀x y o, j x y o=o++g x y)(hg:PP g G){a b}{l m w}
 (A:Bw a l=0) (B:Bw b m=0) (F:∀x y e, (∀z, x=some z→LR l z)→(∀z, y=some z→LR m z)→G x y=some e→LR w e):Bw (CH j a b []) w=0 := by
  obtain⟨I, v1⟩ := (NU a l).1 A
  obtain⟨J, M⟩ := (NU b m).1 B
  obtain⟨C, O⟩ := Xw h hg I J (Jq A).2.1 (Jq B).2.1
  refine(NU _ _).2 ⟨C, λe T => ?_⟩
  have E := YD C e T
  rw[O] at E
  exact F _ _ e (λz q => v1 z (Qj q).2) (λz q => M z (Qj q).2) E
theorem mQ{a b}(l:Bw a false=0)(m:Bw b true=0):Bw (CH FD a b []) false=0:=
 cA YF ZM l m λx y e q w h=>by
  unfold G2 at h
  split at h
  ·exact q e h
  ·split at h
   ·cases h
   ·rename_i A
    cases h
    have:=w e rfl
    exact⟨this.1,.inl (by rcases this.2 with j | j;exact j;exact absurd j.2 A)⟩
theorem ng{a:AE}(j:EE a.Name=true)(l:a.Value=[]∨Dc a.Value=true):Bw [a] true=0:=by
 refine(NU _ _).2 ⟨by unfold Bl;simp,λe m=>?_⟩
 obtain rfl:=tM.1 m
 exact⟨j,l.elim (λh=>.inr ⟨rfl,h⟩) .inl⟩
def FG(l:List AE)(a:AE):List AE:=CH FD l [a] []
theorem Qh(l:List AE) a:(FG l a).length≤l.length+1:=by
 have:=db FD X2 _ l [a] [] rfl
 simpa[FG] using this
theorem ZP{l}{a}(j:Bw l false=0)(m:Bw [a] true=0):Bw (FG l a) false=0:=mQ j m
theorem ZN{l:List AE}{a}(h:l.length≤1048576):Lx l [a]=some (FG l a):=pN _ _ (by simp;omega)
theorem XF{l:List AE}{a}(j:Bw l false=0)(m:Bw [a] true=0)(h:l.length≤1048576):LU l [a]=some (FG l a):=by
 rw[jo l [a] (Jq j).1 (Jq m).1 (by simp;omega),← mD j m];rfl
theorem Su:Bw [] false=0:=by decide
def BQ(l:List AB):List (Int × AB):=l.map λx=>(x.Item,x)
def Cf(l:List AB):List (Int × List AE):=l.map λx=>(x.Item,x.Attrs)
theorem VH l k:Ae (Cf l) k=Ae (BQ l) k:=by
 induction l with
 | nil=>rfl
 | cons x r j=>show(if k=x.Item then some 0 else(Ae (Cf r) k).map (· + 1))=(if k=x.Item then some 0 else(Ae (BQ r) k).map (· + 1));rw[j]
theorem HC{l:List AB}{k}{j}(h:Ae (BQ l) k=some j):∃q:j<l.length,l[j].Item=k:=by
 obtain⟨v,m,_⟩:=DH h
 unfold BQ at m
 rw[rT,rU] at m
 obtain⟨x,A,w⟩:=m
 obtain⟨q,rfl⟩:=rM.1 A
 simp only[rW] at w
 exact⟨q,w.1⟩
theorem Jm{l}{k}(h:Ae (BQ l) k=none):∀x∈l,x.Item≠k:=by
 induction l with
 | nil=>intro x m;cases m
 | cons y r w=>
  unfold BQ at h
  rw[rq] at h
  unfold Ae at h
  split at h
  ·cases h
  ·rename_i A
   have B:Ae (BQ r) k=none:=by
    cases q:Ae (BQ r) k with
    | none=>rfl
    | some j=>unfold BQ at q;rw[q] at h;cases h
   intro x m
   rcases ro.1 m with rfl | m
   ·exact λe=>A e.symm
   ·exact w B x m
theorem aH{l}{k} : AR (BQ l) k=(Ae (BQ l) k).bind λj=>l[j]?:=by
 cases h:Ae (BQ l) k with
 | none=>exact(Ek h).1
 | some j=>
  obtain⟨v,m,w,_⟩:=DH h
  unfold BQ at m
  rw[rT,rU] at m
  obtain⟨x,A,q⟩:=m
  simp only[rW] at q
  rw[w,sD,A,q.2]
def Qu(key:Int)(l:List AB)(c:Nat):Ax Unit Int:=match Ae (BQ l) key with | some j=>.ext ((c+j:Nat):Int) | none=>.nrm ()
def Ho(l:List AB)(k:Int):Int:=match Ae (BQ l) k with | some j=>(j:Int) | none=>-1
theorem MA(l:List AB) k(A:l.length≤1048577):Hz l k=some (Ho l k):=by
 unfold Hz
 have h:=G8 (f:=λ(a:Int)=>Hx l k a) l (λ(_:Nat) i=>(i:Int)) (λr c=>Qu k r c) (λi c=>c=i)
  (λi c w q=>by
   subst q
   show(∃B,Hx l k (c:Int)=_∧_)∨Hx l k (c:Int)=_
   unfold Hx
   rw[rF (by simpa using w),Af w,AD,Ar (by omega)]
   by_cases m:l[c]!.Item=k
   ·right
    rw[rF (by simpa using m)]
    unfold Qu BQ
    rw[rq]
    unfold Ae
    rw[rF m.symm];rfl
   ·left
    refine⟨c+1,by rw[rE (by simpa using m)];rfl,rfl,?_⟩
    unfold Qu BQ
    rw[rq]
    conv=>lhs;unfold Ae
    rw[rE (λe=>m e.symm)]
    cases Ae ((l.drop (c+1)).map λx=>(x.Item,x)) k with
    | none=>rfl
    | some j=>simp only[sP];congr 2;omega)
  (λc q=>by
   subst q
   show Hx l k (l.length:Int)=_
   unfold Hx
   rw[rE (by simp)];rfl) 0 rfl 0 rfl
 rw[h]
 unfold Qu Ho
 cases Ae (BQ l) k with
 | none=>rfl
 | some j=>simp
inductive BP(items:List AB)(top:Int):Int→Prop
 | self:BP items top top
 | step {x:AB} (hx:x∈items) (h:BP items top x.Parent):BP items top x.Item
theorem BP.inv{j}{top y}(h:BP j top y):y=top∨∃x∈j,x.Item=y∧BP j top x.Parent:=by
 cases h with
 | self=>exact .inl rfl
 | step l h=>exact .inr ⟨_,l,rfl,h⟩
def Rk(j:List AB)(d:Int→Nat):Prop:=∀x∈j,d x.Parent<d x.Item
def Uq(j:List AB):Prop:=(j.map (·.Item)).Nodup
theorem Uq.eq{j}(h:Uq j){x y:AB}(w:x∈j)(A:y∈j)(e:x.Item=y.Item):x=y:=by
 unfold Uq at h
 induction j with
 | nil=>cases w
 | cons a r C=>
  rw[rq,uf] at h
  rcases ro.1 w with B | m
  ·rcases ro.1 A with q | l
   ·rw[B,q]
   ·exact(h.1 (sM.2 ⟨y,l,by rw[← B];exact e.symm⟩)).elim
  ·rcases ro.1 A with q | l
   ·exact(h.1 (sM.2 ⟨x,m,by rw[← q];exact e⟩)).elim
   ·exact C h.2 m l
theorem PH{j}(q:Uq j){top}{x:AB}(m:x∈j)(l:x.Item≠top):BP j top x.Item↔BP j top x.Parent:=by
 constructor
 ·intro h
  rcases h.inv with e | ⟨z,w,e,A⟩
  ·exact absurd e l
  ·rw[q.eq m w e.symm];exact A
 ·exact BP.step m
open Classical in
theorem o6{m}{d}(Az:∀x∈m,1≤x.Item)(T:Uq m)(O:Rk m d){top}(X:1≤top)(m2:List (Int × List AE)) :
  ∀l:Int,Oz (BQ m) m2 l top=some (decide (BP m top l)):=by
 have key:∀(n:Nat) (l:Int),d l≤n→∃c,iter (λ(a:Int)=>GI (BQ m) top a) l=some c∧BA (some c) (λ(_:Unit)=>some false)=some (decide (BP m top l)):=by
  intro n
  induction n with
  | zero=>
   intro l hd
   by_cases w:0<l
   ·by_cases q:l=top
    ·subst q
     refine⟨.ext true,Ba (by unfold GI;rw[rF (by simpa using w),rF (by simp)]),?_⟩
     rw[Hy,rH (BP.self)]
    ·cases A:Ae (BQ m) l with
     | none=>
      have I:=Jm A
      refine⟨.ext false,Ba (by unfold GI;rw[rF (by simpa using w),rE (by simpa using q),(Ek A).1];rfl),?_⟩
      rw[Hy,rG]
      intro C
      rcases C.inv with e | ⟨x,E,e,_⟩
      ·exact q e
      ·exact I x E e
     | some j=>
      obtain⟨F,e⟩:=HC A
      have:=O _ (ry F)
      rw[e] at this
      omega
   ·refine⟨.nrm (),Ba (by unfold GI;rw[rE (by simpa using w)]),?_⟩
    rw[T9,rG]
    intro C
    rcases C.inv with e | ⟨x,E,e,_⟩
    ·omega
    ·have:=Az x E;omega
  | succ n U=>
   intro l hd
   by_cases w:0<l
   ·by_cases q:l=top
    ·subst q
     refine⟨.ext true,Ba (by unfold GI;rw[rF (by simpa using w),rF (by simp)]),?_⟩
     rw[Hy,rH (BP.self)]
    ·cases A:Ae (BQ m) l with
     | none=>
      have I:=Jm A
      refine⟨.ext false,Ba (by unfold GI;rw[rF (by simpa using w),rE (by simpa using q),(Ek A).1];rfl),?_⟩
      rw[Hy,rG]
      intro C
      rcases C.inv with e | ⟨x,E,e,_⟩
      ·exact q e
      ·exact I x E e
     | some j=>
      obtain⟨F,e⟩:=HC A
      have B:=ry F
      have J:=O _ B
      rw[e] at J
      obtain⟨c,M,V⟩:=U m[j].Parent (by omega)
      refine⟨c,?_,?_⟩
      ·rw[B7 (s':=m[j].Parent) (by
        unfold GI
        rw[rF (by simpa using w),rE (by simpa using q),aH,A,sD,rK F]
        rfl)]
       exact M
      ·rw[V]
       congr 1
       rw[ti,← PH T B (by rw[e];exact q),e]
   ·refine⟨.nrm (),Ba (by unfold GI;rw[rE (by simpa using w)]),?_⟩
    rw[T9,rG]
    intro C
    rcases C.inv with e | ⟨x,E,e,_⟩
    ·omega
    ·have:=Az x E;omega
 intro l
 obtain⟨c,q,M⟩:=key _ l (rN _)
 unfold Oz
 rw[q];exact M
theorem Xx{α:Type}{p q}{l:List α}(h:∀x∈l,p x=true→q x=true){z}(j:z∈l)(w:q z=true)(A:p z=false):l.countP p<l.countP q:=by
 induction l with
 | nil=>cases j
 | cons a r B=>
  have E:r.countP p≤r.countP q:=uc λx m=>h x (rY _ m)
  rw[uX,uX]
  rcases ro.1 j with rfl | j
  ·rw[w,A];simp;omega
  ·have:=B (λx m=>h x (rY _ m)) j
   have C:=h a (rg ..)
   cases hp:p a
   ·simp;split<;>omega
   ·rw[C hp];simp;omega
open Classical in
theorem ir{l:List AB}{d}(X:Uq l)(Z:Rk l d)(hm:l.length≤1048576)(top q:Int):Lk l q top=some (decide (BP l top q)):=by
 let r:Int→Nat:=λy=>l.countP λz=>decide (d z.Item<d y)
 have F:∀x∈l,r x.Item+1≤l.length:=λx A=>by
  have:=Xx (p:=λz=>decide (d z.Item<d x.Item)) (q:=λ_=>true) (l:=l) (λ_ _ _=>rfl) A rfl (by simp)
  rw[List.countP_true] at this
  exact this
 have C:∀x∈l,∀y∈l,y.Item=x.Parent→r y.Item+1≤r x.Item:=λx A y hy e=>by
  have B:=Z x A
  exact Xx (p:=λz=>decide (d z.Item<d y.Item)) (q:=λz=>decide (d z.Item<d x.Item)) (λz _ T=>by simp at T ⊢;rw[e] at T;omega) hy (by simp;rw[e];exact B) (by simp)
 have key:∀(m:Nat) (q:Int) (i:Nat),i+m=l.length+1→1≤m→(∀x∈l,x.Item=q→r q+2≤m) →
   ∃c,iter (λ(a:Int × Int)=>GX l top ((l.length+1:Nat):Int) a.1 a.2) (q,(i:Int))=some c∧BA (some c) (λ(_:Unit)=>some false)=some (decide (BP l top q)):=by
  intro m
  induction m with
  | zero=>intro q i _ h;omega
  | succ m ih=>
   intro q i hi _ hn
   have E:decide ((i:Int)<((l.length+1:Nat):Int))=true:=by simp;omega
   by_cases B:q=top
   ·subst B
    refine⟨.ext true,Ba (by show GX l q _ q (i:Int)=_;unfold GX;rw[rF E,rF (by simp)]),?_⟩
    rw[Hy,rH (BP.self)]
   ·cases I:Ae (BQ l) q with
    | none=>
     have J:=Jm I
     refine⟨.ext false,Ba (by
      show GX l top _ q (i:Int)=_
      unfold GX
      rw[rF E,rE (by simpa using B),MA _ _ (by omega),AD]
      unfold Ho
      rw[I];rfl),?_⟩
     rw[Hy,rG]
     intro hb
     rcases hb.inv with e | ⟨x,A,e,_⟩
     ·exact B e
     ·exact J x A e
    | some j=>
     obtain⟨U,e⟩:=HC I
     have w:=ry U
     have a0:=hn _ w e
     obtain⟨c,M,h3⟩:=ih l[j].Parent (i+1) (by omega) (by omega) (λx A V=>by
      have:=C _ w x A V
      rw[e] at this
      rw[← V];omega)
     refine⟨c,?_,?_⟩
     ·rw[B7 (s':=(l[j].Parent,((i+1:Nat):Int))) (by
       show GX l top _ q (i:Int)=_
       unfold GX
       rw[rF E,rE (by simpa using B),MA _ _ (by omega),AD]
       unfold Ho
       rw[I]
       simp only
       rw[rE (by simp),D9 U,AD,Ar (by omega),AD])]
      exact M
     ·rw[h3]
      congr 1
      rw[ti,← PH X w (by rw[e];exact B),e]
 unfold Lk
 rw[Ar (by omega),AD]
 obtain⟨c,B,M⟩:=key (l.length+1) q 0 (by omega) (by omega) (λx A e=>by have:=F x A;rw[e] at this;omega)
 have O:iter (λ(a:Int × Int)=>GX l top ((l.length+1:Nat):Int) a.1 a.2) (q,0)=some c:=B
 rw[O];exact M
def upd(l:List AB)(n:AB):List AB:=match Ae (BQ l) n.Item with | some j=>l.set j n | none=>l++[n]
theorem kG l(n:AB):Ag (BQ l) n.Item n=BQ (upd l n):=by
 unfold upd
 cases h:Ae (BQ l) n.Item with
 | none=>rw[(Ek h).2];simp[BQ]
 | some j=>
  obtain⟨v,_,_,m⟩:=DH h
  rw[m];simp[BQ,tx]
theorem Ys l(n:AB):Ag (Cf l) n.Item n.Attrs=Cf (upd l n):=by
 unfold upd
 have m:=VH l n.Item
 cases h:Ae (BQ l) n.Item with
 | none=>rw[h] at m;rw[(Ek m).2];simp[Cf]
 | some j=>
  rw[h] at m
  obtain⟨v,_,_,q⟩:=DH m
  rw[q];simp[Cf,tx]
theorem S1(l:List AB) n:(upd l n).length≤l.length+1:=by
 unfold upd
 split<;>simp
theorem SR{l:List AB}(h:Uq l)(n:AB):Uq (upd l n):=by
 unfold upd
 split
 ·rename_i j m
  obtain⟨A,e⟩:=HC m
  unfold Uq at h ⊢
  rw[tx,← e]
  have:(l.map (·.Item)).set j l[j].Item=l.map (·.Item):=by
   apply s8
   intro i
   rw[sg]
   split
   ·rename_i q;subst q;simp[A]
   ·rfl
  rw[this];exact h
 ·rename_i m
  have B:=Jm m
  unfold Uq at h ⊢
  rw[s9,ut,uy]
  refine⟨h,by simp,λa C b w=>?_⟩
  rw[tM] at w
  obtain⟨x,E,rfl⟩:=sM.1 C
  rw[w];exact B x E
theorem I8{l}(h:Uq l){n z:AB}(w:z∈upd l n):z=n∨(z∈l∧z.Item≠n.Item):=by
 unfold upd at w
 split at w
 ·rename_i j C
  obtain⟨F,e⟩:=HC C
  obtain⟨i,A⟩:=sb.1 w
  rw[sg] at A
  split at A
  ·cases A;exact .inl rfl
  ·rename_i E
   obtain⟨m,rfl⟩:=rM.1 A
   refine .inr ⟨ry m,λI=>E ?_⟩
   unfold Uq at h
   rw[tc,tN] at h
   rcases Nat.lt_trichotomy i j with q | heq | q
   ·exact(h i j (by simpa using m) (by simpa using F) q (by simp[I,e])).elim
   ·exact heq.symm
   ·exact(h j i (by simpa using F) (by simpa using m) q (by simp[I,e])).elim
 ·rename_i C
  have J:=Jm C
  rcases sp.1 w with B | B
  ·exact .inr ⟨B,J z B⟩
  ·exact .inl (tM.1 B)
open Classical in
theorem gH{l}{d}(B:Rk l d)(w:Uq l){n:AB}(C:¬ BP l n.Item n.Parent):∃E,Rk (upd l n) E:=by
 refine⟨λy=>if BP l n.Item y then d y+d n.Parent+1 else d y,λz F=>?_⟩
 simp only
 rcases I8 w F with rfl | ⟨j,q⟩
 ·rw[rE C,rF BP.self];omega
 ·have I:=B z j
  have A:=PH w j q
  by_cases m:BP l n.Item z.Item
  ·rw[rF m,rF (A.1 m)];omega
  ·rw[rE m,rE (λh=>m (A.2 h))];exact I
structure DI(k:Nat)(items attrs:List AB):Prop where
 uq:Uq items
 id:∀x∈items,1≤x.Item
 no:∀x∈items,x.Attrs=[]
 rk:∃d,Rk items d
 li:items.length≤k
 ua:Uq attrs
 la:attrs.length≤k
 ok:∀x∈attrs,Bw x.Attrs false=0∧x.Attrs.length≤k
 ia:∀x∈attrs,1≤x.Item∧x.Item≤1073741824
 mv:∀x∈items,x.Item≤1073741824∧(-1≤x.Parent∧x.Parent≤1073741824)∧LL x.Place=true
 sa:(attrs.map (·.Attrs.length)).sum≤k
theorem mY{l:List AB}{n:AB}(h:Ae (BQ l) n.Item=none):((upd l n).map (·.Attrs.length)).sum=(l.map (·.Attrs.length)).sum+n.Attrs.length:=by
 unfold upd
 rw[h]
 simp
theorem jF:∀(l:List Nat) (j:Nat) (m:j<l.length) (v:Nat),(l.set j v).sum+l[j]=l.sum+v:=by
 intro l
 induction l with
 | nil=>intro j m;simp at m
 | cons a r q=>
  intro j m v
  cases j with
  | zero=>simp;omega
  | succ j=>
   have:=q j (by simpa using m) v
   simp
   omega
theorem jl{l:List AB}{n:AB}{j}(h:Ae (BQ l) n.Item=some j)(m:j<l.length):((upd l n).map (·.Attrs.length)).sum+l[j].Attrs.length=(l.map (·.Attrs.length)).sum+n.Attrs.length:=by
 have:=jF (l.map (·.Attrs.length)) j (by simpa using m) n.Attrs.length
 unfold upd
 rw[h]
 simp only[tx,uY] at *
 exact this
theorem ep{o:A3}(h:FH o=0)(j:o.Kind=0):(-1≤o.Parent∧o.Parent≤1073741824)∧LL o.Place=true:=by
 unfold FH at h
 split at h
 ·exact absurd h (by decide)
 split at h
 ·exact absurd h (by decide)
 try rw[rF j] at h
 split at h
 ·exact absurd h (by decide)
 split at h
 ·exact absurd h (by decide)
 ·rename_i hp
  split at h
  ·rename_i l;exact⟨rt.1 hp,l⟩
  ·exact absurd h (by decide)
theorem nu{o:A3}(h:FH o=0):(1≤o.Item∧o.Item≤1073741824)∧((o.Kind=0)∨(o.Kind=1∧Bw [⟨o.Name,o.Value⟩] true=0)):=by
 unfold FH at h
 split at h
 ·exact absurd h (by decide)
 rename_i m
 split at h
 ·exact absurd h (by decide)
 rename_i q
 refine⟨(rt.1 q).2,?_⟩
 split at h
 ·rename_i j;exact .inl j
 ·rename_i j
  have w:o.Kind=1:=rm λh=>m ⟨j,h⟩
  refine .inr ⟨w,?_⟩
  split at h
  ·exact absurd h (by decide)
  ·split at h
   ·rename_i A
    split at h
    ·exact absurd h (by decide)
    ·rename_i B
     refine ng A ?_
     by_cases e:o.Value=[]
     ·exact .inl e
     ·right
      cases l:Dc o.Value
      ·exact absurd ⟨e,l⟩ B
      ·rfl
   ·exact absurd h (by decide)
theorem In{α:Type}{l m:List α}(h:l.length+m.length≤2097152):app 56 l m=some (l++m):=by
 unfold app
 rw[rF ⟨by omega,by omega⟩]
open Classical in
theorem gL{l:List A3}{k}{m attrs:List AB}(h:DI k m attrs)(hk:k<l.length)(hm:l.length≤1048576)(ho:FH l[k]! = 0) :
  ∃A B,DI (k+1) A B∧He l (k:Int) (BQ m) (Cf attrs)=some (.inl (((k+1:Nat):Int),BQ A,Cf B)) ∧
   Hr l (k:Int) m attrs=some (.inl (((k+1:Nat):Int),A,B)):=by
 obtain⟨hI,O⟩:=nu ho
 have a1:=h.li
 have a2:=h.la
 unfold He Hr
 rw[rF (by simpa using hk),rF (by simpa using hk),Af hk,AD,AD,Ar (by omega)]
 generalize l[k]! = o at *
 rcases O with h0 | ⟨h1,ha⟩
 ·
  obtain⟨d,hd⟩:=h.rk
  rw[rE (by rw[h0];decide),rE (by rw[h0];decide),o6 h.id h.uq hd hI.1,AD]
  have T:∃r2:Bool,gd (((decide (o.Parent=o.Item))==false)&&((decide (0<o.Parent))==true)) (Lk m o.Parent o.Item)=some r2∧(((o.Parent=o.Item)||((0<o.Parent)&&r2))=decide (BP m o.Item o.Parent)):=by
   rw[ir h.uq hd (by omega)]
   by_cases E:o.Parent=o.Item
   ·refine⟨default,by rw[rH E];rfl,?_⟩
    rw[rH E,E,rH BP.self];rfl
   ·by_cases V:0<o.Parent
    ·refine⟨decide (BP m o.Item o.Parent),by rw[rG E,rH V];rfl,?_⟩
     rw[rG E,rH V];simp
    ·refine⟨default,by rw[rG E,rG V];rfl,?_⟩
     rw[rG E,rG V,rG]
     ·rfl
     ·intro U
      rcases U.inv with e | ⟨x,w,e,_⟩
      ·exact E e
      ·have:=h.id x w;omega
  obtain⟨r2,E,V⟩:=T
  rw[E,AD,V]
  by_cases U:BP m o.Item o.Parent
  ·refine⟨m,attrs,⟨h.uq,h.id,h.no,h.rk,by omega,h.ua,by omega,λx w=>⟨(h.ok x w).1,by have:=(h.ok x w).2;omega⟩,h.ia,h.mv,by have:=h.sa;omega⟩,?_,?_⟩
   ·rw[rH U,rE (by decide),Bo];rfl
   ·rw[rH U,rF rfl,Bo];rfl
  ·have hn:(⟨o.Item,o.Parent,o.Place,[]⟩:AB)=⟨o.Item,o.Parent,o.Place,[]⟩:=rfl
   generalize F:(⟨o.Item,o.Parent,o.Place,[]⟩:AB)=n at hn
   have I:n.Item=o.Item:=by rw[← F]
   have a0:n.Parent=o.Parent:=by rw[← F]
   refine⟨upd m n,attrs,⟨SR h.uq n,λx w=>?_,λx w=>?_,gH hd h.uq (by rw[I,a0];exact U),by have:=S1 m n;omega,h.ua,by omega,λx w=>⟨(h.ok x w).1,by have:=(h.ok x w).2;omega⟩,h.ia,λx w=>?_,by have:=h.sa;omega⟩,?_,?_⟩
   ·rcases I8 h.uq w with rfl | ⟨q,_⟩
    ·rw[I];exact hI.1
    ·exact h.id x q
   ·rcases I8 h.uq w with rfl | ⟨q,_⟩
    ·rw[← F]
    ·exact h.no x q
   ·rcases I8 h.uq w with rfl | ⟨q,_⟩
    ·rw[← F];exact⟨hI.2,ep ho h0⟩
    ·exact h.mv x q
   ·rw[rG U,rF (by decide),Bo,AD,← I,kG]
   ·rw[rG U,rE (by decide),MA _ _ (by omega),AD]
    unfold upd Ho
    rw[I]
    cases C:Ae (BQ m) o.Item with
    | none=>
     simp only
     rw[rF (by decide),In (by simp;omega),AD,Bo,D9 (by simp),AD,Bo,AD,so]
     simp
    | some j=>
     obtain⟨X,_⟩:=HC C
     simp only
     rw[rE (by simp),Bo,D9 X,AD,Bo,AD,so]
 ·
  rw[rF (by rw[h1];decide),rF (by rw[h1];decide),MA _ _ (by omega),AD]
  unfold Ho
  have J:=VH attrs o.Item
  cases C:Ae (BQ attrs) o.Item with
  | none=>
   rw[C] at J
   simp only
   rw[(Ek J).1,vB,ZN (by simp),AD,rF (by decide),In (by simp;omega)]
   simp only[AD,Bo]
   rw[D9 (by simp)]
   simp only[AD,List.getElem_append_right (rN _),uK,List.getElem_cons_zero]
   rw[XF Su ha (by simp)]
   simp only[AD,Bo,so]
   have E:(attrs++[(⟨o.Item,0,[],[]⟩:AB)]).set attrs.length ⟨o.Item,0,[],FG [] ⟨o.Name,o.Value⟩⟩=upd attrs ⟨o.Item,0,[],FG [] ⟨o.Name,o.Value⟩⟩:=by
    unfold upd;rw[C];simp
   rw[E]
   refine⟨m,upd attrs ⟨o.Item,0,[],FG [] ⟨o.Name,o.Value⟩⟩,⟨h.uq,h.id,h.no,h.rk,by omega,SR h.ua _,by have:=S1 attrs ⟨o.Item,0,[],FG [] ⟨o.Name,o.Value⟩⟩;omega,λx w=>?_,λx w=>?_,h.mv,?_⟩,?_,rfl⟩
   ·rcases I8 h.ua w with rfl | ⟨q,_⟩
    ·exact⟨ZP Su ha,by have:=Qh [] ⟨o.Name,o.Value⟩;simp at this;simp only;omega⟩
    ·exact⟨(h.ok x q).1,by have:=(h.ok x q).2;omega⟩
   ·rcases I8 h.ua w with rfl | ⟨q,_⟩
    ·exact hI
    ·exact h.ia x q
   ·rw[mY (by simpa using C)]
    have:=Qh [] ⟨o.Name,o.Value⟩
    have:=h.sa
    simp at *
    omega
   ·rw[← Ys]
  | some j=>
   rw[C] at J
   obtain⟨X,ej⟩:=HC C
   have M:=ry X
   have Z:=h.ok _ M
   obtain⟨v,v1,v2,v3⟩:=DH J
   have hv:v=attrs[j].Attrs:=by
    unfold Cf at v1
    rw[rT,rK X] at v1
    simp at v1
    exact v1.2.symm
   subst hv
   simp only
   rw[v2,sY,ZN (by omega),AD,rE (by simp)]
   simp only[AD,Bo]
   rw[D9 X]
   simp only[AD]
   rw[XF Z.1 ha (by omega)]
   simp only[AD,Bo,so]
   have E:attrs.set j ⟨attrs[j].Item,attrs[j].Parent,attrs[j].Place,FG attrs[j].Attrs ⟨o.Name,o.Value⟩⟩=upd attrs ⟨attrs[j].Item,attrs[j].Parent,attrs[j].Place,FG attrs[j].Attrs ⟨o.Name,o.Value⟩⟩:=by
    unfold upd;simp only;rw[ej,C]
   rw[E]
   refine⟨m,upd attrs ⟨attrs[j].Item,attrs[j].Parent,attrs[j].Place,FG attrs[j].Attrs ⟨o.Name,o.Value⟩⟩,⟨h.uq,h.id,h.no,h.rk,by omega,SR h.ua _,by have:=S1 attrs ⟨attrs[j].Item,attrs[j].Parent,attrs[j].Place,FG attrs[j].Attrs ⟨o.Name,o.Value⟩⟩;rw[← E] at this ⊢;simpa using(by omega:attrs.length≤k+1),λx w=>?_,λx w=>?_,h.mv,?_⟩,?_,rfl⟩
   ·rcases I8 h.ua w with rfl | ⟨q,_⟩
    ·exact⟨ZP Z.1 ha,by have:=Qh attrs[j].Attrs ⟨o.Name,o.Value⟩;simp only;omega⟩
    ·exact⟨(h.ok x q).1,by have:=(h.ok x q).2;omega⟩
   ·rcases I8 h.ua w with rfl | ⟨q,_⟩
    ·exact(h.ia attrs[j] M)
    ·exact h.ia x q
   ·have h2:=jl (l:=attrs) (n:=⟨attrs[j].Item,attrs[j].Parent,attrs[j].Place,FG attrs[j].Attrs ⟨o.Name,o.Value⟩⟩) (j:=j) (by simp only;rw[ej,C]) X
    have:=Qh attrs[j].Attrs ⟨o.Name,o.Value⟩
    have:=h.sa
    simp only at h2
    omega
   ·rw[← Ys];simp only;rw[ej]
end Go.Proofs.YtmeadkhpiobenaaGreatDoor.Al

set_option linter.unusedVariables false
namespace Go.Proofs.YtmeadkhpiobenaaGreatDoor.Al
open Go.Sort
structure GH(lt:AB→AB→Bool):Prop where
 swo:SWO lt
 tot:∀a b,lt a b=false→lt b a=false→a.Item=b.Item
theorem GH.asymm{lt}(h:GH lt){a b}(j:lt a b=true):lt b a=false:=by
 cases l:lt b a
 ·rfl
 ·have:=h.swo.trans a b a j l
  rw[h.swo.irrefl] at this;cases this
def Ge(a b:AB):Bool:=Ap a.Place b.Place||((a.Place=b.Place)&&(a.Item<b.Item))
def Ex(a b:AB):Bool:=decide (a.Item<b.Item)
theorem SJ(a b:AB):Ge a b=true↔Ap a.Place b.Place=true∨(a.Place=b.Place∧a.Item<b.Item):=by
 unfold Ge;simp
theorem Of(a b:AB):Ge a b=false↔Ap b.Place a.Place=true∨(b.Place=a.Place∧b.Item≤a.Item):=by
 rw[← sT,SJ]
 constructor
 ·intro h
  by_cases e:b.Place=a.Place
  ·exact .inr ⟨e,by
    have:¬ a.Item<b.Item:=λj=>h (.inr ⟨e.symm,j⟩)
    omega⟩
  ·exact .inl (SG (λl=>e l.symm) λj=>h (.inl j))
 ·rintro(h | ⟨m,j⟩) (g | ⟨q,g2⟩)
  ·rw[Wt h] at g;cases g
  ·rw[q,Iq] at h;cases h
  ·rw[m,Iq] at g;cases g
  ·omega
theorem HY:GH Ge where
 swo:={
  irrefl:=λx=>by rw[Of];exact .inr ⟨rfl,Int.le_refl _⟩
  trans:=λx y z l j=>by
   rw[SJ] at *
   rcases l with l | ⟨l,m⟩<;>rcases j with j | ⟨j,g2⟩
   ·exact .inl (FV l j)
   ·exact .inl (by rw[← j];exact l)
   ·exact .inl (by rw[l];exact j)
   ·exact .inr ⟨l.trans j,by omega⟩
  ntrans:=λx y z l j=>by
   rw[Of] at *
   rcases l with l | ⟨l,m⟩<;>rcases j with j | ⟨j,g2⟩
   ·exact .inl (FV j l)
   ·exact .inl (by rw[j];exact l)
   ·exact .inl (by rw[← l];exact j)
   ·exact .inr ⟨j.trans l,by omega⟩ }
 tot:=λa b l j=>by
  rw[Of] at *
  rcases l with l | ⟨l,m⟩<;>rcases j with j | ⟨j,g2⟩
  ·rw[Wt l] at j;cases j
  ·rw[j,Iq] at l;cases l
  ·rw[l,Iq] at j;cases j
  ·omega
theorem KS:GH Ex where
 swo:={ irrefl:=λx=>by unfold Ex;simp,trans:=λx y z j l=>by unfold Ex at *;simp at *;omega,ntrans:=λx y z j l=>by unfold Ex at *;simp at *;omega }
 tot:=λa b j l=>by unfold Ex at *;simp at *;omega
def srt(lt:AB→AB→Bool)(xs:List AB):List AB:=xs.mergeSort λa b=>!lt b a
theorem Ft lt xs:(srt lt xs).Perm xs:=List.mergeSort_perm ..
theorem Ph{lt}(h:GH lt) xs:(srt lt xs).Pairwise λa b=>lt b a=false:=by
 have:=List.pairwise_mergeSort (le:=λa b=>!lt b a) (λa b c j l=>by
  simp only[sB] at *
  exact h.swo.ntrans c b a l j) (λa b=>by
  cases j:lt b a
  ·rfl
  ·simp[h.asymm j]) xs
 exact this.imp λh=>by simpa using h
theorem Uq.perm{A B:List AB}(h:Uq A)(p:B.Perm A):Uq B:=(p.map λx:AB=>x.Item).nodup_iff.2 h
theorem Uq.filter{A:List AB}(h:Uq A)(p:AB→Bool):Uq (A.filter p):=by
 unfold Uq at *
 exact(List.filter_sublist.map _).nodup h
theorem WD{lt}(h:GH lt){xs}(l:Uq xs):(srt lt xs).Pairwise λa b=>lt a b=true:=by
 have m:=Ph h xs
 have j:Uq (srt lt xs):=l.perm (Ft lt xs)
 unfold Uq at j
 rw[tc,tt] at j
 refine(m.and j).imp λ{a b} ⟨q,g2⟩=>?_
 cases g3:lt a b
 ·exact absurd (h.tot a b g3 q) g2
 ·rfl
theorem SI{lt}(h:GH lt){c:List AB}(hc:c.Pairwise λa b=>lt a b=true){k}(q:k<c.length){z}(w:z∈c):lt c[k] z=true↔z∈c.drop (k+1):=by
 rw[tN] at hc
 constructor
 ·intro l
  obtain⟨i,j,rfl⟩:=sJ.1 w
  have:k<i:=by
   rcases Nat.lt_trichotomy k i with g | g | g
   ·exact g
   ·subst g;rw[h.swo.irrefl] at l;cases l
   ·rw[h.asymm (hc i k j q g)] at l;cases l
  rw[sb]
  exact⟨i-(k+1),by rw[sF,show k+1+(i-(k+1))=i by omega,rK j]⟩
 ·intro A
  obtain⟨i,j⟩:=sb.1 A
  rw[sF] at j
  obtain⟨m,rfl⟩:=rM.1 j
  exact hc k (k+1+i) q m (by omega)
def M9(l:AB→Bool)(lt:AB→AB→Bool)(A:List AB)(next:Option Nat)(k:Nat):Option Nat:=
 match next with
 | none=>if l A[k]! = true then some k else none
 | some j=>if l A[k]! = true∧lt A[k]! A[j]! = true then some k else some j
def nx:Option Nat→Int
 | none=>-1
 | some j=>(j:Int)
theorem Zq{l}{lt}(U:GH lt){A:List AB}{f}
 (h1:∀k next, k<A.length→(∀j, next=some j→j<A.length)→f (nx next, (k:Int))=some (.inl (nx (M9 l lt A next k), ((k+1:Nat):Int)))) (h2:∀next, f (nx next, (A.length:Int))=some (.inr (nx next))) :
    ∃next, iter f (-1, 0)=some (nx next)∧(match next with | none => ∀z ∈ A, l z=false | some j => ∃I:j<A.length, l A[j]=true∧∀z ∈ A, l z=true→lt z A[j]=false) := by
  have key := JF (f := f) A.length (λk s => ∃next, s=(nx next, (k:Int))∧(match next with | none => ∀i, i<k→∀C:i<A.length, l A[i]=false | some j => ∃I:j<A.length, l A[j]=true∧∀i, i<k→∀C:i<A.length, l A[i]=true→lt A[i] A[j]=false))
    (λb => ∃next, b=nx next∧(match next with | none => ∀z ∈ A, l z=false | some j => ∃I:j<A.length, l A[j]=true∧∀z ∈ A, l z=true→lt z A[j]=false))
    (λk s M V => by
      obtain⟨next, rfl, F⟩ := V
      left
      have X:∀j, next=some j→j<A.length := λj e => by subst e;exact F.1
      refine⟨_, h1 k next M X, M9 l lt A next k, rfl, ?_⟩
      unfold M9
      cases next with
      | none =>
        simp only at F ⊢
        rw[re A k M]
        by_cases E:l A[k]=true
        · rw[rF E]
          refine⟨M, E, λi C m q => ?_⟩
          by_cases w:i<k
          · rw[F i w m] at q;cases q
          · obtain rfl:i=k := by omega
            exact U.swo.irrefl _
        · rw[rE E]
          intro i C m
          by_cases w:i<k
          · exact F i w m
          · obtain rfl:i=k := by omega
            simpa using E
      | some j =>
        obtain⟨I, J, B⟩ := F
        simp only
        rw[re A k M, re A j I]
        by_cases E:l A[k]=true∧lt A[k] A[j]=true
        · rw[rF E]
          refine⟨M, E.1, λi C m q => ?_⟩
          by_cases w:i<k
          · have T := B i w m q
            cases O:lt A[i] A[k]
            · rfl
            · rw[U.swo.trans _ _ _ O E.2] at T;cases T
          · obtain rfl:i=k := by omega
            exact U.swo.irrefl _
        · rw[rE E]
          refine⟨I, J, λi C m q => ?_⟩
          by_cases w:i<k
          · exact B i w m q
          · obtain rfl:i=k := by omega
            cases O:lt A[i] A[j]
            · rfl
            · exact absurd ⟨q, O⟩ E)
    (λs V => by
      obtain⟨next, rfl, F⟩ := V
      refine⟨_, h2 next, next, rfl, ?_⟩
      cases next with
      | none =>
        intro z Z
        obtain⟨i, C, rfl⟩ := sJ.1 Z
        exact F i C C
      | some j =>
        obtain⟨I, J, B⟩ := F
        refine⟨I, J, λz Z E => ?_⟩
        obtain⟨i, C, rfl⟩ := sJ.1 Z
        exact B i C C E)
    (s := (-1, 0)) ⟨none, rfl, λi C => absurd C (by omega)⟩
  obtain⟨b, T, next, rfl, O⟩ := key
  exact⟨next, T, O⟩
theorem QH{m:AB→Bool}{lt:AB→AB→Bool}(X:GH lt){A c:List AB}(Z:Uq A)(I:∀z∈c,z∈A)(hc:c.Pairwise λa b=>lt a b=true){k:Nat}
  (l:∀z∈A,m z=true↔z∈c.drop k) {next:Option Nat} (J:match next with | none=>∀z∈A,m z=false | some j=>∃w:j<A.length,m A[j]=true∧∀z∈A,m z=true→lt z A[j]=false) :
  (k<c.length→∃j,∃w:j<A.length,next=some j∧some A[j]=c[k]?)∧(c.length≤k→next=none):=by
 constructor
 ·intro B
  have C:c[k]∈c.drop k:=sb.2 ⟨0,by rw[sF,sX,rK B]⟩
  have hA:=I _ (ry B)
  have q:=(l _ hA).2 C
  cases next with
  | none=>rw[J _ hA] at q;cases q
  | some j=>
   obtain⟨w,M,U⟩:=J
   refine⟨j,w,rfl,?_⟩
   rw[rK B]
   congr 1
   have V:=U _ hA q
   have F:A[j]∈c.drop k:=(l _ (ry w)).1 M
   obtain⟨i,T⟩:=sb.1 F
   rw[sF] at T
   obtain⟨O,E⟩:=rM.1 T
   rw[tN] at hc
   rcases ur i with g | g
   ·subst g;rw[← E];rfl
   ·have:=hc k (k+i) B O (by omega)
    rw[E,V] at this;cases this
 ·intro B
  cases next with
  | none=>rfl
  | some j=>
   obtain⟨w,M,_⟩:=J
   have F:A[j]∈c.drop k:=(l _ (ry w)).1 M
   rw[ss B] at F;cases F
structure Fo(A:List AB)(d:Int→Nat)(M:Nat):Prop where
 uq:Uq A
 id:∀x∈A,1≤x.Item
 rk:Rk A d
 top:∀x∈A,d x.Item≤M
 len:A.length≤1048576
def Au(A:List AB)(q:Int):List AB:=srt Ge (A.filter λz=>decide (z.Parent=q))
theorem GM{A}{q}{z:AB} : z∈Au A q↔z∈A∧z.Parent=q:=by
 unfold Au
 rw[(Ft _ _).mem_iff,tD,rJ]
theorem Me{A}(j:Uq A)(q:Int):(Au A q).Pairwise λa b=>Ge a b=true:=WD HY (j.filter _)
def BG(A:List AB):Nat→Int→List AB
 | 0,_=>[]
 | n+1,q=>(Au A q).flatMap λx=>x::BG A n x.Item
def KD(q:Int)(place:List UInt8)(j:Int)(z:AB):Bool:=!(((!(z.Parent=q))||(Ap z.Place place))||((z.Place=place)&&(z.Item≤j)))
theorem ZD(A:List AB)(F:A.length≤1048576) q place l:∃next,iter (λ(a:Int × Int)=>Hk A q place l a.1 a.2) ((-1),0)=some (nx next) ∧
  (match next with | none=>∀z∈A,KD q place l z=false | some j=>∃w:j<A.length,KD q place l A[j]=true∧∀z∈A,KD q place l z=true→Ge z A[j]=false):=by
 refine Zq HY (λk next B C=>?_) (λnext=>?_)
 ·show Hk A q place l (nx next) (k:Int)=_
  unfold Hk
  rw[rF (by simpa using B),Af B,AD,Ar (by omega)]
  unfold M9 KD
  generalize A[k]! = x
  by_cases m:(((!(x.Parent=q))||(Ap x.Place place))||((x.Place=place)&&(x.Item≤l)))=true
  ·rw[rF m,m]
   cases next<;>simp
  ·rw[rE m]
   rw[sT] at m
   rw[m]
   cases next with
   | none=>simp[nx,CL]
   | some j=>
    have w:=C j rfl
    have E:decide (nx (some j)<0)=false:=by unfold nx;simp
    rw[E,show((false==false)=true) from rfl,Aj,show nx (some j)=(j:Int) from rfl,Af w,AD]
    simp only[tL,uk]
    generalize A[j]! = y
    have e:Ge x y=(Ap x.Place y.Place||((x.Place=y.Place)&&(x.Item<y.Item))):=rfl
    rw[e]
    cases Ap x.Place y.Place
    ·simp only[sO,show((false==false)=true) from rfl,Aj,AD]
     split<;>rfl
    ·simp only[sO,tu,show((true==false)=false) from rfl,CL,AD,tm]
     rfl
 ·show Hk A q place l (nx next) (A.length:Int)=_
  unfold Hk
  rw[rE (by simp)]
def EI(c:List AB)(k:Nat):List UInt8 × Int:=match k with | 0=>([],0) | k+1=>(c[k]!.Place,c[k]!.Item)
theorem ea{c:List AB}{k}(h:k<c.length):EI c (k+1)=(c[k].Place,c[k].Item):=by
 show(c[k]!.Place,c[k]!.Item)=_
 rw[re c k h]
theorem Y6{A}(B:Uq A)(Az:∀x∈A,1≤x.Item)(q:Int){k}(F:k≤(Au A q).length){z:AB}(w:z∈A):KD q (EI (Au A q) k).1 (EI (Au A q) k).2 z=true↔z∈(Au A q).drop k:=by
 have C:∀(p:List UInt8) (i:Int),KD q p i z=true↔z.Parent=q∧¬ (Ap z.Place p=true∨(z.Place=p∧z.Item≤i)):=λp i=>by
  unfold KD
  simp only[sB,s6,Bool.not_eq_false',rJ,tJ,sW,not_or,not_and,sT]
  constructor
  ·rintro⟨⟨j,m⟩,l⟩;exact⟨j,m,l⟩
  ·rintro⟨j,m,l⟩;exact⟨⟨j,m⟩,l⟩
 cases k with
 | zero=>
  rw[tW,GM,C]
  unfold EI
  simp only
  constructor
  ·rintro⟨j,_⟩;exact⟨w,j⟩
  ·rintro⟨_,j⟩
   refine⟨j,?_⟩
   rintro(h | ⟨_,h⟩)
   ·rw[Zk] at h;cases h
   ·have:=Az z w;omega
 | succ k=>
  unfold EI
  simp only
  rw[re (Au A q) k (by omega),C]
  constructor
  ·rintro⟨j,m⟩
   refine(SI HY (Me B q) (by omega) (GM.2 ⟨w,j⟩)).1 ?_
   cases l:Ge (Au A q)[k] z
   ·rw[Of] at l;exact absurd l m
   ·rfl
  ·intro j
   have m:=uh j
   refine⟨(GM.1 m).2,λl=>?_⟩
   have E:=(SI HY (Me B q) (by omega) m).2 j
   rw[← Of] at l
   rw[l] at E;cases E
theorem bO{A:List AB}{d:Int→Nat}{M:Nat}(h:Fo A d M):∀(n:Nat) (q:Int) (out:List AB),M-d q<n→out.length+(BG A n q).length≤2097151→DZ n out A q=some (out++BG A n q):=by
 intro n
 induction n with
 | zero=>intro q out hn;omega
 | succ n ih=>
  intro q out hn hl
  show Ib (λw E l=>DZ n w E l) out A q=_
  unfold Ib
  have hA:∀z∈Au A q,z∈A:=λz F=>(GM.1 F).1
  have loop:∀m k o,k+m=(Au A q).length→o.length+(((Au A q).drop k).flatMap λx=>x::BG A n x.Item).length≤2097151 →
    iter (λ(a:(List UInt8) × Int × (List AB))=>Fy A q (λw E l=>DZ n w E l) a.1 a.2.1 a.2.2) ((EI (Au A q) k).1,(EI (Au A q) k).2,o) =
     some (.ext (o++((Au A q).drop k).flatMap λx=>x::BG A n x.Item)):=by
   intro m
   induction m with
   | zero=>
    intro k o hk V
    refine Ba ?_
    show Fy A q _ (EI (Au A q) k).1 (EI (Au A q) k).2 o=_
    unfold Fy
    obtain⟨next,J,O⟩:=ZD A h.len q (EI (Au A q) k).1 (EI (Au A q) k).2
    have:=(QH HY h.uq hA (Me h.uq q) (λz F=>Y6 h.uq h.id q (by omega) F) O).2 (by omega)
    subst this
    rw[J,AD,rF (by decide),ss (by omega)]
    simp
   | succ m T=>
    intro k o hk V
    have B:k<(Au A q).length:=by omega
    obtain⟨next,J,O⟩:=ZD A h.len q (EI (Au A q) k).1 (EI (Au A q) k).2
    obtain⟨j,hj,rfl,X⟩:=(QH HY h.uq hA (Me h.uq q) (λz F=>Y6 h.uq h.id q (by omega) F) O).1 B
    rw[rK B] at X
    have e4:A[j]=(Au A q)[k]:=rn X
    have I:=ry B
    have C:=GM.1 I
    have hd:=h.rk _ C.1
    rw[C.2] at hd
    have Z:=h.top _ C.1
    rw[sA B,su,sG,sH] at V
    rw[B7 (s':=((EI (Au A q) (k+1)).1,(EI (Au A q) (k+1)).2,(o++[(Au A q)[k]])++BG A n (Au A q)[k].Item)) (by
     show Fy A q _ (EI (Au A q) k).1 (EI (Au A q) k).2 o=_
     unfold Fy
     rw[J,AD,show nx (some j)=(j:Int) from rfl,rE (by simp),D9 hj,AD,In (by simp;omega),AD,e4]
     show AC (DZ n (o++[(Au A q)[k]]) A (Au A q)[k].Item) _=_
     rw[ih _ _ (by omega) (by rw[sG];simp;omega),AD]
     rw[ea B]),T (k+1) _ (by omega) (by simp only[sG,sH,uG];omega)]
    conv=>rhs;rw[sA B,su]
    simp
  have h0:=loop (Au A q).length 0 out (by omega) (by rw[tW];exact hl)
  rw[tW] at h0
  have U:iter (λ(a:(List UInt8) × Int × (List AB))=>Fy A q (λw E l=>DZ n w E l) a.1 a.2.1 a.2.2) ([],0,out)=some (.ext (out++(Au A q).flatMap λx=>x::BG A n x.Item)):=h0
  rw[U,Hy];rfl
end Go.Proofs.YtmeadkhpiobenaaGreatDoor.Al

set_option linter.unusedVariables false
namespace Go.Proofs.YtmeadkhpiobenaaGreatDoor.Al
open Go.Sort
theorem BP.trans{A}{a b y}(h:BP A b y)(g:BP A a b):BP A a y:=by
 induction h with
 | self=>exact g
 | step j _ l=>exact BP.step j l
theorem BP.rank{A}{d}(j:Rk A d){top y}(h:BP A top y):d top≤d y:=by
 induction h with
 | self=>exact rN _
 | step l _ m=>have:=j _ l;omega
theorem qq{A}(l:Uq A){a b y}(h:BP A a y)(g:BP A b y):BP A a b∨BP A b a:=by
 induction h with
 | self=>exact .inr g
 | @step x j m q=>
  rcases g.inv with e | ⟨z,w,e,g2⟩
  ·exact .inl (by rw[← e];exact BP.step j m)
  ·rw[l.eq w j e] at g2;exact q g2
theorem MI{A} : ∀(n:Nat) (q:Int) (z:AB),z∈BG A n q→z∈A∧BP A q z.Parent:=by
 intro n
 induction n with
 | zero=>intro q z h;cases h
 | succ n l=>
  intro q z h
  unfold BG at h
  obtain⟨x,m,j⟩:=vC.1 h
  obtain⟨hA,hp⟩:=GM.1 m
  rcases ro.1 j with rfl | j
  ·exact⟨hA,by rw[hp];exact BP.self⟩
  ·obtain⟨w,B⟩:=l _ _ j
   exact⟨w,B.trans (BP.step hA (by rw[hp];exact BP.self))⟩
theorem Yh{A}{d}(C:Uq A)(m:Rk A d):∀(n:Nat) (q:Int),(BG A n q).Pairwise λa b=>a.Item≠b.Item:=by
 intro n
 induction n with
 | zero=>intro q;exact List.Pairwise.nil
 | succ n O=>
  intro q
  unfold BG
  rw[List.pairwise_flatMap]
  have hB:∀a∈Au A q,∀x∈a::BG A n a.Item,BP A a.Item x.Item:=λa j x E=>by
   rcases ro.1 E with rfl | E
   ·exact BP.self
   ·obtain⟨F,w⟩:=MI n _ _ E
    exact BP.step F w
  refine⟨λa j=>tq.2 ⟨λz T e=>?_,O _⟩,?_⟩
  ·obtain⟨F,w⟩:=MI n _ _ T
   have:=w.rank m
   have:=m z F
   rw[e] at *;omega
  ·have U:=Me C q
   have l:∀a∈Au A q,a∈A∧a.Parent=q:=λa j=>GM.1 j
   refine List.Pairwise.imp_of_mem (λ{a b} j B I x E y V e=>?_) U
   have F:=hB a j x E
   have w:=hB b B y V
   rw[← e] at w
   have J:a.Item≠b.Item:=λM=>by
    rw[C.eq (l a j).1 (l b B).1 M,HY.swo.irrefl] at I;cases I
   rcases qq C F w with g | g
   ·have g2:=(PH C (l b B).1 (λM=>J M.symm)).1 g
    rw[(l b B).2] at g2
    have:=g2.rank m
    have:=m a (l a j).1
    rw[(l a j).2] at this
    omega
   ·have g2:=(PH C (l a j).1 J).1 g
    rw[(l a j).2] at g2
    have:=g2.rank m
    have:=m b (l b B).1
    rw[(l b B).2] at this
    omega
theorem XO:∀(l A:List AB),(l.Pairwise λa b=>a.Item≠b.Item)→(∀z∈l,z∈A)→l.length≤A.length:=by
 intro l
 induction l with
 | nil=>intro A _ _;exact sh _
 | cons a r w=>
  intro A hp j
  rw[tq] at hp
  have m:=j a (rg ..)
  have:=w (A.erase a) hp.2 λz q=>(List.mem_erase_of_ne (λe=>hp.1 z q (by rw[e]))).2 (j z (rY _ q))
  rw[List.length_erase_of_mem m] at this
  have:0<A.length:=List.length_pos_of_mem m
  simp;omega
theorem LT{A:List AB}{d}{M}(h:Fo A d M) n q:(BG A n q).length≤A.length:=
 XO _ _ (Yh h.uq h.rk n q) λz j=>(MI n q z j).1
theorem SX{α:Type} m k(v:α) q:AR (Ag m k v) q=if q=k then some v else AR m q:=by
 induction m with
 | nil=>unfold Ag AR;rfl
 | cons p r w=>
  unfold Ag
  by_cases l:k=p.1
  ·rw[rF l]
   conv=>lhs;unfold AR
   conv=>rhs;unfold AR
   rw[← l]
   split<;>rfl
  ·rw[rE l]
   conv=>lhs;unfold AR
   conv=>rhs;unfold AR
   rw[w]
   by_cases j:q=p.1
   ·rw[rF j,rF j,rE (by rw[j];exact λe=>l e.symm)]
   ·rw[rE j,rE j]
def cS(p q:List UInt8):Int:=if Ap p q then -1 else if !(Ap p q||(p=q)) then 1 else 0
def RW(a b:AB):Int:=if cS a.Place b.Place≠0 then cS a.Place b.Place else GB a.Item b.Item
theorem nr p q:No p q=some (cS p q):=by
 unfold No N4 cS
 simp only[ul,tS,AD,si,tV]
 split
 ·rfl
 ·split<;>rfl
theorem kf a b:KM a b=some (RW a b):=by
 unfold KM RW
 rw[nr,PX,AD,AD,YP,AD]
theorem eK(a b:AB):ND a b=some (GB a.Item b.Item):=by
 unfold ND
 rw[PX,AD]
theorem qA:ltOf RW=Ge:=by
 funext a b
 unfold ltOf
 rw[sE,rJ,SJ]
 unfold RW cS GB
 by_cases j:Ap a.Place b.Place=true
 ·simp[j]
 ·rw[sT] at j
  by_cases l:a.Place=b.Place
  ·simp only[j,l,Iq,si,tV,ul,Bool.or_true,tS,ne_eq,not_true_eq_false,false_or,uk]
   split
   ·simp[*]
   ·split<;>omega
  ·simp[j,l]
theorem iT:ltOf (λa b:AB=>GB a.Item b.Item)=Ex:=by
 funext a b
 unfold ltOf Ex GB
 rw[ti]
 show(if a.Item<b.Item then(-1:Int) else if b.Item<a.Item then 1 else 0)<0↔_
 split
 ·simp[*]
 ·split<;>omega
theorem ZR{lt}(j:GH lt){cmp}{l}(w:∀a b,cmp a b=some (l a b))(m:ltOf l=lt){xs:List AB}(A:Uq xs)(E:xs.length≤1048576) :
  G4 cmp xs=some (srt lt xs):=by
 refine cO ⟨by omega,l,w,by rw[m];exact j.swo,λa B b C q g2=>?_,Ft _ _,by rw[m];exact Ph j xs⟩
 rw[m] at q g2
 exact A.eq B C (j.tot a b q g2)
theorem Xz{lt}(j:GH lt){xs ys:List AB}(m:Uq ys)(hp:xs.Perm ys):srt lt xs=srt lt ys:=by
 refine T5 j.swo _ _ (((Ft lt xs).trans hp).trans (Ft lt ys).symm) (λa q b w A g2=>?_) (Ph j xs) (Ph j ys)
 have l:∀z∈srt lt xs,z∈ys:=λz B=>hp.subset ((Ft lt xs).subset B)
 exact m.eq (l a q) (l b w) (j.tot a b A g2)
def DN(kids:List (Int × List AB))(q:Int):List AB:=(AR kids q).getD []
def Ij(A:List AB)(kids:List (Int × List AB)):Prop:=∀q,(DN kids q).Perm (A.filter λz=>decide (z.Parent=q))
theorem Ri kids q v p:DN (Ag kids q v) p=if p=q then v else DN kids p:=by
 unfold DN
 rw[SX]
 split<;>rfl
theorem mS{A:List AB}(I:Uq A)(J:A.length≤1048576){kids}(m:Ij A kids)(q:Int):∃w,KH KM kids q=some w∧DN w q=Au A q∧Ij A w∧∀p,DN kids p=Au A p→DN w p=Au A p:=by
 unfold KH
 cases B:AR kids q with
 | none=>
  have j:=m q
  unfold DN at j
  rw[B,vB] at j
  refine⟨kids,rfl,?_,m,λp h=>h⟩
  unfold DN Au
  rw[B,List.nil_perm.1 j]
  simp[srt]
 | some C=>
  have j:=m q
  unfold DN at j
  rw[B,sY] at j
  have E:Uq C:=(I.filter _).perm j
  have F:C.length≤1048576:=by rw[j.length_eq];exact rZ (sn ..) J
  have l:srt Ge C=Au A q:=Xz HY (I.filter _) j
  simp only
  rw[ZR HY kf qA E F,sP]
  refine⟨_,rfl,?_,λp=>?_,λp hp=>?_⟩
  ·rw[Ri,rF rfl,l]
  ·rw[Ri]
   split
   ·rename_i e;subst e
    exact(Ft _ _).trans j
   ·exact m p
  ·rw[Ri]
   split
   ·rename_i e;subst e;exact l
   ·exact hp
def DM(m:List (Int × Bool))(i:Int):Bool:=(AR m i).getD false
theorem RT m k i:DM (Ag m k true) i=((i=k)||DM m i):=by
 unfold DM
 rw[SX]
 by_cases h:i=k<;>simp[h]
def BY(l:List AB)(i:Int):Bool:=l.any λz=>decide (z.Item=i)
theorem Z0 l m i:BY (l++m) i=(BY l i||BY m i):=by unfold BY;rw[List.any_append]
theorem gp{A}{d}{M}(h:Fo A d M):∀(n:Nat) (q:Int) (kids:List (Int × List AB)) (out:List AB) (seen:List (Int × Bool)),M-d q<n→Ij A kids→out.length+(BG A n q).length≤2097151 →
  ∃l F,DW n kids out seen q=some (l,out++BG A n q,F)∧Ij A l∧(∀p,DN kids p=Au A p→DN l p=Au A p)∧∀i,DM F i=(DM seen i||BY (BG A n q) i):=by
 intro n
 induction n with
 | zero=>intro q kids out seen hn;omega
 | succ n ih=>
  intro q kids out seen hn hK hl
  obtain⟨w,e1,e2,e3,e4⟩:=mS h.uq h.len hK q
  have a6:(Au A q).length≤1048576:=by
   unfold Au
   rw[(Ft _ _).length_eq];exact rZ (sn ..) h.len
  have loop:∀m k o E O,k+m=(Au A q).length→Ij A E→DN E q=Au A q→o.length+(((Au A q).drop k).flatMap λx=>x::BG A n x.Item).length≤2097151 →
    ∃B C,iter (λ(a:Int × (List AB) × (List (Int × (List AB))) × (List (Int × Bool)))=>Fu q (λU V m2 j=>DW n U V m2 j) w a.1 a.2.1 a.2.2.1 a.2.2.2) ((k:Int),o,E,O) =
     some (.ext (B,o++((Au A q).drop k).flatMap λx=>x::BG A n x.Item,C))∧Ij A B∧(∀p,DN E p=Au A p→DN B p=Au A p)∧∀i,DM C i=(DM O i||BY (((Au A q).drop k).flatMap λx=>x::BG A n x.Item) i):=by
   intro m
   induction m with
   | zero=>
    intro k o E O hk T hr ho
    refine⟨E,O,Ba ?_,T,λp hp=>hp,λi=>?_⟩
    ·show Fu q _ w (k:Int) o E O=_
     unfold Fu
     rw[rE (by rw[show(AR w q).getD []=Au A q from e2];simp;omega),ss (by omega)]
     simp
    ·rw[ss (by omega)];simp[BY]
   | succ m a0=>
    intro k o E O hk T hr ho
    have I:k<(Au A q).length:=by omega
    have X:=ry I
    have J:=GM.1 X
    have hd:=h.rk _ J.1
    rw[J.2] at hd
    have a2:=h.top _ J.1
    rw[sA I,su,sG,sH] at ho
    obtain⟨k1,s1,f1,f2,f3,f4⟩:=ih (Au A q)[k].Item E (o++[(Au A q)[k]]) (Ag O (Au A q)[k].Item true) (by omega) T (by rw[sG];simp;omega)
    obtain⟨B,C,Z,g2,g3,g4⟩:=a0 (k+1) ((o++[(Au A q)[k]])++BG A n (Au A q)[k].Item) k1 s1 (by omega) f2 (f3 q hr) (by simp only[sG,sH,uG];omega)
    refine⟨B,C,?_,g2,λp hp=>g3 p (f3 p hp),λi=>?_⟩
    ·rw[B7 (s':=(((k+1:Nat):Int),(o++[(Au A q)[k]])++BG A n (Au A q)[k].Item,k1,s1)) (by
      show Fu q _ w (k:Int) o E O=_
      unfold Fu
      rw[rF (by rw[show(AR w q).getD []=Au A q from e2];simp;omega),show(AR E q).getD []=Au A q from hr,D9 I,AD,In (by simp;omega),AD]
      show Dv (DW n E (o++[(Au A q)[k]]) (Ag O (Au A q)[k].Item true) (Au A q)[k].Item) _=_
      rw[f1,GJ,Ar (by omega),AD]),Z]
     conv=>rhs;rw[sA I,su]
     simp
    ·rw[g4,f4,RT,sA I,su,Z0]
     have:BY ((Au A q)[k]::BG A n (Au A q)[k].Item) i=((i=(Au A q)[k].Item)||BY (BG A n (Au A q)[k].Item) i):=by
      unfold BY
      rw[tn]
      congr 1
      rw[ti];exact⟨λe=>e.symm,λe=>e.symm⟩
     rw[this]
     cases DM O i<;>cases decide (i=(Au A q)[k].Item)<;>simp
  obtain⟨B,C,Z,g2,g3,g4⟩:=loop (Au A q).length 0 out w seen (by omega) e3 e2 (by rw[tW];exact hl)
  rw[tW] at Z g4
  refine⟨B,C,?_,g2,λp hp=>g3 p (e4 p hp),g4⟩
  show Ii (λU V m2 j=>DW n U V m2 j) kids out seen q=_
  unfold Ii
  rw[e1,AD]
  have a1:iter (λ(a:Int × (List AB) × (List (Int × (List AB))) × (List (Int × Bool)))=>Fu q (λU V m2 j=>DW n U V m2 j) w a.1 a.2.1 a.2.2.1 a.2.2.2) (0,out,w,seen)=_:=Z
  rw[a1,Hy];rfl
end Go.Proofs.YtmeadkhpiobenaaGreatDoor.Al

set_option linter.unusedVariables false
set_option linter.unusedSimpArgs false
namespace Go.Proofs.YtmeadkhpiobenaaGreatDoor.Al
open Go.Sort
def wa(attrs:List AB)(x:AB):AB:=⟨x.Item,x.Parent,x.Place,(AR (Cf attrs) x.Item).getD []⟩
theorem iH{l:List A3}(E:l.length≤1048576)(F:∀x∈l,FH x=0):∀(m k:Nat) (j attrs:List AB),k+m=l.length→DI k j attrs→∃q w,DI l.length q w ∧
  iter (λ(a:Int × (List (Int × AB)) × (List (Int × (List AE))))=>He l a.1 a.2.1 a.2.2) ((k:Int),BQ j,Cf attrs)=some (BQ q,Cf w) ∧
  iter (λ(a:Int × (List AB) × (List AB))=>Hr l a.1 a.2.1 a.2.2) ((k:Int),j,attrs)=some (q,w):=by
 intro m
 induction m with
 | zero=>
  intro k j attrs I h
  obtain rfl:k=l.length:=by omega
  refine⟨j,attrs,h,Ba ?_,Ba ?_⟩
  ·show He l (l.length:Int) _ _=_
   unfold He;rw[rE (by simp)]
  ·show Hr l (l.length:Int) _ _=_
   unfold Hr;rw[rE (by simp)]
 | succ m J=>
  intro k j attrs I h
  have A:k<l.length:=by omega
  obtain⟨B,C,M,O,T⟩:=gL h A E (F _ (Bz A))
  obtain⟨U,V,X,Z,h6⟩:=J (k+1) B C (by omega) M
  refine⟨U,V,X,?_,?_⟩
  ·rw[B7 (s':=(((k+1:Nat):Int),BQ B,Cf C)) O];exact Z
  ·rw[B7 (s':=(((k+1:Nat):Int),B,C)) T];exact h6
theorem eo{l attrs:List AB}(Z:l.length≤1048576)(h2:attrs.length≤1048576)(J:∀x∈l,x.Attrs=[]) :
  iter (λ(a:Int × (List AB))=>HX l attrs a.1 a.2) (0,l)=some (l.map (wa attrs)):=by
 have key:∀m k,k+m=l.length→iter (λ(a:Int × (List AB))=>HX l attrs a.1 a.2) ((k:Int),(l.take k).map (wa attrs)++l.drop k)=some (l.map (wa attrs)):=by
  intro m
  induction m with
  | zero=>
   intro k O
   refine Ba ?_
   show HX l attrs (k:Int) _=_
   unfold HX
   rw[rE (by simp;omega),ss (by omega),ts (by omega),tA]
  | succ m T=>
   intro k O
   have q:k<l.length:=by omega
   have B:((l.take k).map (wa attrs)).length=k:=by simp;omega
   have U:((l.take k).map (wa attrs)++l.drop k)[k]?=some l[k]:=by
    rw[rc (by omega),B,uK,sF,sX,rK q]
   have F:∀y,((l.take k).map (wa attrs)++l.drop k).set k y=(l.take k).map (wa attrs)++(y::l.drop (k+1)):=λy=>by
    rw[ub _ _ (by omega),B,uK,sA q];rfl
   have w:(l.take (k+1)).map (wa attrs)++l.drop (k+1)=(l.take k).map (wa attrs)++(wa attrs l[k]::l.drop (k+1)):=by
    rw[Mb q,re l k q,s9,sZ];rfl
   have C:HX l attrs (k:Int) ((l.take k).map (wa attrs)++l.drop k)=some (.inl (((k+1:Nat):Int),(l.take (k+1)).map (wa attrs)++l.drop (k+1))):=by
    unfold HX
    have I:AN ((l.take k).map (wa attrs)++l.drop k) (k:Int)=some l[k]:=by
     unfold AN;rw[rF (tp k),so,U]
    rw[rF (by simpa using q),I,AD,MA _ _ (by omega),AD,Ar (by omega)]
    unfold Ho
    have A:=VH attrs l[k].Item
    cases E:Ae (BQ attrs) l[k].Item with
    | none=>
     rw[E] at A
     simp only
     rw[rE (by decide),AD,AD,w]
     have:wa attrs l[k]=l[k]:=by
      unfold wa
      rw[(Ek A).1,vB,← J _ (ry q)]
     rw[this,sA q]
    | some j=>
     rw[E] at A
     obtain⟨M,ej⟩:=HC E
     obtain⟨v,v1,V,_⟩:=DH A
     have X:v=attrs[j].Attrs:=by
      unfold Cf at v1
      rw[rT,rK M] at v1
      simp at v1
      exact v1.2.symm
     simp only
     rw[rF (by simp),D9 M]
     simp only[AD,so]
     rw[F,w]
     unfold wa
     rw[V,sY,X]
   rw[B7 (s':=(((k+1:Nat):Int),(l.take (k+1)).map (wa attrs)++l.drop (k+1))) C]
   exact T (k+1) (by omega)
 have:=key l.length 0 (by omega)
 simpa using this
theorem jD{l:List A3}(w:l.length≤1048576)(A:∀x∈l,FH x=0):∃j attrs,DI l.length j attrs∧Kz l=some (BQ j,Cf attrs)∧MG l=some (j.map (wa attrs),attrs):=by
 obtain⟨j,attrs,h,B,C⟩:=iH w A l.length 0 [] [] (by omega) ⟨by unfold Uq;simp,by simp,by simp,⟨λ_=>0,λx E=>by cases E⟩,by simp,by unfold Uq;simp,by simp,by simp,by simp,by simp,by simp⟩
 refine⟨j,attrs,h,?_,?_⟩
 ·unfold Kz
  have m:iter (λ(a:Int × (List (Int × AB)) × (List (Int × (List AE))))=>He l a.1 a.2.1 a.2.2) (0,[],[])=some (BQ j,Cf attrs):=B
  rw[m,Bo]
 ·unfold MG
  have q:iter (λ(a:Int × (List AB) × (List AB))=>Hr l a.1 a.2.1 a.2.2) (0,[],[])=some (j,attrs):=C
  rw[q,Bo,eo (by have:=h.li;omega) (by have:=h.la;omega) h.no,AD]
theorem ox(d:Int→Nat):∀A:List AB,∃M,∀x∈A,d x.Item≤M:=by
 intro A
 induction A with
 | nil=>exact⟨0,λx j=>by cases j⟩
 | cons a r l=>
  obtain⟨M,h⟩:=l
  refine⟨max M (d a.Item),λx j=>?_⟩
  rcases ro.1 j with rfl | j
  ·exact Nat.le_max_right ..
  ·exact rZ (h x j) (Nat.le_max_left ..)
theorem DI.fo{n}{j attrs:List AB}(h:DI n j attrs)(w:n≤1048576):∃d M,Fo (j.map (wa attrs)) d M:=by
 obtain⟨d,hd⟩:=h.rk
 obtain⟨M,q⟩:=ox d (j.map (wa attrs))
 refine⟨d,M,?_,λx l=>?_,λx l=>?_,q,by have:=h.li;simp;omega⟩
 ·have:=h.uq
  unfold Uq at *
  rw[List.map_map];exact this
 ·obtain⟨y,m,rfl⟩:=sM.1 l;exact h.id y m
 ·obtain⟨y,m,rfl⟩:=sM.1 l;exact hd y m
theorem Ro{α:Type}{N:Nat→Option α}(mono:∀n r,N n=some r→N (n+1)=some r){j:Nat}{l:α}(h:N j=some l) :
  @dite _ (∃n r,N n=some r) (Classical.propDecidable _) (λh=>N h.choose) (λ_=>none)=some l:=by
 have m:∃n r,N n=some r:=⟨j,l,h⟩
 rw[tv m]
 obtain⟨C,w⟩:=m.choose_spec
 have up:∀k n r,N n=some r→N (n+k)=some r:=by
  intro k
  induction k with
  | zero=>intro n r h;exact h
  | succ k A=>intro n r h;exact mono _ _ (A n r h)
 have B:=up j _ _ w
 have q:=up m.choose _ _ h
 rw[u9] at q
 rw[B] at q
 rw[w];exact q
theorem Ip{σ β:Type}{f g:σ→Option (σ ⊕ β)}(h:∀s v,f s=some v→g s=some v){s:σ}{r:β}(m:iter f s=some r):iter g s=some r:=by
 obtain⟨n,j⟩:=Ly.1 m
 refine Ly.2 ⟨n,?_⟩
 clear m
 induction n generalizing s with
 | zero=>exact j
 | succ n q=>
  unfold EK at j ⊢
  cases l:f s with
  | none=>rw[l] at j;cases j
  | some v=>
   rw[l] at j
   rw[h s v l]
   cases v with
   | inl w=>exact q j
   | inr b=>exact j
theorem gj n:∀(m:List (Int × List AB)) (A:List AB) (m2:List (Int × Bool)) (q:Int) r,DW n m A m2 q=some r→DW (n+1) m A m2 q=some r:=by
 induction n with
 | zero=>intro m A m2 q r h;cases h
 | succ n O=>
  intro m A m2 q r h
  change Ii (λm A m2 j=>DW n m A m2 j) m A m2 q=some r at h
  show Ii (λm A m2 j=>DW (n+1) m A m2 j) m A m2 q=some r
  unfold Ii at h ⊢
  cases I:KH KM m q with
  | none=>rw[I] at h;cases h
  | some w=>
   rw[I,AD] at h
   rw[AD]
   cases C:iter (λ(a:Int × (List AB) × (List (Int × (List AB))) × (List (Int × Bool)))=>Fu q (λm A m2 j=>DW n m A m2 j) w a.1 a.2.1 a.2.2.1 a.2.2.2) (0,A,w,m2) with
   | none=>rw[C] at h;cases h
   | some v=>
    rw[C] at h
    rw[Ip (g:=λ(a:Int × (List AB) × (List (Int × (List AB))) × (List (Int × Bool)))=>Fu q (λm A m2 j=>DW (n+1) m A m2 j) w a.1 a.2.1 a.2.2.1 a.2.2.2) (λs v B=>?_) C]
    ·exact h
    ·unfold Fu at B ⊢
     split at B
     ·rename_i E
      rw[rF E]
      cases J:AN ((AR s.2.2.1 q).getD []) s.1 with
      | none=>rw[J] at B;cases B
      | some x=>
       rw[J,AD] at B
       rw[AD]
       cases M:app 56 s.2.1 [x] with
       | none=>rw[M] at B;cases B
       | some l=>
        rw[M,AD] at B
        rw[AD]
        change Dv (DW n s.2.2.1 l (Ag s.2.2.2 x.Item true) x.Item) _=_ at B
        show Dv (DW (n+1) s.2.2.1 l (Ag s.2.2.2 x.Item true) x.Item) _=_
        cases F:DW n s.2.2.1 l (Ag s.2.2.2 x.Item true) x.Item with
        | none=>rw[F] at B;cases B
        | some t=>rw[F] at B;rw[O _ _ _ _ _ F];exact B
     ·rename_i E
      rw[rE E];exact B
theorem bW n:∀(o l:List AB) (q:Int) r,DZ n o l q=some r→DZ (n+1) o l q=some r:=by
 induction n with
 | zero=>intro o l q r h;cases h
 | succ n T=>
  intro o l q r h
  change Ib (λm A j=>DZ n m A j) o l q=some r at h
  show Ib (λm A j=>DZ (n+1) m A j) o l q=some r
  unfold Ib at h ⊢
  cases B:iter (λ(a:(List UInt8) × Int × (List AB))=>Fy l q (λm A j=>DZ n m A j) a.1 a.2.1 a.2.2) ([],0,o) with
  | none=>rw[B] at h;cases h
  | some v=>
   rw[B] at h
   rw[Ip (g:=λ(a:(List UInt8) × Int × (List AB))=>Fy l q (λm A j=>DZ (n+1) m A j) a.1 a.2.1 a.2.2) (λs v w=>?_) B]
   ·exact h
   ·unfold Fy at w ⊢
    cases J:iter (λ(a:Int × Int)=>Hk l q s.1 s.2.1 a.1 a.2) ((-1),0) with
    | none=>rw[J] at w;cases w
    | some C=>
     rw[J,AD] at w
     rw[AD]
     split at w
     ·rename_i E;rw[rF E];exact w
     ·rename_i E
      rw[rE E]
      cases M:AN l C with
      | none=>rw[M] at w;cases w
      | some x=>
       rw[M,AD] at w
       rw[AD]
       cases O:app 56 s.2.2 [x] with
       | none=>rw[O] at w;cases w
       | some F=>
        rw[O,AD] at w
        rw[AD]
        change AC (DZ n F l x.Item) _=_ at w
        show AC (DZ (n+1) F l x.Item) _=_
        cases I:DZ n F l x.Item with
        | none=>rw[I] at w;cases w
        | some t=>rw[I] at w;rw[T _ _ _ _ I];exact w
theorem pu{A}{d}{M}(h:Fo A d M):OX [] A 0=some (BG A (M+1) 0):=by
 have j:=bO h (M+1) 0 [] (by omega) (by have:=LT h (M+1) 0;have:=h.len;simp;omega)
 rw[sc] at j
 unfold OX
 exact Ro (N:=λn=>DZ n [] A 0) (λn r=>bW n [] A 0 r) j
theorem gz{A}{d}{M}(h:Fo A d M){kids}(m:Ij A kids):∃j s',N2 kids [] [] 0=some (j,BG A (M+1) 0,s')∧∀i,DM s' i=BY (BG A (M+1) 0) i:=by
 obtain⟨j,s',l,_,_,q⟩:=gp h (M+1) 0 kids [] [] (by omega) m (by have:=LT h (M+1) 0;have:=h.len;simp;omega)
 rw[sc] at l
 refine⟨j,s',?_,λi=>by rw[q];simp[DM,AR]⟩
 unfold N2
 exact Ro (N:=λn=>DW n kids [] [] 0) (λn r=>gj n kids [] [] 0 r) l
end Go.Proofs.YtmeadkhpiobenaaGreatDoor.Al

set_option linter.unusedVariables false
set_option linter.unusedSimpArgs false
namespace Go.Proofs.YtmeadkhpiobenaaGreatDoor.Al
open Go.Sort
theorem jU{α:Type}{m:List (Int × α)}{k}{v0}(h:AR m k=some v0)(v:α):(Ag m k v).map (·.1)=m.map (·.1):=by
 induction m with
 | nil=>cases h
 | cons p r l=>
  unfold Ag
  by_cases j:k=p.1
  ·rw[rF j];simp[j]
  ·rw[rE j]
   unfold AR at h
   rw[rE j] at h
   rw[rq,rq,l h]
theorem UR{l}(w:Uq l){x:AB}(m:x∈l):AR (BQ l) x.Item=some x:=by
 rw[aH]
 cases h:Ae (BQ l) x.Item with
 | none=>exact absurd rfl (Jm h x m)
 | some j=>
  obtain⟨q,e⟩:=HC h
  rw[sD,rK q,w.eq (ry q) m e]
def Kr(j attrs:List AB)(k:Int):AB:=((AR (BQ j) k).map (wa attrs)).getD default
structure RJ(items attrs:List AB)(p:List Int)(st:(List AB) × (List (Int × AB)) × (List (Int × (List AB)))):Prop where
 all:st.1=p.map (Kr items attrs)
 keys:st.2.1.map (·.1)=items.map (·.Item)
 here:∀x∈items,∃a,AR st.2.1 x.Item=some ⟨x.Item,x.Parent,x.Place,a⟩
 kids:∀q,DN st.2.2 q=(p.map (Kr items attrs)).filter λz=>decide (z.Parent=q)
abbrev Oq:(List AB) × (List (Int × AB)) × (List (Int × (List AB)))→List Int:=λa=>a.2.1.map (·.1)
theorem gF{j attrs:List AB}(F:Uq j)(hl:j.length≤1048576):∀(r p:List Int) l,RJ j attrs p l→(∀k∈r,k∈j.map (·.Item))→p.length+r.length≤1048576 →
  ∃st',Es (Kd Oq (j.map (·.Item)) (λa w=>HM (Cf attrs) a.1 a.2.1 a.2.2 w)) r l=some st'∧RJ j attrs (p++r) st':=by
 intro r
 induction r with
 | nil=>intro p l h _ _;exact⟨l,rfl,by rw[tA];exact h⟩
 | cons k r U=>
  intro p l h I A
  obtain⟨x,B,rfl⟩:=sM.1 (I k (rg ..))
  obtain⟨a,J⟩:=h.here x B
  have C:(⟨x.Item,x.Parent,x.Place,(AR (Cf attrs) x.Item).getD []⟩:AB)=wa attrs x:=rfl
  have M:Kr j attrs x.Item=wa attrs x:=by unfold Kr;rw[UR F B];rfl
  have O:(DN l.2.2 x.Parent).length≤1048576:=by
   rw[h.kids];refine rZ (sn ..) ?_;rw[rx];simp at A;omega
  have V:HM (Cf attrs) l.1 l.2.1 l.2.2 x.Item=some (l.1++[wa attrs x],Ag l.2.1 x.Item (wa attrs x),Ag l.2.2 x.Parent (DN l.2.2 x.Parent++[wa attrs x])):=by
   unfold HM
   rw[J,AD]
   show AC (app 56 (DN l.2.2 x.Parent) [wa attrs x]) _=_
   rw[In (by simp;omega),AD]
   show AC (app 56 l.1 [wa attrs x]) _=_
   rw[In (by rw[h.all];simp at A ⊢;omega),AD]
   rfl
  have m:(Ag l.2.1 x.Item (wa attrs x)).map (·.1)=j.map (·.Item):=by rw[jU J];exact h.keys
  obtain⟨st',X,T⟩:=U (p++[x.Item]) (l.1++[wa attrs x],Ag l.2.1 x.Item (wa attrs x),Ag l.2.2 x.Parent (DN l.2.2 x.Parent++[wa attrs x])) ⟨by rw[s9,ut,M,← h.all],m,λy C=>by
    show ∃a,AR (Ag l.2.1 x.Item (wa attrs x)) y.Item=_
    rw[SX]
    split
    ·rename_i e
     rw[F.eq C B e];exact⟨_,rfl⟩
    ·exact h.here y C,λq=>by
    show DN (Ag l.2.2 x.Parent _) q=_
    rw[Ri,s9,List.filter_append,ut,M]
    by_cases E:q=x.Parent
    ·subst E
     have e:[wa attrs x].filter (λz=>decide (z.Parent=x.Parent))=[wa attrs x]:=by simp[wa]
     rw[rF rfl,h.kids,e]
    ·have e:[wa attrs x].filter (λz=>decide (z.Parent=q))=[]:=by simp[wa];exact λe=>E e.symm
     rw[rE E,h.kids,e,tA]⟩ (λk Z=>I k (rY _ Z)) (by simp at A ⊢;omega)
  refine⟨st',?_,by rw[sZ] at T;exact T⟩
  show(Kd Oq (j.map (·.Item)) (λa w=>HM (Cf attrs) a.1 a.2.1 a.2.2 w) l x.Item).bind _=some st'
  have hs:Kd Oq (j.map (·.Item)) (λa w=>HM (Cf attrs) a.1 a.2.1 a.2.2 w) l x.Item=some (l.1++[wa attrs x],Ag l.2.1 x.Item (wa attrs x),Ag l.2.2 x.Parent (DN l.2.2 x.Parent++[wa attrs x])):=by
   unfold Kd
   simp only
   rw[V,sD,rF (by exact m)]
  rw[hs,sD]
  exact X
def Bf(A:List AB)(j:List AB):List AB:=(srt Ex A).filter λz=>!BY j z.Item
theorem np l m(A:∀i,DM l i=BY m i)(j:List AB)(C:j.length≤1048576)(o:List AB)(E:o.length≤1048576) :
  iter (λ(a:Int × (List AB))=>IS l j a.1 a.2) (0,o)=some (o++j.filter λz=>!BY m z.Item):=
 G8 (f:=λ(a:Int × (List AB))=>IS l j a.1 a.2) j (λc k=>((k:Int),c)) (λr c=>c++r.filter λz=>!BY m z.Item) (λk c=>c.length≤1048576+k)
  (λk c w B=>by
   left
   show ∃F,IS l j (k:Int) c=_∧_
   unfold IS
   rw[rF (by simpa using w),Af w,AD,Ar (by omega),show(AR l j[k]!.Item).getD false=BY m j[k]!.Item from A _]
   by_cases q:BY m j[k]!.Item=true
   ·refine⟨c,by rw[q];rfl,by omega,?_⟩
    rw[tj,q];rfl
   ·rw[sT] at q
    refine⟨c++[j[k]!],by rw[q,rF (by decide),In (by simp;omega)];rfl,by simp;omega,?_⟩
    rw[tj,q];simp)
  (λc B=>by
   show IS l j (j.length:Int) c=_
   unfold IS
   rw[rE (by simp)];simp) o (by omega) _ rfl
theorem bK{l:List A3}{j attrs:List AB}(hm:l.length≤1048576)(h:DI l.length j attrs)(hp:Kz l=some (BQ j,Cf attrs)){d}{M}(hF:Fo (j.map (wa attrs)) d M) :
  OV l=some (BG (j.map (wa attrs)) (M+1) 0++Bf (j.map (wa attrs)) (BG (j.map (wa attrs)) (M+1) 0)):=by
 unfold OV
 rw[hp,Bo]
 have A:Oq ([],BQ j,[])=j.map (·.Item):=by
  show(BQ j).map (·.1)=_
  unfold BQ;rw[List.map_map];rfl
 refine eY (key:=Oq) (F:=λa T=>HM (Cf attrs) a.1 a.2.1 a.2.2 T) ⟨by rw[A];exact h.uq,λks w=>?_⟩
 rw[A] at w ⊢
 have U:=h.li
 have V:ks.length=j.length:=by rw[w.length_eq,rx]
 obtain⟨E,X,C⟩:=gF (attrs:=attrs) h.uq (by omega) ks [] ([],BQ j,[]) ⟨rfl,A,λx F=>⟨x.Attrs,UR h.uq F⟩,λq=>rfl⟩ (λk Z=>w.subset Z) (by simp;omega)
 rw[X,sD]
 rw[sc] at C
 have m:E.1.Perm (j.map (wa attrs)):=by
  rw[C.all]
  have I:=w.map (Kr j attrs)
  rw[List.map_map] at I
  refine I.trans (List.Perm.of_eq (List.map_congr_left λx F=>?_))
  show Kr j attrs x.Item=_
  unfold Kr;rw[UR h.uq F];rfl
 have hK:Ij (j.map (wa attrs)) E.2.2:=λq=>by
  rw[C.kids,← C.all];exact m.filter _
 obtain⟨k',s',J,w2⟩:=gz hF hK
 obtain⟨O,m3,m4⟩:=E
 simp only at m J ⊢
 rw[GJ,J,GJ,ZR KS eK iT (hF.uq.perm m) (by rw[m.length_eq];exact hF.len),AD,Xz KS hF.uq m]
 have B:(srt Ex (j.map (wa attrs))).length≤1048576:=by rw[(Ft _ _).length_eq];exact hF.len
 rw[np s' _ w2 _ B _ (rZ (LT hF _ _) hF.len),AD]
 rfl
def Jw(c:List AB)(k:Nat):Int:=match k with | 0=>0 | k+1=>c[k]!.Item
theorem gq l i:decide (Ho l i<0)=!BY l i:=by
 unfold Ho
 cases h:Ae (BQ l) i with
 | none=>
  have m:=Jm h
  have:BY l i=false:=by
   unfold BY
   rw[uz]
   intro x q;simpa using m x q
  rw[this];rfl
 | some j=>
  obtain⟨w,e⟩:=HC h
  have:BY l i=true:=by
   unfold BY
   rw[sf]
   exact⟨_,ry w,by simpa using e⟩
  rw[this];simp
def Ki(j:List AB)(last:Int)(z:AB):Bool:=(last<z.Item)&&!BY j z.Item
theorem ZZ(A l out:List AB)(J:A.length≤1048576)(hw:l.length≤1048576)(m:out.take l.length=l)(E:l.length≤out.length) last:∃next,iter (λ(a:Int × Int)=>Iu A l last out a.1 a.2) ((-1),0)=some (nx next) ∧
  (match next with | none=>∀z∈A,Ki l last z=false | some j=>∃w:j<A.length,Ki l last A[j]=true∧∀z∈A,Ki l last z=true→Ex z A[j]=false):=by
 have q:DX out 0 (l.length:Int)=some l:=by
  unfold DX
  rw[rF ⟨by omega,by omega,by omega⟩]
  simp[m]
 refine Zq KS (λk next B F=>?_) (λnext=>?_)
 ·show Iu A l last out (nx next) (k:Int)=_
  unfold Iu
  rw[rF (by simpa using B),Af B,AD,Ar (by omega),q]
  unfold M9 Ki
  generalize A[k]! = x
  by_cases C:last<x.Item
  ·rw[rH C,show((true==true)=true) from rfl,Aj,AD,Aj,MA _ _ (by omega),AD,gq]
   cases M:BY l x.Item
   ·cases next with
    | none=>simp[nx,CL]
    | some j=>
     have w:=F j rfl
     have I:decide (nx (some j)<0)=false:=by unfold nx;simp
     rw[I,show nx (some j)=(j:Int) from rfl,Af w]
     simp only[tL,uD,rz,sV,Aj,AD,sO,uk]
     generalize A[j]! = y
     rw[show Ex x y=decide (x.Item<y.Item) from rfl]
     split<;>rfl
   ·cases next<;>simp[CL]
  ·rw[rG C]
   cases next<;>simp[CL]
 ·show Iu A l last out (nx next) (A.length:Int)=_
  unfold Iu
  rw[rE (by simp)]
theorem Rs{A}(j:Uq A)(l:List AB):(Bf A l).Pairwise λa b=>Ex a b=true:=(WD KS j).filter _
theorem Ie{A j}{z:AB} : z∈Bf A j↔z∈A∧BY j z.Item=false:=by
 unfold Bf
 rw[tD,(Ft _ _).mem_iff]
 simp
theorem Vc{A}(E:Uq A)(Az:∀x∈A,1≤x.Item)(j:List AB){k}(F:k≤(Bf A j).length){z:AB}(q:z∈A):Ki j (Jw (Bf A j) k) z=true↔z∈(Bf A j).drop k:=by
 have B:∀i:Int,Ki j i z=true↔i<z.Item∧BY j z.Item=false:=λi=>by unfold Ki;simp
 cases k with
 | zero=>
  rw[tW,Ie,B]
  show(0<z.Item∧_)↔_
  constructor
  ·rintro⟨_,h⟩;exact⟨q,h⟩
  ·rintro⟨_,h⟩;exact⟨by have:=Az z q;omega,h⟩
 | succ k=>
  rw[B]
  show((Bf A j)[k]!.Item<z.Item∧_)↔_
  rw[re (Bf A j) k (by omega)]
  have hd:=λw=>SI KS (Rs E j) (show k<(Bf A j).length by omega) (z:=z) w
  constructor
  ·rintro⟨l,m⟩
   exact(hd (Ie.2 ⟨q,m⟩)).1 (by unfold Ex;simpa using l)
  ·intro l
   have m:=uh l
   have C:=(hd m).2 l
   unfold Ex at C
   exact⟨by simpa using C,(Ie.1 m).2⟩
theorem jk{A:List AB}(w:Uq A)(Az:∀x∈A,1≤x.Item)(C:A.length≤1048576)(l:List AB)(I:l.length≤1048576):∀m k,k+m=(Bf A l).length →
  iter (λ(a:Int × (List AB))=>IJ A l a.1 a.2) (Jw (Bf A l) k,l++(Bf A l).take k)=some (.ext (l++Bf A l,(l.length:Int))):=by
 intro m
 have hA:∀z∈Bf A l,z∈A:=λz B=>(Ie.1 B).1
 have M:(Bf A l).length≤1048576:=by
  unfold Bf
  refine rZ (sn ..) ?_
  rw[(Ft _ _).length_eq];exact C
 induction m with
 | zero=>
  intro k O
  refine Ba ?_
  show IJ A l (Jw (Bf A l) k) (l++(Bf A l).take k)=_
  unfold IJ
  obtain⟨next,E,F⟩:=ZZ A l (l++(Bf A l).take k) C I (by simp) (by simp) (Jw (Bf A l) k)
  have:=(QH KS w hA (Rs w l) (λz B=>Vc w Az l (by omega) B) F).2 (by omega)
  subst this
  rw[E,AD,rF (by decide),ts (by omega)]
 | succ m T=>
  intro k O
  have q:k<(Bf A l).length:=by omega
  obtain⟨next,E,F⟩:=ZZ A l (l++(Bf A l).take k) C I (by simp) (by simp) (Jw (Bf A l) k)
  obtain⟨j,U,rfl,J⟩:=(QH KS w hA (Rs w l) (λz B=>Vc w Az l (by omega) B) F).1 q
  rw[rK q] at J
  have V:A[j]=(Bf A l)[k]:=rn J
  rw[B7 (s':=(Jw (Bf A l) (k+1),l++(Bf A l).take (k+1))) (by
   show IJ A l (Jw (Bf A l) k) (l++(Bf A l).take k)=_
   unfold IJ
   rw[E,AD,show nx (some j)=(j:Int) from rfl,rE (by simp),D9 U,AD,In (by simp;omega),AD,V]
   show some (Sum.inl ((Bf A l)[k].Item,_))=some (Sum.inl ((Bf A l)[k]!.Item,_))
   rw[re (Bf A l) k q,Mb q,re (Bf A l) k q,sZ])]
  exact T (k+1) (by omega)
theorem jI{l}{j attrs:List AB}(hp:MG l=some (j.map (wa attrs),attrs)){d}{M}(hF:Fo (j.map (wa attrs)) d M) :
  Ke l=some (BG (j.map (wa attrs)) (M+1) 0++Bf (j.map (wa attrs)) (BG (j.map (wa attrs)) (M+1) 0),((BG (j.map (wa attrs)) (M+1) 0).length:Int)):=by
 unfold Ke
 rw[hp,Bo,pu hF,AD]
 have h:=jk hF.uq hF.id hF.len (BG (j.map (wa attrs)) (M+1) 0) (rZ (LT hF _ _) hF.len) _ 0 (by rw[ru])
 rw[List.take_zero,tA] at h
 have m:iter (λ(a:Int × (List AB))=>IJ (j.map (wa attrs)) (BG (j.map (wa attrs)) (M+1) 0) a.1 a.2) (0,BG (j.map (wa attrs)) (M+1) 0)=_:=h
 rw[m,Hy]
end Go.Proofs.YtmeadkhpiobenaaGreatDoor.Al

set_option linter.unusedVariables false
set_option linter.unusedSimpArgs false
namespace Go.Proofs.YtmeadkhpiobenaaGreatDoor.Al
open Go.Sort
def EZ:(Int→Bool)→List AB→Prop
 | _,[]=>True
 | S,z::r=>S z.Parent=true∧EZ (λi=>S i||(z.Item=i)) r
theorem EZ.mono:∀ {l:List AB} {S T:Int→Bool},EZ S l→(∀i,S i=true→T i=true)→EZ T l
 | [],_,_,_,_=>trivial
 | z::r,S,T,h,j=>⟨j _ h.1,EZ.mono h.2 λi m=>by
   simp only[rV] at m ⊢
   exact m.imp (j i) _root_.id⟩
theorem bH:∀ {l m:List AB} {S:Int→Bool},EZ S l→EZ (λi=>S i||BY l i) m→EZ S (l++m)
 | [],m,S,_,q=>q.mono λi j=>by simpa[BY] using j
 | z::r,m,S,w,q=>⟨w.1,bH w.2 (q.mono λi j=>by
   simp only[BY,tn,rV,rJ] at j ⊢
   rcases j with h | h | h
   ·exact .inl (.inl h)
   ·exact .inl (.inr h)
   ·exact .inr h)⟩
theorem lb{A} : ∀(n:Nat) (q:Int) (S:Int→Bool),S q=true→EZ S (BG A n q):=by
 intro n
 induction n with
 | zero=>intro q S _;trivial
 | succ n w=>
  intro q S j
  show EZ S ((Au A q).flatMap λx=>x::BG A n x.Item)
  have l:∀x∈Au A q,x.Parent=q:=λx B=>(GM.1 B).2
  revert l j
  generalize Au A q=c
  induction c generalizing S with
  | nil=>intro _ _;trivial
  | cons x r m=>
   intro j l
   rw[su]
   refine bH ⟨by rw[l x (rg ..)];exact j,w _ _ (by simp)⟩ (m _ (by simp[j]) λy C=>l y (rY _ C))
theorem EZ.at:∀ {l:List AB} {S:Int→Bool},EZ S l→∀k (j:k<l.length),(S l[k].Parent||BY (l.take k) l[k].Parent)=true
 | z::r,S,h,0,_=>by rw[List.getElem_cons_zero,h.1];rfl
 | z::r,S,h,k+1,j=>by
  have:=EZ.at h.2 k (by simpa using j)
  rw[List.getElem_cons_succ,List.take_succ_cons]
  simp only[BY,tn,rV,rJ] at this ⊢
  rcases this with (h | h) | h
  ·exact .inl h
  ·exact .inr (.inl h)
  ·exact .inr (.inr h)
theorem pG{A}{d}{M}(h:Fo A d M):∀(n:Nat) (q:Int),M-d q<n→∀z∈A,(z.Parent=q∨BY (BG A n q) z.Parent=true)→z∈BG A n q:=by
 intro n
 induction n with
 | zero=>intro q E;omega
 | succ n F=>
  intro q E z B hp
  unfold BG
  rw[vC]
  rcases hp with hp | hp
  ·exact⟨z,GM.2 ⟨B,hp⟩,rg ..⟩
  ·unfold BY BG at hp
   rw[sf] at hp
   obtain⟨y,I,m⟩:=hp
   obtain⟨x,C,j⟩:=vC.1 I
   obtain⟨l,w⟩:=GM.1 C
   have hd:=h.rk x l
   rw[w] at hd
   have J:=h.top x l
   refine⟨x,C,rY _ (F x.Item (by omega) z B ?_)⟩
   rcases ro.1 j with rfl | j
   ·exact .inl (by simp at m;exact m.symm)
   ·refine .inr ?_
    unfold BY
    rw[sf]
    exact⟨y,j,m⟩
theorem bT{A:List AB}{d:Int→Nat}{M:Nat}(h:Fo A d M):Mq (BG A (M+1) 0++Bf A (BG A (M+1) 0))=some ((BG A (M+1) 0).length:Int):=by
 have hlo:(Bf A (BG A (M+1) 0)).length≤1048576:=by
  unfold Bf
  refine rZ (sn ..) ?_
  rw[(Ft _ _).length_eq];exact h.len
 have hlp:=rZ (LT h (M+1) 0) h.len
 have hok:=lb (A:=A) (M+1) 0 (λi=>decide (i=0)) (by simp)
 have hout:∀z∈Bf A (BG A (M+1) 0),((z.Parent=0)||BY (BG A (M+1) 0) z.Parent)=false:=λz hz=>by
  obtain⟨hzA,hzn⟩:=Ie.1 hz
  cases hb:((z.Parent=0)||BY (BG A (M+1) 0) z.Parent)
  ·rfl
  ·have:=pG h (M+1) 0 (by omega) z hzA (by simpa using hb)
   have h2:BY (BG A (M+1) 0) z.Item=true:=by
    unfold BY;rw[sf];exact⟨z,this,by simp⟩
   rw[hzn] at h2;cases h2
 generalize BG A (M+1) 0=p at *
 generalize Bf A p=o at *
 have key:=JF (f:=λ(a:Int × (List (Int × Bool)))=>JE (p++o) a.1 a.2) (p++o).length (λk s=>s.1=(k:Int)∧k≤p.length∧∀i,DM s.2 i=((i=0)||BY (p.take k) i))
  (λb=>BA (some b) (λ(_:Unit)=>some ((p++o).length:Int))=some (p.length:Int))
  (λk s hk hs=>by
   obtain⟨x,m⟩:=s
   obtain⟨rfl,hkp,hsn⟩:=hs
   have hkl:k<(p++o).length:=hk
   have hlen:(p++o).length≤2097152:=by simp;omega
   have hstep:JE (p++o) (k:Int) m=if(!(((p++o)[k].Parent=0)||BY (p.take k) (p++o)[k].Parent))=true then some (.inr (.ext (k:Int))) else some (.inl (((k+1:Nat):Int),Ag m (p++o)[k].Item true)):=by
    unfold JE
    rw[rF (by rw[rJ];exact_mod_cast hkl),D9 hkl,AD,show(AR m (p++o)[k].Parent).getD false=_ from hsn _,Ar (by omega),AD]
   by_cases hkp2:k<p.length
   ·left
    have hget:(p++o)[k]=p[k]:=uL hkp2
    have h1:=hok.at k hkp2
    rw[hget] at hstep
    rw[h1] at hstep
    refine⟨(((k+1:Nat):Int),Ag m p[k].Item true),by exact hstep,rfl,by omega,λi=>?_⟩
    show DM (Ag m p[k].Item true) i=_
    rw[RT,show DM m i=_ from hsn i,Mb hkp2,re p k hkp2,Z0]
    have:BY [p[k]] i=decide (i=p[k].Item):=by
     unfold BY;simp only[tn,List.any_nil,uu]
     rw[ti];exact⟨λe=>e.symm,λe=>e.symm⟩
    rw[this]
    cases decide (i=p[k].Item)<;>cases decide (i=0)<;>simp
   ·right
    obtain rfl:k=p.length:=by omega
    have hget:(p++o)[p.length]∈o:=by
     rw[List.getElem_append_right (rN _)];exact ry _
    have h1:=hout _ hget
    rw[List.take_length,h1] at hstep
    exact⟨_,hstep,rfl⟩)
  (λs hs=>by
   obtain⟨x,m⟩:=s
   obtain⟨rfl,hkp,hsn⟩:=hs
   refine⟨.nrm (),?_,?_⟩
   ·show JE (p++o) ((p++o).length:Int) m=_
    unfold JE
    rw[rE (by simp)]
   ·rw[T9]
    have:(p++o).length=p.length:=by rw[sG] at hkp ⊢;omega
    rw[this])
  (s:=(0,Ag ([]:List (Int × Bool)) 0 true)) ⟨rfl,sh _,λi=>by rw[RT];simp[DM,AR,BY]⟩
 obtain⟨b,h1,h2⟩:=key
 unfold Mq
 rw[h1];exact h2
theorem l9{l:List A3}(h:QA l=0):∀x∈l,FH x=0:=by
 intro x A
 obtain⟨k,w,rfl⟩:=sJ.1 A
 unfold QA at h
 cases q:(List.range l.length).findSome? (L1 l) with
 | none=>
  rw[se] at q
  have:=q k (rp.2 w)
  unfold L1 at this
  rw[re l k w] at this
  by_cases e:FH l[k]=0
  ·exact e
  ·rw[rF e] at this;cases this
 | some r=>
  rw[q] at h
  simp only[sY] at h
  obtain⟨j,_,m⟩:=sN q
  unfold L1 at m
  split at m
  ·rename_i e;cases m;exact absurd h e
  ·split at m
   ·cases m;exact absurd h (by decide)
   ·cases m
theorem di{μ}(h:∀x,x.Place.length+x.Name.length+x.Value.length+1≤μ x):∀(l:List A3),(l.map μ).sum≤1048576→Ir l∧l.length≤1048576:=by
 have key:∀l:List A3,l.length≤(l.map μ).sum∧∀x∈l,μ x≤(l.map μ).sum:=by
  intro l
  induction l with
  | nil=>exact⟨rN _,λx j=>by simp at j⟩
  | cons y l m=>
   have w:=h y
   rw[rq,sv,sH]
   refine⟨by omega,λx j=>?_⟩
   rcases ro.1 j with rfl | j
   ·omega
   ·have:=m.2 x j;omega
 intro l A
 obtain⟨B,q⟩:=key l
 refine⟨λx j=>?_,by omega⟩
 have C:=q x j
 have E:=h x
 exact⟨by omega,by omega,by omega⟩
end Go.Proofs.YtmeadkhpiobenaaGreatDoor.Al

set_option linter.unusedVariables false
set_option linter.unusedSimpArgs false
namespace Go.Proofs.YtmeadkhpiobenaaGreatDoor.Al
def CW(f:List An):List Int:=(f.filter λx=>!(x.Ref=0)).map (·.Ref)
def Er(l:List Ao):List Int:=(l.filter λx=>!(x.Ref=0)).map (·.Ref)
theorem Qn(x:An) r:CW (x::r)=(if x.Ref=0 then [] else [x.Ref])++CW r:=by
 unfold CW
 rw[tj]
 by_cases h:x.Ref=0<;>simp[h]
theorem WE(x:Ao) r:Er (x::r)=(if x.Ref=0 then [] else [x.Ref])++Er r:=by
 unfold Er
 rw[tj]
 by_cases h:x.Ref=0<;>simp[h]
theorem XQ(f:List An)(q:f.length≤1073741824):iter (λ(a:Int × (List Int))=>FK f a.1 a.2) (0,[])=some (CW f):=by
 have h:=G8 (f:=λ(a:Int × (List Int))=>FK f a.1 a.2) f (λ(c:List Int) i=>((i:Int),c)) (λr c=>c++CW r) (λi c=>c.length≤i)
  (λi c l m=>by
   left
   show ∃w,FK f (i:Int) c=_∧_
   unfold FK
   rw[rF (by simpa using l),Af l,AD,Ar (by omega)]
   by_cases j:f[i]!.Ref=0
   ·refine⟨c,by rw[rH j];rfl,by omega,?_⟩
    rw[Qn,rF j,sc]
   ·refine⟨c++[f[i]!.Ref],by rw[rG j,rF (by decide),OP (by omega)];rfl,by simp;omega,?_⟩
    rw[Qn,rE j,sZ])
  (λc m=>by
   show FK f (f.length:Int) c=_
   unfold FK
   rw[rE (by simp)]
   simp[CW]) [] (by simp) ((0:Int),[]) rfl
 simpa using h
theorem lI(f:List An)(j:f.length≤1073741824):Jj f=some (CW f):=by
 unfold Jj
 rw[XQ f j,AD]
theorem lx(n:Ac)(l:n.Flow.length≤1073741824)(hc:n.Grid.Cells.length≤1073741824):H1 n=some (CW n.Flow++Er n.Grid.Cells):=by
 have w:(CW n.Flow).length≤1073741824:=by
  unfold CW;rw[rx];exact rZ (sn ..) l
 unfold H1 Kx
 rw[XK,XQ _ l,AD,AD]
 have h:=G8 (f:=λ(a:Int × (List Int))=>Ee n a.1 a.2) n.Grid.Cells (λ(c:List Int) i=>((i:Int),c)) (λr c=>c++Er r) (λi c=>c.length≤1073741824+i)
  (λi c m hc=>by
   left
   show ∃A,Ee n (i:Int) c=_∧_
   unfold Ee
   rw[rF (by simpa using m),Af m,AD,Ar (by omega)]
   by_cases j:n.Grid.Cells[i]!.Ref=0
   ·refine⟨c,by rw[rH j];rfl,by omega,?_⟩
    rw[WE,rF j,sc]
   ·refine⟨c++[n.Grid.Cells[i]!.Ref],by rw[rG j,rF (by decide),OP (by omega)];rfl,by simp;omega,?_⟩
    rw[WE,rE j,sZ])
  (λc hc=>by
   show Ee n (n.Grid.Cells.length:Int) c=_
   unfold Ee
   rw[rE (by simp)]
   simp[Er]) (CW n.Flow) (by omega) ((0:Int),CW n.Flow) rfl
 have q:iter (λ(a:Int × (List Int))=>Ee n a.1 a.2) (0,CW n.Flow)=_:=h
 rw[q]
 rfl
theorem UQ{n:Nat}{f:Int→Option (Int ⊕ Ax Unit Int)}{g:Nat→Option Int}(h:iter f 0=some (DE ((List.range n).findSome? g)))(hg:∀k,k<n→g k≠some 0){rest:Option Int}(j:(BA (iter f 0) λ(_:Unit)=>rest)=some 0):(∀k,k<n→g k=none)∧rest=some 0:=by
 rw[h] at j
 cases l:(List.range n).findSome? g with
 | some e=>
  rw[l] at j
  have j:(some e:Option Int)=some 0:=j
  injection j with j
  obtain⟨k,q,m⟩:=sN l
  rw[j] at m
  exact absurd m (hg k (rp.1 q))
 | none=>
  rw[l] at j
  refine⟨λk q=>?_,j⟩
  rw[se] at l
  exact l k (rp.2 q)
theorem kh{d:Aa}{kind:Int}{l:List Int}(B:d.Nodes.length≤1048576)(C:HK d.Nodes)(J:l.length≤2097152)(A:Hb d kind l=some 0):∀id∈l,∃k,Bv d.Nodes id=some k:=by
 let g:Nat→Option Int:=λk=>match Bv d.Nodes l[k]! with | none=>some 7 | some j=>if Kt kind d.Nodes[j]!.Kind=true then none else some 8
 have hit:iter (λ(a:Int)=>IL d kind l a) 0=some (DE ((List.range l.length).findSome? g)):=by
  refine Bx g (λk m=>?_) (by unfold IL;rw[rE (by simp)])
  unfold IL
  obtain⟨i,E,w⟩:=OA d l[k]! B C
  rw[rF (by simpa using m),Af m,AD,E,Bo]
  simp only[g]
  cases q:Bv d.Nodes l[k]! with
  | none=>rfl
  | some j=>
   obtain rfl:=w j q
   obtain⟨F,_⟩:=Ed q
   simp only[Option.isSome_some,tS,si,tV]
   rw[Af F,AD,WV,AD]
   cases Kt kind d.Nodes[i]!.Kind with
   | false=>rfl
   | true=>rw[rE (by decide),Ar (by omega)];rfl
 unfold Hb at A
 obtain⟨I,_⟩:=UQ hit (λk m e=>by
  simp only[g] at e
  split at e
  ·cases e
  ·split at e<;>cases e) A
 intro id Az
 obtain⟨k,m,rfl⟩:=sJ.1 Az
 have:=I k m
 simp only[g] at this
 rw[re l k m] at this
 cases q:Bv d.Nodes l[k] with
 | none=>rw[q] at this;cases this
 | some j=>exact⟨j,rfl⟩
theorem Ta(n:Ac)(h:F6 n):(CW n.Flow++Er n.Grid.Cells).length≤2097152:=by
 have j:=h.ok.fl
 have l:=h.ok.gr.1
 have m:(CW n.Flow).length≤n.Flow.length:=by unfold CW;rw[rx];exact sn ..
 have q:(Er n.Grid.Cells).length≤n.Grid.Cells.length:=by unfold Er;rw[rx];exact sn ..
 rw[sG];omega
theorem eC{d:Aa}(h:HH d)(w:E9 d=some 0):∀k,k<d.Nodes.length→∀id∈CW d.Nodes[k]!.Flow++Er d.Nodes[k]!.Grid.Cells,∃j,Bv d.Nodes id=some j:=by
 obtain⟨I,_⟩:=Nk h w
 obtain⟨J,M⟩:=h
 unfold E9 at w
 split at w
 ·cases w
 let C:Nat→Option Int:=λk=>if(Dg d.Nodes[k]!).getD 0≠0 then some ((Dg d.Nodes[k]!).getD 0) else if(k=0∧d.Nodes[k]!.ID≠1)∨(0<k∧d.Nodes[k]!.ID≤d.Nodes[k-1]!.ID) then some 5 else none
 have E:iter (λ(a:Int)=>Ez d a) 0=some (DE ((List.range d.Nodes.length).findSome? C)):=by
  refine Bx C (λk q=>?_) (by unfold Ez;rw[rE (by simp)])
  unfold Ez
  obtain⟨e,A,_⟩:=QQ _ (M _ (Bz q))
  show _=C3 k (C k)
  simp only[C]
  rw[rF (by simpa using q),Af q,AD,A,AD]
  show _=C3 k (if e≠0 then some e else _)
  by_cases l:e=0
  ·rw[rE (DC l),rE (by simpa using l)]
   by_cases T:k=0
   ·subst T
    rw[rH (show((0:Nat):Int)=0 from rfl),rG (show ¬ (0:Int)<((0:Nat):Int) by omega)]
    by_cases Az:d.Nodes[0]!.ID=1
    ·rw[rH Az,rE (show ¬ ((0=0∧d.Nodes[0]!.ID≠1)∨(0<0∧d.Nodes[0]!.ID≤d.Nodes[0-1]!.ID)) by rintro(⟨_,b⟩ | ⟨a,_⟩);exact b Az;omega)]
     rfl
    ·rw[rG Az,rF (show((0=0∧d.Nodes[0]!.ID≠1)∨(0<0∧d.Nodes[0]!.ID≤d.Nodes[0-1]!.ID)) from .inl ⟨rfl,Az⟩)]
     rfl
   ·have U:0<k:=by omega
    rw[rG (show ¬ ((k:Int)=0) by omega),rH (show(0:Int)<(k:Int) by omega)]
    show(AC (gd true (AY .i64 ((k:Int)-1))) λ(O:Int)=>AC (gd true (AN d.Nodes O)) λ(V:Ac)=>_)=_
    rw[Aj,Ey U (by omega),AD,Aj,Af (show k-1<d.Nodes.length by omega),AD,Ar (by omega)]
    by_cases Az:d.Nodes[k]!.ID≤d.Nodes[k-1]!.ID
    ·rw[rH Az,rF (show((k=0∧d.Nodes[k]!.ID≠1)∨(0<k∧d.Nodes[k]!.ID≤d.Nodes[k-1]!.ID)) from .inr ⟨U,Az⟩)]
     rfl
    ·rw[rG Az,rE (show ¬ ((k=0∧d.Nodes[k]!.ID≠1)∨(0<k∧d.Nodes[k]!.ID≤d.Nodes[k-1]!.ID)) by rintro(⟨a,_⟩ | ⟨_,b⟩);exact T a;exact Az b)]
     rfl
  ·rw[rF (B8 l),rF l]
   rfl
 obtain⟨_,w⟩:=UQ E (λk q e=>by
  simp only[C] at e
  split at e
  ·rename_i B;injection e with e;exact B e
  ·split at e
   ·injection e with e;omega
   ·cases e) w
 let g:Nat→Option Int:=λk=>if(Hb d d.Nodes[k]!.Kind (CW d.Nodes[k]!.Flow++Er d.Nodes[k]!.Grid.Cells)).getD 0≠0 then some ((Hb d d.Nodes[k]!.Kind (CW d.Nodes[k]!.Flow++Er d.Nodes[k]!.Grid.Cells)).getD 0) else none
 have hit:iter (λ(a:Int)=>Gr d a) 0=some (DE ((List.range d.Nodes.length).findSome? g)):=by
  refine Bx g (λk q=>?_) (by unfold Gr;rw[rE (by simp)])
  unfold Gr
  have m:=M _ (Bz q)
  have X:=m.ok.fl
  have Z:=m.ok.gr.1
  obtain⟨e,A,_⟩:=UK d d.Nodes[k]!.Kind _ J I (Ta _ m)
  rw[rF (by simpa using q),Af q,AD,lx _ (by omega) (by omega),AD,A,AD]
  simp only[g]
  rw[A]
  simp only[sY]
  by_cases l:e=0
  ·rw[rE (DC l),Ar (by omega),rE (by simpa using l)];rfl
  ·rw[rF (B8 l),rF l];rfl
 obtain⟨h1,_⟩:=UQ hit (λk q e=>by
  simp only[g] at e
  split at e
  ·rename_i B;injection e with e;exact B e
  ·cases e) w
 intro k q id Az
 have m:=M _ (Bz q)
 obtain⟨e,A,_⟩:=UK d d.Nodes[k]!.Kind _ J I (Ta _ m)
 have F:=h1 k q
 simp only[g] at F
 rw[A] at F
 simp only[sY] at F
 split at F
 ·cases F
 ·rename_i l
  have l:e=0:=by simpa using l
  subst l
  exact kh J I (Ta _ m) A id Az
end Go.Proofs.YtmeadkhpiobenaaGreatDoor.Al

set_option linter.unusedVariables false
set_option linter.unusedSimpArgs false
namespace Go.Proofs.YtmeadkhpiobenaaGreatDoor.Al
open Go.Sort
end Go.Proofs.YtmeadkhpiobenaaGreatDoor.Al

set_option linter.unusedVariables false
set_option linter.unusedSimpArgs false
namespace Go.Proofs.YtmeadkhpiobenaaGreatDoor.Al
open Go.Sort
end Go.Proofs.YtmeadkhpiobenaaGreatDoor.Al

set_option linter.unusedVariables false
set_option linter.unusedSimpArgs false
namespace Go.Proofs.YtmeadkhpiobenaaGreatDoor.Al
open Go.Sort
end Go.Proofs.YtmeadkhpiobenaaGreatDoor.Al

set_option linter.unusedVariables false
set_option linter.unusedSimpArgs false
namespace Go.Proofs.YtmeadkhpiobenaaGreatDoor.Al
open Go.Sort
end Go.Proofs.YtmeadkhpiobenaaGreatDoor.Al

set_option linter.unusedVariables false
set_option linter.unusedSimpArgs false
namespace Go.Proofs.YtmeadkhpiobenaaGreatDoor.Al
open Go.Sort
end Go.Proofs.YtmeadkhpiobenaaGreatDoor.Al

set_option linter.unusedVariables false
set_option linter.unusedSimpArgs false
namespace Go.Proofs.YtmeadkhpiobenaaGreatDoor.Al
open Go.Sort
end Go.Proofs.YtmeadkhpiobenaaGreatDoor.Al

set_option linter.unusedVariables false
set_option linter.unusedSimpArgs false
namespace Go.Proofs.YtmeadkhpiobenaaGreatDoor.Al
open Go.Sort
end Go.Proofs.YtmeadkhpiobenaaGreatDoor.Al

set_option linter.unusedVariables false
set_option linter.unusedSimpArgs false
namespace Go.Proofs.YtmeadkhpiobenaaGreatDoor.Al
open Go.Sort
end Go.Proofs.YtmeadkhpiobenaaGreatDoor.Al

set_option linter.unusedVariables false
set_option linter.unusedSimpArgs false
namespace Go.Proofs.YtmeadkhpiobenaaGreatDoor.Al
open Go.Sort
end Go.Proofs.YtmeadkhpiobenaaGreatDoor.Al

set_option linter.unusedVariables false
set_option linter.unusedSimpArgs false
namespace Go.Proofs.YtmeadkhpiobenaaGreatDoor.Al
open Go.Sort
end Go.Proofs.YtmeadkhpiobenaaGreatDoor.Al

set_option linter.unusedVariables false
set_option linter.unusedSimpArgs false
namespace Go.Proofs.YtmeadkhpiobenaaGreatDoor.Al
open Go.Sort
end Go.Proofs.YtmeadkhpiobenaaGreatDoor.Al

set_option linter.unusedVariables false
set_option linter.unusedSimpArgs false
namespace Go.Proofs.YtmeadkhpiobenaaGreatDoor.Al
open Go.Sort
end Go.Proofs.YtmeadkhpiobenaaGreatDoor.Al

set_option linter.unusedVariables false
set_option linter.unusedSimpArgs false
namespace Go.Proofs.YtmeadkhpiobenaaGreatDoor.Al
open Go.Sort
end Go.Proofs.YtmeadkhpiobenaaGreatDoor.Al

namespace Go.Proofs.YtmeadkhpiobenaaGreatDoor.Al
end Go.Proofs.YtmeadkhpiobenaaGreatDoor.Al

set_option linter.unusedVariables false
set_option linter.unusedSimpArgs false
namespace Go.Proofs.YtmeadkhpiobenaaGreatDoor.Al
open Go.Sort
end Go.Proofs.YtmeadkhpiobenaaGreatDoor.Al

set_option linter.unusedVariables false
set_option linter.unusedSimpArgs false
namespace Go.Proofs.YtmeadkhpiobenaaGreatDoor.Al
open Go.Sort
end Go.Proofs.YtmeadkhpiobenaaGreatDoor.Al

set_option linter.unusedVariables false
set_option linter.unusedSimpArgs false
namespace Go.Proofs.YtmeadkhpiobenaaGreatDoor.Al
open Go.Sort
end Go.Proofs.YtmeadkhpiobenaaGreatDoor.Al

set_option linter.unusedVariables false
set_option linter.unusedSimpArgs false
namespace Go.Proofs.YtmeadkhpiobenaaGreatDoor.Al
open Go.Sort
end Go.Proofs.YtmeadkhpiobenaaGreatDoor.Al

set_option linter.unusedVariables false
set_option linter.unusedSimpArgs false
namespace Go.Proofs.YtmeadkhpiobenaaGreatDoor.Al
open Go.Sort
end Go.Proofs.YtmeadkhpiobenaaGreatDoor.Al

set_option linter.unusedVariables false
set_option linter.unusedSimpArgs false
namespace Go.Proofs.YtmeadkhpiobenaaGreatDoor.Al
open Go.Sort
theorem Xa{l}{i} : BY l i=true↔∃x∈l,x.Item=i:=by
 unfold BY
 rw[sf]
 simp
end Go.Proofs.YtmeadkhpiobenaaGreatDoor.Al

set_option linter.unusedVariables false
set_option linter.unusedSimpArgs false
namespace Go.Proofs.YtmeadkhpiobenaaGreatDoor.Al
open Go.Sort
end Go.Proofs.YtmeadkhpiobenaaGreatDoor.Al

set_option linter.unusedVariables false
set_option linter.unusedSimpArgs false
namespace Go.Proofs.YtmeadkhpiobenaaGreatDoor.Al
open Go.Sort
theorem pA{A}{d}{M}(h:Fo A d M):(∀z,z∈BG A (M+1) 0++Bf A (BG A (M+1) 0)↔z∈A)∧Uq (BG A (M+1) 0++Bf A (BG A (M+1) 0)):=by
 have q:∀z,z∈BG A (M+1) 0++Bf A (BG A (M+1) 0)→z∈A:=λz j=>by
  rcases sp.1 j with j | j
  ·exact(MI _ _ _ j).1
  ·exact(Ie.1 j).1
 refine⟨λz=>⟨q z,λj=>?_⟩,?_⟩
 ·rw[sp,Ie]
  by_cases l:BY (BG A (M+1) 0) z.Item=true
  ·obtain⟨y,m,e⟩:=Xa.1 l
   left
   rw[← h.uq.eq (MI _ _ _ m).1 j e];exact m
  ·exact .inr ⟨j,by simpa using l⟩
 ·unfold Uq
  rw[tc,tt,List.pairwise_append]
  refine⟨Yh h.uq h.rk _ _,(Rs h.uq _).imp λh=>by unfold Ex at h;simp at h;omega,λa w b B e=>?_⟩
  have:=(Ie.1 B).2
  have C:BY (BG A (M+1) 0) b.Item=true:=Xa.2 ⟨a,w,e⟩
  rw[C] at this;cases this
theorem kw{A:List AB}{d}{M}(h:Fo A d M):(BG A (M+1) 0++Bf A (BG A (M+1) 0)).length≤A.length:=by
 obtain⟨l,j⟩:=pA h
 refine XO _ _ ?_ λz m=>(l z).1 m
 unfold Uq at j
 rwa [tc,tt] at j
end Go.Proofs.YtmeadkhpiobenaaGreatDoor.Al

set_option linter.unusedVariables false
set_option linter.unusedSimpArgs false
namespace Go.Proofs.YtmeadkhpiobenaaGreatDoor.Al
theorem O9{c r}(h:gd c (some false)=some r):r=false:=by
 cases c
 ·rw[CL] at h;cases h;rfl
 ·rw[Aj] at h;cases h;rfl
theorem cF{n:Ac}(h:F6 n)(M:Ir n.Draw)(j:Dg n=some 0):QA n.Draw=0:=by
 have O:=h.ok.dr
 unfold Dg at j
 split at j
 ·cases j
 split at j
 ·cases j
 obtain⟨e,_,j⟩:=BX j
 split at j
 ·rename_i c;injection j with j;rw[j] at c;simp at c
 by_cases m:n.Kind=8∨n.Kind=9∨n.Kind=10
 ·have T:H6 n.Kind=some false:=by unfold H6;rcases m with e | e | e<;>rw[e]<;>rfl
  have U:Hl n.Kind=some false:=by unfold Hl;rcases m with e | e | e<;>rw[e]<;>rfl
  have hg:GL n.Kind=some false:=by unfold GL;rcases m with e | e | e<;>rw[e]<;>rfl
  obtain⟨V,A,j⟩:=BX j
  rw[T] at A;cases A
  obtain⟨X,B,j⟩:=BX j
  rw[U] at B
  obtain rfl:=O9 B
  obtain⟨g,C,j⟩:=BX j
  rw[hg] at C;cases C
  obtain⟨F,_,j⟩:=BX j
  split at j
  ·cases j
  rw[rE (show ¬ (false||false)=true by decide),rE (by decide)] at j
  obtain⟨Z,I,j⟩:=BX j
  injection j with j
  rw[gQ _ M (by omega),j] at I
  injection I
 ·have hd:Hn n.Kind=some false:=by
   unfold Hn
   rw[rG (λe=>m (.inl e)),rG (λe=>m (.inr (.inl e))),rG (λe=>m (.inr (.inr e)))]
   rfl
  obtain⟨V,A,j⟩:=BX j
  obtain⟨X,B,j⟩:=BX j
  obtain⟨g,C,j⟩:=BX j
  obtain⟨F,l,j⟩:=BX j
  rw[hd] at l
  split at j
  ·cases j
  rename_i E
  have E:F=false:=by simpa using E
  subst E
  have q:decide (0<(n.Draw.length:Int))=false:=by
   split at l
   ·split at l
    ·obtain⟨r7,_,l⟩:=BX l
     obtain⟨J,w,l⟩:=BX l
     obtain rfl:=O9 w
     simp only[rR,s6,tL,rz] at l
     exact l.2
    ·obtain⟨J,w,l⟩:=BX l
     obtain rfl:=O9 w
     simp only[rR,s6,tL,rz] at l
     exact l.2
   ·obtain⟨J,w,l⟩:=BX l
    obtain rfl:=O9 w
    simp only[rR,s6,tL,rz] at l
    exact l.2
  have:n.Draw=[]:=by
   rw[sW] at q
   exact tT.1 (by omega)
  rw[this];rfl
theorem lB{n:Ac}(h:F6 n)(j:Dg n=some 0):n.Grid.Cells=[]∨G0 n.Grid=0:=by
 unfold Dg at j
 split at j
 ·cases j
 split at j
 ·cases j
 obtain⟨e,_,j⟩:=BX j
 split at j
 ·rename_i c;injection j with j;rw[j] at c;simp at c
 by_cases m:n.Kind=2∨n.Kind=6
 ·right
  have F:H6 n.Kind=some false:=by unfold H6;rcases m with e | e<;>rw[e]<;>rfl
  have I:Hl n.Kind=some false:=by unfold Hl;rcases m with e | e<;>rw[e]<;>rfl
  have hg:GL n.Kind=some true:=by unfold GL;rcases m with e | e<;>rw[e]<;>rfl
  obtain⟨J,w,j⟩:=BX j
  rw[F] at w;cases w
  obtain⟨M,A,j⟩:=BX j
  rw[I] at A
  obtain rfl:=O9 A
  obtain⟨g,q,j⟩:=BX j
  rw[hg] at q;cases q
  obtain⟨C,_,j⟩:=BX j
  split at j
  ·cases j
  rw[rE (show ¬ (false||false)=true by decide),rF rfl] at j
  obtain⟨O,E,j⟩:=BX j
  split at j
  ·rename_i c;injection j with j;rw[j] at c;simp at c
  ·rename_i c
   have T:O=0:=by simpa using c
   rw[Wk _ h.gd,T] at E
   injection E
 ·left
  have hg:GL n.Kind=some false:=by
   unfold GL
   rw[rG (λe=>m (.inl e)),rG (λe=>m (.inr e))]
   rfl
  obtain⟨J,w,j⟩:=BX j
  obtain⟨M,A,j⟩:=BX j
  obtain⟨g,q,j⟩:=BX j
  rw[hg] at q;cases q
  obtain⟨C,l,j⟩:=BX j
  split at j
  ·cases j
  rename_i B
  have B:C=false:=by simpa using B
  subst B
  split at l
  ·rw[rF (by decide),Vi _ _ h.ok.gr] at l
   obtain⟨r7,U,l⟩:=BX l
   obtain⟨V,X,l⟩:=BX l
   cases U
   simp only[rR,s6,tL,rz,Bool.not_eq_false',rJ] at l
   rw[l.1.2]
  ·rename_i Z
   obtain⟨V,X,l⟩:=BX l
   simp only[rR,s6,uu] at l
   exfalso
   apply Z
   rw[l.1]
   rfl
theorem iy{g:BF}(h:G0 g=0):∀c∈g.Cells,c.Row≤9223372036854775807∧c.Col≤9223372036854775807:=by
 obtain⟨A,_,_⟩:=YC h
 unfold G0 at h
 rw[rE (by simpa using A)] at h
 have E:Im g.Rows g.Cols false g.Cells=0:=by
  apply rm
  intro B
  rw[rF B] at h
  exact B h
 intro c F
 obtain⟨k,C,rfl⟩:=sJ.1 F
 have m:=Uh E (λk _ j=>by
  unfold H3 at j
  split at j
  ·rename_i q
   injection j with j
   exact q j
  ·split at j
   ·cases j
   ·cases j) k C
 unfold H3 at m
 split at m
 ·cases m
 ·rename_i l
  have l:LA g.Rows g.Cols false g.Cells[k]! = 0:=by simpa using l
  rw[re g.Cells k C] at l
  unfold LA at l
  split at l
  ·cases l
  ·rename_i w
   have w:=rt.1 w
   unfold Gv at w
   unfold Ef at A
   omega
theorem VI{n:Ac}(h:F6 n)(q:Dg n=some 0):∀c∈n.Grid.Cells,∃r,HR n.Grid c.Row c.Col=some r∧NF n.Grid c.Row c.Col=some r:=by
 intro c l
 rcases lB h q with j | j
 ·rw[j] at l;cases l
 ·obtain⟨w,_,g3⟩:=YC j
  have m:c.Row≤9223372036854775807∧c.Col≤9223372036854775807:=iy j c l
  obtain⟨o,A,o2⟩:=mU n.Grid c.Row c.Col w g3 h.ok.gr.2.1 m.1 m.2
  unfold HR NF
  rw[A,o2]
  cases o with
  | none=>exact⟨_,rfl,rfl⟩
  | some r=>exact⟨_,rfl,rfl⟩
end Go.Proofs.YtmeadkhpiobenaaGreatDoor.Al

set_option linter.unusedVariables false
set_option linter.unusedSimpArgs false
namespace Go.Proofs.YtmeadkhpiobenaaGreatDoor.Al
open Go
def H9:List UInt8:=[110,111,100,101]
def I6(d:Aa)(s:List UInt8):Option Int:=match Bv d.Nodes (EB s) with | some k=>if d.Nodes[k]!.Kind=1 then some (EB s) else none | none=>none
def ED(d:Aa)(x:AB):Option Int:=I6 d (CQ x.Attrs H9)
def Nn(d:Aa):Prop:=∀k,k<d.Nodes.length→1≤d.Nodes[k]!.ID∧d.Nodes[k]!.ID≤1073741824
theorem Qf{d:Aa}(h:Nn d){id}{k}(j:Bv d.Nodes id=some k):1≤id∧id≤1073741824:=by
 obtain⟨l,m⟩:=Ed j
 rw[← m];exact h k l
theorem nY{l}(h:Bw l false=0) n:(CQ l n).length≤1073741824:=by
 rw[fE]
 cases m:Av l n with
 | none=>simp
 | some x=>
  have:=((NU l false).1 h).2 x (Qj m).2
  rcases this.2 with j | j
  ·unfold Dc at j
   simp only[rO,rJ] at j
   show x.Value.length≤_
   omega
  ·exact absurd j.1 (by decide)
theorem ol{d:Aa}(Az:Nn d)(hm:d.Nodes.length≤1048576)(hs:HK d.Nodes){l:List AB}{k:Nat}(hk:k<l.length)(hl:l.length≤1048576)(ha:Bw l[k]!.Attrs false=0∧l[k]!.Attrs.length≤1048576)(out:List Int)(ho:out.length≤1048576) :
  IR d l (k:Int) out=some (.inl (((k+1:Nat):Int),out++(ED d l[k]!).toList)):=by
 unfold IR
 rw[rF (by simpa using hk),Af hk,AD,Ar (by omega),PU _ _ (by omega),AD]
 unfold ED
 rw[show([110,111,100,101]:List UInt8)=H9 from rfl]
 have hlen:=nY ha.1 H9
 generalize CQ l[k]!.Attrs H9=s at *
 have hd:∀n,EB s=n→∀j,Bv d.Nodes n=some j→Lib.atoiAll s=.ok n∧Lib.itoa n=s:=λn hn j hj=>by
  obtain⟨h1,h2⟩:=Qf Az hj
  exact(Xk s n h1 h2).2 hn
 have hnone:(∀j,Bv d.Nodes (EB s)=some j→False)→I6 d s=none:=λh=>by
  unfold I6
  cases hf:Bv d.Nodes (EB s) with
  | none=>rfl
  | some j=>exact(h j hf).elim
 unfold RG atoiS
 rw[rF (by omega)]
 rcases hA:Lib.atoiAll s with v | _ | _
 ·have hb:=Lib.atoiAll_bounds hA
  simp only[Bo]
  unfold strconv_Itoa itoaS
  rw[rF hb]
  simp only[tS,show((false==false)=true) from rfl,Aj,AD,sO]
  by_cases hi:Lib.itoa v=s
  ·rw[rH hi,rE (by decide)]
   obtain⟨i,f1,f2⟩:=OA d v hm hs
   rw[f1,Bo]
   cases hf:Bv d.Nodes v with
   | none=>
    have e:=hnone λj hj=>by
     have h1:=(hd _ rfl j hj).1
     rw[hA] at h1
     injection h1 with h1
     rw[← h1,hf] at hj;cases hj
    rw[e]
    simp[CL,AD]
   | some j=>
    obtain rfl:=f2 j hf
    obtain⟨hj,_⟩:=Ed hf
    obtain⟨r1,r2⟩:=Qf Az hf
    have hn:=(Xk s v r1 r2).1 ⟨hA,hi⟩
    unfold I6
    rw[hn,hf]
    simp only[Option.isSome_some,sV,Aj,rz]
    rw[Af hj,AD]
    by_cases hk1:d.Nodes[i]!.Kind=1
    ·rw[rF (by simpa using hk1),rF hk1,OP (by omega)]
     rfl
    ·rw[rE (by simpa using hk1),rE hk1]
     simp[AD]
  ·rw[rG hi,rF (by decide)]
   have e:=hnone λj hj=>by
    obtain⟨h1,h2⟩:=hd _ rfl j hj
    rw[hA] at h1
    injection h1 with h1
    rw[← h1] at h2
    exact hi h2
   rw[e]
   simp[AD]
 ·have e:=hnone λj hj=>by have:=(hd _ rfl j hj).1;rw[hA] at this;cases this
  rw[e]
  simp[Bo,AD,CL]
 ·have e:=hnone λj hj=>by have:=(hd _ rfl j hj).1;rw[hA] at this;cases this
  rw[e]
  simp[Bo,AD,CL]
theorem n8{d:Aa}(Az:Nn d)(m:d.Nodes.length≤1048576)(q:HK d.Nodes)(l:List AB)(w:l.length≤1048576)(A:∀x∈l,Bw x.Attrs false=0∧x.Attrs.length≤1048576) :
  iter (λ(a:Int × (List Int))=>IR d l a.1 a.2) (0,[])=some (l.filterMap (ED d)):=by
 have h:=G8 (f:=λ(a:Int × (List Int))=>IR d l a.1 a.2) l (λ(c:List Int) i=>((i:Int),c)) (λr c=>c++r.filterMap (ED d)) (λi c=>c.length≤i)
  (λi c j B=>by
   left
   refine⟨c++(ED d l[i]!).toList,ol Az m q j w (A _ (Bz j)) c (by omega),?_,?_⟩
   ·rw[sG]
    have:(ED d l[i]!).toList.length≤1:=by cases ED d l[i]!<;>simp
    omega
   ·rw[uj]
    cases ED d l[i]!<;>simp)
  (λc B=>by
   show IR d l (l.length:Int) c=_
   unfold IR
   rw[rE (by simp)]
   simp) [] (by simp) ((0:Int),[]) rfl
 simpa using h
theorem TS{d:Aa}(Az:Nn d)(V:d.Nodes.length≤1048576)(Z:HK d.Nodes){n:Ac}(h:F6 n)(hD:Ir n.Draw)(h0:Dg n=some 0) :
  ∃L X:List AB,F0 d n=some (L.filterMap (ED d))∧Ke n.Draw=some (L++X,(L.length:Int))∧(L++X).length≤1048576∧∀x∈L,Bw x.Attrs false=0∧x.Attrs.length≤1048576:=by
 have A:=h.ok.dr
 have ho:=l9 (cF h hD h0)
 obtain⟨m,l,E,F,I⟩:=jD A ho
 obtain⟨e,M,B⟩:=E.fo A
 have C:=bK A E F B
 have J:=bT B
 have hit:=jI I B
 have a0:=rZ (LT B (M+1) 0) B.len
 have q:∀x∈BG (m.map (wa l)) (M+1) 0,Bw x.Attrs false=0∧x.Attrs.length≤1048576:=λx hx=>by
  obtain⟨y,hy,rfl⟩:=sM.1 (MI _ _ _ hx).1
  have h1:(wa l y).Attrs=(AR (Cf l) y.Item).getD []:=rfl
  rw[h1]
  cases T:Ae (Cf l) y.Item with
  | none=>rw[(Ek T).1];exact⟨Su,by simp⟩
  | some j=>
   obtain⟨v,v1,v2,_⟩:=DH T
   rw[v2,sY]
   unfold Cf at v1
   rw[rT,rU] at v1
   obtain⟨z,z1,U⟩:=v1
   simp only[rW] at U
   rw[← U.2]
   have:=E.ok z (rj z1)
   exact⟨this.1,by omega⟩
 have w:(BG (m.map (wa l)) (M+1) 0++Bf (m.map (wa l)) (BG (m.map (wa l)) (M+1) 0)).length≤1048576:=by
  refine rZ (kw B) ?_
  exact B.len
 generalize BG (m.map (wa l)) (M+1) 0=L at *
 generalize Bf (m.map (wa l)) L=X at *
 refine⟨L,X,?_,hit,w,q⟩
 unfold F0
 rw[C,AD,J,AD]
 have O:DX (L++X) 0 (L.length:Int)=some L:=by
  unfold DX
  rw[rF ⟨by omega,by omega,by simp;omega⟩]
  simp
 rw[O,AD,n8 Az V Z L (by simp at w;omega) q,AD]
end Go.Proofs.YtmeadkhpiobenaaGreatDoor.Al

set_option linter.unusedVariables false
set_option linter.unusedSimpArgs false
namespace Go.Proofs.YtmeadkhpiobenaaGreatDoor.Al
open Go
def Bq(d:Aa)(id:Int):Ac:=match Bv d.Nodes id with | some k=>d.Nodes[k]! | none=>default
noncomputable def HN(v:Am)(g:BF)(c:Ao):Am:=
 match HR g c.Row c.Col with
 | some r=>⟨c.Ref,v.id,((v.visible&&(r.Row=c.Row))&&(r.Col=c.Col))⟩
 | none=>default
noncomputable def LQ(v:Am)(n:Ac):List Am:=(CW n.Flow).map λid=>⟨id,v.id,v.visible⟩
noncomputable def KK(v:Am)(n:Ac):List Am:=(n.Grid.Cells.filter λc=>!(c.Ref=0)).map (HN v n.Grid)
noncomputable def HQ(d:Aa)(n:Ac):List Int:=(F0 d n).getD []
noncomputable def Mu(d:Aa)(v:Am)(n:Ac):List Am:=(HQ d n).map λid=>⟨id,v.id,v.visible⟩
noncomputable def kids(d:Aa)(v:Am)(n:Ac):List Am:=LQ v n++(KK v n++Mu d v n)
def B1(l:List Am)(i:Int):Bool:=l.any λv=>decide (v.id=i)
noncomputable def CY(d:Aa):Nat→List Am→Am→List Am
 | 0,j,_=>j
 | n+1,j,v=>if B1 j v.id=true then j else(kids d v (Bq d v.id)).foldl (λa w=>CY d n a w) (j++[v])
def Cj(d:Aa)(i:Int):Prop:=∃k,Bv d.Nodes i=some k
structure Da(d:Aa):Prop where
 ok:HH d
 dr:∀n∈d.Nodes,Ir n.Draw
 ch:E9 d=some 0
theorem nJ{n:Ac}(j:Dg n=some 0):1≤n.ID∧n.ID≤1073741824:=by
 unfold Dg at j
 split at j
 ·cases j
 ·rename_i c
  simp only[rV,rJ] at c
  omega
theorem Da.ids{d}(h:Da d):Nn d:=λk j=>nJ ((Nk h.ok h.ch).2 k j)
theorem Da.srt{d:Aa}(h:Da d):HK d.Nodes:=(Nk h.ok h.ch).1
theorem MJ{d:Aa}{i}{k}(h:Bv d.Nodes i=some k):Bq d i=d.Nodes[k]!:=by unfold Bq;rw[h]
theorem Da.node{d:Aa}(h:Da d){i}(w:Cj d i):F6 (Bq d i)∧Ir (Bq d i).Draw∧Dg (Bq d i)=some 0∧(∀j∈CW (Bq d i).Flow++Er (Bq d i).Grid.Cells,Cj d j) ∧
  Fm d i=some ((((Bv d.Nodes i).getD 0:Nat):Int),true)∧AN d.Nodes (((Bv d.Nodes i).getD 0:Nat):Int)=some (Bq d i):=by
 obtain⟨k,l⟩:=w
 obtain⟨m,C⟩:=Ed l
 rw[MJ l]
 have q:=Bz m
 obtain⟨j,A,B⟩:=OA d i h.ok.1 h.srt
 obtain rfl:=B k l
 refine⟨h.ok.2 _ q,h.dr _ q,(Nk h.ok h.ch).2 _ m,eC h.ok h.ch _ m,?_,?_⟩
 ·rw[A,l];rfl
 ·rw[l];exact Af m
theorem UF{d:Aa}(h:Da d){v:Am}(J:Cj d v.id):∀w∈kids d v (Bq d v.id),Cj d w.id:=by
 obtain⟨C,M,E,F,_,_⟩:=h.node J
 intro w l
 unfold kids at l
 rcases sp.1 l with l | l
 ·unfold LQ at l
  obtain⟨j,q,rfl⟩:=sM.1 l
  exact F j (tP _ q)
 ·rcases sp.1 l with l | l
  ·unfold KK at l
   obtain⟨c,I,rfl⟩:=sM.1 l
   have A:=(tD.1 I).1
   obtain⟨r,O,_⟩:=VI C E c A
   unfold HN
   rw[O]
   refine F c.Ref (tY _ ?_)
   unfold Er
   exact sM.2 ⟨c,I,rfl⟩
  ·unfold Mu HQ at l
   obtain⟨L,X,T,_⟩:=TS h.ids h.ok.1 h.srt C M E
   rw[T] at l
   obtain⟨j,q,rfl⟩:=sM.1 l
   obtain⟨x,_,m⟩:=List.mem_filterMap.1 q
   unfold ED I6 at m
   cases B:Bv d.Nodes (EB (CQ x.Attrs H9)) with
   | none=>rw[B] at m;cases m
   | some k=>
    rw[B] at m
    simp only at m
    split at m
    ·cases m;exact⟨k,B⟩
    ·cases m
def Dn(d:Aa)(j:List Am):Nat:=d.Nodes.countP λn=>!B1 j n.ID
theorem Rn a b i:B1 (a++b) i=(B1 a i||B1 b i):=by unfold B1;rw[List.any_append]
theorem ZI d a b:Dn d (a++b)≤Dn d a:=
 uc λn _ h=>by
  rw[Rn] at h
  cases j:B1 a n.ID
  ·rfl
  ·rw[j] at h;simp at h
theorem VP{d:Aa}{a}{v:Am}(B:Cj d v.id)(C:B1 a v.id=false):Dn d (a++[v])<Dn d a:=by
 obtain⟨k,E⟩:=B
 obtain⟨w,j⟩:=Ed E
 have key:∀(l:List Ac) (z:Ac) (p q:Ac→Bool),(∀x∈l,p x=true→q x=true)→z∈l→q z=true→p z=false→l.countP p<l.countP q:=by
  intro l
  induction l with
  | nil=>intro z p q _ m;cases m
  | cons a r F=>
   intro z p q h m w j
   have M:r.countP p≤r.countP q:=uc λx A=>h x (rY _ A)
   rw[uX,uX]
   rcases ro.1 m with rfl | m
   ·rw[w,j];simp;omega
   ·have:=F z p q (λx A=>h x (rY _ A)) m w j
    have I:=h a (rg ..)
    cases hp:p a
    ·simp;split<;>omega
    ·rw[I hp];simp;omega
 refine key d.Nodes d.Nodes[k]! _ _ (λx _ h=>?_) (Bz w) ?_ ?_
 ·rw[Rn] at h
  cases J:B1 a x.ID
  ·rfl
  ·rw[J] at h;simp at h
 ·simp only[j,C];rfl
 ·simp only[j,Rn]
  simp[B1]
section
variable{σ:Type}(Y:σ→Am→Option (Bool × σ))
def DS:List Am→σ→Option (Bool × σ)
 | [],s=>some (true,s)
 | v::r,s=>match Y s v with
  | none=>none
  | some (false,j)=>some (false,j)
  | some (true,j)=>DS r j
theorem ph a b(s:σ):DS Y (a++b) s=match DS Y a s with
  | none=>none
  | some (false,j)=>some (false,j)
  | some (true,j)=>DS Y b j:=by
 induction a generalizing s with
 | nil=>rfl
 | cons v r m=>
  rw[sq]
  cases l:Y s v with
  | none=>simp only[DS,l]
  | some p=>
   obtain⟨c,j⟩:=p
   cases c
   ·simp only[DS,l]
   ·simp only[DS,l]
    exact m j
abbrev J9(σ:Type):=List (Int × Bool)→σ→Am→Option (Bool × List (Int × Bool) × σ)
def D8(self:J9 σ):List Am→List (Int × Bool)→σ→Option (Bool × List (Int × Bool) × σ)
 | [],m,s=>some (true,m,s)
 | v::r,m,s=>match self m s v with
  | none=>none
  | some (false,j,l)=>some (false,j,l)
  | some (true,j,l)=>D8 self r j l
theorem V4 self a b m(s:σ):D8 self (a++b) m s=match D8 self a m s with
  | none=>none
  | some (false,j,l)=>some (false,j,l)
  | some (true,j,l)=>D8 self b j l:=by
 induction a generalizing m s with
 | nil=>rfl
 | cons v r w=>
  rw[sq]
  cases q:self m s v with
  | none=>simp only[D8,q]
  | some p=>
   obtain⟨c,j,l⟩:=p
   cases c
   ·simp only[D8,q]
   ·simp only[D8,q]
    exact w j l
noncomputable def EC(v1:Am)(self:J9 σ)(w:List Int)(l:Int)(A:List (Int × Bool))(j:σ):Option ((Int × (List (Int × Bool)) × σ) ⊕ (Ax ((List (Int × Bool)) × σ) (Bool × (List (Int × Bool)) × σ))):=
 if(decide (l<(w.length:Int))) then(
  AC (AN w l) λ(m:Int)=>
  Dv (self A j (Am.mk m v1.id v1.visible)) λ(E:Bool) (B:List (Int × Bool)) (C:σ)=>
  if(!E) then(
   some (.inr (.ext (false,B,C)))
  ) else(
   AC (AY .i64 (l+1)) λ(q:Int)=>
   some (.inl (q,B,C))
  )
 ) else(
  some (.inr (.nrm (A,j)))
 )
noncomputable def Dy(v1:Am)(self:J9 σ)(w:Ac)(A:Int)(B:List (Int × Bool))(m:σ):Option ((Int × (List (Int × Bool)) × σ) ⊕ (Ax ((List (Int × Bool)) × σ) (Bool × (List (Int × Bool)) × σ))):=
 if(decide (A<(w.Grid.Cells.length:Int))) then(
  AC (AN w.Grid.Cells A) λ(j:Ao)=>
  AC (HR w.Grid j.Row j.Col) λ(F:Ak)=>
  Dv (
   if((!(j.Ref=0))==true) then(
    Dv (self B m (Am.mk j.Ref v1.id ((v1.visible&&(F.Row=j.Row))&&(F.Col=j.Col)))) λ(I:Bool) (J:List (Int × Bool)) (M:σ)=>
    some (((!(j.Ref=0))&&(!I)),J,M)
   ) else(
    some (((!(j.Ref=0))&&false),B,m)
   )
  ) λ(C:Bool) (q:List (Int × Bool)) (l:σ)=>
  if C then(
   some (.inr (.ext (false,q,l)))
  ) else(
   AC (AY .i64 (A+1)) λ(E:Int)=>
   some (.inl (E,q,l))
  )
 ) else(
  some (.inr (.nrm (B,m)))
 )
noncomputable def gB(d:Aa)(self:J9 σ)(m:List (Int × Bool))(j:σ)(v1:Am):Option (Bool × (List (Int × Bool)) × σ):=
 if((AR m v1.id).getD false) then(
  some (true,m,j)
 ) else(
  CO (Y j v1) λ(E:Bool) (C:σ)=>
  if(!E) then(
   some (false,(Ag m v1.id true),C)
  ) else(
   CO (Fm d v1.id) λ(F:Int) (T:Bool)=>
   AC (AN d.Nodes F) λ(q:Ac)=>
   AC (Jj q.Flow) λ(I:List Int)=>
   FR (iter (λ(a:Int × (List (Int × Bool)) × σ)=>EC v1 self I a.1 a.2.1 a.2.2) (0,(Ag m v1.id true),C)) λ(J:List (Int × Bool)) (w:σ)=>
   FR (iter (λ(a:Int × (List (Int × Bool)) × σ)=>Dy v1 self q a.1 a.2.1 a.2.2) (0,J,w)) λ(M:List (Int × Bool)) (A:σ)=>
   AC (F0 d q) λ(O:List Int)=>
   FR (iter (λ(a:Int × (List (Int × Bool)) × σ)=>EC v1 self O a.1 a.2.1 a.2.2) (0,M,A)) λ(B:List (Int × Bool)) (l:σ)=>
   some (true,B,l)
  )
 )
noncomputable def gN(d:Aa):Nat→J9 σ
 | 0=>λ_ _ _=>none
 | n+1=>λm s v=>gB Y d (gN d n) m s v
def PB(r:Bool × List (Int × Bool) × σ):Ax ((List (Int × Bool)) × σ) (Bool × (List (Int × Bool)) × σ):=if r.1=true then .nrm (r.2.1,r.2.2) else .ext (false,r.2.1,r.2.2)
theorem aA(v:Am) self(l:List Int)(E:l.length≤4194304):∀(j k:Nat) (m:List (Int × Bool)) (s:σ) (r:Bool × List (Int × Bool) × σ),k+j=l.length→D8 self ((l.drop k).map λid=>⟨id,v.id,v.visible⟩) m s=some r →
  iter (λ(a:Int × (List (Int × Bool)) × σ)=>EC v self l a.1 a.2.1 a.2.2) ((k:Int),m,s)=some (PB r):=by
 intro j
 induction j with
 | zero=>
  intro k m s r B h
  rw[ss (by omega)] at h
  cases h
  refine Ba ?_
  show EC v self l (k:Int) m s=_
  unfold EC
  rw[rE (by simp;omega)]
  rfl
 | succ j C=>
  intro k m s r B h
  have q:k<l.length:=by omega
  rw[sA q,rq] at h
  unfold D8 at h
  cases w:self m s ⟨l[k],v.id,v.visible⟩ with
  | none=>rw[w] at h;cases h
  | some p=>
   obtain⟨c,A,s'⟩:=p
   rw[w] at h
   cases c with
   | false=>
    cases h
    refine Ba ?_
    show EC v self l (k:Int) m s=_
    unfold EC
    rw[rF (by simpa using q),D9 q,AD,w,GJ]
    rfl
   | true=>
    rw[B7 (s':=(((k+1:Nat):Int),A,s')) (by
     show EC v self l (k:Int) m s=_
     unfold EC
     rw[rF (by simpa using q),D9 q,AD,w,GJ,rE (by decide),Ar (by omega),AD])]
    exact C (k+1) A s' r (by omega) h
theorem kr(v:Am) self(n:Ac)(O:n.Grid.Cells.length≤4194304)(hc:∀c∈n.Grid.Cells,∃r,HR n.Grid c.Row c.Col=some r):∀(j k:Nat) (m:List (Int × Bool)) (s:σ) (r:Bool × List (Int × Bool) × σ),k+j=n.Grid.Cells.length →
  D8 self (((n.Grid.Cells.drop k).filter λc=>!(c.Ref=0)).map (HN v n.Grid)) m s=some r →
  iter (λ(a:Int × (List (Int × Bool)) × σ)=>Dy v self n a.1 a.2.1 a.2.2) ((k:Int),m,s)=some (PB r):=by
 intro j
 induction j with
 | zero=>
  intro k m s r J h
  rw[ss (by omega)] at h
  cases h
  refine Ba ?_
  show Dy v self n (k:Int) m s=_
  unfold Dy
  rw[rE (by simp;omega)]
  rfl
 | succ j E=>
  intro k m s r J h
  have l:k<n.Grid.Cells.length:=by omega
  obtain⟨q,B⟩:=hc _ (ry l)
  rw[sA l,tj] at h
  by_cases A:n.Grid.Cells[k].Ref=0
  ·rw[rE (by simp[A])] at h
   rw[B7 (s':=(((k+1:Nat):Int),m,s)) (by
    show Dy v self n (k:Int) m s=_
    unfold Dy
    rw[rF (by simpa using l),D9 l,AD,B,AD,rH A,rE (by decide),GJ,rE (by decide),Ar (by omega),AD])]
   exact E (k+1) m s r (by omega) h
  ·rw[rF (by simp[A]),rq] at h
   have M:HN v n.Grid n.Grid.Cells[k]=⟨n.Grid.Cells[k].Ref,v.id,((v.visible&&(q.Row=n.Grid.Cells[k].Row))&&(q.Col=n.Grid.Cells[k].Col))⟩:=by unfold HN;rw[B]
   rw[M] at h
   unfold D8 at h
   generalize F:(⟨n.Grid.Cells[k].Ref,v.id,((v.visible&&(q.Row=n.Grid.Cells[k].Row))&&(q.Col=n.Grid.Cells[k].Col))⟩:Am)=w at h
   cases C:self m s w with
   | none=>rw[C] at h;cases h
   | some p=>
    obtain⟨c,I,s'⟩:=p
    rw[C] at h
    cases c with
    | false=>
     cases h
     refine Ba ?_
     show Dy v self n (k:Int) m s=_
     unfold Dy
     rw[rF (by simpa using l),D9 l,AD,B,AD,rG A,rF (by decide),F,C,GJ,GJ]
     rfl
    | true=>
     rw[B7 (s':=(((k+1:Nat):Int),I,s')) (by
      show Dy v self n (k:Int) m s=_
      unfold Dy
      rw[rF (by simpa using l),D9 l,AD,B,AD,rG A,rF (by decide),F,C,GJ,GJ,rE (by decide),Ar (by omega),AD])]
     exact E (k+1) I s' r (by omega) h
end
end Go.Proofs.YtmeadkhpiobenaaGreatDoor.Al

set_option linter.unusedVariables false
set_option linter.unusedSimpArgs false
namespace Go.Proofs.YtmeadkhpiobenaaGreatDoor.Al
open Go
section
variable{σ:Type}(Y:σ→Am→Option (Bool × σ)){d:Aa}
def Xb(d:Aa)(n:Nat):Prop:=∀(j:List Am) (v:Am) (m:List (Int × Bool)) (s:σ),Cj d v.id→Dn d j<n→(∀i,DM m i=B1 j i) →
 ∃new,CY d n j v=j++new∧(∀w∈new,Cj d w.id)∧∀b l,DS Y new s=some (b,l)→∃q,gN Y d n m s v=some (b,q,l)∧(b=true→∀i,DM q i=B1 (j++new) i)
theorem lO{n}(IH:Xb Y d n):∀(ks j:List Am) (m:List (Int × Bool)) (s:σ),(∀w∈ks,Cj d w.id)→Dn d j<n→(∀i,DM m i=B1 j i) →
  ∃new,ks.foldl (λa w=>CY d n a w) j=j++new∧(∀w∈new,Cj d w.id)∧∀b s',DS Y new s=some (b,s')→∃A,D8 (gN Y d n) ks m s=some (b,A,s')∧(b=true→∀i,DM A i=B1 (j++new) i):=by
 intro ks
 induction ks with
 | nil=>
  intro j m s _ _ I
  refine⟨[],by simp,by simp,λb s' B=>?_⟩
  simp only[DS,rR,rW] at B
  obtain⟨rfl,rfl⟩:=B
  exact⟨m,rfl,λ_ i=>by rw[tA];exact I i⟩
 | cons v r ih=>
  intro j m s U V I
  obtain⟨q,e1,i1,w1⟩:=IH j v m s (U v (rg ..)) V I
  have J:Dn d (j++q)<n:=Nat.lt_of_le_of_lt (ZI d j q) V
  have E:∀m2 (F:σ),(∀i,DM m2 i=B1 (j++q) i)→∃new,r.foldl (λa w=>CY d n a w) (j++q)=(j++q)++new∧(∀w∈new,Cj d w.id)∧∀b s',DS Y new F=some (b,s')→∃A,D8 (gN Y d n) r m2 F=some (b,A,s')∧(b=true→∀i,DM A i=B1 ((j++q)++new) i):=
   λm2 F h2=>ih (j++q) m2 F (λw M=>U w (rY _ M)) J h2
  have O:∃m2:List (Int × Bool),∀i,DM m2 i=B1 (j++q) i:=by
   refine⟨(j++q).map λv=>(v.id,true),λi=>?_⟩
   generalize j++q=l
   induction l with
   | nil=>rfl
   | cons a r T=>
    show(if i=a.id then some true else AR _ i).getD false=_
    unfold B1
    rw[tn]
    by_cases h:i=a.id
    ·rw[rF h,rH h.symm];rfl
    ·rw[rE h,rG (uM h),sO];exact T
  obtain⟨m0,h0⟩:=O
  obtain⟨X,Z,i2,_⟩:=E m0 s h0
  refine⟨q++X,by rw[sj,e1,Z,sZ],λw M=>(sp.1 M).elim (i1 w) (i2 w),λb s' B=>?_⟩
  rw[ph] at B
  cases C:DS Y q s with
  | none=>rw[C] at B;cases B
  | some p=>
   obtain⟨c,s1⟩:=p
   rw[C] at B
   obtain⟨m1,g1,g2⟩:=w1 c s1 C
   cases c with
   | false=>
    cases B
    refine⟨m1,?_,λe=>by cases e⟩
    unfold D8
    rw[g1]
   | true=>
    obtain⟨n3,e3,_,w3⟩:=E m1 s1 (g2 rfl)
    have:n3=X:=by
     rw[Z] at e3
     exact(List.append_cancel_left e3).symm
    subst this
    obtain⟨m2,k1,k2⟩:=w3 b s' B
    refine⟨m2,?_,λe i=>by rw[k2 e i,sZ]⟩
    show(match gN Y d n m s v with | none=>none | some (false,A,s')=>some (false,A,s') | some (true,A,s')=>D8 (gN Y d n) r A s')=_
    rw[g1]
    exact k1
theorem cD(h:Da d):∀n,Xb Y d n:=by
 intro n
 induction n with
 | zero=>intro l v m s _ hu;omega
 | succ n IH=>
  intro l v m s hv hu hm
  by_cases F:B1 l v.id=true
  ·refine⟨[],by unfold CY;rw[rF F,tA],by simp,λb I A=>?_⟩
   simp only[DS,rR,rW] at A
   obtain⟨rfl,rfl⟩:=A
   refine⟨m,?_,λ_ i=>by rw[tA];exact hm i⟩
   show gB Y d (gN Y d n) m s v=_
   unfold gB
   have:(AR m v.id).getD false=true:=(hm v.id).trans F
   rw[rF this]
  ·rw[sT] at F
   have ac:=VP hv F
   have C:∀i,DM (Ag m v.id true) i=B1 (l++[v]) i:=λi=>by
    rw[RT,hm i,Rn]
    have:B1 [v] i=decide (i=v.id):=by
     unfold B1;simp only[tn,List.any_nil,uu]
     rw[ti];exact⟨λe=>e.symm,λe=>e.symm⟩
    rw[this]
    cases B1 l i<;>cases decide (i=v.id)<;>rfl
   obtain⟨q,a0,J,ad,a1,a2⟩:=h.node hv
   have M:=UF h hv
   have B:=λE=>lO Y IH (kids d v (Bq d v.id)) (l++[v]) (Ag m v.id true) E M (by omega) C
   obtain⟨new,e1,i1,_⟩:=B s
   refine⟨v::new,by unfold CY;rw[rE (by rw[F];decide),e1,sZ];rfl,λw hw=>?_,λb I A=>?_⟩
   ·rcases ro.1 hw with rfl | hw
    ·exact hv
    ·exact i1 w hw
   ·show ∃O,gB Y d (gN Y d n) m s v=_∧_
    have h0:¬ ((AR m v.id).getD false)=true:=by
     have:(AR m v.id).getD false=false:=(hm v.id).trans F
     rw[this];decide
    unfold gB
    rw[rE h0]
    cases hY:Y s v with
    | none=>simp only[DS,hY] at A;cases A
    | some p=>
     obtain⟨c,s1⟩:=p
     rw[Bo]
     cases c with
     | false=>
      simp only[DS,hY,rR,rW] at A
      obtain⟨rfl,rfl⟩:=A
      exact⟨_,by rw[rF (by decide)],λe=>by cases e⟩
     | true=>
      simp only[DS,hY] at A
      rw[rE (by decide),a1,Bo,a2,AD,lI _ (by have:=q.ok.fl;omega),AD]
      obtain⟨T,e2,_,w2⟩:=B s1
      have:T=new:=by
       rw[e1] at e2
       exact(List.append_cancel_left e2).symm
      subst this
      obtain⟨O,j,g2⟩:=w2 b I A
      refine⟨O,?_,λe i=>by rw[g2 e i,sZ];rfl⟩
      have ae:=q.ok.fl
      have af:=q.ok.gr.1
      have U:∀c∈(Bq d v.id).Grid.Cells,∃r,HR (Bq d v.id).Grid c.Row c.Col=some r:=λc hc=>by
       obtain⟨r,r1,_⟩:=VI q J c hc;exact⟨r,r1⟩
      have a6:(CW (Bq d v.id).Flow).length≤4194304:=by
       unfold CW;rw[rx];exact rZ (sn ..) (by omega)
      obtain⟨L,X,t1,_,t3,_⟩:=TS h.ids h.ok.1 h.srt q a0 J
      have V:HQ d (Bq d v.id)=L.filterMap (ED d):=by unfold HQ;rw[t1];rfl
      have Z:(HQ d (Bq d v.id)).length≤4194304:=by
       rw[V]
       refine rZ (List.length_filterMap_le ..) ?_
       simp at t3;omega
      have a7:F0 d (Bq d v.id)=some (HQ d (Bq d v.id)):=by rw[V];exact t1
      unfold kids at j
      rw[V4] at j
      cases q1:D8 (gN Y d n) (LQ v (Bq d v.id)) (Ag m v.id true) s1 with
      | none=>rw[q1] at j;cases j
      | some p1=>
       have l1:=aA v (gN Y d n) (CW (Bq d v.id).Flow) a6 _ 0 (Ag m v.id true) s1 p1 (by rw[ru]) q1
       have a8:iter (λ(a:Int × (List (Int × Bool)) × σ)=>EC v (gN Y d n) (CW (Bq d v.id).Flow) a.1 a.2.1 a.2.2) (0,(Ag m v.id true),s1)=some (PB p1):=l1
       rw[a8]
       obtain⟨c1,m1,E⟩:=p1
       rw[q1] at j
       cases c1 with
       | false=>cases j;rfl
       | true=>
        show FR (iter (λ(a:Int × (List (Int × Bool)) × σ)=>Dy v (gN Y d n) (Bq d v.id) a.1 a.2.1 a.2.2) (0,m1,E)) _=_
        have j:D8 (gN Y d n) (KK v (Bq d v.id)++Mu d v (Bq d v.id)) m1 E=some (b,O,I):=j
        rw[V4] at j
        cases q2:D8 (gN Y d n) (KK v (Bq d v.id)) m1 E with
        | none=>rw[q2] at j;cases j
        | some p2=>
         have l2:=kr v (gN Y d n) (Bq d v.id) (by omega) U _ 0 m1 E p2 (by rw[ru]) q2
         have aa:iter (λ(a:Int × (List (Int × Bool)) × σ)=>Dy v (gN Y d n) (Bq d v.id) a.1 a.2.1 a.2.2) (0,m1,E)=some (PB p2):=l2
         rw[aa]
         obtain⟨c2,m2,s3⟩:=p2
         rw[q2] at j
         cases c2 with
         | false=>cases j;rfl
         | true=>
          show AC (F0 d (Bq d v.id)) _=_
          rw[a7,AD]
          have j:D8 (gN Y d n) (Mu d v (Bq d v.id)) m2 s3=some (b,O,I):=j
          have l3:=aA v (gN Y d n) (HQ d (Bq d v.id)) Z _ 0 m2 s3 _ (by rw[ru]) j
          have ab:iter (λ(a:Int × (List (Int × Bool)) × σ)=>EC v (gN Y d n) (HQ d (Bq d v.id)) a.1 a.2.1 a.2.2) (0,m2,s3)=some (PB (b,O,I)):=l3
          rw[ab]
          cases b<;>rfl
end
end Go.Proofs.YtmeadkhpiobenaaGreatDoor.Al

set_option linter.unusedVariables false
set_option linter.unusedSimpArgs false
namespace Go.Proofs.YtmeadkhpiobenaaGreatDoor.Al
open Go
theorem oH{d:Aa}(h:HH d)(l:E9 d=some 0):0<d.Nodes.length∧d.Nodes[0]!.ID=1:=by
 obtain⟨-,m⟩:=Nk h l
 unfold E9 at l
 split at l
 ·cases l
 rename_i w
 have j:0<d.Nodes.length:=by
  rcases ur d.Nodes.length with h | h
  ·exact absurd (rH (show((d.Nodes.length:Int))=0 by omega)) w
  ·exact h
 refine⟨j,?_⟩
 by_cases Az:d.Nodes[0]!.ID=1
 ·exact Az
 exfalso
 have q:iter (λ(a:Int)=>Ez d a) 0=some (.ext 5):=by
  refine Ba ?_
  have e0:=m 0 j
  show Ez d ((0:Nat):Int)=_
  unfold Ez
  rw[rF (by simpa using j),Af j,AD,e0,AD,rE (by decide),rH (show((0:Nat):Int)=0 from rfl),rG (show ¬ (0:Int)<((0:Nat):Int) by omega),rG Az]
  rfl
 rw[q] at l
 cases l
theorem Uf{d:Aa}(h:Da d):Cj d 1:=by
 obtain⟨l,m⟩:=oH h.ok h.ch
 unfold Cj
 cases j:Bv d.Nodes 1 with
 | some k=>exact⟨k,rfl⟩
 | none=>
  exfalso
  unfold Bv at j
  rw[uJ] at j
  exact j 0 (rp.2 l) (by simpa using m)
noncomputable def Cn(d:Aa):List Am:=CY d (d.Nodes.length+1) [] ⟨1,0,true⟩
theorem V3(d:Aa):Dn d []<d.Nodes.length+1:=Nat.lt_succ_of_le (List.countP_le_length ..)
theorem dH{σ:Type}(Y:σ→Am→Option (Bool × σ)){d:Aa}(h:Da d){s s'}{b}(l:DS Y (Cn d) s=some (b,s')):∃j,gN Y d (d.Nodes.length+1) [] s ⟨1,0,true⟩=some (b,j,s'):=by
 obtain⟨new,m,_,w⟩:=cD Y h (d.Nodes.length+1) [] ⟨1,0,true⟩ [] s (Uf h) (V3 d) (λi=>rfl)
 have:Cn d=new:=by unfold Cn;rw[m,sc]
 rw[this] at l
 obtain⟨j,q,_⟩:=w b s' l
 exact⟨j,q⟩
section
variable{σ:Type}(Y:σ→Am→Option (Bool × σ)){d:Aa}
theorem X1{v:Am}{self j:J9 σ}(C:∀m s w r,self m s w=some r→j m s w=some r){l:List Int}{x:Int}{m:List (Int × Bool)}{s:σ}{r}(h:EC v self l x m s=some r):EC v j l x m s=some r:=by
 unfold EC at h ⊢
 split at h
 ·rename_i q
  rw[rF q]
  cases B:AN l x with
  | none=>rw[B] at h;cases h
  | some y=>
   rw[B,AD] at h
   rw[AD]
   cases A:self m s ⟨y,v.id,v.visible⟩ with
   | none=>rw[A] at h;cases h
   | some p=>rw[A] at h;rw[C _ _ _ _ A];exact h
 ·rename_i q
  rw[rE q];exact h
theorem dX{v:Am}{self j:J9 σ}(E:∀m s w r,self m s w=some r→j m s w=some r){n:Ac}{x:Int}{m:List (Int × Bool)}{s:σ}{r}(h:Dy v self n x m s=some r):Dy v j n x m s=some r:=by
 unfold Dy at h ⊢
 split at h
 ·rename_i l
  rw[rF l]
  cases C:AN n.Grid.Cells x with
  | none=>rw[C] at h;cases h
  | some c=>
   rw[C,AD] at h
   rw[AD]
   cases hg:HR n.Grid c.Row c.Col with
   | none=>rw[hg] at h;cases h
   | some q=>
    rw[hg,AD] at h
    rw[AD]
    split at h
    ·rename_i A
     rw[rF A]
     cases B:self m s ⟨c.Ref,v.id,((v.visible&&(q.Row=c.Row))&&(q.Col=c.Col))⟩ with
     | none=>rw[B] at h;cases h
     | some p=>rw[B] at h;rw[E _ _ _ _ B];exact h
    ·rename_i A
     rw[rE A];exact h
 ·rename_i l
  rw[rE l];exact h
theorem cT{self j}(B:∀m s w r,self m s w=some r→j m s w=some r){m}{s}{v:Am}{r}(h:gB Y d self m s v=some r):gB Y d j m s v=some r:=by
 unfold gB at h ⊢
 split at h
 ·rename_i C
  rw[rF C];exact h
 ·rename_i C
  rw[rE C]
  cases M:Y s v with
  | none=>rw[M] at h;cases h
  | some p=>
   rw[M,Bo] at h
   rw[Bo]
   split at h
   ·rename_i E
    rw[rF E];exact h
   ·rename_i E
    rw[rE E]
    cases O:Fm d v.id with
    | none=>rw[O] at h;cases h
    | some q=>
     rw[O,Bo] at h
     rw[Bo]
     cases T:AN d.Nodes q.1 with
     | none=>rw[T] at h;cases h
     | some n=>
      rw[T,AD] at h
      rw[AD]
      cases U:Jj n.Flow with
      | none=>rw[U] at h;cases h
      | some l=>
       rw[U,AD] at h
       rw[AD]
       cases F:iter (λ(a:Int × (List (Int × Bool)) × σ)=>EC v self l a.1 a.2.1 a.2.2) (0,(Ag m v.id true),p.2) with
       | none=>rw[F] at h;cases h
       | some c1=>
        rw[F] at h
        rw[Ip (g:=λ(a:Int × (List (Int × Bool)) × σ)=>EC v j l a.1 a.2.1 a.2.2) (λs v A=>X1 B A) F]
        cases c1 with
        | ext e=>exact h
        | nrm t=>
         change FR (iter (λ(a:Int × (List (Int × Bool)) × σ)=>Dy v self n a.1 a.2.1 a.2.2) (0,t.1,t.2)) _=_ at h
         show FR (iter (λ(a:Int × (List (Int × Bool)) × σ)=>Dy v j n a.1 a.2.1 a.2.2) (0,t.1,t.2)) _=_
         cases I:iter (λ(a:Int × (List (Int × Bool)) × σ)=>Dy v self n a.1 a.2.1 a.2.2) (0,t.1,t.2) with
         | none=>rw[I] at h;cases h
         | some c2=>
          rw[I] at h
          rw[Ip (g:=λ(a:Int × (List (Int × Bool)) × σ)=>Dy v j n a.1 a.2.1 a.2.2) (λs v A=>dX B A) I]
          cases c2 with
          | ext e=>exact h
          | nrm V=>
           change AC (F0 d n) _=_ at h
           show AC (F0 d n) _=_
           cases X:F0 d n with
           | none=>rw[X] at h;cases h
           | some Z=>
            rw[X,AD] at h
            rw[AD]
            cases J:iter (λ(a:Int × (List (Int × Bool)) × σ)=>EC v self Z a.1 a.2.1 a.2.2) (0,V.1,V.2) with
            | none=>rw[J] at h;cases h
            | some c3=>
             rw[J] at h
             rw[Ip (g:=λ(a:Int × (List (Int × Bool)) × σ)=>EC v j Z a.1 a.2.1 a.2.2) (λs v A=>X1 B A) J]
             exact h
theorem ml:∀(n:Nat) (m:List (Int × Bool)) (s:σ) (v:Am) r,gN Y d n m s v=some r→gN Y d (n+1) m s v=some r:=by
 intro n
 induction n with
 | zero=>intro m s v r h;cases h
 | succ n j=>intro m s v r h;exact cT Y j h
end
theorem VS j d:∀(n:Nat) m ys v,Gk n j m ys d v=gN (λys v=>F9 j ys v) d n m ys v:=by
 intro n
 induction n with
 | zero=>intro m ys v;rfl
 | succ n q=>
  intro m ys v
  have e:gN (λys v=>F9 j ys v) d n=λm ys v=>Gk n j m ys d v:=by
   funext m ys v;exact(q m ys v).symm
  show Pr (λj w l A v1=>Gk n j w l A v1) j m ys d v=gB (λys v=>F9 j ys v) d (gN (λys v=>F9 j ys v) d n) m ys v
  rw[e]
  rfl
theorem dW{l}{d}(h:Da d){ys j}{b}(q:DS (λys v=>F9 l ys v) (Cn d) ys=some (b,j)):NP l ys d=some j:=by
 obtain⟨A,w⟩:=dH _ h q
 unfold NP Qe
 rw[Ro (N:=λn=>Gk n l [] ys d ⟨1,0,true⟩) (λn r m=>by rw[VS] at m ⊢;exact ml _ n _ _ _ r m) (by rw[VS];exact w),GJ]
def Oc(v:Am):List RV:=[.int .i64 v.id,.int .i64 v.parent]
end Go.Proofs.YtmeadkhpiobenaaGreatDoor.Al
