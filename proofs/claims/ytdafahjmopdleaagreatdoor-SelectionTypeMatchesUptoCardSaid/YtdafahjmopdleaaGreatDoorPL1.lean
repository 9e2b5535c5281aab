/- Plain laws over the models, a part of them. -/
import Derived.Test.YtdafahjmopdleaaGreatDoorMod1
import Derived.Lib.DecodeNEq
import Derived.Lib.TrimUEq
import Derived.Lib.ValidLaws
namespace Go.Proofs.YtdafahjmopdleaaGreatDoor.Al
@[simp] theorem AE{a α:Type}(x:a)(f:a→Option α):AB (some x) f=f x:=rfl
@[simp] theorem BU{a b α:Type}(x:a)(y:b)(f:a→b→Option α):Bm (some (x,y)) f=f x y:=rfl
@[simp] theorem Kd{a b c α:Type}(x:a)(y:b)(z:c)(f:a→b→c→Option α):Fc (some (x,y,z)) f=f x y z:=rfl
@[simp] theorem wJ{a b c d α:Type}(x:a)(y:b)(z:c)(u:d)(f:a→b→c→d→Option α):qk (some (x,y,z,u)) f=f x y z u:=rfl
@[simp] theorem Hr{a α:Type}(x:a)(f:a→Option α):Aj (some (.nrm x)) f=f x:=rfl
@[simp] theorem qy{a α:Type}(t:α)(f:a→Option α):Aj (some (.ext t)) f=some t:=rfl
@[simp] theorem FM{a b α:Type}(x:a)(y:b)(f:a→b→Option α):E1 (some (.nrm (x,y))) f=f x y:=rfl
@[simp] theorem wT{a b α:Type}(t:α)(f:a→b→Option α):E1 (some (.ext t)) f=some t:=rfl
@[simp] theorem wP{a b c α:Type}(x:a)(y:b)(z:c)(f:a→b→c→Option α):gQ (some (.nrm (x,y,z))) f=f x y z:=rfl
@[simp] theorem wI{a b c α:Type}(t:α)(f:a→b→c→Option α):gQ (some (.ext t)) f=some t:=rfl
@[simp] theorem Am{α:Type}[Inhabited α](m:Option α):gd true m=m:=rfl
@[simp] theorem FL{α:Type}[Inhabited α](m:Option α):gd false m=some default:=rfl
theorem AO{α:Type}[Inhabited α]{l:List α}{k}(h:k<l.length):AJ l (k:Int)=some l[k]!:=by
 unfold AJ
 rw[wU (zL k),xl,wd h,wg l k h]
theorem AX{k:Nat}(h:k<9223372036854775807):AK .i64 ((k:Int)+1)=some (((k+1:Nat)):Int):=by
 rw[Bk (by omega) (by omega)];rfl
theorem Ec{k:Nat}(h:0<k)(j:k≤9223372036854775807):AK .i64 ((k:Int)-1)=some ((k-1:Nat):Int):=by
 rw[Bk (by omega) (by omega)];congr 1;omega
def CG{ρ:Type}(k:Nat):Option ρ→Option (Int ⊕ Ai Unit ρ)
 | none=>some (.inl ((k+1:Nat):Int))
 | some r=>some (.inr (.ext r))
def FT{ρ:Type} : Option ρ→Ai Unit ρ
 | none=>.nrm ()
 | some r=>.ext r
theorem CA{ρ:Type}{f}{n}(g:Nat→Option ρ)(j:∀k:Nat, k<n→f k=CG k (g k))
 (l:f n=some (.inr (.nrm ()))):iter f 0=some (FT ((List.range n).findSome? g)) := by
  have key:∀m k:Nat, k+m=n→iter f (k:Int)=some (FT ((List.range' k m).findSome? g)) := by
    intro m
    induction m with
    | zero =>
      intro k q
      obtain rfl:k=n := by omega
      rw[Bq l];rfl
    | succ m u =>
      intro k q
      rw[WAK, yE]
      have := j k (by omega)
      cases hg:g k with
      | none => rw[hg] at this;rw[Cv this, u (k+1) (by omega)]
      | some r => rw[hg] at this;rw[Bq this];rfl
  rw[zS]
  exact key n 0 (by omega)
theorem gp{α ρ:Type}{l:List α}{g h:α→Option ρ}(e:∀x∈l,g x=h x):l.findSome? g=l.findSome? h:=by
 induction l with
 | nil=>rfl
 | cons a l j=>rw[yE,yE,e a (wZ ..),j λx q=>e x (we _ q)]
theorem Wu{α ρ:Type}[Inhabited α](l:List α)(p:α→Bool)(r:ρ):(List.range l.length).findSome? (λk=>if p l[k]! then none else some r)=if l.all p then none else some r:=by
 induction l with
 | nil=>rfl
 | cons a l j=>
  rw[wm,List.range_succ_eq_map,yE,List.findSome?_map]
  have q:(List.range l.length).findSome? ((λk=>if p (a::l)[k]! = true then none else some r) ∘ Nat.succ)=if l.all p=true then none else some r:=by
   rw[← j];exact gp λk _=>by simp
  rw[q]
  by_cases hp:p a=true
  ·simp[hp]
  ·simp[hp]
theorem EK{ρ:Type}(o:Option ρ)(f:Unit→Option ρ):Aj (some (FT o)) f=match o with | none=>f () | some r=>some r:=by cases o<;>rfl
def F3(c:UInt8):Bool:=((97≤c.toNat)&&(c.toNat≤122))||((48≤c.toNat)&&(c.toNat≤57))||(c.toNat=46)||(c.toNat=45)
def D7(s:List UInt8):Bool:=(1≤s.length)&&(s.length≤24)&&((97≤s[0]!.toNat)&&(s[0]!.toNat≤122))&&s.all F3
def Gv(c:UInt8):Bool:=(32≤c.toNat)&&(c.toNat≤126)
def DR(s:List UInt8):Bool:=(1≤s.length)&&(s.length≤200)&&s.all Gv
theorem uC(s:List UInt8) k(j:k<s.length)(l:s.length≤9223372036854775807):NO s k=CG k (if F3 s[k]! then none else some false):=by
 unfold NO
 rw[wU (by simpa using j),AO j,AE,AX (by omega)]
 generalize s[k]! = c
 have e:((((((c.toNat:Int)<97)||(122<(c.toNat:Int)))&&(((c.toNat:Int)<48)||(57<(c.toNat:Int))))&&(!((c.toNat:Int)=46)))&&(!((c.toNat:Int)=45)))=!F3 c:=by
  unfold F3
  rw[xf]
  simp only[wh,wY,wV,xm,yF,Bool.or_eq_false_iff,yo]
  omega
 rw[e]
 cases F3 c<;>rfl
theorem YP(s:List UInt8)(B:s.length≤9223372036854775807):Mq s=some (D7 s):=by
 unfold Mq
 rw[CA (n:=s.length) (λk=>if F3 s[k]! then none else some false) (λk C=>uC s k C B) (by unfold NO;rw[ne (by simp)]),Wu]
 unfold D7
 cases s with
 | nil=>simp
 | cons c t=>
  have E:AJ (c::t) 0=some c:=rfl
  rw[E]
  simp only[List.getElem!_cons_zero,wX (WAL c t),yL]
  generalize (c::t).all F3=F
  generalize I:(c::t).length=L
  have M:1≤L:=by rw[← I];simp
  by_cases u:24<(L:Int)
  ·have j:decide (L≤24)=false:=by simp;omega
   simp[u,j]
  ·rw[wX u]
   simp only[yL,yQ,Am,AE]
   have j:decide (L≤24)=true:=by simp;omega
   have J:decide (1≤L)=true:=by simp;omega
   rw[j,J]
   by_cases w:(c.toNat:Int)<97
   ·have l:decide (97≤c.toNat)=false:=by simp;omega
    simp[w,l]
   ·rw[wX w]
    have l:decide (97≤c.toNat)=true:=by simp;omega
    simp only[yQ,Am,AE,yL]
    by_cases A:122<(c.toNat:Int)
    ·have q:decide (c.toNat≤122)=false:=by simp;omega
     simp[A,q]
    ·have q:decide (c.toNat≤122)=true:=by simp;omega
     rw[ne (by simpa using A),EK,l,q]
     cases F<;>rfl
def Hk(k:Nat)(c:UInt8):Bool:=((97≤c.toNat)&&(c.toNat≤122))||((k≠0)&&F3 c)
theorem rm(s:List UInt8) k(j:k<s.length)(l:s.length≤9223372036854775807) :
  Ns s k=CG k (if Hk k s[k]! then none else some false):=by
 unfold Ns
 rw[wU (by simpa using j),AO j,AE,AX (by omega)]
 generalize s[k]! = c
 have e:((!((97≤(c.toNat:Int))&&((c.toNat:Int)≤122)))&&(((k:Int)=0)||(((!((c.toNat:Int)=46))&&(!((c.toNat:Int)=45)))&&(((c.toNat:Int)<48)||(57<(c.toNat:Int))))))=!Hk k c:=by
  unfold Hk F3
  rw[xf]
  simp only[wh,wY,wV,xm,yF,Bool.or_eq_false_iff,yo]
  omega
 rw[e]
 cases Hk k c<;>rfl
theorem fj{ρ:Type}(n:Nat)(g:Nat→Option ρ):(List.range n).findSome? g=none↔∀k,k<n→g k=none:=by
 rw[xo];simp
theorem mm{α:Type}[Inhabited α](l:List α)(p:α→Bool):l.all p=true↔∀k,k<l.length→p l[k]! = true:=by
 rw[wx]
 constructor
 ·intro h k j;rw[wg l k j];exact h _ (yZ j)
 ·intro h x q
  obtain⟨k,j,rfl⟩:=xp.1 q
  rw[← wg l k j];exact h k j
theorem H5{ρ:Type} n p(r:ρ):(List.range n).findSome? (λk=>if p k then none else some r)=if(List.range n).all p then none else some r:=by
 generalize List.range n=l
 induction l with
 | nil=>rfl
 | cons a l j=>rw[yE,zf,];by_cases h:p a=true<;>simp[h,j]
theorem fT(s:List UInt8)(u:s.length≤9223372036854775807):Mt s=some (D7 s):=by
 unfold Mt
 rw[CA (n:=s.length) (λk=>if Hk k s[k]! then none else some false) (λk j=>rm s k j u) (by unfold Ns;rw[ne (by simp)]),H5,EK]
 have key:((List.range s.length).all λk=>Hk k s[k]!)=((s=[])||(((97≤s[0]!.toNat)&&(s[0]!.toNat≤122))&&s.all F3)):=by
  rw[xf,wx]
  simp only[xP,wh,wV,wY,mm]
  constructor
  ·intro h
   cases q:s with
   | nil=>exact .inl rfl
   | cons c t=>
    rw[← q]
    have w:0<s.length:=by rw[q];simp
    have A:=h 0 w
    simp only[Hk,wh,wY,wV] at A
    refine .inr ⟨by omega,λk j=>?_⟩
    have:=h k j
    simp only[Hk,F3,wh,wY,wV] at this ⊢
    omega
  ·rintro(rfl | ⟨J,B⟩) k j
   ·cases j
   ·have:=B k j
    by_cases l:k=0
    ·subst l;simp only[Hk,wh,wY,wV];omega
    ·simp only[Hk,wh,wY,wV];exact .inr ⟨l,this⟩
 rw[key]
 unfold D7
 cases s with
 | nil=>rfl
 | cons c t=>
  rw[wX (WAL c t),yL]
  generalize (c::t).all F3=C
  generalize ((97≤(c::t)[0]!.toNat)&&((c::t)[0]!.toNat≤122))=E
  have F:decide (1≤((c::t).length:Int))=decide (1≤(c::t).length):=by simp;omega
  have I:decide (((c::t).length:Int)≤24)=decide ((c::t).length≤24):=by simp;omega
  rw[F,I]
  cases E<;>cases C<;>simp
theorem VP(s:List UInt8)(B:s.length≤9223372036854775807):Iq s=some (DR s):=by
 unfold Iq DR
 rw[CA (n:=s.length) (λk=>if Gv s[k]! then none else some false) (λk l=>by
  unfold RP
  rw[wU (by simpa using l),AO l,AE,AX (by omega)]
  generalize s[k]! = c
  have e:(((c.toNat:Int)<32)||(126<(c.toNat:Int)))=!Gv c:=by
   unfold Gv
   rw[xf]
   simp only[wh,wY,wV,xm,yF,yo]
   omega
  rw[e]
  cases Gv c<;>rfl) (by unfold RP;rw[ne (by simp)]),Wu,EK]
 generalize s.all Gv=u
 cases s with
 | nil=>simp
 | cons c t=>
  rw[wX (WAL c t),yL]
  generalize w:(c::t).length=L
  have C:1≤L:=by rw[← w];simp
  by_cases q:200<(L:Int)
  ·have j:decide (L≤200)=false:=by simp;omega
   simp[q,j]
  ·have j:decide (L≤200)=true:=by simp;omega
   have A:decide (1≤L)=true:=by simp;omega
   rw[ne (by simpa using q),j,A]
   cases u<;>rfl
theorem Rd(s:List UInt8)(w:s.length≤9223372036854775807):Kj s=some (DR s):=by
 unfold Kj DR
 rw[CA (n:=s.length) (λk=>if Gv s[k]! then none else some false) (λk j=>by
  unfold Oe
  rw[wU (by simpa using j),AO j,AE,AX (by omega)]
  generalize s[k]! = c
  have e:(((c.toNat:Int)<32)||(126<(c.toNat:Int)))=!Gv c:=by
   unfold Gv
   rw[xf]
   simp only[wh,wY,wV,xm,yF,yo]
   omega
  rw[e]
  cases Gv c<;>rfl) (by unfold Oe;rw[ne (by simp)]),Wu,EK]
 generalize s.all Gv=l
 have q:decide (1≤(s.length:Int))=decide (1≤s.length):=by simp;omega
 have u:decide ((s.length:Int)≤200)=decide (s.length≤200):=by simp;omega
 rw[q,u]
 cases l<;>simp
theorem XW a b x y:Au (a::x) (b::y)=((a<b)||(a==b&&Au x y)):=rfl
theorem NL:∀(a b:List UInt8),(Au a b||(a=b))=!Au b a
 | [],[]=>rfl
 | [],_::_=>rfl
 | _::_,[]=>rfl
 | a::x,b::y=>by
  rw[XW,XW]
  have l:=NL x y
  by_cases h:a=b
  ·subst h
   have q:¬ a<a:=λh=>by simp[zQ] at h
   simp only[wX q,yQ,xt,yL,zr,true_and]
   exact l
  ·have u:(a==b)=false:=by simpa using h
   have w:(b==a)=false:=by simpa using λe:b=a=>h e.symm
   have A:¬ (a::x=b::y):=λe=>h (List.cons.inj e).1
   rw[u,w,wX A]
   simp only[yr,Bool.or_false]
   have B:a.toNat≠b.toNat:=λe=>h (UInt8.toNat_inj.1 e)
   by_cases j:a<b
   ·have:¬ b<a:=by rw[zQ] at j ⊢;omega
    simp[j,this]
   ·have:b<a:=by rw[zQ] at j ⊢;omega
    simp[j,this]
theorem Vz a:Au a a=false:=by
 have:=NL a a
 cases h:Au a a
 ·rfl
 ·rw[h] at this;simp at this
def GC(l:List AD):Prop:=∀a∈l,a.Name.length≤9223372036854775807∧a.Value.length≤9223372036854775807
def Eh(l:List AD)(j:Bool)(k:Nat):Option Int:=
 if D7 l[k]!.Name=false then some 9 else if DR l[k]!.Value=false∧¬ (j=true∧l[k]!.Value=[]) then some 23 else if 0<k∧Au l[k-1]!.Name l[k]!.Name=false then some 5 else none
def Ah(l:List AD)(j:Bool):Int:=((List.range l.length).findSome? (Eh l j)).getD 0
theorem GC.at{l:List AD}(h:GC l){k}(j:k<l.length):l[k]!.Name.length≤9223372036854775807∧l[k]!.Value.length≤9223372036854775807:=by
 rw[wg l k j];exact h _ (yZ j)
theorem mJ(l:List AD) u(h:GC l)(E:l.length≤9223372036854775807) k(A:k<l.length):Lx l u k=CG k (Eh l u k):=by
 unfold Lx Eh
 obtain⟨j,q⟩:=h.at A
 rw[wU (by simpa using A),AO A,AE]
 generalize l[k]! = x at j q ⊢
 rw[YP _ j,AE]
 cases D7 x.Name
 ·rfl
 rw[ne (by decide),ne (by decide),VP _ q,AE,AX (by omega)]
 by_cases w:DR x.Value=false∧¬ (u=true∧x.Value=[])
 ·rw[wU w,wU (by simp[w.1];cases u<;>simp_all)];rfl
 rw[ne w,ne (by intro e;simp at e;exact w ⟨e.1,by rintro⟨a,b⟩;simp[a,b] at e⟩)]
 by_cases B:k=0
 ·subst B;rfl
 ·have C:decide ((0:Int)<(k:Int))=true:=by simp;omega
  rw[C,Ec (by omega) (by omega)]
  simp only[yQ,Am,AE,xt]
  rw[AO (by omega),AE,NL]
  have:(0<k∧Au l[k-1]!.Name x.Name=false)↔Au l[k-1]!.Name x.Name=false:=by constructor;exact λh=>h.2;exact λh=>⟨by omega,h⟩
  simp only[this]
  cases Au l[k-1]!.Name x.Name<;>rfl
theorem jU(l:List AD) u(h:GC l)(E:l.length≤9223372036854775807) k(A:k<l.length):L7 l u k=CG k (Eh l u k):=by
 unfold L7 Eh
 obtain⟨j,q⟩:=h.at A
 rw[wU (by simpa using A),AO A,AE]
 generalize l[k]! = x at j q ⊢
 rw[fT _ j,AE]
 cases D7 x.Name
 ·rfl
 rw[ne (by decide),ne (by decide),Rd _ q,AE,AX (by omega)]
 by_cases w:DR x.Value=false∧¬ (u=true∧x.Value=[])
 ·rw[wU w,wU (by simp[w.1];cases u<;>simp_all)];rfl
 rw[ne w,ne (by intro e;simp at e;exact w ⟨e.1,by rintro⟨a,b⟩;simp[a,b] at e⟩)]
 by_cases B:k=0
 ·subst B;rfl
 ·have C:decide ((0:Int)<(k:Int))=true:=by simp;omega
  rw[C,Ec (by omega) (by omega)]
  simp only[yQ,Am,AE,xt]
  rw[AO (by omega),AE]
  have:(0<k∧Au l[k-1]!.Name x.Name=false)↔Au l[k-1]!.Name x.Name=false:=by constructor;exact λh=>h.2;exact λh=>⟨by omega,h⟩
  simp only[this]
  cases Au l[k-1]!.Name x.Name<;>rfl
theorem Ey{o:Option Int} : (Aj (some (FT o)) λ_:Unit=>some 0)=some (o.getD 0):=by cases o<;>rfl
theorem cK(l:List AD) j(h:GC l)(q:l.length≤9223372036854775807):MP l j=some (Ah l j):=by
 unfold MP
 rw[CA (n:=l.length) (Eh l j) (λk u=>mJ l j h q k u) (by unfold Lx;rw[ne (by simp)]),Ey];rfl
theorem Pi(l:List AD) j(h:GC l)(q:l.length≤9223372036854775807):Gn l j=some (Ah l j):=by
 unfold Gn
 rw[CA (n:=l.length) (Eh l j) (λk u=>jU l j h q k u) (by unfold L7;rw[ne (by simp)]),Ey];rfl
theorem OR(l:List AD)(h:GC l)(j:l.length≤9223372036854775807):Hx l=some (Ah l false):=by unfold Hx;rw[cK l _ h j];rfl
theorem bO(l:List AD)(h:GC l)(j:l.length≤9223372036854775807):Jx l=some (Ah l true):=by unfold Jx;rw[cK l _ h j];rfl
def C1(l:List AD)(name:List UInt8):List UInt8:=((List.range l.length).findSome? λk=>if l[k]!.Name=name then some l[k]!.Value else none).getD []
theorem bF{o:Option (List UInt8)} : (Aj (some (FT o)) λ_:Unit=>some [])=some (o.getD []):=by cases o<;>rfl
theorem Oj(l:List AD) name(q:l.length≤9223372036854775807):Gs l name=some (C1 l name):=by
 unfold Gs
 rw[CA (n:=l.length) (λk=>if l[k]!.Name=name then some l[k]!.Value else none) (λk j=>by
  unfold P8
  rw[wU (by simpa using j),AO j,AE,AX (by omega)]
  generalize l[k]! = x
  by_cases h:x.Name=name<;>simp[h,CG]) (by unfold P8;rw[ne (by simp)]),bF];rfl
theorem YG(l:List AD) name(q:l.length≤9223372036854775807):Ib l name=some (C1 l name):=by
 unfold Ib
 rw[CA (n:=l.length) (λk=>if l[k]!.Name=name then some l[k]!.Value else none) (λk j=>by
  unfold OI
  rw[wU (by simpa using j),AO j,AE,AX (by omega)]
  generalize l[k]! = x
  by_cases h:x.Name=name<;>simp[h,CG]) (by unfold OI;rw[ne (by simp)]),bF];rfl
def Ci:AD:=⟨[],[]⟩
def Bf(j:AD→AD→List AD→List AD):List AD→List AD→List AD→List AD
 | [],[],c=>c
 | x::a,[],c=>Bf j a [] (j x Ci c)
 | [],y::b,c=>Bf j [] b (j Ci y c)
 | x::a,y::b,c=>if Au x.Name y.Name then Bf j a (y::b) (j x Ci c) else if Au y.Name x.Name then Bf j (x::a) b (j Ci y c) else Bf j a b (j x y c)
  termination_by a b=>a.length+b.length
def Iv(l:AD→AD→List AD→List AD)(a b:List AD)(i j:Nat)(o:List AD):Option ((Int × Int × List AD) ⊕ Ai Unit (List AD)):=
 if i<a.length∨j<b.length then
  if j=b.length∨(i<a.length∧Au a[i]!.Name b[j]!.Name=true) then some (.inl (((i+1:Nat):Int),(j:Int),l a[i]! Ci o))
  else if i=a.length∨Au b[j]!.Name a[i]!.Name=true then some (.inl ((i:Int),((j+1:Nat):Int),l Ci b[j]! o))
  else some (.inl (((i+1:Nat):Int),((j+1:Nat):Int),l a[i]! b[j]! o))
 else some (.inr (.ext o))
theorem On{l:List AD}{i}(h:i<l.length):l.drop i=l[i]!::l.drop (i+1):=by
 rw[yR h,wg l i h]
theorem W8{f} A(a b c:List AD) B(l:∀x y o, (A x y o).length≤o.length+1)
 (U:∀(i j:Nat) (o:List AD), i≤a.length→j≤b.length→o.length+(a.length - i)+(b.length - j)≤B→f (i, j, o)=Iv A a b i j o) (hB:c.length+a.length+b.length≤B):iter f (0, 0, c)=some (.ext (Bf A a b c)) := by
  have key:∀(m i j:Nat) (o:List AD), i≤a.length→j≤b.length→(a.length - i)+(b.length - j)=m→o.length+m≤B→iter f ((i:Int), (j:Int), o)=some (.ext (Bf A (a.drop i) (b.drop j) o)) := by
    intro m
    induction m using Nat.strongRecOn with
    | _ m E =>
      intro i j o M O V X
      have q := U i j o M O (by omega)
      unfold Iv at q
      by_cases u:i<a.length
      · rw[On u]
        by_cases w:j<b.length
        · rw[On w]
          rw[wU (.inl u)] at q
          by_cases F:Au a[i]!.Name b[j]!.Name=true
          · rw[wU (.inr ⟨u, F⟩)] at q
            rw[Cv q, Bf, wU F, ← On w]
            exact E (m - 1) (by omega) (i+1) j _ (by omega) O (by omega) (by have := l a[i]! Ci o;omega)
          · rw[ne (by rintro(h | h);omega;exact F h.2)] at q
            by_cases J:Au b[j]!.Name a[i]!.Name=true
            · rw[wU (.inr J)] at q
              rw[Cv q, Bf, ne F, wU J, ← On u]
              exact E (m - 1) (by omega) i (j+1) _ M (by omega) (by omega) (by have := l Ci b[j]! o;omega)
            · rw[ne (by rintro(h | h);omega;exact J h)] at q
              rw[Cv q, Bf, ne F, ne J]
              exact E (m - 2) (by omega) (i+1) (j+1) _ (by omega) (by omega) (by omega) (by have := l a[i]! b[j]! o;omega)
        · have C:j=b.length := by omega
          rw[wU (.inl u), wU (.inl C)] at q
          have hd:b.drop j=[] := by rw[C];simp
          rw[Cv q, hd, Bf, ← hd]
          exact E (m - 1) (by omega) (i+1) j _ (by omega) O (by omega) (by have := l a[i]! Ci o;omega)
      · have I:i=a.length := by omega
        have hd:a.drop i=[] := by rw[I];simp
        by_cases w:j<b.length
        · rw[wU (.inr w), ne (by rintro(h | h);omega;omega), wU (.inl I)] at q
          rw[On w, Cv q, hd, Bf, ← hd]
          exact E (m - 1) (by omega) i (j+1) _ M (by omega) (by omega) (by have := l Ci b[j]! o;omega)
        · have C:j=b.length := by omega
          rw[ne (by omega)] at q
          have T:b.drop j=[] := by rw[C];simp
          rw[Bq q, hd, T, Bf]
  exact key _ 0 0 c (yt _) (yt _) rfl (by omega)
theorem Hn{o:List AD}{x}(h:o.length+1≤4398046511104):app 32 o [x]=some (o++[x]):=by
 unfold app;rw[wU (by simp;omega)]
def Ew(x y:AD)(o:List AD):List AD:=if y.Name=[] then o++[x] else if y.Value=[] then o else o++[y]
def FF(x y:AD)(o:List AD):List AD:=o++[if y.Name=[] then x else y]
def FC(x y:AD)(o:List AD):List AD:=if y.Name=[] then o++[x] else o
theorem Wn(x y o):(Ew x y o).length≤o.length+1:=by unfold Ew;split;simp;split<;>simp
theorem fy(x y o):(FF x y o).length≤o.length+1:=by unfold FF;simp
theorem fC(x y o):(FC x y o).length≤o.length+1:=by unfold FC;split<;>simp
theorem P5(c:List AD)(x y:AD)(h:c.length+1≤4398046511104):KO c x y=some (Ew x y c):=by
 unfold KO Ew
 rw[Hn h,Hn h]
 by_cases j:y.Name=[]<;>by_cases l:y.Value=[]<;>simp[j,l]
theorem bA(x y:AD):x=y↔x.Name=y.Name∧x.Value=y.Value:=by cases x;cases y;simp
theorem QY(c:List AD)(x y:AD)(h:c.length+1≤4398046511104):Kh c x y=some (FF x y c):=by
 unfold Kh FF
 by_cases j:y.Name=[]<;>simp[j,Hn h]
theorem O7(c:List AD)(x y:AD)(h:c.length+1≤4398046511104):Kk c x y=some (FC x y c):=by
 unfold Kk FC
 rw[Hn h]
 by_cases j:y.Name=[]<;>simp[j]
theorem tL(a b:List AD) i j(o:List AD)(M:a.length+b.length≤4398046511104)(U:i≤a.length)(V:j≤b.length)(X:o.length+(a.length-i)+(b.length-j)≤4398046511104):RN a b i j o=Iv Ew a b i j o:=by
 unfold RN Iv
 by_cases l:i<a.length
 ·rw[wU (by simp;omega),wU (.inl l),AO l]
  have A:decide ((i:Int)<(a.length:Int))=true:=by simp;omega
  have B:decide ((i:Int)=(a.length:Int))=false:=by simp;omega
  rw[A,B]
  by_cases q:j<b.length
  ·have w:decide ((j:Int)=(b.length:Int))=false:=by simp;omega
   rw[w,AO q]
   simp only[yQ,xt,WAC,Am,AE,yL]
   rw[P5 _ _ _ (by omega),P5 _ _ _ (by omega),P5 _ _ _ (by omega)]
   simp only[AE]
   rw[AX (by omega),AX (by omega)]
   simp only[AE]
   have u:¬ j=b.length:=by omega
   have C:¬ i=a.length:=by omega
   simp only[u,C,l,true_and,zw];rfl
  ·have E:j=b.length:=by omega
   have w:decide ((j:Int)=(b.length:Int))=true:=by simp;omega
   rw[w]
   have F:((true==false)&&(true==true))=false:=rfl
   rw[F]
   simp only[FL,AE,zD]
   rw[wU trivial,wU (.inl E),P5 _ _ _ (by omega),AE,AX (by omega),AE];rfl
 ·have I:i=a.length:=by omega
  have A:decide ((i:Int)<(a.length:Int))=false:=by simp;omega
  have B:decide ((i:Int)=(a.length:Int))=true:=by simp;omega
  rw[A,B]
  by_cases q:j<b.length
  ·have w:decide ((j:Int)=(b.length:Int))=false:=by simp;omega
   have J:decide ((j:Int)<(b.length:Int))=true:=by simp;omega
   have u:¬ j=b.length:=by omega
   rw[w,J,wU (by rfl),wU (.inr q),AO q]
   have F:((false==false)&&(false==true))=false:=rfl
   have O:((true==false))=false:=rfl
   rw[F,O]
   simp only[FL,AE,yL,yr,zD,yN,yO,y8]
   have T:¬ (j=b.length∨i<a.length∧Au a[i]!.Name b[j]!.Name=true):=by
    intro h;rcases h with h | h
    ·exact u h
    ·exact l h.1
   rw[ne T,wU (.inl I),P5 _ _ _ (by omega),AE,AX (by omega),AE];rfl
  ·have J:decide ((j:Int)<(b.length:Int))=false:=by simp;omega
   rw[J,ne (by decide),ne (by omega)]
theorem tX(c a b:List AD)(h:c.length+a.length+b.length≤4398046511104):Qg c a b=some (Bf Ew a b c):=by
 unfold Qg
 rw[W8 Ew a b c 4398046511104 Wn (λi j o l q u=>tL a b i j o (by omega) l q u) h];rfl
theorem WC(a b:List AD)(h:a.length+b.length≤4398046511104):Lj a b=some (Bf Ew a b []):=by
 unfold Lj;rw[tX [] a b (by simpa using h)];rfl
theorem uF(a b:List AD) i j(o:List AD)(M:a.length+b.length≤4398046511104)(U:i≤a.length)(V:j≤b.length)(X:o.length+(a.length-i)+(b.length-j)≤4398046511104):PV a b i j o=Iv FF a b i j o:=by
 unfold PV Iv
 by_cases l:i<a.length
 ·rw[wU (by simp;omega),wU (.inl l),AO l]
  have A:decide ((i:Int)<(a.length:Int))=true:=by simp;omega
  have B:decide ((i:Int)=(a.length:Int))=false:=by simp;omega
  rw[A,B]
  by_cases q:j<b.length
  ·have w:decide ((j:Int)=(b.length:Int))=false:=by simp;omega
   rw[w,AO q]
   simp only[yQ,xt,WAC,Am,AE,yL]
   rw[QY _ _ _ (by omega),QY _ _ _ (by omega),QY _ _ _ (by omega)]
   simp only[AE]
   rw[AX (by omega),AX (by omega)]
   simp only[AE]
   have u:¬ j=b.length:=by omega
   have C:¬ i=a.length:=by omega
   simp only[u,C,l,true_and,zw];rfl
  ·have E:j=b.length:=by omega
   have w:decide ((j:Int)=(b.length:Int))=true:=by simp;omega
   rw[w]
   have F:((true==false)&&(true==true))=false:=rfl
   rw[F]
   simp only[FL,AE,zD]
   rw[wU trivial,wU (.inl E),QY _ _ _ (by omega),AE,AX (by omega),AE];rfl
 ·have I:i=a.length:=by omega
  have A:decide ((i:Int)<(a.length:Int))=false:=by simp;omega
  have B:decide ((i:Int)=(a.length:Int))=true:=by simp;omega
  rw[A,B]
  by_cases q:j<b.length
  ·have w:decide ((j:Int)=(b.length:Int))=false:=by simp;omega
   have J:decide ((j:Int)<(b.length:Int))=true:=by simp;omega
   have u:¬ j=b.length:=by omega
   rw[w,J,wU (by rfl),wU (.inr q),AO q]
   have F:((false==false)&&(false==true))=false:=rfl
   have O:((true==false))=false:=rfl
   rw[F,O]
   simp only[FL,AE,yL,yr,zD,yN,yO,y8]
   have T:¬ (j=b.length∨i<a.length∧Au a[i]!.Name b[j]!.Name=true):=by
    intro h;rcases h with h | h
    ·exact u h
    ·exact l h.1
   rw[ne T,wU (.inl I),QY _ _ _ (by omega),AE,AX (by omega),AE];rfl
  ·have J:decide ((j:Int)<(b.length:Int))=false:=by simp;omega
   rw[J,ne (by decide),ne (by omega)]
theorem qx(c a b:List AD)(h:c.length+a.length+b.length≤4398046511104):Ql c a b=some (Bf FF a b c):=by
 unfold Ql
 rw[W8 FF a b c 4398046511104 fy (λi j o l q u=>uF a b i j o (by omega) l q u) h];rfl
theorem nc(a b:List AD)(h:a.length+b.length≤4398046511104):RD a b=some (Bf FF a b []):=by
 unfold RD;rw[qx [] a b (by simpa using h)];rfl
theorem rC(a b:List AD) i j(o:List AD)(M:a.length+b.length≤4398046511104)(U:i≤a.length)(V:j≤b.length)(X:o.length+(a.length-i)+(b.length-j)≤4398046511104):O8 a b i j o=Iv FC a b i j o:=by
 unfold O8 Iv
 by_cases l:i<a.length
 ·rw[wU (by simp;omega),wU (.inl l),AO l]
  have A:decide ((i:Int)<(a.length:Int))=true:=by simp;omega
  have B:decide ((i:Int)=(a.length:Int))=false:=by simp;omega
  rw[A,B]
  by_cases q:j<b.length
  ·have w:decide ((j:Int)=(b.length:Int))=false:=by simp;omega
   rw[w,AO q]
   simp only[yQ,xt,WAC,Am,AE,yL]
   rw[O7 _ _ _ (by omega),O7 _ _ _ (by omega),O7 _ _ _ (by omega)]
   simp only[AE]
   rw[AX (by omega),AX (by omega)]
   simp only[AE]
   have u:¬ j=b.length:=by omega
   have C:¬ i=a.length:=by omega
   simp only[u,C,l,true_and,zw];rfl
  ·have E:j=b.length:=by omega
   have w:decide ((j:Int)=(b.length:Int))=true:=by simp;omega
   rw[w]
   have F:((true==false)&&(true==true))=false:=rfl
   rw[F]
   simp only[FL,AE,zD]
   rw[wU trivial,wU (.inl E),O7 _ _ _ (by omega),AE,AX (by omega),AE];rfl
 ·have I:i=a.length:=by omega
  have A:decide ((i:Int)<(a.length:Int))=false:=by simp;omega
  have B:decide ((i:Int)=(a.length:Int))=true:=by simp;omega
  rw[A,B]
  by_cases q:j<b.length
  ·have w:decide ((j:Int)=(b.length:Int))=false:=by simp;omega
   have J:decide ((j:Int)<(b.length:Int))=true:=by simp;omega
   have u:¬ j=b.length:=by omega
   rw[w,J,wU (by rfl),wU (.inr q),AO q]
   have F:((false==false)&&(false==true))=false:=rfl
   have O:((true==false))=false:=rfl
   rw[F,O]
   simp only[FL,AE,yL,yr,zD,yN,yO,y8]
   have T:¬ (j=b.length∨i<a.length∧Au a[i]!.Name b[j]!.Name=true):=by
    intro h;rcases h with h | h
    ·exact u h
    ·exact l h.1
   rw[ne T,wU (.inl I),O7 _ _ _ (by omega),AE,AX (by omega),AE];rfl
  ·have J:decide ((j:Int)<(b.length:Int))=false:=by simp;omega
   rw[J,ne (by decide),ne (by omega)]
theorem vb(c a b:List AD)(h:c.length+a.length+b.length≤4398046511104):Qc c a b=some (Bf FC a b c):=by
 unfold Qc
 rw[W8 FC a b c 4398046511104 fC (λi j o l q u=>rC a b i j o (by omega) l q u) h];rfl
theorem oT(a b:List AD)(h:a.length+b.length≤4398046511104):Ot a b=some (Bf FC a b []):=by
 unfold Ot;rw[vb [] a b (by simpa using h)];rfl
theorem PU(a b:List AD)(B:a.length≤9223372036854775807):Gb a b=some (decide (a=b)):=by
 unfold Gb
 by_cases q:a.length=b.length
 ·rw[ne (by simp[q]),CA (n:=a.length) (λk=>if decide (a[k]! = b[k]!) then none else some false) (λk w=>by
   unfold RM
   rw[wU (by simpa using w),AO w,AO (by omega),AE,AE,AX (by omega)]
   generalize a[k]! = x
   generalize b[k]! = y
   by_cases h:x=y
   ·subst h;simp[CG]
   ·have A:=h;rw[bA] at A
    simp only[wX h,WAD]
    by_cases j:x.Name=y.Name
    ·have u:¬ x.Value=y.Value:=λe=>A ⟨j,e⟩
     simp[j,u,CG]
    ·simp[j,CG]) (by unfold RM;rw[ne (by simp)]),H5,EK]
  by_cases h:a=b
  ·subst h;simp
  ·rw[wX h]
   have:((List.range a.length).all λk=>decide (a[k]! = b[k]!))=false:=by
    rw[← xy,wx]
    intro l
    apply h
    apply zG q
    intro k j u
    have:=l k (xP.2 j)
    simp only[wV] at this
    rwa [wg a k j,wg b k u] at this
   rw[this];rfl
 ·rw[wU (by simp;omega),wX (by rintro rfl;exact q rfl)]
theorem MF(a b:List AD)(B:a.length≤9223372036854775807):Fe a b=some (decide (a=b)):=by
 unfold Fe
 by_cases q:a.length=b.length
 ·rw[ne (by simp[q]),CA (n:=a.length) (λk=>if decide (a[k]! = b[k]!) then none else some false) (λk w=>by
   unfold O3
   rw[wU (by simpa using w),AO w,AO (by omega),AE,AE,AX (by omega)]
   generalize a[k]! = x
   generalize b[k]! = y
   by_cases h:x=y
   ·subst h;simp[CG]
   ·have A:=h;rw[bA] at A
    simp only[wX h,WAD]
    by_cases j:x.Name=y.Name
    ·have u:¬ x.Value=y.Value:=λe=>A ⟨j,e⟩
     simp[j,u,CG]
    ·simp[j,CG]) (by unfold O3;rw[ne (by simp)]),H5,EK]
  by_cases h:a=b
  ·subst h;simp
  ·rw[wX h]
   have:((List.range a.length).all λk=>decide (a[k]! = b[k]!))=false:=by
    rw[← xy,wx]
    intro l
    apply h
    apply zG q
    intro k j u
    have:=l k (xP.2 j)
    simp only[wV] at this
    rwa [wg a k j,wg b k u] at this
   rw[this];rfl
 ·rw[wU (by simp;omega),wX (by rintro rfl;exact q rfl)]
theorem qB{α β:Type}[Inhabited α]{f}(l:List α)(j:β→α→β)(I:β→Nat→Prop)(w:∀b k, k<l.length→I b k→I (j b l[k]!) (k+1))
 (A:∀b (k:Nat), k<l.length→I b k→f (b, (k:Int))=some (.inl (j b l[k]!, ((k+1:Nat):Int)))) (B:∀b, f (b, (l.length:Int))=some (.inr b)) (b0:β) (C:I b0 0):iter f (b0, 0)=some (l.foldl j b0) := by
  have key:∀(m k:Nat) (b:β), k+m=l.length→I b k→iter f (b, (k:Int))=some ((l.drop k).foldl j b) := by
    intro m
    induction m with
    | zero =>
      intro k b E _
      have:k=l.length := by omega
      subst this
      rw[Bq (B b)];simp
    | succ m F =>
      intro k b E u
      have q:k<l.length := by omega
      rw[Cv (A b k q u), F (k+1) _ (by omega) (w b k q u), yR q, xM, wg l k q]
  have := key l.length 0 b0 (by omega) C
  simpa using this
theorem u6{α β:Type}[Inhabited α]{f}(l:List α)(j:β→α→β)(I:β→Nat→Prop)(w:∀b k, k<l.length→I b k→I (j b l[k]!) (k+1))
 (A:∀b (k:Nat), k<l.length→I b k→f ((k:Int), b)=some (.inl (((k+1:Nat):Int), j b l[k]!))) (B:∀b, f ((l.length:Int), b)=some (.inr b)) (b0:β) (C:I b0 0):iter f (0, b0)=some (l.foldl j b0) := by
  have key:∀(m k:Nat) (b:β), k+m=l.length→I b k→iter f ((k:Int), b)=some ((l.drop k).foldl j b) := by
    intro m
    induction m with
    | zero =>
      intro k b E _
      have:k=l.length := by omega
      subst this
      rw[Bq (B b)];simp
    | succ m F =>
      intro k b E u
      have q:k<l.length := by omega
      rw[Cv (A b k q u), F (k+1) _ (by omega) (w b k q u), yR q, xM, wg l k q]
  have := key l.length 0 b0 (by omega) C
  simpa using this
theorem qN{α γ β:Type}[Inhabited α]{f}(l:List α)(j:γ × β→α→γ × β)(I:γ × β→Nat→Prop)(w:∀b k, k<l.length→I b k→I (j b l[k]!) (k+1))
 (A:∀c b (k:Nat), k<l.length→I (c, b) k→f (c, (k:Int), b)=some (.inl ((j (c, b) l[k]!).1, ((k+1:Nat):Int), (j (c, b) l[k]!).2))) (B:∀c b, f (c, (l.length:Int), b)=some (.inr (c, b))) (c0:γ) (b0:β) (C:I (c0, b0) 0) :
    iter f (c0, 0, b0)=some (l.foldl j (c0, b0)) := by
  have key:∀(m k:Nat) (b:γ × β), k+m=l.length→I b k→iter f (b.1, (k:Int), b.2)=some ((l.drop k).foldl j b) := by
    intro m
    induction m with
    | zero =>
      intro k b E _
      have:k=l.length := by omega
      subst this
      rw[Bq (B _ _)];simp
    | succ m F =>
      intro k b E u
      have q:k<l.length := by omega
      rw[Cv (A b.1 b.2 k q u), F (k+1) _ (by omega) (w b k q u), yR q, xM, wg l k q]
  have := key l.length 0 (c0, b0) (by omega) C
  simpa using this
theorem pP a:Au a []=false:=by cases a<;>rfl
theorem Gu:∀ {a b c:List UInt8},Au a b=true→Au b c=true→Au a c=true
 | _,[],_,h,_=>by rw[pP] at h;cases h
 | _,_::_,[],_,h=>by cases h
 | [],_::_,_::_,_,_=>rfl
 | a::x,b::y,c::z,h,k=>by
  rw[XW] at h k ⊢
  simp only[wh,wV,wY,WAH,zQ] at h k ⊢
  rcases h with h | ⟨rfl,h⟩<;>rcases k with k | ⟨rfl,k⟩
  ·left;omega
  ·left;exact h
  ·left;exact k
  ·right;exact⟨rfl,Gu h k⟩
def BP(l:List AD):Prop:=l.Pairwise λx y=>Au x.Name y.Name=true
def Ak:List AD→List UInt8→Option AD
 | [],_=>none
 | x::l,n=>if x.Name=n then some x else Ak l n
theorem HL{l}{n}(h:∀e∈l,e.Name≠n):Ak l n=none:=by
 induction l with
 | nil=>rfl
 | cons x l j=>rw[Ak,ne (h x (wZ ..)),j λe q=>h e (we _ q)]
theorem SU{l}{n}{e:AD}(h:Ak l n=some e):e.Name=n∧e∈l:=by
 induction l with
 | nil=>cases h
 | cons x l j=>
  rw[Ak] at h
  split at h
  ·cases h;exact⟨‹_›,wZ ..⟩
  ·exact⟨(j h).1,we _ (j h).2⟩
theorem EZ{a b}(h:Au a b=true):b≠a:=by rintro rfl;rw[Vz] at h;cases h
theorem D1{x:AD}{l} : BP (x::l)↔(∀e∈l,Au x.Name e.Name=true)∧BP l:=List.pairwise_cons
theorem Q5:∀ {l m:List AD},BP l→BP m→(∀n,Ak l n=Ak m n)→l=m
 | [],[],_,_,_=>rfl
 | [],y::m,_,_,h=>by have:=h y.Name;simp[Ak] at this
 | x::l,[],_,_,h=>by have:=h x.Name;simp[Ak] at this
 | x::l,y::m,E,F,h=>by
  have w:=D1.1 E
  have A:=D1.1 F
  have B:x.Name=y.Name:=by
   rcases j:Au x.Name y.Name with _ | _
   ·rcases q:Au y.Name x.Name with _ | _
    ·have:=NL x.Name y.Name
     rw[j,q] at this
     simpa using this
    ·have:=h y.Name
     rw[Ak,ne (EZ q),HL λe u=>EZ (Gu q (w.1 e u)),Ak,wU rfl] at this
     cases this
   ·have:=h x.Name
    rw[Ak,wU rfl,Ak,ne (EZ j),HL λe u=>EZ (Gu j (A.1 e u))] at this
    cases this
  have I:x=y:=by
   have:=h x.Name
   rw[Ak,wU rfl,Ak,wU B.symm] at this
   exact xc this
  subst I
  rw[Q5 w.2 A.2 λn=>?_]
  by_cases C:x.Name=n
  ·subst C
   rw[HL λe u=>EZ (w.1 e u),HL λe u=>EZ (A.1 e u)]
  ·have:=h n
   rwa [Ak,ne C,Ak,ne C] at this
def CZ:List AD→AD→List AD
 | [],a=>[a]
 | x::l,a=>if x.Name=a.Name then a::l else if Au x.Name a.Name=true then x::CZ l a else a::x::l
theorem Y9{l}{a e}(h:e∈CZ l a):e=a∨e∈l:=by
 induction l with
 | nil=>simpa[CZ] using h
 | cons x l j=>
  rw[CZ] at h
  split at h
  ·rcases wo.1 h with h | h
   ·exact .inl h
   ·exact .inr (we _ h)
  ·split at h
   ·rcases wo.1 h with h | h
    ·exact .inr (h ▸ wZ ..)
    ·rcases j h with h | h
     ·exact .inl h
     ·exact .inr (we _ h)
   ·rcases wo.1 h with h | h
    ·exact .inl h
    ·exact .inr h
theorem gM{a b}(j:a≠b)(l:¬ Au a b=true):Au b a=true:=by
 have:=NL a b
 rw[yS.2 l,wX j] at this
 simpa using this
theorem Mh{l}(a:AD)(h:BP l):BP (CZ l a):=by
 induction l with
 | nil=>simp[CZ,BP]
 | cons x l B=>
  have u:=D1.1 h
  rw[CZ]
  split
  ·rename_i A;exact D1.2 ⟨λe j=>by rw[← A];exact u.1 e j,u.2⟩
  ·rename_i A
   split
   ·rename_i q
    exact D1.2 ⟨λe j=>by rcases Y9 j with rfl | j;exact q;exact u.1 e j,B u.2⟩
   ·rename_i q
    have w:=gM A q
    exact D1.2 ⟨λe j=>by rcases wo.1 j with rfl | j;exact w;exact Gu w (u.1 e j),h⟩
theorem Tg l(a:AD) n:Ak (CZ l a) n=if a.Name=n then some a else Ak l n:=by
 induction l with
 | nil=>simp[CZ,Ak]
 | cons x l q=>
  rw[CZ]
  split
  ·rename_i j
   rw[Ak,Ak]
   by_cases h:a.Name=n
   ·rw[wU h,wU h]
   ·rw[ne h,ne h,ne (by rw[j];exact h)]
  ·rename_i j
   split
   ·rw[Ak,Ak,q]
    by_cases h:a.Name=n
    ·rw[wU h,ne (by rw[← h];exact j),wU h]
    ·rw[ne h,ne h]
   ·rw[Ak]
theorem KL(l:List AD) a:(CZ l a).length≤l.length+1:=by
 induction l with
 | nil=>simp[CZ]
 | cons x l j=>rw[CZ];split;simp;split;simp;omega;simp
def Dy(a:AD)(s:Bool × List AD)(x:AD):Bool × List AD:=
 let j:=if s.1=false∧Au x.Name a.Name=false then(true,s.2++[a]) else s
 if x.Name=a.Name then j else(j.1,j.2++[x])
theorem XP(a:AD):∀(l:List AD) (o:List AD),(∀e∈l,Au a.Name e.Name=true)→l.foldl (Dy a) (true,o)=(true,o++l)
 | [],o,_=>by simp
 | x::l,o,h=>by
  have j:=h x (wZ ..)
  have:Dy a (true,o) x=(true,o++[x]):=by simp[Dy,EZ j]
  rw[xM,this,XP a l _ λe q=>h e (we _ q)]
  simp
theorem iK(a:AD):∀(l:List AD) (o:List AD),BP l→(let s:=l.foldl (Dy a) (false,o);if s.1 then s.2 else s.2++[a])=o++CZ l a
 | [],o,_=>by simp[CZ]
 | x::l,o,h=>by
  have u:=D1.1 h
  rw[xM,CZ]
  by_cases q:x.Name=a.Name
  ·have B:Au x.Name a.Name=false:=by rw[q];exact Vz _
   have:Dy a (false,o) x=(true,o++[a]):=by simp[Dy,q,Vz]
   rw[this,XP a l _ λe w=>by rw[← q];exact u.1 e w,wU q]
   simp
  ·by_cases j:Au x.Name a.Name=true
   ·have:Dy a (false,o) x=(false,o++[x]):=by simp[Dy,q,j]
    rw[this,iK a l _ u.2,ne q,wU j]
    simp
   ·have A:=gM q j
    have:Dy a (false,o) x=(true,o++[a]++[x]):=by simp[Dy,q,yS.2 j]
    rw[this,XP a l _ λe w=>Gu A (u.1 e w),ne q,ne j]
    simp
theorem eX(a:AD) s(x:AD):(Dy a s x).2.length≤s.2.length+2:=by
 unfold Dy
 have:(if s.1=false∧Au x.Name a.Name=false then(true,s.2++[a]) else s).2.length≤s.2.length+1:=by split<;>simp
 generalize (if s.1=false∧Au x.Name a.Name=false then(true,s.2++[a]) else s)=t at this
 by_cases j:x.Name=a.Name
 ·simp only[j,yN];omega
 ·simp only[j,y8,wi,xY];omega
theorem R6(l:List AD)(a:AD)(B:BP l)(h:l.length≤1099511627776):G4 l a=some (CZ l a):=by
 unfold G4
 rw[qN l (Dy a) (λs k=>s.2.length≤2 * k) (λb k _ u=>by have:=eX a b l[k]!;show(Dy a b l[k]!).2.length≤_;omega) (λc b k w u=>by
  have C:b.length≤2 * k:=u
  unfold RI
  rw[wU (by simpa using w),AO w,AX (by omega)]
  simp only[AE]
  generalize l[k]! = x
  have E:app 32 b [a]=some (b++[a]):=Hn (by omega)
  have A:app 32 b [x]=some (b++[x]):=Hn (by omega)
  have F:app 32 (b++[a]) [x]=some (b++[a]++[x]):=Hn (by simp;omega)
  cases c
  ·simp only[zx,yQ,Am,AE,xt]
   unfold Dy
   cases J:Au x.Name a.Name
   ·by_cases q:x.Name=a.Name<;>simp[E,F,q]
   ·by_cases q:x.Name=a.Name<;>simp[A,q]
  ·have:((!true)==true)=false:=rfl
   rw[this,FL]
   simp only[AE,zg,yr,yO,y8,BU]
   unfold Dy
   by_cases q:x.Name=a.Name<;>simp[A,q]) (λc b=>by unfold RI;rw[ne (by simp)]) false [] (by simp)]
 have hp:=iK a l [] B
 have j:(l.foldl (Dy a) (false,([]:List AD))).2.length≤2 * l.length:=by
  have:∀(m:List AD) (s:Bool × List AD),(m.foldl (Dy a) s).2.length≤s.2.length+2 * m.length:=by
   intro m
   induction m with
   | nil=>intro s;simp
   | cons x m I=>intro s;rw[xM];have:=I (Dy a s x);have:=eX a s x;simp only[wm];omega
  have:=this l (false,[])
  simpa using this
 generalize l.foldl (Dy a) (false,([]:List AD))=s at hp j
 obtain⟨c,o⟩:=s
 simp only[BU]
 cases c
 ·simp only[zx,yN]
  rw[Hn (by simp at j;omega)]
  simpa using hp
 ·simpa using hp
def Di(g:AD→AD→List AD):List AD→List AD→List AD
 | [],[]=>[]
 | x::a,[]=>g x Ci++Di g a []
 | [],y::b=>g Ci y++Di g [] b
 | x::a,y::b=>if Au x.Name y.Name then g x Ci++Di g a (y::b) else if Au y.Name x.Name then g Ci y++Di g (x::a) b else g x y++Di g a b
  termination_by a b=>a.length+b.length
theorem qL l g(h:∀x y o,l x y o=o++g x y):∀(m:Nat) (a b c:List AD),a.length+b.length=m→Bf l a b c=c++Di g a b:=by
 intro m
 induction m using Nat.strongRecOn with
 | _ m q=>
  intro a b c j
  cases a with
  | nil=>
   cases b with
   | nil=>simp[Bf,Di]
   | cons y b=>rw[Bf,Di,q (m-1) (by simp at j;omega) [] b _ (by simp at j ⊢;omega),h];simp
  | cons x a=>
   cases b with
   | nil=>rw[Bf,Di,q (m-1) (by simp at j;omega) a [] _ (by simp at j ⊢;omega),h];simp
   | cons y b=>
    rw[Bf,Di]
    split
    ·rw[q (m-1) (by simp at j;omega) a (y::b) _ (by simp at j ⊢;omega),h];simp
    ·split
     ·rw[q (m-1) (by simp at j;omega) (x::a) b _ (by simp at j ⊢;omega),h];simp
     ·rw[q (m-2) (by simp at j;omega) a b _ (by simp at j ⊢;omega),h];simp
def UE(l:List AD)(n:List UInt8)(o:Option AD):Prop:=l=o.toList∧∀e,o=some e→e.Name=n
structure Nl(g:AD→AD→List AD)(G:Option AD→Option AD→Option AD):Prop where
 l:∀x:AD,x.Name≠[]→UE (g x Ci) x.Name (G (some x) none)
 r:∀y:AD,y.Name≠[]→UE (g Ci y) y.Name (G none (some y))
 b:∀x y:AD,x.Name=y.Name→x.Name≠[]→UE (g x y) x.Name (G (some x) (some y))
 n:G none none=none
theorem jl{o:Option AD}{j}{rest}(A:∀e,o=some e→e.Name=j)(q:∀e∈rest,Au j e.Name=true)(u:BP rest):BP (o.toList++rest)∧∀n,Ak (o.toList++rest) n=if j=n then o else Ak rest n:=by
 cases o with
 | none=>
  refine⟨u,λn=>?_⟩
  split
  ·rename_i h;subst h;exact HL λe l=>EZ (q e l)
  ·rfl
 | some x=>
  have w:=A x rfl
  refine⟨D1.2 ⟨λe l=>by rw[w];exact q e l,u⟩,λn=>?_⟩
  show Ak (x::rest) n=_
  rw[Ak,w]
def Nm(l:List AD):Prop:=∀e∈l,e.Name≠[]
theorem ro{g}{G}(hg:Nl g G):∀(m:Nat) (a b:List AD),a.length+b.length=m→BP a→BP b→Nm a→Nm b →
  (∀n,(∀e∈a,Au n e.Name=true)→(∀e∈b,Au n e.Name=true)→∀e∈Di g a b,Au n e.Name=true)∧BP (Di g a b)∧∀n,Ak (Di g a b) n=G (Ak a n) (Ak b n):=by
 intro m
 induction m using Nat.strongRecOn with
 | _ m ih=>
  intro a b T V U O J
  have tail:∀ {l:List AD} {I:List UInt8} {o:Option AD} {a' b':List AD},UE l I o→a'.length+b'.length<m→BP a'→BP b'→Nm a'→Nm b'→(∀e∈a',Au I e.Name=true)→(∀e∈b',Au I e.Name=true) →
    (∀n,Au n I=true→∀e∈l++Di g a' b',Au n e.Name=true)∧BP (l++Di g a' b')∧∀n,Ak (l++Di g a' b') n=if I=n then o else G (Ak a' n) (Ak b' n):=by
   rintro l I o a' b' ⟨rfl,ho⟩ q X Y Z a0 u B
   obtain⟨i1,i2,i3⟩:=ih _ q a' b' rfl X Y Z a0
   obtain⟨j1,j2⟩:=jl ho (i1 I u B) i2
   refine⟨λn A e j=>?_,j1,λn=>by rw[j2 n,i3 n]⟩
   rcases xZ.1 j with j | j
   ·rw[Option.mem_toList] at j;rw[ho e j];exact A
   ·exact Gu A (i1 I u B e j)
  cases a with
  | nil=>
   cases b with
   | nil=>exact⟨λn _ _ e j=>by simp[Di] at j,by simp[Di,BP],λn=>by simp[Di,Ak,hg.n]⟩
   | cons y b=>
    have u:=D1.1 U
    have hy:=J y (wZ ..)
    rw[Di]
    obtain⟨C,E,F⟩:=tail (a':=[]) (b':=b) (hg.r y hy) (by simp at T ⊢;omega) V u.2 O (λe j=>J e (we _ j)) (λe j=>by cases j) u.1
    refine⟨λn _ h e j=>C n (h y (wZ ..)) e j,E,λn=>?_⟩
    rw[F n]
    conv=>rhs;rw[Ak,Ak]
    split
    ·rfl
    ·rfl
  | cons x a=>
   have u:=D1.1 V
   have hx:=O x (wZ ..)
   cases b with
   | nil=>
    rw[Di]
    obtain⟨C,E,F⟩:=tail (a':=a) (b':=[]) (hg.l x hx) (by simp at T ⊢;omega) u.2 U (λe j=>O e (we _ j)) J u.1 (λe j=>by cases j)
    refine⟨λn h _ e j=>C n (h x (wZ ..)) e j,E,λn=>?_⟩
    rw[F n]
    conv=>rhs;rw[Ak,Ak]
    split
    ·rfl
    ·rfl
   | cons y b=>
    have B:=D1.1 U
    have hy:=J y (wZ ..)
    rw[Di]
    split
    ·rename_i q
     obtain⟨C,E,F⟩:=tail (a':=a) (b':=y::b) (hg.l x hx) (by simp at T ⊢;omega) u.2 U (λe j=>O e (we _ j)) J u.1 (λe j=>by
      rcases wo.1 j with rfl | j
      ·exact q
      ·exact Gu q (B.1 e j))
     refine⟨λn h _ e j=>C n (h x (wZ ..)) e j,E,λn=>?_⟩
     rw[F n]
     by_cases A:x.Name=n
     ·subst A
      rw[wU rfl,Ak,wU rfl,HL λe j=>by
       rcases wo.1 j with rfl | j
       ·exact EZ q
       ·exact EZ (Gu q (B.1 e j))]
     ·rw[ne A];conv=>rhs;rw[Ak,ne A]
    ·rename_i q
     split
     ·rename_i w
      obtain⟨C,E,F⟩:=tail (a':=x::a) (b':=b) (hg.r y hy) (by simp at T ⊢;omega) V B.2 O (λe j=>J e (we _ j)) (λe j=>by
       rcases wo.1 j with rfl | j
       ·exact w
       ·exact Gu w (u.1 e j)) B.1
      refine⟨λn _ h e j=>C n (h y (wZ ..)) e j,E,λn=>?_⟩
      rw[F n]
      by_cases A:y.Name=n
      ·subst A
       rw[wU rfl]
       conv=>rhs;rw[HL (l:=x::a) (λe j=>by
        rcases wo.1 j with rfl | j
        ·exact EZ w
        ·exact EZ (Gu w (u.1 e j))),Ak,wU rfl]
      ·rw[ne A];conv=>rhs;arg 2;rw[Ak,ne A]
     ·rename_i w
      have M:x.Name=y.Name:=by
       have:=NL x.Name y.Name
       rw[yS.2 q,yS.2 w] at this
       simpa using this
      obtain⟨C,E,F⟩:=tail (a':=a) (b':=b) (hg.b x y M hx) (by simp at T ⊢;omega) u.2 B.2 (λe j=>O e (we _ j)) (λe j=>J e (we _ j)) u.1 (λe j=>by rw[M];exact B.1 e j)
      refine⟨λn h _ e j=>C n (h x (wZ ..)) e j,E,λn=>?_⟩
      rw[F n]
      conv=>rhs;rw[Ak,Ak,← M]
      split<;>rfl
def GP:Option AD→Option AD→Option AD
 | o,none=>o
 | _,some y=>if y.Value=[] then none else some y
def Ol:Option AD→Option AD→Option AD
 | o,none=>o
 | _,some y=>some y
def NX:Option AD→Option AD→Option AD
 | o,none=>o
 | _,some _=>none
theorem Pa{j}{g}{G}(h:∀x y o,j x y o=o++g x y)(hg:Nl g G){a b}(l:BP a)(q:BP b)(u:Nm a)(w:Nm b) :
  BP (Bf j a b [])∧∀n,Ak (Bf j a b []) n=G (Ak a n) (Ak b n):=by
 rw[qL j g h _ a b [] rfl,zK]
 exact(ro hg _ a b rfl l q u w).2
def Nt(x y:AD):List AD:=if y.Name=[] then [x] else if y.Value=[] then [] else [y]
def QO(x y:AD):List AD:=[if y.Name=[] then x else y]
def Mr(x y:AD):List AD:=if y.Name=[] then [x] else []
theorem SP:Nl Nt GP:=by
 refine⟨λx q=>⟨by simp[Nt,GP,Ci],by rintro e ⟨⟩;rfl⟩,λy u=>⟨?_,?_⟩,λx y l q=>⟨?_,?_⟩,rfl⟩
 ·simp only[Nt,GP,ne u];split<;>rfl
 ·intro e j;simp only[GP] at j;split at j<;>cases j;rfl
 ·rw[l] at q;simp only[Nt,GP,ne q];split<;>rfl
 ·intro e j;simp only[GP] at j;split at j<;>cases j;exact l.symm
theorem jf:Nl QO Ol:=by
 refine⟨λx l=>⟨by simp[QO,Ol,Ci],by rintro e ⟨⟩;rfl⟩,λy q=>⟨by simp[QO,Ol,ne q],by rintro e ⟨⟩;rfl⟩,λx y j l=>⟨?_,?_⟩,rfl⟩
 ·rw[j] at l;simp[QO,Ol,ne l]
 ·rintro e ⟨⟩;exact j.symm
theorem iI:Nl Mr NX:=by
 refine⟨λx j=>⟨by simp[Mr,NX,Ci],by rintro e ⟨⟩;rfl⟩,λy q=>⟨by simp[Mr,NX,ne q],by rintro e ⟨⟩⟩,λx y l j=>⟨?_,by rintro e ⟨⟩⟩,rfl⟩
 rw[l] at j;simp[Mr,NX,ne j]
theorem Sf(x y o):Ew x y o=o++Nt x y:=by unfold Ew Nt;split;rfl;split;simp;rfl
theorem vR(x y o):FF x y o=o++QO x y:=rfl
theorem Y6(x y o):FC x y o=o++Mr x y:=by unfold FC Mr;split;rfl;simp
theorem sf{l:List AD}(h:∀k,k+1<l.length→Au l[k]!.Name l[k+1]!.Name=true):BP l:=by
 induction l with
 | nil=>exact List.Pairwise.nil
 | cons x l w=>
  have q:=w λk A=>by have:=h (k+1) (by simp;omega);simpa using this
  refine D1.2 ⟨λe j=>?_,q⟩
  cases l with
  | nil=>cases j
  | cons y l=>
   have u:Au x.Name y.Name=true:=by have:=h 0 (by simp);simpa using this
   rcases wo.1 j with rfl | j
   ·exact u
   ·exact Gu u ((D1.1 q).1 e j)
theorem Dv{l:List AD}{ch:Bool}(h:Ah l ch=0):BP l∧Nm l∧(ch=false→∀e∈l,e.Value≠[]):=by
 have hn:∀k,k<l.length→Eh l ch k=none:=by
  intro k hk
  unfold Ah at h
  cases hf:(List.range l.length).findSome? (Eh l ch) with
  | none=>exact(fj _ _).1 hf k hk
  | some r=>
   rw[hf] at h
   obtain⟨j,_,hj⟩:=xq hf
   exfalso
   unfold Eh at hj
   simp only[zE] at h
   subst h
   repeat' split at hj
   all_goals simp at hj
 have hname:∀k,k<l.length→D7 l[k]!.Name=true∧¬ (DR l[k]!.Value=false∧¬ (ch=true∧l[k]!.Value=[]))∧¬ (0<k∧Au l[k-1]!.Name l[k]!.Name=false):=by
  intro k hk
  have:=hn k hk
  unfold Eh at this
  split at this
  ·cases this
  ·split at this
   ·cases this
   ·split at this
    ·cases this
    ·exact⟨by rcases hx:D7 l[k]!.Name with _ | _;exact absurd hx (by assumption);rfl,‹_›,‹_›⟩
 refine⟨sf λk hk=>?_,λe he=>?_,λhc e he=>?_⟩
 ·have:=(hname (k+1) hk).2.2
  rw[Nat.add_sub_cancel] at this
  simpa using this
 ·obtain⟨k,hk,rfl⟩:=xp.1 he
  have:=(hname k hk).1
  rw[wg l k hk] at this
  intro e0
  rw[e0] at this
  simp[D7] at this
 ·obtain⟨k,hk,rfl⟩:=xp.1 he
  have:=(hname k hk).2.1
  rw[wg l k hk,hc] at this
  intro e0
  apply this
  rw[e0]
  exact⟨rfl,by simp⟩
theorem gV(p:AD→Bool)(h:AD→AD)(j:∀x,(h x).Name=x.Name):∀(l o:List AD),BP l→BP o →
  BP (l.foldl (λo x=>if p x then CZ o (h x) else o) o)∧∀n,Ak (l.foldl (λo x=>if p x then CZ o (h x) else o) o) n=match Ak l n with | some x=>if p x then some (h x) else Ak o n | none=>Ak o n
 | [],o,_,q=>⟨q,λn=>rfl⟩
 | x::l,o,B,q=>by
  have A:=D1.1 B
  have w:BP (if p x then CZ o (h x) else o):=by split;exact Mh _ q;exact q
  obtain⟨C,E⟩:=gV p h j l _ A.2 w
  refine⟨C,λn=>?_⟩
  rw[xM,E n,Ak]
  by_cases u:x.Name=n
  ·subst u
   rw[wU rfl,HL λe F=>EZ (A.1 e F)]
   cases hp:p x
   ·simp[hp]
   ·simp[hp,Tg,j]
  ·rw[ne u]
   cases I:Ak l n with
   | some z => 
    cases hp:p x
    ·simp[hp]
    ·simp[hp,Tg,j,u]
   | none=>
    cases hp:p x
    ·simp[hp]
    ·simp[hp,Tg,j,u]
theorem s7(p:AD→Bool)(h:AD→AD)(l o:List AD):(l.foldl (λo x=>if p x then CZ o (h x) else o) o).length≤o.length+l.length:=by
 induction l generalizing o with
 | nil=>simp
 | cons x l j=>
  rw[xM]
  have q:=j (if p x then CZ o (h x) else o)
  have u:(if p x then CZ o (h x) else o).length≤o.length+1:=by split;exact KL _ _;omega
  simp only[wm]
  omega
def Fd(l o:List AD):List AD:=l.foldl (λo x=>if(λ_=>true) x then CZ o (id x) else o) o
theorem WF{l o}(j:BP l)(q:BP o):BP (Fd l o)∧∀n,Ak (Fd l o) n=match Ak l n with | some x=>some x | none=>Ak o n:=by
 obtain⟨u,w⟩:=gV (λ_=>true) id (λ_=>rfl) l o j q
 refine⟨u,λn=>?_⟩
 unfold Fd
 rw[w n]
 cases Ak l n<;>simp
theorem YX(l o:List AD):(Fd l o).length≤o.length+l.length:=s7 _ _ _ _
theorem aN{f}(l o:List AD)(u:BP o)(C:o.length+l.length≤1099511627776)
 (w:∀b (k:Nat), k<l.length→f (b, (k:Int))=(AB (G4 b l[k]!) λo2 => AB (AK .i64 ((k:Int)+1)) λx => some (.inl (o2, x)))) (A:∀b, f (b, (l.length:Int))=some (.inr b)):iter f (o, 0)=some (Fd l o) := by
  unfold Fd
  refine qB l _ (λb k => BP b∧b.length≤o.length+k) (λb k q ⟨j, B⟩ => ?_) (λb k q ⟨j, B⟩ => ?_) A o ⟨u, by omega⟩
  · have := KL b l[k]!
    exact⟨Mh _ j, by show(CZ b l[k]!).length≤_;omega⟩
  · rw[w b k q, R6 b _ j (by omega), AE, AX (by omega)];rfl
def FD(l:List AD):List AD:=l.filter λa=>!(a.Value=[])
theorem nT{l}(h:BP l):BP (FD l)∧∀n,Ak (FD l) n=(Ak l n).filter λa=>!(a.Value=[]):=by
 induction l with
 | nil=>exact⟨List.Pairwise.nil,λn=>rfl⟩
 | cons x l C=>
  have w:=D1.1 h
  obtain⟨A,B⟩:=C w.2
  have j:∀e∈FD l,Au x.Name e.Name=true:=λe u=>w.1 e (zM.1 u).1
  by_cases q:x.Value=[]
  ·have:FD (x::l)=FD l:=by simp[FD,q]
   rw[this]
   refine⟨A,λn=>?_⟩
   rw[Ak]
   split
   ·rename_i E;subst E
    rw[HL λe u=>EZ (j e u)]
    simp[Option.filter,q]
   ·exact B n
  ·have:FD (x::l)=x::FD l:=by simp[FD,q]
   rw[this]
   refine⟨D1.2 ⟨j,A⟩,λn=>?_⟩
   rw[Ak,Ak]
   split
   ·simp[Option.filter,q]
   ·exact B n
theorem lU(l q:List AD)(B:BP l)(hc:BP q)(h:l.length+q.length≤1099511627776):Hj l q=some (FD (Fd q (Fd l []))):=by
 unfold Hj
 have A:BP ([]:List AD):=List.Pairwise.nil
 have C:=(WF B A).1
 have w:=YX l []
 have E:=YX q (Fd l [])
 rw[aN l [] A (by simp;omega) (λb k j=>by unfold Pc;rw[wU (by simpa using j),AO j];rfl) (λb=>by unfold Pc;rw[ne (by simp)]),AE,
  aN q _ C (by simp at w;omega) (λb k j=>by unfold Oa;rw[wU (by simpa using j),AO j];rfl) (λb=>by unfold Oa;rw[ne (by simp)]),AE]
 generalize Fd q (Fd l [])=r at E
 rw[u6 r (λo x=>if x.Value=[] then o else o++[x]) (λb k=>b.length≤k) (λb k j F=>by split;omega;simp;omega) (λb k j F=>by
  unfold QV
  rw[wU (by simpa using j),AO j,AE,AX (by simp at w;omega)]
  generalize r[k]! = x
  by_cases u:x.Value=[]
  ·simp[u]
  ·have:=Hn (o:=b) (x:=x) (by simp at w;omega)
   simp[u,this]) (λb=>by unfold QV;rw[ne (by simp)]) [] (by simp),AE]
 have:∀(m o:List AD),m.foldl (λo x=>if x.Value=[] then o else o++[x]) o=o++FD m:=by
  intro m
  induction m with
  | nil=>intro o;simp[FD]
  | cons x m I=>
   intro o
   rw[xM,I]
   by_cases u:x.Value=[]
   ·simp[u,FD]
   ·simp[u,FD]
 rw[this];rfl
theorem o8{l j}(w:Ah l false=0)(A:Ah j true=0):Bf Ew l j []=FD (Fd j (Fd l [])):=by
 obtain⟨q,B,v1⟩:=Dv w
 obtain⟨u,C,_⟩:=Dv A
 have E:BP ([]:List AD):=List.Pairwise.nil
 obtain⟨F,I⟩:=WF q E
 obtain⟨J,M⟩:=WF u F
 obtain⟨O,T⟩:=nT J
 obtain⟨U,V⟩:=Pa Sf SP q u B C
 refine Q5 U O λn=>?_
 rw[V,T,M,I]
 cases Z:Ak j n with
 | some y=>
  simp only[GP,Option.filter]
  by_cases X:y.Value=[]<;>simp[X]
 | none=>
  cases Y:Ak l n with
  | some x=>simp[GP,Option.filter,v1 rfl x (SU Y).2]
  | none=>simp[GP,Ak,Option.filter]
theorem dA{ρ:Type}(g:AD→Option ρ)(l:List AD):(List.range l.length).findSome? (λk=>g l[k]!)=l.findSome? g:=by
 induction l with
 | nil=>rfl
 | cons a l j=>
  rw[wm,List.range_succ_eq_map,yE,List.findSome?_map,yE]
  have:(List.range l.length).findSome? ((λk=>g (a::l)[k]!) ∘ Nat.succ)=l.findSome? g:=by
   rw[← j];exact gp λk _=>by simp
  rw[this]
  simp
theorem ef{ρ:Type}(l:List AD)(n:List UInt8)(v:AD→ρ):(l.findSome? λx=>if x.Name=n then some (v x) else none)=(Ak l n).map v:=by
 induction l with
 | nil=>rfl
 | cons x l j=>
  rw[yE,Ak]
  by_cases h:x.Name=n
  ·simp[h]
  ·simp[h,j]
theorem nD(l:List AD)(n:List UInt8):C1 l n=match Ak l n with | some x=>x.Value | none=>[]:=by
 unfold C1
 rw[dA (λx=>if x.Name=n then some x.Value else none) l,ef l n (·.Value)]
 cases Ak l n<;>rfl
theorem Z7(l:List AD)(n:List UInt8)(q:l.length≤9223372036854775807):M4 l n=some (Ak l n).isSome:=by
 unfold M4
 rw[CA (n:=l.length) (λk=>(λx:AD=>if x.Name=n then some true else none) l[k]!) (λk j=>by
  unfold O5
  rw[wU (by simpa using j),AO j,AE,AX (by omega)]
  generalize l[k]! = x
  by_cases h:x.Name=n<;>simp[h,CG]) (by unfold O5;rw[ne (by simp)]),dA (λx:AD=>if x.Name=n then some true else none) l,ef l n (λ_=>true),EK]
 cases Ak l n<;>rfl
def E4(a b:List AD):List AD:=a.filter λx=>!(Ak b x.Name).isSome
theorem jg{a}(b:List AD)(h:BP a):BP (E4 a b)∧∀n,Ak (E4 a b) n=NX (Ak a n) (Ak b n):=by
 induction a with
 | nil=>exact⟨List.Pairwise.nil,λn=>by cases Ak b n<;>rfl⟩
 | cons x l E=>
  have A:=D1.1 h
  obtain⟨B,C⟩:=E A.2
  have j:∀e∈E4 l b,Au x.Name e.Name=true:=λe u=>A.1 e (zM.1 u).1
  cases q:Ak b x.Name with
  | some y=>
   have:E4 (x::l) b=E4 l b:=by simp[E4,q]
   rw[this]
   refine⟨B,λn=>?_⟩
   rw[Ak]
   split
   ·rename_i w;subst w
    rw[HL λe u=>EZ (j e u),q];rfl
   ·exact C n
  | none=>
   have:E4 (x::l) b=x::E4 l b:=by simp[E4,q]
   rw[this]
   refine⟨D1.2 ⟨j,B⟩,λn=>?_⟩
   rw[Ak,Ak]
   split
   ·rename_i w;subst w;rw[q];rfl
   ·exact C n
theorem kB{a b}(j:BP a)(l:BP b)(q:Nm a)(u:Nm b):Bf FC a b []=E4 a b:=by
 obtain⟨w,A⟩:=jg b j
 obtain⟨B,C⟩:=Pa Y6 iI j l q u
 exact Q5 B w λn=>by rw[C,A]
theorem SK j(h:∀x y o,(j x y o).length≤o.length+1):∀(m:Nat) (a b c:List AD),a.length+b.length=m→(Bf j a b c).length≤c.length+m:=by
 intro m
 induction m using Nat.strongRecOn with
 | _ m q=>
  intro a b c l
  cases a with
  | nil=>
   cases b with
   | nil=>simp[Bf]
   | cons y b=>rw[Bf];have:=q (m-1) (by simp at l;omega) [] b (j Ci y c) (by simp at l ⊢;omega);have:=h Ci y c;simp at l;omega
  | cons x a=>
   cases b with
   | nil=>rw[Bf];have:=q (m-1) (by simp at l;omega) a [] (j x Ci c) (by simp at l ⊢;omega);have:=h x Ci c;simp at l;omega
   | cons y b=>
    rw[Bf]
    split
    ·have:=q (m-1) (by simp at l;omega) a (y::b) (j x Ci c) (by simp at l ⊢;omega);have:=h x Ci c;simp at l;omega
    ·split
     ·have:=q (m-1) (by simp at l;omega) (x::a) b (j Ci y c) (by simp at l ⊢;omega);have:=h Ci y c;simp at l;omega
     ·have:=q (m-2) (by simp at l;omega) a b (j x y c) (by simp at l ⊢;omega);have:=h x y c;simp at l;omega
theorem EG{σ β:Type}{f}(n:Nat)(R:Nat→σ→Prop)(Q:β→Prop)
 (w:∀k s, k<n→R k s→(∃j, f s=some (.inl j)∧R (k+1) j)∨(∃b, f s=some (.inr b)∧Q b))
 (A:∀s, R n s→∃b, f s=some (.inr b)∧Q b) {s} (B:R 0 s):∃b, iter f s=some b∧Q b := by
  have key:∀m k s, k+m=n→R k s→∃b, iter f s=some b∧Q b := by
    intro m
    induction m with
    | zero =>
      intro k s C l
      obtain rfl:k=n := by omega
      obtain⟨b, E, F⟩ := A s l
      exact⟨b, Bq E, F⟩
    | succ m I =>
      intro k s C l
      rcases w k s (by omega) l with ⟨j, q, u⟩ | ⟨b, q, u⟩
      · obtain⟨b, J, M⟩ := I (k+1) j (by omega) u
        exact⟨b, by rw[Cv q, J], M⟩
      · exact⟨b, Bq q, u⟩
  exact key n 0 s (by omega) B
theorem Gg{α:Type}[Inhabited α]{l:List α}{k}(h:k<l.length):l.drop k=l[k]!::l.drop (k+1):=by
 rw[yR h,wg l k h]
theorem Hq{α:Type}[Inhabited α]{l:List α}{k}(h:k<l.length):l.take (k+1)=l.take k++[l[k]!]:=by
 rw[List.take_add_one,wd h,wg l k h];rfl
theorem BA{α:Type}[Inhabited α]{l:List α}{k}(h:k<l.length):l[k]! ∈ l:=by
 rw[wg l k h];exact yZ h
theorem tc{ρ:Type}{n k:Nat}{g:Nat→Option ρ}{r:ρ}(w:k<n)(l:∀j,j<k→g j=none)(q:g k=some r):(List.range n).findSome? g=some r:=by
 obtain⟨m,rfl⟩:∃m,n=k+(m+1):=⟨n-k-1,by omega⟩
 rw[zS,← List.range'_append (s:=0) (m:=k) (n:=m+1) (step:=1),List.findSome?_append]
 have:(List.range' 0 k).findSome? g=none:=by
  rw[xo];intro x u;exact l x (by simpa using u)
 rw[this,zO,xE,WAK,yE,q];rfl
theorem dW{ρ:Type}{n:Nat}{g:Nat→Option ρ}(l:∀j,j<n→g j=none):(List.range n).findSome? g=none:=by
 rw[xo];intro x q;exact l x (by simpa using q)
theorem Lc{x}(j : -9223372036854775808≤x)(l:x≤9223372036854775807):AK .i64 x=some x:=Bk j l
theorem IX x j l:CV x j l=some ((j≤x)&&(x≤l)):=by
 unfold CV
 rfl
theorem rx{α σ β γ:Type}[Inhabited α]{f}(l:List α)(mk:γ→Nat→σ)(j:List α→γ→β)(I:Nat→γ→Prop)
 (A:∀k c, k<l.length→I k c→(∃q, f (mk c k)=some (.inl (mk q (k+1)))∧I (k+1) q∧j (l[k]!::l.drop (k+1)) c=j (l.drop (k+1)) q)∨f (mk c k)=some (.inr (j (l[k]!::l.drop (k+1)) c)))
 (B:∀c, I l.length c→f (mk c l.length)=some (.inr (j [] c))) (c:γ) (C:I 0 c) (s:σ) (E:s=mk c 0):iter f s=some (j l c) := by
  subst E
  have key:∀m k c, k+m=l.length→I k c→iter f (mk c k)=some (j (l.drop k) c) := by
    intro m
    induction m with
    | zero =>
      intro k c F u
      obtain rfl:k=l.length := by omega
      rw[zH]
      exact Bq (B c u)
    | succ m J =>
      intro k c F u
      rw[Gg (by omega)]
      rcases A k c (by omega) u with ⟨q, w, M, O⟩ | w
      · rw[Cv w, J (k+1) q (by omega) M, O]
      · exact Bq w
  have := key l.length 0 c (by omega) C
  rwa [List.drop_zero] at this
theorem UN{o:List Int}{x}(h:o.length+1≤1099511627776):app 8 o [x]=some (o++[x]):=by
 unfold app;rw[wU (by simp;omega)]
def ER(c:Int):Bool:=(c=9)||(c=10)||((32≤c)&&(c≤126))||((160≤c)&&(c≤55295))||((57344≤c)&&(c≤1114111))
def Bb(x:AC):Int:=
 if(x.Char=0∧x.Ref=0)∨(x.Char≠0∧x.Ref≠0) then 4 else if(x.Char≠0∧ER x.Char=false)∨(x.Ref≠0∧¬ (1≤x.Ref∧x.Ref≤1073741824)) then 2 else Ah x.Attrs false
def EA(x:AC):Prop:=x.Attrs.length≤9223372036854775807∧GC x.Attrs
theorem S9 c:Jh c=some (ER c):=by
 unfold Jh ER
 congr 1
 rw[xf]
 simp only[wh,wY,wV]
 omega
theorem TV c:JU c=some (ER c):=by
 unfold JU ER
 rw[IX,IX,IX]
 generalize decide (c=9)=j
 generalize decide (c=10)=l
 generalize ((32≤c)&&(c≤126))=a3
 generalize ((160≤c)&&(c≤55295))=a4
 generalize ((57344≤c)&&(c≤1114111))=a5
 cases j<;>cases l<;>cases a3<;>cases a4<;>cases a5<;>rfl
theorem XK(x:AC)(h:EA x):L6 x=some (Bb x):=by
 unfold L6 Bb
 rw[S9,OR _ h.2 h.1]
 by_cases c:x.Char=0
 ·by_cases r:x.Ref=0
  ·simp[c,r]
  ·by_cases q:1≤x.Ref∧x.Ref≤1073741824
   ·have j:¬ x.Ref<1:=by omega
    have l:¬ 1073741824<x.Ref:=by omega
    simp[c,r,q,j,l]
   ·have j:x.Ref<1∨1073741824<x.Ref:=by omega
    simp[c,r,q,j]
 ·by_cases r:x.Ref=0
  ·cases u:ER x.Char<;>simp[c,r,u]
  ·simp[c,r]
theorem WR(x:AC)(h:EA x):MZ x=some (Bb x):=by
 unfold MZ Bb
 rw[TV,Pi _ _ h.2 h.1,IX]
 by_cases c:x.Char=0
 ·by_cases r:x.Ref=0
  ·simp[c,r]
  ·by_cases q:1≤x.Ref∧x.Ref≤1073741824
   ·simp[c,r,q]
   ·have j:((1≤x.Ref)&&(x.Ref≤1073741824))=false:=by rw[← xy];simpa using q
    simp[c,r,q,j]
 ·by_cases r:x.Ref=0
  ·cases l:ER x.Char<;>simp[c,r,l]
  ·simp[c,r]
def EF(f:List AC)(k:Nat):Option Int:=if Bb f[k]! = 0 then none else some (Bb f[k]!)
def Ep(f:List AC):Int:=((List.range f.length).findSome? (EF f)).getD 0
theorem pY(f:List AC)(h:∀x∈f,EA x)(l:f.length≤9223372036854775807):RH f=some (Ep f):=by
 unfold RH
 rw[CA (n:=f.length) (EF f) (λk j=>by
  unfold Pq EF
  rw[wU (by simpa using j),AO j,AE,AX (by omega),XK _ (h _ (BA j)),AE]
  by_cases e:Bb f[k]! = 0
  ·rw[ne (by simpa using e),wU e];rfl
  ·rw[wU (by simpa using e),ne e];rfl) (by unfold Pq;rw[ne (by simp)]),Ey];rfl
theorem uk(f:List AC)(h:∀x∈f,EA x)(l:f.length≤9223372036854775807):OE f=some (Ep f):=by
 unfold OE
 rw[CA (n:=f.length) (EF f) (λk j=>by
  unfold Py EF
  rw[wU (by simpa using j),AO j,AE,AX (by omega),WR _ (h _ (BA j)),AE]
  by_cases e:Bb f[k]! = 0
  ·rw[ne (by simpa using e),wU e];rfl
  ·rw[wU (by simpa using e),ne e];rfl) (by unfold Py;rw[ne (by simp)]),Ey];rfl
theorem QR{f:List AC}(h:Ep f=0){k}(w:k<f.length):Bb f[k]! = 0:=by
 unfold Ep at h
 cases l:(List.range f.length).findSome? (EF f) with
 | some e=>
  rw[l] at h
  have h:e=0:=h
  subst h
  obtain⟨j,_,q⟩:=xq l
  unfold EF at q
  split at q
  ·cases q
  ·rename_i u;exact absurd (xc q) u
 | none=>
  rw[xo] at l
  have:=l k (xP.2 w)
  unfold EF at this
  split at this
  ·rename_i u;exact u
  ·cases this
theorem dR{x:AC}(h:Bb x=0):Ah x.Attrs false=0:=by
 unfold Bb at h
 split at h
 ·cases h
 ·split at h
  ·cases h
  ·exact h
def Nw:List UInt8:=[104,105,100,100,101,110]
def NG:List UInt8:=[111,110]
def Ty:List UInt8:=[99,117,116]
def Xg:List UInt8:=[97,100,100]
def CQ(x:AC)(j:Int):Bool:=(C1 x.Attrs Nw=NG)||((j=0)&&!(C1 x.Attrs Ty=[]))||((j=1)&&!(C1 x.Attrs Xg=[]))
theorem rW(x:AC) j(h:EA x):PB x j=some (CQ x j):=by
 unfold PB CQ
 rw[Oj _ _ h.1,Oj _ _ h.1,Oj _ _ h.1,AE]
 show(AB (gd ((decide (C1 x.Attrs Nw=NG)==false)&&(decide (j=0)==true)) (some (C1 x.Attrs Ty))) λ(l:List UInt8)=>
  AB (gd ((((C1 x.Attrs Nw=NG)||((j=0)&&!(l=[])))==false)&&(decide (j=1)==true)) (some (C1 x.Attrs Xg))) λ(w:List UInt8)=>
   some (((C1 x.Attrs Nw=NG)||((j=0)&&!(l=[])))||((j=1)&&!(w=[]))))=_
 cases decide (C1 x.Attrs Nw=NG)
 ·by_cases q:j=0
  ·subst q
   cases A:decide (C1 x.Attrs Ty=[])<;>simp[A]
  ·by_cases u:j=1
   ·subst u;simp
   ·simp[q,u]
 ·simp
def CO(f:List AC)(j:Int)(k:Nat):Bool:=!CQ f[k]! j||((k+1=f.length)&&(f[k]!.Char=10))
def shown(f:List AC)(j:Int)(k:Nat):List Int:=((List.range k).filter (CO f j)).map λ(i:Nat)=>(i:Int)
theorem aY f j k:shown f j (k+1)=if CO f j k then shown f j k++[(k:Int)] else shown f j k:=by
 unfold shown
 rw[List.range_succ,WAA]
 split<;>rename_i h<;>simp[h]
theorem ec f j k:(shown f j k).length≤k:=by
 unfold shown
 rw[wq]
 exact xw (yy _ _) (by simp)
theorem pB(f:List AC) j(h:∀x∈f,EA x)(A:f.length≤1048576):Pt f j=some (shown f j f.length):=by
 unfold Pt
 obtain⟨b,u,w⟩:=EG (f:=λ(a:Int × (List Int))=>L4 f j a.1 a.2) f.length (λk s=>s=((k:Int),shown f j k)) (λb=>b=shown f j f.length)
  (λk s l q=>by
   subst q
   left
   have B:=ec f j k
   unfold L4
   simp only
   rw[wU (by simpa using l),AO l,AE,AX (by omega),rW _ _ (h _ (BA l)),AE,Lc (by omega) (by omega),UN (by omega),aY]
   unfold CO
   generalize f[k]! = x
   refine⟨_,?_,rfl⟩
   have e:decide ((k:Int)=(f.length:Int)-1)=decide (k+1=f.length):=by rw[xf];simp;omega
   cases CQ x j
   ·simp
   ·simp only[zg,yQ,Am,AE,yL,e]
    cases ((k+1=f.length)&&(x.Char=10))<;>rfl)
  (λs q=>by
   subst q
   unfold L4
   exact⟨_,by rw[ne (by simp)],rfl⟩) (s:=(0,[])) rfl
 rw[u,w];rfl
theorem fG(f:List AC) j(h:∀x∈f,EA x)(I:Ep f=0)(X:f.length≤1048576):HS f j=some (shown f j f.length):=by
 unfold HS
 obtain⟨b,J,M⟩:=EG (f:=λ(a:Int × (List Int))=>MG f j a.1 a.2) f.length (λk s=>s=((k:Int),shown f j k)) (λb=>b=shown f j f.length)
  (λk s q w=>by
   subst w
   left
   have Y:=ec f j k
   have B:=dR (QR I q)
   have u:=h _ (BA q)
   unfold MG
   simp only
   rw[wU (by simpa using q),AO q,AE,AX (by omega),Lc (by omega) (by omega),UN (by omega),aY]
   unfold CO
   generalize f[k]! = x at B u ⊢
   obtain⟨Z,n1,v1⟩:=Dv B
   have C:∀n,(Ak x.Attrs n).isSome=!(C1 x.Attrs n=[]):=λn=>by
    rw[nD]
    cases O:Ak x.Attrs n with
    | none=>rfl
    | some y=>have:=v1 rfl y (SU O).2;simp[this]
   rw[YG _ _ u.1,Z7 _ _ u.1,Z7 _ _ u.1,AE,C,C]
   refine⟨_,?_,rfl⟩
   have e:decide ((k:Int)=(f.length:Int)-1)=decide (k+1=f.length):=by rw[xf];simp;omega
   have key:∀b:Bool,(AB (gd (b==false) (some ((f.length:Int)-1))) λ(T:Int)=>if(b||(((k:Int)=T)&&(x.Char=10)))=true then(AB (some (shown f j k++[(k:Int)])) λl=>some l) else some (shown f j k)) =
     some (if(b||((k+1=f.length)&&(x.Char=10)))=true then shown f j k++[(k:Int)] else shown f j k):=by
    intro b
    cases b
    ·simp only[yQ,Am,AE,e];split<;>rfl
    ·rfl
   simp only[key]
   clear key e
   unfold CQ Nw NG Ty Xg
   generalize decide (k+1=f.length)=le
   generalize decide (x.Char=10)=ce
   generalize decide (C1 x.Attrs [104,105,100,100,101,110]=[111,110])=A
   generalize decide (C1 x.Attrs [99,117,116]=[])=U
   generalize decide (C1 x.Attrs [97,100,100]=[])=V
   by_cases E:j=0
   ·subst E
    cases A<;>cases U<;>cases le<;>cases ce<;>simp
   ·by_cases F:j=1
    ·subst F
     cases A<;>cases V<;>cases le<;>cases ce<;>simp
    ·cases A<;>cases le<;>cases ce<;>simp[E,F])
  (λs w=>by
   subst w
   unfold MG
   exact⟨_,by rw[ne (by simp)],rfl⟩) (s:=(0,[])) rfl
 rw[J,M];rfl
theorem BK{p}[Decidable p](h:¬ p):(!decide p)=true:=by simp[h]
theorem Bx{p}[Decidable p](h:p):¬ ((!decide p)=true):=by simp[h]
def CS(l:List AD):Prop:=l.length≤1073741824∧GC l
theorem CS.e{x:AC}(h:CS x.Attrs):EA x:=⟨by have:=h.1;omega,h.2⟩
structure GA(s:AH):Prop where
 at_:CS s.Attrs
 el:s.Elems.length≤1073741824
 ea:∀e∈s.Elems,CS e.Attrs
structure El(d:List AH):Prop where
 len:d.length≤1099511627776
 st:∀s∈d,GA s
 sum:(d.map λs=>s.Elems.length).sum≤1073741824
theorem dQ{f:List AC}(h:∀e∈f,CS e.Attrs):∀e∈f,EA e:=λe j=>(h e j).e
def Cb(s:AH):Int:=
 if s.Kind=1 then(if s.N≠0∨s.Attrs≠[] then 4 else if s.Elems=[] then 11 else Ep s.Elems)
 else if s.Kind=0∨s.Kind=2 then(if s.Elems≠[]∨(s.Kind=2∧s.Attrs≠[]) then 4 else if s.N<1∨2147483647<s.N then 2 else Ah s.Attrs true)
 else 8
theorem T9{α:Type}[DecidableEq α](l:List α):decide (0<(l.length:Int))=!(l=[]):=by
 by_cases h:l=[]
 ·subst h;rfl
 ·have:=xx.2 h
  rw[wX h,wW (by omega)];rfl
theorem Xm{α:Type}[DecidableEq α](l:List α):decide ((l.length:Int)=0)=decide (l=[]):=by
 by_cases h:l=[]
 ·subst h;rfl
 ·have:=xx.2 h
  rw[wX h,wX (by omega)]
theorem WY:∀(j l r q:Bool),j=false∨l=false→(j&&(!l||r))=(j&&(!l||q)):=by decide
theorem WL(s:AH)(h:GA s):Mk s=some (Cb s):=by
 have B:=h.at_.1
 have C:=h.el
 unfold Mk Cb
 rw[bO _ h.at_.2 (by omega),pY _ (dQ h.ea) (by omega),T9,T9,Xm]
 by_cases A:s.Kind=1
 ·have u:¬ s.Kind=0:=by omega
  have w:¬ s.Kind=2:=by omega
  simp only[A,AE]
  by_cases j:s.N=0<;>by_cases l:s.Attrs=[]<;>by_cases q:s.Elems=[]<;>simp[j,l,q]
 ·by_cases u:s.Kind=0
  ·simp only[u,AE]
   by_cases l:s.Attrs=[]<;>by_cases q:s.Elems=[]<;>by_cases j:s.N<1∨2147483647<s.N<;>simp[l,q,j]
  ·by_cases w:s.Kind=2
   ·simp only[w,AE]
    by_cases l:s.Attrs=[]<;>by_cases q:s.Elems=[]<;>by_cases j:s.N<1∨2147483647<s.N<;>simp[l,q,j]
   ·simp[u,A,w]
theorem o7(s:AH)(h:GA s):Q2 s=some (Cb s):=by
 have C:=h.at_.1
 have E:=h.el
 unfold Q2 Cb
 rw[Pi _ _ h.at_.2 (by omega),uk _ (dQ h.ea) (by omega),IX,IX,T9,T9,Xm]
 by_cases u:s.Kind=1
 ·simp only[u,AE]
  by_cases j:s.N=0<;>by_cases l:s.Attrs=[]<;>by_cases q:s.Elems=[]<;>simp[j,l,q]
 ·have B:(!((1≤s.N)&&(s.N≤2147483647)))=decide (s.N<1∨2147483647<s.N):=by
   rw[xf];simp only[xm,yo,wV,yF];omega
  simp only[AE]
  rw[B]
  by_cases w:s.Kind=0
  ·simp only[w]
   by_cases l:s.Attrs=[]<;>by_cases q:s.Elems=[]<;>by_cases j:s.N<1∨2147483647<s.N<;>simp[l,q,j]
  ·by_cases A:s.Kind=2
   ·simp only[A]
    by_cases l:s.Attrs=[]<;>by_cases q:s.Elems=[]<;>by_cases j:s.N<1∨2147483647<s.N<;>simp[l,q,j]
   ·have:(!((0≤s.Kind)&&(s.Kind≤2)))=true:=by
     rw[xm,yo];simp only[wV,yF];omega
    rw[this];simp[w,u,A]
structure E7(s:AH):Prop where
 kind:(s.Kind=0∧s.Elems=[]∧1≤s.N∧s.N≤2147483647∧Ah s.Attrs true=0)∨(s.Kind=2∧s.Elems=[]∧s.Attrs=[]∧1≤s.N∧s.N≤2147483647) ∨
  (s.Kind=1∧s.N=0∧s.Attrs=[]∧s.Elems≠[]∧Ep s.Elems=0)
theorem Qn{s:AH}(h:Cb s=0):E7 s:=by
 constructor
 unfold Cb at h
 by_cases u:s.Kind=1
 ·rw[wU u] at h
  by_cases j:s.N≠0∨s.Attrs≠[]
  ·rw[wU j] at h;cases h
  ·rw[ne j] at h
   by_cases q:s.Elems=[]
   ·rw[wU q] at h;cases h
   ·rw[ne q] at h
    refine .inr (.inr ⟨u,?_,?_,q,h⟩)
    ·exact xD λl=>j (.inl l)
    ·exact xD λl=>j (.inr l)
 ·rw[ne u] at h
  by_cases k:s.Kind=0∨s.Kind=2
  ·rw[wU k] at h
   by_cases j:s.Elems≠[]∨(s.Kind=2∧s.Attrs≠[])
   ·rw[wU j] at h;cases h
   ·rw[ne j] at h
    by_cases q:s.N<1∨2147483647<s.N
    ·rw[wU q] at h;cases h
    ·rw[ne q] at h
     have w:s.Elems=[]:=xD λl=>j (.inl l)
     rcases k with k | k
     ·exact .inl ⟨k,w,by omega,by omega,h⟩
     ·exact .inr (.inl ⟨k,w,xD λl=>j (.inr ⟨k,l⟩),by omega,by omega⟩)
  ·rw[ne k] at h;cases h
def Dg(p s:AH):Bool:=((p.Kind=s.Kind)&&(!(s.Kind=0)||(p.Attrs=s.Attrs)))||((p.Kind=2)&&(s.Kind=1))
def Bn(s:AH):Int:=if s.Kind=1 then 0 else s.N
def CY(s:AH):Int:=if s.Kind=2 then 0 else if s.Kind=1 then s.Elems.length else s.N
def Av(d:List AH):Int:=(d.map Bn).sum
def A7(d:List AH):Int:=(d.map CY).sum
theorem UO{d:List AH}{k}(h:k<d.length):Av (d.take (k+1))=Av (d.take k)+Bn d[k]!:=by rw[Hq h];simp[Av]
theorem Vp{d:List AH}{k}(h:k<d.length):A7 (d.take (k+1))=A7 (d.take k)+CY d[k]!:=by rw[Hq h];simp[A7]
def Eg(d:List AH)(k:Nat):Option Int:=if Cb d[k]!≠0 then some (Cb d[k]!) else if 0<k∧Dg d[k-1]! d[k]! = true then some 5 else none
def CH(d:List AH):Int:=match (List.range d.length).findSome? (Eg d) with
 | some e=>e
 | none=>if 2147483647<Av d∨2147483647<A7 d then 3 else 0
theorem gh{f:Int × Int × Int→Option ((Int × Int × Int) ⊕ (Ai (Int × Int) Int))}(n:Nat)(g:Nat→Option Int)(I:Nat→Int × Int→Prop)
  (h:∀(k:Nat) (a b:Int),k<n→(∀j,j<k→g j=none)→I k (a,b)→(∃e,g k=some e∧f (a,b,(k:Int))=some (.inr (.ext e)))∨(g k=none∧∃A B,f (a,b,(k:Int))=some (.inl (A,B,((k+1:Nat):Int)))∧I (k+1) (A,B)))
  (q:∀(a b:Int),I n (a,b)→f (a,b,(n:Int))=some (.inr (.nrm (a,b)))) {a0 b0:Int} (O:I 0 (a0,b0)) :
  (∃e,(List.range n).findSome? g=some e∧iter f (a0,b0,0)=some (.ext e))∨((List.range n).findSome? g=none∧∃a b,I n (a,b)∧iter f (a0,b0,0)=some (.nrm (a,b))):=by
 obtain⟨b,E,T⟩:=EG (f:=f) n (λk s=>s.2.2=(k:Int)∧I k (s.1,s.2.1)∧∀j,j<k→g j=none)
  (λb=>(∃e,(List.range n).findSome? g=some e∧b=.ext e)∨((List.range n).findSome? g=none∧∃x y,I n (x,y)∧b=.nrm (x,y)))
  (λk s F C=>by
   obtain⟨x,y,z⟩:=s
   obtain⟨rfl,w,hg⟩:=C
   rcases h k x y F hg w with ⟨e,l,u⟩ | ⟨l,A,B,u,U⟩
   ·exact .inr ⟨_,u,.inl ⟨e,tc F hg l,rfl⟩⟩
   ·refine .inl ⟨_,u,rfl,U,λj J=>?_⟩
    rcases yw j k with M | M
    ·exact hg j M
    ·obtain rfl:j=k:=by omega
     exact l)
  (λs C=>by
   obtain⟨x,y,z⟩:=s
   obtain⟨rfl,w,hg⟩:=C
   exact⟨_,q x y w,.inr ⟨dW hg,x,y,w,rfl⟩⟩) (s:=(a0,b0,0)) ⟨rfl,O,λj J=>absurd J (zt _)⟩
 rcases T with ⟨e,l,rfl⟩ | ⟨l,x,y,u,rfl⟩
 ·exact .inl ⟨e,l,E⟩
 ·exact .inr ⟨l,x,y,u,E⟩
theorem UR{s:AH}(h:E7 s)(j:GA s):0≤Bn s∧Bn s≤2147483647∧0≤CY s∧CY s≤2147483647∧(s.Kind≠2→s.N+s.Elems.length=CY s)∧(s.Kind≠2→Gh s=some (CY s)):=by
 have u:=j.el
 unfold Bn CY Gh
 rcases h.kind with ⟨k,e,l,q,_⟩ | ⟨k,e,_,l,q⟩ | ⟨k,n,_,_,_⟩
 ·rw[e];simp[k];omega
 ·rw[e];simp[k];omega
 ·simp[k,n];omega
theorem WI{d}{k}(h:Eg d k=none):Cb d[k]! = 0∧(0<k→Dg d[k-1]! d[k]! = false):=by
 unfold Eg at h
 by_cases c:Cb d[k]!≠0
 ·rw[wU c] at h;cases h
 ·rw[ne c] at h
  refine⟨wy.1 c,λj=>?_⟩
  cases l:Dg d[k-1]! d[k]! with
  | false=>rfl
  | true=>rw[wU ⟨j,l⟩] at h;cases h
theorem Ps(d:List AH)(h:El d):IO d=some (CH d):=by
 have hm:=h.len
 unfold IO CH
 rcases gh (f:=λ(a:Int × Int × Int)=>IM d a.1 a.2.1 a.2.2) d.length (Eg d) (λk c=>0≤Av (d.take k)∧0≤A7 (d.take k)∧c=(min (Av (d.take k)) 2147483648,min (A7 (d.take k)) 2147483648))
  (λk a b B _ hI=>by
   obtain⟨p1,p2,M⟩:=hI
   cases M
   have C:=h.st _ (BA B)
   show(∃e,_∧IM d (min (Av (d.take k)) 2147483648) (min (A7 (d.take k)) 2147483648) (k:Int)=_)∨(_∧∃a' b',IM d (min (Av (d.take k)) 2147483648) (min (A7 (d.take k)) 2147483648) (k:Int)=_∧_)
   unfold IM
   rw[wU (by simpa using B),AO B,AE,WL _ C,AE]
   by_cases l:Cb d[k]!≠0
   ·exact .inl ⟨_,by unfold Eg;rw[wU l],by rw[wU (by simpa using l)];rfl⟩
   rw[ne (by simpa using l)]
   have hg:=Qn (wy.1 l)
   obtain⟨z1,z2,z3,z4,z5,z6⟩:=UR hg C
   have E:∀(β:Type) (F:Unit→Option (Ai β ((Int × Int × Int) ⊕ (Ai (Int × Int) Int)))),(Aj (if(decide ((0:Int)<(k:Int))) then(AB (AK .i64 ((k:Int)-1)) λ(x8:Int)=>AB (AJ d x8) λ(O:AH)=>
     AB (gd (((decide (O.Kind=d[k]!.Kind))==true)&&((!(d[k]!.Kind=0))==false)) (Gb O.Attrs d[k]!.Attrs)) λ(r2:Bool)=>
     if(((O.Kind=d[k]!.Kind)&&((!(d[k]!.Kind=0))||r2))||((O.Kind=2)&&(d[k]!.Kind=1))) then(some (.ext (.ext (.inr (.ext 5))))) else(some (.nrm ()))) else(some (.nrm ()))) F) =
     if 0<k∧Dg d[k-1]! d[k]! = true then some (.ext (.inr (.ext 5))) else F ():=by
    intro β F
    by_cases q:0<k
    ·rw[wU (by simp;omega),Ec q (by omega),AE,AO (by omega),AE]
     have hp:=(h.st _ (BA (l:=d) (k:=k-1) (by omega))).at_.1
     have e:∀j:Bool→Option (Ai Unit (Ai β ((Int × Int × Int) ⊕ (Ai (Int × Int) Int)))),(∀r,((d[k-1]!.Kind=d[k]!.Kind)&&((!(d[k]!.Kind=0))||r))=((d[k-1]!.Kind=d[k]!.Kind)&&((!(d[k]!.Kind=0))||(d[k-1]!.Attrs=d[k]!.Attrs)))→j r=j (decide (d[k-1]!.Attrs=d[k]!.Attrs))) →
       AB (gd (((decide (d[k-1]!.Kind=d[k]!.Kind))==true)&&((!(d[k]!.Kind=0))==false)) (Gb d[k-1]!.Attrs d[k]!.Attrs)) j=j (decide (d[k-1]!.Attrs=d[k]!.Attrs)):=by
      intro j X
      rw[PU _ _ (by omega)]
      by_cases u:d[k-1]!.Kind=d[k]!.Kind<;>by_cases I:d[k]!.Kind=0
      ·rw[wW u,wW I];rfl
      ·rw[wW u,wX I]
       show j default=_
       exact X _ (WY _ _ _ _ (.inr (wX I)))
      ·rw[wX u,wW I]
       show j default=_
       exact X _ (WY _ _ _ _ (.inl (wX u)))
      ·rw[wX u,wX I]
       show j default=_
       exact X _ (WY _ _ _ _ (.inl (wX u)))
     rw[e _ (λr hr=>by rw[hr])]
     by_cases A:Dg d[k-1]! d[k]! = true
     ·rw[wU (c:=(_||_)=true) (by unfold Dg at A;exact A),wU ⟨q,A⟩];rfl
     ·rw[ne (c:=(_||_)=true) (by unfold Dg at A;exact A),ne (λY=>A Y.2)];rfl
    ·rw[ne (by simp;omega),ne (λY=>q Y.1)];rfl
   rw[E]
   by_cases J:0<k∧Dg d[k-1]! d[k]! = true
   ·exact .inl ⟨5,by unfold Eg;rw[ne l,wU J],by rw[wU J];rfl⟩
   ·rw[ne J]
    refine .inr ⟨by unfold Eg;rw[ne l,ne J],?_⟩
    rw[UO B,Vp B]
    clear E l J
    generalize Av (d.take k)=o at p1 ⊢
    generalize A7 (d.take k)=w at p2 ⊢
    by_cases T:d[k]!.Kind=1
    ·have U:Bn d[k]! = 0:=by unfold Bn;rw[wU T]
     rw[ne (Bx T),AE,wU (BK (by omega)),z6 (by omega),AE,Bk (by omega) (by omega),AE,FM,AX (by omega),AE]
     exact⟨_,_,rfl,by omega,by omega,by rw[U];congr 1<;>omega⟩
    ·have U:Bn d[k]! = d[k]!.N:=by unfold Bn;rw[ne T]
     rw[wU (BK T),Bk (by omega) (by omega),AE,AE]
     by_cases V:d[k]!.Kind=2
     ·have hw:CY d[k]! = 0:=by unfold CY;rw[wU V]
      rw[ne (Bx V),FM,AX (by omega),AE]
      exact⟨_,_,rfl,by omega,by omega,by rw[hw,← U];congr 1<;>omega⟩
     ·rw[wU (BK V),z6 V,AE,Bk (by omega) (by omega),AE,FM,AX (by omega),AE]
      exact⟨_,_,rfl,by omega,by omega,by rw[← U];congr 1<;>omega⟩)
  (λa b hI=>by
   show IM d a b (d.length:Int)=_
   unfold IM
   rw[ne (by simp)]) (a0:=0) (b0:=0) ⟨by simp[Av],by simp[A7],by simp[Av,A7];decide⟩ with ⟨e,Z,h2⟩ | ⟨Z,a,b,⟨_,_,M⟩,h2⟩
 ·rw[Z,h2];rfl
 ·rw[Z,h2,FM]
  rw[yP] at M
  cases M
  by_cases hx:2147483647<Av d∨2147483647<A7 d
  ·rw[wU (by simp;omega)];simp only;rw[wU hx]
  ·rw[ne (by simp;omega)];simp only;rw[ne hx]
theorem ql(p s:AH)(hp:p.Kind=0∨p.Kind=1∨p.Kind=2)(u:p.Attrs.length≤1073741824)(l:s.Kind=0∨s.Kind=1∨s.Kind=2){γ:Type}(A B:Option γ) :
  (if(decide (s.Kind=1)) then(if(!(p.Kind=0)) then A else B) else(if(decide (s.Kind=2)) then(if(decide (p.Kind=2)) then A else B) else
   (AB (gd ((decide (p.Kind=0))==true) (Fe p.Attrs s.Attrs)) λ(q:Bool)=>if((p.Kind=0)&&q) then A else B)))=if Dg p s=true then A else B:=by
 rw[MF _ _ (by omega)]
 unfold Dg
 rcases l with k | k | k<;>rcases hp with j | j | j<;>simp[k,j,default]
theorem JZ{s:AH}(h:E7 s):s.Kind=0∨s.Kind=1∨s.Kind=2:=by
 rcases h.kind with ⟨k,_⟩ | ⟨k,_⟩ | ⟨k,_⟩
 ·exact .inl k
 ·exact .inr (.inr k)
 ·exact .inr (.inl k)
theorem ol(d:List AH)(h:El d):Mc d=some (CH d):=by
 have hm:=h.len
 unfold Mc CH
 rcases gh (f:=λ(a:Int × Int × Int)=>Ij d a.1 a.2.1 a.2.2) d.length (Eg d)
  (λk c=>0≤Av (d.take k)∧0≤A7 (d.take k)∧(Av (d.take k)≤2147483647→c.1=Av (d.take k))∧(2147483647<Av (d.take k)→2147483647<c.1)∧0≤c.1∧c.1≤4294967296 ∧
   (A7 (d.take k)≤2147483647→c.2=A7 (d.take k))∧(2147483647<A7 (d.take k)→2147483647<c.2)∧0≤c.2∧c.2≤4294967296)
  (λk a b A B C=>by
   obtain⟨p1,p2,q1,q2,q3,q4,q5,q6,q7,q8⟩:=C
   dsimp only at q1 q2 q3 q4 q5 q6 q7 q8
   have E:=h.st _ (BA A)
   show(∃e,_∧Ij d a b (k:Int)=_)∨(_∧∃a' b',Ij d a b (k:Int)=_∧_)
   unfold Ij
   rw[wU (by simpa using A),AO A,AE,o7 _ E,AE]
   by_cases j:Cb d[k]!≠0
   ·exact .inl ⟨_,by unfold Eg;rw[wU j],by rw[wU (BK j)];rfl⟩
   rw[ne (Bx (wy.1 j))]
   have hg:=Qn (wy.1 j)
   obtain⟨z1,z2,z3,z4,z5,z6⟩:=UR hg E
   have I:∀(β:Type) (F:Unit→Option (Ai β ((Int × Int × Int) ⊕ (Ai (Int × Int) Int)))),(Aj (if(decide ((0:Int)<(k:Int))) then(AB (AK .i64 ((k:Int)-1)) λ(x7:Int)=>AB (AJ d x7) λ(J:AH)=>
      if(decide (d[k]!.Kind=1)) then(
       if(!(J.Kind=0)) then(
        some (.ext (.ext (.inr (.ext 5))))
       ) else(
        some (.nrm ())
       )
      ) else(
       if(decide (d[k]!.Kind=2)) then(
        if(decide (J.Kind=2)) then(
         some (.ext (.ext (.inr (.ext 5))))
        ) else(
         some (.nrm ())
        )
       ) else(
        AB (gd ((decide (J.Kind=0))==true) (Fe J.Attrs d[k]!.Attrs)) λ(M:Bool)=>
        if((J.Kind=0)&&M) then(
         some (.ext (.ext (.inr (.ext 5))))
        ) else(
         some (.nrm ())
        )
       )
      )) else(some (.nrm ()))) F) =
     if 0<k∧Dg d[k-1]! d[k]! = true then some (.ext (.inr (.ext 5))) else F ():=by
    intro β F
    by_cases l:0<k
    ·rw[wU (by rw[wV];omega),Ec l (by omega),AE,AO (by omega),AE]
     have hp:=(h.st _ (BA (l:=d) (k:=k-1) (by omega))).at_.1
     have Y:=JZ (Qn (WI (B (k-1) (by omega))).1)
     rw[ql _ _ Y hp (JZ hg)]
     by_cases q:Dg d[k-1]! d[k]! = true
     ·rw[wU q,wU ⟨l,q⟩];rfl
     ·rw[ne q,ne (λZ=>q Z.2)];rfl
    ·rw[ne (by rw[wV];omega),ne (λZ=>l Z.1)];rfl
   rw[I]
   by_cases O:0<k∧Dg d[k-1]! d[k]! = true
   ·exact .inl ⟨5,by unfold Eg;rw[ne j,wU O],by rw[wU O];rfl⟩
   ·rw[ne O]
    refine .inr ⟨by unfold Eg;rw[ne j,ne O],?_⟩
    rw[UO A,Vp A]
    clear I j O
    generalize Av (d.take k)=o at p1 q1 q2 ⊢
    generalize A7 (d.take k)=w at p2 q5 q6 ⊢
    have T:∃u,(if((!(d[k]!.Kind=1))&&(a<2147483648)) then(AB (AK .i64 (a+d[k]!.N)) λ(U:Int)=>some U) else some a)=some u∧(o+Bn d[k]!≤2147483647→u=o+Bn d[k]!)∧(2147483647<o+Bn d[k]!→2147483647<u)∧0≤u∧u≤4294967296:=by
     by_cases V:d[k]!.Kind=1
     ·have ho:Bn d[k]! = 0:=by unfold Bn;rw[wU V]
      rw[ne (by rw[wY];exact λh=>Bx V h.1)]
      exact⟨a,rfl,by omega,by omega,by omega,by omega⟩
     ·have ho:Bn d[k]! = d[k]!.N:=by unfold Bn;rw[ne V]
      by_cases ha:a<2147483648
      ·rw[wU (by rw[wY];exact⟨BK V,wW ha⟩),Bk (by omega) (by omega),AE]
       exact⟨_,rfl,by omega,by omega,by omega,by omega⟩
      ·rw[ne (by rw[wY];exact λh=>ha (yT h.2))]
       exact⟨a,rfl,by omega,by omega,by omega,by omega⟩
    obtain⟨u,e1,M,r2,r3,r4⟩:=T
    rw[e1,AE]
    by_cases X:d[k]!.Kind=2
    ·have hw:CY d[k]! = 0:=by unfold CY;rw[wU X]
     rw[ne (by rw[wY];exact λh=>Bx X h.1),FM,AX (by omega),AE]
     exact⟨_,_,rfl,by omega,by omega,M,r2,r3,r4,by dsimp only;omega,by dsimp only;omega,by dsimp only;omega,by dsimp only;omega⟩
    ·have hN:=z5 X
     by_cases q:b<2147483648
     ·rw[wU (by rw[wY];exact⟨BK X,wW q⟩),Bk (by omega) (by omega),AE,Bk (by omega) (by omega),AE,FM,AX (by omega),AE]
      exact⟨_,_,rfl,by omega,by omega,M,r2,r3,r4,by dsimp only;omega,by dsimp only;omega,by dsimp only;omega,by dsimp only;omega⟩
     ·rw[ne (by rw[wY];exact λh=>q (yT h.2)),FM,AX (by omega),AE]
      exact⟨_,_,rfl,by omega,by omega,M,r2,r3,r4,by dsimp only;omega,by dsimp only;omega,by dsimp only;omega,by dsimp only;omega⟩)
  (λa b C=>by
   show Ij d a b (d.length:Int)=_
   unfold Ij
   rw[ne (by simp)]) (a0:=0) (b0:=0) ⟨by simp[Av],by simp[A7],by simp[Av],by simp[Av],by simp,by simp,by simp[A7],by simp[A7],by simp,by simp⟩ with ⟨e,h1,h2⟩ | ⟨h1,a,b,C,h2⟩
 ·rw[h1,h2];rfl
 ·rw[h1,h2,FM]
  rw[yP] at C
  dsimp only at C
  by_cases hx:2147483647<Av d∨2147483647<A7 d
  ·rw[wU (by simp;omega)];simp only;rw[wU hx]
  ·rw[ne (by simp;omega)];simp only;rw[ne hx]
inductive Un where
 | a (e:AC)
 | r (cut:Bool) (at_:List AD)
def ES:List (List AC)→List Bool→List (List AD)→List Un
 | A::j,c::l,t::q=>A.map Un.a++Un.r c t::ES j l q
 | A::_,_,_=>A.map Un.a
 | [],_,_=>[]
structure DN(x:BT):Prop where
 adds:x.Adds.length=x.Cuts.length+1
 attrs:x.Attrs.length=x.Cuts.length
def BT.us(x:BT):List Un:=ES x.Adds x.Cuts x.Attrs
def Un.isR:Un→Bool
 | .a _=>false
 | .r _ _=>true
def Ao(us:List Un):Nat:=us.countP Un.isR
theorem iy:∀(cs:List Bool) (j:List (List AC)) (l:List (List AD)) (c:Bool) (t:List AD),j.length=cs.length+1→l.length=cs.length →
  ES (j++[[]]) (cs++[c]) (l++[t])=ES j cs l++[.r c t]
 | [],[A],[],c,t,_,_=>by simp[ES]
 | [],[],_,_,_,h,_=>by simp at h
 | [],_::_::_,_,_,_,h,_=>by simp at h
 | [],_,_::_,_,_,_,h=>by simp at h
 | B::cs,A::j,t0::l,c,t,q,u=>by
  have w:=iy cs j l c t (by simpa using q) (by simpa using u)
  simp only[ws,ES,w,wl]
 | _::_,[],_,_,_,h,_=>by simp at h
 | _::_,_,[],_,_,_,h=>by simp at h
theorem cP:∀(cs:List Bool) (j:List (List AC)) (l:List (List AD)) (A q:List AC),j.length=cs.length+1→l.length=cs.length→j[cs.length]?=some A →
  ES (j.set cs.length (A++q)) cs l=ES j cs l++q.map Un.a
 | [],[u],[],A,q,_,_,h=>by
  simp at h;subst h
  simp[ES]
 | [],[],_,_,_,h,_,_=>by simp at h
 | [],_::_::_,_,_,_,h,_,_=>by simp at h
 | [],_,_::_,_,_,_,h,_=>by simp at h
 | F::cs,u::j,t0::l,A,q,w,B,C=>by
  have E:=cP cs j l A q (by simpa using w) (by simpa using B) (by simpa using C)
  simp only[wm,WAB,ES,E,wl,ws]
 | _::_,[],_,_,_,h,_,_=>by simp at h
 | _::_,_,[],_,_,_,h,_=>by simp at h
theorem dF:∀(cs:List Bool) (j:List (List AC)) (q:List (List AD)),j.length=cs.length+1→q.length=cs.length→Ao (ES j cs q)=cs.length
 | [],[A],[],_,_=>by
  have:∀l:List AC,Ao (l.map Un.a)=0:=λl=>by induction l with
   | nil=>rfl
   | cons x l u=>simp[Ao,Un.isR]
  exact this A
 | [],[],_,h,_=>by simp at h
 | [],_::_::_,_,h,_=>by simp at h
 | [],_,_::_,_,h=>by simp at h
 | C::cs,E::j,t0::q,w,B=>by
  have u:=dF cs j q (by simpa using w) (by simpa using B)
  have:∀l:List AC,(l.map Un.a).countP Un.isR=0:=λl=>by induction l with
   | nil=>rfl
   | cons x l u=>simp[Un.isR]
  simp only[Ao,ES,List.countP_append,this,xz,Un.isR,yN,xE,wm] at u ⊢
  omega
 | _::_,[],_,h,_=>by simp at h
 | _::_,_,[],_,h=>by simp at h
theorem Yr:∀(cs:List Bool) (j:List (List AC)) (l:List (List AD)),j.length=cs.length+1→l.length=cs.length→∀A∈j,A.length≤(ES j cs l).length
 | [],[A],[],_,_=>by simp[ES]
 | [],[],_,h,_=>by simp at h
 | [],_::_::_,_,h,_=>by simp at h
 | [],_,_::_,_,h=>by simp at h
 | B::cs,C::j,t0::l,q,u=>by
  have w:=Yr cs j l (by simpa using q) (by simpa using u)
  intro A hA
  simp only[ES,wi,wq,wm]
  rcases wo.1 hA with rfl | hA
  ·omega
  ·have:=w A hA;omega
 | _::_,[],_,h,_=>by simp at h
 | _::_,_,[],_,h=>by simp at h
theorem ri(us:List Un):Ao us≤us.length:=yp
theorem DN.cnt{x:BT}(h:DN x):Ao x.us=x.Cuts.length:=dF _ _ _ h.adds h.attrs
theorem DN.cuts_le{x:BT}(h:DN x):x.Cuts.length≤x.us.length:=by rw[← h.cnt];exact ri _
theorem DN.add_le{x:BT}(h:DN x){k}(j:k<x.Adds.length):x.Adds[k]!.length≤x.us.length:=Yr _ _ _ h.adds h.attrs _ (BA j)
theorem uy:DN ⟨[[]],[],[]⟩:=⟨rfl,rfl⟩
theorem ky:(⟨[[]],[],[]⟩:BT).us=[]:=rfl
theorem gP{x:BT}(h:DN x) c t:DN ⟨x.Adds++[[]],x.Cuts++[c],x.Attrs++[t]⟩∧(⟨x.Adds++[[]],x.Cuts++[c],x.Attrs++[t]⟩:BT).us=x.us++[.r c t]:=
 ⟨⟨by simp[h.adds],by simp[h.attrs]⟩,iy _ _ _ _ _ h.adds h.attrs⟩
theorem ej{x:BT}(h:DN x)(j:List AC):DN ⟨x.Adds.set x.Cuts.length (x.Adds[x.Cuts.length]!++j),x.Cuts,x.Attrs⟩∧(⟨x.Adds.set x.Cuts.length (x.Adds[x.Cuts.length]!++j),x.Cuts,x.Attrs⟩:BT).us=x.us++j.map Un.a:=by
 refine⟨⟨by simp[h.adds],h.attrs⟩,cP _ _ _ _ _ h.adds h.attrs ?_⟩
 have:x.Cuts.length<x.Adds.length:=by rw[h.adds];omega
 rw[wd this,wg x.Adds _ this]
theorem rN{x:BT}(h:DN x)(j:x.Cuts.length≤9223372036854775806):AK .i64 ((x.Adds.length:Int)-1)=some ((x.Cuts.length:Nat):Int):=by
 rw[h.adds,Bk (by omega) (by omega)];congr 1;omega
theorem Yh{α:Type}{o:List α}{x}(h:o.length+1≤1099511627776):app 24 o [x]=some (o++[x]):=by
 unfold app;rw[wU];simp only[xY];omega
theorem qW{α:Type}{o:List α}{x}(h:o.length+1≤1099511627776):app 1 o [x]=some (o++[x]):=by
 unfold app;rw[wU];simp only[xY];omega
theorem Hu{α:Type}{o:List α}{x}(h:o.length+1≤1099511627776):app 64 o [x]=some (o++[x]):=by
 unfold app;rw[wU];simp only[xY];omega
theorem Fo{α:Type}{o xs:List α}(h:o.length+xs.length≤1099511627776):app 40 o xs=some (o++xs):=by
 unfold app;rw[wU];omega
theorem SQ{α:Type}{l:List α}{k:Nat}{x:α} : l.set ((k:Int).toNat) x=l.set k x:=by simp
def BC(s:AH):List Un:=if s.Kind=1 then s.Elems.map Un.a else List.replicate s.N.toNat (.r (decide (s.Kind=2)) s.Attrs)
def Af(d:List AH):List Un:=d.flatMap BC
theorem UA s d:Af (s::d)=BC s++Af d:=rfl
theorem WG{d:List AH}{k}(h:k<d.length):Af (d.take (k+1))=Af (d.take k)++BC d[k]!:=by
 rw[Hq h];simp[Af]
theorem s0(d:List AH) k:(Af (d.take k)).length≤(Af d).length:=by
 have:Af d=Af (d.take k)++Af (d.drop k):=by
  conv=>lhs;rw[← yV k d]
  unfold Af;rw[List.flatMap_append]
 rw[this,wi];omega
theorem nE(s:AH)(x:BT)(h:DN x)(u:0≤s.N)(w:x.us.length+s.N.toNat≤4294967296) :
  ∃o,iter (λ(a:Int × BT)=>JS s a.1 a.2) (0,x)=some o∧∃y,o=.ext y∧DN y∧y.us=x.us++List.replicate s.N.toNat (.r (decide (s.Kind=2)) s.Attrs):=by
 refine EG s.N.toNat (λk q=>q.1=(k:Int)∧DN q.2∧q.2.us=x.us++List.replicate k (.r (decide (s.Kind=2)) s.Attrs)) _ ?_ ?_ ⟨rfl,h,by simp⟩
 ·rintro k ⟨i,y⟩ A ⟨rfl,j,l⟩
  dsimp only at j l
  refine .inl ⟨(((k+1:Nat):Int),⟨y.Adds++[[]],y.Cuts++[decide (s.Kind=2)],y.Attrs++[s.Attrs]⟩),?_,rfl,(gP j _ _).1,(gP j _ _).2.trans (by rw[l,wl,← zU])⟩
  have B:y.us.length=x.us.length+k:=by rw[l];simp
  have C:=j.cuts_le
  have E:=j.adds
  have F:=j.attrs
  show JS s (k:Int) y=_
  unfold JS
  rw[wU (by simp;omega),Yh (by omega),AE,qW (by omega),AE,Yh (by omega),AE,AX (by omega),AE]
 ·rintro⟨i,y⟩ ⟨rfl,j,l⟩
  dsimp only at j l
  refine⟨_,?_,y,rfl,j,l⟩
  show JS s (s.N.toNat:Int) y=_
  unfold JS
  rw[ne (by simp;omega)]
theorem sc(d:List AH)(I:∀s∈d,0≤s.N)(O:d.length≤4294967296)(T:(Af d).length≤4294967296):∃x,OC d=some x∧DN x∧x.us=Af d:=by
 unfold OC
 have key:∃x,iter (λ(a:Int × BT)=>JC d a.1 a.2) (0,⟨[[]],[],[]⟩)=some x∧(DN x∧x.us=Af d):=by
  refine EG d.length (λk B=>B.1=(k:Int)∧DN B.2∧B.2.us=Af (d.take k)) _ ?_ ?_ ⟨rfl,uy,ky⟩
  ·rintro k ⟨i,y⟩ q ⟨rfl,j,l⟩
   dsimp only at j l
   have C:y.us.length+(BC d[k]!).length≤4294967296:=by
    have:=s0 d (k+1)
    rw[WG q,wi] at this
    rw[l];omega
   have U:=j.cuts_le
   have V:=j.adds
   refine .inl ?_
   show ∃X,JC d (k:Int) y=_∧_
   unfold JC
   rw[wU (by simpa using q),AO q]
   simp only[AE]
   by_cases A:d[k]!.Kind=1
   ·have u:BC d[k]! = d[k]!.Elems.map Un.a:=by unfold BC;rw[wU A]
    rw[u,wq] at C
    have w:y.Cuts.length<y.Adds.length:=by omega
    have hA:=j.add_le w
    rw[wU (by simpa using A),rN j (by omega),AE,AO w,AE,Fo (by rw[yi];omega),AE,zK,Fo (by omega),AE,AE,AX (by omega),AE,SQ]
    exact⟨_,rfl,rfl,(ej j _).1,(ej j _).2.trans (by rw[WG q,l,u])⟩
   ·have u:BC d[k]! = List.replicate d[k]!.N.toNat (.r (decide (d[k]!.Kind=2)) d[k]!.Attrs):=by unfold BC;rw[ne A]
    rw[u,xg] at C
    obtain⟨o,E,z,F,J,M⟩:=nE d[k]! y j (I _ (BA q)) C
    subst F
    rw[ne (by simpa using A),E,qy,AE,AX (by omega),AE]
    exact⟨_,rfl,rfl,J,by rw[WG q,← l,u];exact M⟩
  ·rintro⟨i,y⟩ ⟨rfl,j,l⟩
   dsimp only at j l
   refine⟨y,?_,j,by rw[l,yP]⟩
   show JC d (d.length:Int) y=_
   unfold JC
   rw[ne (by simp)]
 obtain⟨x,E,F⟩:=key
 exact⟨x,by rw[E];rfl,F⟩
def B4:List Un→List Un→List Un
 | .a e::j,l=>.a e::B4 j l
 | j,.a _::l=>.r false []::B4 j l
 | .r q u::j,.r w A::l=>if w then B4 j l else .r q (E4 u A)::B4 j l
 | [],.r _ _::_=>[]
 | .r _ _::_,[]=>[]
 | [],[]=>[]
  termination_by j l=>j.length+l.length
def CW:List Un→List Un→List Un
 | .a _::j,l=>.r false []::CW j l
 | j,.a e::l=>.a e::CW j l
 | .r q _::j,.r u w::l=>if q then CW j l else .r u w::CW j l
 | [],.r _ _::_=>[]
 | .r _ _::_,[]=>[]
 | [],[]=>[]
  termination_by j l=>j.length+l.length
def Lq(us:List Un):Prop:=∀e j,us≠.a e::j
theorem bC(A:List AC) us vs:B4 (A.map Un.a++us) vs=A.map Un.a++B4 us vs:=by
 induction A with
 | nil=>rfl
 | cons e A j=>simp only[ww,ws];rw[B4,j]
theorem qt(A:List AC) us vs:CW (A.map Un.a++us) vs=List.replicate A.length (.r false [])++CW us vs:=by
 induction A with
 | nil=>rfl
 | cons e A j=>simp only[ww,ws,wm,xG];rw[CW,j]
theorem gq(B:List AC)(us vs:List Un)(h:Lq us):B4 us (B.map Un.a++vs)=List.replicate B.length (.r false [])++B4 us vs:=by
 induction B with
 | nil=>rfl
 | cons e B j=>
  simp only[ww,ws,wm,xG]
  rw[← j]
  match us,h with
  | [],_=>rw[B4];intro _ _ h;cases h
  | .r c t::us,_=>rw[B4];intro _ _ h;cases h
  | .a e::us,h=>exact absurd rfl (h e us)
theorem gY(B:List AC)(us vs:List Un)(h:Lq us):CW us (B.map Un.a++vs)=B.map Un.a++CW us vs:=by
 induction B with
 | nil=>rfl
 | cons e B j=>
  simp only[ww,ws]
  rw[← j]
  match us,h with
  | [],_=>rw[CW];intro _ _ h;cases h
  | .r c t::us,_=>rw[CW];intro _ _ h;cases h
  | .a e::us,h=>exact absurd rfl (h e us)
theorem fx:Lq []:=λ_ _ h=>by cases h
theorem bB:∀(us vs:List Un),(B4 us vs).length≤us.length+vs.length:=by
 intro us vs
 fun_induction B4 us vs<;>simp_all<;>omega
theorem U9:∀(us vs:List Un),(CW us vs).length≤us.length+vs.length:=by
 intro us vs
 fun_induction CW us vs<;>simp_all<;>omega
def BT.from_(x:BT)(k:Nat):List Un:=ES (x.Adds.drop k) (x.Cuts.drop k) (x.Attrs.drop k)
theorem Xp{x:BT}(h:DN x){k}(j:k<x.Cuts.length):x.from_ k=x.Adds[k]!.map Un.a++.r x.Cuts[k]! x.Attrs[k]!::x.from_ (k+1):=by
 unfold BT.from_
 have l:=h.adds
 have q:=h.attrs
 rw[Gg (l:=x.Adds) (by omega),Gg (l:=x.Cuts) j,Gg (l:=x.Attrs) (by omega),ES]
theorem ur{x:BT}(h:DN x):x.from_ x.Cuts.length=x.Adds[x.Cuts.length]!.map Un.a:=by
 unfold BT.from_
 have j:=h.adds
 rw[Gg (l:=x.Adds) (by omega),zH]
 cases x.Adds.drop (x.Cuts.length+1)<;>rfl
structure DS where
 out:List AH
 adds:List AC
 cuts:Nat
def BE(s:DS):List AH:=(if 0<s.adds.length then s.out++[⟨1,0,[],s.adds⟩] else s.out)++(if 0<s.cuts then [⟨2,s.cuts,[],[]⟩] else [])
def Gx(l:List AH)(t:List AD):List AH:=
 if 0<l.length∧l[l.length-1]!.Kind=0∧l[l.length-1]!.Attrs=t then l.set (l.length-1) ⟨l[l.length-1]!.Kind,l[l.length-1]!.N+1,l[l.length-1]!.Attrs,l[l.length-1]!.Elems⟩
 else l++[⟨0,1,t,[]⟩]
def dU(s:DS):Un→DS
 | .a e=>⟨s.out,s.adds++[e],s.cuts⟩
 | .r true _=>⟨s.out,s.adds,s.cuts+1⟩
 | .r false t=>⟨Gx (BE s) t,[],0⟩
def BD(us:List Un):List AH:=BE (us.foldl dU ⟨[],[],0⟩)
theorem ng(A:List AC):∀s:DS,(A.map Un.a).foldl dU s=⟨s.out,s.adds++A,s.cuts⟩:=by
 induction A with
 | nil=>intro s;simp
 | cons e A j=>intro s;simp only[ww,xM];rw[j];simp[dU]
theorem pG(x:BT)(k:Nat)(h:DN x)(l:k≤x.Cuts.length):∃p,x.us=p++x.from_ k:=by
 induction k with
 | zero=>exact⟨[],rfl⟩
 | succ k j=>
  obtain⟨p,hp⟩:=j (by omega)
  rw[Xp h (by omega)] at hp
  exact⟨p++(x.Adds[k]!.map Un.a++[.r x.Cuts[k]! x.Attrs[k]!]),by rw[hp];simp⟩
theorem rd{l:List AH}(h:0<l.length)(j:l.length≤9223372036854775807):AK .i64 ((l.length:Int)-1)=some ((l.length-1:Nat):Int):=by
 rw[Bk (by omega) (by omega)];congr 1;omega
structure Sa(d:List AH):Prop where
 st:∀s∈d,E7 s
 ord:∀k,0<k→k<d.length→Dg d[k-1]! d[k]! = false
 olds:Av d≤2147483647
 nows:A7 d≤2147483647
theorem ji{d}{k}{r}(h:Eg d k=some r):r≠0:=by
 unfold Eg at h
 split at h
 ·rename_i j;cases h;exact j
 ·split at h
  ·cases h;decide
  ·cases h
theorem MY{d:List AH}(h:CH d=0):Sa d:=by
 cases l:(List.range d.length).findSome? (Eg d) with
 | some e=>
  unfold CH at h
  rw[l] at h
  simp only at h
  subst h
  obtain⟨x,_,q⟩:=xq l
  exact absurd rfl (ji q)
 | none=>
  unfold CH at h
  rw[l] at h
  simp only at h
  rw[xo] at l
  have hg:∀k,k<d.length→Eg d k=none:=λk j=>l k (xP.2 j)
  by_cases u:2147483647<Av d∨2147483647<A7 d
  ·rw[wU u] at h;cases h
  ·refine⟨λs w=>?_,λk A j=>(WI (hg k j)).2 A,by omega,by omega⟩
   obtain⟨k,j,rfl⟩:=xp.1 w
   rw[← wg d k j]
   exact Qn (WI (hg k j)).1
theorem Ik s d:Av (s::d)=Bn s+Av d:=by simp[Av]
theorem Iy s d:A7 (s::d)=CY s+A7 d:=by simp[A7]
theorem hY{d}(h:∀s∈d,E7 s)(l:∀s∈d,GA s):0≤Av d∧0≤A7 d:=by
 induction d with
 | nil=>simp[Av,A7]
 | cons s d q=>
  obtain⟨u,w⟩:=q (λx j=>h x (we _ j)) (λx j=>l x (we _ j))
  obtain⟨A,B,z3,z4,_⟩:=UR (h s (wZ ..)) (l s (wZ ..))
  rw[Ik,Iy];omega
theorem rg(d:List AH) k:Av d=Av (d.take k)+Av (d.drop k)∧A7 d=A7 (d.take k)+A7 (d.drop k):=by
 have e:d=d.take k++d.drop k:=(yV k d).symm
 constructor
 ·conv=>lhs;rw[e]
  unfold Av;rw[yj,List.sum_append]
 ·conv=>lhs;rw[e]
  unfold A7;rw[yj,List.sum_append]
theorem f7{d:List AH}(h:Sa d)(l:El d) k:0≤Av (d.take k)∧Av (d.take k)≤2147483647∧0≤A7 (d.take k)∧A7 (d.take k)≤2147483647∧0≤Av (d.drop k)∧0≤A7 (d.drop k):=by
 obtain⟨q,u⟩:=hY (d:=d.take k) (λs j=>h.st s (yc j)) (λs j=>l.st s (yc j))
 obtain⟨w,A⟩:=hY (d:=d.drop k) (λs j=>h.st s (ya j)) (λs j=>l.st s (ya j))
 obtain⟨B,C⟩:=rg d k
 have:=h.olds
 have:=h.nows
 omega
theorem RU(d:List AH)(u:El d)(h:Sa d):I1 d=some (Av d,A7 d):=by
 unfold I1
 have U:=u.len
 have key:∃r,iter (λ(a:Int × Int × Int)=>Jj d a.1 a.2.1 a.2.2) (0,0,0)=some r∧r=(Av d,A7 d):=by
  refine EG d.length (λk A=>A=(Av (d.take k),A7 (d.take k),(k:Int))) _ ?_ ?_ (by simp[Av,A7])
  ·rintro k A j rfl
   obtain⟨E,F,I,J,_⟩:=f7 h u k
   obtain⟨V,X,z3,z4,z5,C⟩:=UR (h.st _ (BA j)) (u.st _ (BA j))
   refine .inl ⟨_,?_,rfl⟩
   show Jj d (Av (d.take k)) (A7 (d.take k)) (k:Int)=_
   unfold Jj
   rw[wU (by simpa using j),AO j,AE,UO j,Vp j]
   generalize Av (d.take k)=o at E F ⊢
   generalize A7 (d.take k)=w at I J ⊢
   by_cases l:d[k]!.Kind=1
   ·have B:Bn d[k]! = 0:=by unfold Bn;rw[wU l]
    rw[ne (Bx l),AE,wU (BK (by omega)),C (by omega),AE,Bk (by omega) (by omega),AE,BU,AX (by omega),AE,B,Int.add_zero]
   ·have B:Bn d[k]! = d[k]!.N:=by unfold Bn;rw[ne l]
    rw[wU (BK l),Bk (by omega) (by omega),AE,AE,B]
    by_cases q:d[k]!.Kind=2
    ·have M:CY d[k]! = 0:=by unfold CY;rw[wU q]
     rw[ne (Bx q),BU,AX (by omega),AE,M,Int.add_zero]
    ·rw[wU (BK q),C q,AE,Bk (by omega) (by omega),AE,BU,AX (by omega),AE]
  ·rintro A rfl
   refine⟨(Av d,A7 d),?_,rfl⟩
   rw[yP]
   show Jj d _ _ (d.length:Int)=_
   unfold Jj
   rw[ne (by simp)]
 obtain⟨r,O,T⟩:=key
 rw[O,T];rfl
theorem VC{α β:Type}[Inhabited α]{f}(l:List α)(g:α→β)(z:β)
 (h:∀(k:Nat) (out:List β), k<l.length→out.length=l.length→f ((k:Int), out)=some (.inl (((k+1:Nat):Int), out.set k (g l[k]!)))) (j:∀out, f ((l.length:Int), out)=some (.inr out)) :
    iter f (0, List.replicate l.length z)=some (l.map g) := by
  have key:∃r, iter f (0, List.replicate l.length z)=some r∧r=l.map g := by
    refine EG l.length (λk q => q=((k:Int), (l.take k).map g++List.replicate (l.length - k) z)) _ ?_ ?_ (by simp)
    · rintro k q u rfl
      refine .inl ⟨_, h k _ u (by simp;omega), ?_⟩
      congr 1
      obtain⟨m, w⟩:∃m, l.length - k=m+1 := ⟨l.length - k - 1, by omega⟩
      rw[w, xG, Hq u, yj, zR _ _ (by rw[wq, yM];omega), show l.length - (k+1)=m by omega]
      have:k - ((l.take k).map g).length=0 := by simp;omega
      rw[this, zN, wl];rfl
    · rintro q rfl
      refine⟨_, j _, by simp⟩
  obtain⟨r, A, B⟩ := key
  rw[A, B]
theorem OO{l:List AD}(h:l.length≤1073741824):app 32 [] l=some l:=by
 unfold app;rw[wU];rfl;simp;omega
theorem Vo{α:Type}{n:Nat}(z:α)(h:n≤4294967296):mk 40 (n:Int) z=some (List.replicate n z):=by
 unfold mk;rw[wU (by omega)];simp
theorem mZ(f:List AC)(l:f.length≤4294967296)(h:∀e∈f,CS e.Attrs):QX f=some f:=by
 unfold QX
 rw[Vo _ l,AE]
 have:=VC (f:=λ(a:Int × (List AC))=>JE f a.1 a.2) f id (AC.mk 0 0 []) (λk out j u=>by
  have q:=(h _ (BA j)).1
  show JE f (k:Int) out=_
  unfold JE
  rw[wU (by simpa using j),AO j,AE,OO q,AE,AO (by omega),AE,AX (by omega),AE,SQ]
  rfl) (λout=>by
  show JE f (f.length:Int) out=_
  unfold JE
  rw[ne (by simp)])
 rw[this,List.map_id];rfl
def Fi(l j:List AD):List AD:=Bf Ew l j []
def Ce(j:List AD)(x:AC):AC:=⟨x.Char,x.Ref,Fi x.Attrs j⟩
theorem kN(l:List AC)(j:List AD)(u:l.length≤4294967296)(h:∀e∈l,CS e.Attrs)(hc:j.length≤1073741824):Q6 l j=some (l.map (Ce j)):=by
 unfold Q6
 rw[Vo _ u,AE]
 have:=VC (f:=λ(a:Int × (List AC))=>JV l j a.1 a.2) l (Ce j) (AC.mk 0 0 []) (λk out q w=>by
  have A:=(h _ (BA q)).1
  show JV l j (k:Int) out=_
  unfold JV
  rw[wU (by simpa using q),AO q,AE,WC _ _ (by omega),AE,AO (by omega),AE,AX (by omega),AE,SQ]
  rfl) (λout=>by
  show JV l j (l.length:Int) out=_
  unfold JV
  rw[ne (by simp)])
 rw[this];rfl
def A0:List Un→List AC→List AC
 | .a e::j,f=>e::A0 j f
 | .r true _::j,_::f=>A0 j f
 | .r false t::j,x::f=>Ce t x::A0 j f
 | .r _ _::_,[]=>[]
 | [],_=>[]
theorem Sq(A:List AC) us f:A0 (A.map Un.a++us) f=A++A0 us f:=by
 induction A with
 | nil=>rfl
 | cons e A j=>simp only[ww,ws,A0,j]
theorem X8 t us:∀(n:Nat) (f:List AC),n≤f.length→A0 (List.replicate n (.r true t)++us) f=A0 us (f.drop n)
 | 0,f,_=>rfl
 | n+1,[],h=>by simp at h
 | n+1,x::f,h=>by rw[xG,ws,A0,X8 t us n f (by simpa using h)];rfl
theorem XR:∀(us:List Un) (f:List AC),(A0 us f).length≤us.length:=by
 intro us f
 fun_induction A0 us f<;>simp_all<;>omega
theorem QF{α:Type}(l:List α)(n:Int)(j:0≤n)(h:n≤l.length):B8 l 0 n=some (l.take n.toNat):=by
 unfold B8;rw[wU (by omega)];simp
theorem QE{d:List AH}(h:∀s∈d,E7 s):((Af d).length:Int)=Av d+(d.map λs=>s.Elems.length).sum:=by
 induction d with
 | nil=>rfl
 | cons s d j=>
  have A:=j (λx l=>h x (we _ l))
  rw[UA,wi,Ik,ww,xu]
  have q:=(h s (wZ ..)).kind
  unfold BC Bn
  rcases q with ⟨k,e,u,w,_⟩ | ⟨k,e,_,u,w⟩ | ⟨k,n,_,_,_⟩
  ·rw[ne (by omega),ne (by omega),e,xg,yi];omega
  ·rw[ne (by omega),ne (by omega),e,xg,yi];omega
  ·rw[wU k,wU k,wq];omega
def Cu(l:List AH)(t:List AD)(n:Int):List AH:=
 if 0<l.length∧l[l.length-1]!.Kind=0∧l[l.length-1]!.Attrs=t then l.set (l.length-1) ⟨l[l.length-1]!.Kind,l[l.length-1]!.N+n,l[l.length-1]!.Attrs,l[l.length-1]!.Elems⟩
 else l++[⟨0,n,t,[]⟩]
theorem Xd l t:Cu l t 1=Gx l t:=rfl
theorem OQ{l:List AH}{s} : (l++[s])[l.length]! = s:=by
 rw[wg (l++[s]) l.length (by simp)];simp
theorem UY{l:List AH}{s}{k}(h:k<l.length):(l++[s])[k]! = l[k]!:=by
 rw[wg (l++[s]) k (by simp;omega),wg l k h,List.getElem_append_left h]
theorem ua(l:List AH) t m n:Cu (Cu l t m) t n=Cu l t (m+n):=by
 unfold Cu
 by_cases j:0<l.length∧l[l.length-1]!.Kind=0∧l[l.length-1]!.Attrs=t
 ·have q:l.length-1<l.length:=by omega
  have hg:∀x:AH,(l.set (l.length-1) x)[l.length-1]! = x:=λx=>by rw[wg _ _ (by simpa using q),zm]
  rw[wU j,wU j,yk,hg,wU ⟨j.1,j.2.1,j.2.2⟩,List.set_set]
  simp only[Int.add_assoc]
 ·rw[ne j,ne j]
  rw[show(l++[(⟨0,m,t,[]⟩:AH)]).length-1=l.length by simp,OQ,wU ⟨by simp,rfl,rfl⟩]
  simp
def D5(s:DS)(n:Int)(t:List AD):DS:=if n=0 then s else⟨Cu (BE s) t n,[],0⟩
theorem SL l:BE ⟨l,[],0⟩=l:=by simp[BE]
theorem ko s(n:Int) t(h:0≤n):D5 s n t=(List.replicate n.toNat (Un.r false t)).foldl dU s:=by
 have u:∀(j:Nat) (l:List AH) (n:Int),(List.replicate j (Un.r false t)).foldl dU ⟨Cu l t n,[],0⟩=⟨Cu l t (n+j),[],0⟩:=by
  intro j
  induction j with
  | zero=>intro l n;simp
  | succ j w=>
   intro l n
   rw[xG,xM]
   simp only[dU,SL]
   rw[← Xd,ua,w,show n+1+(j:Int)=n+((j+1:Nat):Int) by omega]
 unfold D5
 by_cases q:n=0
 ·subst q;simp
 ·rw[ne q]
  obtain⟨j,A⟩:∃j,n.toNat=j+1:=⟨n.toNat-1,by omega⟩
  rw[A,xG,xM]
  simp only[dU]
  rw[← Xd,u,show(1:Int)+j=n by omega]
theorem tW(s:DS) t:∀(n:Nat) ,(List.replicate n (Un.r true t)).foldl dU s=⟨s.out,s.adds,s.cuts+n⟩:=by
 intro n
 induction n generalizing s with
 | zero=>simp
 | succ n j=>rw[xG,xM,j];simp only[dU];congr 1;omega
def DA(u:Un):Prop:=match u with
 | .a e=>Bb e=0∧CS e.Attrs
 | .r c t=>(c=false→Ah t true=0)∧CS t
def BF(us:List Un):Nat:=us.countP λu=>!u.isR
def Eo:Un→Bool
 | .a _=>true
 | .r c _=>!c
def Bi(us:List Un):Nat:=us.countP Eo
theorem gI{A:List AC}(l:A≠[])(h:∀e∈A,Bb e=0):Cb ⟨1,0,[],A⟩=0:=by
 unfold Cb
 rw[wU rfl,ne (by simp),ne l]
 show Ep A=0
 unfold Ep
 have:(List.range A.length).findSome? (EF A)=none:=by
  rw[xo]
  intro k j
  have j:=xP.1 j
  unfold EF
  rw[wU (h _ (BA j))]
 rw[this];rfl
theorem es{n}(j:1≤n)(l:n≤2147483647):Cb ⟨2,n,[],[]⟩=0:=by
 unfold Cb
 rw[ne (by simp),wU (by simp),ne (by simp),ne (by simp only;omega)]
 show Ah [] true=0
 decide
theorem XF{n}{t}(j:1≤n)(l:n≤2147483647)(h:Ah t true=0):Cb ⟨0,n,t,[]⟩=0:=by
 unfold Cb
 rw[ne (by simp),wU (by simp),ne (by simp),ne (by simp only;omega)]
 exact h
def HD(a:Nat)(s:AH):Prop:=((s.Kind=0∧s.Elems=[]∧1≤s.N∧Ah s.Attrs true=0)∨(s.Kind=2∧s.Elems=[]∧s.Attrs=[]∧1≤s.N) ∨
  (s.Kind=1∧s.N=0∧s.Attrs=[]∧s.Elems≠[]∧∀e∈s.Elems,Bb e=0))∧CS s.Attrs∧s.Elems.length≤a∧∀e∈s.Elems,CS e.Attrs
def In(l:List AH):Prop:=∀k,0<k→k<l.length→Dg l[k-1]! l[k]! = false
structure CD(m a r n:Nat)(s:DS):Prop where
 ok:∀x∈s.out,HD a x
 adj:In s.out
 last:0<s.out.length→s.out[s.out.length-1]!.Kind=0
 add:∀e∈s.adds,Bb e=0∧CS e.Attrs
 olds:Av s.out+s.cuts=r
 nows:A7 s.out+s.adds.length=n
 len:s.out.length+s.adds.length+s.cuts≤m
 al:s.adds.length≤a
theorem uo:CD 0 0 0 0 ⟨[],[],0⟩:=⟨by simp,λk _ j=>by simp at j,λh=>by simp at h,by simp,by simp[Av],by simp[A7],by simp,by simp⟩
theorem W1 a b:Av (a++b)=Av a+Av b:=by simp[Av]
theorem VU a b:A7 (a++b)=A7 a+A7 b:=by simp[A7]
theorem U8{l:List AH}{s}(h:In l)(u:0<l.length→Dg l[l.length-1]! s=false):In (l++[s]):=by
 intro k q w
 simp only[wi,xY] at w
 by_cases j:k<l.length
 ·rw[UY (by omega),UY j];exact h k q j
 ·have:k=l.length:=by omega
  subst this
  rw[UY (by omega),OQ]
  exact u q
theorem HD.mono{a b}{s}(h:HD a s)(j:a≤b):HD b s:=⟨h.1,h.2.1,xw h.2.2.1 j,h.2.2.2⟩
theorem Ff:CS []:=⟨by simp,λa j=>by simp at j⟩
theorem NB{m a r n}{s:DS}(h:CD m a r n s):(∀x∈BE s,HD a x)∧In (BE s)∧Av (BE s)=r∧A7 (BE s)=n∧(BE s).length≤m∧(BE s).length≤s.out.length+2:=by
 have u:=h.len
 have J:=h.olds
 have M:=h.nows
 have key:∃l,l=(if 0<s.adds.length then s.out++[⟨1,0,[],s.adds⟩] else s.out)∧(∀x∈l,HD a x)∧In l∧Av l=Av s.out∧A7 l=A7 s.out+s.adds.length∧l.length≤s.out.length+s.adds.length∧l.length≤s.out.length+1∧(0<l.length→l[l.length-1]!.Kind≠2):=by
  refine⟨_,rfl,?_⟩
  by_cases j:0<s.adds.length
  ·rw[wU j]
   have w:s.adds≠[]:=λe=>by rw[e] at j;simp at j
   refine⟨λx A=>?_,U8 h.adj λu=>?_,by rw[W1];simp[Av,Bn],by rw[VU];simp[A7,CY],by simp;omega,by simp,λ_=>?_⟩
   ·rcases xZ.1 A with q | q
    ·exact h.ok x q
    ·have:x=⟨1,0,[],s.adds⟩:=by simpa using q
     subst this
     exact⟨.inr (.inr ⟨rfl,rfl,rfl,w,λe B=>(h.add e B).1⟩),Ff,h.al,λe B=>(h.add e B).2⟩
   ·have C:∀p:AH,p.Kind=0→Dg p ⟨1,0,[],s.adds⟩=false:=λp hp=>by unfold Dg;rw[hp];simp
    exact C _ (h.last u)
   ·rw[show(s.out++[(⟨1,0,[],s.adds⟩:AH)]).length-1=s.out.length by simp,OQ];simp
  ·rw[ne j]
   exact⟨h.ok,h.adj,rfl,by omega,by omega,by omega,λu=>by rw[h.last u];decide⟩
 obtain⟨l,E,F,I,O,T,V,X,U⟩:=key
 unfold BE
 rw[← E]
 by_cases j:0<s.cuts
 ·rw[wU j]
  refine⟨λx A=>?_,U8 I λu=>?_,by rw[W1,O,← J];simp[Av,Bn],by rw[VU,T,← M];simp[A7,CY],by simp;omega,by simp;omega⟩
  ·rcases xZ.1 A with q | q
   ·exact F x q
   ·have:x=⟨2,s.cuts,[],[]⟩:=by simpa using q
    subst this
    exact⟨.inr (.inl ⟨rfl,rfl,rfl,by simp only;omega⟩),Ff,by simp,by simp⟩
  ·have C:∀p:AH,p.Kind≠2→Dg p ⟨2,s.cuts,[],[]⟩=false:=λp hp=>by unfold Dg;simp[hp]
   exact C _ (U u)
 ·rw[ne j,wv]
  exact⟨F,I,by omega,by omega,by omega,by omega⟩
theorem eL:∀ {l:List AH} {i:Nat} {s:AH},i<l.length→Av (l.set i s)=Av l-Bn l[i]!+Bn s∧A7 (l.set i s)=A7 l-CY l[i]!+CY s
 | x::l,0,s,_=>by
  rw[zN,Ik,Ik,Iy,Iy]
  show _=_-Bn x+Bn s∧_=_-CY x+CY s
  omega
 | x::l,i+1,s,h=>by
  obtain⟨j,q⟩:=eL (l:=l) (i:=i) (s:=s) (by simpa using h)
  rw[WAB,Ik,Ik,Iy,Iy,j,q]
  show _=_-Bn l[i]!+Bn s∧_=_-CY l[i]!+CY s
  omega
theorem sZ{l:List AH}{i}{s:AH}(h:In l)(E:i<l.length)(A:s.Kind=l[i]!.Kind)(B:s.Attrs=l[i]!.Attrs):In (l.set i s):=by
 intro k C q
 rw[yk] at q
 have e:∀j,j<l.length→(l.set i s)[j]!.Kind=l[j]!.Kind∧(l.set i s)[j]!.Attrs=l[j]!.Attrs:=λj u=>by
  rw[wg (l.set i s) j (by simpa using u),wg l j u,List.getElem_set]
  split
  ·rename_i w;subst w;rw[A,B,wg l i u];exact⟨rfl,rfl⟩
  ·exact⟨rfl,rfl⟩
 have:=h k C q
 unfold Dg at this ⊢
 rw[(e _ (by omega)).1,(e _ (by omega)).2,(e k q).1,(e k q).2]
 exact this
theorem pa{a}{l:List AH}{t}{n}(B:∀x∈l,HD a x)(F:In l)(I:1≤n)(J:Ah t true=0)(C:CS t):(∀x∈Cu l t n,HD a x)∧In (Cu l t n)∧Av (Cu l t n)=Av l+n ∧
  A7 (Cu l t n)=A7 l+n∧(Cu l t n).length≤l.length+1∧0<(Cu l t n).length∧(Cu l t n)[(Cu l t n).length-1]!.Kind=0:=by
 unfold Cu
 split
 ·rename_i q
  have u:l.length-1<l.length:=by omega
  have A:=B _ (BA u)
  have w:(l[l.length-1]!.Elems=[]∧1≤l[l.length-1]!.N∧Ah l[l.length-1]!.Attrs true=0):=by
   rcases A.1 with ⟨k,e,M,O⟩ | ⟨k,_⟩ | ⟨k,_⟩
   ·exact⟨e,M,O⟩
   ·rw[q.2.1] at k;cases k
   ·rw[q.2.1] at k;cases k
  obtain⟨T,U⟩:=eL (l:=l) (i:=l.length-1) (s:=⟨l[l.length-1]!.Kind,l[l.length-1]!.N+n,l[l.length-1]!.Attrs,l[l.length-1]!.Elems⟩) u
  refine⟨λx E=>?_,sZ F u rfl rfl,?_,?_,by rw[yk];omega,by rw[yk];omega,?_⟩
  ·rcases yq E with j | j
   ·exact B x j
   ·subst j
    exact⟨.inl ⟨q.2.1,w.1,by simp only;omega,w.2.2⟩,A.2.1,A.2.2.1,A.2.2.2⟩
  ·rw[T];unfold Bn;simp only[q.2.1];simp;omega
  ·rw[U];unfold CY;simp only[q.2.1];simp;omega
  ·rw[yk,wg _ _ (by simpa using u),zm];exact q.2.1
 ·rename_i q
  refine⟨λx E=>?_,U8 F λV=>?_,by rw[W1];simp[Av,Bn],by rw[VU];simp[A7,CY],by simp,by simp,?_⟩
  ·rcases xZ.1 E with j | j
   ·exact B x j
   ·have:x=⟨0,n,t,[]⟩:=by simpa using j
    subst this
    exact⟨.inl ⟨rfl,rfl,I,J⟩,C,by simp,by simp⟩
  ·unfold Dg
   generalize l[l.length-1]! = p at q ⊢
   by_cases j:p.Kind=0
   ·have X:¬ p.Attrs=t:=λe=>q ⟨V,j,e⟩
    simp[j,X]
   ·simp[j]
  ·rw[show(l++[(⟨0,n,t,[]⟩:AH)]).length-1=l.length by simp,OQ]
theorem oc{m a r n}{s}(h:CD m a r n s){u:Un}(B:DA u):CD (m+1) (a+(if u.isR then 0 else 1)) (r+(if u.isR then 1 else 0)) (n+(if Eo u then 1 else 0)) (dU s u):=by
 have Y:=h.len
 have C:=h.olds
 have E:=h.nows
 have F:=h.al
 match u,B with
 | .a e,I=>
  have j:(if(Un.a e).isR=true then 0 else 1)=1:=rfl
  have l:(if(Un.a e).isR=true then 1 else 0)=0:=rfl
  have q:(if Eo (Un.a e)=true then 1 else 0)=1:=rfl
  rw[j,l,q]
  refine⟨λx J=>(h.ok x J).mono (by omega),h.adj,h.last,λy M=>?_,C,by simp[dU];omega,by simp[dU];omega,by simp[dU];omega⟩
  rcases xZ.1 M with w | w
  ·exact h.add y w
  ·have:y=e:=by simpa using w
   subst this;exact I
 | .r true t,A=>
  have j:(if(Un.r true t).isR=true then 0 else 1)=0:=rfl
  have l:(if(Un.r true t).isR=true then 1 else 0)=1:=rfl
  have q:(if Eo (Un.r true t)=true then 1 else 0)=0:=rfl
  rw[j,l,q]
  exact⟨h.ok,h.adj,h.last,h.add,by simp[dU];omega,E,by simp[dU];omega,F⟩
 | .r false t,A=>
  have j:(if(Un.r false t).isR=true then 0 else 1)=0:=rfl
  have l:(if(Un.r false t).isR=true then 1 else 0)=1:=rfl
  have q:(if Eo (Un.r false t)=true then 1 else 0)=1:=rfl
  rw[j,l,q]
  obtain⟨O,T,Z,k4,k5,_⟩:=NB h
  obtain⟨U,V,j3,j4,j5,j6,X⟩:=pa (n:=1) O T (by omega) (A.1 rfl) A.2
  refine⟨U,V,λ_=>X,by simp[dU],?_,?_,?_,by simp[dU]⟩
  ·show Av (Cu (BE s) t 1)+((0:Nat):Int)=_
   omega
  ·show A7 (Cu (BE s) t 1)+((0:Nat):Int)=_
   omega
  ·show(Cu (BE s) t 1).length+0+0≤_
   omega
theorem eH:∀ {us:List Un} {m a r n:Nat} {s:DS},CD m a r n s→(∀u∈us,DA u)→CD (m+us.length) (a+BF us) (r+Ao us) (n+Bi us) (us.foldl dU s)
 | [],_,_,_,_,_,h,_=>by simpa[BF,Ao,Bi] using h
 | u::us,m,a,r,n,s,h,j=>by
  have:=eH (us:=us) (oc h (j u (wZ ..))) λv l=>j v (we _ l)
  have q:BF (u::us)=(if u.isR then 0 else 1)+BF us:=by unfold BF;rw[xz];cases u.isR<;>simp<;>omega
  have w:Ao (u::us)=(if u.isR then 1 else 0)+Ao us:=by unfold Ao;rw[xz];omega
  have A:Bi (u::us)=(if Eo u then 1 else 0)+Bi us:=by unfold Bi;rw[xz];omega
  rw[xM,q,w,A,wm,show m+(us.length+1)=m+1+us.length by omega,← yf,← yf,← yf]
  exact this
def D0:DS:=⟨[],[],0⟩
def Ap(us:List Un):DS:=us.foldl dU D0
theorem Jl{us:List Un}(h:∀u∈us,DA u):CD us.length (BF us) (Ao us) (Bi us) (Ap us):=by
 have:=eH uo h
 simp only[xE] at this
 exact this
theorem JK us:BD us=BE (Ap us):=rfl
theorem ee{m a r n}{s}(h:CD m a r n s)(hr:r≤2147483647)(hn:n≤2147483647):CH (BE s)=0:=by
 obtain⟨B,M,V,X,Y,_⟩:=NB h
 generalize BE s=l at B M V X Y
 have u:∀l:List AH,(∀x∈l,HD a x)→0≤Av l∧0≤A7 l∧(∀x∈l,x.N≤Av l∨x.Kind=1):=by
  intro l
  induction l with
  | nil=>intro _;simp[Av,A7]
  | cons x l Z=>
   intro w
   obtain⟨i1,i2,i3⟩:=Z λs hs=>w s (we _ hs)
   have C:=(w x (wZ ..)).1
   rw[Ik,Iy]
   have E:0≤Bn x∧0≤CY x∧(x.N≤Bn x∨x.Kind=1):=by
    unfold Bn CY
    rcases C with ⟨k,e,j,_⟩ | ⟨k,e,_,j⟩ | ⟨k,j,_⟩
    ·rw[ne (by omega),ne (by omega),ne (by omega)];omega
    ·rw[ne (by omega),wU (by omega)];omega
    ·rw[wU k,ne (by omega),wU k];omega
   refine⟨by omega,by omega,λy F=>?_⟩
   rcases wo.1 F with rfl | F
   ·rcases E.2.2 with h | h
    ·exact .inl (by omega)
    ·exact .inr h
   ·rcases i3 y F with h | h
    ·exact .inl (by omega)
    ·exact .inr h
 obtain⟨p1,p2,p3⟩:=u l B
 have A:∀k,k<l.length→Eg l k=none:=by
  intro k I
  have w:=B _ (BA I)
  have J:=p3 _ (BA I)
  have E:Cb l[k]! = 0:=by
   generalize l[k]! = x at w J
   obtain⟨xk,xn,xa,xe⟩:=x
   rcases w.1 with ⟨k,e,j,q⟩ | ⟨k,e,q,j⟩ | ⟨k,j,q,O,T⟩
   ·dsimp only at k e j q J;subst k;subst e
    exact XF j (by omega) q
   ·dsimp only at k e j q J;subst k;subst e;subst q
    exact es j (by omega)
   ·dsimp only at k j q O T;subst k;subst j;subst q
    exact gI O T
  unfold Eg
  rw[ne (by simpa using E),ne]
  rintro⟨h0,U⟩
  rw[M k h0 I] at U;cases U
 unfold CH
 rw[dW A]
 simp only
 rw[ne (by omega)]
def VA(j:Bool)(e:AD):Prop:=D7 e.Name=true∧(DR e.Value=true∨(j=true∧e.Value=[]))
theorem Ef(l:List AD)(ch:Bool):Ah l ch=0↔BP l∧∀e∈l,VA ch e:=by
 constructor
 ·intro h
  refine⟨(Dv h).1,λe he=>?_⟩
  obtain⟨k,hk,rfl⟩:=xp.1 he
  have hn:Eh l ch k=none:=by
   unfold Ah at h
   cases hf:(List.range l.length).findSome? (Eh l ch) with
   | none=>exact(fj _ _).1 hf k hk
   | some r=>
    rw[hf] at h
    obtain⟨j,_,hj⟩:=xq hf
    exfalso
    unfold Eh at hj
    simp only[zE] at h
    subst h
    repeat' split at hj
    all_goals simp at hj
  unfold Eh at hn
  rw[wg l k hk] at hn
  generalize l[k]=x at hn ⊢
  unfold VA
  by_cases c1:D7 x.Name=false
  ·rw[wU c1] at hn;cases hn
  ·rw[ne c1] at hn
   by_cases c2:DR x.Value=false∧¬ (ch=true∧x.Value=[])
   ·rw[wU c2] at hn;cases hn
   ·refine⟨by simpa using c1,?_⟩
    by_cases c3:DR x.Value=true
    ·exact .inl c3
    ·exact .inr (xD λh3=>c2 ⟨by simpa using c3,h3⟩)
 ·rintro⟨hs,hv⟩
  unfold Ah
  have:(List.range l.length).findSome? (Eh l ch)=none:=by
   rw[xo]
   intro k hk
   have hk:=xP.1 hk
   have h1:=hv _ (BA hk)
   unfold Eh
   unfold VA at h1
   rw[ne (by rw[h1.1];simp),ne (by rintro⟨a1,a2⟩;rcases h1.2 with h2 | h2;rw[a1] at h2;cases h2;exact a2 h2),ne]
   rintro⟨h0,h2⟩
   have:=List.pairwise_iff_getElem.1 hs (k-1) k (by omega) hk (by omega)
   rw[wg l k hk,wg l (k-1) (by omega)] at h2
   rw[this] at h2;cases h2
  rw[this];rfl
theorem cO:∀ {l:List AD},BP l→∀e∈l,Ak l e.Name=some e
 | [],_,e,h=>by simp at h
 | x::l,j,e,h=>by
  obtain⟨q,u⟩:=D1.1 j
  rcases wo.1 h with rfl | h
  ·unfold Ak;rw[wU rfl]
  ·have:=EZ (q e h)
   unfold Ak;rw[ne (Ne.symm this)]
   exact cO u e h
theorem VO{j}{g}{G}(h:∀x y o, j x y o=o++g x y)(hg:Nl g G){a b}{l q w}
 (A:Ah a l=0) (B:Ah b q=0) (F:∀x y e, (∀z, x=some z→VA l z)→(∀z, y=some z→VA q z)→G x y=some e→VA w e):Ah (Bf j a b []) w=0 := by
  obtain⟨I, v1⟩ := (Ef a l).1 A
  obtain⟨J, M⟩ := (Ef b q).1 B
  obtain⟨C, O⟩ := Pa h hg I J (Dv A).2.1 (Dv B).2.1
  refine(Ef _ _).2 ⟨C, λe T => ?_⟩
  have E := cO C e T
  rw[O] at E
  exact F _ _ e (λz u => v1 z (SU u).2) (λz u => M z (SU u).2) E
theorem VA.up{e}{c}(h:VA false e):VA c e:=⟨h.1,.inl (by rcases h.2 with h | h;exact h;exact absurd h.1 (by decide))⟩
theorem rZ{a b}(l:Ah a false=0)(q:Ah b true=0):Ah (Fi a b) false=0:=
 VO Sf SP l q λx y e u w h=>by
  unfold GP at h
  split at h
  ·exact u e h
  ·split at h
   ·cases h
   ·rename_i A
    cases h
    have:=w e rfl
    exact⟨this.1,.inl (by rcases this.2 with j | j;exact j;exact absurd j.2 A)⟩
theorem mH{a b}(j:Ah a true=0)(l:Ah b true=0):Ah (Bf FF a b []) true=0:=
 VO vR jf j l λx y e q u h=>by
  unfold Ol at h
  split at h
  ·exact q e h
  ·exact u e h
theorem nU{a b}(j:Ah a true=0)(l:Ah b true=0):Ah (Bf FC a b []) true=0:=
 VO Y6 iI j l λx y e q u h=>by
  unfold NX at h
  split at h
  ·exact q e h
  ·cases h
theorem F9{l:List AD}{j}(h:Ah l j=0)(q:l.length≤1073741824):CS l:=by
 refine⟨q,λe u=>?_⟩
 have:=((Ef l j).1 h).2 e u
 have w:e.Name.length≤24:=by
  have:=this.1
  unfold D7 at this
  simp only[wY,wV] at this
  exact this.1.1.2
 have A:e.Value.length≤200:=by
  rcases this.2 with h | h
  ·unfold DR at h
   simp only[wY,wV] at h
   exact h.1.2
  ·rw[h.2];simp
 omega
theorem cY(a b:List AD):(Fi a b).length≤a.length+b.length:=by
 have:=SK Ew Wn _ a b [] rfl
 simpa[Fi] using this
theorem vA(a b:List AD):(Bf FF a b []).length≤a.length+b.length:=by
 have:=SK FF fy _ a b [] rfl
 simpa using this
theorem tU(a b:List AD):(Bf FC a b []).length≤a.length+b.length:=by
 have:=SK FC fC _ a b [] rfl
 simpa using this
def CR(s:DS):Ac:=⟨s.out,s.adds,(s.cuts:Int)⟩
theorem fk{α:Type}{l:List α} : decide (0<(l.length:Int))=true↔0<l.length:=by rw[wV];omega
theorem cD(s:DS)(q:s.out.length+2≤1099511627776):Nv (CR s)=some ⟨BE s,[],0⟩:=by
 unfold Nv CR
 dsimp only
 unfold BE
 by_cases l:0<s.adds.length
 ·rw[wU (fk.2 l),Hu (by omega),wU l]
  simp only[AE]
  by_cases j:0<s.cuts
  ·rw[wU (by rw[wV];omega),Hu (by rw[wi,xY];omega),wU j];rfl
  ·rw[ne (by rw[wV];omega),ne j,wv];rfl
 ·rw[ne (λh=>l (fk.1 h)),ne l]
  simp only[AE]
  by_cases j:0<s.cuts
  ·rw[wU (by rw[wV];omega),Hu (by omega),wU j];rfl
  ·rw[ne (by rw[wV];omega),ne j,wv];rfl
theorem gC{a} : ∀ {l:List AH},(∀x∈l,HD a x)→0≤Av l∧0≤A7 l∧(∀x∈l,0≤x.N∧x.N≤Av l)
 | [],_=>by simp[Av,A7]
 | x::l,u=>by
  obtain⟨C,E,A⟩:=gC (l:=l) λs B=>u s (we _ B)
  have j:=(u x (wZ ..)).1
  rw[Ik,Iy]
  have F:0≤Bn x∧0≤CY x∧0≤x.N∧x.N≤Bn x:=by
   unfold Bn CY
   rcases j with ⟨k,e,w,_⟩ | ⟨k,e,_,w⟩ | ⟨k,w,_⟩
   ·rw[ne (by omega),ne (by omega),ne (by omega)];omega
   ·rw[ne (by omega),wU (by omega)];omega
   ·rw[wU k,ne (by omega),wU k];omega
  refine⟨by omega,by omega,λy q=>?_⟩
  rcases wo.1 q with rfl | q
  ·omega
  ·have:=A y q;omega
theorem fI{m a r n}{s:DS}(h:CD m a r n s)(Y:s.out.length+4≤1099511627776)(Z:r≤4000000000000000000)(k:Int)(t:List AD)(h0:0≤k)(hk:k≤4000000000000000000)(B:t.length≤1073741824) :
  GT (CR s) k t=some (CR (D5 s k t)):=by
 unfold GT D5
 by_cases j:k=0
 ·rw[wU (by rw[wV];exact j),wU j]
 rw[ne (by rw[wV];exact j),ne j,cD s (by omega),AE]
 obtain⟨C,F,I,J,M,O⟩:=NB h
 obtain⟨T,U,E⟩:=gC C
 dsimp only
 generalize BE s=l at C F I J M O T U E
 unfold Cu
 by_cases q:0<l.length
 ·rw[rd q (by omega),AE]
  have V:decide (0≤(((l.length-1:Nat)):Int))=true:=by simp
  have X:=C _ (BA (l:=l) (k:=l.length-1) (by omega))
  have hN:=E _ (BA (l:=l) (k:=l.length-1) (by omega))
  rw[V,show(true==true)=true from rfl,Am,AO (l:=l) (by omega),AE,xt]
  by_cases w:l[l.length-1]!.Kind=0
  ·rw[wW w,show(true==true)=true from rfl,Am,AE,Am,PU _ _ (by have:=X.2.1.1;omega),AE,xt]
   by_cases A:l[l.length-1]!.Attrs=t
   ·rw[wU (by rw[wV];exact A),AE,Bk (by omega) (by omega),AE,SQ,wU ⟨q,w,A⟩];rfl
   ·rw[ne (by rw[wV];exact A),OO B,AE,Hu (by omega),AE,ne (λh=>A h.2.2)];rfl
  ·rw[wX w,show(false==true)=false from rfl,FL,AE,FL,AE,yr,ne (by decide),OO B,AE,Hu (by omega),AE,ne (λh=>w h.2.1)];rfl
 ·have u:l=[]:=yG (by omega)
  subst u
  rw[show((([]:List AH).length:Int)-1) = -1 from rfl,show AK .i64 (-1)=some (-1) from Bk (by decide) (by decide),AE,
   show decide (0≤(-1:Int))=false by decide,show(false==true)=false from rfl,FL,AE,yr,show(false==true)=false from rfl,FL,AE,FL,AE,yr,ne (by decide),
   OO B,AE,Hu (by simp),AE,ne (by simp)];rfl
theorem dE(s:DS)(l:List AC)(j:l.length≤4294967296)(h:∀e∈l,CS e.Attrs)(q:s.adds.length+l.length≤1099511627776):HF (CR s) l=some (CR ⟨s.out,s.adds++l,s.cuts⟩):=by
 unfold HF
 rw[mZ l j h,AE]
 show(AB (app 40 s.adds l) _)=_
 rw[Fo q,AE];rfl
def DM(l:List AH):Nat:=(l.map λx=>x.Elems.length).sum
theorem Vn a b:DM (a++b)=DM a+DM b:=by simp[DM]
theorem fp(s:DS):DM (BE s)=DM s.out+s.adds.length:=by
 unfold BE
 rw[Vn]
 have l:DM (if 0<s.cuts then [(⟨2,s.cuts,[],[]⟩:AH)] else [])=0:=by split<;>rfl
 rw[l]
 by_cases j:0<s.adds.length
 ·rw[wU j,Vn];simp[DM]
 ·rw[ne j];omega
theorem gO:∀ {l:List AH} {i:Nat} {s:AH},i<l.length→s.Elems=l[i]!.Elems→DM (l.set i s)=DM l
 | x::l,0,s,_,h=>by
  have j:s.Elems=x.Elems:=h
  simp[DM,j]
 | x::l,i+1,s,q,h=>by
  have:=gO (l:=l) (i:=i) (s:=s) (by simpa using q) h
  rw[WAB]
  simp only[DM,ww,xu] at this ⊢
  omega
theorem ja l t n:DM (Cu l t n)=DM l:=by
 unfold Cu
 split
 ·rename_i j;exact gO (by omega) rfl
 ·rw[Vn];simp[DM]
theorem gW:∀(us:List Un) (s:DS),DM (us.foldl dU s).out+(us.foldl dU s).adds.length=DM s.out+s.adds.length+BF us
 | [],s=>by simp[BF]
 | u::us,s=>by
  have j:=gW us (dU s u)
  have l:BF (u::us)=(if u.isR then 0 else 1)+BF us:=by unfold BF;rw[xz];cases u.isR<;>simp<;>omega
  rw[xM,j,l]
  match u with
  | .a e=>simp[dU,Un.isR];omega
  | .r true t=>simp[dU,Un.isR]
  | .r false t=>
   have:DM (dU s (.r false t)).out=DM s.out+s.adds.length:=by
    show DM (Gx (BE s) t)=_
    rw[← Xd,ja,fp]
   simp only[Un.isR,yN]
   rw[this];simp[dU]
theorem ei us:DM (BE (Ap us))=BF us:=by
 rw[fp]
 have:=gW us D0
 unfold Ap
 rw[this];simp[D0,DM]
theorem iX{us}(h:∀u∈us,DA u)(q:(BE (Ap us)).length≤1099511627776)(w:BF us≤1073741824):El (BE (Ap us)):=by
 obtain⟨j,_⟩:=NB (Jl h)
 exact⟨q,λx l=>⟨(j x l).2.1,by have:=(j x l).2.2.1;omega,(j x l).2.2.2⟩,by have:=ei us;unfold DM at this;omega⟩
theorem PA{us}(h:∀u∈us,DA u)(l:(Ap us).out.length+2≤1099511627776)(q:BF us≤1073741824) :
  IK (CR (Ap us))=some (if CH (BD us)≠0 then([],3,⟨BD us,[],0⟩) else(BD us,0,⟨BD us,[],0⟩)):=by
 obtain⟨w,A,B,C,E,F⟩:=NB (Jl h)
 unfold IK
 rw[cD _ l,AE]
 dsimp only
 rw[Ps _ (iX h (by omega) q),AE,← JK]
 by_cases j:CH (BD us)≠0
 ·rw[wU (BK j),wU j]
 ·have j:=wy.1 j
  rw[ne (Bx j),ne (by simpa using j)]
theorem KX us(n:Int) t(h:0≤n):D5 (Ap us) n t=Ap (us++List.replicate n.toNat (.r false t)):=by
 rw[ko _ _ _ h];unfold Ap;rw[WAE]
theorem Ls us(l:List AC):(⟨(Ap us).out,(Ap us).adds++l,(Ap us).cuts⟩:DS)=Ap (us++l.map Un.a):=by
 unfold Ap;rw[WAE,ng]
theorem Th us n t:(⟨(Ap us).out,(Ap us).adds,(Ap us).cuts+n⟩:DS)=Ap (us++List.replicate n (.r true t)):=by
 unfold Ap;rw[WAE,tW]
theorem pf(x y:AC)(h:x.Attrs.length≤1073741824):Pv x y=some (decide (x=y)):=by
 unfold Pv
 rw[MF _ _ (by omega)]
 obtain⟨j,l,q⟩:=x
 obtain⟨u,w,A⟩:=y
 by_cases B:j=u<;>by_cases C:l=w<;>by_cases E:q=A<;>simp[B,C,E,default]
theorem Tq{α:Type}[Inhabited α][DecidableEq α]{a b:List α}(l:a.length=b.length)(h:((List.range a.length).all λk=>decide (a[k]! = b[k]!))=true):a=b:=by
 apply zG l
 intro k j q
 have:=wx.1 h k (xP.2 j)
 simp only[wV] at this
 rwa [wg a k j,wg b k q] at this
theorem UK{α:Type}[Inhabited α][DecidableEq α](a:List α):((List.range a.length).all λk=>decide (a[k]! = a[k]!))=true:=by
 rw[wx];intro k _;rw[wW rfl]
theorem UX(a b:List AC)(u:a.length≤9223372036854775806)(h:∀e∈a,e.Attrs.length≤1073741824):LZ a b=some (decide (a=b)):=by
 unfold LZ
 by_cases j:a.length=b.length
 ·rw[ne (by simp[j]),CA (n:=a.length) (λk=>if decide (a[k]! = b[k]!) then none else some false) (λk l=>by
   unfold PK
   rw[wU (by simpa using l),AO l,AO (by omega),AE,AE,pf _ _ (h _ (BA l)),AE,AX (by omega)]
   generalize a[k]! = x
   generalize b[k]! = y
   by_cases h:x=y<;>simp[h,CG]) (by unfold PK;rw[ne (by simp)]),H5,EK]
  by_cases h:a=b
  ·subst h;rw[UK,wW rfl];rfl
  ·rw[wX h]
   have:((List.range a.length).all λk=>decide (a[k]! = b[k]!))=false:=by
    rw[← xy];exact λq=>h (Tq j q)
   rw[this];rfl
 ·rw[wU (by simp;omega),wX (by rintro rfl;exact j rfl)]
theorem qr(a b:List AH)(X:a.length≤9223372036854775806)(h:∀s∈a,GA s):Jz a b=some (decide (a=b)):=by
 unfold Jz
 by_cases j:a.length=b.length
 ·rw[ne (by simp[j]),CA (n:=a.length) (λk=>if decide (a[k]! = b[k]!) then none else some false) (λk l=>by
   unfold Qk
   have q:=h _ (BA l)
   rw[wU (by simpa using l),AO l,AO (by omega),AE,AE,MF _ _ (by have:=q.at_.1;omega),UX _ _ (by have:=q.el;omega) (λe u=>(q.ea e u).1),AX (by omega)]
   generalize a[k]! = x
   generalize b[k]! = y
   obtain⟨w,A,B,C⟩:=x
   obtain⟨E,F,I,J⟩:=y
   by_cases M:w=E<;>by_cases O:A=F<;>by_cases T:B=I<;>by_cases U:C=J<;>simp[M,O,T,U,CG,default]) (by unfold Qk;rw[ne (by simp)]),H5,EK]
  by_cases h:a=b
  ·subst h;rw[UK,wW rfl];rfl
  ·rw[wX h]
   have:((List.range a.length).all λk=>decide (a[k]! = b[k]!))=false:=by
    rw[← xy];exact λV=>h (Tq j V)
   rw[this];rfl
 ·rw[wU (by simp;omega),wX (by rintro rfl;exact j rfl)]
theorem mV(d:List AH)(q:El d)(h:Sa d):MX d=some (Av d):=by
 unfold MX
 have E:=q.len
 have key:∃r,iter (λ(a:Int × Int)=>Jf d a.1 a.2) (0,0)=some r∧r=Av d:=by
  refine EG d.length (λk l=>l=(Av (d.take k),(k:Int))) _ ?_ ?_ (by simp[Av])
  ·rintro k l j rfl
   obtain⟨F,I,J,M,_⟩:=f7 h q k
   have hg:=(h.st _ (BA j)).kind
   have u:d[k]!.N=Bn d[k]!∧d[k]!.N≤2147483647∧0≤d[k]!.N:=by
    unfold Bn
    rcases hg with ⟨k,e,w,A,_⟩ | ⟨k,e,_,w,A⟩ | ⟨k,n,_,_,_⟩
    ·rw[ne (by omega)];omega
    ·rw[ne (by omega)];omega
    ·rw[wU k];omega
   refine .inl ⟨_,?_,rfl⟩
   show Jf d (Av (d.take k)) (k:Int)=_
   unfold Jf
   rw[wU (by simpa using j),AO j,AE,Bk (by omega) (by omega),AE,AX (by omega),AE,UO j,u.1]
  ·rintro l rfl
   refine⟨Av d,?_,rfl⟩
   rw[yP]
   show Jf d _ (d.length:Int)=_
   unfold Jf
   rw[ne (by simp)]
 obtain⟨r,B,C⟩:=key
 rw[B,C];rfl
def KM(f:List AC):Prop:=∀e∈f,Bb e=0∧e.Attrs.length≤1048576
def Sh(us:List Un):Prop:=∀u∈us,match u with | .a e=>Bb e=0∧e.Attrs.length≤1048576 | .r c t=>(c=false→Ah t true=0)∧t.length≤1048576
def cE(f:List AC):Prop:=∀e∈f,Ah e.Attrs false=0∧e.Attrs.length≤1048576
theorem HJ{e:AC}(h:Bb e=0):Ah e.Attrs false=0:=dR h
theorem KM.fa{f}(h:KM f):cE f:=λe j=>⟨HJ (h e j).1,(h e j).2⟩
theorem mK{x:BT}(h:DN x){k}(j:k<x.Cuts.length):Un.r x.Cuts[k]! x.Attrs[k]! ∈ x.us:=by
 obtain⟨p,hp⟩:=pG x k h (by omega)
 rw[Xp h j] at hp
 rw[hp];simp
theorem Uv{l t:List AD}(j:Ah l false=0)(q:Ah t true=0)(u:l.length≤1048576)(w:t.length≤1048576):Hj l t=some (Fi l t):=by
 rw[lU l t (Dv j).1 (Dv q).1 (by omega),← o8 j q];rfl
theorem m8(f:List AC)(x:BT)(h:DN x)(A:x.Cuts.length=f.length)(F:cE f)(I:Sh x.us)(T:x.us.length≤4294967296):MT f x=some (A0 x.us f):=by
 unfold MT
 have U:=h.adds
 have V:=h.attrs
 have J:=XR x.us f
 have M:=h.cuts_le
 have key:∃r,iter (λ(a:Int × (List AC))=>Iz f x a.1 a.2) (0,[])=some r∧r++x.Adds[f.length]! = A0 x.us f:=by
  refine EG f.length (λk B=>B.1=(k:Int)∧B.2++A0 (x.from_ k) (f.drop k)=A0 x.us f) _ ?_ ?_ ⟨rfl,rfl⟩
  ·rintro k ⟨i,out⟩ l ⟨rfl,hd⟩
   dsimp only at hd
   have hA:=h.add_le (k:=k) (by omega)
   rw[Xp h (by omega),Gg l,Sq,← wl] at hd
   have u:=yz List.length hd
   rw[wi,wi] at u
   have q:=I _ (mK h (k:=k) (by omega))
   dsimp only at q
   have j:=F _ (BA l)
   refine .inl ?_
   show ∃X,Iz f x (k:Int) out=_∧_
   unfold Iz
   rw[wU (by simpa using l),AO (l:=x.Adds) (by omega),AE,Fo (by omega),AE,AO (l:=x.Cuts) (by omega),AE]
   cases C:x.Cuts[k]! with
   | true=>
    rw[C] at hd
    rw[ne (by decide),AE,AX (by omega),AE]
    exact⟨_,rfl,rfl,hd⟩
   | false=>
    rw[C] at hd q
    rw[wU (by decide),AO l,AE,AO (l:=x.Attrs) (by omega),AE,Uv j.1 (q.1 rfl) j.2 q.2,AE]
    rw[Fo (by rw[wi,xY];omega),AE,AE,AX (by omega),AE]
    refine⟨_,rfl,rfl,?_⟩
    rw[← hd]
    simp only[A0,wl,zn]
    rfl
  ·rintro⟨i,out⟩ ⟨rfl,hd⟩
   dsimp only at hd
   refine⟨out,?_,?_⟩
   ·show Iz f x (f.length:Int) out=_
    unfold Iz
    rw[ne (by simp)]
   ·rw[← A,ur h] at hd
    have:=Sq x.Adds[x.Cuts.length]! [] (f.drop x.Cuts.length)
    rw[wv] at this
    rw[this] at hd
    rw[← hd,← A]
    simp[A0]
 obtain⟨r,O,E⟩:=key
 have w:=yz List.length E
 rw[wi] at w
 rw[O,AE,AO (l:=x.Adds) (by omega),AE,Fo (by omega),AE,E]
theorem qV(f:List AC)(x:BT)(h:DN x)(j:x.Cuts.length=f.length)(l:KM f)(q:Sh x.us)(u:x.us.length≤4294967296):MT f x=some (A0 x.us f):=m8 f x h j l.fa q u
theorem W3{κ}(j:∀a,a.Name.length+a.Value.length+1≤κ a){l:List AD}(u:(l.map κ).sum≤1048576):CS l:=by
 have w:=M1 (μ:=κ) (λa=>by have:=j a;omega) l
 refine⟨by omega,λa q=>?_⟩
 have A:=G9 (μ:=κ) q
 have:=j a
 omega
theorem pT{ν}{κ}(j:∀e,(e.Attrs.map κ).sum+1≤ν e)(l:∀a,a.Name.length+a.Value.length+1≤κ a){f:List AC}(u:(f.map ν).sum≤1048576):f.length≤1048576∧∀e∈f,CS e.Attrs:=by
 have w:=M1 (μ:=ν) (λe=>by have:=j e;omega) f
 refine⟨by omega,λe q=>W3 l ?_⟩
 have A:=G9 (μ:=ν) q
 have:=j e
 omega
structure GW(d:List AH):Prop where
 at_:∀s∈d,s.Attrs.length≤1048576
 ea:∀s∈d,∀e∈s.Elems,e.Attrs.length≤1048576
 sum:(d.map λs=>s.Elems.length).sum≤1048576
 len:d.length≤1048576
theorem sh{d}(h:∀s∈d,E7 s)(w:GW d):Sh (Af d):=by
 intro u I
 obtain⟨s,q,l⟩:=List.mem_flatMap.1 I
 have J:=(h s q).kind
 have A:=w.at_ s q
 have M:=w.ea s q
 unfold BC at l
 rcases J with ⟨k,e,O,T,B⟩ | ⟨k,e,B,O,T⟩ | ⟨k,n,_,_,p⟩
 ·rw[ne (by omega),wX (by omega)] at l
  have:=yD l
  subst this
  exact⟨λ_=>B,A⟩
 ·rw[ne (by omega),wW k] at l
  have:=yD l
  subst this
  exact⟨λh=>(by cases h),A⟩
 ·rw[wU k] at l
  obtain⟨e,C,rfl⟩:=yC.1 l
  obtain⟨j,E,rfl⟩:=xp.1 C
  have F:=QR p E
  rw[wg s.Elems j E] at F
  exact⟨F,M _ C⟩
theorem jT{f}(h:Ep f=0)(w:∀e∈f,e.Attrs.length≤1048576):KM f:=by
 intro e l
 obtain⟨j,q,rfl⟩:=xp.1 l
 have u:=QR h q
 rw[wg f j q] at u
 exact⟨u,w _ l⟩
theorem RX(us:List Un):BF us≤us.length:=yp
theorem V3(us:List Un):Bi us≤us.length:=yp
theorem Je{us:List Un}(h:∀u∈us,DA u):(Ap us).out.length+(Ap us).adds.length+(Ap us).cuts≤us.length:=(Jl h).len
theorem pQ:∀(us:List Un) (f:List AC),KM f→Sh us→∀e∈A0 us f,e.Attrs.length≤1073741824:=by
 intro us f
 fun_induction A0 us f with
 | case1 e us f q=>
  intro l j x h
  rcases wo.1 h with rfl | h
  ·have:x.Attrs.length≤1048576:=(j _ (wZ ..)).2
   show x.Attrs.length≤_
   omega
  ·exact q l (λv u=>j v (we _ u)) x h
 | case2 t us y f q=>
  intro l j x h
  exact q (λe w=>l e (we _ w)) (λv u=>j v (we _ u)) x h
 | case3 t us y f q=>
  intro l j x h
  rcases wo.1 h with rfl | h
  ·have A:=(l y (wZ ..)).2
   have B:t.length≤1048576:=(j _ (wZ ..)).2
   have:=cY y.Attrs t
   show(Fi y.Attrs t).length≤_
   omega
  ·exact q (λe w=>l e (we _ w)) (λv u=>j v (we _ u)) x h
 | case4=>intro _ _ x h;cases h
 | case5=>intro _ _ x h;cases h
theorem TE{d}(h:∀s∈d,E7 s):(Ao (Af d):Int)=Av d:=by
 induction d with
 | nil=>rfl
 | cons s d j=>
  have B:=j (λx q=>h x (we _ q))
  have u:=(h s (wZ ..)).kind
  rw[UA,Ik]
  have e:Ao (BC s++Af d)=Ao (BC s)+Ao (Af d):=by simp[Ao]
  rw[e]
  have C:(Ao (BC s):Int)=Bn s:=by
   unfold BC Bn
   rcases u with ⟨k,e,w,A,_⟩ | ⟨k,e,_,w,A⟩ | ⟨k,n,_,_,_⟩
   ·rw[ne (by omega),ne (by omega)];simp[Ao,yX,Un.isR];omega
   ·rw[ne (by omega),ne (by omega)];simp[Ao,yX,Un.isR];omega
   ·rw[wU k,wU k]
    have:∀l:List AC,Ao (l.map Un.a)=0:=λl=>by induction l with
     | nil=>rfl
     | cons x l j=>simp[Ao,Un.isR]
    rw[this];rfl
  omega
def DJ(us:List Un):Prop:=∀u∈us,match u with | .a e=>Bb e=0∧e.Attrs.length≤1048576 | .r c t=>(c=false→Ah t true=0)∧(c=true→t=[])∧t.length≤1048576
theorem uT{s:AH}(h:E7 s)(w:s.Attrs.length≤1048576)(E:∀e∈s.Elems,e.Attrs.length≤1048576):DJ (BC s):=by
 intro u l
 unfold BC at l
 rcases h.kind with ⟨k,e,F,I,q⟩ | ⟨k,e,q,F,I⟩ | ⟨k,n,_,_,p⟩
 ·rw[ne (by omega),wX (by omega)] at l
  have:=yD l
  subst this
  exact⟨λ_=>q,λh=>(by cases h),w⟩
 ·rw[ne (by omega),wW k] at l
  have:=yD l
  subst this
  exact⟨λh=>(by cases h),λ_=>q,w⟩
 ·rw[wU k] at l
  obtain⟨e,A,rfl⟩:=yC.1 l
  obtain⟨j,B,rfl⟩:=xp.1 A
  have C:=QR p B
  rw[wg s.Elems j B] at C
  exact⟨C,E _ A⟩
theorem UF{d}(h:∀s∈d,E7 s)(l:GW d):DJ (Af d):=by
 intro u q
 obtain⟨s,j,w⟩:=List.mem_flatMap.1 q
 exact uT (h s j) (l.at_ s j) (l.ea s j) u w
def Bv(s:AH):Int:=if s.Kind=1 then s.Elems.length else s.N
def B5(p:BM):List Un:=match p.steps with
 | []=>[]
 | s::rest=>(BC s).drop p.used.toNat++Af rest
structure FS(p:BM):Prop where
 stp:∀s∈p.steps,E7 s∧GA s
 u0:0≤p.used
 fit:∀s rest,p.steps=s::rest→p.used<Bv s
theorem Gz{s}(h:E7 s)(j:GA s):1≤Bv s∧Bv s≤2147483647∧((BC s).length:Int)=Bv s∧Gh s=some (Bv s):=by
 have A:=j.el
 unfold Bv BC Gh
 rcases h.kind with ⟨k,e,l,q,u⟩ | ⟨k,e,u,l,q⟩ | ⟨k,n,_,w,p⟩
 ·rw[ne (by omega),ne (by omega),ne (by rw[wV];omega),xg];exact⟨by omega,by omega,by omega,rfl⟩
 ·rw[ne (by omega),ne (by omega),ne (by rw[wV];omega),xg];exact⟨by omega,by omega,by omega,rfl⟩
 ·have:=xx.2 w
  rw[wU k,wU k,wU (by rw[wV];exact k),wq];exact⟨by omega,by omega,rfl,rfl⟩
theorem QK a:B5 ⟨a,0⟩=Af a:=by
 cases a with
 | nil=>rfl
 | cons s rest=>simp[B5,Af]
theorem Oq{a}(h:∀s∈a,E7 s∧GA s):FS ⟨a,0⟩:=⟨h,z7 0,λs rest e=>by
 have j:s∈a:=by show s∈(⟨a,0⟩:BM).steps;rw[e];exact wZ ..
 have:=(Gz (h s j).1 (h s j).2).1
 show(0:Int)<Bv s
 omega⟩
theorem Ny u:GB ⟨[],u⟩=some (-1):=by unfold GB;rw[wU (by simp)]
theorem Mo(s:AH) rest u:GB ⟨s::rest,u⟩=some s.Kind:=by
 unfold GB;rw[ne (by simp;omega)];rfl
theorem HO{s}{rest}{u}(h:FS ⟨s::rest,u⟩):GJ ⟨s::rest,u⟩=some (Bv s-u):=by
 have j:=h.stp s (wZ ..)
 have l:=Gz j.1 j.2
 have q:=h.u0
 have w:=h.fit s rest rfl
 dsimp only at q w
 unfold GJ
 show AB (some s) _=_
 rw[AE,l.2.2.2,AE,Bk (by dsimp only;omega) (by dsimp only;omega)];rfl
def I8(s:AH)(u n:Nat):List Un:=((BC s).drop u).take n
theorem HG{s:AH}{rest:List AH}{u n:Int}(h:FS ⟨s::rest,u⟩)(T:1≤n)(U:n≤Bv s-u)(V:rest.length≤4294967296) :
  ∃p s',FY ⟨s::rest,u⟩ n=some (s',p)∧FS p∧B5 ⟨s::rest,u⟩=I8 s u.toNat n.toNat++B5 p∧p.steps.length≤rest.length+1∧s'.Kind=s.Kind∧s'.Attrs=s.Attrs∧(s.Kind=1→s'.Elems.map Un.a=I8 s u.toNat n.toNat∧(s'.Elems.length:Int)=n∧∀e∈s'.Elems,e∈s.Elems):=by
 have w:=h.stp s (wZ ..)
 have E:=Gz w.1 w.2
 have F:=h.u0
 have I:=h.fit s rest rfl
 dsimp only at F I
 unfold FY
 dsimp only
 show ∃p s',AB (some s) _=_∧_
 rw[AE]
 have q:∃s',(if(decide (s.Kind=1)) then(AB (AK .i64 (u+n)) λ(J:Int)=>AB (B8 s.Elems u J) λ(M:List AC)=>some (AH.mk s.Kind s.N s.Attrs M)) else(some (AH.mk s.Kind n s.Attrs s.Elems)))=some s'∧s'.Kind=s.Kind∧s'.Attrs=s.Attrs∧(s.Kind=1→s'.Elems.map Un.a=I8 s u.toNat n.toNat∧(s'.Elems.length:Int)=n∧∀e∈s'.Elems,e∈s.Elems):=by
  by_cases k:s.Kind=1
  ·have X:Bv s=s.Elems.length:=by unfold Bv;rw[wU k]
   rw[wU (by rw[wV];exact k),Bk (by omega) (by omega),AE]
   have:B8 s.Elems u (u+n)=some ((s.Elems.drop u.toNat).take n.toNat):=by
    unfold B8
    rw[wU (by omega),show(u+n).toNat-u.toNat=n.toNat by omega]
   rw[this,AE]
   refine⟨_,rfl,rfl,rfl,λ_=>⟨?_,?_,λe l=>ya (yc l)⟩⟩
   ·unfold I8 BC;rw[wU k,List.map_take,List.map_drop]
   ·dsimp only;rw[List.length_take,List.length_drop];omega
  ·rw[ne (by rw[wV];exact k)]
   exact⟨_,rfl,rfl,rfl,λh=>absurd h k⟩
 obtain⟨s',q,A,B,C⟩:=q
 rw[q,AE,Bk (by omega) (by omega),AE,E.2.2.2,AE]
 have j:(BC s).drop u.toNat=I8 s u.toNat n.toNat++(BC s).drop (u.toNat+n.toNat):=by
  unfold I8
  rw[← List.drop_drop,yV]
 by_cases l:u+n=Bv s
 ·rw[wU (by rw[wV];exact l)]
  have:B8 (s::rest) 1 ((s::rest).length:Int)=some rest:=by
   unfold B8
   rw[wU (by rw[wm];omega)]
   simp
  rw[this,AE,AE]
  refine⟨_,_,rfl,Oq λx O=>h.stp x (we _ O),?_,by simp,A,B,C⟩
  rw[QK]
  show(BC s).drop u.toNat++Af rest=_
  rw[j,ze (by omega),wv]
 ·rw[ne (by rw[wV];exact l),AE]
  refine⟨_,_,rfl,⟨h.stp,by show 0≤u+n;omega,λx r e=>?_⟩,?_,by simp,A,B,C⟩
  ·have:s=x:=by have:=e;simp at this;exact this.1
   subst this
   show u+n<Bv s
   omega
  ·show(BC s).drop u.toNat++Af rest=_++((BC s).drop (u+n).toNat++Af rest)
   rw[j,wl,show(u+n).toNat=u.toNat+n.toNat by omega]
theorem Qv{s:AH}{u n}(k:s.Kind≠1)(h:u+n≤s.N.toNat):I8 s u n=List.replicate n (.r (decide (s.Kind=2)) s.Attrs):=by
 unfold I8 BC
 rw[ne k,List.drop_replicate,List.take_replicate,show min n (s.N.toNat-u)=n by omega]
theorem vK n l j q u us vs:B4 (List.replicate n (.r l q)++us) (List.replicate n (.r j u)++vs)=(if j then [] else List.replicate n (.r l (E4 q u)))++B4 us vs:=by
 induction n with
 | zero=>cases j<;>rfl
 | succ n w=>
  rw[xG,xG,ws,ws,B4,w]
  cases j<;>rfl
theorem lq n j l u q us vs:CW (List.replicate n (.r j u)++us) (List.replicate n (.r l q)++vs)=(if j then [] else List.replicate n (.r l q))++CW us vs:=by
 induction n with
 | zero=>cases j<;>rfl
 | succ n w=>
  rw[xG,xG,ws,ws,CW,w]
  cases j<;>rfl
theorem ev{a b}(j:Ah a true=0)(l:Ah b true=0):Bf FC a b []=E4 a b:=kB (Dv j).1 (Dv l).1 (Dv j).2.1 (Dv l).2.1
theorem R4{u:Un}{us:List Un}(h:DJ us)(hu:u ∈ us):DA u := by
  have := h u hu
  match u, this with
  | .a e, he => exact⟨he.1, F9 (HJ he.1) (by omega)⟩
  | .r true t, ht => have := ht.2.1 rfl
                     subst this;exact⟨λh => (by cases h), Ff⟩
  | .r false t, ht => exact⟨λ_ => ht.1 rfl, F9 (ht.1 rfl) (by have := ht.2.2;omega)⟩
theorem DJ.tl{u}{us}(h:DJ (u::us)):DJ us:=λv j=>h v (we _ j)
theorem Na:Ah [] true=0:=by decide
theorem fK:DA (.r false []):=⟨λ_=>Na,Ff⟩
theorem bI{j q:List AD}(u:Ah j true=0)(w:Ah q true=0)(B:j.length≤1048576)(A:q.length≤1048576):Ah (E4 j q) true=0∧CS (E4 j q):=by
 have e:=nU u w
 have l:=tU j q
 rw[ev u w] at e l
 exact⟨e,F9 e (by omega)⟩
theorem fv:∀(us vs:List Un),DJ us→DJ vs→∀u∈B4 us vs,DA u:=by
 intro us vs
 fun_induction B4 us vs with
 | case1 e us vs w=>
  intro l q u j
  rcases wo.1 j with rfl | j
  ·exact R4 l (wZ ..)
  ·exact w l.tl q u j
 | case2 us e vs F w=>
  intro l q u j
  rcases wo.1 j with rfl | j
  ·exact fK
  ·exact w l q.tl u j
 | case3 E I us J vs w=>intro l q u j;exact w l.tl q.tl u j
 | case4 E I us T J vs B w=>
  intro l q u j
  rcases wo.1 j with rfl | j
  ·have A:=l _ (wZ ..)
   have C:=q _ (wZ ..)
   dsimp only at A C
   cases E with
   | true=>
    have:=A.2.1 rfl
    subst this
    exact⟨λh=>(by cases h),Ff⟩
   | false=>
    obtain⟨M,O⟩:=bI (A.1 rfl) (C.1 (by simpa using B)) A.2.2 C.2.2
    exact⟨λ_=>M,O⟩
  ·exact w l.tl q.tl u j
 | case5=>intro _ _ u j;cases j
 | case6=>intro _ _ u j;cases j
 | case7=>intro _ _ u j;cases j
theorem Vs:∀(us vs:List Un),DJ us→DJ vs→∀u∈CW us vs,DA u:=by
 intro us vs
 fun_induction CW us vs with
 | case1 e us vs q=>
  intro w l u j
  rcases wo.1 j with rfl | j
  ·exact fK
  ·exact q w.tl l u j
 | case2 us e vs A q=>
  intro w l u j
  rcases wo.1 j with rfl | j
  ·exact R4 l (wZ ..)
  ·exact q w l.tl u j
 | case3 B us C E vs q=>intro w l u j;exact q w.tl l.tl u j
 | case4 I B us C E vs F q=>
  intro w l u j
  rcases wo.1 j with rfl | j
  ·exact R4 l (wZ ..)
  ·exact q w.tl l.tl u j
 | case5=>intro _ _ u j;cases j
 | case6=>intro _ _ u j;cases j
 | case7=>intro _ _ u j;cases j
theorem Cy(u:Un) us:BF (u::us)=(if u.isR then 0 else 1)+BF us:=by unfold BF;rw[xz];cases u.isR<;>simp<;>omega
theorem qY:∀(us vs:List Un),BF (B4 us vs)≤BF us:=by
 intro us vs
 fun_induction B4 us vs with
 | case1 e us vs j=>rw[Cy,Cy];omega
 | case2 us e vs l j=>rw[Cy];simp only[Un.isR,yN];omega
 | case3 q u us w vs j=>rw[Cy];omega
 | case4 q u us B w vs A j=>rw[Cy,Cy];simp only[Un.isR,yN];omega
 | case5=>simp[BF]
 | case6=>simp[BF]
 | case7=>simp[BF]
theorem oA:∀(us vs:List Un),BF (CW us vs)≤BF vs:=by
 intro us vs
 fun_induction CW us vs with
 | case1 e us vs j=>rw[Cy];simp only[Un.isR,yN];omega
 | case2 us e vs l j=>rw[Cy,Cy];omega
 | case3 q us u w vs j=>rw[Cy];omega
 | case4 B q us u w vs A j=>rw[Cy,Cy];simp only[Un.isR,yN];omega
 | case5=>simp[BF]
 | case6=>simp[BF]
 | case7=>simp[BF]
theorem He a b:Ao (a++b)=Ao a+Ao b:=by simp[Ao]
theorem Ov(l:List AC):Ao (l.map Un.a)=0:=by induction l with
 | nil=>rfl
 | cons x l j=>simp[Ao,Un.isR]
theorem Of n c t:Ao (List.replicate n (.r c t))=n:=by simp[Ao,yX,Un.isR]
theorem WP{s:AH}{rest}{u:Int}(h:FS ⟨s::rest,u⟩)(l:s.Kind≠1):Lq (B5 ⟨s::rest,u⟩)∧0<Ao (B5 ⟨s::rest,u⟩):=by
 have q:=h.stp s (wZ ..)
 have C:=Gz q.1 q.2
 have w:=h.u0
 have A:=h.fit s rest rfl
 dsimp only at w A
 have E:Bv s=s.N:=by unfold Bv;rw[ne l]
 have e:B5 ⟨s::rest,u⟩=List.replicate (s.N.toNat-u.toNat) (.r (decide (s.Kind=2)) s.Attrs)++Af rest:=by
  show(BC s).drop u.toNat++Af rest=_
  unfold BC
  rw[ne l,List.drop_replicate]
 obtain⟨j,B⟩:∃j,s.N.toNat-u.toNat=j+1:=⟨s.N.toNat-u.toNat-1,by omega⟩
 rw[e,B]
 constructor
 ·rw[xG,ws]
  exact λ_ _ h=>by cases h
 ·rw[He,Of]
  omega
theorem GM a b:Ao (a++b)=Ao a+Ao b:=by simp[Ao]
theorem pw(a b:List Cq)(F:a.length≤9223372036854775806):KB a b=some (decide (a=b)):=by
 unfold KB
 by_cases l:a.length=b.length
 ·rw[ne (by simp[l]),CA (n:=a.length) (λk=>if decide (a[k]! = b[k]!) then none else some false) (λk u=>by
   unfold Q1
   rw[wU (by simpa using u),AO u,AO (by omega),AE,AE,AX (by omega)]
   generalize a[k]! = x
   generalize b[k]! = y
   obtain⟨A,B⟩:=x
   obtain⟨C,E⟩:=y
   by_cases h:A=C<;>by_cases q:B=E<;>simp[h,q,CG]) (by unfold Q1;rw[ne (by simp)]),H5,EK]
  by_cases h:a=b
  ·subst h;simp
  ·rw[wX h]
   have:((List.range a.length).all λk=>decide (a[k]! = b[k]!))=false:=by
    rw[← xy,wx]
    intro j
    apply h
    apply zG l
    intro k w q
    have:=j k (xP.2 w)
    simp only[wV] at this
    rwa [wg a k w,wg b k q] at this
   rw[this];rfl
 ·rw[wU (by simp;omega),wX (by rintro rfl;exact l rfl)]
theorem KW{X:List Un}(j:∀u∈X,DA u)(w:X.length≤100000000000)(k:Int)(t:List AD)(l:0≤k)(A:k≤100000000000)(q:t.length≤1073741824) :
  GT (CR (Ap X)) k t=some (CR (Ap (X++List.replicate k.toNat (.r false t)))):=by
 have B:=Je j
 have C:Ao X≤X.length:=yp
 rw[fI (Jl j) (by omega) (by omega) k t l (by omega) q,KX X k t l]
theorem Ni{X:List Un}(j:∀u∈X,DA u)(w:X.length≤100000000000)(l:List AC)(q:l.length≤4294967296)(h:∀e∈l,CS e.Attrs):HF (CR (Ap X)) l=some (CR (Ap (X++l.map Un.a))):=by
 have A:=Je j
 rw[dE (Ap X) l q h (by omega),Ls]
theorem TT{X:List Un}(j:∀u∈X,DA u)(q:X.length≤100000000000)(n:Int)(t:List AD)(w:0≤n)(A:n≤100000000000){α:Type}(f:Ac→Option α) :
  (AB (AK .i64 ((CR (Ap X)).cut+n)) λ(l:Int)=>f (Ac.mk (CR (Ap X)).out (CR (Ap X)).add l))=f (CR (Ap (X++List.replicate n.toNat (.r true t)))):=by
 have B:=Je j
 show(AB (AK .i64 (((Ap X).cuts:Int)+n)) _)=_
 rw[Bk (by omega) (by omega),AE,← Th]
 congr 1
 show(⟨(Ap X).out,(Ap X).adds,((Ap X).cuts:Int)+n⟩:Ac)=⟨(Ap X).out,(Ap X).adds,(((Ap X).cuts+n.toNat:Nat):Int)⟩
 congr 1
 omega
theorem DJ.app{a b}(h:DJ (a++b)):DJ b:=λu j=>h u (zl _ j)
theorem si(I J:List Un)(p q:BM)(hp:FS p)(C:FS q)(ha:B5 p=I)(hb:B5 q=J)(oa:DJ I)(ob:DJ J)(hc:Ao I=Ao J)(ah:I.length≤4294967296)(ai:J.length≤4294967296)(O:p.steps.length≤4294967296)(E:q.steps.length≤4294967296) :
  iter (λ(a:Ac × Ac × BM × BM)=>Mv a.1 a.2.1 a.2.2.1 a.2.2.2) ((Ac.mk [] [] 0),(Ac.mk [] [] 0),p,q)=some (CR (Ap (B4 I J)),CR (Ap (CW I J))):=by
 have key:∃r,iter (λ(a:Ac × Ac × BM × BM)=>Mv a.1 a.2.1 a.2.2.1 a.2.2.2) ((Ac.mk [] [] 0),(Ac.mk [] [] 0),p,q)=some r∧r=(CR (Ap (B4 I J)),CR (Ap (CW I J))):=by
  refine eA (λF=>FS F.2.2.1∧FS F.2.2.2∧DJ (B5 F.2.2.1)∧DJ (B5 F.2.2.2)∧F.2.2.1.steps.length≤4294967296∧F.2.2.2.steps.length≤4294967296∧Ao (B5 F.2.2.1)=Ao (B5 F.2.2.2) ∧
   ∃X Y,F.1=CR (Ap X)∧F.2.1=CR (Ap Y)∧X++B4 (B5 F.2.2.1) (B5 F.2.2.2)=B4 I J∧Y++CW (B5 F.2.2.1) (B5 F.2.2.2)=CW I J)
   (λF=>(B5 F.2.2.1).length+(B5 F.2.2.2).length) _ ?_ ⟨hp,C,by rw[ha];exact oa,by rw[hb];exact ob,O,E,by rw[ha,hb];exact hc,[],[],rfl,rfl,by rw[ha,hb];rfl,by rw[ha,hb];rfl⟩
  rintro⟨x,y,p,q⟩ ⟨hp,C,U,oQ,O,E,hc,X,Y,hx,hy,j,l⟩
  dsimp only at hp C U oQ O E hc hx hy j l
  subst hx;subst hy
  have aj:X.length≤8589934592:=by
   have A:=yz List.length j
   have M:=bB I J
   rw[wi] at A
   omega
  have ak:Y.length≤8589934592:=by
   have A:=yz List.length l
   have M:=U9 I J
   rw[wi] at A
   omega
  have V:∀u∈X,DA u:=λu hu=>fv I J oa ob u (by rw[← j];exact yg _ hu)
  have Z:∀u∈Y,DA u:=λu hu=>Vs I J oa ob u (by rw[← l];exact yg _ hu)
  dsimp only
  unfold Mv
  obtain⟨ps,pu⟩:=p
  obtain⟨qs,qu⟩:=q
  match ps,qs with
  | [],[]=>
   refine .inr ?_
   rw[Ny,Ny]
   simp only[AE]
   refine⟨_,rfl,?_⟩
   have e1:B4 [] []=[]:=by rw[B4]
   have e2:CW [] []=[]:=by rw[CW]
   change X++B4 [] []=_ at j
   change Y++CW [] []=_ at l
   rw[e1,wv] at j
   rw[e2,wv] at l
   rw[j,l]
  | s::ps,qs=>
   have hs:=hp.stp s (wZ ..)
   have hsz:=Gz hs.1 hs.2
   have ab:=hp.u0
   have ac:=hp.fit s ps rfl
   have al:=JZ hs.1
   dsimp only at ab ac O
   rw[wm] at O
   rw[Mo,AE]
   have a6:decide (0≤s.Kind)=true:=by rw[wV];omega
   rw[a6,show(true==false)=false from rfl,ne (by decide),AE,wU (by decide)]
   refine .inl ?_
   by_cases hk:s.Kind=1
   ·obtain⟨p',s',A,M,T,h4,k1,k2,k3⟩:=HG (n:=Bv s-pu) hp (by omega) (by omega) (by omega)
    obtain⟨k3,k4,k5⟩:=k3 hk
    rw[wU (by rw[wV];exact hk),HO hp,AE,A,BU,Ni V (by omega) s'.Elems (by omega) (λe he=>hs.2.ea e (k5 e he)),AE,KW Z (by omega) _ _ (by omega) (by omega) (by simp),AE]
    rw[← k3] at T
    rw[T] at j l hc U ⊢
    rw[bC,← wl] at j
    rw[qt,← wl] at l
    rw[He,Ov,xE] at hc
    rw[xl]
    refine⟨_,rfl,⟨M,C,U.app,oQ,by dsimp only;omega,E,hc,_,_,rfl,rfl,j,l⟩,?_⟩
    dsimp only
    rw[wi,wq];omega
   ·rw[ne (by rw[wV];exact hk)]
    have a0:=WP hp hk
    match qs with
    | []=>
     exfalso
     have A:=a0.2
     rw[hc] at A
     exact absurd A (by show ¬ (0<Ao []);simp[Ao])
    | t::qs=>
     have ht:=C.stp t (wZ ..)
     have ad:=Gz ht.1 ht.2
     have a7:=C.u0
     have a8:=C.fit t qs rfl
     have ae:=JZ ht.1
     dsimp only at a7 a8 E
     rw[wm] at E
     rw[Mo,AE]
     by_cases B:t.Kind=1
     ·obtain⟨q',t',A,M,T,h4,k1,k2,k3⟩:=HG (n:=Bv t-qu) C (by omega) (by omega) (by omega)
      obtain⟨k3,k4,k5⟩:=k3 B
      rw[wU (by rw[wV];exact B),HO C,AE,A,BU,KW V (by omega) _ _ (by omega) (by omega) (by simp),AE,Ni Z (by omega) t'.Elems (by omega) (λe he=>ht.2.ea e (k5 e he)),AE]
      rw[← k3] at T
      rw[T] at j l hc oQ ⊢
      rw[gq _ _ _ a0.1,← wl] at j
      rw[gY _ _ _ a0.1,← wl] at l
      rw[He,Ov,xE] at hc
      rw[xl]
      refine⟨_,rfl,⟨hp,M,U,oQ.app,by dsimp only [List.length_cons];omega,by dsimp only;omega,hc,_,_,rfl,rfl,j,l⟩,?_⟩
      dsimp only
      rw[wi,wq];omega
     ·rw[ne (by rw[wV];exact B),HO hp,AE,HO C,AE]
      generalize hn:min (Bv s-pu) (Bv t-qu)=n
      have aa:1≤n:=by omega
      have af:n≤Bv s-pu:=by omega
      have ag:n≤Bv t-qu:=by omega
      have z1:Bv s=s.N:=by unfold Bv;rw[ne hk]
      have z2:Bv t=t.N:=by unfold Bv;rw[ne B]
      obtain⟨p',s',A,M,T,h4,k1,k2,_⟩:=HG (n:=n) hp aa af (by omega)
      obtain⟨q',t',j1,j2,j3,j4,l1,l2,_⟩:=HG (n:=n) C aa ag (by omega)
      rw[Qv hk (by omega)] at T
      rw[Qv B (by omega)] at j3
      rw[T] at U
      rw[j3] at oQ
      obtain⟨m,hm⟩:∃m,n.toNat=m+1:=⟨n.toNat-1,by omega⟩
      have u1:=U (.r (decide (s.Kind=2)) s.Attrs) (by rw[hm,xG];simp)
      have u2:=oQ (.r (decide (t.Kind=2)) t.Attrs) (by rw[hm,xG];simp)
      dsimp only at u1 u2
      rw[A,BU,j1,BU,k1,l1,k2,l2]
      rw[T,j3] at j l hc ⊢
      rw[vK,← wl] at j
      rw[lq,← wl] at l
      rw[He,He,Of,Of] at hc
      by_cases h0:s.Kind=0<;>by_cases g0:t.Kind=0
      ·have d1:decide (s.Kind=2)=false:=by rw[h0];rfl
       have d2:decide (t.Kind=2)=false:=by rw[g0];rfl
       have a1:=u1.1 d1
       have a2:=u2.1 d2
       have lk:=(bI a1 a2 u1.2.2 u2.2.2).2
       rw[d1,d2] at j l ⊢
       rw[wW h0,wW g0,wU (by decide),oT _ _ (by omega),ev a1 a2,AE,KW V (by omega) n _ (by omega) (by omega) lk.1,AE,KW Z (by omega) n _ (by omega) (by omega) (by omega),AE]
       refine⟨_,rfl,⟨M,j2,U.app,oQ.app,by dsimp only;omega,by dsimp only;omega,by dsimp only;omega,_,_,rfl,rfl,j,l⟩,?_⟩
       dsimp only
       rw[wi,wi,xg];omega
      ·have d1:decide (s.Kind=2)=false:=by rw[h0];rfl
       have d2:decide (t.Kind=2)=true:=by rw[wV];omega
       rw[d1,d2] at j l ⊢
       rw[wW h0,wX g0,ne (by decide),wU (by decide)]
       rw[wU rfl,wv] at j
       rw[TT Z (by omega) n t.Attrs (by omega) (by omega) (λw=>some (Sum.inl (CR (Ap X),w,p',q')))]
       refine⟨_,rfl,⟨M,j2,U.app,oQ.app,by dsimp only;omega,by dsimp only;omega,by dsimp only;omega,_,_,rfl,rfl,j,l⟩,?_⟩
       dsimp only
       rw[wi,wi,xg];omega
      ·have d1:decide (s.Kind=2)=true:=by rw[wV];omega
       have d2:decide (t.Kind=2)=false:=by rw[g0];rfl
       rw[d1,d2] at j l ⊢
       rw[wX h0,wW g0,ne (by decide),ne (by decide),wU (by decide)]
       rw[wU rfl,wv] at l
       rw[TT V (by omega) n (E4 s.Attrs t.Attrs) (by omega) (by omega) (λw=>some (Sum.inl (w,CR (Ap Y),p',q')))]
       refine⟨_,rfl,⟨M,j2,U.app,oQ.app,by dsimp only;omega,by dsimp only;omega,by dsimp only;omega,_,_,rfl,rfl,j,l⟩,?_⟩
       dsimp only
       rw[wi,wi,xg];omega
      ·have d1:decide (s.Kind=2)=true:=by rw[wV];omega
       have d2:decide (t.Kind=2)=true:=by rw[wV];omega
       rw[d1,d2] at j l ⊢
       rw[wX h0,wX g0,ne (by decide),ne (by decide),ne (by decide)]
       rw[wU rfl,wv] at j l
       refine⟨_,rfl,⟨M,j2,U.app,oQ.app,by dsimp only;omega,by dsimp only;omega,by dsimp only;omega,_,_,rfl,rfl,j,l⟩,?_⟩
       dsimp only
       rw[wi,wi,xg];omega
  | [],t::qs=>
   have ht:=C.stp t (wZ ..)
   have ad:=Gz ht.1 ht.2
   have a7:=C.u0
   have a8:=C.fit t qs rfl
   have ae:=JZ ht.1
   dsimp only at a7 a8 E
   rw[wm] at E
   rw[Ny,AE,show decide ((0:Int) ≤ -1)=false by decide,show(false==false)=true from rfl,wU rfl,Mo,AE,AE]
   have a6:decide (0≤t.Kind)=true:=by rw[wV];omega
   rw[a6,wU (by decide),ne (by decide),AE]
   refine .inl ?_
   by_cases B:t.Kind=1
   ·obtain⟨q',t',A,M,T,h4,k1,k2,k3⟩:=HG (n:=Bv t-qu) C (by omega) (by omega) (by omega)
    obtain⟨k3,k4,k5⟩:=k3 B
    rw[wU (by rw[wV];exact B),HO C,AE,A,BU,KW V (by omega) _ _ (by omega) (by omega) (by simp),AE,Ni Z (by omega) t'.Elems (by omega) (λe he=>ht.2.ea e (k5 e he)),AE]
    rw[← k3] at T
    rw[T] at j l hc oQ ⊢
    rw[gq _ _ _ (show Lq (B5 ⟨[],pu⟩) from fx),← wl] at j
    rw[gY _ _ _ (show Lq (B5 ⟨[],pu⟩) from fx),← wl] at l
    rw[He,Ov,xE] at hc
    rw[xl]
    refine⟨_,rfl,⟨hp,M,U,oQ.app,O,by dsimp only;omega,hc,_,_,rfl,rfl,j,l⟩,?_⟩
    dsimp only
    rw[wi,wq];omega
   ·exfalso
    have A:=(WP C B).2
    rw[← hc] at A
    exact absurd A (by show ¬ (0<Ao []);simp[Ao])
 obtain⟨r,A,M⟩:=key
 rw[A,M]
theorem uJ a b:BF (a++b)=BF a+BF b:=by simp[BF]
theorem Tp{d:List AH}(h:∀s∈d,E7 s):BF (Af d)=(d.map λs=>s.Elems.length).sum:=by
 induction d with
 | nil=>rfl
 | cons s d j=>
  have q:=j (λx u=>h x (we _ u))
  have w:=(h s (wZ ..)).kind
  rw[UA,uJ,q,ww,xu]
  congr 1
  unfold BC
  rcases w with ⟨k,e,_,_,_⟩ | ⟨k,e,_,_,_⟩ | ⟨k,_,_,_,_⟩
  ·rw[ne (by omega),e];simp[BF,yX,Un.isR]
  ·rw[ne (by omega),e];simp[BF,yX,Un.isR]
  ·rw[wU k]
   have:∀l:List AC,BF (l.map Un.a)=l.length:=λl=>by induction l with
    | nil=>rfl
    | cons x l j=>rw[ww,Cy,j,wm];simp only[Un.isR];simp;omega
   rw[this]
def XN(a b:List AH):List AH × List AH × Int:=
 if CH (BD (B4 (Af a) (Af b)))≠0∨CH (BD (CW (Af a) (Af b)))≠0 then([],[],3) else(BD (B4 (Af a) (Af b)),BD (CW (Af a) (Af b)),0)
theorem sk a b(E:El a)(F:El b)(I:GW a)(J:GW b):NU a b=some (if CH a≠0 then([],[],CH a) else if CH b≠0 then([],[],CH b) else
  if Av a≠Av b then([],[],14) else XN a b):=by
 unfold NU
 rw[Ps a E,AE]
 by_cases j:CH a≠0
 ·rw[wU (BK j),wU j]
 have j:=wy.1 j
 rw[ne (Bx j),ne (by simpa using j),Ps b F,AE]
 by_cases l:CH b≠0
 ·rw[wU (BK l),wU l]
 have l:=wy.1 l
 have q:=MY j
 have u:=MY l
 rw[ne (Bx l),ne (by simpa using l),RU a E q,RU b F u,BU,BU]
 by_cases A:Av a≠Av b
 ·rw[wU (BK A),wU A]
 have A:=wy.1 A
 have V:=QE q.st
 have X:=QE u.st
 have Y:=TE q.st
 have Z:=TE u.st
 have M:=UF q.st I
 have O:=UF u.st J
 have g1:=q.olds
 have g2:=u.olds
 have m1:=I.sum
 have m2:=J.sum
 have n1:=I.len
 have n2:=J.len
 rw[ne (Bx A),ne (by simpa using A)]
 rw[si (Af a) (Af b) ⟨a,0⟩ ⟨b,0⟩ (Oq λs C=>⟨q.st s C,E.st s C⟩) (Oq λs C=>⟨u.st s C,F.st s C⟩) (QK a) (QK b) M O (by omega) (by omega) (by omega) (by dsimp only;omega) (by dsimp only;omega),BU]
 have px:=bB (Af a) (Af b)
 have py:=U9 (Af a) (Af b)
 have T:=fv _ _ M O
 have U:=Vs _ _ M O
 have lx:=Je T
 have ly:=Je U
 have cx:=qY (Af a) (Af b)
 have cy:=oA (Af a) (Af b)
 have wa:=Tp q.st
 have wb:=Tp u.st
 rw[PA T (by omega) (by omega),PA U (by omega) (by omega)]
 unfold XN
 by_cases w:CH (BD (B4 (Af a) (Af b)))=0<;>by_cases B:CH (BD (CW (Af a) (Af b)))=0
 ·rw[ne (by simpa using w),ne (by simpa using B),ne (by simp[w,B])];rfl
 ·rw[ne (by simpa using w),wU B,wU (.inr B)];rfl
 ·rw[wU w,ne (by simpa using B),wU (.inl w)];rfl
 ·rw[wU w,wU B,wU (.inl w)];rfl
def Hg(f:List AC):Int:=if Ep f≠0 then Ep f else if f=[]∨f[f.length-1]!.Char≠10 then 11 else 0
theorem tr{f}{k}{r}(h:EF f k=some r):r≠0:=by
 unfold EF at h
 split at h
 ·cases h
 ·rename_i j;cases h;exact j
theorem fd(f:List AC)(C:f.length≤1073741824):(Aj (some (FT ((List.range f.length).findSome? (EF f)))) λ(_:Unit)=>
  AB (gd ((true==true)&&((decide ((f.length:Int)=0))==false)) (AK .i64 ((f.length:Int)-1))) λ(u:Int)=>
  AB (gd ((true==true)&&((decide ((f.length:Int)=0))==false)) (AJ f u)) λ(w:AC)=>
  if(true&&(((f.length:Int)=0)||(!(w.Char=10)))) then some (11:Int) else some 0)=some (Hg f):=by
 rw[EK]
 unfold Hg Ep
 cases A:(List.range f.length).findSome? (EF f) with
 | some r=>
  have l:r≠0:=by
   obtain⟨k,B⟩:=xq A
   exact tr B.2
  dsimp only [Option.getD]
  rw[wU l]
 | none=>
  dsimp only [Option.getD]
  rw[ne (by decide)]
  by_cases q:f=[]
  ·subst q;rfl
  ·have E:0<f.length:=xx.2 q
   have hd:decide ((f.length:Int)=0)=false:=wX (by omega)
   rw[hd,show((true==true)&&(false==false))=true from rfl,Am,show((f.length:Int)-1)=((f.length-1:Nat):Int) by omega,Bk (by omega) (by omega),AE,Am,AO (by omega),AE]
   by_cases j:f[f.length-1]!.Char=10
   ·rw[ne (by rw[wW j];decide),ne (λh=>h.elim q λh=>h j)]
   ·rw[wU (by rw[wX j];decide),wU (.inr j)]
theorem Ye(f:List AC)(h:∀x∈f,EA x)(l:f.length≤1073741824):Hb f true=some (Hg f):=by
 unfold Hb
 rw[CA (n:=f.length) (EF f) (λk j=>by
  unfold LH EF
  rw[wU (by simpa using j),AO j,AE,AX (by omega),XK _ (h _ (BA j)),AE]
  by_cases e:Bb f[k]! = 0
  ·rw[ne (Bx e),wU e];rfl
  ·rw[wU (BK e),ne e];rfl) (by unfold LH;rw[ne (by simp)])]
 exact fd f l
theorem qG(f:List AC)(h:∀x∈f,EA x)(l:f.length≤1073741824):JM f true=some (Hg f):=by
 unfold JM
 rw[CA (n:=f.length) (EF f) (λk j=>by
  unfold Kc EF
  rw[wU (by simpa using j),AO j,AE,AX (by omega),WR _ (h _ (BA j)),AE]
  by_cases e:Bb f[k]! = 0
  ·rw[ne (Bx e),wU e];rfl
  ·rw[wU (BK e),ne e];rfl) (by unfold Kc;rw[ne (by simp)])]
 exact fd f l
instance:Inhabited Un:=⟨.r false []⟩
def off(n:List UInt8):AD:=⟨n,[]⟩
def DK:Un→AH
 | .a e=>⟨1,0,[],[e]⟩
 | .r true _=>⟨2,1,[],[]⟩
 | .r false t=>⟨0,1,t,[]⟩
def IH(u:Un):Prop:=match u with | .a _=>False | .r c t=>(c=false→Ah t true=0)∧(c=true→t=[])∧t.length≤2
theorem Yx{us:List Un}(h:∀u ∈ us, IH u):∀u ∈ us, DA u := by
  intro u hu
  have := h u hu
  match u, this with
  | .r true t, ht => have := ht.2.1 rfl
                     subst this;exact⟨λh => (by cases h), Ff⟩
  | .r false t, ht => exact⟨λ_ => ht.1 rfl, F9 (ht.1 rfl) (by have := ht.2.2;omega)⟩
theorem lM{u}(h:IH u):Cb (DK u)=0∧GA (DK u)∧(DK u).N=1:=by
 match u,h with
 | .r true t,j=>exact⟨es (by decide) (by decide),⟨Ff,by simp[DK],λe l=>by simp[DK] at l⟩,rfl⟩
 | .r false t,j=>exact⟨XF (by decide) (by decide) (j.1 rfl),⟨F9 (j.1 rfl) (by have:=j.2.2;show t.length≤_;omega),by simp[DK],λe l=>by simp[DK] at l⟩,rfl⟩
theorem lK(us:List Un)(h:∀u∈us,IH u)(V:us.length≤1048576) :
  iter (λ(a:Int × Ac)=>FA (us.map DK) a.1 a.2) (0,(Ac.mk [] [] 0))=some (.nrm (CR (Ap us))):=by
 have key:∃r,iter (λ(a:Int × Ac)=>FA (us.map DK) a.1 a.2) (0,(Ac.mk [] [] 0))=some r∧r=.nrm (CR (Ap us)):=by
  refine EG us.length (λk q=>q=((k:Int),CR (Ap (us.take k)))) _ ?_ ?_ rfl
  ·rintro k q j rfl
   have w:=h _ (BA j)
   have l:∀u∈us.take k,DA u:=λu F=>Yx h u (yc F)
   have I:(us.take k).length≤us.length:=by rw[yM];omega
   have J:=Je l
   have A:(us.map DK)[k]! = DK us[k]!:=by
    rw[wg (us.map DK) k (by simpa using j),wg us k j,zJ]
   obtain⟨C,E,M⟩:=lM w
   refine .inl ⟨_,?_,rfl⟩
   show FA (us.map DK) (k:Int) _=_
   unfold FA
   rw[wU (by simpa using j),AO (by simpa using j),AE,A,WL _ E,AE,C]
   rw[Hq j]
   generalize us[k]! = u at w C E M
   match u,w with
   | .r true t,B=>
    have O:=B.2.1 rfl
    subst O
    rw[ne (by simp[DK]),AE,ne (by decide),ne (by simp[DK]),ne (by simp[DK])]
    show Aj (AB (AK .i64 (((Ap (us.take k)).cuts:Int)+1)) _) _=_
    rw[Bk (by omega) (by omega),AE,ne (by rw[wV];omega),Hr,AX (by omega),AE]
    have e:=Th (us.take k) 1 []
    rw[show List.replicate 1 (Un.r true [])=[.r true []] from rfl] at e
    rw[← e];rfl
   | .r false t,B=>
    rw[ne (by simp[DK]),AE,ne (by decide),wU (by simp[DK])]
    show Aj (AB (GT _ 1 t) _) _=_
    rw[KW l (by omega) 1 t (by decide) (by decide) (by have:=B.2.2;omega),AE,Hr,AX (by omega),AE];rfl
  ·rintro q rfl
   refine⟨_,?_,rfl⟩
   rw[yP]
   show FA (us.map DK) (us.length:Int) _=_
   unfold FA
   rw[ne (by simp)]
 obtain⟨r,T,U⟩:=key
 rw[T,U]
theorem rA(us:List Un)(h:∀u∈us,IH u)(l:us.length≤1048576):IU (us.map DK)=some (BD us,0):=by
 unfold IU
 have j:=Yx h
 have q:=Je j
 have A:=RX us
 have B:=V3 us
 have a3:Ao us≤us.length:=yp
 have w:CH (BD us)=0:=ee (Jl j) (by omega) (by omega)
 rw[lK us h l,Hr,PA j (by omega) (by omega),ne (by simpa using w),Kd]
theorem mD:∀c,c<256→FH[c]! ∈ ([240,241,2,19,3,35,52,4,68]:List Int):=by decide +kernel
theorem fZ:FH.length=256:=by decide +kernel
theorem lC{x:Int}(h:x∈([2,19,3,35,52,4,68]:List Int)):(∃a,AJ O1 (FB .u8 x 4)=some a)∧∃sz:Nat,IntKind.i64.wrap (CL .u8 x 7)=(sz:Int)∧2≤sz∧sz≤4:=by
 simp only[wo,List.mem_nil_iff,zy] at h
 rcases h with rfl | rfl | rfl | rfl | rfl | rfl | rfl
 ·exact⟨⟨_,rfl⟩,2,by decide +kernel,by decide,by decide⟩
 ·exact⟨⟨_,rfl⟩,3,by decide +kernel,by decide,by decide⟩
 ·exact⟨⟨_,rfl⟩,3,by decide +kernel,by decide,by decide⟩
 ·exact⟨⟨_,rfl⟩,3,by decide +kernel,by decide,by decide⟩
 ·exact⟨⟨_,rfl⟩,4,by decide +kernel,by decide,by decide⟩
 ·exact⟨⟨_,rfl⟩,4,by decide +kernel,by decide,by decide⟩
 ·exact⟨⟨_,rfl⟩,4,by decide +kernel,by decide,by decide⟩
def V5(s:List UInt8)(o:Option (Int × Int)):Prop:=∃(r:Int) (n:Nat),o=some (r,(n:Int))∧1≤n∧n≤s.length
theorem MM{s}(h:s≠[]) r:V5 s (some (r,1)):=⟨r,1,rfl,wn _,xx.2 h⟩
theorem vU(s:List UInt8)(h:s≠[]):V5 s (J0 s):=by
 have A:0<s.length:=xx.2 h
 unfold J0
 rw[ne (by rw[wV];omega),show(0:Int)=((0:Nat):Int) from rfl,AO A,AE]
 generalize s[0]! = c
 have l:c.toNat<256:=c.toNat_lt
 rw[AO (l:=FH) (by rw[fZ];exact l),AE]
 have q:=mD _ l
 generalize FH[c.toNat]! = x at q
 by_cases u:240≤x
 ·rw[wU (by rw[wV];exact u)];exact MM h _
 ·have j:x∈([2,19,3,35,52,4,68]:List Int):=by
   simp only[wo,List.mem_nil_iff,zy] at q ⊢
   omega
  obtain⟨⟨a,B⟩,sz,C,E,F⟩:=lC j
  rw[ne (by rw[wV];exact u),B,AE,C]
  by_cases w:(s.length:Int)<sz
  ·rw[wU (by rw[wV];exact w)];exact MM h _
  rw[ne (by rw[wV];exact w),show(1:Int)=((1:Nat):Int) from rfl,AO (by omega),AE]
  split
  ·exact MM h _
  by_cases I:sz≤2
  ·rw[wU (by rw[wV];omega)];exact⟨_,2,rfl,by decide,by omega⟩
  rw[ne (by rw[wV];omega),show(2:Int)=((2:Nat):Int) from rfl,AO (by omega),AE]
  split
  ·exact MM h _
  by_cases J:sz≤3
  ·rw[wU (by rw[wV];omega)];exact⟨_,3,rfl,by decide,by omega⟩
  rw[ne (by rw[wV];omega),show(3:Int)=((3:Nat):Int) from rfl,AO (by omega),AE]
  split
  ·exact MM h _
  ·exact⟨_,4,rfl,by decide,by omega⟩
theorem vB(s:List UInt8)(h:s≠[]):V5 s (GZ s):=by
 have j:0<s.length:=xx.2 h
 unfold GZ
 rw[wX h,show((!false)==true)=true from rfl,Am,show(0:Int)=((0:Nat):Int) from rfl,AO j,AE,zx,xt]
 split
 ·rw[AE];exact MM h _
 ·obtain⟨r,n,l,q,u⟩:=vU s h
  rw[l];exact⟨r,n,rfl,q,u⟩
theorem Wh(s:List UInt8) k(j:k≤s.length):B8 s (k:Int) (s.length:Int)=some (s.drop k):=by
 unfold B8
 rw[wU (by omega)]
 congr 1
 rw[yu (by simp),xl]
theorem tG(l:List AD)(h:l.length≤1073741824):app 32 ([]:List AD) l=some l:=by
 unfold app
 rw[wU (by simp only[yi];omega)];rfl
def Jn(t:Bool)(f:List AC)(k:Nat):Option Int:=if Bb f[k]! = 0 then(if t=false∧f[k]!.Ref=0 then some 8 else none) else some (Bb f[k]!)
theorem sI{x:AC}(h:Bb x=0):(x.Ref=0↔x.Char≠0):=by
 unfold Bb at h
 by_cases c:x.Char=0<;>by_cases r:x.Ref=0<;>simp[c,r] at h ⊢
theorem fh(f:List AC)(h:∀x∈f,EA x)(l:f.length≤1073741824):Hb f false=some (((List.range f.length).findSome? (Jn false f)).getD 0):=by
 unfold Hb
 rw[CA (n:=f.length) (Jn false f) (λk j=>by
  unfold LH Jn
  rw[wU (by simpa using j),AO j,AE,AX (by omega),XK _ (h _ (BA j)),AE]
  generalize f[k]! = x
  by_cases e:Bb x=0
  ·rw[ne (Bx e),wU e]
   by_cases r:x.Ref=0
   ·rw[wU (show(!false&&(x.Ref=0))=true by rw[wW r];rfl),wU ⟨rfl,r⟩];rfl
   ·rw[ne (show ¬ (!false&&(x.Ref=0))=true by rw[wX r];decide),ne (λh=>r h.2)];rfl
  ·rw[wU (BK e),ne e];rfl) (by unfold LH;rw[ne (by simp)])]
 cases (List.range f.length).findSome? (Jn false f)<;>rfl
theorem mz(f:List AC)(h:∀x∈f,EA x)(u:f.length≤1073741824):JM f false=some (((List.range f.length).findSome? (Jn false f)).getD 0):=by
 unfold JM
 rw[CA (n:=f.length) (Jn false f) (λk j=>by
  unfold Kc Jn
  rw[wU (by simpa using j),AO j,AE,AX (by omega),WR _ (h _ (BA j)),AE]
  generalize f[k]! = x
  by_cases e:Bb x=0
  ·rw[ne (Bx e),wU e]
   have q:=sI e
   by_cases r:x.Ref=0
   ·rw[wU (show(!false&&!(x.Char=0))=true by rw[wX (q.1 r)];rfl),wU ⟨rfl,r⟩];rfl
   ·have l:x.Char=0:=xD λl=>r (q.2 l)
    rw[ne (show ¬ (!false&&!(x.Char=0))=true by rw[wW l];decide),ne (λh=>r h.2)];rfl
  ·rw[wU (BK e),ne e];rfl) (by unfold Kc;rw[ne (by simp)])]
 cases (List.range f.length).findSome? (Jn false f)<;>rfl
theorem sV(f:List AC) t(h:∀x∈f,EA x)(j:f.length≤1073741824):∃r,Hb f t=some r∧JM f t=some r:=by
 cases t
 ·exact⟨_,fh f h j,mz f h j⟩
 ·exact⟨_,Ye f h j,qG f h j⟩
theorem sJ(a b:List AC)(M:a.length≤9223372036854775806)(h:∀e∈a,e.Attrs.length≤1073741824):Xt a b=some (decide (a=b)):=by
 unfold Xt
 by_cases j:a.length=b.length
 ·rw[ne (by simp[j]),CA (n:=a.length) (λk=>if decide (a[k]! = b[k]!) then none else some false) (λk l=>by
   unfold VL
   have O:=h _ (BA l)
   rw[wU (by simpa using l),AO l,AO (by omega),AE,AE,PU _ _ (by omega),AX (by omega)]
   generalize a[k]! = x
   generalize b[k]! = y
   obtain⟨q,u,w⟩:=x
   obtain⟨A,B,C⟩:=y
   by_cases E:q=A<;>by_cases F:u=B<;>by_cases I:w=C<;>simp[E,F,I,CG,default]) (by unfold VL;rw[ne (by simp)]),H5,EK]
  by_cases h:a=b
  ·subst h;rw[UK,wW rfl];rfl
  ·rw[wX h]
   have:((List.range a.length).all λk=>decide (a[k]! = b[k]!))=false:=by
    rw[← xy];exact λJ=>h (Tq j J)
   rw[this];rfl
 ·rw[wU (by simp;omega),wX (by rintro rfl;exact j rfl)]
theorem mC(f:List AC)(u:f.length≤1073741824):∃r,iter (λ(a:Int × (List Int))=>JR f a.1 a.2) (0,[])=some r∧r.length≤f.length:=by
 refine EG f.length (λk l=>l.1=(k:Int)∧l.2.length≤k) _ ?_ ?_ ⟨rfl,by simp⟩
 ·rintro k ⟨x,out⟩ q ⟨rfl,j⟩
  dsimp only at j ⊢
  left
  unfold JR
  rw[wU (by simpa using q),AO q,AE]
  by_cases r:f[k]!.Ref=0
  ·rw[ne (Bx r),AE,AX (by omega),AE]
   exact⟨_,rfl,rfl,by dsimp only;omega⟩
  ·rw[wU (BK r),UN (by omega),AE,AE,AX (by omega),AE]
   exact⟨_,rfl,rfl,by dsimp only;rw[List.length_append,List.length_singleton];omega⟩
 ·rintro⟨x,out⟩ ⟨rfl,j⟩
  dsimp only at j ⊢
  unfold JR
  rw[ne (by simp)]
  exact⟨_,rfl,j⟩
theorem Ma{α:Type}[Inhabited α][DecidableEq α]{f}(a b:List α)(j:a.length=b.length)
 (l:∀k:Nat, k<a.length→f k=CG k (if decide (a[k]! = b[k]!) then none else some false)) (q:f a.length=some (.inr (.nrm ()))) :
    (Aj (iter f 0) λ(_:Unit) => some true)=some (decide (a=b)) := by
  rw[CA (n := a.length) (λk => if decide (a[k]! = b[k]!) then none else some false) l q, H5, EK]
  by_cases h:a=b
  · subst h;rw[UK, wW rfl];rfl
  · rw[wX h]
    have:((List.range a.length).all λk => decide (a[k]! = b[k]!))=false := by
      rw[← xy];exact λu => h (Tq j u)
    rw[this];rfl
theorem YS(x y:An):((x.Row=y.Row)&&((x.Col=y.Col)&&((x.H=y.H)&&((x.W=y.W)&&true))))=decide (x=y):=by
 obtain⟨j,l,q,u⟩:=x
 obtain⟨w,A,B,C⟩:=y
 rw[xf];simp
theorem aW(x y:BB):((x.Clock=y.Clock)&&((x.Site=y.Site)&&((x.Kind=y.Kind)&&((x.Item=y.Item)&&((x.Parent=y.Parent)&&((x.Place=y.Place)&&((x.Name=y.Name)&&((x.Value=y.Value)&&true))))))))=decide (x=y):=by
 obtain⟨j,l,q,u,w,A,B,C⟩:=x
 obtain⟨E,F,I,J,M,O,T,U⟩:=y
 rw[xf];simp
theorem sC(a b:List An)(q:a.length≤9223372036854775806):Pp a b=some (decide (a=b)):=by
 unfold Pp
 by_cases j:a.length=b.length
 ·rw[ne (by simp[j])]
  exact Ma a b j (λk l=>by
   unfold N5
   rw[wU (by simpa using l),AO l,AO (by omega),AE,AE,YS,AX (by omega)]
   generalize a[k]! = x
   generalize b[k]! = y
   by_cases h:x=y<;>simp[h,CG]) (by unfold N5;rw[ne (by simp)])
 ·rw[wU (by simp;omega),wX (by rintro rfl;exact j rfl)]
theorem pt(a b:List An)(q:a.length≤9223372036854775806):IB a b=some (decide (a=b)):=by
 unfold IB
 by_cases j:a.length=b.length
 ·rw[ne (by simp[j])]
  exact Ma a b j (λk l=>by
   unfold Lw
   rw[wU (by simpa using l),AO l,AO (by omega),AE,AE,YS,AX (by omega)]
   generalize a[k]! = x
   generalize b[k]! = y
   by_cases h:x=y<;>simp[h,CG]) (by unfold Lw;rw[ne (by simp)])
 ·rw[wU (by simp;omega),wX (by rintro rfl;exact j rfl)]
theorem tt(a b:List BB)(q:a.length≤9223372036854775806):Xq a b=some (decide (a=b)):=by
 unfold Xq
 by_cases j:a.length=b.length
 ·rw[ne (by simp[j])]
  exact Ma a b j (λk l=>by
   unfold YD
   rw[wU (by simpa using l),AO l,AO (by omega),AE,AE,aW,AX (by omega)]
   generalize a[k]! = x
   generalize b[k]! = y
   by_cases h:x=y<;>simp[h,CG]) (by unfold YD;rw[ne (by simp)])
 ·rw[wU (by simp;omega),wX (by rintro rfl;exact j rfl)]
theorem lf(a b:List BB)(q:a.length≤9223372036854775806):Is a b=some (decide (a=b)):=by
 unfold Is
 by_cases j:a.length=b.length
 ·rw[ne (by simp[j])]
  exact Ma a b j (λk l=>by
   unfold MB
   rw[wU (by simpa using l),AO l,AO (by omega),AE,AE,aW,AX (by omega)]
   generalize a[k]! = x
   generalize b[k]! = y
   by_cases h:x=y<;>simp[h,CG]) (by unfold MB;rw[ne (by simp)])
 ·rw[wU (by simp;omega),wX (by rintro rfl;exact j rfl)]
theorem ui(x y:Aq)(U:x.Attrs.length≤1073741824):QZ x y=some (decide (x=y)):=by
 unfold QZ
 rw[PU _ _ (by omega)]
 obtain⟨j,l,q,u,w⟩:=x
 obtain⟨A,B,C,E,F⟩:=y
 by_cases I:j=A<;>by_cases J:l=B<;>by_cases M:q=C<;>by_cases O:u=E<;>by_cases T:w=F<;>simp[I,J,M,O,T,gd,AE]
theorem re(x y:Aq)(U:x.Attrs.length≤1073741824):Oi x y=some (decide (x=y)):=by
 unfold Oi
 rw[MF _ _ (by omega)]
 obtain⟨j,l,q,u,w⟩:=x
 obtain⟨A,B,C,E,F⟩:=y
 by_cases I:j=A<;>by_cases J:l=B<;>by_cases M:q=C<;>by_cases O:u=E<;>by_cases T:w=F<;>simp[I,J,M,O,T,gd,AE]
theorem nG(a b:List Aq)(q:a.length≤9223372036854775806)(h:∀x∈a,x.Attrs.length≤1073741824):Qd a b=some (decide (a=b)):=by
 unfold Qd
 by_cases j:a.length=b.length
 ·rw[ne (by simp[j])]
  exact Ma a b j (λk l=>by
   unfold Pz
   rw[wU (by simpa using l),AO l,AO (by omega),AE,AE,ui _ _ (h _ (BA l)),AE,AX (by omega)]
   generalize a[k]! = x
   generalize b[k]! = y
   by_cases h:x=y<;>simp[h,CG]) (by unfold Pz;rw[ne (by simp)])
 ·rw[wU (by simp;omega),wX (by rintro rfl;exact j rfl)]
theorem li(a b:List Aq)(q:a.length≤9223372036854775806)(h:∀x∈a,x.Attrs.length≤1073741824):Jm a b=some (decide (a=b)):=by
 unfold Jm
 by_cases j:a.length=b.length
 ·rw[ne (by simp[j])]
  exact Ma a b j (λk l=>by
   unfold L2
   rw[wU (by simpa using l),AO l,AO (by omega),AE,AE,re _ _ (h _ (BA l)),AE,AX (by omega)]
   generalize a[k]! = x
   generalize b[k]! = y
   by_cases h:x=y<;>simp[h,CG]) (by unfold L2;rw[ne (by simp)])
 ·rw[wU (by simp;omega),wX (by rintro rfl;exact j rfl)]
def Lr(g:BI):Prop:=g.Cells.length≤1048576∧g.Merges.length≤1048576∧∀x∈g.Cells,CS x.Attrs
structure Mp(n:Ae):Prop where
 at_:CS n.Attrs
 fl:n.Flow.length≤1048576
 fa:∀e∈n.Flow,CS e.Attrs
 gr:Lr n.Grid
 dr:n.Draw.length≤1048576
def tV(d:Bj):Prop:=d.Nodes.length≤1048576∧∀n∈d.Nodes,Mp n
theorem VZ x y(h:Lr x):LE x y=some (decide (x=y)):=by
 obtain⟨l,q,j⟩:=h
 unfold LE
 rw[sC _ _ (by omega),nG _ _ (by omega) (λe u=>(j e u).1)]
 obtain⟨w,A,B,C⟩:=x
 obtain⟨E,F,I,J⟩:=y
 by_cases l:w=E<;>by_cases q:A=F<;>by_cases j:B=I<;>by_cases M:C=J<;>simp[l,q,j,M,gd,AE]
theorem nI x y(h:Lr x):QM x y=some (decide (x=y)):=by
 obtain⟨l,q,j⟩:=h
 unfold QM
 rw[pt _ _ (by omega),li _ _ (by omega) (λe u=>(j e u).1)]
 obtain⟨w,A,B,C⟩:=x
 obtain⟨E,F,I,J⟩:=y
 by_cases l:w=E<;>by_cases q:A=F<;>by_cases j:B=I<;>by_cases M:C=J<;>simp[l,q,j,M,gd,AE]
theorem wM x y(h:Mp x):Yw x y=some (decide (x=y)):=by
 have Z:=h.at_.1
 have hf:=h.fl
 have hd:=h.dr
 unfold Yw
 rw[PU _ _ (by omega),sJ _ _ (by omega) (λe j=>(h.fa e j).1),VZ _ _ h.gr,tt _ _ (by omega)]
 obtain⟨l,q,u,w,A,B⟩:=x
 obtain⟨C,E,F,I,J,M⟩:=y
 by_cases O:l=C<;>by_cases T:q=E<;>by_cases U:u=F<;>by_cases V:w=I<;>by_cases X:A=J<;>by_cases Y:B=M<;>simp[O,T,U,V,X,Y,gd,AE]
theorem ig x y(h:Mp x):Hf x y=some (decide (x=y)):=by
 have Z:=h.at_.1
 have hf:=h.fl
 have hd:=h.dr
 unfold Hf
 rw[MF _ _ (by omega),UX _ _ (by omega) (λe j=>(h.fa e j).1),nI _ _ h.gr,lf _ _ (by omega)]
 obtain⟨l,q,u,w,A,B⟩:=x
 obtain⟨C,E,F,I,J,M⟩:=y
 by_cases O:l=C<;>by_cases T:q=E<;>by_cases U:u=F<;>by_cases V:w=I<;>by_cases X:A=J<;>by_cases Y:B=M<;>simp[O,T,U,V,X,Y,gd,AE]
theorem TL{β:Type}(p:Nat→Bool)(F:Nat→β)(l:List Nat):(l.findSome? λk=>if p k then some (F k) else none)=(l.find? p).map F:=by
 induction l with
 | nil=>rfl
 | cons a l j=>rw[yE,List.find?_cons];by_cases h:p a=true<;>simp[h,j]
def Fb(l:List Ae)(id:Int):Option Nat:=(List.range l.length).find? λk=>decide (l[k]!.ID=id)
theorem PS{l:List Ae}{id}{k}(h:Fb l id=some k):k<l.length∧l[k]!.ID=id:=by
 have j:=List.mem_of_find?_eq_some h
 have q:=List.find?_some h
 exact⟨xP.1 j,yT q⟩
theorem VJ(d:Bj)(id:Int)(l:d.Nodes.length≤1048576):Hv d id=some (match Fb d.Nodes id with | some k=>(k:Int) | none=>-1):=by
 unfold Hv
 rw[CA (n:=d.Nodes.length) (λk=>if decide (d.Nodes[k]!.ID=id) then some (k:Int) else none) (λk j=>by
  unfold RG
  rw[wU (by simpa using j),AO j,AE,AX (by omega)]
  by_cases h:d.Nodes[k]!.ID=id
  ·rw[wU (wW h),wU (wW h)];rfl
  ·rw[ne (by simpa using h),ne (by simpa using h)];rfl) (by unfold RG;rw[ne (by simp)]),TL,EK]
 unfold Fb
 cases (List.range d.Nodes.length).find? λk=>decide (d.Nodes[k]!.ID=id)<;>rfl
def LY:Ae:=Ae.mk 1 0 [] [(AC.mk 0 2 [])] (BI.mk 0 0 [] []) []
theorem kv:EA (AC.mk 0 2 []):=⟨by decide,λa j=>by cases j⟩
theorem pz:Lr (BI.mk 0 0 [] []):=⟨by decide,by decide,λa j=>by cases j⟩
theorem nd:Hx []=some 0:=by rw[OR _ (λa j=>by cases j) (by decide)];rfl
theorem mX:Hb [AC.mk 0 2 []] false=some 0:=by
 rw[fh _ (λx j=>by
  have:x=AC.mk 0 2 []:=by simpa using j
  subst this;exact kv) (by decide)]
 rfl
theorem pZ:LE (BI.mk 0 0 [] []) (BI.mk 0 0 [] [])=some true:=by rw[VZ _ _ pz,wW rfl]
theorem Ue:E9 LY=some 0:=by
 unfold E9 LY
 dsimp only
 rw[ne (by decide),ne (by decide),nd,AE,ne (by decide)]
 have t:G7 0=some false:=rfl
 have l:MS 0=some true:=rfl
 have g:Ln 0=some false:=rfl
 have d:JN 0=some false:=rfl
 rw[t,l,g,d,pZ]
 show(AB (Hb [AC.mk 0 2 []] false) λ(j:Int)=>some j)=some 0
 rw[mX];rfl
theorem Ht:LC LY=some [2]:=by
 unfold LC Q9
 have j:(λ(a:Int × (List Int))=>Hm LY.Flow a.1 a.2) (0,[])=some (.inl (1,[2])):=by
  show Hm [AC.mk 0 2 []] 0 []=_
  unfold Hm;rfl
 have l:(λ(a:Int × (List Int))=>Hm LY.Flow a.1 a.2) (1,[2])=some (.inr [2]):=by
  show Hm [AC.mk 0 2 []] 1 [2]=_
  unfold Hm;rfl
 have q:(λ(a:Int × (List Int))=>HW LY a.1 a.2) (0,[2])=some (.inr [2]):=by
  show HW LY 0 [2]=_
  unfold HW;rfl
 rw[Cv j,Bq l,AE,AE,Bq q];rfl
theorem uZ{μ:Ae→Nat}{γ:BI→Nat}{ψ:Aq→Nat}{ρ:An→Nat}{δ:BB→Nat}{ν:AC→Nat}{κ:AD→Nat}
  (q:∀n,(n.Attrs.map κ).sum+(n.Flow.map ν).sum+γ n.Grid+(n.Draw.map δ).sum+1≤μ n) (hg:∀g,(g.Cells.map ψ).sum+(g.Merges.map ρ).sum+1≤γ g)
  (hc:∀c,(c.Attrs.map κ).sum+1≤ψ c) (w:∀r,1≤ρ r) (hd:∀o,1≤δ o) (A:∀e,(e.Attrs.map κ).sum+1≤ν e) (j:∀a,a.Name.length+a.Value.length+1≤κ a)
  {d:Bj} (C:(d.Nodes.map μ).sum≤1048576):tV d:=by
 have E:=M1 (μ:=μ) (λn=>by have:=q n;omega) d.Nodes
 refine⟨by omega,λn B=>?_⟩
 have F:=G9 (μ:=μ) B
 have I:=q n
 have J:=hg n.Grid
 have u:=pT (ν:=ν) (κ:=κ) A j (f:=n.Flow) (by omega)
 have M:=M1 (μ:=ψ) (λc=>by have:=hc c;omega) n.Grid.Cells
 have O:=M1 (μ:=ρ) w n.Grid.Merges
 have T:=M1 (μ:=δ) hd n.Draw
 refine⟨W3 j (by omega),u.1,u.2,⟨by omega,by omega,λc l=>W3 j ?_⟩,by omega⟩
 have U:=G9 (μ:=ψ) l
 have:=hc c
 omega
theorem F1{n:Nat}(h:n<2147483648):IntKind.i32.wrap (n:Int)=(n:Int):=by
 have e:(n:Int) % (2 ^ (32:Nat):Int)=(n:Int):=WAF (by omega) (by omega)
 show(if(true&&((n:Int) % (2 ^ (32:Nat):Int) ≥ (2 ^ (31:Nat):Int)))=true then(n:Int) % (2 ^ (32:Nat):Int)-(2 ^ (32:Nat):Int) else(n:Int) % (2 ^ (32:Nat):Int))=_
 rw[e,ne]
 simp only[xt,wV]
 omega
theorem hZ{n:Nat}(h:n<9223372036854775808):IntKind.i64.wrap (n:Int)=(n:Int):=by
 have e:(n:Int) % (2 ^ (64:Nat):Int)=(n:Int):=WAF (by omega) (by omega)
 show(if(true&&((n:Int) % (2 ^ (64:Nat):Int) ≥ (2 ^ (63:Nat):Int)))=true then(n:Int) % (2 ^ (64:Nat):Int)-(2 ^ (64:Nat):Int) else(n:Int) % (2 ^ (64:Nat):Int))=_
 rw[e,ne]
 simp only[xt,wV]
 omega
theorem NV(i a b:Nat)(j:b<2 ^ i)(l:a * 2 ^ i+b<2147483648):D9 .i32 ((a * 2 ^ i:Nat):Int) (b:Int)=((a * 2 ^ i+b:Nat):Int):=by
 unfold D9
 have q:(BitVec.ofInt 32 ((a * 2 ^ i:Nat):Int) ||| BitVec.ofInt 32 (b:Int)).toNat=a * 2 ^ i+b:=by
  rw[BitVec.toNat_or,BitVec.ofInt_natCast,BitVec.ofInt_natCast,BitVec.toNat_ofNat,BitVec.toNat_ofNat,zh (by omega),zh (by omega)]
  rw[← Nat.shiftLeft_eq,Nat.shiftLeft_add_eq_or_of_lt j]
 show IntKind.i32.wrap ((BitVec.ofInt 32 ((a * 2 ^ i:Nat):Int) ||| BitVec.ofInt 32 (b:Int)).toNat:Int)=_
 rw[q];exact F1 l
theorem mU:∀b:Fin 256,CL .u8 ((b.val:Nat):Int) 31=((b.val % 32:Nat):Int):=by decide +kernel
theorem rF:∀b:Fin 256,CL .u8 ((b.val:Nat):Int) 15=((b.val % 16:Nat):Int):=by decide +kernel
theorem sK:∀b:Fin 256,CL .u8 ((b.val:Nat):Int) 7=((b.val % 8:Nat):Int):=by decide +kernel
theorem Lp:∀b:Fin 256,CL .u8 ((b.val:Nat):Int) 63=((b.val % 64:Nat):Int):=by decide +kernel
theorem ML(i a:Nat)(j:i≤32)(l:a * 2 ^ i<2147483648):Dj .i32 (a:Int) i=((a * 2 ^ i:Nat):Int):=by
 unfold Dj
 show IntKind.i32.wrap ((a:Int) * 2 ^ (min i 32))=_
 rw[Nat.min_eq_left j,show(a:Int) * 2 ^ i=((a * 2 ^ i:Nat):Int) by push_cast;rfl,F1 l]
theorem lj:∀c:Fin 256,FH[c.val]! = (Lib.firstT c.val:Int):=by decide +kernel
theorem ov:∀c:Fin 256,D9 .i32 (Ou .i32 (IntKind.i32.wrap (c.val:Int)) (FB .i32 (Dj .i32 (IntKind.i32.wrap 241) 31) 31)) (CL .i32 65533 (FB .i32 (Dj .i32 (IntKind.i32.wrap 241) 31) 31))=65533:=by decide +kernel
theorem rD:∀c:Fin 256,IntKind.i64.wrap (CL .u8 (Lib.firstT c.val:Int) 7)=((Lib.firstT c.val % 8:Nat):Int):=by decide +kernel
theorem sB:∀c:Fin 256,AJ O1 (FB .u8 (Lib.firstT c.val:Int) 4)=some (H2.mk (Lib.accLo (Lib.firstT c.val / 16)) (Lib.accHi (Lib.firstT c.val / 16))):=by decide +kernel
theorem jr:∀c:Fin 256,128≤c.val→Lib.firstT c.val=241∨(2≤Lib.firstT c.val % 8∧Lib.firstT c.val % 8≤4∧Lib.firstT c.val<240):=by decide +kernel
theorem lg(c d:Fin 256):D9 .i32 (Dj .i32 (IntKind.i32.wrap (CL .u8 ((c.val:Nat):Int) 31)) 6) (IntKind.i32.wrap (CL .u8 ((d.val:Nat):Int) 63))=((c.val % 32 * 64+d.val % 64:Nat):Int):=by
 rw[mU,Lp,F1 (by omega),F1 (by omega),ML 6 _ (by omega) (by omega),NV 6 _ _ (by omega) (by omega)]
theorem lz(c d e:Fin 256):D9 .i32 (D9 .i32 (Dj .i32 (IntKind.i32.wrap (CL .u8 ((c.val:Nat):Int) 15)) 12) (Dj .i32 (IntKind.i32.wrap (CL .u8 ((d.val:Nat):Int) 63)) 6)) (IntKind.i32.wrap (CL .u8 ((e.val:Nat):Int) 63)) =
  ((c.val % 16 * 4096+d.val % 64 * 64+e.val % 64:Nat):Int):=by
 rw[rF,Lp,Lp,F1 (by omega),F1 (by omega),F1 (by omega),ML 12 _ (by omega) (by omega),ML 6 _ (by omega) (by omega),NV 12 _ _ (by omega) (by omega),
  show c.val % 16 * 2 ^ 12+d.val % 64 * 2 ^ 6=(c.val % 16 * 64+d.val % 64) * 2 ^ 6 by omega,NV 6 _ _ (by omega) (by omega)]
theorem sL(c d e f:Fin 256):D9 .i32 (D9 .i32 (D9 .i32 (Dj .i32 (IntKind.i32.wrap (CL .u8 ((c.val:Nat):Int) 7)) 18) (Dj .i32 (IntKind.i32.wrap (CL .u8 ((d.val:Nat):Int) 63)) 12)) (Dj .i32 (IntKind.i32.wrap (CL .u8 ((e.val:Nat):Int) 63)) 6)) (IntKind.i32.wrap (CL .u8 ((f.val:Nat):Int) 63)) =
  ((c.val % 8 * 262144+d.val % 64 * 4096+e.val % 64 * 64+f.val % 64:Nat):Int):=by
 rw[sK,Lp,Lp,Lp,F1 (by omega),F1 (by omega),F1 (by omega),F1 (by omega),ML 18 _ (by omega) (by omega),ML 12 _ (by omega) (by omega),ML 6 _ (by omega) (by omega),NV 18 _ _ (by omega) (by omega),
  show c.val % 8 * 2 ^ 18+d.val % 64 * 2 ^ 12=(c.val % 8 * 64+d.val % 64) * 2 ^ 12 by omega,NV 12 _ _ (by omega) (by omega),
  show(c.val % 8 * 64+d.val % 64) * 2 ^ 12+e.val % 64 * 2 ^ 6=((c.val % 8 * 64+d.val % 64) * 64+e.val % 64) * 2 ^ 6 by omega,NV 6 _ _ (by omega) (by omega)]
theorem Qz(s:List UInt8) k(h:k<s.length):s.getD k 0=s[k]!:=by
 rw[wg s k h,yn,wd h];rfl
theorem sH(s:List UInt8)(h:s≠[])(j:128≤(s.getD 0 0).toNat):J0 s=some (((Lib.decodeL s).1:Int),((Lib.decodeL s).2:Int)):=by
 have l:0<s.length:=xx.2 h
 rw[Lib.decodeL_N]
 unfold J0
 rw[ne (by rw[wV];omega),show(0:Int)=((0:Nat):Int) from rfl,AO l,AE]
 rw[Qz s 0 l] at j ⊢
 generalize s[0]! = c at j ⊢
 obtain⟨C,hC⟩:∃C:Fin 256,C.val=c.toNat:=⟨⟨c.toNat,c.toNat_lt⟩,rfl⟩
 rw[← hC] at j ⊢
 rw[AO (l:=FH) (by rw[fZ];exact C.isLt),AE,lj,sB,rD]
 rcases jr C j with B | ⟨q,u,w⟩
 ·rw[wU (by rw[wV];omega),Lib.bad_eq _ _ _ _ _ C.isLt B,B]
  show some (_,(1:Int))=_
  rw[show((241:Nat):Int)=241 from rfl,ov C];rfl
 ·rw[ne (by rw[wV];omega),AE]
  have A:=Lib.slow_eq s.length C.val (s.getD 1 0).toNat (s.getD 2 0).toNat (s.getD 3 0).toNat l (UInt8.toNat_lt _) (UInt8.toNat_lt _) (UInt8.toNat_lt _) w
  rw[← A]
  generalize hsz:Lib.firstT C.val % 8=sz at q u ⊢
  generalize Lib.accLo (Lib.firstT C.val / 16)=V
  generalize Lib.accHi (Lib.firstT C.val / 16)=X
  unfold Lib.slowN
  by_cases I:s.length<sz
  ·rw[wU (by rw[wV];omega),wU I];rfl
  rw[ne (by rw[wV];omega),ne I,show(1:Int)=((1:Nat):Int) from rfl,AO (by omega),AE,Qz s 1 (by omega)]
  generalize s[1]! = d
  obtain⟨D,Y⟩:∃D:Fin 256,D.val=d.toNat:=⟨⟨d.toNat,d.toNat_lt⟩,rfl⟩
  rw[← Y]
  by_cases J:D.val<V∨X<D.val
  ·rw[wU (by simp only[wh,wV];omega),wU J];rfl
  rw[ne (by simp only[wh,wV];omega),ne J]
  by_cases M:sz≤2
  ·rw[wU (by rw[wV];omega),wU M,lg];rfl
  rw[ne (by rw[wV];omega),ne M,show(2:Int)=((2:Nat):Int) from rfl,AO (by omega),AE,Qz s 2 (by omega)]
  generalize s[2]! = e
  obtain⟨E,Z⟩:∃E:Fin 256,E.val=e.toNat:=⟨⟨e.toNat,e.toNat_lt⟩,rfl⟩
  rw[← Z]
  by_cases O:E.val<128∨191<E.val
  ·rw[wU (by simp only[wh,wV];omega),wU O];rfl
  rw[ne (by simp only[wh,wV];omega),ne O]
  by_cases T:sz≤3
  ·rw[wU (by rw[wV];omega),wU T,lz];rfl
  rw[ne (by rw[wV];omega),ne T,show(3:Int)=((3:Nat):Int) from rfl,AO (by omega),AE,Qz s 3 (by omega)]
  generalize s[3]! = f
  obtain⟨F,hF⟩:∃F:Fin 256,F.val=f.toNat:=⟨⟨f.toNat,f.toNat_lt⟩,rfl⟩
  rw[← hF]
  by_cases U:F.val<128∨191<F.val
  ·rw[wU (by simp only[wh,wV];omega),wU U];rfl
  rw[ne (by simp only[wh,wV];omega),ne U,sL];rfl
theorem mo(s:List UInt8)(h:s≠[]):GZ s=some (((Lib.decodeL s).1:Int),((Lib.decodeL s).2:Int)):=by
 have l:0<s.length:=xx.2 h
 unfold GZ
 rw[wX h,show((!false)==true)=true from rfl,Am,show(0:Int)=((0:Nat):Int) from rfl,AO l,AE,zx,xt]
 by_cases q:(s[0]!).toNat<128
 ·rw[wU (by rw[wV];omega),AE,F1 (by omega)]
  obtain⟨c,t,rfl⟩:=List.exists_cons_of_ne_nil h
  have j:c.toNat<128:=q
  rw[Lib.decodeL_ascii c t j];rfl
 ·rw[ne (by rw[wV];omega),sH s h (by rw[Qz s 0 l];omega),BU]
def GX(r:Nat):Bool:=(r=10)||!ER (r:Int)
def Ho:Nat→List UInt8→Bool
 | 0,_=>true
 | n+1,s=>if s=[] then true else if((Lib.decodeL s).1=65533∧(Lib.decodeL s).2=1)∨GX (Lib.decodeL s).1=true then false else Ho n (s.drop (Lib.decodeL s).2)
theorem YV n(s:List UInt8):Ho (n+1) s=if s=[] then true else if((Lib.decodeL s).1=65533∧(Lib.decodeL s).2=1)∨GX (Lib.decodeL s).1=true then false else Ho n (s.drop (Lib.decodeL s).2):=rfl
def OX:Nat→List UInt8→Bool
 | 0,_=>true
 | n+1,s=>if s=[] then true else if GX (Lib.decodeL s).1=true then false else OX n (s.drop (Lib.decodeL s).2)
theorem gw n(s:List UInt8):OX (n+1) s=if s=[] then true else if GX (Lib.decodeL s).1=true then false else OX n (s.drop (Lib.decodeL s).2):=rfl
theorem kg:∀(n:Nat) (s:List UInt8),s.length≤n→(Lib.validD s&&OX n s)=Ho n s:=by
 intro n
 induction n with
 | zero=>intro s u;obtain rfl:=yG (Nat.le_zero.1 u);rfl
 | succ n w=>
  intro s u
  rw[YV,gw]
  by_cases j:s=[]
  ·subst j;rfl
  ·have A:=Lib.decodeL_width s
   have B:=xx.2 j
   rw[ne j,ne j,Lib.validD_step s j]
   by_cases l:(Lib.decodeL s).1=65533∧(Lib.decodeL s).2=1
   ·rw[wU l,wU (show((Lib.decodeL s).1=65533∧(Lib.decodeL s).2=1)∨GX (Lib.decodeL s).1=true from .inl l)];rfl
   ·rw[ne l]
    by_cases q:GX (Lib.decodeL s).1=true
    ·rw[wU q,wU (.inr q),zZ]
    ·rw[ne q,ne (by rintro(h | h);exact l h;exact q h)]
     exact w _ (by rw[xd];omega)
theorem Y8(r:Nat)(h:r≤1114111):IntKind.i64.wrap (r:Int)=(r:Int):=hZ (by omega)
theorem jo(s:List UInt8):QW s=some (Ho s.length s):=by
 unfold QW
 have key:∀(n:Nat) (s:List UInt8),s.length≤n→(Aj (iter (λ(a:(List UInt8))=>Fa a) s) λ(_:Unit)=>some true)=some (Ho n s):=by
  intro n
  induction n with
  | zero=>
   intro s hs
   obtain rfl:=yG (Nat.le_zero.1 hs)
   have h1:(λ(a:(List UInt8))=>Fa a) []=some (.inr (.nrm ())):=by
    show Fa []=_
    unfold Fa;rfl
   rw[Bq h1];rfl
  | succ n ih=>
   intro s hs
   rw[YV]
   by_cases hn:s=[]
   ·subst hn
    have h1:(λ(a:(List UInt8))=>Fa a) []=some (.inr (.nrm ())):=by
     show Fa []=_
     unfold Fa;rfl
    rw[Bq h1];rfl
   ·have hw:=Lib.decodeL_width s
    have hle:=Lib.decodeL_le s hn
    have hr:=Lib.decodeL_rune s
    have hstep:Fa s=if((Lib.decodeL s).1=65533∧(Lib.decodeL s).2=1)∨GX (Lib.decodeL s).1=true then some (.inr (.ext false)) else some (.inl (s.drop (Lib.decodeL s).2)):=by
     unfold Fa GX
     rw[wU (BK hn),mo s hn,BU,Y8 _ hr,S9]
     generalize (Lib.decodeL s).1=r at *
     generalize (Lib.decodeL s).2=w at *
     by_cases h1:r=65533∧w=1
     ·obtain⟨rfl,rfl⟩:=h1
      rw[wU (.inl ⟨rfl,rfl⟩)];rfl
     ·have e1:(((r:Int)=65533)&&((w:Int)=1))=false:=by
       rw[← xy,wY,wV,wV];omega
      by_cases h2:r=10
      ·subst h2
       rw[wU (.inr (by rfl)),e1];rfl
      ·have e2:(decide ((r:Int)=10))=false:=wX (by omega)
       rw[e1,e2,wX h2]
       show(AB (gd true (some (ER (r:Int)))) λ(r3:Bool)=>_)=_
       rw[Am,AE,Wh s w hle,AE]
       cases ER (r:Int)
       ·rw[wU (show(r=65533∧w=1)∨(false||!false)=true from .inr rfl)];rfl
       ·rw[ne (show ¬ ((r=65533∧w=1)∨(false||!true)=true) by rintro(h | h);exact h1 h;exact absurd h (by decide))];rfl
    by_cases hb:((Lib.decodeL s).1=65533∧(Lib.decodeL s).2=1)∨GX (Lib.decodeL s).1=true
    ·rw[wU hb] at hstep
     rw[Bq (f:=λ(a:(List UInt8))=>Fa a) hstep,ne hn,wU hb];rfl
    ·rw[ne hb] at hstep
     rw[Cv (f:=λ(a:(List UInt8))=>Fa a) hstep,ne hn,ne hb]
     exact ih _ (by rw[xd];omega)
 exact key s.length s (wn _)
theorem oN(s:List UInt8) p:GE s p=Lib.decodeL (s.drop p):=(Lib.decodeL_drop ⟨s.toArray⟩ p).symm
theorem qX(s:List UInt8)(hs:s.length≤9223372036854775807):QS s=some (Ho s.length s):=by
 unfold QS Rg SC
 rw[wU hs,AE,← kg s.length s (wn _)]
 cases Lib.validD s with
 | false=>rfl
 | true=>
  rw[ne (by decide),xt]
  have key:∀(n p:Nat),s.length-p≤n→(Aj (iter (λ(a:(Nat))=>FW s a) p) λ(_:Unit)=>some true)=some (OX n (s.drop p)):=by
   intro n
   induction n with
   | zero=>
    intro p hp
    have h1:(λ(a:(Nat))=>FW s a) p=some (.inr (.nrm ())):=by
     show FW s p=_
     unfold FW;rw[ne (by rw[wV];omega)]
    rw[Bq h1];rfl
   | succ n ih=>
    intro p hp
    rw[gw]
    by_cases hn:s.length≤p
    ·have h1:(λ(a:(Nat))=>FW s a) p=some (.inr (.nrm ())):=by
      show FW s p=_
      unfold FW;rw[ne (by rw[wV];omega)]
     rw[Bq h1,wU (List.drop_eq_nil_of_le hn)];rfl
    ·have hne:s.drop p≠[]:=by
      intro e
      have:=yz List.length e
      rw[xd,yi] at this
      omega
     have hw:=Lib.decodeL_width (s.drop p)
     have hr:=Lib.decodeL_rune (s.drop p)
     have hstep:FW s p=if GX (Lib.decodeL (s.drop p)).1=true then some (.inr (.ext false)) else some (.inl (p+(Lib.decodeL (s.drop p)).2)):=by
      unfold FW GX
      rw[wU (by rw[wV];omega),oN,Y8 _ hr,TV]
      generalize (Lib.decodeL (s.drop p)).1=r at *
      generalize (Lib.decodeL (s.drop p)).2=w at *
      by_cases h2:r=10
      ·subst h2;rfl
      ·rw[wX h2,wX (show ¬ ((r:Int)=10) by omega)]
       show(AB (gd true (some (ER (r:Int)))) λ(r3:Bool)=>_)=_
       rw[Am,AE]
     rw[ne hne]
     by_cases hb:GX (Lib.decodeL (s.drop p)).1=true
     ·rw[wU hb] at hstep
      rw[Bq (f:=λ(a:(Nat))=>FW s a) hstep,wU hb];rfl
     ·rw[ne hb] at hstep
      rw[Cv (f:=λ(a:(Nat))=>FW s a) hstep,ne hb,List.drop_drop]
      exact ih _ (by omega)
  have:=key s.length 0 (by omega)
  rw[List.drop_zero] at this
  exact this
theorem Vm{ρ:Type}{f g}{n}(I:Nat→Prop)(u:I 0)(h:∀k:Nat, k<n→I k→∃o:Option ρ, f k=CG k o∧g k=CG k o∧(o=none→I (k+1)))
 (w:f n=some (.inr (.nrm ()))) (hg:g n=some (.inr (.nrm ()))):∃o:Option ρ, iter f 0=some (FT o)∧iter g 0=some (FT o)∧(o=none→I n) := by
  have key:∀m k:Nat, k+m=n→I k→∃o:Option ρ, iter f (k:Int)=some (FT o)∧iter g (k:Int)=some (FT o)∧(o=none→I n) := by
    intro m
    induction m with
    | zero =>
      intro k A j
      obtain rfl:k=n := by omega
      exact⟨none, Bq w, Bq hg, λ_ => j⟩
    | succ m B =>
      intro k A j
      obtain⟨o, l, q, C⟩ := h k (by omega) j
      cases o with
      | some r => exact⟨some r, Bq l, Bq q, λe => by cases e⟩
      | none =>
        obtain⟨o, E, F, J⟩ := B (k+1) (by omega) (C rfl)
        exact⟨o, (Cv l).trans E, (Cv q).trans F, J⟩
  exact key n 0 (by omega) u
theorem S6 x y:Ix x y=some (if x<y then -1 else if y<x then 1 else 0):=by
 unfold Ix RJ
 rw[wW (rfl:x=x),wW (rfl:y=y),AE,AE,ne (by decide),ne (by decide)]
 by_cases j:x<y
 ·rw[wU (wW j),wU j]
 ·rw[ne (by simpa using j),ne j]
  by_cases l:y<x
  ·rw[wU (wW l),wU l]
  ·rw[ne (by simpa using l),ne l]
theorem dV a b:NK [a,b]=some (if a≠0 then a else b):=by
 unfold NK
 by_cases j:a≠0
 ·have q:(λ(x:Int)=>EN [a,b] x) 0=some (.inr (.ext a)):=by
   show EN [a,b] 0=_
   unfold EN
   rw[wU (by simp),show AJ [a,b] 0=some a from rfl,AE,wU (BK j)]
  rw[Bq q,wU j];rfl
 ·have u:a=0:=wy.1 j
  have q:(λ(x:Int)=>EN [a,b] x) 0=some (.inl 1):=by
   show EN [a,b] 0=_
   unfold EN
   rw[wU (by simp),show AJ [a,b] 0=some a from rfl,AE,ne (Bx u)];rfl
  by_cases A:b≠0
  ·have w:(λ(x:Int)=>EN [a,b] x) 1=some (.inr (.ext b)):=by
    show EN [a,b] 1=_
    unfold EN
    rw[wU (by simp),show AJ [a,b] 1=some b from rfl,AE,wU (BK A)]
   rw[Cv q,Bq w,ne j];rfl
  ·have l:b=0:=wy.1 A
   have w:(λ(x:Int)=>EN [a,b] x) 1=some (.inl 2):=by
    show EN [a,b] 1=_
    unfold EN
    rw[wU (by simp),show AJ [a,b] 1=some b from rfl,AE,ne (Bx l)];rfl
   have B:(λ(x:Int)=>EN [a,b] x) 2=some (.inr (.nrm ())):=by
    show EN [a,b] 2=_
    unfold EN
    rw[ne (by simp)]
   rw[Cv q,Cv w,Bq B,ne j,l];rfl
def Bw(a b c d:Int):Int:=if a<b then -1 else if b<a then 1 else if c<d then -1 else if d<c then 1 else 0
theorem ga a b c d:(if(if a<b then -1 else if b<a then 1 else 0)≠(0:Int) then(if a<b then -1 else if b<a then 1 else 0) else if c<d then -1 else if d<c then 1 else(0:Int))=Bw a b c d:=by
 unfold Bw
 by_cases j:a<b
 ·simp[j]
 ·by_cases l:b<a
  ·simp[j,l]
  ·simp[j,l]
theorem Sx a b c d:0≤Bw a b c d↔(b<a∨(b=a∧d≤c)):=by
 unfold Bw
 split
 ·constructor<;>intro h<;>omega
 ·split
  ·constructor<;>intro h<;>omega
  ·split
   ·constructor<;>intro h<;>omega
   ·split
    ·constructor<;>intro h<;>omega
    ·constructor<;>intro h<;>omega
theorem nk(a b:Aq):M5 a b=some (Bw a.Row b.Row a.Col b.Col):=by
 unfold M5
 rw[S6,S6,AE,AE,dV,AE,ga]
theorem Ej x a b:CV x a b=some (decide (a≤x∧x≤b)):=by
 rw[IX]
 congr 1
 rw[xf];simp
def IF(j l:Int)(c:Aq):Prop:=0≤c.Row∧c.Row<j∧0≤c.Col∧c.Col<l∧0≤c.Ref∧c.Ref≤1073741824
instance (rows cols:Int) (c:Aq):Decidable (IF rows cols c):=by unfold IF;infer_instance
def Ja(c:Aq):Bool:=(c.Text=[])&&(c.Ref=0)&&(c.Attrs=[])
def R9(l q:Int)(j:Bool)(c:Aq):Int:=
 if ¬ IF l q c then 2 else if Ho c.Text.length c.Text=false then 23 else if Ah c.Attrs false≠0 then Ah c.Attrs false else if(!j&&Ja c)=true then 4 else 0
def O9(q u:Int)(j:Bool)(l:List Aq)(k:Nat):Option Int:=
 if R9 q u j l[k]!≠0 then some (R9 q u j l[k]!) else if 0<k∧0≤Bw l[k-1]!.Row l[k]!.Row l[k-1]!.Col l[k]!.Col then some 5 else none
def M7(q u:Int)(j:Bool)(l:List Aq):Int:=((List.range l.length).findSome? (O9 q u j l)).getD 0
theorem eG(l:List AD):decide ((l.length:Int)=0)=decide (l=[]):=by
 rw[xf,wV,wV,← List.length_eq_zero_iff];omega
def SX(c:Aq):Prop:=CS c.Attrs∧c.Text.length≤1073741824
theorem mj(l:List Aq) k(C:k<l.length)(E:l.length≤9223372036854775806) :
  (AB (gd ((decide (0<(k:Int)))==true) (AK .i64 ((k:Int)-1))) λ(u:Int)=>
   AB (gd ((decide (0<(k:Int)))==true) (AJ l u)) λ(w:Aq)=>
   AB (gd ((decide (0<(k:Int)))==true) (M5 w l[k]!)) λ(A:Int)=>
   if((0<(k:Int))&&(0≤A)) then(some (.inr (.ext 5)):Option (Int ⊕ (Ai Unit Int))) else(
    AB (AK .i64 ((k:Int)+1)) λ(B:Int)=>some (.inl B)))=CG k (if 0<k∧0≤Bw l[k-1]!.Row l[k]!.Row l[k-1]!.Col l[k]!.Col then some 5 else none):=by
 by_cases q:0<k
 ·rw[wW (show(0:Int)<k by omega),show((true==true):Bool)=true from rfl,Am,Ec q (by omega),AE,Am,AO (by omega),AE,Am,nk,AE]
  by_cases j:0≤Bw l[k-1]!.Row l[k]!.Row l[k-1]!.Col l[k]!.Col
  ·rw[wU (show(true&&(0≤Bw l[k-1]!.Row l[k]!.Row l[k-1]!.Col l[k]!.Col))=true by rw[wW j];rfl),wU ⟨q,j⟩];rfl
  ·rw[ne (show ¬ (true&&(0≤Bw l[k-1]!.Row l[k]!.Row l[k-1]!.Col l[k]!.Col))=true by rw[wX j];decide),ne (λh=>j h.2),AX (by omega)];rfl
 ·obtain rfl:k=0:=by omega
  rw[ne (show ¬ (0<0∧_) from λh=>absurd h.1 (by decide))];rfl
theorem lh j q w (l:List Aq) (U:l.length≤1073741824) (M:∀c∈l,SX c):Od l j q w=some (M7 j q w l):=by
 unfold Od
 rw[CA (n:=l.length) (O9 j q w l) (λk A=>by
  obtain⟨J,V⟩:=M _ (BA A)
  have E:=mj l k A (by omega)
  unfold P2 O9 R9
  rw[wU (by simpa using A),AO A,AE]
  by_cases B:IF j q l[k]!
  ·have F:=B
   unfold IF at F
   rw[ne (by simp only[wh,wV];omega),ne (by simp only[wh,wV];omega),jo,AE,OR _ J.2 (by have:=J.1;omega),AE,E]
   rw[ne (wy.2 B)]
   cases O:Ho l[k]!.Text.length l[k]!.Text with
   | false=>rfl
   | true=>
    rw[ne (show ¬ ((!true)=true) by decide),ne (show ¬ (true=false) by decide)]
    by_cases u:Ah l[k]!.Attrs false=0
    ·rw[ne (Bx u),ne (wy.2 u)]
     have T:QG l[k]! = some (Ja l[k]!):=by unfold QG Ja;rw[eG]
     rw[T,AE]
     by_cases C:(!w&&Ja l[k]!)=true
     ·rw[wU (by rw[Bool.and_comm];exact C),wU C];rfl
     ·rw[ne (by rw[Bool.and_comm];exact C),ne C,ne (show ¬ ((0:Int)≠0) from λh=>h rfl)]
    ·rw[wU (BK u),wU u,wU u];rfl
  ·rw[wU B]
   unfold IF at B
   by_cases I:((((l[k]!.Row<0)||(j≤l[k]!.Row))||(l[k]!.Col<0))||(q≤l[k]!.Col))=true
   ·rw[wU I];rfl
   ·rw[ne I,wU (by simp only[wh,wV] at I ⊢;omega)];rfl) (by unfold P2;rw[ne (by simp)]),Ey]
 rfl
theorem nq(l:List Aq) k(J:k<l.length)(M:l.length≤9223372036854775806) :
  (AB (gd ((decide (0<(k:Int)))==true) (AK .i64 ((k:Int)-1))) λ(F:Int)=>
      AB (gd ((decide (0<(k:Int)))==true) (AJ l F)) λ(j:Aq)=>
      AB (gd ((((decide (0<(k:Int)))==true)&&((decide (l[k]!.Row<j.Row))==false))&&((decide (l[k]!.Row=j.Row))==true)) (AK .i64 ((k:Int)-1))) λ(I:Int)=>
      AB (gd ((((decide (0<(k:Int)))==true)&&((decide (l[k]!.Row<j.Row))==false))&&((decide (l[k]!.Row=j.Row))==true)) (AJ l I)) λ(w:Aq)=>
      if((0<(k:Int))&&((l[k]!.Row<j.Row)||((l[k]!.Row=j.Row)&&(l[k]!.Col≤w.Col)))) then(some (.inr (.ext 5)):Option (Int ⊕ (Ai Unit Int))) else(
       AB (AK .i64 ((k:Int)+1)) λ(A:Int)=>some (.inl A)))=CG k (if 0<k∧0≤Bw l[k-1]!.Row l[k]!.Row l[k-1]!.Col l[k]!.Col then some 5 else none):=by
 have q:=Sx l[k-1]!.Row l[k]!.Row l[k-1]!.Col l[k]!.Col
 by_cases B:0<k
 ·rw[wW (show(0:Int)<k by omega),show((true==true):Bool)=true from rfl,Am,Ec B (by omega),AE,Am,AO (show k-1<l.length by omega),AE]
  by_cases u:l[k]!.Row<l[k-1]!.Row
  ·rw[wW u,wU (show 0<k∧0≤Bw l[k-1]!.Row l[k]!.Row l[k-1]!.Col l[k]!.Col from⟨B,q.2 (.inl u)⟩)];rfl
  ·by_cases C:l[k]!.Row=l[k-1]!.Row
   ·rw[wX u,wW C,show(((true&&(false==false))&&(true==true)):Bool)=true from rfl,Am,AE,Am,AO (show k-1<l.length by omega),AE]
    by_cases E:l[k]!.Col≤l[k-1]!.Col
    ·rw[wW E,wU (show 0<k∧0≤Bw l[k-1]!.Row l[k]!.Row l[k-1]!.Col l[k]!.Col from⟨B,q.2 (.inr ⟨C,E⟩)⟩)];rfl
    ·rw[wX E,ne (show ¬ (0<k∧0≤Bw l[k-1]!.Row l[k]!.Row l[k-1]!.Col l[k]!.Col) from λh=>by have:=q.1 h.2;omega),AX (by omega)];rfl
   ·rw[wX u,wX C,ne (show ¬ (0<k∧0≤Bw l[k-1]!.Row l[k]!.Row l[k-1]!.Col l[k]!.Col) from λh=>by have:=q.1 h.2;omega),AX (by omega)];rfl
 ·obtain rfl:k=0:=by omega
  rw[ne (show ¬ (0<0∧_) from λh=>absurd h.1 (by decide))];rfl
theorem tN j q w (l:List Aq) (V:l.length≤1073741824) (M:∀c∈l,SX c) (X:0≤j∧j≤2147483647) (O:0≤q∧q≤2147483647):M8 l j q w=some (M7 j q w l):=by
 unfold M8
 rw[CA (n:=l.length) (O9 j q w l) (λk A=>by
  obtain⟨F,Y⟩:=M _ (BA A)
  have C:=nq l k A (by omega)
  unfold N7 O9 R9
  rw[wU (by simpa using A),AO A,AE,Bk (by omega) (by omega),AE,Ej,AE,Ej,C]
  by_cases B:IF j q l[k]!
  ·have E:=B
   unfold IF at E
   rw[ne (wy.2 B),wW (show 0≤l[k]!.Row∧l[k]!.Row≤j-1 by omega),show((!true)==false)=true from rfl,Am,Bk (by omega) (by omega),AE,Am,Ej,AE,wW (show 0≤l[k]!.Col∧l[k]!.Col≤q-1 by omega),
    show(((!true)||(!true))==false)=true from rfl,Am,AE,wW (show 0≤l[k]!.Ref∧l[k]!.Ref≤1073741824 by omega),ne (by decide),qX _ (by omega),AE,Pi _ _ F.2 (by have:=F.1;omega),AE]
   cases T:Ho l[k]!.Text.length l[k]!.Text with
   | false=>rfl
   | true=>
    rw[ne (show ¬ ((!true)=true) by decide),ne (show ¬ (true=false) by decide)]
    by_cases u:Ah l[k]!.Attrs false=0
    ·rw[ne (Bx u),ne (wy.2 u)]
     have U:O0 l[k]! = some (Ja l[k]!):=by unfold O0 Ja;rw[eG]
     rw[U]
     cases w with
     | true=>rfl
     | false=>
      show(AB (gd true (some (Ja l[k]!))) λ(Z:Bool)=>_)=_
      rw[Am,AE]
      cases Ja l[k]!<;>rfl
    ·rw[wU (BK u),wU u,wU u];rfl
  ·rw[wU B]
   unfold IF at B
   by_cases I:0≤l[k]!.Row∧l[k]!.Row≤j-1
   ·rw[wW I,show((!true)==false)=true from rfl,Am,Bk (by omega) (by omega),AE,Am,Ej,AE]
    by_cases J:0≤l[k]!.Col∧l[k]!.Col≤q-1
    ·rw[wW J,show(((!true)||(!true))==false)=true from rfl,Am,AE,wX (show ¬ (0≤l[k]!.Ref∧l[k]!.Ref≤1073741824) by omega)];rfl
    ·rw[wX J];rfl
   ·rw[wX I];rfl) (by unfold N7;rw[ne (by simp)]),Ey]
 rfl
theorem gc{ρ:Type}{f}{n}(g:Nat→Option ρ)(u:∀k:Nat, k<n→(∀j, j<k→g j=none)→f k=CG k (g k))
 (w:f n=some (.inr (.nrm ()))):iter f 0=some (FT ((List.range n).findSome? g)) := by
  have key:∀m k:Nat, k+m=n→(∀j, j<k→g j=none)→iter f (k:Int)=some (FT ((List.range' k m).findSome? g)) := by
    intro m
    induction m with
    | zero =>
      intro k A _
      obtain rfl:k=n := by omega
      rw[Bq w];rfl
    | succ m B =>
      intro k A l
      have q := u k (by omega) l
      rw[WAK, yE]
      cases hg:g k with
      | some r => rw[hg] at q;rw[Bq q];rfl
      | none =>
        rw[hg] at q
        rw[Cv q]
        exact B (k+1) (by omega) (λj C => by
          by_cases e:j=k
          · rw[e];exact hg
          · exact l j (by omega))
  have := key n 0 (by omega) (λj l => absurd l (zt _))
  rw[zS]
  exact this
def DG(j l:Int)(r:An):Prop:=0≤r.Row∧r.Row<j∧0≤r.Col∧r.Col<l∧1≤r.H∧r.H≤j-r.Row∧1≤r.W∧r.W≤l-r.Col
instance (rows cols:Int) (r:An):Decidable (DG rows cols r):=by unfold DG;infer_instance
def Gk(a b:An):Bool:=decide (a.Row<b.Row+b.H∧b.Row<a.Row+a.H∧a.Col<b.Col+b.W∧b.Col<a.Col+a.W)
def F8(j l:Int):Prop:=0≤j∧j≤2147483647∧0≤l∧l≤2147483647
instance (rows cols:Int):Decidable (F8 rows cols):=by unfold F8;infer_instance
theorem sE(r:An) j l(h:F8 j l):N3 r j l=some (decide (DG j l r)):=by
 obtain⟨F,I,J,M⟩:=h
 unfold N3
 by_cases w:0≤r.Row∧0≤r.Col∧1≤r.H∧1≤r.W∧r.Row<j∧r.Col<l
 ·obtain⟨A,B,a3,a4,a5,C⟩:=w
  rw[wW A,wW B,wW a3,wW a4,wW a5,wW C,show((((((true&&true)&&true)&&true)&&true)&&true)==true)=true from rfl,Am,Bk (by omega) (by omega),AE]
  by_cases q:r.H≤j-r.Row
  ·rw[wW q,show(((((((true&&true)&&true)&&true)&&true)&&true)&&true)==true)=true from rfl,Am,Bk (by omega) (by omega),AE]
   by_cases u:r.W≤l-r.Col
   ·rw[wW u,wW (show DG j l r from⟨A,a5,B,C,a3,q,a4,u⟩)];rfl
   ·rw[wX u,wX (show ¬ DG j l r from λh=>u h.2.2.2.2.2.2.2)];rfl
  ·rw[wX q,wX (show ¬ DG j l r from λh=>q h.2.2.2.2.2.1)];rfl
 ·have E:((((((0≤r.Row)&&(0≤r.Col))&&(1≤r.H))&&(1≤r.W))&&(r.Row<j))&&(r.Col<l))=false:=by
   rw[← xy]
   simp only[wY,wV]
   intro h;exact w (by omega)
  rw[E,wX (show ¬ DG j l r from λh=>w ⟨h.1,h.2.2.1,h.2.2.2.2.1,h.2.2.2.2.2.2.1,h.2.1,h.2.2.2.1⟩)];rfl
theorem ot(r:An) j l(h:F8 j l):LA r j l=some (decide (DG j l r)):=by
 obtain⟨w,A,B,C⟩:=h
 unfold LA
 rw[Bk (by omega) (by omega),AE,Ej,AE]
 by_cases q:0≤r.Row∧r.Row≤j-1
 ·rw[wW q,show((true==true):Bool)=true from rfl,Am,Bk (by omega) (by omega),AE,Am,Ej,AE]
  by_cases u:0≤r.Col∧r.Col≤l-1
  ·rw[wW u,show((true&&true)==true)=true from rfl,Am,Bk (by omega) (by omega),AE,Am,Ej,AE]
   by_cases a3:1≤r.H∧r.H≤j-r.Row
   ·rw[wW a3,show(((true&&true)&&true)==true)=true from rfl,Am,Bk (by omega) (by omega),AE,Am,Ej,AE]
    by_cases a4:1≤r.W∧r.W≤l-r.Col
    ·rw[wW a4,wW (show DG j l r from⟨q.1,by omega,u.1,by omega,a3.1,a3.2,a4.1,a4.2⟩)];rfl
    ·rw[wX a4,wX (show ¬ DG j l r from λh=>a4 ⟨h.2.2.2.2.2.2.1,h.2.2.2.2.2.2.2⟩)];rfl
   ·rw[wX a3,wX (show ¬ DG j l r from λh=>a3 ⟨h.2.2.2.2.1,h.2.2.2.2.2.1⟩)];rfl
  ·rw[wX u,wX (show ¬ DG j l r from λh=>u ⟨h.2.2.1,by have:=h.2.2.2.1;omega⟩)];rfl
 ·rw[wX q,wX (show ¬ DG j l r from λh=>q ⟨h.1,by have:=h.2.1;omega⟩)];rfl
theorem oo{j l}(h:F8 j l){a b:An}(B:DG j l a)(C:DG j l b):PD a b=some (Gk a b):=by
 obtain⟨E,F,I,J⟩:=h
 obtain⟨M,O,a3,a4,a5,T,U,V⟩:=B
 obtain⟨X,Y,Z,b4,b5,b6,b7,b8⟩:=C
 unfold PD Gk
 rw[Bk (by omega) (by omega),AE]
 by_cases q:a.Row<b.Row+b.H
 ·rw[wW q,show((true==true):Bool)=true from rfl,Am,Bk (by omega) (by omega),AE]
  by_cases u:b.Row<a.Row+a.H
  ·rw[wW u,show((true&&true)==true)=true from rfl,Am,Bk (by omega) (by omega),AE]
   by_cases w:a.Col<b.Col+b.W
   ·rw[wW w,show(((true&&true)&&true)==true)=true from rfl,Am,Bk (by omega) (by omega),AE]
    by_cases A:b.Col<a.Col+a.W
    ·rw[wW A,wW (show _∧_∧_∧_ from⟨q,u,w,A⟩)];rfl
    ·rw[wX A,wX (show ¬ (a.Row<b.Row+b.H∧b.Row<a.Row+a.H∧a.Col<b.Col+b.W∧b.Col<a.Col+a.W) from λh=>A h.2.2.2)];rfl
   ·rw[wX w,wX (show ¬ (a.Row<b.Row+b.H∧b.Row<a.Row+a.H∧a.Col<b.Col+b.W∧b.Col<a.Col+a.W) from λh=>w h.2.2.1)];rfl
  ·rw[wX u,wX (show ¬ (a.Row<b.Row+b.H∧b.Row<a.Row+a.H∧a.Col<b.Col+b.W∧b.Col<a.Col+a.W) from λh=>u h.2.1)];rfl
 ·rw[wX q,wX (show ¬ (a.Row<b.Row+b.H∧b.Row<a.Row+a.H∧a.Col<b.Col+b.W∧b.Col<a.Col+a.W) from λh=>q h.1)];rfl
theorem tC{j l}(h:F8 j l){a b:An}(w:DG j l a)(A:DG j l b):Qt a b=some (Gk b a):=by
 obtain⟨B,C,E,F⟩:=h
 obtain⟨I,J,a3,a4,a5,M,O,T⟩:=w
 obtain⟨U,V,X,Y,Z,b6,b7,b8⟩:=A
 unfold Qt Gk
 rw[Bk (by omega) (by omega),AE,Bk (by omega) (by omega),AE]
 by_cases q:max a.Row b.Row<min (a.Row+a.H) (b.Row+b.H)
 ·rw[wW q,show((true==true):Bool)=true from rfl,Am,Bk (by omega) (by omega),AE,Am,Bk (by omega) (by omega),AE]
  by_cases u:max a.Col b.Col<min (a.Col+a.W) (b.Col+b.W)
  ·rw[wW u,wW (show b.Row<a.Row+a.H∧a.Row<b.Row+b.H∧b.Col<a.Col+a.W∧a.Col<b.Col+b.W by omega)];rfl
  ·rw[wX u,wX (show ¬ (b.Row<a.Row+a.H∧a.Row<b.Row+b.H∧b.Col<a.Col+a.W∧a.Col<b.Col+b.W) by omega)];rfl
 ·rw[wX q,wX (show ¬ (b.Row<a.Row+a.H∧a.Row<b.Row+b.H∧b.Col<a.Col+a.W∧a.Col<b.Col+b.W) by omega)];rfl
theorem uc{α:Type}[Inhabited α]{l:List α}{k j}(q:j<k)(u:k≤l.length):(l.take k)[j]! = l[j]!:=by
 rw[wg (l.take k) j (by rw[yM];omega),wg l j (by omega),List.getElem_take]
def MH(l:List An)(k:Nat)(w:An):Option Nat:=(List.range k).find? λj=>Gk l[j]! w
theorem oP{q u}(h:F8 q u)(l:List An) k(C:k≤l.length)(J:l.length≤1073741824)(E:∀j,j<k→DG q u l[j]!){w}(F:DG q u w) :
  Mn w (l.take k)=some (MH l k w).isSome:=by
 unfold Mn TF
 have A:(l.take k).length=k:=by rw[yM];omega
 rw[CA (n:=k) (λj=>if Gk l[j]! w then some (j:Int) else none) (λj B=>by
  unfold Q7 SG
  rw[wU (by rw[A,wV];omega),AO (by rw[A];exact B),AE,uc B C,oo h (E j B) F,AE,AE,AX (by omega)]
  cases Gk l[j]! w<;>rfl) (by unfold Q7;rw[ne (by rw[A];simp)]),TL,EK]
 unfold MH
 cases (List.range k).find? λj=>Gk l[j]! w with
 | none=>rfl
 | some j=>
  show(AB (some (j:Int)) λ(I:Int)=>some (decide (0≤I)))=_
  rw[AE,wW (zL j)];rfl
def Kz(j q:Int)(l:List An)(k:Nat):Option Int:=
 if ¬ DG j q l[k]! then some 2 else if l[k]!.H=1∧l[k]!.W=1 then some 4 else if 0<k∧0≤Bw l[k-1]!.Row l[k]!.Row l[k-1]!.Col l[k]!.Col then some 5 else if(MH l k l[k]!).isSome=true then some 21 else none
theorem iZ{j q}{l}{k}(h:Kz j q l k=none):DG j q l[k]!:=by
 unfold Kz at h
 by_cases u:DG j q l[k]!
 ·exact u
 ·rw[wU u] at h;cases h
def Pd(g:BI):Int:=
 if ¬ F8 g.Rows g.Cols then 2 else if M7 g.Rows g.Cols false g.Cells≠0 then M7 g.Rows g.Cols false g.Cells else((List.range g.Merges.length).findSome? (Kz g.Rows g.Cols g.Merges)).getD 0
def XT(g:BI):Prop:=g.Cells.length≤1048576∧g.Merges.length≤1048576∧∀c∈g.Cells,SX c
theorem vI(a b:An):Pr a b=some (!(0≤Bw a.Row b.Row a.Col b.Col)):=by
 unfold Pr
 congr 1
 rw[xf]
 have:=Sx a.Row b.Row a.Col b.Col
 simp only[wh,wY,wV,xm,yF,this]
 omega
theorem rk(g:BI)(h:XT g):Oo g=some (Pd g):=by
 obtain⟨Y,Z,E⟩:=h
 unfold Oo Pd
 by_cases u:F8 g.Rows g.Cols
 ·have F:=u
  obtain⟨r1,r2,M,r4⟩:=F
  rw[ne (by simp only[wh,wV];omega),lh _ _ _ _ (by omega) E,AE,ne (wy.2 u)]
  by_cases B:M7 g.Rows g.Cols false g.Cells=0
  ·rw[ne (Bx B),ne (wy.2 B),gc (n:=g.Merges.length) (Kz g.Rows g.Cols g.Merges) (λk O T=>by
    unfold OJ
    rw[wU (by simpa using O),AO O,AE,sE _ _ _ u,AE]
    unfold Kz
    by_cases w:DG g.Rows g.Cols g.Merges[k]!
    ·rw[wW w,ne (show ¬ ((!true)=true) by decide),ne (wy.2 w)]
     by_cases A:g.Merges[k]!.H=1∧g.Merges[k]!.W=1
     ·rw[wU (by rw[wW A.1,wW A.2];rfl),wU A];rfl
     ·rw[ne (by simp only[wY,wV];exact A),ne A]
      have q:=oP u g.Merges k (by omega) (by omega) (λj I=>iZ (T j I)) w
      have U:B8 g.Merges 0 (k:Int)=some (g.Merges.take k):=by
       rw[QF g.Merges k (by omega) (by omega)];simp
      have l:(AB (B8 g.Merges 0 (k:Int)) λ(V:List An)=>
        AB (Mn g.Merges[k]! V) λ(M:Bool)=>
        if M then(some (.inr (.ext 21)):Option (Int ⊕ (Ai Unit Int))) else(
         AB (AK .i64 ((k:Int)+1)) λ(X:Int)=>some (.inl X)))=CG k (if(MH g.Merges k g.Merges[k]!).isSome=true then some 21 else none):=by
       rw[U,AE,q,AE,AX (by omega)]
       cases (MH g.Merges k g.Merges[k]!).isSome<;>rfl
      by_cases J:0<k
      ·rw[wW (show(0:Int)<k by omega),show((true==true):Bool)=true from rfl,Am,Ec J (by omega),AE,Am,AO (show k-1<g.Merges.length by omega),AE,Am,vI,AE]
       by_cases C:0≤Bw g.Merges[k-1]!.Row g.Merges[k]!.Row g.Merges[k-1]!.Col g.Merges[k]!.Col
       ·rw[wW C,wU (show 0<k∧0≤Bw g.Merges[k-1]!.Row g.Merges[k]!.Row g.Merges[k-1]!.Col g.Merges[k]!.Col from⟨J,C⟩)];rfl
       ·rw[wX C,ne (show ¬ (0<k∧0≤Bw g.Merges[k-1]!.Row g.Merges[k]!.Row g.Merges[k-1]!.Col g.Merges[k]!.Col) from λh=>C h.2)]
        exact l
      ·have e0:k=0:=by omega
       rw[ne (show ¬ (0<k∧0≤Bw g.Merges[k-1]!.Row g.Merges[k]!.Row g.Merges[k-1]!.Col g.Merges[k]!.Col) from λh=>J h.1),wX (show ¬ (0:Int)<k by omega)]
       exact l
    ·rw[wX w,wU w];rfl) (by unfold OJ;rw[ne (by simp)]),Ey]
  ·rw[wU (BK B),wU B]
 ·rw[wU u,wU (by unfold F8 at u;simp only[wh,wV];omega)]
theorem qm{X:Type}(l:List An)(k:Nat)(I:k<l.length)(J:l.length≤9223372036854775806)(a b:Option X) :
  (AB (gd ((decide (0<(k:Int)))==true) (AK .i64 ((k:Int)-1))) λ(C:Int)=>
    AB (gd ((decide (0<(k:Int)))==true) (AJ l C)) λ(j:An)=>
    AB (gd ((((decide (0<(k:Int)))==true)&&((decide (l[k]!.Row<j.Row))==false))&&((decide (l[k]!.Row=j.Row))==true)) (AK .i64 ((k:Int)-1))) λ(E:Int)=>
    AB (gd ((((decide (0<(k:Int)))==true)&&((decide (l[k]!.Row<j.Row))==false))&&((decide (l[k]!.Row=j.Row))==true)) (AJ l E)) λ(F:An)=>
    if((0<(k:Int))&&((l[k]!.Row<j.Row)||((l[k]!.Row=j.Row)&&(l[k]!.Col≤F.Col)))) then a else b) =
   if 0<k∧0≤Bw l[k-1]!.Row l[k]!.Row l[k-1]!.Col l[k]!.Col then a else b:=by
 have q:=Sx l[k-1]!.Row l[k]!.Row l[k-1]!.Col l[k]!.Col
 by_cases u:0<k
 ·rw[wW (show(0:Int)<k by omega),show((true==true):Bool)=true from rfl,Am,Ec u (by omega),AE,Am,AO (show k-1<l.length by omega),AE]
  by_cases w:l[k]!.Row<l[k-1]!.Row
  ·rw[wW w,wU (show 0<k∧0≤Bw l[k-1]!.Row l[k]!.Row l[k-1]!.Col l[k]!.Col from⟨u,q.2 (.inl w)⟩)];rfl
  ·by_cases A:l[k]!.Row=l[k-1]!.Row
   ·rw[wX w,wW A,show(((true&&(false==false))&&(true==true)):Bool)=true from rfl,Am,AE,Am,AO (show k-1<l.length by omega),AE]
    by_cases B:l[k]!.Col≤l[k-1]!.Col
    ·rw[wW B,wU (show 0<k∧0≤Bw l[k-1]!.Row l[k]!.Row l[k-1]!.Col l[k]!.Col from⟨u,q.2 (.inr ⟨A,B⟩)⟩)];rfl
    ·rw[wX B,ne (show ¬ (0<k∧0≤Bw l[k-1]!.Row l[k]!.Row l[k-1]!.Col l[k]!.Col) from λh=>by have:=q.1 h.2;omega)];rfl
   ·rw[wX w,wX A,ne (show ¬ (0<k∧0≤Bw l[k-1]!.Row l[k]!.Row l[k-1]!.Col l[k]!.Col) from λh=>by have:=q.1 h.2;omega)];rfl
 ·rw[ne (show ¬ (0<k∧0≤Bw l[k-1]!.Row l[k]!.Row l[k-1]!.Col l[k]!.Col) from λh=>u h.1),wX (show ¬ (0:Int)<k by omega)];rfl
theorem oX(g:BI)(h:XT g):N4 g=some (Pd g):=by
 obtain⟨U,V,B⟩:=h
 unfold N4 Pd
 rw[Ej,AE]
 by_cases l:F8 g.Rows g.Cols
 ·have C:=l
  obtain⟨I,J,M,O⟩:=C
  rw[wW (show 0≤g.Rows∧g.Rows≤2147483647 from⟨I,J⟩),show((!true)==false)=true from rfl,Am,Ej,AE,wW (show 0≤g.Cols∧g.Cols≤2147483647 from⟨M,O⟩),ne (by decide),
   tN _ _ _ _ (by omega) B ⟨I,J⟩ ⟨M,O⟩,AE,ne (wy.2 l)]
  by_cases w:M7 g.Rows g.Cols false g.Cells=0
  ·rw[ne (Bx w),ne (wy.2 w),gc (n:=g.Merges.length) (Kz g.Rows g.Cols g.Merges) (λk E T=>by
    unfold Ow
    rw[wU (by simpa using E),AO E,AE,ot _ _ _ l,AE]
    unfold Kz
    by_cases q:DG g.Rows g.Cols g.Merges[k]!
    ·rw[wW q,ne (show ¬ ((!true)=true) by decide),ne (wy.2 q)]
     by_cases u:g.Merges[k]!.H=1∧g.Merges[k]!.W=1
     ·rw[wU (by rw[wW u.1,wW u.2];rfl),wU u];rfl
     ·rw[ne (by simp only[wY,wV];exact u),ne u,qm _ k E (by omega)]
      by_cases A:0<k∧0≤Bw g.Merges[k-1]!.Row g.Merges[k]!.Row g.Merges[k-1]!.Col g.Merges[k]!.Col
      ·rw[wU A,wU A];rfl
      ·rw[ne A,ne A,CA (n:=k) (λj=>if Gk g.Merges[j]! g.Merges[k]! then some (.inr (.ext 21)) else none) (λj F=>by
        unfold Pb
        rw[wU (by rw[wV];omega),AO (by omega),AE,tC l q (iZ (T j F)),AE,AX (by omega)]
        cases Gk g.Merges[j]! g.Merges[k]!<;>rfl) (by unfold Pb;rw[ne (by rw[wV];omega)]),TL,EK]
       unfold MH
       cases (List.range k).find? λj=>Gk g.Merges[j]! g.Merges[k]! with
       | none=>rw[AX (by omega)];rfl
       | some j=>rfl
    ·rw[wX q,wU q];rfl) (by unfold Ow;rw[ne (by simp)]),Ey]
  ·rw[wU (BK w),wU w]
 ·rw[wU l]
  unfold F8 at l
  by_cases a:0≤g.Rows∧g.Rows≤2147483647
  ·rw[wW a,show((!true)==false)=true from rfl,Am,Ej,AE,wX (show ¬ (0≤g.Cols∧g.Cols≤2147483647) by omega)];rfl
  ·rw[wX a];rfl
def V0(c:UInt8):Bool:=(97≤c.toNat)&&(c.toNat≤122)
def TS(s:List UInt8):Bool:=(List.range s.length).all λk=>V0 s[k]!
def KR(s:List UInt8):Bool:=(1≤s.length)&&(s.length≤200)&&!(s[s.length-1]!.toNat=97)&&TS s
theorem gy(s:List UInt8)(l:s.length≤9223372036854775806):iter (λ(a:Int)=>LN s a) 0=some (FT (if TS s then none else some false)):=by
 rw[CA (n:=s.length) (λk=>if V0 s[k]! then none else some false) (λk j=>by
  unfold LN
  rw[wU (by simpa using j),AO j,AE,AX (by omega)]
  unfold V0
  generalize s[k]! = c
  by_cases h:97≤c.toNat∧c.toNat≤122
  ·rw[ne (by simp only[wh,wV];omega),wU (by simp only[wY,wV];exact h)];rfl
  ·rw[wU (by simp only[wh,wV];omega),ne (by simp only[wY,wV];exact h)];rfl) (by unfold LN;rw[ne (by simp)]),H5]
 rfl
theorem u5:RW=LN:=by funext s x;rfl
theorem qE(s:List UInt8)(q:s.length≤9223372036854775806):Qx s=some (KR s):=by
 unfold Qx KR
 rw[u5,gy s q]
 by_cases h:1≤s.length∧s.length≤200
 ·have j:s≠[]:=xx.1 h.1
  rw[wX j,wX (show ¬ (200:Int)<(s.length:Int) by omega),show((false||false)==false)=true from rfl,Am,Ec h.1 (by omega),AE,Am,AO (by omega),AE,wW h.1,wW h.2]
  by_cases l:s[s.length-1]!.toNat=97
  ·rw[wW l,wU (by rw[wW (show((s[s.length-1]!.toNat:Int)=97) by omega)];rfl)];rfl
  ·rw[wX l,ne (by rw[wX (show ¬ ((s[s.length-1]!.toNat:Int)=97) by omega)];decide)]
   cases TS s<;>rfl
 ·have u:((s=[])||(200<(s.length:Int)))=true:=by
   rw[wh,wV,wV,← List.length_eq_zero_iff];omega
  have hd:((1≤s.length)&&(s.length≤200))=false:=by
   rw[← xy,wY,wV,wV];exact h
  rw[u,hd];rfl
theorem mw(s:List UInt8)(l:s.length≤9223372036854775806):RC s=some (KR s):=by
 unfold RC KR
 rw[gy s l,EK]
 cases TS s with
 | false=>rw[zZ];rfl
 | true=>
  rw[wU rfl,WAD]
  dsimp only
  by_cases h:1≤s.length∧s.length≤200
  ·rw[wW (show(1:Int)≤(s.length:Int) by omega),wW (show(s.length:Int)≤200 by omega),show((true&&true)==true)=true from rfl,Am,Ec h.1 (by omega),AE,Am,AO (by omega),AE,wW h.1,wW h.2]
   by_cases j:s[s.length-1]!.toNat=97
   ·rw[wW j,wW (show((s[s.length-1]!.toNat:Int)=97) by omega)]
   ·rw[wX j,wX (show ¬ ((s[s.length-1]!.toNat:Int)=97) by omega)]
  ·have q:((1≤(s.length:Int))&&((s.length:Int)≤200))=false:=by
    rw[← xy,wY,wV,wV];omega
   have hd:((1≤s.length)&&(s.length≤200))=false:=by
    rw[← xy,wY,wV,wV];exact h
   rw[q,hd];rfl
def Gc(o:BB):Prop:=(1≤o.Clock∧o.Clock≤1073741824)∧(0≤o.Site∧o.Site≤1000)∧(1≤o.Item∧o.Item≤1073741824)
instance (o:BB):Decidable (Gc o):=by unfold Gc;infer_instance
def Lu(o:BB):Int:=
 if ¬ (o.Kind=0∨o.Kind=1) then 8 else if ¬ Gc o then 2
 else if o.Kind=0 then(if o.Name≠[]∨o.Value≠[] then 4 else if ¬ (-1≤o.Parent∧o.Parent≤1073741824) then 2 else if KR o.Place=false then 9 else 0)
 else(if o.Parent≠0∨o.Place≠[] then 4 else if D7 o.Name=false then 9 else if o.Value≠[]∧DR o.Value=false then 23 else 0)
def RK(l:List BB)(k:Nat):Option Int:=
 if Lu l[k]!≠0 then some (Lu l[k]!) else if 0<k∧0≤Bw l[k-1]!.Clock l[k]!.Clock l[k-1]!.Site l[k]!.Site then some 5 else none
def iw(l:List BB):Int:=((List.range l.length).findSome? (RK l)).getD 0
def SZ(o:BB):Prop:=o.Place.length≤1073741824∧o.Name.length≤1073741824∧o.Value.length≤1073741824
theorem kp(o:BB)(h:SZ o):QP o=some (Lu o):=by
 obtain⟨hp,I,J⟩:=h
 unfold QP Lu
 rw[qE _ (by omega),YP _ (by omega),VP _ (by omega)]
 by_cases l:o.Kind=0
 ·have u:¬ o.Kind=1:=by omega
  rw[ne (show ¬ ((!(o.Kind=0))&&(!(o.Kind=1)))=true by rw[wW l];simp),ne (show ¬ ¬ (o.Kind=0∨o.Kind=1) from λh=>h (.inl l))]
  by_cases q:Gc o
  ·have w:=q
   unfold Gc at w
   rw[ne (by simp only[wh,wV];omega),ne (wy.2 q),wU l,wW l,wX u]
   by_cases j:o.Name≠[]∨o.Value≠[]
   ·have A:(true&&((!(o.Name=[]))||(!(o.Value=[]))))=true:=by
     rw[xt,wh]
     rcases j with c | c
     ·exact .inl (BK c)
     ·exact .inr (BK c)
    rw[wU j,A];rfl
   ·have C:o.Name=[]∧o.Value=[]:=⟨xD λh=>j (.inl h),xD λh=>j (.inr h)⟩
    have A:(true&&((!(o.Name=[]))||(!(o.Value=[]))))=false:=by rw[wW C.1,wW C.2];rfl
    rw[ne j,A]
    by_cases B : -1≤o.Parent∧o.Parent≤1073741824
    ·rw[ne (wy.2 B)]
     have E:((o.Parent<(-1))||(1073741824<o.Parent))=false:=by
      rw[← xy,wh,wV,wV];omega
     rw[E]
     cases KR o.Place with
     | false=>rfl
     | true=>rw[wW C.2];rfl
    ·rw[wU B]
     have E:((o.Parent<(-1))||(1073741824<o.Parent))=true:=by
      rw[wh,wV,wV];omega
     rw[E];rfl
  ·rw[wU (by unfold Gc at q;simp only[wh,wV];omega),wU q]
 ·by_cases u:o.Kind=1
  ·rw[ne (show ¬ ((!(o.Kind=0))&&(!(o.Kind=1)))=true by rw[wW u,wX l];decide),ne (show ¬ ¬ (o.Kind=0∨o.Kind=1) from λh=>h (.inr u))]
   by_cases q:Gc o
   ·have w:=q
    unfold Gc at w
    rw[ne (by simp only[wh,wV];omega),ne (wy.2 q),ne l,wX l,wW u]
    by_cases j:o.Parent≠0∨o.Place≠[]
    ·have A:(true&&((!(o.Parent=0))||(!(o.Place=[]))))=true:=by
      rw[xt,wh]
      rcases j with c | c
      ·exact .inl (BK c)
      ·exact .inr (BK c)
     rw[wU j,A];rfl
    ·have C:o.Parent=0∧o.Place=[]:=⟨xD λh=>j (.inl h),xD λh=>j (.inr h)⟩
     have A:(true&&((!(o.Parent=0))||(!(o.Place=[]))))=false:=by rw[wW C.1,wW C.2];rfl
     rw[ne j,A]
     cases D7 o.Name with
     | false=>rfl
     | true=>
      by_cases B:o.Value=[]
      ·rw[wW B,ne (show ¬ (true=false) by decide),ne (show ¬ (o.Value≠[]∧DR o.Value=false) from λh=>h.1 B)];rfl
      ·rw[wX B,ne (show ¬ (true=false) by decide)]
       cases F:DR o.Value with
       | false=>rw[wU (show o.Value≠[]∧false=false from⟨B,rfl⟩)];rfl
       | true=>rw[ne (show ¬ (o.Value≠[]∧true=false) from λh=>by cases h.2)];rfl
   ·rw[wU (by unfold Gc at q;simp only[wh,wV];omega),wU q]
  ·rw[wU (show((!(o.Kind=0))&&(!(o.Kind=1)))=true by rw[wX u,wX l];rfl),wU (show ¬ (o.Kind=0∨o.Kind=1) from λh=>h.elim l u)]
theorem jW(a b:BB):OV a b=some (Bw a.Clock b.Clock a.Site b.Site):=by
 unfold OV
 rw[S6,S6,AE,AE,dV,AE,ga]
theorem tf(a b:BB):Nh a b=some (!(0≤Bw a.Clock b.Clock a.Site b.Site)):=by
 unfold Nh
 congr 1
 rw[xf]
 have:=Sx a.Clock b.Clock a.Site b.Site
 simp only[wh,wY,wV,xm,yF,this]
 omega
theorem pi(l:List BB)(A:l.length≤1073741824)(w:∀o∈l,SZ o):N2 l=some (iw l):=by
 unfold N2
 rw[CA (n:=l.length) (RK l) (λk q=>by
  unfold Qj RK
  rw[wU (by simpa using q),AO q,AE,kp _ (w _ (BA q)),AE]
  by_cases e:Lu l[k]! = 0
  ·rw[ne (Bx e),ne (wy.2 e)]
   by_cases u:0<k
   ·rw[wW (show(0:Int)<k by omega),show((true==true):Bool)=true from rfl,Am,Ec u (by omega),AE,Am,AO (show k-1<l.length by omega),AE,Am,jW,AE]
    by_cases j:0≤Bw l[k-1]!.Clock l[k]!.Clock l[k-1]!.Site l[k]!.Site
    ·rw[wW j,wU (show 0<k∧0≤Bw l[k-1]!.Clock l[k]!.Clock l[k-1]!.Site l[k]!.Site from⟨u,j⟩)];rfl
    ·rw[wX j,ne (show ¬ (0<k∧0≤Bw l[k-1]!.Clock l[k]!.Clock l[k-1]!.Site l[k]!.Site) from λh=>j h.2),AX (by omega)];rfl
   ·rw[ne (show ¬ (0<k∧0≤Bw l[k-1]!.Clock l[k]!.Clock l[k-1]!.Site l[k]!.Site) from λh=>u h.1),wX (show ¬ (0:Int)<k by omega),AX (by omega)];rfl
  ·rw[wU (BK e),wU e];rfl) (by unfold Qj;rw[ne (by simp)]),Ey]
 rfl
theorem oY(l:List BB)(hm:l.length≤1073741824)(U:∀o∈l,SZ o):Mj l=some (iw l):=by
 unfold Mj
 rw[CA (n:=l.length) (RK l) (λk F=>by
  obtain⟨hp,V,X⟩:=U _ (BA F)
  have u:(AB (gd ((decide (0<(k:Int)))==true) (AK .i64 ((k:Int)-1))) λ(Y:Int)=>
    AB (gd ((decide (0<(k:Int)))==true) (AJ l Y)) λ(Z:BB)=>
    AB (gd ((decide (0<(k:Int)))==true) (Nh Z l[k]!)) λ(r4:Bool)=>
    if((0<(k:Int))&&(!r4)) then(some (.inr (.ext 5)):Option (Int ⊕ (Ai Unit Int))) else(
     AB (AK .i64 ((k:Int)+1)) λ(x7:Int)=>some (.inl x7)))=CG k (if 0<k∧0≤Bw l[k-1]!.Clock l[k]!.Clock l[k-1]!.Site l[k]!.Site then some 5 else none):=by
   by_cases I:0<k
   ·rw[wW (show(0:Int)<k by omega),show((true==true):Bool)=true from rfl,Am,Ec I (by omega),AE,Am,AO (show k-1<l.length by omega),AE,Am,tf,AE]
    by_cases C:0≤Bw l[k-1]!.Clock l[k]!.Clock l[k-1]!.Site l[k]!.Site
    ·rw[wW C,wU (show 0<k∧0≤Bw l[k-1]!.Clock l[k]!.Clock l[k-1]!.Site l[k]!.Site from⟨I,C⟩)];rfl
    ·rw[wX C,ne (show ¬ (0<k∧0≤Bw l[k-1]!.Clock l[k]!.Clock l[k-1]!.Site l[k]!.Site) from λh=>C h.2),AX (by omega)];rfl
   ·rw[ne (show ¬ (0<k∧0≤Bw l[k-1]!.Clock l[k]!.Clock l[k-1]!.Site l[k]!.Site) from λh=>I h.1),wX (show ¬ (0:Int)<k by omega),AX (by omega)];rfl
  unfold PN RK Lu
  rw[wU (by simpa using F),AO F,AE,u,Ej,AE,Ej,Ej,Ej,mw _ (by omega),fT _ (by omega),Rd _ (by omega)]
  generalize l[k]! = o at hp V X ⊢
  by_cases A:o.Kind=0∨o.Kind=1
  ·rw[ne (show ¬ ((!(o.Kind=0))&&(!(o.Kind=1)))=true by rcases A with h | h<;>rw[wW h]<;>simp),ne (wy.2 A)]
   by_cases w:Gc o
   ·rw[ne (wy.2 w),wW w.1,show((!true)==false)=true from rfl,Am,AE,wW w.2.1,show(((!true)||(!true))==false)=true from rfl,Am,AE,wW w.2.2,ne (show ¬ (((!true)||(!true))||(!true))=true by decide)]
    by_cases E:o.Kind=0
    ·rw[wU (wW E),wU E]
     by_cases j:o.Name≠[]∨o.Value≠[]
     ·have J:((!(o.Name=[]))||(!(o.Value=[])))=true:=by
       rw[wh]
       rcases j with c | c
       ·exact .inl (BK c)
       ·exact .inr (BK c)
      rw[wU j,wU J];rfl
     ·have B:o.Name=[]∧o.Value=[]:=⟨xD λh=>j (.inl h),xD λh=>j (.inr h)⟩
      rw[ne j,ne (show ¬ ((!(o.Name=[]))||(!(o.Value=[])))=true by rw[wW B.1,wW B.2];decide),AE]
      by_cases q : -1≤o.Parent∧o.Parent≤1073741824
      ·rw[ne (wy.2 q),wW q,ne (show ¬ ((!true)=true) by decide),AE]
       cases KR o.Place<;>rfl
      ·rw[wU q,wX q];rfl
    ·rw[ne (show ¬ decide (o.Kind=0)=true by simpa using E),ne E]
     by_cases j:o.Parent≠0∨o.Place≠[]
     ·have J:((!(o.Parent=0))||(!(o.Place=[])))=true:=by
       rw[wh]
       rcases j with c | c
       ·exact .inl (BK c)
       ·exact .inr (BK c)
      rw[wU j,wU J];rfl
     ·have B:o.Parent=0∧o.Place=[]:=⟨xD λh=>j (.inl h),xD λh=>j (.inr h)⟩
      rw[ne j,ne (show ¬ ((!(o.Parent=0))||(!(o.Place=[])))=true by rw[wW B.1,wW B.2];decide),AE]
      cases D7 o.Name with
      | false=>rfl
      | true=>
       by_cases q:o.Value=[]
       ·rw[wW q,ne (show ¬ (true=false) by decide),ne (show ¬ (o.Value≠[]∧DR o.Value=false) from λh=>h.1 q)];rfl
       ·rw[wX q,ne (show ¬ (true=false) by decide)]
        cases a0:DR o.Value with
        | false=>rw[wU (show o.Value≠[]∧false=false from⟨q,rfl⟩)];rfl
        | true=>rw[ne (show ¬ (o.Value≠[]∧true=false) from λh=>by cases h.2)];rfl
   ·rw[wU w]
    unfold Gc at w
    by_cases O:1≤o.Clock∧o.Clock≤1073741824
    ·rw[wW O,show((!true)==false)=true from rfl,Am,AE]
     by_cases T:0≤o.Site∧o.Site≤1000
     ·rw[wW T,show(((!true)||(!true))==false)=true from rfl,Am,AE,wX (show ¬ (1≤o.Item∧o.Item≤1073741824) by omega)];rfl
     ·rw[wX T];rfl
    ·rw[wX O];rfl
  ·have M:((!(o.Kind=0))&&(!(o.Kind=1)))=true:=by
    rw[wX (λh=>A (.inl h)),wX (λh=>A (.inr h))];rfl
   rw[wU M,wU A];rfl) (by unfold PN;rw[ne (by simp)]),Ey]
 rfl
theorem Yb:KP=G7:=by funext k;rfl
theorem vE:UP=MS:=by funext k;rfl
theorem vH:RF=Ln:=by funext k;rfl
theorem tM:Tn=JN:=by funext k;rfl
structure KC(n:Ae):Prop where
 ok:Mp n
 ce:∀c∈n.Grid.Cells,SX c
 dr:∀o∈n.Draw,SZ o
theorem KC.gd{n:Ae}(h:KC n):XT n.Grid:=⟨h.ok.gr.1,h.ok.gr.2.1,h.ce⟩
def MD(kind:Int)(c:Aq):Bool:=((kind=2)&&((!(c.Text=[]))||(0<(c.Attrs.length:Int))))||((kind=6)&&(!(c.Ref=0)))
def eE(kind:Int)(l:List Aq):Int:=((List.range l.length).findSome? λk=>if MD kind l[k]! then some (4:Int) else none).getD 0
theorem tY kind(l:List Aq)(q:l.length≤1073741824):RA kind l=some (eE kind l):=by
 unfold RA
 rw[CA (n:=l.length) (λk=>if MD kind l[k]! then some (4:Int) else none) (λk j=>by
  unfold RB
  rw[wU (by simpa using j),AO j,AE,AX (by omega)]
  show(if MD kind l[k]! = true then _ else _)=_
  cases MD kind l[k]!<;>rfl) (by unfold RB;rw[ne (by simp)]),Ey]
 rfl
theorem nB kind(l:List Aq)(A:l.length≤1073741824):OH kind l=some (eE kind l):=by
 unfold OH
 rw[CA (n:=l.length) (λk=>if MD kind l[k]! then some (4:Int) else none) (λk w=>by
  unfold Qh MD
  rw[wU (by simpa using w),AO w,AX (by omega)]
  generalize l[k]! = c
  by_cases u:kind=2
  ·have j:¬ kind=6:=by omega
   rw[wW u,wX j]
   rw[show((true==true):Bool)=true from rfl,Am,AE]
   generalize ((!(c.Text=[]))||(0<(c.Attrs.length:Int)))=q
   cases q<;>rfl
  ·by_cases j:kind=6
   ·rw[wX u,wW j]
    rw[show((false==true):Bool)=false from rfl,FL,AE]
    show(AB (gd true (some c)) λ(B:Aq)=>_)=_
    rw[Am,AE]
    generalize (!(c.Ref=0))=q
    cases q<;>rfl
   ·rw[wX u,wX j];rfl) (by unfold Qh;rw[ne (by simp)]),Ey]
 rfl
def W2(t l g z d j q:Bool):Bool:=((!(t||l)&&j)||(!g&&!z))||(!d&&q)
theorem jp t l g z d j q :
  (if(((!(t||l))&&j)==false) then(
   if((!g)==true) then(
    AB (gd ((((!(t||l))&&j)||((!g)&&(!z)))==false) (some d)) λ(w:Bool)=>
    some ((((!(t||l))&&j)||((!g)&&(!z)))||((!w)&&q))
   ) else(
    AB (gd ((((!(t||l))&&j)||((!g)&&false))==false) (some d)) λ(A:Bool)=>
    some ((((!(t||l))&&j)||((!g)&&false))||((!A)&&q))
   )
  ) else(
   AB (gd ((((!(t||l))&&j)||false)==false) (some d)) λ(u:Bool)=>
   some ((((!(t||l))&&j)||false)||((!u)&&q))
  ))=some (W2 t l g z d j q):=by
 cases t<;>cases l<;>cases g<;>cases z<;>cases d<;>cases j<;>cases q<;>rfl
theorem my{X:Type}(t l g z d j q:Bool)(A B:Option X) :
  (AB (gd ((j&&(!(t||l)))==false) (some z)) λ(u:Bool)=>
   AB (gd (((j&&(!(t||l)))==false)&&((!u)==true)) (some g)) λ(w:Bool)=>
   AB (gd ((((j&&(!(t||l)))||((!u)&&(!w)))==false)&&(q==true)) (some d)) λ(C:Bool)=>
   if(((j&&(!(t||l)))||((!u)&&(!w)))||(q&&(!C))) then A else B)=if W2 t l g z d j q=true then A else B:=by
 cases t<;>cases l<;>cases g<;>cases z<;>cases d<;>cases j<;>cases q<;>rfl
theorem bN{α:Type}(l:List α):decide ((l.length:Int)=0)=l.isEmpty:=by
 cases l with
 | nil=>rfl
 | cons a l=>exact wX (by simp only[wm];omega)
theorem nW g:PZ g=some (decide (g=BI.mk 0 0 [] [])):=by
 unfold PZ
 congr 1
 obtain⟨a,b,c,d⟩:=g
 rw[bN,bN,xf]
 simp[and_assoc]
theorem VR(n:Ae)(h:KC n):∃e,E9 n=some e∧MA n=some e:=by
 have A:=h.ok.at_
 have hf:=h.ok.fl
 have hg:=h.ok.gr
 have hd:=h.ok.dr
 have M:∀x∈n.Flow,EA x:=λx Z=>⟨by have:=(h.ok.fa x Z).1;omega,(h.ok.fa x Z).2⟩
 unfold E9 MA
 rw[Yb,vE,vH,tM,Ej,AE]
 by_cases c1:1≤n.ID∧n.ID≤1073741824
 ·rw[ne (show ¬ ((n.ID<1)||(1073741824<n.ID))=true by simp only[wh,wV];omega),wW c1,ne (show ¬ ((!true)=true) by decide),Ej,AE]
  by_cases j:(0≤n.Kind∧n.Kind≤12)∧(n.ID=1↔n.Kind=0)
  ·obtain⟨j,B⟩:=j
   have O:(((n.Kind<0)||(13≤n.Kind))||(!((decide (n.ID=1))==(decide (n.Kind=0)))))=false:=by
    rw[wX (show ¬ n.Kind<0 by omega),wX (show ¬ 13≤n.Kind by omega)]
    by_cases q:n.ID=1
    ·rw[wW q,wW (B.1 q)];rfl
    ·rw[wX q,wX (λe=>q (B.2 e))];rfl
   have T:(((!(0≤n.Kind∧n.Kind≤12))||((n.ID=1)&&(!(n.Kind=0))))||((!(n.ID=1))&&(n.Kind=0)))=false:=by
    rw[wW j]
    by_cases q:n.ID=1
    ·rw[wW q,wW (B.1 q)];rfl
    ·rw[wX q,wX (λe=>q (B.2 e))];rfl
   rw[O,T,ne (show ¬ (false=true) by decide),ne (show ¬ (false=true) by decide),OR _ A.2 (by have:=A.1;omega),AE,Pi _ _ A.2 (by have:=A.1;omega),AE]
   by_cases C:Ah n.Attrs false=0
   ·rw[ne (Bx C),ne (Bx C)]
    obtain⟨t,ht⟩:∃t,G7 n.Kind=some t:=⟨_,rfl⟩
    obtain⟨l,hl⟩:∃t,MS n.Kind=some t:=⟨_,rfl⟩
    obtain⟨g,U⟩:∃t,Ln n.Kind=some t:=⟨_,rfl⟩
    obtain⟨d,V⟩:∃t,JN n.Kind=some t:=⟨_,rfl⟩
    rw[ht,hl,U,V,AE,AE,VZ _ _ hg,nW]
    have X:∃E,gd (t==false) (some l)=some E:=by cases t<;>exact⟨_,rfl⟩
    obtain⟨E,Y⟩:=X
    rw[Y,AE,AE,AE,jp,AE,AE,my]
    by_cases F:W2 t E g (decide (n.Grid=BI.mk 0 0 [] [])) d (decide (0<(n.Flow.length:Int))) (decide (0<(n.Draw.length:Int)))=true
    ·rw[wU F,wU F];exact⟨_,rfl,rfl⟩
    ·rw[ne F,ne F]
     by_cases I:(t||E)=true
     ·obtain⟨r,h1,h2⟩:=sV n.Flow t M (by omega)
      rw[wU I,wU I,h1,h2];exact⟨_,rfl,rfl⟩
     ·rw[ne I,ne I]
      cases g with
      | true=>
       rw[wU rfl,rk _ h.gd,AE,AE,wU rfl,oX _ h.gd,AE]
       by_cases J:Pd n.Grid=0
       ·rw[ne (Bx J),ne (Bx J),tY _ _ (by have:=hg.1;omega),nB _ _ (by have:=hg.1;omega)];exact⟨_,rfl,rfl⟩
       ·rw[wU (BK J),wU (BK J)];exact⟨_,rfl,rfl⟩
      | false=>
       rw[ne (show ¬ (false=true) by decide),AE,ne (show ¬ (false=true) by decide),pi _ (by omega) h.dr,oY _ (by omega) h.dr];exact⟨_,rfl,rfl⟩
   ·rw[wU (BK C),wU (BK C)];exact⟨_,rfl,rfl⟩
  ·have O:(((n.Kind<0)||(13≤n.Kind))||(!((decide (n.ID=1))==(decide (n.Kind=0)))))=true:=by
    by_cases u:0≤n.Kind∧n.Kind≤12
    ·have w:¬ (n.ID=1↔n.Kind=0):=λe=>j ⟨u,e⟩
     by_cases q:n.ID=1
     ·rw[wW q,wX (λe=>w ⟨λ_=>e,λ_=>q⟩),wh];exact .inr rfl
     ·rw[wX q,wW (xD λe=>w ⟨λx=>absurd x q,λx=>absurd x e⟩),wh];exact .inr rfl
    ·simp only[wh,wV];exact .inl (by omega)
   have T:(((!(0≤n.Kind∧n.Kind≤12))||((n.ID=1)&&(!(n.Kind=0))))||((!(n.ID=1))&&(n.Kind=0)))=true:=by
    by_cases u:0≤n.Kind∧n.Kind≤12
    ·have w:¬ (n.ID=1↔n.Kind=0):=λe=>j ⟨u,e⟩
     rw[wW u]
     by_cases q:n.ID=1
     ·rw[wW q,wX (λe=>w ⟨λ_=>e,λ_=>q⟩)];rfl
     ·rw[wX q,wW (xD λe=>w ⟨λx=>absurd x q,λx=>absurd x e⟩)];rfl
    ·rw[wX u];rfl
   rw[O,T];exact⟨_,rfl,rfl⟩
 ·rw[wU (show((n.ID<1)||(1073741824<n.ID))=true by simp only[wh,wV];omega),wX c1];exact⟨_,rfl,rfl⟩
theorem tg(s:List Int) v(u:s.length≤1048576):NR s v=some ((List.range s.length).find? λj=>decide (v=s[j]!)).isSome:=by
 unfold NR TM
 rw[CA (n:=s.length) (λj=>if decide (v=s[j]!) then some (j:Int) else none) (λj l=>by
  unfold Qi
  rw[wU (by simpa using l),AO l,AE,AX (by omega)]
  cases decide (v=s[j]!)<;>rfl) (by unfold Qi;rw[ne (by simp)]),TL,EK]
 cases (List.range s.length).find? λj=>decide (v=s[j]!) with
 | none=>rfl
 | some j=>
  show(AB (some (j:Int)) λ(q:Int)=>some (decide (0≤q)))=_
  rw[AE,wW (zL j)];rfl
theorem LJ(s:List Int) v(q:s.length≤1048576):NR s v=some (decide (v∈s)):=by
 rw[tg s v q]
 congr 1
 rw[xf,wV,List.find?_isSome]
 constructor
 ·rintro⟨j,u,w⟩
  have l:=xP.1 u
  rw[yT w];exact BA l
 ·intro h
  obtain⟨j,l,e⟩:=List.getElem_of_mem h
  exact⟨j,xP.2 l,wW (by rw[wg s j l,e])⟩
def Q4(p k:Int):Bool:=
 if p=0 then decide (k∈[1,6,7,10,11,12]) else if p=1 then decide (k∈[2,4,5,10]) else if p=3 then decide (k∈[4,5,10]) else if p=4∨p=12 then decide (k=5) else if p=2 then decide (k=3) else if p=7 then decide (k=8∨k=9) else false
theorem qv p k:PT p k=some (Q4 p k):=by
 unfold PT Q4
 by_cases l:p=0
 ·rw[wU (wW l),wU l,AE,LJ _ _ (by decide)];rfl
 ·rw[ne (show ¬ decide (p=0)=true by simpa using l),ne l]
  by_cases q:p=1
  ·rw[wU (wW q),wU q,AE,LJ _ _ (by decide)];rfl
  ·rw[ne (show ¬ decide (p=1)=true by simpa using q),ne q]
   by_cases u:p=3
   ·rw[wU (wW u),wU u,AE,LJ _ _ (by decide)];rfl
   ·rw[ne (show ¬ decide (p=3)=true by simpa using u),ne u]
    have B:(if decide (p=4)=true then some (decide (p=4)) else some (decide (p=12)))=some (decide (p=4∨p=12)):=by
     by_cases j:p=4
     ·rw[wU (wW j),wW j,wW (Or.inl j:p=4∨p=12)]
     ·rw[ne (show ¬ decide (p=4)=true by simpa using j)]
      congr 1
      rw[xf,wV,wV]
      exact⟨.inr,λh=>h.elim (λh=>absurd h j) id⟩
    rw[B,AE]
    by_cases j:p=4∨p=12
    ·rw[wU (wW j),wU j,AE,LJ _ _ (by decide),AE]
     congr 1;rw[xf];simp
    ·rw[ne (show ¬ decide (p=4∨p=12)=true by simpa using j),ne j]
     by_cases w:p=2
     ·rw[wU (wW w),wU w,AE,LJ _ _ (by decide),AE]
      congr 1;rw[xf];simp
     ·rw[ne (show ¬ decide (p=2)=true by simpa using w),ne w]
      by_cases A:p=7
      ·rw[wU (wW A),wU A,AE,LJ _ _ (by decide),AE]
       congr 1;rw[xf];simp
      ·rw[ne (show ¬ decide (p=7)=true by simpa using A),ne A,AE,LJ _ _ (by decide),AE];simp
theorem th p k:OA p k=some (Q4 p k) := by
  have Z:k=1∨k=2∨k=3∨k=4∨k=5∨k=6∨k=7∨k=8∨k=9∨k=10∨k=11∨k=12∨(k≠1∧k≠2∧k≠3∧k≠4∧k≠5∧k≠6∧k≠7∧k≠8∧k≠9∧k≠10∧k≠11∧k≠12) := by omega
  have hp:p=0∨p=1∨p=2∨p=3∨p=4∨p=7∨p=12∨(p≠0∧p≠1∧p≠2∧p≠3∧p≠4∧p≠7∧p≠12) := by omega
  unfold OA Q4 KP
  rcases Z with rfl | rfl | rfl | rfl | rfl | rfl | rfl | rfl | rfl | rfl | rfl | rfl | ⟨I, J, M, O, T, U, V, X, Y, l, q, u⟩
  all_goals first
    | (rcases hp with rfl | rfl | rfl | rfl | rfl | rfl | rfl | ⟨w, A, B, C, E, F, j⟩
       all_goals first | rfl | (simp[w, A, B, C, E, F, j];done))
    | (rcases hp with rfl | rfl | rfl | rfl | rfl | rfl | rfl | ⟨w, A, B, C, E, F, j⟩
       all_goals first
         | (simp[I, J, M, O, T, U, V, X, Y, l, q, u];done)
         | (simp[I, J, M, O, T, U, V, X, Y, l, q, u, w, A, B, C, E, F, j];done))
theorem tB{n:Nat}(h:n<9223372036854775808):IntKind.u64.wrap (n:Int)=(n:Int):=by
 have e:(n:Int) % (2 ^ (64:Nat):Int)=(n:Int):=WAF (by omega) (by omega)
 show(if(false&&((n:Int) % (2 ^ (64:Nat):Int) ≥ (2 ^ (63:Nat):Int)))=true then(n:Int) % (2 ^ (64:Nat):Int)-(2 ^ (64:Nat):Int) else(n:Int) % (2 ^ (64:Nat):Int))=_
 rw[e,ne (by simp)]
theorem m9(m:Nat)(h:m<4294967296):IntKind.i64.wrap (FB .u64 (IntKind.u64.wrap (m:Int)) 1)=((m / 2:Nat):Int):=by
 rw[tB (by omega)]
 show IntKind.i64.wrap ((m:Int).fdiv (2 ^ (min 1 64)))=_
 rw[show((2:Int) ^ (min 1 64))=2 from rfl,Int.fdiv_eq_ediv_of_nonneg _ (by omega),show(m:Int) / 2=((m / 2:Nat):Int) by omega,hZ (by omega)]
def Qp(l:List Ae):Prop:=∀a b:Nat,a<b→b<l.length→l[a]!.ID<l[b]!.ID
theorem jG(n:Ae) id:My n id=some (if n.ID<id then -1 else if id<n.ID then 1 else 0):=by
 unfold My
 by_cases j:n.ID<id
 ·rw[wU (wW j),wU j]
 ·rw[ne (show ¬ decide (n.ID<id)=true by simpa using j),ne j]
  by_cases l:id<n.ID
  ·rw[wU (wW l),wU l]
  ·rw[ne (show ¬ decide (id<n.ID)=true by simpa using l),ne l]
theorem aQ(d:Bj) id(U:d.Nodes.length≤1048576)(E:Qp d.Nodes):∃i:Nat,M0 d id=some ((i:Int),(Fb d.Nodes id).isSome)∧(∀k,Fb d.Nodes id=some k→i=k):=by
 obtain⟨l⟩:=d
 dsimp only at U E ⊢
 have key:∃r,iter (λ(a:Int × Int)=>MI l id a.1 a.2) (0,(l.length:Int))=some r ∧
   ∃I:Nat,r=(I:Int)∧I≤l.length∧(∀m,m<I→l[m]!.ID<id)∧∀m,I≤m→m<l.length→¬ l[m]!.ID<id:=by
  refine EG l.length (λk O=>∃I J:Nat,O=((I:Int),(J:Int))∧I≤J∧J≤l.length∧J-I≤l.length-k∧(∀m,m<I→l[m]!.ID<id)∧∀m,J≤m→m<l.length→¬ l[m]!.ID<id) _ ?_ ?_ ⟨0,l.length,rfl,by omega,by omega,by omega,λm h=>absurd h (zt _),λm T F=>absurd F (by omega)⟩
  ·rintro k O hk ⟨I,J,rfl,T,F,V,B,u⟩
   dsimp only
   unfold MI
   by_cases X:I<J
   ·left
    rw[wU (by rw[wV];omega),show(I:Int)+(J:Int)=((I+J:Nat):Int) by omega,Bk (by omega) (by omega),AE,m9 _ (by omega),AO (by omega),AE,jG,AE]
    by_cases M:l[(I+J) / 2]!.ID<id
    ·rw[wU M,wU (by decide),AX (by omega)]
     refine⟨_,rfl,(I+J) / 2+1,J,rfl,by omega,F,by omega,λm Y=>?_,u⟩
     by_cases e:m=(I+J) / 2
     ·rw[e];exact M
     ·have:=E m ((I+J) / 2) (by omega) (by omega);omega
    ·rw[ne M,ne (show ¬ decide ((if id<l[(I+J) / 2]!.ID then(1:Int) else 0)<0)=true by split<;>decide)]
     refine⟨_,rfl,I,(I+J) / 2,rfl,by omega,by omega,by omega,B,λm C j=>?_⟩
     by_cases e:m=(I+J) / 2
     ·rw[e];exact M
     ·have:=E ((I+J) / 2) m (by omega) j;omega
   ·right
    rw[ne (by rw[wV];omega)]
    exact⟨_,rfl,I,rfl,by omega,B,λm C j=>u m (by omega) j⟩
  ·rintro O ⟨I,J,rfl,T,F,V,B,u⟩
   dsimp only
   unfold MI
   rw[ne (by rw[wV];omega)]
   exact⟨_,rfl,I,rfl,by omega,B,λm C j=>u m (by omega) j⟩
 obtain⟨r,Z,I,rfl,hI,B,u⟩:=key
 unfold M0 Rs
 rw[Z,AE]
 have w:∀k,Fb l id=some k→I=k:=by
  intro k q
  obtain⟨C,j⟩:=PS q
  have a1:¬ k<I:=λh=>by have:=B k h;omega
  by_cases e:I=k
  ·exact e
  ·have:=E I k (by omega) C
   have:=u I (wn _) (by omega)
   omega
 refine⟨I,?_,w⟩
 by_cases A:I<l.length
 ·rw[wW (show(I:Int)<(l.length:Int) by omega),show((true==true):Bool)=true from rfl,Am,AO A,AE,Am,jG,AE,BU]
  congr 2
  have h6:=u I (wn _) A
  rw[ne h6]
  cases q:Fb l id with
  | some k=>
   obtain⟨C,j⟩:=PS q
   have:=w k q
   subst this
   rw[ne (by omega)];rfl
  | none=>
   have a0:l[I]!.ID≠id:=by
    intro e
    have:=List.find?_eq_none.1 q I (xP.2 A)
    exact this (wW e)
   rw[wU (by omega)];rfl
 ·rw[wX (show ¬ (I:Int)<(l.length:Int) by omega)]
  show some ((I:Int),false)=_
  cases q:Fb l id with
  | some k=>
   obtain⟨C,j⟩:=PS q
   have:=w k q
   omega
  | none=>rfl
def Ld(d:Bj):Prop:=d.Nodes.length≤1048576∧∀n∈d.Nodes,KC n
theorem vV:Hm=JR:=by funext f x o;rfl
theorem kh(n:Ae):TC n=JR n.Flow:=by funext x o;rfl
theorem oy:SV=HW:=by funext n x o;rfl
theorem mL(n:Ae)(w:List Int)(A:n.Grid.Cells.length≤1048576)(u:w.length≤1048576):∃r,iter (λ(a:Int × (List Int))=>HW n a.1 a.2) (0,w)=some r∧r.length≤2097152:=by
 refine EG n.Grid.Cells.length (λk l=>l.1=(k:Int)∧l.2.length≤1048576+k) _ ?_ ?_ ⟨rfl,by simpa using u⟩
 ·rintro k ⟨x,out⟩ q ⟨rfl,j⟩
  dsimp only at j ⊢
  left
  unfold HW
  rw[wU (by simpa using q),AO q,AE]
  by_cases r:n.Grid.Cells[k]!.Ref=0
  ·rw[ne (Bx r),AE,AX (by omega),AE]
   exact⟨_,rfl,rfl,by dsimp only;omega⟩
  ·rw[wU (BK r),UN (by omega),AE,AE,AX (by omega),AE]
   exact⟨_,rfl,rfl,by dsimp only;rw[List.length_append,List.length_singleton];omega⟩
 ·rintro⟨x,out⟩ ⟨rfl,j⟩
  dsimp only at j ⊢
  unfold HW
  rw[ne (by simp)]
  exact⟨_,rfl,by omega⟩
theorem tu(n:Ae)(h:KC n):∃r,LC n=some r∧Og n=some r∧r.length≤2097152:=by
 have u:=h.ok.fl
 obtain⟨w,j,A⟩:=mC n.Flow (by omega)
 obtain⟨r,l,q⟩:=mL n w h.ok.gr.1 (by omega)
 refine⟨r,?_,?_,q⟩
 ·unfold LC Q9
  rw[vV,j,AE,AE,l];rfl
 ·unfold Og
  rw[kh,oy,j,AE,l];rfl
theorem uf(d:Bj) kind(l:List Int)(w:d.Nodes.length≤1048576)(B:Qp d.Nodes)(J:l.length≤2097152):∃e,Pg d kind l=some e∧PJ d kind l=some e:=by
 obtain⟨o,C,E,_⟩:=Vm (ρ:=Int) (f:=λ(a:Int)=>L3 d kind l a) (g:=λ(a:Int)=>MN d kind l a) (n:=l.length) (λ_=>True) trivial (λk q _=>by
  unfold L3 MN
  obtain⟨i,F,u⟩:=aQ d l[k]! w B
  rw[wU (by simpa using q),wU (by simpa using q),AO q,AE,AE,F,BU,VJ _ _ w,AE]
  cases A:Fb d.Nodes l[k]! with
  | none=>exact⟨some 7,rfl,rfl,λe=>by cases e⟩
  | some j=>
   obtain⟨I,M⟩:=PS A
   have:=u j A
   subst this
   dsimp only
   rw[ne (show ¬ ((!Option.isSome (some i))=true) by simp),AO I,AE,qv,AE,ne (show ¬ decide ((i:Int)<0)=true by simp),AE,th,AE]
   cases Q4 kind d.Nodes[i]!.Kind with
   | false=>exact⟨some 8,rfl,rfl,λe=>by cases e⟩
   | true=>
    rw[AX (by omega)]
    exact⟨none,rfl,rfl,λ_=>trivial⟩) (by unfold L3;rw[ne (by simp)]) (by unfold MN;rw[ne (by simp)])
 refine⟨o.getD 0,?_,?_⟩
 ·unfold Pg;rw[C,Ey]
 ·unfold PJ;rw[E,Ey]
theorem gB{l:List Ae}(h:∀k,0<k→k<l.length→l[k-1]!.ID<l[k]!.ID):Qp l:=by
 intro a b q u
 induction b with
 | zero=>omega
 | succ b w=>
  have j:=h (b+1) (by omega) u
  rw[Nat.add_sub_cancel] at j
  by_cases e:a=b
  ·rw[e];exact j
  ·have:=w (by omega) (by omega);omega
theorem u9(d:Bj)(h:Ld d):∃e,I9 d=some e∧P0 d=some e:=by
 obtain⟨F,C⟩:=h
 unfold I9 P0
 by_cases h0:d.Nodes.length=0
 ·rw[wU (by rw[wV];omega),wU (by rw[wV];omega)];exact⟨_,rfl,rfl⟩
 ·rw[ne (by rw[wV];omega),ne (by rw[wV];omega)]
  obtain⟨o,I,J,M⟩:=Vm (ρ:=Int) (f:=λ(a:Int)=>IR d a) (g:=λ(a:Int)=>M2 d a) (n:=d.Nodes.length) (λk=>∀j,0<j→j<k→d.Nodes[j-1]!.ID<d.Nodes[j]!.ID) (λj _ O=>absurd O (zt _)) (λk l T=>by
   unfold IR M2
   obtain⟨e,w,A⟩:=VR _ (C _ (BA l))
   rw[wU (by simpa using l),wU (by simpa using l),AO l,AE,AE,w,A,AE,AE]
   by_cases q:e=0
   ·rw[ne (Bx q),ne (Bx q)]
    by_cases U:k=0
    ·subst U
     rw[wW (show((0:Nat):Int)=0 from rfl),show((true==true):Bool)=true from rfl,Am,show(0:Int)=((0:Nat):Int) from rfl,AO l,AE,wX (show ¬ ((0:Nat):Int)<((0:Nat):Int) by omega)]
     by_cases CQ:d.Nodes[0]!.ID=1
     ·refine⟨none,?_,?_,λ_ j E V=>by omega⟩
      ·rw[wW CQ];rfl
      ·rw[wW CQ];rfl
     ·refine⟨some 5,?_,?_,λe=>by cases e⟩
      ·rw[wX CQ];rfl
      ·rw[wX CQ];rfl
    ·have X:0<k:=by omega
     rw[wX (show ¬ ((k:Int)=0) by omega),wW (show(0:Int)<(k:Int) by omega),show((false==true):Bool)=false from rfl,FL,AE]
     show ∃o:Option Int,(AB (gd true (AK .i64 ((k:Int)-1))) λ(B:Int)=>AB (gd true (AJ d.Nodes B)) λ(u:Ae)=>_)=_∧(AB (gd true (AK .i64 ((k:Int)-1))) λ(u:Int)=>AB (gd true (AJ d.Nodes u)) λ(Y:Ae)=>_)=_∧_
     rw[Am,Ec X (by omega),AE,AE,Am,AO (show k-1<d.Nodes.length by omega),AE,AE,AX (by omega)]
     by_cases CQ:d.Nodes[k]!.ID≤d.Nodes[k-1]!.ID
     ·rw[wW CQ]
      exact⟨some 5,rfl,rfl,λe=>by cases e⟩
     ·rw[wX CQ]
      refine⟨none,rfl,rfl,λ_ j E V=>?_⟩
      by_cases e:j=k
      ·rw[e];omega
      ·exact T j E (by omega)
   ·rw[wU (BK q),wU (BK q)]
    exact⟨some e,rfl,rfl,λe=>by cases e⟩) (by unfold IR;rw[ne (by simp)]) (by unfold M2;rw[ne (by simp)])
  rw[I,J]
  cases o with
  | some e=>exact⟨e,rfl,rfl⟩
  | none=>
   have Z:=gB (M rfl)
   show ∃e,(Aj (iter (λ(a:Int)=>KV d a) 0) λ(u4:Unit)=>some 0)=some e∧(Aj (iter (λ(a:Int)=>LI d a) 0) λ(u4:Unit)=>some 0)=some e
   obtain⟨o,w,A,_⟩:=Vm (ρ:=Int) (f:=λ(a:Int)=>KV d a) (g:=λ(a:Int)=>LI d a) (n:=d.Nodes.length) (λ_=>True) trivial (λk l _=>by
    unfold KV LI
    obtain⟨r,r1,r2,r3⟩:=tu _ (C _ (BA l))
    obtain⟨e,c1,c2⟩:=uf d d.Nodes[k]!.Kind r F Z r3
    rw[wU (by simpa using l),wU (by simpa using l),AO l,AE,AE,r1,r2,AE,AE,c1,c2,AE]
    by_cases q:e=0
    ·rw[ne (Bx q),AX (by omega)]
     exact⟨none,rfl,rfl,λ_=>trivial⟩
    ·rw[wU (BK q)]
     exact⟨some e,rfl,rfl,λ_=>trivial⟩) (by unfold KV;rw[ne (by simp)]) (by unfold LI;rw[ne (by simp)])
   exact⟨o.getD 0,by rw[w,Ey],by rw[A,Ey]⟩
theorem uG{μ:Ae→Nat}{γ:BI→Nat}{ψ:Aq→Nat}{ρ:An→Nat}{δ:BB→Nat}{ν:AC→Nat}{κ:AD→Nat}
  (q:∀n,(n.Attrs.map κ).sum+(n.Flow.map ν).sum+γ n.Grid+(n.Draw.map δ).sum+1≤μ n) (hg:∀g,(g.Cells.map ψ).sum+(g.Merges.map ρ).sum+1≤γ g)
  (hc:∀c,c.Text.length+(c.Attrs.map κ).sum+1≤ψ c) (A:∀r,1≤ρ r) (hd:∀o,o.Place.length+o.Name.length+o.Value.length+1≤δ o) (B:∀e,(e.Attrs.map κ).sum+1≤ν e) (C:∀a,a.Name.length+a.Value.length+1≤κ a)
  {d:Bj} (E:(d.Nodes.map μ).sum≤1048576):Ld d:=by
 have u:=uZ q hg (λc=>by have:=hc c;omega) A (λo=>by have:=hd o;omega) B C E
 refine⟨u.1,λn l=>⟨u.2 n l,λc j=>⟨(u.2 n l).gr.2.2 c j,?_⟩,λo w=>?_⟩⟩
 ·have F:=G9 (μ:=μ) l
  have I:=q n
  have M:=hg n.Grid
  have J:=G9 (μ:=ψ) j
  have:=hc c
  omega
 ·have F:=G9 (μ:=μ) l
  have I:=q n
  have J:=G9 (μ:=δ) w
  have:=hd o
  exact⟨by omega,by omega,by omega⟩
theorem Nk{α β:Type}{o:Option α}{f:α→Option β}{r:β}(h:AB o f=some r):∃a,o=some a∧f a=some r:=by
 cases o with
 | none=>cases h
 | some a=>exact⟨a,rfl,h⟩
theorem lR{n:Ae}(h:KC n)(j:E9 n=some 0)(A:G7 n.Kind=some true):Hg n.Flow=0:=by
 have l:∀x∈n.Flow,EA x:=λx q=>⟨by have:=(h.ok.fa x q).1;omega,(h.ok.fa x q).2⟩
 have B:=h.ok.fl
 unfold E9 at j
 split at j
 ·cases j
 split at j
 ·cases j
 obtain⟨e,_,j⟩:=Nk j
 split at j
 ·rename_i c;injection j with j;rw[j] at c;simp at c
 obtain⟨E,u,j⟩:=Nk j
 rw[A] at u
 cases u
 obtain⟨C,_,j⟩:=Nk j
 obtain⟨g,_,j⟩:=Nk j
 obtain⟨F,_,j⟩:=Nk j
 split at j
 ·cases j
 rw[wU (show(true||C)=true from rfl)] at j
 obtain⟨I,w,j⟩:=Nk j
 injection j with j
 rw[Ye _ l (by omega),j] at w
 injection w
theorem ge{d:Bj}(h:Ld d)(l:I9 d=some 0):Qp d.Nodes∧∀k,k<d.Nodes.length→E9 d.Nodes[k]! = some 0:=by
 obtain⟨U,I⟩:=h
 unfold I9 at l
 split at l
 ·cases l
 let g:Nat→Option Int:=λk=>if(E9 d.Nodes[k]!).getD 0≠0 then some ((E9 d.Nodes[k]!).getD 0) else if(k=0∧d.Nodes[k]!.ID≠1)∨(0<k∧d.Nodes[k]!.ID≤d.Nodes[k-1]!.ID) then some 5 else none
 have A:iter (λ(a:Int)=>IR d a) 0=some (FT ((List.range d.Nodes.length).findSome? g)):=by
  refine CA g (λk j=>?_) (by unfold IR;rw[ne (by simp)])
  unfold IR
  obtain⟨e,B,_⟩:=VR _ (I _ (BA j))
  show _=CG k (g k)
  simp only[g]
  rw[wU (by simpa using j),AO j,AE,B,AE]
  show _=CG k (if e≠0 then some e else _)
  by_cases u:e=0
  ·rw[ne (Bx u),ne (by simpa using u)]
   by_cases C:k=0
   ·subst C
    rw[wW (show((0:Nat):Int)=0 from rfl),wX (show ¬ (0:Int)<((0:Nat):Int) by omega)]
    by_cases CQ:d.Nodes[0]!.ID=1
    ·rw[wW CQ,ne (show ¬ ((0=0∧d.Nodes[0]!.ID≠1)∨(0<0∧d.Nodes[0]!.ID≤d.Nodes[0-1]!.ID)) by rintro(⟨_,b⟩ | ⟨a,_⟩);exact b CQ;omega)]
     rfl
    ·rw[wX CQ,wU (show((0=0∧d.Nodes[0]!.ID≠1)∨(0<0∧d.Nodes[0]!.ID≤d.Nodes[0-1]!.ID)) from .inl ⟨rfl,CQ⟩)]
     rfl
   ·have J:0<k:=by omega
    rw[wX (show ¬ ((k:Int)=0) by omega),wW (show(0:Int)<(k:Int) by omega)]
    show(AB (gd true (AK .i64 ((k:Int)-1))) λ(E:Int)=>AB (gd true (AJ d.Nodes E)) λ(M:Ae)=>_)=_
    rw[Am,Ec J (by omega),AE,Am,AO (show k-1<d.Nodes.length by omega),AE,AX (by omega)]
    by_cases CQ:d.Nodes[k]!.ID≤d.Nodes[k-1]!.ID
    ·rw[wW CQ,wU (show((k=0∧d.Nodes[k]!.ID≠1)∨(0<k∧d.Nodes[k]!.ID≤d.Nodes[k-1]!.ID)) from .inr ⟨J,CQ⟩)]
     rfl
    ·rw[wX CQ,ne (show ¬ ((k=0∧d.Nodes[k]!.ID≠1)∨(0<k∧d.Nodes[k]!.ID≤d.Nodes[k-1]!.ID)) by rintro(⟨a,_⟩ | ⟨_,b⟩);exact C a;exact CQ b)]
     rfl
  ·rw[wU (BK u),wU u]
   rfl
 rw[A] at l
 cases w:(List.range d.Nodes.length).findSome? g with
 | some e=>
  rw[w] at l
  have l:(some e:Option Int)=some 0:=l
  injection l with l
  obtain⟨k,_,j⟩:=xq w
  simp only[g] at j
  split at j
  ·rename_i F;injection j with j;exact absurd (j.trans l) F
  ·split at j
   ·injection j with j;omega
   ·cases j
 | none=>
  rw[xo] at w
  have j:∀k,k<d.Nodes.length→(E9 d.Nodes[k]!).getD 0=0∧¬ ((k=0∧d.Nodes[k]!.ID≠1)∨(0<k∧d.Nodes[k]!.ID≤d.Nodes[k-1]!.ID)):=by
   intro k j
   have:=w k (xP.2 j)
   simp only[g] at this
   split at this
   ·cases this
   ·rename_i O
    split at this
    ·cases this
    ·rename_i T;exact⟨by simpa using O,T⟩
  refine⟨gB λk C q=>?_,λk q=>?_⟩
  ·have:=(j k q).2
   have V:¬ (0<k∧d.Nodes[k]!.ID≤d.Nodes[k-1]!.ID):=λe=>this (.inr e)
   omega
  ·obtain⟨e,B,_⟩:=VR _ (I _ (BA q))
   have:=(j k q).1
   rw[B] at this ⊢
   exact yz some this
theorem tT{d:Bj} id(j:d.Nodes.length≤1048576)(l:Qp d.Nodes):PW d id=some (match Fb d.Nodes id with | some k=>(k:Int) | none=>-1):=by
 unfold PW
 obtain⟨i,q,u⟩:=aQ d id j l
 rw[q,BU]
 cases w:Fb d.Nodes id with
 | none=>rfl
 | some k=>rw[u k w];rfl
def Yi:B2:=B2.mk (Ae.mk 0 0 [] [] (BI.mk 0 0 [] []) []) [] []
theorem eZ(d:Bj)(s:A9)(j:List UInt8)(h:Ld d)(V:j.length≤1073741824) :
  (∃e,e≠0∧KY d s j=some (Yi,e)∧JG d s=some e) ∨
  (∃k,k<d.Nodes.length∧Fb d.Nodes s.Node=some k∧d.Nodes[k]!.ID=s.Node∧KC d.Nodes[k]!∧G7 d.Nodes[k]!.Kind=some true∧Hg d.Nodes[k]!.Flow=0∧0≤s.From∧s.From≤s.To∧s.To<((shown d.Nodes[k]!.Flow 0 d.Nodes[k]!.Flow.length).length:Int) ∧
   I9 d=some 0∧JG d s=some 0∧KY d s j=some (if j≠[]∧DR j=false then(Yi,23) else(B2.mk d.Nodes[k]! (shown d.Nodes[k]!.Flow 0 d.Nodes[k]!.Flow.length) j,0))):=by
 obtain⟨e,J,O⟩:=u9 d h
 have M:=h.1
 unfold KY JG
 rw[J,O,AE,AE]
 by_cases E:e=0
 ·subst E
  obtain⟨T,w⟩:=ge h J
  rw[ne (by decide),ne (by decide),tT s.Node M T,VJ d s.Node M,AE,AE]
  cases U:Fb d.Nodes s.Node with
  | none=>exact .inl ⟨7,by decide,rfl,rfl⟩
  | some k=>
   obtain⟨F,CQ⟩:=PS U
   dsimp only
   have A:=h.2 _ (BA F)
   have B:∀x∈d.Nodes[k]!.Flow,EA x:=λx u=>⟨by have:=(A.ok.fa x u).1;omega,(A.ok.fa x u).2⟩
   have C:=A.ok.fl
   rw[ne (by simp),ne (by simp),AO F,AE,AE,Yb]
   obtain⟨t,I⟩:∃t,G7 d.Nodes[k]!.Kind=some t:=⟨_,rfl⟩
   rw[I,AE,AE]
   cases t with
   | false=>exact .inl ⟨8,by decide,rfl,rfl⟩
   | true=>
    have l:=lR A (w k F) I
    have hp:Ep d.Nodes[k]!.Flow=0:=by
     unfold Hg at l
     split at l
     ·rename_i u;exact absurd l u
     ·rename_i u;simpa using u
    rw[ne (by decide),ne (by decide),pB _ 0 B C,fG _ 0 B hp C,AE,AE]
    by_cases X:s.From<0∨s.To<s.From∨((shown d.Nodes[k]!.Flow 0 d.Nodes[k]!.Flow.length).length:Int)≤s.To
    ·refine .inl ⟨2,by decide,?_,?_⟩
     ·rw[wU (by simp only[wh,wV];omega)];rfl
     ·rw[wU (by simp only[wh,wV];omega)]
    ·refine .inr ⟨k,F,rfl,CQ,A,I,l,by omega,by omega,by omega,rfl,?_,?_⟩
     ·rw[ne (by simp only[wh,wV];omega)]
     ·rw[ne (by simp only[wh,wV];omega)]
      by_cases q:j=[]
      ·subst q
       rw[ne (show ¬ (([]:List UInt8)≠[]∧DR []=false) by simp)]
       rfl
      ·rw[wX q]
       show(AB (gd true (Iq j)) λ(Y:Bool)=>_)=_
       rw[Am,VP _ (by omega),AE]
       cases Z:DR j with
       | false=>rw[wU (show j≠[]∧false=false from⟨q,rfl⟩)];rfl
       | true=>rw[ne (show ¬ (j≠[]∧true=false) by simp)];rfl
 ·rw[wU (BK E),wU (BK E)]
  exact .inl ⟨e,E,rfl,rfl⟩
def Dm(s:AH):Int:=if(s.Kind=1∧s.Elems=[]∧Cb s=11)∨(s.Kind≠1∧s.N=0∧Cb s=2) then Ah s.Attrs true else Cb s
def Wt(s:AH):Prop:=(s.Kind=0∧s.Elems=[]∧0≤s.N∧s.N≤2147483647∧Ah s.Attrs true=0)∨(s.Kind=2∧s.Elems=[]∧s.Attrs=[]∧0≤s.N∧s.N≤2147483647) ∨
  (s.Kind=1∧s.N=0∧s.Attrs=[]∧Ep s.Elems=0)
theorem ez{s:AH}(h:Dm s=0):Wt s:=by
 unfold Dm at h
 split at h
 ·rename_i C
  rcases C with ⟨q,A,j⟩ | ⟨q,A,j⟩
  ·unfold Cb at j
   rw[wU q] at j
   by_cases l:s.N≠0∨s.Attrs≠[]
   ·rw[wU l] at j;cases j
   ·refine .inr (.inr ⟨q,xD λh=>l (.inl h),xD λh=>l (.inr h),by rw[A];rfl⟩)
  ·unfold Cb at j
   rw[ne q] at j
   by_cases u:s.Kind=0∨s.Kind=2
   ·rw[wU u] at j
    by_cases l:s.Elems≠[]∨(s.Kind=2∧s.Attrs≠[])
    ·rw[wU l] at j;cases j
    ·have B:s.Elems=[]:=xD λh=>l (.inl h)
     rcases u with k | k
     ·exact .inl ⟨k,B,by omega,by omega,h⟩
     ·exact .inr (.inl ⟨k,B,xD λh=>l (.inr ⟨k,h⟩),by omega,by omega⟩)
   ·rw[ne u] at j;cases j
 ·rcases (Qn h).kind with ⟨k,e,E,w,a⟩ | ⟨k,e,a,E,w⟩ | ⟨k,n,a,_,p⟩
  ·exact .inl ⟨k,e,by omega,w,a⟩
  ·exact .inr (.inl ⟨k,e,a,by omega,w⟩)
  ·exact .inr (.inr ⟨k,n,a,p⟩)
theorem YY{s:AH}(h:Wt s)(q:GA s):∀u∈BC s,DA u:=by
 intro u l
 unfold BC at l
 rcases h with ⟨k,e,E,F,w⟩ | ⟨k,e,w,E,F⟩ | ⟨k,n,_,p⟩
 ·rw[ne (by omega),wX (by omega)] at l
  have:=yD l
  subst this
  exact⟨λ_=>w,q.at_⟩
 ·rw[ne (by omega),wW k] at l
  have:=yD l
  subst this
  exact⟨λh=>(by cases h),q.at_⟩
 ·rw[wU k] at l
  obtain⟨e,A,rfl⟩:=yC.1 l
  obtain⟨j,B,rfl⟩:=xp.1 A
  have C:=QR p B
  rw[wg s.Elems j B] at C
  exact⟨C,q.ea _ A⟩
theorem bY{s:AH}(h:Wt s):(Ao (BC s):Int)=s.N∧BF (BC s)=s.Elems.length∧0≤s.N∧s.N≤2147483647:=by
 have A:∀l:List AC,Ao (l.map Un.a)=0∧BF (l.map Un.a)=l.length:=by
  intro l
  induction l with
  | nil=>exact⟨rfl,rfl⟩
  | cons x l j=>unfold Ao BF at j ⊢;rw[ww,xz,xz,j.1,j.2];exact⟨rfl,rfl⟩
 have q:∀(n:Nat) (c:Bool) (t:List AD),Ao (List.replicate n (Un.r c t))=n∧BF (List.replicate n (Un.r c t))=0:=by
  intro n c t
  induction n with
  | zero=>exact⟨rfl,rfl⟩
  | succ n j=>unfold Ao BF at j ⊢;rw[xG,xz,xz,j.1,j.2];exact⟨rfl,rfl⟩
 unfold BC
 rcases h with ⟨k,e,u,w,B⟩ | ⟨k,e,B,u,w⟩ | ⟨k,n,_,p⟩
 ·rw[ne (by omega),(q _ _ _).1,(q _ _ _).2,e];refine⟨by omega,rfl,u,w⟩
 ·rw[ne (by omega),(q _ _ _).1,(q _ _ _).2,e];refine⟨by omega,rfl,u,w⟩
 ·rw[wU k,(A _).1,(A _).2,n];exact⟨rfl,rfl,by decide,by decide⟩
def Jv:List AH→List Un→List AH × Int
 | [],X=>if CH (BD X)≠0 then([],3) else(BD X,0)
 | s::d,X=>if Dm s≠0 then([],Dm s) else if s.Kind=2∧2147483647<((Ap X).cuts:Int)+s.N then([],3) else Jv d (X++BC s)
def KG:List AH→List Un→Ai Ac (List AH × Int)
 | [],X=>.nrm (CR (Ap X))
 | s::d,X=>if Dm s≠0 then .ext ([],Dm s) else if s.Kind=2∧2147483647<((Ap X).cuts:Int)+s.N then .ext ([],3) else KG d (X++BC s)
theorem ff(s:AH) d X:KG (s::d) X=if Dm s≠0 then .ext ([],Dm s) else if s.Kind=2∧2147483647<((Ap X).cuts:Int)+s.N then .ext ([],3) else KG d (X++BC s):=rfl
theorem SM(s:AH) d X:Jv (s::d) X=if Dm s≠0 then([],Dm s) else if s.Kind=2∧2147483647<((Ap X).cuts:Int)+s.N then([],3) else Jv d (X++BC s):=rfl
structure IT(d:List AH)(k:Nat)(X:List Un):Prop where
 ok:∀u∈X,DA u
 out:(Ap X).out.length≤3 * k
 cut:(Ap X).cuts≤2147483647
 rows:Ao X≤2147483647 * k
 adds:BF X+((d.drop k).map λs=>s.Elems.length).sum=(d.map λs=>s.Elems.length).sum
theorem SA(s:DS):(BE s).length≤s.out.length+2:=by
 unfold BE
 split<;>split<;>simp
theorem Wp(l:List AH) t n:(Cu l t n).length≤l.length+1:=by
 unfold Cu
 split<;>simp
theorem gn a b:BF (a++b)=BF a+BF b:=List.countP_append
theorem uD{X}(h:∀u∈X,DA u):(Ap X).adds.length≤BF X:=(Jl h).al
theorem ZU(s:AH)(e:Int):((((s.Kind=1)&&((s.Elems.length:Int)=0))&&(e=11))||(((!(s.Kind=1))&&(s.N=0))&&(e=2)))=true ↔
  ((s.Kind=1∧s.Elems=[]∧e=11)∨(s.Kind≠1∧s.N=0∧e=2)):=by
 rw[Xm]
 simp only[wh,wY,xm,wV,yF,ne_eq,and_assoc]
theorem lw(d:List AH)(ho:El d)(U:GW d):iter (λ(a:Int × Ac)=>FA d a.1 a.2) (0,(Ac.mk [] [] 0))=some (KG d []):=by
 have hm:=U.len
 have a0:=U.sum
 refine rx d (λX k=>((k:Int),CR (Ap X))) KG (IT d) ?_ ?_ [] ⟨by simp,by simp[Ap,D0],by simp[Ap,D0],by simp[Ao],by simp[BF]⟩ _ rfl
 ·rintro k X B A
  have j:=ho.st _ (BA B)
  have I:=A.ok
  have h2:=A.out
  have h3:=A.cut
  have h4:=A.rows
  have V:=A.adds
  have h6:=uD I
  have h7:=U.at_ _ (BA B)
  rw[Gg B,ww,xu] at V
  show(∃w,FA d (k:Int) _=_∧_)∨FA d (k:Int) _=_
  unfold FA
  rw[wU (by simpa using B),AO B,AE,WL _ j,AE]
  rw[ff]
  generalize d[k]! = s at j V h7
  have C:(if((((s.Kind=1)&&((s.Elems.length:Int)=0))&&(Cb s=11))||(((!(s.Kind=1))&&(s.N=0))&&(Cb s=2))) then(AB (Jx s.Attrs) λ(e3:Int)=>some e3) else(some (Cb s)))=some (Dm s):=by
   unfold Dm
   by_cases J:((s.Kind=1∧s.Elems=[]∧Cb s=11)∨(s.Kind≠1∧s.N=0∧Cb s=2))
   ·rw[wU ((ZU s _).2 J),wU J,bO _ j.at_.2 (by have:=j.at_.1;omega),AE]
   ·rw[ne (λh=>J ((ZU s _).1 h)),ne J]
  rw[C,AE]
  by_cases E:Dm s=0
  ·have Y:=ez E
   have hU:=YY Y j
   obtain⟨c1,c2,M,c4⟩:=bY Y
   rw[ne (Bx E),ne (show ¬ (Dm s≠0) by simpa using E)]
   have l:∀w,w=X++BC s→(Ap w).out.length≤(Ap X).out.length+3→(Ap w).cuts≤2147483647→IT d (k+1) w:=by
    rintro w rfl h8 h9
    refine⟨λu Z=>?_,by omega,h9,?_,?_⟩
    ·rcases xZ.1 Z with h | h
     ·exact I u h
     ·exact hU u h
    ·rw[GM];omega
    ·rw[gn,c2,← V];omega
   have hX:∀u∈X++BC s,DA u:=λu Z=>by
    rcases xZ.1 Z with h | h
    ·exact I u h
    ·exact hU u h
   have q:BC s=if s.Kind=1 then s.Elems.map Un.a else List.replicate s.N.toNat (.r (decide (s.Kind=2)) s.Attrs):=rfl
   by_cases O:s.Kind=0
   ·rw[wU (by rw[wV];exact O),ne (show ¬ (s.Kind=2∧2147483647<((Ap X).cuts:Int)+s.N) by rintro⟨h,_⟩;omega)]
    rw[ne (by omega),wX (by omega)] at q
    rw[fI (Jl I) (by omega) (by omega) s.N s.Attrs M (by omega) (by omega),AE,Hr,AX (by omega),AE,KX _ _ _ M,← q]
    refine .inl ⟨_,rfl,l _ rfl ?_ ?_,rfl⟩
    ·rw[q,← KX _ _ _ M];unfold D5
     have:=SA (Ap X)
     have:=Wp (BE (Ap X)) s.Attrs s.N
     split
     ·omega
     ·dsimp only;omega
    ·rw[q,← KX _ _ _ M];unfold D5
     split
     ·exact h3
     ·simp
   ·by_cases F:s.Kind=1
    ·rw[ne (by rw[wV];exact O),wU (by rw[wV];exact F),ne (show ¬ (s.Kind=2∧2147483647<((Ap X).cuts:Int)+s.N) by rintro⟨h,_⟩;omega)]
     rw[wU F] at q
     rw[dE _ _ (by have:=j.el;omega) j.ea (by omega),AE,Hr,AX (by omega),AE,Ls,← q]
     refine .inl ⟨_,rfl,l _ rfl ?_ ?_,rfl⟩
     ·rw[q,← Ls];dsimp only;omega
     ·rw[q,← Ls];exact h3
    ·have k2:s.Kind=2:=by
      rcases Y with h | h | h
      ·exact absurd h.1 O
      ·exact h.1
      ·exact absurd h.1 F
     rw[ne (by rw[wV];exact O),ne (by rw[wV];exact F)]
     rw[ne F,wW k2] at q
     show(∃w,Aj (AB (AK .i64 (((Ap X).cuts:Int)+s.N)) _) _=_∧_)∨Aj (AB (AK .i64 (((Ap X).cuts:Int)+s.N)) _) _=_
     rw[Bk (by omega) (by omega),AE]
     by_cases T:2147483647<((Ap X).cuts:Int)+s.N
     ·rw[wU (by rw[wV];exact T),wU ⟨k2,T⟩];exact .inr rfl
     ·rw[ne (by rw[wV];exact T),ne (λh=>T h.2),Hr,AX (by omega),AE]
      have e:=Th X s.N.toNat s.Attrs
      rw[← q] at e
      refine .inl ⟨_,?_,l _ rfl ?_ ?_,rfl⟩
      ·rw[← e]
       unfold CR
       dsimp only
       rw[show(((Ap X).cuts+s.N.toNat:Nat):Int)=((Ap X).cuts:Int)+s.N by omega]
      ·rw[← e];dsimp only;omega
      ·rw[← e];dsimp only;omega
  ·rw[wU (BK E),wU E];exact .inr rfl
 ·rintro X A
  show FA d (d.length:Int) _=_
  unfold FA
  rw[ne (by simp)];rfl
theorem rc(d:List AH)(Z:El d)(O:GW d):∀(e:List AH) (k:Nat) (X:List Un),k+e.length=d.length→d.drop k=e→IT d k X →
  (Aj (some (KG e X)) λ(w4:Ac)=>Fc (IK w4) λ(r1:List AH) (r2:Int) (_:Ac)=>some (r1,r2))=some (Jv e X):=by
 have hm:=O.len
 have T:=O.sum
 intro e
 induction e with
 | nil=>
  intro k X E _ j
  have h2:=j.out
  have F:=j.adds
  simp only[yi] at E
  unfold KG Jv
  rw[Hr,PA j.ok (by omega) (by omega)]
  split<;>rfl
 | cons s e ih=>
  intro k X E hd j
  simp only[wm] at E
  have l:k<d.length:=by omega
  rw[Gg l] at hd
  injection hd with w I
  rw[ff,SM]
  by_cases A:Dm s=0
  ·rw[ne (show ¬ (Dm s≠0) by simpa using A),ne (show ¬ (Dm s≠0) by simpa using A)]
   by_cases B:s.Kind=2∧2147483647<((Ap X).cuts:Int)+s.N
   ·rw[wU B,wU B];rfl
   ·rw[ne B,ne B]
    refine ih (k+1) _ (by omega) I ?_
    have C:=Z.st _ (BA l)
    rw[w] at C
    have U:=ez A
    have hU:=YY U C
    obtain⟨c1,c2,c3,c4⟩:=bY U
    have h1:=j.ok
    have h2:=j.out
    have V:=j.cut
    have h4:=j.rows
    have F:=j.adds
    rw[Gg l,ww,xu,w] at F
    have q:BC s=if s.Kind=1 then s.Elems.map Un.a else List.replicate s.N.toNat (.r (decide (s.Kind=2)) s.Attrs):=rfl
    have J:(Ap (X++BC s)).out.length≤(Ap X).out.length+3∧(Ap (X++BC s)).cuts≤2147483647:=by
     by_cases Y:s.Kind=1
     ·rw[wU Y] at q
      rw[q,← Ls];exact⟨by dsimp only;omega,V⟩
     ·rw[ne Y] at q
      by_cases M:s.Kind=2
      ·rw[wW M] at q
       rw[q,← Th]
       have:¬ 2147483647<((Ap X).cuts:Int)+s.N:=λh=>B ⟨M,h⟩
       refine⟨by dsimp only;omega,by dsimp only;omega⟩
      ·rw[wX M] at q
       rw[q,← KX _ _ _ c3];unfold D5
       have:=SA (Ap X)
       have:=Wp (BE (Ap X)) s.Attrs s.N
       split
       ·exact⟨by omega,V⟩
       ·exact⟨by dsimp only;omega,by simp⟩
    refine⟨λu hu=>?_,by omega,J.2,?_,?_⟩
    ·rcases xZ.1 hu with h | h
     ·exact h1 u h
     ·exact hU u h
    ·rw[GM];omega
    ·rw[gn,c2,← F];omega
  ·rw[wU A,wU A];rfl
theorem qS d:IT d 0 []:=⟨by simp,by simp[Ap,D0],by simp[Ap,D0],by simp[Ao],by simp[BF]⟩
theorem kb(d:List AH)(j:El d)(l:GW d):IU d=some (Jv d []):=by
 unfold IU
 rw[lw d j l]
 exact rc d j l d 0 [] (by simp) rfl (qS d)
theorem ny(us:List Un):BF us+Ao us=us.length:=by
 induction us with
 | nil=>rfl
 | cons u us q=>
  have j:BF (u::us)=(if u.isR then 0 else 1)+BF us:=by unfold BF;rw[xz];cases u.isR<;>simp<;>omega
  have l:Ao (u::us)=(if u.isR then 1 else 0)+Ao us:=by unfold Ao;rw[xz];omega
  rw[j,l,wm]
  cases u.isR<;>simp<;>omega
theorem Mw a b:Af (a++b)=Af a++Af b:=by simp[Af]
theorem eS(n:Int) t:BC ⟨0,n,t,[]⟩=List.replicate n.toNat (.r false t):=rfl
theorem nP(n:Int):BC ⟨2,n,[],[]⟩=List.replicate n.toNat (.r true []):=rfl
theorem XE{l:List AH} t(u:∀x∈l,0≤x.N):Af (Gx l t)=Af l++[.r false t]∧∀x∈Gx l t,0≤x.N:=by
 have j:Af (l++[⟨0,1,t,[]⟩])=Af l++[.r false t]∧∀x∈l++[(⟨0,1,t,[]⟩:AH)],0≤x.N:=by
  refine⟨by rw[Mw];rfl,λx w=>?_⟩
  rcases xZ.1 w with h | h
  ·exact u x h
  ·have:x=⟨0,1,t,[]⟩:=by simpa using h
   subst this;show(0:Int)≤1;decide
 unfold Gx
 split
 ·rename_i h
  obtain⟨B,q,A⟩:=h
  obtain⟨p,s,rfl⟩:∃p s,l=p++[s]:=⟨l.take (l.length-1),l[l.length-1]!,by
   rw[← Hq (by omega),show l.length-1+1=l.length by omega,yP]⟩
  have e:(p++[s]).length-1=p.length:=by simp
  rw[e,OQ] at q A ⊢
  rw[zR _ _ (by omega),zu,zN]
  have C:=u s (by simp)
  refine⟨?_,λx w=>?_⟩
  ·rw[Mw,Mw,wl]
   congr 1
   show BC _++[]=(BC s++[])++_
   rw[wv,wv]
   unfold BC
   rw[ne (by rw[q];decide),ne (by rw[q];decide),q,A]
   dsimp only
   rw[show(s.N+1).toNat=s.N.toNat+1 by omega,zU]
   rfl
  ·rcases xZ.1 w with h | h
   ·exact u x (yg _ h)
   ·have:x=⟨s.Kind,s.N+1,s.Attrs,s.Elems⟩:=by simpa using h
    subst this
    show 0≤s.N+1
    omega
 ·exact j
theorem jC{s:DS}(h:s.adds=[]):Af (BE s)=Af s.out++List.replicate s.cuts (.r true []):=by
 unfold BE
 rw[h,ne (by simp),Mw]
 congr 1
 split
 ·show BC _++[]=_
  rw[wv,nP];rfl
 ·rw[show s.cuts=0 by omega];rfl
theorem Va:∀(us:List Un) (s:DS),s.adds=[]→(∀x∈s.out,0≤x.N)→(∀u∈us,IH u)→Af (BE (us.foldl dU s))=Af (BE s)++us
 | [],_,_,_,_=>by simp
 | .a e::us,s,_,_,j=>(j (.a e) (wZ ..)).elim
 | .r true t::us,s,l,q,j=>by
  have B:=(j _ (wZ ..)).2.1 rfl
  subst B
  rw[xM,Va us _ (by exact l) (by exact q) λv w=>j v (we _ w),jC l]
  show Af (BE ⟨s.out,s.adds,s.cuts+1⟩)++us=_
  rw[jC (by exact l)]
  dsimp only
  rw[zU,wl,wl,wl]
  rfl
 | .r false t::us,s,l,q,j=>by
  have C:∀x∈BE s,0≤x.N:=by
   intro x A
   unfold BE at A
   rw[l,ne (by simp)] at A
   rcases xZ.1 A with h | h
   ·exact q x h
   ·split at h
    ·have:x=⟨2,s.cuts,[],[]⟩:=by simpa using h
     subst this
     show(0:Int)≤s.cuts
     omega
    ·simp at h
  obtain⟨E,F⟩:=XE t C
  rw[xM,Va us _ rfl (by exact F) λv w=>j v (we _ w)]
  show Af (BE ⟨Gx (BE s) t,[],0⟩)++us=_
  rw[SL,E,wl]
  rfl
theorem qZ{us}(h:∀u∈us,IH u):Af (BD us)=us:=by
 have:=Va us ⟨[],[],0⟩ rfl (by simp) h
 exact this
theorem vS{a}(l:Ah a false=0):Fi a []=a:=by
 obtain⟨j,q,v1⟩:=Dv l
 obtain⟨u,w⟩:=Pa Sf SP j (List.Pairwise.nil) q (λ_ h=>by cases h)
 exact Q5 u j λn=>by show Ak (Bf Ew a [] []) n=_;rw[w];rfl
theorem qR{x:AC}(h:Ah x.Attrs false=0):Ce [] x=x:=by unfold Ce;rw[vS h]
def At(f:List AC):List Nat:=(List.range f.length).filter (CO f 0)
theorem Xs(f:List AC):shown f 0 f.length=(At f).map λ(i:Nat)=>(i:Int):=rfl
theorem F5{f:List AC}{k}(j:k<(At f).length):(At f)[k]!<f.length:=by
 rw[wg _ k j]
 exact xP.1 (zM.1 (yZ j)).1
theorem lD f:(At f).Pairwise (· < ·):=List.Pairwise.filter _ List.pairwise_lt_range
theorem jx{f}{j k}(q:j<(At f).length)(u:k<(At f).length)(h:(At f)[j]! = (At f)[k]!):j=k:=by
 rw[wg _ j q,wg _ k u] at h
 have w:=List.pairwise_iff_getElem.1 (lD f)
 rcases Nat.lt_trichotomy j k with l | l | l
 ·have:=w j k q u l;omega
 ·exact l
 ·have:=w k j u q l;omega
theorem GY(f:List AC):(At f).length≤f.length:=by
 unfold At
 exact xw (yy _ _) (by simp)
theorem Lf{f:List AC}{k}(j:k<(At f).length):AJ (shown f 0 f.length) (k:Int)=some (((At f)[k]!:Nat):Int):=by
 rw[Xs,AO (by simpa using j),wg ((At f).map λ(i:Nat)=>(i:Int)) k (by simpa using j),wg _ k j,zJ]
theorem pW{f:List AC}(h:Hg f=0):∃k,k<(At f).length∧k+1=(At f).length∧f[(At f)[k]!]!.Char=10:=by
 have l:f≠[]∧f[f.length-1]!.Char=10:=by
  unfold Hg at h
  split at h
  ·rename_i q;exact absurd h q
  ·split at h
   ·cases h
   ·rename_i q
    simp only[not_or,wy] at q
    exact q
 have w:0<f.length:=xx.2 l.1
 have j:At f=(List.range (f.length-1)).filter (CO f 0)++[f.length-1]:=by
  unfold At
  have u:List.range f.length=List.range (f.length-1)++[f.length-1]:=by
   conv=>lhs;rw[show f.length=(f.length-1)+1 by omega,List.range_succ]
  rw[u,WAA]
  have:CO f 0 (f.length-1)=true:=by
   unfold CO
   rw[l.2]
   simp;right;omega
  simp[this]
 refine⟨((List.range (f.length-1)).filter (CO f 0)).length,by rw[j];simp,by rw[j];simp,?_⟩
 have:(At f)[((List.range (f.length-1)).filter (CO f 0)).length]! = f.length-1:=by
  rw[j,wg _ _ (by simp)]
  simp
 rw[this];exact l.2
def gX(n f t:Int):Prop:=n<0∨2147483647<n∨f<0∨t<f∨n<t
instance (n f t:Int):Decidable (gX n f t):=by unfold gX;infer_instance
theorem s4{n:Nat}(h:n≤4294967296){z:Bool} : mk 1 (n:Int) z=some (List.replicate n z):=by
 unfold mk
 rw[wU (by omega),xl]
def Db(id:Int)(w:List AH):A3:=A3.mk 2 id (Ae.mk 0 0 [] [] (BI.mk 0 0 [] []) []) [] w (D4.mk [] [] [] [] []) []
def EL(n:Ae)(a:Nat):Nat→Nat
 | 0=>a
 | m+1=>if n.Flow[(At n.Flow)[a]!]!.Char=10 then a else EL n (a+1) m
theorem Tm n:∀(m a:Nat),EL n a m≤a+m
 | 0,a=>by simp[EL]
 | m+1,a=>by
  unfold EL
  split
  ·omega
  ·have:=Tm n m (a+1);omega
theorem gT{F}{n:Ae}(l:∀k:Nat,k<(At n.Flow).length→F (k:Int)=if n.Flow[(At n.Flow)[k]!]!.Char=10 then some (.inr (k:Int)) else some (.inl ((k+1:Nat):Int))){z}(u:z<(At n.Flow).length)(j:n.Flow[(At n.Flow)[z]!]!.Char=10) :
  ∀m a,a+m=z→iter F (a:Int)=some ((EL n a m:Nat):Int):=by
 intro m
 induction m with
 | zero=>
  intro a w
  obtain rfl:a=z:=by omega
  rw[Bq ((l a u).trans (wU j))]
  rfl
 | succ m A=>
  intro a w
  have h:=l a (by omega)
  unfold EL
  by_cases q:n.Flow[(At n.Flow)[a]!]!.Char=10
  ·rw[wU q] at h ⊢
   exact Bq h
  ·rw[ne q] at h ⊢
   rw[Cv h,A (a+1) (by omega)]
theorem qj id(w:List AH)(j:w.length≤9223372036854775806)(l:∀s∈w,GA s):Hi [Db id w] [Db id w]=some true:=by
 have q:M6 (Db id w) (Db id w)=some true:=by
  unfold M6
  have u:(((Db id w).Kind=(Db id w).Kind)&&((Db id w).Node=(Db id w).Node))=true:=by simp
  rw[u]
  have A:Mp (Ae.mk 0 0 [] [] (BI.mk 0 0 [] []) []):=by
   constructor<;>simp[CS,GC,Lr]
  have B:Hf (Db id w).New (Db id w).New=some true:=by
   show Hf (Ae.mk 0 0 [] [] (BI.mk 0 0 [] []) []) (Ae.mk 0 0 [] [] (BI.mk 0 0 [] []) [])=_
   rw[ig _ _ A];simp
  have C:Fe (Db id w).Attrs (Db id w).Attrs=some true:=by
   rw[MF _ _ (by simp[Db])];simp
  have hd:Jz (Db id w).Steps (Db id w).Steps=some true:=by
   show Jz w w=_
   rw[qr _ _ j l];simp
  have hg:PY (Db id w).Grid (Db id w).Grid=some true:=by
   have E:KB [] []=some true:=by rw[pw _ _ (by simp)];simp
   have F:Jm [] []=some true:=by
    unfold Jm
    rw[ne (by simp),Bq (r:=.nrm ()) (by unfold L2;rw[ne (by simp)])];rfl
   have I:IB [] []=some true:=by
    unfold IB
    rw[ne (by simp),Bq (r:=.nrm ()) (by unfold Lw;rw[ne (by simp)])];rfl
   unfold PY Db
   dsimp only
   rw[E,F,I];rfl
  have hp:Is (Db id w).Draw (Db id w).Draw=some true:=by
   unfold Is
   rw[ne (by simp),Bq (r:=.nrm ()) (by unfold MB;rw[ne (by simp[Db])])];rfl
  rw[B,C,hd,hg,hp];rfl
 unfold Hi
 rw[ne (by simp),Cv (s':=(1:Int)) (by
  unfold No
  rw[wU (by simp),show(0:Int)=((0:Nat):Int) from rfl,AO (by simp),AE,AE]
  show(AB (M6 (Db id w) (Db id w)) _)=_
  rw[q,AE,ne (by decide),AX (by omega)];rfl),Bq (r:=.nrm ()) (by unfold No;rw[ne (by simp)])]
 rfl
def fS(s:List (List UInt8))(v:List UInt8)(k:Nat):Option Int:=if v=s[k]! then some (k:Int) else none
theorem ik(s:List (List UInt8)) v(w:s.length≤1000):Ms s v=some (decide (v∈s)):=by
 have u:=CA (f:=λ(a:Int)=>NZ s v a) (n:=s.length) (fS s v) (λk j=>by
  unfold NZ fS
  rw[wU (by simpa using j),AO j,AE]
  by_cases e:v=s[k]!
  ·rw[wU (by simpa using e),wU e];rfl
  ·rw[ne (by simpa using e),ne e,AX (by omega)];rfl) (by unfold NZ;rw[ne (by simp)])
 unfold Ms TX
 rw[u]
 cases l:(List.range s.length).findSome? (fS s v) with
 | none=>
  rw[xo] at l
  have:v ∉ s:=λq=>by
   obtain⟨k,j,e⟩:=xp.1 q
   have:=l k (xP.2 j)
   unfold fS at this
   rw[wg s k j,wU e.symm] at this
   cases this
  rw[wX this];rfl
 | some r=>
  obtain⟨k,j,e⟩:=xq l
  unfold fS at e
  split at e
  ·rename_i q
   cases e
   have:v∈s:=by rw[q];exact BA (xP.1 j)
   rw[wW this]
   show some (decide (0≤(k:Int)))=_
   rw[wW (zL k)]
  ·cases e
def f5:List (List UInt8):=[[98,111,108,100],[105,116,97,108,105,99],[117,110,100,101,114],[115,116,114,105,107,101],[102,105,120,101,100],[114,97,105,115,101],[115,105,122,101],[99,111,108,111,117,114],[108,97,110,103],[115,116,121,108,101]]
def Ir(n:List UInt8):Bool:=decide (n∈f5)
theorem pj n:Po n=some (Ir n):=by
 unfold Po
 rw[ik _ _ (by decide)];rfl
theorem ub n:O2 n=some (Ir n):=by
 unfold O2 Ir f5
 simp only[wo,zV,zy]
 by_cases j:n=[98,111,108,100]
 ·subst j;rfl
 by_cases l:n=[105,116,97,108,105,99]
 ·subst l;rfl
 by_cases q:n=[117,110,100,101,114]
 ·subst q;rfl
 by_cases u:n=[115,116,114,105,107,101]
 ·subst u;rfl
 by_cases w:n=[102,105,120,101,100]
 ·subst w;rfl
 by_cases A:n=[114,97,105,115,101]
 ·subst A;rfl
 by_cases B:n=[115,105,122,101]
 ·subst B;rfl
 by_cases C:n=[99,111,108,111,117,114]
 ·subst C;rfl
 by_cases E:n=[108,97,110,103]
 ·subst E;rfl
 rw[ne (by simpa using j),ne (by simpa using l),ne (by simpa using q),ne (by simpa using u),ne (by simpa using w),ne (by simpa using A),ne (by simpa using B),ne (by simpa using C),ne (by simpa using E),AE]
 simp only[j,l,q,u,w,A,B,C,E,zw]
 cases decide (n=[115,116,121,108,101])<;>rfl
def Nc:List UInt8:=[114,101,109,97,114,107,46]
def Tt:List UInt8:=[109,97,114,107,46]
def shr(n:List UInt8):Bool:=(((n=[108,105,110,107])||(n=[108,111,99,107]))||((7<(n.length:Int))&&(n.take 7=Nc)))||((5<(n.length:Int))&&(n.take 5=Tt))
theorem e9(n:List UInt8):Nz n=some (shr n):=by
 unfold Nz shr
 cases hA:((n=[108,105,110,107])||(n=[108,111,99,107])) with
 | true=>rfl
 | false=>
  by_cases l:(7:Int)<n.length
  ·rw[wW l]
   show(AB (B8 n 0 7) λw=>_)=_
   rw[QF n 7 (by omega) (by omega),AE]
   have u:(7:Int).toNat=7:=rfl
   rw[u]
   show(AB (gd ((((false||(true&&(n.take 7=Nc)))==false))&&(decide (5<(n.length:Int))==true)) (B8 n 0 5)) λj=>some ((false||(true&&(n.take 7=Nc)))||((5<(n.length:Int))&&(j=Tt))))=_
   cases hB:decide (n.take 7=Nc) with
   | true=>rfl
   | false=>
    rw[wW (show(5:Int)<n.length by omega)]
    show(AB (B8 n 0 5) λj=>_)=_
    rw[QF n 5 (by omega) (by omega),AE]
    rfl
  ·rw[wX l]
   show(AB (gd (decide (5<(n.length:Int))==true) (B8 n 0 5)) λj=>some (false||((5<(n.length:Int))&&(j=Tt))))=_
   by_cases q:(5:Int)<n.length
   ·rw[wW q]
    show(AB (B8 n 0 5) λj=>_)=_
    rw[QF n 5 (by omega) (by omega),AE]
    rfl
   ·rw[wX q];rfl
theorem Y4(n w:List UInt8):Nq n w=some (((w.length:Int)<(n.length:Int))&&(n.take w.length=w)):=by
 unfold Nq
 by_cases h:(w.length:Int)<(n.length:Int)
 ·rw[wW h]
  show(AB (B8 n 0 (w.length:Int)) λj=>_)=_
  rw[QF n w.length (by omega) (by omega),AE]
  rfl
 ·rw[wX h];rfl
theorem ci(n:List UInt8):NY n=some (shr n):=by
 unfold NY shr
 rw[Y4,Y4]
 cases hA:((n=[108,105,110,107])||(n=[108,111,99,107])) with
 | true=>rfl
 | false=>
  show(AB (some (((7:Int)<(n.length:Int))&&(n.take 7=Nc))) λj=>AB (gd ((false||j)==false) (some (((5:Int)<(n.length:Int))&&(n.take 5=Tt)))) λl=>some ((false||j)||l))=_
  rw[AE]
  cases (((7:Int)<(n.length:Int))&&(n.take 7=Nc))<;>rfl
theorem IL{α β ρ σ:Type}[Inhabited α]{f}(l:List α)(mk:Nat→β→σ)(j:β→α→β)(u:β→ρ)(I:β→Nat→Prop)(A:∀b k, k<l.length→I b k→I (j b l[k]!) (k+1))
 (B:∀b (k:Nat), k<l.length→I b k→f (mk k b)=some (.inl (mk (k+1) (j b l[k]!)))) (C:∀b, I b l.length→f (mk l.length b)=some (.inr (u b))) (b0:β) (E:I b0 0):iter f (mk 0 b0)=some (u (l.foldl j b0)) := by
  have key:∀(m k:Nat) (b:β), k+m=l.length→I b k→iter f (mk k b)=some (u ((l.drop k).foldl j b)) := by
    intro m
    induction m with
    | zero =>
      intro k b F w
      have:k=l.length := by omega
      subst this
      rw[Bq (C b w)];simp
    | succ m J =>
      intro k b F w
      have q:k<l.length := by omega
      rw[Cv (B b k q w), J (k+1) _ (by omega) (A b k q w), yR q, xM, wg l k q]
  have := key l.length 0 b0 (by omega) E
  simpa using this
theorem sy{o}{a:AD}(h:∀e∈o,Au e.Name a.Name=true):CZ o a=o++[a]:=by
 induction o with
 | nil=>rfl
 | cons x o l=>
  have j:=h x (wZ ..)
  rw[CZ,ne (Ne.symm (EZ j)),wU j,l λe q=>h e (we _ q)]
  rfl
def DW(p:AD→Bool)(o:List AD)(x:AD):List AD:=if p x then CZ o x else o
def Jk(p:AD→Bool)(o:List AD)(x:AD):List AD:=if p x then o++[x] else o
theorem Ws p:∀(l o:List AD),l.foldl (Jk p) o=o++l.filter p
 | [],o=>by simp
 | x::l,o=>by
  rw[xM,Ws p l,List.filter_cons]
  unfold Jk
  cases p x<;>simp
theorem Rt p:∀(l o:List AD),BP l→(∀e∈o,∀x∈l,Au e.Name x.Name=true)→l.foldl (DW p) o=o++l.filter p
 | [],o,_,_=>by simp
 | x::l,o,A,u=>by
  have w:=D1.1 A
  rw[xM,List.filter_cons]
  cases hp:p x with
  | false=>
   rw[show DW p o x=o by unfold DW;rw[hp];rfl,ne (by decide)]
   exact Rt p l o w.2 λe j y q=>u e j y (we _ q)
  | true=>
   rw[show DW p o x=o++[x] by unfold DW;rw[hp,wU rfl,sy λe j=>u e j x (wZ ..)],wU rfl]
   rw[Rt p l _ w.2 λe j y q=>by
    rcases xZ.1 j with j | j
    ·exact u e j y (we _ q)
    ·rw[xh] at j;subst j;exact w.1 y q]
   simp
theorem e7{l:List AD}{j} p(h:Ah l j=0):Ah (l.filter p) j=0:=by
 obtain⟨q,u⟩:=(Ef l j).1 h
 exact(Ef _ _).2 ⟨q.filter _,λe w=>u e (zM.1 w).1⟩
theorem Vw{l}{j}{a}(h:Ah l j=0)(u:VA j a):Ah (CZ l a) j=0:=by
 obtain⟨w,A⟩:=(Ef l j).1 h
 exact(Ef _ _).2 ⟨Mh a w,λe q=>by rcases Y9 q with rfl | q;exact u;exact A e q⟩
theorem og{a}(l:VA false a):Ah [a] true=0:=(Ef _ _).2 ⟨by simp[BP],λe j=>by rw[xh] at j;subst j;exact l.up⟩
theorem vx{a:AD}(h:Ah [a] false=0):a.Value≠[]:=(Dv h).2.2 rfl a (xh.2 rfl)
theorem uV{l}{a:AD}(h:Ah l false=0)(q:VA false a):Fi l [a]=CZ l a:=by
 have u:=og q
 have A:a.Value≠[]:=vx ((Ef _ _).2 ⟨by simp[BP],λe w=>by rw[xh] at w;subst w;exact q⟩)
 obtain⟨B,C⟩:=Pa Sf SP (Dv h).1 (Dv u).1 (Dv h).2.1 (Dv u).2.1
 refine Q5 B (Mh a (Dv h).1) λn=>?_
 rw[show Ak (Fi l [a]) n=GP (Ak l n) (Ak [a] n) from C n,Tg]
 by_cases j:a.Name=n
 ·rw[wU j]
  unfold Ak
  rw[wU j]
  unfold GP
  simp[A]
 ·rw[ne j]
  rw[show Ak [a] n=none by unfold Ak;rw[ne j];rfl]
  rfl
def DX(l r:AC):AC:=if l.Char=10 then r else l
def Fh(l r:AC):List AD:=if(DX l r).Char=10 then [] else(DX l r).Attrs.filter λa=>Ir a.Name
def Mz(r:AC)(a:AD):Bool:=shr a.Name&&(C1 r.Attrs a.Name=a.Value)
def Lt(l r:AC):List AD:=l.Attrs.foldl (DW (Mz r)) (Fh l r)
theorem gz p:∀(l o:List AD),Ah o false=0→(∀e∈l,VA false e)→Ah (l.foldl (DW p) o) false=0∧(l.foldl (DW p) o).length≤o.length+l.length
 | [],o,h,_=>⟨h,by simp⟩
 | x::l,o,h,j=>by
  have q:=j x (wZ ..)
  have u:Ah (DW p o x) false=0∧(DW p o x).length≤o.length+1:=by
   unfold DW
   split
   ·exact⟨Vw h q,KL o x⟩
   ·exact⟨h,by omega⟩
  obtain⟨w,B⟩:=gz p l _ u.1 λe A=>j e (we _ A)
  rw[xM,wm]
  exact⟨w,by omega⟩
theorem VN{l r:AC}(j:Ah l.Attrs false=0)(q:Ah r.Attrs false=0){m}(u:l.Attrs.length≤m)(w:r.Attrs.length≤m):Ah (Fh l r) false=0∧(Fh l r).length≤m:=by
 unfold Fh
 split
 ·exact⟨by decide,by simp⟩
 ·have:Ah (DX l r).Attrs false=0∧(DX l r).Attrs.length≤m:=by unfold DX;split;exact⟨q,w⟩;exact⟨j,u⟩
  exact⟨e7 _ this.1,xw (yy _ _) this.2⟩
theorem lm{l r:AC}(j:Ah l.Attrs false=0)(q:Ah r.Attrs false=0){m}(u:l.Attrs.length≤m)(w:r.Attrs.length≤m):Ah (Lt l r) false=0∧(Lt l r).length≤m+m:=by
 obtain⟨A,C⟩:=VN j q u w
 obtain⟨B,E⟩:=gz (Mz r) l.Attrs (Fh l r) A ((Ef _ _).1 j).2
 exact⟨B,by unfold Lt;omega⟩
theorem eq{o:List AD}{x}(h:o.length+1≤1099511627776):app 32 o [x]=some (o++[x]):=Hn (by omega)
theorem mb{l r}(q:(DX l r).Attrs.length≤1048576){α:Type}(F:List AD→Option α) :
  (AB (if(!((DX l r).Char=10)) then(Aj (iter (λ(a:Int × (List AD))=>Kw (DX l r) a.1 a.2) (0,[])) λ(w:Unit)=>none) else some []) F)=F (Fh l r):=by
 unfold Fh
 by_cases h:(DX l r).Char=10
 ·rw[ne (Bx h),wU h];rfl
 ·rw[wU (BK h),ne h]
  generalize DX l r=e at q
  have:=IL (f:=λ(a:Int × (List AD))=>Kw e a.1 a.2) e.Attrs (λk o=>((k:Int),o)) (Jk λa=>Ir a.Name) (λo=>(.ext o:Ai Unit (List AD))) (λo k=>o.length≤k)
   (λb k j q=>by unfold Jk;split;simp;omega;omega) (λo k j u=>by
    dsimp only
    unfold Kw Jk
    dsimp only
    rw[wU (by simpa using j),AO j,AE,pj,AE]
    by_cases hp:Ir e.Attrs[k]!.Name=true
    ·rw[wU hp,wU hp,eq (by omega),AE,AE,AX (by omega)];rfl
    ·rw[ne hp,ne hp,AE,AX (by omega)];rfl) (λo u=>by
    dsimp only
    unfold Kw
    rw[ne (by simp)]) [] (by simp)
  rw[show((0:Nat):Int)=0 from rfl] at this
  rw[this,Ws]
  rfl
theorem kx{l r}(u:Ah (DX l r).Attrs false=0)(j:(DX l r).Attrs.length≤1048576){α:Type}(F:List AD→Option α) :
  (AB (if(!((DX l r).Char=10)) then(Aj (iter (λ(a:(List AD) × Int)=>Lk (DX l r) a.1 a.2) ([],0)) λ(B:Unit)=>none) else some []) F)=F (Fh l r):=by
 unfold Fh
 by_cases h:(DX l r).Char=10
 ·rw[ne (Bx h),wU h];rfl
 ·rw[wU (BK h),ne h]
  generalize DX l r=e at j u
  obtain⟨A,C⟩:=(Ef _ _).1 u
  have:=IL (f:=λ(a:(List AD) × Int)=>Lk e a.1 a.2) e.Attrs (λk o=>(o,(k:Int))) (DW λa=>Ir a.Name) (λo=>(.ext o:Ai Unit (List AD))) (λo k=>o.length≤k∧BP o)
   (λb k q j=>by
    unfold DW
    split
    ·exact⟨by have:=KL b e.Attrs[k]!;omega,Mh _ j.2⟩
    ·exact⟨by omega,j.2⟩) (λo k q w=>by
    dsimp only
    unfold Lk DW
    dsimp only
    rw[wU (by simpa using q),AO q,AE,ub,AE]
    by_cases hp:Ir e.Attrs[k]!.Name=true
    ·rw[wU hp,wU hp,R6 _ _ w.2 (by omega),AE,AE,AX (by omega)];rfl
    ·rw[ne hp,ne hp,AE,AX (by omega)];rfl) (λo w=>by
    dsimp only
    unfold Lk
    rw[ne (by simp)]) [] ⟨by simp,by simp[BP]⟩
  rw[show((0:Nat):Int)=0 from rfl] at this
  rw[this,Rt _ _ _ A (by simp)]
  rfl
theorem oK{l r:AC}{k}(C:0<k∨l.Attrs=[])(u:Ah l.Attrs false=0)(E:Ah r.Attrs false=0)(F:l.Attrs.length≤1048576)(I:r.Attrs.length≤1048576) :
  iter (λ(a:(List AD) × Int)=>KI k l r a.1 a.2) (Fh l r,0)=some (Lt l r):=by
 obtain⟨J,T⟩:=VN u E F I
 obtain⟨U,w⟩:=(Ef _ _).1 u
 have:=IL (f:=λ(a:(List AD) × Int)=>KI k l r a.1 a.2) l.Attrs (λk o=>(o,(k:Int))) (DW (Mz r)) (λo=>o) (λo k=>o.length≤1048576+k∧Ah o false=0)
  (λb j q A=>by
   unfold DW
   split
   ·exact⟨by have:=KL b l.Attrs[j]!;omega,Vw A.2 (w _ (BA q))⟩
   ·exact⟨by omega,A.2⟩) (λo j q B=>by
   dsimp only
   have M:0<k:=by
    rcases C with h | h
    ·exact h
    ·rw[h] at q;simp at q
   have O:=w _ (BA q)
   unfold KI DW Mz
   rw[wU (by simpa using q),AO q,AE,e9,AE,wW M,WAD]
   cases shr l.Attrs[j]!.Name with
   | true=>
    show AB (AB (Gs r.Attrs l.Attrs[j]!.Name) _) _=_
    rw[Oj _ _ (by omega),AE]
    by_cases e:C1 r.Attrs l.Attrs[j]!.Name=l.Attrs[j]!.Value
    ·rw[wU (by simpa using e),WC _ _ (by simp;omega),AE,AE,AX (by omega),wU (by simpa using e),AE]
     show some (Sum.inl (Fi o [l.Attrs[j]!],_))=_
     rw[uV B.2 O]
    ·rw[ne (by simpa using e),AE,AX (by omega),ne (by simpa using e)];rfl
   | false=>
    show AB (AB (some default) _) _=_
    rw[AE,ne (by simp),AE,AX (by omega),ne (by simp)];rfl) (λo B=>by
   dsimp only
   unfold KI
   rw[ne (by simp)]) (Fh l r) ⟨by omega,J⟩
 exact this
theorem p8{l r:AC}(u:Ah l.Attrs false=0)(B:Ah r.Attrs false=0)(C:l.Attrs.length≤1048576)(E:r.Attrs.length≤1048576) :
  iter (λ(a:(List AD) × Int)=>La l r a.1 a.2) (Fh l r,0)=some (.ext (Lt l r)):=by
 obtain⟨F,J⟩:=VN u B C E
 obtain⟨M,I⟩:=(Ef _ _).1 u
 have:=IL (f:=λ(a:(List AD) × Int)=>La l r a.1 a.2) l.Attrs (λk o=>(o,(k:Int))) (DW (Mz r)) (λo=>(.ext o:Ai Unit (List AD))) (λo k=>o.length≤1048576+k∧Ah o false=0)
  (λb j q w=>by
   unfold DW
   split
   ·exact⟨by have:=KL b l.Attrs[j]!;omega,Vw w.2 (I _ (BA q))⟩
   ·exact⟨by omega,w.2⟩) (λo j q A=>by
   dsimp only
   unfold La DW Mz
   rw[wU (by simpa using q),AO q,AE,ci,AE]
   cases shr l.Attrs[j]!.Name with
   | true=>
    show AB (AB (Ib r.Attrs l.Attrs[j]!.Name) _) _=_
    rw[YG _ _ (by omega),AE]
    by_cases e:C1 r.Attrs l.Attrs[j]!.Name=l.Attrs[j]!.Value
    ·rw[wU (by simpa using e),R6 _ _ (Dv A.2).1 (by omega),AE,AE,AX (by omega),wU (by simpa using e)];rfl
    ·rw[ne (by simpa using e),AE,AX (by omega),ne (by simpa using e)];rfl
   | false=>
    show AB (AB (some default) _) _=_
    rw[AE,ne (by simp),AE,AX (by omega),ne (by simp)];rfl) (λo A=>by
   dsimp only
   unfold La
   rw[ne (by simp)]) (Fh l r) ⟨by omega,F⟩
 exact this
end Go.Proofs.YtdafahjmopdleaaGreatDoor.Al
