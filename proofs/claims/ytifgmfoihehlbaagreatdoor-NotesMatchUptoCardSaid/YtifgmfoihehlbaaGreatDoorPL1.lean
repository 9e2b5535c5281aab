/- Plain laws over the models, a part of them. -/
import Derived.Test.YtifgmfoihehlbaaGreatDoorMod1
import Derived.Lib.AtoiAllCases
import Derived.Lib.DecodeNEq
import Derived.Lib.ItoaMem
import Derived.Lib.TrimUEq
import Derived.Lib.ValidLaws
set_option linter.all false
namespace Go.Proofs.YtifgmfoihehlbaaGreatDoor.Al
@[simp] theorem AD{a α:Type}(x:a)(f:a→Option α):AB (some x) f=f x:=rfl
@[simp] theorem By{a b α:Type}(x:a)(y:b)(f:a→b→Option α):CE (some (x,y)) f=f x y:=rfl
@[simp] theorem FJ{a b c α:Type}(x:a)(y:b)(z:c)(f:a→b→c→Option α):CK (some (x,y,z)) f=f x y z:=rfl
@[simp] theorem qp{a b c d α:Type}(x:a)(y:b)(z:c)(u:d)(f:a→b→c→d→Option α):co (some (x,y,z,u)) f=f x y z u:=rfl
@[simp] theorem Pk{a α:Type}(x:a)(f:a→Option α):A7 (some (.nrm x)) f=f x:=rfl
@[simp] theorem GK{a α:Type}(t:α)(f:a→Option α):A7 (some (.ext t)) f=some t:=rfl
@[simp] theorem qu{a b α:Type}(x:a)(y:b)(f:a→b→Option α):GA (some (.nrm (x,y))) f=f x y:=rfl
@[simp] theorem qs{a b α:Type}(t:α)(f:a→b→Option α):GA (some (.ext t)) f=some t:=rfl
@[simp] theorem qq{a b c α:Type}(x:a)(y:b)(z:c)(f:a→b→c→Option α):U5 (some (.nrm (x,y,z))) f=f x y z:=rfl
@[simp] theorem qr{a b c α:Type}(t:α)(f:a→b→c→Option α):U5 (some (.ext t)) f=some t:=rfl
@[simp] theorem At{α:Type}[Inhabited α](m:Option α):gd true m=m:=rfl
@[simp] theorem DV{α:Type}[Inhabited α](m:Option α):gd false m=some default:=rfl
theorem Ac{α:Type}[Inhabited α]{l:List α}{k}(h:k<l.length):AL l (k:Int)=some l[k]!:=by
 unfold AL
 rw[qy (tg k),sf,rA h,rN l k h]
theorem Dz{α:Type}{l:List α}{k}(h:k<l.length):AL l (k:Int)=some l[k]:=by
 unfold AL
 rw[qy (tg k),sf,rA h]
theorem Ar{k:Nat}(h:k<9223372036854775807):AZ .i64 ((k:Int)+1)=some (((k+1:Nat)):Int):=by
 rw[Cn (by omega) (by omega)];rfl
theorem FN{k:Nat}(h:0<k)(j:k≤9223372036854775807):AZ .i64 ((k:Int)-1)=some ((k-1:Nat):Int):=by
 rw[Cn (by omega) (by omega)];congr 1;omega
def CJ{ρ:Type}(k:Nat):Option ρ→Option (Int ⊕ Ax Unit ρ)
 | none=>some (.inl ((k+1:Nat):Int))
 | some r=>some (.inr (.ext r))
def Df{ρ:Type} : Option ρ→Ax Unit ρ
 | none=>.nrm ()
 | some r=>.ext r
theorem B2{ρ:Type}{f}{n}(g:Nat→Option ρ)(j:∀k:Nat, k<n→f k=CJ k (g k))
 (l:f n=some (.inr (.nrm ()))):iter f 0=some (Df ((List.range n).findSome? g)) := by
  have key:∀m k:Nat, k+m=n→iter f (k:Int)=some (Df ((List.range' k m).findSome? g)) := by
    intro m
    induction m with
    | zero =>
      intro k q
      obtain rfl:k=n := by omega
      rw[BJ l];rfl
    | succ m w =>
      intro k q
      rw[List.range'_succ, sd]
      have := j k (by omega)
      cases hg:g k with
      | none => rw[hg] at this;rw[BW this, w (k+1) (by omega)]
      | some r => rw[hg] at this;rw[BJ this];rfl
  rw[uQ]
  exact key n 0 (by omega)
theorem V1{α ρ:Type}{l:List α}{g h:α→Option ρ}(e:∀x∈l,g x=h x):l.findSome? g=l.findSome? h:=by
 induction l with
 | nil=>rfl
 | cons a l j=>rw[sd,sd,e a (rT ..),j λx m=>e x (rO _ m)]
theorem Q3{α ρ:Type}[Inhabited α](l:List α)(p:α→Bool)(r:ρ):(List.range l.length).findSome? (λk=>if p l[k]! then none else some r)=if l.all p then none else some r:=by
 induction l with
 | nil=>rfl
 | cons a l j=>
  rw[rp,List.range_succ_eq_map,sd,List.findSome?_map]
  have m:(List.range l.length).findSome? ((λk=>if p (a::l)[k]! = true then none else some r) ∘ Nat.succ)=if l.all p=true then none else some r:=by
   rw[← j];exact V1 λk _=>by simp
  rw[m]
  by_cases hp:p a=true
  ·simp[hp]
  ·simp[hp]
theorem FC{ρ:Type}(o:Option ρ)(f:Unit→Option ρ):A7 (some (Df o)) f=match o with | none=>f () | some r=>some r:=by cases o<;>rfl
def Gi(c:UInt8):Bool:=((97≤c.toNat)&&(c.toNat≤122))||((48≤c.toNat)&&(c.toNat≤57))||(c.toNat=46)||(c.toNat=45)
def Eh(s:List UInt8):Bool:=(1≤s.length)&&(s.length≤24)&&((97≤s[0]!.toNat)&&(s[0]!.toNat≤122))&&s.all Gi
def Gs(c:UInt8):Bool:=(32≤c.toNat)&&(c.toNat≤126)
def Du(s:List UInt8):Bool:=(1≤s.length)&&(s.length≤200)&&s.all Gs
theorem ZY(s:List UInt8) k(j:k<s.length)(l:s.length≤9223372036854775807):Ll s k=CJ k (if Gi s[k]! then none else some false):=by
 unfold Ll
 rw[qy (by simpa using j),Ac j,AD,Ar (by omega)]
 generalize s[k]! = c
 have e:((((((c.toNat:Int)<97)||(122<(c.toNat:Int)))&&(((c.toNat:Int)<48)||(57<(c.toNat:Int))))&&(!((c.toNat:Int)=46)))&&(!((c.toNat:Int)=45)))=!Gi c:=by
  unfold Gi
  rw[ro]
  simp only[rH,rF,q8,sB,sP,sw,tE]
  omega
 rw[e]
 cases Gi c<;>rfl
theorem UW(s:List UInt8)(B:s.length≤9223372036854775807):LZ s=some (Eh s):=by
 unfold LZ
 rw[B2 (n:=s.length) (λk=>if Gi s[k]! then none else some false) (λk C=>ZY s k C B) (by unfold Ll;rw[qx (by simp)]),Q3]
 unfold Eh
 cases s with
 | nil=>simp
 | cons c t=>
  have E:AL (c::t) 0=some c:=rfl
  rw[E]
  simp only[List.getElem!_cons_zero,qz (tp c t),sN]
  generalize (c::t).all Gi=F
  generalize I:(c::t).length=L
  have M:1≤L:=by rw[← I];simp
  by_cases q:24<(L:Int)
  ·have j:decide (L≤24)=false:=by simp;omega
   simp[q,j]
  ·rw[qz q]
   simp only[sN,sE,At,AD]
   have j:decide (L≤24)=true:=by simp;omega
   have J:decide (1≤L)=true:=by simp;omega
   rw[j,J]
   by_cases w:(c.toNat:Int)<97
   ·have l:decide (97≤c.toNat)=false:=by simp;omega
    simp[w,l]
   ·rw[qz w]
    have l:decide (97≤c.toNat)=true:=by simp;omega
    simp only[sE,At,AD,sN]
    by_cases A:122<(c.toNat:Int)
    ·have m:decide (c.toNat≤122)=false:=by simp;omega
     simp[A,m]
    ·have m:decide (c.toNat≤122)=true:=by simp;omega
     rw[qx (by simpa using A),FC,l,m]
     cases F<;>rfl
def Hg(k:Nat)(c:UInt8):Bool:=((97≤c.toNat)&&(c.toNat≤122))||((k≠0)&&Gi c)
theorem eo(s:List UInt8) k(j:k<s.length)(l:s.length≤9223372036854775807) :
  Lx s k=CJ k (if Hg k s[k]! then none else some false):=by
 unfold Lx
 rw[qy (by simpa using j),Ac j,AD,Ar (by omega)]
 generalize s[k]! = c
 have e:((!((97≤(c.toNat:Int))&&((c.toNat:Int)≤122)))&&(((k:Int)=0)||(((!((c.toNat:Int)=46))&&(!((c.toNat:Int)=45)))&&(((c.toNat:Int)<48)||(57<(c.toNat:Int))))))=!Hg k c:=by
  unfold Hg Gi
  rw[ro]
  simp only[rH,rF,q8,sB,sP,sw,tE]
  omega
 rw[e]
 cases Hg k c<;>rfl
theorem VN{ρ:Type}(n:Nat)(g:Nat→Option ρ):(List.range n).findSome? g=none↔∀k,k<n→g k=none:=by
 rw[sH];simp
theorem Zq{α:Type}[Inhabited α](l:List α)(p:α→Bool):l.all p=true↔∀k,k<l.length→p l[k]! = true:=by
 rw[rZ]
 constructor
 ·intro h k j;rw[rN l k j];exact h _ (rm j)
 ·intro h x m
  obtain⟨k,j,rfl⟩:=sA.1 m
  rw[← rN l k j];exact h k j
theorem KL{ρ:Type} n p(r:ρ):(List.range n).findSome? (λk=>if p k then none else some r)=if(List.range n).all p then none else some r:=by
 generalize List.range n=l
 induction l with
 | nil=>rfl
 | cons a l j=>rw[sd,te,];by_cases h:p a=true<;>simp[h,j]
theorem Wh(s:List UInt8)(q:s.length≤9223372036854775807):Mi s=some (Eh s):=by
 unfold Mi
 rw[B2 (n:=s.length) (λk=>if Hg k s[k]! then none else some false) (λk j=>eo s k j q) (by unfold Lx;rw[qx (by simp)]),KL,FC]
 have key:((List.range s.length).all λk=>Hg k s[k]!)=((s=[])||(((97≤s[0]!.toNat)&&(s[0]!.toNat≤122))&&s.all Gi)):=by
  rw[ro,rZ]
  simp only[rV,rH,q8,rF,Zq]
  constructor
  ·intro h
   cases m:s with
   | nil=>exact .inl rfl
   | cons c t=>
    rw[← m]
    have w:0<s.length:=by rw[m];simp
    have A:=h 0 w
    simp only[Hg,rH,rF,q8] at A
    refine .inr ⟨by omega,λk j=>?_⟩
    have:=h k j
    simp only[Hg,Gi,rH,rF,q8] at this ⊢
    omega
  ·rintro(rfl | ⟨J,B⟩) k j
   ·cases j
   ·have:=B k j
    by_cases l:k=0
    ·subst l;simp only[Hg,rH,rF,q8];omega
    ·simp only[Hg,rH,rF,q8];exact .inr ⟨l,this⟩
 rw[key]
 unfold Eh
 cases s with
 | nil=>rfl
 | cons c t=>
  rw[qz (tp c t),sN]
  generalize (c::t).all Gi=C
  generalize ((97≤(c::t)[0]!.toNat)&&((c::t)[0]!.toNat≤122))=E
  have F:decide (1≤((c::t).length:Int))=decide (1≤(c::t).length):=by simp;omega
  have I:decide (((c::t).length:Int)≤24)=decide ((c::t).length≤24):=by simp;omega
  rw[F,I]
  cases E<;>cases C<;>simp
theorem R1(s:List UInt8)(B:s.length≤9223372036854775807):MG s=some (Du s):=by
 unfold MG Du
 rw[B2 (n:=s.length) (λk=>if Gs s[k]! then none else some false) (λk l=>by
  unfold N2
  rw[qy (by simpa using l),Ac l,AD,Ar (by omega)]
  generalize s[k]! = c
  have e:(((c.toNat:Int)<32)||(126<(c.toNat:Int)))=!Gs c:=by
   unfold Gs
   rw[ro]
   simp only[rH,rF,q8,sB,sP,tE]
   omega
  rw[e]
  cases Gs c<;>rfl) (by unfold N2;rw[qx (by simp)]),Q3,FC]
 generalize s.all Gs=q
 cases s with
 | nil=>simp
 | cons c t=>
  rw[qz (tp c t),sN]
  generalize w:(c::t).length=L
  have C:1≤L:=by rw[← w];simp
  by_cases m:200<(L:Int)
  ·have j:decide (L≤200)=false:=by simp;omega
   simp[m,j]
  ·have j:decide (L≤200)=true:=by simp;omega
   have A:decide (1≤L)=true:=by simp;omega
   rw[qx (by simpa using m),j,A]
   cases q<;>rfl
theorem VJ(s:List UInt8)(w:s.length≤9223372036854775807):MF s=some (Du s):=by
 unfold MF Du
 rw[B2 (n:=s.length) (λk=>if Gs s[k]! then none else some false) (λk j=>by
  unfold PQ
  rw[qy (by simpa using j),Ac j,AD,Ar (by omega)]
  generalize s[k]! = c
  have e:(((c.toNat:Int)<32)||(126<(c.toNat:Int)))=!Gs c:=by
   unfold Gs
   rw[ro]
   simp only[rH,rF,q8,sB,sP,tE]
   omega
  rw[e]
  cases Gs c<;>rfl) (by unfold PQ;rw[qx (by simp)]),Q3,FC]
 generalize s.all Gs=l
 have m:decide (1≤(s.length:Int))=decide (1≤s.length):=by simp;omega
 have q:decide ((s.length:Int)≤200)=decide (s.length≤200):=by simp;omega
 rw[m,q]
 cases l<;>simp
theorem TX a b x y:Ay (a::x) (b::y)=((a<b)||(a==b&&Ay x y)):=rfl
theorem LI:∀(a b:List UInt8),(Ay a b||(a=b))=!Ay b a
 | [],[]=>rfl
 | [],_::_=>rfl
 | _::_,[]=>rfl
 | a::x,b::y=>by
  rw[TX,TX]
  have l:=LI x y
  by_cases h:a=b
  ·subst h
   have m:¬ a<a:=λh=>by simp[tm] at h
   simp only[qz m,sE,rq,sN,tw,uV]
   exact l
  ·have q:(a==b)=false:=by simpa using h
   have w:(b==a)=false:=by simpa using λe:b=a=>h e.symm
   have A:¬ (a::x=b::y):=λe=>h (List.cons.inj e).1
   rw[q,w,qz A]
   simp only[tF,ud]
   have B:a.toNat≠b.toNat:=λe=>h (UInt8.toNat_inj.1 e)
   by_cases j:a<b
   ·have:¬ b<a:=by rw[tm] at j ⊢;omega
    simp[j,this]
   ·have:b<a:=by rw[tm] at j ⊢;omega
    simp[j,this]
theorem JP a:Ay a a=false:=by
 have:=LI a a
 cases h:Ay a a
 ·rfl
 ·rw[h] at this;simp at this
theorem WB{a b}(h:Ay a b=true):Ay b a=false:=by
 have:=LI a b
 rw[h] at this;simpa using this.symm
def Ic(l:List AG):Prop:=∀a∈l,a.Name.length≤9223372036854775807∧a.Value.length≤9223372036854775807
def Ez(l:List AG)(j:Bool)(k:Nat):Option Int:=
 if Eh l[k]!.Name=false then some 9 else if Du l[k]!.Value=false∧¬ (j=true∧l[k]!.Value=[]) then some 23 else if 0<k∧Ay l[k-1]!.Name l[k]!.Name=false then some 5 else none
def CI(l:List AG)(j:Bool):Int:=((List.range l.length).findSome? (Ez l j)).getD 0
theorem Ic.at{l:List AG}(h:Ic l){k}(j:k<l.length):l[k]!.Name.length≤9223372036854775807∧l[k]!.Value.length≤9223372036854775807:=by
 rw[rN l k j];exact h _ (rm j)
theorem nz(l:List AG) q(h:Ic l)(E:l.length≤9223372036854775807) k(A:k<l.length):L9 l q k=CJ k (Ez l q k):=by
 unfold L9 Ez
 obtain⟨j,m⟩:=h.at A
 rw[qy (by simpa using A),Ac A,AD]
 generalize l[k]! = x at j m ⊢
 rw[UW _ j,AD]
 cases Eh x.Name
 ·rfl
 rw[qx (by decide),qx (by decide),R1 _ m,AD,Ar (by omega)]
 by_cases w:Du x.Value=false∧¬ (q=true∧x.Value=[])
 ·rw[qy w,qy (by simp[w.1];cases q<;>simp_all)];rfl
 rw[qx w,qx (by intro e;simp at e;exact w ⟨e.1,by rintro⟨a,b⟩;simp[a,b] at e⟩)]
 by_cases B:k=0
 ·subst B;rfl
 ·have C:decide ((0:Int)<(k:Int))=true:=by simp;omega
  rw[C,FN (by omega) (by omega)]
  simp only[sE,At,AD,rq]
  rw[Ac (by omega),AD,LI]
  have:(0<k∧Ay l[k-1]!.Name x.Name=false)↔Ay l[k-1]!.Name x.Name=false:=by constructor;exact λh=>h.2;exact λh=>⟨by omega,h⟩
  simp only[this]
  cases Ay l[k-1]!.Name x.Name<;>rfl
theorem iT(l:List AG) q(h:Ic l)(E:l.length≤9223372036854775807) k(A:k<l.length):LN l q k=CJ k (Ez l q k):=by
 unfold LN Ez
 obtain⟨j,m⟩:=h.at A
 rw[qy (by simpa using A),Ac A,AD]
 generalize l[k]! = x at j m ⊢
 rw[Wh _ j,AD]
 cases Eh x.Name
 ·rfl
 rw[qx (by decide),qx (by decide),VJ _ m,AD,Ar (by omega)]
 by_cases w:Du x.Value=false∧¬ (q=true∧x.Value=[])
 ·rw[qy w,qy (by simp[w.1];cases q<;>simp_all)];rfl
 rw[qx w,qx (by intro e;simp at e;exact w ⟨e.1,by rintro⟨a,b⟩;simp[a,b] at e⟩)]
 by_cases B:k=0
 ·subst B;rfl
 ·have C:decide ((0:Int)<(k:Int))=true:=by simp;omega
  rw[C,FN (by omega) (by omega)]
  simp only[sE,At,AD,rq]
  rw[Ac (by omega),AD]
  have:(0<k∧Ay l[k-1]!.Name x.Name=false)↔Ay l[k-1]!.Name x.Name=false:=by constructor;exact λh=>h.2;exact λh=>⟨by omega,h⟩
  simp only[this]
  cases Ay l[k-1]!.Name x.Name<;>rfl
theorem FK{o:Option Int} : (A7 (some (Df o)) λ_:Unit=>some 0)=some (o.getD 0):=by cases o<;>rfl
theorem eC(l:List AG) j(h:Ic l)(m:l.length≤9223372036854775807):N7 l j=some (CI l j):=by
 unfold N7
 rw[B2 (n:=l.length) (Ez l j) (λk q=>nz l j h m k q) (by unfold L9;rw[qx (by simp)]),FK];rfl
theorem UX(l:List AG) j(h:Ic l)(m:l.length≤9223372036854775807):Kl l j=some (CI l j):=by
 unfold Kl
 rw[B2 (n:=l.length) (Ez l j) (λk q=>iT l j h m k q) (by unfold LN;rw[qx (by simp)]),FK];rfl
theorem Rn(l:List AG)(h:Ic l)(j:l.length≤9223372036854775807):I3 l=some (CI l false):=by unfold I3;rw[eC l _ h j];rfl
def Cw(l:List AG)(name:List UInt8):List UInt8:=((List.range l.length).findSome? λk=>if l[k]!.Name=name then some l[k]!.Value else none).getD []
theorem Yb{o:Option (List UInt8)} : (A7 (some (Df o)) λ_:Unit=>some [])=some (o.getD []):=by cases o<;>rfl
theorem N4(l:List AG) name(m:l.length≤9223372036854775807):It l name=some (Cw l name):=by
 unfold It
 rw[B2 (n:=l.length) (λk=>if l[k]!.Name=name then some l[k]!.Value else none) (λk j=>by
  unfold Ng
  rw[qy (by simpa using j),Ac j,AD,Ar (by omega)]
  generalize l[k]! = x
  by_cases h:x.Name=name<;>simp[h,CJ]) (by unfold Ng;rw[qx (by simp)]),Yb];rfl
theorem SA(l:List AG) name(m:l.length≤9223372036854775807):Jv l name=some (Cw l name):=by
 unfold Jv
 rw[B2 (n:=l.length) (λk=>if l[k]!.Name=name then some l[k]!.Value else none) (λk j=>by
  unfold OV
  rw[qy (by simpa using j),Ac j,AD,Ar (by omega)]
  generalize l[k]! = x
  by_cases h:x.Name=name<;>simp[h,CJ]) (by unfold OV;rw[qx (by simp)]),Yb];rfl
def DO:AG:=⟨[],[]⟩
def Cf(j:AG→AG→List AG→List AG):List AG→List AG→List AG→List AG
 | [],[],c=>c
 | x::a,[],c=>Cf j a [] (j x DO c)
 | [],y::b,c=>Cf j [] b (j DO y c)
 | x::a,y::b,c=>if Ay x.Name y.Name then Cf j a (y::b) (j x DO c) else if Ay y.Name x.Name then Cf j (x::a) b (j DO y c) else Cf j a b (j x y c)
  termination_by a b=>a.length+b.length
def Pp(l:AG→AG→List AG→List AG)(a b:List AG)(i j:Nat)(o:List AG):Option ((Int × Int × List AG) ⊕ Ax Unit (List AG)):=
 if i<a.length∨j<b.length then
  if j=b.length∨(i<a.length∧Ay a[i]!.Name b[j]!.Name=true) then some (.inl (((i+1:Nat):Int),(j:Int),l a[i]! DO o))
  else if i=a.length∨Ay b[j]!.Name a[i]!.Name=true then some (.inl ((i:Int),((j+1:Nat):Int),l DO b[j]! o))
  else some (.inl (((i+1:Nat):Int),((j+1:Nat):Int),l a[i]! b[j]! o))
 else some (.inr (.ext o))
theorem No{l:List AG}{i}(h:i<l.length):l.drop i=l[i]!::l.drop (i+1):=by
 rw[rf h,rN l i h]
theorem mR{f} C(a b c:List AG) B(l:∀x y o, (C x y o).length≤o.length+1)
 (V:∀(i j:Nat) (o:List AG), i≤a.length→j≤b.length→o.length+(a.length - i)+(b.length - j)≤B→f (i, j, o)=Pp C a b i j o) (hB:c.length+a.length+b.length≤B):iter f (0, 0, c)=some (.ext (Cf C a b c)) := by
  have key:∀(m i j:Nat) (o:List AG), i≤a.length→j≤b.length→(a.length - i)+(b.length - j)=m→o.length+m≤B→iter f ((i:Int), (j:Int), o)=some (.ext (Cf C (a.drop i) (b.drop j) o)) := by
    intro m
    induction m using Nat.strongRecOn with
    | _ m F =>
      intro i j o O T X Z
      have q := V i j o O T (by omega)
      unfold Pp at q
      by_cases w:i<a.length
      · rw[No w]
        by_cases A:j<b.length
        · rw[No A]
          rw[qy (.inl w)] at q
          by_cases I:Ay a[i]!.Name b[j]!.Name=true
          · rw[qy (.inr ⟨w, I⟩)] at q
            rw[BW q, Cf, qy I, ← No A]
            exact F (m - 1) (by omega) (i+1) j _ (by omega) T (by omega) (by have := l a[i]! DO o;omega)
          · rw[qx (by rintro(h | h);omega;exact I h.2)] at q
            by_cases M:Ay b[j]!.Name a[i]!.Name=true
            · rw[qy (.inr M)] at q
              rw[BW q, Cf, qx I, qy M, ← No w]
              exact F (m - 1) (by omega) i (j+1) _ O (by omega) (by omega) (by have := l DO b[j]! o;omega)
            · rw[qx (by rintro(h | h);omega;exact M h)] at q
              rw[BW q, Cf, qx I, qx M]
              exact F (m - 2) (by omega) (i+1) (j+1) _ (by omega) (by omega) (by omega) (by have := l a[i]! b[j]! o;omega)
        · have E:j=b.length := by omega
          rw[qy (.inl w), qy (.inl E)] at q
          have hd:b.drop j=[] := by rw[E];simp
          rw[BW q, hd, Cf, ← hd]
          exact F (m - 1) (by omega) (i+1) j _ (by omega) T (by omega) (by have := l a[i]! DO o;omega)
      · have J:i=a.length := by omega
        have hd:a.drop i=[] := by rw[J];simp
        by_cases A:j<b.length
        · rw[qy (.inr A), qx (by rintro(h | h);omega;omega), qy (.inl J)] at q
          rw[No A, BW q, hd, Cf, ← hd]
          exact F (m - 1) (by omega) i (j+1) _ O (by omega) (by omega) (by have := l DO b[j]! o;omega)
        · have E:j=b.length := by omega
          rw[qx (by omega)] at q
          have U:b.drop j=[] := by rw[E];simp
          rw[BJ q, hd, U, Cf]
  exact key _ 0 0 c (si _) (si _) rfl (by omega)
theorem KA{o:List AG}{x}(h:o.length+1≤4398046511104):app 32 o [x]=some (o++[x]):=by
 unfold app;rw[qy (by simp;omega)]
def Ff(x y:AG)(o:List AG):List AG:=if y.Name=[] then o++[x] else if y.Value=[] then o else o++[y]
theorem YG(x y o):(Ff x y o).length≤o.length+1:=by unfold Ff;split;simp;split<;>simp
theorem OD(c:List AG)(x y:AG)(h:c.length+1≤4398046511104):KK c x y=some (Ff x y c):=by
 unfold KK Ff
 rw[KA h,KA h]
 by_cases j:y.Name=[]<;>by_cases l:y.Value=[]<;>simp[j,l]
theorem Ur(x y:AG):x=y↔x.Name=y.Name∧x.Value=y.Value:=by cases x;cases y;simp
theorem ee(a b:List AG) i j(o:List AG)(M:a.length+b.length≤4398046511104)(U:i≤a.length)(V:j≤b.length)(X:o.length+(a.length-i)+(b.length-j)≤4398046511104):Ot a b i j o=Pp Ff a b i j o:=by
 unfold Ot Pp
 by_cases l:i<a.length
 ·rw[qy (by simp;omega),qy (.inl l),Ac l]
  have A:decide ((i:Int)<(a.length:Int))=true:=by simp;omega
  have B:decide ((i:Int)=(a.length:Int))=false:=by simp;omega
  rw[A,B]
  by_cases m:j<b.length
  ·have w:decide ((j:Int)=(b.length:Int))=false:=by simp;omega
   rw[w,Ac m]
   simp only[sE,rq,uE,At,AD,sN]
   rw[OD _ _ _ (by omega),OD _ _ _ (by omega),OD _ _ _ (by omega)]
   simp only[AD]
   rw[Ar (by omega),Ar (by omega)]
   simp only[AD]
   have q:¬ j=b.length:=by omega
   have C:¬ i=a.length:=by omega
   simp only[q,C,l,uV,false_or];rfl
  ·have E:j=b.length:=by omega
   have w:decide ((j:Int)=(b.length:Int))=true:=by simp;omega
   rw[w]
   have F:((true==false)&&(true==true))=false:=rfl
   rw[F]
   simp only[DV,AD,tz]
   rw[qy trivial,qy (.inl E),OD _ _ _ (by omega),AD,Ar (by omega),AD];rfl
 ·have I:i=a.length:=by omega
  have A:decide ((i:Int)<(a.length:Int))=false:=by simp;omega
  have B:decide ((i:Int)=(a.length:Int))=true:=by simp;omega
  rw[A,B]
  by_cases m:j<b.length
  ·have w:decide ((j:Int)=(b.length:Int))=false:=by simp;omega
   have J:decide ((j:Int)<(b.length:Int))=true:=by simp;omega
   have q:¬ j=b.length:=by omega
   rw[w,J,qy (by rfl),qy (.inr m),Ac m]
   have F:((false==false)&&(false==true))=false:=rfl
   have O:((true==false))=false:=rfl
   rw[F,O]
   simp only[DV,AD,sN,tF,tz,uA,sq,tX]
   have T:¬ (j=b.length∨i<a.length∧Ay a[i]!.Name b[j]!.Name=true):=by
    intro h;rcases h with h | h
    ·exact q h
    ·exact l h.1
   rw[qx T,qy (.inl I),OD _ _ _ (by omega),AD,Ar (by omega),AD];rfl
  ·have J:decide ((j:Int)<(b.length:Int))=false:=by simp;omega
   rw[J,qx (by decide),qx (by omega)]
theorem ov(c a b:List AG)(h:c.length+a.length+b.length≤4398046511104):Pb c a b=some (Cf Ff a b c):=by
 unfold Pb
 rw[mR Ff a b c 4398046511104 YG (λi j o l m q=>ee a b i j o (by omega) l m q) h];rfl
theorem lL(a b:List AG)(h:a.length+b.length≤4398046511104):MM a b=some (Cf Ff a b []):=by
 unfold MM;rw[ov [] a b (by simpa using h)];rfl
theorem Ss(a b:List AG)(B:a.length≤9223372036854775807):Jx a b=some (decide (a=b)):=by
 unfold Jx
 by_cases m:a.length=b.length
 ·rw[qx (by simp[m]),B2 (n:=a.length) (λk=>if decide (a[k]! = b[k]!) then none else some false) (λk w=>by
   unfold N9
   rw[qy (by simpa using w),Ac w,Ac (by omega),AD,AD,Ar (by omega)]
   generalize a[k]! = x
   generalize b[k]! = y
   by_cases h:x=y
   ·subst h;simp[CJ]
   ·have A:=h;rw[Ur] at A
    simp only[qz h,uF]
    by_cases j:x.Name=y.Name
    ·have q:¬ x.Value=y.Value:=λe=>A ⟨j,e⟩
     simp[j,q,CJ]
    ·simp[j,CJ]) (by unfold N9;rw[qx (by simp)]),KL,FC]
  by_cases h:a=b
  ·subst h;simp
  ·rw[qz h]
   have:((List.range a.length).all λk=>decide (a[k]! = b[k]!))=false:=by
    rw[← ru,rZ]
    intro l
    apply h
    apply um m
    intro k j q
    have:=l k (rV.2 j)
    simp only[q8] at this
    rwa [rN a k j,rN b k q] at this
   rw[this];rfl
 ·rw[qy (by simp;omega),qz (by rintro rfl;exact m rfl)]
theorem S1(a b:List AG)(B:a.length≤9223372036854775807):LM a b=some (decide (a=b)):=by
 unfold LM
 by_cases m:a.length=b.length
 ·rw[qx (by simp[m]),B2 (n:=a.length) (λk=>if decide (a[k]! = b[k]!) then none else some false) (λk w=>by
   unfold Ou
   rw[qy (by simpa using w),Ac w,Ac (by omega),AD,AD,Ar (by omega)]
   generalize a[k]! = x
   generalize b[k]! = y
   by_cases h:x=y
   ·subst h;simp[CJ]
   ·have A:=h;rw[Ur] at A
    simp only[qz h,uF]
    by_cases j:x.Name=y.Name
    ·have q:¬ x.Value=y.Value:=λe=>A ⟨j,e⟩
     simp[j,q,CJ]
    ·simp[j,CJ]) (by unfold Ou;rw[qx (by simp)]),KL,FC]
  by_cases h:a=b
  ·subst h;simp
  ·rw[qz h]
   have:((List.range a.length).all λk=>decide (a[k]! = b[k]!))=false:=by
    rw[← ru,rZ]
    intro l
    apply h
    apply um m
    intro k j q
    have:=l k (rV.2 j)
    simp only[q8] at this
    rwa [rN a k j,rN b k q] at this
   rw[this];rfl
 ·rw[qy (by simp;omega),qz (by rintro rfl;exact m rfl)]
theorem Xr{α β:Type}[Inhabited α]{f}(l:List α)(j:β→α→β)(I:β→Nat→Prop)(B:∀b k, k<l.length→I b k→I (j b l[k]!) (k+1))
 (C:∀b (k:Nat), k<l.length→I b k→f (b, (k:Int))=some (.inl (j b l[k]!, ((k+1:Nat):Int)))) (E:∀b, f (b, (l.length:Int))=some (.inr b)) (w:β) (F:I w 0):iter f (w, 0)=some (l.foldl j w) := by
  have key:∀(m k:Nat) (b:β), k+m=l.length→I b k→iter f (b, (k:Int))=some ((l.drop k).foldl j b) := by
    intro m
    induction m with
    | zero =>
      intro k b J _
      have:k=l.length := by omega
      subst this
      rw[BJ (E b)];simp
    | succ m M =>
      intro k b J A
      have q:k<l.length := by omega
      rw[BW (C b k q A), M (k+1) _ (by omega) (B b k q A), rf q, sZ, rN l k q]
  have := key l.length 0 w (by omega) F
  simpa using this
theorem ix{α β:Type}[Inhabited α]{f}(l:List α)(j:β→α→β)(I:β→Nat→Prop)(B:∀b k, k<l.length→I b k→I (j b l[k]!) (k+1))
 (C:∀b (k:Nat), k<l.length→I b k→f ((k:Int), b)=some (.inl (((k+1:Nat):Int), j b l[k]!))) (E:∀b, f ((l.length:Int), b)=some (.inr b)) (w:β) (F:I w 0):iter f (0, w)=some (l.foldl j w) := by
  have key:∀(m k:Nat) (b:β), k+m=l.length→I b k→iter f ((k:Int), b)=some ((l.drop k).foldl j b) := by
    intro m
    induction m with
    | zero =>
      intro k b J _
      have:k=l.length := by omega
      subst this
      rw[BJ (E b)];simp
    | succ m M =>
      intro k b J A
      have q:k<l.length := by omega
      rw[BW (C b k q A), M (k+1) _ (by omega) (B b k q A), rf q, sZ, rN l k q]
  have := key l.length 0 w (by omega) F
  simpa using this
theorem fI{α γ β:Type}[Inhabited α]{f}(l:List α)(j:γ × β→α→γ × β)(I:γ × β→Nat→Prop)(B:∀b k, k<l.length→I b k→I (j b l[k]!) (k+1))
 (C:∀c b (k:Nat), k<l.length→I (c, b) k→f (c, (k:Int), b)=some (.inl ((j (c, b) l[k]!).1, ((k+1:Nat):Int), (j (c, b) l[k]!).2))) (E:∀c b, f (c, (l.length:Int), b)=some (.inr (c, b))) (c0:γ) (w:β) (F:I (c0, w) 0) :
    iter f (c0, 0, w)=some (l.foldl j (c0, w)) := by
  have key:∀(m k:Nat) (b:γ × β), k+m=l.length→I b k→iter f (b.1, (k:Int), b.2)=some ((l.drop k).foldl j b) := by
    intro m
    induction m with
    | zero =>
      intro k b J _
      have:k=l.length := by omega
      subst this
      rw[BJ (E _ _)];simp
    | succ m M =>
      intro k b J A
      have q:k<l.length := by omega
      rw[BW (C b.1 b.2 k q A), M (k+1) _ (by omega) (B b k q A), rf q, sZ, rN l k q]
  have := key l.length 0 (c0, w) (by omega) F
  simpa using this
theorem Vj a:Ay a []=false:=by cases a<;>rfl
theorem F4:∀ {a b c:List UInt8},Ay a b=true→Ay b c=true→Ay a c=true
 | _,[],_,h,_=>by rw[Vj] at h;cases h
 | _,_::_,[],_,h=>by cases h
 | [],_::_,_::_,_,_=>rfl
 | a::x,b::y,c::z,h,k=>by
  rw[TX] at h k ⊢
  simp only[rH,q8,rF,beq_iff_eq,tm] at h k ⊢
  rcases h with h | ⟨rfl,h⟩<;>rcases k with k | ⟨rfl,k⟩
  ·left;omega
  ·left;exact h
  ·left;exact k
  ·right;exact⟨rfl,F4 h k⟩
def B3(l:List AG):Prop:=l.Pairwise λx y=>Ay x.Name y.Name=true
def BB:List AG→List UInt8→Option AG
 | [],_=>none
 | x::l,n=>if x.Name=n then some x else BB l n
theorem Ib{l}{n}(h:∀e∈l,e.Name≠n):BB l n=none:=by
 induction l with
 | nil=>rfl
 | cons x l j=>rw[BB,qx (h x (rT ..)),j λe m=>h e (rO _ m)]
theorem N6{l}{n}{e:AG}(h:BB l n=some e):e.Name=n∧e∈l:=by
 induction l with
 | nil=>cases h
 | cons x l j=>
  rw[BB] at h
  split at h
  ·cases h;exact⟨‹_›,rT ..⟩
  ·exact⟨(j h).1,rO _ (j h).2⟩
theorem FF{a b}(h:Ay a b=true):b≠a:=by rintro rfl;rw[JP] at h;cases h
theorem E5{x:AG}{l} : B3 (x::l)↔(∀e∈l,Ay x.Name e.Name=true)∧B3 l:=tP
theorem X7:∀ {l m:List AG},B3 l→B3 m→(∀n,BB l n=BB m n)→l=m
 | [],[],_,_,_=>rfl
 | [],y::m,_,_,h=>by have:=h y.Name;simp[BB] at this
 | x::l,[],_,_,h=>by have:=h x.Name;simp[BB] at this
 | x::l,y::m,F,I,h=>by
  have A:=E5.1 F
  have B:=E5.1 I
  have C:x.Name=y.Name:=by
   rcases j:Ay x.Name y.Name with _ | _
   ·rcases q:Ay y.Name x.Name with _ | _
    ·have:=LI x.Name y.Name
     rw[j,q] at this
     simpa using this
    ·have:=h y.Name
     rw[BB,qx (FF q),Ib λe w=>FF (F4 q (A.1 e w)),BB,qy rfl] at this
     cases this
   ·have:=h x.Name
    rw[BB,qy rfl,BB,qx (FF j),Ib λe w=>FF (F4 j (B.1 e w))] at this
    cases this
  have J:x=y:=by
   have:=h x.Name
   rw[BB,qy rfl,BB,qy C.symm] at this
   exact rW this
  subst J
  rw[X7 A.2 B.2 λn=>?_]
  by_cases E:x.Name=n
  ·subst E
   rw[Ib λe w=>FF (A.1 e w),Ib λe w=>FF (B.1 e w)]
  ·have:=h n
   rwa [BB,qx E,BB,qx E] at this
def DR:List AG→AG→List AG
 | [],a=>[a]
 | x::l,a=>if x.Name=a.Name then a::l else if Ay x.Name a.Name=true then x::DR l a else a::x::l
theorem nK{l}{a e}(h:e∈DR l a):e=a∨e∈l:=by
 induction l with
 | nil=>simpa[DR] using h
 | cons x l j=>
  rw[DR] at h
  split at h
  ·rcases ri.1 h with h | h
   ·exact .inl h
   ·exact .inr (rO _ h)
  ·split at h
   ·rcases ri.1 h with h | h
    ·exact .inr (h ▸ rT ..)
    ·rcases j h with h | h
     ·exact .inl h
     ·exact .inr (rO _ h)
   ·rcases ri.1 h with h | h
    ·exact .inl h
    ·exact .inr h
theorem Si{a b}(j:a≠b)(l:¬ Ay a b=true):Ay b a=true:=by
 have:=LI a b
 rw[tU.2 l,qz j] at this
 simpa using this
theorem Ve{l}(a:AG)(h:B3 l):B3 (DR l a):=by
 induction l with
 | nil=>simp[DR,B3]
 | cons x l B=>
  have q:=E5.1 h
  rw[DR]
  split
  ·rename_i A;exact E5.2 ⟨λe j=>by rw[← A];exact q.1 e j,q.2⟩
  ·rename_i A
   split
   ·rename_i m
    exact E5.2 ⟨λe j=>by rcases nK j with rfl | j;exact m;exact q.1 e j,B q.2⟩
   ·rename_i m
    have w:=Si A m
    exact E5.2 ⟨λe j=>by rcases ri.1 j with rfl | j;exact w;exact F4 w (q.1 e j),h⟩
theorem R7 l(a:AG) n:BB (DR l a) n=if a.Name=n then some a else BB l n:=by
 induction l with
 | nil=>simp[DR,BB]
 | cons x l m=>
  rw[DR]
  split
  ·rename_i j
   rw[BB,BB]
   by_cases h:a.Name=n
   ·rw[qy h,qy h]
   ·rw[qx h,qx h,qx (by rw[j];exact h)]
  ·rename_i j
   split
   ·rw[BB,BB,m]
    by_cases h:a.Name=n
    ·rw[qy h,qx (by rw[← h];exact j),qy h]
    ·rw[qx h,qx h]
   ·rw[BB]
theorem Ys(l:List AG) a:(DR l a).length≤l.length+1:=by
 induction l with
 | nil=>simp[DR]
 | cons x l j=>rw[DR];split;simp;split;simp;omega;simp
def EG(a:AG)(s:Bool × List AG)(x:AG):Bool × List AG:=
 let j:=if s.1=false∧Ay x.Name a.Name=false then(true,s.2++[a]) else s
 if x.Name=a.Name then j else(j.1,j.2++[x])
theorem Sj(a:AG):∀(l:List AG) (o:List AG),(∀e∈l,Ay a.Name e.Name=true)→l.foldl (EG a) (true,o)=(true,o++l)
 | [],o,_=>by simp
 | x::l,o,h=>by
  have j:=h x (rT ..)
  have:EG a (true,o) x=(true,o++[x]):=by simp[EG,FF j]
  rw[sZ,this,Sj a l _ λe m=>h e (rO _ m)]
  simp
theorem YW(a:AG):∀(l:List AG) (o:List AG),B3 l→(let s:=l.foldl (EG a) (false,o);if s.1 then s.2 else s.2++[a])=o++DR l a
 | [],o,_=>by simp[DR]
 | x::l,o,h=>by
  have q:=E5.1 h
  rw[sZ,DR]
  by_cases m:x.Name=a.Name
  ·have B:Ay x.Name a.Name=false:=by rw[m];exact JP _
   have:EG a (false,o) x=(true,o++[a]):=by simp[EG,m,JP]
   rw[this,Sj a l _ λe w=>by rw[← m];exact q.1 e w,qy m]
   simp
  ·by_cases j:Ay x.Name a.Name=true
   ·have:EG a (false,o) x=(false,o++[x]):=by simp[EG,m,j]
    rw[this,YW a l _ q.2,qx m,qy j]
    simp
   ·have A:=Si m j
    have:EG a (false,o) x=(true,o++[a]++[x]):=by simp[EG,m,tU.2 j]
    rw[this,Sj a l _ λe w=>F4 A (q.1 e w),qx m,qx j]
    simp
theorem Uv(a:AG) s(x:AG):(EG a s x).2.length≤s.2.length+2:=by
 unfold EG
 have:(if s.1=false∧Ay x.Name a.Name=false then(true,s.2++[a]) else s).2.length≤s.2.length+1:=by split<;>simp
 generalize (if s.1=false∧Ay x.Name a.Name=false then(true,s.2++[a]) else s)=t at this
 by_cases j:x.Name=a.Name
 ·simp only[j,uA];omega
 ·simp only[j,tX,rj,tD];omega
theorem gn(l:List AG)(a:AG)(C:B3 l)(h:l.length≤1099511627776):Km l a=some (DR l a):=by
 unfold Km
 rw[fI l (EG a) (λs k=>s.2.length≤2 * k) (λb k _ w=>by have:=Uv a b l[k]!;show(EG a b l[k]!).2.length≤_;omega) (λc b k A w=>by
  have E:b.length≤2 * k:=w
  unfold NY
  rw[qy (by simpa using A),Ac A,Ar (by omega)]
  simp only[AD]
  generalize l[k]! = x
  have F:app 32 b [a]=some (b++[a]):=KA (by omega)
  have B:app 32 b [x]=some (b++[x]):=KA (by omega)
  have I:app 32 (b++[a]) [x]=some (b++[a]++[x]):=KA (by simp;omega)
  cases c
  ·simp only[tG,sE,At,AD,rq]
   unfold EG
   cases M:Ay x.Name a.Name
   ·by_cases q:x.Name=a.Name<;>simp[F,I,q]
   ·by_cases q:x.Name=a.Name<;>simp[B,q]
  ·have:((!true)==true)=false:=rfl
   rw[this,DV]
   simp only[AD,tL,tF,sq,tX,By]
   unfold EG
   by_cases q:x.Name=a.Name<;>simp[B,q]) (λc b=>by unfold NY;rw[qx (by simp)]) false [] (by simp)]
 have hp:=YW a l [] C
 have j:(l.foldl (EG a) (false,([]:List AG))).2.length≤2 * l.length:=by
  have:∀(m:List AG) (s:Bool × List AG),(m.foldl (EG a) s).2.length≤s.2.length+2 * m.length:=by
   intro m
   induction m with
   | nil=>intro s;simp
   | cons x m J=>intro s;rw[sZ];have:=J (EG a s x);have:=Uv a s x;simp only[rp];omega
  have:=this l (false,[])
  simpa using this
 generalize l.foldl (EG a) (false,([]:List AG))=s at hp j
 obtain⟨c,o⟩:=s
 simp only[By]
 cases c
 ·simp only[tG,uA]
  rw[KA (by simp at j;omega)]
  simpa using hp
 ·simpa using hp
def Dn(g:AG→AG→List AG):List AG→List AG→List AG
 | [],[]=>[]
 | x::a,[]=>g x DO++Dn g a []
 | [],y::b=>g DO y++Dn g [] b
 | x::a,y::b=>if Ay x.Name y.Name then g x DO++Dn g a (y::b) else if Ay y.Name x.Name then g DO y++Dn g (x::a) b else g x y++Dn g a b
  termination_by a b=>a.length+b.length
theorem fF l g(h:∀x y o,l x y o=o++g x y):∀(m:Nat) (a b c:List AG),a.length+b.length=m→Cf l a b c=c++Dn g a b:=by
 intro m
 induction m using Nat.strongRecOn with
 | _ m q=>
  intro a b c j
  cases a with
  | nil=>
   cases b with
   | nil=>simp[Cf,Dn]
   | cons y b=>rw[Cf,Dn,q (m-1) (by simp at j;omega) [] b _ (by simp at j ⊢;omega),h];simp
  | cons x a=>
   cases b with
   | nil=>rw[Cf,Dn,q (m-1) (by simp at j;omega) a [] _ (by simp at j ⊢;omega),h];simp
   | cons y b=>
    rw[Cf,Dn]
    split
    ·rw[q (m-1) (by simp at j;omega) a (y::b) _ (by simp at j ⊢;omega),h];simp
    ·split
     ·rw[q (m-1) (by simp at j;omega) (x::a) b _ (by simp at j ⊢;omega),h];simp
     ·rw[q (m-2) (by simp at j;omega) a b _ (by simp at j ⊢;omega),h];simp
def Qz(l:List AG)(n:List UInt8)(o:Option AG):Prop:=l=o.toList∧∀e,o=some e→e.Name=n
structure QU(g:AG→AG→List AG)(G:Option AG→Option AG→Option AG):Prop where
 l:∀x:AG,x.Name≠[]→Qz (g x DO) x.Name (G (some x) none)
 r:∀y:AG,y.Name≠[]→Qz (g DO y) y.Name (G none (some y))
 b:∀x y:AG,x.Name=y.Name→x.Name≠[]→Qz (g x y) x.Name (G (some x) (some y))
 n:G none none=none
theorem gK{o:Option AG}{j}{rest}(A:∀e,o=some e→e.Name=j)(m:∀e∈rest,Ay j e.Name=true)(q:B3 rest):B3 (o.toList++rest)∧∀n,BB (o.toList++rest) n=if j=n then o else BB rest n:=by
 cases o with
 | none=>
  refine⟨q,λn=>?_⟩
  split
  ·rename_i h;subst h;exact Ib λe l=>FF (m e l)
  ·rfl
 | some x=>
  have w:=A x rfl
  refine⟨E5.2 ⟨λe l=>by rw[w];exact m e l,q⟩,λn=>?_⟩
  show BB (x::rest) n=_
  rw[BB,w]
def Nm(l:List AG):Prop:=∀e∈l,e.Name≠[]
theorem nJ{g}{G}(hg:QU g G):∀(m:Nat) (a b:List AG),a.length+b.length=m→B3 a→B3 b→Nm a→Nm b →
  (∀n,(∀e∈a,Ay n e.Name=true)→(∀e∈b,Ay n e.Name=true)→∀e∈Dn g a b,Ay n e.Name=true)∧B3 (Dn g a b)∧∀n,BB (Dn g a b) n=G (BB a n) (BB b n):=by
 intro m
 induction m using Nat.strongRecOn with
 | _ m ih=>
  intro a b U X V T M
  have tail:∀ {l:List AG} {J:List UInt8} {o:Option AG} {a' b':List AG},Qz l J o→a'.length+b'.length<m→B3 a'→B3 b'→Nm a'→Nm b'→(∀e∈a',Ay J e.Name=true)→(∀e∈b',Ay J e.Name=true) →
    (∀n,Ay n J=true→∀e∈l++Dn g a' b',Ay n e.Name=true)∧B3 (l++Dn g a' b')∧∀n,BB (l++Dn g a' b') n=if J=n then o else G (BB a' n) (BB b' n):=by
   rintro l J o a' b' ⟨rfl,ho⟩ q Z a0 a1 a2 w C
   obtain⟨i1,i2,i3⟩:=ih _ q a' b' rfl Z a0 a1 a2
   obtain⟨j1,j2⟩:=gK ho (i1 J w C) i2
   refine⟨λn B e j=>?_,j1,λn=>by rw[j2 n,i3 n]⟩
   rcases sU.1 j with j | j
   ·rw[Option.mem_toList] at j;rw[ho e j];exact B
   ·exact F4 B (i1 J w C e j)
  cases a with
  | nil=>
   cases b with
   | nil=>exact⟨λn _ _ e j=>by simp[Dn] at j,by simp[Dn,B3],λn=>by simp[Dn,BB,hg.n]⟩
   | cons y b=>
    have w:=E5.1 V
    have hy:=M y (rT ..)
    rw[Dn]
    obtain⟨E,F,I⟩:=tail (a':=[]) (b':=b) (hg.r y hy) (by simp at U ⊢;omega) X w.2 T (λe j=>M e (rO _ j)) (λe j=>by cases j) w.1
    refine⟨λn _ h e j=>E n (h y (rT ..)) e j,F,λn=>?_⟩
    rw[I n]
    conv=>rhs;rw[BB,BB]
    split
    ·rfl
    ·rfl
  | cons x a=>
   have w:=E5.1 X
   have hx:=T x (rT ..)
   cases b with
   | nil=>
    rw[Dn]
    obtain⟨E,F,I⟩:=tail (a':=a) (b':=[]) (hg.l x hx) (by simp at U ⊢;omega) w.2 V (λe j=>T e (rO _ j)) M w.1 (λe j=>by cases j)
    refine⟨λn h _ e j=>E n (h x (rT ..)) e j,F,λn=>?_⟩
    rw[I n]
    conv=>rhs;rw[BB,BB]
    split
    ·rfl
    ·rfl
   | cons y b=>
    have C:=E5.1 V
    have hy:=M y (rT ..)
    rw[Dn]
    split
    ·rename_i q
     obtain⟨E,F,I⟩:=tail (a':=a) (b':=y::b) (hg.l x hx) (by simp at U ⊢;omega) w.2 V (λe j=>T e (rO _ j)) M w.1 (λe j=>by
      rcases ri.1 j with rfl | j
      ·exact q
      ·exact F4 q (C.1 e j))
     refine⟨λn h _ e j=>E n (h x (rT ..)) e j,F,λn=>?_⟩
     rw[I n]
     by_cases B:x.Name=n
     ·subst B
      rw[qy rfl,BB,qy rfl,Ib λe j=>by
       rcases ri.1 j with rfl | j
       ·exact FF q
       ·exact FF (F4 q (C.1 e j))]
     ·rw[qx B];conv=>rhs;rw[BB,qx B]
    ·rename_i q
     split
     ·rename_i A
      obtain⟨E,F,I⟩:=tail (a':=x::a) (b':=b) (hg.r y hy) (by simp at U ⊢;omega) X C.2 T (λe j=>M e (rO _ j)) (λe j=>by
       rcases ri.1 j with rfl | j
       ·exact A
       ·exact F4 A (w.1 e j)) C.1
      refine⟨λn _ h e j=>E n (h y (rT ..)) e j,F,λn=>?_⟩
      rw[I n]
      by_cases B:y.Name=n
      ·subst B
       rw[qy rfl]
       conv=>rhs;rw[Ib (l:=x::a) (λe j=>by
        rcases ri.1 j with rfl | j
        ·exact FF A
        ·exact FF (F4 A (w.1 e j))),BB,qy rfl]
      ·rw[qx B];conv=>rhs;arg 2;rw[BB,qx B]
     ·rename_i A
      have O:x.Name=y.Name:=by
       have:=LI x.Name y.Name
       rw[tU.2 q,tU.2 A] at this
       simpa using this
      obtain⟨E,F,I⟩:=tail (a':=a) (b':=b) (hg.b x y O hx) (by simp at U ⊢;omega) w.2 C.2 (λe j=>T e (rO _ j)) (λe j=>M e (rO _ j)) w.1 (λe j=>by rw[O];exact C.1 e j)
      refine⟨λn h _ e j=>E n (h x (rT ..)) e j,F,λn=>?_⟩
      rw[I n]
      conv=>rhs;rw[BB,BB,← O]
      split<;>rfl
def Hq:Option AG→Option AG→Option AG
 | o,none=>o
 | _,some y=>if y.Value=[] then none else some y
theorem XJ{j}{g}{G}(h:∀x y o,j x y o=o++g x y)(hg:QU g G){a b}(l:B3 a)(m:B3 b)(q:Nm a)(w:Nm b) :
  B3 (Cf j a b [])∧∀n,BB (Cf j a b []) n=G (BB a n) (BB b n):=by
 rw[fF j g h _ a b [] rfl,sO]
 exact(nJ hg _ a b rfl l m q w).2
def Mh(x y:AG):List AG:=if y.Name=[] then [x] else if y.Value=[] then [] else [y]
theorem Up:QU Mh Hq:=by
 refine⟨λx m=>⟨by simp[Mh,Hq,DO],by rintro e ⟨⟩;rfl⟩,λy q=>⟨?_,?_⟩,λx y l m=>⟨?_,?_⟩,rfl⟩
 ·simp only[Mh,Hq,qx q];split<;>rfl
 ·intro e j;simp only[Hq] at j;split at j<;>cases j;rfl
 ·rw[l] at m;simp only[Mh,Hq,qx m];split<;>rfl
 ·intro e j;simp only[Hq] at j;split at j<;>cases j;exact l.symm
theorem Uk(x y o):Ff x y o=o++Mh x y:=by unfold Ff Mh;split;rfl;split;simp;rfl
theorem iJ{l:List AG}(h:∀k,k+1<l.length→Ay l[k]!.Name l[k+1]!.Name=true):B3 l:=by
 induction l with
 | nil=>exact List.Pairwise.nil
 | cons x l w=>
  have m:=w λk A=>by have:=h (k+1) (by simp;omega);simpa using this
  refine E5.2 ⟨λe j=>?_,m⟩
  cases l with
  | nil=>cases j
  | cons y l=>
   have q:Ay x.Name y.Name=true:=by have:=h 0 (by simp);simpa using this
   rcases ri.1 j with rfl | j
   ·exact q
   ·exact F4 q ((E5.1 m).1 e j)
theorem I8{l:List AG}{ch:Bool}(h:CI l ch=0):B3 l∧Nm l∧(ch=false→∀e∈l,e.Value≠[]):=by
 have hn:∀k,k<l.length→Ez l ch k=none:=by
  intro k hk
  unfold CI at h
  cases hf:(List.range l.length).findSome? (Ez l ch) with
  | none=>exact(VN _ _).1 hf k hk
  | some r=>
   rw[hf] at h
   obtain⟨j,_,hj⟩:=sF hf
   exfalso
   unfold Ez at hj
   simp only[sW] at h
   subst h
   repeat' split at hj
   all_goals simp at hj
 have hname:∀k,k<l.length→Eh l[k]!.Name=true∧¬ (Du l[k]!.Value=false∧¬ (ch=true∧l[k]!.Value=[]))∧¬ (0<k∧Ay l[k-1]!.Name l[k]!.Name=false):=by
  intro k hk
  have:=hn k hk
  unfold Ez at this
  split at this
  ·cases this
  ·split at this
   ·cases this
   ·split at this
    ·cases this
    ·exact⟨by rcases hx:Eh l[k]!.Name with _ | _;exact absurd hx (by assumption);rfl,‹_›,‹_›⟩
 refine⟨iJ λk hk=>?_,λe he=>?_,λhc e he=>?_⟩
 ·have:=(hname (k+1) hk).2.2
  rw[uY] at this
  simpa using this
 ·obtain⟨k,hk,rfl⟩:=sA.1 he
  have:=(hname k hk).1
  rw[rN l k hk] at this
  intro e0
  rw[e0] at this
  simp[Eh] at this
 ·obtain⟨k,hk,rfl⟩:=sA.1 he
  have:=(hname k hk).2.1
  rw[rN l k hk,hc] at this
  intro e0
  apply this
  rw[e0]
  exact⟨rfl,by simp⟩
theorem Vc(p:AG→Bool)(h:AG→AG)(j:∀x,(h x).Name=x.Name):∀(l o:List AG),B3 l→B3 o →
  B3 (l.foldl (λo x=>if p x then DR o (h x) else o) o)∧∀n,BB (l.foldl (λo x=>if p x then DR o (h x) else o) o) n=match BB l n with | some x=>if p x then some (h x) else BB o n | none=>BB o n
 | [],o,_,m=>⟨m,λn=>rfl⟩
 | x::l,o,B,m=>by
  have A:=E5.1 B
  have w:B3 (if p x then DR o (h x) else o):=by split;exact Ve _ m;exact m
  obtain⟨C,E⟩:=Vc p h j l _ A.2 w
  refine⟨C,λn=>?_⟩
  rw[sZ,E n,BB]
  by_cases q:x.Name=n
  ·subst q
   rw[qy rfl,Ib λe F=>FF (A.1 e F)]
   cases hp:p x
   ·simp[hp]
   ·simp[hp,R7,j]
  ·rw[qx q]
   cases I:BB l n with
   | some z => 
    cases hp:p x
    ·simp[hp]
    ·simp[hp,R7,j,q]
   | none=>
    cases hp:p x
    ·simp[hp]
    ·simp[hp,R7,j,q]
theorem je(p:AG→Bool)(h:AG→AG)(l o:List AG):(l.foldl (λo x=>if p x then DR o (h x) else o) o).length≤o.length+l.length:=by
 induction l generalizing o with
 | nil=>simp
 | cons x l j=>
  rw[sZ]
  have m:=j (if p x then DR o (h x) else o)
  have q:(if p x then DR o (h x) else o).length≤o.length+1:=by split;exact Ys _ _;omega
  simp only[rp]
  omega
def F3(l o:List AG):List AG:=l.foldl (λo x=>if(λ_=>true) x then DR o (id x) else o) o
theorem T5{l o}(j:B3 l)(m:B3 o):B3 (F3 l o)∧∀n,BB (F3 l o) n=match BB l n with | some x=>some x | none=>BB o n:=by
 obtain⟨q,w⟩:=Vc (λ_=>true) id (λ_=>rfl) l o j m
 refine⟨q,λn=>?_⟩
 unfold F3
 rw[w n]
 cases BB l n<;>simp
theorem YP(l o:List AG):(F3 l o).length≤o.length+l.length:=je _ _ _ _
theorem V6{f}(l o:List AG)(q:B3 o)(C:o.length+l.length≤1099511627776)
 (w:∀b (k:Nat), k<l.length→f (b, (k:Int))=(AB (Km b l[k]!) λo2 => AB (AZ .i64 ((k:Int)+1)) λx => some (.inl (o2, x)))) (A:∀b, f (b, (l.length:Int))=some (.inr b)):iter f (o, 0)=some (F3 l o) := by
  unfold F3
  refine Xr l _ (λb k => B3 b∧b.length≤o.length+k) (λb k m ⟨j, B⟩ => ?_) (λb k m ⟨j, B⟩ => ?_) A o ⟨q, by omega⟩
  · have := Ys b l[k]!
    exact⟨Ve _ j, by show(DR b l[k]!).length≤_;omega⟩
  · rw[w b k m, gn b _ j (by omega), AD, Ar (by omega)];rfl
def FM(l:List AG):List AG:=l.filter λa=>!(a.Value=[])
theorem my{l}(h:B3 l):B3 (FM l)∧∀n,BB (FM l) n=(BB l n).filter λa=>!(a.Value=[]):=by
 induction l with
 | nil=>exact⟨List.Pairwise.nil,λn=>rfl⟩
 | cons x l C=>
  have w:=E5.1 h
  obtain⟨A,B⟩:=C w.2
  have j:∀e∈FM l,Ay x.Name e.Name=true:=λe q=>w.1 e (sV.1 q).1
  by_cases m:x.Value=[]
  ·have:FM (x::l)=FM l:=by simp[FM,m]
   rw[this]
   refine⟨A,λn=>?_⟩
   rw[BB]
   split
   ·rename_i E;subst E
    rw[Ib λe q=>FF (j e q)]
    simp[Option.filter,m]
   ·exact B n
  ·have:FM (x::l)=x::FM l:=by simp[FM,m]
   rw[this]
   refine⟨E5.2 ⟨j,A⟩,λn=>?_⟩
   rw[BB,BB]
   split
   ·simp[Option.filter,m]
   ·exact B n
theorem eV(l q:List AG)(C:B3 l)(hc:B3 q)(h:l.length+q.length≤1099511627776):Lw l q=some (FM (F3 q (F3 l []))):=by
 unfold Lw
 have B:B3 ([]:List AG):=List.Pairwise.nil
 have E:=(T5 C B).1
 have A:=YP l []
 have F:=YP q (F3 l [])
 rw[V6 l [] B (by simp;omega) (λb k j=>by unfold NU;rw[qy (by simpa using j),Ac j];rfl) (λb=>by unfold NU;rw[qx (by simp)]),AD,
  V6 q _ E (by simp at A;omega) (λb k j=>by unfold OQ;rw[qy (by simpa using j),Ac j];rfl) (λb=>by unfold OQ;rw[qx (by simp)]),AD]
 generalize F3 q (F3 l [])=r at F
 rw[ix r (λo x=>if x.Value=[] then o else o++[x]) (λb k=>b.length≤k) (λb k j I=>by split;omega;simp;omega) (λb k j I=>by
  unfold Mt
  rw[qy (by simpa using j),Ac j,AD,Ar (by simp at A;omega)]
  generalize r[k]! = x
  by_cases w:x.Value=[]
  ·simp[w]
  ·have:=KA (o:=b) (x:=x) (by simp at A;omega)
   simp[w,this]) (λb=>by unfold Mt;rw[qx (by simp)]) [] (by simp),AD]
 have:∀(m o:List AG),m.foldl (λo x=>if x.Value=[] then o else o++[x]) o=o++FM m:=by
  intro m
  induction m with
  | nil=>intro o;simp[FM]
  | cons x m J=>
   intro o
   rw[sZ,J]
   by_cases w:x.Value=[]
   ·simp[w,FM]
   ·simp[w,FM]
 rw[this];rfl
theorem oI{l j}(w:CI l false=0)(A:CI j true=0):Cf Ff l j []=FM (F3 j (F3 l [])):=by
 obtain⟨m,B,v1⟩:=I8 w
 obtain⟨q,C,_⟩:=I8 A
 have E:B3 ([]:List AG):=List.Pairwise.nil
 obtain⟨F,I⟩:=T5 m E
 obtain⟨J,M⟩:=T5 q F
 obtain⟨O,T⟩:=my J
 obtain⟨U,m2⟩:=XJ Uk Up m q B C
 refine X7 U O λn=>?_
 rw[m2,T,M,I]
 cases Z:BB j n with
 | some y=>
  simp only[Hq,Option.filter]
  by_cases V:y.Value=[]<;>simp[V]
 | none=>
  cases X:BB l n with
  | some x=>simp[Hq,Option.filter,v1 rfl x (N6 X).2]
  | none=>simp[Hq,BB,Option.filter]
theorem Vl{ρ:Type}(g:AG→Option ρ)(l:List AG):(List.range l.length).findSome? (λk=>g l[k]!)=l.findSome? g:=by
 induction l with
 | nil=>rfl
 | cons a l j=>
  rw[rp,List.range_succ_eq_map,sd,List.findSome?_map,sd]
  have:(List.range l.length).findSome? ((λk=>g (a::l)[k]!) ∘ Nat.succ)=l.findSome? g:=by
   rw[← j];exact V1 λk _=>by simp
  rw[this]
  simp
theorem Wj{ρ:Type}(l:List AG)(n:List UInt8)(v:AG→ρ):(l.findSome? λx=>if x.Name=n then some (v x) else none)=(BB l n).map v:=by
 induction l with
 | nil=>rfl
 | cons x l j=>
  rw[sd,BB]
  by_cases h:x.Name=n
  ·simp[h]
  ·simp[h,j]
theorem V9(l:List AG)(n:List UInt8):Cw l n=match BB l n with | some x=>x.Value | none=>[]:=by
 unfold Cw
 rw[Vl (λx=>if x.Name=n then some x.Value else none) l,Wj l n (·.Value)]
 cases BB l n<;>rfl
theorem Ya(l:List AG)(n:List UInt8)(m:l.length≤9223372036854775807):LS l n=some (BB l n).isSome:=by
 unfold LS
 rw[B2 (n:=l.length) (λk=>(λx:AG=>if x.Name=n then some true else none) l[k]!) (λk j=>by
  unfold Nz
  rw[qy (by simpa using j),Ac j,AD,Ar (by omega)]
  generalize l[k]! = x
  by_cases h:x.Name=n<;>simp[h,CJ]) (by unfold Nz;rw[qx (by simp)]),Vl (λx:AG=>if x.Name=n then some true else none) l,Wj l n (λ_=>true),FC]
 cases BB l n<;>rfl
theorem ez j(h:∀x y o,(j x y o).length≤o.length+1):∀(m:Nat) (a b c:List AG),a.length+b.length=m→(Cf j a b c).length≤c.length+m:=by
 intro m
 induction m using Nat.strongRecOn with
 | _ m q=>
  intro a b c l
  cases a with
  | nil=>
   cases b with
   | nil=>simp[Cf]
   | cons y b=>rw[Cf];have:=q (m-1) (by simp at l;omega) [] b (j DO y c) (by simp at l ⊢;omega);have:=h DO y c;simp at l;omega
  | cons x a=>
   cases b with
   | nil=>rw[Cf];have:=q (m-1) (by simp at l;omega) a [] (j x DO c) (by simp at l ⊢;omega);have:=h x DO c;simp at l;omega
   | cons y b=>
    rw[Cf]
    split
    ·have:=q (m-1) (by simp at l;omega) a (y::b) (j x DO c) (by simp at l ⊢;omega);have:=h x DO c;simp at l;omega
    ·split
     ·have:=q (m-1) (by simp at l;omega) (x::a) b (j DO y c) (by simp at l ⊢;omega);have:=h DO y c;simp at l;omega
     ·have:=q (m-2) (by simp at l;omega) a b (j x y c) (by simp at l ⊢;omega);have:=h x y c;simp at l;omega
theorem H6{σ β:Type}{f}(n:Nat)(R:Nat→σ→Prop)(Q:β→Prop)
 (A:∀k s, k<n→R k s→(∃j, f s=some (.inl j)∧R (k+1) j)∨(∃b, f s=some (.inr b)∧Q b))
 (B:∀s, R n s→∃b, f s=some (.inr b)∧Q b) {s} (C:R 0 s):∃b, iter f s=some b∧Q b := by
  have key:∀m k s, k+m=n→R k s→∃b, iter f s=some b∧Q b := by
    intro m
    induction m with
    | zero =>
      intro k s E l
      obtain rfl:k=n := by omega
      obtain⟨b, F, I⟩ := B s l
      exact⟨b, BJ F, I⟩
    | succ m J =>
      intro k s E l
      rcases A k s (by omega) l with ⟨j, q, w⟩ | ⟨b, q, w⟩
      · obtain⟨b, M, O⟩ := J (k+1) j (by omega) w
        exact⟨b, by rw[BW q, M], O⟩
      · exact⟨b, BJ q, w⟩
  exact key n 0 s (by omega) C
theorem Y9{α:Type}[Inhabited α]{l:List α}{k}(h:k<l.length):l.drop k=l[k]!::l.drop (k+1):=by
 rw[rf h,rN l k h]
theorem O6{α:Type}[Inhabited α]{l:List α}{k}(h:k<l.length):l.take (k+1)=l.take k++[l[k]!]:=by
 rw[List.take_add_one,rA h,rN l k h];rfl
theorem Bm{α:Type}[Inhabited α]{l:List α}{k}(h:k<l.length):l[k]! ∈ l:=by
 rw[rN l k h];exact rm h
theorem Mf{x}(j : -9223372036854775808≤x)(l:x≤9223372036854775807):AZ .i64 x=some x:=Cn j l
theorem Pa x j l:DF x j l=some ((j≤x)&&(x≤l)):=by
 unfold DF
 rfl
theorem Im{α σ β γ:Type}[Inhabited α]{f}(l:List α)(mk:γ→Nat→σ)(j:List α→γ→β)(I:Nat→γ→Prop)
 (B:∀k c, k<l.length→I k c→(∃q, f (mk c k)=some (.inl (mk q (k+1)))∧I (k+1) q∧j (l[k]!::l.drop (k+1)) c=j (l.drop (k+1)) q)∨f (mk c k)=some (.inr (j (l[k]!::l.drop (k+1)) c)))
 (C:∀c, I l.length c→f (mk c l.length)=some (.inr (j [] c))) (c:γ) (E:I 0 c) (s:σ) (F:s=mk c 0):iter f s=some (j l c) := by
  subst F
  have key:∀m k c, k+m=l.length→I k c→iter f (mk c k)=some (j (l.drop k) c) := by
    intro m
    induction m with
    | zero =>
      intro k c J w
      obtain rfl:k=l.length := by omega
      rw[List.drop_length]
      exact BJ (C c w)
    | succ m M =>
      intro k c J w
      rw[Y9 (by omega)]
      rcases B k c (by omega) w with ⟨q, A, O, T⟩ | A
      · rw[BW A, M (k+1) q (by omega) O, T]
      · exact BJ A
  have := key l.length 0 c (by omega) E
  rwa [sg] at this
theorem Jr{o:List Int}{x}(h:o.length+1≤1099511627776):app 8 o [x]=some (o++[x]):=by
 unfold app;rw[qy (by simp;omega)]
def HG(c:Int):Bool:=(c=9)||(c=10)||((32≤c)&&(c≤126))||((160≤c)&&(c≤55295))||((57344≤c)&&(c≤1114111))
def Ey(x:AN):Int:=
 if(x.Char=0∧x.Ref=0)∨(x.Char≠0∧x.Ref≠0) then 4 else if(x.Char≠0∧HG x.Char=false)∨(x.Ref≠0∧¬ (1≤x.Ref∧x.Ref≤1073741824)) then 2 else CI x.Attrs false
def Eo(x:AN):Prop:=x.Attrs.length≤9223372036854775807∧Ic x.Attrs
theorem Yu c:Mn c=some (HG c):=by
 unfold Mn HG
 congr 1
 rw[ro]
 simp only[rH,rF,q8]
 omega
theorem YY c:Mp c=some (HG c):=by
 unfold Mp HG
 rw[Pa,Pa,Pa]
 generalize decide (c=9)=j
 generalize decide (c=10)=l
 generalize ((32≤c)&&(c≤126))=a3
 generalize ((160≤c)&&(c≤55295))=a4
 generalize ((57344≤c)&&(c≤1114111))=a5
 cases j<;>cases l<;>cases a3<;>cases a4<;>cases a5<;>rfl
theorem WP(x:AN)(h:Eo x):OJ x=some (Ey x):=by
 unfold OJ Ey
 rw[Yu,Rn _ h.2 h.1]
 by_cases c:x.Char=0
 ·by_cases r:x.Ref=0
  ·simp[c,r]
  ·by_cases q:1≤x.Ref∧x.Ref≤1073741824
   ·have j:¬ x.Ref<1:=by omega
    have l:¬ 1073741824<x.Ref:=by omega
    simp[c,r,q,j,l]
   ·have j:x.Ref<1∨1073741824<x.Ref:=by omega
    simp[c,r,q,j]
 ·by_cases r:x.Ref=0
  ·cases m:HG x.Char<;>simp[c,r,m]
  ·simp[c,r]
theorem Wx(x:AN)(h:Eo x):M3 x=some (Ey x):=by
 unfold M3 Ey
 rw[YY,UX _ _ h.2 h.1,Pa]
 by_cases c:x.Char=0
 ·by_cases r:x.Ref=0
  ·simp[c,r]
  ·by_cases q:1≤x.Ref∧x.Ref≤1073741824
   ·simp[c,r,q]
   ·have j:((1≤x.Ref)&&(x.Ref≤1073741824))=false:=by rw[← ru];simpa using q
    simp[c,r,q,j]
 ·by_cases r:x.Ref=0
  ·cases l:HG x.Char<;>simp[c,r,l]
  ·simp[c,r]
def Fe(f:List AN)(k:Nat):Option Int:=if Ey f[k]! = 0 then none else some (Ey f[k]!)
def IZ(f:List AN):Int:=((List.range f.length).findSome? (Fe f)).getD 0
theorem mx{f:List AN}(h:IZ f=0){k}(w:k<f.length):Ey f[k]! = 0:=by
 unfold IZ at h
 cases l:(List.range f.length).findSome? (Fe f) with
 | some e=>
  rw[l] at h
  have h:e=0:=h
  subst h
  obtain⟨j,_,m⟩:=sF l
  unfold Fe at m
  split at m
  ·cases m
  ·rename_i q;exact absurd (rW m) q
 | none=>
  rw[sH] at l
  have:=l k (rV.2 w)
  unfold Fe at this
  split at this
  ·rename_i q;exact q
  ·cases this
theorem ld{x:AN}(h:Ey x=0):CI x.Attrs false=0:=by
 unfold Ey at h
 split at h
 ·cases h
 ·split at h
  ·cases h
  ·exact h
def MO:List UInt8:=[104,105,100,100,101,110]
def Lt:List UInt8:=[111,110]
def Qi:List UInt8:=[99,117,116]
def T0:List UInt8:=[97,100,100]
def A3(x:AN)(mode:Int):Bool:=(Cw x.Attrs MO=Lt)||((mode=0)&&!(Cw x.Attrs Qi=[]))||((mode=1)&&!(Cw x.Attrs T0=[]))
theorem bS(x:AN) mode(h:Eo x):OU x mode=some (A3 x mode):=by
 unfold OU A3
 rw[N4 _ _ h.1,N4 _ _ h.1,N4 _ _ h.1,AD]
 show(AB (gd ((decide (Cw x.Attrs MO=Lt)==false)&&(decide (mode=0)==true)) (some (Cw x.Attrs Qi))) λ(j:List UInt8)=>
  AB (gd ((((Cw x.Attrs MO=Lt)||((mode=0)&&!(j=[])))==false)&&(decide (mode=1)==true)) (some (Cw x.Attrs T0))) λ(q:List UInt8)=>
   some (((Cw x.Attrs MO=Lt)||((mode=0)&&!(j=[])))||((mode=1)&&!(q=[]))))=_
 cases decide (Cw x.Attrs MO=Lt)
 ·by_cases l:mode=0
  ·subst l
   cases w:decide (Cw x.Attrs Qi=[])<;>simp[w]
  ·by_cases m:mode=1
   ·subst m;simp
   ·simp[l,m]
 ·simp
def seen(f:List AN)(mode:Int)(k:Nat):Bool:=!A3 f[k]! mode||((k+1=f.length)&&(f[k]!.Char=10))
def shown(f:List AN)(mode:Int)(k:Nat):List Int:=((List.range k).filter (seen f mode)).map λ(i:Nat)=>(i:Int)
theorem Vd f mode k:shown f mode (k+1)=if seen f mode k then shown f mode k++[(k:Int)] else shown f mode k:=by
 unfold shown
 rw[tx,List.filter_append]
 split<;>rename_i h<;>simp[h]
theorem VD f mode k:(shown f mode k).length≤k:=by
 unfold shown
 rw[rh]
 exact rM (sR _ _) (by simp)
theorem iZ(f:List AN) mode(h:∀x∈f,Eo x)(w:f.length≤1048576):PV f mode=some (shown f mode f.length):=by
 unfold PV
 obtain⟨b,m,q⟩:=H6 (f:=λ(a:Int × (List Int))=>Mq f mode a.1 a.2) f.length (λk s=>s=((k:Int),shown f mode k)) (λb=>b=shown f mode f.length)
  (λk s j l=>by
   subst l
   left
   have A:=VD f mode k
   unfold Mq
   simp only
   rw[qy (by simpa using j),Ac j,AD,Ar (by omega),bS _ _ (h _ (Bm j)),AD,Mf (by omega) (by omega),Jr (by omega),Vd]
   unfold seen
   generalize f[k]! = x
   refine⟨_,?_,rfl⟩
   have e:decide ((k:Int)=(f.length:Int)-1)=decide (k+1=f.length):=by rw[ro];simp;omega
   cases A3 x mode
   ·simp
   ·simp only[tL,sE,At,AD,sN,e]
    cases ((k+1=f.length)&&(x.Char=10))<;>rfl)
  (λs l=>by
   subst l
   unfold Mq
   exact⟨_,by rw[qx (by simp)],rfl⟩) (s:=(0,[])) rfl
 rw[m,q];rfl
theorem pF(f:List AN) mode(h:∀x∈f,Eo x)(F:IZ f=0)(V:f.length≤1048576):Np f mode=some (shown f mode f.length):=by
 unfold Np
 obtain⟨b,I,J⟩:=H6 (f:=λ(a:Int × (List Int))=>La f mode a.1 a.2) f.length (λk s=>s=((k:Int),shown f mode k)) (λb=>b=shown f mode f.length)
  (λk s l q=>by
   subst q
   left
   have X:=VD f mode k
   have A:=ld (mx F l)
   have m:=h _ (Bm l)
   unfold La
   simp only
   rw[qy (by simpa using l),Ac l,AD,Ar (by omega),Mf (by omega) (by omega),Jr (by omega),Vd]
   unfold seen
   generalize f[k]! = x at A m ⊢
   obtain⟨Z,n1,v1⟩:=I8 A
   have B:∀n,(BB x.Attrs n).isSome=!(Cw x.Attrs n=[]):=λn=>by
    rw[V9]
    cases M:BB x.Attrs n with
    | none=>rfl
    | some y=>have:=v1 rfl y (N6 M).2;simp[this]
   rw[SA _ _ m.1,Ya _ _ m.1,Ya _ _ m.1,AD,B,B]
   refine⟨_,?_,rfl⟩
   have e:decide ((k:Int)=(f.length:Int)-1)=decide (k+1=f.length):=by rw[ro];simp;omega
   have key:∀b:Bool,(AB (gd (b==false) (some ((f.length:Int)-1))) λ(O:Int)=>if(b||(((k:Int)=O)&&(x.Char=10)))=true then(AB (some (shown f mode k++[(k:Int)])) λj=>some j) else some (shown f mode k)) =
     some (if(b||((k+1=f.length)&&(x.Char=10)))=true then shown f mode k++[(k:Int)] else shown f mode k):=by
    intro b
    cases b
    ·simp only[sE,At,AD,e];split<;>rfl
    ·rfl
   simp only[key]
   clear key e
   unfold A3 MO Lt Qi T0
   generalize decide (k+1=f.length)=le
   generalize decide (x.Char=10)=ce
   generalize decide (Cw x.Attrs [104,105,100,100,101,110]=[111,110])=w
   generalize decide (Cw x.Attrs [99,117,116]=[])=T
   generalize decide (Cw x.Attrs [97,100,100]=[])=U
   by_cases C:mode=0
   ·subst C
    cases w<;>cases T<;>cases le<;>cases ce<;>simp
   ·by_cases E:mode=1
    ·subst E
     cases w<;>cases U<;>cases le<;>cases ce<;>simp
    ·cases w<;>cases le<;>cases ce<;>simp[C,E])
  (λs q=>by
   subst q
   unfold La
   exact⟨_,by rw[qx (by simp)],rfl⟩) (s:=(0,[])) rfl
 rw[I,J];rfl
theorem Cd{p}[Decidable p](h:¬ p):(!decide p)=true:=by simp[h]
theorem De{p}[Decidable p](h:p):¬ ((!decide p)=true):=by simp[h]
def IC(l:List AG):Prop:=l.length≤1073741824∧Ic l
inductive Un where
 | a (e:AN)
 | r (cut:Bool) (at_:List AG)
theorem P0{α:Type}{o:List α}{x}(h:o.length+1≤1099511627776):app 24 o [x]=some (o++[x]):=by
 unfold app;rw[qy];simp only[tD];omega
theorem W3{α:Type}{l:List α}{k:Nat}{x:α} : l.set ((k:Int).toNat) x=l.set k x:=by simp
theorem mS{α β:Type}[Inhabited α]{f}(l:List α)(g:α→β)(z:β)
 (h:∀(k:Nat) (out:List β), k<l.length→out.length=l.length→f ((k:Int), out)=some (.inl (((k+1:Nat):Int), out.set k (g l[k]!)))) (j:∀out, f ((l.length:Int), out)=some (.inr out)) :
    iter f (0, List.replicate l.length z)=some (l.map g) := by
  have key:∃r, iter f (0, List.replicate l.length z)=some r∧r=l.map g := by
    refine H6 l.length (λk q => q=((k:Int), (l.take k).map g++List.replicate (l.length - k) z)) _ ?_ ?_ (by simp)
    · rintro k q w rfl
      refine .inl ⟨_, h k _ w (by simp;omega), ?_⟩
      congr 1
      obtain⟨m, A⟩:∃m, l.length - k=m+1 := ⟨l.length - k - 1, by omega⟩
      rw[A, List.replicate_succ, O6 w, s6, uO _ _ (by rw[rh, sb];omega), show l.length - (k+1)=m by omega]
      have:k - ((l.take k).map g).length=0 := by simp;omega
      rw[this, List.set_cons_zero, sJ];rfl
    · rintro q rfl
      refine⟨_, j _, by simp⟩
  obtain⟨r, B, C⟩ := key
  rw[B, C]
theorem UE{l:List AG}(h:l.length≤1073741824):app 32 [] l=some l:=by
 unfold app;rw[qy];rfl;simp;omega
theorem lN{α:Type}{n:Nat}(z:α)(h:n≤4294967296):mk 40 (n:Int) z=some (List.replicate n z):=by
 unfold mk;rw[qy (by omega)];simp
theorem lf(f:List AN)(l:f.length≤4294967296)(h:∀e∈f,IC e.Attrs):PG f=some f:=by
 unfold PG
 rw[lN _ l,AD]
 have:=mS (f:=λ(a:Int × (List AN))=>JC f a.1 a.2) f id (AN.mk 0 0 []) (λk out j q=>by
  have m:=(h _ (Bm j)).1
  show JC f (k:Int) out=_
  unfold JC
  rw[qy (by simpa using j),Ac j,AD,UE m,AD,Ac (by omega),AD,Ar (by omega),AD,W3]
  rfl) (λout=>by
  show JC f (f.length:Int) out=_
  unfold JC
  rw[qx (by simp)])
 rw[this,List.map_id];rfl
theorem dQ{α:Type}(l:List α)(n:Int)(j:0≤n)(h:n≤l.length):DY l 0 n=some (l.take n.toNat):=by
 unfold DY;rw[qy (by omega)];simp
theorem oY(x y:AN)(h:x.Attrs.length≤1073741824):M9 x y=some (decide (x=y)):=by
 unfold M9
 rw[S1 _ _ (by omega)]
 obtain⟨j,l,m⟩:=x
 obtain⟨q,w,A⟩:=y
 by_cases B:j=q<;>by_cases C:l=w<;>by_cases E:m=A<;>simp[B,C,E,default]
theorem SI{α:Type}[Inhabited α][DecidableEq α]{a b:List α}(l:a.length=b.length)(h:((List.range a.length).all λk=>decide (a[k]! = b[k]!))=true):a=b:=by
 apply um l
 intro k j m
 have:=rZ.1 h k (rV.2 j)
 simp only[q8] at this
 rwa [rN a k j,rN b k m] at this
theorem Ub{α:Type}[Inhabited α][DecidableEq α](a:List α):((List.range a.length).all λk=>decide (a[k]! = a[k]!))=true:=by
 rw[rZ];intro k _;rw[q7 rfl]
theorem oS(a b:List AN)(q:a.length≤9223372036854775806)(h:∀e∈a,e.Attrs.length≤1073741824):Ns a b=some (decide (a=b)):=by
 unfold Ns
 by_cases j:a.length=b.length
 ·rw[qx (by simp[j]),B2 (n:=a.length) (λk=>if decide (a[k]! = b[k]!) then none else some false) (λk l=>by
   unfold PB
   rw[qy (by simpa using l),Ac l,Ac (by omega),AD,AD,oY _ _ (h _ (Bm l)),AD,Ar (by omega)]
   generalize a[k]! = x
   generalize b[k]! = y
   by_cases h:x=y<;>simp[h,CJ]) (by unfold PB;rw[qx (by simp)]),KL,FC]
  by_cases h:a=b
  ·subst h;rw[Ub,q7 rfl];rfl
  ·rw[qz h]
   have:((List.range a.length).all λk=>decide (a[k]! = b[k]!))=false:=by
    rw[← ru];exact λm=>h (SI j m)
   rw[this];rfl
 ·rw[qy (by simp;omega),qz (by rintro rfl;exact j rfl)]
theorem SL{κ}(j:∀a,a.Name.length+a.Value.length+1≤κ a){l:List AG}(q:(l.map κ).sum≤1048576):IC l:=by
 have w:=MU (μ:=κ) (λa=>by have:=j a;omega) l
 refine⟨by omega,λa m=>?_⟩
 have A:=H4 (μ:=κ) m
 have:=j a
 omega
theorem lY{ν}{κ}(j:∀e,(e.Attrs.map κ).sum+1≤ν e)(l:∀a,a.Name.length+a.Value.length+1≤κ a){f:List AN}(q:(f.map ν).sum≤1048576):f.length≤1048576∧∀e∈f,IC e.Attrs:=by
 have w:=MU (μ:=ν) (λe=>by have:=j e;omega) f
 refine⟨by omega,λe m=>SL l ?_⟩
 have A:=H4 (μ:=ν) m
 have:=j e
 omega
def W0:Vw:=⟨[],0,0⟩
def MT(f:List AN):Int:=if IZ f≠0 then IZ f else if f=[]∨f[f.length-1]!.Char≠10 then 11 else 0
theorem ZU{f}{k}{r}(h:Fe f k=some r):r≠0:=by
 unfold Fe at h
 split at h
 ·cases h
 ·rename_i j;cases h;exact j
theorem U2(f:List AN)(C:f.length≤1073741824):(A7 (some (Df ((List.range f.length).findSome? (Fe f)))) λ(_:Unit)=>
  AB (gd ((true==true)&&((decide ((f.length:Int)=0))==false)) (AZ .i64 ((f.length:Int)-1))) λ(q:Int)=>
  AB (gd ((true==true)&&((decide ((f.length:Int)=0))==false)) (AL f q)) λ(w:AN)=>
  if(true&&(((f.length:Int)=0)||(!(w.Char=10)))) then some (11:Int) else some 0)=some (MT f):=by
 rw[FC]
 unfold MT IZ
 cases A:(List.range f.length).findSome? (Fe f) with
 | some r=>
  have l:r≠0:=by
   obtain⟨k,B⟩:=sF A
   exact ZU B.2
  dsimp only [Option.getD]
  rw[qy l]
 | none=>
  dsimp only [Option.getD]
  rw[qx (by decide)]
  by_cases m:f=[]
  ·subst m;rfl
  ·have E:0<f.length:=s4.2 m
   have hd:decide ((f.length:Int)=0)=false:=qz (by omega)
   rw[hd,show((true==true)&&(false==false))=true from rfl,At,show((f.length:Int)-1)=((f.length-1:Nat):Int) by omega,Cn (by omega) (by omega),AD,At,Ac (by omega),AD]
   by_cases j:f[f.length-1]!.Char=10
   ·rw[qx (by rw[q7 j];decide),qx (λh=>h.elim m λh=>h j)]
   ·rw[qy (by rw[qz j];decide),qy (.inr j)]
theorem Q7(f:List AN)(h:∀x∈f,Eo x)(l:f.length≤1073741824):FI f true=some (MT f):=by
 unfold FI
 rw[B2 (n:=f.length) (Fe f) (λk j=>by
  unfold KZ Fe
  rw[qy (by simpa using j),Ac j,AD,Ar (by omega),WP _ (h _ (Bm j)),AD]
  by_cases e:Ey f[k]! = 0
  ·rw[qx (De e),qy e];rfl
  ·rw[qy (Cd e),qx e];rfl) (by unfold KZ;rw[qx (by simp)])]
 exact U2 f l
theorem Zw(f:List AN)(h:∀x∈f,Eo x)(l:f.length≤1073741824):Iy f true=some (MT f):=by
 unfold Iy
 rw[B2 (n:=f.length) (Fe f) (λk j=>by
  unfold KT Fe
  rw[qy (by simpa using j),Ac j,AD,Ar (by omega),Wx _ (h _ (Bm j)),AD]
  by_cases e:Ey f[k]! = 0
  ·rw[qx (De e),qy e];rfl
  ·rw[qy (Cd e),qx e];rfl) (by unfold KT;rw[qx (by simp)])]
 exact U2 f l
instance:Inhabited Un:=⟨.r false []⟩
def off(n:List UInt8):AG:=⟨n,[]⟩
theorem gy:GW.length=256:=by decide +kernel
theorem kn(s:List UInt8) k(j:k≤s.length):DY s (k:Int) (s.length:Int)=some (s.drop k):=by
 unfold DY
 rw[qy (by omega)]
 congr 1
 rw[th (by simp),sf]
def Fs(t:Bool)(f:List AN)(k:Nat):Option Int:=if Ey f[k]! = 0 then(if t=false∧f[k]!.Ref=0 then some 8 else none) else some (Ey f[k]!)
theorem gF{x:AN}(h:Ey x=0):(x.Ref=0↔x.Char≠0):=by
 unfold Ey at h
 by_cases c:x.Char=0<;>by_cases r:x.Ref=0<;>simp[c,r] at h ⊢
theorem Tp(f:List AN)(h:∀x∈f,Eo x)(l:f.length≤1073741824):FI f false=some (((List.range f.length).findSome? (Fs false f)).getD 0):=by
 unfold FI
 rw[B2 (n:=f.length) (Fs false f) (λk j=>by
  unfold KZ Fs
  rw[qy (by simpa using j),Ac j,AD,Ar (by omega),WP _ (h _ (Bm j)),AD]
  generalize f[k]! = x
  by_cases e:Ey x=0
  ·rw[qx (De e),qy e]
   by_cases r:x.Ref=0
   ·rw[qy (show(!false&&(x.Ref=0))=true by rw[q7 r];rfl),qy ⟨rfl,r⟩];rfl
   ·rw[qx (show ¬ (!false&&(x.Ref=0))=true by rw[qz r];decide),qx (λh=>r h.2)];rfl
  ·rw[qy (Cd e),qx e];rfl) (by unfold KZ;rw[qx (by simp)])]
 cases (List.range f.length).findSome? (Fs false f)<;>rfl
theorem eJ(f:List AN)(h:∀x∈f,Eo x)(q:f.length≤1073741824):Iy f false=some (((List.range f.length).findSome? (Fs false f)).getD 0):=by
 unfold Iy
 rw[B2 (n:=f.length) (Fs false f) (λk j=>by
  unfold KT Fs
  rw[qy (by simpa using j),Ac j,AD,Ar (by omega),Wx _ (h _ (Bm j)),AD]
  generalize f[k]! = x
  by_cases e:Ey x=0
  ·rw[qx (De e),qy e]
   have m:=gF e
   by_cases r:x.Ref=0
   ·rw[qy (show(!false&&!(x.Char=0))=true by rw[qz (m.1 r)];rfl),qy ⟨rfl,r⟩];rfl
   ·have l:x.Char=0:=rY λl=>r (m.2 l)
    rw[qx (show ¬ (!false&&!(x.Char=0))=true by rw[q7 l];decide),qx (λh=>r h.2)];rfl
  ·rw[qy (Cd e),qx e];rfl) (by unfold KT;rw[qx (by simp)])]
 cases (List.range f.length).findSome? (Fs false f)<;>rfl
theorem jg(f:List AN) t(h:∀x∈f,Eo x)(j:f.length≤1073741824):∃r,FI f t=some r∧Iy f t=some r:=by
 cases t
 ·exact⟨_,Tp f h j,eJ f h j⟩
 ·exact⟨_,Q7 f h j,Zw f h j⟩
theorem jG(a b:List AN)(M:a.length≤9223372036854775806)(h:∀e∈a,e.Attrs.length≤1073741824):Te a b=some (decide (a=b)):=by
 unfold Te
 by_cases j:a.length=b.length
 ·rw[qx (by simp[j]),B2 (n:=a.length) (λk=>if decide (a[k]! = b[k]!) then none else some false) (λk l=>by
   unfold TN
   have O:=h _ (Bm l)
   rw[qy (by simpa using l),Ac l,Ac (by omega),AD,AD,Ss _ _ (by omega),Ar (by omega)]
   generalize a[k]! = x
   generalize b[k]! = y
   obtain⟨m,q,w⟩:=x
   obtain⟨A,B,C⟩:=y
   by_cases E:m=A<;>by_cases F:q=B<;>by_cases I:w=C<;>simp[E,F,I,CJ,default]) (by unfold TN;rw[qx (by simp)]),KL,FC]
  by_cases h:a=b
  ·subst h;rw[Ub,q7 rfl];rfl
  ·rw[qz h]
   have:((List.range a.length).all λk=>decide (a[k]! = b[k]!))=false:=by
    rw[← ru];exact λJ=>h (SI j J)
   rw[this];rfl
 ·rw[qy (by simp;omega),qz (by rintro rfl;exact j rfl)]
theorem jl(f:List AN)(q:f.length≤1073741824):∃r,iter (λ(a:Int × (List Int))=>FZ f a.1 a.2) (0,[])=some r∧r.length≤f.length:=by
 refine H6 f.length (λk l=>l.1=(k:Int)∧l.2.length≤k) _ ?_ ?_ ⟨rfl,by simp⟩
 ·rintro k ⟨x,out⟩ m ⟨rfl,j⟩
  dsimp only at j ⊢
  left
  unfold FZ
  rw[qy (by simpa using m),Ac m,AD]
  by_cases r:f[k]!.Ref=0
  ·rw[qx (De r),AD,Ar (by omega),AD]
   exact⟨_,rfl,rfl,by dsimp only;omega⟩
  ·rw[qy (Cd r),Jr (by omega),AD,AD,Ar (by omega),AD]
   exact⟨_,rfl,rfl,by dsimp only;rw[List.length_append,List.length_singleton];omega⟩
 ·rintro⟨x,out⟩ ⟨rfl,j⟩
  dsimp only at j ⊢
  unfold FZ
  rw[qx (by simp)]
  exact⟨_,rfl,j⟩
theorem JH{α:Type}[Inhabited α][DecidableEq α]{f}(a b:List α)(j:a.length=b.length)
 (l:∀k:Nat, k<a.length→f k=CJ k (if decide (a[k]! = b[k]!) then none else some false)) (m:f a.length=some (.inr (.nrm ()))) :
    (A7 (iter f 0) λ(_:Unit) => some true)=some (decide (a=b)) := by
  rw[B2 (n := a.length) (λk => if decide (a[k]! = b[k]!) then none else some false) l m, KL, FC]
  by_cases h:a=b
  · subst h;rw[Ub, q7 rfl];rfl
  · rw[qz h]
    have:((List.range a.length).all λk => decide (a[k]! = b[k]!))=false := by
      rw[← ru];exact λq => h (SI j q)
    rw[this];rfl
theorem Xm(x y:Ap):((x.Row=y.Row)&&((x.Col=y.Col)&&((x.H=y.H)&&((x.W=y.W)&&true))))=decide (x=y):=by
 obtain⟨j,l,m,q⟩:=x
 obtain⟨w,A,B,C⟩:=y
 rw[ro];simp
theorem YL(x y:Aw):((x.Clock=y.Clock)&&((x.Site=y.Site)&&((x.Kind=y.Kind)&&((x.Item=y.Item)&&((x.Parent=y.Parent)&&((x.Place=y.Place)&&((x.Name=y.Name)&&((x.Value=y.Value)&&true))))))))=decide (x=y):=by
 obtain⟨j,l,m,q,w,A,B,C⟩:=x
 obtain⟨E,F,I,J,M,O,T,U⟩:=y
 rw[ro];simp
theorem aP(a b:List Ap)(m:a.length≤9223372036854775806):Oh a b=some (decide (a=b)):=by
 unfold Oh
 by_cases j:a.length=b.length
 ·rw[qx (by simp[j])]
  exact JH a b j (λk l=>by
   unfold Mu
   rw[qy (by simpa using l),Ac l,Ac (by omega),AD,AD,Xm,Ar (by omega)]
   generalize a[k]! = x
   generalize b[k]! = y
   by_cases h:x=y<;>simp[h,CJ]) (by unfold Mu;rw[qx (by simp)])
 ·rw[qy (by simp;omega),qz (by rintro rfl;exact j rfl)]
theorem lU(a b:List Ap)(m:a.length≤9223372036854775806):Na a b=some (decide (a=b)):=by
 unfold Na
 by_cases j:a.length=b.length
 ·rw[qx (by simp[j])]
  exact JH a b j (λk l=>by
   unfold NV
   rw[qy (by simpa using l),Ac l,Ac (by omega),AD,AD,Xm,Ar (by omega)]
   generalize a[k]! = x
   generalize b[k]! = y
   by_cases h:x=y<;>simp[h,CJ]) (by unfold NV;rw[qx (by simp)])
 ·rw[qy (by simp;omega),qz (by rintro rfl;exact j rfl)]
theorem ZV(a b:List Aw)(m:a.length≤9223372036854775806):UI a b=some (decide (a=b)):=by
 unfold UI
 by_cases j:a.length=b.length
 ·rw[qx (by simp[j])]
  exact JH a b j (λk l=>by
   unfold Sc
   rw[qy (by simpa using l),Ac l,Ac (by omega),AD,AD,YL,Ar (by omega)]
   generalize a[k]! = x
   generalize b[k]! = y
   by_cases h:x=y<;>simp[h,CJ]) (by unfold Sc;rw[qx (by simp)])
 ·rw[qy (by simp;omega),qz (by rintro rfl;exact j rfl)]
theorem cW(a b:List Aw)(m:a.length≤9223372036854775806):NL a b=some (decide (a=b)):=by
 unfold NL
 by_cases j:a.length=b.length
 ·rw[qx (by simp[j])]
  exact JH a b j (λk l=>by
   unfold PR
   rw[qy (by simpa using l),Ac l,Ac (by omega),AD,AD,YL,Ar (by omega)]
   generalize a[k]! = x
   generalize b[k]! = y
   by_cases h:x=y<;>simp[h,CJ]) (by unfold PR;rw[qx (by simp)])
 ·rw[qy (by simp;omega),qz (by rintro rfl;exact j rfl)]
theorem gE(x y:An)(U:x.Attrs.length≤1073741824):M6 x y=some (decide (x=y)):=by
 unfold M6
 rw[Ss _ _ (by omega)]
 obtain⟨j,l,m,q,w⟩:=x
 obtain⟨A,B,C,E,F⟩:=y
 by_cases I:j=A<;>by_cases J:l=B<;>by_cases M:m=C<;>by_cases O:q=E<;>by_cases T:w=F<;>simp[I,J,M,O,T,gd,AD]
theorem ml(x y:An)(U:x.Attrs.length≤1073741824):O1 x y=some (decide (x=y)):=by
 unfold O1
 rw[S1 _ _ (by omega)]
 obtain⟨j,l,m,q,w⟩:=x
 obtain⟨A,B,C,E,F⟩:=y
 by_cases I:j=A<;>by_cases J:l=B<;>by_cases M:m=C<;>by_cases O:q=E<;>by_cases T:w=F<;>simp[I,J,M,O,T,gd,AD]
theorem l6(a b:List An)(m:a.length≤9223372036854775806)(h:∀x∈a,x.Attrs.length≤1073741824):Nl a b=some (decide (a=b)):=by
 unfold Nl
 by_cases j:a.length=b.length
 ·rw[qx (by simp[j])]
  exact JH a b j (λk l=>by
   unfold M1
   rw[qy (by simpa using l),Ac l,Ac (by omega),AD,AD,gE _ _ (h _ (Bm l)),AD,Ar (by omega)]
   generalize a[k]! = x
   generalize b[k]! = y
   by_cases h:x=y<;>simp[h,CJ]) (by unfold M1;rw[qx (by simp)])
 ·rw[qy (by simp;omega),qz (by rintro rfl;exact j rfl)]
theorem eY(a b:List An)(m:a.length≤9223372036854775806)(h:∀x∈a,x.Attrs.length≤1073741824):Oo a b=some (decide (a=b)):=by
 unfold Oo
 by_cases j:a.length=b.length
 ·rw[qx (by simp[j])]
  exact JH a b j (λk l=>by
   unfold Oz
   rw[qy (by simpa using l),Ac l,Ac (by omega),AD,AD,ml _ _ (h _ (Bm l)),AD,Ar (by omega)]
   generalize a[k]! = x
   generalize b[k]! = y
   by_cases h:x=y<;>simp[h,CJ]) (by unfold Oz;rw[qx (by simp)])
 ·rw[qy (by simp;omega),qz (by rintro rfl;exact j rfl)]
def RU(g:Av):Prop:=g.Cells.length≤1048576∧g.Merges.length≤1048576∧∀x∈g.Cells,IC x.Attrs
structure O7(n:AO):Prop where
 at_:IC n.Attrs
 fl:n.Flow.length≤1048576
 fa:∀e∈n.Flow,IC e.Attrs
 gr:RU n.Grid
 dr:n.Draw.length≤1048576
def Pn(d:AR):Prop:=d.Nodes.length≤1048576∧∀n∈d.Nodes,O7 n
theorem Qq x y(h:RU x):KR x y=some (decide (x=y)):=by
 obtain⟨l,m,j⟩:=h
 unfold KR
 rw[aP _ _ (by omega),l6 _ _ (by omega) (λe q=>(j e q).1)]
 obtain⟨w,A,B,C⟩:=x
 obtain⟨E,F,I,J⟩:=y
 by_cases l:w=E<;>by_cases m:A=F<;>by_cases j:B=I<;>by_cases M:C=J<;>simp[l,m,j,M,gd,AD]
theorem gA x y(h:RU x):Nn x y=some (decide (x=y)):=by
 obtain⟨l,m,j⟩:=h
 unfold Nn
 rw[lU _ _ (by omega),eY _ _ (by omega) (λe q=>(j e q).1)]
 obtain⟨w,A,B,C⟩:=x
 obtain⟨E,F,I,J⟩:=y
 by_cases l:w=E<;>by_cases m:A=F<;>by_cases j:B=I<;>by_cases M:C=J<;>simp[l,m,j,M,gd,AD]
theorem dD x y(h:O7 x):TD x y=some (decide (x=y)):=by
 have ha:=h.at_.1
 have hf:=h.fl
 have hd:=h.dr
 unfold TD
 rw[Ss _ _ (by omega),jG _ _ (by omega) (λe j=>(h.fa e j).1),Qq _ _ h.gr,ZV _ _ (by omega)]
 obtain⟨l,m,q,w,A,B⟩:=x
 obtain⟨C,E,F,I,J,M⟩:=y
 by_cases O:l=C<;>by_cases T:m=E<;>by_cases U:q=F<;>by_cases V:w=I<;>by_cases X:A=J<;>by_cases Z:B=M<;>simp[O,T,U,V,X,Z,gd,AD]
theorem eE x y(h:O7 x):NM x y=some (decide (x=y)):=by
 have ha:=h.at_.1
 have hf:=h.fl
 have hd:=h.dr
 unfold NM
 rw[S1 _ _ (by omega),oS _ _ (by omega) (λe j=>(h.fa e j).1),gA _ _ h.gr,cW _ _ (by omega)]
 obtain⟨l,m,q,w,A,B⟩:=x
 obtain⟨C,E,F,I,J,M⟩:=y
 by_cases O:l=C<;>by_cases T:m=E<;>by_cases U:q=F<;>by_cases V:w=I<;>by_cases X:A=J<;>by_cases Z:B=M<;>simp[O,T,U,V,X,Z,gd,AD]
theorem qt(a b:AR)(h:Pn a):X4 a b=some (decide (a.Nodes=b.Nodes)):=by
 unfold X4 YA
 have m:=h.1
 by_cases j:a.Nodes.length=b.Nodes.length
 ·rw[qx (by simp[j]),JH a.Nodes b.Nodes j (λk l=>by
   unfold SB
   rw[qy (by simpa using l),Ac l,Ac (by omega),AD,AD,dD _ _ (h.2 _ (Bm l)),AD,Ar (by omega)]
   generalize a.Nodes[k]! = x
   generalize b.Nodes[k]! = y
   by_cases h:x=y<;>simp[h,CJ]) (by unfold SB;rw[qx (by simp)])]
  rfl
 ·rw[qy (by simp;omega),qz (λe=>j (by rw[e]))];rfl
theorem p7(a b:AR)(h:Pn a):Mx a b=some (decide (a.Nodes=b.Nodes)):=by
 unfold Mx
 have m:=h.1
 by_cases j:a.Nodes.length=b.Nodes.length
 ·rw[qx (by simp[j]),JH a.Nodes b.Nodes j (λk l=>by
   unfold Mv
   rw[qy (by simpa using l),Ac l,Ac (by omega),AD,AD,eE _ _ (h.2 _ (Bm l)),AD,Ar (by omega)]
   generalize a.Nodes[k]! = x
   generalize b.Nodes[k]! = y
   by_cases h:x=y<;>simp[h,CJ]) (by unfold Mv;rw[qx (by simp)])]
 ·rw[qy (by simp;omega),qz (λe=>j (by rw[e]))]
theorem lC(g:Av)(A:g.Cells.length≤1048576)(h:∀x∈g.Cells,IC x.Attrs):iter (λ(a:Int × Av)=>KV g.Cells a.1 a.2) (0,g)=some g:=by
 have key:∃r,iter (λ(a:Int × Av)=>KV g.Cells a.1 a.2) (0,g)=some r∧r=g:=by
  refine H6 g.Cells.length (λk l=>l=((k:Int),g)) _ ?_ ?_ rfl
  ·rintro k l j rfl
   left
   refine⟨_,?_,rfl⟩
   dsimp only
   unfold KV
   have m:=(h _ (Bm j)).1
   rw[qy (by simpa using j),Ac j,AD,UE m,AD,Ar (by omega),AD,W3]
   have q:g.Cells.set k (An.mk g.Cells[k]!.Row g.Cells[k]!.Col g.Cells[k]!.Text g.Cells[k]!.Ref g.Cells[k]!.Attrs)=g.Cells:=by
    rw[show(An.mk g.Cells[k]!.Row g.Cells[k]!.Col g.Cells[k]!.Text g.Cells[k]!.Ref g.Cells[k]!.Attrs)=g.Cells[k]! from rfl,rN g.Cells k j]
    exact List.set_getElem_self j
   rw[q]
  ·rintro l rfl
   refine⟨g,?_,rfl⟩
   dsimp only
   unfold KV
   rw[qx (by simp)]
 obtain⟨r,w,rfl⟩:=key
 exact w
theorem UA{α:Type} b(l:List α)(j:b≤128)(h:l.length≤1048576):app b ([]:List α) l=some l:=by
 unfold app
 rw[qy];rfl
 simp only[tf,rl]
 refine⟨?_,by omega⟩
 calc l.length * b≤1048576 * 128:=Nat.mul_le_mul h j
  _≤_:=by decide
theorem cO(n:AO)(h:O7 n):N8 n=some n:=by
 unfold N8
 have hg:=h.gr
 have j:=h.fl
 rw[UE h.at_.1,AD,lf _ (by omega) h.fa,AD,UA _ _ (by decide) h.dr,AD,UA _ _ (by decide) hg.2.1,AD,UA _ _ (by decide) hg.1,AD]
 have:=lC n.Grid hg.1 hg.2.2
 rw[show(Av.mk n.Grid.Rows n.Grid.Cols n.Grid.Cells n.Grid.Merges)=n.Grid from rfl,this];rfl
theorem Q4{β:Type}(p:Nat→Bool)(F:Nat→β)(l:List Nat):(l.findSome? λk=>if p k then some (F k) else none)=(l.find? p).map F:=by
 induction l with
 | nil=>rfl
 | cons a l j=>rw[sd,List.find?_cons];by_cases h:p a=true<;>simp[h,j]
def B5(l:List AO)(id:Int):Option Nat:=(List.range l.length).find? λk=>decide (l[k]!.ID=id)
theorem EF{l:List AO}{id}{k}(h:B5 l id=some k):k<l.length∧l[k]!.ID=id:=by
 have j:=List.mem_of_find?_eq_some h
 have m:=List.find?_some h
 exact⟨rV.1 j,tV m⟩
theorem Kp(d:AR)(id:Int)(l:d.Nodes.length≤1048576):GS d id=some (match B5 d.Nodes id with | some k=>(k:Int) | none=>-1):=by
 unfold GS
 rw[B2 (n:=d.Nodes.length) (λk=>if decide (d.Nodes[k]!.ID=id) then some (k:Int) else none) (λk j=>by
  unfold O3
  rw[qy (by simpa using j),Ac j,AD,Ar (by omega)]
  by_cases h:d.Nodes[k]!.ID=id
  ·rw[qy (q7 h),qy (q7 h)];rfl
  ·rw[qx (by simpa using h),qx (by simpa using h)];rfl) (by unfold O3;rw[qx (by simp)]),Q4,FC]
 unfold B5
 cases (List.range d.Nodes.length).find? λk=>decide (d.Nodes[k]!.ID=id)<;>rfl
def Dh:AO:=AO.mk 1 0 [] [(AN.mk 0 2 [])] (Av.mk 0 0 [] []) []
def FV:AO:=AO.mk 2 1 [] [(AN.mk 10 0 [])] (Av.mk 0 0 [] []) []
def CG:AR:=AR.mk [Dh,FV]
theorem fC:Eo (AN.mk 0 2 []):=⟨by decide,λa j=>by cases j⟩
theorem ft:Eo (AN.mk 10 0 []):=⟨by decide,λa j=>by cases j⟩
theorem MC:RU (Av.mk 0 0 [] []):=⟨by decide,by decide,λa j=>by cases j⟩
theorem Hm:IC []:=⟨by decide,λa j=>by cases j⟩
theorem ic:Pn CG:=by
 refine⟨by decide,λn l=>?_⟩
 have:n=Dh∨n=FV:=by simpa[CG] using l
 rcases this with rfl | rfl
 ·exact⟨Hm,by decide,λe j=>by
   have:e=AN.mk 0 2 []:=by simpa[Dh] using j
   subst this;exact Hm,MC,by decide⟩
 ·exact⟨Hm,by decide,λe j=>by
   have:e=AN.mk 10 0 []:=by simpa[FV] using j
   subst this;exact Hm,MC,by decide⟩
theorem Rj:I3 []=some 0:=by rw[Rn _ (λa j=>by cases j) (by decide)];rfl
theorem pJ:FI [AN.mk 0 2 []] false=some 0:=by
 rw[Tp _ (λx j=>by
  have:x=AN.mk 0 2 []:=by simpa using j
  subst this;exact fC) (by decide)]
 rfl
theorem YO:FI [AN.mk 10 0 []] true=some 0:=by
 rw[Q7 _ (λx j=>by
  have:x=AN.mk 10 0 []:=by simpa using j
  subst this;exact ft) (by decide)]
 rfl
theorem QD:KR (Av.mk 0 0 [] []) (Av.mk 0 0 [] [])=some true:=by rw[Qq _ _ MC,q7 rfl]
theorem Do:CZ Dh=some 0:=by
 unfold CZ Dh
 dsimp only
 rw[qx (by decide),qx (by decide),Rj,AD,qx (by decide)]
 have t:Ds 0=some false:=rfl
 have l:F6 0=some true:=rfl
 have g:FS 0=some false:=rfl
 have d:Fk 0=some false:=rfl
 rw[t,l,g,d,QD]
 show(AB (FI [AN.mk 0 2 []] false) λ(j:Int)=>some j)=some 0
 rw[pJ];rfl
theorem eQ:CZ FV=some 0:=by
 unfold CZ FV
 dsimp only
 rw[qx (by decide),qx (by decide),Rj,AD,qx (by decide)]
 have t:Ds 1=some true:=rfl
 have l:F6 1=some false:=rfl
 have g:FS 1=some false:=rfl
 have d:Fk 1=some false:=rfl
 rw[t,l,g,d,QD]
 show(AB (FI [AN.mk 10 0 []] true) λ(j:Int)=>some j)=some 0
 rw[YO];rfl
theorem HJ:Gf Dh=some [2]:=by
 unfold Gf Jt
 have j:(λ(a:Int × (List Int))=>E9 Dh.Flow a.1 a.2) (0,[])=some (.inl (1,[2])):=by
  show E9 [AN.mk 0 2 []] 0 []=_
  unfold E9;rfl
 have l:(λ(a:Int × (List Int))=>E9 Dh.Flow a.1 a.2) (1,[2])=some (.inr [2]):=by
  show E9 [AN.mk 0 2 []] 1 [2]=_
  unfold E9;rfl
 have m:(λ(a:Int × (List Int))=>EX Dh a.1 a.2) (0,[2])=some (.inr [2]):=by
  show EX Dh 0 [2]=_
  unfold EX;rfl
 rw[BW j,BJ l,AD,AD,BJ m];rfl
theorem gw:Gf FV=some []:=by
 unfold Gf Jt
 have j:(λ(a:Int × (List Int))=>E9 FV.Flow a.1 a.2) (0,[])=some (.inl (1,[])):=by
  show E9 [AN.mk 10 0 []] 0 []=_
  unfold E9;rfl
 have l:(λ(a:Int × (List Int))=>E9 FV.Flow a.1 a.2) (1,[])=some (.inr []):=by
  show E9 [AN.mk 10 0 []] 1 []=_
  unfold E9;rfl
 have m:(λ(a:Int × (List Int))=>EX FV a.1 a.2) (0,[])=some (.inr []):=by
  show EX FV 0 []=_
  unfold EX;rfl
 rw[BW j,BJ l,AD,AD,BJ m];rfl
theorem nC:Fc CG 2=some (1,true):=by
 unfold Fc OL
 have h1:(λ(a:Int × Int)=>FG CG.Nodes 2 a.1 a.2) (0,(CG.Nodes.length:Int))=some (.inl (0,1)):=by
  show FG CG.Nodes 2 0 2=_
  unfold FG;decide +kernel
 have h2:(λ(a:Int × Int)=>FG CG.Nodes 2 a.1 a.2) (0,1)=some (.inl (1,1)):=by
  show FG CG.Nodes 2 0 1=_
  unfold FG;decide +kernel
 have h3:(λ(a:Int × Int)=>FG CG.Nodes 2 a.1 a.2) (1,1)=some (.inr 1):=by
  show FG CG.Nodes 2 1 1=_
  unfold FG;rfl
 rw[BW h1,BW h2,BJ h3,AD];rfl
theorem mU:KG 0 1=some true:=by
 unfold KG
 rw[qy (by decide),AD]
 unfold Kf N1
 have j:(λ(a:Int)=>JX [1,6,7,10,11,12] 1 a) 0=some (.inr (.ext 0)):=by
  show JX [1,6,7,10,11,12] 1 0=_
  unfold JX;rfl
 rw[BJ j];rfl
theorem iM:EV CG 0 [2]=some 0:=by
 unfold EV
 have j:(λ(a:Int)=>CU CG 0 [2] a) 0=some (.inl 1):=by
  show CU CG 0 [2] 0=_
  unfold CU
  rw[qy (by decide),show AL ([2]:List Int) 0=some 2 from rfl,AD,nC,By,qx (by decide),show AL CG.Nodes 1=some FV from rfl,AD,show FV.Kind=1 from rfl,mU]
  rfl
 have l:(λ(a:Int)=>CU CG 0 [2] a) 1=some (.inr (.nrm ())):=by
  show CU CG 0 [2] 1=_
  unfold CU;rfl
 rw[BW j,BJ l];rfl
theorem oG:EV CG 1 []=some 0:=by
 unfold EV
 have j:(λ(a:Int)=>CU CG 1 [] a) 0=some (.inr (.nrm ())):=by
  show CU CG 1 [] 0=_
  unfold CU;rfl
 rw[BJ j];rfl
theorem cM:Em CG=some 0:=by
 unfold Em
 have j:(λ(a:Int)=>CL CG a) 0=some (.inl 1):=by
  show CL CG 0=_
  unfold CL
  rw[qy (by decide),show AL CG.Nodes 0=some Dh from rfl,AD,Do];rfl
 have l:(λ(a:Int)=>CL CG a) 1=some (.inl 2):=by
  show CL CG 1=_
  unfold CL
  rw[qy (by decide),show AL CG.Nodes 1=some FV from rfl,AD,eQ];rfl
 have a3:(λ(a:Int)=>CL CG a) 2=some (.inr (.nrm ())):=by
  show CL CG 2=_
  unfold CL;rfl
 have b1:(λ(a:Int)=>Ch CG a) 0=some (.inl 1):=by
  show Ch CG 0=_
  unfold Ch
  rw[qy (by decide),show AL CG.Nodes 0=some Dh from rfl,AD,HJ,AD,show Dh.Kind=0 from rfl,iM];rfl
 have b2:(λ(a:Int)=>Ch CG a) 1=some (.inl 2):=by
  show Ch CG 1=_
  unfold Ch
  rw[qy (by decide),show AL CG.Nodes 1=some FV from rfl,AD,gw,AD,show FV.Kind=1 from rfl,oG];rfl
 have b3:(λ(a:Int)=>Ch CG a) 2=some (.inr (.nrm ())):=by
  show Ch CG 2=_
  unfold Ch;rfl
 rw[qx (by decide),BW j,BW l,BJ a3,BW b1,BW b2,BJ b3];rfl
theorem aO:PP=some true:=by
 unfold PP
 have j:RX=some CG:=rfl
 have l:Q6 [AN.mk 10 0 []]=some CG:=rfl
 have m:L7=some (AN.mk 10 0 []):=rfl
 rw[j,AD,cM,AD,qy (by decide),m,AD,l,AD,p7 _ _ ic,AD,AD,q7 rfl]
 rfl
theorem Zk{μ:AO→Nat}{γ:Av→Nat}{ψ:An→Nat}{ρ:Ap→Nat}{δ:Aw→Nat}{ν:AN→Nat}{κ:AG→Nat}
  (m:∀n,(n.Attrs.map κ).sum+(n.Flow.map ν).sum+γ n.Grid+(n.Draw.map δ).sum+1≤μ n) (hg:∀g,(g.Cells.map ψ).sum+(g.Merges.map ρ).sum+1≤γ g)
  (hc:∀c,(c.Attrs.map κ).sum+1≤ψ c) (w:∀r,1≤ρ r) (hd:∀o,1≤δ o) (A:∀e,(e.Attrs.map κ).sum+1≤ν e) (j:∀a,a.Name.length+a.Value.length+1≤κ a)
  {d:AR} (C:(d.Nodes.map μ).sum≤1048576):Pn d:=by
 have E:=MU (μ:=μ) (λn=>by have:=m n;omega) d.Nodes
 refine⟨by omega,λn B=>?_⟩
 have F:=H4 (μ:=μ) B
 have I:=m n
 have J:=hg n.Grid
 have q:=lY (ν:=ν) (κ:=κ) A j (f:=n.Flow) (by omega)
 have M:=MU (μ:=ψ) (λc=>by have:=hc c;omega) n.Grid.Cells
 have O:=MU (μ:=ρ) w n.Grid.Merges
 have T:=MU (μ:=δ) hd n.Draw
 refine⟨SL j (by omega),q.1,q.2,⟨by omega,by omega,λc l=>SL j ?_⟩,by omega⟩
 have U:=H4 (μ:=ψ) l
 have:=hc c
 omega
theorem Gk{n:Nat}(h:n<2147483648):IntKind.i32.wrap (n:Int)=(n:Int):=by
 have e:(n:Int) % (2 ^ (32:Nat):Int)=(n:Int):=ug (by omega) (by omega)
 show(if(true&&((n:Int) % (2 ^ (32:Nat):Int) ≥ (2 ^ (31:Nat):Int)))=true then(n:Int) % (2 ^ (32:Nat):Int)-(2 ^ (32:Nat):Int) else(n:Int) % (2 ^ (32:Nat):Int))=_
 rw[e,qx]
 simp only[rq,q8]
 omega
theorem U9{n:Nat}(h:n<9223372036854775808):IntKind.i64.wrap (n:Int)=(n:Int):=by
 have e:(n:Int) % (2 ^ (64:Nat):Int)=(n:Int):=ug (by omega) (by omega)
 show(if(true&&((n:Int) % (2 ^ (64:Nat):Int) ≥ (2 ^ (63:Nat):Int)))=true then(n:Int) % (2 ^ (64:Nat):Int)-(2 ^ (64:Nat):Int) else(n:Int) % (2 ^ (64:Nat):Int))=_
 rw[e,qx]
 simp only[rq,q8]
 omega
theorem Mk(i a b:Nat)(j:b<2 ^ i)(l:a * 2 ^ i+b<2147483648):Ea .i32 ((a * 2 ^ i:Nat):Int) (b:Int)=((a * 2 ^ i+b:Nat):Int):=by
 unfold Ea
 have m:(BitVec.ofInt 32 ((a * 2 ^ i:Nat):Int) ||| BitVec.ofInt 32 (b:Int)).toNat=a * 2 ^ i+b:=by
  rw[BitVec.toNat_or,BitVec.ofInt_natCast,BitVec.ofInt_natCast,BitVec.toNat_ofNat,BitVec.toNat_ofNat,uG (by omega),uG (by omega)]
  rw[← Nat.shiftLeft_eq,Nat.shiftLeft_add_eq_or_of_lt j]
 show IntKind.i32.wrap ((BitVec.ofInt 32 ((a * 2 ^ i:Nat):Int) ||| BitVec.ofInt 32 (b:Int)).toNat:Int)=_
 rw[m];exact Gk l
theorem dR:∀b:Fin 256,Cr .u8 ((b.val:Nat):Int) 31=((b.val % 32:Nat):Int):=by decide +kernel
theorem bD:∀b:Fin 256,Cr .u8 ((b.val:Nat):Int) 15=((b.val % 16:Nat):Int):=by decide +kernel
theorem kD:∀b:Fin 256,Cr .u8 ((b.val:Nat):Int) 7=((b.val % 8:Nat):Int):=by decide +kernel
theorem Me:∀b:Fin 256,Cr .u8 ((b.val:Nat):Int) 63=((b.val % 64:Nat):Int):=by decide +kernel
theorem L6(i a:Nat)(j:i≤32)(l:a * 2 ^ i<2147483648):D2 .i32 (a:Int) i=((a * 2 ^ i:Nat):Int):=by
 unfold D2
 show IntKind.i32.wrap ((a:Int) * 2 ^ (min i 32))=_
 rw[Nat.min_eq_left j,show(a:Int) * 2 ^ i=((a * 2 ^ i:Nat):Int) by push_cast;rfl,Gk l]
theorem nX:∀c:Fin 256,GW[c.val]! = (Lib.firstT c.val:Int):=by decide +kernel
theorem cP:∀c:Fin 256,Ea .i32 (RE .i32 (IntKind.i32.wrap (c.val:Int)) (GD .i32 (D2 .i32 (IntKind.i32.wrap 241) 31) 31)) (Cr .i32 65533 (GD .i32 (D2 .i32 (IntKind.i32.wrap 241) 31) 31))=65533:=by decide +kernel
theorem ka:∀c:Fin 256,IntKind.i64.wrap (Cr .u8 (Lib.firstT c.val:Int) 7)=((Lib.firstT c.val % 8:Nat):Int):=by decide +kernel
theorem bU:∀c:Fin 256,AL QC (GD .u8 (Lib.firstT c.val:Int) 4)=some (IO.mk (Lib.accLo (Lib.firstT c.val / 16)) (Lib.accHi (Lib.firstT c.val / 16))):=by decide +kernel
theorem pQ:∀c:Fin 256,128≤c.val→Lib.firstT c.val=241∨(2≤Lib.firstT c.val % 8∧Lib.firstT c.val % 8≤4∧Lib.firstT c.val<240):=by decide +kernel
theorem na(c d:Fin 256):Ea .i32 (D2 .i32 (IntKind.i32.wrap (Cr .u8 ((c.val:Nat):Int) 31)) 6) (IntKind.i32.wrap (Cr .u8 ((d.val:Nat):Int) 63))=((c.val % 32 * 64+d.val % 64:Nat):Int):=by
 rw[dR,Me,Gk (by omega),Gk (by omega),L6 6 _ (by omega) (by omega),Mk 6 _ _ (by omega) (by omega)]
theorem cH(c d e:Fin 256):Ea .i32 (Ea .i32 (D2 .i32 (IntKind.i32.wrap (Cr .u8 ((c.val:Nat):Int) 15)) 12) (D2 .i32 (IntKind.i32.wrap (Cr .u8 ((d.val:Nat):Int) 63)) 6)) (IntKind.i32.wrap (Cr .u8 ((e.val:Nat):Int) 63)) =
  ((c.val % 16 * 4096+d.val % 64 * 64+e.val % 64:Nat):Int):=by
 rw[bD,Me,Me,Gk (by omega),Gk (by omega),Gk (by omega),L6 12 _ (by omega) (by omega),L6 6 _ (by omega) (by omega),Mk 12 _ _ (by omega) (by omega),
  show c.val % 16 * 2 ^ 12+d.val % 64 * 2 ^ 6=(c.val % 16 * 64+d.val % 64) * 2 ^ 6 by omega,Mk 6 _ _ (by omega) (by omega)]
theorem mq(c d e f:Fin 256):Ea .i32 (Ea .i32 (Ea .i32 (D2 .i32 (IntKind.i32.wrap (Cr .u8 ((c.val:Nat):Int) 7)) 18) (D2 .i32 (IntKind.i32.wrap (Cr .u8 ((d.val:Nat):Int) 63)) 12)) (D2 .i32 (IntKind.i32.wrap (Cr .u8 ((e.val:Nat):Int) 63)) 6)) (IntKind.i32.wrap (Cr .u8 ((f.val:Nat):Int) 63)) =
  ((c.val % 8 * 262144+d.val % 64 * 4096+e.val % 64 * 64+f.val % 64:Nat):Int):=by
 rw[kD,Me,Me,Me,Gk (by omega),Gk (by omega),Gk (by omega),Gk (by omega),L6 18 _ (by omega) (by omega),L6 12 _ (by omega) (by omega),L6 6 _ (by omega) (by omega),Mk 18 _ _ (by omega) (by omega),
  show c.val % 8 * 2 ^ 18+d.val % 64 * 2 ^ 12=(c.val % 8 * 64+d.val % 64) * 2 ^ 12 by omega,Mk 12 _ _ (by omega) (by omega),
  show(c.val % 8 * 64+d.val % 64) * 2 ^ 12+e.val % 64 * 2 ^ 6=((c.val % 8 * 64+d.val % 64) * 64+e.val % 64) * 2 ^ 6 by omega,Mk 6 _ _ (by omega) (by omega)]
theorem ND(s:List UInt8) k(h:k<s.length):s.getD k 0=s[k]!:=by
 rw[rN s k h,List.getD_eq_getElem?_getD,rA h];rfl
theorem aD(s:List UInt8)(h:s≠[])(j:128≤(s.getD 0 0).toNat):OG s=some (((Lib.decodeL s).1:Int),((Lib.decodeL s).2:Int)):=by
 have l:0<s.length:=s4.2 h
 rw[Lib.decodeL_N]
 unfold OG
 rw[qx (by rw[q8];omega),show(0:Int)=((0:Nat):Int) from rfl,Ac l,AD]
 rw[ND s 0 l] at j ⊢
 generalize s[0]! = c at j ⊢
 obtain⟨C,hC⟩:∃C:Fin 256,C.val=c.toNat:=⟨⟨c.toNat,c.toNat_lt⟩,rfl⟩
 rw[← hC] at j ⊢
 rw[Ac (l:=GW) (by rw[gy];exact C.isLt),AD,nX,bU,ka]
 rcases pQ C j with B | ⟨m,q,w⟩
 ·rw[qy (by rw[q8];omega),Lib.bad_eq _ _ _ _ _ C.isLt B,B]
  show some (_,(1:Int))=_
  rw[show((241:Nat):Int)=241 from rfl,cP C];rfl
 ·rw[qx (by rw[q8];omega),AD]
  have A:=Lib.slow_eq s.length C.val (s.getD 1 0).toNat (s.getD 2 0).toNat (s.getD 3 0).toNat l (UInt8.toNat_lt _) (UInt8.toNat_lt _) (UInt8.toNat_lt _) w
  rw[← A]
  generalize hsz:Lib.firstT C.val % 8=sz at m q ⊢
  generalize Lib.accLo (Lib.firstT C.val / 16)=U
  generalize Lib.accHi (Lib.firstT C.val / 16)=V
  unfold Lib.slowN
  by_cases I:s.length<sz
  ·rw[qy (by rw[q8];omega),qy I];rfl
  rw[qx (by rw[q8];omega),qx I,show(1:Int)=((1:Nat):Int) from rfl,Ac (by omega),AD,ND s 1 (by omega)]
  generalize s[1]! = d
  obtain⟨D,X⟩:∃D:Fin 256,D.val=d.toNat:=⟨⟨d.toNat,d.toNat_lt⟩,rfl⟩
  rw[← X]
  by_cases c1:D.val<U∨V<D.val
  ·rw[qy (by simp only[rH,q8];omega),qy c1];rfl
  rw[qx (by simp only[rH,q8];omega),qx c1]
  by_cases J:sz≤2
  ·rw[qy (by rw[q8];omega),qy J,na];rfl
  rw[qx (by rw[q8];omega),qx J,show(2:Int)=((2:Nat):Int) from rfl,Ac (by omega),AD,ND s 2 (by omega)]
  generalize s[2]! = e
  obtain⟨E,Z⟩:∃E:Fin 256,E.val=e.toNat:=⟨⟨e.toNat,e.toNat_lt⟩,rfl⟩
  rw[← Z]
  by_cases M:E.val<128∨191<E.val
  ·rw[qy (by simp only[rH,q8];omega),qy M];rfl
  rw[qx (by simp only[rH,q8];omega),qx M]
  by_cases O:sz≤3
  ·rw[qy (by rw[q8];omega),qy O,cH];rfl
  rw[qx (by rw[q8];omega),qx O,show(3:Int)=((3:Nat):Int) from rfl,Ac (by omega),AD,ND s 3 (by omega)]
  generalize s[3]! = f
  obtain⟨F,hF⟩:∃F:Fin 256,F.val=f.toNat:=⟨⟨f.toNat,f.toNat_lt⟩,rfl⟩
  rw[← hF]
  by_cases T:F.val<128∨191<F.val
  ·rw[qy (by simp only[rH,q8];omega),qy T];rfl
  rw[qx (by simp only[rH,q8];omega),qx T,mq];rfl
theorem bI(s:List UInt8)(h:s≠[]):Nr s=some (((Lib.decodeL s).1:Int),((Lib.decodeL s).2:Int)):=by
 have l:0<s.length:=s4.2 h
 unfold Nr
 rw[qz h,show((!false)==true)=true from rfl,At,show(0:Int)=((0:Nat):Int) from rfl,Ac l,AD,tG,rq]
 by_cases m:(s[0]!).toNat<128
 ·rw[qy (by rw[q8];omega),AD,Gk (by omega)]
  obtain⟨c,t,rfl⟩:=List.exists_cons_of_ne_nil h
  have j:c.toNat<128:=m
  rw[Lib.decodeL_ascii c t j];rfl
 ·rw[qx (by rw[q8];omega),aD s h (by rw[ND s 0 l];omega),By]
def Ge(r:Nat):Bool:=(r=10)||!HG (r:Int)
def HZ:Nat→List UInt8→Bool
 | 0,_=>true
 | n+1,s=>if s=[] then true else if((Lib.decodeL s).1=65533∧(Lib.decodeL s).2=1)∨Ge (Lib.decodeL s).1=true then false else HZ n (s.drop (Lib.decodeL s).2)
theorem Wo n(s:List UInt8):HZ (n+1) s=if s=[] then true else if((Lib.decodeL s).1=65533∧(Lib.decodeL s).2=1)∨Ge (Lib.decodeL s).1=true then false else HZ n (s.drop (Lib.decodeL s).2):=rfl
def Nb:Nat→List UInt8→Bool
 | 0,_=>true
 | n+1,s=>if s=[] then true else if Ge (Lib.decodeL s).1=true then false else Nb n (s.drop (Lib.decodeL s).2)
theorem XL n(s:List UInt8):Nb (n+1) s=if s=[] then true else if Ge (Lib.decodeL s).1=true then false else Nb n (s.drop (Lib.decodeL s).2):=rfl
theorem lO:∀(n:Nat) (s:List UInt8),s.length≤n→(Lib.validD s&&Nb n s)=HZ n s:=by
 intro n
 induction n with
 | zero=>intro s q;obtain rfl:=s9 (Nat.le_zero.1 q);rfl
 | succ n w=>
  intro s q
  rw[Wo,XL]
  by_cases j:s=[]
  ·subst j;rfl
  ·have A:=Lib.decodeL_width s
   have B:=s4.2 j
   rw[qx j,qx j,Lib.validD_step s j]
   by_cases l:(Lib.decodeL s).1=65533∧(Lib.decodeL s).2=1
   ·rw[qy l,qy (show((Lib.decodeL s).1=65533∧(Lib.decodeL s).2=1)∨Ge (Lib.decodeL s).1=true from .inl l)];rfl
   ·rw[qx l]
    by_cases m:Ge (Lib.decodeL s).1=true
    ·rw[qy m,qy (.inr m),Bool.and_false]
    ·rw[qx m,qx (by rintro(h | h);exact l h;exact m h)]
     exact w _ (by rw[uI];omega)
theorem W2(r:Nat)(h:r≤1114111):IntKind.i64.wrap (r:Int)=(r:Int):=U9 (by omega)
theorem cJ(s:List UInt8):Of s=some (HZ s.length s):=by
 unfold Of
 have key:∀(n:Nat) (s:List UInt8),s.length≤n→(A7 (iter (λ(a:(List UInt8))=>Fi a) s) λ(_:Unit)=>some true)=some (HZ n s):=by
  intro n
  induction n with
  | zero=>
   intro s hs
   obtain rfl:=s9 (Nat.le_zero.1 hs)
   have h1:(λ(a:(List UInt8))=>Fi a) []=some (.inr (.nrm ())):=by
    show Fi []=_
    unfold Fi;rfl
   rw[BJ h1];rfl
  | succ n ih=>
   intro s hs
   rw[Wo]
   by_cases hn:s=[]
   ·subst hn
    have h1:(λ(a:(List UInt8))=>Fi a) []=some (.inr (.nrm ())):=by
     show Fi []=_
     unfold Fi;rfl
    rw[BJ h1];rfl
   ·have hw:=Lib.decodeL_width s
    have hle:=Lib.decodeL_le s hn
    have hr:=Lib.decodeL_rune s
    have hstep:Fi s=if((Lib.decodeL s).1=65533∧(Lib.decodeL s).2=1)∨Ge (Lib.decodeL s).1=true then some (.inr (.ext false)) else some (.inl (s.drop (Lib.decodeL s).2)):=by
     unfold Fi Ge
     rw[qy (Cd hn),bI s hn,By,W2 _ hr,Yu]
     generalize (Lib.decodeL s).1=r at *
     generalize (Lib.decodeL s).2=w at *
     by_cases h1:r=65533∧w=1
     ·obtain⟨rfl,rfl⟩:=h1
      rw[qy (.inl ⟨rfl,rfl⟩)];rfl
     ·have e1:(((r:Int)=65533)&&((w:Int)=1))=false:=by
       rw[← ru,rF,q8,q8];omega
      by_cases h2:r=10
      ·subst h2
       rw[qy (.inr (by rfl)),e1];rfl
      ·have e2:(decide ((r:Int)=10))=false:=qz (by omega)
       rw[e1,e2,qz h2]
       show(AB (gd true (some (HG (r:Int)))) λ(r3:Bool)=>_)=_
       rw[At,AD,kn s w hle,AD]
       cases HG (r:Int)
       ·rw[qy (show(r=65533∧w=1)∨(false||!false)=true from .inr rfl)];rfl
       ·rw[qx (show ¬ ((r=65533∧w=1)∨(false||!true)=true) by rintro(h | h);exact h1 h;exact absurd h (by decide))];rfl
    by_cases hb:((Lib.decodeL s).1=65533∧(Lib.decodeL s).2=1)∨Ge (Lib.decodeL s).1=true
    ·rw[qy hb] at hstep
     rw[BJ (f:=λ(a:(List UInt8))=>Fi a) hstep,qx hn,qy hb];rfl
    ·rw[qx hb] at hstep
     rw[BW (f:=λ(a:(List UInt8))=>Fi a) hstep,qx hn,qx hb]
     exact ih _ (by rw[uI];omega)
 exact key s.length s (q9 _)
theorem mW(s:List UInt8) p:GU s p=Lib.decodeL (s.drop p):=(Lib.decodeL_drop ⟨s.toArray⟩ p).symm
theorem nd(s:List UInt8)(hs:s.length≤9223372036854775807):O0 s=some (HZ s.length s):=by
 unfold O0 RM RW
 rw[qy hs,AD,← lO s.length s (q9 _)]
 cases Lib.validD s with
 | false=>rfl
 | true=>
  rw[qx (by decide),rq]
  have key:∀(n p:Nat),s.length-p≤n→(A7 (iter (λ(a:(Nat))=>Fd s a) p) λ(_:Unit)=>some true)=some (Nb n (s.drop p)):=by
   intro n
   induction n with
   | zero=>
    intro p hp
    have h1:(λ(a:(Nat))=>Fd s a) p=some (.inr (.nrm ())):=by
     show Fd s p=_
     unfold Fd;rw[qx (by rw[q8];omega)]
    rw[BJ h1];rfl
   | succ n ih=>
    intro p hp
    rw[XL]
    by_cases hn:s.length≤p
    ·have h1:(λ(a:(Nat))=>Fd s a) p=some (.inr (.nrm ())):=by
      show Fd s p=_
      unfold Fd;rw[qx (by rw[q8];omega)]
     rw[BJ h1,qy (rx hn)];rfl
    ·have hne:s.drop p≠[]:=by
      intro e
      have:=rU List.length e
      rw[uI,tf] at this
      omega
     have hw:=Lib.decodeL_width (s.drop p)
     have hr:=Lib.decodeL_rune (s.drop p)
     have hstep:Fd s p=if Ge (Lib.decodeL (s.drop p)).1=true then some (.inr (.ext false)) else some (.inl (p+(Lib.decodeL (s.drop p)).2)):=by
      unfold Fd Ge
      rw[qy (by rw[q8];omega),mW,W2 _ hr,YY]
      generalize (Lib.decodeL (s.drop p)).1=r at *
      generalize (Lib.decodeL (s.drop p)).2=w at *
      by_cases h2:r=10
      ·subst h2;rfl
      ·rw[qz h2,qz (show ¬ ((r:Int)=10) by omega)]
       show(AB (gd true (some (HG (r:Int)))) λ(r3:Bool)=>_)=_
       rw[At,AD]
     rw[qx hne]
     by_cases hb:Ge (Lib.decodeL (s.drop p)).1=true
     ·rw[qy hb] at hstep
      rw[BJ (f:=λ(a:(Nat))=>Fd s a) hstep,qy hb];rfl
     ·rw[qx hb] at hstep
      rw[BW (f:=λ(a:(Nat))=>Fd s a) hstep,qx hb,List.drop_drop]
      exact ih _ (by omega)
  have:=key s.length 0 (by omega)
  rw[sg] at this
  exact this
theorem SO{ρ:Type}{f g}{n}(I:Nat→Prop)(w:I 0)(h:∀k:Nat, k<n→I k→∃o:Option ρ, f k=CJ k o∧g k=CJ k o∧(o=none→I (k+1)))
 (A:f n=some (.inr (.nrm ()))) (hg:g n=some (.inr (.nrm ()))):∃o:Option ρ, iter f 0=some (Df o)∧iter g 0=some (Df o)∧(o=none→I n) := by
  have key:∀m k:Nat, k+m=n→I k→∃o:Option ρ, iter f (k:Int)=some (Df o)∧iter g (k:Int)=some (Df o)∧(o=none→I n) := by
    intro m
    induction m with
    | zero =>
      intro k B j
      obtain rfl:k=n := by omega
      exact⟨none, BJ A, BJ hg, λ_ => j⟩
    | succ m C =>
      intro k B j
      obtain⟨o, l, q, E⟩ := h k (by omega) j
      cases o with
      | some r => exact⟨some r, BJ l, BJ q, λe => by cases e⟩
      | none =>
        obtain⟨o, F, J, M⟩ := C (k+1) (by omega) (E rfl)
        exact⟨o, (BW l).trans F, (BW q).trans J, M⟩
  exact key n 0 (by omega) w
theorem Rm x y:GR x y=some (if x<y then -1 else if y<x then 1 else 0):=by
 unfold GR Lq
 rw[q7 (rfl:x=x),q7 (rfl:y=y),AD,AD,qx (by decide),qx (by decide)]
 by_cases j:x<y
 ·rw[qy (q7 j),qy j]
 ·rw[qx (by simpa using j),qx j]
  by_cases l:y<x
  ·rw[qy (q7 l),qy l]
  ·rw[qx (by simpa using l),qx l]
theorem XS a b:IN [a,b]=some (if a≠0 then a else b):=by
 unfold IN
 by_cases j:a≠0
 ·have m:(λ(x:Int)=>EE [a,b] x) 0=some (.inr (.ext a)):=by
   show EE [a,b] 0=_
   unfold EE
   rw[qy (by simp),show AL [a,b] 0=some a from rfl,AD,qy (Cd j)]
  rw[BJ m,qy j];rfl
 ·have q:a=0:=rg.1 j
  have m:(λ(x:Int)=>EE [a,b] x) 0=some (.inl 1):=by
   show EE [a,b] 0=_
   unfold EE
   rw[qy (by simp),show AL [a,b] 0=some a from rfl,AD,qx (De q)];rfl
  by_cases A:b≠0
  ·have w:(λ(x:Int)=>EE [a,b] x) 1=some (.inr (.ext b)):=by
    show EE [a,b] 1=_
    unfold EE
    rw[qy (by simp),show AL [a,b] 1=some b from rfl,AD,qy (Cd A)]
   rw[BW m,BJ w,qx j];rfl
  ·have l:b=0:=rg.1 A
   have w:(λ(x:Int)=>EE [a,b] x) 1=some (.inl 2):=by
    show EE [a,b] 1=_
    unfold EE
    rw[qy (by simp),show AL [a,b] 1=some b from rfl,AD,qx (De l)];rfl
   have B:(λ(x:Int)=>EE [a,b] x) 2=some (.inr (.nrm ())):=by
    show EE [a,b] 2=_
    unfold EE
    rw[qx (by simp)]
   rw[BW m,BW w,BJ B,qx j,l];rfl
def B1(a b c d:Int):Int:=if a<b then -1 else if b<a then 1 else if c<d then -1 else if d<c then 1 else 0
theorem XG a b c d:(if(if a<b then -1 else if b<a then 1 else 0)≠(0:Int) then(if a<b then -1 else if b<a then 1 else 0) else if c<d then -1 else if d<c then 1 else(0:Int))=B1 a b c d:=by
 unfold B1
 by_cases j:a<b
 ·simp[j]
 ·by_cases l:b<a
  ·simp[j,l]
  ·simp[j,l]
theorem Rg a b c d:0≤B1 a b c d↔(b<a∨(b=a∧d≤c)):=by
 unfold B1
 split
 ·constructor<;>intro h<;>omega
 ·split
  ·constructor<;>intro h<;>omega
  ·split
   ·constructor<;>intro h<;>omega
   ·split
    ·constructor<;>intro h<;>omega
    ·constructor<;>intro h<;>omega
theorem nD(a b:An):MJ a b=some (B1 a.Row b.Row a.Col b.Col):=by
 unfold MJ
 rw[Rm,Rm,AD,AD,XS,AD,XG]
theorem EK x a b:DF x a b=some (decide (a≤x∧x≤b)):=by
 rw[Pa]
 congr 1
 rw[ro];simp
def Hz(j l:Int)(c:An):Prop:=0≤c.Row∧c.Row<j∧0≤c.Col∧c.Col<l∧0≤c.Ref∧c.Ref≤1073741824
instance (rows cols:Int) (c:An):Decidable (Hz rows cols c):=by unfold Hz;infer_instance
def JK(c:An):Bool:=(c.Text=[])&&(c.Ref=0)&&(c.Attrs=[])
def L1(l m:Int)(j:Bool)(c:An):Int:=
 if ¬ Hz l m c then 2 else if HZ c.Text.length c.Text=false then 23 else if CI c.Attrs false≠0 then CI c.Attrs false else if(!j&&JK c)=true then 4 else 0
def IF(m q:Int)(j:Bool)(l:List An)(k:Nat):Option Int:=
 if L1 m q j l[k]!≠0 then some (L1 m q j l[k]!) else if 0<k∧0≤B1 l[k-1]!.Row l[k]!.Row l[k-1]!.Col l[k]!.Col then some 5 else none
def JL(m q:Int)(j:Bool)(l:List An):Int:=((List.range l.length).findSome? (IF m q j l)).getD 0
theorem Yp(l:List AG):decide ((l.length:Int)=0)=decide (l=[]):=by
 rw[ro,q8,q8,← ss];omega
def Qp(c:An):Prop:=IC c.Attrs∧c.Text.length≤1073741824
theorem nN(l:List An) k(B:k<l.length)(C:l.length≤9223372036854775806) :
  (AB (gd ((decide (0<(k:Int)))==true) (AZ .i64 ((k:Int)-1))) λ(q:Int)=>
   AB (gd ((decide (0<(k:Int)))==true) (AL l q)) λ(w:An)=>
   AB (gd ((decide (0<(k:Int)))==true) (MJ w l[k]!)) λ(A:Int)=>
   if((0<(k:Int))&&(0≤A)) then(some (.inr (.ext 5)):Option (Int ⊕ (Ax Unit Int))) else(
    AB (AZ .i64 ((k:Int)+1)) λ(x7:Int)=>some (.inl x7)))=CJ k (if 0<k∧0≤B1 l[k-1]!.Row l[k]!.Row l[k-1]!.Col l[k]!.Col then some 5 else none):=by
 by_cases m:0<k
 ·rw[q7 (show(0:Int)<k by omega),show((true==true):Bool)=true from rfl,At,FN m (by omega),AD,At,Ac (by omega),AD,At,nD,AD]
  by_cases j:0≤B1 l[k-1]!.Row l[k]!.Row l[k-1]!.Col l[k]!.Col
  ·rw[qy (show(true&&(0≤B1 l[k-1]!.Row l[k]!.Row l[k-1]!.Col l[k]!.Col))=true by rw[q7 j];rfl),qy ⟨m,j⟩];rfl
  ·rw[qx (show ¬ (true&&(0≤B1 l[k-1]!.Row l[k]!.Row l[k-1]!.Col l[k]!.Col))=true by rw[qz j];decide),qx (λh=>j h.2),Ar (by omega)];rfl
 ·obtain rfl:k=0:=by omega
  rw[qx (show ¬ (0<0∧_) from λh=>absurd h.1 (by decide))];rfl
theorem lw j m w (l:List An) (U:l.length≤1073741824) (M:∀c∈l,Qp c):Nq l j m w=some (JL j m w l):=by
 unfold Nq
 rw[B2 (n:=l.length) (IF j m w l) (λk A=>by
  obtain⟨J,V⟩:=M _ (Bm A)
  have E:=nN l k A (by omega)
  unfold PT IF L1
  rw[qy (by simpa using A),Ac A,AD]
  by_cases B:Hz j m l[k]!
  ·have F:=B
   unfold Hz at F
   rw[qx (by simp only[rH,q8];omega),qx (by simp only[rH,q8];omega),cJ,AD,Rn _ J.2 (by have:=J.1;omega),AD,E]
   rw[qx (rg.2 B)]
   cases O:HZ l[k]!.Text.length l[k]!.Text with
   | false=>rfl
   | true=>
    rw[qx (show ¬ ((!true)=true) by decide),qx (show ¬ (true=false) by decide)]
    by_cases q:CI l[k]!.Attrs false=0
    ·rw[qx (De q),qx (rg.2 q)]
     have T:Nx l[k]! = some (JK l[k]!):=by unfold Nx JK;rw[Yp]
     rw[T,AD]
     by_cases C:(!w&&JK l[k]!)=true
     ·rw[qy (by rw[Bool.and_comm];exact C),qy C];rfl
     ·rw[qx (by rw[Bool.and_comm];exact C),qx C,qx (show ¬ ((0:Int)≠0) from λh=>h rfl)]
    ·rw[qy (Cd q),qy q,qy q];rfl
  ·rw[qy B]
   unfold Hz at B
   by_cases I:((((l[k]!.Row<0)||(j≤l[k]!.Row))||(l[k]!.Col<0))||(m≤l[k]!.Col))=true
   ·rw[qy I];rfl
   ·rw[qx I,qy (by simp only[rH,q8] at I ⊢;omega)];rfl) (by unfold PT;rw[qx (by simp)]),FK]
 rfl
theorem gp(l:List An) k(I:k<l.length)(J:l.length≤9223372036854775806) :
  (AB (gd ((decide (0<(k:Int)))==true) (AZ .i64 ((k:Int)-1))) λ(x7:Int)=>
      AB (gd ((decide (0<(k:Int)))==true) (AL l x7)) λ(j:An)=>
      AB (gd ((((decide (0<(k:Int)))==true)&&((decide (l[k]!.Row<j.Row))==false))&&((decide (l[k]!.Row=j.Row))==true)) (AZ .i64 ((k:Int)-1))) λ(F:Int)=>
      AB (gd ((((decide (0<(k:Int)))==true)&&((decide (l[k]!.Row<j.Row))==false))&&((decide (l[k]!.Row=j.Row))==true)) (AL l F)) λ(w:An)=>
      if((0<(k:Int))&&((l[k]!.Row<j.Row)||((l[k]!.Row=j.Row)&&(l[k]!.Col≤w.Col)))) then(some (.inr (.ext 5)):Option (Int ⊕ (Ax Unit Int))) else(
       AB (AZ .i64 ((k:Int)+1)) λ(A:Int)=>some (.inl A)))=CJ k (if 0<k∧0≤B1 l[k-1]!.Row l[k]!.Row l[k-1]!.Col l[k]!.Col then some 5 else none):=by
 have m:=Rg l[k-1]!.Row l[k]!.Row l[k-1]!.Col l[k]!.Col
 by_cases B:0<k
 ·rw[q7 (show(0:Int)<k by omega),show((true==true):Bool)=true from rfl,At,FN B (by omega),AD,At,Ac (show k-1<l.length by omega),AD]
  by_cases q:l[k]!.Row<l[k-1]!.Row
  ·rw[q7 q,qy (show 0<k∧0≤B1 l[k-1]!.Row l[k]!.Row l[k-1]!.Col l[k]!.Col from⟨B,m.2 (.inl q)⟩)];rfl
  ·by_cases C:l[k]!.Row=l[k-1]!.Row
   ·rw[qz q,q7 C,show(((true&&(false==false))&&(true==true)):Bool)=true from rfl,At,AD,At,Ac (show k-1<l.length by omega),AD]
    by_cases E:l[k]!.Col≤l[k-1]!.Col
    ·rw[q7 E,qy (show 0<k∧0≤B1 l[k-1]!.Row l[k]!.Row l[k-1]!.Col l[k]!.Col from⟨B,m.2 (.inr ⟨C,E⟩)⟩)];rfl
    ·rw[qz E,qx (show ¬ (0<k∧0≤B1 l[k-1]!.Row l[k]!.Row l[k-1]!.Col l[k]!.Col) from λh=>by have:=m.1 h.2;omega),Ar (by omega)];rfl
   ·rw[qz q,qz C,qx (show ¬ (0<k∧0≤B1 l[k-1]!.Row l[k]!.Row l[k-1]!.Col l[k]!.Col) from λh=>by have:=m.1 h.2;omega),Ar (by omega)];rfl
 ·obtain rfl:k=0:=by omega
  rw[qx (show ¬ (0<0∧_) from λh=>absurd h.1 (by decide))];rfl
theorem ga j m w (l:List An) (V:l.length≤1073741824) (M:∀c∈l,Qp c) (X:0≤j∧j≤2147483647) (O:0≤m∧m≤2147483647):NC l j m w=some (JL j m w l):=by
 unfold NC
 rw[B2 (n:=l.length) (IF j m w l) (λk A=>by
  obtain⟨F,Z⟩:=M _ (Bm A)
  have C:=gp l k A (by omega)
  unfold Oa IF L1
  rw[qy (by simpa using A),Ac A,AD,Cn (by omega) (by omega),AD,EK,AD,EK,C]
  by_cases B:Hz j m l[k]!
  ·have E:=B
   unfold Hz at E
   rw[qx (rg.2 B),q7 (show 0≤l[k]!.Row∧l[k]!.Row≤j-1 by omega),show((!true)==false)=true from rfl,At,Cn (by omega) (by omega),AD,At,EK,AD,q7 (show 0≤l[k]!.Col∧l[k]!.Col≤m-1 by omega),
    show(((!true)||(!true))==false)=true from rfl,At,AD,q7 (show 0≤l[k]!.Ref∧l[k]!.Ref≤1073741824 by omega),qx (by decide),nd _ (by omega),AD,UX _ _ F.2 (by have:=F.1;omega),AD]
   cases T:HZ l[k]!.Text.length l[k]!.Text with
   | false=>rfl
   | true=>
    rw[qx (show ¬ ((!true)=true) by decide),qx (show ¬ (true=false) by decide)]
    by_cases q:CI l[k]!.Attrs false=0
    ·rw[qx (De q),qx (rg.2 q)]
     have U:PK l[k]! = some (JK l[k]!):=by unfold PK JK;rw[Yp]
     rw[U]
     cases w with
     | true=>rfl
     | false=>
      show(AB (gd true (some (JK l[k]!))) λ(r5:Bool)=>_)=_
      rw[At,AD]
      cases JK l[k]!<;>rfl
    ·rw[qy (Cd q),qy q,qy q];rfl
  ·rw[qy B]
   unfold Hz at B
   by_cases I:0≤l[k]!.Row∧l[k]!.Row≤j-1
   ·rw[q7 I,show((!true)==false)=true from rfl,At,Cn (by omega) (by omega),AD,At,EK,AD]
    by_cases J:0≤l[k]!.Col∧l[k]!.Col≤m-1
    ·rw[q7 J,show(((!true)||(!true))==false)=true from rfl,At,AD,qz (show ¬ (0≤l[k]!.Ref∧l[k]!.Ref≤1073741824) by omega)];rfl
    ·rw[qz J];rfl
   ·rw[qz I];rfl) (by unfold Oa;rw[qx (by simp)]),FK]
 rfl
theorem YV{ρ:Type}{f}{n}(g:Nat→Option ρ)(w:∀k:Nat, k<n→(∀j, j<k→g j=none)→f k=CJ k (g k))
 (A:f n=some (.inr (.nrm ()))):iter f 0=some (Df ((List.range n).findSome? g)) := by
  have key:∀m k:Nat, k+m=n→(∀j, j<k→g j=none)→iter f (k:Int)=some (Df ((List.range' k m).findSome? g)) := by
    intro m
    induction m with
    | zero =>
      intro k B _
      obtain rfl:k=n := by omega
      rw[BJ A];rfl
    | succ m C =>
      intro k B l
      have q := w k (by omega) l
      rw[List.range'_succ, sd]
      cases hg:g k with
      | some r => rw[hg] at q;rw[BJ q];rfl
      | none =>
        rw[hg] at q
        rw[BW q]
        exact C (k+1) (by omega) (λj E => by
          by_cases e:j=k
          · rw[e];exact hg
          · exact l j (by omega))
  have := key n 0 (by omega) (λj l => absurd l (Nat.not_lt_zero _))
  rw[uQ]
  exact this
def DE(j l:Int)(r:Ap):Prop:=0≤r.Row∧r.Row<j∧0≤r.Col∧r.Col<l∧1≤r.H∧r.H≤j-r.Row∧1≤r.W∧r.W≤l-r.Col
instance (rows cols:Int) (r:Ap):Decidable (DE rows cols r):=by unfold DE;infer_instance
def HB(a b:Ap):Bool:=decide (a.Row<b.Row+b.H∧b.Row<a.Row+a.H∧a.Col<b.Col+b.W∧b.Col<a.Col+a.W)
def FB(j l:Int):Prop:=0≤j∧j≤2147483647∧0≤l∧l≤2147483647
instance (rows cols:Int):Decidable (FB rows cols):=by unfold FB;infer_instance
theorem bP(r:Ap) j l(h:FB j l):OI r j l=some (decide (DE j l r)):=by
 obtain⟨E,F,I,J⟩:=h
 unfold OI
 by_cases c1:0≤r.Row∧0≤r.Col∧1≤r.H∧1≤r.W∧r.Row<j∧r.Col<l
 ·obtain⟨w,A,a3,a4,a5,B⟩:=c1
  rw[q7 w,q7 A,q7 a3,q7 a4,q7 a5,q7 B,show((((((true&&true)&&true)&&true)&&true)&&true)==true)=true from rfl,At,Cn (by omega) (by omega),AD]
  by_cases m:r.H≤j-r.Row
  ·rw[q7 m,show(((((((true&&true)&&true)&&true)&&true)&&true)&&true)==true)=true from rfl,At,Cn (by omega) (by omega),AD]
   by_cases q:r.W≤l-r.Col
   ·rw[q7 q,q7 (show DE j l r from⟨w,a5,A,B,a3,m,a4,q⟩)];rfl
   ·rw[qz q,qz (show ¬ DE j l r from λh=>q h.2.2.2.2.2.2.2)];rfl
  ·rw[qz m,qz (show ¬ DE j l r from λh=>m h.2.2.2.2.2.1)];rfl
 ·have C:((((((0≤r.Row)&&(0≤r.Col))&&(1≤r.H))&&(1≤r.W))&&(r.Row<j))&&(r.Col<l))=false:=by
   rw[← ru]
   simp only[rF,q8]
   intro h;exact c1 (by omega)
  rw[C,qz (show ¬ DE j l r from λh=>c1 ⟨h.1,h.2.2.1,h.2.2.2.2.1,h.2.2.2.2.2.2.1,h.2.1,h.2.2.2.1⟩)];rfl
theorem kE(r:Ap) j l(h:FB j l):Ms r j l=some (decide (DE j l r)):=by
 obtain⟨w,A,B,C⟩:=h
 unfold Ms
 rw[Cn (by omega) (by omega),AD,EK,AD]
 by_cases m:0≤r.Row∧r.Row≤j-1
 ·rw[q7 m,show((true==true):Bool)=true from rfl,At,Cn (by omega) (by omega),AD,At,EK,AD]
  by_cases q:0≤r.Col∧r.Col≤l-1
  ·rw[q7 q,show((true&&true)==true)=true from rfl,At,Cn (by omega) (by omega),AD,At,EK,AD]
   by_cases a3:1≤r.H∧r.H≤j-r.Row
   ·rw[q7 a3,show(((true&&true)&&true)==true)=true from rfl,At,Cn (by omega) (by omega),AD,At,EK,AD]
    by_cases a4:1≤r.W∧r.W≤l-r.Col
    ·rw[q7 a4,q7 (show DE j l r from⟨m.1,by omega,q.1,by omega,a3.1,a3.2,a4.1,a4.2⟩)];rfl
    ·rw[qz a4,qz (show ¬ DE j l r from λh=>a4 ⟨h.2.2.2.2.2.2.1,h.2.2.2.2.2.2.2⟩)];rfl
   ·rw[qz a3,qz (show ¬ DE j l r from λh=>a3 ⟨h.2.2.2.2.1,h.2.2.2.2.2.1⟩)];rfl
  ·rw[qz q,qz (show ¬ DE j l r from λh=>q ⟨h.2.2.1,by have:=h.2.2.2.1;omega⟩)];rfl
 ·rw[qz m,qz (show ¬ DE j l r from λh=>m ⟨h.1,by have:=h.2.1;omega⟩)];rfl
theorem jB{j l}(h:FB j l){a b:Ap}(A:DE j l a)(B:DE j l b):ON a b=some (HB a b):=by
 obtain⟨C,E,F,I⟩:=h
 obtain⟨J,M,a3,a4,a5,O,T,U⟩:=A
 obtain⟨b1,b2,b3,V,X,Z,b7,b8⟩:=B
 unfold ON HB
 rw[Cn (by omega) (by omega),AD]
 by_cases c1:a.Row<b.Row+b.H
 ·rw[q7 c1,show((true==true):Bool)=true from rfl,At,Cn (by omega) (by omega),AD]
  by_cases m:b.Row<a.Row+a.H
  ·rw[q7 m,show((true&&true)==true)=true from rfl,At,Cn (by omega) (by omega),AD]
   by_cases q:a.Col<b.Col+b.W
   ·rw[q7 q,show(((true&&true)&&true)==true)=true from rfl,At,Cn (by omega) (by omega),AD]
    by_cases w:b.Col<a.Col+a.W
    ·rw[q7 w,q7 (show _∧_∧_∧_ from⟨c1,m,q,w⟩)];rfl
    ·rw[qz w,qz (show ¬ (a.Row<b.Row+b.H∧b.Row<a.Row+a.H∧a.Col<b.Col+b.W∧b.Col<a.Col+a.W) from λh=>w h.2.2.2)];rfl
   ·rw[qz q,qz (show ¬ (a.Row<b.Row+b.H∧b.Row<a.Row+a.H∧a.Col<b.Col+b.W∧b.Col<a.Col+a.W) from λh=>q h.2.2.1)];rfl
  ·rw[qz m,qz (show ¬ (a.Row<b.Row+b.H∧b.Row<a.Row+a.H∧a.Col<b.Col+b.W∧b.Col<a.Col+a.W) from λh=>m h.2.1)];rfl
 ·rw[qz c1,qz (show ¬ (a.Row<b.Row+b.H∧b.Row<a.Row+a.H∧a.Col<b.Col+b.W∧b.Col<a.Col+a.W) from λh=>c1 h.1)];rfl
theorem eF{j l}(h:FB j l){a b:Ap}(q:DE j l a)(w:DE j l b):PC a b=some (HB b a):=by
 obtain⟨A,B,C,E⟩:=h
 obtain⟨F,I,a3,a4,a5,J,M,O⟩:=q
 obtain⟨b1,b2,b3,T,U,V,X,Z⟩:=w
 unfold PC HB
 rw[Cn (by omega) (by omega),AD,Cn (by omega) (by omega),AD]
 by_cases c1:max a.Row b.Row<min (a.Row+a.H) (b.Row+b.H)
 ·rw[q7 c1,show((true==true):Bool)=true from rfl,At,Cn (by omega) (by omega),AD,At,Cn (by omega) (by omega),AD]
  by_cases m:max a.Col b.Col<min (a.Col+a.W) (b.Col+b.W)
  ·rw[q7 m,q7 (show b.Row<a.Row+a.H∧a.Row<b.Row+b.H∧b.Col<a.Col+a.W∧a.Col<b.Col+b.W by omega)];rfl
  ·rw[qz m,qz (show ¬ (b.Row<a.Row+a.H∧a.Row<b.Row+b.H∧b.Col<a.Col+a.W∧a.Col<b.Col+b.W) by omega)];rfl
 ·rw[qz c1,qz (show ¬ (b.Row<a.Row+a.H∧a.Row<b.Row+b.H∧b.Col<a.Col+a.W∧a.Col<b.Col+b.W) by omega)];rfl
theorem Y7{α:Type}[Inhabited α]{l:List α}{k j}(m:j<k)(q:k≤l.length):(l.take k)[j]! = l[j]!:=by
 rw[rN (l.take k) j (by rw[sb];omega),rN l j (by omega),List.getElem_take]
def LY(l:List Ap)(k:Nat)(w:Ap):Option Nat:=(List.range k).find? λj=>HB l[j]! w
theorem dB{m q}(h:FB m q)(l:List Ap) k(C:k≤l.length)(I:l.length≤1073741824)(E:∀j,j<k→DE m q l[j]!){w}(hw:DE m q w) :
  L2 w (l.take k)=some (LY l k w).isSome:=by
 unfold L2 QF
 have A:(l.take k).length=k:=by rw[sb];omega
 rw[B2 (n:=k) (λj=>if HB l[j]! w then some (j:Int) else none) (λj B=>by
  unfold O4 Ra
  rw[qy (by rw[A,q8];omega),Ac (by rw[A];exact B),AD,Y7 B C,jB h (E j B) hw,AD,AD,Ar (by omega)]
  cases HB l[j]! w<;>rfl) (by unfold O4;rw[qx (by rw[A];simp)]),Q4,FC]
 unfold LY
 cases (List.range k).find? λj=>HB l[j]! w with
 | none=>rfl
 | some j=>
  show(AB (some (j:Int)) λ(F:Int)=>some (decide (0≤F)))=_
  rw[AD,q7 (tg j)];rfl
def I5(j m:Int)(l:List Ap)(k:Nat):Option Int:=
 if ¬ DE j m l[k]! then some 2 else if l[k]!.H=1∧l[k]!.W=1 then some 4 else if 0<k∧0≤B1 l[k-1]!.Row l[k]!.Row l[k-1]!.Col l[k]!.Col then some 5 else if(LY l k l[k]!).isSome=true then some 21 else none
theorem SZ{j m}{l}{k}(h:I5 j m l k=none):DE j m l[k]!:=by
 unfold I5 at h
 by_cases q:DE j m l[k]!
 ·exact q
 ·rw[qy q] at h;cases h
def Hj(g:Av):Int:=
 if ¬ FB g.Rows g.Cols then 2 else if JL g.Rows g.Cols false g.Cells≠0 then JL g.Rows g.Cols false g.Cells else((List.range g.Merges.length).findSome? (I5 g.Rows g.Cols g.Merges)).getD 0
def UB(g:Av):Prop:=g.Cells.length≤1048576∧g.Merges.length≤1048576∧∀c∈g.Cells,Qp c
theorem jK(a b:Ap):NQ a b=some (!(0≤B1 a.Row b.Row a.Col b.Col)):=by
 unfold NQ
 congr 1
 rw[ro]
 have:=Rg a.Row b.Row a.Col b.Col
 simp only[rH,rF,q8,sB,sP,this]
 omega
theorem Xp(g:Av)(h:UB g):PU g=some (Hj g):=by
 obtain⟨Z,hm,E⟩:=h
 unfold PU Hj
 by_cases q:FB g.Rows g.Cols
 ·have F:=q
  obtain⟨r1,r2,M,r4⟩:=F
  rw[qx (by simp only[rH,q8];omega),lw _ _ _ _ (by omega) E,AD,qx (rg.2 q)]
  by_cases B:JL g.Rows g.Cols false g.Cells=0
  ·rw[qx (De B),qx (rg.2 B),YV (n:=g.Merges.length) (I5 g.Rows g.Cols g.Merges) (λk O T=>by
    unfold PJ
    rw[qy (by simpa using O),Ac O,AD,bP _ _ _ q,AD]
    unfold I5
    by_cases w:DE g.Rows g.Cols g.Merges[k]!
    ·rw[q7 w,qx (show ¬ ((!true)=true) by decide),qx (rg.2 w)]
     by_cases A:g.Merges[k]!.H=1∧g.Merges[k]!.W=1
     ·rw[qy (by rw[q7 A.1,q7 A.2];rfl),qy A];rfl
     ·rw[qx (by simp only[rF,q8];exact A),qx A]
      have m:=dB q g.Merges k (by omega) (by omega) (λj I=>SZ (T j I)) w
      have U:DY g.Merges 0 (k:Int)=some (g.Merges.take k):=by
       rw[dQ g.Merges k (by omega) (by omega)];simp
      have l:(AB (DY g.Merges 0 (k:Int)) λ(V:List Ap)=>
        AB (L2 g.Merges[k]! V) λ(M:Bool)=>
        if M then(some (.inr (.ext 21)):Option (Int ⊕ (Ax Unit Int))) else(
         AB (AZ .i64 ((k:Int)+1)) λ(X:Int)=>some (.inl X)))=CJ k (if(LY g.Merges k g.Merges[k]!).isSome=true then some 21 else none):=by
       rw[U,AD,m,AD,Ar (by omega)]
       cases (LY g.Merges k g.Merges[k]!).isSome<;>rfl
      by_cases J:0<k
      ·rw[q7 (show(0:Int)<k by omega),show((true==true):Bool)=true from rfl,At,FN J (by omega),AD,At,Ac (show k-1<g.Merges.length by omega),AD,At,jK,AD]
       by_cases C:0≤B1 g.Merges[k-1]!.Row g.Merges[k]!.Row g.Merges[k-1]!.Col g.Merges[k]!.Col
       ·rw[q7 C,qy (show 0<k∧0≤B1 g.Merges[k-1]!.Row g.Merges[k]!.Row g.Merges[k-1]!.Col g.Merges[k]!.Col from⟨J,C⟩)];rfl
       ·rw[qz C,qx (show ¬ (0<k∧0≤B1 g.Merges[k-1]!.Row g.Merges[k]!.Row g.Merges[k-1]!.Col g.Merges[k]!.Col) from λh=>C h.2)]
        exact l
      ·have e0:k=0:=by omega
       rw[qx (show ¬ (0<k∧0≤B1 g.Merges[k-1]!.Row g.Merges[k]!.Row g.Merges[k-1]!.Col g.Merges[k]!.Col) from λh=>J h.1),qz (show ¬ (0:Int)<k by omega)]
       exact l
    ·rw[qz w,qy w];rfl) (by unfold PJ;rw[qx (by simp)]),FK]
  ·rw[qy (Cd B),qy B]
 ·rw[qy q,qy (by unfold FB at q;simp only[rH,q8];omega)]
theorem jh{X:Type}(l:List Ap)(k:Nat)(F:k<l.length)(I:l.length≤9223372036854775806)(a b:Option X) :
  (AB (gd ((decide (0<(k:Int)))==true) (AZ .i64 ((k:Int)-1))) λ(C:Int)=>
    AB (gd ((decide (0<(k:Int)))==true) (AL l C)) λ(j:Ap)=>
    AB (gd ((((decide (0<(k:Int)))==true)&&((decide (l[k]!.Row<j.Row))==false))&&((decide (l[k]!.Row=j.Row))==true)) (AZ .i64 ((k:Int)-1))) λ(x7:Int)=>
    AB (gd ((((decide (0<(k:Int)))==true)&&((decide (l[k]!.Row<j.Row))==false))&&((decide (l[k]!.Row=j.Row))==true)) (AL l x7)) λ(E:Ap)=>
    if((0<(k:Int))&&((l[k]!.Row<j.Row)||((l[k]!.Row=j.Row)&&(l[k]!.Col≤E.Col)))) then a else b) =
   if 0<k∧0≤B1 l[k-1]!.Row l[k]!.Row l[k-1]!.Col l[k]!.Col then a else b:=by
 have m:=Rg l[k-1]!.Row l[k]!.Row l[k-1]!.Col l[k]!.Col
 by_cases q:0<k
 ·rw[q7 (show(0:Int)<k by omega),show((true==true):Bool)=true from rfl,At,FN q (by omega),AD,At,Ac (show k-1<l.length by omega),AD]
  by_cases w:l[k]!.Row<l[k-1]!.Row
  ·rw[q7 w,qy (show 0<k∧0≤B1 l[k-1]!.Row l[k]!.Row l[k-1]!.Col l[k]!.Col from⟨q,m.2 (.inl w)⟩)];rfl
  ·by_cases A:l[k]!.Row=l[k-1]!.Row
   ·rw[qz w,q7 A,show(((true&&(false==false))&&(true==true)):Bool)=true from rfl,At,AD,At,Ac (show k-1<l.length by omega),AD]
    by_cases B:l[k]!.Col≤l[k-1]!.Col
    ·rw[q7 B,qy (show 0<k∧0≤B1 l[k-1]!.Row l[k]!.Row l[k-1]!.Col l[k]!.Col from⟨q,m.2 (.inr ⟨A,B⟩)⟩)];rfl
    ·rw[qz B,qx (show ¬ (0<k∧0≤B1 l[k-1]!.Row l[k]!.Row l[k-1]!.Col l[k]!.Col) from λh=>by have:=m.1 h.2;omega)];rfl
   ·rw[qz w,qz A,qx (show ¬ (0<k∧0≤B1 l[k-1]!.Row l[k]!.Row l[k-1]!.Col l[k]!.Col) from λh=>by have:=m.1 h.2;omega)];rfl
 ·rw[qx (show ¬ (0<k∧0≤B1 l[k-1]!.Row l[k]!.Row l[k-1]!.Col l[k]!.Col) from λh=>q h.1),qz (show ¬ (0:Int)<k by omega)];rfl
theorem Y6(g:Av)(h:UB g):Nj g=some (Hj g):=by
 obtain⟨U,V,B⟩:=h
 unfold Nj Hj
 rw[EK,AD]
 by_cases l:FB g.Rows g.Cols
 ·have C:=l
  obtain⟨I,J,M,O⟩:=C
  rw[q7 (show 0≤g.Rows∧g.Rows≤2147483647 from⟨I,J⟩),show((!true)==false)=true from rfl,At,EK,AD,q7 (show 0≤g.Cols∧g.Cols≤2147483647 from⟨M,O⟩),qx (by decide),
   ga _ _ _ _ (by omega) B ⟨I,J⟩ ⟨M,O⟩,AD,qx (rg.2 l)]
  by_cases w:JL g.Rows g.Cols false g.Cells=0
  ·rw[qx (De w),qx (rg.2 w),YV (n:=g.Merges.length) (I5 g.Rows g.Cols g.Merges) (λk E T=>by
    unfold O8
    rw[qy (by simpa using E),Ac E,AD,kE _ _ _ l,AD]
    unfold I5
    by_cases m:DE g.Rows g.Cols g.Merges[k]!
    ·rw[q7 m,qx (show ¬ ((!true)=true) by decide),qx (rg.2 m)]
     by_cases q:g.Merges[k]!.H=1∧g.Merges[k]!.W=1
     ·rw[qy (by rw[q7 q.1,q7 q.2];rfl),qy q];rfl
     ·rw[qx (by simp only[rF,q8];exact q),qx q,jh _ k E (by omega)]
      by_cases A:0<k∧0≤B1 g.Merges[k-1]!.Row g.Merges[k]!.Row g.Merges[k-1]!.Col g.Merges[k]!.Col
      ·rw[qy A,qy A];rfl
      ·rw[qx A,qx A,B2 (n:=k) (λj=>if HB g.Merges[j]! g.Merges[k]! then some (.inr (.ext 21)) else none) (λj F=>by
        unfold PZ
        rw[qy (by rw[q8];omega),Ac (by omega),AD,eF l m (SZ (T j F)),AD,Ar (by omega)]
        cases HB g.Merges[j]! g.Merges[k]!<;>rfl) (by unfold PZ;rw[qx (by rw[q8];omega)]),Q4,FC]
       unfold LY
       cases (List.range k).find? λj=>HB g.Merges[j]! g.Merges[k]! with
       | none=>rw[Ar (by omega)];rfl
       | some j=>rfl
    ·rw[qz m,qy m];rfl) (by unfold O8;rw[qx (by simp)]),FK]
  ·rw[qy (Cd w),qy w]
 ·rw[qy l]
  unfold FB at l
  by_cases a:0≤g.Rows∧g.Rows≤2147483647
  ·rw[q7 a,show((!true)==false)=true from rfl,At,EK,AD,qz (show ¬ (0≤g.Cols∧g.Cols≤2147483647) by omega)];rfl
  ·rw[qz a];rfl
def UC(c:UInt8):Bool:=(97≤c.toNat)&&(c.toNat≤122)
def RI(s:List UInt8):Bool:=(List.range s.length).all λk=>UC s[k]!
def J7(s:List UInt8):Bool:=(1≤s.length)&&(s.length≤200)&&!(s[s.length-1]!.toNat=97)&&RI s
theorem Xe(s:List UInt8)(l:s.length≤9223372036854775806):iter (λ(a:Int)=>Jw s a) 0=some (Df (if RI s then none else some false)):=by
 rw[B2 (n:=s.length) (λk=>if UC s[k]! then none else some false) (λk j=>by
  unfold Jw
  rw[qy (by simpa using j),Ac j,AD,Ar (by omega)]
  unfold UC
  generalize s[k]! = c
  by_cases h:97≤c.toNat∧c.toNat≤122
  ·rw[qx (by simp only[rH,q8];omega),qy (by simp only[rF,q8];exact h)];rfl
  ·rw[qy (by simp only[rH,q8];omega),qx (by simp only[rF,q8];exact h)];rfl) (by unfold Jw;rw[qx (by simp)]),KL]
 rfl
theorem er:KN=Jw:=by funext s x;rfl
theorem kg(s:List UInt8)(m:s.length≤9223372036854775806):KH s=some (J7 s):=by
 unfold KH J7
 rw[er,Xe s m]
 by_cases h:1≤s.length∧s.length≤200
 ·have j:s≠[]:=s4.1 h.1
  rw[qz j,qz (show ¬ (200:Int)<(s.length:Int) by omega),show((false||false)==false)=true from rfl,At,FN h.1 (by omega),AD,At,Ac (by omega),AD,q7 h.1,q7 h.2]
  by_cases l:s[s.length-1]!.toNat=97
  ·rw[q7 l,qy (by rw[q7 (show((s[s.length-1]!.toNat:Int)=97) by omega)];rfl)];rfl
  ·rw[qz l,qx (by rw[qz (show ¬ ((s[s.length-1]!.toNat:Int)=97) by omega)];decide)]
   cases RI s<;>rfl
 ·have q:((s=[])||(200<(s.length:Int)))=true:=by
   rw[rH,q8,q8,← ss];omega
  have hd:((1≤s.length)&&(s.length≤200))=false:=by
   rw[← ru,rF,q8,q8];exact h
  rw[q,hd];rfl
theorem jN(s:List UInt8)(l:s.length≤9223372036854775806):Ox s=some (J7 s):=by
 unfold Ox J7
 rw[Xe s l,FC]
 cases RI s with
 | false=>rw[Bool.and_false];rfl
 | true=>
  rw[qy rfl,uF]
  dsimp only
  by_cases h:1≤s.length∧s.length≤200
  ·rw[q7 (show(1:Int)≤(s.length:Int) by omega),q7 (show(s.length:Int)≤200 by omega),show((true&&true)==true)=true from rfl,At,FN h.1 (by omega),AD,At,Ac (by omega),AD,q7 h.1,q7 h.2]
   by_cases j:s[s.length-1]!.toNat=97
   ·rw[q7 j,q7 (show((s[s.length-1]!.toNat:Int)=97) by omega)]
   ·rw[qz j,qz (show ¬ ((s[s.length-1]!.toNat:Int)=97) by omega)]
  ·have m:((1≤(s.length:Int))&&((s.length:Int)≤200))=false:=by
    rw[← ru,rF,q8,q8];omega
   have hd:((1≤s.length)&&(s.length≤200))=false:=by
    rw[← ru,rF,q8,q8];exact h
   rw[m,hd];rfl
def G6(o:Aw):Prop:=(1≤o.Clock∧o.Clock≤1073741824)∧(0≤o.Site∧o.Site≤1000)∧(1≤o.Item∧o.Item≤1073741824)
instance (o:Aw):Decidable (G6 o):=by unfold G6;infer_instance
def LT(o:Aw):Int:=
 if ¬ (o.Kind=0∨o.Kind=1) then 8 else if ¬ G6 o then 2
 else if o.Kind=0 then(if o.Name≠[]∨o.Value≠[] then 4 else if ¬ (-1≤o.Parent∧o.Parent≤1073741824) then 2 else if J7 o.Place=false then 9 else 0)
 else(if o.Parent≠0∨o.Place≠[] then 4 else if Eh o.Name=false then 9 else if o.Value≠[]∧Du o.Value=false then 23 else 0)
def NF(l:List Aw)(k:Nat):Option Int:=
 if LT l[k]!≠0 then some (LT l[k]!) else if 0<k∧0≤B1 l[k-1]!.Clock l[k]!.Clock l[k-1]!.Site l[k]!.Site then some 5 else none
def VB(l:List Aw):Int:=((List.range l.length).findSome? (NF l)).getD 0
def QR(o:Aw):Prop:=o.Place.length≤1073741824∧o.Name.length≤1073741824∧o.Value.length≤1073741824
theorem fe(o:Aw)(h:QR o):Kz o=some (LT o):=by
 obtain⟨hp,F,I⟩:=h
 unfold Kz LT
 rw[kg _ (by omega),UW _ (by omega),R1 _ (by omega)]
 by_cases j:o.Kind=0
 ·have m:¬ o.Kind=1:=by omega
  rw[qx (show ¬ ((!(o.Kind=0))&&(!(o.Kind=1)))=true by rw[q7 j];simp),qx (show ¬ ¬ (o.Kind=0∨o.Kind=1) from λh=>h (.inl j))]
  by_cases l:G6 o
  ·have q:=l
   unfold G6 at q
   rw[qx (by simp only[rH,q8];omega),qx (rg.2 l),qy j,q7 j,qz m]
   by_cases c1:o.Name≠[]∨o.Value≠[]
   ·have w:(true&&((!(o.Name=[]))||(!(o.Value=[]))))=true:=by
     rw[rq,rH]
     rcases c1 with c | c
     ·exact .inl (Cd c)
     ·exact .inr (Cd c)
    rw[qy c1,w];rfl
   ·have B:o.Name=[]∧o.Value=[]:=⟨rY λh=>c1 (.inl h),rY λh=>c1 (.inr h)⟩
    have w:(true&&((!(o.Name=[]))||(!(o.Value=[]))))=false:=by rw[q7 B.1,q7 B.2];rfl
    rw[qx c1,w]
    by_cases A : -1≤o.Parent∧o.Parent≤1073741824
    ·rw[qx (rg.2 A)]
     have C:((o.Parent<(-1))||(1073741824<o.Parent))=false:=by
      rw[← ru,rH,q8,q8];omega
     rw[C]
     cases J7 o.Place with
     | false=>rfl
     | true=>rw[q7 B.2];rfl
    ·rw[qy A]
     have C:((o.Parent<(-1))||(1073741824<o.Parent))=true:=by
      rw[rH,q8,q8];omega
     rw[C];rfl
  ·rw[qy (by unfold G6 at l;simp only[rH,q8];omega),qy l]
 ·by_cases m:o.Kind=1
  ·rw[qx (show ¬ ((!(o.Kind=0))&&(!(o.Kind=1)))=true by rw[q7 m,qz j];decide),qx (show ¬ ¬ (o.Kind=0∨o.Kind=1) from λh=>h (.inr m))]
   by_cases l:G6 o
   ·have q:=l
    unfold G6 at q
    rw[qx (by simp only[rH,q8];omega),qx (rg.2 l),qx j,qz j,q7 m]
    by_cases c1:o.Parent≠0∨o.Place≠[]
    ·have w:(true&&((!(o.Parent=0))||(!(o.Place=[]))))=true:=by
      rw[rq,rH]
      rcases c1 with c | c
      ·exact .inl (Cd c)
      ·exact .inr (Cd c)
     rw[qy c1,w];rfl
    ·have B:o.Parent=0∧o.Place=[]:=⟨rY λh=>c1 (.inl h),rY λh=>c1 (.inr h)⟩
     have w:(true&&((!(o.Parent=0))||(!(o.Place=[]))))=false:=by rw[q7 B.1,q7 B.2];rfl
     rw[qx c1,w]
     cases Eh o.Name with
     | false=>rfl
     | true=>
      by_cases A:o.Value=[]
      ·rw[q7 A,qx (show ¬ (true=false) by decide),qx (show ¬ (o.Value≠[]∧Du o.Value=false) from λh=>h.1 A)];rfl
      ·rw[qz A,qx (show ¬ (true=false) by decide)]
       cases E:Du o.Value with
       | false=>rw[qy (show o.Value≠[]∧false=false from⟨A,rfl⟩)];rfl
       | true=>rw[qx (show ¬ (o.Value≠[]∧true=false) from λh=>by cases h.2)];rfl
   ·rw[qy (by unfold G6 at l;simp only[rH,q8];omega),qy l]
  ·rw[qy (show((!(o.Kind=0))&&(!(o.Kind=1)))=true by rw[qz m,qz j];rfl),qy (show ¬ (o.Kind=0∨o.Kind=1) from λh=>h.elim j m)]
theorem kl(a b:Aw):KQ a b=some (B1 a.Clock b.Clock a.Site b.Site):=by
 unfold KQ
 rw[Rm,Rm,AD,AD,XS,AD,XG]
theorem pz(a b:Aw):LP a b=some (!(0≤B1 a.Clock b.Clock a.Site b.Site)):=by
 unfold LP
 congr 1
 rw[ro]
 have:=Rg a.Clock b.Clock a.Site b.Site
 simp only[rH,rF,q8,sB,sP,this]
 omega
theorem mB(l:List Aw)(A:l.length≤1073741824)(w:∀o∈l,QR o):LL l=some (VB l):=by
 unfold LL
 rw[B2 (n:=l.length) (NF l) (λk m=>by
  unfold LE NF
  rw[qy (by simpa using m),Ac m,AD,fe _ (w _ (Bm m)),AD]
  by_cases e:LT l[k]! = 0
  ·rw[qx (De e),qx (rg.2 e)]
   by_cases q:0<k
   ·rw[q7 (show(0:Int)<k by omega),show((true==true):Bool)=true from rfl,At,FN q (by omega),AD,At,Ac (show k-1<l.length by omega),AD,At,kl,AD]
    by_cases j:0≤B1 l[k-1]!.Clock l[k]!.Clock l[k-1]!.Site l[k]!.Site
    ·rw[q7 j,qy (show 0<k∧0≤B1 l[k-1]!.Clock l[k]!.Clock l[k-1]!.Site l[k]!.Site from⟨q,j⟩)];rfl
    ·rw[qz j,qx (show ¬ (0<k∧0≤B1 l[k-1]!.Clock l[k]!.Clock l[k-1]!.Site l[k]!.Site) from λh=>j h.2),Ar (by omega)];rfl
   ·rw[qx (show ¬ (0<k∧0≤B1 l[k-1]!.Clock l[k]!.Clock l[k-1]!.Site l[k]!.Site) from λh=>q h.1),qz (show ¬ (0:Int)<k by omega),Ar (by omega)];rfl
  ·rw[qy (Cd e),qy e];rfl) (by unfold LE;rw[qx (by simp)]),FK]
 rfl
theorem aH(l:List Aw)(hm:l.length≤1073741824)(T:∀o∈l,QR o):NW l=some (VB l):=by
 unfold NW
 rw[B2 (n:=l.length) (NF l) (λk E=>by
  obtain⟨hp,U,V⟩:=T _ (Bm E)
  have m:(AB (gd ((decide (0<(k:Int)))==true) (AZ .i64 ((k:Int)-1))) λ(X:Int)=>
    AB (gd ((decide (0<(k:Int)))==true) (AL l X)) λ(Z:Aw)=>
    AB (gd ((decide (0<(k:Int)))==true) (LP Z l[k]!)) λ(r4:Bool)=>
    if((0<(k:Int))&&(!r4)) then(some (.inr (.ext 5)):Option (Int ⊕ (Ax Unit Int))) else(
     AB (AZ .i64 ((k:Int)+1)) λ(x7:Int)=>some (.inl x7)))=CJ k (if 0<k∧0≤B1 l[k-1]!.Clock l[k]!.Clock l[k-1]!.Site l[k]!.Site then some 5 else none):=by
   by_cases F:0<k
   ·rw[q7 (show(0:Int)<k by omega),show((true==true):Bool)=true from rfl,At,FN F (by omega),AD,At,Ac (show k-1<l.length by omega),AD,At,pz,AD]
    by_cases B:0≤B1 l[k-1]!.Clock l[k]!.Clock l[k-1]!.Site l[k]!.Site
    ·rw[q7 B,qy (show 0<k∧0≤B1 l[k-1]!.Clock l[k]!.Clock l[k-1]!.Site l[k]!.Site from⟨F,B⟩)];rfl
    ·rw[qz B,qx (show ¬ (0<k∧0≤B1 l[k-1]!.Clock l[k]!.Clock l[k-1]!.Site l[k]!.Site) from λh=>B h.2),Ar (by omega)];rfl
   ·rw[qx (show ¬ (0<k∧0≤B1 l[k-1]!.Clock l[k]!.Clock l[k-1]!.Site l[k]!.Site) from λh=>F h.1),qz (show ¬ (0:Int)<k by omega),Ar (by omega)];rfl
  unfold N5 NF LT
  rw[qy (by simpa using E),Ac E,AD,m,EK,AD,EK,EK,EK,jN _ (by omega),Wh _ (by omega),VJ _ (by omega)]
  generalize l[k]! = o at hp U V ⊢
  by_cases w:o.Kind=0∨o.Kind=1
  ·rw[qx (show ¬ ((!(o.Kind=0))&&(!(o.Kind=1)))=true by rcases w with h | h<;>rw[q7 h]<;>simp),qx (rg.2 w)]
   by_cases q:G6 o
   ·rw[qx (rg.2 q),q7 q.1,show((!true)==false)=true from rfl,At,AD,q7 q.2.1,show(((!true)||(!true))==false)=true from rfl,At,AD,q7 q.2.2,qx (show ¬ (((!true)||(!true))||(!true))=true by decide)]
    by_cases C:o.Kind=0
    ·rw[qy (q7 C),qy C]
     by_cases c1:o.Name≠[]∨o.Value≠[]
     ·have I:((!(o.Name=[]))||(!(o.Value=[])))=true:=by
       rw[rH]
       rcases c1 with c | c
       ·exact .inl (Cd c)
       ·exact .inr (Cd c)
      rw[qy c1,qy I];rfl
     ·have A:o.Name=[]∧o.Value=[]:=⟨rY λh=>c1 (.inl h),rY λh=>c1 (.inr h)⟩
      rw[qx c1,qx (show ¬ ((!(o.Name=[]))||(!(o.Value=[])))=true by rw[q7 A.1,q7 A.2];decide),AD]
      by_cases j : -1≤o.Parent∧o.Parent≤1073741824
      ·rw[qx (rg.2 j),q7 j,qx (show ¬ ((!true)=true) by decide),AD]
       cases J7 o.Place<;>rfl
      ·rw[qy j,qz j];rfl
    ·rw[qx (show ¬ decide (o.Kind=0)=true by simpa using C),qx C]
     by_cases c1:o.Parent≠0∨o.Place≠[]
     ·have I:((!(o.Parent=0))||(!(o.Place=[])))=true:=by
       rw[rH]
       rcases c1 with c | c
       ·exact .inl (Cd c)
       ·exact .inr (Cd c)
      rw[qy c1,qy I];rfl
     ·have A:o.Parent=0∧o.Place=[]:=⟨rY λh=>c1 (.inl h),rY λh=>c1 (.inr h)⟩
      rw[qx c1,qx (show ¬ ((!(o.Parent=0))||(!(o.Place=[])))=true by rw[q7 A.1,q7 A.2];decide),AD]
      cases Eh o.Name with
      | false=>rfl
      | true=>
       by_cases j:o.Value=[]
       ·rw[q7 j,qx (show ¬ (true=false) by decide),qx (show ¬ (o.Value≠[]∧Du o.Value=false) from λh=>h.1 j)];rfl
       ·rw[qz j,qx (show ¬ (true=false) by decide)]
        cases a0:Du o.Value with
        | false=>rw[qy (show o.Value≠[]∧false=false from⟨j,rfl⟩)];rfl
        | true=>rw[qx (show ¬ (o.Value≠[]∧true=false) from λh=>by cases h.2)];rfl
   ·rw[qy q]
    unfold G6 at q
    by_cases M:1≤o.Clock∧o.Clock≤1073741824
    ·rw[q7 M,show((!true)==false)=true from rfl,At,AD]
     by_cases O:0≤o.Site∧o.Site≤1000
     ·rw[q7 O,show(((!true)||(!true))==false)=true from rfl,At,AD,qz (show ¬ (1≤o.Item∧o.Item≤1073741824) by omega)];rfl
     ·rw[qz O];rfl
    ·rw[qz M];rfl
  ·have J:((!(o.Kind=0))&&(!(o.Kind=1)))=true:=by
    rw[qz (λh=>w (.inl h)),qz (λh=>w (.inr h))];rfl
   rw[qy J,qy w];rfl) (by unfold N5;rw[qx (by simp)]),FK]
 rfl
theorem Va:Ko=Ds:=by funext k;rfl
theorem iG:Q9=F6:=by funext k;rfl
theorem lJ:Pe=FS:=by funext k;rfl
theorem iU:Rc=Fk:=by funext k;rfl
structure Fj(n:AO):Prop where
 ok:O7 n
 ce:∀c∈n.Grid.Cells,Qp c
 dr:∀o∈n.Draw,QR o
theorem Fj.gd{n:AO}(h:Fj n):UB n.Grid:=⟨h.ok.gr.1,h.ok.gr.2.1,h.ce⟩
def MP(kind:Int)(c:An):Bool:=((kind=2)&&((!(c.Text=[]))||(0<(c.Attrs.length:Int))))||((kind=6)&&(!(c.Ref=0)))
def WU(kind:Int)(l:List An):Int:=((List.range l.length).findSome? λk=>if MP kind l[k]! then some (4:Int) else none).getD 0
theorem gx kind(l:List An)(m:l.length≤1073741824):O9 kind l=some (WU kind l):=by
 unfold O9
 rw[B2 (n:=l.length) (λk=>if MP kind l[k]! then some (4:Int) else none) (λk j=>by
  unfold NI
  rw[qy (by simpa using j),Ac j,AD,Ar (by omega)]
  show(if MP kind l[k]! = true then _ else _)=_
  cases MP kind l[k]!<;>rfl) (by unfold NI;rw[qx (by simp)]),FK]
 rfl
theorem dS kind(l:List An)(A:l.length≤1073741824):Ow kind l=some (WU kind l):=by
 unfold Ow
 rw[B2 (n:=l.length) (λk=>if MP kind l[k]! then some (4:Int) else none) (λk w=>by
  unfold PS MP
  rw[qy (by simpa using w),Ac w,Ar (by omega)]
  generalize l[k]! = c
  by_cases m:kind=2
  ·have j:¬ kind=6:=by omega
   rw[q7 m,qz j]
   rw[show((true==true):Bool)=true from rfl,At,AD]
   generalize ((!(c.Text=[]))||(0<(c.Attrs.length:Int)))=q
   cases q<;>rfl
  ·by_cases j:kind=6
   ·rw[qz m,q7 j]
    rw[show((false==true):Bool)=false from rfl,DV,AD]
    show(AB (gd true (some c)) λ(B:An)=>_)=_
    rw[At,AD]
    generalize (!(c.Ref=0))=q
    cases q<;>rfl
   ·rw[qz m,qz j];rfl) (by unfold PS;rw[qx (by simp)]),FK]
 rfl
def TS(t l g z d j m:Bool):Bool:=((!(t||l)&&j)||(!g&&!z))||(!d&&m)
theorem ji t l g z d j m :
  (if(((!(t||l))&&j)==false) then(
   if((!g)==true) then(
    AB (gd ((((!(t||l))&&j)||((!g)&&(!z)))==false) (some d)) λ(w:Bool)=>
    some ((((!(t||l))&&j)||((!g)&&(!z)))||((!w)&&m))
   ) else(
    AB (gd ((((!(t||l))&&j)||((!g)&&false))==false) (some d)) λ(A:Bool)=>
    some ((((!(t||l))&&j)||((!g)&&false))||((!A)&&m))
   )
  ) else(
   AB (gd ((((!(t||l))&&j)||false)==false) (some d)) λ(q:Bool)=>
   some ((((!(t||l))&&j)||false)||((!q)&&m))
  ))=some (TS t l g z d j m):=by
 cases t<;>cases l<;>cases g<;>cases z<;>cases d<;>cases j<;>cases m<;>rfl
theorem oq{X:Type}(t l g z d j m:Bool)(A B:Option X) :
  (AB (gd ((j&&(!(t||l)))==false) (some z)) λ(q:Bool)=>
   AB (gd (((j&&(!(t||l)))==false)&&((!q)==true)) (some g)) λ(w:Bool)=>
   AB (gd ((((j&&(!(t||l)))||((!q)&&(!w)))==false)&&(m==true)) (some d)) λ(C:Bool)=>
   if(((j&&(!(t||l)))||((!q)&&(!w)))||(m&&(!C))) then A else B)=if TS t l g z d j m=true then A else B:=by
 cases t<;>cases l<;>cases g<;>cases z<;>cases d<;>cases j<;>cases m<;>rfl
theorem Yh{α:Type}(l:List α):decide ((l.length:Int)=0)=l.isEmpty:=by
 cases l with
 | nil=>rfl
 | cons a l=>exact qz (by simp only[rp];omega)
theorem fu g:NZ g=some (decide (g=Av.mk 0 0 [] [])):=by
 unfold NZ
 congr 1
 obtain⟨a,b,c,d⟩:=g
 rw[Yh,Yh,ro]
 simp[and_assoc]
theorem Qm(n:AO)(h:Fj n):∃e,CZ n=some e∧OY n=some e:=by
 have A:=h.ok.at_
 have hf:=h.ok.fl
 have hg:=h.ok.gr
 have hd:=h.ok.dr
 have M:∀x∈n.Flow,Eo x:=λx hx=>⟨by have:=(h.ok.fa x hx).1;omega,(h.ok.fa x hx).2⟩
 unfold CZ OY
 rw[Va,iG,lJ,iU,EK,AD]
 by_cases c1:1≤n.ID∧n.ID≤1073741824
 ·rw[qx (show ¬ ((n.ID<1)||(1073741824<n.ID))=true by simp only[rH,q8];omega),q7 c1,qx (show ¬ ((!true)=true) by decide),EK,AD]
  by_cases j:(0≤n.Kind∧n.Kind≤12)∧(n.ID=1↔n.Kind=0)
  ·obtain⟨j,B⟩:=j
   have O:(((n.Kind<0)||(13≤n.Kind))||(!((decide (n.ID=1))==(decide (n.Kind=0)))))=false:=by
    rw[qz (show ¬ n.Kind<0 by omega),qz (show ¬ 13≤n.Kind by omega)]
    by_cases q:n.ID=1
    ·rw[q7 q,q7 (B.1 q)];rfl
    ·rw[qz q,qz (λe=>q (B.2 e))];rfl
   have T:(((!(0≤n.Kind∧n.Kind≤12))||((n.ID=1)&&(!(n.Kind=0))))||((!(n.ID=1))&&(n.Kind=0)))=false:=by
    rw[q7 j]
    by_cases q:n.ID=1
    ·rw[q7 q,q7 (B.1 q)];rfl
    ·rw[qz q,qz (λe=>q (B.2 e))];rfl
   rw[O,T,qx (show ¬ (false=true) by decide),qx (show ¬ (false=true) by decide),Rn _ A.2 (by have:=A.1;omega),AD,UX _ _ A.2 (by have:=A.1;omega),AD]
   by_cases C:CI n.Attrs false=0
   ·rw[qx (De C),qx (De C)]
    obtain⟨t,ht⟩:∃t,Ds n.Kind=some t:=⟨_,rfl⟩
    obtain⟨l,hl⟩:∃t,F6 n.Kind=some t:=⟨_,rfl⟩
    obtain⟨g,U⟩:∃t,FS n.Kind=some t:=⟨_,rfl⟩
    obtain⟨d,V⟩:∃t,Fk n.Kind=some t:=⟨_,rfl⟩
    rw[ht,hl,U,V,AD,AD,Qq _ _ hg,fu]
    have X:∃E,gd (t==false) (some l)=some E:=by cases t<;>exact⟨_,rfl⟩
    obtain⟨E,Z⟩:=X
    rw[Z,AD,AD,AD,ji,AD,AD,oq]
    by_cases F:TS t E g (decide (n.Grid=Av.mk 0 0 [] [])) d (decide (0<(n.Flow.length:Int))) (decide (0<(n.Draw.length:Int)))=true
    ·rw[qy F,qy F];exact⟨_,rfl,rfl⟩
    ·rw[qx F,qx F]
     by_cases I:(t||E)=true
     ·obtain⟨r,h1,h2⟩:=jg n.Flow t M (by omega)
      rw[qy I,qy I,h1,h2];exact⟨_,rfl,rfl⟩
     ·rw[qx I,qx I]
      cases g with
      | true=>
       rw[qy rfl,Xp _ h.gd,AD,AD,qy rfl,Y6 _ h.gd,AD]
       by_cases J:Hj n.Grid=0
       ·rw[qx (De J),qx (De J),gx _ _ (by have:=hg.1;omega),dS _ _ (by have:=hg.1;omega)];exact⟨_,rfl,rfl⟩
       ·rw[qy (Cd J),qy (Cd J)];exact⟨_,rfl,rfl⟩
      | false=>
       rw[qx (show ¬ (false=true) by decide),AD,qx (show ¬ (false=true) by decide),mB _ (by omega) h.dr,aH _ (by omega) h.dr];exact⟨_,rfl,rfl⟩
   ·rw[qy (Cd C),qy (Cd C)];exact⟨_,rfl,rfl⟩
  ·have O:(((n.Kind<0)||(13≤n.Kind))||(!((decide (n.ID=1))==(decide (n.Kind=0)))))=true:=by
    by_cases m:0≤n.Kind∧n.Kind≤12
    ·have w:¬ (n.ID=1↔n.Kind=0):=λe=>j ⟨m,e⟩
     by_cases q:n.ID=1
     ·rw[q7 q,qz (λe=>w ⟨λ_=>e,λ_=>q⟩),rH];exact .inr rfl
     ·rw[qz q,q7 (rY λe=>w ⟨λx=>absurd x q,λx=>absurd x e⟩),rH];exact .inr rfl
    ·simp only[rH,q8];exact .inl (by omega)
   have T:(((!(0≤n.Kind∧n.Kind≤12))||((n.ID=1)&&(!(n.Kind=0))))||((!(n.ID=1))&&(n.Kind=0)))=true:=by
    by_cases m:0≤n.Kind∧n.Kind≤12
    ·have w:¬ (n.ID=1↔n.Kind=0):=λe=>j ⟨m,e⟩
     rw[q7 m]
     by_cases q:n.ID=1
     ·rw[q7 q,qz (λe=>w ⟨λ_=>e,λ_=>q⟩)];rfl
     ·rw[qz q,q7 (rY λe=>w ⟨λx=>absurd x q,λx=>absurd x e⟩)];rfl
    ·rw[qz m];rfl
   rw[O,T];exact⟨_,rfl,rfl⟩
 ·rw[qy (show((n.ID<1)||(1073741824<n.ID))=true by simp only[rH,q8];omega),qz c1];exact⟨_,rfl,rfl⟩
theorem om(s:List Int) v(q:s.length≤1048576):Kf s v=some ((List.range s.length).find? λj=>decide (v=s[j]!)).isSome:=by
 unfold Kf N1
 rw[B2 (n:=s.length) (λj=>if decide (v=s[j]!) then some (j:Int) else none) (λj l=>by
  unfold JX
  rw[qy (by simpa using l),Ac l,AD,Ar (by omega)]
  cases decide (v=s[j]!)<;>rfl) (by unfold JX;rw[qx (by simp)]),Q4,FC]
 cases (List.range s.length).find? λj=>decide (v=s[j]!) with
 | none=>rfl
 | some j=>
  show(AB (some (j:Int)) λ(m:Int)=>some (decide (0≤m)))=_
  rw[AD,q7 (tg j)];rfl
theorem KF(s:List Int) v(m:s.length≤1048576):Kf s v=some (decide (v∈s)):=by
 rw[om s v m]
 congr 1
 rw[ro,q8,List.find?_isSome]
 constructor
 ·rintro⟨j,q,w⟩
  have l:=rV.1 q
  rw[tV w];exact Bm l
 ·intro h
  obtain⟨j,l,e⟩:=List.getElem_of_mem h
  exact⟨j,rV.2 l,q7 (by rw[rN s j l,e])⟩
def KD(p k:Int):Bool:=
 if p=0 then decide (k∈[1,6,7,10,11,12]) else if p=1 then decide (k∈[2,4,5,10]) else if p=3 then decide (k∈[4,5,10]) else if p=4∨p=12 then decide (k=5) else if p=2 then decide (k=3) else if p=7 then decide (k=8∨k=9) else false
theorem Pt p k:KG p k=some (KD p k):=by
 unfold KG KD
 by_cases l:p=0
 ·rw[qy (q7 l),qy l,AD,KF _ _ (by decide)];rfl
 ·rw[qx (show ¬ decide (p=0)=true by simpa using l),qx l]
  by_cases m:p=1
  ·rw[qy (q7 m),qy m,AD,KF _ _ (by decide)];rfl
  ·rw[qx (show ¬ decide (p=1)=true by simpa using m),qx m]
   by_cases q:p=3
   ·rw[qy (q7 q),qy q,AD,KF _ _ (by decide)];rfl
   ·rw[qx (show ¬ decide (p=3)=true by simpa using q),qx q]
    have B:(if decide (p=4)=true then some (decide (p=4)) else some (decide (p=12)))=some (decide (p=4∨p=12)):=by
     by_cases j:p=4
     ·rw[qy (q7 j),q7 j,q7 (Or.inl j:p=4∨p=12)]
     ·rw[qx (show ¬ decide (p=4)=true by simpa using j)]
      congr 1
      rw[ro,q8,q8]
      exact⟨.inr,λh=>h.elim (λh=>absurd h j) id⟩
    rw[B,AD]
    by_cases j:p=4∨p=12
    ·rw[qy (q7 j),qy j,AD,KF _ _ (by decide),AD]
     congr 1;rw[ro];simp
    ·rw[qx (show ¬ decide (p=4∨p=12)=true by simpa using j),qx j]
     by_cases w:p=2
     ·rw[qy (q7 w),qy w,AD,KF _ _ (by decide),AD]
      congr 1;rw[ro];simp
     ·rw[qx (show ¬ decide (p=2)=true by simpa using w),qx w]
      by_cases A:p=7
      ·rw[qy (q7 A),qy A,AD,KF _ _ (by decide),AD]
       congr 1;rw[ro];simp
      ·rw[qx (show ¬ decide (p=7)=true by simpa using A),qx A,AD,KF _ _ (by decide),AD];simp
theorem pI p k:NG p k=some (KD p k) := by
  have hk:k=1∨k=2∨k=3∨k=4∨k=5∨k=6∨k=7∨k=8∨k=9∨k=10∨k=11∨k=12∨(k≠1∧k≠2∧k≠3∧k≠4∧k≠5∧k≠6∧k≠7∧k≠8∧k≠9∧k≠10∧k≠11∧k≠12) := by omega
  have hp:p=0∨p=1∨p=2∨p=3∨p=4∨p=7∨p=12∨(p≠0∧p≠1∧p≠2∧p≠3∧p≠4∧p≠7∧p≠12) := by omega
  unfold NG KD Ko
  rcases hk with rfl | rfl | rfl | rfl | rfl | rfl | rfl | rfl | rfl | rfl | rfl | rfl | ⟨I, J, M, O, T, U, V, X, Z, l, m, q⟩
  all_goals first
    | (rcases hp with rfl | rfl | rfl | rfl | rfl | rfl | rfl | ⟨w, A, B, C, E, F, j⟩
       all_goals first | rfl | (simp[w, A, B, C, E, F, j];done))
    | (rcases hp with rfl | rfl | rfl | rfl | rfl | rfl | rfl | ⟨w, A, B, C, E, F, j⟩
       all_goals first
         | (simp[I, J, M, O, T, U, V, X, Z, l, m, q];done)
         | (simp[I, J, M, O, T, U, V, X, Z, l, m, q, w, A, B, C, E, F, j];done))
theorem lQ{n:Nat}(h:n<9223372036854775808):IntKind.u64.wrap (n:Int)=(n:Int):=by
 have e:(n:Int) % (2 ^ (64:Nat):Int)=(n:Int):=ug (by omega) (by omega)
 show(if(false&&((n:Int) % (2 ^ (64:Nat):Int) ≥ (2 ^ (63:Nat):Int)))=true then(n:Int) % (2 ^ (64:Nat):Int)-(2 ^ (64:Nat):Int) else(n:Int) % (2 ^ (64:Nat):Int))=_
 rw[e,qx (by simp)]
theorem gl(m:Nat)(h:m<4294967296):IntKind.i64.wrap (GD .u64 (IntKind.u64.wrap (m:Int)) 1)=((m / 2:Nat):Int):=by
 rw[lQ (by omega)]
 show IntKind.i64.wrap ((m:Int).fdiv (2 ^ (min 1 64)))=_
 rw[show((2:Int) ^ (min 1 64))=2 from rfl,Int.fdiv_eq_ediv_of_nonneg _ (by omega),show(m:Int) / 2=((m / 2:Nat):Int) by omega,U9 (by omega)]
def Gu(l:List AO):Prop:=∀a b:Nat,a<b→b<l.length→l[a]!.ID<l[b]!.ID
theorem YB(n:AO) id:Ls n id=some (if n.ID<id then -1 else if id<n.ID then 1 else 0):=by
 unfold Ls
 by_cases j:n.ID<id
 ·rw[qy (q7 j),qy j]
 ·rw[qx (show ¬ decide (n.ID<id)=true by simpa using j),qx j]
  by_cases l:id<n.ID
  ·rw[qy (q7 l),qy l]
  ·rw[qx (show ¬ decide (id<n.ID)=true by simpa using l),qx l]
theorem Lv(d:AR) id(V:d.Nodes.length≤1048576)(F:Gu d.Nodes):∃i:Nat,Fc d id=some ((i:Int),(B5 d.Nodes id).isSome)∧(∀k,B5 d.Nodes id=some k→i=k):=by
 obtain⟨l⟩:=d
 dsimp only at V F ⊢
 have key:∃r,iter (λ(a:Int × Int)=>FG l id a.1 a.2) (0,(l.length:Int))=some r ∧
   ∃I:Nat,r=(I:Int)∧I≤l.length∧(∀m,m<I→l[m]!.ID<id)∧∀m,I≤m→m<l.length→¬ l[m]!.ID<id:=by
  refine H6 l.length (λk T=>∃I J:Nat,T=((I:Int),(J:Int))∧I≤J∧J≤l.length∧J-I≤l.length-k∧(∀m,m<I→l[m]!.ID<id)∧∀m,J≤m→m<l.length→¬ l[m]!.ID<id) _ ?_ ?_ ⟨0,l.length,rfl,by omega,by omega,by omega,λm h=>absurd h (Nat.not_lt_zero _),λm U M=>absurd M (by omega)⟩
  ·rintro k T hk ⟨I,J,rfl,U,M,X,C,w⟩
   dsimp only
   unfold FG
   by_cases Z:I<J
   ·left
    rw[qy (by rw[q8];omega),show(I:Int)+(J:Int)=((I+J:Nat):Int) by omega,Cn (by omega) (by omega),AD,gl _ (by omega),Ac (by omega),AD,YB,AD]
    by_cases O:l[(I+J) / 2]!.ID<id
    ·rw[qy O,qy (by decide),Ar (by omega)]
     refine⟨_,rfl,(I+J) / 2+1,J,rfl,by omega,M,by omega,λm a0=>?_,w⟩
     by_cases e:m=(I+J) / 2
     ·rw[e];exact O
     ·have:=F m ((I+J) / 2) (by omega) (by omega);omega
    ·rw[qx O,qx (show ¬ decide ((if id<l[(I+J) / 2]!.ID then(1:Int) else 0)<0)=true by split<;>decide)]
     refine⟨_,rfl,I,(I+J) / 2,rfl,by omega,by omega,by omega,C,λm E j=>?_⟩
     by_cases e:m=(I+J) / 2
     ·rw[e];exact O
     ·have:=F ((I+J) / 2) m (by omega) j;omega
   ·right
    rw[qx (by rw[q8];omega)]
    exact⟨_,rfl,I,rfl,by omega,C,λm E j=>w m (by omega) j⟩
  ·rintro T ⟨I,J,rfl,U,M,X,C,w⟩
   dsimp only
   unfold FG
   rw[qx (by rw[q8];omega)]
   exact⟨_,rfl,I,rfl,by omega,C,λm E j=>w m (by omega) j⟩
 obtain⟨r,hr,I,rfl,hI,C,w⟩:=key
 unfold Fc OL
 rw[hr,AD]
 have A:∀k,B5 l id=some k→I=k:=by
  intro k q
  obtain⟨E,j⟩:=EF q
  have a1:¬ k<I:=λh=>by have:=C k h;omega
  by_cases e:I=k
  ·exact e
  ·have:=F I k (by omega) E
   have:=w I (q9 _) (by omega)
   omega
 refine⟨I,?_,A⟩
 by_cases B:I<l.length
 ·rw[q7 (show(I:Int)<(l.length:Int) by omega),show((true==true):Bool)=true from rfl,At,Ac B,AD,At,YB,AD,By]
  congr 2
  have h6:=w I (q9 _) B
  rw[qx h6]
  cases q:B5 l id with
  | some k=>
   obtain⟨E,j⟩:=EF q
   have:=A k q
   subst this
   rw[qx (by omega)];rfl
  | none=>
   have a2:l[I]!.ID≠id:=by
    intro e
    have:=List.find?_eq_none.1 q I (rV.2 B)
    exact this (q7 e)
   rw[qy (by omega)];rfl
 ·rw[qz (show ¬ (I:Int)<(l.length:Int) by omega)]
  show some ((I:Int),false)=_
  cases q:B5 l id with
  | some k=>
   obtain⟨E,j⟩:=EF q
   have:=A k q
   omega
  | none=>rfl
def Id(d:AR):Prop:=d.Nodes.length≤1048576∧∀n∈d.Nodes,Fj n
theorem XT:E9=FZ:=by funext f x o;rfl
theorem am(n:AO):QT n=FZ n.Flow:=by funext x o;rfl
theorem l7:QN=EX:=by funext n x o;rfl
theorem mN(n:AO)(w:List Int)(q:n.Grid.Cells.length≤1048576)(hw:w.length≤1048576):∃r,iter (λ(a:Int × (List Int))=>EX n a.1 a.2) (0,w)=some r∧r.length≤2097152:=by
 refine H6 n.Grid.Cells.length (λk l=>l.1=(k:Int)∧l.2.length≤1048576+k) _ ?_ ?_ ⟨rfl,by simpa using hw⟩
 ·rintro k ⟨x,out⟩ m ⟨rfl,j⟩
  dsimp only at j ⊢
  left
  unfold EX
  rw[qy (by simpa using m),Ac m,AD]
  by_cases r:n.Grid.Cells[k]!.Ref=0
  ·rw[qx (De r),AD,Ar (by omega),AD]
   exact⟨_,rfl,rfl,by dsimp only;omega⟩
  ·rw[qy (Cd r),Jr (by omega),AD,AD,Ar (by omega),AD]
   exact⟨_,rfl,rfl,by dsimp only;rw[List.length_append,List.length_singleton];omega⟩
 ·rintro⟨x,out⟩ ⟨rfl,j⟩
  dsimp only at j ⊢
  unfold EX
  rw[qx (by simp)]
  exact⟨_,rfl,by omega⟩
theorem gX(n:AO)(h:Fj n):∃r,Gf n=some r∧N3 n=some r∧r.length≤2097152:=by
 have q:=h.ok.fl
 obtain⟨w,j,A⟩:=jl n.Flow (by omega)
 obtain⟨r,l,m⟩:=mN n w h.ok.gr.1 (by omega)
 refine⟨r,?_,?_,m⟩
 ·unfold Gf Jt
  rw[XT,j,AD,AD,l];rfl
 ·unfold N3
  rw[am,l7,j,AD,l];rfl
theorem UO(d:AR) kind(l:List Int)(w:d.Nodes.length≤1048576)(B:Gu d.Nodes)(J:l.length≤2097152):∃e,EV d kind l=some e∧OE d kind l=some e:=by
 obtain⟨o,C,E,_⟩:=SO (ρ:=Int) (f:=λ(a:Int)=>CU d kind l a) (g:=λ(a:Int)=>L4 d kind l a) (n:=l.length) (λ_=>True) trivial (λk m _=>by
  unfold CU L4
  obtain⟨i,F,q⟩:=Lv d l[k]! w B
  rw[qy (by simpa using m),qy (by simpa using m),Ac m,AD,AD,F,By,Kp _ _ w,AD]
  cases A:B5 d.Nodes l[k]! with
  | none=>exact⟨some 7,rfl,rfl,λe=>by cases e⟩
  | some j=>
   obtain⟨I,M⟩:=EF A
   have:=q j A
   subst this
   dsimp only
   rw[qx (show ¬ ((!Option.isSome (some i))=true) by simp),Ac I,AD,Pt,AD,qx (show ¬ decide ((i:Int)<0)=true by simp),AD,pI,AD]
   cases KD kind d.Nodes[i]!.Kind with
   | false=>exact⟨some 8,rfl,rfl,λe=>by cases e⟩
   | true=>
    rw[Ar (by omega)]
    exact⟨none,rfl,rfl,λ_=>trivial⟩) (by unfold CU;rw[qx (by simp)]) (by unfold L4;rw[qx (by simp)])
 refine⟨o.getD 0,?_,?_⟩
 ·unfold EV;rw[C,FK]
 ·unfold OE;rw[E,FK]
theorem TO{l:List AO}(h:∀k,0<k→k<l.length→l[k-1]!.ID<l[k]!.ID):Gu l:=by
 intro a b m q
 induction b with
 | zero=>omega
 | succ b w=>
  have j:=h (b+1) (by omega) q
  rw[uY] at j
  by_cases e:a=b
  ·rw[e];exact j
  ·have:=w (by omega) (by omega);omega
theorem nV(d:AR)(h:Id d):∃e,Em d=some e∧L0 d=some e:=by
 obtain⟨F,C⟩:=h
 unfold Em L0
 by_cases h0:d.Nodes.length=0
 ·rw[qy (by rw[q8];omega),qy (by rw[q8];omega)];exact⟨_,rfl,rfl⟩
 ·rw[qx (by rw[q8];omega),qx (by rw[q8];omega)]
  obtain⟨o,I,J,M⟩:=SO (ρ:=Int) (f:=λ(a:Int)=>CL d a) (g:=λ(a:Int)=>Mb d a) (n:=d.Nodes.length) (λk=>∀j,0<j→j<k→d.Nodes[j-1]!.ID<d.Nodes[j]!.ID) (λj _ O=>absurd O (Nat.not_lt_zero _)) (λk l T=>by
   unfold CL Mb
   obtain⟨e,w,A⟩:=Qm _ (C _ (Bm l))
   rw[qy (by simpa using l),qy (by simpa using l),Ac l,AD,AD,w,A,AD,AD]
   by_cases m:e=0
   ·rw[qx (De m),qx (De m)]
    by_cases U:k=0
    ·subst U
     rw[q7 (show((0:Nat):Int)=0 from rfl),show((true==true):Bool)=true from rfl,At,show(0:Int)=((0:Nat):Int) from rfl,Ac l,AD,qz (show ¬ ((0:Nat):Int)<((0:Nat):Int) by omega)]
     by_cases A3:d.Nodes[0]!.ID=1
     ·refine⟨none,?_,?_,λ_ j E V=>by omega⟩
      ·rw[q7 A3];rfl
      ·rw[q7 A3];rfl
     ·refine⟨some 5,?_,?_,λe=>by cases e⟩
      ·rw[qz A3];rfl
      ·rw[qz A3];rfl
    ·have X:0<k:=by omega
     rw[qz (show ¬ ((k:Int)=0) by omega),q7 (show(0:Int)<(k:Int) by omega),show((false==true):Bool)=false from rfl,DV,AD]
     show ∃o:Option Int,(AB (gd true (AZ .i64 ((k:Int)-1))) λ(B:Int)=>AB (gd true (AL d.Nodes B)) λ(q:AO)=>_)=_∧(AB (gd true (AZ .i64 ((k:Int)-1))) λ(q:Int)=>AB (gd true (AL d.Nodes q)) λ(Z:AO)=>_)=_∧_
     rw[At,FN X (by omega),AD,AD,At,Ac (show k-1<d.Nodes.length by omega),AD,AD,Ar (by omega)]
     by_cases A3:d.Nodes[k]!.ID≤d.Nodes[k-1]!.ID
     ·rw[q7 A3]
      exact⟨some 5,rfl,rfl,λe=>by cases e⟩
     ·rw[qz A3]
      refine⟨none,rfl,rfl,λ_ j E V=>?_⟩
      by_cases e:j=k
      ·rw[e];omega
      ·exact T j E (by omega)
   ·rw[qy (Cd m),qy (Cd m)]
    exact⟨some e,rfl,rfl,λe=>by cases e⟩) (by unfold CL;rw[qx (by simp)]) (by unfold Mb;rw[qx (by simp)])
  rw[I,J]
  cases o with
  | some e=>exact⟨e,rfl,rfl⟩
  | none=>
   have hs:=TO (M rfl)
   show ∃e,(A7 (iter (λ(a:Int)=>Ch d a) 0) λ(u4:Unit)=>some 0)=some e∧(A7 (iter (λ(a:Int)=>Ju d a) 0) λ(u4:Unit)=>some 0)=some e
   obtain⟨o,w,A,_⟩:=SO (ρ:=Int) (f:=λ(a:Int)=>Ch d a) (g:=λ(a:Int)=>Ju d a) (n:=d.Nodes.length) (λ_=>True) trivial (λk l _=>by
    unfold Ch Ju
    obtain⟨r,r1,r2,r3⟩:=gX _ (C _ (Bm l))
    obtain⟨e,c1,c2⟩:=UO d d.Nodes[k]!.Kind r F hs r3
    rw[qy (by simpa using l),qy (by simpa using l),Ac l,AD,AD,r1,r2,AD,AD,c1,c2,AD]
    by_cases m:e=0
    ·rw[qx (De m),Ar (by omega)]
     exact⟨none,rfl,rfl,λ_=>trivial⟩
    ·rw[qy (Cd m)]
     exact⟨some e,rfl,rfl,λ_=>trivial⟩) (by unfold Ch;rw[qx (by simp)]) (by unfold Ju;rw[qx (by simp)])
   exact⟨o.getD 0,by rw[w,FK],by rw[A,FK]⟩
theorem ms{μ:AO→Nat}{γ:Av→Nat}{ψ:An→Nat}{ρ:Ap→Nat}{δ:Aw→Nat}{ν:AN→Nat}{κ:AG→Nat}
  (m:∀n,(n.Attrs.map κ).sum+(n.Flow.map ν).sum+γ n.Grid+(n.Draw.map δ).sum+1≤μ n) (hg:∀g,(g.Cells.map ψ).sum+(g.Merges.map ρ).sum+1≤γ g)
  (hc:∀c,c.Text.length+(c.Attrs.map κ).sum+1≤ψ c) (A:∀r,1≤ρ r) (hd:∀o,o.Place.length+o.Name.length+o.Value.length+1≤δ o) (B:∀e,(e.Attrs.map κ).sum+1≤ν e) (C:∀a,a.Name.length+a.Value.length+1≤κ a)
  {d:AR} (E:(d.Nodes.map μ).sum≤1048576):Id d:=by
 have q:=Zk m hg (λc=>by have:=hc c;omega) A (λo=>by have:=hd o;omega) B C E
 refine⟨q.1,λn l=>⟨q.2 n l,λc j=>⟨(q.2 n l).gr.2.2 c j,?_⟩,λo w=>?_⟩⟩
 ·have F:=H4 (μ:=μ) l
  have I:=m n
  have M:=hg n.Grid
  have J:=H4 (μ:=ψ) j
  have:=hc c
  omega
 ·have F:=H4 (μ:=μ) l
  have I:=m n
  have J:=H4 (μ:=δ) w
  have:=hd o
  exact⟨by omega,by omega,by omega⟩
end Go.Proofs.YtifgmfoihehlbaaGreatDoor.Al

set_option linter.unusedVariables false
set_option linter.unusedSimpArgs false
namespace Go.Proofs.YtifgmfoihehlbaaGreatDoor.Al
open Go
def DN:Nat→List UInt8→Option Nat
 | j,[]=>some j
 | j,c::r=>if 48≤c.toNat∧c.toNat≤57 then DN (j * 10+(c.toNat-48)) r else none
theorem VE(c:UInt8):∀(l:List UInt8) (j:Nat),DN j (l++[c])=(DN j l).bind λa=>if 48≤c.toNat∧c.toNat≤57 then some (a * 10+(c.toNat-48)) else none:=by
 intro l
 induction l with
 | nil=>intro j;simp only[sO,DN,rt]
 | cons x r m=>
  intro j
  rw[sc,DN,DN]
  split
  ·rw[m]
  ·rfl
theorem VF:∀(l:List UInt8) (j v:Nat),DN j l=some v→j≤v:=by
 intro l
 induction l with
 | nil=>intro j v h;simp only[DN,rE] at h;omega
 | cons x r m=>
  intro j v h
  rw[DN] at h
  split at h
  ·have:=m _ _ h;omega
  ·cases h
theorem mZ:∀(l:List UInt8) (j v:Nat),DN j l=some v→v<1152921504606846976→Lib.parseUint10 j l=.ok v:=by
 intro l
 induction l with
 | nil=>intro j v h _;simp only[DN,rE] at h;rw[h];rfl
 | cons x r m=>
  intro j v h q
  rw[DN] at h
  simp only[Lib.parseUint10]
  split at h
  ·rename_i hd
   have:=VF _ _ _ h
   rw[qy hd,qx (by omega),qx (by omega)]
   exact m _ _ h q
  ·cases h
theorem cE u:DN 0 (Lib.decDigits u)=some u:=by
 induction u using Nat.strongRecOn with
 | _ u j=>
  rw[Lib.decDigits]
  split
  ·rename_i h
   have:(UInt8.ofNat (48+u)).toNat=48+u:=by simp;omega
   simp only[DN,this]
   rw[qy (by omega)]
   congr 1;omega
  ·rename_i h
   rw[VE,j (u / 10) (by omega),rt]
   have:(UInt8.ofNat (48+u % 10)).toNat=48+u % 10:=by simp;omega
   rw[this,qy (by omega)]
   congr 1;omega
theorem WT u(h:1≤u):∃c r,Lib.decDigits u=c::r∧49≤c.toNat∧c.toNat≤57:=by
 induction u using Nat.strongRecOn with
 | _ u j=>
  rw[Lib.decDigits]
  split
  ·exact⟨_,[],rfl,by simp;omega,by simp;omega⟩
  ·obtain⟨c,r,e,l,m⟩:=j (u / 10) (by omega) (by omega)
   exact⟨c,r++[UInt8.ofNat (48+u % 10)],by rw[e];rfl,l,m⟩
theorem eS:∀(k u:Nat),u<10 ^ (k+1)→(Lib.decDigits u).length≤k+1:=by
 intro k
 induction k with
 | zero=>
  intro u h
  rw[Lib.decDigits,tW (by simpa using h)];simp
 | succ k j=>
  intro u h
  rw[Lib.decDigits]
  split
  ·simp
  ·have:=j (u / 10) (by rw[Nat.pow_succ] at h;omega)
   simp;omega
theorem jR:∀(n:Nat) (l:List UInt8) (u:Nat),l.length=n→DN 0 l=some u→(∃c r,l=c::r∧(c.toNat≠48∨r=[]))→l=Lib.decDigits u:=by
 intro n
 induction n with
 | zero=>rintro l u w _ ⟨c,r,rfl,_⟩;simp at w
 | succ n C=>
  rintro l u w j ⟨c,r,rfl,E⟩
  rcases List.eq_nil_or_concat r with rfl | ⟨A,d,rfl⟩
  ·simp only[DN] at j
   split at j
   ·rename_i hd
    simp only[rE] at j
    rw[Lib.decDigits,tW (by omega)]
    congr 1
    apply UInt8.toNat_inj.1
    simp;omega
   ·cases j
  ·rw[List.concat_eq_append,← sc,VE] at j
   cases m:DN 0 (c::A) with
   | none=>rw[m] at j;cases j
   | some a=>
    rw[m,rt] at j
    split at j
    ·rename_i hd
     simp only[rE] at j
     have B:c.toNat≠48:=by
      rcases E with h | h
      ·exact h
      ·simp at h
     have F:1≤a:=by
      have q:=m
      rw[DN] at q
      split at q
      ·have:=VF _ _ _ q;omega
      ·cases q
     have e:=C (c::A) a (by simp at w ⊢;omega) m ⟨c,A,rfl,.inl B⟩
     rw[List.concat_eq_append,← sc,e,Lib.decDigits.eq_def u,uM (by omega)]
     congr 1
     ·congr 1;omega
     ·congr 1
      apply UInt8.toNat_inj.1
      simp;omega
    ·cases j
def Ec(s:List UInt8):Int:=
 match s with
 | []=>-1
 | c::r=>if 10<(c::r).length∨(c.toNat=48∧r≠[]) then -1 else match DN 0 (c::r) with | some v=>(v:Int) | none=>-1
theorem lX(c:UInt8)(j:48≤c.toNat):IntKind.i64.wrap (IntKind.u8.wrap ((c.toNat:Int)-48))=((c.toNat-48:Nat):Int):=by
 have:=c.toNat_lt
 rw[show IntKind.u8.wrap ((c.toNat:Int)-48)=((c.toNat-48:Nat):Int) by unfold IntKind.wrap;simp[IntKind.signed,IntKind.bits];omega]
 unfold IntKind.wrap
 simp[IntKind.signed,IntKind.bits]
 omega
theorem ll(s:List UInt8):N0 s=some (Ec s):=by
 unfold N0
 cases s with
 | nil=>simp[DV,Ec]
 | cons c r=>
  rw[qz (by simp:¬ (c::r)=[]),sN]
  have hN:Ec (c::r)=if 10<(c::r).length∨(c.toNat=48∧r≠[]) then -1 else match DN 0 (c::r) with | some v=>(v:Int) | none=>-1:=rfl
  by_cases h10:10<(c::r).length
  ·have hN1:Ec (c::r) = -1:=by rw[hN,qy (.inl h10)]
   rw[hN1,q7 (by exact_mod_cast h10)]
   simp[DV]
  ·rw[qz (by exact_mod_cast h10)]
   simp only[show((false==false)=true) from rfl,At,sN]
   rw[show AL (c::r) 0=some c from rfl,AD]
   by_cases h0:c.toNat=48∧r≠[]
   ·have hN1:Ec (c::r) = -1:=by rw[hN,qy (.inr h0)]
    have h3:0<r.length:=s4.2 h0.2
    rw[hN1,qy (by simp[h0.1];omega)]
   ·have hN1:Ec (c::r)=match DN 0 (c::r) with | some v=>(v:Int) | none=>-1:=by
     rw[hN,qx (by rintro(h | h);exact h10 h;exact h0 h)]
    rw[hN1,qx]
    ·have h:=Im (f:=λ(a:Int × Int)=>Hi (c::r) a.1 a.2) (c::r) (λ(n:Nat) i=>((n:Int),(i:Int))) (λl n=>match DN n l with | some v=>(.nrm (v:Int):Ax Int Int) | none=>.ext (-1)) (λi n=>n<10 ^ i)
      (λi n hi hn=>by
       show(∃c',Hi (c::r) (n:Int) (i:Int)=_∧_)∨Hi (c::r) (n:Int) (i:Int)=_
       unfold Hi
       rw[qy (by rw[q8];exact_mod_cast hi),Ac hi,AD]
       generalize (c::r)[i]! = x
       have hi10:i≤9:=by omega
       have hp:10 ^ i≤10 ^ 9:=Nat.pow_le_pow_right (by omega) hi10
       by_cases hd:48≤x.toNat∧x.toNat≤57
       ·left
        refine⟨n * 10+(x.toNat-48),?_,by rw[Nat.pow_succ];omega,?_⟩
        ·rw[qx (by simp;omega),Cn (by omega) (by omega),AD,lX x hd.1,Cn (by omega) (by omega),AD,Ar (by omega),AD]
         congr 3;omega
        ·rw[DN,qy hd]
       ·right
        rw[qy (by simp;omega),DN,qx hd])
      (λn hn=>by
       show Hi (c::r) (n:Int) ((c::r).length:Int)=_
       unfold Hi
       rw[qx (by simp)]
       rfl) (0:Nat) (by simp) ((0:Int),(0:Int)) rfl
     have h':iter (λ(a:Int × Int)=>Hi (c::r) a.1 a.2) ((0:Int),(0:Int))=_:=h
     rw[h']
     cases DN 0 (c::r) with
     | none=>rfl
     | some v=>rfl
    ·intro h
     apply h0
     rw[rF,q8,q8] at h
     exact⟨by omega,λe=>by rw[e] at h;simp at h⟩
theorem U0 s(n:Int)(E:1≤n)(F:n≤1073741824):(Lib.atoiAll s=.ok n∧Lib.itoa n=s)↔Ec s=n:=by
 obtain⟨u,rfl⟩:∃u:Nat,n=(u:Int):=⟨n.toNat,by omega⟩
 have l:1≤u:=by omega
 rw[Lib.itoa_nonneg]
 constructor
 ·rintro⟨_,rfl⟩
  obtain⟨c,r,e,c1,q⟩:=WT u l
  have w:=eS 9 u (by omega)
  have j:=cE u
  rw[e] at w j ⊢
  unfold Ec
  simp only
  rw[qx (by rintro(h | ⟨h,_⟩)<;>omega),j]
 ·intro h
  unfold Ec at h
  split at h
  ·omega
  ·rename_i c r
   split at h
   ·omega
   ·rename_i A
    cases j:DN 0 (c::r) with
    | none=>rw[j] at h;simp only at h;omega
    | some v=>
     rw[j] at h
     simp only at h
     have:v=u:=by omega
     subst this
     have e:=jR _ (c::r) v rfl j ⟨c,r,rfl,by
      by_cases m:c.toNat=48
      ·right
       apply rY
       intro B
       exact A (.inr ⟨m,B⟩)
      ·exact .inl m⟩
     refine⟨?_,e.symm⟩
     obtain⟨I,J,C,c1,q⟩:=WT v l
     rw[C] at e
     simp only[tw] at e
     rw[Lib.atoiAll_plain c r (by rw[e.1];omega) (by rw[e.1];omega)]
     unfold Lib.parseMag
     rw[qx (by simp),mZ _ _ _ j (by omega)]
     simp only[Lib.signless]
     rw[qx (by omega)]
end Go.Proofs.YtifgmfoihehlbaaGreatDoor.Al

namespace Go.Proofs.YtifgmfoihehlbaaGreatDoor.Al
theorem BQ{α β:Type}{o:Option α}{f:α→Option β}{r:β}(h:AB o f=some r):∃a,o=some a∧f a=some r:=by
 cases o with
 | none=>cases h
 | some a=>exact⟨a,rfl,h⟩
theorem aW{n:AO}(h:Fj n)(j:CZ n=some 0)(A:Ds n.Kind=some true):MT n.Flow=0:=by
 have l:∀x∈n.Flow,Eo x:=λx m=>⟨by have:=(h.ok.fa x m).1;omega,(h.ok.fa x m).2⟩
 have B:=h.ok.fl
 unfold CZ at j
 split at j
 ·cases j
 split at j
 ·cases j
 obtain⟨e,_,j⟩:=BQ j
 split at j
 ·rename_i c;injection j with j;rw[j] at c;simp at c
 obtain⟨E,q,j⟩:=BQ j
 rw[A] at q
 cases q
 obtain⟨C,_,j⟩:=BQ j
 obtain⟨g,_,j⟩:=BQ j
 obtain⟨F,_,j⟩:=BQ j
 split at j
 ·cases j
 rw[qy (show(true||C)=true from rfl)] at j
 obtain⟨I,w,j⟩:=BQ j
 injection j with j
 rw[Q7 _ l (by omega),j] at w
 injection w
theorem NP{d:AR}(h:Id d)(l:Em d=some 0):Gu d.Nodes∧∀k,k<d.Nodes.length→CZ d.Nodes[k]! = some 0:=by
 obtain⟨T,F⟩:=h
 unfold Em at l
 split at l
 ·cases l
 let g:Nat→Option Int:=λk=>if(CZ d.Nodes[k]!).getD 0≠0 then some ((CZ d.Nodes[k]!).getD 0) else if(k=0∧d.Nodes[k]!.ID≠1)∨(0<k∧d.Nodes[k]!.ID≤d.Nodes[k-1]!.ID) then some 5 else none
 have hit:iter (λ(a:Int)=>CL d a) 0=some (Df ((List.range d.Nodes.length).findSome? g)):=by
  refine B2 g (λk j=>?_) (by unfold CL;rw[qx (by simp)])
  unfold CL
  obtain⟨e,A,_⟩:=Qm _ (F _ (Bm j))
  show _=CJ k (g k)
  simp only[g]
  rw[qy (by simpa using j),Ac j,AD,A,AD]
  show _=CJ k (if e≠0 then some e else _)
  by_cases q:e=0
  ·rw[qx (De q),qx (by simpa using q)]
   by_cases B:k=0
   ·subst B
    rw[q7 (show((0:Nat):Int)=0 from rfl),qz (show ¬ (0:Int)<((0:Nat):Int) by omega)]
    by_cases A3:d.Nodes[0]!.ID=1
    ·rw[q7 A3,qx (show ¬ ((0=0∧d.Nodes[0]!.ID≠1)∨(0<0∧d.Nodes[0]!.ID≤d.Nodes[0-1]!.ID)) by rintro(⟨_,b⟩ | ⟨a,_⟩);exact b A3;omega)]
     rfl
    ·rw[qz A3,qy (show((0=0∧d.Nodes[0]!.ID≠1)∨(0<0∧d.Nodes[0]!.ID≤d.Nodes[0-1]!.ID)) from .inl ⟨rfl,A3⟩)]
     rfl
   ·have I:0<k:=by omega
    rw[qz (show ¬ ((k:Int)=0) by omega),q7 (show(0:Int)<(k:Int) by omega)]
    show(AB (gd true (AZ .i64 ((k:Int)-1))) λ(C:Int)=>AB (gd true (AL d.Nodes C)) λ(J:AO)=>_)=_
    rw[At,FN I (by omega),AD,At,Ac (show k-1<d.Nodes.length by omega),AD,Ar (by omega)]
    by_cases A3:d.Nodes[k]!.ID≤d.Nodes[k-1]!.ID
    ·rw[q7 A3,qy (show((k=0∧d.Nodes[k]!.ID≠1)∨(0<k∧d.Nodes[k]!.ID≤d.Nodes[k-1]!.ID)) from .inr ⟨I,A3⟩)]
     rfl
    ·rw[qz A3,qx (show ¬ ((k=0∧d.Nodes[k]!.ID≠1)∨(0<k∧d.Nodes[k]!.ID≤d.Nodes[k-1]!.ID)) by rintro(⟨a,_⟩ | ⟨_,b⟩);exact B a;exact A3 b)]
     rfl
  ·rw[qy (Cd q),qy q]
   rfl
 rw[hit] at l
 cases w:(List.range d.Nodes.length).findSome? g with
 | some e=>
  rw[w] at l
  have l:(some e:Option Int)=some 0:=l
  injection l with l
  obtain⟨k,_,j⟩:=sF w
  simp only[g] at j
  split at j
  ·rename_i E;injection j with j;exact absurd (j.trans l) E
  ·split at j
   ·injection j with j;omega
   ·cases j
 | none=>
  rw[sH] at w
  have j:∀k,k<d.Nodes.length→(CZ d.Nodes[k]!).getD 0=0∧¬ ((k=0∧d.Nodes[k]!.ID≠1)∨(0<k∧d.Nodes[k]!.ID≤d.Nodes[k-1]!.ID)):=by
   intro k j
   have:=w k (rV.2 j)
   simp only[g] at this
   split at this
   ·cases this
   ·rename_i M
    split at this
    ·cases this
    ·rename_i O;exact⟨by simpa using M,O⟩
  refine⟨TO λk B m=>?_,λk m=>?_⟩
  ·have:=(j k m).2
   have U:¬ (0<k∧d.Nodes[k]!.ID≤d.Nodes[k-1]!.ID):=λe=>this (.inr e)
   omega
  ·obtain⟨e,A,_⟩:=Qm _ (F _ (Bm m))
   have:=(j k m).1
   rw[A] at this ⊢
   exact rU some this
theorem UG{d:AR} id(j:d.Nodes.length≤1048576)(l:Gu d.Nodes):HE d id=some (match B5 d.Nodes id with | some k=>(k:Int) | none=>-1):=by
 unfold HE
 obtain⟨i,m,q⟩:=Lv d id j l
 rw[m,By]
 cases w:B5 d.Nodes id with
 | none=>rfl
 | some k=>rw[q k w];rfl
def g0:Av:=Av.mk 2 1 [(An.mk 1 0 [120] 0 [])] []
def e0:OH:=OH.mk [(Kd.mk 1 1),(Kd.mk 0 2)] [] [] [] []
def mH(c t:An):Int:=B1 c.Row t.Row c.Col t.Col
def nZ(l:List An):Prop:=∀k,k+1<l.length→mH l[k]! l[k+1]!<0
def Tg(r:Ap)(row j:Int):Bool:=decide (r.Row≤row∧row<r.Row+r.H∧r.Col≤j∧j<r.Col+r.W)
def Oy(l:List Ap)(row j:Int)(k:Nat):Option Ap:=if Tg l[k]! row j=true then some l[k]! else none
theorem px(g:Av) row j (J:FB g.Rows g.Cols) (M:∀k,k<g.Merges.length→DE g.Rows g.Cols g.Merges[k]!) (Z:g.Merges.length≤1048576) (hr:row≤9223372036854775807) (hc:j≤9223372036854775807) :
  ∃o:Option Ap,iter (λ(a:Int)=>JA g row j a) 0=some (Df o)∧iter (λ(a:Int)=>JU g row j a) 0=some (Df o):=by
 refine⟨(List.range g.Merges.length).findSome? (Oy g.Merges row j),?_,?_⟩
 ·refine B2 (f:=λ(a:Int)=>JA g row j a) (n:=g.Merges.length) (Oy g.Merges row j) (λk l=>?_) ?_
  ·obtain⟨w,A,B,C,E,F,I,i8⟩:=M k l
   unfold JA Oy Tg
   rw[qy (by simpa using l),Ac l,AD]
   generalize g.Merges[k]! = r at w A B C E F I i8
   obtain⟨T,U,V,X⟩:=J
   by_cases q:r.Row≤row
   ·rw[q7 q]
    simp only[sE,At,rq]
    rw[Cn (by omega) (by omega),AD]
    by_cases m:row-r.Row<r.H∧r.Col≤j
    ·rw[q7 m.1,q7 m.2]
     simp only[uE,sE,At,rq]
     rw[Cn (by omega) (by omega),AD]
     by_cases O:j-r.Col<r.W
     ·rw[qy (q7 O),qy (by rw[q8];omega)];rfl
     ·rw[qx (by rw[q8];exact O),qx (by rw[q8];omega),Ar (by omega),AD];rfl
    ·have e:((row-r.Row<r.H)&&(r.Col≤j))=false:=by
      rw[← ru,rF,q8,q8];exact m
     rw[e]
     simp only[show(false==true)=false from rfl,DV,AD,tF]
     rw[qx (by decide),qx (by rw[q8];omega),Ar (by omega),AD];rfl
   ·rw[qz q]
    simp only[show(false==true)=false from rfl,DV,AD,tF]
    rw[qx (by decide),qx (by rw[q8];omega),Ar (by omega),AD];rfl
  ·show JA g row j (g.Merges.length:Int)=_
   unfold JA
   rw[qx (by simp)]
 ·refine B2 (f:=λ(a:Int)=>JU g row j a) (n:=g.Merges.length) (Oy g.Merges row j) (λk l=>?_) ?_
  ·obtain⟨w,A,B,C,E,F,I,i8⟩:=M k l
   unfold JU Oy Tg
   rw[qy (by simpa using l),Ac l,AD]
   generalize g.Merges[k]! = r at w A B C E F I i8
   obtain⟨T,U,V,X⟩:=J
   rw[Cn (by omega) (by omega),AD,Cn (by omega) (by omega),AD,EK,AD]
   by_cases q:r.Row≤row∧row≤r.Row+r.H-1
   ·rw[q7 q]
    simp only[sE,At,rq]
    rw[Cn (by omega) (by omega),AD,Cn (by omega) (by omega),AD,EK,AD]
    by_cases m:r.Col≤j∧j≤r.Col+r.W-1
    ·rw[qy (q7 m),qy (by rw[q8];omega)];rfl
    ·rw[qx (by rw[q8];exact m),qx (by rw[q8];omega),Ar (by omega),AD];rfl
   ·rw[qz q]
    simp only[show(false==true)=false from rfl,DV,AD,tF]
    rw[qx (by decide),qx (by rw[q8];omega),Ar (by omega),AD];rfl
  ·show JU g row j (g.Merges.length:Int)=_
   unfold JU
   rw[qx (by simp)]
theorem SM{l:Nat}{G:Nat→Option Int}(h:((List.range l).findSome? G).getD 0=0)(hn:∀k,k<l→G k≠some 0):∀k,k<l→G k=none:=by
 intro k hk
 cases hf:(List.range l).findSome? G with
 | none=>
  rw[sH] at hf
  exact hf k (rV.2 hk)
 | some v=>
  rw[hf] at h
  obtain⟨j,hj,hjv⟩:=sF hf
  have h0:v=0:=h
  rw[h0] at hjv
  exact absurd hjv (hn j (rV.1 hj))
theorem VZ{g:Av}(h:Hj g=0):FB g.Rows g.Cols∧nZ g.Cells∧∀k,k<g.Merges.length→DE g.Rows g.Cols g.Merges[k]!:=by
 unfold Hj at h
 by_cases h1:FB g.Rows g.Cols
 ·rw[qx (by simpa using h1)] at h
  by_cases h2:JL g.Rows g.Cols false g.Cells=0
  ·rw[qx (by simpa using h2)] at h
   refine⟨h1,λk hk=>?_,λk hk=>?_⟩
   ·have:=SM h2 (λk _ he=>by
     unfold IF at he
     split at he
     ·rename_i hne
      injection he with he
      exact hne he
     ·split at he
      ·cases he
      ·cases he) (k+1) (by omega)
    unfold IF at this
    split at this
    ·cases this
    ·split at this
     ·cases this
     ·rename_i hq
      rw[uY] at hq
      show B1 _ _ _ _<0
      have:=λh=>hq ⟨by omega,h⟩
      omega
   ·have:=SM h (λk _ he=>by
     unfold I5 at he
     split at he
     ·cases he
     ·split at he
      ·cases he
      ·split at he
       ·cases he
       ·split at he
        ·cases he
        ·cases he) k hk
    exact SZ this
  ·rw[qy h2] at h;exact absurd h h2
 ·rw[qy h1] at h;cases h
def LJ(c:UInt8):Bool:=(97≤c.toNat)&&(c.toNat≤122)
def MZ(s:List UInt8):Bool:=s.all LJ&&(1≤s.length)&&(s.length≤200)&&!(s[s.length-1]!.toNat=97)
theorem fk(c:UInt8):(((c.toNat:Int)<97)||(122<(c.toNat:Int)))=!LJ c:=by
 unfold LJ
 rw[ro]
 simp only[rH,q8,sB,tE,sP]
 omega
theorem py(s:List UInt8)(l:s.length≤1048576):iter (λ(a:Int)=>KN s a) 0=some (Df (if s.all LJ then none else some false)):=by
 rw[B2 (n:=s.length) (λk=>if LJ s[k]! then none else some false) (λk j=>by
  unfold KN
  rw[qy (by simpa using j),Ac j,AD,Ar (by omega),fk]
  cases LJ s[k]!<;>rfl) (by unfold KN;rw[qx (by simp)]),Q3]
theorem gO(c:UInt8):decide ((c.toNat:Int)=97)=decide (c.toNat=97):=by
 rw[ro];simp only[q8];omega
theorem ng(s:List UInt8)(w:s.length≤1048576):KH s=some (MZ s):=by
 unfold KH
 rw[py s w]
 unfold MZ
 by_cases j:s=[]
 ·subst j;rfl
 ·have m:1≤s.length:=s4.2 j
  rw[qz j,sN]
  by_cases q:s.length≤200
  ·have l:decide (200<(s.length:Int))=false:=by simp;omega
   rw[l,show((false==false)=true) from rfl,At,FN m (by omega),AD,At,Ac (by omega),AD,sN,gO]
   rw[q7 m,q7 q]
   generalize s.all LJ=A
   cases decide (s[s.length-1]!.toNat=97)<;>cases A<;>rfl
  ·have l:decide (200<(s.length:Int))=true:=by simp;omega
   rw[l,show((true==false)=false) from rfl,DV,AD,DV,AD,tz,qy rfl,qz q]
   simp
def FW(x:Aw):Int:=
 if x.Kind≠0∧x.Kind≠1 then 8
 else if ¬ (((1≤x.Clock∧x.Clock≤1073741824)∧(0≤x.Site∧x.Site≤1000))∧(1≤x.Item∧x.Item≤1073741824)) then 2
 else if x.Kind=0 then(if x.Name≠[]∨x.Value≠[] then 4 else if ¬ (-1≤x.Parent∧x.Parent≤1073741824) then 2 else if MZ x.Place then 0 else 9)
 else(if x.Parent≠0∨x.Place≠[] then 4 else if Eh x.Name then(if x.Value≠[]∧Du x.Value=false then 23 else 0) else 9)
structure XI(x:Aw):Prop where
 place:x.Place.length≤1048576
 name:x.Name.length≤1048576
 value:x.Value.length≤1048576
theorem Y1 x(h:XI x):Kz x=some (FW x):=by
 unfold Kz FW
 rw[ng _ h.place,UW _ (by have:=h.name;omega),R1 _ (by have:=h.value;omega)]
 obtain⟨Clock,Site,Kind,Item,j,Place,Name,Value⟩:=x
 dsimp only
 by_cases w:Kind≠0∧Kind≠1
 ·rw[qy w,qy (by simp[w.1,w.2])]
 rw[qx w,qx (by simpa using w)]
 by_cases B:((1≤Clock∧Clock≤1073741824)∧(0≤Site∧Site≤1000))∧(1≤Item∧Item≤1073741824)
 ·rw[qx (rg.2 B),qx (by simp only[rH,q8];omega)]
  by_cases A:Kind=0
  ·subst A
   rw[qy rfl]
   by_cases l:Name≠[]∨Value≠[]
   ·rw[qy l,qy (by rcases l with h | h<;>simp[h])]
    rcases l with h | h<;>simp[h]
   ·have m:Name=[]:=rY λh=>l (.inl h)
    have q:Value=[]:=rY λh=>l (.inr h)
    subst m;subst q
    rw[qx l]
    simp only[uW,tL,Bool.or_self,Bool.and_false,sq,tX,AD,show(decide ((0:Int)=1))=false from rfl,tF,rq,sE,At]
    by_cases hp : -1≤j∧j≤1073741824
    ·rw[qx (rg.2 hp),qx (by simp only[rH,q8];omega)]
     cases MZ Place<;>simp[DV]
    ·rw[qy hp,qy (by simp only[rH,q8];omega)]
  ·have E:Kind=1:=rY λh=>w ⟨A,h⟩
   subst E
   rw[qx A]
   simp only[show(decide ((1:Int)=0))=false from rfl,tF,sq,tX,AD,uW,rq,show(false==true)=false from rfl,DV,sE,At]
   by_cases l:j≠0∨Place≠[]
   ·rw[qy l,qy (by rcases l with h | h<;>simp[h])]
   ·have m:j=0:=rY λh=>l (.inl h)
    have q:Place=[]:=rY λh=>l (.inr h)
    subst m;subst q
    rw[qx l,qx (by simp)]
    cases Eh Name
    ·simp
    ·by_cases C:Value=[]
     ·subst C;simp[DV]
     ·simp[C]
      cases Du Value<;>rfl
 ·rw[qy B,qy (by simp only[rH,q8];omega)]
def MD(a b:Aw):Bool:=(a.Clock<b.Clock)||((a.Clock=b.Clock)&&(a.Site<b.Site))
def HD(x y:Int):Int:=if x<y then -1 else if y<x then 1 else 0
theorem QA x y:GR x y=some (HD x y):=by
 unfold GR HD Lq
 simp only[uW,tL,AD,sq,tX,q8]
 split
 ·rfl
 ·split<;>rfl
theorem X2 x y:IN [x,y]=some (if x≠0 then x else y):=by
 unfold IN
 rw[B2 (n:=2) (λk=>if [x,y][k]!≠0 then some [x,y][k]! else none) (λk m=>by
  unfold EE
  rw[qy (by simp;omega),Ac (by simpa using m),AD,Ar (by omega)]
  by_cases h:[x,y][k]! = 0
  ·rw[qx (by rw[h];decide),qx (rg.2 h)];rfl
  ·rw[qy (by rw[qz h];rfl),qy h];rfl) (by unfold EE;rw[qx (by simp)])]
 by_cases j:x=0
 ·by_cases l:y=0
  ·subst j;subst l;rfl
  ·subst j;simp[tx,l,Df]
 ·simp[tx,j,Df]
theorem gZ(a b:Aw):∃r,KQ a b=some r∧decide (r<0)=MD a b∧decide (0≤r)=!MD a b:=by
 unfold KQ
 rw[QA,QA,AD,AD,X2,AD]
 refine⟨_,rfl,?_⟩
 have key:(if HD a.Clock b.Clock≠0 then HD a.Clock b.Clock else HD a.Site b.Site)<0↔MD a b=true:=by
  unfold MD HD
  simp only[rH,rF,q8]
  by_cases j:a.Clock<b.Clock
  ·simp[j]
  ·by_cases l:b.Clock<a.Clock
   ·simp[j,l];omega
   ·by_cases m:a.Site<b.Site
    ·simp[j,l,m];omega
    ·by_cases q:b.Site<a.Site
     ·simp[j,l,m,q]
     ·simp[j,l,m,q]
 constructor
 ·rw[ro,q8];exact key
 ·rw[ro,q8,sB,← ru,← key];omega
def Iz(l:List Aw):Prop:=∀x∈l,XI x
def LQ(l:List Aw)(k:Nat):Option Int:=if FW l[k]!≠0 then some (FW l[k]!) else if 0<k∧MD l[k-1]! l[k]! = false then some 5 else none
def QZ(l:List Aw):Int:=((List.range l.length).findSome? (LQ l)).getD 0
theorem mf(l:List Aw)(h:Iz l)(C:l.length≤1048576):LL l=some (QZ l):=by
 unfold LL
 rw[B2 (n:=l.length) (LQ l) (λk m=>by
  unfold LE LQ
  rw[qy (by simpa using m),Ac m,AD,Y1 _ (h _ (Bm m)),AD,Ar (by omega)]
  by_cases j:FW l[k]! = 0
  ·rw[qx (by rw[j];decide),qx (rg.2 j)]
   by_cases q:k=0
   ·subst q;rfl
   ·have w:decide ((0:Int)<(k:Int))=true:=by simp;omega
    obtain⟨r,A,_,B⟩:=gZ l[k-1]! l[k]!
    rw[w,show((true==true)=true) from rfl,At,FN (by omega) (by omega),AD,At,Ac (by omega),AD,At,A,AD,B,rq]
    cases j:MD l[k-1]! l[k]!
    ·rw[qy (by decide),qy ⟨by omega,rfl⟩];rfl
    ·rw[qx (by simp),qx (by simp)];rfl
  ·rw[qy (by rw[qz j];rfl),qy j];rfl) (by unfold LE;rw[qx (by simp)]),FK]
 rfl
def MN(j:Bool)(e:AG):Prop:=Eh e.Name=true∧(Du e.Value=true∨(j=true∧e.Value=[]))
theorem OT(l:List AG)(ch:Bool):CI l ch=0↔B3 l∧∀e∈l,MN ch e:=by
 constructor
 ·intro h
  refine⟨(I8 h).1,λe he=>?_⟩
  obtain⟨k,hk,rfl⟩:=sA.1 he
  have hn:Ez l ch k=none:=by
   unfold CI at h
   cases hf:(List.range l.length).findSome? (Ez l ch) with
   | none=>exact(VN _ _).1 hf k hk
   | some r=>
    rw[hf] at h
    obtain⟨j,_,hj⟩:=sF hf
    exfalso
    unfold Ez at hj
    simp only[sW] at h
    subst h
    repeat' split at hj
    all_goals simp at hj
  unfold Ez at hn
  rw[rN l k hk] at hn
  generalize l[k]=x at hn ⊢
  unfold MN
  by_cases c1:Eh x.Name=false
  ·rw[qy c1] at hn;cases hn
  ·rw[qx c1] at hn
   by_cases c2:Du x.Value=false∧¬ (ch=true∧x.Value=[])
   ·rw[qy c2] at hn;cases hn
   ·refine⟨by simpa using c1,?_⟩
    by_cases c3:Du x.Value=true
    ·exact .inl c3
    ·exact .inr (rY λh3=>c2 ⟨by simpa using c3,h3⟩)
 ·rintro⟨hs,hv⟩
  unfold CI
  have:(List.range l.length).findSome? (Ez l ch)=none:=by
   rw[sH]
   intro k hk
   have hk:=rV.1 hk
   have h1:=hv _ (Bm hk)
   unfold Ez
   unfold MN at h1
   rw[qx (by rw[h1.1];simp),qx (by rintro⟨a1,a2⟩;rcases h1.2 with h2 | h2;rw[a1] at h2;cases h2;exact a2 h2),qx]
   rintro⟨h0,h2⟩
   have:=s7.1 hs (k-1) k (by omega) hk (by omega)
   rw[rN l k hk,rN l (k-1) (by omega)] at h2
   rw[this] at h2;cases h2
  rw[this];rfl
theorem W9:∀ {l:List AG},B3 l→∀e∈l,BB l e.Name=some e
 | [],_,e,h=>by simp at h
 | x::l,j,e,h=>by
  obtain⟨m,q⟩:=E5.1 j
  rcases ri.1 h with rfl | h
  ·unfold BB;rw[qy rfl]
  ·have:=FF (m e h)
   unfold BB;rw[qx (uN this)]
   exact W9 q e h
theorem oJ{j}{g}{G}(h:∀x y o, j x y o=o++g x y)(hg:QU g G){a b}{l m w}
 (A:CI a l=0) (B:CI b m=0) (F:∀x y e, (∀z, x=some z→MN l z)→(∀z, y=some z→MN m z)→G x y=some e→MN w e):CI (Cf j a b []) w=0 := by
  obtain⟨I, v1⟩ := (OT a l).1 A
  obtain⟨J, M⟩ := (OT b m).1 B
  obtain⟨C, O⟩ := XJ h hg I J (I8 A).2.1 (I8 B).2.1
  refine(OT _ _).2 ⟨C, λe T => ?_⟩
  have E := W9 C e T
  rw[O] at E
  exact F _ _ e (λz q => v1 z (N6 q).2) (λz q => M z (N6 q).2) E
theorem nu{a b}(l:CI a false=0)(m:CI b true=0):CI (Cf Ff a b []) false=0:=
 oJ Uk Up l m λx y e q w h=>by
  unfold Hq at h
  split at h
  ·exact q e h
  ·split at h
   ·cases h
   ·rename_i A
    cases h
    have:=w e rfl
    exact⟨this.1,.inl (by rcases this.2 with j | j;exact j;exact absurd j.2 A)⟩
theorem fP{a:AG}(j:Eh a.Name=true)(l:a.Value=[]∨Du a.Value=true):CI [a] true=0:=by
 refine(OT _ _).2 ⟨by unfold B3;simp,λe m=>?_⟩
 obtain rfl:=tH.1 m
 exact⟨j,l.elim (λh=>.inr ⟨rfl,h⟩) .inl⟩
def Fb(l:List AG)(a:AG):List AG:=Cf Ff l [a] []
theorem Qt(l:List AG) a:(Fb l a).length≤l.length+1:=by
 have:=ez Ff YG _ l [a] [] rfl
 simpa[Fb] using this
theorem VP{l}{a}(j:CI l false=0)(m:CI [a] true=0):CI (Fb l a) false=0:=nu j m
theorem XR{l:List AG}{a}(h:l.length≤1048576):MM l [a]=some (Fb l a):=lL _ _ (by simp;omega)
theorem X6{l:List AG}{a}(j:CI l false=0)(m:CI [a] true=0)(h:l.length≤1048576):Lw l [a]=some (Fb l a):=by
 rw[eV l [a] (I8 j).1 (I8 m).1 (by simp;omega),← oI j m];rfl
theorem Tu:CI [] false=0:=by decide
def Bf(l:List AC):List (Int × AC):=l.map λx=>(x.Item,x)
def DM(l:List AC):List (Int × List AG):=l.map λx=>(x.Item,x.Attrs)
theorem SU l k:Ak (DM l) k=Ak (Bf l) k:=by
 induction l with
 | nil=>rfl
 | cons x r j=>show(if k=x.Item then some 0 else(Ak (DM r) k).map (· + 1))=(if k=x.Item then some 0 else(Ak (Bf r) k).map (· + 1));rw[j]
theorem Hh{l:List AC}{k}{j}(h:Ak (Bf l) k=some j):∃q:j<l.length,l[j].Item=k:=by
 obtain⟨v,m,_⟩:=Dd h
 unfold Bf at m
 rw[rG,rK] at m
 obtain⟨x,A,w⟩:=m
 obtain⟨q,rfl⟩:=rC.1 A
 simp only[rJ] at w
 exact⟨q,w.1⟩
theorem Kk{l}{k}(h:Ak (Bf l) k=none):∀x∈l,x.Item≠k:=by
 induction l with
 | nil=>intro x m;cases m
 | cons y r w=>
  unfold Bf at h
  rw[rc] at h
  unfold Ak at h
  split at h
  ·cases h
  ·rename_i A
   have B:Ak (Bf r) k=none:=by
    cases q:Ak (Bf r) k with
    | none=>rfl
    | some j=>unfold Bf at q;rw[q] at h;cases h
   intro x m
   rcases ri.1 m with rfl | m
   ·exact λe=>A e.symm
   ·exact w B x m
theorem Yk{l}{k} : AU (Bf l) k=(Ak (Bf l) k).bind λj=>l[j]?:=by
 cases h:Ak (Bf l) k with
 | none=>exact(Eu h).1
 | some j=>
  obtain⟨v,m,w,_⟩:=Dd h
  unfold Bf at m
  rw[rG,rK] at m
  obtain⟨x,A,q⟩:=m
  simp only[rJ] at q
  rw[w,rt,A,q.2]
def Pu(key:Int)(l:List AC)(c:Nat):Ax Unit Int:=match Ak (Bf l) key with | some j=>.ext ((c+j:Nat):Int) | none=>.nrm ()
def H7(l:List AC)(k:Int):Int:=match Ak (Bf l) k with | some j=>(j:Int) | none=>-1
theorem Mj(l:List AC) k(A:l.length≤1048577):In l k=some (H7 l k):=by
 unfold In
 have h:=Im (f:=λ(a:Int)=>IG l k a) l (λ(_:Nat) i=>(i:Int)) (λr c=>Pu k r c) (λi c=>c=i)
  (λi c w q=>by
   subst q
   show(∃B,IG l k (c:Int)=_∧_)∨IG l k (c:Int)=_
   unfold IG
   rw[qy (by simpa using w),Ac w,AD,Ar (by omega)]
   by_cases m:l[c]!.Item=k
   ·right
    rw[qy (by simpa using m)]
    unfold Pu Bf
    rw[rc]
    unfold Ak
    rw[qy m.symm];rfl
   ·left
    refine⟨c+1,by rw[qx (by simpa using m)];rfl,rfl,?_⟩
    unfold Pu Bf
    rw[rc]
    conv=>lhs;unfold Ak
    rw[qx (λe=>m e.symm)]
    cases Ak ((l.drop (c+1)).map λx=>(x.Item,x)) k with
    | none=>rfl
    | some j=>simp only[sK];congr 2;omega)
  (λc q=>by
   subst q
   show IG l k (l.length:Int)=_
   unfold IG
   rw[qx (by simp)];rfl) 0 rfl 0 rfl
 rw[h]
 unfold Pu H7
 cases Ak (Bf l) k with
 | none=>rfl
 | some j=>simp
inductive Be(items:List AC)(top:Int):Int→Prop
 | self:Be items top top
 | step {x:AC} (hx:x∈items) (h:Be items top x.Parent):Be items top x.Item
theorem Be.inv{j}{top y}(h:Be j top y):y=top∨∃x∈j,x.Item=y∧Be j top x.Parent:=by
 cases h with
 | self=>exact .inl rfl
 | step l h=>exact .inr ⟨_,l,rfl,h⟩
def Rk(j:List AC)(d:Int→Nat):Prop:=∀x∈j,d x.Parent<d x.Item
def Uq(j:List AC):Prop:=(j.map (·.Item)).Nodup
theorem Uq.eq{j}(h:Uq j){x y:AC}(w:x∈j)(A:y∈j)(e:x.Item=y.Item):x=y:=by
 unfold Uq at h
 induction j with
 | nil=>cases w
 | cons a r C=>
  rw[rc,List.nodup_cons] at h
  rcases ri.1 w with B | m
  ·rcases ri.1 A with q | l
   ·rw[B,q]
   ·exact(h.1 (rn.2 ⟨y,l,by rw[← B];exact e.symm⟩)).elim
  ·rcases ri.1 A with q | l
   ·exact(h.1 (rn.2 ⟨x,m,by rw[← q];exact e⟩)).elim
   ·exact C h.2 m l
theorem Pj{j}(q:Uq j){top}{x:AC}(m:x∈j)(l:x.Item≠top):Be j top x.Item↔Be j top x.Parent:=by
 constructor
 ·intro h
  rcases h.inv with e | ⟨z,w,e,A⟩
  ·exact absurd e l
  ·rw[q.eq m w e.symm];exact A
 ·exact Be.step m
open Classical in
theorem pj{m}{d}(A3:∀x∈m,1≤x.Item)(T:Uq m)(O:Rk m d){top}(X:1≤top)(m2:List (Int × List AG)) :
  ∀l:Int,M8 (Bf m) m2 l top=some (decide (Be m top l)):=by
 have key:∀(n:Nat) (l:Int),d l≤n→∃c,iter (λ(a:Int)=>G9 (Bf m) top a) l=some c∧A7 (some c) (λ(_:Unit)=>some false)=some (decide (Be m top l)):=by
  intro n
  induction n with
  | zero=>
   intro l hd
   by_cases w:0<l
   ·by_cases q:l=top
    ·subst q
     refine⟨.ext true,BJ (by unfold G9;rw[qy (by simpa using w),qy (by simp)]),?_⟩
     rw[GK,q7 (Be.self)]
    ·cases A:Ak (Bf m) l with
     | none=>
      have I:=Kk A
      refine⟨.ext false,BJ (by unfold G9;rw[qy (by simpa using w),qx (by simpa using q),(Eu A).1];rfl),?_⟩
      rw[GK,qz]
      intro C
      rcases C.inv with e | ⟨x,E,e,_⟩
      ·exact q e
      ·exact I x E e
     | some j=>
      obtain⟨F,e⟩:=Hh A
      have:=O _ (rm F)
      rw[e] at this
      omega
   ·refine⟨.nrm (),BJ (by unfold G9;rw[qx (by simpa using w)]),?_⟩
    rw[Pk,qz]
    intro C
    rcases C.inv with e | ⟨x,E,e,_⟩
    ·omega
    ·have:=A3 x E;omega
  | succ n U=>
   intro l hd
   by_cases w:0<l
   ·by_cases q:l=top
    ·subst q
     refine⟨.ext true,BJ (by unfold G9;rw[qy (by simpa using w),qy (by simp)]),?_⟩
     rw[GK,q7 (Be.self)]
    ·cases A:Ak (Bf m) l with
     | none=>
      have I:=Kk A
      refine⟨.ext false,BJ (by unfold G9;rw[qy (by simpa using w),qx (by simpa using q),(Eu A).1];rfl),?_⟩
      rw[GK,qz]
      intro C
      rcases C.inv with e | ⟨x,E,e,_⟩
      ·exact q e
      ·exact I x E e
     | some j=>
      obtain⟨F,e⟩:=Hh A
      have B:=rm F
      have J:=O _ B
      rw[e] at J
      obtain⟨c,M,V⟩:=U m[j].Parent (by omega)
      refine⟨c,?_,?_⟩
      ·rw[BW (s':=m[j].Parent) (by
        unfold G9
        rw[qy (by simpa using w),qx (by simpa using q),Yk,A,rt,rA F]
        rfl)]
       exact M
      ·rw[V]
       congr 1
       rw[tZ,← Pj T B (by rw[e];exact q),e]
   ·refine⟨.nrm (),BJ (by unfold G9;rw[qx (by simpa using w)]),?_⟩
    rw[Pk,qz]
    intro C
    rcases C.inv with e | ⟨x,E,e,_⟩
    ·omega
    ·have:=A3 x E;omega
 intro l
 obtain⟨c,q,M⟩:=key _ l (q9 _)
 unfold M8
 rw[q];exact M
theorem UN{α:Type}{p q}{l:List α}(h:∀x∈l,p x=true→q x=true){z}(j:z∈l)(w:q z=true)(A:p z=false):l.countP p<l.countP q:=by
 induction l with
 | nil=>cases j
 | cons a r B=>
  have E:r.countP p≤r.countP q:=uP λx m=>h x (rO _ m)
  rw[uK,uK]
  rcases ri.1 j with rfl | j
  ·rw[w,A];simp;omega
  ·have:=B (λx m=>h x (rO _ m)) j
   have C:=h a (rT ..)
   cases hp:p a
   ·simp;split<;>omega
   ·rw[C hp];simp;omega
open Classical in
theorem o6{l:List AC}{d}(X:Uq l)(Z:Rk l d)(hm:l.length≤1048576)(top q:Int):MQ l q top=some (decide (Be l top q)):=by
 let r:Int→Nat:=λy=>l.countP λz=>decide (d z.Item<d y)
 have F:∀x∈l,r x.Item+1≤l.length:=λx A=>by
  have:=UN (p:=λz=>decide (d z.Item<d x.Item)) (q:=λ_=>true) (l:=l) (λ_ _ _=>rfl) A rfl (by simp)
  rw[List.countP_true] at this
  exact this
 have C:∀x∈l,∀y∈l,y.Item=x.Parent→r y.Item+1≤r x.Item:=λx A y hy e=>by
  have B:=Z x A
  exact UN (p:=λz=>decide (d z.Item<d y.Item)) (q:=λz=>decide (d z.Item<d x.Item)) (λz _ T=>by simp at T ⊢;rw[e] at T;omega) hy (by simp;rw[e];exact B) (by simp)
 have key:∀(m:Nat) (q:Int) (i:Nat),i+m=l.length+1→1≤m→(∀x∈l,x.Item=q→r q+2≤m) →
   ∃c,iter (λ(a:Int × Int)=>Gp l top ((l.length+1:Nat):Int) a.1 a.2) (q,(i:Int))=some c∧A7 (some c) (λ(_:Unit)=>some false)=some (decide (Be l top q)):=by
  intro m
  induction m with
  | zero=>intro q i _ h;omega
  | succ m ih=>
   intro q i hi _ hn
   have E:decide ((i:Int)<((l.length+1:Nat):Int))=true:=by simp;omega
   by_cases B:q=top
   ·subst B
    refine⟨.ext true,BJ (by show Gp l q _ q (i:Int)=_;unfold Gp;rw[qy E,qy (by simp)]),?_⟩
    rw[GK,q7 (Be.self)]
   ·cases I:Ak (Bf l) q with
    | none=>
     have J:=Kk I
     refine⟨.ext false,BJ (by
      show Gp l top _ q (i:Int)=_
      unfold Gp
      rw[qy E,qx (by simpa using B),Mj _ _ (by omega),AD]
      unfold H7
      rw[I];rfl),?_⟩
     rw[GK,qz]
     intro hb
     rcases hb.inv with e | ⟨x,A,e,_⟩
     ·exact B e
     ·exact J x A e
    | some j=>
     obtain⟨U,e⟩:=Hh I
     have w:=rm U
     have a0:=hn _ w e
     obtain⟨c,M,h3⟩:=ih l[j].Parent (i+1) (by omega) (by omega) (λx A V=>by
      have:=C _ w x A V
      rw[e] at this
      rw[← V];omega)
     refine⟨c,?_,?_⟩
     ·rw[BW (s':=(l[j].Parent,((i+1:Nat):Int))) (by
       show Gp l top _ q (i:Int)=_
       unfold Gp
       rw[qy E,qx (by simpa using B),Mj _ _ (by omega),AD]
       unfold H7
       rw[I]
       simp only
       rw[qx (by simp),Dz U,AD,Ar (by omega),AD])]
      exact M
     ·rw[h3]
      congr 1
      rw[tZ,← Pj X w (by rw[e];exact B),e]
 unfold MQ
 rw[Ar (by omega),AD]
 obtain⟨c,B,M⟩:=key (l.length+1) q 0 (by omega) (by omega) (λx A e=>by have:=F x A;rw[e] at this;omega)
 have O:iter (λ(a:Int × Int)=>Gp l top ((l.length+1:Nat):Int) a.1 a.2) (q,0)=some c:=B
 rw[O];exact M
def upd(l:List AC)(n:AC):List AC:=match Ak (Bf l) n.Item with | some j=>l.set j n | none=>l++[n]
theorem cQ l(n:AC):Ah (Bf l) n.Item n=Bf (upd l n):=by
 unfold upd
 cases h:Ak (Bf l) n.Item with
 | none=>rw[(Eu h).2];simp[Bf]
 | some j=>
  obtain⟨v,_,_,m⟩:=Dd h
  rw[m];simp[Bf,tl]
theorem XU l(n:AC):Ah (DM l) n.Item n.Attrs=DM (upd l n):=by
 unfold upd
 have m:=SU l n.Item
 cases h:Ak (Bf l) n.Item with
 | none=>rw[h] at m;rw[(Eu m).2];simp[DM]
 | some j=>
  rw[h] at m
  obtain⟨v,_,_,q⟩:=Dd m
  rw[q];simp[DM,tl]
theorem Td(l:List AC) n:(upd l n).length≤l.length+1:=by
 unfold upd
 split<;>simp
theorem UV{l:List AC}(h:Uq l)(n:AC):Uq (upd l n):=by
 unfold upd
 split
 ·rename_i j m
  obtain⟨A,e⟩:=Hh m
  unfold Uq at h ⊢
  rw[tl,← e]
  have:(l.map (·.Item)).set j l[j].Item=l.map (·.Item):=by
   apply sy
   intro i
   rw[sY]
   split
   ·rename_i q;subst q;simp[A]
   ·rfl
  rw[this];exact h
 ·rename_i m
  have B:=Kk m
  unfold Uq at h ⊢
  rw[s6,ub,ui]
  refine⟨h,by simp,λa C b w=>?_⟩
  rw[tH] at w
  obtain⟨x,E,rfl⟩:=rn.1 C
  rw[w];exact B x E
theorem JF{l}(h:Uq l){n z:AC}(w:z∈upd l n):z=n∨(z∈l∧z.Item≠n.Item):=by
 unfold upd at w
 split at w
 ·rename_i j C
  obtain⟨F,e⟩:=Hh C
  obtain⟨i,A⟩:=sX.1 w
  rw[sY] at A
  split at A
  ·cases A;exact .inl rfl
  ·rename_i E
   obtain⟨m,rfl⟩:=rC.1 A
   refine .inr ⟨rm m,λI=>E ?_⟩
   unfold Uq at h
   rw[tT,s7] at h
   rcases Nat.lt_trichotomy i j with q | heq | q
   ·exact(h i j (by simpa using m) (by simpa using F) q (by simp[I,e])).elim
   ·exact heq.symm
   ·exact(h j i (by simpa using F) (by simpa using m) q (by simp[I,e])).elim
 ·rename_i C
  have J:=Kk C
  rcases sU.1 w with B | B
  ·exact .inr ⟨B,J z B⟩
  ·exact .inl (tH.1 B)
open Classical in
theorem oE{l}{d}(B:Rk l d)(w:Uq l){n:AC}(C:¬ Be l n.Item n.Parent):∃E,Rk (upd l n) E:=by
 refine⟨λy=>if Be l n.Item y then d y+d n.Parent+1 else d y,λz F=>?_⟩
 simp only
 rcases JF w F with rfl | ⟨j,q⟩
 ·rw[qx C,qy Be.self];omega
 ·have I:=B z j
  have A:=Pj w j q
  by_cases m:Be l n.Item z.Item
  ·rw[qy m,qy (A.1 m)];omega
  ·rw[qx m,qx (λh=>m (A.2 h))];exact I
structure DI(k:Nat)(items attrs:List AC):Prop where
 uq:Uq items
 id:∀x∈items,1≤x.Item
 no:∀x∈items,x.Attrs=[]
 rk:∃d,Rk items d
 li:items.length≤k
 ua:Uq attrs
 la:attrs.length≤k
 ok:∀x∈attrs,CI x.Attrs false=0∧x.Attrs.length≤k
 ia:∀x∈attrs,1≤x.Item∧x.Item≤1073741824
 mv:∀x∈items,x.Item≤1073741824∧(-1≤x.Parent∧x.Parent≤1073741824)∧MZ x.Place=true
 sa:(attrs.map (·.Attrs.length)).sum≤k
theorem jm{l:List AC}{n:AC}(h:Ak (Bf l) n.Item=none):((upd l n).map (·.Attrs.length)).sum=(l.map (·.Attrs.length)).sum+n.Attrs.length:=by
 unfold upd
 rw[h]
 simp
theorem mY:∀(l:List Nat) (j:Nat) (m:j<l.length) (v:Nat),(l.set j v).sum+l[j]=l.sum+v:=by
 intro l
 induction l with
 | nil=>intro j m;simp at m
 | cons a r q=>
  intro j m v
  cases j with
  | zero=>simp;omega
  | succ j=>
   have:=q j (by simpa using m) v
   simp
   omega
theorem gU{l:List AC}{n:AC}{j}(h:Ak (Bf l) n.Item=some j)(m:j<l.length):((upd l n).map (·.Attrs.length)).sum+l[j].Attrs.length=(l.map (·.Attrs.length)).sum+n.Attrs.length:=by
 have:=mY (l.map (·.Attrs.length)) j (by simpa using m) n.Attrs.length
 unfold upd
 rw[h]
 simp only[tl,ta] at *
 exact this
theorem dX{o:Aw}(h:FW o=0)(j:o.Kind=0):(-1≤o.Parent∧o.Parent≤1073741824)∧MZ o.Place=true:=by
 unfold FW at h
 split at h
 ·exact absurd h (by decide)
 split at h
 ·exact absurd h (by decide)
 try rw[qy j] at h
 split at h
 ·exact absurd h (by decide)
 split at h
 ·exact absurd h (by decide)
 ·rename_i hp
  split at h
  ·rename_i l;exact⟨rg.1 hp,l⟩
  ·exact absurd h (by decide)
theorem cY{o:Aw}(h:FW o=0):(1≤o.Item∧o.Item≤1073741824)∧((o.Kind=0)∨(o.Kind=1∧CI [⟨o.Name,o.Value⟩] true=0)):=by
 unfold FW at h
 split at h
 ·exact absurd h (by decide)
 rename_i m
 split at h
 ·exact absurd h (by decide)
 rename_i q
 refine⟨(rg.1 q).2,?_⟩
 split at h
 ·rename_i j;exact .inl j
 ·rename_i j
  have w:o.Kind=1:=rY λh=>m ⟨j,h⟩
  refine .inr ⟨w,?_⟩
  split at h
  ·exact absurd h (by decide)
  ·split at h
   ·rename_i A
    split at h
    ·exact absurd h (by decide)
    ·rename_i B
     refine fP A ?_
     by_cases e:o.Value=[]
     ·exact .inl e
     ·right
      cases l:Du o.Value
      ·exact absurd ⟨e,l⟩ B
      ·rfl
   ·exact absurd h (by decide)
theorem JY{α:Type}{l m:List α}(h:l.length+m.length≤2097152):app 56 l m=some (l++m):=by
 unfold app
 rw[qy ⟨by omega,by omega⟩]
open Classical in
theorem pn{l:List Aw}{k}{m attrs:List AC}(h:DI k m attrs)(hk:k<l.length)(hm:l.length≤1048576)(ho:FW l[k]! = 0) :
  ∃A B,DI (k+1) A B∧Iu l (k:Int) (Bf m) (DM attrs)=some (.inl (((k+1:Nat):Int),Bf A,DM B)) ∧
   IR l (k:Int) m attrs=some (.inl (((k+1:Nat):Int),A,B)):=by
 obtain⟨hI,O⟩:=cY ho
 have a1:=h.li
 have a2:=h.la
 unfold Iu IR
 rw[qy (by simpa using hk),qy (by simpa using hk),Ac hk,AD,AD,Ar (by omega)]
 generalize l[k]! = o at *
 rcases O with h0 | ⟨h1,ha⟩
 ·
  obtain⟨d,hd⟩:=h.rk
  rw[qx (by rw[h0];decide),qx (by rw[h0];decide),pj h.id h.uq hd hI.1,AD]
  have T:∃r2:Bool,gd (((decide (o.Parent=o.Item))==false)&&((decide (0<o.Parent))==true)) (MQ m o.Parent o.Item)=some r2∧(((o.Parent=o.Item)||((0<o.Parent)&&r2))=decide (Be m o.Item o.Parent)):=by
   rw[o6 h.uq hd (by omega)]
   by_cases E:o.Parent=o.Item
   ·refine⟨default,by rw[q7 E];rfl,?_⟩
    rw[q7 E,E,q7 Be.self];rfl
   ·by_cases V:0<o.Parent
    ·refine⟨decide (Be m o.Item o.Parent),by rw[qz E,q7 V];rfl,?_⟩
     rw[qz E,q7 V];simp
    ·refine⟨default,by rw[qz E,qz V];rfl,?_⟩
     rw[qz E,qz V,qz]
     ·rfl
     ·intro U
      rcases U.inv with e | ⟨x,w,e,_⟩
      ·exact E e
      ·have:=h.id x w;omega
  obtain⟨r2,E,V⟩:=T
  rw[E,AD,V]
  by_cases U:Be m o.Item o.Parent
  ·refine⟨m,attrs,⟨h.uq,h.id,h.no,h.rk,by omega,h.ua,by omega,λx w=>⟨(h.ok x w).1,by have:=(h.ok x w).2;omega⟩,h.ia,h.mv,by have:=h.sa;omega⟩,?_,?_⟩
   ·rw[q7 U,qx (by decide),By];rfl
   ·rw[q7 U,qy rfl,By];rfl
  ·have hn:(⟨o.Item,o.Parent,o.Place,[]⟩:AC)=⟨o.Item,o.Parent,o.Place,[]⟩:=rfl
   generalize F:(⟨o.Item,o.Parent,o.Place,[]⟩:AC)=n at hn
   have I:n.Item=o.Item:=by rw[← F]
   have a0:n.Parent=o.Parent:=by rw[← F]
   refine⟨upd m n,attrs,⟨UV h.uq n,λx w=>?_,λx w=>?_,oE hd h.uq (by rw[I,a0];exact U),by have:=Td m n;omega,h.ua,by omega,λx w=>⟨(h.ok x w).1,by have:=(h.ok x w).2;omega⟩,h.ia,λx w=>?_,by have:=h.sa;omega⟩,?_,?_⟩
   ·rcases JF h.uq w with rfl | ⟨q,_⟩
    ·rw[I];exact hI.1
    ·exact h.id x q
   ·rcases JF h.uq w with rfl | ⟨q,_⟩
    ·rw[← F]
    ·exact h.no x q
   ·rcases JF h.uq w with rfl | ⟨q,_⟩
    ·rw[← F];exact⟨hI.2,dX ho h0⟩
    ·exact h.mv x q
   ·rw[qz U,qy (by decide),By,AD,← I,cQ]
   ·rw[qz U,qx (by decide),Mj _ _ (by omega),AD]
    unfold upd H7
    rw[I]
    cases C:Ak (Bf m) o.Item with
    | none=>
     simp only
     rw[qy (by decide),JY (by simp;omega),AD,By,Dz (by simp),AD,By,AD,sf]
     simp
    | some j=>
     obtain⟨X,_⟩:=Hh C
     simp only
     rw[qx (by simp),By,Dz X,AD,By,AD,sf]
 ·
  rw[qy (by rw[h1];decide),qy (by rw[h1];decide),Mj _ _ (by omega),AD]
  unfold H7
  have J:=SU attrs o.Item
  cases C:Ak (Bf attrs) o.Item with
  | none=>
   rw[C] at J
   simp only
   rw[(Eu J).1,uo,XR (by simp),AD,qy (by decide),JY (by simp;omega)]
   simp only[AD,By]
   rw[Dz (by simp)]
   simp only[AD,List.getElem_append_right (q9 _),ur,List.getElem_cons_zero]
   rw[X6 Tu ha (by simp)]
   simp only[AD,By,sf]
   have E:(attrs++[(⟨o.Item,0,[],[]⟩:AC)]).set attrs.length ⟨o.Item,0,[],Fb [] ⟨o.Name,o.Value⟩⟩=upd attrs ⟨o.Item,0,[],Fb [] ⟨o.Name,o.Value⟩⟩:=by
    unfold upd;rw[C];simp
   rw[E]
   refine⟨m,upd attrs ⟨o.Item,0,[],Fb [] ⟨o.Name,o.Value⟩⟩,⟨h.uq,h.id,h.no,h.rk,by omega,UV h.ua _,by have:=Td attrs ⟨o.Item,0,[],Fb [] ⟨o.Name,o.Value⟩⟩;omega,λx w=>?_,λx w=>?_,h.mv,?_⟩,?_,rfl⟩
   ·rcases JF h.ua w with rfl | ⟨q,_⟩
    ·exact⟨VP Tu ha,by have:=Qt [] ⟨o.Name,o.Value⟩;simp at this;simp only;omega⟩
    ·exact⟨(h.ok x q).1,by have:=(h.ok x q).2;omega⟩
   ·rcases JF h.ua w with rfl | ⟨q,_⟩
    ·exact hI
    ·exact h.ia x q
   ·rw[jm (by simpa using C)]
    have:=Qt [] ⟨o.Name,o.Value⟩
    have:=h.sa
    simp at *
    omega
   ·rw[← XU]
  | some j=>
   rw[C] at J
   obtain⟨X,ej⟩:=Hh C
   have M:=rm X
   have Z:=h.ok _ M
   obtain⟨v,v1,v2,v3⟩:=Dd J
   have hv:v=attrs[j].Attrs:=by
    unfold DM at v1
    rw[rG,rA X] at v1
    simp at v1
    exact v1.2.symm
   subst hv
   simp only
   rw[v2,sW,XR (by omega),AD,qx (by simp)]
   simp only[AD,By]
   rw[Dz X]
   simp only[AD]
   rw[X6 Z.1 ha (by omega)]
   simp only[AD,By,sf]
   have E:attrs.set j ⟨attrs[j].Item,attrs[j].Parent,attrs[j].Place,Fb attrs[j].Attrs ⟨o.Name,o.Value⟩⟩=upd attrs ⟨attrs[j].Item,attrs[j].Parent,attrs[j].Place,Fb attrs[j].Attrs ⟨o.Name,o.Value⟩⟩:=by
    unfold upd;simp only;rw[ej,C]
   rw[E]
   refine⟨m,upd attrs ⟨attrs[j].Item,attrs[j].Parent,attrs[j].Place,Fb attrs[j].Attrs ⟨o.Name,o.Value⟩⟩,⟨h.uq,h.id,h.no,h.rk,by omega,UV h.ua _,by have:=Td attrs ⟨attrs[j].Item,attrs[j].Parent,attrs[j].Place,Fb attrs[j].Attrs ⟨o.Name,o.Value⟩⟩;rw[← E] at this ⊢;simpa using(by omega:attrs.length≤k+1),λx w=>?_,λx w=>?_,h.mv,?_⟩,?_,rfl⟩
   ·rcases JF h.ua w with rfl | ⟨q,_⟩
    ·exact⟨VP Z.1 ha,by have:=Qt attrs[j].Attrs ⟨o.Name,o.Value⟩;simp only;omega⟩
    ·exact⟨(h.ok x q).1,by have:=(h.ok x q).2;omega⟩
   ·rcases JF h.ua w with rfl | ⟨q,_⟩
    ·exact(h.ia attrs[j] M)
    ·exact h.ia x q
   ·have h2:=gU (l:=attrs) (n:=⟨attrs[j].Item,attrs[j].Parent,attrs[j].Place,Fb attrs[j].Attrs ⟨o.Name,o.Value⟩⟩) (j:=j) (by simp only;rw[ej,C]) X
    have:=Qt attrs[j].Attrs ⟨o.Name,o.Value⟩
    have:=h.sa
    simp only at h2
    omega
   ·rw[← XU];simp only;rw[ej]
end Go.Proofs.YtifgmfoihehlbaaGreatDoor.Al

set_option linter.unusedVariables false
namespace Go.Proofs.YtifgmfoihehlbaaGreatDoor.Al
open Go.Sort
structure HU(lt:AC→AC→Bool):Prop where
 swo:SWO lt
 tot:∀a b,lt a b=false→lt b a=false→a.Item=b.Item
theorem HU.asymm{lt}(h:HU lt){a b}(j:lt a b=true):lt b a=false:=by
 cases l:lt b a
 ·rfl
 ·have:=h.swo.trans a b a j l
  rw[h.swo.irrefl] at this;cases this
def Gx(a b:AC):Bool:=Ay a.Place b.Place||((a.Place=b.Place)&&(a.Item<b.Item))
def FQ(a b:AC):Bool:=decide (a.Item<b.Item)
theorem Sw(a b:AC):Gx a b=true↔Ay a.Place b.Place=true∨(a.Place=b.Place∧a.Item<b.Item):=by
 unfold Gx;simp
theorem Mz(a b:AC):Gx a b=false↔Ay b.Place a.Place=true∨(b.Place=a.Place∧b.Item≤a.Item):=by
 rw[← ru,Sw]
 constructor
 ·intro h
  by_cases e:b.Place=a.Place
  ·exact .inr ⟨e,by
    have:¬ a.Item<b.Item:=λj=>h (.inr ⟨e.symm,j⟩)
    omega⟩
  ·exact .inl (Si (λl=>e l.symm) λj=>h (.inl j))
 ·rintro(h | ⟨m,j⟩) (g | ⟨q,g2⟩)
  ·rw[WB h] at g;cases g
  ·rw[q,JP] at h;cases h
  ·rw[m,JP] at g;cases g
  ·omega
theorem Ig:HU Gx where
 swo:={
  irrefl:=λx=>by rw[Mz];exact .inr ⟨rfl,Int.le_refl _⟩
  trans:=λx y z l j=>by
   rw[Sw] at *
   rcases l with l | ⟨l,m⟩<;>rcases j with j | ⟨j,g2⟩
   ·exact .inl (F4 l j)
   ·exact .inl (by rw[← j];exact l)
   ·exact .inl (by rw[l];exact j)
   ·exact .inr ⟨l.trans j,by omega⟩
  ntrans:=λx y z l j=>by
   rw[Mz] at *
   rcases l with l | ⟨l,m⟩<;>rcases j with j | ⟨j,g2⟩
   ·exact .inl (F4 j l)
   ·exact .inl (by rw[j];exact l)
   ·exact .inl (by rw[← l];exact j)
   ·exact .inr ⟨j.trans l,by omega⟩ }
 tot:=λa b l j=>by
  rw[Mz] at *
  rcases l with l | ⟨l,m⟩<;>rcases j with j | ⟨j,g2⟩
  ·rw[WB l] at j;cases j
  ·rw[j,JP] at l;cases l
  ·rw[l,JP] at j;cases j
  ·omega
theorem Kt:HU FQ where
 swo:={ irrefl:=λx=>by unfold FQ;simp,trans:=λx y z j l=>by unfold FQ at *;simp at *;omega,ntrans:=λx y z j l=>by unfold FQ at *;simp at *;omega }
 tot:=λa b j l=>by unfold FQ at *;simp at *;omega
def srt(lt:AC→AC→Bool)(xs:List AC):List AC:=xs.mergeSort λa b=>!lt b a
theorem Gb lt xs:(srt lt xs).Perm xs:=List.mergeSort_perm ..
theorem RS{lt}(h:HU lt) xs:(srt lt xs).Pairwise λa b=>lt b a=false:=by
 have:=List.pairwise_mergeSort (le:=λa b=>!lt b a) (λa b c j l=>by
  simp only[sB] at *
  exact h.swo.ntrans c b a l j) (λa b=>by
  cases j:lt b a
  ·rfl
  ·simp[h.asymm j]) xs
 exact this.imp λh=>by simpa using h
theorem Uq.perm{A B:List AC}(h:Uq A)(p:B.Perm A):Uq B:=(p.map λx:AC=>x.Item).nodup_iff.2 h
theorem Uq.filter{A:List AC}(h:Uq A)(p:AC→Bool):Uq (A.filter p):=by
 unfold Uq at *
 exact(List.filter_sublist.map _).nodup h
theorem Vm{lt}(h:HU lt){xs}(l:Uq xs):(srt lt xs).Pairwise λa b=>lt a b=true:=by
 have m:=RS h xs
 have j:Uq (srt lt xs):=l.perm (Gb lt xs)
 unfold Uq at j
 rw[tT,tj] at j
 refine(m.and j).imp λ{a b} ⟨q,g2⟩=>?_
 cases g3:lt a b
 ·exact absurd (h.tot a b g3 q) g2
 ·rfl
theorem T6{lt}(h:HU lt){c:List AC}(hc:c.Pairwise λa b=>lt a b=true){k}(q:k<c.length){z}(w:z∈c):lt c[k] z=true↔z∈c.drop (k+1):=by
 rw[s7] at hc
 constructor
 ·intro l
  obtain⟨i,j,rfl⟩:=sA.1 w
  have:k<i:=by
   rcases Nat.lt_trichotomy k i with g | g | g
   ·exact g
   ·subst g;rw[h.swo.irrefl] at l;cases l
   ·rw[h.asymm (hc i k j q g)] at l;cases l
  rw[sX]
  exact⟨i-(k+1),by rw[ry,show k+1+(i-(k+1))=i by omega,rA j]⟩
 ·intro A
  obtain⟨i,j⟩:=sX.1 A
  rw[ry] at j
  obtain⟨m,rfl⟩:=rC.1 j
  exact hc k (k+1+i) q m (by omega)
def OM(l:AC→Bool)(lt:AC→AC→Bool)(A:List AC)(next:Option Nat)(k:Nat):Option Nat:=
 match next with
 | none=>if l A[k]! = true then some k else none
 | some j=>if l A[k]! = true∧lt A[k]! A[j]! = true then some k else some j
def nx:Option Nat→Int
 | none=>-1
 | some j=>(j:Int)
theorem Xi{l}{lt}(U:HU lt){A:List AC}{f}
 (h1:∀k next, k<A.length→(∀j, next=some j→j<A.length)→f (nx next, (k:Int))=some (.inl (nx (OM l lt A next k), ((k+1:Nat):Int)))) (h2:∀next, f (nx next, (A.length:Int))=some (.inr (nx next))) :
    ∃next, iter f (-1, 0)=some (nx next)∧(match next with | none => ∀z ∈ A, l z=false | some j => ∃I:j<A.length, l A[j]=true∧∀z ∈ A, l z=true→lt z A[j]=false) := by
  have key := H6 (f := f) A.length (λk s => ∃next, s=(nx next, (k:Int))∧(match next with | none => ∀i, i<k→∀C:i<A.length, l A[i]=false | some j => ∃I:j<A.length, l A[j]=true∧∀i, i<k→∀C:i<A.length, l A[i]=true→lt A[i] A[j]=false))
    (λb => ∃next, b=nx next∧(match next with | none => ∀z ∈ A, l z=false | some j => ∃I:j<A.length, l A[j]=true∧∀z ∈ A, l z=true→lt z A[j]=false))
    (λk s M V => by
      obtain⟨next, rfl, F⟩ := V
      left
      have X:∀j, next=some j→j<A.length := λj e => by subst e;exact F.1
      refine⟨_, h1 k next M X, OM l lt A next k, rfl, ?_⟩
      unfold OM
      cases next with
      | none =>
        simp only at F ⊢
        rw[rN A k M]
        by_cases E:l A[k]=true
        · rw[qy E]
          refine⟨M, E, λi C m q => ?_⟩
          by_cases w:i<k
          · rw[F i w m] at q;cases q
          · obtain rfl:i=k := by omega
            exact U.swo.irrefl _
        · rw[qx E]
          intro i C m
          by_cases w:i<k
          · exact F i w m
          · obtain rfl:i=k := by omega
            simpa using E
      | some j =>
        obtain⟨I, J, B⟩ := F
        simp only
        rw[rN A k M, rN A j I]
        by_cases E:l A[k]=true∧lt A[k] A[j]=true
        · rw[qy E]
          refine⟨M, E.1, λi C m q => ?_⟩
          by_cases w:i<k
          · have T := B i w m q
            cases O:lt A[i] A[k]
            · rfl
            · rw[U.swo.trans _ _ _ O E.2] at T;cases T
          · obtain rfl:i=k := by omega
            exact U.swo.irrefl _
        · rw[qx E]
          refine⟨I, J, λi C m q => ?_⟩
          by_cases w:i<k
          · exact B i w m q
          · obtain rfl:i=k := by omega
            cases O:lt A[i] A[j]
            · rfl
            · exact absurd ⟨q, O⟩ E)
    (λs V => by
      obtain⟨next, rfl, F⟩ := V
      refine⟨_, h2 next, next, rfl, ?_⟩
      cases next with
      | none =>
        intro z Z
        obtain⟨i, C, rfl⟩ := sA.1 Z
        exact F i C C
      | some j =>
        obtain⟨I, J, B⟩ := F
        refine⟨I, J, λz Z E => ?_⟩
        obtain⟨i, C, rfl⟩ := sA.1 Z
        exact B i C C E)
    (s := (-1, 0)) ⟨none, rfl, λi C => absurd C (by omega)⟩
  obtain⟨b, T, next, rfl, O⟩ := key
  exact⟨next, T, O⟩
theorem Rs{m:AC→Bool}{lt:AC→AC→Bool}(X:HU lt){A c:List AC}(Z:Uq A)(I:∀z∈c,z∈A)(hc:c.Pairwise λa b=>lt a b=true){k:Nat}
  (l:∀z∈A,m z=true↔z∈c.drop k) {next:Option Nat} (J:match next with | none=>∀z∈A,m z=false | some j=>∃w:j<A.length,m A[j]=true∧∀z∈A,m z=true→lt z A[j]=false) :
  (k<c.length→∃j,∃w:j<A.length,next=some j∧some A[j]=c[k]?)∧(c.length≤k→next=none):=by
 constructor
 ·intro B
  have C:c[k]∈c.drop k:=sX.2 ⟨0,by rw[ry,sT,rA B]⟩
  have hA:=I _ (rm B)
  have q:=(l _ hA).2 C
  cases next with
  | none=>rw[J _ hA] at q;cases q
  | some j=>
   obtain⟨w,M,U⟩:=J
   refine⟨j,w,rfl,?_⟩
   rw[rA B]
   congr 1
   have V:=U _ hA q
   have F:A[j]∈c.drop k:=(l _ (rm w)).1 M
   obtain⟨i,T⟩:=sX.1 F
   rw[ry] at T
   obtain⟨O,E⟩:=rC.1 T
   rw[s7] at hc
   rcases uZ i with g | g
   ·subst g;rw[← E];rfl
   ·have:=hc k (k+i) B O (by omega)
    rw[E,V] at this;cases this
 ·intro B
  cases next with
  | none=>rfl
  | some j=>
   obtain⟨w,M,_⟩:=J
   have F:A[j]∈c.drop k:=(l _ (rm w)).1 M
   rw[rx B] at F;cases F
structure Fo(A:List AC)(d:Int→Nat)(M:Nat):Prop where
 uq:Uq A
 id:∀x∈A,1≤x.Item
 rk:Rk A d
 top:∀x∈A,d x.Item≤M
 len:A.length≤1048576
def BD(A:List AC)(q:Int):List AC:=srt Gx (A.filter λz=>decide (z.Parent=q))
theorem HH{A}{q}{z:AC} : z∈BD A q↔z∈A∧z.Parent=q:=by
 unfold BD
 rw[(Gb _ _).mem_iff,sV,q8]
theorem OB{A}(j:Uq A)(q:Int):(BD A q).Pairwise λa b=>Gx a b=true:=Vm Ig (j.filter _)
def BO(A:List AC):Nat→Int→List AC
 | 0,_=>[]
 | n+1,q=>(BD A q).flatMap λx=>x::BO A n x.Item
def J9(q:Int)(place:List UInt8)(j:Int)(z:AC):Bool:=!(((!(z.Parent=q))||(Ay z.Place place))||((z.Place=place)&&(z.Item≤j)))
theorem Wp(A:List AC)(F:A.length≤1048576) q place l:∃next,iter (λ(a:Int × Int)=>IP A q place l a.1 a.2) ((-1),0)=some (nx next) ∧
  (match next with | none=>∀z∈A,J9 q place l z=false | some j=>∃w:j<A.length,J9 q place l A[j]=true∧∀z∈A,J9 q place l z=true→Gx z A[j]=false):=by
 refine Xi Ig (λk next B C=>?_) (λnext=>?_)
 ·show IP A q place l (nx next) (k:Int)=_
  unfold IP
  rw[qy (by simpa using B),Ac B,AD,Ar (by omega)]
  unfold OM J9
  generalize A[k]! = x
  by_cases m:(((!(x.Parent=q))||(Ay x.Place place))||((x.Place=place)&&(x.Item≤l)))=true
  ·rw[qy m,m]
   cases next<;>simp
  ·rw[qx m]
   rw[ru] at m
   rw[m]
   cases next with
   | none=>simp[nx,DV]
   | some j=>
    have w:=C j rfl
    have E:decide (nx (some j)<0)=false:=by unfold nx;simp
    rw[E,show((false==false)=true) from rfl,At,show nx (some j)=(j:Int) from rfl,Ac w,AD]
    simp only[tG,uV]
    generalize A[j]! = y
    have e:Gx x y=(Ay x.Place y.Place||((x.Place=y.Place)&&(x.Item<y.Item))):=rfl
    rw[e]
    cases Ay x.Place y.Place
    ·simp only[sN,show((false==false)=true) from rfl,At,AD]
     split<;>rfl
    ·simp only[sN,tz,show((true==false)=false) from rfl,DV,AD,uA]
     rfl
 ·show IP A q place l (nx next) (A.length:Int)=_
  unfold IP
  rw[qx (by simp)]
def Ex(c:List AC)(k:Nat):List UInt8 × Int:=match k with | 0=>([],0) | k+1=>(c[k]!.Place,c[k]!.Item)
theorem eP{c:List AC}{k}(h:k<c.length):Ex c (k+1)=(c[k].Place,c[k].Item):=by
 show(c[k]!.Place,c[k]!.Item)=_
 rw[rN c k h]
theorem Wi{A}(B:Uq A)(A3:∀x∈A,1≤x.Item)(q:Int){k}(F:k≤(BD A q).length){z:AC}(w:z∈A):J9 q (Ex (BD A q) k).1 (Ex (BD A q) k).2 z=true↔z∈(BD A q).drop k:=by
 have C:∀(p:List UInt8) (i:Int),J9 q p i z=true↔z.Parent=q∧¬ (Ay z.Place p=true∨(z.Place=p∧z.Item≤i)):=λp i=>by
  unfold J9
  simp only[sB,sw,Bool.not_eq_false',q8,tE,sP,not_or,not_and,ru]
  constructor
  ·rintro⟨⟨j,m⟩,l⟩;exact⟨j,m,l⟩
  ·rintro⟨j,m,l⟩;exact⟨⟨j,m⟩,l⟩
 cases k with
 | zero=>
  rw[sg,HH,C]
  unfold Ex
  simp only
  constructor
  ·rintro⟨j,_⟩;exact⟨w,j⟩
  ·rintro⟨_,j⟩
   refine⟨j,?_⟩
   rintro(h | ⟨_,h⟩)
   ·rw[Vj] at h;cases h
   ·have:=A3 z w;omega
 | succ k=>
  unfold Ex
  simp only
  rw[rN (BD A q) k (by omega),C]
  constructor
  ·rintro⟨j,m⟩
   refine(T6 Ig (OB B q) (by omega) (HH.2 ⟨w,j⟩)).1 ?_
   cases l:Gx (BD A q)[k] z
   ·rw[Mz] at l;exact absurd l m
   ·rfl
  ·intro j
   have m:=uS j
   refine⟨(HH.1 m).2,λl=>?_⟩
   have E:=(T6 Ig (OB B q) (by omega) m).2 j
   rw[← Mz] at l
   rw[l] at E;cases E
theorem gc{A:List AC}{d:Int→Nat}{M:Nat}(h:Fo A d M):∀(n:Nat) (q:Int) (out:List AC),M-d q<n→out.length+(BO A n q).length≤2097151→D3 n out A q=some (out++BO A n q):=by
 intro n
 induction n with
 | zero=>intro q out hn;omega
 | succ n ih=>
  intro q out hn hl
  show JO (λw E l=>D3 n w E l) out A q=_
  unfold JO
  have hA:∀z∈BD A q,z∈A:=λz F=>(HH.1 F).1
  have loop:∀m k o,k+m=(BD A q).length→o.length+(((BD A q).drop k).flatMap λx=>x::BO A n x.Item).length≤2097151 →
    iter (λ(a:(List UInt8) × Int × (List AC))=>GT A q (λw E l=>D3 n w E l) a.1 a.2.1 a.2.2) ((Ex (BD A q) k).1,(Ex (BD A q) k).2,o) =
     some (.ext (o++((BD A q).drop k).flatMap λx=>x::BO A n x.Item)):=by
   intro m
   induction m with
   | zero=>
    intro k o hk V
    refine BJ ?_
    show GT A q _ (Ex (BD A q) k).1 (Ex (BD A q) k).2 o=_
    unfold GT
    obtain⟨next,J,O⟩:=Wp A h.len q (Ex (BD A q) k).1 (Ex (BD A q) k).2
    have:=(Rs Ig h.uq hA (OB h.uq q) (λz F=>Wi h.uq h.id q (by omega) F) O).2 (by omega)
    subst this
    rw[J,AD,qy (by decide),rx (by omega)]
    simp
   | succ m T=>
    intro k o hk V
    have B:k<(BD A q).length:=by omega
    obtain⟨next,J,O⟩:=Wp A h.len q (Ex (BD A q) k).1 (Ex (BD A q) k).2
    obtain⟨j,hj,rfl,X⟩:=(Rs Ig h.uq hA (OB h.uq q) (λz F=>Wi h.uq h.id q (by omega) F) O).1 B
    rw[rA B] at X
    have e4:A[j]=(BD A q)[k]:=rW X
    have I:=rm B
    have C:=HH.1 I
    have hd:=h.rk _ C.1
    rw[C.2] at hd
    have Z:=h.top _ C.1
    rw[rf B,sC,rj,rp] at V
    rw[BW (s':=((Ex (BD A q) (k+1)).1,(Ex (BD A q) (k+1)).2,(o++[(BD A q)[k]])++BO A n (BD A q)[k].Item)) (by
     show GT A q _ (Ex (BD A q) k).1 (Ex (BD A q) k).2 o=_
     unfold GT
     rw[J,AD,show nx (some j)=(j:Int) from rfl,qx (by simp),Dz hj,AD,JY (by simp;omega),AD,e4]
     show AB (D3 n (o++[(BD A q)[k]]) A (BD A q)[k].Item) _=_
     rw[ih _ _ (by omega) (by rw[rj];simp;omega),AD]
     rw[eP B]),T (k+1) _ (by omega) (by simp only[rj,rp,tf];omega)]
    conv=>rhs;rw[rf B,sC]
    simp
  have h0:=loop (BD A q).length 0 out (by omega) (by rw[sg];exact hl)
  rw[sg] at h0
  have U:iter (λ(a:(List UInt8) × Int × (List AC))=>GT A q (λw E l=>D3 n w E l) a.1 a.2.1 a.2.2) ([],0,out)=some (.ext (out++(BD A q).flatMap λx=>x::BO A n x.Item)):=h0
  rw[U,GK];rfl
end Go.Proofs.YtifgmfoihehlbaaGreatDoor.Al

set_option linter.unusedVariables false
namespace Go.Proofs.YtifgmfoihehlbaaGreatDoor.Al
open Go.Sort
theorem Be.trans{A}{a b y}(h:Be A b y)(g:Be A a b):Be A a y:=by
 induction h with
 | self=>exact g
 | step j _ l=>exact Be.step j l
theorem Be.rank{A}{d}(j:Rk A d){top y}(h:Be A top y):d top≤d y:=by
 induction h with
 | self=>exact q9 _
 | step l _ m=>have:=j _ l;omega
theorem qU{A}(l:Uq A){a b y}(h:Be A a y)(g:Be A b y):Be A a b∨Be A b a:=by
 induction h with
 | self=>exact .inr g
 | @step x j m q=>
  rcases g.inv with e | ⟨z,w,e,g2⟩
  ·exact .inl (by rw[← e];exact Be.step j m)
  ·rw[l.eq w j e] at g2;exact q g2
theorem LW{A} : ∀(n:Nat) (q:Int) (z:AC),z∈BO A n q→z∈A∧Be A q z.Parent:=by
 intro n
 induction n with
 | zero=>intro q z h;cases h
 | succ n l=>
  intro q z h
  unfold BO at h
  obtain⟨x,m,j⟩:=tr.1 h
  obtain⟨hA,hp⟩:=HH.1 m
  rcases ri.1 j with rfl | j
  ·exact⟨hA,by rw[hp];exact Be.self⟩
  ·obtain⟨w,B⟩:=l _ _ j
   exact⟨w,B.trans (Be.step hA (by rw[hp];exact Be.self))⟩
theorem XP{A}{d}(C:Uq A)(m:Rk A d):∀(n:Nat) (q:Int),(BO A n q).Pairwise λa b=>a.Item≠b.Item:=by
 intro n
 induction n with
 | zero=>intro q;exact List.Pairwise.nil
 | succ n O=>
  intro q
  unfold BO
  rw[List.pairwise_flatMap]
  have hB:∀a∈BD A q,∀x∈a::BO A n a.Item,Be A a.Item x.Item:=λa j x E=>by
   rcases ri.1 E with rfl | E
   ·exact Be.self
   ·obtain⟨F,w⟩:=LW n _ _ E
    exact Be.step F w
  refine⟨λa j=>tP.2 ⟨λz T e=>?_,O _⟩,?_⟩
  ·obtain⟨F,w⟩:=LW n _ _ T
   have:=w.rank m
   have:=m z F
   rw[e] at *;omega
  ·have U:=OB C q
   have l:∀a∈BD A q,a∈A∧a.Parent=q:=λa j=>HH.1 j
   refine List.Pairwise.imp_of_mem (λ{a b} j B I x E y V e=>?_) U
   have F:=hB a j x E
   have w:=hB b B y V
   rw[← e] at w
   have J:a.Item≠b.Item:=λM=>by
    rw[C.eq (l a j).1 (l b B).1 M,Ig.swo.irrefl] at I;cases I
   rcases qU C F w with g | g
   ·have g2:=(Pj C (l b B).1 (λM=>J M.symm)).1 g
    rw[(l b B).2] at g2
    have:=g2.rank m
    have:=m a (l a j).1
    rw[(l a j).2] at this
    omega
   ·have g2:=(Pj C (l a j).1 J).1 g
    rw[(l a j).2] at g2
    have:=g2.rank m
    have:=m b (l b B).1
    rw[(l b B).2] at this
    omega
theorem Yo:∀(l A:List AC),(l.Pairwise λa b=>a.Item≠b.Item)→(∀z∈l,z∈A)→l.length≤A.length:=by
 intro l
 induction l with
 | nil=>intro A _ _;exact si _
 | cons a r w=>
  intro A hp j
  rw[tP] at hp
  have m:=j a (rT ..)
  have:=w (A.erase a) hp.2 λz q=>(List.mem_erase_of_ne (λe=>hp.1 z q (by rw[e]))).2 (j z (rO _ q))
  rw[List.length_erase_of_mem m] at this
  have:0<A.length:=List.length_pos_of_mem m
  simp;omega
theorem MX{A:List AC}{d}{M}(h:Fo A d M) n q:(BO A n q).length≤A.length:=
 Yo _ _ (XP h.uq h.rk n q) λz j=>(LW n q z j).1
theorem SE{α:Type} m k(v:α) q:AU (Ah m k v) q=if q=k then some v else AU m q:=by
 induction m with
 | nil=>unfold Ah AU;rfl
 | cons p r w=>
  unfold Ah
  by_cases l:k=p.1
  ·rw[qy l]
   conv=>lhs;unfold AU
   conv=>rhs;unfold AU
   rw[← l]
   split<;>rfl
  ·rw[qx l]
   conv=>lhs;unfold AU
   conv=>rhs;unfold AU
   rw[w]
   by_cases j:q=p.1
   ·rw[qy j,qy j,qx (by rw[j];exact λe=>l e.symm)]
   ·rw[qx j,qx j]
def cS(p q:List UInt8):Int:=if Ay p q then -1 else if !(Ay p q||(p=q)) then 1 else 0
def Pr(a b:AC):Int:=if cS a.Place b.Place≠0 then cS a.Place b.Place else HD a.Item b.Item
theorem mw p q:OW p q=some (cS p q):=by
 unfold OW Nu cS
 simp only[uW,tL,AD,sq,tX]
 split
 ·rfl
 ·split<;>rfl
theorem lr a b:Kn a b=some (Pr a b):=by
 unfold Kn Pr
 rw[mw,QA,AD,AD,X2,AD]
theorem gf(a b:AC):Pd a b=some (HD a.Item b.Item):=by
 unfold Pd
 rw[QA,AD]
theorem kj:ltOf Pr=Gx:=by
 funext a b
 unfold ltOf
 rw[ro,q8,Sw]
 unfold Pr cS HD
 by_cases j:Ay a.Place b.Place=true
 ·simp[j]
 ·rw[ru] at j
  by_cases l:a.Place=b.Place
  ·simp only[j,l,JP,sq,tX,uW,Bool.or_true,tL,ne_eq,not_true_eq_false,false_or,uV]
   split
   ·simp[*]
   ·split<;>omega
  ·simp[j,l]
theorem lM:ltOf (λa b:AC=>HD a.Item b.Item)=FQ:=by
 funext a b
 unfold ltOf FQ HD
 rw[tZ]
 show(if a.Item<b.Item then(-1:Int) else if b.Item<a.Item then 1 else 0)<0↔_
 split
 ·simp[*]
 ·split<;>omega
theorem XX{lt}(j:HU lt){cmp}{l}(w:∀a b,cmp a b=some (l a b))(m:ltOf l=lt){xs:List AC}(A:Uq xs)(E:xs.length≤1048576) :
  Hv cmp xs=some (srt lt xs):=by
 refine nW ⟨by omega,l,w,by rw[m];exact j.swo,λa B b C q g2=>?_,Gb _ _,by rw[m];exact RS j xs⟩
 rw[m] at q g2
 exact A.eq B C (j.tot a b q g2)
theorem XD{lt}(j:HU lt){xs ys:List AC}(m:Uq ys)(hp:xs.Perm ys):srt lt xs=srt lt ys:=by
 refine TL j.swo _ _ (((Gb lt xs).trans hp).trans (Gb lt ys).symm) (λa q b w A g2=>?_) (RS j xs) (RS j ys)
 have l:∀z∈srt lt xs,z∈ys:=λz B=>hp.subset ((Gb lt xs).subset B)
 exact m.eq (l a q) (l b w) (j.tot a b A g2)
def Dl(kids:List (Int × List AC))(q:Int):List AC:=(AU kids q).getD []
def Jh(A:List AC)(kids:List (Int × List AC)):Prop:=∀q,(Dl kids q).Perm (A.filter λz=>decide (z.Parent=q))
theorem RB kids q v p:Dl (Ah kids q v) p=if p=q then v else Dl kids p:=by
 unfold Dl
 rw[SE]
 split<;>rfl
theorem nU{A:List AC}(I:Uq A)(J:A.length≤1048576){kids}(m:Jh A kids)(q:Int):∃w,Js Kn kids q=some w∧Dl w q=BD A q∧Jh A w∧∀p,Dl kids p=BD A p→Dl w p=BD A p:=by
 unfold Js
 cases B:AU kids q with
 | none=>
  have j:=m q
  unfold Dl at j
  rw[B,uo] at j
  refine⟨kids,rfl,?_,m,λp h=>h⟩
  unfold Dl BD
  rw[B,List.nil_perm.1 j]
  simp[srt]
 | some C=>
  have j:=m q
  unfold Dl at j
  rw[B,sW] at j
  have E:Uq C:=(I.filter _).perm j
  have F:C.length≤1048576:=by rw[j.length_eq];exact rM (sR ..) J
  have l:srt Gx C=BD A q:=XD Ig (I.filter _) j
  simp only
  rw[XX Ig lr kj E F,sK]
  refine⟨_,rfl,?_,λp=>?_,λp hp=>?_⟩
  ·rw[RB,qy rfl,l]
  ·rw[RB]
   split
   ·rename_i e;subst e
    exact(Gb _ _).trans j
   ·exact m p
  ·rw[RB]
   split
   ·rename_i e;subst e;exact l
   ·exact hp
def BF(m:List (Int × Bool))(i:Int):Bool:=(AU m i).getD false
theorem J8 m k i:BF (Ah m k true) i=((i=k)||BF m i):=by
 unfold BF
 rw[SE]
 by_cases h:i=k<;>simp[h]
def Bo(l:List AC)(i:Int):Bool:=l.any λz=>decide (z.Item=i)
theorem Wg l m i:Bo (l++m) i=(Bo l i||Bo m i):=by unfold Bo;rw[List.any_append]
theorem gu{A}{d}{M}(h:Fo A d M):∀(n:Nat) (q:Int) (kids:List (Int × List AC)) (out:List AC) (seen:List (Int × Bool)),M-d q<n→Jh A kids→out.length+(BO A n q).length≤2097151 →
  ∃l F,Dp n kids out seen q=some (l,out++BO A n q,F)∧Jh A l∧(∀p,Dl kids p=BD A p→Dl l p=BD A p)∧∀i,BF F i=(BF seen i||Bo (BO A n q) i):=by
 intro n
 induction n with
 | zero=>intro q kids out seen hn;omega
 | succ n ih=>
  intro q kids out seen hn hK hl
  obtain⟨w,e1,Z,e3,e4⟩:=nU h.uq h.len hK q
  have a6:(BD A q).length≤1048576:=by
   unfold BD
   rw[(Gb _ _).length_eq];exact rM (sR ..) h.len
  have loop:∀m k o E O,k+m=(BD A q).length→Jh A E→Dl E q=BD A q→o.length+(((BD A q).drop k).flatMap λx=>x::BO A n x.Item).length≤2097151 →
    ∃B C,iter (λ(a:Int × (List AC) × (List (Int × (List AC))) × (List (Int × Bool)))=>GL q (λU c1 m2 j=>Dp n U c1 m2 j) w a.1 a.2.1 a.2.2.1 a.2.2.2) ((k:Int),o,E,O) =
     some (.ext (B,o++((BD A q).drop k).flatMap λx=>x::BO A n x.Item,C))∧Jh A B∧(∀p,Dl E p=BD A p→Dl B p=BD A p)∧∀i,BF C i=(BF O i||Bo (((BD A q).drop k).flatMap λx=>x::BO A n x.Item) i):=by
   intro m
   induction m with
   | zero=>
    intro k o E O hk T hr ho
    refine⟨E,O,BJ ?_,T,λp hp=>hp,λi=>?_⟩
    ·show GL q _ w (k:Int) o E O=_
     unfold GL
     rw[qx (by rw[show(AU w q).getD []=BD A q from Z];simp;omega),rx (by omega)]
     simp
    ·rw[rx (by omega)];simp[Bo]
   | succ m a0=>
    intro k o E O hk T hr ho
    have I:k<(BD A q).length:=by omega
    have V:=rm I
    have J:=HH.1 V
    have hd:=h.rk _ J.1
    rw[J.2] at hd
    have a2:=h.top _ J.1
    rw[rf I,sC,rj,rp] at ho
    obtain⟨k1,s1,f1,f2,f3,f4⟩:=ih (BD A q)[k].Item E (o++[(BD A q)[k]]) (Ah O (BD A q)[k].Item true) (by omega) T (by rw[rj];simp;omega)
    obtain⟨B,C,X,g2,g3,g4⟩:=a0 (k+1) ((o++[(BD A q)[k]])++BO A n (BD A q)[k].Item) k1 s1 (by omega) f2 (f3 q hr) (by simp only[rj,rp,tf];omega)
    refine⟨B,C,?_,g2,λp hp=>g3 p (f3 p hp),λi=>?_⟩
    ·rw[BW (s':=(((k+1:Nat):Int),(o++[(BD A q)[k]])++BO A n (BD A q)[k].Item,k1,s1)) (by
      show GL q _ w (k:Int) o E O=_
      unfold GL
      rw[qy (by rw[show(AU w q).getD []=BD A q from Z];simp;omega),show(AU E q).getD []=BD A q from hr,Dz I,AD,JY (by simp;omega),AD]
      show CK (Dp n E (o++[(BD A q)[k]]) (Ah O (BD A q)[k].Item true) (BD A q)[k].Item) _=_
      rw[f1,FJ,Ar (by omega),AD]),X]
     conv=>rhs;rw[rf I,sC]
     simp
    ·rw[g4,f4,J8,rf I,sC,Wg]
     have:Bo ((BD A q)[k]::BO A n (BD A q)[k].Item) i=((i=(BD A q)[k].Item)||Bo (BO A n (BD A q)[k].Item) i):=by
      unfold Bo
      rw[ts]
      congr 1
      rw[tZ];exact⟨λe=>e.symm,λe=>e.symm⟩
     rw[this]
     cases BF O i<;>cases decide (i=(BD A q)[k].Item)<;>simp
  obtain⟨B,C,X,g2,g3,g4⟩:=loop (BD A q).length 0 out w seen (by omega) e3 Z (by rw[sg];exact hl)
  rw[sg] at X g4
  refine⟨B,C,?_,g2,λp hp=>g3 p (e4 p hp),g4⟩
  show Jb (λU c1 m2 j=>Dp n U c1 m2 j) kids out seen q=_
  unfold Jb
  rw[e1,AD]
  have a1:iter (λ(a:Int × (List AC) × (List (Int × (List AC))) × (List (Int × Bool)))=>GL q (λU c1 m2 j=>Dp n U c1 m2 j) w a.1 a.2.1 a.2.2.1 a.2.2.2) (0,out,w,seen)=_:=X
  rw[a1,GK];rfl
end Go.Proofs.YtifgmfoihehlbaaGreatDoor.Al

set_option linter.unusedVariables false
set_option linter.unusedSimpArgs false
namespace Go.Proofs.YtifgmfoihehlbaaGreatDoor.Al
open Go.Sort
def wa(attrs:List AC)(x:AC):AC:=⟨x.Item,x.Parent,x.Place,(AU (DM attrs) x.Item).getD []⟩
theorem jJ{l:List Aw}(E:l.length≤1048576)(F:∀x∈l,FW x=0):∀(m k:Nat) (j attrs:List AC),k+m=l.length→DI k j attrs→∃q w,DI l.length q w ∧
  iter (λ(a:Int × (List (Int × AC)) × (List (Int × (List AG))))=>Iu l a.1 a.2.1 a.2.2) ((k:Int),Bf j,DM attrs)=some (Bf q,DM w) ∧
  iter (λ(a:Int × (List AC) × (List AC))=>IR l a.1 a.2.1 a.2.2) ((k:Int),j,attrs)=some (q,w):=by
 intro m
 induction m with
 | zero=>
  intro k j attrs I h
  obtain rfl:k=l.length:=by omega
  refine⟨j,attrs,h,BJ ?_,BJ ?_⟩
  ·show Iu l (l.length:Int) _ _=_
   unfold Iu;rw[qx (by simp)]
  ·show IR l (l.length:Int) _ _=_
   unfold IR;rw[qx (by simp)]
 | succ m J=>
  intro k j attrs I h
  have A:k<l.length:=by omega
  obtain⟨B,C,M,O,T⟩:=pn h A E (F _ (Bm A))
  obtain⟨U,V,X,Z,h6⟩:=J (k+1) B C (by omega) M
  refine⟨U,V,X,?_,?_⟩
  ·rw[BW (s':=(((k+1:Nat):Int),Bf B,DM C)) O];exact Z
  ·rw[BW (s':=(((k+1:Nat):Int),B,C)) T];exact h6
theorem eX{l attrs:List AC}(Z:l.length≤1048576)(h2:attrs.length≤1048576)(J:∀x∈l,x.Attrs=[]) :
  iter (λ(a:Int × (List AC))=>IW l attrs a.1 a.2) (0,l)=some (l.map (wa attrs)):=by
 have key:∀m k,k+m=l.length→iter (λ(a:Int × (List AC))=>IW l attrs a.1 a.2) ((k:Int),(l.take k).map (wa attrs)++l.drop k)=some (l.map (wa attrs)):=by
  intro m
  induction m with
  | zero=>
   intro k O
   refine BJ ?_
   show IW l attrs (k:Int) _=_
   unfold IW
   rw[qx (by simp;omega),rx (by omega),th (by omega),s8]
  | succ m T=>
   intro k O
   have q:k<l.length:=by omega
   have B:((l.take k).map (wa attrs)).length=k:=by simp;omega
   have U:((l.take k).map (wa attrs)++l.drop k)[k]?=some l[k]:=by
    rw[rR (by omega),B,ur,ry,sT,rA q]
   have F:∀y,((l.take k).map (wa attrs)++l.drop k).set k y=(l.take k).map (wa attrs)++(y::l.drop (k+1)):=λy=>by
    rw[uO _ _ (by omega),B,ur,rf q];rfl
   have w:(l.take (k+1)).map (wa attrs)++l.drop (k+1)=(l.take k).map (wa attrs)++(wa attrs l[k]::l.drop (k+1)):=by
    rw[O6 q,rN l k q,s6,sJ];rfl
   have C:IW l attrs (k:Int) ((l.take k).map (wa attrs)++l.drop k)=some (.inl (((k+1:Nat):Int),(l.take (k+1)).map (wa attrs)++l.drop (k+1))):=by
    unfold IW
    have I:AL ((l.take k).map (wa attrs)++l.drop k) (k:Int)=some l[k]:=by
     unfold AL;rw[qy (tg k),sf,U]
    rw[qy (by simpa using q),I,AD,Mj _ _ (by omega),AD,Ar (by omega)]
    unfold H7
    have A:=SU attrs l[k].Item
    cases E:Ak (Bf attrs) l[k].Item with
    | none=>
     rw[E] at A
     simp only
     rw[qx (by decide),AD,AD,w]
     have:wa attrs l[k]=l[k]:=by
      unfold wa
      rw[(Eu A).1,uo,← J _ (rm q)]
     rw[this,rf q]
    | some j=>
     rw[E] at A
     obtain⟨M,ej⟩:=Hh E
     obtain⟨v,v1,V,_⟩:=Dd A
     have X:v=attrs[j].Attrs:=by
      unfold DM at v1
      rw[rG,rA M] at v1
      simp at v1
      exact v1.2.symm
     simp only
     rw[qy (by simp),Dz M]
     simp only[AD,sf]
     rw[F,w]
     unfold wa
     rw[V,sW,X]
   rw[BW (s':=(((k+1:Nat):Int),(l.take (k+1)).map (wa attrs)++l.drop (k+1))) C]
   exact T (k+1) (by omega)
 have:=key l.length 0 (by omega)
 simpa using this
theorem XM{l:List Aw}(w:l.length≤1048576)(A:∀x∈l,FW x=0):∃j attrs,DI l.length j attrs∧Lm l=some (Bf j,DM attrs)∧Lo l=some (j.map (wa attrs),attrs):=by
 obtain⟨j,attrs,h,B,C⟩:=jJ w A l.length 0 [] [] (by omega) ⟨by unfold Uq;simp,by simp,by simp,⟨λ_=>0,λx E=>by cases E⟩,by simp,by unfold Uq;simp,by simp,by simp,by simp,by simp,by simp⟩
 refine⟨j,attrs,h,?_,?_⟩
 ·unfold Lm
  have m:iter (λ(a:Int × (List (Int × AC)) × (List (Int × (List AG))))=>Iu l a.1 a.2.1 a.2.2) (0,[],[])=some (Bf j,DM attrs):=B
  rw[m,By]
 ·unfold Lo
  have q:iter (λ(a:Int × (List AC) × (List AC))=>IR l a.1 a.2.1 a.2.2) (0,[],[])=some (j,attrs):=C
  rw[q,By,eX (by have:=h.li;omega) (by have:=h.la;omega) h.no,AD]
theorem jv(d:Int→Nat):∀A:List AC,∃M,∀x∈A,d x.Item≤M:=by
 intro A
 induction A with
 | nil=>exact⟨0,λx j=>by cases j⟩
 | cons a r l=>
  obtain⟨M,h⟩:=l
  refine⟨max M (d a.Item),λx j=>?_⟩
  rcases ri.1 j with rfl | j
  ·exact Nat.le_max_right ..
  ·exact rM (h x j) (Nat.le_max_left ..)
theorem DI.fo{n}{j attrs:List AC}(h:DI n j attrs)(w:n≤1048576):∃d M,Fo (j.map (wa attrs)) d M:=by
 obtain⟨d,hd⟩:=h.rk
 obtain⟨M,q⟩:=jv d (j.map (wa attrs))
 refine⟨d,M,?_,λx l=>?_,λx l=>?_,q,by have:=h.li;simp;omega⟩
 ·have:=h.uq
  unfold Uq at *
  rw[List.map_map];exact this
 ·obtain⟨y,m,rfl⟩:=rn.1 l;exact h.id y m
 ·obtain⟨y,m,rfl⟩:=rn.1 l;exact hd y m
theorem Lb{α:Type}{N:Nat→Option α}(mono:∀n r,N n=some r→N (n+1)=some r){j:Nat}{l:α}(h:N j=some l) :
  @dite _ (∃n r,N n=some r) (Classical.propDecidable _) (λh=>N h.choose) (λ_=>none)=some l:=by
 have m:∃n r,N n=some r:=⟨j,l,h⟩
 rw[tW m]
 obtain⟨C,w⟩:=m.choose_spec
 have up:∀k n r,N n=some r→N (n+k)=some r:=by
  intro k
  induction k with
  | zero=>intro n r h;exact h
  | succ k A=>intro n r h;exact mono _ _ (A n r h)
 have B:=up j _ _ w
 have q:=up m.choose _ _ h
 rw[Nat.add_comm] at q
 rw[B] at q
 rw[w];exact q
theorem Ik{σ β:Type}{f g:σ→Option (σ ⊕ β)}(h:∀s v,f s=some v→g s=some v){s:σ}{r:β}(m:iter f s=some r):iter g s=some r:=by
 obtain⟨n,j⟩:=LR.1 m
 refine LR.2 ⟨n,?_⟩
 clear m
 induction n generalizing s with
 | zero=>exact j
 | succ n q=>
  unfold E0 at j ⊢
  cases l:f s with
  | none=>rw[l] at j;cases j
  | some v=>
   rw[l] at j
   rw[h s v l]
   cases v with
   | inl w=>exact q j
   | inr b=>exact j
theorem gt n:∀(m:List (Int × List AC)) (c1:List AC) (m2:List (Int × Bool)) (q:Int) r,Dp n m c1 m2 q=some r→Dp (n+1) m c1 m2 q=some r:=by
 induction n with
 | zero=>intro m c1 m2 q r h;cases h
 | succ n M=>
  intro m c1 m2 q r h
  change Jb (λm c1 m2 j=>Dp n m c1 m2 j) m c1 m2 q=some r at h
  show Jb (λm c1 m2 j=>Dp (n+1) m c1 m2 j) m c1 m2 q=some r
  unfold Jb at h ⊢
  cases F:Js Kn m q with
  | none=>rw[F] at h;cases h
  | some w=>
   rw[F,AD] at h
   rw[AD]
   cases B:iter (λ(a:Int × (List AC) × (List (Int × (List AC))) × (List (Int × Bool)))=>GL q (λm c1 m2 j=>Dp n m c1 m2 j) w a.1 a.2.1 a.2.2.1 a.2.2.2) (0,c1,w,m2) with
   | none=>rw[B] at h;cases h
   | some v=>
    rw[B] at h
    rw[Ik (g:=λ(a:Int × (List AC) × (List (Int × (List AC))) × (List (Int × Bool)))=>GL q (λm c1 m2 j=>Dp (n+1) m c1 m2 j) w a.1 a.2.1 a.2.2.1 a.2.2.2) (λs v A=>?_) B]
    ·exact h
    ·unfold GL at A ⊢
     split at A
     ·rename_i C
      rw[qy C]
      cases I:AL ((AU s.2.2.1 q).getD []) s.1 with
      | none=>rw[I] at A;cases A
      | some x=>
       rw[I,AD] at A
       rw[AD]
       cases J:app 56 s.2.1 [x] with
       | none=>rw[J] at A;cases A
       | some l=>
        rw[J,AD] at A
        rw[AD]
        change CK (Dp n s.2.2.1 l (Ah s.2.2.2 x.Item true) x.Item) _=_ at A
        show CK (Dp (n+1) s.2.2.1 l (Ah s.2.2.2 x.Item true) x.Item) _=_
        cases E:Dp n s.2.2.1 l (Ah s.2.2.2 x.Item true) x.Item with
        | none=>rw[E] at A;cases A
        | some t=>rw[E] at A;rw[M _ _ _ _ _ E];exact A
     ·rename_i C
      rw[qx C];exact A
theorem bF n:∀(o l:List AC) (q:Int) r,D3 n o l q=some r→D3 (n+1) o l q=some r:=by
 induction n with
 | zero=>intro o l q r h;cases h
 | succ n T=>
  intro o l q r h
  change JO (λm A j=>D3 n m A j) o l q=some r at h
  show JO (λm A j=>D3 (n+1) m A j) o l q=some r
  unfold JO at h ⊢
  cases B:iter (λ(a:(List UInt8) × Int × (List AC))=>GT l q (λm A j=>D3 n m A j) a.1 a.2.1 a.2.2) ([],0,o) with
  | none=>rw[B] at h;cases h
  | some v=>
   rw[B] at h
   rw[Ik (g:=λ(a:(List UInt8) × Int × (List AC))=>GT l q (λm A j=>D3 (n+1) m A j) a.1 a.2.1 a.2.2) (λs v w=>?_) B]
   ·exact h
   ·unfold GT at w ⊢
    cases J:iter (λ(a:Int × Int)=>IP l q s.1 s.2.1 a.1 a.2) ((-1),0) with
    | none=>rw[J] at w;cases w
    | some C=>
     rw[J,AD] at w
     rw[AD]
     split at w
     ·rename_i E;rw[qy E];exact w
     ·rename_i E
      rw[qx E]
      cases M:AL l C with
      | none=>rw[M] at w;cases w
      | some x=>
       rw[M,AD] at w
       rw[AD]
       cases O:app 56 s.2.2 [x] with
       | none=>rw[O] at w;cases w
       | some F=>
        rw[O,AD] at w
        rw[AD]
        change AB (D3 n F l x.Item) _=_ at w
        show AB (D3 (n+1) F l x.Item) _=_
        cases I:D3 n F l x.Item with
        | none=>rw[I] at w;cases w
        | some t=>rw[I] at w;rw[T _ _ _ _ I];exact w
theorem fD{A}{d}{M}(h:Fo A d M):Od [] A 0=some (BO A (M+1) 0):=by
 have j:=gc h (M+1) 0 [] (by omega) (by have:=MX h (M+1) 0;have:=h.len;simp;omega)
 rw[sO] at j
 unfold Od
 exact Lb (N:=λn=>D3 n [] A 0) (λn r=>bF n [] A 0 r) j
theorem bR{A}{d}{M}(h:Fo A d M){kids}(l:Jh A kids):∃k' s',Oq kids [] [] 0=some (k',BO A (M+1) 0,s')∧∀i,BF s' i=Bo (BO A (M+1) 0) i:=by
 obtain⟨k',s',j,_,_,m⟩:=gu h (M+1) 0 kids [] [] (by omega) l (by have:=MX h (M+1) 0;have:=h.len;simp;omega)
 rw[sO] at j
 refine⟨k',s',?_,λi=>by rw[m];simp[BF,AU]⟩
 unfold Oq
 exact Lb (N:=λn=>Dp n kids [] [] 0) (λn r=>gt n kids [] [] 0 r) j
end Go.Proofs.YtifgmfoihehlbaaGreatDoor.Al

set_option linter.unusedVariables false
set_option linter.unusedSimpArgs false
namespace Go.Proofs.YtifgmfoihehlbaaGreatDoor.Al
open Go.Sort
theorem nm{α:Type}{m:List (Int × α)}{k}{v0}(h:AU m k=some v0)(v:α):(Ah m k v).map (·.1)=m.map (·.1):=by
 induction m with
 | nil=>cases h
 | cons p r l=>
  unfold Ah
  by_cases j:k=p.1
  ·rw[qy j];simp[j]
  ·rw[qx j]
   unfold AU at h
   rw[qx j] at h
   rw[rc,rc,l h]
theorem TF{l}(w:Uq l){x:AC}(m:x∈l):AU (Bf l) x.Item=some x:=by
 rw[Yk]
 cases h:Ak (Bf l) x.Item with
 | none=>exact absurd rfl (Kk h x m)
 | some j=>
  obtain⟨q,e⟩:=Hh h
  rw[rt,rA q,w.eq (rm q) m e]
def Kg(j attrs:List AC)(k:Int):AC:=((AU (Bf j) k).map (wa attrs)).getD default
structure RJ(items attrs:List AC)(p:List Int)(st:(List AC) × (List (Int × AC)) × (List (Int × (List AC)))):Prop where
 all:st.1=p.map (Kg items attrs)
 keys:st.2.1.map (·.1)=items.map (·.Item)
 here:∀x∈items,∃a,AU st.2.1 x.Item=some ⟨x.Item,x.Parent,x.Place,a⟩
 kids:∀q,Dl st.2.2 q=(p.map (Kg items attrs)).filter λz=>decide (z.Parent=q)
abbrev OF:(List AC) × (List (Int × AC)) × (List (Int × (List AC)))→List Int:=λa=>a.2.1.map (·.1)
theorem lA{j attrs:List AC}(F:Uq j)(hl:j.length≤1048576):∀(r p:List Int) l,RJ j attrs p l→(∀k∈r,k∈j.map (·.Item))→p.length+r.length≤1048576 →
  ∃st',FO (Ku OF (j.map (·.Item)) (λa w=>Hl (DM attrs) a.1 a.2.1 a.2.2 w)) r l=some st'∧RJ j attrs (p++r) st':=by
 intro r
 induction r with
 | nil=>intro p l h _ _;exact⟨l,rfl,by rw[s8];exact h⟩
 | cons k r U=>
  intro p l h I A
  obtain⟨x,B,rfl⟩:=rn.1 (I k (rT ..))
  obtain⟨a,J⟩:=h.here x B
  have C:(⟨x.Item,x.Parent,x.Place,(AU (DM attrs) x.Item).getD []⟩:AC)=wa attrs x:=rfl
  have M:Kg j attrs x.Item=wa attrs x:=by unfold Kg;rw[TF F B];rfl
  have O:(Dl l.2.2 x.Parent).length≤1048576:=by
   rw[h.kids];refine rM (sR ..) ?_;rw[rh];simp at A;omega
  have V:Hl (DM attrs) l.1 l.2.1 l.2.2 x.Item=some (l.1++[wa attrs x],Ah l.2.1 x.Item (wa attrs x),Ah l.2.2 x.Parent (Dl l.2.2 x.Parent++[wa attrs x])):=by
   unfold Hl
   rw[J,AD]
   show AB (app 56 (Dl l.2.2 x.Parent) [wa attrs x]) _=_
   rw[JY (by simp;omega),AD]
   show AB (app 56 l.1 [wa attrs x]) _=_
   rw[JY (by rw[h.all];simp at A ⊢;omega),AD]
   rfl
  have m:(Ah l.2.1 x.Item (wa attrs x)).map (·.1)=j.map (·.Item):=by rw[nm J];exact h.keys
  obtain⟨st',X,T⟩:=U (p++[x.Item]) (l.1++[wa attrs x],Ah l.2.1 x.Item (wa attrs x),Ah l.2.2 x.Parent (Dl l.2.2 x.Parent++[wa attrs x])) ⟨by rw[s6,ub,M,← h.all],m,λy C=>by
    show ∃a,AU (Ah l.2.1 x.Item (wa attrs x)) y.Item=_
    rw[SE]
    split
    ·rename_i e
     rw[F.eq C B e];exact⟨_,rfl⟩
    ·exact h.here y C,λq=>by
    show Dl (Ah l.2.2 x.Parent _) q=_
    rw[RB,s6,List.filter_append,ub,M]
    by_cases E:q=x.Parent
    ·subst E
     have e:[wa attrs x].filter (λz=>decide (z.Parent=x.Parent))=[wa attrs x]:=by simp[wa]
     rw[qy rfl,h.kids,e]
    ·have e:[wa attrs x].filter (λz=>decide (z.Parent=q))=[]:=by simp[wa];exact λe=>E e.symm
     rw[qx E,h.kids,e,s8]⟩ (λk Z=>I k (rO _ Z)) (by simp at A ⊢;omega)
  refine⟨st',?_,by rw[sJ] at T;exact T⟩
  show(Ku OF (j.map (·.Item)) (λa w=>Hl (DM attrs) a.1 a.2.1 a.2.2 w) l x.Item).bind _=some st'
  have hs:Ku OF (j.map (·.Item)) (λa w=>Hl (DM attrs) a.1 a.2.1 a.2.2 w) l x.Item=some (l.1++[wa attrs x],Ah l.2.1 x.Item (wa attrs x),Ah l.2.2 x.Parent (Dl l.2.2 x.Parent++[wa attrs x])):=by
   unfold Ku
   simp only
   rw[V,rt,qy (by exact m)]
  rw[hs,rt]
  exact X
def Br(A:List AC)(j:List AC):List AC:=(srt FQ A).filter λz=>!Bo j z.Item
theorem pE l m(A:∀i,BF l i=Bo m i)(j:List AC)(C:j.length≤1048576)(o:List AC)(E:o.length≤1048576) :
  iter (λ(a:Int × (List AC))=>IE l j a.1 a.2) (0,o)=some (o++j.filter λz=>!Bo m z.Item):=
 Im (f:=λ(a:Int × (List AC))=>IE l j a.1 a.2) j (λc k=>((k:Int),c)) (λr c=>c++r.filter λz=>!Bo m z.Item) (λk c=>c.length≤1048576+k)
  (λk c w B=>by
   left
   show ∃F,IE l j (k:Int) c=_∧_
   unfold IE
   rw[qy (by simpa using w),Ac w,AD,Ar (by omega),show(AU l j[k]!.Item).getD false=Bo m j[k]!.Item from A _]
   by_cases q:Bo m j[k]!.Item=true
   ·refine⟨c,by rw[q];rfl,by omega,?_⟩
    rw[tb,q];rfl
   ·rw[ru] at q
    refine⟨c++[j[k]!],by rw[q,qy (by decide),JY (by simp;omega)];rfl,by simp;omega,?_⟩
    rw[tb,q];simp)
  (λc B=>by
   show IE l j (j.length:Int) c=_
   unfold IE
   rw[qx (by simp)];simp) o (by omega) _ rfl
theorem ZS{l:List Aw}{j attrs:List AC}(hm:l.length≤1048576)(h:DI l.length j attrs)(hp:Lm l=some (Bf j,DM attrs)){d}{M}(hF:Fo (j.map (wa attrs)) d M) :
  Nv l=some (BO (j.map (wa attrs)) (M+1) 0++Br (j.map (wa attrs)) (BO (j.map (wa attrs)) (M+1) 0)):=by
 unfold Nv
 rw[hp,By]
 have A:OF ([],Bf j,[])=j.map (·.Item):=by
  show(Bf j).map (·.1)=_
  unfold Bf;rw[List.map_map];rfl
 refine mO (key:=OF) (F:=λa T=>Hl (DM attrs) a.1 a.2.1 a.2.2 T) ⟨by rw[A];exact h.uq,λks w=>?_⟩
 rw[A] at w ⊢
 have U:=h.li
 have V:ks.length=j.length:=by rw[w.length_eq,rh]
 obtain⟨E,X,C⟩:=lA (attrs:=attrs) h.uq (by omega) ks [] ([],Bf j,[]) ⟨rfl,A,λx F=>⟨x.Attrs,TF h.uq F⟩,λq=>rfl⟩ (λk Z=>w.subset Z) (by simp;omega)
 rw[X,rt]
 rw[sO] at C
 have m:E.1.Perm (j.map (wa attrs)):=by
  rw[C.all]
  have I:=w.map (Kg j attrs)
  rw[List.map_map] at I
  refine I.trans (List.Perm.of_eq (List.map_congr_left λx F=>?_))
  show Kg j attrs x.Item=_
  unfold Kg;rw[TF h.uq F];rfl
 have hK:Jh (j.map (wa attrs)) E.2.2:=λq=>by
  rw[C.kids,← C.all];exact m.filter _
 obtain⟨k',s',J,w2⟩:=bR hF hK
 obtain⟨O,m3,m4⟩:=E
 simp only at m J ⊢
 rw[FJ,J,FJ,XX Kt gf lM (hF.uq.perm m) (by rw[m.length_eq];exact hF.len),AD,XD Kt hF.uq m]
 have B:(srt FQ (j.map (wa attrs))).length≤1048576:=by rw[(Gb _ _).length_eq];exact hF.len
 rw[pE s' _ w2 _ B _ (rM (MX hF _ _) hF.len),AD]
 rfl
def Kw(c:List AC)(k:Nat):Int:=match k with | 0=>0 | k+1=>c[k]!.Item
theorem lb l i:decide (H7 l i<0)=!Bo l i:=by
 unfold H7
 cases h:Ak (Bf l) i with
 | none=>
  have m:=Kk h
  have:Bo l i=false:=by
   unfold Bo
   rw[List.any_eq_false]
   intro x q;simpa using m x q
  rw[this];rfl
 | some j=>
  obtain⟨w,e⟩:=Hh h
  have:Bo l i=true:=by
   unfold Bo
   rw[sj]
   exact⟨_,rm w,by simpa using e⟩
  rw[this];simp
def Kc(j:List AC)(last:Int)(z:AC):Bool:=(last<z.Item)&&!Bo j z.Item
theorem V0(A l out:List AC)(J:A.length≤1048576)(hw:l.length≤1048576)(m:out.take l.length=l)(E:l.length≤out.length) last:∃next,iter (λ(a:Int × Int)=>I2 A l last out a.1 a.2) ((-1),0)=some (nx next) ∧
  (match next with | none=>∀z∈A,Kc l last z=false | some j=>∃w:j<A.length,Kc l last A[j]=true∧∀z∈A,Kc l last z=true→FQ z A[j]=false):=by
 have q:DY out 0 (l.length:Int)=some l:=by
  unfold DY
  rw[qy ⟨by omega,by omega,by omega⟩]
  simp[m]
 refine Xi Kt (λk next B F=>?_) (λnext=>?_)
 ·show I2 A l last out (nx next) (k:Int)=_
  unfold I2
  rw[qy (by simpa using B),Ac B,AD,Ar (by omega),q]
  unfold OM Kc
  generalize A[k]! = x
  by_cases C:last<x.Item
  ·rw[q7 C,show((true==true)=true) from rfl,At,AD,At,Mj _ _ (by omega),AD,lb]
   cases M:Bo l x.Item
   ·cases next with
    | none=>simp[nx,DV]
    | some j=>
     have w:=F j rfl
     have I:decide (nx (some j)<0)=false:=by unfold nx;simp
     rw[I,show nx (some j)=(j:Int) from rfl,Ac w]
     simp only[tG,uE,rq,sE,At,AD,sN,uV]
     generalize A[j]! = y
     rw[show FQ x y=decide (x.Item<y.Item) from rfl]
     split<;>rfl
   ·cases next<;>simp[DV]
  ·rw[qz C]
   cases next<;>simp[DV]
 ·show I2 A l last out (nx next) (A.length:Int)=_
  unfold I2
  rw[qx (by simp)]
theorem QJ{A}(j:Uq A)(l:List AC):(Br A l).Pairwise λa b=>FQ a b=true:=(Vm Kt j).filter _
theorem Jj{A j}{z:AC} : z∈Br A j↔z∈A∧Bo j z.Item=false:=by
 unfold Br
 rw[sV,(Gb _ _).mem_iff]
 simp
theorem WD{A}(E:Uq A)(A3:∀x∈A,1≤x.Item)(j:List AC){k}(F:k≤(Br A j).length){z:AC}(q:z∈A):Kc j (Kw (Br A j) k) z=true↔z∈(Br A j).drop k:=by
 have B:∀i:Int,Kc j i z=true↔i<z.Item∧Bo j z.Item=false:=λi=>by unfold Kc;simp
 cases k with
 | zero=>
  rw[sg,Jj,B]
  show(0<z.Item∧_)↔_
  constructor
  ·rintro⟨_,h⟩;exact⟨q,h⟩
  ·rintro⟨_,h⟩;exact⟨by have:=A3 z q;omega,h⟩
 | succ k=>
  rw[B]
  show((Br A j)[k]!.Item<z.Item∧_)↔_
  rw[rN (Br A j) k (by omega)]
  have hd:=λw=>T6 Kt (QJ E j) (show k<(Br A j).length by omega) (z:=z) w
  constructor
  ·rintro⟨l,m⟩
   exact(hd (Jj.2 ⟨q,m⟩)).1 (by unfold FQ;simpa using l)
  ·intro l
   have m:=uS l
   have C:=(hd m).2 l
   unfold FQ at C
   exact⟨by simpa using C,(Jj.1 m).2⟩
theorem bC{A:List AC}(w:Uq A)(A3:∀x∈A,1≤x.Item)(C:A.length≤1048576)(l:List AC)(I:l.length≤1048576):∀m k,k+m=(Br A l).length →
  iter (λ(a:Int × (List AC))=>Iq A l a.1 a.2) (Kw (Br A l) k,l++(Br A l).take k)=some (.ext (l++Br A l,(l.length:Int))):=by
 intro m
 have hA:∀z∈Br A l,z∈A:=λz B=>(Jj.1 B).1
 have M:(Br A l).length≤1048576:=by
  unfold Br
  refine rM (sR ..) ?_
  rw[(Gb _ _).length_eq];exact C
 induction m with
 | zero=>
  intro k O
  refine BJ ?_
  show Iq A l (Kw (Br A l) k) (l++(Br A l).take k)=_
  unfold Iq
  obtain⟨next,E,F⟩:=V0 A l (l++(Br A l).take k) C I (by simp) (by simp) (Kw (Br A l) k)
  have:=(Rs Kt w hA (QJ w l) (λz B=>WD w A3 l (by omega) B) F).2 (by omega)
  subst this
  rw[E,AD,qy (by decide),th (by omega)]
 | succ m T=>
  intro k O
  have q:k<(Br A l).length:=by omega
  obtain⟨next,E,F⟩:=V0 A l (l++(Br A l).take k) C I (by simp) (by simp) (Kw (Br A l) k)
  obtain⟨j,U,rfl,J⟩:=(Rs Kt w hA (QJ w l) (λz B=>WD w A3 l (by omega) B) F).1 q
  rw[rA q] at J
  have V:A[j]=(Br A l)[k]:=rW J
  rw[BW (s':=(Kw (Br A l) (k+1),l++(Br A l).take (k+1))) (by
   show Iq A l (Kw (Br A l) k) (l++(Br A l).take k)=_
   unfold Iq
   rw[E,AD,show nx (some j)=(j:Int) from rfl,qx (by simp),Dz U,AD,JY (by simp;omega),AD,V]
   show some (Sum.inl ((Br A l)[k].Item,_))=some (Sum.inl ((Br A l)[k]!.Item,_))
   rw[rN (Br A l) k q,O6 q,rN (Br A l) k q,sJ])]
  exact T (k+1) (by omega)
theorem YR{l}{j attrs:List AC}(hp:Lo l=some (j.map (wa attrs),attrs)){d}{M}(hF:Fo (j.map (wa attrs)) d M) :
  Iv l=some (BO (j.map (wa attrs)) (M+1) 0++Br (j.map (wa attrs)) (BO (j.map (wa attrs)) (M+1) 0),((BO (j.map (wa attrs)) (M+1) 0).length:Int)):=by
 unfold Iv
 rw[hp,By,fD hF,AD]
 have h:=bC hF.uq hF.id hF.len (BO (j.map (wa attrs)) (M+1) 0) (rM (MX hF _ _) hF.len) _ 0 (by rw[rl])
 rw[List.take_zero,s8] at h
 have m:iter (λ(a:Int × (List AC))=>Iq (j.map (wa attrs)) (BO (j.map (wa attrs)) (M+1) 0) a.1 a.2) (0,BO (j.map (wa attrs)) (M+1) 0)=_:=h
 rw[m,GK]
end Go.Proofs.YtifgmfoihehlbaaGreatDoor.Al

set_option linter.unusedVariables false
set_option linter.unusedSimpArgs false
namespace Go.Proofs.YtifgmfoihehlbaaGreatDoor.Al
open Go.Sort
def E6:(Int→Bool)→List AC→Prop
 | _,[]=>True
 | S,z::r=>S z.Parent=true∧E6 (λi=>S i||(z.Item=i)) r
theorem E6.mono:∀ {l:List AC} {S T:Int→Bool},E6 S l→(∀i,S i=true→T i=true)→E6 T l
 | [],_,_,_,_=>trivial
 | z::r,S,T,h,j=>⟨j _ h.1,E6.mono h.2 λi m=>by
   simp only[rH] at m ⊢
   exact m.imp (j i) _root_.id⟩
theorem Yx:∀ {l m:List AC} {S:Int→Bool},E6 S l→E6 (λi=>S i||Bo l i) m→E6 S (l++m)
 | [],m,S,_,q=>q.mono λi j=>by simpa[Bo] using j
 | z::r,m,S,w,q=>⟨w.1,Yx w.2 (q.mono λi j=>by
   simp only[Bo,ts,rH,q8] at j ⊢
   rcases j with h | h | h
   ·exact .inl (.inl h)
   ·exact .inl (.inr h)
   ·exact .inr h)⟩
theorem e9{A} : ∀(n:Nat) (q:Int) (S:Int→Bool),S q=true→E6 S (BO A n q):=by
 intro n
 induction n with
 | zero=>intro q S _;trivial
 | succ n w=>
  intro q S j
  show E6 S ((BD A q).flatMap λx=>x::BO A n x.Item)
  have l:∀x∈BD A q,x.Parent=q:=λx B=>(HH.1 B).2
  revert l j
  generalize BD A q=c
  induction c generalizing S with
  | nil=>intro _ _;trivial
  | cons x r m=>
   intro j l
   rw[sC]
   refine Yx ⟨by rw[l x (rT ..)];exact j,w _ _ (by simp)⟩ (m _ (by simp[j]) λy C=>l y (rO _ C))
theorem E6.at:∀ {l:List AC} {S:Int→Bool},E6 S l→∀k (j:k<l.length),(S l[k].Parent||Bo (l.take k) l[k].Parent)=true
 | z::r,S,h,0,_=>by rw[List.getElem_cons_zero,h.1];rfl
 | z::r,S,h,k+1,j=>by
  have:=E6.at h.2 k (by simpa using j)
  rw[List.getElem_cons_succ,List.take_succ_cons]
  simp only[Bo,ts,rH,q8] at this ⊢
  rcases this with (h | h) | h
  ·exact .inl h
  ·exact .inr (.inl h)
  ·exact .inr (.inr h)
theorem dH{A}{d}{M}(h:Fo A d M):∀(n:Nat) (q:Int),M-d q<n→∀z∈A,(z.Parent=q∨Bo (BO A n q) z.Parent=true)→z∈BO A n q:=by
 intro n
 induction n with
 | zero=>intro q E;omega
 | succ n F=>
  intro q E z B hp
  unfold BO
  rw[tr]
  rcases hp with hp | hp
  ·exact⟨z,HH.2 ⟨B,hp⟩,rT ..⟩
  ·unfold Bo BO at hp
   rw[sj] at hp
   obtain⟨y,I,m⟩:=hp
   obtain⟨x,C,j⟩:=tr.1 I
   obtain⟨l,w⟩:=HH.1 C
   have hd:=h.rk x l
   rw[w] at hd
   have J:=h.top x l
   refine⟨x,C,rO _ (F x.Item (by omega) z B ?_)⟩
   rcases ri.1 j with rfl | j
   ·exact .inl (by simp at m;exact m.symm)
   ·refine .inr ?_
    unfold Bo
    rw[sj]
    exact⟨y,j,m⟩
theorem po{A:List AC}{d:Int→Nat}{M:Nat}(h:Fo A d M):O5 (BO A (M+1) 0++Br A (BO A (M+1) 0))=some ((BO A (M+1) 0).length:Int):=by
 have hlo:(Br A (BO A (M+1) 0)).length≤1048576:=by
  unfold Br
  refine rM (sR ..) ?_
  rw[(Gb _ _).length_eq];exact h.len
 have hlp:=rM (MX h (M+1) 0) h.len
 have hok:=e9 (A:=A) (M+1) 0 (λi=>decide (i=0)) (by simp)
 have hout:∀z∈Br A (BO A (M+1) 0),((z.Parent=0)||Bo (BO A (M+1) 0) z.Parent)=false:=λz hz=>by
  obtain⟨hzA,hzn⟩:=Jj.1 hz
  cases hb:((z.Parent=0)||Bo (BO A (M+1) 0) z.Parent)
  ·rfl
  ·have:=dH h (M+1) 0 (by omega) z hzA (by simpa using hb)
   have h2:Bo (BO A (M+1) 0) z.Item=true:=by
    unfold Bo;rw[sj];exact⟨z,this,by simp⟩
   rw[hzn] at h2;cases h2
 generalize BO A (M+1) 0=p at *
 generalize Br A p=o at *
 have key:=H6 (f:=λ(a:Int × (List (Int × Bool)))=>Ja (p++o) a.1 a.2) (p++o).length (λk s=>s.1=(k:Int)∧k≤p.length∧∀i,BF s.2 i=((i=0)||Bo (p.take k) i))
  (λb=>A7 (some b) (λ(_:Unit)=>some ((p++o).length:Int))=some (p.length:Int))
  (λk s hk hs=>by
   obtain⟨x,m⟩:=s
   obtain⟨rfl,hkp,hsn⟩:=hs
   have hkl:k<(p++o).length:=hk
   have hlen:(p++o).length≤2097152:=by simp;omega
   have hstep:Ja (p++o) (k:Int) m=if(!(((p++o)[k].Parent=0)||Bo (p.take k) (p++o)[k].Parent))=true then some (.inr (.ext (k:Int))) else some (.inl (((k+1:Nat):Int),Ah m (p++o)[k].Item true)):=by
    unfold Ja
    rw[qy (by rw[q8];exact_mod_cast hkl),Dz hkl,AD,show(AU m (p++o)[k].Parent).getD false=_ from hsn _,Ar (by omega),AD]
   by_cases hkp2:k<p.length
   ·left
    have hget:(p++o)[k]=p[k]:=List.getElem_append_left hkp2
    have h1:=hok.at k hkp2
    rw[hget] at hstep
    rw[h1] at hstep
    refine⟨(((k+1:Nat):Int),Ah m p[k].Item true),by exact hstep,rfl,by omega,λi=>?_⟩
    show BF (Ah m p[k].Item true) i=_
    rw[J8,show BF m i=_ from hsn i,O6 hkp2,rN p k hkp2,Wg]
    have:Bo [p[k]] i=decide (i=p[k].Item):=by
     unfold Bo;simp only[ts,List.any_nil,ud]
     rw[tZ];exact⟨λe=>e.symm,λe=>e.symm⟩
    rw[this]
    cases decide (i=p[k].Item)<;>cases decide (i=0)<;>simp
   ·right
    obtain rfl:k=p.length:=by omega
    have hget:(p++o)[p.length]∈o:=by
     rw[List.getElem_append_right (q9 _)];exact rm _
    have h1:=hout _ hget
    rw[List.take_length,h1] at hstep
    exact⟨_,hstep,rfl⟩)
  (λs hs=>by
   obtain⟨x,m⟩:=s
   obtain⟨rfl,hkp,hsn⟩:=hs
   refine⟨.nrm (),?_,?_⟩
   ·show Ja (p++o) ((p++o).length:Int) m=_
    unfold Ja
    rw[qx (by simp)]
   ·rw[Pk]
    have:(p++o).length=p.length:=by rw[rj] at hkp ⊢;omega
    rw[this])
  (s:=(0,Ah ([]:List (Int × Bool)) 0 true)) ⟨rfl,si _,λi=>by rw[J8];simp[BF,AU,Bo]⟩
 obtain⟨b,h1,h2⟩:=key
 unfold O5
 rw[h1];exact h2
theorem oa{l:List Aw}(h:QZ l=0):∀x∈l,FW x=0:=by
 intro x A
 obtain⟨k,w,rfl⟩:=sA.1 A
 unfold QZ at h
 cases q:(List.range l.length).findSome? (LQ l) with
 | none=>
  rw[sH] at q
  have:=q k (rV.2 w)
  unfold LQ at this
  rw[rN l k w] at this
  by_cases e:FW l[k]=0
  ·exact e
  ·rw[qy e] at this;cases this
 | some r=>
  rw[q] at h
  simp only[sW] at h
  obtain⟨j,_,m⟩:=sF q
  unfold LQ at m
  split at m
  ·rename_i e;cases m;exact absurd h e
  ·split at m
   ·cases m;exact absurd h (by decide)
   ·cases m
theorem oP{μ}(h:∀x,x.Place.length+x.Name.length+x.Value.length+1≤μ x):∀(l:List Aw),(l.map μ).sum≤1048576→Iz l∧l.length≤1048576:=by
 have key:∀l:List Aw,l.length≤(l.map μ).sum∧∀x∈l,μ x≤(l.map μ).sum:=by
  intro l
  induction l with
  | nil=>exact⟨q9 _,λx j=>by simp at j⟩
  | cons y l m=>
   have w:=h y
   rw[rc,sk,rp]
   refine⟨by omega,λx j=>?_⟩
   rcases ri.1 j with rfl | j
   ·omega
   ·have:=m.2 x j;omega
 intro l A
 obtain⟨B,q⟩:=key l
 refine⟨λx j=>?_,by omega⟩
 have C:=q x j
 have E:=h x
 exact⟨by omega,by omega,by omega⟩
end Go.Proofs.YtifgmfoihehlbaaGreatDoor.Al

set_option linter.unusedVariables false
set_option linter.unusedSimpArgs false
namespace Go.Proofs.YtifgmfoihehlbaaGreatDoor.Al
def CQ(f:List AN):List Int:=(f.filter λx=>!(x.Ref=0)).map (·.Ref)
def ER(l:List An):List Int:=(l.filter λx=>!(x.Ref=0)).map (·.Ref)
theorem RY(x:AN) r:CQ (x::r)=(if x.Ref=0 then [] else [x.Ref])++CQ r:=by
 unfold CQ
 rw[tb]
 by_cases h:x.Ref=0<;>simp[h]
theorem VV(x:An) r:ER (x::r)=(if x.Ref=0 then [] else [x.Ref])++ER r:=by
 unfold ER
 rw[tb]
 by_cases h:x.Ref=0<;>simp[h]
theorem X3(f:List AN)(q:f.length≤1073741824):iter (λ(a:Int × (List Int))=>FZ f a.1 a.2) (0,[])=some (CQ f):=by
 have h:=Im (f:=λ(a:Int × (List Int))=>FZ f a.1 a.2) f (λ(c:List Int) i=>((i:Int),c)) (λr c=>c++CQ r) (λi c=>c.length≤i)
  (λi c l m=>by
   left
   show ∃w,FZ f (i:Int) c=_∧_
   unfold FZ
   rw[qy (by simpa using l),Ac l,AD,Ar (by omega)]
   by_cases j:f[i]!.Ref=0
   ·refine⟨c,by rw[q7 j];rfl,by omega,?_⟩
    rw[RY,qy j,sO]
   ·refine⟨c++[f[i]!.Ref],by rw[qz j,qy (by decide),Jr (by omega)];rfl,by simp;omega,?_⟩
    rw[RY,qx j,sJ])
  (λc m=>by
   show FZ f (f.length:Int) c=_
   unfold FZ
   rw[qx (by simp)]
   simp[CQ]) [] (by simp) ((0:Int),[]) rfl
 simpa using h
theorem bQ(f:List AN)(j:f.length≤1073741824):Jp f=some (CQ f):=by
 unfold Jp
 rw[X3 f j,AD]
theorem WW(n:AO)(l:n.Flow.length≤1073741824)(hc:n.Grid.Cells.length≤1073741824):Gf n=some (CQ n.Flow++ER n.Grid.Cells):=by
 have w:(CQ n.Flow).length≤1073741824:=by
  unfold CQ;rw[rh];exact rM (sR ..) l
 unfold Gf Jt
 rw[XT,X3 _ l,AD,AD]
 have h:=Im (f:=λ(a:Int × (List Int))=>EX n a.1 a.2) n.Grid.Cells (λ(c:List Int) i=>((i:Int),c)) (λr c=>c++ER r) (λi c=>c.length≤1073741824+i)
  (λi c m hc=>by
   left
   show ∃A,EX n (i:Int) c=_∧_
   unfold EX
   rw[qy (by simpa using m),Ac m,AD,Ar (by omega)]
   by_cases j:n.Grid.Cells[i]!.Ref=0
   ·refine⟨c,by rw[q7 j];rfl,by omega,?_⟩
    rw[VV,qy j,sO]
   ·refine⟨c++[n.Grid.Cells[i]!.Ref],by rw[qz j,qy (by decide),Jr (by omega)];rfl,by simp;omega,?_⟩
    rw[VV,qx j,sJ])
  (λc hc=>by
   show EX n (n.Grid.Cells.length:Int) c=_
   unfold EX
   rw[qx (by simp)]
   simp[ER]) (CQ n.Flow) (by omega) ((0:Int),CQ n.Flow) rfl
 have q:iter (λ(a:Int × (List Int))=>EX n a.1 a.2) (0,CQ n.Flow)=_:=h
 rw[q]
 rfl
theorem UY{n:Nat}{f:Int→Option (Int ⊕ Ax Unit Int)}{g:Nat→Option Int}(h:iter f 0=some (Df ((List.range n).findSome? g)))(hg:∀k,k<n→g k≠some 0){rest:Option Int}(j:(A7 (iter f 0) λ(_:Unit)=>rest)=some 0):(∀k,k<n→g k=none)∧rest=some 0:=by
 rw[h] at j
 cases l:(List.range n).findSome? g with
 | some e=>
  rw[l] at j
  have j:(some e:Option Int)=some 0:=j
  injection j with j
  obtain⟨k,q,m⟩:=sF l
  rw[j] at m
  exact absurd m (hg k (rV.1 q))
 | none=>
  rw[l] at j
  refine⟨λk q=>?_,j⟩
  rw[sH] at l
  exact l k (rV.2 q)
theorem oT{d:AR}{kind:Int}{l:List Int}(B:d.Nodes.length≤1048576)(C:Gu d.Nodes)(J:l.length≤2097152)(A:EV d kind l=some 0):∀id∈l,∃k,B5 d.Nodes id=some k:=by
 let g:Nat→Option Int:=λk=>match B5 d.Nodes l[k]! with | none=>some 7 | some j=>if KD kind d.Nodes[j]!.Kind=true then none else some 8
 have hit:iter (λ(a:Int)=>CU d kind l a) 0=some (Df ((List.range l.length).findSome? g)):=by
  refine B2 g (λk m=>?_) (by unfold CU;rw[qx (by simp)])
  unfold CU
  obtain⟨i,E,w⟩:=Lv d l[k]! B C
  rw[qy (by simpa using m),Ac m,AD,E,By]
  simp only[g]
  cases q:B5 d.Nodes l[k]! with
  | none=>rfl
  | some j=>
   obtain rfl:=w j q
   obtain⟨F,_⟩:=EF q
   simp only[Option.isSome_some,tL,sq,tX]
   rw[Ac F,AD,Pt,AD]
   cases KD kind d.Nodes[i]!.Kind with
   | false=>rfl
   | true=>rw[qx (by decide),Ar (by omega)];rfl
 unfold EV at A
 obtain⟨I,_⟩:=UY hit (λk m e=>by
  simp only[g] at e
  split at e
  ·cases e
  ·split at e<;>cases e) A
 intro id A3
 obtain⟨k,m,rfl⟩:=sA.1 A3
 have:=I k m
 simp only[g] at this
 rw[rN l k m] at this
 cases q:B5 d.Nodes l[k] with
 | none=>rw[q] at this;cases this
 | some j=>exact⟨j,rfl⟩
theorem UZ(n:AO)(h:Fj n):(CQ n.Flow++ER n.Grid.Cells).length≤2097152:=by
 have j:=h.ok.fl
 have l:=h.ok.gr.1
 have m:(CQ n.Flow).length≤n.Flow.length:=by unfold CQ;rw[rh];exact sR ..
 have q:(ER n.Grid.Cells).length≤n.Grid.Cells.length:=by unfold ER;rw[rh];exact sR ..
 rw[rj];omega
theorem jn{d:AR}(h:Id d)(w:Em d=some 0):∀k,k<d.Nodes.length→∀id∈CQ d.Nodes[k]!.Flow++ER d.Nodes[k]!.Grid.Cells,∃j,B5 d.Nodes id=some j:=by
 obtain⟨I,_⟩:=NP h w
 obtain⟨J,M⟩:=h
 unfold Em at w
 split at w
 ·cases w
 let C:Nat→Option Int:=λk=>if(CZ d.Nodes[k]!).getD 0≠0 then some ((CZ d.Nodes[k]!).getD 0) else if(k=0∧d.Nodes[k]!.ID≠1)∨(0<k∧d.Nodes[k]!.ID≤d.Nodes[k-1]!.ID) then some 5 else none
 have E:iter (λ(a:Int)=>CL d a) 0=some (Df ((List.range d.Nodes.length).findSome? C)):=by
  refine B2 C (λk q=>?_) (by unfold CL;rw[qx (by simp)])
  unfold CL
  obtain⟨e,A,_⟩:=Qm _ (M _ (Bm q))
  show _=CJ k (C k)
  simp only[C]
  rw[qy (by simpa using q),Ac q,AD,A,AD]
  show _=CJ k (if e≠0 then some e else _)
  by_cases l:e=0
  ·rw[qx (De l),qx (by simpa using l)]
   by_cases T:k=0
   ·subst T
    rw[q7 (show((0:Nat):Int)=0 from rfl),qz (show ¬ (0:Int)<((0:Nat):Int) by omega)]
    by_cases A3:d.Nodes[0]!.ID=1
    ·rw[q7 A3,qx (show ¬ ((0=0∧d.Nodes[0]!.ID≠1)∨(0<0∧d.Nodes[0]!.ID≤d.Nodes[0-1]!.ID)) by rintro(⟨_,b⟩ | ⟨a,_⟩);exact b A3;omega)]
     rfl
    ·rw[qz A3,qy (show((0=0∧d.Nodes[0]!.ID≠1)∨(0<0∧d.Nodes[0]!.ID≤d.Nodes[0-1]!.ID)) from .inl ⟨rfl,A3⟩)]
     rfl
   ·have U:0<k:=by omega
    rw[qz (show ¬ ((k:Int)=0) by omega),q7 (show(0:Int)<(k:Int) by omega)]
    show(AB (gd true (AZ .i64 ((k:Int)-1))) λ(O:Int)=>AB (gd true (AL d.Nodes O)) λ(V:AO)=>_)=_
    rw[At,FN U (by omega),AD,At,Ac (show k-1<d.Nodes.length by omega),AD,Ar (by omega)]
    by_cases A3:d.Nodes[k]!.ID≤d.Nodes[k-1]!.ID
    ·rw[q7 A3,qy (show((k=0∧d.Nodes[k]!.ID≠1)∨(0<k∧d.Nodes[k]!.ID≤d.Nodes[k-1]!.ID)) from .inr ⟨U,A3⟩)]
     rfl
    ·rw[qz A3,qx (show ¬ ((k=0∧d.Nodes[k]!.ID≠1)∨(0<k∧d.Nodes[k]!.ID≤d.Nodes[k-1]!.ID)) by rintro(⟨a,_⟩ | ⟨_,b⟩);exact T a;exact A3 b)]
     rfl
  ·rw[qy (Cd l),qy l]
   rfl
 obtain⟨_,w⟩:=UY E (λk q e=>by
  simp only[C] at e
  split at e
  ·rename_i B;injection e with e;exact B e
  ·split at e
   ·injection e with e;omega
   ·cases e) w
 let g:Nat→Option Int:=λk=>if(EV d d.Nodes[k]!.Kind (CQ d.Nodes[k]!.Flow++ER d.Nodes[k]!.Grid.Cells)).getD 0≠0 then some ((EV d d.Nodes[k]!.Kind (CQ d.Nodes[k]!.Flow++ER d.Nodes[k]!.Grid.Cells)).getD 0) else none
 have hit:iter (λ(a:Int)=>Ch d a) 0=some (Df ((List.range d.Nodes.length).findSome? g)):=by
  refine B2 g (λk q=>?_) (by unfold Ch;rw[qx (by simp)])
  unfold Ch
  have m:=M _ (Bm q)
  have X:=m.ok.fl
  have Z:=m.ok.gr.1
  obtain⟨e,A,_⟩:=UO d d.Nodes[k]!.Kind _ J I (UZ _ m)
  rw[qy (by simpa using q),Ac q,AD,WW _ (by omega) (by omega),AD,A,AD]
  simp only[g]
  rw[A]
  simp only[sW]
  by_cases l:e=0
  ·rw[qx (De l),Ar (by omega),qx (by simpa using l)];rfl
  ·rw[qy (Cd l),qy l];rfl
 obtain⟨h1,_⟩:=UY hit (λk q e=>by
  simp only[g] at e
  split at e
  ·rename_i B;injection e with e;exact B e
  ·cases e) w
 intro k q id A3
 have m:=M _ (Bm q)
 obtain⟨e,A,_⟩:=UO d d.Nodes[k]!.Kind _ J I (UZ _ m)
 have F:=h1 k q
 simp only[g] at F
 rw[A] at F
 simp only[sW] at F
 split at F
 ·cases F
 ·rename_i l
  have l:e=0:=by simpa using l
  subst l
  exact oT J I (UZ _ m) A id A3
end Go.Proofs.YtifgmfoihehlbaaGreatDoor.Al

set_option linter.unusedVariables false
set_option linter.unusedSimpArgs false
namespace Go.Proofs.YtifgmfoihehlbaaGreatDoor.Al
open Go.Sort
end Go.Proofs.YtifgmfoihehlbaaGreatDoor.Al

set_option linter.unusedVariables false
set_option linter.unusedSimpArgs false
namespace Go.Proofs.YtifgmfoihehlbaaGreatDoor.Al
open Go.Sort
end Go.Proofs.YtifgmfoihehlbaaGreatDoor.Al

set_option linter.unusedVariables false
set_option linter.unusedSimpArgs false
namespace Go.Proofs.YtifgmfoihehlbaaGreatDoor.Al
open Go.Sort
end Go.Proofs.YtifgmfoihehlbaaGreatDoor.Al

set_option linter.unusedVariables false
set_option linter.unusedSimpArgs false
namespace Go.Proofs.YtifgmfoihehlbaaGreatDoor.Al
open Go.Sort
end Go.Proofs.YtifgmfoihehlbaaGreatDoor.Al

set_option linter.unusedVariables false
set_option linter.unusedSimpArgs false
namespace Go.Proofs.YtifgmfoihehlbaaGreatDoor.Al
open Go.Sort
end Go.Proofs.YtifgmfoihehlbaaGreatDoor.Al

set_option linter.unusedVariables false
set_option linter.unusedSimpArgs false
namespace Go.Proofs.YtifgmfoihehlbaaGreatDoor.Al
open Go.Sort
end Go.Proofs.YtifgmfoihehlbaaGreatDoor.Al

set_option linter.unusedVariables false
set_option linter.unusedSimpArgs false
namespace Go.Proofs.YtifgmfoihehlbaaGreatDoor.Al
open Go.Sort
end Go.Proofs.YtifgmfoihehlbaaGreatDoor.Al

set_option linter.unusedVariables false
set_option linter.unusedSimpArgs false
namespace Go.Proofs.YtifgmfoihehlbaaGreatDoor.Al
open Go.Sort
end Go.Proofs.YtifgmfoihehlbaaGreatDoor.Al

set_option linter.unusedVariables false
set_option linter.unusedSimpArgs false
namespace Go.Proofs.YtifgmfoihehlbaaGreatDoor.Al
open Go.Sort
end Go.Proofs.YtifgmfoihehlbaaGreatDoor.Al

set_option linter.unusedVariables false
set_option linter.unusedSimpArgs false
namespace Go.Proofs.YtifgmfoihehlbaaGreatDoor.Al
open Go.Sort
end Go.Proofs.YtifgmfoihehlbaaGreatDoor.Al

set_option linter.unusedVariables false
set_option linter.unusedSimpArgs false
namespace Go.Proofs.YtifgmfoihehlbaaGreatDoor.Al
open Go.Sort
end Go.Proofs.YtifgmfoihehlbaaGreatDoor.Al

set_option linter.unusedVariables false
set_option linter.unusedSimpArgs false
namespace Go.Proofs.YtifgmfoihehlbaaGreatDoor.Al
open Go.Sort
end Go.Proofs.YtifgmfoihehlbaaGreatDoor.Al

set_option linter.unusedVariables false
set_option linter.unusedSimpArgs false
namespace Go.Proofs.YtifgmfoihehlbaaGreatDoor.Al
open Go.Sort
end Go.Proofs.YtifgmfoihehlbaaGreatDoor.Al

namespace Go.Proofs.YtifgmfoihehlbaaGreatDoor.Al
end Go.Proofs.YtifgmfoihehlbaaGreatDoor.Al

set_option linter.unusedVariables false
set_option linter.unusedSimpArgs false
namespace Go.Proofs.YtifgmfoihehlbaaGreatDoor.Al
open Go.Sort
end Go.Proofs.YtifgmfoihehlbaaGreatDoor.Al

set_option linter.unusedVariables false
set_option linter.unusedSimpArgs false
namespace Go.Proofs.YtifgmfoihehlbaaGreatDoor.Al
open Go.Sort
end Go.Proofs.YtifgmfoihehlbaaGreatDoor.Al

set_option linter.unusedVariables false
set_option linter.unusedSimpArgs false
namespace Go.Proofs.YtifgmfoihehlbaaGreatDoor.Al
open Go.Sort
end Go.Proofs.YtifgmfoihehlbaaGreatDoor.Al

set_option linter.unusedVariables false
set_option linter.unusedSimpArgs false
namespace Go.Proofs.YtifgmfoihehlbaaGreatDoor.Al
open Go.Sort
end Go.Proofs.YtifgmfoihehlbaaGreatDoor.Al

set_option linter.unusedVariables false
set_option linter.unusedSimpArgs false
namespace Go.Proofs.YtifgmfoihehlbaaGreatDoor.Al
open Go.Sort
end Go.Proofs.YtifgmfoihehlbaaGreatDoor.Al

set_option linter.unusedVariables false
set_option linter.unusedSimpArgs false
namespace Go.Proofs.YtifgmfoihehlbaaGreatDoor.Al
open Go.Sort
theorem WO{l}{i} : Bo l i=true↔∃x∈l,x.Item=i:=by
 unfold Bo
 rw[sj]
 simp
end Go.Proofs.YtifgmfoihehlbaaGreatDoor.Al

set_option linter.unusedVariables false
set_option linter.unusedSimpArgs false
namespace Go.Proofs.YtifgmfoihehlbaaGreatDoor.Al
open Go.Sort
end Go.Proofs.YtifgmfoihehlbaaGreatDoor.Al

set_option linter.unusedVariables false
set_option linter.unusedSimpArgs false
namespace Go.Proofs.YtifgmfoihehlbaaGreatDoor.Al
open Go.Sort
theorem ZD{A}{d}{M}(h:Fo A d M):(∀z,z∈BO A (M+1) 0++Br A (BO A (M+1) 0)↔z∈A)∧Uq (BO A (M+1) 0++Br A (BO A (M+1) 0)):=by
 have q:∀z,z∈BO A (M+1) 0++Br A (BO A (M+1) 0)→z∈A:=λz j=>by
  rcases sU.1 j with j | j
  ·exact(LW _ _ _ j).1
  ·exact(Jj.1 j).1
 refine⟨λz=>⟨q z,λj=>?_⟩,?_⟩
 ·rw[sU,Jj]
  by_cases l:Bo (BO A (M+1) 0) z.Item=true
  ·obtain⟨y,m,e⟩:=WO.1 l
   left
   rw[← h.uq.eq (LW _ _ _ m).1 j e];exact m
  ·exact .inr ⟨j,by simpa using l⟩
 ·unfold Uq
  rw[tT,tj,List.pairwise_append]
  refine⟨XP h.uq h.rk _ _,(QJ h.uq _).imp λh=>by unfold FQ at h;simp at h;omega,λa w b B e=>?_⟩
  have:=(Jj.1 B).2
  have C:Bo (BO A (M+1) 0) b.Item=true:=WO.2 ⟨a,w,e⟩
  rw[C] at this;cases this
theorem Yt{A:List AC}{d}{M}(h:Fo A d M):(BO A (M+1) 0++Br A (BO A (M+1) 0)).length≤A.length:=by
 obtain⟨l,j⟩:=ZD h
 refine Yo _ _ ?_ λz m=>(l z).1 m
 unfold Uq at j
 rwa [tT,tj] at j
end Go.Proofs.YtifgmfoihehlbaaGreatDoor.Al

set_option linter.unusedVariables false
set_option linter.unusedSimpArgs false
namespace Go.Proofs.YtifgmfoihehlbaaGreatDoor.Al
theorem Nt{c r}(h:gd c (some false)=some r):r=false:=by
 cases c
 ·rw[DV] at h;cases h;rfl
 ·rw[At] at h;cases h;rfl
theorem cF{n:AO}(h:Fj n)(M:Iz n.Draw)(j:CZ n=some 0):QZ n.Draw=0:=by
 have O:=h.ok.dr
 unfold CZ at j
 split at j
 ·cases j
 split at j
 ·cases j
 obtain⟨e,_,j⟩:=BQ j
 split at j
 ·rename_i c;injection j with j;rw[j] at c;simp at c
 by_cases m:n.Kind=8∨n.Kind=9∨n.Kind=10
 ·have T:Ds n.Kind=some false:=by unfold Ds;rcases m with e | e | e<;>rw[e]<;>rfl
  have U:F6 n.Kind=some false:=by unfold F6;rcases m with e | e | e<;>rw[e]<;>rfl
  have hg:FS n.Kind=some false:=by unfold FS;rcases m with e | e | e<;>rw[e]<;>rfl
  obtain⟨V,A,j⟩:=BQ j
  rw[T] at A;cases A
  obtain⟨X,B,j⟩:=BQ j
  rw[U] at B
  obtain rfl:=Nt B
  obtain⟨g,C,j⟩:=BQ j
  rw[hg] at C;cases C
  obtain⟨F,_,j⟩:=BQ j
  split at j
  ·cases j
  rw[qx (show ¬ (false||false)=true by decide),qx (by decide)] at j
  obtain⟨Z,I,j⟩:=BQ j
  injection j with j
  rw[mf _ M (by omega),j] at I
  injection I
 ·have hd:Fk n.Kind=some false:=by
   unfold Fk
   rw[qz (λe=>m (.inl e)),qz (λe=>m (.inr (.inl e))),qz (λe=>m (.inr (.inr e)))]
   rfl
  obtain⟨V,A,j⟩:=BQ j
  obtain⟨X,B,j⟩:=BQ j
  obtain⟨g,C,j⟩:=BQ j
  obtain⟨F,l,j⟩:=BQ j
  rw[hd] at l
  split at j
  ·cases j
  rename_i E
  have E:F=false:=by simpa using E
  subst E
  have q:decide (0<(n.Draw.length:Int))=false:=by
   split at l
   ·split at l
    ·obtain⟨r7,_,l⟩:=BQ l
     obtain⟨J,w,l⟩:=BQ l
     obtain rfl:=Nt w
     simp only[rE,sw,tG,rq] at l
     exact l.2
    ·obtain⟨J,w,l⟩:=BQ l
     obtain rfl:=Nt w
     simp only[rE,sw,tG,rq] at l
     exact l.2
   ·obtain⟨J,w,l⟩:=BQ l
    obtain rfl:=Nt w
    simp only[rE,sw,tG,rq] at l
    exact l.2
  have:n.Draw=[]:=by
   rw[sP] at q
   exact ss.1 (by omega)
  rw[this];rfl
theorem oF{n:AO}(h:Fj n)(j:CZ n=some 0):n.Grid.Cells=[]∨Hj n.Grid=0:=by
 unfold CZ at j
 split at j
 ·cases j
 split at j
 ·cases j
 obtain⟨e,_,j⟩:=BQ j
 split at j
 ·rename_i c;injection j with j;rw[j] at c;simp at c
 by_cases m:n.Kind=2∨n.Kind=6
 ·right
  have F:Ds n.Kind=some false:=by unfold Ds;rcases m with e | e<;>rw[e]<;>rfl
  have I:F6 n.Kind=some false:=by unfold F6;rcases m with e | e<;>rw[e]<;>rfl
  have hg:FS n.Kind=some true:=by unfold FS;rcases m with e | e<;>rw[e]<;>rfl
  obtain⟨J,w,j⟩:=BQ j
  rw[F] at w;cases w
  obtain⟨M,A,j⟩:=BQ j
  rw[I] at A
  obtain rfl:=Nt A
  obtain⟨g,q,j⟩:=BQ j
  rw[hg] at q;cases q
  obtain⟨C,_,j⟩:=BQ j
  split at j
  ·cases j
  rw[qx (show ¬ (false||false)=true by decide),qy rfl] at j
  obtain⟨O,E,j⟩:=BQ j
  split at j
  ·rename_i c;injection j with j;rw[j] at c;simp at c
  ·rename_i c
   have T:O=0:=by simpa using c
   rw[Xp _ h.gd,T] at E
   injection E
 ·left
  have hg:FS n.Kind=some false:=by
   unfold FS
   rw[qz (λe=>m (.inl e)),qz (λe=>m (.inr e))]
   rfl
  obtain⟨J,w,j⟩:=BQ j
  obtain⟨M,A,j⟩:=BQ j
  obtain⟨g,q,j⟩:=BQ j
  rw[hg] at q;cases q
  obtain⟨C,l,j⟩:=BQ j
  split at j
  ·cases j
  rename_i B
  have B:C=false:=by simpa using B
  subst B
  split at l
  ·rw[qy (by decide),Qq _ _ h.ok.gr] at l
   obtain⟨r7,U,l⟩:=BQ l
   obtain⟨V,X,l⟩:=BQ l
   cases U
   simp only[rE,sw,tG,rq,Bool.not_eq_false',q8] at l
   rw[l.1.2]
  ·rename_i Z
   obtain⟨V,X,l⟩:=BQ l
   simp only[rE,sw,ud] at l
   exfalso
   apply Z
   rw[l.1]
   rfl
theorem ev{g:Av}(h:Hj g=0):∀c∈g.Cells,c.Row≤9223372036854775807∧c.Col≤9223372036854775807:=by
 obtain⟨A,_,_⟩:=VZ h
 unfold Hj at h
 rw[qx (by simpa using A)] at h
 have E:JL g.Rows g.Cols false g.Cells=0:=by
  apply rY
  intro B
  rw[qy B] at h
  exact B h
 intro c F
 obtain⟨k,C,rfl⟩:=sA.1 F
 have m:=SM E (λk _ j=>by
  unfold IF at j
  split at j
  ·rename_i q
   injection j with j
   exact q j
  ·split at j
   ·cases j
   ·cases j) k C
 unfold IF at m
 split at m
 ·cases m
 ·rename_i l
  have l:L1 g.Rows g.Cols false g.Cells[k]! = 0:=by simpa using l
  rw[rN g.Cells k C] at l
  unfold L1 at l
  split at l
  ·cases l
  ·rename_i w
   have w:=rg.1 w
   unfold Hz at w
   unfold FB at A
   omega
theorem OZ{n:AO}(h:Fj n)(q:CZ n=some 0):∀c∈n.Grid.Cells,∃r,F9 n.Grid c.Row c.Col=some r∧MH n.Grid c.Row c.Col=some r:=by
 intro c l
 rcases oF h q with j | j
 ·rw[j] at l;cases l
 ·obtain⟨w,_,g3⟩:=VZ j
  have m:c.Row≤9223372036854775807∧c.Col≤9223372036854775807:=ev j c l
  obtain⟨o,A,o2⟩:=px n.Grid c.Row c.Col w g3 h.ok.gr.2.1 m.1 m.2
  unfold F9 MH
  rw[A,o2]
  cases o with
  | none=>exact⟨_,rfl,rfl⟩
  | some r=>exact⟨_,rfl,rfl⟩
end Go.Proofs.YtifgmfoihehlbaaGreatDoor.Al

set_option linter.unusedVariables false
set_option linter.unusedSimpArgs false
namespace Go.Proofs.YtifgmfoihehlbaaGreatDoor.Al
open Go
def IQ:List UInt8:=[110,111,100,101]
def I7(d:AR)(s:List UInt8):Option Int:=match B5 d.Nodes (Ec s) with | some k=>if d.Nodes[k]!.Kind=1 then some (Ec s) else none | none=>none
def Eg(d:AR)(x:AC):Option Int:=I7 d (Cw x.Attrs IQ)
def Nk(d:AR):Prop:=∀k,k<d.Nodes.length→1≤d.Nodes[k]!.ID∧d.Nodes[k]!.ID≤1073741824
theorem Qy{d:AR}(h:Nk d){id}{k}(j:B5 d.Nodes id=some k):1≤id∧id≤1073741824:=by
 obtain⟨l,m⟩:=EF j
 rw[← m];exact h k l
theorem oQ{l}(h:CI l false=0) n:(Cw l n).length≤1073741824:=by
 rw[V9]
 cases m:BB l n with
 | none=>simp
 | some x=>
  have:=((OT l false).1 h).2 x (N6 m).2
  rcases this.2 with j | j
  ·unfold Du at j
   simp only[rF,q8] at j
   show x.Value.length≤_
   omega
  ·exact absurd j.1 (by decide)
theorem lv{d:AR}(A3:Nk d)(hm:d.Nodes.length≤1048576)(hs:Gu d.Nodes){l:List AC}{k:Nat}(hk:k<l.length)(hl:l.length≤1048576)(ha:CI l[k]!.Attrs false=0∧l[k]!.Attrs.length≤1048576)(out:List Int)(ho:out.length≤1048576) :
  IS d l (k:Int) out=some (.inl (((k+1:Nat):Int),out++(Eg d l[k]!).toList)):=by
 unfold IS
 rw[qy (by simpa using hk),Ac hk,AD,Ar (by omega),N4 _ _ (by omega),AD]
 unfold Eg
 rw[show([110,111,100,101]:List UInt8)=IQ from rfl]
 have hlen:=oQ ha.1 IQ
 generalize Cw l[k]!.Attrs IQ=s at *
 have hd:∀n,Ec s=n→∀j,B5 d.Nodes n=some j→Lib.atoiAll s=.ok n∧Lib.itoa n=s:=λn hn j hj=>by
  obtain⟨h1,h2⟩:=Qy A3 hj
  exact(U0 s n h1 h2).2 hn
 have hnone:(∀j,B5 d.Nodes (Ec s)=some j→False)→I7 d s=none:=λh=>by
  unfold I7
  cases hf:B5 d.Nodes (Ec s) with
  | none=>rfl
  | some j=>exact(h j hf).elim
 unfold RG atoiS
 rw[qy (by omega)]
 rcases hA:Lib.atoiAll s with v | _ | _
 ·have hb:=Lib.atoiAll_bounds hA
  simp only[By]
  unfold strconv_Itoa itoaS
  rw[qy hb]
  simp only[tL,show((false==false)=true) from rfl,At,AD,sN]
  by_cases hi:Lib.itoa v=s
  ·rw[q7 hi,qx (by decide)]
   obtain⟨i,f1,f2⟩:=Lv d v hm hs
   rw[f1,By]
   cases hf:B5 d.Nodes v with
   | none=>
    have e:=hnone λj hj=>by
     have h1:=(hd _ rfl j hj).1
     rw[hA] at h1
     injection h1 with h1
     rw[← h1,hf] at hj;cases hj
    rw[e]
    simp[DV,AD]
   | some j=>
    obtain rfl:=f2 j hf
    obtain⟨hj,_⟩:=EF hf
    obtain⟨r1,r2⟩:=Qy A3 hf
    have hn:=(U0 s v r1 r2).1 ⟨hA,hi⟩
    unfold I7
    rw[hn,hf]
    simp only[Option.isSome_some,sE,At,rq]
    rw[Ac hj,AD]
    by_cases hk1:d.Nodes[i]!.Kind=1
    ·rw[qy (by simpa using hk1),qy hk1,Jr (by omega)]
     rfl
    ·rw[qx (by simpa using hk1),qx hk1]
     simp[AD]
  ·rw[qz hi,qy (by decide)]
   have e:=hnone λj hj=>by
    obtain⟨h1,h2⟩:=hd _ rfl j hj
    rw[hA] at h1
    injection h1 with h1
    rw[← h1] at h2
    exact hi h2
   rw[e]
   simp[AD]
 ·have e:=hnone λj hj=>by have:=(hd _ rfl j hj).1;rw[hA] at this;cases this
  rw[e]
  simp[By,AD,DV]
 ·have e:=hnone λj hj=>by have:=(hd _ rfl j hj).1;rw[hA] at this;cases this
  rw[e]
  simp[By,AD,DV]
theorem jy{d:AR}(A3:Nk d)(m:d.Nodes.length≤1048576)(q:Gu d.Nodes)(l:List AC)(w:l.length≤1048576)(A:∀x∈l,CI x.Attrs false=0∧x.Attrs.length≤1048576) :
  iter (λ(a:Int × (List Int))=>IS d l a.1 a.2) (0,[])=some (l.filterMap (Eg d)):=by
 have h:=Im (f:=λ(a:Int × (List Int))=>IS d l a.1 a.2) l (λ(c:List Int) i=>((i:Int),c)) (λr c=>c++r.filterMap (Eg d)) (λi c=>c.length≤i)
  (λi c j B=>by
   left
   refine⟨c++(Eg d l[i]!).toList,lv A3 m q j w (A _ (Bm j)) c (by omega),?_,?_⟩
   ·rw[rj]
    have:(Eg d l[i]!).toList.length≤1:=by cases Eg d l[i]!<;>simp
    omega
   ·rw[uU]
    cases Eg d l[i]!<;>simp)
  (λc B=>by
   show IS d l (l.length:Int) c=_
   unfold IS
   rw[qx (by simp)]
   simp) [] (by simp) ((0:Int),[]) rfl
 simpa using h
theorem Pv{d:AR}(A3:Nk d)(V:d.Nodes.length≤1048576)(Z:Gu d.Nodes){n:AO}(h:Fj n)(hD:Iz n.Draw)(h0:CZ n=some 0) :
  ∃L X:List AC,Gh d n=some (L.filterMap (Eg d))∧Iv n.Draw=some (L++X,(L.length:Int))∧(L++X).length≤1048576∧∀x∈L,CI x.Attrs false=0∧x.Attrs.length≤1048576:=by
 have A:=h.ok.dr
 have ho:=oa (cF h hD h0)
 obtain⟨m,l,E,F,I⟩:=XM A ho
 obtain⟨e,M,B⟩:=E.fo A
 have C:=ZS A E F B
 have J:=po B
 have hit:=YR I B
 have a0:=rM (MX B (M+1) 0) B.len
 have q:∀x∈BO (m.map (wa l)) (M+1) 0,CI x.Attrs false=0∧x.Attrs.length≤1048576:=λx hx=>by
  obtain⟨y,hy,rfl⟩:=rn.1 (LW _ _ _ hx).1
  have h1:(wa l y).Attrs=(AU (DM l) y.Item).getD []:=rfl
  rw[h1]
  cases T:Ak (DM l) y.Item with
  | none=>rw[(Eu T).1];exact⟨Tu,by simp⟩
  | some j=>
   obtain⟨v,v1,v2,_⟩:=Dd T
   rw[v2,sW]
   unfold DM at v1
   rw[rG,rK] at v1
   obtain⟨z,z1,U⟩:=v1
   simp only[rJ] at U
   rw[← U.2]
   have:=E.ok z (rX z1)
   exact⟨this.1,by omega⟩
 have w:(BO (m.map (wa l)) (M+1) 0++Br (m.map (wa l)) (BO (m.map (wa l)) (M+1) 0)).length≤1048576:=by
  refine rM (Yt B) ?_
  exact B.len
 generalize BO (m.map (wa l)) (M+1) 0=L at *
 generalize Br (m.map (wa l)) L=X at *
 refine⟨L,X,?_,hit,w,q⟩
 unfold Gh
 rw[C,AD,J,AD]
 have O:DY (L++X) 0 (L.length:Int)=some L:=by
  unfold DY
  rw[qy ⟨by omega,by omega,by simp;omega⟩]
  simp
 rw[O,AD,jy A3 V Z L (by simp at w;omega) q,AD]
end Go.Proofs.YtifgmfoihehlbaaGreatDoor.Al

set_option linter.unusedVariables false
set_option linter.unusedSimpArgs false
namespace Go.Proofs.YtifgmfoihehlbaaGreatDoor.Al
open Go
def AJ(d:AR)(id:Int):AO:=match B5 d.Nodes id with | some k=>d.Nodes[k]! | none=>default
noncomputable def G7(v:Aq)(g:Av)(c:An):Aq:=
 match F9 g c.Row c.Col with
 | some r=>⟨c.Ref,v.id,((v.visible&&(r.Row=c.Row))&&(r.Col=c.Col))⟩
 | none=>default
noncomputable def K1(v:Aq)(n:AO):List Aq:=(CQ n.Flow).map λid=>⟨id,v.id,v.visible⟩
noncomputable def JV(v:Aq)(n:AO):List Aq:=(n.Grid.Cells.filter λc=>!(c.Ref=0)).map (G7 v n.Grid)
noncomputable def GV(d:AR)(n:AO):List Int:=(Gh d n).getD []
noncomputable def GN(d:AR)(v:Aq)(n:AO):List Aq:=(GV d n).map λid=>⟨id,v.id,v.visible⟩
noncomputable def kids(d:AR)(v:Aq)(n:AO):List Aq:=K1 v n++(JV v n++GN d v n)
def Bv(l:List Aq)(i:Int):Bool:=l.any λv=>decide (v.id=i)
noncomputable def CD(d:AR):Nat→List Aq→Aq→List Aq
 | 0,j,_=>j
 | n+1,j,v=>if Bv j v.id=true then j else(kids d v (AJ d v.id)).foldl (λa w=>CD d n a w) (j++[v])
def Ba(d:AR)(i:Int):Prop:=∃k,B5 d.Nodes i=some k
structure Bt(d:AR):Prop where
 ok:Id d
 dr:∀n∈d.Nodes,Iz n.Draw
 ch:Em d=some 0
theorem XF{n:AO}(j:CZ n=some 0):1≤n.ID∧n.ID≤1073741824:=by
 unfold CZ at j
 split at j
 ·cases j
 ·rename_i c
  simp only[rH,q8] at c
  omega
theorem Bt.ids{d}(h:Bt d):Nk d:=λk j=>XF ((NP h.ok h.ch).2 k j)
theorem Bt.srt{d:AR}(h:Bt d):Gu d.Nodes:=(NP h.ok h.ch).1
theorem Ke{d:AR}{i}{k}(h:B5 d.Nodes i=some k):AJ d i=d.Nodes[k]!:=by unfold AJ;rw[h]
theorem Bt.node{d:AR}(h:Bt d){i}(w:Ba d i):Fj (AJ d i)∧Iz (AJ d i).Draw∧CZ (AJ d i)=some 0∧(∀j∈CQ (AJ d i).Flow++ER (AJ d i).Grid.Cells,Ba d j) ∧
  Fc d i=some ((((B5 d.Nodes i).getD 0:Nat):Int),true)∧AL d.Nodes (((B5 d.Nodes i).getD 0:Nat):Int)=some (AJ d i):=by
 obtain⟨k,l⟩:=w
 obtain⟨m,C⟩:=EF l
 rw[Ke l]
 have q:=Bm m
 obtain⟨j,A,B⟩:=Lv d i h.ok.1 h.srt
 obtain rfl:=B k l
 refine⟨h.ok.2 _ q,h.dr _ q,(NP h.ok h.ch).2 _ m,jn h.ok h.ch _ m,?_,?_⟩
 ·rw[A,l];rfl
 ·rw[l];exact Ac m
theorem ST{d:AR}(h:Bt d){v:Aq}(J:Ba d v.id):∀w∈kids d v (AJ d v.id),Ba d w.id:=by
 obtain⟨C,M,E,F,_,_⟩:=h.node J
 intro w l
 unfold kids at l
 rcases sU.1 l with l | l
 ·unfold K1 at l
  obtain⟨j,q,rfl⟩:=rn.1 l
  exact F j (sh _ q)
 ·rcases sU.1 l with l | l
  ·unfold JV at l
   obtain⟨c,I,rfl⟩:=rn.1 l
   have A:=(sV.1 I).1
   obtain⟨r,O,_⟩:=OZ C E c A
   unfold G7
   rw[O]
   refine F c.Ref (sn _ ?_)
   unfold ER
   exact rn.2 ⟨c,I,rfl⟩
  ·unfold GN GV at l
   obtain⟨L,X,T,_⟩:=Pv h.ids h.ok.1 h.srt C M E
   rw[T] at l
   obtain⟨j,q,rfl⟩:=rn.1 l
   obtain⟨x,_,m⟩:=List.mem_filterMap.1 q
   unfold Eg I7 at m
   cases B:B5 d.Nodes (Ec (Cw x.Attrs IQ)) with
   | none=>rw[B] at m;cases m
   | some k=>
    rw[B] at m
    simp only at m
    split at m
    ·cases m;exact⟨k,B⟩
    ·cases m
def D9(d:AR)(j:List Aq):Nat:=d.Nodes.countP λn=>!Bv j n.ID
theorem LX a b i:Bv (a++b) i=(Bv a i||Bv b i):=by unfold Bv;rw[List.any_append]
theorem Uz d a b:D9 d (a++b)≤D9 d a:=
 uP λn _ h=>by
  rw[LX] at h
  cases j:Bv a n.ID
  ·rfl
  ·rw[j] at h;simp at h
theorem We{d:AR}{a}{v:Aq}(B:Ba d v.id)(C:Bv a v.id=false):D9 d (a++[v])<D9 d a:=by
 obtain⟨k,E⟩:=B
 obtain⟨w,j⟩:=EF E
 have key:∀(l:List AO) (z:AO) (p q:AO→Bool),(∀x∈l,p x=true→q x=true)→z∈l→q z=true→p z=false→l.countP p<l.countP q:=by
  intro l
  induction l with
  | nil=>intro z p q _ m;cases m
  | cons a r F=>
   intro z p q h m w j
   have M:r.countP p≤r.countP q:=uP λx A=>h x (rO _ A)
   rw[uK,uK]
   rcases ri.1 m with rfl | m
   ·rw[w,j];simp;omega
   ·have:=F z p q (λx A=>h x (rO _ A)) m w j
    have I:=h a (rT ..)
    cases hp:p a
    ·simp;split<;>omega
    ·rw[I hp];simp;omega
 refine key d.Nodes d.Nodes[k]! _ _ (λx _ h=>?_) (Bm w) ?_ ?_
 ·rw[LX] at h
  cases J:Bv a x.ID
  ·rfl
  ·rw[J] at h;simp at h
 ·simp only[j,C];rfl
 ·simp only[j,LX]
  simp[Bv]
section
variable{σ:Type}(Y:σ→Aq→Option (Bool × σ))
def Dv:List Aq→σ→Option (Bool × σ)
 | [],s=>some (true,s)
 | v::r,s=>match Y s v with
  | none=>none
  | some (false,j)=>some (false,j)
  | some (true,j)=>Dv r j
theorem jO a b(s:σ):Dv Y (a++b) s=match Dv Y a s with
  | none=>none
  | some (false,j)=>some (false,j)
  | some (true,j)=>Dv Y b j:=by
 induction a generalizing s with
 | nil=>rfl
 | cons v r m=>
  rw[sc]
  cases l:Y s v with
  | none=>simp only[Dv,l]
  | some p=>
   obtain⟨c,j⟩:=p
   cases c
   ·simp only[Dv,l]
   ·simp only[Dv,l]
    exact m j
abbrev Ka(σ:Type):=List (Int × Bool)→σ→Aq→Option (Bool × List (Int × Bool) × σ)
def EU(self:Ka σ):List Aq→List (Int × Bool)→σ→Option (Bool × List (Int × Bool) × σ)
 | [],m,s=>some (true,m,s)
 | v::r,m,s=>match self m s v with
  | none=>none
  | some (false,j,l)=>some (false,j,l)
  | some (true,j,l)=>EU self r j l
theorem Ut self a b m(s:σ):EU self (a++b) m s=match EU self a m s with
  | none=>none
  | some (false,j,l)=>some (false,j,l)
  | some (true,j,l)=>EU self b j l:=by
 induction a generalizing m s with
 | nil=>rfl
 | cons v r w=>
  rw[sc]
  cases q:self m s v with
  | none=>simp only[EU,q]
  | some p=>
   obtain⟨c,j,l⟩:=p
   cases c
   ·simp only[EU,q]
   ·simp only[EU,q]
    exact w j l
noncomputable def Eb(v1:Aq)(self:Ka σ)(w:List Int)(l:Int)(A:List (Int × Bool))(j:σ):Option ((Int × (List (Int × Bool)) × σ) ⊕ (Ax ((List (Int × Bool)) × σ) (Bool × (List (Int × Bool)) × σ))):=
 if(decide (l<(w.length:Int))) then(
  AB (AL w l) λ(m:Int)=>
  CK (self A j (Aq.mk m v1.id v1.visible)) λ(E:Bool) (B:List (Int × Bool)) (C:σ)=>
  if(!E) then(
   some (.inr (.ext (false,B,C)))
  ) else(
   AB (AZ .i64 (l+1)) λ(q:Int)=>
   some (.inl (q,B,C))
  )
 ) else(
  some (.inr (.nrm (A,j)))
 )
noncomputable def EW(v1:Aq)(self:Ka σ)(w:AO)(A:Int)(B:List (Int × Bool))(m:σ):Option ((Int × (List (Int × Bool)) × σ) ⊕ (Ax ((List (Int × Bool)) × σ) (Bool × (List (Int × Bool)) × σ))):=
 if(decide (A<(w.Grid.Cells.length:Int))) then(
  AB (AL w.Grid.Cells A) λ(j:An)=>
  AB (F9 w.Grid j.Row j.Col) λ(F:Ap)=>
  CK (
   if((!(j.Ref=0))==true) then(
    CK (self B m (Aq.mk j.Ref v1.id ((v1.visible&&(F.Row=j.Row))&&(F.Col=j.Col)))) λ(I:Bool) (J:List (Int × Bool)) (M:σ)=>
    some (((!(j.Ref=0))&&(!I)),J,M)
   ) else(
    some (((!(j.Ref=0))&&false),B,m)
   )
  ) λ(C:Bool) (q:List (Int × Bool)) (l:σ)=>
  if C then(
   some (.inr (.ext (false,q,l)))
  ) else(
   AB (AZ .i64 (A+1)) λ(E:Int)=>
   some (.inl (E,q,l))
  )
 ) else(
  some (.inr (.nrm (B,m)))
 )
noncomputable def gB(d:AR)(self:Ka σ)(m:List (Int × Bool))(j:σ)(v1:Aq):Option (Bool × (List (Int × Bool)) × σ):=
 if((AU m v1.id).getD false) then(
  some (true,m,j)
 ) else(
  CE (Y j v1) λ(E:Bool) (C:σ)=>
  if(!E) then(
   some (false,(Ah m v1.id true),C)
  ) else(
   CE (Fc d v1.id) λ(F:Int) (T:Bool)=>
   AB (AL d.Nodes F) λ(q:AO)=>
   AB (Jp q.Flow) λ(I:List Int)=>
   GA (iter (λ(a:Int × (List (Int × Bool)) × σ)=>Eb v1 self I a.1 a.2.1 a.2.2) (0,(Ah m v1.id true),C)) λ(J:List (Int × Bool)) (w:σ)=>
   GA (iter (λ(a:Int × (List (Int × Bool)) × σ)=>EW v1 self q a.1 a.2.1 a.2.2) (0,J,w)) λ(M:List (Int × Bool)) (A:σ)=>
   AB (Gh d q) λ(O:List Int)=>
   GA (iter (λ(a:Int × (List (Int × Bool)) × σ)=>Eb v1 self O a.1 a.2.1 a.2.2) (0,M,A)) λ(B:List (Int × Bool)) (l:σ)=>
   some (true,B,l)
  )
 )
noncomputable def gN(d:AR):Nat→Ka σ
 | 0=>λ_ _ _=>none
 | n+1=>λm s v=>gB Y d (gN d n) m s v
def M7(r:Bool × List (Int × Bool) × σ):Ax ((List (Int × Bool)) × σ) (Bool × (List (Int × Bool)) × σ):=if r.1=true then .nrm (r.2.1,r.2.2) else .ext (false,r.2.1,r.2.2)
theorem Wm(v:Aq) self(l:List Int)(E:l.length≤4194304):∀(j k:Nat) (m:List (Int × Bool)) (s:σ) (r:Bool × List (Int × Bool) × σ),k+j=l.length→EU self ((l.drop k).map λid=>⟨id,v.id,v.visible⟩) m s=some r →
  iter (λ(a:Int × (List (Int × Bool)) × σ)=>Eb v self l a.1 a.2.1 a.2.2) ((k:Int),m,s)=some (M7 r):=by
 intro j
 induction j with
 | zero=>
  intro k m s r B h
  rw[rx (by omega)] at h
  cases h
  refine BJ ?_
  show Eb v self l (k:Int) m s=_
  unfold Eb
  rw[qx (by simp;omega)]
  rfl
 | succ j C=>
  intro k m s r B h
  have q:k<l.length:=by omega
  rw[rf q,rc] at h
  unfold EU at h
  cases w:self m s ⟨l[k],v.id,v.visible⟩ with
  | none=>rw[w] at h;cases h
  | some p=>
   obtain⟨c,A,s'⟩:=p
   rw[w] at h
   cases c with
   | false=>
    cases h
    refine BJ ?_
    show Eb v self l (k:Int) m s=_
    unfold Eb
    rw[qy (by simpa using q),Dz q,AD,w,FJ]
    rfl
   | true=>
    rw[BW (s':=(((k+1:Nat):Int),A,s')) (by
     show Eb v self l (k:Int) m s=_
     unfold Eb
     rw[qy (by simpa using q),Dz q,AD,w,FJ,qx (by decide),Ar (by omega),AD])]
    exact C (k+1) A s' r (by omega) h
theorem pA(v:Aq) self(n:AO)(O:n.Grid.Cells.length≤4194304)(hc:∀c∈n.Grid.Cells,∃r,F9 n.Grid c.Row c.Col=some r):∀(j k:Nat) (m:List (Int × Bool)) (s:σ) (r:Bool × List (Int × Bool) × σ),k+j=n.Grid.Cells.length →
  EU self (((n.Grid.Cells.drop k).filter λc=>!(c.Ref=0)).map (G7 v n.Grid)) m s=some r →
  iter (λ(a:Int × (List (Int × Bool)) × σ)=>EW v self n a.1 a.2.1 a.2.2) ((k:Int),m,s)=some (M7 r):=by
 intro j
 induction j with
 | zero=>
  intro k m s r J h
  rw[rx (by omega)] at h
  cases h
  refine BJ ?_
  show EW v self n (k:Int) m s=_
  unfold EW
  rw[qx (by simp;omega)]
  rfl
 | succ j E=>
  intro k m s r J h
  have l:k<n.Grid.Cells.length:=by omega
  obtain⟨q,B⟩:=hc _ (rm l)
  rw[rf l,tb] at h
  by_cases A:n.Grid.Cells[k].Ref=0
  ·rw[qx (by simp[A])] at h
   rw[BW (s':=(((k+1:Nat):Int),m,s)) (by
    show EW v self n (k:Int) m s=_
    unfold EW
    rw[qy (by simpa using l),Dz l,AD,B,AD,q7 A,qx (by decide),FJ,qx (by decide),Ar (by omega),AD])]
   exact E (k+1) m s r (by omega) h
  ·rw[qy (by simp[A]),rc] at h
   have M:G7 v n.Grid n.Grid.Cells[k]=⟨n.Grid.Cells[k].Ref,v.id,((v.visible&&(q.Row=n.Grid.Cells[k].Row))&&(q.Col=n.Grid.Cells[k].Col))⟩:=by unfold G7;rw[B]
   rw[M] at h
   unfold EU at h
   generalize F:(⟨n.Grid.Cells[k].Ref,v.id,((v.visible&&(q.Row=n.Grid.Cells[k].Row))&&(q.Col=n.Grid.Cells[k].Col))⟩:Aq)=w at h
   cases C:self m s w with
   | none=>rw[C] at h;cases h
   | some p=>
    obtain⟨c,I,s'⟩:=p
    rw[C] at h
    cases c with
    | false=>
     cases h
     refine BJ ?_
     show EW v self n (k:Int) m s=_
     unfold EW
     rw[qy (by simpa using l),Dz l,AD,B,AD,qz A,qy (by decide),F,C,FJ,FJ]
     rfl
    | true=>
     rw[BW (s':=(((k+1:Nat):Int),I,s')) (by
      show EW v self n (k:Int) m s=_
      unfold EW
      rw[qy (by simpa using l),Dz l,AD,B,AD,qz A,qy (by decide),F,C,FJ,FJ,qx (by decide),Ar (by omega),AD])]
     exact E (k+1) I s' r (by omega) h
end
end Go.Proofs.YtifgmfoihehlbaaGreatDoor.Al

set_option linter.unusedVariables false
set_option linter.unusedSimpArgs false
namespace Go.Proofs.YtifgmfoihehlbaaGreatDoor.Al
open Go
section
variable{σ:Type}(Y:σ→Aq→Option (Bool × σ)){d:AR}
def Vb(d:AR)(n:Nat):Prop:=∀(j:List Aq) (v:Aq) (m:List (Int × Bool)) (s:σ),Ba d v.id→D9 d j<n→(∀i,BF m i=Bv j i) →
 ∃new,CD d n j v=j++new∧(∀w∈new,Ba d w.id)∧∀b l,Dv Y new s=some (b,l)→∃q,gN Y d n m s v=some (b,q,l)∧(b=true→∀i,BF q i=Bv (j++new) i)
theorem cR{n}(IH:Vb Y d n):∀(ks j:List Aq) (m:List (Int × Bool)) (s:σ),(∀w∈ks,Ba d w.id)→D9 d j<n→(∀i,BF m i=Bv j i) →
  ∃new,ks.foldl (λa w=>CD d n a w) j=j++new∧(∀w∈new,Ba d w.id)∧∀b s',Dv Y new s=some (b,s')→∃A,EU (gN Y d n) ks m s=some (b,A,s')∧(b=true→∀i,BF A i=Bv (j++new) i):=by
 intro ks
 induction ks with
 | nil=>
  intro j m s _ _ I
  refine⟨[],by simp,by simp,λb s' B=>?_⟩
  simp only[Dv,rE,rJ] at B
  obtain⟨rfl,rfl⟩:=B
  exact⟨m,rfl,λ_ i=>by rw[s8];exact I i⟩
 | cons v r ih=>
  intro j m s U V I
  obtain⟨q,e1,i1,w1⟩:=IH j v m s (U v (rT ..)) V I
  have J:D9 d (j++q)<n:=uc (Uz d j q) V
  have E:∀m2 (F:σ),(∀i,BF m2 i=Bv (j++q) i)→∃new,r.foldl (λa w=>CD d n a w) (j++q)=(j++q)++new∧(∀w∈new,Ba d w.id)∧∀b s',Dv Y new F=some (b,s')→∃A,EU (gN Y d n) r m2 F=some (b,A,s')∧(b=true→∀i,BF A i=Bv ((j++q)++new) i):=
   λm2 F h2=>ih (j++q) m2 F (λw M=>U w (rO _ M)) J h2
  have O:∃m2:List (Int × Bool),∀i,BF m2 i=Bv (j++q) i:=by
   refine⟨(j++q).map λv=>(v.id,true),λi=>?_⟩
   generalize j++q=l
   induction l with
   | nil=>rfl
   | cons a r T=>
    show(if i=a.id then some true else AU _ i).getD false=_
    unfold Bv
    rw[ts]
    by_cases h:i=a.id
    ·rw[qy h,q7 h.symm];rfl
    ·rw[qx h,qz (uN h),sN];exact T
  obtain⟨m0,h0⟩:=O
  obtain⟨X,Z,i2,_⟩:=E m0 s h0
  refine⟨q++X,by rw[sZ,e1,Z,sJ],λw M=>(sU.1 M).elim (i1 w) (i2 w),λb s' B=>?_⟩
  rw[jO] at B
  cases C:Dv Y q s with
  | none=>rw[C] at B;cases B
  | some p=>
   obtain⟨c,s1⟩:=p
   rw[C] at B
   obtain⟨m1,g1,g2⟩:=w1 c s1 C
   cases c with
   | false=>
    cases B
    refine⟨m1,?_,λe=>by cases e⟩
    unfold EU
    rw[g1]
   | true=>
    obtain⟨n3,e3,_,w3⟩:=E m1 s1 (g2 rfl)
    have:n3=X:=by
     rw[Z] at e3
     exact(List.append_cancel_left e3).symm
    subst this
    obtain⟨m2,k1,k2⟩:=w3 b s' B
    refine⟨m2,?_,λe i=>by rw[k2 e i,sJ]⟩
    show(match gN Y d n m s v with | none=>none | some (false,A,s')=>some (false,A,s') | some (true,A,s')=>EU (gN Y d n) r A s')=_
    rw[g1]
    exact k1
theorem bA(h:Bt d):∀n,Vb Y d n:=by
 intro n
 induction n with
 | zero=>intro l v m s _ hu;omega
 | succ n IH=>
  intro l v m s hv hu hm
  by_cases F:Bv l v.id=true
  ·refine⟨[],by unfold CD;rw[qy F,s8],by simp,λb I A=>?_⟩
   simp only[Dv,rE,rJ] at A
   obtain⟨rfl,rfl⟩:=A
   refine⟨m,?_,λ_ i=>by rw[s8];exact hm i⟩
   show gB Y d (gN Y d n) m s v=_
   unfold gB
   have:(AU m v.id).getD false=true:=(hm v.id).trans F
   rw[qy this]
  ·rw[ru] at F
   have ac:=We hv F
   have C:∀i,BF (Ah m v.id true) i=Bv (l++[v]) i:=λi=>by
    rw[J8,hm i,LX]
    have:Bv [v] i=decide (i=v.id):=by
     unfold Bv;simp only[ts,List.any_nil,ud]
     rw[tZ];exact⟨λe=>e.symm,λe=>e.symm⟩
    rw[this]
    cases Bv l i<;>cases decide (i=v.id)<;>rfl
   obtain⟨q,a0,J,ad,a1,a2⟩:=h.node hv
   have M:=ST h hv
   have B:=λE=>cR Y IH (kids d v (AJ d v.id)) (l++[v]) (Ah m v.id true) E M (by omega) C
   obtain⟨new,e1,i1,_⟩:=B s
   refine⟨v::new,by unfold CD;rw[qx (by rw[F];decide),e1,sJ];rfl,λw hw=>?_,λb I A=>?_⟩
   ·rcases ri.1 hw with rfl | hw
    ·exact hv
    ·exact i1 w hw
   ·show ∃O,gB Y d (gN Y d n) m s v=_∧_
    have h0:¬ ((AU m v.id).getD false)=true:=by
     have:(AU m v.id).getD false=false:=(hm v.id).trans F
     rw[this];decide
    unfold gB
    rw[qx h0]
    cases hY:Y s v with
    | none=>simp only[Dv,hY] at A;cases A
    | some p=>
     obtain⟨c,s1⟩:=p
     rw[By]
     cases c with
     | false=>
      simp only[Dv,hY,rE,rJ] at A
      obtain⟨rfl,rfl⟩:=A
      exact⟨_,by rw[qy (by decide)],λe=>by cases e⟩
     | true=>
      simp only[Dv,hY] at A
      rw[qx (by decide),a1,By,a2,AD,bQ _ (by have:=q.ok.fl;omega),AD]
      obtain⟨T,e2,_,w2⟩:=B s1
      have:T=new:=by
       rw[e1] at e2
       exact(List.append_cancel_left e2).symm
      subst this
      obtain⟨O,j,g2⟩:=w2 b I A
      refine⟨O,?_,λe i=>by rw[g2 e i,sJ];rfl⟩
      have ae:=q.ok.fl
      have af:=q.ok.gr.1
      have U:∀c∈(AJ d v.id).Grid.Cells,∃r,F9 (AJ d v.id).Grid c.Row c.Col=some r:=λc hc=>by
       obtain⟨r,r1,_⟩:=OZ q J c hc;exact⟨r,r1⟩
      have a6:(CQ (AJ d v.id).Flow).length≤4194304:=by
       unfold CQ;rw[rh];exact rM (sR ..) (by omega)
      obtain⟨L,X,t1,_,t3,_⟩:=Pv h.ids h.ok.1 h.srt q a0 J
      have V:GV d (AJ d v.id)=L.filterMap (Eg d):=by unfold GV;rw[t1];rfl
      have Z:(GV d (AJ d v.id)).length≤4194304:=by
       rw[V]
       refine rM (List.length_filterMap_le ..) ?_
       simp at t3;omega
      have a7:Gh d (AJ d v.id)=some (GV d (AJ d v.id)):=by rw[V];exact t1
      unfold kids at j
      rw[Ut] at j
      cases q1:EU (gN Y d n) (K1 v (AJ d v.id)) (Ah m v.id true) s1 with
      | none=>rw[q1] at j;cases j
      | some p1=>
       have l1:=Wm v (gN Y d n) (CQ (AJ d v.id).Flow) a6 _ 0 (Ah m v.id true) s1 p1 (by rw[rl]) q1
       have a8:iter (λ(a:Int × (List (Int × Bool)) × σ)=>Eb v (gN Y d n) (CQ (AJ d v.id).Flow) a.1 a.2.1 a.2.2) (0,(Ah m v.id true),s1)=some (M7 p1):=l1
       rw[a8]
       obtain⟨c1,m1,E⟩:=p1
       rw[q1] at j
       cases c1 with
       | false=>cases j;rfl
       | true=>
        show GA (iter (λ(a:Int × (List (Int × Bool)) × σ)=>EW v (gN Y d n) (AJ d v.id) a.1 a.2.1 a.2.2) (0,m1,E)) _=_
        have j:EU (gN Y d n) (JV v (AJ d v.id)++GN d v (AJ d v.id)) m1 E=some (b,O,I):=j
        rw[Ut] at j
        cases q2:EU (gN Y d n) (JV v (AJ d v.id)) m1 E with
        | none=>rw[q2] at j;cases j
        | some p2=>
         have l2:=pA v (gN Y d n) (AJ d v.id) (by omega) U _ 0 m1 E p2 (by rw[rl]) q2
         have aa:iter (λ(a:Int × (List (Int × Bool)) × σ)=>EW v (gN Y d n) (AJ d v.id) a.1 a.2.1 a.2.2) (0,m1,E)=some (M7 p2):=l2
         rw[aa]
         obtain⟨c2,m2,s3⟩:=p2
         rw[q2] at j
         cases c2 with
         | false=>cases j;rfl
         | true=>
          show AB (Gh d (AJ d v.id)) _=_
          rw[a7,AD]
          have j:EU (gN Y d n) (GN d v (AJ d v.id)) m2 s3=some (b,O,I):=j
          have l3:=Wm v (gN Y d n) (GV d (AJ d v.id)) Z _ 0 m2 s3 _ (by rw[rl]) j
          have ab:iter (λ(a:Int × (List (Int × Bool)) × σ)=>Eb v (gN Y d n) (GV d (AJ d v.id)) a.1 a.2.1 a.2.2) (0,m2,s3)=some (M7 (b,O,I)):=l3
          rw[ab]
          cases b<;>rfl
end
end Go.Proofs.YtifgmfoihehlbaaGreatDoor.Al
