/- Plain laws over the models, a part of them. -/
import Derived.Test.YtmogkkigacadpaaGreatDoorMod1
import Derived.Lib.AtoiAllCases
import Derived.Lib.DecodeNEq
import Derived.Lib.ItoaMem
import Derived.Lib.TrimUEq
import Derived.Lib.ValidLaws
set_option linter.all false
namespace Go.Proofs.YtmogkkigacadpaaGreatDoor.Al
@[simp] theorem AD{a α:Type}(x:a)(f:a→Option α):AC (some x) f=f x:=rfl
@[simp] theorem Bv{a b α:Type}(x:a)(y:b)(f:a→b→Option α):CE (some (x,y)) f=f x y:=rfl
@[simp] theorem FX{a b c α:Type}(x:a)(y:b)(z:c)(f:a→b→c→Option α):CU (some (x,y,z)) f=f x y z:=rfl
@[simp] theorem na{a b c d α:Type}(x:a)(y:b)(z:c)(u:d)(f:a→b→c→d→Option α):Xo (some (x,y,z,u)) f=f x y z u:=rfl
@[simp] theorem OD{a α:Type}(x:a)(f:a→Option α):Ay (some (.nrm x)) f=f x:=rfl
@[simp] theorem H7{a α:Type}(t:α)(f:a→Option α):Ay (some (.ext t)) f=some t:=rfl
@[simp] theorem nc{a b α:Type}(x:a)(y:b)(f:a→b→Option α):D2 (some (.nrm (x,y))) f=f x y:=rfl
@[simp] theorem nX{a b α:Type}(t:α)(f:a→b→Option α):D2 (some (.ext t)) f=some t:=rfl
@[simp] theorem nY{a b c α:Type}(x:a)(y:b)(z:c)(f:a→b→c→Option α):T4 (some (.nrm (x,y,z))) f=f x y z:=rfl
@[simp] theorem nW{a b c α:Type}(t:α)(f:a→b→c→Option α):T4 (some (.ext t)) f=some t:=rfl
@[simp] theorem Ap{α:Type}[Inhabited α](m:Option α):gd true m=m:=rfl
@[simp] theorem Cs{α:Type}[Inhabited α](m:Option α):gd false m=some default:=rfl
theorem Ag{α:Type}[Inhabited α]{l:List α}{k}(h:k<l.length):AM l (k:Int)=some l[k]!:=by
 unfold AM
 rw[ne (qK k),pH,nj h,nv l k h]
theorem ED{α:Type}{l:List α}{k}(h:k<l.length):AM l (k:Int)=some l[k]:=by
 unfold AM
 rw[ne (qK k),pH,nj h]
theorem Aq{k:Nat}(h:k<9223372036854775807):AS .i64 ((k:Int)+1)=some (((k+1:Nat)):Int):=by
 rw[CM (by omega) (by omega)];rfl
theorem Et{k:Nat}(h:0<k)(j:k≤9223372036854775807):AS .i64 ((k:Int)-1)=some ((k-1:Nat):Int):=by
 rw[CM (by omega) (by omega)];congr 1;omega
def B2{ρ:Type}(k:Nat):Option ρ→Option (Int ⊕ Ar Unit ρ)
 | none=>some (.inl ((k+1:Nat):Int))
 | some r=>some (.inr (.ext r))
def DE{ρ:Type} : Option ρ→Ar Unit ρ
 | none=>.nrm ()
 | some r=>.ext r
theorem Bu{ρ:Type}{f}{n}(g:Nat→Option ρ)(j:∀k:Nat, k<n→f k=B2 k (g k))
 (l:f n=some (.inr (.nrm ()))):iter f 0=some (DE ((List.range n).findSome? g)) := by
  have key:∀m k:Nat, k+m=n→iter f (k:Int)=some (DE ((List.range' k m).findSome? g)) := by
    intro m
    induction m with
    | zero =>
      intro k q
      obtain rfl:k=n := by omega
      rw[BM l];rfl
    | succ m w =>
      intro k q
      rw[List.range'_succ, pE]
      have := j k (by omega)
      cases hg:g k with
      | none => rw[hg] at this;rw[Br this, w (k+1) (by omega)]
      | some r => rw[hg] at this;rw[BM this];rfl
  rw[q7]
  exact key n 0 (by omega)
theorem Wz{α ρ:Type}{l:List α}{g h:α→Option ρ}(e:∀x∈l,g x=h x):l.findSome? g=l.findSome? h:=by
 induction l with
 | nil=>rfl
 | cons a l j=>rw[pE,pE,e a (oE ..),j λx m=>e x (ny _ m)]
theorem Oc{α ρ:Type}[Inhabited α](l:List α)(p:α→Bool)(r:ρ):(List.range l.length).findSome? (λk=>if p l[k]! then none else some r)=if l.all p then none else some r:=by
 induction l with
 | nil=>rfl
 | cons a l j=>
  rw[oY,List.range_succ_eq_map,pE,List.findSome?_map]
  have m:(List.range l.length).findSome? ((λk=>if p (a::l)[k]! = true then none else some r) ∘ Nat.succ)=if l.all p=true then none else some r:=by
   rw[← j];exact Wz λk _=>by simp
  rw[m]
  by_cases hp:p a=true
  ·simp[hp]
  ·simp[hp]
theorem Eb{ρ:Type}(o:Option ρ)(f:Unit→Option ρ):Ay (some (DE o)) f=match o with | none=>f () | some r=>some r:=by cases o<;>rfl
def Ft(c:UInt8):Bool:=((97≤c.toNat)&&(c.toNat≤122))||((48≤c.toNat)&&(c.toNat≤57))||(c.toNat=46)||(c.toNat=45)
def EI(s:List UInt8):Bool:=(1≤s.length)&&(s.length≤24)&&((97≤s[0]!.toNat)&&(s[0]!.toNat≤122))&&s.all Ft
def Gm(c:UInt8):Bool:=(32≤c.toNat)&&(c.toNat≤126)
def Da(s:List UInt8):Bool:=(1≤s.length)&&(s.length≤200)&&s.all Gm
theorem jY(s:List UInt8) k(j:k<s.length)(l:s.length≤9223372036854775807):Ld s k=B2 k (if Ft s[k]! then none else some false):=by
 unfold Ld
 rw[ne (by simpa using j),Ag j,AD,Aq (by omega)]
 generalize s[k]! = c
 have e:((((((c.toNat:Int)<97)||(122<(c.toNat:Int)))&&(((c.toNat:Int)<48)||(57<(c.toNat:Int))))&&(!((c.toNat:Int)=46)))&&(!((c.toNat:Int)=45)))=!Ft c:=by
  unfold Ft
  rw[oU]
  simp only[nr,np,ni,oc,ol,pU,pg]
  omega
 rw[e]
 cases Ft c<;>rfl
theorem RI(s:List UInt8)(B:s.length≤9223372036854775807):KQ s=some (EI s):=by
 unfold KQ
 rw[Bu (n:=s.length) (λk=>if Ft s[k]! then none else some false) (λk C=>jY s k C B) (by unfold Ld;rw[nd (by simp)]),Oc]
 unfold EI
 cases s with
 | nil=>simp
 | cons c t=>
  have E:AM (c::t) 0=some c:=rfl
  rw[E]
  simp only[List.getElem!_cons_zero,ng (qU c t),ox]
  generalize (c::t).all Ft=F
  generalize I:(c::t).length=L
  have M:1≤L:=by rw[← I];simp
  by_cases q:24<(L:Int)
  ·have j:decide (L≤24)=false:=by simp;omega
   simp[q,j]
  ·rw[ng q]
   simp only[ox,oq,Ap,AD]
   have j:decide (L≤24)=true:=by simp;omega
   have J:decide (1≤L)=true:=by simp;omega
   rw[j,J]
   by_cases w:(c.toNat:Int)<97
   ·have l:decide (97≤c.toNat)=false:=by simp;omega
    simp[w,l]
   ·rw[ng w]
    have l:decide (97≤c.toNat)=true:=by simp;omega
    simp only[oq,Ap,AD,ox]
    by_cases A:122<(c.toNat:Int)
    ·have m:decide (c.toNat≤122)=false:=by simp;omega
     simp[A,m]
    ·have m:decide (c.toNat≤122)=true:=by simp;omega
     rw[nd (by simpa using A),Eb,l,m]
     cases F<;>rfl
def HA(k:Nat)(c:UInt8):Bool:=((97≤c.toNat)&&(c.toNat≤122))||((k≠0)&&Ft c)
theorem Yn(s:List UInt8) k(j:k<s.length)(l:s.length≤9223372036854775807) :
  LZ s k=B2 k (if HA k s[k]! then none else some false):=by
 unfold LZ
 rw[ne (by simpa using j),Ag j,AD,Aq (by omega)]
 generalize s[k]! = c
 have e:((!((97≤(c.toNat:Int))&&((c.toNat:Int)≤122)))&&(((k:Int)=0)||(((!((c.toNat:Int)=46))&&(!((c.toNat:Int)=45)))&&(((c.toNat:Int)<48)||(57<(c.toNat:Int))))))=!HA k c:=by
  unfold HA Ft
  rw[oU]
  simp only[nr,np,ni,oc,ol,pU,pg]
  omega
 rw[e]
 cases HA k c<;>rfl
theorem Vs{ρ:Type}(n:Nat)(g:Nat→Option ρ):(List.range n).findSome? g=none↔∀k,k<n→g k=none:=by
 rw[pI];simp
theorem jV{α:Type}[Inhabited α](l:List α)(p:α→Bool):l.all p=true↔∀k,k<l.length→p l[k]! = true:=by
 rw[oH]
 constructor
 ·intro h k j;rw[nv l k j];exact h _ (oO j)
 ·intro h x m
  obtain⟨k,j,rfl⟩:=ov.1 m
  rw[← nv l k j];exact h k j
theorem I4{ρ:Type} n p(r:ρ):(List.range n).findSome? (λk=>if p k then none else some r)=if(List.range n).all p then none else some r:=by
 generalize List.range n=l
 induction l with
 | nil=>rfl
 | cons a l j=>rw[pE,qn,];by_cases h:p a=true<;>simp[h,j]
theorem W7(s:List UInt8)(q:s.length≤9223372036854775807):KV s=some (EI s):=by
 unfold KV
 rw[Bu (n:=s.length) (λk=>if HA k s[k]! then none else some false) (λk j=>Yn s k j q) (by unfold LZ;rw[nd (by simp)]),I4,Eb]
 have key:((List.range s.length).all λk=>HA k s[k]!)=((s=[])||(((97≤s[0]!.toNat)&&(s[0]!.toNat≤122))&&s.all Ft)):=by
  rw[oU,oH]
  simp only[oL,nr,ni,np,jV]
  constructor
  ·intro h
   cases m:s with
   | nil=>exact .inl rfl
   | cons c t=>
    rw[← m]
    have w:0<s.length:=by rw[m];simp
    have A:=h 0 w
    simp only[HA,nr,np,ni] at A
    refine .inr ⟨by omega,λk j=>?_⟩
    have:=h k j
    simp only[HA,Ft,nr,np,ni] at this ⊢
    omega
  ·rintro(rfl | ⟨J,B⟩) k j
   ·cases j
   ·have:=B k j
    by_cases l:k=0
    ·subst l;simp only[HA,nr,np,ni];omega
    ·simp only[HA,nr,np,ni];exact .inr ⟨l,this⟩
 rw[key]
 unfold EI
 cases s with
 | nil=>rfl
 | cons c t=>
  rw[ng (qU c t),ox]
  generalize (c::t).all Ft=C
  generalize ((97≤(c::t)[0]!.toNat)&&((c::t)[0]!.toNat≤122))=E
  have F:decide (1≤((c::t).length:Int))=decide (1≤(c::t).length):=by simp;omega
  have I:decide (((c::t).length:Int)≤24)=decide ((c::t).length≤24):=by simp;omega
  rw[F,I]
  cases E<;>cases C<;>simp
theorem Rp(s:List UInt8)(B:s.length≤9223372036854775807):Ke s=some (Da s):=by
 unfold Ke Da
 rw[Bu (n:=s.length) (λk=>if Gm s[k]! then none else some false) (λk l=>by
  unfold ON
  rw[ne (by simpa using l),Ag l,AD,Aq (by omega)]
  generalize s[k]! = c
  have e:(((c.toNat:Int)<32)||(126<(c.toNat:Int)))=!Gm c:=by
   unfold Gm
   rw[oU]
   simp only[nr,np,ni,oc,ol,pg]
   omega
  rw[e]
  cases Gm c<;>rfl) (by unfold ON;rw[nd (by simp)]),Oc,Eb]
 generalize s.all Gm=q
 cases s with
 | nil=>simp
 | cons c t=>
  rw[ng (qU c t),ox]
  generalize w:(c::t).length=L
  have C:1≤L:=by rw[← w];simp
  by_cases m:200<(L:Int)
  ·have j:decide (L≤200)=false:=by simp;omega
   simp[m,j]
  ·have j:decide (L≤200)=true:=by simp;omega
   have A:decide (1≤L)=true:=by simp;omega
   rw[nd (by simpa using m),j,A]
   cases q<;>rfl
theorem UG(s:List UInt8)(w:s.length≤9223372036854775807):LR s=some (Da s):=by
 unfold LR Da
 rw[Bu (n:=s.length) (λk=>if Gm s[k]! then none else some false) (λk j=>by
  unfold Nk
  rw[ne (by simpa using j),Ag j,AD,Aq (by omega)]
  generalize s[k]! = c
  have e:(((c.toNat:Int)<32)||(126<(c.toNat:Int)))=!Gm c:=by
   unfold Gm
   rw[oU]
   simp only[nr,np,ni,oc,ol,pg]
   omega
  rw[e]
  cases Gm c<;>rfl) (by unfold Nk;rw[nd (by simp)]),Oc,Eb]
 generalize s.all Gm=l
 have m:decide (1≤(s.length:Int))=decide (1≤s.length):=by simp;omega
 have q:decide ((s.length:Int)≤200)=decide (s.length≤200):=by simp;omega
 rw[m,q]
 cases l<;>simp
theorem SZ a b x y:Av (a::x) (b::y)=((a<b)||(a==b&&Av x y)):=rfl
theorem Jj:∀(a b:List UInt8),(Av a b||(a=b))=!Av b a
 | [],[]=>rfl
 | [],_::_=>rfl
 | _::_,[]=>rfl
 | a::x,b::y=>by
  rw[SZ,SZ]
  have l:=Jj x y
  by_cases h:a=b
  ·subst h
   have m:¬ a<a:=λh=>by simp[qR] at h
   simp only[ng m,oq,oS,ox,qi,rE]
   exact l
  ·have q:(a==b)=false:=by simpa using h
   have w:(b==a)=false:=by simpa using λe:b=a=>h e.symm
   have A:¬ (a::x=b::y):=λe=>h (List.cons.inj e).1
   rw[q,w,ng A]
   simp only[pt,rK]
   have B:a.toNat≠b.toNat:=λe=>h (UInt8.toNat_inj.1 e)
   by_cases j:a<b
   ·have:¬ b<a:=by rw[qR] at j ⊢;omega
    simp[j,this]
   ·have:b<a:=by rw[qR] at j ⊢;omega
    simp[j,this]
theorem Is a:Av a a=false:=by
 have:=Jj a a
 cases h:Av a a
 ·rfl
 ·rw[h] at this;simp at this
theorem Tl{a b}(h:Av a b=true):Av b a=false:=by
 have:=Jj a b
 rw[h] at this;simpa using this.symm
def HY(l:List AG):Prop:=∀a∈l,a.Name.length≤9223372036854775807∧a.Value.length≤9223372036854775807
def ES(l:List AG)(j:Bool)(k:Nat):Option Int:=
 if EI l[k]!.Name=false then some 9 else if Da l[k]!.Value=false∧¬ (j=true∧l[k]!.Value=[]) then some 23 else if 0<k∧Av l[k-1]!.Name l[k]!.Name=false then some 5 else none
def B4(l:List AG)(j:Bool):Int:=((List.range l.length).findSome? (ES l j)).getD 0
theorem HY.at{l:List AG}(h:HY l){k}(j:k<l.length):l[k]!.Name.length≤9223372036854775807∧l[k]!.Value.length≤9223372036854775807:=by
 rw[nv l k j];exact h _ (oO j)
theorem Y1(l:List AG) q(h:HY l)(E:l.length≤9223372036854775807) k(A:k<l.length):Lc l q k=B2 k (ES l q k):=by
 unfold Lc ES
 obtain⟨j,m⟩:=h.at A
 rw[ne (by simpa using A),Ag A,AD]
 generalize l[k]! = x at j m ⊢
 rw[RI _ j,AD]
 cases EI x.Name
 ·rfl
 rw[nd (by decide),nd (by decide),Rp _ m,AD,Aq (by omega)]
 by_cases w:Da x.Value=false∧¬ (q=true∧x.Value=[])
 ·rw[ne w,ne (by simp[w.1];cases q<;>simp_all)];rfl
 rw[nd w,nd (by intro e;simp at e;exact w ⟨e.1,by rintro⟨a,b⟩;simp[a,b] at e⟩)]
 by_cases B:k=0
 ·subst B;rfl
 ·have C:decide ((0:Int)<(k:Int))=true:=by simp;omega
  rw[C,Et (by omega) (by omega)]
  simp only[oq,Ap,AD,oS]
  rw[Ag (by omega),AD,Jj]
  have:(0<k∧Av l[k-1]!.Name x.Name=false)↔Av l[k-1]!.Name x.Name=false:=by constructor;exact λh=>h.2;exact λh=>⟨by omega,h⟩
  simp only[this]
  cases Av l[k-1]!.Name x.Name<;>rfl
theorem kr(l:List AG) q(h:HY l)(E:l.length≤9223372036854775807) k(A:k<l.length):KR l q k=B2 k (ES l q k):=by
 unfold KR ES
 obtain⟨j,m⟩:=h.at A
 rw[ne (by simpa using A),Ag A,AD]
 generalize l[k]! = x at j m ⊢
 rw[W7 _ j,AD]
 cases EI x.Name
 ·rfl
 rw[nd (by decide),nd (by decide),UG _ m,AD,Aq (by omega)]
 by_cases w:Da x.Value=false∧¬ (q=true∧x.Value=[])
 ·rw[ne w,ne (by simp[w.1];cases q<;>simp_all)];rfl
 rw[nd w,nd (by intro e;simp at e;exact w ⟨e.1,by rintro⟨a,b⟩;simp[a,b] at e⟩)]
 by_cases B:k=0
 ·subst B;rfl
 ·have C:decide ((0:Int)<(k:Int))=true:=by simp;omega
  rw[C,Et (by omega) (by omega)]
  simp only[oq,Ap,AD,oS]
  rw[Ag (by omega),AD]
  have:(0<k∧Av l[k-1]!.Name x.Name=false)↔Av l[k-1]!.Name x.Name=false:=by constructor;exact λh=>h.2;exact λh=>⟨by omega,h⟩
  simp only[this]
  cases Av l[k-1]!.Name x.Name<;>rfl
theorem Ew{o:Option Int} : (Ay (some (DE o)) λ_:Unit=>some 0)=some (o.getD 0):=by cases o<;>rfl
theorem gP(l:List AG) j(h:HY l)(m:l.length≤9223372036854775807):MM l j=some (B4 l j):=by
 unfold MM
 rw[Bu (n:=l.length) (ES l j) (λk q=>Y1 l j h m k q) (by unfold Lc;rw[nd (by simp)]),Ew];rfl
theorem RA(l:List AG) j(h:HY l)(m:l.length≤9223372036854775807):JT l j=some (B4 l j):=by
 unfold JT
 rw[Bu (n:=l.length) (ES l j) (λk q=>kr l j h m k q) (by unfold KR;rw[nd (by simp)]),Ew];rfl
theorem Om(l:List AG)(h:HY l)(j:l.length≤9223372036854775807):I1 l=some (B4 l false):=by unfold I1;rw[gP l _ h j];rfl
def E8(l:List AG)(name:List UInt8):List UInt8:=((List.range l.length).findSome? λk=>if l[k]!.Name=name then some l[k]!.Value else none).getD []
theorem Tq{o:Option (List UInt8)} : (Ay (some (DE o)) λ_:Unit=>some [])=some (o.getD []):=by cases o<;>rfl
theorem lU(l:List AG) name(m:l.length≤9223372036854775807):MU l name=some (E8 l name):=by
 unfold MU
 rw[Bu (n:=l.length) (λk=>if l[k]!.Name=name then some l[k]!.Value else none) (λk j=>by
  unfold NV
  rw[ne (by simpa using j),Ag j,AD,Aq (by omega)]
  generalize l[k]! = x
  by_cases h:x.Name=name<;>simp[h,B2]) (by unfold NV;rw[nd (by simp)]),Tq];rfl
theorem lX(l:List AG) name(m:l.length≤9223372036854775807):MI l name=some (E8 l name):=by
 unfold MI
 rw[Bu (n:=l.length) (λk=>if l[k]!.Name=name then some l[k]!.Value else none) (λk j=>by
  unfold Lz
  rw[ne (by simpa using j),Ag j,AD,Aq (by omega)]
  generalize l[k]! = x
  by_cases h:x.Name=name<;>simp[h,B2]) (by unfold Lz;rw[nd (by simp)]),Tq];rfl
def Cq:AG:=⟨[],[]⟩
def CL(j:AG→AG→List AG→List AG):List AG→List AG→List AG→List AG
 | [],[],c=>c
 | x::a,[],c=>CL j a [] (j x Cq c)
 | [],y::b,c=>CL j [] b (j Cq y c)
 | x::a,y::b,c=>if Av x.Name y.Name then CL j a (y::b) (j x Cq c) else if Av y.Name x.Name then CL j (x::a) b (j Cq y c) else CL j a b (j x y c)
  termination_by a b=>a.length+b.length
def P7(l:AG→AG→List AG→List AG)(a b:List AG)(i j:Nat)(o:List AG):Option ((Int × Int × List AG) ⊕ Ar Unit (List AG)):=
 if i<a.length∨j<b.length then
  if j=b.length∨(i<a.length∧Av a[i]!.Name b[j]!.Name=true) then some (.inl (((i+1:Nat):Int),(j:Int),l a[i]! Cq o))
  else if i=a.length∨Av b[j]!.Name a[i]!.Name=true then some (.inl ((i:Int),((j+1:Nat):Int),l Cq b[j]! o))
  else some (.inl (((i+1:Nat):Int),((j+1:Nat):Int),l a[i]! b[j]! o))
 else some (.inr (.ext o))
theorem M7{l:List AG}{i}(h:i<l.length):l.drop i=l[i]!::l.drop (i+1):=by
 rw[oT h,nv l i h]
theorem cO{f} C(a b c:List AG) B(l:∀x y o, (C x y o).length≤o.length+1)
 (V:∀(i j:Nat) (o:List AG), i≤a.length→j≤b.length→o.length+(a.length - i)+(b.length - j)≤B→f (i, j, o)=P7 C a b i j o) (hB:c.length+a.length+b.length≤B):iter f (0, 0, c)=some (.ext (CL C a b c)) := by
  have key:∀(m i j:Nat) (o:List AG), i≤a.length→j≤b.length→(a.length - i)+(b.length - j)=m→o.length+m≤B→iter f ((i:Int), (j:Int), o)=some (.ext (CL C (a.drop i) (b.drop j) o)) := by
    intro m
    induction m using Nat.strongRecOn with
    | _ m F =>
      intro i j o O T X Z
      have q := V i j o O T (by omega)
      unfold P7 at q
      by_cases w:i<a.length
      · rw[M7 w]
        by_cases A:j<b.length
        · rw[M7 A]
          rw[ne (.inl w)] at q
          by_cases I:Av a[i]!.Name b[j]!.Name=true
          · rw[ne (.inr ⟨w, I⟩)] at q
            rw[Br q, CL, ne I, ← M7 A]
            exact F (m - 1) (by omega) (i+1) j _ (by omega) T (by omega) (by have := l a[i]! Cq o;omega)
          · rw[nd (by rintro(h | h);omega;exact I h.2)] at q
            by_cases M:Av b[j]!.Name a[i]!.Name=true
            · rw[ne (.inr M)] at q
              rw[Br q, CL, nd I, ne M, ← M7 w]
              exact F (m - 1) (by omega) i (j+1) _ O (by omega) (by omega) (by have := l Cq b[j]! o;omega)
            · rw[nd (by rintro(h | h);omega;exact M h)] at q
              rw[Br q, CL, nd I, nd M]
              exact F (m - 2) (by omega) (i+1) (j+1) _ (by omega) (by omega) (by omega) (by have := l a[i]! b[j]! o;omega)
        · have E:j=b.length := by omega
          rw[ne (.inl w), ne (.inl E)] at q
          have hd:b.drop j=[] := by rw[E];simp
          rw[Br q, hd, CL, ← hd]
          exact F (m - 1) (by omega) (i+1) j _ (by omega) T (by omega) (by have := l a[i]! Cq o;omega)
      · have J:i=a.length := by omega
        have hd:a.drop i=[] := by rw[J];simp
        by_cases A:j<b.length
        · rw[ne (.inr A), nd (by rintro(h | h);omega;omega), ne (.inl J)] at q
          rw[M7 A, Br q, hd, CL, ← hd]
          exact F (m - 1) (by omega) i (j+1) _ O (by omega) (by omega) (by have := l Cq b[j]! o;omega)
        · have E:j=b.length := by omega
          rw[nd (by omega)] at q
          have U:b.drop j=[] := by rw[E];simp
          rw[BM q, hd, U, CL]
  exact key _ 0 0 c (pM _) (pM _) rfl (by omega)
theorem Jh{o:List AG}{x}(h:o.length+1≤4398046511104):app 32 o [x]=some (o++[x]):=by
 unfold app;rw[ne (by simp;omega)]
def E3(x y:AG)(o:List AG):List AG:=if y.Name=[] then o++[x] else if y.Value=[] then o else o++[y]
theorem Vv(x y o):(E3 x y o).length≤o.length+1:=by unfold E3;split;simp;split<;>simp
theorem N0(c:List AG)(x y:AG)(h:c.length+1≤4398046511104):JE c x y=some (E3 x y c):=by
 unfold JE E3
 rw[Jh h,Jh h]
 by_cases j:y.Name=[]<;>by_cases l:y.Value=[]<;>simp[j,l]
theorem Vb(x y:AG):x=y↔x.Name=y.Name∧x.Value=y.Value:=by cases x;cases y;simp
theorem Xa(a b:List AG) i j(o:List AG)(M:a.length+b.length≤4398046511104)(U:i≤a.length)(V:j≤b.length)(X:o.length+(a.length-i)+(b.length-j)≤4398046511104):OA a b i j o=P7 E3 a b i j o:=by
 unfold OA P7
 by_cases l:i<a.length
 ·rw[ne (by simp;omega),ne (.inl l),Ag l]
  have A:decide ((i:Int)<(a.length:Int))=true:=by simp;omega
  have B:decide ((i:Int)=(a.length:Int))=false:=by simp;omega
  rw[A,B]
  by_cases m:j<b.length
  ·have w:decide ((j:Int)=(b.length:Int))=false:=by simp;omega
   rw[w,Ag m]
   simp only[oq,oS,qo,Ap,AD,ox]
   rw[N0 _ _ _ (by omega),N0 _ _ _ (by omega),N0 _ _ _ (by omega)]
   simp only[AD]
   rw[Aq (by omega),Aq (by omega)]
   simp only[AD]
   have q:¬ j=b.length:=by omega
   have C:¬ i=a.length:=by omega
   simp only[q,C,l,rE,false_or];rfl
  ·have E:j=b.length:=by omega
   have w:decide ((j:Int)=(b.length:Int))=true:=by simp;omega
   rw[w]
   have F:((true==false)&&(true==true))=false:=rfl
   rw[F]
   simp only[Cs,AD,q8]
   rw[ne trivial,ne (.inl E),N0 _ _ _ (by omega),AD,Aq (by omega),AD];rfl
 ·have I:i=a.length:=by omega
  have A:decide ((i:Int)<(a.length:Int))=false:=by simp;omega
  have B:decide ((i:Int)=(a.length:Int))=true:=by simp;omega
  rw[A,B]
  by_cases m:j<b.length
  ·have w:decide ((j:Int)=(b.length:Int))=false:=by simp;omega
   have J:decide ((j:Int)<(b.length:Int))=true:=by simp;omega
   have q:¬ j=b.length:=by omega
   rw[w,J,ne (by rfl),ne (.inr m),Ag m]
   have F:((false==false)&&(false==true))=false:=rfl
   have O:((true==false))=false:=rfl
   rw[F,O]
   simp only[Cs,AD,ox,pt,q8,qj,pR,qE]
   have T:¬ (j=b.length∨i<a.length∧Av a[i]!.Name b[j]!.Name=true):=by
    intro h;rcases h with h | h
    ·exact q h
    ·exact l h.1
   rw[nd T,ne (.inl I),N0 _ _ _ (by omega),AD,Aq (by omega),AD];rfl
  ·have J:decide ((j:Int)<(b.length:Int))=false:=by simp;omega
   rw[J,nd (by decide),nd (by omega)]
theorem Zt(c a b:List AG)(h:c.length+a.length+b.length≤4398046511104):M4 c a b=some (CL E3 a b c):=by
 unfold M4
 rw[cO E3 a b c 4398046511104 Vv (λi j o l m q=>Xa a b i j o (by omega) l m q) h];rfl
theorem Z5(a b:List AG)(h:a.length+b.length≤4398046511104):LT a b=some (CL E3 a b []):=by
 unfold LT;rw[Zt [] a b (by simpa using h)];rfl
theorem RP(a b:List AG)(B:a.length≤9223372036854775807):KA a b=some (decide (a=b)):=by
 unfold KA
 by_cases m:a.length=b.length
 ·rw[nd (by simp[m]),Bu (n:=a.length) (λk=>if decide (a[k]! = b[k]!) then none else some false) (λk w=>by
   unfold NJ
   rw[ne (by simpa using w),Ag w,Ag (by omega),AD,AD,Aq (by omega)]
   generalize a[k]! = x
   generalize b[k]! = y
   by_cases h:x=y
   ·subst h;simp[B2]
   ·have A:=h;rw[Vb] at A
    simp only[ng h,Bool.and_true]
    by_cases j:x.Name=y.Name
    ·have q:¬ x.Value=y.Value:=λe=>A ⟨j,e⟩
     simp[j,q,B2]
    ·simp[j,B2]) (by unfold NJ;rw[nd (by simp)]),I4,Eb]
  by_cases h:a=b
  ·subst h;simp
  ·rw[ng h]
   have:((List.range a.length).all λk=>decide (a[k]! = b[k]!))=false:=by
    rw[← oV,oH]
    intro l
    apply h
    apply qr m
    intro k j q
    have:=l k (oL.2 j)
    simp only[ni] at this
    rwa [nv a k j,nv b k q] at this
   rw[this];rfl
 ·rw[ne (by simp;omega),ng (by rintro rfl;exact m rfl)]
theorem SA(a b:List AG)(B:a.length≤9223372036854775807):JQ a b=some (decide (a=b)):=by
 unfold JQ
 by_cases m:a.length=b.length
 ·rw[nd (by simp[m]),Bu (n:=a.length) (λk=>if decide (a[k]! = b[k]!) then none else some false) (λk w=>by
   unfold OC
   rw[ne (by simpa using w),Ag w,Ag (by omega),AD,AD,Aq (by omega)]
   generalize a[k]! = x
   generalize b[k]! = y
   by_cases h:x=y
   ·subst h;simp[B2]
   ·have A:=h;rw[Vb] at A
    simp only[ng h,Bool.and_true]
    by_cases j:x.Name=y.Name
    ·have q:¬ x.Value=y.Value:=λe=>A ⟨j,e⟩
     simp[j,q,B2]
    ·simp[j,B2]) (by unfold OC;rw[nd (by simp)]),I4,Eb]
  by_cases h:a=b
  ·subst h;simp
  ·rw[ng h]
   have:((List.range a.length).all λk=>decide (a[k]! = b[k]!))=false:=by
    rw[← oV,oH]
    intro l
    apply h
    apply qr m
    intro k j q
    have:=l k (oL.2 j)
    simp only[ni] at this
    rwa [nv a k j,nv b k q] at this
   rw[this];rfl
 ·rw[ne (by simp;omega),ng (by rintro rfl;exact m rfl)]
theorem hM{α β:Type}[Inhabited α]{f}(l:List α)(j:β→α→β)(I:β→Nat→Prop)(B:∀b k, k<l.length→I b k→I (j b l[k]!) (k+1))
 (C:∀b (k:Nat), k<l.length→I b k→f (b, (k:Int))=some (.inl (j b l[k]!, ((k+1:Nat):Int)))) (E:∀b, f (b, (l.length:Int))=some (.inr b)) (w:β) (F:I w 0):iter f (w, 0)=some (l.foldl j w) := by
  have key:∀(m k:Nat) (b:β), k+m=l.length→I b k→iter f (b, (k:Int))=some ((l.drop k).foldl j b) := by
    intro m
    induction m with
    | zero =>
      intro k b J _
      have:k=l.length := by omega
      subst this
      rw[BM (E b)];simp
    | succ m M =>
      intro k b J A
      have q:k<l.length := by omega
      rw[Br (C b k q A), M (k+1) _ (by omega) (B b k q A), oT q, pK, nv l k q]
  have := key l.length 0 w (by omega) F
  simpa using this
theorem bM{α β:Type}[Inhabited α]{f}(l:List α)(j:β→α→β)(I:β→Nat→Prop)(B:∀b k, k<l.length→I b k→I (j b l[k]!) (k+1))
 (C:∀b (k:Nat), k<l.length→I b k→f ((k:Int), b)=some (.inl (((k+1:Nat):Int), j b l[k]!))) (E:∀b, f ((l.length:Int), b)=some (.inr b)) (w:β) (F:I w 0):iter f (0, w)=some (l.foldl j w) := by
  have key:∀(m k:Nat) (b:β), k+m=l.length→I b k→iter f ((k:Int), b)=some ((l.drop k).foldl j b) := by
    intro m
    induction m with
    | zero =>
      intro k b J _
      have:k=l.length := by omega
      subst this
      rw[BM (E b)];simp
    | succ m M =>
      intro k b J A
      have q:k<l.length := by omega
      rw[Br (C b k q A), M (k+1) _ (by omega) (B b k q A), oT q, pK, nv l k q]
  have := key l.length 0 w (by omega) F
  simpa using this
theorem iY{α γ β:Type}[Inhabited α]{f}(l:List α)(j:γ × β→α→γ × β)(I:γ × β→Nat→Prop)(B:∀b k, k<l.length→I b k→I (j b l[k]!) (k+1))
 (C:∀c b (k:Nat), k<l.length→I (c, b) k→f (c, (k:Int), b)=some (.inl ((j (c, b) l[k]!).1, ((k+1:Nat):Int), (j (c, b) l[k]!).2))) (E:∀c b, f (c, (l.length:Int), b)=some (.inr (c, b))) (c0:γ) (w:β) (F:I (c0, w) 0) :
    iter f (c0, 0, w)=some (l.foldl j (c0, w)) := by
  have key:∀(m k:Nat) (b:γ × β), k+m=l.length→I b k→iter f (b.1, (k:Int), b.2)=some ((l.drop k).foldl j b) := by
    intro m
    induction m with
    | zero =>
      intro k b J _
      have:k=l.length := by omega
      subst this
      rw[BM (E _ _)];simp
    | succ m M =>
      intro k b J A
      have q:k<l.length := by omega
      rw[Br (C b.1 b.2 k q A), M (k+1) _ (by omega) (B b k q A), oT q, pK, nv l k q]
  have := key l.length 0 (c0, w) (by omega) F
  simpa using this
theorem VS a:Av a []=false:=by cases a<;>rfl
theorem FU:∀ {a b c:List UInt8},Av a b=true→Av b c=true→Av a c=true
 | _,[],_,h,_=>by rw[VS] at h;cases h
 | _,_::_,[],_,h=>by cases h
 | [],_::_,_::_,_,_=>rfl
 | a::x,b::y,c::z,h,k=>by
  rw[SZ] at h k ⊢
  simp only[nr,ni,np,beq_iff_eq,qR] at h k ⊢
  rcases h with h | ⟨rfl,h⟩<;>rcases k with k | ⟨rfl,k⟩
  ·left;omega
  ·left;exact h
  ·left;exact k
  ·right;exact⟨rfl,FU h k⟩
def Bp(l:List AG):Prop:=l.Pairwise λx y=>Av x.Name y.Name=true
def A6:List AG→List UInt8→Option AG
 | [],_=>none
 | x::l,n=>if x.Name=n then some x else A6 l n
theorem HV{l}{n}(h:∀e∈l,e.Name≠n):A6 l n=none:=by
 induction l with
 | nil=>rfl
 | cons x l j=>rw[A6,nd (h x (oE ..)),j λe m=>h e (ny _ m)]
theorem QT{l}{n}{e:AG}(h:A6 l n=some e):e.Name=n∧e∈l:=by
 induction l with
 | nil=>cases h
 | cons x l j=>
  rw[A6] at h
  split at h
  ·cases h;exact⟨‹_›,oE ..⟩
  ·exact⟨(j h).1,ny _ (j h).2⟩
theorem E2{a b}(h:Av a b=true):b≠a:=by rintro rfl;rw[Is] at h;cases h
theorem EW{x:AG}{l} : Bp (x::l)↔(∀e∈l,Av x.Name e.Name=true)∧Bp l:=px
theorem WU:∀ {l m:List AG},Bp l→Bp m→(∀n,A6 l n=A6 m n)→l=m
 | [],[],_,_,_=>rfl
 | [],y::m,_,_,h=>by have:=h y.Name;simp[A6] at this
 | x::l,[],_,_,h=>by have:=h x.Name;simp[A6] at this
 | x::l,y::m,F,I,h=>by
  have A:=EW.1 F
  have B:=EW.1 I
  have C:x.Name=y.Name:=by
   rcases j:Av x.Name y.Name with _ | _
   ·rcases q:Av y.Name x.Name with _ | _
    ·have:=Jj x.Name y.Name
     rw[j,q] at this
     simpa using this
    ·have:=h y.Name
     rw[A6,nd (E2 q),HV λe w=>E2 (FU q (A.1 e w)),A6,ne rfl] at this
     cases this
   ·have:=h x.Name
    rw[A6,ne rfl,A6,nd (E2 j),HV λe w=>E2 (FU j (B.1 e w))] at this
    cases this
  have J:x=y:=by
   have:=h x.Name
   rw[A6,ne rfl,A6,ne C.symm] at this
   exact n8 this
  subst J
  rw[WU A.2 B.2 λn=>?_]
  by_cases E:x.Name=n
  ·subst E
   rw[HV λe w=>E2 (A.1 e w),HV λe w=>E2 (B.1 e w)]
  ·have:=h n
   rwa [A6,nd E,A6,nd E] at this
def Cu:List AG→AG→List AG
 | [],a=>[a]
 | x::l,a=>if x.Name=a.Name then a::l else if Av x.Name a.Name=true then x::Cu l a else a::x::l
theorem eV{l}{a e}(h:e∈Cu l a):e=a∨e∈l:=by
 induction l with
 | nil=>simpa[Cu] using h
 | cons x l j=>
  rw[Cu] at h
  split at h
  ·rcases oP.1 h with h | h
   ·exact .inl h
   ·exact .inr (ny _ h)
  ·split at h
   ·rcases oP.1 h with h | h
    ·exact .inr (h ▸ oE ..)
    ·rcases j h with h | h
     ·exact .inl h
     ·exact .inr (ny _ h)
   ·rcases oP.1 h with h | h
    ·exact .inl h
    ·exact .inr h
theorem Ra{a b}(j:a≠b)(l:¬ Av a b=true):Av b a=true:=by
 have:=Jj a b
 rw[qB.2 l,ng j] at this
 simpa using this
theorem WL{l}(a:AG)(h:Bp l):Bp (Cu l a):=by
 induction l with
 | nil=>simp[Cu,Bp]
 | cons x l B=>
  have q:=EW.1 h
  rw[Cu]
  split
  ·rename_i A;exact EW.2 ⟨λe j=>by rw[← A];exact q.1 e j,q.2⟩
  ·rename_i A
   split
   ·rename_i m
    exact EW.2 ⟨λe j=>by rcases eV j with rfl | j;exact m;exact q.1 e j,B q.2⟩
   ·rename_i m
    have w:=Ra A m
    exact EW.2 ⟨λe j=>by rcases oP.1 j with rfl | j;exact w;exact FU w (q.1 e j),h⟩
theorem Rb l(a:AG) n:A6 (Cu l a) n=if a.Name=n then some a else A6 l n:=by
 induction l with
 | nil=>simp[Cu,A6]
 | cons x l m=>
  rw[Cu]
  split
  ·rename_i j
   rw[A6,A6]
   by_cases h:a.Name=n
   ·rw[ne h,ne h]
   ·rw[nd h,nd h,nd (by rw[j];exact h)]
  ·rename_i j
   split
   ·rw[A6,A6,m]
    by_cases h:a.Name=n
    ·rw[ne h,nd (by rw[← h];exact j),ne h]
    ·rw[nd h,nd h]
   ·rw[A6]
theorem Wq(l:List AG) a:(Cu l a).length≤l.length+1:=by
 induction l with
 | nil=>simp[Cu]
 | cons x l j=>rw[Cu];split;simp;split;simp;omega;simp
def Dr(a:AG)(s:Bool × List AG)(x:AG):Bool × List AG:=
 let j:=if s.1=false∧Av x.Name a.Name=false then(true,s.2++[a]) else s
 if x.Name=a.Name then j else(j.1,j.2++[x])
theorem SH(a:AG):∀(l:List AG) (o:List AG),(∀e∈l,Av a.Name e.Name=true)→l.foldl (Dr a) (true,o)=(true,o++l)
 | [],o,_=>by simp
 | x::l,o,h=>by
  have j:=h x (oE ..)
  have:Dr a (true,o) x=(true,o++[x]):=by simp[Dr,E2 j]
  rw[pK,this,SH a l _ λe m=>h e (ny _ m)]
  simp
theorem Tw(a:AG):∀(l:List AG) (o:List AG),Bp l→(let s:=l.foldl (Dr a) (false,o);if s.1 then s.2 else s.2++[a])=o++Cu l a
 | [],o,_=>by simp[Cu]
 | x::l,o,h=>by
  have q:=EW.1 h
  rw[pK,Cu]
  by_cases m:x.Name=a.Name
  ·have B:Av x.Name a.Name=false:=by rw[m];exact Is _
   have:Dr a (false,o) x=(true,o++[a]):=by simp[Dr,m,Is]
   rw[this,SH a l _ λe w=>by rw[← m];exact q.1 e w,ne m]
   simp
  ·by_cases j:Av x.Name a.Name=true
   ·have:Dr a (false,o) x=(false,o++[x]):=by simp[Dr,m,j]
    rw[this,Tw a l _ q.2,nd m,ne j]
    simp
   ·have A:=Ra m j
    have:Dr a (false,o) x=(true,o++[a]++[x]):=by simp[Dr,m,qB.2 j]
    rw[this,SH a l _ λe w=>FU A (q.1 e w),nd m,nd j]
    simp
theorem TU(a:AG) s(x:AG):(Dr a s x).2.length≤s.2.length+2:=by
 unfold Dr
 have:(if s.1=false∧Av x.Name a.Name=false then(true,s.2++[a]) else s).2.length≤s.2.length+1:=by split<;>simp
 generalize (if s.1=false∧Av x.Name a.Name=false then(true,s.2++[a]) else s)=t at this
 by_cases j:x.Name=a.Name
 ·simp only[j,qj];omega
 ·simp only[j,qE,oW,pz];omega
theorem ls(l:List AG)(a:AG)(C:Bp l)(h:l.length≤1099511627776):Jf l a=some (Cu l a):=by
 unfold Jf
 rw[iY l (Dr a) (λs k=>s.2.length≤2 * k) (λb k _ w=>by have:=TU a b l[k]!;show(Dr a b l[k]!).2.length≤_;omega) (λc b k A w=>by
  have E:b.length≤2 * k:=w
  unfold N5
  rw[ne (by simpa using A),Ag A,Aq (by omega)]
  simp only[AD]
  generalize l[k]! = x
  have F:app 32 b [a]=some (b++[a]):=Jh (by omega)
  have B:app 32 b [x]=some (b++[x]):=Jh (by omega)
  have I:app 32 (b++[a]) [x]=some (b++[a]++[x]):=Jh (by simp;omega)
  cases c
  ·simp only[ph,oq,Ap,AD,oS]
   unfold Dr
   cases M:Av x.Name a.Name
   ·by_cases q:x.Name=a.Name<;>simp[F,I,q]
   ·by_cases q:x.Name=a.Name<;>simp[B,q]
  ·have:((!true)==true)=false:=rfl
   rw[this,Cs]
   simp only[AD,p8,pt,pR,qE,Bv]
   unfold Dr
   by_cases q:x.Name=a.Name<;>simp[B,q]) (λc b=>by unfold N5;rw[nd (by simp)]) false [] (by simp)]
 have hp:=Tw a l [] C
 have j:(l.foldl (Dr a) (false,([]:List AG))).2.length≤2 * l.length:=by
  have:∀(m:List AG) (s:Bool × List AG),(m.foldl (Dr a) s).2.length≤s.2.length+2 * m.length:=by
   intro m
   induction m with
   | nil=>intro s;simp
   | cons x m J=>intro s;rw[pK];have:=J (Dr a s x);have:=TU a s x;simp only[oY];omega
  have:=this l (false,[])
  simpa using this
 generalize l.foldl (Dr a) (false,([]:List AG))=s at hp j
 obtain⟨c,o⟩:=s
 simp only[Bv]
 cases c
 ·simp only[ph,qj]
  rw[Jh (by simp at j;omega)]
  simpa using hp
 ·simpa using hp
def DR(g:AG→AG→List AG):List AG→List AG→List AG
 | [],[]=>[]
 | x::a,[]=>g x Cq++DR g a []
 | [],y::b=>g Cq y++DR g [] b
 | x::a,y::b=>if Av x.Name y.Name then g x Cq++DR g a (y::b) else if Av y.Name x.Name then g Cq y++DR g (x::a) b else g x y++DR g a b
  termination_by a b=>a.length+b.length
theorem Z1 l g(h:∀x y o,l x y o=o++g x y):∀(m:Nat) (a b c:List AG),a.length+b.length=m→CL l a b c=c++DR g a b:=by
 intro m
 induction m using Nat.strongRecOn with
 | _ m q=>
  intro a b c j
  cases a with
  | nil=>
   cases b with
   | nil=>simp[CL,DR]
   | cons y b=>rw[CL,DR,q (m-1) (by simp at j;omega) [] b _ (by simp at j ⊢;omega),h];simp
  | cons x a=>
   cases b with
   | nil=>rw[CL,DR,q (m-1) (by simp at j;omega) a [] _ (by simp at j ⊢;omega),h];simp
   | cons y b=>
    rw[CL,DR]
    split
    ·rw[q (m-1) (by simp at j;omega) a (y::b) _ (by simp at j ⊢;omega),h];simp
    ·split
     ·rw[q (m-1) (by simp at j;omega) (x::a) b _ (by simp at j ⊢;omega),h];simp
     ·rw[q (m-2) (by simp at j;omega) a b _ (by simp at j ⊢;omega),h];simp
def QL(l:List AG)(n:List UInt8)(o:Option AG):Prop:=l=o.toList∧∀e,o=some e→e.Name=n
structure QB(g:AG→AG→List AG)(G:Option AG→Option AG→Option AG):Prop where
 l:∀x:AG,x.Name≠[]→QL (g x Cq) x.Name (G (some x) none)
 r:∀y:AG,y.Name≠[]→QL (g Cq y) y.Name (G none (some y))
 b:∀x y:AG,x.Name=y.Name→x.Name≠[]→QL (g x y) x.Name (G (some x) (some y))
 n:G none none=none
theorem hO{o:Option AG}{j}{rest}(A:∀e,o=some e→e.Name=j)(m:∀e∈rest,Av j e.Name=true)(q:Bp rest):Bp (o.toList++rest)∧∀n,A6 (o.toList++rest) n=if j=n then o else A6 rest n:=by
 cases o with
 | none=>
  refine⟨q,λn=>?_⟩
  split
  ·rename_i h;subst h;exact HV λe l=>E2 (m e l)
  ·rfl
 | some x=>
  have w:=A x rfl
  refine⟨EW.2 ⟨λe l=>by rw[w];exact m e l,q⟩,λn=>?_⟩
  show A6 (x::rest) n=_
  rw[A6,w]
def Nm(l:List AG):Prop:=∀e∈l,e.Name≠[]
theorem lh{g}{G}(hg:QB g G):∀(m:Nat) (a b:List AG),a.length+b.length=m→Bp a→Bp b→Nm a→Nm b →
  (∀n,(∀e∈a,Av n e.Name=true)→(∀e∈b,Av n e.Name=true)→∀e∈DR g a b,Av n e.Name=true)∧Bp (DR g a b)∧∀n,A6 (DR g a b) n=G (A6 a n) (A6 b n):=by
 intro m
 induction m using Nat.strongRecOn with
 | _ m ih=>
  intro a b U X V T M
  have tail:∀ {l:List AG} {J:List UInt8} {o:Option AG} {a' b':List AG},QL l J o→a'.length+b'.length<m→Bp a'→Bp b'→Nm a'→Nm b'→(∀e∈a',Av J e.Name=true)→(∀e∈b',Av J e.Name=true) →
    (∀n,Av n J=true→∀e∈l++DR g a' b',Av n e.Name=true)∧Bp (l++DR g a' b')∧∀n,A6 (l++DR g a' b') n=if J=n then o else G (A6 a' n) (A6 b' n):=by
   rintro l J o a' b' ⟨rfl,ho⟩ q Z a0 a1 a2 w C
   obtain⟨i1,i2,i3⟩:=ih _ q a' b' rfl Z a0 a1 a2
   obtain⟨j1,j2⟩:=hO ho (i1 J w C) i2
   refine⟨λn B e j=>?_,j1,λn=>by rw[j2 n,i3 n]⟩
   rcases pJ.1 j with j | j
   ·rw[Option.mem_toList] at j;rw[ho e j];exact B
   ·exact FU B (i1 J w C e j)
  cases a with
  | nil=>
   cases b with
   | nil=>exact⟨λn _ _ e j=>by simp[DR] at j,by simp[DR,Bp],λn=>by simp[DR,A6,hg.n]⟩
   | cons y b=>
    have w:=EW.1 V
    have hy:=M y (oE ..)
    rw[DR]
    obtain⟨E,F,I⟩:=tail (a':=[]) (b':=b) (hg.r y hy) (by simp at U ⊢;omega) X w.2 T (λe j=>M e (ny _ j)) (λe j=>by cases j) w.1
    refine⟨λn _ h e j=>E n (h y (oE ..)) e j,F,λn=>?_⟩
    rw[I n]
    conv=>rhs;rw[A6,A6]
    split
    ·rfl
    ·rfl
  | cons x a=>
   have w:=EW.1 X
   have hx:=T x (oE ..)
   cases b with
   | nil=>
    rw[DR]
    obtain⟨E,F,I⟩:=tail (a':=a) (b':=[]) (hg.l x hx) (by simp at U ⊢;omega) w.2 V (λe j=>T e (ny _ j)) M w.1 (λe j=>by cases j)
    refine⟨λn h _ e j=>E n (h x (oE ..)) e j,F,λn=>?_⟩
    rw[I n]
    conv=>rhs;rw[A6,A6]
    split
    ·rfl
    ·rfl
   | cons y b=>
    have C:=EW.1 V
    have hy:=M y (oE ..)
    rw[DR]
    split
    ·rename_i q
     obtain⟨E,F,I⟩:=tail (a':=a) (b':=y::b) (hg.l x hx) (by simp at U ⊢;omega) w.2 V (λe j=>T e (ny _ j)) M w.1 (λe j=>by
      rcases oP.1 j with rfl | j
      ·exact q
      ·exact FU q (C.1 e j))
     refine⟨λn h _ e j=>E n (h x (oE ..)) e j,F,λn=>?_⟩
     rw[I n]
     by_cases B:x.Name=n
     ·subst B
      rw[ne rfl,A6,ne rfl,HV λe j=>by
       rcases oP.1 j with rfl | j
       ·exact E2 q
       ·exact E2 (FU q (C.1 e j))]
     ·rw[nd B];conv=>rhs;rw[A6,nd B]
    ·rename_i q
     split
     ·rename_i A
      obtain⟨E,F,I⟩:=tail (a':=x::a) (b':=b) (hg.r y hy) (by simp at U ⊢;omega) X C.2 T (λe j=>M e (ny _ j)) (λe j=>by
       rcases oP.1 j with rfl | j
       ·exact A
       ·exact FU A (w.1 e j)) C.1
      refine⟨λn _ h e j=>E n (h y (oE ..)) e j,F,λn=>?_⟩
      rw[I n]
      by_cases B:y.Name=n
      ·subst B
       rw[ne rfl]
       conv=>rhs;rw[HV (l:=x::a) (λe j=>by
        rcases oP.1 j with rfl | j
        ·exact E2 A
        ·exact E2 (FU A (w.1 e j))),A6,ne rfl]
      ·rw[nd B];conv=>rhs;arg 2;rw[A6,nd B]
     ·rename_i A
      have O:x.Name=y.Name:=by
       have:=Jj x.Name y.Name
       rw[qB.2 q,qB.2 A] at this
       simpa using this
      obtain⟨E,F,I⟩:=tail (a':=a) (b':=b) (hg.b x y O hx) (by simp at U ⊢;omega) w.2 C.2 (λe j=>T e (ny _ j)) (λe j=>M e (ny _ j)) w.1 (λe j=>by rw[O];exact C.1 e j)
      refine⟨λn h _ e j=>E n (h x (oE ..)) e j,F,λn=>?_⟩
      rw[I n]
      conv=>rhs;rw[A6,A6,← O]
      split<;>rfl
def HB:Option AG→Option AG→Option AG
 | o,none=>o
 | _,some y=>if y.Value=[] then none else some y
theorem Ua{j}{g}{G}(h:∀x y o,j x y o=o++g x y)(hg:QB g G){a b}(l:Bp a)(m:Bp b)(q:Nm a)(w:Nm b) :
  Bp (CL j a b [])∧∀n,A6 (CL j a b []) n=G (A6 a n) (A6 b n):=by
 rw[Z1 j g h _ a b [] rfl,og]
 exact(lh hg _ a b rfl l m q w).2
def Kt(x y:AG):List AG:=if y.Name=[] then [x] else if y.Value=[] then [] else [y]
theorem Uh:QB Kt HB:=by
 refine⟨λx m=>⟨by simp[Kt,HB,Cq],by rintro e ⟨⟩;rfl⟩,λy q=>⟨?_,?_⟩,λx y l m=>⟨?_,?_⟩,rfl⟩
 ·simp only[Kt,HB,nd q];split<;>rfl
 ·intro e j;simp only[HB] at j;split at j<;>cases j;rfl
 ·rw[l] at m;simp only[Kt,HB,nd m];split<;>rfl
 ·intro e j;simp only[HB] at j;split at j<;>cases j;exact l.symm
theorem V4(x y o):E3 x y o=o++Kt x y:=by unfold E3 Kt;split;rfl;split;simp;rfl
theorem jZ{l:List AG}(h:∀k,k+1<l.length→Av l[k]!.Name l[k+1]!.Name=true):Bp l:=by
 induction l with
 | nil=>exact List.Pairwise.nil
 | cons x l w=>
  have m:=w λk A=>by have:=h (k+1) (by simp;omega);simpa using this
  refine EW.2 ⟨λe j=>?_,m⟩
  cases l with
  | nil=>cases j
  | cons y l=>
   have q:Av x.Name y.Name=true:=by have:=h 0 (by simp);simpa using this
   rcases oP.1 j with rfl | j
   ·exact q
   ·exact FU q ((EW.1 m).1 e j)
theorem Je{l:List AG}{ch:Bool}(h:B4 l ch=0):Bp l∧Nm l∧(ch=false→∀e∈l,e.Value≠[]):=by
 have hn:∀k,k<l.length→ES l ch k=none:=by
  intro k hk
  unfold B4 at h
  cases hf:(List.range l.length).findSome? (ES l ch) with
  | none=>exact(Vs _ _).1 hf k hk
  | some r=>
   rw[hf] at h
   obtain⟨j,_,hj⟩:=ow hf
   exfalso
   unfold ES at hj
   simp only[oz] at h
   subst h
   repeat' split at hj
   all_goals simp at hj
 have hname:∀k,k<l.length→EI l[k]!.Name=true∧¬ (Da l[k]!.Value=false∧¬ (ch=true∧l[k]!.Value=[]))∧¬ (0<k∧Av l[k-1]!.Name l[k]!.Name=false):=by
  intro k hk
  have:=hn k hk
  unfold ES at this
  split at this
  ·cases this
  ·split at this
   ·cases this
   ·split at this
    ·cases this
    ·exact⟨by rcases hx:EI l[k]!.Name with _ | _;exact absurd hx (by assumption);rfl,‹_›,‹_›⟩
 refine⟨jZ λk hk=>?_,λe he=>?_,λhc e he=>?_⟩
 ·have:=(hname (k+1) hk).2.2
  rw[rF] at this
  simpa using this
 ·obtain⟨k,hk,rfl⟩:=ov.1 he
  have:=(hname k hk).1
  rw[nv l k hk] at this
  intro e0
  rw[e0] at this
  simp[EI] at this
 ·obtain⟨k,hk,rfl⟩:=ov.1 he
  have:=(hname k hk).2.1
  rw[nv l k hk,hc] at this
  intro e0
  apply this
  rw[e0]
  exact⟨rfl,by simp⟩
theorem WE(p:AG→Bool)(h:AG→AG)(j:∀x,(h x).Name=x.Name):∀(l o:List AG),Bp l→Bp o →
  Bp (l.foldl (λo x=>if p x then Cu o (h x) else o) o)∧∀n,A6 (l.foldl (λo x=>if p x then Cu o (h x) else o) o) n=match A6 l n with | some x=>if p x then some (h x) else A6 o n | none=>A6 o n
 | [],o,_,m=>⟨m,λn=>rfl⟩
 | x::l,o,B,m=>by
  have A:=EW.1 B
  have w:Bp (if p x then Cu o (h x) else o):=by split;exact WL _ m;exact m
  obtain⟨C,E⟩:=WE p h j l _ A.2 w
  refine⟨C,λn=>?_⟩
  rw[pK,E n,A6]
  by_cases q:x.Name=n
  ·subst q
   rw[ne rfl,HV λe F=>E2 (A.1 e F)]
   cases hp:p x
   ·simp[hp]
   ·simp[hp,Rb,j]
  ·rw[nd q]
   cases I:A6 l n with
   | some z => 
    cases hp:p x
    ·simp[hp]
    ·simp[hp,Rb,j,q]
   | none=>
    cases hp:p x
    ·simp[hp]
    ·simp[hp,Rb,j,q]
theorem iI(p:AG→Bool)(h:AG→AG)(l o:List AG):(l.foldl (λo x=>if p x then Cu o (h x) else o) o).length≤o.length+l.length:=by
 induction l generalizing o with
 | nil=>simp
 | cons x l j=>
  rw[pK]
  have m:=j (if p x then Cu o (h x) else o)
  have q:(if p x then Cu o (h x) else o).length≤o.length+1:=by split;exact Wq _ _;omega
  simp only[oY]
  omega
def FY(l o:List AG):List AG:=l.foldl (λo x=>if(λ_=>true) x then Cu o (id x) else o) o
theorem Qv{l o}(j:Bp l)(m:Bp o):Bp (FY l o)∧∀n,A6 (FY l o) n=match A6 l n with | some x=>some x | none=>A6 o n:=by
 obtain⟨q,w⟩:=WE (λ_=>true) id (λ_=>rfl) l o j m
 refine⟨q,λn=>?_⟩
 unfold FY
 rw[w n]
 cases A6 l n<;>simp
theorem Tp(l o:List AG):(FY l o).length≤o.length+l.length:=iI _ _ _ _
theorem V0{f}(l o:List AG)(q:Bp o)(C:o.length+l.length≤1099511627776)
 (w:∀b (k:Nat), k<l.length→f (b, (k:Int))=(AC (Jf b l[k]!) λo2 => AC (AS .i64 ((k:Int)+1)) λx => some (.inl (o2, x)))) (A:∀b, f (b, (l.length:Int))=some (.inr b)):iter f (o, 0)=some (FY l o) := by
  unfold FY
  refine hM l _ (λb k => Bp b∧b.length≤o.length+k) (λb k m ⟨j, B⟩ => ?_) (λb k m ⟨j, B⟩ => ?_) A o ⟨q, by omega⟩
  · have := Wq b l[k]!
    exact⟨WL _ j, by show(Cu b l[k]!).length≤_;omega⟩
  · rw[w b k m, ls b _ j (by omega), AD, Aq (by omega)];rfl
def Ei(l:List AG):List AG:=l.filter λa=>!(a.Value=[])
theorem mn{l}(h:Bp l):Bp (Ei l)∧∀n,A6 (Ei l) n=(A6 l n).filter λa=>!(a.Value=[]):=by
 induction l with
 | nil=>exact⟨List.Pairwise.nil,λn=>rfl⟩
 | cons x l C=>
  have w:=EW.1 h
  obtain⟨A,B⟩:=C w.2
  have j:∀e∈Ei l,Av x.Name e.Name=true:=λe q=>w.1 e (po.1 q).1
  by_cases m:x.Value=[]
  ·have:Ei (x::l)=Ei l:=by simp[Ei,m]
   rw[this]
   refine⟨A,λn=>?_⟩
   rw[A6]
   split
   ·rename_i E;subst E
    rw[HV λe q=>E2 (j e q)]
    simp[Option.filter,m]
   ·exact B n
  ·have:Ei (x::l)=x::Ei l:=by simp[Ei,m]
   rw[this]
   refine⟨EW.2 ⟨j,A⟩,λn=>?_⟩
   rw[A6,A6]
   split
   ·simp[Option.filter,m]
   ·exact B n
theorem jz(l q:List AG)(C:Bp l)(hc:Bp q)(h:l.length+q.length≤1099511627776):Ki l q=some (Ei (FY q (FY l []))):=by
 unfold Ki
 have B:Bp ([]:List AG):=List.Pairwise.nil
 have E:=(Qv C B).1
 have A:=Tp l []
 have F:=Tp q (FY l [])
 rw[V0 l [] B (by simp;omega) (λb k j=>by unfold Nn;rw[ne (by simpa using j),Ag j];rfl) (λb=>by unfold Nn;rw[nd (by simp)]),AD,
  V0 q _ E (by simp at A;omega) (λb k j=>by unfold Mp;rw[ne (by simpa using j),Ag j];rfl) (λb=>by unfold Mp;rw[nd (by simp)]),AD]
 generalize FY q (FY l [])=r at F
 rw[bM r (λo x=>if x.Value=[] then o else o++[x]) (λb k=>b.length≤k) (λb k j I=>by split;omega;simp;omega) (λb k j I=>by
  unfold OS
  rw[ne (by simpa using j),Ag j,AD,Aq (by simp at A;omega)]
  generalize r[k]! = x
  by_cases w:x.Value=[]
  ·simp[w]
  ·have:=Jh (o:=b) (x:=x) (by simp at A;omega)
   simp[w,this]) (λb=>by unfold OS;rw[nd (by simp)]) [] (by simp),AD]
 have:∀(m o:List AG),m.foldl (λo x=>if x.Value=[] then o else o++[x]) o=o++Ei m:=by
  intro m
  induction m with
  | nil=>intro o;simp[Ei]
  | cons x m J=>
   intro o
   rw[pK,J]
   by_cases w:x.Value=[]
   ·simp[w,Ei]
   ·simp[w,Ei]
 rw[this];rfl
theorem mW{l j}(w:B4 l false=0)(A:B4 j true=0):CL E3 l j []=Ei (FY j (FY l [])):=by
 obtain⟨m,B,v1⟩:=Je w
 obtain⟨q,C,_⟩:=Je A
 have E:Bp ([]:List AG):=List.Pairwise.nil
 obtain⟨F,I⟩:=Qv m E
 obtain⟨J,M⟩:=Qv q F
 obtain⟨O,T⟩:=mn J
 obtain⟨U,m2⟩:=Ua V4 Uh m q B C
 refine WU U O λn=>?_
 rw[m2,T,M,I]
 cases Z:A6 j n with
 | some y=>
  simp only[HB,Option.filter]
  by_cases V:y.Value=[]<;>simp[V]
 | none=>
  cases X:A6 l n with
  | some x=>simp[HB,Option.filter,v1 rfl x (QT X).2]
  | none=>simp[HB,A6,Option.filter]
theorem cN{ρ:Type}(g:AG→Option ρ)(l:List AG):(List.range l.length).findSome? (λk=>g l[k]!)=l.findSome? g:=by
 induction l with
 | nil=>rfl
 | cons a l j=>
  rw[oY,List.range_succ_eq_map,pE,List.findSome?_map,pE]
  have:(List.range l.length).findSome? ((λk=>g (a::l)[k]!) ∘ Nat.succ)=l.findSome? g:=by
   rw[← j];exact Wz λk _=>by simp
  rw[this]
  simp
theorem Yr{ρ:Type}(l:List AG)(n:List UInt8)(v:AG→ρ):(l.findSome? λx=>if x.Name=n then some (v x) else none)=(A6 l n).map v:=by
 induction l with
 | nil=>rfl
 | cons x l j=>
  rw[pE,A6]
  by_cases h:x.Name=n
  ·simp[h]
  ·simp[h,j]
theorem lM(l:List AG)(n:List UInt8):E8 l n=match A6 l n with | some x=>x.Value | none=>[]:=by
 unfold E8
 rw[cN (λx=>if x.Name=n then some x.Value else none) l,Yr l n (·.Value)]
 cases A6 l n<;>rfl
theorem mu j(h:∀x y o,(j x y o).length≤o.length+1):∀(m:Nat) (a b c:List AG),a.length+b.length=m→(CL j a b c).length≤c.length+m:=by
 intro m
 induction m using Nat.strongRecOn with
 | _ m q=>
  intro a b c l
  cases a with
  | nil=>
   cases b with
   | nil=>simp[CL]
   | cons y b=>rw[CL];have:=q (m-1) (by simp at l;omega) [] b (j Cq y c) (by simp at l ⊢;omega);have:=h Cq y c;simp at l;omega
  | cons x a=>
   cases b with
   | nil=>rw[CL];have:=q (m-1) (by simp at l;omega) a [] (j x Cq c) (by simp at l ⊢;omega);have:=h x Cq c;simp at l;omega
   | cons y b=>
    rw[CL]
    split
    ·have:=q (m-1) (by simp at l;omega) a (y::b) (j x Cq c) (by simp at l ⊢;omega);have:=h x Cq c;simp at l;omega
    ·split
     ·have:=q (m-1) (by simp at l;omega) (x::a) b (j Cq y c) (by simp at l ⊢;omega);have:=h Cq y c;simp at l;omega
     ·have:=q (m-2) (by simp at l;omega) a b (j x y c) (by simp at l ⊢;omega);have:=h x y c;simp at l;omega
theorem I9{σ β:Type}{f}(n:Nat)(R:Nat→σ→Prop)(Q:β→Prop)
 (A:∀k s, k<n→R k s→(∃j, f s=some (.inl j)∧R (k+1) j)∨(∃b, f s=some (.inr b)∧Q b))
 (B:∀s, R n s→∃b, f s=some (.inr b)∧Q b) {s} (C:R 0 s):∃b, iter f s=some b∧Q b := by
  have key:∀m k s, k+m=n→R k s→∃b, iter f s=some b∧Q b := by
    intro m
    induction m with
    | zero =>
      intro k s E l
      obtain rfl:k=n := by omega
      obtain⟨b, F, I⟩ := B s l
      exact⟨b, BM F, I⟩
    | succ m J =>
      intro k s E l
      rcases A k s (by omega) l with ⟨j, q, w⟩ | ⟨b, q, w⟩
      · obtain⟨b, M, O⟩ := J (k+1) j (by omega) w
        exact⟨b, by rw[Br q, M], O⟩
      · exact⟨b, BM q, w⟩
  exact key n 0 s (by omega) C
theorem dJ{α:Type}[Inhabited α]{l:List α}{k}(h:k<l.length):l.drop k=l[k]!::l.drop (k+1):=by
 rw[oT h,nv l k h]
theorem Mb{α:Type}[Inhabited α]{l:List α}{k}(h:k<l.length):l.take (k+1)=l.take k++[l[k]!]:=by
 rw[List.take_add_one,nj h,nv l k h];rfl
theorem B5{α:Type}[Inhabited α]{l:List α}{k}(h:k<l.length):l[k]! ∈ l:=by
 rw[nv l k h];exact oO h
theorem N7 x j l:Cm x j l=some ((j≤x)&&(x≤l)):=by
 unfold Cm
 rfl
theorem Fi{α σ β γ:Type}[Inhabited α]{f}(l:List α)(mk:γ→Nat→σ)(j:List α→γ→β)(I:Nat→γ→Prop)
 (B:∀k c, k<l.length→I k c→(∃q, f (mk c k)=some (.inl (mk q (k+1)))∧I (k+1) q∧j (l[k]!::l.drop (k+1)) c=j (l.drop (k+1)) q)∨f (mk c k)=some (.inr (j (l[k]!::l.drop (k+1)) c)))
 (C:∀c, I l.length c→f (mk c l.length)=some (.inr (j [] c))) (c:γ) (E:I 0 c) (s:σ) (F:s=mk c 0):iter f s=some (j l c) := by
  subst F
  have key:∀m k c, k+m=l.length→I k c→iter f (mk c k)=some (j (l.drop k) c) := by
    intro m
    induction m with
    | zero =>
      intro k c J w
      obtain rfl:k=l.length := by omega
      rw[List.drop_length]
      exact BM (C c w)
    | succ m M =>
      intro k c J w
      rw[dJ (by omega)]
      rcases B k c (by omega) w with ⟨q, A, O, T⟩ | A
      · rw[Br A, M (k+1) q (by omega) O, T]
      · exact BM A
  have := key l.length 0 c (by omega) E
  rwa [pu] at this
theorem VK(a b:List Int)(A:a.length≤9223372036854775807):KJ a b=some (decide (a=b)):=by
 unfold KJ
 by_cases l:a.length=b.length
 ·rw[nd (by simp[l]),Bu (n:=a.length) (λk=>if decide (a[k]! = b[k]!) then none else some false) (λk m=>by
   unfold MH
   rw[ne (by simpa using m),Ag m,Ag (by omega),AD,AD,Aq (by omega)]
   generalize a[k]! = x
   generalize b[k]! = y
   by_cases h:x=y
   ·subst h;simp[B2]
   ·simp[h,B2]) (by unfold MH;rw[nd (by simp)]),I4,Eb]
  by_cases h:a=b
  ·subst h;simp
  ·rw[ng h]
   have:((List.range a.length).all λk=>decide (a[k]! = b[k]!))=false:=by
    rw[← oV,oH]
    intro j
    apply h
    apply qr l
    intro k q w
    have:=j k (oL.2 q)
    simp only[ni] at this
    rwa [nv a k q,nv b k w] at this
   rw[this];rfl
 ·rw[ne (by simp;omega),ng (by rintro rfl;exact l rfl)]
theorem J7{o:List Int}{x}(h:o.length+1≤1099511627776):app 8 o [x]=some (o++[x]):=by
 unfold app;rw[ne (by simp;omega)]
def Gq(c:Int):Bool:=(c=9)||(c=10)||((32≤c)&&(c≤126))||((160≤c)&&(c≤55295))||((57344≤c)&&(c≤1114111))
def E6(x:AP):Int:=
 if(x.Char=0∧x.Ref=0)∨(x.Char≠0∧x.Ref≠0) then 4 else if(x.Char≠0∧Gq x.Char=false)∨(x.Ref≠0∧¬ (1≤x.Ref∧x.Ref≤1073741824)) then 2 else B4 x.Attrs false
def Gx(x:AP):Prop:=x.Attrs.length≤9223372036854775807∧HY x.Attrs
theorem VB c:Kb c=some (Gq c):=by
 unfold Kb Gq
 congr 1
 rw[oU]
 simp only[nr,np,ni]
 omega
theorem V1 c:Kn c=some (Gq c):=by
 unfold Kn Gq
 rw[N7,N7,N7]
 generalize decide (c=9)=j
 generalize decide (c=10)=l
 generalize ((32≤c)&&(c≤126))=a3
 generalize ((160≤c)&&(c≤55295))=a4
 generalize ((57344≤c)&&(c≤1114111))=a5
 cases j<;>cases l<;>cases a3<;>cases a4<;>cases a5<;>rfl
theorem U0(x:AP)(h:Gx x):Ng x=some (E6 x):=by
 unfold Ng E6
 rw[VB,Om _ h.2 h.1]
 by_cases c:x.Char=0
 ·by_cases r:x.Ref=0
  ·simp[c,r]
  ·by_cases q:1≤x.Ref∧x.Ref≤1073741824
   ·have j:¬ x.Ref<1:=by omega
    have l:¬ 1073741824<x.Ref:=by omega
    simp[c,r,q,j,l]
   ·have j:x.Ref<1∨1073741824<x.Ref:=by omega
    simp[c,r,q,j]
 ·by_cases r:x.Ref=0
  ·cases m:Gq x.Char<;>simp[c,r,m]
  ·simp[c,r]
theorem Wb(x:AP)(h:Gx x):NC x=some (E6 x):=by
 unfold NC E6
 rw[V1,RA _ _ h.2 h.1,N7]
 by_cases c:x.Char=0
 ·by_cases r:x.Ref=0
  ·simp[c,r]
  ·by_cases q:1≤x.Ref∧x.Ref≤1073741824
   ·simp[c,r,q]
   ·have j:((1≤x.Ref)&&(x.Ref≤1073741824))=false:=by rw[← oV];simpa using q
    simp[c,r,q,j]
 ·by_cases r:x.Ref=0
  ·cases l:Gq x.Char<;>simp[c,r,l]
  ·simp[c,r]
def HR(f:List AP)(k:Nat):Option Int:=if E6 f[k]! = 0 then none else some (E6 f[k]!)
def Sa(f:List AP):Int:=((List.range f.length).findSome? (HR f)).getD 0
def eE:List UInt8:=[104,105,100,100,101,110]
def Zn:List UInt8:=[111,110]
def ll:List UInt8:=[99,117,116]
def gM:List UInt8:=[97,100,100]
def BJ(x:AP)(mode:Int):Bool:=(E8 x.Attrs eE=Zn)||((mode=0)&&!(E8 x.Attrs ll=[]))||((mode=1)&&!(E8 x.Attrs gM=[]))
def seen(f:List AP)(mode:Int)(k:Nat):Bool:=!BJ f[k]! mode||((k+1=f.length)&&(f[k]!.Char=10))
def shown(f:List AP)(mode:Int)(k:Nat):List Int:=((List.range k).filter (seen f mode)).map λ(i:Nat)=>(i:Int)
theorem CI{p}[Decidable p](h:¬ p):(!decide p)=true:=by simp[h]
theorem DL{p}[Decidable p](h:p):¬ ((!decide p)=true):=by simp[h]
def Hr(l:List AG):Prop:=l.length≤1073741824∧HY l
inductive Un where
 | a (e:AP)
 | r (cut:Bool) (at_:List AG)
theorem WX{α:Type}{l:List α}{k:Nat}{x:α} : l.set ((k:Int).toNat) x=l.set k x:=by simp
theorem ij{α β:Type}[Inhabited α]{f}(l:List α)(g:α→β)(z:β)
 (h:∀(k:Nat) (out:List β), k<l.length→out.length=l.length→f ((k:Int), out)=some (.inl (((k+1:Nat):Int), out.set k (g l[k]!)))) (j:∀out, f ((l.length:Int), out)=some (.inr out)) :
    iter f (0, List.replicate l.length z)=some (l.map g) := by
  have key:∃r, iter f (0, List.replicate l.length z)=some r∧r=l.map g := by
    refine I9 l.length (λk q => q=((k:Int), (l.take k).map g++List.replicate (l.length - k) z)) _ ?_ ?_ (by simp)
    · rintro k q w rfl
      refine .inl ⟨_, h k _ w (by simp;omega), ?_⟩
      congr 1
      obtain⟨m, A⟩:∃m, l.length - k=m+1 := ⟨l.length - k - 1, by omega⟩
      rw[A, List.replicate_succ, Mb w, pZ, qy _ _ (by rw[oK, pL];omega), show l.length - (k+1)=m by omega]
      have:k - ((l.take k).map g).length=0 := by simp;omega
      rw[this, List.set_cons_zero, oo];rfl
    · rintro q rfl
      refine⟨_, j _, by simp⟩
  obtain⟨r, B, C⟩ := key
  rw[B, C]
theorem Rl{l:List AG}(h:l.length≤1073741824):app 32 [] l=some l:=by
 unfold app;rw[ne];rfl;simp;omega
theorem cF{α:Type}{n:Nat}(z:α)(h:n≤4294967296):mk 40 (n:Int) z=some (List.replicate n z):=by
 unfold mk;rw[ne (by omega)];simp
theorem YH(f:List AP)(l:f.length≤4294967296)(h:∀e∈f,Hr e.Attrs):Ms f=some f:=by
 unfold Ms
 rw[cF _ l,AD]
 have:=ij (f:=λ(a:Int × (List AP))=>IS f a.1 a.2) f id (AP.mk 0 0 []) (λk out j q=>by
  have m:=(h _ (B5 j)).1
  show IS f (k:Int) out=_
  unfold IS
  rw[ne (by simpa using j),Ag j,AD,Rl m,AD,Ag (by omega),AD,Aq (by omega),AD,WX]
  rfl) (λout=>by
  show IS f (f.length:Int) out=_
  unfold IS
  rw[nd (by simp)])
 rw[this,List.map_id];rfl
theorem cY{α:Type}(l:List α)(n:Int)(j:0≤n)(h:n≤l.length):Do l 0 n=some (l.take n.toNat):=by
 unfold Do;rw[ne (by omega)];simp
theorem kE(x y:AP)(h:x.Attrs.length≤1073741824):Mt x y=some (decide (x=y)):=by
 unfold Mt
 rw[SA _ _ (by omega)]
 obtain⟨j,l,m⟩:=x
 obtain⟨q,w,A⟩:=y
 by_cases B:j=q<;>by_cases C:l=w<;>by_cases E:m=A<;>simp[B,C,E,default]
theorem Su{α:Type}[Inhabited α][DecidableEq α]{a b:List α}(l:a.length=b.length)(h:((List.range a.length).all λk=>decide (a[k]! = b[k]!))=true):a=b:=by
 apply qr l
 intro k j m
 have:=oH.1 h k (oL.2 j)
 simp only[ni] at this
 rwa [nv a k j,nv b k m] at this
theorem S3{α:Type}[Inhabited α][DecidableEq α](a:List α):((List.range a.length).all λk=>decide (a[k]! = a[k]!))=true:=by
 rw[oH];intro k _;rw[nh rfl]
theorem lc(a b:List AP)(q:a.length≤9223372036854775806)(h:∀e∈a,e.Attrs.length≤1073741824):Lo a b=some (decide (a=b)):=by
 unfold Lo
 by_cases j:a.length=b.length
 ·rw[nd (by simp[j]),Bu (n:=a.length) (λk=>if decide (a[k]! = b[k]!) then none else some false) (λk l=>by
   unfold MO
   rw[ne (by simpa using l),Ag l,Ag (by omega),AD,AD,kE _ _ (h _ (B5 l)),AD,Aq (by omega)]
   generalize a[k]! = x
   generalize b[k]! = y
   by_cases h:x=y<;>simp[h,B2]) (by unfold MO;rw[nd (by simp)]),I4,Eb]
  by_cases h:a=b
  ·subst h;rw[S3,nh rfl];rfl
  ·rw[ng h]
   have:((List.range a.length).all λk=>decide (a[k]! = b[k]!))=false:=by
    rw[← oV];exact λm=>h (Su j m)
   rw[this];rfl
 ·rw[ne (by simp;omega),ng (by rintro rfl;exact j rfl)]
theorem SJ{κ}(j:∀a,a.Name.length+a.Value.length+1≤κ a){l:List AG}(q:(l.map κ).sum≤1048576):Hr l:=by
 have w:=LC (μ:=κ) (λa=>by have:=j a;omega) l
 refine⟨by omega,λa m=>?_⟩
 have A:=IE (μ:=κ) m
 have:=j a
 omega
theorem Xz{ν}{κ}(j:∀e,(e.Attrs.map κ).sum+1≤ν e)(l:∀a,a.Name.length+a.Value.length+1≤κ a){f:List AP}(q:(f.map ν).sum≤1048576):f.length≤1048576∧∀e∈f,Hr e.Attrs:=by
 have w:=LC (μ:=ν) (λe=>by have:=j e;omega) f
 refine⟨by omega,λe m=>SJ l ?_⟩
 have A:=IE (μ:=ν) m
 have:=j e
 omega
def W0:UD:=⟨[],0,0⟩
def Pf(f:List AP):Int:=if Sa f≠0 then Sa f else if f=[]∨f[f.length-1]!.Char≠10 then 11 else 0
theorem Yt{f}{k}{r}(h:HR f k=some r):r≠0:=by
 unfold HR at h
 split at h
 ·cases h
 ·rename_i j;cases h;exact j
theorem W8(f:List AP)(C:f.length≤1073741824):(Ay (some (DE ((List.range f.length).findSome? (HR f)))) λ(_:Unit)=>
  AC (gd ((true==true)&&((decide ((f.length:Int)=0))==false)) (AS .i64 ((f.length:Int)-1))) λ(q:Int)=>
  AC (gd ((true==true)&&((decide ((f.length:Int)=0))==false)) (AM f q)) λ(w:AP)=>
  if(true&&(((f.length:Int)=0)||(!(w.Char=10)))) then some (11:Int) else some 0)=some (Pf f):=by
 rw[Eb]
 unfold Pf Sa
 cases A:(List.range f.length).findSome? (HR f) with
 | some r=>
  have l:r≠0:=by
   obtain⟨k,B⟩:=ow A
   exact Yt B.2
  dsimp only [Option.getD]
  rw[ne l]
 | none=>
  dsimp only [Option.getD]
  rw[nd (by decide)]
  by_cases m:f=[]
  ·subst m;rfl
  ·have E:0<f.length:=pd.2 m
   have hd:decide ((f.length:Int)=0)=false:=ng (by omega)
   rw[hd,show((true==true)&&(false==false))=true from rfl,Ap,show((f.length:Int)-1)=((f.length-1:Nat):Int) by omega,CM (by omega) (by omega),AD,Ap,Ag (by omega),AD]
   by_cases j:f[f.length-1]!.Char=10
   ·rw[nd (by rw[nh j];decide),nd (λh=>h.elim m λh=>h j)]
   ·rw[ne (by rw[ng j];decide),ne (.inr j)]
theorem Td(f:List AP)(h:∀x∈f,Gx x)(l:f.length≤1073741824):Fg f true=some (Pf f):=by
 unfold Fg
 rw[Bu (n:=f.length) (HR f) (λk j=>by
  unfold KD HR
  rw[ne (by simpa using j),Ag j,AD,Aq (by omega),U0 _ (h _ (B5 j)),AD]
  by_cases e:E6 f[k]! = 0
  ·rw[nd (DL e),ne e];rfl
  ·rw[ne (CI e),nd e];rfl) (by unfold KD;rw[nd (by simp)])]
 exact W8 f l
theorem Ye(f:List AP)(h:∀x∈f,Gx x)(l:f.length≤1073741824):Im f true=some (Pf f):=by
 unfold Im
 rw[Bu (n:=f.length) (HR f) (λk j=>by
  unfold KB HR
  rw[ne (by simpa using j),Ag j,AD,Aq (by omega),Wb _ (h _ (B5 j)),AD]
  by_cases e:E6 f[k]! = 0
  ·rw[nd (DL e),ne e];rfl
  ·rw[ne (CI e),nd e];rfl) (by unfold KB;rw[nd (by simp)])]
 exact W8 f l
instance:Inhabited Un:=⟨.r false []⟩
def off(n:List UInt8):AG:=⟨n,[]⟩
theorem mt:Fx.length=256:=by decide +kernel
theorem Xf(s:List UInt8) k(j:k≤s.length):Do s (k:Int) (s.length:Int)=some (s.drop k):=by
 unfold Do
 rw[ne (by omega)]
 congr 1
 rw[qL (by simp),pH]
def Ir(t:Bool)(f:List AP)(k:Nat):Option Int:=if E6 f[k]! = 0 then(if t=false∧f[k]!.Ref=0 then some 8 else none) else some (E6 f[k]!)
theorem fO{x:AP}(h:E6 x=0):(x.Ref=0↔x.Char≠0):=by
 unfold E6 at h
 by_cases c:x.Char=0<;>by_cases r:x.Ref=0<;>simp[c,r] at h ⊢
theorem Wj(f:List AP)(h:∀x∈f,Gx x)(l:f.length≤1073741824):Fg f false=some (((List.range f.length).findSome? (Ir false f)).getD 0):=by
 unfold Fg
 rw[Bu (n:=f.length) (Ir false f) (λk j=>by
  unfold KD Ir
  rw[ne (by simpa using j),Ag j,AD,Aq (by omega),U0 _ (h _ (B5 j)),AD]
  generalize f[k]! = x
  by_cases e:E6 x=0
  ·rw[nd (DL e),ne e]
   by_cases r:x.Ref=0
   ·rw[ne (show(!false&&(x.Ref=0))=true by rw[nh r];rfl),ne ⟨rfl,r⟩];rfl
   ·rw[nd (show ¬ (!false&&(x.Ref=0))=true by rw[ng r];decide),nd (λh=>r h.2)];rfl
  ·rw[ne (CI e),nd e];rfl) (by unfold KD;rw[nd (by simp)])]
 cases (List.range f.length).findSome? (Ir false f)<;>rfl
theorem iN(f:List AP)(h:∀x∈f,Gx x)(q:f.length≤1073741824):Im f false=some (((List.range f.length).findSome? (Ir false f)).getD 0):=by
 unfold Im
 rw[Bu (n:=f.length) (Ir false f) (λk j=>by
  unfold KB Ir
  rw[ne (by simpa using j),Ag j,AD,Aq (by omega),Wb _ (h _ (B5 j)),AD]
  generalize f[k]! = x
  by_cases e:E6 x=0
  ·rw[nd (DL e),ne e]
   have m:=fO e
   by_cases r:x.Ref=0
   ·rw[ne (show(!false&&!(x.Char=0))=true by rw[ng (m.1 r)];rfl),ne ⟨rfl,r⟩];rfl
   ·have l:x.Char=0:=oF λl=>r (m.2 l)
    rw[nd (show ¬ (!false&&!(x.Char=0))=true by rw[nh l];decide),nd (λh=>r h.2)];rfl
  ·rw[ne (CI e),nd e];rfl) (by unfold KB;rw[nd (by simp)])]
 cases (List.range f.length).findSome? (Ir false f)<;>rfl
theorem io(f:List AP) t(h:∀x∈f,Gx x)(j:f.length≤1073741824):∃r,Fg f t=some r∧Im f t=some r:=by
 cases t
 ·exact⟨_,Wj f h j,iN f h j⟩
 ·exact⟨_,Td f h j,Ye f h j⟩
theorem fD(a b:List AP)(M:a.length≤9223372036854775806)(h:∀e∈a,e.Attrs.length≤1073741824):Sz a b=some (decide (a=b)):=by
 unfold Sz
 by_cases j:a.length=b.length
 ·rw[nd (by simp[j]),Bu (n:=a.length) (λk=>if decide (a[k]! = b[k]!) then none else some false) (λk l=>by
   unfold TD
   have O:=h _ (B5 l)
   rw[ne (by simpa using l),Ag l,Ag (by omega),AD,AD,RP _ _ (by omega),Aq (by omega)]
   generalize a[k]! = x
   generalize b[k]! = y
   obtain⟨m,q,w⟩:=x
   obtain⟨A,B,C⟩:=y
   by_cases E:m=A<;>by_cases F:q=B<;>by_cases I:w=C<;>simp[E,F,I,B2,default]) (by unfold TD;rw[nd (by simp)]),I4,Eb]
  by_cases h:a=b
  ·subst h;rw[S3,nh rfl];rfl
  ·rw[ng h]
   have:((List.range a.length).all λk=>decide (a[k]! = b[k]!))=false:=by
    rw[← oV];exact λJ=>h (Su j J)
   rw[this];rfl
 ·rw[ne (by simp;omega),ng (by rintro rfl;exact j rfl)]
theorem lK(f:List AP)(q:f.length≤1073741824):∃r,iter (λ(a:Int × (List Int))=>FD f a.1 a.2) (0,[])=some r∧r.length≤f.length:=by
 refine I9 f.length (λk l=>l.1=(k:Int)∧l.2.length≤k) _ ?_ ?_ ⟨rfl,by simp⟩
 ·rintro k ⟨x,out⟩ m ⟨rfl,j⟩
  dsimp only at j ⊢
  left
  unfold FD
  rw[ne (by simpa using m),Ag m,AD]
  by_cases r:f[k]!.Ref=0
  ·rw[nd (DL r),AD,Aq (by omega),AD]
   exact⟨_,rfl,rfl,by dsimp only;omega⟩
  ·rw[ne (CI r),J7 (by omega),AD,AD,Aq (by omega),AD]
   exact⟨_,rfl,rfl,by dsimp only;rw[List.length_append,List.length_singleton];omega⟩
 ·rintro⟨x,out⟩ ⟨rfl,j⟩
  dsimp only at j ⊢
  unfold FD
  rw[nd (by simp)]
  exact⟨_,rfl,j⟩
theorem Ik{α:Type}[Inhabited α][DecidableEq α]{f}(a b:List α)(j:a.length=b.length)
 (l:∀k:Nat, k<a.length→f k=B2 k (if decide (a[k]! = b[k]!) then none else some false)) (m:f a.length=some (.inr (.nrm ()))) :
    (Ay (iter f 0) λ(_:Unit) => some true)=some (decide (a=b)) := by
  rw[Bu (n := a.length) (λk => if decide (a[k]! = b[k]!) then none else some false) l m, I4, Eb]
  by_cases h:a=b
  · subst h;rw[S3, nh rfl];rfl
  · rw[ng h]
    have:((List.range a.length).all λk => decide (a[k]! = b[k]!))=false := by
      rw[← oV];exact λq => h (Su j q)
    rw[this];rfl
theorem Ti(x y:Ak):((x.Row=y.Row)&&((x.Col=y.Col)&&((x.H=y.H)&&((x.W=y.W)&&true))))=decide (x=y):=by
 obtain⟨j,l,m,q⟩:=x
 obtain⟨w,A,B,C⟩:=y
 rw[oU];simp
theorem Wg(x y:Au):((x.Clock=y.Clock)&&((x.Site=y.Site)&&((x.Kind=y.Kind)&&((x.Item=y.Item)&&((x.Parent=y.Parent)&&((x.Place=y.Place)&&((x.Name=y.Name)&&((x.Value=y.Value)&&true))))))))=decide (x=y):=by
 obtain⟨j,l,m,q,w,A,B,C⟩:=x
 obtain⟨E,F,I,J,M,O,T,U⟩:=y
 rw[oU];simp
theorem l8(a b:List Ak)(m:a.length≤9223372036854775806):Mr a b=some (decide (a=b)):=by
 unfold Mr
 by_cases j:a.length=b.length
 ·rw[nd (by simp[j])]
  exact Ik a b j (λk l=>by
   unfold MR
   rw[ne (by simpa using l),Ag l,Ag (by omega),AD,AD,Ti,Aq (by omega)]
   generalize a[k]! = x
   generalize b[k]! = y
   by_cases h:x=y<;>simp[h,B2]) (by unfold MR;rw[nd (by simp)])
 ·rw[ne (by simp;omega),ng (by rintro rfl;exact j rfl)]
theorem fj(a b:List Ak)(m:a.length≤9223372036854775806):No a b=some (decide (a=b)):=by
 unfold No
 by_cases j:a.length=b.length
 ·rw[nd (by simp[j])]
  exact Ik a b j (λk l=>by
   unfold Mn
   rw[ne (by simpa using l),Ag l,Ag (by omega),AD,AD,Ti,Aq (by omega)]
   generalize a[k]! = x
   generalize b[k]! = y
   by_cases h:x=y<;>simp[h,B2]) (by unfold Mn;rw[nd (by simp)])
 ·rw[ne (by simp;omega),ng (by rintro rfl;exact j rfl)]
theorem gy(a b:List Au)(m:a.length≤9223372036854775806):Rs a b=some (decide (a=b)):=by
 unfold Rs
 by_cases j:a.length=b.length
 ·rw[nd (by simp[j])]
  exact Ik a b j (λk l=>by
   unfold Q8
   rw[ne (by simpa using l),Ag l,Ag (by omega),AD,AD,Wg,Aq (by omega)]
   generalize a[k]! = x
   generalize b[k]! = y
   by_cases h:x=y<;>simp[h,B2]) (by unfold Q8;rw[nd (by simp)])
 ·rw[ne (by simp;omega),ng (by rintro rfl;exact j rfl)]
theorem Z2(a b:List Au)(m:a.length≤9223372036854775806):MB a b=some (decide (a=b)):=by
 unfold MB
 by_cases j:a.length=b.length
 ·rw[nd (by simp[j])]
  exact Ik a b j (λk l=>by
   unfold Lu
   rw[ne (by simpa using l),Ag l,Ag (by omega),AD,AD,Wg,Aq (by omega)]
   generalize a[k]! = x
   generalize b[k]! = y
   by_cases h:x=y<;>simp[h,B2]) (by unfold Lu;rw[nd (by simp)])
 ·rw[ne (by simp;omega),ng (by rintro rfl;exact j rfl)]
theorem kj(x y:Am)(U:x.Attrs.length≤1073741824):Nl x y=some (decide (x=y)):=by
 unfold Nl
 rw[RP _ _ (by omega)]
 obtain⟨j,l,m,q,w⟩:=x
 obtain⟨A,B,C,E,F⟩:=y
 by_cases I:j=A<;>by_cases J:l=B<;>by_cases M:m=C<;>by_cases O:q=E<;>by_cases T:w=F<;>simp[I,J,M,O,T,gd,AD]
theorem cE(x y:Am)(U:x.Attrs.length≤1073741824):MK x y=some (decide (x=y)):=by
 unfold MK
 rw[SA _ _ (by omega)]
 obtain⟨j,l,m,q,w⟩:=x
 obtain⟨A,B,C,E,F⟩:=y
 by_cases I:j=A<;>by_cases J:l=B<;>by_cases M:m=C<;>by_cases O:q=E<;>by_cases T:w=F<;>simp[I,J,M,O,T,gd,AD]
theorem ml(a b:List Am)(m:a.length≤9223372036854775806)(h:∀x∈a,x.Attrs.length≤1073741824):M2 a b=some (decide (a=b)):=by
 unfold M2
 by_cases j:a.length=b.length
 ·rw[nd (by simp[j])]
  exact Ik a b j (λk l=>by
   unfold OL
   rw[ne (by simpa using l),Ag l,Ag (by omega),AD,AD,kj _ _ (h _ (B5 l)),AD,Aq (by omega)]
   generalize a[k]! = x
   generalize b[k]! = y
   by_cases h:x=y<;>simp[h,B2]) (by unfold OL;rw[nd (by simp)])
 ·rw[ne (by simp;omega),ng (by rintro rfl;exact j rfl)]
theorem mf(a b:List Am)(m:a.length≤9223372036854775806)(h:∀x∈a,x.Attrs.length≤1073741824):Lk a b=some (decide (a=b)):=by
 unfold Lk
 by_cases j:a.length=b.length
 ·rw[nd (by simp[j])]
  exact Ik a b j (λk l=>by
   unfold MG
   rw[ne (by simpa using l),Ag l,Ag (by omega),AD,AD,cE _ _ (h _ (B5 l)),AD,Aq (by omega)]
   generalize a[k]! = x
   generalize b[k]! = y
   by_cases h:x=y<;>simp[h,B2]) (by unfold MG;rw[nd (by simp)])
 ·rw[ne (by simp;omega),ng (by rintro rfl;exact j rfl)]
def Pu(g:A5):Prop:=g.Cells.length≤1048576∧g.Merges.length≤1048576∧∀x∈g.Cells,Hr x.Attrs
structure Mq(n:AX):Prop where
 at_:Hr n.Attrs
 fl:n.Flow.length≤1048576
 fa:∀e∈n.Flow,Hr e.Attrs
 gr:Pu n.Grid
 dr:n.Draw.length≤1048576
def Pt(d:AN):Prop:=d.Nodes.length≤1048576∧∀n∈d.Nodes,Mq n
theorem Oy x y(h:Pu x):Jg x y=some (decide (x=y)):=by
 obtain⟨l,m,j⟩:=h
 unfold Jg
 rw[l8 _ _ (by omega),ml _ _ (by omega) (λe q=>(j e q).1)]
 obtain⟨w,A,B,C⟩:=x
 obtain⟨E,F,I,J⟩:=y
 by_cases l:w=E<;>by_cases m:A=F<;>by_cases j:B=I<;>by_cases M:C=J<;>simp[l,m,j,M,gd,AD]
theorem Y2 x y(h:Pu x):Mi x y=some (decide (x=y)):=by
 obtain⟨l,m,j⟩:=h
 unfold Mi
 rw[fj _ _ (by omega),mf _ _ (by omega) (λe q=>(j e q).1)]
 obtain⟨w,A,B,C⟩:=x
 obtain⟨E,F,I,J⟩:=y
 by_cases l:w=E<;>by_cases m:A=F<;>by_cases j:B=I<;>by_cases M:C=J<;>simp[l,m,j,M,gd,AD]
theorem ip x y(h:Mq x):Sx x y=some (decide (x=y)):=by
 have ha:=h.at_.1
 have hf:=h.fl
 have hd:=h.dr
 unfold Sx
 rw[RP _ _ (by omega),fD _ _ (by omega) (λe j=>(h.fa e j).1),Oy _ _ h.gr,gy _ _ (by omega)]
 obtain⟨l,m,q,w,A,B⟩:=x
 obtain⟨C,E,F,I,J,M⟩:=y
 by_cases O:l=C<;>by_cases T:m=E<;>by_cases U:q=F<;>by_cases V:w=I<;>by_cases X:A=J<;>by_cases Z:B=M<;>simp[O,T,U,V,X,Z,gd,AD]
theorem jN x y(h:Mq x):Lr x y=some (decide (x=y)):=by
 have ha:=h.at_.1
 have hf:=h.fl
 have hd:=h.dr
 unfold Lr
 rw[SA _ _ (by omega),lc _ _ (by omega) (λe j=>(h.fa e j).1),Y2 _ _ h.gr,Z2 _ _ (by omega)]
 obtain⟨l,m,q,w,A,B⟩:=x
 obtain⟨C,E,F,I,J,M⟩:=y
 by_cases O:l=C<;>by_cases T:m=E<;>by_cases U:q=F<;>by_cases V:w=I<;>by_cases X:A=J<;>by_cases Z:B=M<;>simp[O,T,U,V,X,Z,gd,AD]
theorem nZ(a b:AN)(h:Pt a):Tb a b=some (decide (a.Nodes=b.Nodes)):=by
 unfold Tb Vt
 have m:=h.1
 by_cases j:a.Nodes.length=b.Nodes.length
 ·rw[nd (by simp[j]),Ik a.Nodes b.Nodes j (λk l=>by
   unfold Sm
   rw[ne (by simpa using l),Ag l,Ag (by omega),AD,AD,ip _ _ (h.2 _ (B5 l)),AD,Aq (by omega)]
   generalize a.Nodes[k]! = x
   generalize b.Nodes[k]! = y
   by_cases h:x=y<;>simp[h,B2]) (by unfold Sm;rw[nd (by simp)])]
  rfl
 ·rw[ne (by simp;omega),ng (λe=>j (by rw[e]))];rfl
theorem bJ(a b:AN)(h:Pt a):Nb a b=some (decide (a.Nodes=b.Nodes)):=by
 unfold Nb
 have m:=h.1
 by_cases j:a.Nodes.length=b.Nodes.length
 ·rw[nd (by simp[j]),Ik a.Nodes b.Nodes j (λk l=>by
   unfold Lw
   rw[ne (by simpa using l),Ag l,Ag (by omega),AD,AD,jN _ _ (h.2 _ (B5 l)),AD,Aq (by omega)]
   generalize a.Nodes[k]! = x
   generalize b.Nodes[k]! = y
   by_cases h:x=y<;>simp[h,B2]) (by unfold Lw;rw[nd (by simp)])]
 ·rw[ne (by simp;omega),ng (λe=>j (by rw[e]))]
theorem iO(g:A5)(A:g.Cells.length≤1048576)(h:∀x∈g.Cells,Hr x.Attrs):iter (λ(a:Int × A5)=>Ju g.Cells a.1 a.2) (0,g)=some g:=by
 have key:∃r,iter (λ(a:Int × A5)=>Ju g.Cells a.1 a.2) (0,g)=some r∧r=g:=by
  refine I9 g.Cells.length (λk l=>l=((k:Int),g)) _ ?_ ?_ rfl
  ·rintro k l j rfl
   left
   refine⟨_,?_,rfl⟩
   dsimp only
   unfold Ju
   have m:=(h _ (B5 j)).1
   rw[ne (by simpa using j),Ag j,AD,Rl m,AD,Aq (by omega),AD,WX]
   have q:g.Cells.set k (Am.mk g.Cells[k]!.Row g.Cells[k]!.Col g.Cells[k]!.Text g.Cells[k]!.Ref g.Cells[k]!.Attrs)=g.Cells:=by
    rw[show(Am.mk g.Cells[k]!.Row g.Cells[k]!.Col g.Cells[k]!.Text g.Cells[k]!.Ref g.Cells[k]!.Attrs)=g.Cells[k]! from rfl,nv g.Cells k j]
    exact List.set_getElem_self j
   rw[q]
  ·rintro l rfl
   refine⟨g,?_,rfl⟩
   dsimp only
   unfold Ju
   rw[nd (by simp)]
 obtain⟨r,w,rfl⟩:=key
 exact w
theorem RQ{α:Type} b(l:List α)(j:b≤128)(h:l.length≤1048576):app b ([]:List α) l=some l:=by
 unfold app
 rw[ne];rfl
 simp only[qJ,oQ]
 refine⟨?_,by omega⟩
 calc l.length * b≤1048576 * 128:=Nat.mul_le_mul h j
  _≤_:=by decide
theorem YO(n:AX)(h:Mq n):Mo n=some n:=by
 unfold Mo
 have hg:=h.gr
 have j:=h.fl
 rw[Rl h.at_.1,AD,YH _ (by omega) h.fa,AD,RQ _ _ (by decide) h.dr,AD,RQ _ _ (by decide) hg.2.1,AD,RQ _ _ (by decide) hg.1,AD]
 have:=iO n.Grid hg.1 hg.2.2
 rw[show(A5.mk n.Grid.Rows n.Grid.Cols n.Grid.Cells n.Grid.Merges)=n.Grid from rfl,this];rfl
theorem Qb{β:Type}(p:Nat→Bool)(F:Nat→β)(l:List Nat):(l.findSome? λk=>if p k then some (F k) else none)=(l.find? p).map F:=by
 induction l with
 | nil=>rfl
 | cons a l j=>rw[pE,List.find?_cons];by_cases h:p a=true<;>simp[h,j]
def CJ(l:List AX)(id:Int):Option Nat:=(List.range l.length).find? λk=>decide (l[k]!.ID=id)
theorem Fq{l:List AX}{id}{k}(h:CJ l id=some k):k<l.length∧l[k]!.ID=id:=by
 have j:=List.mem_of_find?_eq_some h
 have m:=List.find?_some h
 exact⟨oL.1 j,qC m⟩
theorem Sf(d:AN)(id:Int)(l:d.Nodes.length≤1048576):IL d id=some (match CJ d.Nodes id with | some k=>(k:Int) | none=>-1):=by
 unfold IL
 rw[Bu (n:=d.Nodes.length) (λk=>if decide (d.Nodes[k]!.ID=id) then some (k:Int) else none) (λk j=>by
  unfold NG
  rw[ne (by simpa using j),Ag j,AD,Aq (by omega)]
  by_cases h:d.Nodes[k]!.ID=id
  ·rw[ne (nh h),ne (nh h)];rfl
  ·rw[nd (by simpa using h),nd (by simpa using h)];rfl) (by unfold NG;rw[nd (by simp)]),Qb,Eb]
 unfold CJ
 cases (List.range d.Nodes.length).find? λk=>decide (d.Nodes[k]!.ID=id)<;>rfl
def Ff:AX:=AX.mk 1 0 [] [(AP.mk 0 2 [])] (A5.mk 0 0 [] []) []
def Ep:AX:=AX.mk 2 1 [] [(AP.mk 10 0 [])] (A5.mk 0 0 [] []) []
def Bx:AN:=AN.mk [Ff,Ep]
theorem bK:Gx (AP.mk 0 2 []):=⟨by decide,λa j=>by cases j⟩
theorem Xr:Gx (AP.mk 10 0 []):=⟨by decide,λa j=>by cases j⟩
theorem Q0:Pu (A5.mk 0 0 [] []):=⟨by decide,by decide,λa j=>by cases j⟩
theorem Pn:Hr []:=⟨by decide,λa j=>by cases j⟩
theorem eN:Pt Bx:=by
 refine⟨by decide,λn l=>?_⟩
 have:n=Ff∨n=Ep:=by simpa[Bx] using l
 rcases this with rfl | rfl
 ·exact⟨Pn,by decide,λe j=>by
   have:e=AP.mk 0 2 []:=by simpa[Ff] using j
   subst this;exact Pn,Q0,by decide⟩
 ·exact⟨Pn,by decide,λe j=>by
   have:e=AP.mk 10 0 []:=by simpa[Ep] using j
   subst this;exact Pn,Q0,by decide⟩
theorem Uw:I1 []=some 0:=by rw[Om _ (λa j=>by cases j) (by decide)];rfl
theorem lJ:Fg [AP.mk 0 2 []] false=some 0:=by
 rw[Wj _ (λx j=>by
  have:x=AP.mk 0 2 []:=by simpa using j
  subst this;exact bK) (by decide)]
 rfl
theorem cA:Fg [AP.mk 10 0 []] true=some 0:=by
 rw[Td _ (λx j=>by
  have:x=AP.mk 10 0 []:=by simpa using j
  subst this;exact Xr) (by decide)]
 rfl
theorem Wa:Jg (A5.mk 0 0 [] []) (A5.mk 0 0 [] [])=some true:=by rw[Oy _ _ Q0,nh rfl]
theorem aD:Cz Ff=some 0:=by
 unfold Cz Ff
 dsimp only
 rw[nd (by decide),nd (by decide),Uw,AD,nd (by decide)]
 have t:Gl 0=some false:=rfl
 have l:GG 0=some true:=rfl
 have g:FP 0=some false:=rfl
 have d:GC 0=some false:=rfl
 rw[t,l,g,d,Wa]
 show(AC (Fg [AP.mk 0 2 []] false) λ(j:Int)=>some j)=some 0
 rw[lJ];rfl
theorem mH:Cz Ep=some 0:=by
 unfold Cz Ep
 dsimp only
 rw[nd (by decide),nd (by decide),Uw,AD,nd (by decide)]
 have t:Gl 1=some true:=rfl
 have l:GG 1=some false:=rfl
 have g:FP 1=some false:=rfl
 have d:GC 1=some false:=rfl
 rw[t,l,g,d,Wa]
 show(AC (Fg [AP.mk 10 0 []] true) λ(j:Int)=>some j)=some 0
 rw[cA];rfl
theorem Gj:GX Ff=some [2]:=by
 unfold GX JC
 have j:(λ(a:Int × (List Int))=>EY Ff.Flow a.1 a.2) (0,[])=some (.inl (1,[2])):=by
  show EY [AP.mk 0 2 []] 0 []=_
  unfold EY;rfl
 have l:(λ(a:Int × (List Int))=>EY Ff.Flow a.1 a.2) (1,[2])=some (.inr [2]):=by
  show EY [AP.mk 0 2 []] 1 [2]=_
  unfold EY;rfl
 have m:(λ(a:Int × (List Int))=>Ds Ff a.1 a.2) (0,[2])=some (.inr [2]):=by
  show Ds Ff 0 [2]=_
  unfold Ds;rfl
 rw[Br j,BM l,AD,AD,BM m];rfl
theorem X2:GX Ep=some []:=by
 unfold GX JC
 have j:(λ(a:Int × (List Int))=>EY Ep.Flow a.1 a.2) (0,[])=some (.inl (1,[])):=by
  show EY [AP.mk 10 0 []] 0 []=_
  unfold EY;rfl
 have l:(λ(a:Int × (List Int))=>EY Ep.Flow a.1 a.2) (1,[])=some (.inr []):=by
  show EY [AP.mk 10 0 []] 1 []=_
  unfold EY;rfl
 have m:(λ(a:Int × (List Int))=>Ds Ep a.1 a.2) (0,[])=some (.inr []):=by
  show Ds Ep 0 []=_
  unfold Ds;rfl
 rw[Br j,BM l,AD,AD,BM m];rfl
theorem ge:FB Bx 2=some (1,true):=by
 unfold FB Lx
 have h1:(λ(a:Int × Int)=>Er Bx.Nodes 2 a.1 a.2) (0,(Bx.Nodes.length:Int))=some (.inl (0,1)):=by
  show Er Bx.Nodes 2 0 2=_
  unfold Er;decide +kernel
 have h2:(λ(a:Int × Int)=>Er Bx.Nodes 2 a.1 a.2) (0,1)=some (.inl (1,1)):=by
  show Er Bx.Nodes 2 0 1=_
  unfold Er;decide +kernel
 have h3:(λ(a:Int × Int)=>Er Bx.Nodes 2 a.1 a.2) (1,1)=some (.inr 1):=by
  show Er Bx.Nodes 2 1 1=_
  unfold Er;rfl
 rw[Br h1,Br h2,BM h3,AD];rfl
theorem gp:KG 0 1=some true:=by
 unfold KG
 rw[ne (by decide),AD]
 unfold Jo Nq
 have j:(λ(a:Int)=>IQ [1,6,7,10,11,12] 1 a) 0=some (.inr (.ext 0)):=by
  show IQ [1,6,7,10,11,12] 1 0=_
  unfold IQ;rfl
 rw[BM j];rfl
theorem X7:FV Bx 0 [2]=some 0:=by
 unfold FV
 have j:(λ(a:Int)=>EJ Bx 0 [2] a) 0=some (.inl 1):=by
  show EJ Bx 0 [2] 0=_
  unfold EJ
  rw[ne (by decide),show AM ([2]:List Int) 0=some 2 from rfl,AD,ge,Bv,nd (by decide),show AM Bx.Nodes 1=some Ep from rfl,AD,show Ep.Kind=1 from rfl,gp]
  rfl
 have l:(λ(a:Int)=>EJ Bx 0 [2] a) 1=some (.inr (.nrm ())):=by
  show EJ Bx 0 [2] 1=_
  unfold EJ;rfl
 rw[Br j,BM l];rfl
theorem fG:FV Bx 1 []=some 0:=by
 unfold FV
 have j:(λ(a:Int)=>EJ Bx 1 [] a) 0=some (.inr (.nrm ())):=by
  show EJ Bx 1 [] 0=_
  unfold EJ;rfl
 rw[BM j];rfl
theorem lG:ET Bx=some 0:=by
 unfold ET
 have j:(λ(a:Int)=>C0 Bx a) 0=some (.inl 1):=by
  show C0 Bx 0=_
  unfold C0
  rw[ne (by decide),show AM Bx.Nodes 0=some Ff from rfl,AD,aD];rfl
 have l:(λ(a:Int)=>C0 Bx a) 1=some (.inl 2):=by
  show C0 Bx 1=_
  unfold C0
  rw[ne (by decide),show AM Bx.Nodes 1=some Ep from rfl,AD,mH];rfl
 have a3:(λ(a:Int)=>C0 Bx a) 2=some (.inr (.nrm ())):=by
  show C0 Bx 2=_
  unfold C0;rfl
 have m:(λ(a:Int)=>D1 Bx a) 0=some (.inl 1):=by
  show D1 Bx 0=_
  unfold D1
  rw[ne (by decide),show AM Bx.Nodes 0=some Ff from rfl,AD,Gj,AD,show Ff.Kind=0 from rfl,X7];rfl
 have q:(λ(a:Int)=>D1 Bx a) 1=some (.inl 2):=by
  show D1 Bx 1=_
  unfold D1
  rw[ne (by decide),show AM Bx.Nodes 1=some Ep from rfl,AD,X2,AD,show Ep.Kind=1 from rfl,fG];rfl
 have w:(λ(a:Int)=>D1 Bx a) 2=some (.inr (.nrm ())):=by
  show D1 Bx 2=_
  unfold D1;rfl
 rw[nd (by decide),Br j,Br l,BM a3,Br m,Br q,BM w];rfl
theorem l7:Lm=some true:=by
 unfold Lm
 have j:O4=some Bx:=rfl
 have l:QP [AP.mk 10 0 []]=some Bx:=rfl
 have m:PK=some (AP.mk 10 0 []):=rfl
 rw[j,AD,lG,AD,ne (by decide),m,AD,l,AD,bJ _ _ eN,AD,AD,nh rfl]
 rfl
theorem dD{μ:AX→Nat}{γ:A5→Nat}{ψ:Am→Nat}{ρ:Ak→Nat}{δ:Au→Nat}{ν:AP→Nat}{κ:AG→Nat}
  (m:∀n,(n.Attrs.map κ).sum+(n.Flow.map ν).sum+γ n.Grid+(n.Draw.map δ).sum+1≤μ n) (hg:∀g,(g.Cells.map ψ).sum+(g.Merges.map ρ).sum+1≤γ g)
  (hc:∀c,(c.Attrs.map κ).sum+1≤ψ c) (w:∀r,1≤ρ r) (hd:∀o,1≤δ o) (A:∀e,(e.Attrs.map κ).sum+1≤ν e) (j:∀a,a.Name.length+a.Value.length+1≤κ a)
  {d:AN} (C:(d.Nodes.map μ).sum≤1048576):Pt d:=by
 have E:=LC (μ:=μ) (λn=>by have:=m n;omega) d.Nodes
 refine⟨by omega,λn B=>?_⟩
 have F:=IE (μ:=μ) B
 have I:=m n
 have J:=hg n.Grid
 have q:=Xz (ν:=ν) (κ:=κ) A j (f:=n.Flow) (by omega)
 have M:=LC (μ:=ψ) (λc=>by have:=hc c;omega) n.Grid.Cells
 have O:=LC (μ:=ρ) w n.Grid.Merges
 have T:=LC (μ:=δ) hd n.Draw
 refine⟨SJ j (by omega),q.1,q.2,⟨by omega,by omega,λc l=>SJ j ?_⟩,by omega⟩
 have U:=IE (μ:=ψ) l
 have:=hc c
 omega
theorem F6{n:Nat}(h:n<2147483648):IntKind.i32.wrap (n:Int)=(n:Int):=by
 have e:(n:Int) % (2 ^ (32:Nat):Int)=(n:Int):=rN (by omega) (by omega)
 show(if(true&&((n:Int) % (2 ^ (32:Nat):Int) ≥ (2 ^ (31:Nat):Int)))=true then(n:Int) % (2 ^ (32:Nat):Int)-(2 ^ (32:Nat):Int) else(n:Int) % (2 ^ (32:Nat):Int))=_
 rw[e,nd]
 simp only[oS,ni]
 omega
theorem Uv{n:Nat}(h:n<9223372036854775808):IntKind.i64.wrap (n:Int)=(n:Int):=by
 have e:(n:Int) % (2 ^ (64:Nat):Int)=(n:Int):=rN (by omega) (by omega)
 show(if(true&&((n:Int) % (2 ^ (64:Nat):Int) ≥ (2 ^ (63:Nat):Int)))=true then(n:Int) % (2 ^ (64:Nat):Int)-(2 ^ (64:Nat):Int) else(n:Int) % (2 ^ (64:Nat):Int))=_
 rw[e,nd]
 simp only[oS,ni]
 omega
theorem KW(i a b:Nat)(j:b<2 ^ i)(l:a * 2 ^ i+b<2147483648):D6 .i32 ((a * 2 ^ i:Nat):Int) (b:Int)=((a * 2 ^ i+b:Nat):Int):=by
 unfold D6
 have m:(BitVec.ofInt 32 ((a * 2 ^ i:Nat):Int) ||| BitVec.ofInt 32 (b:Int)).toNat=a * 2 ^ i+b:=by
  rw[BitVec.toNat_or,BitVec.ofInt_natCast,BitVec.ofInt_natCast,BitVec.toNat_ofNat,BitVec.toNat_ofNat,qp (by omega),qp (by omega)]
  rw[← Nat.shiftLeft_eq,Nat.shiftLeft_add_eq_or_of_lt j]
 show IntKind.i32.wrap ((BitVec.ofInt 32 ((a * 2 ^ i:Nat):Int) ||| BitVec.ofInt 32 (b:Int)).toNat:Int)=_
 rw[m];exact F6 l
theorem jx:∀b:Fin 256,CR .u8 ((b.val:Nat):Int) 31=((b.val % 32:Nat):Int):=by decide +kernel
theorem Yf:∀b:Fin 256,CR .u8 ((b.val:Nat):Int) 15=((b.val % 16:Nat):Int):=by decide +kernel
theorem hZ:∀b:Fin 256,CR .u8 ((b.val:Nat):Int) 7=((b.val % 8:Nat):Int):=by decide +kernel
theorem KT:∀b:Fin 256,CR .u8 ((b.val:Nat):Int) 63=((b.val % 64:Nat):Int):=by decide +kernel
theorem Kd(i a:Nat)(j:i≤32)(l:a * 2 ^ i<2147483648):DZ .i32 (a:Int) i=((a * 2 ^ i:Nat):Int):=by
 unfold DZ
 show IntKind.i32.wrap ((a:Int) * 2 ^ (min i 32))=_
 rw[Nat.min_eq_left j,show(a:Int) * 2 ^ i=((a * 2 ^ i:Nat):Int) by push_cast;rfl,F6 l]
theorem gu:∀c:Fin 256,Fx[c.val]! = (Lib.firstT c.val:Int):=by decide +kernel
theorem gZ:∀c:Fin 256,D6 .i32 (P8 .i32 (IntKind.i32.wrap (c.val:Int)) (FQ .i32 (DZ .i32 (IntKind.i32.wrap 241) 31) 31)) (CR .i32 65533 (FQ .i32 (DZ .i32 (IntKind.i32.wrap 241) 31) 31))=65533:=by decide +kernel
theorem YE:∀c:Fin 256,IntKind.i64.wrap (CR .u8 (Lib.firstT c.val:Int) 7)=((Lib.firstT c.val % 8:Nat):Int):=by decide +kernel
theorem YI:∀c:Fin 256,AM PX (FQ .u8 (Lib.firstT c.val:Int) 4)=some (Ha.mk (Lib.accLo (Lib.firstT c.val / 16)) (Lib.accHi (Lib.firstT c.val / 16))):=by decide +kernel
theorem jO:∀c:Fin 256,128≤c.val→Lib.firstT c.val=241∨(2≤Lib.firstT c.val % 8∧Lib.firstT c.val % 8≤4∧Lib.firstT c.val<240):=by decide +kernel
theorem bP(c d:Fin 256):D6 .i32 (DZ .i32 (IntKind.i32.wrap (CR .u8 ((c.val:Nat):Int) 31)) 6) (IntKind.i32.wrap (CR .u8 ((d.val:Nat):Int) 63))=((c.val % 32 * 64+d.val % 64:Nat):Int):=by
 rw[jx,KT,F6 (by omega),F6 (by omega),Kd 6 _ (by omega) (by omega),KW 6 _ _ (by omega) (by omega)]
theorem jC(c d e:Fin 256):D6 .i32 (D6 .i32 (DZ .i32 (IntKind.i32.wrap (CR .u8 ((c.val:Nat):Int) 15)) 12) (DZ .i32 (IntKind.i32.wrap (CR .u8 ((d.val:Nat):Int) 63)) 6)) (IntKind.i32.wrap (CR .u8 ((e.val:Nat):Int) 63)) =
  ((c.val % 16 * 4096+d.val % 64 * 64+e.val % 64:Nat):Int):=by
 rw[Yf,KT,KT,F6 (by omega),F6 (by omega),F6 (by omega),Kd 12 _ (by omega) (by omega),Kd 6 _ (by omega) (by omega),KW 12 _ _ (by omega) (by omega),
  show c.val % 16 * 2 ^ 12+d.val % 64 * 2 ^ 6=(c.val % 16 * 64+d.val % 64) * 2 ^ 6 by omega,KW 6 _ _ (by omega) (by omega)]
theorem fW(c d e f:Fin 256):D6 .i32 (D6 .i32 (D6 .i32 (DZ .i32 (IntKind.i32.wrap (CR .u8 ((c.val:Nat):Int) 7)) 18) (DZ .i32 (IntKind.i32.wrap (CR .u8 ((d.val:Nat):Int) 63)) 12)) (DZ .i32 (IntKind.i32.wrap (CR .u8 ((e.val:Nat):Int) 63)) 6)) (IntKind.i32.wrap (CR .u8 ((f.val:Nat):Int) 63)) =
  ((c.val % 8 * 262144+d.val % 64 * 4096+e.val % 64 * 64+f.val % 64:Nat):Int):=by
 rw[hZ,KT,KT,KT,F6 (by omega),F6 (by omega),F6 (by omega),F6 (by omega),Kd 18 _ (by omega) (by omega),Kd 12 _ (by omega) (by omega),Kd 6 _ (by omega) (by omega),KW 18 _ _ (by omega) (by omega),
  show c.val % 8 * 2 ^ 18+d.val % 64 * 2 ^ 12=(c.val % 8 * 64+d.val % 64) * 2 ^ 12 by omega,KW 12 _ _ (by omega) (by omega),
  show(c.val % 8 * 64+d.val % 64) * 2 ^ 12+e.val % 64 * 2 ^ 6=((c.val % 8 * 64+d.val % 64) * 64+e.val % 64) * 2 ^ 6 by omega,KW 6 _ _ (by omega) (by omega)]
theorem M0(s:List UInt8) k(h:k<s.length):s.getD k 0=s[k]!:=by
 rw[nv s k h,List.getD_eq_getElem?_getD,nj h];rfl
theorem eC(s:List UInt8)(h:s≠[])(j:128≤(s.getD 0 0).toNat):NF s=some (((Lib.decodeL s).1:Int),((Lib.decodeL s).2:Int)):=by
 have l:0<s.length:=pd.2 h
 rw[Lib.decodeL_N]
 unfold NF
 rw[nd (by rw[ni];omega),show(0:Int)=((0:Nat):Int) from rfl,Ag l,AD]
 rw[M0 s 0 l] at j ⊢
 generalize s[0]! = c at j ⊢
 obtain⟨C,hC⟩:∃C:Fin 256,C.val=c.toNat:=⟨⟨c.toNat,c.toNat_lt⟩,rfl⟩
 rw[← hC] at j ⊢
 rw[Ag (l:=Fx) (by rw[mt];exact C.isLt),AD,gu,YI,YE]
 rcases jO C j with B | ⟨m,q,w⟩
 ·rw[ne (by rw[ni];omega),Lib.bad_eq _ _ _ _ _ C.isLt B,B]
  show some (_,(1:Int))=_
  rw[show((241:Nat):Int)=241 from rfl,gZ C];rfl
 ·rw[nd (by rw[ni];omega),AD]
  have A:=Lib.slow_eq s.length C.val (s.getD 1 0).toNat (s.getD 2 0).toNat (s.getD 3 0).toNat l (UInt8.toNat_lt _) (UInt8.toNat_lt _) (UInt8.toNat_lt _) w
  rw[← A]
  generalize hsz:Lib.firstT C.val % 8=sz at m q ⊢
  generalize Lib.accLo (Lib.firstT C.val / 16)=V
  generalize Lib.accHi (Lib.firstT C.val / 16)=X
  unfold Lib.slowN
  by_cases I:s.length<sz
  ·rw[ne (by rw[ni];omega),ne I];rfl
  rw[nd (by rw[ni];omega),nd I,show(1:Int)=((1:Nat):Int) from rfl,Ag (by omega),AD,M0 s 1 (by omega)]
  generalize s[1]! = d
  obtain⟨D,Z⟩:∃D:Fin 256,D.val=d.toNat:=⟨⟨d.toNat,d.toNat_lt⟩,rfl⟩
  rw[← Z]
  by_cases J:D.val<V∨X<D.val
  ·rw[ne (by simp only[nr,ni];omega),ne J];rfl
  rw[nd (by simp only[nr,ni];omega),nd J]
  by_cases M:sz≤2
  ·rw[ne (by rw[ni];omega),ne M,bP];rfl
  rw[nd (by rw[ni];omega),nd M,show(2:Int)=((2:Nat):Int) from rfl,Ag (by omega),AD,M0 s 2 (by omega)]
  generalize s[2]! = e
  obtain⟨E,hE⟩:∃E:Fin 256,E.val=e.toNat:=⟨⟨e.toNat,e.toNat_lt⟩,rfl⟩
  rw[← hE]
  by_cases O:E.val<128∨191<E.val
  ·rw[ne (by simp only[nr,ni];omega),ne O];rfl
  rw[nd (by simp only[nr,ni];omega),nd O]
  by_cases T:sz≤3
  ·rw[ne (by rw[ni];omega),ne T,jC];rfl
  rw[nd (by rw[ni];omega),nd T,show(3:Int)=((3:Nat):Int) from rfl,Ag (by omega),AD,M0 s 3 (by omega)]
  generalize s[3]! = f
  obtain⟨F,hF⟩:∃F:Fin 256,F.val=f.toNat:=⟨⟨f.toNat,f.toNat_lt⟩,rfl⟩
  rw[← hF]
  by_cases U:F.val<128∨191<F.val
  ·rw[ne (by simp only[nr,ni];omega),ne U];rfl
  rw[nd (by simp only[nr,ni];omega),nd U,fW];rfl
theorem lV(s:List UInt8)(h:s≠[]):Md s=some (((Lib.decodeL s).1:Int),((Lib.decodeL s).2:Int)):=by
 have l:0<s.length:=pd.2 h
 unfold Md
 rw[ng h,show((!false)==true)=true from rfl,Ap,show(0:Int)=((0:Nat):Int) from rfl,Ag l,AD,ph,oS]
 by_cases m:(s[0]!).toNat<128
 ·rw[ne (by rw[ni];omega),AD,F6 (by omega)]
  obtain⟨c,t,rfl⟩:=List.exists_cons_of_ne_nil h
  have j:c.toNat<128:=m
  rw[Lib.decodeL_ascii c t j];rfl
 ·rw[nd (by rw[ni];omega),eC s h (by rw[M0 s 0 l];omega),Bv]
def F4(r:Nat):Bool:=(r=10)||!Gq (r:Int)
def HF:Nat→List UInt8→Bool
 | 0,_=>true
 | n+1,s=>if s=[] then true else if((Lib.decodeL s).1=65533∧(Lib.decodeL s).2=1)∨F4 (Lib.decodeL s).1=true then false else HF n (s.drop (Lib.decodeL s).2)
theorem TS n(s:List UInt8):HF (n+1) s=if s=[] then true else if((Lib.decodeL s).1=65533∧(Lib.decodeL s).2=1)∨F4 (Lib.decodeL s).1=true then false else HF n (s.drop (Lib.decodeL s).2):=rfl
def MA:Nat→List UInt8→Bool
 | 0,_=>true
 | n+1,s=>if s=[] then true else if F4 (Lib.decodeL s).1=true then false else MA n (s.drop (Lib.decodeL s).2)
theorem Vc n(s:List UInt8):MA (n+1) s=if s=[] then true else if F4 (Lib.decodeL s).1=true then false else MA n (s.drop (Lib.decodeL s).2):=rfl
theorem YC:∀(n:Nat) (s:List UInt8),s.length≤n→(Lib.validD s&&MA n s)=HF n s:=by
 intro n
 induction n with
 | zero=>intro s q;obtain rfl:=pb (Nat.le_zero.1 q);rfl
 | succ n w=>
  intro s q
  rw[TS,Vc]
  by_cases j:s=[]
  ·subst j;rfl
  ·have A:=Lib.decodeL_width s
   have B:=pd.2 j
   rw[nd j,nd j,Lib.validD_step s j]
   by_cases l:(Lib.decodeL s).1=65533∧(Lib.decodeL s).2=1
   ·rw[ne l,ne (show((Lib.decodeL s).1=65533∧(Lib.decodeL s).2=1)∨F4 (Lib.decodeL s).1=true from .inl l)];rfl
   ·rw[nd l]
    by_cases m:F4 (Lib.decodeL s).1=true
    ·rw[ne m,ne (.inr m),Bool.and_false]
    ·rw[nd m,nd (by rintro(h | h);exact l h;exact m h)]
     exact w _ (by rw[qs];omega)
theorem WS(r:Nat)(h:r≤1114111):IntKind.i64.wrap (r:Int)=(r:Int):=Uv (by omega)
theorem dP(s:List UInt8):M3 s=some (HF s.length s):=by
 unfold M3
 have key:∀(n:Nat) (s:List UInt8),s.length≤n→(Ay (iter (λ(a:(List UInt8))=>FH a) s) λ(_:Unit)=>some true)=some (HF n s):=by
  intro n
  induction n with
  | zero=>
   intro s hs
   obtain rfl:=pb (Nat.le_zero.1 hs)
   have h1:(λ(a:(List UInt8))=>FH a) []=some (.inr (.nrm ())):=by
    show FH []=_
    unfold FH;rfl
   rw[BM h1];rfl
  | succ n ih=>
   intro s hs
   rw[TS]
   by_cases hn:s=[]
   ·subst hn
    have h1:(λ(a:(List UInt8))=>FH a) []=some (.inr (.nrm ())):=by
     show FH []=_
     unfold FH;rfl
    rw[BM h1];rfl
   ·have hw:=Lib.decodeL_width s
    have hle:=Lib.decodeL_le s hn
    have hr:=Lib.decodeL_rune s
    have hstep:FH s=if((Lib.decodeL s).1=65533∧(Lib.decodeL s).2=1)∨F4 (Lib.decodeL s).1=true then some (.inr (.ext false)) else some (.inl (s.drop (Lib.decodeL s).2)):=by
     unfold FH F4
     rw[ne (CI hn),lV s hn,Bv,WS _ hr,VB]
     generalize (Lib.decodeL s).1=r at *
     generalize (Lib.decodeL s).2=w at *
     by_cases h1:r=65533∧w=1
     ·obtain⟨rfl,rfl⟩:=h1
      rw[ne (.inl ⟨rfl,rfl⟩)];rfl
     ·have e1:(((r:Int)=65533)&&((w:Int)=1))=false:=by
       rw[← oV,np,ni,ni];omega
      by_cases h2:r=10
      ·subst h2
       rw[ne (.inr (by rfl)),e1];rfl
      ·have e2:(decide ((r:Int)=10))=false:=ng (by omega)
       rw[e1,e2,ng h2]
       show(AC (gd true (some (Gq (r:Int)))) λ(r3:Bool)=>_)=_
       rw[Ap,AD,Xf s w hle,AD]
       cases Gq (r:Int)
       ·rw[ne (show(r=65533∧w=1)∨(false||!false)=true from .inr rfl)];rfl
       ·rw[nd (show ¬ ((r=65533∧w=1)∨(false||!true)=true) by rintro(h | h);exact h1 h;exact absurd h (by decide))];rfl
    by_cases hb:((Lib.decodeL s).1=65533∧(Lib.decodeL s).2=1)∨F4 (Lib.decodeL s).1=true
    ·rw[ne hb] at hstep
     rw[BM (f:=λ(a:(List UInt8))=>FH a) hstep,nd hn,ne hb];rfl
    ·rw[nd hb] at hstep
     rw[Br (f:=λ(a:(List UInt8))=>FH a) hstep,nd hn,nd hb]
     exact ih _ (by rw[qs];omega)
 exact key s.length s (nk _)
theorem Zo(s:List UInt8) p:Fh s p=Lib.decodeL (s.drop p):=(Lib.decodeL_drop ⟨s.toArray⟩ p).symm
theorem fz(s:List UInt8)(hs:s.length≤9223372036854775807):M5 s=some (HF s.length s):=by
 unfold M5 QE Od
 rw[ne hs,AD,← YC s.length s (nk _)]
 cases Lib.validD s with
 | false=>rfl
 | true=>
  rw[nd (by decide),oS]
  have key:∀(n p:Nat),s.length-p≤n→(Ay (iter (λ(a:(Nat))=>E4 s a) p) λ(_:Unit)=>some true)=some (MA n (s.drop p)):=by
   intro n
   induction n with
   | zero=>
    intro p hp
    have h1:(λ(a:(Nat))=>E4 s a) p=some (.inr (.nrm ())):=by
     show E4 s p=_
     unfold E4;rw[nd (by rw[ni];omega)]
    rw[BM h1];rfl
   | succ n ih=>
    intro p hp
    rw[Vc]
    by_cases hn:s.length≤p
    ·have h1:(λ(a:(Nat))=>E4 s a) p=some (.inr (.nrm ())):=by
      show E4 s p=_
      unfold E4;rw[nd (by rw[ni];omega)]
     rw[BM h1,ne (pN hn)];rfl
    ·have hne:s.drop p≠[]:=by
      intro e
      have:=n9 List.length e
      rw[qs,qJ] at this
      omega
     have hw:=Lib.decodeL_width (s.drop p)
     have hr:=Lib.decodeL_rune (s.drop p)
     have hstep:E4 s p=if F4 (Lib.decodeL (s.drop p)).1=true then some (.inr (.ext false)) else some (.inl (p+(Lib.decodeL (s.drop p)).2)):=by
      unfold E4 F4
      rw[ne (by rw[ni];omega),Zo,WS _ hr,V1]
      generalize (Lib.decodeL (s.drop p)).1=r at *
      generalize (Lib.decodeL (s.drop p)).2=w at *
      by_cases h2:r=10
      ·subst h2;rfl
      ·rw[ng h2,ng (show ¬ ((r:Int)=10) by omega)]
       show(AC (gd true (some (Gq (r:Int)))) λ(r3:Bool)=>_)=_
       rw[Ap,AD]
     rw[nd hne]
     by_cases hb:F4 (Lib.decodeL (s.drop p)).1=true
     ·rw[ne hb] at hstep
      rw[BM (f:=λ(a:(Nat))=>E4 s a) hstep,ne hb];rfl
     ·rw[nd hb] at hstep
      rw[Br (f:=λ(a:(Nat))=>E4 s a) hstep,nd hb,List.drop_drop]
      exact ih _ (by omega)
  have:=key s.length 0 (by omega)
  rw[pu] at this
  exact this
theorem TB{ρ:Type}{f g}{n}(I:Nat→Prop)(w:I 0)(h:∀k:Nat, k<n→I k→∃o:Option ρ, f k=B2 k o∧g k=B2 k o∧(o=none→I (k+1)))
 (A:f n=some (.inr (.nrm ()))) (hg:g n=some (.inr (.nrm ()))):∃o:Option ρ, iter f 0=some (DE o)∧iter g 0=some (DE o)∧(o=none→I n) := by
  have key:∀m k:Nat, k+m=n→I k→∃o:Option ρ, iter f (k:Int)=some (DE o)∧iter g (k:Int)=some (DE o)∧(o=none→I n) := by
    intro m
    induction m with
    | zero =>
      intro k B j
      obtain rfl:k=n := by omega
      exact⟨none, BM A, BM hg, λ_ => j⟩
    | succ m C =>
      intro k B j
      obtain⟨o, l, q, E⟩ := h k (by omega) j
      cases o with
      | some r => exact⟨some r, BM l, BM q, λe => by cases e⟩
      | none =>
        obtain⟨o, F, J, M⟩ := C (k+1) (by omega) (E rfl)
        exact⟨o, (Br l).trans F, (Br q).trans J, M⟩
  exact key n 0 (by omega) w
theorem O9 x y:F7 x y=some (if x<y then -1 else if y<x then 1 else 0):=by
 unfold F7 LA
 rw[nh (rfl:x=x),nh (rfl:y=y),AD,AD,nd (by decide),nd (by decide)]
 by_cases j:x<y
 ·rw[ne (nh j),ne j]
 ·rw[nd (by simpa using j),nd j]
  by_cases l:y<x
  ·rw[ne (nh l),ne l]
  ·rw[nd (by simpa using l),nd l]
theorem V3 a b:Ht [a,b]=some (if a≠0 then a else b):=by
 unfold Ht
 by_cases j:a≠0
 ·have m:(λ(x:Int)=>Dl [a,b] x) 0=some (.inr (.ext a)):=by
   show Dl [a,b] 0=_
   unfold Dl
   rw[ne (by simp),show AM [a,b] 0=some a from rfl,AD,ne (CI j)]
  rw[BM m,ne j];rfl
 ·have q:a=0:=oJ.1 j
  have m:(λ(x:Int)=>Dl [a,b] x) 0=some (.inl 1):=by
   show Dl [a,b] 0=_
   unfold Dl
   rw[ne (by simp),show AM [a,b] 0=some a from rfl,AD,nd (DL q)];rfl
  by_cases A:b≠0
  ·have w:(λ(x:Int)=>Dl [a,b] x) 1=some (.inr (.ext b)):=by
    show Dl [a,b] 1=_
    unfold Dl
    rw[ne (by simp),show AM [a,b] 1=some b from rfl,AD,ne (CI A)]
   rw[Br m,BM w,nd j];rfl
  ·have l:b=0:=oJ.1 A
   have w:(λ(x:Int)=>Dl [a,b] x) 1=some (.inl 2):=by
    show Dl [a,b] 1=_
    unfold Dl
    rw[ne (by simp),show AM [a,b] 1=some b from rfl,AD,nd (DL l)];rfl
   have B:(λ(x:Int)=>Dl [a,b] x) 2=some (.inr (.nrm ())):=by
    show Dl [a,b] 2=_
    unfold Dl
    rw[nd (by simp)]
   rw[Br m,Br w,BM B,nd j,l];rfl
def Bn(a b c d:Int):Int:=if a<b then -1 else if b<a then 1 else if c<d then -1 else if d<c then 1 else 0
theorem T7 a b c d:(if(if a<b then -1 else if b<a then 1 else 0)≠(0:Int) then(if a<b then -1 else if b<a then 1 else 0) else if c<d then -1 else if d<c then 1 else(0:Int))=Bn a b c d:=by
 unfold Bn
 by_cases j:a<b
 ·simp[j]
 ·by_cases l:b<a
  ·simp[j,l]
  ·simp[j,l]
theorem P9 a b c d:0≤Bn a b c d↔(b<a∨(b=a∧d≤c)):=by
 unfold Bn
 split
 ·constructor<;>intro h<;>omega
 ·split
  ·constructor<;>intro h<;>omega
  ·split
   ·constructor<;>intro h<;>omega
   ·split
    ·constructor<;>intro h<;>omega
    ·constructor<;>intro h<;>omega
theorem Z4(a b:Am):Kw a b=some (Bn a.Row b.Row a.Col b.Col):=by
 unfold Kw
 rw[O9,O9,AD,AD,V3,AD,T7]
theorem Dz x a b:Cm x a b=some (decide (a≤x∧x≤b)):=by
 rw[N7]
 congr 1
 rw[oU];simp
def Gy(j l:Int)(c:Am):Prop:=0≤c.Row∧c.Row<j∧0≤c.Col∧c.Col<l∧0≤c.Ref∧c.Ref≤1073741824
instance (rows cols:Int) (c:Am):Decidable (Gy rows cols c):=by unfold Gy;infer_instance
def IG(c:Am):Bool:=(c.Text=[])&&(c.Ref=0)&&(c.Attrs=[])
def Kv(l m:Int)(j:Bool)(c:Am):Int:=
 if ¬ Gy l m c then 2 else if HF c.Text.length c.Text=false then 23 else if B4 c.Attrs false≠0 then B4 c.Attrs false else if(!j&&IG c)=true then 4 else 0
def Hl(m q:Int)(j:Bool)(l:List Am)(k:Nat):Option Int:=
 if Kv m q j l[k]!≠0 then some (Kv m q j l[k]!) else if 0<k∧0≤Bn l[k-1]!.Row l[k]!.Row l[k-1]!.Col l[k]!.Col then some 5 else none
def IY(m q:Int)(j:Bool)(l:List Am):Int:=((List.range l.length).findSome? (Hl m q j l)).getD 0
theorem T1(l:List AG):decide ((l.length:Int)=0)=decide (l=[]):=by
 rw[oU,ni,ni,← pr];omega
def Oq(c:Am):Prop:=Hr c.Attrs∧c.Text.length≤1073741824
theorem YT(l:List Am) k(C:k<l.length)(E:l.length≤9223372036854775806) :
  (AC (gd ((decide (0<(k:Int)))==true) (AS .i64 ((k:Int)-1))) λ(q:Int)=>
   AC (gd ((decide (0<(k:Int)))==true) (AM l q)) λ(w:Am)=>
   AC (gd ((decide (0<(k:Int)))==true) (Kw w l[k]!)) λ(A:Int)=>
   if((0<(k:Int))&&(0≤A)) then(some (.inr (.ext 5)):Option (Int ⊕ (Ar Unit Int))) else(
    AC (AS .i64 ((k:Int)+1)) λ(B:Int)=>some (.inl B)))=B2 k (if 0<k∧0≤Bn l[k-1]!.Row l[k]!.Row l[k-1]!.Col l[k]!.Col then some 5 else none):=by
 by_cases m:0<k
 ·rw[nh (show(0:Int)<k by omega),show((true==true):Bool)=true from rfl,Ap,Et m (by omega),AD,Ap,Ag (by omega),AD,Ap,Z4,AD]
  by_cases j:0≤Bn l[k-1]!.Row l[k]!.Row l[k-1]!.Col l[k]!.Col
  ·rw[ne (show(true&&(0≤Bn l[k-1]!.Row l[k]!.Row l[k-1]!.Col l[k]!.Col))=true by rw[nh j];rfl),ne ⟨m,j⟩];rfl
  ·rw[nd (show ¬ (true&&(0≤Bn l[k-1]!.Row l[k]!.Row l[k-1]!.Col l[k]!.Col))=true by rw[ng j];decide),nd (λh=>j h.2),Aq (by omega)];rfl
 ·obtain rfl:k=0:=by omega
  rw[nd (show ¬ (0<0∧_) from λh=>absurd h.1 (by decide))];rfl
theorem iU j m w (l:List Am) (U:l.length≤1073741824) (M:∀c∈l,Oq c):Nf l j m w=some (IY j m w l):=by
 unfold Nf
 rw[Bu (n:=l.length) (Hl j m w l) (λk A=>by
  obtain⟨J,V⟩:=M _ (B5 A)
  have E:=YT l k A (by omega)
  unfold L0 Hl Kv
  rw[ne (by simpa using A),Ag A,AD]
  by_cases B:Gy j m l[k]!
  ·have F:=B
   unfold Gy at F
   rw[nd (by simp only[nr,ni];omega),nd (by simp only[nr,ni];omega),dP,AD,Om _ J.2 (by have:=J.1;omega),AD,E]
   rw[nd (oJ.2 B)]
   cases O:HF l[k]!.Text.length l[k]!.Text with
   | false=>rfl
   | true=>
    rw[nd (show ¬ ((!true)=true) by decide),nd (show ¬ (true=false) by decide)]
    by_cases q:B4 l[k]!.Attrs false=0
    ·rw[nd (DL q),nd (oJ.2 q)]
     have T:Mg l[k]! = some (IG l[k]!):=by unfold Mg IG;rw[T1]
     rw[T,AD]
     by_cases C:(!w&&IG l[k]!)=true
     ·rw[ne (by rw[Bool.and_comm];exact C),ne C];rfl
     ·rw[nd (by rw[Bool.and_comm];exact C),nd C,nd (show ¬ ((0:Int)≠0) from λh=>h rfl)]
    ·rw[ne (CI q),ne q,ne q];rfl
  ·rw[ne B]
   unfold Gy at B
   by_cases I:((((l[k]!.Row<0)||(j≤l[k]!.Row))||(l[k]!.Col<0))||(m≤l[k]!.Col))=true
   ·rw[ne I];rfl
   ·rw[nd I,ne (by simp only[nr,ni] at I ⊢;omega)];rfl) (by unfold L0;rw[nd (by simp)]),Ew]
 rfl
theorem bQ(l:List Am) k(J:k<l.length)(M:l.length≤9223372036854775806) :
  (AC (gd ((decide (0<(k:Int)))==true) (AS .i64 ((k:Int)-1))) λ(F:Int)=>
      AC (gd ((decide (0<(k:Int)))==true) (AM l F)) λ(j:Am)=>
      AC (gd ((((decide (0<(k:Int)))==true)&&((decide (l[k]!.Row<j.Row))==false))&&((decide (l[k]!.Row=j.Row))==true)) (AS .i64 ((k:Int)-1))) λ(I:Int)=>
      AC (gd ((((decide (0<(k:Int)))==true)&&((decide (l[k]!.Row<j.Row))==false))&&((decide (l[k]!.Row=j.Row))==true)) (AM l I)) λ(w:Am)=>
      if((0<(k:Int))&&((l[k]!.Row<j.Row)||((l[k]!.Row=j.Row)&&(l[k]!.Col≤w.Col)))) then(some (.inr (.ext 5)):Option (Int ⊕ (Ar Unit Int))) else(
       AC (AS .i64 ((k:Int)+1)) λ(A:Int)=>some (.inl A)))=B2 k (if 0<k∧0≤Bn l[k-1]!.Row l[k]!.Row l[k-1]!.Col l[k]!.Col then some 5 else none):=by
 have m:=P9 l[k-1]!.Row l[k]!.Row l[k-1]!.Col l[k]!.Col
 by_cases B:0<k
 ·rw[nh (show(0:Int)<k by omega),show((true==true):Bool)=true from rfl,Ap,Et B (by omega),AD,Ap,Ag (show k-1<l.length by omega),AD]
  by_cases q:l[k]!.Row<l[k-1]!.Row
  ·rw[nh q,ne (show 0<k∧0≤Bn l[k-1]!.Row l[k]!.Row l[k-1]!.Col l[k]!.Col from⟨B,m.2 (.inl q)⟩)];rfl
  ·by_cases C:l[k]!.Row=l[k-1]!.Row
   ·rw[ng q,nh C,show(((true&&(false==false))&&(true==true)):Bool)=true from rfl,Ap,AD,Ap,Ag (show k-1<l.length by omega),AD]
    by_cases E:l[k]!.Col≤l[k-1]!.Col
    ·rw[nh E,ne (show 0<k∧0≤Bn l[k-1]!.Row l[k]!.Row l[k-1]!.Col l[k]!.Col from⟨B,m.2 (.inr ⟨C,E⟩)⟩)];rfl
    ·rw[ng E,nd (show ¬ (0<k∧0≤Bn l[k-1]!.Row l[k]!.Row l[k-1]!.Col l[k]!.Col) from λh=>by have:=m.1 h.2;omega),Aq (by omega)];rfl
   ·rw[ng q,ng C,nd (show ¬ (0<k∧0≤Bn l[k-1]!.Row l[k]!.Row l[k-1]!.Col l[k]!.Col) from λh=>by have:=m.1 h.2;omega),Aq (by omega)];rfl
 ·obtain rfl:k=0:=by omega
  rw[nd (show ¬ (0<0∧_) from λh=>absurd h.1 (by decide))];rfl
theorem YJ j m w (l:List Am) (V:l.length≤1073741824) (M:∀c∈l,Oq c) (X:0≤j∧j≤2147483647) (O:0≤m∧m≤2147483647):L7 l j m w=some (IY j m w l):=by
 unfold L7
 rw[Bu (n:=l.length) (Hl j m w l) (λk A=>by
  obtain⟨F,Z⟩:=M _ (B5 A)
  have C:=bQ l k A (by omega)
  unfold Mm Hl Kv
  rw[ne (by simpa using A),Ag A,AD,CM (by omega) (by omega),AD,Dz,AD,Dz,C]
  by_cases B:Gy j m l[k]!
  ·have E:=B
   unfold Gy at E
   rw[nd (oJ.2 B),nh (show 0≤l[k]!.Row∧l[k]!.Row≤j-1 by omega),show((!true)==false)=true from rfl,Ap,CM (by omega) (by omega),AD,Ap,Dz,AD,nh (show 0≤l[k]!.Col∧l[k]!.Col≤m-1 by omega),
    show(((!true)||(!true))==false)=true from rfl,Ap,AD,nh (show 0≤l[k]!.Ref∧l[k]!.Ref≤1073741824 by omega),nd (by decide),fz _ (by omega),AD,RA _ _ F.2 (by have:=F.1;omega),AD]
   cases T:HF l[k]!.Text.length l[k]!.Text with
   | false=>rfl
   | true=>
    rw[nd (show ¬ ((!true)=true) by decide),nd (show ¬ (true=false) by decide)]
    by_cases q:B4 l[k]!.Attrs false=0
    ·rw[nd (DL q),nd (oJ.2 q)]
     have U:OV l[k]! = some (IG l[k]!):=by unfold OV IG;rw[T1]
     rw[U]
     cases w with
     | true=>rfl
     | false=>
      show(AC (gd true (some (IG l[k]!))) λ(r5:Bool)=>_)=_
      rw[Ap,AD]
      cases IG l[k]!<;>rfl
    ·rw[ne (CI q),ne q,ne q];rfl
  ·rw[ne B]
   unfold Gy at B
   by_cases I:0≤l[k]!.Row∧l[k]!.Row≤j-1
   ·rw[nh I,show((!true)==false)=true from rfl,Ap,CM (by omega) (by omega),AD,Ap,Dz,AD]
    by_cases J:0≤l[k]!.Col∧l[k]!.Col≤m-1
    ·rw[nh J,show(((!true)||(!true))==false)=true from rfl,Ap,AD,ng (show ¬ (0≤l[k]!.Ref∧l[k]!.Ref≤1073741824) by omega)];rfl
    ·rw[ng J];rfl
   ·rw[ng I];rfl) (by unfold Mm;rw[nd (by simp)]),Ew]
 rfl
theorem Ty{ρ:Type}{f}{n}(g:Nat→Option ρ)(w:∀k:Nat, k<n→(∀j, j<k→g j=none)→f k=B2 k (g k))
 (A:f n=some (.inr (.nrm ()))):iter f 0=some (DE ((List.range n).findSome? g)) := by
  have key:∀m k:Nat, k+m=n→(∀j, j<k→g j=none)→iter f (k:Int)=some (DE ((List.range' k m).findSome? g)) := by
    intro m
    induction m with
    | zero =>
      intro k B _
      obtain rfl:k=n := by omega
      rw[BM A];rfl
    | succ m C =>
      intro k B l
      have q := w k (by omega) l
      rw[List.range'_succ, pE]
      cases hg:g k with
      | some r => rw[hg] at q;rw[BM q];rfl
      | none =>
        rw[hg] at q
        rw[Br q]
        exact C (k+1) (by omega) (λj E => by
          by_cases e:j=k
          · rw[e];exact hg
          · exact l j (by omega))
  have := key n 0 (by omega) (λj l => absurd l (Nat.not_lt_zero _))
  rw[q7]
  exact this
def Cj(j l:Int)(r:Ak):Prop:=0≤r.Row∧r.Row<j∧0≤r.Col∧r.Col<l∧1≤r.H∧r.H≤j-r.Row∧1≤r.W∧r.W≤l-r.Col
instance (rows cols:Int) (r:Ak):Decidable (Cj rows cols r):=by unfold Cj;infer_instance
def GJ(a b:Ak):Bool:=decide (a.Row<b.Row+b.H∧b.Row<a.Row+a.H∧a.Col<b.Col+b.W∧b.Col<a.Col+a.W)
def EZ(j l:Int):Prop:=0≤j∧j≤2147483647∧0≤l∧l≤2147483647
instance (rows cols:Int):Decidable (EZ rows cols):=by unfold EZ;infer_instance
theorem bS(r:Ak) j l(h:EZ j l):NS r j l=some (decide (Cj j l r)):=by
 obtain⟨F,I,J,M⟩:=h
 unfold NS
 by_cases w:0≤r.Row∧0≤r.Col∧1≤r.H∧1≤r.W∧r.Row<j∧r.Col<l
 ·obtain⟨A,B,a3,a4,a5,C⟩:=w
  rw[nh A,nh B,nh a3,nh a4,nh a5,nh C,show((((((true&&true)&&true)&&true)&&true)&&true)==true)=true from rfl,Ap,CM (by omega) (by omega),AD]
  by_cases m:r.H≤j-r.Row
  ·rw[nh m,show(((((((true&&true)&&true)&&true)&&true)&&true)&&true)==true)=true from rfl,Ap,CM (by omega) (by omega),AD]
   by_cases q:r.W≤l-r.Col
   ·rw[nh q,nh (show Cj j l r from⟨A,a5,B,C,a3,m,a4,q⟩)];rfl
   ·rw[ng q,ng (show ¬ Cj j l r from λh=>q h.2.2.2.2.2.2.2)];rfl
  ·rw[ng m,ng (show ¬ Cj j l r from λh=>m h.2.2.2.2.2.1)];rfl
 ·have E:((((((0≤r.Row)&&(0≤r.Col))&&(1≤r.H))&&(1≤r.W))&&(r.Row<j))&&(r.Col<l))=false:=by
   rw[← oV]
   simp only[np,ni]
   intro h;exact w (by omega)
  rw[E,ng (show ¬ Cj j l r from λh=>w ⟨h.1,h.2.2.1,h.2.2.2.2.1,h.2.2.2.2.2.2.1,h.2.1,h.2.2.2.1⟩)];rfl
theorem ZC(r:Ak) j l(h:EZ j l):N1 r j l=some (decide (Cj j l r)):=by
 obtain⟨w,A,B,C⟩:=h
 unfold N1
 rw[CM (by omega) (by omega),AD,Dz,AD]
 by_cases m:0≤r.Row∧r.Row≤j-1
 ·rw[nh m,show((true==true):Bool)=true from rfl,Ap,CM (by omega) (by omega),AD,Ap,Dz,AD]
  by_cases q:0≤r.Col∧r.Col≤l-1
  ·rw[nh q,show((true&&true)==true)=true from rfl,Ap,CM (by omega) (by omega),AD,Ap,Dz,AD]
   by_cases a3:1≤r.H∧r.H≤j-r.Row
   ·rw[nh a3,show(((true&&true)&&true)==true)=true from rfl,Ap,CM (by omega) (by omega),AD,Ap,Dz,AD]
    by_cases a4:1≤r.W∧r.W≤l-r.Col
    ·rw[nh a4,nh (show Cj j l r from⟨m.1,by omega,q.1,by omega,a3.1,a3.2,a4.1,a4.2⟩)];rfl
    ·rw[ng a4,ng (show ¬ Cj j l r from λh=>a4 ⟨h.2.2.2.2.2.2.1,h.2.2.2.2.2.2.2⟩)];rfl
   ·rw[ng a3,ng (show ¬ Cj j l r from λh=>a3 ⟨h.2.2.2.2.1,h.2.2.2.2.2.1⟩)];rfl
  ·rw[ng q,ng (show ¬ Cj j l r from λh=>q ⟨h.2.2.1,by have:=h.2.2.2.1;omega⟩)];rfl
 ·rw[ng m,ng (show ¬ Cj j l r from λh=>m ⟨h.1,by have:=h.2.1;omega⟩)];rfl
theorem lE{j l}(h:EZ j l){a b:Ak}(B:Cj j l a)(C:Cj j l b):Mx a b=some (GJ a b):=by
 obtain⟨E,F,I,J⟩:=h
 obtain⟨M,O,a3,a4,a5,T,U,V⟩:=B
 obtain⟨X,Z,b3,b4,b5,b6,b7,b8⟩:=C
 unfold Mx GJ
 rw[CM (by omega) (by omega),AD]
 by_cases m:a.Row<b.Row+b.H
 ·rw[nh m,show((true==true):Bool)=true from rfl,Ap,CM (by omega) (by omega),AD]
  by_cases q:b.Row<a.Row+a.H
  ·rw[nh q,show((true&&true)==true)=true from rfl,Ap,CM (by omega) (by omega),AD]
   by_cases w:a.Col<b.Col+b.W
   ·rw[nh w,show(((true&&true)&&true)==true)=true from rfl,Ap,CM (by omega) (by omega),AD]
    by_cases A:b.Col<a.Col+a.W
    ·rw[nh A,nh (show _∧_∧_∧_ from⟨m,q,w,A⟩)];rfl
    ·rw[ng A,ng (show ¬ (a.Row<b.Row+b.H∧b.Row<a.Row+a.H∧a.Col<b.Col+b.W∧b.Col<a.Col+a.W) from λh=>A h.2.2.2)];rfl
   ·rw[ng w,ng (show ¬ (a.Row<b.Row+b.H∧b.Row<a.Row+a.H∧a.Col<b.Col+b.W∧b.Col<a.Col+a.W) from λh=>w h.2.2.1)];rfl
  ·rw[ng q,ng (show ¬ (a.Row<b.Row+b.H∧b.Row<a.Row+a.H∧a.Col<b.Col+b.W∧b.Col<a.Col+a.W) from λh=>q h.2.1)];rfl
 ·rw[ng m,ng (show ¬ (a.Row<b.Row+b.H∧b.Row<a.Row+a.H∧a.Col<b.Col+b.W∧b.Col<a.Col+a.W) from λh=>m h.1)];rfl
theorem gJ{j l}(h:EZ j l){a b:Ak}(w:Cj j l a)(A:Cj j l b):NX a b=some (GJ b a):=by
 obtain⟨B,C,E,F⟩:=h
 obtain⟨I,J,a3,a4,a5,M,O,T⟩:=w
 obtain⟨U,V,X,Z,b5,b6,b7,b8⟩:=A
 unfold NX GJ
 rw[CM (by omega) (by omega),AD,CM (by omega) (by omega),AD]
 by_cases m:max a.Row b.Row<min (a.Row+a.H) (b.Row+b.H)
 ·rw[nh m,show((true==true):Bool)=true from rfl,Ap,CM (by omega) (by omega),AD,Ap,CM (by omega) (by omega),AD]
  by_cases q:max a.Col b.Col<min (a.Col+a.W) (b.Col+b.W)
  ·rw[nh q,nh (show b.Row<a.Row+a.H∧a.Row<b.Row+b.H∧b.Col<a.Col+a.W∧a.Col<b.Col+b.W by omega)];rfl
  ·rw[ng q,ng (show ¬ (b.Row<a.Row+a.H∧a.Row<b.Row+b.H∧b.Col<a.Col+a.W∧a.Col<b.Col+b.W) by omega)];rfl
 ·rw[ng m,ng (show ¬ (b.Row<a.Row+a.H∧a.Row<b.Row+b.H∧b.Col<a.Col+a.W∧a.Col<b.Col+b.W) by omega)];rfl
theorem Xk{α:Type}[Inhabited α]{l:List α}{k j}(m:j<k)(q:k≤l.length):(l.take k)[j]! = l[j]!:=by
 rw[nv (l.take k) j (by rw[pL];omega),nv l j (by omega),List.getElem_take]
def Ks(l:List Ak)(k:Nat)(w:Ak):Option Nat:=(List.range k).find? λj=>GJ l[j]! w
theorem eA{m q}(h:EZ m q)(l:List Ak) k(C:k≤l.length)(I:l.length≤1073741824)(E:∀j,j<k→Cj m q l[j]!){w}(hw:Cj m q w) :
  LO w (l.take k)=some (Ks l k w).isSome:=by
 unfold LO Pz
 have A:(l.take k).length=k:=by rw[pL];omega
 rw[Bu (n:=k) (λj=>if GJ l[j]! w then some (j:Int) else none) (λj B=>by
  unfold L1 Ps
  rw[ne (by rw[A,ni];omega),Ag (by rw[A];exact B),AD,Xk B C,lE h (E j B) hw,AD,AD,Aq (by omega)]
  cases GJ l[j]! w<;>rfl) (by unfold L1;rw[nd (by rw[A];simp)]),Qb,Eb]
 unfold Ks
 cases (List.range k).find? λj=>GJ l[j]! w with
 | none=>rfl
 | some j=>
  show(AC (some (j:Int)) λ(F:Int)=>some (decide (0≤F)))=_
  rw[AD,nh (qK j)];rfl
def IV(j m:Int)(l:List Ak)(k:Nat):Option Int:=
 if ¬ Cj j m l[k]! then some 2 else if l[k]!.H=1∧l[k]!.W=1 then some 4 else if 0<k∧0≤Bn l[k-1]!.Row l[k]!.Row l[k-1]!.Col l[k]!.Col then some 5 else if(Ks l k l[k]!).isSome=true then some 21 else none
theorem Sd{j m}{l}{k}(h:IV j m l k=none):Cj j m l[k]!:=by
 unfold IV at h
 by_cases q:Cj j m l[k]!
 ·exact q
 ·rw[ne q] at h;cases h
def HE(g:A5):Int:=
 if ¬ EZ g.Rows g.Cols then 2 else if IY g.Rows g.Cols false g.Cells≠0 then IY g.Rows g.Cols false g.Cells else((List.range g.Merges.length).findSome? (IV g.Rows g.Cols g.Merges)).getD 0
def Rm(g:A5):Prop:=g.Cells.length≤1048576∧g.Merges.length≤1048576∧∀c∈g.Cells,Oq c
theorem cR(a b:Ak):OE a b=some (!(0≤Bn a.Row b.Row a.Col b.Col)):=by
 unfold OE
 congr 1
 rw[oU]
 have:=P9 a.Row b.Row a.Col b.Col
 simp only[nr,np,ni,oc,ol,this]
 omega
theorem UY(g:A5)(h:Rm g):OR g=some (HE g):=by
 obtain⟨Z,hm,E⟩:=h
 unfold OR HE
 by_cases q:EZ g.Rows g.Cols
 ·have F:=q
  obtain⟨r1,r2,M,r4⟩:=F
  rw[nd (by simp only[nr,ni];omega),iU _ _ _ _ (by omega) E,AD,nd (oJ.2 q)]
  by_cases B:IY g.Rows g.Cols false g.Cells=0
  ·rw[nd (DL B),nd (oJ.2 B),Ty (n:=g.Merges.length) (IV g.Rows g.Cols g.Merges) (λk O T=>by
    unfold NW
    rw[ne (by simpa using O),Ag O,AD,bS _ _ _ q,AD]
    unfold IV
    by_cases w:Cj g.Rows g.Cols g.Merges[k]!
    ·rw[nh w,nd (show ¬ ((!true)=true) by decide),nd (oJ.2 w)]
     by_cases A:g.Merges[k]!.H=1∧g.Merges[k]!.W=1
     ·rw[ne (by rw[nh A.1,nh A.2];rfl),ne A];rfl
     ·rw[nd (by simp only[np,ni];exact A),nd A]
      have m:=eA q g.Merges k (by omega) (by omega) (λj I=>Sd (T j I)) w
      have U:Do g.Merges 0 (k:Int)=some (g.Merges.take k):=by
       rw[cY g.Merges k (by omega) (by omega)];simp
      have l:(AC (Do g.Merges 0 (k:Int)) λ(V:List Ak)=>
        AC (LO g.Merges[k]! V) λ(M:Bool)=>
        if M then(some (.inr (.ext 21)):Option (Int ⊕ (Ar Unit Int))) else(
         AC (AS .i64 ((k:Int)+1)) λ(X:Int)=>some (.inl X)))=B2 k (if(Ks g.Merges k g.Merges[k]!).isSome=true then some 21 else none):=by
       rw[U,AD,m,AD,Aq (by omega)]
       cases (Ks g.Merges k g.Merges[k]!).isSome<;>rfl
      by_cases J:0<k
      ·rw[nh (show(0:Int)<k by omega),show((true==true):Bool)=true from rfl,Ap,Et J (by omega),AD,Ap,Ag (show k-1<g.Merges.length by omega),AD,Ap,cR,AD]
       by_cases C:0≤Bn g.Merges[k-1]!.Row g.Merges[k]!.Row g.Merges[k-1]!.Col g.Merges[k]!.Col
       ·rw[nh C,ne (show 0<k∧0≤Bn g.Merges[k-1]!.Row g.Merges[k]!.Row g.Merges[k-1]!.Col g.Merges[k]!.Col from⟨J,C⟩)];rfl
       ·rw[ng C,nd (show ¬ (0<k∧0≤Bn g.Merges[k-1]!.Row g.Merges[k]!.Row g.Merges[k-1]!.Col g.Merges[k]!.Col) from λh=>C h.2)]
        exact l
      ·have e0:k=0:=by omega
       rw[nd (show ¬ (0<k∧0≤Bn g.Merges[k-1]!.Row g.Merges[k]!.Row g.Merges[k-1]!.Col g.Merges[k]!.Col) from λh=>J h.1),ng (show ¬ (0:Int)<k by omega)]
       exact l
    ·rw[ng w,ne w];rfl) (by unfold NW;rw[nd (by simp)]),Ew]
  ·rw[ne (CI B),ne B]
 ·rw[ne q,ne (by unfold EZ at q;simp only[nr,ni];omega)]
theorem Zp{X:Type}(l:List Ak)(k:Nat)(I:k<l.length)(J:l.length≤9223372036854775806)(a b:Option X) :
  (AC (gd ((decide (0<(k:Int)))==true) (AS .i64 ((k:Int)-1))) λ(C:Int)=>
    AC (gd ((decide (0<(k:Int)))==true) (AM l C)) λ(j:Ak)=>
    AC (gd ((((decide (0<(k:Int)))==true)&&((decide (l[k]!.Row<j.Row))==false))&&((decide (l[k]!.Row=j.Row))==true)) (AS .i64 ((k:Int)-1))) λ(E:Int)=>
    AC (gd ((((decide (0<(k:Int)))==true)&&((decide (l[k]!.Row<j.Row))==false))&&((decide (l[k]!.Row=j.Row))==true)) (AM l E)) λ(F:Ak)=>
    if((0<(k:Int))&&((l[k]!.Row<j.Row)||((l[k]!.Row=j.Row)&&(l[k]!.Col≤F.Col)))) then a else b) =
   if 0<k∧0≤Bn l[k-1]!.Row l[k]!.Row l[k-1]!.Col l[k]!.Col then a else b:=by
 have m:=P9 l[k-1]!.Row l[k]!.Row l[k-1]!.Col l[k]!.Col
 by_cases q:0<k
 ·rw[nh (show(0:Int)<k by omega),show((true==true):Bool)=true from rfl,Ap,Et q (by omega),AD,Ap,Ag (show k-1<l.length by omega),AD]
  by_cases w:l[k]!.Row<l[k-1]!.Row
  ·rw[nh w,ne (show 0<k∧0≤Bn l[k-1]!.Row l[k]!.Row l[k-1]!.Col l[k]!.Col from⟨q,m.2 (.inl w)⟩)];rfl
  ·by_cases A:l[k]!.Row=l[k-1]!.Row
   ·rw[ng w,nh A,show(((true&&(false==false))&&(true==true)):Bool)=true from rfl,Ap,AD,Ap,Ag (show k-1<l.length by omega),AD]
    by_cases B:l[k]!.Col≤l[k-1]!.Col
    ·rw[nh B,ne (show 0<k∧0≤Bn l[k-1]!.Row l[k]!.Row l[k-1]!.Col l[k]!.Col from⟨q,m.2 (.inr ⟨A,B⟩)⟩)];rfl
    ·rw[ng B,nd (show ¬ (0<k∧0≤Bn l[k-1]!.Row l[k]!.Row l[k-1]!.Col l[k]!.Col) from λh=>by have:=m.1 h.2;omega)];rfl
   ·rw[ng w,ng A,nd (show ¬ (0<k∧0≤Bn l[k-1]!.Row l[k]!.Row l[k-1]!.Col l[k]!.Col) from λh=>by have:=m.1 h.2;omega)];rfl
 ·rw[nd (show ¬ (0<k∧0≤Bn l[k-1]!.Row l[k]!.Row l[k-1]!.Col l[k]!.Col) from λh=>q h.1),ng (show ¬ (0:Int)<k by omega)];rfl
theorem X0(g:A5)(h:Rm g):N8 g=some (HE g):=by
 obtain⟨U,V,B⟩:=h
 unfold N8 HE
 rw[Dz,AD]
 by_cases l:EZ g.Rows g.Cols
 ·have C:=l
  obtain⟨I,J,M,O⟩:=C
  rw[nh (show 0≤g.Rows∧g.Rows≤2147483647 from⟨I,J⟩),show((!true)==false)=true from rfl,Ap,Dz,AD,nh (show 0≤g.Cols∧g.Cols≤2147483647 from⟨M,O⟩),nd (by decide),
   YJ _ _ _ _ (by omega) B ⟨I,J⟩ ⟨M,O⟩,AD,nd (oJ.2 l)]
  by_cases w:IY g.Rows g.Cols false g.Cells=0
  ·rw[nd (DL w),nd (oJ.2 w),Ty (n:=g.Merges.length) (IV g.Rows g.Cols g.Merges) (λk E T=>by
    unfold MZ
    rw[ne (by simpa using E),Ag E,AD,ZC _ _ _ l,AD]
    unfold IV
    by_cases m:Cj g.Rows g.Cols g.Merges[k]!
    ·rw[nh m,nd (show ¬ ((!true)=true) by decide),nd (oJ.2 m)]
     by_cases q:g.Merges[k]!.H=1∧g.Merges[k]!.W=1
     ·rw[ne (by rw[nh q.1,nh q.2];rfl),ne q];rfl
     ·rw[nd (by simp only[np,ni];exact q),nd q,Zp _ k E (by omega)]
      by_cases A:0<k∧0≤Bn g.Merges[k-1]!.Row g.Merges[k]!.Row g.Merges[k-1]!.Col g.Merges[k]!.Col
      ·rw[ne A,ne A];rfl
      ·rw[nd A,nd A,Bu (n:=k) (λj=>if GJ g.Merges[j]! g.Merges[k]! then some (.inr (.ext 21)) else none) (λj F=>by
        unfold Ny
        rw[ne (by rw[ni];omega),Ag (by omega),AD,gJ l m (Sd (T j F)),AD,Aq (by omega)]
        cases GJ g.Merges[j]! g.Merges[k]!<;>rfl) (by unfold Ny;rw[nd (by rw[ni];omega)]),Qb,Eb]
       unfold Ks
       cases (List.range k).find? λj=>GJ g.Merges[j]! g.Merges[k]! with
       | none=>rw[Aq (by omega)];rfl
       | some j=>rfl
    ·rw[ng m,ne m];rfl) (by unfold MZ;rw[nd (by simp)]),Ew]
  ·rw[ne (CI w),ne w]
 ·rw[ne l]
  unfold EZ at l
  by_cases a:0≤g.Rows∧g.Rows≤2147483647
  ·rw[nh a,show((!true)==false)=true from rfl,Ap,Dz,AD,ng (show ¬ (0≤g.Cols∧g.Cols≤2147483647) by omega)];rfl
  ·rw[ng a];rfl
def Rt(c:UInt8):Bool:=(97≤c.toNat)&&(c.toNat≤122)
def PD(s:List UInt8):Bool:=(List.range s.length).all λk=>Rt s[k]!
def JM(s:List UInt8):Bool:=(1≤s.length)&&(s.length≤200)&&!(s[s.length-1]!.toNat=97)&&PD s
theorem UX(s:List UInt8)(l:s.length≤9223372036854775806):iter (λ(a:Int)=>JZ s a) 0=some (DE (if PD s then none else some false)):=by
 rw[Bu (n:=s.length) (λk=>if Rt s[k]! then none else some false) (λk j=>by
  unfold JZ
  rw[ne (by simpa using j),Ag j,AD,Aq (by omega)]
  unfold Rt
  generalize s[k]! = c
  by_cases h:97≤c.toNat∧c.toNat≤122
  ·rw[nd (by simp only[nr,ni];omega),ne (by simp only[np,ni];exact h)];rfl
  ·rw[ne (by simp only[nr,ni];omega),nd (by simp only[np,ni];exact h)];rfl) (by unfold JZ;rw[nd (by simp)]),I4]
 rfl
theorem dH:J0=JZ:=by funext s x;rfl
theorem Yl(s:List UInt8)(m:s.length≤9223372036854775806):Ja s=some (JM s):=by
 unfold Ja JM
 rw[dH,UX s m]
 by_cases h:1≤s.length∧s.length≤200
 ·have j:s≠[]:=pd.1 h.1
  rw[ng j,ng (show ¬ (200:Int)<(s.length:Int) by omega),show((false||false)==false)=true from rfl,Ap,Et h.1 (by omega),AD,Ap,Ag (by omega),AD,nh h.1,nh h.2]
  by_cases l:s[s.length-1]!.toNat=97
  ·rw[nh l,ne (by rw[nh (show((s[s.length-1]!.toNat:Int)=97) by omega)];rfl)];rfl
  ·rw[ng l,nd (by rw[ng (show ¬ ((s[s.length-1]!.toNat:Int)=97) by omega)];decide)]
   cases PD s<;>rfl
 ·have q:((s=[])||(200<(s.length:Int)))=true:=by
   rw[nr,ni,ni,← pr];omega
  have hd:((1≤s.length)&&(s.length≤200))=false:=by
   rw[← oV,np,ni,ni];exact h
  rw[q,hd];rfl
theorem Xq(s:List UInt8)(l:s.length≤9223372036854775806):OJ s=some (JM s):=by
 unfold OJ JM
 rw[UX s l,Eb]
 cases PD s with
 | false=>rw[Bool.and_false];rfl
 | true=>
  rw[ne rfl,Bool.and_true]
  dsimp only
  by_cases h:1≤s.length∧s.length≤200
  ·rw[nh (show(1:Int)≤(s.length:Int) by omega),nh (show(s.length:Int)≤200 by omega),show((true&&true)==true)=true from rfl,Ap,Et h.1 (by omega),AD,Ap,Ag (by omega),AD,nh h.1,nh h.2]
   by_cases j:s[s.length-1]!.toNat=97
   ·rw[nh j,nh (show((s[s.length-1]!.toNat:Int)=97) by omega)]
   ·rw[ng j,ng (show ¬ ((s[s.length-1]!.toNat:Int)=97) by omega)]
  ·have m:((1≤(s.length:Int))&&((s.length:Int)≤200))=false:=by
    rw[← oV,np,ni,ni];omega
   have hd:((1≤s.length)&&(s.length≤200))=false:=by
    rw[← oV,np,ni,ni];exact h
   rw[m,hd];rfl
def GA(o:Au):Prop:=(1≤o.Clock∧o.Clock≤1073741824)∧(0≤o.Site∧o.Site≤1000)∧(1≤o.Item∧o.Item≤1073741824)
instance (o:Au):Decidable (GA o):=by unfold GA;infer_instance
def Ko(o:Au):Int:=
 if ¬ (o.Kind=0∨o.Kind=1) then 8 else if ¬ GA o then 2
 else if o.Kind=0 then(if o.Name≠[]∨o.Value≠[] then 4 else if ¬ (-1≤o.Parent∧o.Parent≤1073741824) then 2 else if JM o.Place=false then 9 else 0)
 else(if o.Parent≠0∨o.Place≠[] then 4 else if EI o.Name=false then 9 else if o.Value≠[]∧Da o.Value=false then 23 else 0)
def Nd(l:List Au)(k:Nat):Option Int:=
 if Ko l[k]!≠0 then some (Ko l[k]!) else if 0<k∧0≤Bn l[k-1]!.Clock l[k]!.Clock l[k-1]!.Site l[k]!.Site then some 5 else none
def UU(l:List Au):Int:=((List.range l.length).findSome? (Nd l)).getD 0
def PH(o:Au):Prop:=o.Place.length≤1073741824∧o.Name.length≤1073741824∧o.Value.length≤1073741824
theorem ic(o:Au)(h:PH o):KK o=some (Ko o):=by
 obtain⟨hp,I,J⟩:=h
 unfold KK Ko
 rw[Yl _ (by omega),RI _ (by omega),Rp _ (by omega)]
 by_cases l:o.Kind=0
 ·have q:¬ o.Kind=1:=by omega
  rw[nd (show ¬ ((!(o.Kind=0))&&(!(o.Kind=1)))=true by rw[nh l];simp),nd (show ¬ ¬ (o.Kind=0∨o.Kind=1) from λh=>h (.inl l))]
  by_cases m:GA o
  ·have w:=m
   unfold GA at w
   rw[nd (by simp only[nr,ni];omega),nd (oJ.2 m),ne l,nh l,ng q]
   by_cases j:o.Name≠[]∨o.Value≠[]
   ·have A:(true&&((!(o.Name=[]))||(!(o.Value=[]))))=true:=by
     rw[oS,nr]
     rcases j with c | c
     ·exact .inl (CI c)
     ·exact .inr (CI c)
    rw[ne j,A];rfl
   ·have C:o.Name=[]∧o.Value=[]:=⟨oF λh=>j (.inl h),oF λh=>j (.inr h)⟩
    have A:(true&&((!(o.Name=[]))||(!(o.Value=[]))))=false:=by rw[nh C.1,nh C.2];rfl
    rw[nd j,A]
    by_cases B : -1≤o.Parent∧o.Parent≤1073741824
    ·rw[nd (oJ.2 B)]
     have E:((o.Parent<(-1))||(1073741824<o.Parent))=false:=by
      rw[← oV,nr,ni,ni];omega
     rw[E]
     cases JM o.Place with
     | false=>rfl
     | true=>rw[nh C.2];rfl
    ·rw[ne B]
     have E:((o.Parent<(-1))||(1073741824<o.Parent))=true:=by
      rw[nr,ni,ni];omega
     rw[E];rfl
  ·rw[ne (by unfold GA at m;simp only[nr,ni];omega),ne m]
 ·by_cases q:o.Kind=1
  ·rw[nd (show ¬ ((!(o.Kind=0))&&(!(o.Kind=1)))=true by rw[nh q,ng l];decide),nd (show ¬ ¬ (o.Kind=0∨o.Kind=1) from λh=>h (.inr q))]
   by_cases m:GA o
   ·have w:=m
    unfold GA at w
    rw[nd (by simp only[nr,ni];omega),nd (oJ.2 m),nd l,ng l,nh q]
    by_cases j:o.Parent≠0∨o.Place≠[]
    ·have A:(true&&((!(o.Parent=0))||(!(o.Place=[]))))=true:=by
      rw[oS,nr]
      rcases j with c | c
      ·exact .inl (CI c)
      ·exact .inr (CI c)
     rw[ne j,A];rfl
    ·have C:o.Parent=0∧o.Place=[]:=⟨oF λh=>j (.inl h),oF λh=>j (.inr h)⟩
     have A:(true&&((!(o.Parent=0))||(!(o.Place=[]))))=false:=by rw[nh C.1,nh C.2];rfl
     rw[nd j,A]
     cases EI o.Name with
     | false=>rfl
     | true=>
      by_cases B:o.Value=[]
      ·rw[nh B,nd (show ¬ (true=false) by decide),nd (show ¬ (o.Value≠[]∧Da o.Value=false) from λh=>h.1 B)];rfl
      ·rw[ng B,nd (show ¬ (true=false) by decide)]
       cases F:Da o.Value with
       | false=>rw[ne (show o.Value≠[]∧false=false from⟨B,rfl⟩)];rfl
       | true=>rw[nd (show ¬ (o.Value≠[]∧true=false) from λh=>by cases h.2)];rfl
   ·rw[ne (by unfold GA at m;simp only[nr,ni];omega),ne m]
  ·rw[ne (show((!(o.Kind=0))&&(!(o.Kind=1)))=true by rw[ng q,ng l];rfl),ne (show ¬ (o.Kind=0∨o.Kind=1) from λh=>h.elim l q)]
theorem Xl(a b:Au):JF a b=some (Bn a.Clock b.Clock a.Site b.Site):=by
 unfold JF
 rw[O9,O9,AD,AD,V3,AD,T7]
theorem gm(a b:Au):KZ a b=some (!(0≤Bn a.Clock b.Clock a.Site b.Site)):=by
 unfold KZ
 congr 1
 rw[oU]
 have:=P9 a.Clock b.Clock a.Site b.Site
 simp only[nr,np,ni,oc,ol,this]
 omega
theorem l4(l:List Au)(A:l.length≤1073741824)(w:∀o∈l,PH o):Jc l=some (UU l):=by
 unfold Jc
 rw[Bu (n:=l.length) (Nd l) (λk m=>by
  unfold JA Nd
  rw[ne (by simpa using m),Ag m,AD,ic _ (w _ (B5 m)),AD]
  by_cases e:Ko l[k]! = 0
  ·rw[nd (DL e),nd (oJ.2 e)]
   by_cases q:0<k
   ·rw[nh (show(0:Int)<k by omega),show((true==true):Bool)=true from rfl,Ap,Et q (by omega),AD,Ap,Ag (show k-1<l.length by omega),AD,Ap,Xl,AD]
    by_cases j:0≤Bn l[k-1]!.Clock l[k]!.Clock l[k-1]!.Site l[k]!.Site
    ·rw[nh j,ne (show 0<k∧0≤Bn l[k-1]!.Clock l[k]!.Clock l[k-1]!.Site l[k]!.Site from⟨q,j⟩)];rfl
    ·rw[ng j,nd (show ¬ (0<k∧0≤Bn l[k-1]!.Clock l[k]!.Clock l[k-1]!.Site l[k]!.Site) from λh=>j h.2),Aq (by omega)];rfl
   ·rw[nd (show ¬ (0<k∧0≤Bn l[k-1]!.Clock l[k]!.Clock l[k-1]!.Site l[k]!.Site) from λh=>q h.1),ng (show ¬ (0:Int)<k by omega),Aq (by omega)];rfl
  ·rw[ne (CI e),ne e];rfl) (by unfold JA;rw[nd (by simp)]),Ew]
 rfl
theorem gl(l:List Au)(hm:l.length≤1073741824)(U:∀o∈l,PH o):M8 l=some (UU l):=by
 unfold M8
 rw[Bu (n:=l.length) (Nd l) (λk F=>by
  obtain⟨hp,V,X⟩:=U _ (B5 F)
  have q:(AC (gd ((decide (0<(k:Int)))==true) (AS .i64 ((k:Int)-1))) λ(Z:Int)=>
    AC (gd ((decide (0<(k:Int)))==true) (AM l Z)) λ(x6:Au)=>
    AC (gd ((decide (0<(k:Int)))==true) (KZ x6 l[k]!)) λ(r4:Bool)=>
    if((0<(k:Int))&&(!r4)) then(some (.inr (.ext 5)):Option (Int ⊕ (Ar Unit Int))) else(
     AC (AS .i64 ((k:Int)+1)) λ(x7:Int)=>some (.inl x7)))=B2 k (if 0<k∧0≤Bn l[k-1]!.Clock l[k]!.Clock l[k-1]!.Site l[k]!.Site then some 5 else none):=by
   by_cases I:0<k
   ·rw[nh (show(0:Int)<k by omega),show((true==true):Bool)=true from rfl,Ap,Et I (by omega),AD,Ap,Ag (show k-1<l.length by omega),AD,Ap,gm,AD]
    by_cases C:0≤Bn l[k-1]!.Clock l[k]!.Clock l[k-1]!.Site l[k]!.Site
    ·rw[nh C,ne (show 0<k∧0≤Bn l[k-1]!.Clock l[k]!.Clock l[k-1]!.Site l[k]!.Site from⟨I,C⟩)];rfl
    ·rw[ng C,nd (show ¬ (0<k∧0≤Bn l[k-1]!.Clock l[k]!.Clock l[k-1]!.Site l[k]!.Site) from λh=>C h.2),Aq (by omega)];rfl
   ·rw[nd (show ¬ (0<k∧0≤Bn l[k-1]!.Clock l[k]!.Clock l[k-1]!.Site l[k]!.Site) from λh=>I h.1),ng (show ¬ (0:Int)<k by omega),Aq (by omega)];rfl
  unfold Mv Nd Ko
  rw[ne (by simpa using F),Ag F,AD,q,Dz,AD,Dz,Dz,Dz,Xq _ (by omega),W7 _ (by omega),UG _ (by omega)]
  generalize l[k]! = o at hp V X ⊢
  by_cases A:o.Kind=0∨o.Kind=1
  ·rw[nd (show ¬ ((!(o.Kind=0))&&(!(o.Kind=1)))=true by rcases A with h | h<;>rw[nh h]<;>simp),nd (oJ.2 A)]
   by_cases w:GA o
   ·rw[nd (oJ.2 w),nh w.1,show((!true)==false)=true from rfl,Ap,AD,nh w.2.1,show(((!true)||(!true))==false)=true from rfl,Ap,AD,nh w.2.2,nd (show ¬ (((!true)||(!true))||(!true))=true by decide)]
    by_cases E:o.Kind=0
    ·rw[ne (nh E),ne E]
     by_cases j:o.Name≠[]∨o.Value≠[]
     ·have J:((!(o.Name=[]))||(!(o.Value=[])))=true:=by
       rw[nr]
       rcases j with c | c
       ·exact .inl (CI c)
       ·exact .inr (CI c)
      rw[ne j,ne J];rfl
     ·have B:o.Name=[]∧o.Value=[]:=⟨oF λh=>j (.inl h),oF λh=>j (.inr h)⟩
      rw[nd j,nd (show ¬ ((!(o.Name=[]))||(!(o.Value=[])))=true by rw[nh B.1,nh B.2];decide),AD]
      by_cases m : -1≤o.Parent∧o.Parent≤1073741824
      ·rw[nd (oJ.2 m),nh m,nd (show ¬ ((!true)=true) by decide),AD]
       cases JM o.Place<;>rfl
      ·rw[ne m,ng m];rfl
    ·rw[nd (show ¬ decide (o.Kind=0)=true by simpa using E),nd E]
     by_cases j:o.Parent≠0∨o.Place≠[]
     ·have J:((!(o.Parent=0))||(!(o.Place=[])))=true:=by
       rw[nr]
       rcases j with c | c
       ·exact .inl (CI c)
       ·exact .inr (CI c)
      rw[ne j,ne J];rfl
     ·have B:o.Parent=0∧o.Place=[]:=⟨oF λh=>j (.inl h),oF λh=>j (.inr h)⟩
      rw[nd j,nd (show ¬ ((!(o.Parent=0))||(!(o.Place=[])))=true by rw[nh B.1,nh B.2];decide),AD]
      cases EI o.Name with
      | false=>rfl
      | true=>
       by_cases m:o.Value=[]
       ·rw[nh m,nd (show ¬ (true=false) by decide),nd (show ¬ (o.Value≠[]∧Da o.Value=false) from λh=>h.1 m)];rfl
       ·rw[ng m,nd (show ¬ (true=false) by decide)]
        cases a0:Da o.Value with
        | false=>rw[ne (show o.Value≠[]∧false=false from⟨m,rfl⟩)];rfl
        | true=>rw[nd (show ¬ (o.Value≠[]∧true=false) from λh=>by cases h.2)];rfl
   ·rw[ne w]
    unfold GA at w
    by_cases O:1≤o.Clock∧o.Clock≤1073741824
    ·rw[nh O,show((!true)==false)=true from rfl,Ap,AD]
     by_cases T:0≤o.Site∧o.Site≤1000
     ·rw[nh T,show(((!true)||(!true))==false)=true from rfl,Ap,AD,ng (show ¬ (1≤o.Item∧o.Item≤1073741824) by omega)];rfl
     ·rw[ng T];rfl
    ·rw[ng O];rfl
  ·have M:((!(o.Kind=0))&&(!(o.Kind=1)))=true:=by
    rw[ng (λh=>A (.inl h)),ng (λh=>A (.inr h))];rfl
   rw[ne M,ne A];rfl) (by unfold Mv;rw[nd (by simp)]),Ew]
 rfl
theorem XR:Kr=Gl:=by funext k;rfl
theorem Y5:O1=GG:=by funext k;rfl
theorem lf:Lp=FP:=by funext k;rfl
theorem dO:Pi=GC:=by funext k;rfl
structure GN(n:AX):Prop where
 ok:Mq n
 ce:∀c∈n.Grid.Cells,Oq c
 dr:∀o∈n.Draw,PH o
theorem GN.gd{n:AX}(h:GN n):Rm n.Grid:=⟨h.ok.gr.1,h.ok.gr.2.1,h.ce⟩
def KN(kind:Int)(c:Am):Bool:=((kind=2)&&((!(c.Text=[]))||(0<(c.Attrs.length:Int))))||((kind=6)&&(!(c.Ref=0)))
def Wo(kind:Int)(l:List Am):Int:=((List.range l.length).findSome? λk=>if KN kind l[k]! then some (4:Int) else none).getD 0
theorem mY kind(l:List Am)(m:l.length≤1073741824):Nx kind l=some (Wo kind l):=by
 unfold Nx
 rw[Bu (n:=l.length) (λk=>if KN kind l[k]! then some (4:Int) else none) (λk j=>by
  unfold Nz
  rw[ne (by simpa using j),Ag j,AD,Aq (by omega)]
  show(if KN kind l[k]! = true then _ else _)=_
  cases KN kind l[k]!<;>rfl) (by unfold Nz;rw[nd (by simp)]),Ew]
 rfl
theorem mQ kind(l:List Am)(A:l.length≤1073741824):MP kind l=some (Wo kind l):=by
 unfold MP
 rw[Bu (n:=l.length) (λk=>if KN kind l[k]! then some (4:Int) else none) (λk w=>by
  unfold Ml KN
  rw[ne (by simpa using w),Ag w,Aq (by omega)]
  generalize l[k]! = c
  by_cases m:kind=2
  ·have j:¬ kind=6:=by omega
   rw[nh m,ng j]
   rw[show((true==true):Bool)=true from rfl,Ap,AD]
   generalize ((!(c.Text=[]))||(0<(c.Attrs.length:Int)))=q
   cases q<;>rfl
  ·by_cases j:kind=6
   ·rw[ng m,nh j]
    rw[show((false==true):Bool)=false from rfl,Cs,AD]
    show(AC (gd true (some c)) λ(B:Am)=>_)=_
    rw[Ap,AD]
    generalize (!(c.Ref=0))=q
    cases q<;>rfl
   ·rw[ng m,ng j];rfl) (by unfold Ml;rw[nd (by simp)]),Ew]
 rfl
def Sn(t l g z d j m:Bool):Bool:=((!(t||l)&&j)||(!g&&!z))||(!d&&m)
theorem mD t l g z d j m :
  (if(((!(t||l))&&j)==false) then(
   if((!g)==true) then(
    AC (gd ((((!(t||l))&&j)||((!g)&&(!z)))==false) (some d)) λ(w:Bool)=>
    some ((((!(t||l))&&j)||((!g)&&(!z)))||((!w)&&m))
   ) else(
    AC (gd ((((!(t||l))&&j)||((!g)&&false))==false) (some d)) λ(A:Bool)=>
    some ((((!(t||l))&&j)||((!g)&&false))||((!A)&&m))
   )
  ) else(
   AC (gd ((((!(t||l))&&j)||false)==false) (some d)) λ(q:Bool)=>
   some ((((!(t||l))&&j)||false)||((!q)&&m))
  ))=some (Sn t l g z d j m):=by
 cases t<;>cases l<;>cases g<;>cases z<;>cases d<;>cases j<;>cases m<;>rfl
theorem iJ{X:Type}(t l g z d j m:Bool)(A B:Option X) :
  (AC (gd ((j&&(!(t||l)))==false) (some z)) λ(q:Bool)=>
   AC (gd (((j&&(!(t||l)))==false)&&((!q)==true)) (some g)) λ(w:Bool)=>
   AC (gd ((((j&&(!(t||l)))||((!q)&&(!w)))==false)&&(m==true)) (some d)) λ(C:Bool)=>
   if(((j&&(!(t||l)))||((!q)&&(!w)))||(m&&(!C))) then A else B)=if Sn t l g z d j m=true then A else B:=by
 cases t<;>cases l<;>cases g<;>cases z<;>cases d<;>cases j<;>cases m<;>rfl
theorem WC{α:Type}(l:List α):decide ((l.length:Int)=0)=l.isEmpty:=by
 cases l with
 | nil=>rfl
 | cons a l=>exact ng (by simp only[oY];omega)
theorem kq g:NR g=some (decide (g=A5.mk 0 0 [] [])):=by
 unfold NR
 congr 1
 obtain⟨a,b,c,d⟩:=g
 rw[WC,WC,oU]
 simp[and_assoc]
theorem O7(n:AX)(h:GN n):∃e,Cz n=some e∧ND n=some e:=by
 have A:=h.ok.at_
 have hf:=h.ok.fl
 have hg:=h.ok.gr
 have hd:=h.ok.dr
 have M:∀x∈n.Flow,Gx x:=λx hx=>⟨by have:=(h.ok.fa x hx).1;omega,(h.ok.fa x hx).2⟩
 unfold Cz ND
 rw[XR,Y5,lf,dO,Dz,AD]
 by_cases c1:1≤n.ID∧n.ID≤1073741824
 ·rw[nd (show ¬ ((n.ID<1)||(1073741824<n.ID))=true by simp only[nr,ni];omega),nh c1,nd (show ¬ ((!true)=true) by decide),Dz,AD]
  by_cases j:(0≤n.Kind∧n.Kind≤12)∧(n.ID=1↔n.Kind=0)
  ·obtain⟨j,B⟩:=j
   have O:(((n.Kind<0)||(13≤n.Kind))||(!((decide (n.ID=1))==(decide (n.Kind=0)))))=false:=by
    rw[ng (show ¬ n.Kind<0 by omega),ng (show ¬ 13≤n.Kind by omega)]
    by_cases q:n.ID=1
    ·rw[nh q,nh (B.1 q)];rfl
    ·rw[ng q,ng (λe=>q (B.2 e))];rfl
   have T:(((!(0≤n.Kind∧n.Kind≤12))||((n.ID=1)&&(!(n.Kind=0))))||((!(n.ID=1))&&(n.Kind=0)))=false:=by
    rw[nh j]
    by_cases q:n.ID=1
    ·rw[nh q,nh (B.1 q)];rfl
    ·rw[ng q,ng (λe=>q (B.2 e))];rfl
   rw[O,T,nd (show ¬ (false=true) by decide),nd (show ¬ (false=true) by decide),Om _ A.2 (by have:=A.1;omega),AD,RA _ _ A.2 (by have:=A.1;omega),AD]
   by_cases C:B4 n.Attrs false=0
   ·rw[nd (DL C),nd (DL C)]
    obtain⟨t,ht⟩:∃t,Gl n.Kind=some t:=⟨_,rfl⟩
    obtain⟨l,hl⟩:∃t,GG n.Kind=some t:=⟨_,rfl⟩
    obtain⟨g,U⟩:∃t,FP n.Kind=some t:=⟨_,rfl⟩
    obtain⟨d,V⟩:∃t,GC n.Kind=some t:=⟨_,rfl⟩
    rw[ht,hl,U,V,AD,AD,Oy _ _ hg,kq]
    have X:∃E,gd (t==false) (some l)=some E:=by cases t<;>exact⟨_,rfl⟩
    obtain⟨E,Z⟩:=X
    rw[Z,AD,AD,AD,mD,AD,AD,iJ]
    by_cases F:Sn t E g (decide (n.Grid=A5.mk 0 0 [] [])) d (decide (0<(n.Flow.length:Int))) (decide (0<(n.Draw.length:Int)))=true
    ·rw[ne F,ne F];exact⟨_,rfl,rfl⟩
    ·rw[nd F,nd F]
     by_cases I:(t||E)=true
     ·obtain⟨r,h1,h2⟩:=io n.Flow t M (by omega)
      rw[ne I,ne I,h1,h2];exact⟨_,rfl,rfl⟩
     ·rw[nd I,nd I]
      cases g with
      | true=>
       rw[ne rfl,UY _ h.gd,AD,AD,ne rfl,X0 _ h.gd,AD]
       by_cases J:HE n.Grid=0
       ·rw[nd (DL J),nd (DL J),mY _ _ (by have:=hg.1;omega),mQ _ _ (by have:=hg.1;omega)];exact⟨_,rfl,rfl⟩
       ·rw[ne (CI J),ne (CI J)];exact⟨_,rfl,rfl⟩
      | false=>
       rw[nd (show ¬ (false=true) by decide),AD,nd (show ¬ (false=true) by decide),l4 _ (by omega) h.dr,gl _ (by omega) h.dr];exact⟨_,rfl,rfl⟩
   ·rw[ne (CI C),ne (CI C)];exact⟨_,rfl,rfl⟩
  ·have O:(((n.Kind<0)||(13≤n.Kind))||(!((decide (n.ID=1))==(decide (n.Kind=0)))))=true:=by
    by_cases m:0≤n.Kind∧n.Kind≤12
    ·have w:¬ (n.ID=1↔n.Kind=0):=λe=>j ⟨m,e⟩
     by_cases q:n.ID=1
     ·rw[nh q,ng (λe=>w ⟨λ_=>e,λ_=>q⟩),nr];exact .inr rfl
     ·rw[ng q,nh (oF λe=>w ⟨λx=>absurd x q,λx=>absurd x e⟩),nr];exact .inr rfl
    ·simp only[nr,ni];exact .inl (by omega)
   have T:(((!(0≤n.Kind∧n.Kind≤12))||((n.ID=1)&&(!(n.Kind=0))))||((!(n.ID=1))&&(n.Kind=0)))=true:=by
    by_cases m:0≤n.Kind∧n.Kind≤12
    ·have w:¬ (n.ID=1↔n.Kind=0):=λe=>j ⟨m,e⟩
     rw[nh m]
     by_cases q:n.ID=1
     ·rw[nh q,ng (λe=>w ⟨λ_=>e,λ_=>q⟩)];rfl
     ·rw[ng q,nh (oF λe=>w ⟨λx=>absurd x q,λx=>absurd x e⟩)];rfl
    ·rw[ng m];rfl
   rw[O,T];exact⟨_,rfl,rfl⟩
 ·rw[ne (show((n.ID<1)||(1073741824<n.ID))=true by simp only[nr,ni];omega),ng c1];exact⟨_,rfl,rfl⟩
theorem mB(s:List Int) v(q:s.length≤1048576):Jo s v=some ((List.range s.length).find? λj=>decide (v=s[j]!)).isSome:=by
 unfold Jo Nq
 rw[Bu (n:=s.length) (λj=>if decide (v=s[j]!) then some (j:Int) else none) (λj l=>by
  unfold IQ
  rw[ne (by simpa using l),Ag l,AD,Aq (by omega)]
  cases decide (v=s[j]!)<;>rfl) (by unfold IQ;rw[nd (by simp)]),Qb,Eb]
 cases (List.range s.length).find? λj=>decide (v=s[j]!) with
 | none=>rfl
 | some j=>
  show(AC (some (j:Int)) λ(m:Int)=>some (decide (0≤m)))=_
  rw[AD,nh (qK j)];rfl
theorem Jk(s:List Int) v(m:s.length≤1048576):Jo s v=some (decide (v∈s)):=by
 rw[mB s v m]
 congr 1
 rw[oU,ni,List.find?_isSome]
 constructor
 ·rintro⟨j,q,w⟩
  have l:=oL.1 q
  rw[qC w];exact B5 l
 ·intro h
  obtain⟨j,l,e⟩:=List.getElem_of_mem h
  exact⟨j,oL.2 l,nh (by rw[nv s j l,e])⟩
def JP(p k:Int):Bool:=
 if p=0 then decide (k∈[1,6,7,10,11,12]) else if p=1 then decide (k∈[2,4,5,10]) else if p=3 then decide (k∈[4,5,10]) else if p=4∨p=12 then decide (k=5) else if p=2 then decide (k=3) else if p=7 then decide (k=8∨k=9) else false
theorem VM p k:KG p k=some (JP p k):=by
 unfold KG JP
 by_cases l:p=0
 ·rw[ne (nh l),ne l,AD,Jk _ _ (by decide)];rfl
 ·rw[nd (show ¬ decide (p=0)=true by simpa using l),nd l]
  by_cases m:p=1
  ·rw[ne (nh m),ne m,AD,Jk _ _ (by decide)];rfl
  ·rw[nd (show ¬ decide (p=1)=true by simpa using m),nd m]
   by_cases q:p=3
   ·rw[ne (nh q),ne q,AD,Jk _ _ (by decide)];rfl
   ·rw[nd (show ¬ decide (p=3)=true by simpa using q),nd q]
    have B:(if decide (p=4)=true then some (decide (p=4)) else some (decide (p=12)))=some (decide (p=4∨p=12)):=by
     by_cases j:p=4
     ·rw[ne (nh j),nh j,nh (Or.inl j:p=4∨p=12)]
     ·rw[nd (show ¬ decide (p=4)=true by simpa using j)]
      congr 1
      rw[oU,ni,ni]
      exact⟨.inr,λh=>h.elim (λh=>absurd h j) id⟩
    rw[B,AD]
    by_cases j:p=4∨p=12
    ·rw[ne (nh j),ne j,AD,Jk _ _ (by decide),AD]
     congr 1;rw[oU];simp
    ·rw[nd (show ¬ decide (p=4∨p=12)=true by simpa using j),nd j]
     by_cases w:p=2
     ·rw[ne (nh w),ne w,AD,Jk _ _ (by decide),AD]
      congr 1;rw[oU];simp
     ·rw[nd (show ¬ decide (p=2)=true by simpa using w),nd w]
      by_cases A:p=7
      ·rw[ne (nh A),ne A,AD,Jk _ _ (by decide),AD]
       congr 1;rw[oU];simp
      ·rw[nd (show ¬ decide (p=7)=true by simpa using A),nd A,AD,Jk _ _ (by decide),AD];simp
theorem bL p k:NO p k=some (JP p k) := by
  have hk:k=1∨k=2∨k=3∨k=4∨k=5∨k=6∨k=7∨k=8∨k=9∨k=10∨k=11∨k=12∨(k≠1∧k≠2∧k≠3∧k≠4∧k≠5∧k≠6∧k≠7∧k≠8∧k≠9∧k≠10∧k≠11∧k≠12) := by omega
  have hp:p=0∨p=1∨p=2∨p=3∨p=4∨p=7∨p=12∨(p≠0∧p≠1∧p≠2∧p≠3∧p≠4∧p≠7∧p≠12) := by omega
  unfold NO JP Kr
  rcases hk with rfl | rfl | rfl | rfl | rfl | rfl | rfl | rfl | rfl | rfl | rfl | rfl | ⟨I, J, M, O, T, U, V, X, Z, l, m, q⟩
  all_goals first
    | (rcases hp with rfl | rfl | rfl | rfl | rfl | rfl | rfl | ⟨w, A, B, C, E, F, j⟩
       all_goals first | rfl | (simp[w, A, B, C, E, F, j];done))
    | (rcases hp with rfl | rfl | rfl | rfl | rfl | rfl | rfl | ⟨w, A, B, C, E, F, j⟩
       all_goals first
         | (simp[I, J, M, O, T, U, V, X, Z, l, m, q];done)
         | (simp[I, J, M, O, T, U, V, X, Z, l, m, q, w, A, B, C, E, F, j];done))
theorem aV{n:Nat}(h:n<9223372036854775808):IntKind.u64.wrap (n:Int)=(n:Int):=by
 have e:(n:Int) % (2 ^ (64:Nat):Int)=(n:Int):=rN (by omega) (by omega)
 show(if(false&&((n:Int) % (2 ^ (64:Nat):Int) ≥ (2 ^ (63:Nat):Int)))=true then(n:Int) % (2 ^ (64:Nat):Int)-(2 ^ (64:Nat):Int) else(n:Int) % (2 ^ (64:Nat):Int))=_
 rw[e,nd (by simp)]
theorem Zk(m:Nat)(h:m<4294967296):IntKind.i64.wrap (FQ .u64 (IntKind.u64.wrap (m:Int)) 1)=((m / 2:Nat):Int):=by
 rw[aV (by omega)]
 show IntKind.i64.wrap ((m:Int).fdiv (2 ^ (min 1 64)))=_
 rw[show((2:Int) ^ (min 1 64))=2 from rfl,Int.fdiv_eq_ediv_of_nonneg _ (by omega),show(m:Int) / 2=((m / 2:Nat):Int) by omega,Uv (by omega)]
def Hz(l:List AX):Prop:=∀a b:Nat,a<b→b<l.length→l[a]!.ID<l[b]!.ID
theorem UQ(n:AX) id:LD n id=some (if n.ID<id then -1 else if id<n.ID then 1 else 0):=by
 unfold LD
 by_cases j:n.ID<id
 ·rw[ne (nh j),ne j]
 ·rw[nd (show ¬ decide (n.ID<id)=true by simpa using j),nd j]
  by_cases l:id<n.ID
  ·rw[ne (nh l),ne l]
  ·rw[nd (show ¬ decide (id<n.ID)=true by simpa using l),nd l]
theorem Px(d:AN) id(V:d.Nodes.length≤1048576)(F:Hz d.Nodes):∃i:Nat,FB d id=some ((i:Int),(CJ d.Nodes id).isSome)∧(∀k,CJ d.Nodes id=some k→i=k):=by
 obtain⟨l⟩:=d
 dsimp only at V F ⊢
 have key:∃r,iter (λ(a:Int × Int)=>Er l id a.1 a.2) (0,(l.length:Int))=some r ∧
   ∃I:Nat,r=(I:Int)∧I≤l.length∧(∀m,m<I→l[m]!.ID<id)∧∀m,I≤m→m<l.length→¬ l[m]!.ID<id:=by
  refine I9 l.length (λk T=>∃I J:Nat,T=((I:Int),(J:Int))∧I≤J∧J≤l.length∧J-I≤l.length-k∧(∀m,m<I→l[m]!.ID<id)∧∀m,J≤m→m<l.length→¬ l[m]!.ID<id) _ ?_ ?_ ⟨0,l.length,rfl,by omega,by omega,by omega,λm h=>absurd h (Nat.not_lt_zero _),λm U M=>absurd M (by omega)⟩
  ·rintro k T hk ⟨I,J,rfl,U,M,X,C,w⟩
   dsimp only
   unfold Er
   by_cases Z:I<J
   ·left
    rw[ne (by rw[ni];omega),show(I:Int)+(J:Int)=((I+J:Nat):Int) by omega,CM (by omega) (by omega),AD,Zk _ (by omega),Ag (by omega),AD,UQ,AD]
    by_cases O:l[(I+J) / 2]!.ID<id
    ·rw[ne O,ne (by decide),Aq (by omega)]
     refine⟨_,rfl,(I+J) / 2+1,J,rfl,by omega,M,by omega,λm a0=>?_,w⟩
     by_cases e:m=(I+J) / 2
     ·rw[e];exact O
     ·have:=F m ((I+J) / 2) (by omega) (by omega);omega
    ·rw[nd O,nd (show ¬ decide ((if id<l[(I+J) / 2]!.ID then(1:Int) else 0)<0)=true by split<;>decide)]
     refine⟨_,rfl,I,(I+J) / 2,rfl,by omega,by omega,by omega,C,λm E j=>?_⟩
     by_cases e:m=(I+J) / 2
     ·rw[e];exact O
     ·have:=F ((I+J) / 2) m (by omega) j;omega
   ·right
    rw[nd (by rw[ni];omega)]
    exact⟨_,rfl,I,rfl,by omega,C,λm E j=>w m (by omega) j⟩
  ·rintro T ⟨I,J,rfl,U,M,X,C,w⟩
   dsimp only
   unfold Er
   rw[nd (by rw[ni];omega)]
   exact⟨_,rfl,I,rfl,by omega,C,λm E j=>w m (by omega) j⟩
 obtain⟨r,hr,I,rfl,hI,C,w⟩:=key
 unfold FB Lx
 rw[hr,AD]
 have A:∀k,CJ l id=some k→I=k:=by
  intro k q
  obtain⟨E,j⟩:=Fq q
  have a1:¬ k<I:=λh=>by have:=C k h;omega
  by_cases e:I=k
  ·exact e
  ·have:=F I k (by omega) E
   have:=w I (nk _) (by omega)
   omega
 refine⟨I,?_,A⟩
 by_cases B:I<l.length
 ·rw[nh (show(I:Int)<(l.length:Int) by omega),show((true==true):Bool)=true from rfl,Ap,Ag B,AD,Ap,UQ,AD,Bv]
  congr 2
  have h6:=w I (nk _) B
  rw[nd h6]
  cases q:CJ l id with
  | some k=>
   obtain⟨E,j⟩:=Fq q
   have:=A k q
   subst this
   rw[nd (by omega)];rfl
  | none=>
   have a2:l[I]!.ID≠id:=by
    intro e
    have:=rG.1 q I (oL.2 B)
    exact this (nh e)
   rw[ne (by omega)];rfl
 ·rw[ng (show ¬ (I:Int)<(l.length:Int) by omega)]
  show some ((I:Int),false)=_
  cases q:CJ l id with
  | some k=>
   obtain⟨E,j⟩:=Fq q
   have:=A k q
   omega
  | none=>rfl
def IF(d:AN):Prop:=d.Nodes.length≤1048576∧∀n∈d.Nodes,GN n
theorem Ur:EY=FD:=by funext f x o;rfl
theorem YR(n:AX):P0 n=FD n.Flow:=by funext x o;rfl
theorem eK:Ow=Ds:=by funext n x o;rfl
theorem dI(n:AX)(w:List Int)(q:n.Grid.Cells.length≤1048576)(hw:w.length≤1048576):∃r,iter (λ(a:Int × (List Int))=>Ds n a.1 a.2) (0,w)=some r∧r.length≤2097152:=by
 refine I9 n.Grid.Cells.length (λk l=>l.1=(k:Int)∧l.2.length≤1048576+k) _ ?_ ?_ ⟨rfl,by simpa using hw⟩
 ·rintro k ⟨x,out⟩ m ⟨rfl,j⟩
  dsimp only at j ⊢
  left
  unfold Ds
  rw[ne (by simpa using m),Ag m,AD]
  by_cases r:n.Grid.Cells[k]!.Ref=0
  ·rw[nd (DL r),AD,Aq (by omega),AD]
   exact⟨_,rfl,rfl,by dsimp only;omega⟩
  ·rw[ne (CI r),J7 (by omega),AD,AD,Aq (by omega),AD]
   exact⟨_,rfl,rfl,by dsimp only;rw[List.length_append,List.length_singleton];omega⟩
 ·rintro⟨x,out⟩ ⟨rfl,j⟩
  dsimp only at j ⊢
  unfold Ds
  rw[nd (by simp)]
  exact⟨_,rfl,by omega⟩
theorem YA(n:AX)(h:GN n):∃r,GX n=some r∧N9 n=some r∧r.length≤2097152:=by
 have q:=h.ok.fl
 obtain⟨w,j,A⟩:=lK n.Flow (by omega)
 obtain⟨r,l,m⟩:=dI n w h.ok.gr.1 (by omega)
 refine⟨r,?_,?_,m⟩
 ·unfold GX JC
  rw[Ur,j,AD,AD,l];rfl
 ·unfold N9
  rw[YR,eK,j,AD,l];rfl
theorem Rq(d:AN) kind(l:List Int)(w:d.Nodes.length≤1048576)(B:Hz d.Nodes)(J:l.length≤2097152):∃e,FV d kind l=some e∧Lv d kind l=some e:=by
 obtain⟨o,C,E,_⟩:=TB (ρ:=Int) (f:=λ(a:Int)=>EJ d kind l a) (g:=λ(a:Int)=>Lg d kind l a) (n:=l.length) (λ_=>True) trivial (λk m _=>by
  unfold EJ Lg
  obtain⟨i,F,q⟩:=Px d l[k]! w B
  rw[ne (by simpa using m),ne (by simpa using m),Ag m,AD,AD,F,Bv,Sf _ _ w,AD]
  cases A:CJ d.Nodes l[k]! with
  | none=>exact⟨some 7,rfl,rfl,λe=>by cases e⟩
  | some j=>
   obtain⟨I,M⟩:=Fq A
   have:=q j A
   subst this
   dsimp only
   rw[nd (show ¬ ((!Option.isSome (some i))=true) by simp),Ag I,AD,VM,AD,nd (show ¬ decide ((i:Int)<0)=true by simp),AD,bL,AD]
   cases JP kind d.Nodes[i]!.Kind with
   | false=>exact⟨some 8,rfl,rfl,λe=>by cases e⟩
   | true=>
    rw[Aq (by omega)]
    exact⟨none,rfl,rfl,λ_=>trivial⟩) (by unfold EJ;rw[nd (by simp)]) (by unfold Lg;rw[nd (by simp)])
 refine⟨o.getD 0,?_,?_⟩
 ·unfold FV;rw[C,Ew]
 ·unfold Lv;rw[E,Ew]
theorem UR{l:List AX}(h:∀k,0<k→k<l.length→l[k-1]!.ID<l[k]!.ID):Hz l:=by
 intro a b m q
 induction b with
 | zero=>omega
 | succ b w=>
  have j:=h (b+1) (by omega) q
  rw[rF] at j
  by_cases e:a=b
  ·rw[e];exact j
  ·have:=w (by omega) (by omega);omega
theorem gR(d:AN)(h:IF d):∃e,ET d=some e∧MN d=some e:=by
 obtain⟨F,C⟩:=h
 unfold ET MN
 by_cases h0:d.Nodes.length=0
 ·rw[ne (by rw[ni];omega),ne (by rw[ni];omega)];exact⟨_,rfl,rfl⟩
 ·rw[nd (by rw[ni];omega),nd (by rw[ni];omega)]
  obtain⟨o,I,J,M⟩:=TB (ρ:=Int) (f:=λ(a:Int)=>C0 d a) (g:=λ(a:Int)=>LB d a) (n:=d.Nodes.length) (λk=>∀j,0<j→j<k→d.Nodes[j-1]!.ID<d.Nodes[j]!.ID) (λj _ O=>absurd O (Nat.not_lt_zero _)) (λk l T=>by
   unfold C0 LB
   obtain⟨e,w,A⟩:=O7 _ (C _ (B5 l))
   rw[ne (by simpa using l),ne (by simpa using l),Ag l,AD,AD,w,A,AD,AD]
   by_cases m:e=0
   ·rw[nd (DL m),nd (DL m)]
    by_cases U:k=0
    ·subst U
     rw[nh (show((0:Nat):Int)=0 from rfl),show((true==true):Bool)=true from rfl,Ap,show(0:Int)=((0:Nat):Int) from rfl,Ag l,AD,ng (show ¬ ((0:Nat):Int)<((0:Nat):Int) by omega)]
     by_cases BJ:d.Nodes[0]!.ID=1
     ·refine⟨none,?_,?_,λ_ j E V=>by omega⟩
      ·rw[nh BJ];rfl
      ·rw[nh BJ];rfl
     ·refine⟨some 5,?_,?_,λe=>by cases e⟩
      ·rw[ng BJ];rfl
      ·rw[ng BJ];rfl
    ·have X:0<k:=by omega
     rw[ng (show ¬ ((k:Int)=0) by omega),nh (show(0:Int)<(k:Int) by omega),show((false==true):Bool)=false from rfl,Cs,AD]
     show ∃o:Option Int,(AC (gd true (AS .i64 ((k:Int)-1))) λ(B:Int)=>AC (gd true (AM d.Nodes B)) λ(q:AX)=>_)=_∧(AC (gd true (AS .i64 ((k:Int)-1))) λ(q:Int)=>AC (gd true (AM d.Nodes q)) λ(Z:AX)=>_)=_∧_
     rw[Ap,Et X (by omega),AD,AD,Ap,Ag (show k-1<d.Nodes.length by omega),AD,AD,Aq (by omega)]
     by_cases BJ:d.Nodes[k]!.ID≤d.Nodes[k-1]!.ID
     ·rw[nh BJ]
      exact⟨some 5,rfl,rfl,λe=>by cases e⟩
     ·rw[ng BJ]
      refine⟨none,rfl,rfl,λ_ j E V=>?_⟩
      by_cases e:j=k
      ·rw[e];omega
      ·exact T j E (by omega)
   ·rw[ne (CI m),ne (CI m)]
    exact⟨some e,rfl,rfl,λe=>by cases e⟩) (by unfold C0;rw[nd (by simp)]) (by unfold LB;rw[nd (by simp)])
  rw[I,J]
  cases o with
  | some e=>exact⟨e,rfl,rfl⟩
  | none=>
   have hs:=UR (M rfl)
   show ∃e,(Ay (iter (λ(a:Int)=>D1 d a) 0) λ(u4:Unit)=>some 0)=some e∧(Ay (iter (λ(a:Int)=>KL d a) 0) λ(u4:Unit)=>some 0)=some e
   obtain⟨o,w,A,_⟩:=TB (ρ:=Int) (f:=λ(a:Int)=>D1 d a) (g:=λ(a:Int)=>KL d a) (n:=d.Nodes.length) (λ_=>True) trivial (λk l _=>by
    unfold D1 KL
    obtain⟨r,r1,r2,r3⟩:=YA _ (C _ (B5 l))
    obtain⟨e,c1,c2⟩:=Rq d d.Nodes[k]!.Kind r F hs r3
    rw[ne (by simpa using l),ne (by simpa using l),Ag l,AD,AD,r1,r2,AD,AD,c1,c2,AD]
    by_cases m:e=0
    ·rw[nd (DL m),Aq (by omega)]
     exact⟨none,rfl,rfl,λ_=>trivial⟩
    ·rw[ne (CI m)]
     exact⟨some e,rfl,rfl,λ_=>trivial⟩) (by unfold D1;rw[nd (by simp)]) (by unfold KL;rw[nd (by simp)])
   exact⟨o.getD 0,by rw[w,Ew],by rw[A,Ew]⟩
theorem Yd{μ:AX→Nat}{γ:A5→Nat}{ψ:Am→Nat}{ρ:Ak→Nat}{δ:Au→Nat}{ν:AP→Nat}{κ:AG→Nat}
  (m:∀n,(n.Attrs.map κ).sum+(n.Flow.map ν).sum+γ n.Grid+(n.Draw.map δ).sum+1≤μ n) (hg:∀g,(g.Cells.map ψ).sum+(g.Merges.map ρ).sum+1≤γ g)
  (hc:∀c,c.Text.length+(c.Attrs.map κ).sum+1≤ψ c) (A:∀r,1≤ρ r) (hd:∀o,o.Place.length+o.Name.length+o.Value.length+1≤δ o) (B:∀e,(e.Attrs.map κ).sum+1≤ν e) (C:∀a,a.Name.length+a.Value.length+1≤κ a)
  {d:AN} (E:(d.Nodes.map μ).sum≤1048576):IF d:=by
 have q:=dD m hg (λc=>by have:=hc c;omega) A (λo=>by have:=hd o;omega) B C E
 refine⟨q.1,λn l=>⟨q.2 n l,λc j=>⟨(q.2 n l).gr.2.2 c j,?_⟩,λo w=>?_⟩⟩
 ·have F:=IE (μ:=μ) l
  have I:=m n
  have M:=hg n.Grid
  have J:=IE (μ:=ψ) j
  have:=hc c
  omega
 ·have F:=IE (μ:=μ) l
  have I:=m n
  have J:=IE (μ:=δ) w
  have:=hd o
  exact⟨by omega,by omega,by omega⟩
end Go.Proofs.YtmogkkigacadpaaGreatDoor.Al

set_option linter.unusedVariables false
set_option linter.unusedSimpArgs false
namespace Go.Proofs.YtmogkkigacadpaaGreatDoor.Al
open Go
def Ck:Nat→List UInt8→Option Nat
 | j,[]=>some j
 | j,c::r=>if 48≤c.toNat∧c.toNat≤57 then Ck (j * 10+(c.toNat-48)) r else none
theorem U6(c:UInt8):∀(l:List UInt8) (j:Nat),Ck j (l++[c])=(Ck j l).bind λa=>if 48≤c.toNat∧c.toNat≤57 then some (a * 10+(c.toNat-48)) else none:=by
 intro l
 induction l with
 | nil=>intro j;simp only[og,Ck,oR]
 | cons x r m=>
  intro j
  rw[pD,Ck,Ck]
  split
  ·rw[m]
  ·rfl
theorem Um:∀(l:List UInt8) (j v:Nat),Ck j l=some v→j≤v:=by
 intro l
 induction l with
 | nil=>intro j v h;simp only[Ck,nn] at h;omega
 | cons x r m=>
  intro j v h
  rw[Ck] at h
  split at h
  ·have:=m _ _ h;omega
  ·cases h
theorem YL:∀(l:List UInt8) (j v:Nat),Ck j l=some v→v<1152921504606846976→Lib.parseUint10 j l=.ok v:=by
 intro l
 induction l with
 | nil=>intro j v h _;simp only[Ck,nn] at h;rw[h];rfl
 | cons x r m=>
  intro j v h q
  rw[Ck] at h
  simp only[Lib.parseUint10]
  split at h
  ·rename_i hd
   have:=Um _ _ _ h
   rw[ne hd,nd (by omega),nd (by omega)]
   exact m _ _ h q
  ·cases h
theorem g8 u:Ck 0 (Lib.decDigits u)=some u:=by
 induction u using Nat.strongRecOn with
 | _ u j=>
  rw[Lib.decDigits]
  split
  ·rename_i h
   have:(UInt8.ofNat (48+u)).toNat=48+u:=by simp;omega
   simp only[Ck,this]
   rw[ne (by omega)]
   congr 1;omega
  ·rename_i h
   rw[U6,j (u / 10) (by omega),oR]
   have:(UInt8.ofNat (48+u % 10)).toNat=48+u % 10:=by simp;omega
   rw[this,ne (by omega)]
   congr 1;omega
theorem UI u(h:1≤u):∃c r,Lib.decDigits u=c::r∧49≤c.toNat∧c.toNat≤57:=by
 induction u using Nat.strongRecOn with
 | _ u j=>
  rw[Lib.decDigits]
  split
  ·exact⟨_,[],rfl,by simp;omega,by simp;omega⟩
  ·obtain⟨c,r,e,l,m⟩:=j (u / 10) (by omega) (by omega)
   exact⟨c,r++[UInt8.ofNat (48+u % 10)],by rw[e];rfl,l,m⟩
theorem gY:∀(k u:Nat),u<10 ^ (k+1)→(Lib.decDigits u).length≤k+1:=by
 intro k
 induction k with
 | zero=>
  intro u h
  rw[Lib.decDigits,qD (by simpa using h)];simp
 | succ k j=>
  intro u h
  rw[Lib.decDigits]
  split
  ·simp
  ·have:=j (u / 10) (by rw[Nat.pow_succ] at h;omega)
   simp;omega
theorem ju:∀(n:Nat) (l:List UInt8) (u:Nat),l.length=n→Ck 0 l=some u→(∃c r,l=c::r∧(c.toNat≠48∨r=[]))→l=Lib.decDigits u:=by
 intro n
 induction n with
 | zero=>rintro l u w _ ⟨c,r,rfl,_⟩;simp at w
 | succ n C=>
  rintro l u w j ⟨c,r,rfl,E⟩
  rcases List.eq_nil_or_concat r with rfl | ⟨A,d,rfl⟩
  ·simp only[Ck] at j
   split at j
   ·rename_i hd
    simp only[nn] at j
    rw[Lib.decDigits,qD (by omega)]
    congr 1
    apply UInt8.toNat_inj.1
    simp;omega
   ·cases j
  ·rw[List.concat_eq_append,← pD,U6] at j
   cases m:Ck 0 (c::A) with
   | none=>rw[m] at j;cases j
   | some a=>
    rw[m,oR] at j
    split at j
    ·rename_i hd
     simp only[nn] at j
     have B:c.toNat≠48:=by
      rcases E with h | h
      ·exact h
      ·simp at h
     have F:1≤a:=by
      have q:=m
      rw[Ck] at q
      split at q
      ·have:=Um _ _ _ q;omega
      ·cases q
     have e:=C (c::A) a (by simp at w ⊢;omega) m ⟨c,A,rfl,.inl B⟩
     rw[List.concat_eq_append,← pD,e,Lib.decDigits.eq_def u,qw (by omega)]
     congr 1
     ·congr 1;omega
     ·congr 1
      apply UInt8.toNat_inj.1
      simp;omega
    ·cases j
def D7(s:List UInt8):Int:=
 match s with
 | []=>-1
 | c::r=>if 10<(c::r).length∨(c.toNat=48∧r≠[]) then -1 else match Ck 0 (c::r) with | some v=>(v:Int) | none=>-1
theorem jE(c:UInt8)(j:48≤c.toNat):IntKind.i64.wrap (IntKind.u8.wrap ((c.toNat:Int)-48))=((c.toNat-48:Nat):Int):=by
 have:=c.toNat_lt
 rw[show IntKind.u8.wrap ((c.toNat:Int)-48)=((c.toNat-48:Nat):Int) by unfold IntKind.wrap;simp[IntKind.signed,IntKind.bits];omega]
 unfold IntKind.wrap
 simp[IntKind.signed,IntKind.bits]
 omega
theorem jl(s:List UInt8):OH s=some (D7 s):=by
 unfold OH
 cases s with
 | nil=>simp[Cs,D7]
 | cons c r=>
  rw[ng (by simp:¬ (c::r)=[]),ox]
  have hN:D7 (c::r)=if 10<(c::r).length∨(c.toNat=48∧r≠[]) then -1 else match Ck 0 (c::r) with | some v=>(v:Int) | none=>-1:=rfl
  by_cases h10:10<(c::r).length
  ·have hN1:D7 (c::r) = -1:=by rw[hN,ne (.inl h10)]
   rw[hN1,nh (by exact_mod_cast h10)]
   simp[Cs]
  ·rw[ng (by exact_mod_cast h10)]
   simp only[show((false==false)=true) from rfl,Ap,ox]
   rw[show AM (c::r) 0=some c from rfl,AD]
   by_cases h0:c.toNat=48∧r≠[]
   ·have hN1:D7 (c::r) = -1:=by rw[hN,ne (.inr h0)]
    have h3:0<r.length:=pd.2 h0.2
    rw[hN1,ne (by simp[h0.1];omega)]
   ·have hN1:D7 (c::r)=match Ck 0 (c::r) with | some v=>(v:Int) | none=>-1:=by
     rw[hN,nd (by rintro(h | h);exact h10 h;exact h0 h)]
    rw[hN1,nd]
    ·have h:=Fi (f:=λ(a:Int × Int)=>HJ (c::r) a.1 a.2) (c::r) (λ(n:Nat) i=>((n:Int),(i:Int))) (λl n=>match Ck n l with | some v=>(.nrm (v:Int):Ar Int Int) | none=>.ext (-1)) (λi n=>n<10 ^ i)
      (λi n hi hn=>by
       show(∃c',HJ (c::r) (n:Int) (i:Int)=_∧_)∨HJ (c::r) (n:Int) (i:Int)=_
       unfold HJ
       rw[ne (by rw[ni];exact_mod_cast hi),Ag hi,AD]
       generalize (c::r)[i]! = x
       have hi10:i≤9:=by omega
       have hp:10 ^ i≤10 ^ 9:=Nat.pow_le_pow_right (by omega) hi10
       by_cases hd:48≤x.toNat∧x.toNat≤57
       ·left
        refine⟨n * 10+(x.toNat-48),?_,by rw[Nat.pow_succ];omega,?_⟩
        ·rw[nd (by simp;omega),CM (by omega) (by omega),AD,jE x hd.1,CM (by omega) (by omega),AD,Aq (by omega),AD]
         congr 3;omega
        ·rw[Ck,ne hd]
       ·right
        rw[ne (by simp;omega),Ck,nd hd])
      (λn hn=>by
       show HJ (c::r) (n:Int) ((c::r).length:Int)=_
       unfold HJ
       rw[nd (by simp)]
       rfl) (0:Nat) (by simp) ((0:Int),(0:Int)) rfl
     have h':iter (λ(a:Int × Int)=>HJ (c::r) a.1 a.2) ((0:Int),(0:Int))=_:=h
     rw[h']
     cases Ck 0 (c::r) with
     | none=>rfl
     | some v=>rfl
    ·intro h
     apply h0
     rw[np,ni,ni] at h
     exact⟨by omega,λe=>by rw[e] at h;simp at h⟩
theorem UF s(n:Int)(F:1≤n)(I:n≤1073741824):(Lib.atoiAll s=.ok n∧Lib.itoa n=s)↔D7 s=n:=by
 obtain⟨u,rfl⟩:∃u:Nat,n=(u:Int):=⟨n.toNat,by omega⟩
 have l:1≤u:=by omega
 rw[Lib.itoa_nonneg]
 constructor
 ·rintro⟨_,rfl⟩
  obtain⟨c,r,e,q,w⟩:=UI u l
  have A:=gY 9 u (by omega)
  have j:=g8 u
  rw[e] at A j ⊢
  unfold D7
  simp only
  rw[nd (by rintro(h | ⟨h,_⟩)<;>omega),j]
 ·intro h
  unfold D7 at h
  split at h
  ·omega
  ·rename_i c r
   split at h
   ·omega
   ·rename_i B
    cases j:Ck 0 (c::r) with
    | none=>rw[j] at h;simp only at h;omega
    | some v=>
     rw[j] at h
     simp only at h
     have:v=u:=by omega
     subst this
     have e:=ju _ (c::r) v rfl j ⟨c,r,rfl,by
      by_cases m:c.toNat=48
      ·right
       apply oF
       intro C
       exact B (.inr ⟨m,C⟩)
      ·exact .inl m⟩
     refine⟨?_,e.symm⟩
     obtain⟨J,M,E,q,w⟩:=UI v l
     rw[E] at e
     simp only[qi] at e
     rw[Lib.atoiAll_plain c r (by rw[e.1];omega) (by rw[e.1];omega)]
     unfold Lib.parseMag
     rw[nd (by simp),YL _ _ _ j (by omega)]
     simp only[Lib.signless]
     rw[nd (by omega)]
end Go.Proofs.YtmogkkigacadpaaGreatDoor.Al

namespace Go.Proofs.YtmogkkigacadpaaGreatDoor.Al
theorem BZ{α β:Type}{o:Option α}{f:α→Option β}{r:β}(h:AC o f=some r):∃a,o=some a∧f a=some r:=by
 cases o with
 | none=>cases h
 | some a=>exact⟨a,rfl,h⟩
theorem Nu{d:AN}(h:IF d)(l:ET d=some 0):Hz d.Nodes∧∀k,k<d.Nodes.length→Cz d.Nodes[k]! = some 0:=by
 obtain⟨T,F⟩:=h
 unfold ET at l
 split at l
 ·cases l
 let g:Nat→Option Int:=λk=>if(Cz d.Nodes[k]!).getD 0≠0 then some ((Cz d.Nodes[k]!).getD 0) else if(k=0∧d.Nodes[k]!.ID≠1)∨(0<k∧d.Nodes[k]!.ID≤d.Nodes[k-1]!.ID) then some 5 else none
 have hit:iter (λ(a:Int)=>C0 d a) 0=some (DE ((List.range d.Nodes.length).findSome? g)):=by
  refine Bu g (λk j=>?_) (by unfold C0;rw[nd (by simp)])
  unfold C0
  obtain⟨e,A,_⟩:=O7 _ (F _ (B5 j))
  show _=B2 k (g k)
  simp only[g]
  rw[ne (by simpa using j),Ag j,AD,A,AD]
  show _=B2 k (if e≠0 then some e else _)
  by_cases q:e=0
  ·rw[nd (DL q),nd (by simpa using q)]
   by_cases B:k=0
   ·subst B
    rw[nh (show((0:Nat):Int)=0 from rfl),ng (show ¬ (0:Int)<((0:Nat):Int) by omega)]
    by_cases BJ:d.Nodes[0]!.ID=1
    ·rw[nh BJ,nd (show ¬ ((0=0∧d.Nodes[0]!.ID≠1)∨(0<0∧d.Nodes[0]!.ID≤d.Nodes[0-1]!.ID)) by rintro(⟨_,b⟩ | ⟨a,_⟩);exact b BJ;omega)]
     rfl
    ·rw[ng BJ,ne (show((0=0∧d.Nodes[0]!.ID≠1)∨(0<0∧d.Nodes[0]!.ID≤d.Nodes[0-1]!.ID)) from .inl ⟨rfl,BJ⟩)]
     rfl
   ·have I:0<k:=by omega
    rw[ng (show ¬ ((k:Int)=0) by omega),nh (show(0:Int)<(k:Int) by omega)]
    show(AC (gd true (AS .i64 ((k:Int)-1))) λ(C:Int)=>AC (gd true (AM d.Nodes C)) λ(J:AX)=>_)=_
    rw[Ap,Et I (by omega),AD,Ap,Ag (show k-1<d.Nodes.length by omega),AD,Aq (by omega)]
    by_cases BJ:d.Nodes[k]!.ID≤d.Nodes[k-1]!.ID
    ·rw[nh BJ,ne (show((k=0∧d.Nodes[k]!.ID≠1)∨(0<k∧d.Nodes[k]!.ID≤d.Nodes[k-1]!.ID)) from .inr ⟨I,BJ⟩)]
     rfl
    ·rw[ng BJ,nd (show ¬ ((k=0∧d.Nodes[k]!.ID≠1)∨(0<k∧d.Nodes[k]!.ID≤d.Nodes[k-1]!.ID)) by rintro(⟨a,_⟩ | ⟨_,b⟩);exact B a;exact BJ b)]
     rfl
  ·rw[ne (CI q),ne q]
   rfl
 rw[hit] at l
 cases w:(List.range d.Nodes.length).findSome? g with
 | some e=>
  rw[w] at l
  have l:(some e:Option Int)=some 0:=l
  injection l with l
  obtain⟨k,_,j⟩:=ow w
  simp only[g] at j
  split at j
  ·rename_i E;injection j with j;exact absurd (j.trans l) E
  ·split at j
   ·injection j with j;omega
   ·cases j
 | none=>
  rw[pI] at w
  have j:∀k,k<d.Nodes.length→(Cz d.Nodes[k]!).getD 0=0∧¬ ((k=0∧d.Nodes[k]!.ID≠1)∨(0<k∧d.Nodes[k]!.ID≤d.Nodes[k-1]!.ID)):=by
   intro k j
   have:=w k (oL.2 j)
   simp only[g] at this
   split at this
   ·cases this
   ·rename_i M
    split at this
    ·cases this
    ·rename_i O;exact⟨by simpa using M,O⟩
  refine⟨UR λk B m=>?_,λk m=>?_⟩
  ·have:=(j k m).2
   have U:¬ (0<k∧d.Nodes[k]!.ID≤d.Nodes[k-1]!.ID):=λe=>this (.inr e)
   omega
  ·obtain⟨e,A,_⟩:=O7 _ (F _ (B5 m))
   have:=(j k m).1
   rw[A] at this ⊢
   exact n9 some this
def g0:A5:=A5.mk 2 1 [(Am.mk 1 0 [120] 0 [])] []
def e0:Nw:=Nw.mk [(JJ.mk 1 1),(JJ.mk 0 2)] [] [] [] []
def lD(c t:Am):Int:=Bn c.Row t.Row c.Col t.Col
def fX(l:List Am):Prop:=∀k,k+1<l.length→lD l[k]! l[k+1]!<0
def Qn(r:Ak)(row j:Int):Bool:=decide (r.Row≤row∧row<r.Row+r.H∧r.Col≤j∧j<r.Col+r.W)
def Nc(l:List Ak)(row j:Int)(k:Nat):Option Ak:=if Qn l[k]! row j=true then some l[k]! else none
theorem Z9(g:A5) row j (J:EZ g.Rows g.Cols) (M:∀k,k<g.Merges.length→Cj g.Rows g.Cols g.Merges[k]!) (Z:g.Merges.length≤1048576) (hr:row≤9223372036854775807) (hc:j≤9223372036854775807) :
  ∃o:Option Ak,iter (λ(a:Int)=>IU g row j a) 0=some (DE o)∧iter (λ(a:Int)=>IM g row j a) 0=some (DE o):=by
 refine⟨(List.range g.Merges.length).findSome? (Nc g.Merges row j),?_,?_⟩
 ·refine Bu (f:=λ(a:Int)=>IU g row j a) (n:=g.Merges.length) (Nc g.Merges row j) (λk l=>?_) ?_
  ·obtain⟨w,A,B,C,E,F,I,i8⟩:=M k l
   unfold IU Nc Qn
   rw[ne (by simpa using l),Ag l,AD]
   generalize g.Merges[k]! = r at w A B C E F I i8
   obtain⟨T,U,V,X⟩:=J
   by_cases q:r.Row≤row
   ·rw[nh q]
    simp only[oq,Ap,oS]
    rw[CM (by omega) (by omega),AD]
    by_cases m:row-r.Row<r.H∧r.Col≤j
    ·rw[nh m.1,nh m.2]
     simp only[qo,oq,Ap,oS]
     rw[CM (by omega) (by omega),AD]
     by_cases O:j-r.Col<r.W
     ·rw[ne (nh O),ne (by rw[ni];omega)];rfl
     ·rw[nd (by rw[ni];exact O),nd (by rw[ni];omega),Aq (by omega),AD];rfl
    ·have e:((row-r.Row<r.H)&&(r.Col≤j))=false:=by
      rw[← oV,np,ni,ni];exact m
     rw[e]
     simp only[show(false==true)=false from rfl,Cs,AD,pt]
     rw[nd (by decide),nd (by rw[ni];omega),Aq (by omega),AD];rfl
   ·rw[ng q]
    simp only[show(false==true)=false from rfl,Cs,AD,pt]
    rw[nd (by decide),nd (by rw[ni];omega),Aq (by omega),AD];rfl
  ·show IU g row j (g.Merges.length:Int)=_
   unfold IU
   rw[nd (by simp)]
 ·refine Bu (f:=λ(a:Int)=>IM g row j a) (n:=g.Merges.length) (Nc g.Merges row j) (λk l=>?_) ?_
  ·obtain⟨w,A,B,C,E,F,I,i8⟩:=M k l
   unfold IM Nc Qn
   rw[ne (by simpa using l),Ag l,AD]
   generalize g.Merges[k]! = r at w A B C E F I i8
   obtain⟨T,U,V,X⟩:=J
   rw[CM (by omega) (by omega),AD,CM (by omega) (by omega),AD,Dz,AD]
   by_cases q:r.Row≤row∧row≤r.Row+r.H-1
   ·rw[nh q]
    simp only[oq,Ap,oS]
    rw[CM (by omega) (by omega),AD,CM (by omega) (by omega),AD,Dz,AD]
    by_cases m:r.Col≤j∧j≤r.Col+r.W-1
    ·rw[ne (nh m),ne (by rw[ni];omega)];rfl
    ·rw[nd (by rw[ni];exact m),nd (by rw[ni];omega),Aq (by omega),AD];rfl
   ·rw[ng q]
    simp only[show(false==true)=false from rfl,Cs,AD,pt]
    rw[nd (by decide),nd (by rw[ni];omega),Aq (by omega),AD];rfl
  ·show IM g row j (g.Merges.length:Int)=_
   unfold IM
   rw[nd (by simp)]
theorem RO{l:Nat}{G:Nat→Option Int}(h:((List.range l).findSome? G).getD 0=0)(hn:∀k,k<l→G k≠some 0):∀k,k<l→G k=none:=by
 intro k hk
 cases hf:(List.range l).findSome? G with
 | none=>
  rw[pI] at hf
  exact hf k (oL.2 hk)
 | some v=>
  rw[hf] at h
  obtain⟨j,hj,hjv⟩:=ow hf
  have h0:v=0:=h
  rw[h0] at hjv
  exact absurd hjv (hn j (oL.1 hj))
theorem V2{g:A5}(h:HE g=0):EZ g.Rows g.Cols∧fX g.Cells∧∀k,k<g.Merges.length→Cj g.Rows g.Cols g.Merges[k]!:=by
 unfold HE at h
 by_cases h1:EZ g.Rows g.Cols
 ·rw[nd (by simpa using h1)] at h
  by_cases h2:IY g.Rows g.Cols false g.Cells=0
  ·rw[nd (by simpa using h2)] at h
   refine⟨h1,λk hk=>?_,λk hk=>?_⟩
   ·have:=RO h2 (λk _ he=>by
     unfold Hl at he
     split at he
     ·rename_i hne
      injection he with he
      exact hne he
     ·split at he
      ·cases he
      ·cases he) (k+1) (by omega)
    unfold Hl at this
    split at this
    ·cases this
    ·split at this
     ·cases this
     ·rename_i hq
      rw[rF] at hq
      show Bn _ _ _ _<0
      have:=λh=>hq ⟨by omega,h⟩
      omega
   ·have:=RO h (λk _ he=>by
     unfold IV at he
     split at he
     ·cases he
     ·split at he
      ·cases he
      ·split at he
       ·cases he
       ·split at he
        ·cases he
        ·cases he) k hk
    exact Sd this
  ·rw[ne h2] at h;exact absurd h h2
 ·rw[ne h1] at h;cases h
def J8(c:UInt8):Bool:=(97≤c.toNat)&&(c.toNat≤122)
def Kf(s:List UInt8):Bool:=s.all J8&&(1≤s.length)&&(s.length≤200)&&!(s[s.length-1]!.toNat=97)
theorem ZV(c:UInt8):(((c.toNat:Int)<97)||(122<(c.toNat:Int)))=!J8 c:=by
 unfold J8
 rw[oU]
 simp only[nr,ni,oc,pg,ol]
 omega
theorem kc(s:List UInt8)(l:s.length≤1048576):iter (λ(a:Int)=>J0 s a) 0=some (DE (if s.all J8 then none else some false)):=by
 rw[Bu (n:=s.length) (λk=>if J8 s[k]! then none else some false) (λk j=>by
  unfold J0
  rw[ne (by simpa using j),Ag j,AD,Aq (by omega),ZV]
  cases J8 s[k]!<;>rfl) (by unfold J0;rw[nd (by simp)]),Oc]
theorem Xn(c:UInt8):decide ((c.toNat:Int)=97)=decide (c.toNat=97):=by
 rw[oU];simp only[ni];omega
theorem fH(s:List UInt8)(w:s.length≤1048576):Ja s=some (Kf s):=by
 unfold Ja
 rw[kc s w]
 unfold Kf
 by_cases j:s=[]
 ·subst j;rfl
 ·have m:1≤s.length:=pd.2 j
  rw[ng j,ox]
  by_cases q:s.length≤200
  ·have l:decide (200<(s.length:Int))=false:=by simp;omega
   rw[l,show((false==false)=true) from rfl,Ap,Et m (by omega),AD,Ap,Ag (by omega),AD,ox,Xn]
   rw[nh m,nh q]
   generalize s.all J8=A
   cases decide (s[s.length-1]!.toNat=97)<;>cases A<;>rfl
  ·have l:decide (200<(s.length:Int))=true:=by simp;omega
   rw[l,show((true==false)=false) from rfl,Cs,AD,Cs,AD,q8,ne rfl,ng q]
   simp
def E7(x:Au):Int:=
 if x.Kind≠0∧x.Kind≠1 then 8
 else if ¬ (((1≤x.Clock∧x.Clock≤1073741824)∧(0≤x.Site∧x.Site≤1000))∧(1≤x.Item∧x.Item≤1073741824)) then 2
 else if x.Kind=0 then(if x.Name≠[]∨x.Value≠[] then 4 else if ¬ (-1≤x.Parent∧x.Parent≤1073741824) then 2 else if Kf x.Place then 0 else 9)
 else(if x.Parent≠0∨x.Place≠[] then 4 else if EI x.Name then(if x.Value≠[]∧Da x.Value=false then 23 else 0) else 9)
structure Vd(x:Au):Prop where
 place:x.Place.length≤1048576
 name:x.Name.length≤1048576
 value:x.Value.length≤1048576
theorem Y6 x(h:Vd x):KK x=some (E7 x):=by
 unfold KK E7
 rw[fH _ h.place,RI _ (by have:=h.name;omega),Rp _ (by have:=h.value;omega)]
 obtain⟨Clock,Site,Kind,Item,j,Place,Name,Value⟩:=x
 dsimp only
 by_cases w:Kind≠0∧Kind≠1
 ·rw[ne w,ne (by simp[w.1,w.2])]
 rw[nd w,nd (by simpa using w)]
 by_cases B:((1≤Clock∧Clock≤1073741824)∧(0≤Site∧Site≤1000))∧(1≤Item∧Item≤1073741824)
 ·rw[nd (oJ.2 B),nd (by simp only[nr,ni];omega)]
  by_cases A:Kind=0
  ·subst A
   rw[ne rfl]
   by_cases l:Name≠[]∨Value≠[]
   ·rw[ne l,ne (by rcases l with h | h<;>simp[h])]
    rcases l with h | h<;>simp[h]
   ·have m:Name=[]:=oF λh=>l (.inl h)
    have q:Value=[]:=oF λh=>l (.inr h)
    subst m;subst q
    rw[nd l]
    simp only[qm,p8,Bool.or_self,Bool.and_false,pR,qE,AD,show(decide ((0:Int)=1))=false from rfl,pt,oS,oq,Ap]
    by_cases hp : -1≤j∧j≤1073741824
    ·rw[nd (oJ.2 hp),nd (by simp only[nr,ni];omega)]
     cases Kf Place<;>simp[Cs]
    ·rw[ne hp,ne (by simp only[nr,ni];omega)]
  ·have E:Kind=1:=oF λh=>w ⟨A,h⟩
   subst E
   rw[nd A]
   simp only[show(decide ((1:Int)=0))=false from rfl,pt,pR,qE,AD,qm,oS,show(false==true)=false from rfl,Cs,oq,Ap]
   by_cases l:j≠0∨Place≠[]
   ·rw[ne l,ne (by rcases l with h | h<;>simp[h])]
   ·have m:j=0:=oF λh=>l (.inl h)
    have q:Place=[]:=oF λh=>l (.inr h)
    subst m;subst q
    rw[nd l,nd (by simp)]
    cases EI Name
    ·simp
    ·by_cases C:Value=[]
     ·subst C;simp[Cs]
     ·simp[C]
      cases Da Value<;>rfl
 ·rw[ne B,ne (by simp only[nr,ni];omega)]
def Km(a b:Au):Bool:=(a.Clock<b.Clock)||((a.Clock=b.Clock)&&(a.Site<b.Site))
def Gf(x y:Int):Int:=if x<y then -1 else if y<x then 1 else 0
theorem PS x y:F7 x y=some (Gf x y):=by
 unfold F7 Gf LA
 simp only[qm,p8,AD,pR,qE,ni]
 split
 ·rfl
 ·split<;>rfl
theorem US x y:Ht [x,y]=some (if x≠0 then x else y):=by
 unfold Ht
 rw[Bu (n:=2) (λk=>if [x,y][k]!≠0 then some [x,y][k]! else none) (λk m=>by
  unfold Dl
  rw[ne (by simp;omega),Ag (by simpa using m),AD,Aq (by omega)]
  by_cases h:[x,y][k]! = 0
  ·rw[nd (by rw[h];decide),nd (oJ.2 h)];rfl
  ·rw[ne (by rw[ng h];rfl),ne h];rfl) (by unfold Dl;rw[nd (by simp)])]
 by_cases j:x=0
 ·by_cases l:y=0
  ·subst j;subst l;rfl
  ·subst j;simp[List.range_succ,l,DE]
 ·simp[List.range_succ,j,DE]
theorem mS(a b:Au):∃r,JF a b=some r∧decide (r<0)=Km a b∧decide (0≤r)=!Km a b:=by
 unfold JF
 rw[PS,PS,AD,AD,US,AD]
 refine⟨_,rfl,?_⟩
 have key:(if Gf a.Clock b.Clock≠0 then Gf a.Clock b.Clock else Gf a.Site b.Site)<0↔Km a b=true:=by
  unfold Km Gf
  simp only[nr,np,ni]
  by_cases j:a.Clock<b.Clock
  ·simp[j]
  ·by_cases l:b.Clock<a.Clock
   ·simp[j,l];omega
   ·by_cases m:a.Site<b.Site
    ·simp[j,l,m];omega
    ·by_cases q:b.Site<a.Site
     ·simp[j,l,m,q]
     ·simp[j,l,m,q]
 constructor
 ·rw[oU,ni];exact key
 ·rw[oU,ni,oc,← oV,← key];omega
def Iw(l:List Au):Prop:=∀x∈l,Vd x
def Kj(l:List Au)(k:Nat):Option Int:=if E7 l[k]!≠0 then some (E7 l[k]!) else if 0<k∧Km l[k-1]! l[k]! = false then some 5 else none
def QU(l:List Au):Int:=((List.range l.length).findSome? (Kj l)).getD 0
theorem kh(l:List Au)(h:Iw l)(C:l.length≤1048576):Jc l=some (QU l):=by
 unfold Jc
 rw[Bu (n:=l.length) (Kj l) (λk m=>by
  unfold JA Kj
  rw[ne (by simpa using m),Ag m,AD,Y6 _ (h _ (B5 m)),AD,Aq (by omega)]
  by_cases j:E7 l[k]! = 0
  ·rw[nd (by rw[j];decide),nd (oJ.2 j)]
   by_cases q:k=0
   ·subst q;rfl
   ·have w:decide ((0:Int)<(k:Int))=true:=by simp;omega
    obtain⟨r,A,_,B⟩:=mS l[k-1]! l[k]!
    rw[w,show((true==true)=true) from rfl,Ap,Et (by omega) (by omega),AD,Ap,Ag (by omega),AD,Ap,A,AD,B,oS]
    cases j:Km l[k-1]! l[k]!
    ·rw[ne (by decide),ne ⟨by omega,rfl⟩];rfl
    ·rw[nd (by simp),nd (by simp)];rfl
  ·rw[ne (by rw[ng j];rfl),ne j];rfl) (by unfold JA;rw[nd (by simp)]),Ew]
 rfl
def KU(j:Bool)(e:AG):Prop:=EI e.Name=true∧(Da e.Value=true∨(j=true∧e.Value=[]))
theorem L8(l:List AG)(ch:Bool):B4 l ch=0↔Bp l∧∀e∈l,KU ch e:=by
 constructor
 ·intro h
  refine⟨(Je h).1,λe he=>?_⟩
  obtain⟨k,hk,rfl⟩:=ov.1 he
  have hn:ES l ch k=none:=by
   unfold B4 at h
   cases hf:(List.range l.length).findSome? (ES l ch) with
   | none=>exact(Vs _ _).1 hf k hk
   | some r=>
    rw[hf] at h
    obtain⟨j,_,hj⟩:=ow hf
    exfalso
    unfold ES at hj
    simp only[oz] at h
    subst h
    repeat' split at hj
    all_goals simp at hj
  unfold ES at hn
  rw[nv l k hk] at hn
  generalize l[k]=x at hn ⊢
  unfold KU
  by_cases c1:EI x.Name=false
  ·rw[ne c1] at hn;cases hn
  ·rw[nd c1] at hn
   by_cases c2:Da x.Value=false∧¬ (ch=true∧x.Value=[])
   ·rw[ne c2] at hn;cases hn
   ·refine⟨by simpa using c1,?_⟩
    by_cases c3:Da x.Value=true
    ·exact .inl c3
    ·exact .inr (oF λh3=>c2 ⟨by simpa using c3,h3⟩)
 ·rintro⟨hs,hv⟩
  unfold B4
  have:(List.range l.length).findSome? (ES l ch)=none:=by
   rw[pI]
   intro k hk
   have hk:=oL.1 hk
   have h1:=hv _ (B5 hk)
   unfold ES
   unfold KU at h1
   rw[nd (by rw[h1.1];simp),nd (by rintro⟨a1,a2⟩;rcases h1.2 with h2 | h2;rw[a1] at h2;cases h2;exact a2 h2),nd]
   rintro⟨h0,h2⟩
   have:=pj.1 hs (k-1) k (by omega) hk (by omega)
   rw[nv l k hk,nv l (k-1) (by omega)] at h2
   rw[this] at h2;cases h2
  rw[this];rfl
theorem VG:∀ {l:List AG},Bp l→∀e∈l,A6 l e.Name=some e
 | [],_,e,h=>by simp at h
 | x::l,j,e,h=>by
  obtain⟨m,q⟩:=EW.1 j
  rcases oP.1 h with rfl | h
  ·unfold A6;rw[ne rfl]
  ·have:=E2 (m e h)
   unfold A6;rw[nd (qx this)]
   exact VG q e h
theorem bF{j}{g}{G}(h:∀x y o, j x y o=o++g x y)(hg:QB g G){a b}{l m w}
 (A:B4 a l=0) (B:B4 b m=0) (F:∀x y e, (∀z, x=some z→KU l z)→(∀z, y=some z→KU m z)→G x y=some e→KU w e):B4 (CL j a b []) w=0 := by
  obtain⟨I, v1⟩ := (L8 a l).1 A
  obtain⟨J, M⟩ := (L8 b m).1 B
  obtain⟨C, O⟩ := Ua h hg I J (Je A).2.1 (Je B).2.1
  refine(L8 _ _).2 ⟨C, λe T => ?_⟩
  have E := VG C e T
  rw[O] at E
  exact F _ _ e (λz q => v1 z (QT q).2) (λz q => M z (QT q).2) E
theorem eS{a b}(l:B4 a false=0)(m:B4 b true=0):B4 (CL E3 a b []) false=0:=
 bF V4 Uh l m λx y e q w h=>by
  unfold HB at h
  split at h
  ·exact q e h
  ·split at h
   ·cases h
   ·rename_i A
    cases h
    have:=w e rfl
    exact⟨this.1,.inl (by rcases this.2 with j | j;exact j;exact absurd j.2 A)⟩
theorem fe{a:AG}(j:EI a.Name=true)(l:a.Value=[]∨Da a.Value=true):B4 [a] true=0:=by
 refine(L8 _ _).2 ⟨by unfold Bp;simp,λe m=>?_⟩
 obtain rfl:=pi.1 m
 exact⟨j,l.elim (λh=>.inr ⟨rfl,h⟩) .inl⟩
def FG(l:List AG)(a:AG):List AG:=CL E3 l [a] []
theorem PN(l:List AG) a:(FG l a).length≤l.length+1:=by
 have:=mu E3 Vv _ l [a] [] rfl
 simpa[FG] using this
theorem UZ{l}{a}(j:B4 l false=0)(m:B4 [a] true=0):B4 (FG l a) false=0:=eS j m
theorem WV{l:List AG}{a}(h:l.length≤1048576):LT l [a]=some (FG l a):=Z5 _ _ (by simp;omega)
theorem WW{l:List AG}{a}(j:B4 l false=0)(m:B4 [a] true=0)(h:l.length≤1048576):Ki l [a]=some (FG l a):=by
 rw[jz l [a] (Je j).1 (Je m).1 (by simp;omega),← mW j m];rfl
theorem Q7:B4 [] false=0:=by decide
def BT(l:List AB):List (Int × AB):=l.map λx=>(x.Item,x)
def Co(l:List AB):List (Int × List AG):=l.map λx=>(x.Item,x.Attrs)
theorem R4 l k:Aj (Co l) k=Aj (BT l) k:=by
 induction l with
 | nil=>rfl
 | cons x r j=>show(if k=x.Item then some 0 else(Aj (Co r) k).map (· + 1))=(if k=x.Item then some 0 else(Aj (BT r) k).map (· + 1));rw[j]
theorem HH{l:List AB}{k}{j}(h:Aj (BT l) k=some j):∃q:j<l.length,l[j].Item=k:=by
 obtain⟨v,m,_⟩:=DH h
 unfold BT at m
 rw[nq,nt] at m
 obtain⟨x,A,w⟩:=m
 obtain⟨q,rfl⟩:=nl.1 A
 simp only[ns] at w
 exact⟨q,w.1⟩
theorem KF{l}{k}(h:Aj (BT l) k=none):∀x∈l,x.Item≠k:=by
 induction l with
 | nil=>intro x m;cases m
 | cons y r w=>
  unfold BT at h
  rw[oN] at h
  unfold Aj at h
  split at h
  ·cases h
  ·rename_i A
   have B:Aj (BT r) k=none:=by
    cases q:Aj (BT r) k with
    | none=>rfl
    | some j=>unfold BT at q;rw[q] at h;cases h
   intro x m
   rcases oP.1 m with rfl | m
   ·exact λe=>A e.symm
   ·exact w B x m
theorem W6{l}{k} : AR (BT l) k=(Aj (BT l) k).bind λj=>l[j]?:=by
 cases h:Aj (BT l) k with
 | none=>exact(Ed h).1
 | some j=>
  obtain⟨v,m,w,_⟩:=DH h
  unfold BT at m
  rw[nq,nt] at m
  obtain⟨x,A,q⟩:=m
  simp only[ns] at q
  rw[w,oR,A,q.2]
def Pa(key:Int)(l:List AB)(c:Nat):Ar Unit Int:=match Aj (BT l) key with | some j=>.ext ((c+j:Nat):Int) | none=>.nrm ()
def Hd(l:List AB)(k:Int):Int:=match Aj (BT l) k with | some j=>(j:Int) | none=>-1
theorem Lf(l:List AB) k(A:l.length≤1048577):H3 l k=some (Hd l k):=by
 unfold H3
 have h:=Fi (f:=λ(a:Int)=>Hw l k a) l (λ(_:Nat) i=>(i:Int)) (λr c=>Pa k r c) (λi c=>c=i)
  (λi c w q=>by
   subst q
   show(∃B,Hw l k (c:Int)=_∧_)∨Hw l k (c:Int)=_
   unfold Hw
   rw[ne (by simpa using w),Ag w,AD,Aq (by omega)]
   by_cases m:l[c]!.Item=k
   ·right
    rw[ne (by simpa using m)]
    unfold Pa BT
    rw[oN]
    unfold Aj
    rw[ne m.symm];rfl
   ·left
    refine⟨c+1,by rw[nd (by simpa using m)];rfl,rfl,?_⟩
    unfold Pa BT
    rw[oN]
    conv=>lhs;unfold Aj
    rw[nd (λe=>m e.symm)]
    cases Aj ((l.drop (c+1)).map λx=>(x.Item,x)) k with
    | none=>rfl
    | some j=>simp only[ot];congr 2;omega)
  (λc q=>by
   subst q
   show Hw l k (l.length:Int)=_
   unfold Hw
   rw[nd (by simp)];rfl) 0 rfl 0 rfl
 rw[h]
 unfold Pa Hd
 cases Aj (BT l) k with
 | none=>rfl
 | some j=>simp
inductive BS(items:List AB)(top:Int):Int→Prop
 | self:BS items top top
 | step {x:AB} (hx:x∈items) (h:BS items top x.Parent):BS items top x.Item
theorem BS.inv{j}{top y}(h:BS j top y):y=top∨∃x∈j,x.Item=y∧BS j top x.Parent:=by
 cases h with
 | self=>exact .inl rfl
 | step l h=>exact .inr ⟨_,l,rfl,h⟩
def Rk(j:List AB)(d:Int→Nat):Prop:=∀x∈j,d x.Parent<d x.Item
def Uq(j:List AB):Prop:=(j.map (·.Item)).Nodup
theorem Uq.eq{j}(h:Uq j){x y:AB}(w:x∈j)(A:y∈j)(e:x.Item=y.Item):x=y:=by
 unfold Uq at h
 induction j with
 | nil=>cases w
 | cons a r C=>
  rw[oN,List.nodup_cons] at h
  rcases oP.1 w with B | m
  ·rcases oP.1 A with q | l
   ·rw[B,q]
   ·exact(h.1 (oh.2 ⟨y,l,by rw[← B];exact e.symm⟩)).elim
  ·rcases oP.1 A with q | l
   ·exact(h.1 (oh.2 ⟨x,m,by rw[← q];exact e⟩)).elim
   ·exact C h.2 m l
theorem OX{j}(q:Uq j){top}{x:AB}(m:x∈j)(l:x.Item≠top):BS j top x.Item↔BS j top x.Parent:=by
 constructor
 ·intro h
  rcases h.inv with e | ⟨z,w,e,A⟩
  ·exact absurd e l
  ·rw[q.eq m w e.symm];exact A
 ·exact BS.step m
open Classical in
theorem mX{m}{d}(BJ:∀x∈m,1≤x.Item)(T:Uq m)(O:Rk m d){top}(X:1≤top)(m2:List (Int × List AG)) :
  ∀l:Int,MW (BT m) m2 l top=some (decide (BS m top l)):=by
 have key:∀(n:Nat) (l:Int),d l≤n→∃c,iter (λ(a:Int)=>GY (BT m) top a) l=some c∧Ay (some c) (λ(_:Unit)=>some false)=some (decide (BS m top l)):=by
  intro n
  induction n with
  | zero=>
   intro l hd
   by_cases w:0<l
   ·by_cases q:l=top
    ·subst q
     refine⟨.ext true,BM (by unfold GY;rw[ne (by simpa using w),ne (by simp)]),?_⟩
     rw[H7,nh (BS.self)]
    ·cases A:Aj (BT m) l with
     | none=>
      have I:=KF A
      refine⟨.ext false,BM (by unfold GY;rw[ne (by simpa using w),nd (by simpa using q),(Ed A).1];rfl),?_⟩
      rw[H7,ng]
      intro C
      rcases C.inv with e | ⟨x,E,e,_⟩
      ·exact q e
      ·exact I x E e
     | some j=>
      obtain⟨F,e⟩:=HH A
      have:=O _ (oO F)
      rw[e] at this
      omega
   ·refine⟨.nrm (),BM (by unfold GY;rw[nd (by simpa using w)]),?_⟩
    rw[OD,ng]
    intro C
    rcases C.inv with e | ⟨x,E,e,_⟩
    ·omega
    ·have:=BJ x E;omega
  | succ n U=>
   intro l hd
   by_cases w:0<l
   ·by_cases q:l=top
    ·subst q
     refine⟨.ext true,BM (by unfold GY;rw[ne (by simpa using w),ne (by simp)]),?_⟩
     rw[H7,nh (BS.self)]
    ·cases A:Aj (BT m) l with
     | none=>
      have I:=KF A
      refine⟨.ext false,BM (by unfold GY;rw[ne (by simpa using w),nd (by simpa using q),(Ed A).1];rfl),?_⟩
      rw[H7,ng]
      intro C
      rcases C.inv with e | ⟨x,E,e,_⟩
      ·exact q e
      ·exact I x E e
     | some j=>
      obtain⟨F,e⟩:=HH A
      have B:=oO F
      have J:=O _ B
      rw[e] at J
      obtain⟨c,M,V⟩:=U m[j].Parent (by omega)
      refine⟨c,?_,?_⟩
      ·rw[Br (s':=m[j].Parent) (by
        unfold GY
        rw[ne (by simpa using w),nd (by simpa using q),W6,A,oR,nj F]
        rfl)]
       exact M
      ·rw[V]
       congr 1
       rw[pv,← OX T B (by rw[e];exact q),e]
   ·refine⟨.nrm (),BM (by unfold GY;rw[nd (by simpa using w)]),?_⟩
    rw[OD,ng]
    intro C
    rcases C.inv with e | ⟨x,E,e,_⟩
    ·omega
    ·have:=BJ x E;omega
 intro l
 obtain⟨c,q,M⟩:=key _ l (nk _)
 unfold MW
 rw[q];exact M
theorem WN{α:Type}{p q}{l:List α}(h:∀x∈l,p x=true→q x=true){z}(j:z∈l)(w:q z=true)(A:p z=false):l.countP p<l.countP q:=by
 induction l with
 | nil=>cases j
 | cons a r B=>
  have E:r.countP p≤r.countP q:=qz λx m=>h x (ny _ m)
  rw[qu,qu]
  rcases oP.1 j with rfl | j
  ·rw[w,A];simp;omega
  ·have:=B (λx m=>h x (ny _ m)) j
   have C:=h a (oE ..)
   cases hp:p a
   ·simp;split<;>omega
   ·rw[C hp];simp;omega
open Classical in
theorem eZ{l:List AB}{d}(X:Uq l)(Z:Rk l d)(hm:l.length≤1048576)(top q:Int):Kl l q top=some (decide (BS l top q)):=by
 let r:Int→Nat:=λy=>l.countP λz=>decide (d z.Item<d y)
 have F:∀x∈l,r x.Item+1≤l.length:=λx A=>by
  have:=WN (p:=λz=>decide (d z.Item<d x.Item)) (q:=λ_=>true) (l:=l) (λ_ _ _=>rfl) A rfl (by simp)
  rw[List.countP_true] at this
  exact this
 have C:∀x∈l,∀y∈l,y.Item=x.Parent→r y.Item+1≤r x.Item:=λx A y hy e=>by
  have B:=Z x A
  exact WN (p:=λz=>decide (d z.Item<d y.Item)) (q:=λz=>decide (d z.Item<d x.Item)) (λz _ T=>by simp at T ⊢;rw[e] at T;omega) hy (by simp;rw[e];exact B) (by simp)
 have key:∀(m:Nat) (q:Int) (i:Nat),i+m=l.length+1→1≤m→(∀x∈l,x.Item=q→r q+2≤m) →
   ∃c,iter (λ(a:Int × Int)=>Gk l top ((l.length+1:Nat):Int) a.1 a.2) (q,(i:Int))=some c∧Ay (some c) (λ(_:Unit)=>some false)=some (decide (BS l top q)):=by
  intro m
  induction m with
  | zero=>intro q i _ h;omega
  | succ m ih=>
   intro q i hi _ hn
   have E:decide ((i:Int)<((l.length+1:Nat):Int))=true:=by simp;omega
   by_cases B:q=top
   ·subst B
    refine⟨.ext true,BM (by show Gk l q _ q (i:Int)=_;unfold Gk;rw[ne E,ne (by simp)]),?_⟩
    rw[H7,nh (BS.self)]
   ·cases I:Aj (BT l) q with
    | none=>
     have J:=KF I
     refine⟨.ext false,BM (by
      show Gk l top _ q (i:Int)=_
      unfold Gk
      rw[ne E,nd (by simpa using B),Lf _ _ (by omega),AD]
      unfold Hd
      rw[I];rfl),?_⟩
     rw[H7,ng]
     intro hb
     rcases hb.inv with e | ⟨x,A,e,_⟩
     ·exact B e
     ·exact J x A e
    | some j=>
     obtain⟨U,e⟩:=HH I
     have w:=oO U
     have a0:=hn _ w e
     obtain⟨c,M,h3⟩:=ih l[j].Parent (i+1) (by omega) (by omega) (λx A V=>by
      have:=C _ w x A V
      rw[e] at this
      rw[← V];omega)
     refine⟨c,?_,?_⟩
     ·rw[Br (s':=(l[j].Parent,((i+1:Nat):Int))) (by
       show Gk l top _ q (i:Int)=_
       unfold Gk
       rw[ne E,nd (by simpa using B),Lf _ _ (by omega),AD]
       unfold Hd
       rw[I]
       simp only
       rw[nd (by simp),ED U,AD,Aq (by omega),AD])]
      exact M
     ·rw[h3]
      congr 1
      rw[pv,← OX X w (by rw[e];exact B),e]
 unfold Kl
 rw[Aq (by omega),AD]
 obtain⟨c,B,M⟩:=key (l.length+1) q 0 (by omega) (by omega) (λx A e=>by have:=F x A;rw[e] at this;omega)
 have O:iter (λ(a:Int × Int)=>Gk l top ((l.length+1:Nat):Int) a.1 a.2) (q,0)=some c:=B
 rw[O];exact M
def upd(l:List AB)(n:AB):List AB:=match Aj (BT l) n.Item with | some j=>l.set j n | none=>l++[n]
theorem ci l(n:AB):Ai (BT l) n.Item n=BT (upd l n):=by
 unfold upd
 cases h:Aj (BT l) n.Item with
 | none=>rw[(Ed h).2];simp[BT]
 | some j=>
  obtain⟨v,_,_,m⟩:=DH h
  rw[m];simp[BT,qQ]
theorem V7 l(n:AB):Ai (Co l) n.Item n.Attrs=Co (upd l n):=by
 unfold upd
 have m:=R4 l n.Item
 cases h:Aj (BT l) n.Item with
 | none=>rw[h] at m;rw[(Ed m).2];simp[Co]
 | some j=>
  rw[h] at m
  obtain⟨v,_,_,q⟩:=DH m
  rw[q];simp[Co,qQ]
theorem S6(l:List AB) n:(upd l n).length≤l.length+1:=by
 unfold upd
 split<;>simp
theorem Qf{l:List AB}(h:Uq l)(n:AB):Uq (upd l n):=by
 unfold upd
 split
 ·rename_i j m
  obtain⟨A,e⟩:=HH m
  unfold Uq at h ⊢
  rw[qQ,← e]
  have:(l.map (·.Item)).set j l[j].Item=l.map (·.Item):=by
   apply pY
   intro i
   rw[pC]
   split
   ·rename_i q;subst q;simp[A]
   ·rfl
  rw[this];exact h
 ·rename_i m
  have B:=KF m
  unfold Uq at h ⊢
  rw[pZ,rJ,rQ]
  refine⟨h,by simp,λa C b w=>?_⟩
  rw[pi] at w
  obtain⟨x,E,rfl⟩:=oh.1 C
  rw[w];exact B x E
theorem Iz{l}(h:Uq l){n z:AB}(w:z∈upd l n):z=n∨(z∈l∧z.Item≠n.Item):=by
 unfold upd at w
 split at w
 ·rename_i j C
  obtain⟨F,e⟩:=HH C
  obtain⟨i,A⟩:=o8.1 w
  rw[pC] at A
  split at A
  ·cases A;exact .inl rfl
  ·rename_i E
   obtain⟨m,rfl⟩:=nl.1 A
   refine .inr ⟨oO m,λI=>E ?_⟩
   unfold Uq at h
   rw[qA,pj] at h
   rcases Nat.lt_trichotomy i j with q | heq | q
   ·exact(h i j (by simpa using m) (by simpa using F) q (by simp[I,e])).elim
   ·exact heq.symm
   ·exact(h j i (by simpa using F) (by simpa using m) q (by simp[I,e])).elim
 ·rename_i C
  have J:=KF C
  rcases pJ.1 w with B | B
  ·exact .inr ⟨B,J z B⟩
  ·exact .inl (pi.1 B)
open Classical in
theorem ZD{l}{d}(B:Rk l d)(w:Uq l){n:AB}(C:¬ BS l n.Item n.Parent):∃E,Rk (upd l n) E:=by
 refine⟨λy=>if BS l n.Item y then d y+d n.Parent+1 else d y,λz F=>?_⟩
 simp only
 rcases Iz w F with rfl | ⟨j,q⟩
 ·rw[nd C,ne BS.self];omega
 ·have I:=B z j
  have A:=OX w j q
  by_cases m:BS l n.Item z.Item
  ·rw[ne m,ne (A.1 m)];omega
  ·rw[nd m,nd (λh=>m (A.2 h))];exact I
structure DI(k:Nat)(items attrs:List AB):Prop where
 uq:Uq items
 id:∀x∈items,1≤x.Item
 no:∀x∈items,x.Attrs=[]
 rk:∃d,Rk items d
 li:items.length≤k
 ua:Uq attrs
 la:attrs.length≤k
 ok:∀x∈attrs,B4 x.Attrs false=0∧x.Attrs.length≤k
 ia:∀x∈attrs,1≤x.Item∧x.Item≤1073741824
 mv:∀x∈items,x.Item≤1073741824∧(-1≤x.Parent∧x.Parent≤1073741824)∧Kf x.Place=true
 sa:(attrs.map (·.Attrs.length)).sum≤k
theorem bT{l:List AB}{n:AB}(h:Aj (BT l) n.Item=none):((upd l n).map (·.Attrs.length)).sum=(l.map (·.Attrs.length)).sum+n.Attrs.length:=by
 unfold upd
 rw[h]
 simp
theorem gK:∀(l:List Nat) (j:Nat) (m:j<l.length) (v:Nat),(l.set j v).sum+l[j]=l.sum+v:=by
 intro l
 induction l with
 | nil=>intro j m;simp at m
 | cons a r q=>
  intro j m v
  cases j with
  | zero=>simp;omega
  | succ j=>
   have:=q j (by simpa using m) v
   simp
   omega
theorem mo{l:List AB}{n:AB}{j}(h:Aj (BT l) n.Item=some j)(m:j<l.length):((upd l n).map (·.Attrs.length)).sum+l[j].Attrs.length=(l.map (·.Attrs.length)).sum+n.Attrs.length:=by
 have:=gK (l.map (·.Attrs.length)) j (by simpa using m) n.Attrs.length
 unfold upd
 rw[h]
 simp only[qQ,rV] at *
 exact this
theorem bH{o:Au}(h:E7 o=0)(j:o.Kind=0):(-1≤o.Parent∧o.Parent≤1073741824)∧Kf o.Place=true:=by
 unfold E7 at h
 split at h
 ·exact absurd h (by decide)
 split at h
 ·exact absurd h (by decide)
 try rw[ne j] at h
 split at h
 ·exact absurd h (by decide)
 split at h
 ·exact absurd h (by decide)
 ·rename_i hp
  split at h
  ·rename_i l;exact⟨oJ.1 hp,l⟩
  ·exact absurd h (by decide)
theorem Yg{o:Au}(h:E7 o=0):(1≤o.Item∧o.Item≤1073741824)∧((o.Kind=0)∨(o.Kind=1∧B4 [⟨o.Name,o.Value⟩] true=0)):=by
 unfold E7 at h
 split at h
 ·exact absurd h (by decide)
 rename_i m
 split at h
 ·exact absurd h (by decide)
 rename_i q
 refine⟨(oJ.1 q).2,?_⟩
 split at h
 ·rename_i j;exact .inl j
 ·rename_i j
  have w:o.Kind=1:=oF λh=>m ⟨j,h⟩
  refine .inr ⟨w,?_⟩
  split at h
  ·exact absurd h (by decide)
  ·split at h
   ·rename_i A
    split at h
    ·exact absurd h (by decide)
    ·rename_i B
     refine fe A ?_
     by_cases e:o.Value=[]
     ·exact .inl e
     ·right
      cases l:Da o.Value
      ·exact absurd ⟨e,l⟩ B
      ·rfl
   ·exact absurd h (by decide)
theorem Iy{α:Type}{l m:List α}(h:l.length+m.length≤2097152):app 56 l m=some (l++m):=by
 unfold app
 rw[ne ⟨by omega,by omega⟩]
open Classical in
theorem ZJ{l:List Au}{k}{m attrs:List AB}(h:DI k m attrs)(hk:k<l.length)(hm:l.length≤1048576)(ho:E7 l[k]! = 0) :
  ∃A B,DI (k+1) A B∧H6 l (k:Int) (BT m) (Co attrs)=some (.inl (((k+1:Nat):Int),BT A,Co B)) ∧
   Hk l (k:Int) m attrs=some (.inl (((k+1:Nat):Int),A,B)):=by
 obtain⟨hI,O⟩:=Yg ho
 have a1:=h.li
 have a2:=h.la
 unfold H6 Hk
 rw[ne (by simpa using hk),ne (by simpa using hk),Ag hk,AD,AD,Aq (by omega)]
 generalize l[k]! = o at *
 rcases O with h0 | ⟨h1,ha⟩
 ·
  obtain⟨d,hd⟩:=h.rk
  rw[nd (by rw[h0];decide),nd (by rw[h0];decide),mX h.id h.uq hd hI.1,AD]
  have T:∃r2:Bool,gd (((decide (o.Parent=o.Item))==false)&&((decide (0<o.Parent))==true)) (Kl m o.Parent o.Item)=some r2∧(((o.Parent=o.Item)||((0<o.Parent)&&r2))=decide (BS m o.Item o.Parent)):=by
   rw[eZ h.uq hd (by omega)]
   by_cases E:o.Parent=o.Item
   ·refine⟨default,by rw[nh E];rfl,?_⟩
    rw[nh E,E,nh BS.self];rfl
   ·by_cases V:0<o.Parent
    ·refine⟨decide (BS m o.Item o.Parent),by rw[ng E,nh V];rfl,?_⟩
     rw[ng E,nh V];simp
    ·refine⟨default,by rw[ng E,ng V];rfl,?_⟩
     rw[ng E,ng V,ng]
     ·rfl
     ·intro U
      rcases U.inv with e | ⟨x,w,e,_⟩
      ·exact E e
      ·have:=h.id x w;omega
  obtain⟨r2,E,V⟩:=T
  rw[E,AD,V]
  by_cases U:BS m o.Item o.Parent
  ·refine⟨m,attrs,⟨h.uq,h.id,h.no,h.rk,by omega,h.ua,by omega,λx w=>⟨(h.ok x w).1,by have:=(h.ok x w).2;omega⟩,h.ia,h.mv,by have:=h.sa;omega⟩,?_,?_⟩
   ·rw[nh U,nd (by decide),Bv];rfl
   ·rw[nh U,ne rfl,Bv];rfl
  ·have hn:(⟨o.Item,o.Parent,o.Place,[]⟩:AB)=⟨o.Item,o.Parent,o.Place,[]⟩:=rfl
   generalize F:(⟨o.Item,o.Parent,o.Place,[]⟩:AB)=n at hn
   have I:n.Item=o.Item:=by rw[← F]
   have a0:n.Parent=o.Parent:=by rw[← F]
   refine⟨upd m n,attrs,⟨Qf h.uq n,λx w=>?_,λx w=>?_,ZD hd h.uq (by rw[I,a0];exact U),by have:=S6 m n;omega,h.ua,by omega,λx w=>⟨(h.ok x w).1,by have:=(h.ok x w).2;omega⟩,h.ia,λx w=>?_,by have:=h.sa;omega⟩,?_,?_⟩
   ·rcases Iz h.uq w with rfl | ⟨q,_⟩
    ·rw[I];exact hI.1
    ·exact h.id x q
   ·rcases Iz h.uq w with rfl | ⟨q,_⟩
    ·rw[← F]
    ·exact h.no x q
   ·rcases Iz h.uq w with rfl | ⟨q,_⟩
    ·rw[← F];exact⟨hI.2,bH ho h0⟩
    ·exact h.mv x q
   ·rw[ng U,ne (by decide),Bv,AD,← I,ci]
   ·rw[ng U,nd (by decide),Lf _ _ (by omega),AD]
    unfold upd Hd
    rw[I]
    cases C:Aj (BT m) o.Item with
    | none=>
     simp only
     rw[ne (by decide),Iy (by simp;omega),AD,Bv,ED (by simp),AD,Bv,AD,pH]
     simp
    | some j=>
     obtain⟨X,_⟩:=HH C
     simp only
     rw[nd (by simp),Bv,ED X,AD,Bv,AD,pH]
 ·
  rw[ne (by rw[h1];decide),ne (by rw[h1];decide),Lf _ _ (by omega),AD]
  unfold Hd
  have J:=R4 attrs o.Item
  cases C:Aj (BT attrs) o.Item with
  | none=>
   rw[C] at J
   simp only
   rw[(Ed J).1,rW,WV (by simp),AD,ne (by decide),Iy (by simp;omega)]
   simp only[AD,Bv]
   rw[ED (by simp)]
   simp only[AD,List.getElem_append_right (nk _),rX,List.getElem_cons_zero]
   rw[WW Q7 ha (by simp)]
   simp only[AD,Bv,pH]
   have E:(attrs++[(⟨o.Item,0,[],[]⟩:AB)]).set attrs.length ⟨o.Item,0,[],FG [] ⟨o.Name,o.Value⟩⟩=upd attrs ⟨o.Item,0,[],FG [] ⟨o.Name,o.Value⟩⟩:=by
    unfold upd;rw[C];simp
   rw[E]
   refine⟨m,upd attrs ⟨o.Item,0,[],FG [] ⟨o.Name,o.Value⟩⟩,⟨h.uq,h.id,h.no,h.rk,by omega,Qf h.ua _,by have:=S6 attrs ⟨o.Item,0,[],FG [] ⟨o.Name,o.Value⟩⟩;omega,λx w=>?_,λx w=>?_,h.mv,?_⟩,?_,rfl⟩
   ·rcases Iz h.ua w with rfl | ⟨q,_⟩
    ·exact⟨UZ Q7 ha,by have:=PN [] ⟨o.Name,o.Value⟩;simp at this;simp only;omega⟩
    ·exact⟨(h.ok x q).1,by have:=(h.ok x q).2;omega⟩
   ·rcases Iz h.ua w with rfl | ⟨q,_⟩
    ·exact hI
    ·exact h.ia x q
   ·rw[bT (by simpa using C)]
    have:=PN [] ⟨o.Name,o.Value⟩
    have:=h.sa
    simp at *
    omega
   ·rw[← V7]
  | some j=>
   rw[C] at J
   obtain⟨X,ej⟩:=HH C
   have M:=oO X
   have Z:=h.ok _ M
   obtain⟨v,v1,v2,v3⟩:=DH J
   have hv:v=attrs[j].Attrs:=by
    unfold Co at v1
    rw[nq,nj X] at v1
    simp at v1
    exact v1.2.symm
   subst hv
   simp only
   rw[v2,oz,WV (by omega),AD,nd (by simp)]
   simp only[AD,Bv]
   rw[ED X]
   simp only[AD]
   rw[WW Z.1 ha (by omega)]
   simp only[AD,Bv,pH]
   have E:attrs.set j ⟨attrs[j].Item,attrs[j].Parent,attrs[j].Place,FG attrs[j].Attrs ⟨o.Name,o.Value⟩⟩=upd attrs ⟨attrs[j].Item,attrs[j].Parent,attrs[j].Place,FG attrs[j].Attrs ⟨o.Name,o.Value⟩⟩:=by
    unfold upd;simp only;rw[ej,C]
   rw[E]
   refine⟨m,upd attrs ⟨attrs[j].Item,attrs[j].Parent,attrs[j].Place,FG attrs[j].Attrs ⟨o.Name,o.Value⟩⟩,⟨h.uq,h.id,h.no,h.rk,by omega,Qf h.ua _,by have:=S6 attrs ⟨attrs[j].Item,attrs[j].Parent,attrs[j].Place,FG attrs[j].Attrs ⟨o.Name,o.Value⟩⟩;rw[← E] at this ⊢;simpa using(by omega:attrs.length≤k+1),λx w=>?_,λx w=>?_,h.mv,?_⟩,?_,rfl⟩
   ·rcases Iz h.ua w with rfl | ⟨q,_⟩
    ·exact⟨UZ Z.1 ha,by have:=PN attrs[j].Attrs ⟨o.Name,o.Value⟩;simp only;omega⟩
    ·exact⟨(h.ok x q).1,by have:=(h.ok x q).2;omega⟩
   ·rcases Iz h.ua w with rfl | ⟨q,_⟩
    ·exact(h.ia attrs[j] M)
    ·exact h.ia x q
   ·have h2:=mo (l:=attrs) (n:=⟨attrs[j].Item,attrs[j].Parent,attrs[j].Place,FG attrs[j].Attrs ⟨o.Name,o.Value⟩⟩) (j:=j) (by simp only;rw[ej,C]) X
    have:=PN attrs[j].Attrs ⟨o.Name,o.Value⟩
    have:=h.sa
    simp only at h2
    omega
   ·rw[← V7];simp only;rw[ej]
end Go.Proofs.YtmogkkigacadpaaGreatDoor.Al

set_option linter.unusedVariables false
namespace Go.Proofs.YtmogkkigacadpaaGreatDoor.Al
open Go.Sort
structure Ge(lt:AB→AB→Bool):Prop where
 swo:SWO lt
 tot:∀a b,lt a b=false→lt b a=false→a.Item=b.Item
theorem Ge.asymm{lt}(h:Ge lt){a b}(j:lt a b=true):lt b a=false:=by
 cases l:lt b a
 ·rfl
 ·have:=h.swo.trans a b a j l
  rw[h.swo.irrefl] at this;cases this
def Gn(a b:AB):Bool:=Av a.Place b.Place||((a.Place=b.Place)&&(a.Item<b.Item))
def Eo(a b:AB):Bool:=decide (a.Item<b.Item)
theorem Qk(a b:AB):Gn a b=true↔Av a.Place b.Place=true∨(a.Place=b.Place∧a.Item<b.Item):=by
 unfold Gn;simp
theorem NU(a b:AB):Gn a b=false↔Av b.Place a.Place=true∨(b.Place=a.Place∧b.Item≤a.Item):=by
 rw[← oV,Qk]
 constructor
 ·intro h
  by_cases e:b.Place=a.Place
  ·exact .inr ⟨e,by
    have:¬ a.Item<b.Item:=λj=>h (.inr ⟨e.symm,j⟩)
    omega⟩
  ·exact .inl (Ra (λl=>e l.symm) λj=>h (.inl j))
 ·rintro(h | ⟨m,j⟩) (g | ⟨q,g2⟩)
  ·rw[Tl h] at g;cases g
  ·rw[q,Is] at h;cases h
  ·rw[m,Is] at g;cases g
  ·omega
theorem HZ:Ge Gn where
 swo:={
  irrefl:=λx=>by rw[NU];exact .inr ⟨rfl,Int.le_refl _⟩
  trans:=λx y z l j=>by
   rw[Qk] at *
   rcases l with l | ⟨l,m⟩<;>rcases j with j | ⟨j,g2⟩
   ·exact .inl (FU l j)
   ·exact .inl (by rw[← j];exact l)
   ·exact .inl (by rw[l];exact j)
   ·exact .inr ⟨l.trans j,by omega⟩
  ntrans:=λx y z l j=>by
   rw[NU] at *
   rcases l with l | ⟨l,m⟩<;>rcases j with j | ⟨j,g2⟩
   ·exact .inl (FU j l)
   ·exact .inl (by rw[j];exact l)
   ·exact .inl (by rw[← l];exact j)
   ·exact .inr ⟨j.trans l,by omega⟩ }
 tot:=λa b l j=>by
  rw[NU] at *
  rcases l with l | ⟨l,m⟩<;>rcases j with j | ⟨j,g2⟩
  ·rw[Tl l] at j;cases j
  ·rw[j,Is] at l;cases l
  ·rw[l,Is] at j;cases j
  ·omega
theorem Jx:Ge Eo where
 swo:={ irrefl:=λx=>by unfold Eo;simp,trans:=λx y z j l=>by unfold Eo at *;simp at *;omega,ntrans:=λx y z j l=>by unfold Eo at *;simp at *;omega }
 tot:=λa b j l=>by unfold Eo at *;simp at *;omega
def srt(lt:AB→AB→Bool)(xs:List AB):List AB:=xs.mergeSort λa b=>!lt b a
theorem F5 lt xs:(srt lt xs).Perm xs:=List.mergeSort_perm ..
theorem Oz{lt}(h:Ge lt) xs:(srt lt xs).Pairwise λa b=>lt b a=false:=by
 have:=List.pairwise_mergeSort (le:=λa b=>!lt b a) (λa b c j l=>by
  simp only[oc] at *
  exact h.swo.ntrans c b a l j) (λa b=>by
  cases j:lt b a
  ·rfl
  ·simp[h.asymm j]) xs
 exact this.imp λh=>by simpa using h
theorem Uq.perm{A B:List AB}(h:Uq A)(p:B.Perm A):Uq B:=(p.map λx:AB=>x.Item).nodup_iff.2 h
theorem Uq.filter{A:List AB}(h:Uq A)(p:AB→Bool):Uq (A.filter p):=by
 unfold Uq at *
 exact(List.filter_sublist.map _).nodup h
theorem UV{lt}(h:Ge lt){xs}(l:Uq xs):(srt lt xs).Pairwise λa b=>lt a b=true:=by
 have m:=Oz h xs
 have j:Uq (srt lt xs):=l.perm (F5 lt xs)
 unfold Uq at j
 rw[qA,qN] at j
 refine(m.and j).imp λ{a b} ⟨q,g2⟩=>?_
 cases g3:lt a b
 ·exact absurd (h.tot a b g3 q) g2
 ·rfl
theorem RZ{lt}(h:Ge lt){c:List AB}(hc:c.Pairwise λa b=>lt a b=true){k}(q:k<c.length){z}(w:z∈c):lt c[k] z=true↔z∈c.drop (k+1):=by
 rw[pj] at hc
 constructor
 ·intro l
  obtain⟨i,j,rfl⟩:=ov.1 w
  have:k<i:=by
   rcases Nat.lt_trichotomy k i with g | g | g
   ·exact g
   ·subst g;rw[h.swo.irrefl] at l;cases l
   ·rw[h.asymm (hc i k j q g)] at l;cases l
  rw[o8]
  exact⟨i-(k+1),by rw[oX,show k+1+(i-(k+1))=i by omega,nj j]⟩
 ·intro A
  obtain⟨i,j⟩:=o8.1 A
  rw[oX] at j
  obtain⟨m,rfl⟩:=nl.1 j
  exact hc k (k+1+i) q m (by omega)
def OG(l:AB→Bool)(lt:AB→AB→Bool)(A:List AB)(next:Option Nat)(k:Nat):Option Nat:=
 match next with
 | none=>if l A[k]! = true then some k else none
 | some j=>if l A[k]! = true∧lt A[k]! A[j]! = true then some k else some j
def nx:Option Nat→Int
 | none=>-1
 | some j=>(j:Int)
theorem Ts{l}{lt}(U:Ge lt){A:List AB}{f}
 (h1:∀k next, k<A.length→(∀j, next=some j→j<A.length)→f (nx next, (k:Int))=some (.inl (nx (OG l lt A next k), ((k+1:Nat):Int)))) (h2:∀next, f (nx next, (A.length:Int))=some (.inr (nx next))) :
    ∃next, iter f (-1, 0)=some (nx next)∧(match next with | none => ∀z ∈ A, l z=false | some j => ∃I:j<A.length, l A[j]=true∧∀z ∈ A, l z=true→lt z A[j]=false) := by
  have key := I9 (f := f) A.length (λk s => ∃next, s=(nx next, (k:Int))∧(match next with | none => ∀i, i<k→∀C:i<A.length, l A[i]=false | some j => ∃I:j<A.length, l A[j]=true∧∀i, i<k→∀C:i<A.length, l A[i]=true→lt A[i] A[j]=false))
    (λb => ∃next, b=nx next∧(match next with | none => ∀z ∈ A, l z=false | some j => ∃I:j<A.length, l A[j]=true∧∀z ∈ A, l z=true→lt z A[j]=false))
    (λk s M V => by
      obtain⟨next, rfl, F⟩ := V
      left
      have X:∀j, next=some j→j<A.length := λj e => by subst e;exact F.1
      refine⟨_, h1 k next M X, OG l lt A next k, rfl, ?_⟩
      unfold OG
      cases next with
      | none =>
        simp only at F ⊢
        rw[nv A k M]
        by_cases E:l A[k]=true
        · rw[ne E]
          refine⟨M, E, λi C m q => ?_⟩
          by_cases w:i<k
          · rw[F i w m] at q;cases q
          · obtain rfl:i=k := by omega
            exact U.swo.irrefl _
        · rw[nd E]
          intro i C m
          by_cases w:i<k
          · exact F i w m
          · obtain rfl:i=k := by omega
            simpa using E
      | some j =>
        obtain⟨I, J, B⟩ := F
        simp only
        rw[nv A k M, nv A j I]
        by_cases E:l A[k]=true∧lt A[k] A[j]=true
        · rw[ne E]
          refine⟨M, E.1, λi C m q => ?_⟩
          by_cases w:i<k
          · have T := B i w m q
            cases O:lt A[i] A[k]
            · rfl
            · rw[U.swo.trans _ _ _ O E.2] at T;cases T
          · obtain rfl:i=k := by omega
            exact U.swo.irrefl _
        · rw[nd E]
          refine⟨I, J, λi C m q => ?_⟩
          by_cases w:i<k
          · exact B i w m q
          · obtain rfl:i=k := by omega
            cases O:lt A[i] A[j]
            · rfl
            · exact absurd ⟨q, O⟩ E)
    (λs V => by
      obtain⟨next, rfl, F⟩ := V
      refine⟨_, h2 next, next, rfl, ?_⟩
      cases next with
      | none =>
        intro z Z
        obtain⟨i, C, rfl⟩ := ov.1 Z
        exact F i C C
      | some j =>
        obtain⟨I, J, B⟩ := F
        refine⟨I, J, λz Z E => ?_⟩
        obtain⟨i, C, rfl⟩ := ov.1 Z
        exact B i C C E)
    (s := (-1, 0)) ⟨none, rfl, λi C => absurd C (by omega)⟩
  obtain⟨b, T, next, rfl, O⟩ := key
  exact⟨next, T, O⟩
theorem QH{m:AB→Bool}{lt:AB→AB→Bool}(X:Ge lt){A c:List AB}(Z:Uq A)(I:∀z∈c,z∈A)(hc:c.Pairwise λa b=>lt a b=true){k:Nat}
  (l:∀z∈A,m z=true↔z∈c.drop k) {next:Option Nat} (J:match next with | none=>∀z∈A,m z=false | some j=>∃w:j<A.length,m A[j]=true∧∀z∈A,m z=true→lt z A[j]=false) :
  (k<c.length→∃j,∃w:j<A.length,next=some j∧some A[j]=c[k]?)∧(c.length≤k→next=none):=by
 constructor
 ·intro B
  have C:c[k]∈c.drop k:=o8.2 ⟨0,by rw[oX,oy,nj B]⟩
  have hA:=I _ (oO B)
  have q:=(l _ hA).2 C
  cases next with
  | none=>rw[J _ hA] at q;cases q
  | some j=>
   obtain⟨w,M,U⟩:=J
   refine⟨j,w,rfl,?_⟩
   rw[nj B]
   congr 1
   have V:=U _ hA q
   have F:A[j]∈c.drop k:=(l _ (oO w)).1 M
   obtain⟨i,T⟩:=o8.1 F
   rw[oX] at T
   obtain⟨O,E⟩:=nl.1 T
   rw[pj] at hc
   rcases rH i with g | g
   ·subst g;rw[← E];rfl
   ·have:=hc k (k+i) B O (by omega)
    rw[E,V] at this;cases this
 ·intro B
  cases next with
  | none=>rfl
  | some j=>
   obtain⟨w,M,_⟩:=J
   have F:A[j]∈c.drop k:=(l _ (oO w)).1 M
   rw[pN B] at F;cases F
structure Fo(A:List AB)(d:Int→Nat)(M:Nat):Prop where
 uq:Uq A
 id:∀x∈A,1≤x.Item
 rk:Rk A d
 top:∀x∈A,d x.Item≤M
 len:A.length≤1048576
def A7(A:List AB)(q:Int):List AB:=srt Gn (A.filter λz=>decide (z.Parent=q))
theorem Gh{A}{q}{z:AB} : z∈A7 A q↔z∈A∧z.Parent=q:=by
 unfold A7
 rw[(F5 _ _).mem_iff,po,ni]
theorem NA{A}(j:Uq A)(q:Int):(A7 A q).Pairwise λa b=>Gn a b=true:=UV HZ (j.filter _)
def BF(A:List AB):Nat→Int→List AB
 | 0,_=>[]
 | n+1,q=>(A7 A q).flatMap λx=>x::BF A n x.Item
def JS(q:Int)(place:List UInt8)(j:Int)(z:AB):Bool:=!(((!(z.Parent=q))||(Av z.Place place))||((z.Place=place)&&(z.Item≤j)))
theorem U7(A:List AB)(F:A.length≤1048576) q place l:∃next,iter (λ(a:Int × Int)=>H0 A q place l a.1 a.2) ((-1),0)=some (nx next) ∧
  (match next with | none=>∀z∈A,JS q place l z=false | some j=>∃w:j<A.length,JS q place l A[j]=true∧∀z∈A,JS q place l z=true→Gn z A[j]=false):=by
 refine Ts HZ (λk next B C=>?_) (λnext=>?_)
 ·show H0 A q place l (nx next) (k:Int)=_
  unfold H0
  rw[ne (by simpa using B),Ag B,AD,Aq (by omega)]
  unfold OG JS
  generalize A[k]! = x
  by_cases m:(((!(x.Parent=q))||(Av x.Place place))||((x.Place=place)&&(x.Item≤l)))=true
  ·rw[ne m,m]
   cases next<;>simp
  ·rw[nd m]
   rw[oV] at m
   rw[m]
   cases next with
   | none=>simp[nx,Cs]
   | some j=>
    have w:=C j rfl
    have E:decide (nx (some j)<0)=false:=by unfold nx;simp
    rw[E,show((false==false)=true) from rfl,Ap,show nx (some j)=(j:Int) from rfl,Ag w,AD]
    simp only[ph,rE]
    generalize A[j]! = y
    have e:Gn x y=(Av x.Place y.Place||((x.Place=y.Place)&&(x.Item<y.Item))):=rfl
    rw[e]
    cases Av x.Place y.Place
    ·simp only[ox,show((false==false)=true) from rfl,Ap,AD]
     split<;>rfl
    ·simp only[ox,q8,show((true==false)=false) from rfl,Cs,AD,qj]
     rfl
 ·show H0 A q place l (nx next) (A.length:Int)=_
  unfold H0
  rw[nd (by simp)]
def EQ(c:List AB)(k:Nat):List UInt8 × Int:=match k with | 0=>([],0) | k+1=>(c[k]!.Place,c[k]!.Item)
theorem jS{c:List AB}{k}(h:k<c.length):EQ c (k+1)=(c[k].Place,c[k].Item):=by
 show(c[k]!.Place,c[k]!.Item)=_
 rw[nv c k h]
theorem VR{A}(B:Uq A)(BJ:∀x∈A,1≤x.Item)(q:Int){k}(F:k≤(A7 A q).length){z:AB}(w:z∈A):JS q (EQ (A7 A q) k).1 (EQ (A7 A q) k).2 z=true↔z∈(A7 A q).drop k:=by
 have C:∀(p:List UInt8) (i:Int),JS q p i z=true↔z.Parent=q∧¬ (Av z.Place p=true∨(z.Place=p∧z.Item≤i)):=λp i=>by
  unfold JS
  simp only[oc,pU,Bool.not_eq_false',ni,pg,ol,not_or,not_and,oV]
  constructor
  ·rintro⟨⟨j,m⟩,l⟩;exact⟨j,m,l⟩
  ·rintro⟨j,m,l⟩;exact⟨⟨j,m⟩,l⟩
 cases k with
 | zero=>
  rw[pu,Gh,C]
  unfold EQ
  simp only
  constructor
  ·rintro⟨j,_⟩;exact⟨w,j⟩
  ·rintro⟨_,j⟩
   refine⟨j,?_⟩
   rintro(h | ⟨_,h⟩)
   ·rw[VS] at h;cases h
   ·have:=BJ z w;omega
 | succ k=>
  unfold EQ
  simp only
  rw[nv (A7 A q) k (by omega),C]
  constructor
  ·rintro⟨j,m⟩
   refine(RZ HZ (NA B q) (by omega) (Gh.2 ⟨w,j⟩)).1 ?_
   cases l:Gn (A7 A q)[k] z
   ·rw[NU] at l;exact absurd l m
   ·rfl
  ·intro j
   have m:=rA j
   refine⟨(Gh.1 m).2,λl=>?_⟩
   have E:=(RZ HZ (NA B q) (by omega) m).2 j
   rw[← NU] at l
   rw[l] at E;cases E
theorem iu{A:List AB}{d:Int→Nat}{M:Nat}(h:Fo A d M):∀(n:Nat) (q:Int) (out:List AB),M-d q<n→out.length+(BF A n q).length≤2097151→DW n out A q=some (out++BF A n q):=by
 intro n
 induction n with
 | zero=>intro q out hn;omega
 | succ n ih=>
  intro q out hn hl
  show IP (λw E l=>DW n w E l) out A q=_
  unfold IP
  have hA:∀z∈A7 A q,z∈A:=λz F=>(Gh.1 F).1
  have loop:∀m k o,k+m=(A7 A q).length→o.length+(((A7 A q).drop k).flatMap λx=>x::BF A n x.Item).length≤2097151 →
    iter (λ(a:(List UInt8) × Int × (List AB))=>Fl A q (λw E l=>DW n w E l) a.1 a.2.1 a.2.2) ((EQ (A7 A q) k).1,(EQ (A7 A q) k).2,o) =
     some (.ext (o++((A7 A q).drop k).flatMap λx=>x::BF A n x.Item)):=by
   intro m
   induction m with
   | zero=>
    intro k o hk V
    refine BM ?_
    show Fl A q _ (EQ (A7 A q) k).1 (EQ (A7 A q) k).2 o=_
    unfold Fl
    obtain⟨next,J,O⟩:=U7 A h.len q (EQ (A7 A q) k).1 (EQ (A7 A q) k).2
    have:=(QH HZ h.uq hA (NA h.uq q) (λz F=>VR h.uq h.id q (by omega) F) O).2 (by omega)
    subst this
    rw[J,AD,ne (by decide),pN (by omega)]
    simp
   | succ m T=>
    intro k o hk V
    have B:k<(A7 A q).length:=by omega
    obtain⟨next,J,O⟩:=U7 A h.len q (EQ (A7 A q) k).1 (EQ (A7 A q) k).2
    obtain⟨j,hj,rfl,X⟩:=(QH HZ h.uq hA (NA h.uq q) (λz F=>VR h.uq h.id q (by omega) F) O).1 B
    rw[nj B] at X
    have e4:A[j]=(A7 A q)[k]:=n8 X
    have I:=oO B
    have C:=Gh.1 I
    have hd:=h.rk _ C.1
    rw[C.2] at hd
    have Z:=h.top _ C.1
    rw[oT B,o6,oW,oY] at V
    rw[Br (s':=((EQ (A7 A q) (k+1)).1,(EQ (A7 A q) (k+1)).2,(o++[(A7 A q)[k]])++BF A n (A7 A q)[k].Item)) (by
     show Fl A q _ (EQ (A7 A q) k).1 (EQ (A7 A q) k).2 o=_
     unfold Fl
     rw[J,AD,show nx (some j)=(j:Int) from rfl,nd (by simp),ED hj,AD,Iy (by simp;omega),AD,e4]
     show AC (DW n (o++[(A7 A q)[k]]) A (A7 A q)[k].Item) _=_
     rw[ih _ _ (by omega) (by rw[oW];simp;omega),AD]
     rw[jS B]),T (k+1) _ (by omega) (by simp only[oW,oY,qJ];omega)]
    conv=>rhs;rw[oT B,o6]
    simp
  have h0:=loop (A7 A q).length 0 out (by omega) (by rw[pu];exact hl)
  rw[pu] at h0
  have U:iter (λ(a:(List UInt8) × Int × (List AB))=>Fl A q (λw E l=>DW n w E l) a.1 a.2.1 a.2.2) ([],0,out)=some (.ext (out++(A7 A q).flatMap λx=>x::BF A n x.Item)):=h0
  rw[U,H7];rfl
end Go.Proofs.YtmogkkigacadpaaGreatDoor.Al

set_option linter.unusedVariables false
namespace Go.Proofs.YtmogkkigacadpaaGreatDoor.Al
open Go.Sort
theorem BS.trans{A}{a b y}(h:BS A b y)(g:BS A a b):BS A a y:=by
 induction h with
 | self=>exact g
 | step j _ l=>exact BS.step j l
theorem BS.rank{A}{d}(j:Rk A d){top y}(h:BS A top y):d top≤d y:=by
 induction h with
 | self=>exact nk _
 | step l _ m=>have:=j _ l;omega
theorem nM{A}(l:Uq A){a b y}(h:BS A a y)(g:BS A b y):BS A a b∨BS A b a:=by
 induction h with
 | self=>exact .inr g
 | @step x j m q=>
  rcases g.inv with e | ⟨z,w,e,g2⟩
  ·exact .inl (by rw[← e];exact BS.step j m)
  ·rw[l.eq w j e] at g2;exact q g2
theorem LS{A} : ∀(n:Nat) (q:Int) (z:AB),z∈BF A n q→z∈A∧BS A q z.Parent:=by
 intro n
 induction n with
 | zero=>intro q z h;cases h
 | succ n l=>
  intro q z h
  unfold BF at h
  obtain⟨x,m,j⟩:=rY.1 h
  obtain⟨hA,hp⟩:=Gh.1 m
  rcases oP.1 j with rfl | j
  ·exact⟨hA,by rw[hp];exact BS.self⟩
  ·obtain⟨w,B⟩:=l _ _ j
   exact⟨w,B.trans (BS.step hA (by rw[hp];exact BS.self))⟩
theorem VD{A}{d}(C:Uq A)(m:Rk A d):∀(n:Nat) (q:Int),(BF A n q).Pairwise λa b=>a.Item≠b.Item:=by
 intro n
 induction n with
 | zero=>intro q;exact List.Pairwise.nil
 | succ n O=>
  intro q
  unfold BF
  rw[List.pairwise_flatMap]
  have hB:∀a∈A7 A q,∀x∈a::BF A n a.Item,BS A a.Item x.Item:=λa j x E=>by
   rcases oP.1 E with rfl | E
   ·exact BS.self
   ·obtain⟨F,w⟩:=LS n _ _ E
    exact BS.step F w
  refine⟨λa j=>px.2 ⟨λz T e=>?_,O _⟩,?_⟩
  ·obtain⟨F,w⟩:=LS n _ _ T
   have:=w.rank m
   have:=m z F
   rw[e] at *;omega
  ·have U:=NA C q
   have l:∀a∈A7 A q,a∈A∧a.Parent=q:=λa j=>Gh.1 j
   refine List.Pairwise.imp_of_mem (λ{a b} j B I x E y V e=>?_) U
   have F:=hB a j x E
   have w:=hB b B y V
   rw[← e] at w
   have J:a.Item≠b.Item:=λM=>by
    rw[C.eq (l a j).1 (l b B).1 M,HZ.swo.irrefl] at I;cases I
   rcases nM C F w with g | g
   ·have g2:=(OX C (l b B).1 (λM=>J M.symm)).1 g
    rw[(l b B).2] at g2
    have:=g2.rank m
    have:=m a (l a j).1
    rw[(l a j).2] at this
    omega
   ·have g2:=(OX C (l a j).1 J).1 g
    rw[(l a j).2] at g2
    have:=g2.rank m
    have:=m b (l b B).1
    rw[(l b B).2] at this
    omega
theorem VZ:∀(l A:List AB),(l.Pairwise λa b=>a.Item≠b.Item)→(∀z∈l,z∈A)→l.length≤A.length:=by
 intro l
 induction l with
 | nil=>intro A _ _;exact pM _
 | cons a r w=>
  intro A hp j
  rw[px] at hp
  have m:=j a (oE ..)
  have:=w (A.erase a) hp.2 λz q=>(List.mem_erase_of_ne (λe=>hp.1 z q (by rw[e]))).2 (j z (ny _ q))
  rw[List.length_erase_of_mem m] at this
  have:0<A.length:=List.length_pos_of_mem m
  simp;omega
theorem KS{A:List AB}{d}{M}(h:Fo A d M) n q:(BF A n q).length≤A.length:=
 VZ _ _ (VD h.uq h.rk n q) λz j=>(LS n q z j).1
theorem Qp{α:Type} m k(v:α) q:AR (Ai m k v) q=if q=k then some v else AR m q:=by
 induction m with
 | nil=>unfold Ai AR;rfl
 | cons p r w=>
  unfold Ai
  by_cases l:k=p.1
  ·rw[ne l]
   conv=>lhs;unfold AR
   conv=>rhs;unfold AR
   rw[← l]
   split<;>rfl
  ·rw[nd l]
   conv=>lhs;unfold AR
   conv=>rhs;unfold AR
   rw[w]
   by_cases j:q=p.1
   ·rw[ne j,ne j,nd (by rw[j];exact λe=>l e.symm)]
   ·rw[nd j,nd j]
def cS(p q:List UInt8):Int:=if Av p q then -1 else if !(Av p q||(p=q)) then 1 else 0
def Pc(a b:AB):Int:=if cS a.Place b.Place≠0 then cS a.Place b.Place else Gf a.Item b.Item
theorem ZN p q:Ma p q=some (cS p q):=by
 unfold Ma OP cS
 simp only[qm,p8,AD,pR,qE]
 split
 ·rfl
 ·split<;>rfl
theorem XU a b:KI a b=some (Pc a b):=by
 unfold KI Pc
 rw[ZN,PS,AD,AD,US,AD]
theorem lB(a b:AB):NK a b=some (Gf a.Item b.Item):=by
 unfold NK
 rw[PS,AD]
theorem lz:ltOf Pc=Gn:=by
 funext a b
 unfold ltOf
 rw[oU,ni,Qk]
 unfold Pc cS Gf
 by_cases j:Av a.Place b.Place=true
 ·simp[j]
 ·rw[oV] at j
  by_cases l:a.Place=b.Place
  ·simp only[j,l,Is,pR,qE,qm,Bool.or_true,p8,ne_eq,not_true_eq_false,false_or,rE]
   split
   ·simp[*]
   ·split<;>omega
  ·simp[j,l]
theorem Ys:ltOf (λa b:AB=>Gf a.Item b.Item)=Eo:=by
 funext a b
 unfold ltOf Eo Gf
 rw[pv]
 show(if a.Item<b.Item then(-1:Int) else if b.Item<a.Item then 1 else 0)<0↔_
 split
 ·simp[*]
 ·split<;>omega
theorem WZ{lt}(j:Ge lt){cmp}{l}(w:∀a b,cmp a b=some (l a b))(m:ltOf l=lt){xs:List AB}(A:Uq xs)(E:xs.length≤1048576) :
  G8 cmp xs=some (srt lt xs):=by
 refine YF ⟨by omega,l,w,by rw[m];exact j.swo,λa B b C q g2=>?_,F5 _ _,by rw[m];exact Oz j xs⟩
 rw[m] at q g2
 exact A.eq B C (j.tot a b q g2)
theorem WT{lt}(j:Ge lt){xs ys:List AB}(m:Uq ys)(hp:xs.Perm ys):srt lt xs=srt lt ys:=by
 refine S4 j.swo _ _ (((F5 lt xs).trans hp).trans (F5 lt ys).symm) (λa q b w A g2=>?_) (Oz j xs) (Oz j ys)
 have l:∀z∈srt lt xs,z∈ys:=λz B=>hp.subset ((F5 lt xs).subset B)
 exact m.eq (l a q) (l b w) (j.tot a b A g2)
def DQ(kids:List (Int × List AB))(q:Int):List AB:=(AR kids q).getD []
def IW(A:List AB)(kids:List (Int × List AB)):Prop:=∀q,(DQ kids q).Perm (A.filter λz=>decide (z.Parent=q))
theorem QR kids q v p:DQ (Ai kids q v) p=if p=q then v else DQ kids p:=by
 unfold DQ
 rw[Qp]
 split<;>rfl
theorem eI{A:List AB}(I:Uq A)(J:A.length≤1048576){kids}(m:IW A kids)(q:Int):∃w,J9 KI kids q=some w∧DQ w q=A7 A q∧IW A w∧∀p,DQ kids p=A7 A p→DQ w p=A7 A p:=by
 unfold J9
 cases B:AR kids q with
 | none=>
  have j:=m q
  unfold DQ at j
  rw[B,rW] at j
  refine⟨kids,rfl,?_,m,λp h=>h⟩
  unfold DQ A7
  rw[B,List.nil_perm.1 j]
  simp[srt]
 | some C=>
  have j:=m q
  unfold DQ at j
  rw[B,oz] at j
  have E:Uq C:=(I.filter _).perm j
  have F:C.length≤1048576:=by rw[j.length_eq];exact nu (pA ..) J
  have l:srt Gn C=A7 A q:=WT HZ (I.filter _) j
  simp only
  rw[WZ HZ XU lz E F,ot]
  refine⟨_,rfl,?_,λp=>?_,λp hp=>?_⟩
  ·rw[QR,ne rfl,l]
  ·rw[QR]
   split
   ·rename_i e;subst e
    exact(F5 _ _).trans j
   ·exact m p
  ·rw[QR]
   split
   ·rename_i e;subst e;exact l
   ·exact hp
def Ce(m:List (Int × Bool))(i:Int):Bool:=(AR m i).getD false
theorem MY m k i:Ce (Ai m k true) i=((i=k)||Ce m i):=by
 unfold Ce
 rw[Qp]
 by_cases h:i=k<;>simp[h]
def Bb(l:List AB)(i:Int):Bool:=l.any λz=>decide (z.Item=i)
theorem Tx l m i:Bb (l++m) i=(Bb l i||Bb m i):=by unfold Bb;rw[List.any_append]
theorem bD{A}{d}{M}(h:Fo A d M):∀(n:Nat) (q:Int) (kids:List (Int × List AB)) (out:List AB) (seen:List (Int × Bool)),M-d q<n→IW A kids→out.length+(BF A n q).length≤2097151 →
  ∃l F,Dj n kids out seen q=some (l,out++BF A n q,F)∧IW A l∧(∀p,DQ kids p=A7 A p→DQ l p=A7 A p)∧∀i,Ce F i=(Ce seen i||Bb (BF A n q) i):=by
 intro n
 induction n with
 | zero=>intro q kids out seen hn;omega
 | succ n ih=>
  intro q kids out seen hn hK hl
  obtain⟨w,e1,e2,e3,e4⟩:=eI h.uq h.len hK q
  have a6:(A7 A q).length≤1048576:=by
   unfold A7
   rw[(F5 _ _).length_eq];exact nu (pA ..) h.len
  have loop:∀m k o E O,k+m=(A7 A q).length→IW A E→DQ E q=A7 A q→o.length+(((A7 A q).drop k).flatMap λx=>x::BF A n x.Item).length≤2097151 →
    ∃B C,iter (λ(a:Int × (List AB) × (List (Int × (List AB))) × (List (Int × Bool)))=>F1 q (λU V m2 j=>Dj n U V m2 j) w a.1 a.2.1 a.2.2.1 a.2.2.2) ((k:Int),o,E,O) =
     some (.ext (B,o++((A7 A q).drop k).flatMap λx=>x::BF A n x.Item,C))∧IW A B∧(∀p,DQ E p=A7 A p→DQ B p=A7 A p)∧∀i,Ce C i=(Ce O i||Bb (((A7 A q).drop k).flatMap λx=>x::BF A n x.Item) i):=by
   intro m
   induction m with
   | zero=>
    intro k o E O hk T hr ho
    refine⟨E,O,BM ?_,T,λp hp=>hp,λi=>?_⟩
    ·show F1 q _ w (k:Int) o E O=_
     unfold F1
     rw[nd (by rw[show(AR w q).getD []=A7 A q from e2];simp;omega),pN (by omega)]
     simp
    ·rw[pN (by omega)];simp[Bb]
   | succ m a0=>
    intro k o E O hk T hr ho
    have I:k<(A7 A q).length:=by omega
    have X:=oO I
    have J:=Gh.1 X
    have hd:=h.rk _ J.1
    rw[J.2] at hd
    have a2:=h.top _ J.1
    rw[oT I,o6,oW,oY] at ho
    obtain⟨k1,s1,f1,f2,f3,f4⟩:=ih (A7 A q)[k].Item E (o++[(A7 A q)[k]]) (Ai O (A7 A q)[k].Item true) (by omega) T (by rw[oW];simp;omega)
    obtain⟨B,C,Z,g2,g3,g4⟩:=a0 (k+1) ((o++[(A7 A q)[k]])++BF A n (A7 A q)[k].Item) k1 s1 (by omega) f2 (f3 q hr) (by simp only[oW,oY,qJ];omega)
    refine⟨B,C,?_,g2,λp hp=>g3 p (f3 p hp),λi=>?_⟩
    ·rw[Br (s':=(((k+1:Nat):Int),(o++[(A7 A q)[k]])++BF A n (A7 A q)[k].Item,k1,s1)) (by
      show F1 q _ w (k:Int) o E O=_
      unfold F1
      rw[ne (by rw[show(AR w q).getD []=A7 A q from e2];simp;omega),show(AR E q).getD []=A7 A q from hr,ED I,AD,Iy (by simp;omega),AD]
      show CU (Dj n E (o++[(A7 A q)[k]]) (Ai O (A7 A q)[k].Item true) (A7 A q)[k].Item) _=_
      rw[f1,FX,Aq (by omega),AD]),Z]
     conv=>rhs;rw[oT I,o6]
     simp
    ·rw[g4,f4,MY,oT I,o6,Tx]
     have:Bb ((A7 A q)[k]::BF A n (A7 A q)[k].Item) i=((i=(A7 A q)[k].Item)||Bb (BF A n (A7 A q)[k].Item) i):=by
      unfold Bb
      rw[qI]
      congr 1
      rw[pv];exact⟨λe=>e.symm,λe=>e.symm⟩
     rw[this]
     cases Ce O i<;>cases decide (i=(A7 A q)[k].Item)<;>simp
  obtain⟨B,C,Z,g2,g3,g4⟩:=loop (A7 A q).length 0 out w seen (by omega) e3 e2 (by rw[pu];exact hl)
  rw[pu] at Z g4
  refine⟨B,C,?_,g2,λp hp=>g3 p (e4 p hp),g4⟩
  show IJ (λU V m2 j=>Dj n U V m2 j) kids out seen q=_
  unfold IJ
  rw[e1,AD]
  have a1:iter (λ(a:Int × (List AB) × (List (Int × (List AB))) × (List (Int × Bool)))=>F1 q (λU V m2 j=>Dj n U V m2 j) w a.1 a.2.1 a.2.2.1 a.2.2.2) (0,out,w,seen)=_:=Z
  rw[a1,H7];rfl
end Go.Proofs.YtmogkkigacadpaaGreatDoor.Al

set_option linter.unusedVariables false
set_option linter.unusedSimpArgs false
namespace Go.Proofs.YtmogkkigacadpaaGreatDoor.Al
open Go.Sort
def wa(attrs:List AB)(x:AB):AB:=⟨x.Item,x.Parent,x.Place,(AR (Co attrs) x.Item).getD []⟩
theorem jk{l:List Au}(E:l.length≤1048576)(F:∀x∈l,E7 x=0):∀(m k:Nat) (j attrs:List AB),k+m=l.length→DI k j attrs→∃q w,DI l.length q w ∧
  iter (λ(a:Int × (List (Int × AB)) × (List (Int × (List AG))))=>H6 l a.1 a.2.1 a.2.2) ((k:Int),BT j,Co attrs)=some (BT q,Co w) ∧
  iter (λ(a:Int × (List AB) × (List AB))=>Hk l a.1 a.2.1 a.2.2) ((k:Int),j,attrs)=some (q,w):=by
 intro m
 induction m with
 | zero=>
  intro k j attrs I h
  obtain rfl:k=l.length:=by omega
  refine⟨j,attrs,h,BM ?_,BM ?_⟩
  ·show H6 l (l.length:Int) _ _=_
   unfold H6;rw[nd (by simp)]
  ·show Hk l (l.length:Int) _ _=_
   unfold Hk;rw[nd (by simp)]
 | succ m J=>
  intro k j attrs I h
  have A:k<l.length:=by omega
  obtain⟨B,C,M,O,T⟩:=ZJ h A E (F _ (B5 A))
  obtain⟨U,V,X,Z,h6⟩:=J (k+1) B C (by omega) M
  refine⟨U,V,X,?_,?_⟩
  ·rw[Br (s':=(((k+1:Nat):Int),BT B,Co C)) O];exact Z
  ·rw[Br (s':=(((k+1:Nat):Int),B,C)) T];exact h6
theorem ZQ{l attrs:List AB}(Z:l.length≤1048576)(h2:attrs.length≤1048576)(J:∀x∈l,x.Attrs=[]) :
  iter (λ(a:Int × (List AB))=>Hi l attrs a.1 a.2) (0,l)=some (l.map (wa attrs)):=by
 have key:∀m k,k+m=l.length→iter (λ(a:Int × (List AB))=>Hi l attrs a.1 a.2) ((k:Int),(l.take k).map (wa attrs)++l.drop k)=some (l.map (wa attrs)):=by
  intro m
  induction m with
  | zero=>
   intro k O
   refine BM ?_
   show Hi l attrs (k:Int) _=_
   unfold Hi
   rw[nd (by simp;omega),pN (by omega),qL (by omega),pa]
  | succ m T=>
   intro k O
   have q:k<l.length:=by omega
   have B:((l.take k).map (wa attrs)).length=k:=by simp;omega
   have U:((l.take k).map (wa attrs)++l.drop k)[k]?=some l[k]:=by
    rw[nz (by omega),B,rX,oX,oy,nj q]
   have F:∀y,((l.take k).map (wa attrs)++l.drop k).set k y=(l.take k).map (wa attrs)++(y::l.drop (k+1)):=λy=>by
    rw[qy _ _ (by omega),B,rX,oT q];rfl
   have w:(l.take (k+1)).map (wa attrs)++l.drop (k+1)=(l.take k).map (wa attrs)++(wa attrs l[k]::l.drop (k+1)):=by
    rw[Mb q,nv l k q,pZ,oo];rfl
   have C:Hi l attrs (k:Int) ((l.take k).map (wa attrs)++l.drop k)=some (.inl (((k+1:Nat):Int),(l.take (k+1)).map (wa attrs)++l.drop (k+1))):=by
    unfold Hi
    have I:AM ((l.take k).map (wa attrs)++l.drop k) (k:Int)=some l[k]:=by
     unfold AM;rw[ne (qK k),pH,U]
    rw[ne (by simpa using q),I,AD,Lf _ _ (by omega),AD,Aq (by omega)]
    unfold Hd
    have A:=R4 attrs l[k].Item
    cases E:Aj (BT attrs) l[k].Item with
    | none=>
     rw[E] at A
     simp only
     rw[nd (by decide),AD,AD,w]
     have:wa attrs l[k]=l[k]:=by
      unfold wa
      rw[(Ed A).1,rW,← J _ (oO q)]
     rw[this,oT q]
    | some j=>
     rw[E] at A
     obtain⟨M,ej⟩:=HH E
     obtain⟨v,v1,V,_⟩:=DH A
     have X:v=attrs[j].Attrs:=by
      unfold Co at v1
      rw[nq,nj M] at v1
      simp at v1
      exact v1.2.symm
     simp only
     rw[ne (by simp),ED M]
     simp only[AD,pH]
     rw[F,w]
     unfold wa
     rw[V,oz,X]
   rw[Br (s':=(((k+1:Nat):Int),(l.take (k+1)).map (wa attrs)++l.drop (k+1))) C]
   exact T (k+1) (by omega)
 have:=key l.length 0 (by omega)
 simpa using this
theorem Zd{l:List Au}(w:l.length≤1048576)(A:∀x∈l,E7 x=0):∃j attrs,DI l.length j attrs∧Kg l=some (BT j,Co attrs)∧LU l=some (j.map (wa attrs),attrs):=by
 obtain⟨j,attrs,h,B,C⟩:=jk w A l.length 0 [] [] (by omega) ⟨by unfold Uq;simp,by simp,by simp,⟨λ_=>0,λx E=>by cases E⟩,by simp,by unfold Uq;simp,by simp,by simp,by simp,by simp,by simp⟩
 refine⟨j,attrs,h,?_,?_⟩
 ·unfold Kg
  have m:iter (λ(a:Int × (List (Int × AB)) × (List (Int × (List AG))))=>H6 l a.1 a.2.1 a.2.2) (0,[],[])=some (BT j,Co attrs):=B
  rw[m,Bv]
 ·unfold LU
  have q:iter (λ(a:Int × (List AB) × (List AB))=>Hk l a.1 a.2.1 a.2.2) (0,[],[])=some (j,attrs):=C
  rw[q,Bv,ZQ (by have:=h.li;omega) (by have:=h.la;omega) h.no,AD]
theorem YW(d:Int→Nat):∀A:List AB,∃M,∀x∈A,d x.Item≤M:=by
 intro A
 induction A with
 | nil=>exact⟨0,λx j=>by cases j⟩
 | cons a r l=>
  obtain⟨M,h⟩:=l
  refine⟨max M (d a.Item),λx j=>?_⟩
  rcases oP.1 j with rfl | j
  ·exact Nat.le_max_right ..
  ·exact nu (h x j) (Nat.le_max_left ..)
theorem DI.fo{n}{j attrs:List AB}(h:DI n j attrs)(w:n≤1048576):∃d M,Fo (j.map (wa attrs)) d M:=by
 obtain⟨d,hd⟩:=h.rk
 obtain⟨M,q⟩:=YW d (j.map (wa attrs))
 refine⟨d,M,?_,λx l=>?_,λx l=>?_,q,by have:=h.li;simp;omega⟩
 ·have:=h.uq
  unfold Uq at *
  rw[List.map_map];exact this
 ·obtain⟨y,m,rfl⟩:=oh.1 l;exact h.id y m
 ·obtain⟨y,m,rfl⟩:=oh.1 l;exact hd y m
theorem Kx{α:Type}{N:Nat→Option α}(mono:∀n r,N n=some r→N (n+1)=some r){j:Nat}{l:α}(h:N j=some l) :
  @dite _ (∃n r,N n=some r) (Classical.propDecidable _) (λh=>N h.choose) (λ_=>none)=some l:=by
 have m:∃n r,N n=some r:=⟨j,l,h⟩
 rw[qD m]
 obtain⟨C,w⟩:=m.choose_spec
 have up:∀k n r,N n=some r→N (n+k)=some r:=by
  intro k
  induction k with
  | zero=>intro n r h;exact h
  | succ k A=>intro n r h;exact mono _ _ (A n r h)
 have B:=up j _ _ w
 have q:=up m.choose _ _ h
 rw[Nat.add_comm] at q
 rw[B] at q
 rw[w];exact q
theorem Ix{σ β:Type}{f g:σ→Option (σ ⊕ β)}(h:∀s v,f s=some v→g s=some v){s:σ}{r:β}(m:iter f s=some r):iter g s=some r:=by
 obtain⟨n,j⟩:=K0.1 m
 refine K0.2 ⟨n,?_⟩
 clear m
 induction n generalizing s with
 | zero=>exact j
 | succ n q=>
  unfold EO at j ⊢
  cases l:f s with
  | none=>rw[l] at j;cases j
  | some v=>
   rw[l] at j
   rw[h s v l]
   cases v with
   | inl w=>exact q j
   | inr b=>exact j
theorem ma n:∀(m:List (Int × List AB)) (A:List AB) (m2:List (Int × Bool)) (q:Int) r,Dj n m A m2 q=some r→Dj (n+1) m A m2 q=some r:=by
 induction n with
 | zero=>intro m A m2 q r h;cases h
 | succ n O=>
  intro m A m2 q r h
  change IJ (λm A m2 j=>Dj n m A m2 j) m A m2 q=some r at h
  show IJ (λm A m2 j=>Dj (n+1) m A m2 j) m A m2 q=some r
  unfold IJ at h ⊢
  cases I:J9 KI m q with
  | none=>rw[I] at h;cases h
  | some w=>
   rw[I,AD] at h
   rw[AD]
   cases C:iter (λ(a:Int × (List AB) × (List (Int × (List AB))) × (List (Int × Bool)))=>F1 q (λm A m2 j=>Dj n m A m2 j) w a.1 a.2.1 a.2.2.1 a.2.2.2) (0,A,w,m2) with
   | none=>rw[C] at h;cases h
   | some v=>
    rw[C] at h
    rw[Ix (g:=λ(a:Int × (List AB) × (List (Int × (List AB))) × (List (Int × Bool)))=>F1 q (λm A m2 j=>Dj (n+1) m A m2 j) w a.1 a.2.1 a.2.2.1 a.2.2.2) (λs v B=>?_) C]
    ·exact h
    ·unfold F1 at B ⊢
     split at B
     ·rename_i E
      rw[ne E]
      cases J:AM ((AR s.2.2.1 q).getD []) s.1 with
      | none=>rw[J] at B;cases B
      | some x=>
       rw[J,AD] at B
       rw[AD]
       cases M:app 56 s.2.1 [x] with
       | none=>rw[M] at B;cases B
       | some l=>
        rw[M,AD] at B
        rw[AD]
        change CU (Dj n s.2.2.1 l (Ai s.2.2.2 x.Item true) x.Item) _=_ at B
        show CU (Dj (n+1) s.2.2.1 l (Ai s.2.2.2 x.Item true) x.Item) _=_
        cases F:Dj n s.2.2.1 l (Ai s.2.2.2 x.Item true) x.Item with
        | none=>rw[F] at B;cases B
        | some t=>rw[F] at B;rw[O _ _ _ _ _ F];exact B
     ·rename_i E
      rw[nd E];exact B
theorem lm n:∀(o l:List AB) (q:Int) r,DW n o l q=some r→DW (n+1) o l q=some r:=by
 induction n with
 | zero=>intro o l q r h;cases h
 | succ n T=>
  intro o l q r h
  change IP (λm A j=>DW n m A j) o l q=some r at h
  show IP (λm A j=>DW (n+1) m A j) o l q=some r
  unfold IP at h ⊢
  cases B:iter (λ(a:(List UInt8) × Int × (List AB))=>Fl l q (λm A j=>DW n m A j) a.1 a.2.1 a.2.2) ([],0,o) with
  | none=>rw[B] at h;cases h
  | some v=>
   rw[B] at h
   rw[Ix (g:=λ(a:(List UInt8) × Int × (List AB))=>Fl l q (λm A j=>DW (n+1) m A j) a.1 a.2.1 a.2.2) (λs v w=>?_) B]
   ·exact h
   ·unfold Fl at w ⊢
    cases J:iter (λ(a:Int × Int)=>H0 l q s.1 s.2.1 a.1 a.2) ((-1),0) with
    | none=>rw[J] at w;cases w
    | some C=>
     rw[J,AD] at w
     rw[AD]
     split at w
     ·rename_i E;rw[ne E];exact w
     ·rename_i E
      rw[nd E]
      cases M:AM l C with
      | none=>rw[M] at w;cases w
      | some x=>
       rw[M,AD] at w
       rw[AD]
       cases O:app 56 s.2.2 [x] with
       | none=>rw[O] at w;cases w
       | some F=>
        rw[O,AD] at w
        rw[AD]
        change AC (DW n F l x.Item) _=_ at w
        show AC (DW (n+1) F l x.Item) _=_
        cases I:DW n F l x.Item with
        | none=>rw[I] at w;cases w
        | some t=>rw[I] at w;rw[T _ _ _ _ I];exact w
theorem cM{A}{d}{M}(h:Fo A d M):Lt [] A 0=some (BF A (M+1) 0):=by
 have j:=iu h (M+1) 0 [] (by omega) (by have:=KS h (M+1) 0;have:=h.len;simp;omega)
 rw[og] at j
 unfold Lt
 exact Kx (N:=λn=>DW n [] A 0) (λn r=>lm n [] A 0 r) j
theorem bO{A}{d}{M}(h:Fo A d M){kids}(m:IW A kids):∃j s',Mh kids [] [] 0=some (j,BF A (M+1) 0,s')∧∀i,Ce s' i=Bb (BF A (M+1) 0) i:=by
 obtain⟨j,s',l,_,_,q⟩:=bD h (M+1) 0 kids [] [] (by omega) m (by have:=KS h (M+1) 0;have:=h.len;simp;omega)
 rw[og] at l
 refine⟨j,s',?_,λi=>by rw[q];simp[Ce,AR]⟩
 unfold Mh
 exact Kx (N:=λn=>Dj n kids [] [] 0) (λn r=>ma n kids [] [] 0 r) l
end Go.Proofs.YtmogkkigacadpaaGreatDoor.Al

set_option linter.unusedVariables false
set_option linter.unusedSimpArgs false
namespace Go.Proofs.YtmogkkigacadpaaGreatDoor.Al
open Go.Sort
theorem fP{α:Type}{m:List (Int × α)}{k}{v0}(h:AR m k=some v0)(v:α):(Ai m k v).map (·.1)=m.map (·.1):=by
 induction m with
 | nil=>cases h
 | cons p r l=>
  unfold Ai
  by_cases j:k=p.1
  ·rw[ne j];simp[j]
  ·rw[nd j]
   unfold AR at h
   rw[nd j] at h
   rw[oN,oN,l h]
theorem Sc{l}(w:Uq l){x:AB}(m:x∈l):AR (BT l) x.Item=some x:=by
 rw[W6]
 cases h:Aj (BT l) x.Item with
 | none=>exact absurd rfl (KF h x m)
 | some j=>
  obtain⟨q,e⟩:=HH h
  rw[oR,nj q,w.eq (oO q) m e]
def JU(j attrs:List AB)(k:Int):AB:=((AR (BT j) k).map (wa attrs)).getD default
structure RJ(items attrs:List AB)(p:List Int)(st:(List AB) × (List (Int × AB)) × (List (Int × (List AB)))):Prop where
 all:st.1=p.map (JU items attrs)
 keys:st.2.1.map (·.1)=items.map (·.Item)
 here:∀x∈items,∃a,AR st.2.1 x.Item=some ⟨x.Item,x.Parent,x.Place,a⟩
 kids:∀q,DQ st.2.2 q=(p.map (JU items attrs)).filter λz=>decide (z.Parent=q)
abbrev NH:(List AB) × (List (Int × AB)) × (List (Int × (List AB)))→List Int:=λa=>a.2.1.map (·.1)
theorem ZL{j attrs:List AB}(F:Uq j)(hl:j.length≤1048576):∀(r p:List Int) l,RJ j attrs p l→(∀k∈r,k∈j.map (·.Item))→p.length+r.length≤1048576 →
  ∃st',Eu (JH NH (j.map (·.Item)) (λa w=>Gu (Co attrs) a.1 a.2.1 a.2.2 w)) r l=some st'∧RJ j attrs (p++r) st':=by
 intro r
 induction r with
 | nil=>intro p l h _ _;exact⟨l,rfl,by rw[pa];exact h⟩
 | cons k r U=>
  intro p l h I A
  obtain⟨x,B,rfl⟩:=oh.1 (I k (oE ..))
  obtain⟨a,J⟩:=h.here x B
  have C:(⟨x.Item,x.Parent,x.Place,(AR (Co attrs) x.Item).getD []⟩:AB)=wa attrs x:=rfl
  have M:JU j attrs x.Item=wa attrs x:=by unfold JU;rw[Sc F B];rfl
  have O:(DQ l.2.2 x.Parent).length≤1048576:=by
   rw[h.kids];refine nu (pA ..) ?_;rw[oK];simp at A;omega
  have V:Gu (Co attrs) l.1 l.2.1 l.2.2 x.Item=some (l.1++[wa attrs x],Ai l.2.1 x.Item (wa attrs x),Ai l.2.2 x.Parent (DQ l.2.2 x.Parent++[wa attrs x])):=by
   unfold Gu
   rw[J,AD]
   show AC (app 56 (DQ l.2.2 x.Parent) [wa attrs x]) _=_
   rw[Iy (by simp;omega),AD]
   show AC (app 56 l.1 [wa attrs x]) _=_
   rw[Iy (by rw[h.all];simp at A ⊢;omega),AD]
   rfl
  have m:(Ai l.2.1 x.Item (wa attrs x)).map (·.1)=j.map (·.Item):=by rw[fP J];exact h.keys
  obtain⟨st',X,T⟩:=U (p++[x.Item]) (l.1++[wa attrs x],Ai l.2.1 x.Item (wa attrs x),Ai l.2.2 x.Parent (DQ l.2.2 x.Parent++[wa attrs x])) ⟨by rw[pZ,rJ,M,← h.all],m,λy C=>by
    show ∃a,AR (Ai l.2.1 x.Item (wa attrs x)) y.Item=_
    rw[Qp]
    split
    ·rename_i e
     rw[F.eq C B e];exact⟨_,rfl⟩
    ·exact h.here y C,λq=>by
    show DQ (Ai l.2.2 x.Parent _) q=_
    rw[QR,pZ,List.filter_append,rJ,M]
    by_cases E:q=x.Parent
    ·subst E
     have e:[wa attrs x].filter (λz=>decide (z.Parent=x.Parent))=[wa attrs x]:=by simp[wa]
     rw[ne rfl,h.kids,e]
    ·have e:[wa attrs x].filter (λz=>decide (z.Parent=q))=[]:=by simp[wa];exact λe=>E e.symm
     rw[nd E,h.kids,e,pa]⟩ (λk Z=>I k (ny _ Z)) (by simp at A ⊢;omega)
  refine⟨st',?_,by rw[oo] at T;exact T⟩
  show(JH NH (j.map (·.Item)) (λa w=>Gu (Co attrs) a.1 a.2.1 a.2.2 w) l x.Item).bind _=some st'
  have hs:JH NH (j.map (·.Item)) (λa w=>Gu (Co attrs) a.1 a.2.1 a.2.2 w) l x.Item=some (l.1++[wa attrs x],Ai l.2.1 x.Item (wa attrs x),Ai l.2.2 x.Parent (DQ l.2.2 x.Parent++[wa attrs x])):=by
   unfold JH
   simp only
   rw[V,oR,ne (by exact m)]
  rw[hs,oR]
  exact X
def Be(A:List AB)(j:List AB):List AB:=(srt Eo A).filter λz=>!Bb j z.Item
theorem XN l m(A:∀i,Ce l i=Bb m i)(j:List AB)(C:j.length≤1048576)(o:List AB)(E:o.length≤1048576) :
  iter (λ(a:Int × (List AB))=>HT l j a.1 a.2) (0,o)=some (o++j.filter λz=>!Bb m z.Item):=
 Fi (f:=λ(a:Int × (List AB))=>HT l j a.1 a.2) j (λc k=>((k:Int),c)) (λr c=>c++r.filter λz=>!Bb m z.Item) (λk c=>c.length≤1048576+k)
  (λk c w B=>by
   left
   show ∃F,HT l j (k:Int) c=_∧_
   unfold HT
   rw[ne (by simpa using w),Ag w,AD,Aq (by omega),show(AR l j[k]!.Item).getD false=Bb m j[k]!.Item from A _]
   by_cases q:Bb m j[k]!.Item=true
   ·refine⟨c,by rw[q];rfl,by omega,?_⟩
    rw[pW,q];rfl
   ·rw[oV] at q
    refine⟨c++[j[k]!],by rw[q,ne (by decide),Iy (by simp;omega)];rfl,by simp;omega,?_⟩
    rw[pW,q];simp)
  (λc B=>by
   show HT l j (j.length:Int) c=_
   unfold HT
   rw[nd (by simp)];simp) o (by omega) _ rfl
theorem eR{l:List Au}{j attrs:List AB}(hm:l.length≤1048576)(h:DI l.length j attrs)(hp:Kg l=some (BT j,Co attrs)){d}{M}(hF:Fo (j.map (wa attrs)) d M) :
  L2 l=some (BF (j.map (wa attrs)) (M+1) 0++Be (j.map (wa attrs)) (BF (j.map (wa attrs)) (M+1) 0)):=by
 unfold L2
 rw[hp,Bv]
 have A:NH ([],BT j,[])=j.map (·.Item):=by
  show(BT j).map (·.1)=_
  unfold BT;rw[List.map_map];rfl
 refine Xm (key:=NH) (F:=λa T=>Gu (Co attrs) a.1 a.2.1 a.2.2 T) ⟨by rw[A];exact h.uq,λks w=>?_⟩
 rw[A] at w ⊢
 have U:=h.li
 have V:ks.length=j.length:=by rw[w.length_eq,oK]
 obtain⟨E,X,C⟩:=ZL (attrs:=attrs) h.uq (by omega) ks [] ([],BT j,[]) ⟨rfl,A,λx F=>⟨x.Attrs,Sc h.uq F⟩,λq=>rfl⟩ (λk Z=>w.subset Z) (by simp;omega)
 rw[X,oR]
 rw[og] at C
 have m:E.1.Perm (j.map (wa attrs)):=by
  rw[C.all]
  have I:=w.map (JU j attrs)
  rw[List.map_map] at I
  refine I.trans (List.Perm.of_eq (List.map_congr_left λx F=>?_))
  show JU j attrs x.Item=_
  unfold JU;rw[Sc h.uq F];rfl
 have hK:IW (j.map (wa attrs)) E.2.2:=λq=>by
  rw[C.kids,← C.all];exact m.filter _
 obtain⟨k',s',J,w2⟩:=bO hF hK
 obtain⟨O,m3,m4⟩:=E
 simp only at m J ⊢
 rw[FX,J,FX,WZ Jx lB Ys (hF.uq.perm m) (by rw[m.length_eq];exact hF.len),AD,WT Jx hF.uq m]
 have B:(srt Eo (j.map (wa attrs))).length≤1048576:=by rw[(F5 _ _).length_eq];exact hF.len
 rw[XN s' _ w2 _ B _ (nu (KS hF _ _) hF.len),AD]
 rfl
def Jz(c:List AB)(k:Nat):Int:=match k with | 0=>0 | k+1=>c[k]!.Item
theorem fK l i:decide (Hd l i<0)=!Bb l i:=by
 unfold Hd
 cases h:Aj (BT l) i with
 | none=>
  have m:=KF h
  have:Bb l i=false:=by
   unfold Bb
   rw[rR]
   intro x q;simpa using m x q
  rw[this];rfl
 | some j=>
  obtain⟨w,e⟩:=HH h
  have:Bb l i=true:=by
   unfold Bb
   rw[pV]
   exact⟨_,oO w,by simpa using e⟩
  rw[this];simp
def Ji(j:List AB)(last:Int)(z:AB):Bool:=(last<z.Item)&&!Bb j z.Item
theorem WR(A l out:List AB)(J:A.length≤1048576)(hw:l.length≤1048576)(m:out.take l.length=l)(E:l.length≤out.length) last:∃next,iter (λ(a:Int × Int)=>Ij A l last out a.1 a.2) ((-1),0)=some (nx next) ∧
  (match next with | none=>∀z∈A,Ji l last z=false | some j=>∃w:j<A.length,Ji l last A[j]=true∧∀z∈A,Ji l last z=true→Eo z A[j]=false):=by
 have q:Do out 0 (l.length:Int)=some l:=by
  unfold Do
  rw[ne ⟨by omega,by omega,by omega⟩]
  simp[m]
 refine Ts Jx (λk next B F=>?_) (λnext=>?_)
 ·show Ij A l last out (nx next) (k:Int)=_
  unfold Ij
  rw[ne (by simpa using B),Ag B,AD,Aq (by omega),q]
  unfold OG Ji
  generalize A[k]! = x
  by_cases C:last<x.Item
  ·rw[nh C,show((true==true)=true) from rfl,Ap,AD,Ap,Lf _ _ (by omega),AD,fK]
   cases M:Bb l x.Item
   ·cases next with
    | none=>simp[nx,Cs]
    | some j=>
     have w:=F j rfl
     have I:decide (nx (some j)<0)=false:=by unfold nx;simp
     rw[I,show nx (some j)=(j:Int) from rfl,Ag w]
     simp only[ph,qo,oS,oq,Ap,AD,ox,rE]
     generalize A[j]! = y
     rw[show Eo x y=decide (x.Item<y.Item) from rfl]
     split<;>rfl
   ·cases next<;>simp[Cs]
  ·rw[ng C]
   cases next<;>simp[Cs]
 ·show Ij A l last out (nx next) (A.length:Int)=_
  unfold Ij
  rw[nd (by simp)]
theorem On{A}(j:Uq A)(l:List AB):(Be A l).Pairwise λa b=>Eo a b=true:=(UV Jx j).filter _
theorem Ia{A j}{z:AB} : z∈Be A j↔z∈A∧Bb j z.Item=false:=by
 unfold Be
 rw[po,(F5 _ _).mem_iff]
 simp
theorem T0{A}(E:Uq A)(BJ:∀x∈A,1≤x.Item)(j:List AB){k}(F:k≤(Be A j).length){z:AB}(q:z∈A):Ji j (Jz (Be A j) k) z=true↔z∈(Be A j).drop k:=by
 have B:∀i:Int,Ji j i z=true↔i<z.Item∧Bb j z.Item=false:=λi=>by unfold Ji;simp
 cases k with
 | zero=>
  rw[pu,Ia,B]
  show(0<z.Item∧_)↔_
  constructor
  ·rintro⟨_,h⟩;exact⟨q,h⟩
  ·rintro⟨_,h⟩;exact⟨by have:=BJ z q;omega,h⟩
 | succ k=>
  rw[B]
  show((Be A j)[k]!.Item<z.Item∧_)↔_
  rw[nv (Be A j) k (by omega)]
  have hd:=λw=>RZ Jx (On E j) (show k<(Be A j).length by omega) (z:=z) w
  constructor
  ·rintro⟨l,m⟩
   exact(hd (Ia.2 ⟨q,m⟩)).1 (by unfold Eo;simpa using l)
  ·intro l
   have m:=rA l
   have C:=(hd m).2 l
   unfold Eo at C
   exact⟨by simpa using C,(Ia.1 m).2⟩
theorem YM{A:List AB}(w:Uq A)(BJ:∀x∈A,1≤x.Item)(C:A.length≤1048576)(l:List AB)(I:l.length≤1048576):∀m k,k+m=(Be A l).length →
  iter (λ(a:Int × (List AB))=>IB A l a.1 a.2) (Jz (Be A l) k,l++(Be A l).take k)=some (.ext (l++Be A l,(l.length:Int))):=by
 intro m
 have hA:∀z∈Be A l,z∈A:=λz B=>(Ia.1 B).1
 have M:(Be A l).length≤1048576:=by
  unfold Be
  refine nu (pA ..) ?_
  rw[(F5 _ _).length_eq];exact C
 induction m with
 | zero=>
  intro k O
  refine BM ?_
  show IB A l (Jz (Be A l) k) (l++(Be A l).take k)=_
  unfold IB
  obtain⟨next,E,F⟩:=WR A l (l++(Be A l).take k) C I (by simp) (by simp) (Jz (Be A l) k)
  have:=(QH Jx w hA (On w l) (λz B=>T0 w BJ l (by omega) B) F).2 (by omega)
  subst this
  rw[E,AD,ne (by decide),qL (by omega)]
 | succ m T=>
  intro k O
  have q:k<(Be A l).length:=by omega
  obtain⟨next,E,F⟩:=WR A l (l++(Be A l).take k) C I (by simp) (by simp) (Jz (Be A l) k)
  obtain⟨j,U,rfl,J⟩:=(QH Jx w hA (On w l) (λz B=>T0 w BJ l (by omega) B) F).1 q
  rw[nj q] at J
  have V:A[j]=(Be A l)[k]:=n8 J
  rw[Br (s':=(Jz (Be A l) (k+1),l++(Be A l).take (k+1))) (by
   show IB A l (Jz (Be A l) k) (l++(Be A l).take k)=_
   unfold IB
   rw[E,AD,show nx (some j)=(j:Int) from rfl,nd (by simp),ED U,AD,Iy (by simp;omega),AD,V]
   show some (Sum.inl ((Be A l)[k].Item,_))=some (Sum.inl ((Be A l)[k]!.Item,_))
   rw[nv (Be A l) k q,Mb q,nv (Be A l) k q,oo])]
  exact T (k+1) (by omega)
theorem Xs{l}{j attrs:List AB}(hp:LU l=some (j.map (wa attrs),attrs)){d}{M}(hF:Fo (j.map (wa attrs)) d M) :
  Jy l=some (BF (j.map (wa attrs)) (M+1) 0++Be (j.map (wa attrs)) (BF (j.map (wa attrs)) (M+1) 0),((BF (j.map (wa attrs)) (M+1) 0).length:Int)):=by
 unfold Jy
 rw[hp,Bv,cM hF,AD]
 have h:=YM hF.uq hF.id hF.len (BF (j.map (wa attrs)) (M+1) 0) (nu (KS hF _ _) hF.len) _ 0 (by rw[oQ])
 rw[List.take_zero,pa] at h
 have m:iter (λ(a:Int × (List AB))=>IB (j.map (wa attrs)) (BF (j.map (wa attrs)) (M+1) 0) a.1 a.2) (0,BF (j.map (wa attrs)) (M+1) 0)=_:=h
 rw[m,H7]
end Go.Proofs.YtmogkkigacadpaaGreatDoor.Al

set_option linter.unusedVariables false
set_option linter.unusedSimpArgs false
namespace Go.Proofs.YtmogkkigacadpaaGreatDoor.Al
open Go.Sort
def Eg:(Int→Bool)→List AB→Prop
 | _,[]=>True
 | S,z::r=>S z.Parent=true∧Eg (λi=>S i||(z.Item=i)) r
theorem Eg.mono:∀ {l:List AB} {S T:Int→Bool},Eg S l→(∀i,S i=true→T i=true)→Eg T l
 | [],_,_,_,_=>trivial
 | z::r,S,T,h,j=>⟨j _ h.1,Eg.mono h.2 λi m=>by
   simp only[nr] at m ⊢
   exact m.imp (j i) _root_.id⟩
theorem XD:∀ {l m:List AB} {S:Int→Bool},Eg S l→Eg (λi=>S i||Bb l i) m→Eg S (l++m)
 | [],m,S,_,q=>q.mono λi j=>by simpa[Bb] using j
 | z::r,m,S,w,q=>⟨w.1,XD w.2 (q.mono λi j=>by
   simp only[Bb,qI,nr,ni] at j ⊢
   rcases j with h | h | h
   ·exact .inl (.inl h)
   ·exact .inl (.inr h)
   ·exact .inr h)⟩
theorem XW{A} : ∀(n:Nat) (q:Int) (S:Int→Bool),S q=true→Eg S (BF A n q):=by
 intro n
 induction n with
 | zero=>intro q S _;trivial
 | succ n w=>
  intro q S j
  show Eg S ((A7 A q).flatMap λx=>x::BF A n x.Item)
  have l:∀x∈A7 A q,x.Parent=q:=λx B=>(Gh.1 B).2
  revert l j
  generalize A7 A q=c
  induction c generalizing S with
  | nil=>intro _ _;trivial
  | cons x r m=>
   intro j l
   rw[o6]
   refine XD ⟨by rw[l x (oE ..)];exact j,w _ _ (by simp)⟩ (m _ (by simp[j]) λy C=>l y (ny _ C))
theorem Eg.at:∀ {l:List AB} {S:Int→Bool},Eg S l→∀k (j:k<l.length),(S l[k].Parent||Bb (l.take k) l[k].Parent)=true
 | z::r,S,h,0,_=>by rw[List.getElem_cons_zero,h.1];rfl
 | z::r,S,h,k+1,j=>by
  have:=Eg.at h.2 k (by simpa using j)
  rw[List.getElem_cons_succ,List.take_succ_cons]
  simp only[Bb,qI,nr,ni] at this ⊢
  rcases this with (h | h) | h
  ·exact .inl h
  ·exact .inr (.inl h)
  ·exact .inr (.inr h)
theorem bB{A}{d}{M}(h:Fo A d M):∀(n:Nat) (q:Int),M-d q<n→∀z∈A,(z.Parent=q∨Bb (BF A n q) z.Parent=true)→z∈BF A n q:=by
 intro n
 induction n with
 | zero=>intro q E;omega
 | succ n F=>
  intro q E z B hp
  unfold BF
  rw[rY]
  rcases hp with hp | hp
  ·exact⟨z,Gh.2 ⟨B,hp⟩,oE ..⟩
  ·unfold Bb BF at hp
   rw[pV] at hp
   obtain⟨y,I,m⟩:=hp
   obtain⟨x,C,j⟩:=rY.1 I
   obtain⟨l,w⟩:=Gh.1 C
   have hd:=h.rk x l
   rw[w] at hd
   have J:=h.top x l
   refine⟨x,C,ny _ (F x.Item (by omega) z B ?_)⟩
   rcases oP.1 j with rfl | j
   ·exact .inl (by simp at m;exact m.symm)
   ·refine .inr ?_
    unfold Bb
    rw[pV]
    exact⟨y,j,m⟩
theorem cX{A:List AB}{d:Int→Nat}{M:Nat}(h:Fo A d M):MX (BF A (M+1) 0++Be A (BF A (M+1) 0))=some ((BF A (M+1) 0).length:Int):=by
 have hlo:(Be A (BF A (M+1) 0)).length≤1048576:=by
  unfold Be
  refine nu (pA ..) ?_
  rw[(F5 _ _).length_eq];exact h.len
 have hlp:=nu (KS h (M+1) 0) h.len
 have hok:=XW (A:=A) (M+1) 0 (λi=>decide (i=0)) (by simp)
 have hout:∀z∈Be A (BF A (M+1) 0),((z.Parent=0)||Bb (BF A (M+1) 0) z.Parent)=false:=λz hz=>by
  obtain⟨hzA,hzn⟩:=Ia.1 hz
  cases hb:((z.Parent=0)||Bb (BF A (M+1) 0) z.Parent)
  ·rfl
  ·have:=bB h (M+1) 0 (by omega) z hzA (by simpa using hb)
   have h2:Bb (BF A (M+1) 0) z.Item=true:=by
    unfold Bb;rw[pV];exact⟨z,this,by simp⟩
   rw[hzn] at h2;cases h2
 generalize BF A (M+1) 0=p at *
 generalize Be A p=o at *
 have key:=I9 (f:=λ(a:Int × (List (Int × Bool)))=>Ip (p++o) a.1 a.2) (p++o).length (λk s=>s.1=(k:Int)∧k≤p.length∧∀i,Ce s.2 i=((i=0)||Bb (p.take k) i))
  (λb=>Ay (some b) (λ(_:Unit)=>some ((p++o).length:Int))=some (p.length:Int))
  (λk s hk hs=>by
   obtain⟨x,m⟩:=s
   obtain⟨rfl,hkp,hsn⟩:=hs
   have hkl:k<(p++o).length:=hk
   have hlen:(p++o).length≤2097152:=by simp;omega
   have hstep:Ip (p++o) (k:Int) m=if(!(((p++o)[k].Parent=0)||Bb (p.take k) (p++o)[k].Parent))=true then some (.inr (.ext (k:Int))) else some (.inl (((k+1:Nat):Int),Ai m (p++o)[k].Item true)):=by
    unfold Ip
    rw[ne (by rw[ni];exact_mod_cast hkl),ED hkl,AD,show(AR m (p++o)[k].Parent).getD false=_ from hsn _,Aq (by omega),AD]
   by_cases hkp2:k<p.length
   ·left
    have hget:(p++o)[k]=p[k]:=List.getElem_append_left hkp2
    have h1:=hok.at k hkp2
    rw[hget] at hstep
    rw[h1] at hstep
    refine⟨(((k+1:Nat):Int),Ai m p[k].Item true),by exact hstep,rfl,by omega,λi=>?_⟩
    show Ce (Ai m p[k].Item true) i=_
    rw[MY,show Ce m i=_ from hsn i,Mb hkp2,nv p k hkp2,Tx]
    have:Bb [p[k]] i=decide (i=p[k].Item):=by
     unfold Bb;simp only[qI,List.any_nil,rK]
     rw[pv];exact⟨λe=>e.symm,λe=>e.symm⟩
    rw[this]
    cases decide (i=p[k].Item)<;>cases decide (i=0)<;>simp
   ·right
    obtain rfl:k=p.length:=by omega
    have hget:(p++o)[p.length]∈o:=by
     rw[List.getElem_append_right (nk _)];exact oO _
    have h1:=hout _ hget
    rw[List.take_length,h1] at hstep
    exact⟨_,hstep,rfl⟩)
  (λs hs=>by
   obtain⟨x,m⟩:=s
   obtain⟨rfl,hkp,hsn⟩:=hs
   refine⟨.nrm (),?_,?_⟩
   ·show Ip (p++o) ((p++o).length:Int) m=_
    unfold Ip
    rw[nd (by simp)]
   ·rw[OD]
    have:(p++o).length=p.length:=by rw[oW] at hkp ⊢;omega
    rw[this])
  (s:=(0,Ai ([]:List (Int × Bool)) 0 true)) ⟨rfl,pM _,λi=>by rw[MY];simp[Ce,AR,Bb]⟩
 obtain⟨b,h1,h2⟩:=key
 unfold MX
 rw[h1];exact h2
theorem dW{l:List Au}(h:QU l=0):∀x∈l,E7 x=0:=by
 intro x A
 obtain⟨k,w,rfl⟩:=ov.1 A
 unfold QU at h
 cases q:(List.range l.length).findSome? (Kj l) with
 | none=>
  rw[pI] at q
  have:=q k (oL.2 w)
  unfold Kj at this
  rw[nv l k w] at this
  by_cases e:E7 l[k]=0
  ·exact e
  ·rw[ne e] at this;cases this
 | some r=>
  rw[q] at h
  simp only[oz] at h
  obtain⟨j,_,m⟩:=ow q
  unfold Kj at m
  split at m
  ·rename_i e;cases m;exact absurd h e
  ·split at m
   ·cases m;exact absurd h (by decide)
   ·cases m
theorem ln{μ}(h:∀x,x.Place.length+x.Name.length+x.Value.length+1≤μ x):∀(l:List Au),(l.map μ).sum≤1048576→Iw l∧l.length≤1048576:=by
 have key:∀l:List Au,l.length≤(l.map μ).sum∧∀x∈l,μ x≤(l.map μ).sum:=by
  intro l
  induction l with
  | nil=>exact⟨nk _,λx j=>by simp at j⟩
  | cons y l m=>
   have w:=h y
   rw[oN,pP,oY]
   refine⟨by omega,λx j=>?_⟩
   rcases oP.1 j with rfl | j
   ·omega
   ·have:=m.2 x j;omega
 intro l A
 obtain⟨B,q⟩:=key l
 refine⟨λx j=>?_,by omega⟩
 have C:=q x j
 have E:=h x
 exact⟨by omega,by omega,by omega⟩
end Go.Proofs.YtmogkkigacadpaaGreatDoor.Al

set_option linter.unusedVariables false
set_option linter.unusedSimpArgs false
namespace Go.Proofs.YtmogkkigacadpaaGreatDoor.Al
def Cc(f:List AP):List Int:=(f.filter λx=>!(x.Ref=0)).map (·.Ref)
def Ej(l:List Am):List Int:=(l.filter λx=>!(x.Ref=0)).map (·.Ref)
theorem Ok(x:AP) r:Cc (x::r)=(if x.Ref=0 then [] else [x.Ref])++Cc r:=by
 unfold Cc
 rw[pW]
 by_cases h:x.Ref=0<;>simp[h]
theorem Wk(x:Am) r:Ej (x::r)=(if x.Ref=0 then [] else [x.Ref])++Ej r:=by
 unfold Ej
 rw[pW]
 by_cases h:x.Ref=0<;>simp[h]
theorem WQ(f:List AP)(q:f.length≤1073741824):iter (λ(a:Int × (List Int))=>FD f a.1 a.2) (0,[])=some (Cc f):=by
 have h:=Fi (f:=λ(a:Int × (List Int))=>FD f a.1 a.2) f (λ(c:List Int) i=>((i:Int),c)) (λr c=>c++Cc r) (λi c=>c.length≤i)
  (λi c l m=>by
   left
   show ∃w,FD f (i:Int) c=_∧_
   unfold FD
   rw[ne (by simpa using l),Ag l,AD,Aq (by omega)]
   by_cases j:f[i]!.Ref=0
   ·refine⟨c,by rw[nh j];rfl,by omega,?_⟩
    rw[Ok,ne j,og]
   ·refine⟨c++[f[i]!.Ref],by rw[ng j,ne (by decide),J7 (by omega)];rfl,by simp;omega,?_⟩
    rw[Ok,nd j,oo])
  (λc m=>by
   show FD f (f.length:Int) c=_
   unfold FD
   rw[nd (by simp)]
   simp[Cc]) [] (by simp) ((0:Int),[]) rfl
 simpa using h
theorem Z7(f:List AP)(j:f.length≤1073741824):HU f=some (Cc f):=by
 unfold HU
 rw[WQ f j,AD]
theorem Y7(n:AX)(l:n.Flow.length≤1073741824)(hc:n.Grid.Cells.length≤1073741824):GX n=some (Cc n.Flow++Ej n.Grid.Cells):=by
 have w:(Cc n.Flow).length≤1073741824:=by
  unfold Cc;rw[oK];exact nu (pA ..) l
 unfold GX JC
 rw[Ur,WQ _ l,AD,AD]
 have h:=Fi (f:=λ(a:Int × (List Int))=>Ds n a.1 a.2) n.Grid.Cells (λ(c:List Int) i=>((i:Int),c)) (λr c=>c++Ej r) (λi c=>c.length≤1073741824+i)
  (λi c m hc=>by
   left
   show ∃A,Ds n (i:Int) c=_∧_
   unfold Ds
   rw[ne (by simpa using m),Ag m,AD,Aq (by omega)]
   by_cases j:n.Grid.Cells[i]!.Ref=0
   ·refine⟨c,by rw[nh j];rfl,by omega,?_⟩
    rw[Wk,ne j,og]
   ·refine⟨c++[n.Grid.Cells[i]!.Ref],by rw[ng j,ne (by decide),J7 (by omega)];rfl,by simp;omega,?_⟩
    rw[Wk,nd j,oo])
  (λc hc=>by
   show Ds n (n.Grid.Cells.length:Int) c=_
   unfold Ds
   rw[nd (by simp)]
   simp[Ej]) (Cc n.Flow) (by omega) ((0:Int),Cc n.Flow) rfl
 have q:iter (λ(a:Int × (List Int))=>Ds n a.1 a.2) (0,Cc n.Flow)=_:=h
 rw[q]
 rfl
theorem R0{n:Nat}{f:Int→Option (Int ⊕ Ar Unit Int)}{g:Nat→Option Int}(h:iter f 0=some (DE ((List.range n).findSome? g)))(hg:∀k,k<n→g k≠some 0){rest:Option Int}(j:(Ay (iter f 0) λ(_:Unit)=>rest)=some 0):(∀k,k<n→g k=none)∧rest=some 0:=by
 rw[h] at j
 cases l:(List.range n).findSome? g with
 | some e=>
  rw[l] at j
  have j:(some e:Option Int)=some 0:=j
  injection j with j
  obtain⟨k,q,m⟩:=ow l
  rw[j] at m
  exact absurd m (hg k (oL.1 q))
 | none=>
  rw[l] at j
  refine⟨λk q=>?_,j⟩
  rw[pI] at l
  exact l k (oL.2 q)
theorem cU{d:AN}{kind:Int}{l:List Int}(B:d.Nodes.length≤1048576)(C:Hz d.Nodes)(J:l.length≤2097152)(A:FV d kind l=some 0):∀id∈l,∃k,CJ d.Nodes id=some k:=by
 let g:Nat→Option Int:=λk=>match CJ d.Nodes l[k]! with | none=>some 7 | some j=>if JP kind d.Nodes[j]!.Kind=true then none else some 8
 have hit:iter (λ(a:Int)=>EJ d kind l a) 0=some (DE ((List.range l.length).findSome? g)):=by
  refine Bu g (λk m=>?_) (by unfold EJ;rw[nd (by simp)])
  unfold EJ
  obtain⟨i,E,w⟩:=Px d l[k]! B C
  rw[ne (by simpa using m),Ag m,AD,E,Bv]
  simp only[g]
  cases q:CJ d.Nodes l[k]! with
  | none=>rfl
  | some j=>
   obtain rfl:=w j q
   obtain⟨F,_⟩:=Fq q
   simp only[Option.isSome_some,p8,pR,qE]
   rw[Ag F,AD,VM,AD]
   cases JP kind d.Nodes[i]!.Kind with
   | false=>rfl
   | true=>rw[nd (by decide),Aq (by omega)];rfl
 unfold FV at A
 obtain⟨I,_⟩:=R0 hit (λk m e=>by
  simp only[g] at e
  split at e
  ·cases e
  ·split at e<;>cases e) A
 intro id BJ
 obtain⟨k,m,rfl⟩:=ov.1 BJ
 have:=I k m
 simp only[g] at this
 rw[nv l k m] at this
 cases q:CJ d.Nodes l[k] with
 | none=>rw[q] at this;cases this
 | some j=>exact⟨j,rfl⟩
theorem Rg(n:AX)(h:GN n):(Cc n.Flow++Ej n.Grid.Cells).length≤2097152:=by
 have j:=h.ok.fl
 have l:=h.ok.gr.1
 have m:(Cc n.Flow).length≤n.Flow.length:=by unfold Cc;rw[oK];exact pA ..
 have q:(Ej n.Grid.Cells).length≤n.Grid.Cells.length:=by unfold Ej;rw[oK];exact pA ..
 rw[oW];omega
theorem bU{d:AN}(h:IF d)(w:ET d=some 0):∀k,k<d.Nodes.length→∀id∈Cc d.Nodes[k]!.Flow++Ej d.Nodes[k]!.Grid.Cells,∃j,CJ d.Nodes id=some j:=by
 obtain⟨I,_⟩:=Nu h w
 obtain⟨J,M⟩:=h
 unfold ET at w
 split at w
 ·cases w
 let C:Nat→Option Int:=λk=>if(Cz d.Nodes[k]!).getD 0≠0 then some ((Cz d.Nodes[k]!).getD 0) else if(k=0∧d.Nodes[k]!.ID≠1)∨(0<k∧d.Nodes[k]!.ID≤d.Nodes[k-1]!.ID) then some 5 else none
 have E:iter (λ(a:Int)=>C0 d a) 0=some (DE ((List.range d.Nodes.length).findSome? C)):=by
  refine Bu C (λk q=>?_) (by unfold C0;rw[nd (by simp)])
  unfold C0
  obtain⟨e,A,_⟩:=O7 _ (M _ (B5 q))
  show _=B2 k (C k)
  simp only[C]
  rw[ne (by simpa using q),Ag q,AD,A,AD]
  show _=B2 k (if e≠0 then some e else _)
  by_cases l:e=0
  ·rw[nd (DL l),nd (by simpa using l)]
   by_cases T:k=0
   ·subst T
    rw[nh (show((0:Nat):Int)=0 from rfl),ng (show ¬ (0:Int)<((0:Nat):Int) by omega)]
    by_cases BJ:d.Nodes[0]!.ID=1
    ·rw[nh BJ,nd (show ¬ ((0=0∧d.Nodes[0]!.ID≠1)∨(0<0∧d.Nodes[0]!.ID≤d.Nodes[0-1]!.ID)) by rintro(⟨_,b⟩ | ⟨a,_⟩);exact b BJ;omega)]
     rfl
    ·rw[ng BJ,ne (show((0=0∧d.Nodes[0]!.ID≠1)∨(0<0∧d.Nodes[0]!.ID≤d.Nodes[0-1]!.ID)) from .inl ⟨rfl,BJ⟩)]
     rfl
   ·have U:0<k:=by omega
    rw[ng (show ¬ ((k:Int)=0) by omega),nh (show(0:Int)<(k:Int) by omega)]
    show(AC (gd true (AS .i64 ((k:Int)-1))) λ(O:Int)=>AC (gd true (AM d.Nodes O)) λ(V:AX)=>_)=_
    rw[Ap,Et U (by omega),AD,Ap,Ag (show k-1<d.Nodes.length by omega),AD,Aq (by omega)]
    by_cases BJ:d.Nodes[k]!.ID≤d.Nodes[k-1]!.ID
    ·rw[nh BJ,ne (show((k=0∧d.Nodes[k]!.ID≠1)∨(0<k∧d.Nodes[k]!.ID≤d.Nodes[k-1]!.ID)) from .inr ⟨U,BJ⟩)]
     rfl
    ·rw[ng BJ,nd (show ¬ ((k=0∧d.Nodes[k]!.ID≠1)∨(0<k∧d.Nodes[k]!.ID≤d.Nodes[k-1]!.ID)) by rintro(⟨a,_⟩ | ⟨_,b⟩);exact T a;exact BJ b)]
     rfl
  ·rw[ne (CI l),ne l]
   rfl
 obtain⟨_,w⟩:=R0 E (λk q e=>by
  simp only[C] at e
  split at e
  ·rename_i B;injection e with e;exact B e
  ·split at e
   ·injection e with e;omega
   ·cases e) w
 let g:Nat→Option Int:=λk=>if(FV d d.Nodes[k]!.Kind (Cc d.Nodes[k]!.Flow++Ej d.Nodes[k]!.Grid.Cells)).getD 0≠0 then some ((FV d d.Nodes[k]!.Kind (Cc d.Nodes[k]!.Flow++Ej d.Nodes[k]!.Grid.Cells)).getD 0) else none
 have hit:iter (λ(a:Int)=>D1 d a) 0=some (DE ((List.range d.Nodes.length).findSome? g)):=by
  refine Bu g (λk q=>?_) (by unfold D1;rw[nd (by simp)])
  unfold D1
  have m:=M _ (B5 q)
  have X:=m.ok.fl
  have Z:=m.ok.gr.1
  obtain⟨e,A,_⟩:=Rq d d.Nodes[k]!.Kind _ J I (Rg _ m)
  rw[ne (by simpa using q),Ag q,AD,Y7 _ (by omega) (by omega),AD,A,AD]
  simp only[g]
  rw[A]
  simp only[oz]
  by_cases l:e=0
  ·rw[nd (DL l),Aq (by omega),nd (by simpa using l)];rfl
  ·rw[ne (CI l),ne l];rfl
 obtain⟨h1,_⟩:=R0 hit (λk q e=>by
  simp only[g] at e
  split at e
  ·rename_i B;injection e with e;exact B e
  ·cases e) w
 intro k q id BJ
 have m:=M _ (B5 q)
 obtain⟨e,A,_⟩:=Rq d d.Nodes[k]!.Kind _ J I (Rg _ m)
 have F:=h1 k q
 simp only[g] at F
 rw[A] at F
 simp only[oz] at F
 split at F
 ·cases F
 ·rename_i l
  have l:e=0:=by simpa using l
  subst l
  exact cU J I (Rg _ m) A id BJ
end Go.Proofs.YtmogkkigacadpaaGreatDoor.Al

set_option linter.unusedVariables false
set_option linter.unusedSimpArgs false
namespace Go.Proofs.YtmogkkigacadpaaGreatDoor.Al
open Go.Sort
end Go.Proofs.YtmogkkigacadpaaGreatDoor.Al

set_option linter.unusedVariables false
set_option linter.unusedSimpArgs false
namespace Go.Proofs.YtmogkkigacadpaaGreatDoor.Al
open Go.Sort
end Go.Proofs.YtmogkkigacadpaaGreatDoor.Al

set_option linter.unusedVariables false
set_option linter.unusedSimpArgs false
namespace Go.Proofs.YtmogkkigacadpaaGreatDoor.Al
open Go.Sort
end Go.Proofs.YtmogkkigacadpaaGreatDoor.Al

set_option linter.unusedVariables false
set_option linter.unusedSimpArgs false
namespace Go.Proofs.YtmogkkigacadpaaGreatDoor.Al
open Go.Sort
end Go.Proofs.YtmogkkigacadpaaGreatDoor.Al

set_option linter.unusedVariables false
set_option linter.unusedSimpArgs false
namespace Go.Proofs.YtmogkkigacadpaaGreatDoor.Al
open Go.Sort
end Go.Proofs.YtmogkkigacadpaaGreatDoor.Al

set_option linter.unusedVariables false
set_option linter.unusedSimpArgs false
namespace Go.Proofs.YtmogkkigacadpaaGreatDoor.Al
open Go.Sort
end Go.Proofs.YtmogkkigacadpaaGreatDoor.Al

set_option linter.unusedVariables false
set_option linter.unusedSimpArgs false
namespace Go.Proofs.YtmogkkigacadpaaGreatDoor.Al
open Go.Sort
end Go.Proofs.YtmogkkigacadpaaGreatDoor.Al

set_option linter.unusedVariables false
set_option linter.unusedSimpArgs false
namespace Go.Proofs.YtmogkkigacadpaaGreatDoor.Al
open Go.Sort
end Go.Proofs.YtmogkkigacadpaaGreatDoor.Al

set_option linter.unusedVariables false
set_option linter.unusedSimpArgs false
namespace Go.Proofs.YtmogkkigacadpaaGreatDoor.Al
open Go.Sort
end Go.Proofs.YtmogkkigacadpaaGreatDoor.Al

set_option linter.unusedVariables false
set_option linter.unusedSimpArgs false
namespace Go.Proofs.YtmogkkigacadpaaGreatDoor.Al
open Go.Sort
end Go.Proofs.YtmogkkigacadpaaGreatDoor.Al

set_option linter.unusedVariables false
set_option linter.unusedSimpArgs false
namespace Go.Proofs.YtmogkkigacadpaaGreatDoor.Al
open Go.Sort
end Go.Proofs.YtmogkkigacadpaaGreatDoor.Al

set_option linter.unusedVariables false
set_option linter.unusedSimpArgs false
namespace Go.Proofs.YtmogkkigacadpaaGreatDoor.Al
open Go.Sort
end Go.Proofs.YtmogkkigacadpaaGreatDoor.Al

set_option linter.unusedVariables false
set_option linter.unusedSimpArgs false
namespace Go.Proofs.YtmogkkigacadpaaGreatDoor.Al
open Go.Sort
end Go.Proofs.YtmogkkigacadpaaGreatDoor.Al

namespace Go.Proofs.YtmogkkigacadpaaGreatDoor.Al
end Go.Proofs.YtmogkkigacadpaaGreatDoor.Al

set_option linter.unusedVariables false
set_option linter.unusedSimpArgs false
namespace Go.Proofs.YtmogkkigacadpaaGreatDoor.Al
open Go.Sort
end Go.Proofs.YtmogkkigacadpaaGreatDoor.Al

set_option linter.unusedVariables false
set_option linter.unusedSimpArgs false
namespace Go.Proofs.YtmogkkigacadpaaGreatDoor.Al
open Go.Sort
end Go.Proofs.YtmogkkigacadpaaGreatDoor.Al

set_option linter.unusedVariables false
set_option linter.unusedSimpArgs false
namespace Go.Proofs.YtmogkkigacadpaaGreatDoor.Al
open Go.Sort
end Go.Proofs.YtmogkkigacadpaaGreatDoor.Al

set_option linter.unusedVariables false
set_option linter.unusedSimpArgs false
namespace Go.Proofs.YtmogkkigacadpaaGreatDoor.Al
open Go.Sort
end Go.Proofs.YtmogkkigacadpaaGreatDoor.Al

set_option linter.unusedVariables false
set_option linter.unusedSimpArgs false
namespace Go.Proofs.YtmogkkigacadpaaGreatDoor.Al
open Go.Sort
end Go.Proofs.YtmogkkigacadpaaGreatDoor.Al

set_option linter.unusedVariables false
set_option linter.unusedSimpArgs false
namespace Go.Proofs.YtmogkkigacadpaaGreatDoor.Al
open Go.Sort
theorem W4{l}{i} : Bb l i=true↔∃x∈l,x.Item=i:=by
 unfold Bb
 rw[pV]
 simp
end Go.Proofs.YtmogkkigacadpaaGreatDoor.Al

set_option linter.unusedVariables false
set_option linter.unusedSimpArgs false
namespace Go.Proofs.YtmogkkigacadpaaGreatDoor.Al
open Go.Sort
end Go.Proofs.YtmogkkigacadpaaGreatDoor.Al

set_option linter.unusedVariables false
set_option linter.unusedSimpArgs false
namespace Go.Proofs.YtmogkkigacadpaaGreatDoor.Al
open Go.Sort
theorem gV{A}{d}{M}(h:Fo A d M):(∀z,z∈BF A (M+1) 0++Be A (BF A (M+1) 0)↔z∈A)∧Uq (BF A (M+1) 0++Be A (BF A (M+1) 0)):=by
 have q:∀z,z∈BF A (M+1) 0++Be A (BF A (M+1) 0)→z∈A:=λz j=>by
  rcases pJ.1 j with j | j
  ·exact(LS _ _ _ j).1
  ·exact(Ia.1 j).1
 refine⟨λz=>⟨q z,λj=>?_⟩,?_⟩
 ·rw[pJ,Ia]
  by_cases l:Bb (BF A (M+1) 0) z.Item=true
  ·obtain⟨y,m,e⟩:=W4.1 l
   left
   rw[← h.uq.eq (LS _ _ _ m).1 j e];exact m
  ·exact .inr ⟨j,by simpa using l⟩
 ·unfold Uq
  rw[qA,qN,List.pairwise_append]
  refine⟨VD h.uq h.rk _ _,(On h.uq _).imp λh=>by unfold Eo at h;simp at h;omega,λa w b B e=>?_⟩
  have:=(Ia.1 B).2
  have C:Bb (BF A (M+1) 0) b.Item=true:=W4.2 ⟨a,w,e⟩
  rw[C] at this;cases this
theorem dK{A:List AB}{d}{M}(h:Fo A d M):(BF A (M+1) 0++Be A (BF A (M+1) 0)).length≤A.length:=by
 obtain⟨l,j⟩:=gV h
 refine VZ _ _ ?_ λz m=>(l z).1 m
 unfold Uq at j
 rwa [qA,qN] at j
end Go.Proofs.YtmogkkigacadpaaGreatDoor.Al

set_option linter.unusedVariables false
set_option linter.unusedSimpArgs false
namespace Go.Proofs.YtmogkkigacadpaaGreatDoor.Al
theorem Mz{c r}(h:gd c (some false)=some r):r=false:=by
 cases c
 ·rw[Cs] at h;cases h;rfl
 ·rw[Ap] at h;cases h;rfl
theorem ZX{n:AX}(h:GN n)(M:Iw n.Draw)(j:Cz n=some 0):QU n.Draw=0:=by
 have O:=h.ok.dr
 unfold Cz at j
 split at j
 ·cases j
 split at j
 ·cases j
 obtain⟨e,_,j⟩:=BZ j
 split at j
 ·rename_i c;injection j with j;rw[j] at c;simp at c
 by_cases m:n.Kind=8∨n.Kind=9∨n.Kind=10
 ·have T:Gl n.Kind=some false:=by unfold Gl;rcases m with e | e | e<;>rw[e]<;>rfl
  have U:GG n.Kind=some false:=by unfold GG;rcases m with e | e | e<;>rw[e]<;>rfl
  have hg:FP n.Kind=some false:=by unfold FP;rcases m with e | e | e<;>rw[e]<;>rfl
  obtain⟨V,A,j⟩:=BZ j
  rw[T] at A;cases A
  obtain⟨X,B,j⟩:=BZ j
  rw[U] at B
  obtain rfl:=Mz B
  obtain⟨g,C,j⟩:=BZ j
  rw[hg] at C;cases C
  obtain⟨F,_,j⟩:=BZ j
  split at j
  ·cases j
  rw[nd (show ¬ (false||false)=true by decide),nd (by decide)] at j
  obtain⟨Z,I,j⟩:=BZ j
  injection j with j
  rw[kh _ M (by omega),j] at I
  injection I
 ·have hd:GC n.Kind=some false:=by
   unfold GC
   rw[ng (λe=>m (.inl e)),ng (λe=>m (.inr (.inl e))),ng (λe=>m (.inr (.inr e)))]
   rfl
  obtain⟨V,A,j⟩:=BZ j
  obtain⟨X,B,j⟩:=BZ j
  obtain⟨g,C,j⟩:=BZ j
  obtain⟨F,l,j⟩:=BZ j
  rw[hd] at l
  split at j
  ·cases j
  rename_i E
  have E:F=false:=by simpa using E
  subst E
  have q:decide (0<(n.Draw.length:Int))=false:=by
   split at l
   ·split at l
    ·obtain⟨r7,_,l⟩:=BZ l
     obtain⟨J,w,l⟩:=BZ l
     obtain rfl:=Mz w
     simp only[nn,pU,ph,oS] at l
     exact l.2
    ·obtain⟨J,w,l⟩:=BZ l
     obtain rfl:=Mz w
     simp only[nn,pU,ph,oS] at l
     exact l.2
   ·obtain⟨J,w,l⟩:=BZ l
    obtain rfl:=Mz w
    simp only[nn,pU,ph,oS] at l
    exact l.2
  have:n.Draw=[]:=by
   rw[ol] at q
   exact pr.1 (by omega)
  rw[this];rfl
theorem jM{n:AX}(h:GN n)(j:Cz n=some 0):n.Grid.Cells=[]∨HE n.Grid=0:=by
 unfold Cz at j
 split at j
 ·cases j
 split at j
 ·cases j
 obtain⟨e,_,j⟩:=BZ j
 split at j
 ·rename_i c;injection j with j;rw[j] at c;simp at c
 by_cases m:n.Kind=2∨n.Kind=6
 ·right
  have F:Gl n.Kind=some false:=by unfold Gl;rcases m with e | e<;>rw[e]<;>rfl
  have I:GG n.Kind=some false:=by unfold GG;rcases m with e | e<;>rw[e]<;>rfl
  have hg:FP n.Kind=some true:=by unfold FP;rcases m with e | e<;>rw[e]<;>rfl
  obtain⟨J,w,j⟩:=BZ j
  rw[F] at w;cases w
  obtain⟨M,A,j⟩:=BZ j
  rw[I] at A
  obtain rfl:=Mz A
  obtain⟨g,q,j⟩:=BZ j
  rw[hg] at q;cases q
  obtain⟨C,_,j⟩:=BZ j
  split at j
  ·cases j
  rw[nd (show ¬ (false||false)=true by decide),ne rfl] at j
  obtain⟨O,E,j⟩:=BZ j
  split at j
  ·rename_i c;injection j with j;rw[j] at c;simp at c
  ·rename_i c
   have T:O=0:=by simpa using c
   rw[UY _ h.gd,T] at E
   injection E
 ·left
  have hg:FP n.Kind=some false:=by
   unfold FP
   rw[ng (λe=>m (.inl e)),ng (λe=>m (.inr e))]
   rfl
  obtain⟨J,w,j⟩:=BZ j
  obtain⟨M,A,j⟩:=BZ j
  obtain⟨g,q,j⟩:=BZ j
  rw[hg] at q;cases q
  obtain⟨C,l,j⟩:=BZ j
  split at j
  ·cases j
  rename_i B
  have B:C=false:=by simpa using B
  subst B
  split at l
  ·rw[ne (by decide),Oy _ _ h.ok.gr] at l
   obtain⟨r7,U,l⟩:=BZ l
   obtain⟨V,X,l⟩:=BZ l
   cases U
   simp only[nn,pU,ph,oS,Bool.not_eq_false',ni] at l
   rw[l.1.2]
  ·rename_i Z
   obtain⟨V,X,l⟩:=BZ l
   simp only[nn,pU,rK] at l
   exfalso
   apply Z
   rw[l.1]
   rfl
theorem lj{g:A5}(h:HE g=0):∀c∈g.Cells,c.Row≤9223372036854775807∧c.Col≤9223372036854775807:=by
 obtain⟨A,_,_⟩:=V2 h
 unfold HE at h
 rw[nd (by simpa using A)] at h
 have E:IY g.Rows g.Cols false g.Cells=0:=by
  apply oF
  intro B
  rw[ne B] at h
  exact B h
 intro c F
 obtain⟨k,C,rfl⟩:=ov.1 F
 have m:=RO E (λk _ j=>by
  unfold Hl at j
  split at j
  ·rename_i q
   injection j with j
   exact q j
  ·split at j
   ·cases j
   ·cases j) k C
 unfold Hl at m
 split at m
 ·cases m
 ·rename_i l
  have l:Kv g.Rows g.Cols false g.Cells[k]! = 0:=by simpa using l
  rw[nv g.Cells k C] at l
  unfold Kv at l
  split at l
  ·cases l
  ·rename_i w
   have w:=oJ.1 w
   unfold Gy at w
   unfold EZ at A
   omega
theorem RD{n:AX}(h:GN n)(q:Cz n=some 0):∀c∈n.Grid.Cells,∃r,Fs n.Grid c.Row c.Col=some r∧ML n.Grid c.Row c.Col=some r:=by
 intro c l
 rcases jM h q with j | j
 ·rw[j] at l;cases l
 ·obtain⟨w,_,g3⟩:=V2 j
  have m:c.Row≤9223372036854775807∧c.Col≤9223372036854775807:=lj j c l
  obtain⟨o,A,o2⟩:=Z9 n.Grid c.Row c.Col w g3 h.ok.gr.2.1 m.1 m.2
  unfold Fs ML
  rw[A,o2]
  cases o with
  | none=>exact⟨_,rfl,rfl⟩
  | some r=>exact⟨_,rfl,rfl⟩
end Go.Proofs.YtmogkkigacadpaaGreatDoor.Al

set_option linter.unusedVariables false
set_option linter.unusedSimpArgs false
namespace Go.Proofs.YtmogkkigacadpaaGreatDoor.Al
open Go
def HX:List UInt8:=[110,111,100,101]
def I5(d:AN)(s:List UInt8):Option Int:=match CJ d.Nodes (D7 s) with | some k=>if d.Nodes[k]!.Kind=1 then some (D7 s) else none | none=>none
def D9(d:AN)(x:AB):Option Int:=I5 d (E8 x.Attrs HX)
def Nr(d:AN):Prop:=∀k,k<d.Nodes.length→1≤d.Nodes[k]!.ID∧d.Nodes[k]!.ID≤1073741824
theorem Oe{d:AN}(h:Nr d){id}{k}(j:CJ d.Nodes id=some k):1≤id∧id≤1073741824:=by
 obtain⟨l,m⟩:=Fq j
 rw[← m];exact h k l
theorem aJ{l}(h:B4 l false=0) n:(E8 l n).length≤1073741824:=by
 rw[lM]
 cases m:A6 l n with
 | none=>simp
 | some x=>
  have:=((L8 l false).1 h).2 x (QT m).2
  rcases this.2 with j | j
  ·unfold Da at j
   simp only[np,ni] at j
   show x.Value.length≤_
   omega
  ·exact absurd j.1 (by decide)
theorem ZT{d:AN}(BJ:Nr d)(hm:d.Nodes.length≤1048576)(hs:Hz d.Nodes){l:List AB}{k:Nat}(hk:k<l.length)(hl:l.length≤1048576)(ha:B4 l[k]!.Attrs false=0∧l[k]!.Attrs.length≤1048576)(out:List Int)(ho:out.length≤1048576) :
  Hp d l (k:Int) out=some (.inl (((k+1:Nat):Int),out++(D9 d l[k]!).toList)):=by
 unfold Hp
 rw[ne (by simpa using hk),Ag hk,AD,Aq (by omega),lU _ _ (by omega),AD]
 unfold D9
 rw[show([110,111,100,101]:List UInt8)=HX from rfl]
 have hlen:=aJ ha.1 HX
 generalize E8 l[k]!.Attrs HX=s at *
 have hd:∀n,D7 s=n→∀j,CJ d.Nodes n=some j→Lib.atoiAll s=.ok n∧Lib.itoa n=s:=λn hn j hj=>by
  obtain⟨h1,h2⟩:=Oe BJ hj
  exact(UF s n h1 h2).2 hn
 have hnone:(∀j,CJ d.Nodes (D7 s)=some j→False)→I5 d s=none:=λh=>by
  unfold I5
  cases hf:CJ d.Nodes (D7 s) with
  | none=>rfl
  | some j=>exact(h j hf).elim
 unfold P4 atoiS
 rw[ne (by omega)]
 rcases hA:Lib.atoiAll s with v | _ | _
 ·have hb:=Lib.atoiAll_bounds hA
  simp only[Bv]
  unfold strconv_Itoa itoaS
  rw[ne hb]
  simp only[p8,show((false==false)=true) from rfl,Ap,AD,ox]
  by_cases hi:Lib.itoa v=s
  ·rw[nh hi,nd (by decide)]
   obtain⟨i,f1,f2⟩:=Px d v hm hs
   rw[f1,Bv]
   cases hf:CJ d.Nodes v with
   | none=>
    have e:=hnone λj hj=>by
     have h1:=(hd _ rfl j hj).1
     rw[hA] at h1
     injection h1 with h1
     rw[← h1,hf] at hj;cases hj
    rw[e]
    simp[Cs,AD]
   | some j=>
    obtain rfl:=f2 j hf
    obtain⟨hj,_⟩:=Fq hf
    obtain⟨r1,r2⟩:=Oe BJ hf
    have hn:=(UF s v r1 r2).1 ⟨hA,hi⟩
    unfold I5
    rw[hn,hf]
    simp only[Option.isSome_some,oq,Ap,oS]
    rw[Ag hj,AD]
    by_cases hk1:d.Nodes[i]!.Kind=1
    ·rw[ne (by simpa using hk1),ne hk1,J7 (by omega)]
     rfl
    ·rw[nd (by simpa using hk1),nd hk1]
     simp[AD]
  ·rw[ng hi,ne (by decide)]
   have e:=hnone λj hj=>by
    obtain⟨h1,h2⟩:=hd _ rfl j hj
    rw[hA] at h1
    injection h1 with h1
    rw[← h1] at h2
    exact hi h2
   rw[e]
   simp[AD]
 ·have e:=hnone λj hj=>by have:=(hd _ rfl j hj).1;rw[hA] at this;cases this
  rw[e]
  simp[Bv,AD,Cs]
 ·have e:=hnone λj hj=>by have:=(hd _ rfl j hj).1;rw[hA] at this;cases this
  rw[e]
  simp[Bv,AD,Cs]
theorem Yu{d:AN}(BJ:Nr d)(m:d.Nodes.length≤1048576)(q:Hz d.Nodes)(l:List AB)(w:l.length≤1048576)(A:∀x∈l,B4 x.Attrs false=0∧x.Attrs.length≤1048576) :
  iter (λ(a:Int × (List Int))=>Hp d l a.1 a.2) (0,[])=some (l.filterMap (D9 d)):=by
 have h:=Fi (f:=λ(a:Int × (List Int))=>Hp d l a.1 a.2) l (λ(c:List Int) i=>((i:Int),c)) (λr c=>c++r.filterMap (D9 d)) (λi c=>c.length≤i)
  (λi c j B=>by
   left
   refine⟨c++(D9 d l[i]!).toList,ZT BJ m q j w (A _ (B5 j)) c (by omega),?_,?_⟩
   ·rw[oW]
    have:(D9 d l[i]!).toList.length≤1:=by cases D9 d l[i]!<;>simp
    omega
   ·rw[rD]
    cases D9 d l[i]!<;>simp)
  (λc B=>by
   show Hp d l (l.length:Int) c=_
   unfold Hp
   rw[nd (by simp)]
   simp) [] (by simp) ((0:Int),[]) rfl
 simpa using h
theorem RL{d:AN}(BJ:Nr d)(V:d.Nodes.length≤1048576)(Z:Hz d.Nodes){n:AX}(h:GN n)(hD:Iw n.Draw)(h0:Cz n=some 0) :
  ∃L X:List AB,FA d n=some (L.filterMap (D9 d))∧Jy n.Draw=some (L++X,(L.length:Int))∧(L++X).length≤1048576∧∀x∈L,B4 x.Attrs false=0∧x.Attrs.length≤1048576:=by
 have A:=h.ok.dr
 have ho:=dW (ZX h hD h0)
 obtain⟨m,l,E,F,I⟩:=Zd A ho
 obtain⟨e,M,B⟩:=E.fo A
 have C:=eR A E F B
 have J:=cX B
 have hit:=Xs I B
 have a0:=nu (KS B (M+1) 0) B.len
 have q:∀x∈BF (m.map (wa l)) (M+1) 0,B4 x.Attrs false=0∧x.Attrs.length≤1048576:=λx hx=>by
  obtain⟨y,hy,rfl⟩:=oh.1 (LS _ _ _ hx).1
  have h1:(wa l y).Attrs=(AR (Co l) y.Item).getD []:=rfl
  rw[h1]
  cases T:Aj (Co l) y.Item with
  | none=>rw[(Ed T).1];exact⟨Q7,by simp⟩
  | some j=>
   obtain⟨v,v1,v2,_⟩:=DH T
   rw[v2,oz]
   unfold Co at v1
   rw[nq,nt] at v1
   obtain⟨z,z1,U⟩:=v1
   simp only[ns] at U
   rw[← U.2]
   have:=E.ok z (oG z1)
   exact⟨this.1,by omega⟩
 have w:(BF (m.map (wa l)) (M+1) 0++Be (m.map (wa l)) (BF (m.map (wa l)) (M+1) 0)).length≤1048576:=by
  refine nu (dK B) ?_
  exact B.len
 generalize BF (m.map (wa l)) (M+1) 0=L at *
 generalize Be (m.map (wa l)) L=X at *
 refine⟨L,X,?_,hit,w,q⟩
 unfold FA
 rw[C,AD,J,AD]
 have O:Do (L++X) 0 (L.length:Int)=some L:=by
  unfold Do
  rw[ne ⟨by omega,by omega,by simp;omega⟩]
  simp
 rw[O,AD,Yu BJ V Z L (by simp at w;omega) q,AD]
end Go.Proofs.YtmogkkigacadpaaGreatDoor.Al

set_option linter.unusedVariables false
set_option linter.unusedSimpArgs false
namespace Go.Proofs.YtmogkkigacadpaaGreatDoor.Al
open Go
def B9(d:AN)(id:Int):AX:=match CJ d.Nodes id with | some k=>d.Nodes[k]! | none=>default
noncomputable def G2(v:Ab)(g:A5)(c:Am):Ab:=
 match Fs g c.Row c.Col with
 | some r=>⟨c.Ref,v.id,((v.visible&&(r.Row=c.Row))&&(r.Col=c.Col))⟩
 | none=>default
noncomputable def LY(v:Ab)(n:AX):List Ab:=(Cc n.Flow).map λid=>⟨id,v.id,v.visible⟩
noncomputable def JL(v:Ab)(n:AX):List Ab:=(n.Grid.Cells.filter λc=>!(c.Ref=0)).map (G2 v n.Grid)
noncomputable def Gs(d:AN)(n:AX):List Int:=(FA d n).getD []
noncomputable def MV(d:AN)(v:Ab)(n:AX):List Ab:=(Gs d n).map λid=>⟨id,v.id,v.visible⟩
noncomputable def kids(d:AN)(v:Ab)(n:AX):List Ab:=LY v n++(JL v n++MV d v n)
def Bd(l:List Ab)(i:Int):Bool:=l.any λv=>decide (v.id=i)
noncomputable def CZ(d:AN):Nat→List Ab→Ab→List Ab
 | 0,j,_=>j
 | n+1,j,v=>if Bd j v.id=true then j else(kids d v (B9 d v.id)).foldl (λa w=>CZ d n a w) (j++[v])
def DP(d:AN)(i:Int):Prop:=∃k,CJ d.Nodes i=some k
structure Dd(d:AN):Prop where
 ok:IF d
 dr:∀n∈d.Nodes,Iw n.Draw
 ch:ET d=some 0
theorem fY{n:AX}(j:Cz n=some 0):1≤n.ID∧n.ID≤1073741824:=by
 unfold Cz at j
 split at j
 ·cases j
 ·rename_i c
  simp only[nr,ni] at c
  omega
theorem Dd.ids{d}(h:Dd d):Nr d:=λk j=>fY ((Nu h.ok h.ch).2 k j)
theorem Dd.srt{d:AN}(h:Dd d):Hz d.Nodes:=(Nu h.ok h.ch).1
theorem ka{d:AN}{i}{k}(h:CJ d.Nodes i=some k):B9 d i=d.Nodes[k]!:=by unfold B9;rw[h]
theorem Dd.node{d:AN}(h:Dd d){i}(w:DP d i):GN (B9 d i)∧Iw (B9 d i).Draw∧Cz (B9 d i)=some 0∧(∀j∈Cc (B9 d i).Flow++Ej (B9 d i).Grid.Cells,DP d j) ∧
  FB d i=some ((((CJ d.Nodes i).getD 0:Nat):Int),true)∧AM d.Nodes (((CJ d.Nodes i).getD 0:Nat):Int)=some (B9 d i):=by
 obtain⟨k,l⟩:=w
 obtain⟨m,C⟩:=Fq l
 rw[ka l]
 have q:=B5 m
 obtain⟨j,A,B⟩:=Px d i h.ok.1 h.srt
 obtain rfl:=B k l
 refine⟨h.ok.2 _ q,h.dr _ q,(Nu h.ok h.ch).2 _ m,bU h.ok h.ch _ m,?_,?_⟩
 ·rw[A,l];rfl
 ·rw[l];exact Ag m
theorem RW{d:AN}(h:Dd d){v:Ab}(J:DP d v.id):∀w∈kids d v (B9 d v.id),DP d w.id:=by
 obtain⟨C,M,E,F,_,_⟩:=h.node J
 intro w l
 unfold kids at l
 rcases pJ.1 l with l | l
 ·unfold LY at l
  obtain⟨j,q,rfl⟩:=oh.1 l
  exact F j (pm _ q)
 ·rcases pJ.1 l with l | l
  ·unfold JL at l
   obtain⟨c,I,rfl⟩:=oh.1 l
   have A:=(po.1 I).1
   obtain⟨r,O,_⟩:=RD C E c A
   unfold G2
   rw[O]
   refine F c.Ref (p6 _ ?_)
   unfold Ej
   exact oh.2 ⟨c,I,rfl⟩
  ·unfold MV Gs at l
   obtain⟨L,X,T,_⟩:=RL h.ids h.ok.1 h.srt C M E
   rw[T] at l
   obtain⟨j,q,rfl⟩:=oh.1 l
   obtain⟨x,_,m⟩:=List.mem_filterMap.1 q
   unfold D9 I5 at m
   cases B:CJ d.Nodes (D7 (E8 x.Attrs HX)) with
   | none=>rw[B] at m;cases m
   | some k=>
    rw[B] at m
    simp only at m
    split at m
    ·cases m;exact⟨k,B⟩
    ·cases m
def Dk(d:AN)(j:List Ab):Nat:=d.Nodes.countP λn=>!Bd j n.ID
theorem PG a b i:Bd (a++b) i=(Bd a i||Bd b i):=by unfold Bd;rw[List.any_append]
theorem UT d a b:Dk d (a++b)≤Dk d a:=
 qz λn _ h=>by
  rw[PG] at h
  cases j:Bd a n.ID
  ·rfl
  ·rw[j] at h;simp at h
theorem TT{d:AN}{a}{v:Ab}(B:DP d v.id)(C:Bd a v.id=false):Dk d (a++[v])<Dk d a:=by
 obtain⟨k,E⟩:=B
 obtain⟨w,j⟩:=Fq E
 have key:∀(l:List AX) (z:AX) (p q:AX→Bool),(∀x∈l,p x=true→q x=true)→z∈l→q z=true→p z=false→l.countP p<l.countP q:=by
  intro l
  induction l with
  | nil=>intro z p q _ m;cases m
  | cons a r F=>
   intro z p q h m w j
   have M:r.countP p≤r.countP q:=qz λx A=>h x (ny _ A)
   rw[qu,qu]
   rcases oP.1 m with rfl | m
   ·rw[w,j];simp;omega
   ·have:=F z p q (λx A=>h x (ny _ A)) m w j
    have I:=h a (oE ..)
    cases hp:p a
    ·simp;split<;>omega
    ·rw[I hp];simp;omega
 refine key d.Nodes d.Nodes[k]! _ _ (λx _ h=>?_) (B5 w) ?_ ?_
 ·rw[PG] at h
  cases J:Bd a x.ID
  ·rfl
  ·rw[J] at h;simp at h
 ·simp only[j,C];rfl
 ·simp only[j,PG]
  simp[Bd]
section
variable{σ:Type}(Y:σ→Ab→Option (Bool × σ))
def CX:List Ab→σ→Option (Bool × σ)
 | [],s=>some (true,s)
 | v::r,s=>match Y s v with
  | none=>none
  | some (false,j)=>some (false,j)
  | some (true,j)=>CX r j
theorem YV a b(s:σ):CX Y (a++b) s=match CX Y a s with
  | none=>none
  | some (false,j)=>some (false,j)
  | some (true,j)=>CX Y b j:=by
 induction a generalizing s with
 | nil=>rfl
 | cons v r m=>
  rw[pD]
  cases l:Y s v with
  | none=>simp only[CX,l]
  | some p=>
   obtain⟨c,j⟩:=p
   cases c
   ·simp only[CX,l]
   ·simp only[CX,l]
    exact m j
abbrev JG(σ:Type):=List (Int × Bool)→σ→Ab→Option (Bool × List (Int × Bool) × σ)
def D3(self:JG σ):List Ab→List (Int × Bool)→σ→Option (Bool × List (Int × Bool) × σ)
 | [],m,s=>some (true,m,s)
 | v::r,m,s=>match self m s v with
  | none=>none
  | some (false,j,l)=>some (false,j,l)
  | some (true,j,l)=>D3 self r j l
theorem Uo self a b m(s:σ):D3 self (a++b) m s=match D3 self a m s with
  | none=>none
  | some (false,j,l)=>some (false,j,l)
  | some (true,j,l)=>D3 self b j l:=by
 induction a generalizing m s with
 | nil=>rfl
 | cons v r w=>
  rw[pD]
  cases q:self m s v with
  | none=>simp only[D3,q]
  | some p=>
   obtain⟨c,j,l⟩:=p
   cases c
   ·simp only[D3,q]
   ·simp only[D3,q]
    exact w j l
noncomputable def EE(v1:Ab)(self:JG σ)(w:List Int)(l:Int)(A:List (Int × Bool))(j:σ):Option ((Int × (List (Int × Bool)) × σ) ⊕ (Ar ((List (Int × Bool)) × σ) (Bool × (List (Int × Bool)) × σ))):=
 if(decide (l<(w.length:Int))) then(
  AC (AM w l) λ(m:Int)=>
  CU (self A j (Ab.mk m v1.id v1.visible)) λ(E:Bool) (B:List (Int × Bool)) (C:σ)=>
  if(!E) then(
   some (.inr (.ext (false,B,C)))
  ) else(
   AC (AS .i64 (l+1)) λ(q:Int)=>
   some (.inl (q,B,C))
  )
 ) else(
  some (.inr (.nrm (A,j)))
 )
noncomputable def Dv(v1:Ab)(self:JG σ)(w:AX)(A:Int)(B:List (Int × Bool))(m:σ):Option ((Int × (List (Int × Bool)) × σ) ⊕ (Ar ((List (Int × Bool)) × σ) (Bool × (List (Int × Bool)) × σ))):=
 if(decide (A<(w.Grid.Cells.length:Int))) then(
  AC (AM w.Grid.Cells A) λ(j:Am)=>
  AC (Fs w.Grid j.Row j.Col) λ(F:Ak)=>
  CU (
   if((!(j.Ref=0))==true) then(
    CU (self B m (Ab.mk j.Ref v1.id ((v1.visible&&(F.Row=j.Row))&&(F.Col=j.Col)))) λ(I:Bool) (J:List (Int × Bool)) (M:σ)=>
    some (((!(j.Ref=0))&&(!I)),J,M)
   ) else(
    some (((!(j.Ref=0))&&false),B,m)
   )
  ) λ(C:Bool) (q:List (Int × Bool)) (l:σ)=>
  if C then(
   some (.inr (.ext (false,q,l)))
  ) else(
   AC (AS .i64 (A+1)) λ(E:Int)=>
   some (.inl (E,q,l))
  )
 ) else(
  some (.inr (.nrm (B,m)))
 )
noncomputable def gB(d:AN)(self:JG σ)(m:List (Int × Bool))(j:σ)(v1:Ab):Option (Bool × (List (Int × Bool)) × σ):=
 if((AR m v1.id).getD false) then(
  some (true,m,j)
 ) else(
  CE (Y j v1) λ(E:Bool) (C:σ)=>
  if(!E) then(
   some (false,(Ai m v1.id true),C)
  ) else(
   CE (FB d v1.id) λ(F:Int) (T:Bool)=>
   AC (AM d.Nodes F) λ(q:AX)=>
   AC (HU q.Flow) λ(I:List Int)=>
   D2 (iter (λ(a:Int × (List (Int × Bool)) × σ)=>EE v1 self I a.1 a.2.1 a.2.2) (0,(Ai m v1.id true),C)) λ(J:List (Int × Bool)) (w:σ)=>
   D2 (iter (λ(a:Int × (List (Int × Bool)) × σ)=>Dv v1 self q a.1 a.2.1 a.2.2) (0,J,w)) λ(M:List (Int × Bool)) (A:σ)=>
   AC (FA d q) λ(O:List Int)=>
   D2 (iter (λ(a:Int × (List (Int × Bool)) × σ)=>EE v1 self O a.1 a.2.1 a.2.2) (0,M,A)) λ(B:List (Int × Bool)) (l:σ)=>
   some (true,B,l)
  )
 )
noncomputable def gN(d:AN):Nat→JG σ
 | 0=>λ_ _ _=>none
 | n+1=>λm s v=>gB Y d (gN d n) m s v
def Np(r:Bool × List (Int × Bool) × σ):Ar ((List (Int × Bool)) × σ) (Bool × (List (Int × Bool)) × σ):=if r.1=true then .nrm (r.2.1,r.2.2) else .ext (false,r.2.1,r.2.2)
theorem Vq(v:Ab) self(l:List Int)(E:l.length≤4194304):∀(j k:Nat) (m:List (Int × Bool)) (s:σ) (r:Bool × List (Int × Bool) × σ),k+j=l.length→D3 self ((l.drop k).map λid=>⟨id,v.id,v.visible⟩) m s=some r →
  iter (λ(a:Int × (List (Int × Bool)) × σ)=>EE v self l a.1 a.2.1 a.2.2) ((k:Int),m,s)=some (Np r):=by
 intro j
 induction j with
 | zero=>
  intro k m s r B h
  rw[pN (by omega)] at h
  cases h
  refine BM ?_
  show EE v self l (k:Int) m s=_
  unfold EE
  rw[nd (by simp;omega)]
  rfl
 | succ j C=>
  intro k m s r B h
  have q:k<l.length:=by omega
  rw[oT q,oN] at h
  unfold D3 at h
  cases w:self m s ⟨l[k],v.id,v.visible⟩ with
  | none=>rw[w] at h;cases h
  | some p=>
   obtain⟨c,A,s'⟩:=p
   rw[w] at h
   cases c with
   | false=>
    cases h
    refine BM ?_
    show EE v self l (k:Int) m s=_
    unfold EE
    rw[ne (by simpa using q),ED q,AD,w,FX]
    rfl
   | true=>
    rw[Br (s':=(((k+1:Nat):Int),A,s')) (by
     show EE v self l (k:Int) m s=_
     unfold EE
     rw[ne (by simpa using q),ED q,AD,w,FX,nd (by decide),Aq (by omega),AD])]
    exact C (k+1) A s' r (by omega) h
theorem kl(v:Ab) self(n:AX)(O:n.Grid.Cells.length≤4194304)(hc:∀c∈n.Grid.Cells,∃r,Fs n.Grid c.Row c.Col=some r):∀(j k:Nat) (m:List (Int × Bool)) (s:σ) (r:Bool × List (Int × Bool) × σ),k+j=n.Grid.Cells.length →
  D3 self (((n.Grid.Cells.drop k).filter λc=>!(c.Ref=0)).map (G2 v n.Grid)) m s=some r →
  iter (λ(a:Int × (List (Int × Bool)) × σ)=>Dv v self n a.1 a.2.1 a.2.2) ((k:Int),m,s)=some (Np r):=by
 intro j
 induction j with
 | zero=>
  intro k m s r J h
  rw[pN (by omega)] at h
  cases h
  refine BM ?_
  show Dv v self n (k:Int) m s=_
  unfold Dv
  rw[nd (by simp;omega)]
  rfl
 | succ j E=>
  intro k m s r J h
  have l:k<n.Grid.Cells.length:=by omega
  obtain⟨q,B⟩:=hc _ (oO l)
  rw[oT l,pW] at h
  by_cases A:n.Grid.Cells[k].Ref=0
  ·rw[nd (by simp[A])] at h
   rw[Br (s':=(((k+1:Nat):Int),m,s)) (by
    show Dv v self n (k:Int) m s=_
    unfold Dv
    rw[ne (by simpa using l),ED l,AD,B,AD,nh A,nd (by decide),FX,nd (by decide),Aq (by omega),AD])]
   exact E (k+1) m s r (by omega) h
  ·rw[ne (by simp[A]),oN] at h
   have M:G2 v n.Grid n.Grid.Cells[k]=⟨n.Grid.Cells[k].Ref,v.id,((v.visible&&(q.Row=n.Grid.Cells[k].Row))&&(q.Col=n.Grid.Cells[k].Col))⟩:=by unfold G2;rw[B]
   rw[M] at h
   unfold D3 at h
   generalize F:(⟨n.Grid.Cells[k].Ref,v.id,((v.visible&&(q.Row=n.Grid.Cells[k].Row))&&(q.Col=n.Grid.Cells[k].Col))⟩:Ab)=w at h
   cases C:self m s w with
   | none=>rw[C] at h;cases h
   | some p=>
    obtain⟨c,I,s'⟩:=p
    rw[C] at h
    cases c with
    | false=>
     cases h
     refine BM ?_
     show Dv v self n (k:Int) m s=_
     unfold Dv
     rw[ne (by simpa using l),ED l,AD,B,AD,ng A,ne (by decide),F,C,FX,FX]
     rfl
    | true=>
     rw[Br (s':=(((k+1:Nat):Int),I,s')) (by
      show Dv v self n (k:Int) m s=_
      unfold Dv
      rw[ne (by simpa using l),ED l,AD,B,AD,ng A,ne (by decide),F,C,FX,FX,nd (by decide),Aq (by omega),AD])]
     exact E (k+1) I s' r (by omega) h
end
end Go.Proofs.YtmogkkigacadpaaGreatDoor.Al

set_option linter.unusedVariables false
set_option linter.unusedSimpArgs false
namespace Go.Proofs.YtmogkkigacadpaaGreatDoor.Al
open Go
section
variable{σ:Type}(Y:σ→Ab→Option (Bool × σ)){d:AN}
def U9(d:AN)(n:Nat):Prop:=∀(j:List Ab) (v:Ab) (m:List (Int × Bool)) (s:σ),DP d v.id→Dk d j<n→(∀i,Ce m i=Bd j i) →
 ∃new,CZ d n j v=j++new∧(∀w∈new,DP d w.id)∧∀b l,CX Y new s=some (b,l)→∃q,gN Y d n m s v=some (b,q,l)∧(b=true→∀i,Ce q i=Bd (j++new) i)
theorem fu{n}(IH:U9 Y d n):∀(ks j:List Ab) (m:List (Int × Bool)) (s:σ),(∀w∈ks,DP d w.id)→Dk d j<n→(∀i,Ce m i=Bd j i) →
  ∃new,ks.foldl (λa w=>CZ d n a w) j=j++new∧(∀w∈new,DP d w.id)∧∀b s',CX Y new s=some (b,s')→∃A,D3 (gN Y d n) ks m s=some (b,A,s')∧(b=true→∀i,Ce A i=Bd (j++new) i):=by
 intro ks
 induction ks with
 | nil=>
  intro j m s _ _ I
  refine⟨[],by simp,by simp,λb s' B=>?_⟩
  simp only[CX,nn,ns] at B
  obtain⟨rfl,rfl⟩:=B
  exact⟨m,rfl,λ_ i=>by rw[pa];exact I i⟩
 | cons v r ih=>
  intro j m s U V I
  obtain⟨q,e1,i1,w1⟩:=IH j v m s (U v (oE ..)) V I
  have J:Dk d (j++q)<n:=Nat.lt_of_le_of_lt (UT d j q) V
  have E:∀m2 (F:σ),(∀i,Ce m2 i=Bd (j++q) i)→∃new,r.foldl (λa w=>CZ d n a w) (j++q)=(j++q)++new∧(∀w∈new,DP d w.id)∧∀b s',CX Y new F=some (b,s')→∃A,D3 (gN Y d n) r m2 F=some (b,A,s')∧(b=true→∀i,Ce A i=Bd ((j++q)++new) i):=
   λm2 F h2=>ih (j++q) m2 F (λw M=>U w (ny _ M)) J h2
  have O:∃m2:List (Int × Bool),∀i,Ce m2 i=Bd (j++q) i:=by
   refine⟨(j++q).map λv=>(v.id,true),λi=>?_⟩
   generalize j++q=l
   induction l with
   | nil=>rfl
   | cons a r T=>
    show(if i=a.id then some true else AR _ i).getD false=_
    unfold Bd
    rw[qI]
    by_cases h:i=a.id
    ·rw[ne h,nh h.symm];rfl
    ·rw[nd h,ng (qx h),ox];exact T
  obtain⟨m0,h0⟩:=O
  obtain⟨X,Z,i2,_⟩:=E m0 s h0
  refine⟨q++X,by rw[pK,e1,Z,oo],λw M=>(pJ.1 M).elim (i1 w) (i2 w),λb s' B=>?_⟩
  rw[YV] at B
  cases C:CX Y q s with
  | none=>rw[C] at B;cases B
  | some p=>
   obtain⟨c,s1⟩:=p
   rw[C] at B
   obtain⟨m1,g1,g2⟩:=w1 c s1 C
   cases c with
   | false=>
    cases B
    refine⟨m1,?_,λe=>by cases e⟩
    unfold D3
    rw[g1]
   | true=>
    obtain⟨n3,e3,_,w3⟩:=E m1 s1 (g2 rfl)
    have:n3=X:=by
     rw[Z] at e3
     exact(List.append_cancel_left e3).symm
    subst this
    obtain⟨m2,k1,k2⟩:=w3 b s' B
    refine⟨m2,?_,λe i=>by rw[k2 e i,oo]⟩
    show(match gN Y d n m s v with | none=>none | some (false,A,s')=>some (false,A,s') | some (true,A,s')=>D3 (gN Y d n) r A s')=_
    rw[g1]
    exact k1
theorem km(h:Dd d):∀n,U9 Y d n:=by
 intro n
 induction n with
 | zero=>intro l v m s _ hu;omega
 | succ n IH=>
  intro l v m s hv hu hm
  by_cases F:Bd l v.id=true
  ·refine⟨[],by unfold CZ;rw[ne F,pa],by simp,λb I A=>?_⟩
   simp only[CX,nn,ns] at A
   obtain⟨rfl,rfl⟩:=A
   refine⟨m,?_,λ_ i=>by rw[pa];exact hm i⟩
   show gB Y d (gN Y d n) m s v=_
   unfold gB
   have:(AR m v.id).getD false=true:=(hm v.id).trans F
   rw[ne this]
  ·rw[oV] at F
   have ac:=TT hv F
   have C:∀i,Ce (Ai m v.id true) i=Bd (l++[v]) i:=λi=>by
    rw[MY,hm i,PG]
    have:Bd [v] i=decide (i=v.id):=by
     unfold Bd;simp only[qI,List.any_nil,rK]
     rw[pv];exact⟨λe=>e.symm,λe=>e.symm⟩
    rw[this]
    cases Bd l i<;>cases decide (i=v.id)<;>rfl
   obtain⟨q,a0,J,ad,a1,a2⟩:=h.node hv
   have M:=RW h hv
   have B:=λE=>fu Y IH (kids d v (B9 d v.id)) (l++[v]) (Ai m v.id true) E M (by omega) C
   obtain⟨new,e1,i1,_⟩:=B s
   refine⟨v::new,by unfold CZ;rw[nd (by rw[F];decide),e1,oo];rfl,λw hw=>?_,λb I A=>?_⟩
   ·rcases oP.1 hw with rfl | hw
    ·exact hv
    ·exact i1 w hw
   ·show ∃O,gB Y d (gN Y d n) m s v=_∧_
    have h0:¬ ((AR m v.id).getD false)=true:=by
     have:(AR m v.id).getD false=false:=(hm v.id).trans F
     rw[this];decide
    unfold gB
    rw[nd h0]
    cases hY:Y s v with
    | none=>simp only[CX,hY] at A;cases A
    | some p=>
     obtain⟨c,s1⟩:=p
     rw[Bv]
     cases c with
     | false=>
      simp only[CX,hY,nn,ns] at A
      obtain⟨rfl,rfl⟩:=A
      exact⟨_,by rw[ne (by decide)],λe=>by cases e⟩
     | true=>
      simp only[CX,hY] at A
      rw[nd (by decide),a1,Bv,a2,AD,Z7 _ (by have:=q.ok.fl;omega),AD]
      obtain⟨T,e2,_,w2⟩:=B s1
      have:T=new:=by
       rw[e1] at e2
       exact(List.append_cancel_left e2).symm
      subst this
      obtain⟨O,j,g2⟩:=w2 b I A
      refine⟨O,?_,λe i=>by rw[g2 e i,oo];rfl⟩
      have ae:=q.ok.fl
      have af:=q.ok.gr.1
      have U:∀c∈(B9 d v.id).Grid.Cells,∃r,Fs (B9 d v.id).Grid c.Row c.Col=some r:=λc hc=>by
       obtain⟨r,r1,_⟩:=RD q J c hc;exact⟨r,r1⟩
      have a6:(Cc (B9 d v.id).Flow).length≤4194304:=by
       unfold Cc;rw[oK];exact nu (pA ..) (by omega)
      obtain⟨L,X,t1,_,t3,_⟩:=RL h.ids h.ok.1 h.srt q a0 J
      have V:Gs d (B9 d v.id)=L.filterMap (D9 d):=by unfold Gs;rw[t1];rfl
      have Z:(Gs d (B9 d v.id)).length≤4194304:=by
       rw[V]
       refine nu (List.length_filterMap_le ..) ?_
       simp at t3;omega
      have a7:FA d (B9 d v.id)=some (Gs d (B9 d v.id)):=by rw[V];exact t1
      unfold kids at j
      rw[Uo] at j
      cases q1:D3 (gN Y d n) (LY v (B9 d v.id)) (Ai m v.id true) s1 with
      | none=>rw[q1] at j;cases j
      | some p1=>
       have l1:=Vq v (gN Y d n) (Cc (B9 d v.id).Flow) a6 _ 0 (Ai m v.id true) s1 p1 (by rw[oQ]) q1
       have a8:iter (λ(a:Int × (List (Int × Bool)) × σ)=>EE v (gN Y d n) (Cc (B9 d v.id).Flow) a.1 a.2.1 a.2.2) (0,(Ai m v.id true),s1)=some (Np p1):=l1
       rw[a8]
       obtain⟨c1,m1,E⟩:=p1
       rw[q1] at j
       cases c1 with
       | false=>cases j;rfl
       | true=>
        show D2 (iter (λ(a:Int × (List (Int × Bool)) × σ)=>Dv v (gN Y d n) (B9 d v.id) a.1 a.2.1 a.2.2) (0,m1,E)) _=_
        have j:D3 (gN Y d n) (JL v (B9 d v.id)++MV d v (B9 d v.id)) m1 E=some (b,O,I):=j
        rw[Uo] at j
        cases q2:D3 (gN Y d n) (JL v (B9 d v.id)) m1 E with
        | none=>rw[q2] at j;cases j
        | some p2=>
         have l2:=kl v (gN Y d n) (B9 d v.id) (by omega) U _ 0 m1 E p2 (by rw[oQ]) q2
         have aa:iter (λ(a:Int × (List (Int × Bool)) × σ)=>Dv v (gN Y d n) (B9 d v.id) a.1 a.2.1 a.2.2) (0,m1,E)=some (Np p2):=l2
         rw[aa]
         obtain⟨c2,m2,s3⟩:=p2
         rw[q2] at j
         cases c2 with
         | false=>cases j;rfl
         | true=>
          show AC (FA d (B9 d v.id)) _=_
          rw[a7,AD]
          have j:D3 (gN Y d n) (MV d v (B9 d v.id)) m2 s3=some (b,O,I):=j
          have l3:=Vq v (gN Y d n) (Gs d (B9 d v.id)) Z _ 0 m2 s3 _ (by rw[oQ]) j
          have ab:iter (λ(a:Int × (List (Int × Bool)) × σ)=>EE v (gN Y d n) (Gs d (B9 d v.id)) a.1 a.2.1 a.2.2) (0,m2,s3)=some (Np (b,O,I)):=l3
          rw[ab]
          cases b<;>rfl
end
end Go.Proofs.YtmogkkigacadpaaGreatDoor.Al
