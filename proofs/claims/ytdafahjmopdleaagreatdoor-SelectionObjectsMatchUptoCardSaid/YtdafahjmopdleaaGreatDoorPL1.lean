/- Plain laws over the models, a part of them. -/
import Derived.Test.YtdafahjmopdleaaGreatDoorMod1
import Derived.Lib.DecodeNEq
import Derived.Lib.TrimUEq
import Derived.Lib.ValidLaws
set_option linter.all false
namespace Go.Proofs.YtdafahjmopdleaaGreatDoor.Al
@[simp] theorem AD{a α:Type}(x:a)(f:a→Option α):AB (some x) f=f x:=rfl
@[simp] theorem CL{a b α:Type}(x:a)(y:b)(f:a→b→Option α):CT (some (x,y)) f=f x y:=rfl
@[simp] theorem GQ{a b c α:Type}(x:a)(y:b)(z:c)(f:a→b→c→Option α):FG (some (x,y,z)) f=f x y z:=rfl
@[simp] theorem vo{a b c d α:Type}(x:a)(y:b)(z:c)(u:d)(f:a→b→c→d→Option α):jW (some (x,y,z,u)) f=f x y z u:=rfl
@[simp] theorem IC{a α:Type}(x:a)(f:a→Option α):Aq (some (.nrm x)) f=f x:=rfl
@[simp] theorem mv{a α:Type}(t:α)(f:a→Option α):Aq (some (.ext t)) f=some t:=rfl
@[simp] theorem F1{a b α:Type}(x:a)(y:b)(f:a→b→Option α):FO (some (.nrm (x,y))) f=f x y:=rfl
@[simp] theorem vt{a b α:Type}(t:α)(f:a→b→Option α):FO (some (.ext t)) f=some t:=rfl
@[simp] theorem vl{a b c α:Type}(x:a)(y:b)(z:c)(f:a→b→c→Option α):bS (some (.nrm (x,y,z))) f=f x y z:=rfl
@[simp] theorem vn{a b c α:Type}(t:α)(f:a→b→c→Option α):bS (some (.ext t)) f=some t:=rfl
@[simp] theorem An{α:Type}[Inhabited α](m:Option α):gd true m=m:=rfl
@[simp] theorem EM{α:Type}[Inhabited α](m:Option α):gd false m=some default:=rfl
theorem AZ{α:Type}[Inhabited α]{l:List α}{k}(h:k<l.length):AL l (k:Int)=some l[k]!:=by
 unfold AL
 rw[vw (yi k),xK,wB h,wF l k h]
theorem Ae{k:Nat}(h:k<9223372036854775807):AN .i64 ((k:Int)+1)=some (((k+1:Nat)):Int):=by
 rw[By (by omega) (by omega)];rfl
theorem E8{k:Nat}(h:0<k)(j:k≤9223372036854775807):AN .i64 ((k:Int)-1)=some ((k-1:Nat):Int):=by
 rw[By (by omega) (by omega)];congr 1;omega
def Ca{ρ:Type}(k:Nat):Option ρ→Option (Int ⊕ As Unit ρ)
 | none=>some (.inl ((k+1:Nat):Int))
 | some r=>some (.inr (.ext r))
def Fw{ρ:Type} : Option ρ→As Unit ρ
 | none=>.nrm ()
 | some r=>.ext r
theorem CP{ρ:Type}{f}{n}(g:Nat→Option ρ)(j:∀k:Nat, k<n→f k=Ca k (g k))
 (l:f n=some (.inr (.nrm ()))):iter f 0=some (Fw ((List.range n).findSome? g)) := by
  have key:∀m k:Nat, k+m=n→iter f (k:Int)=some (Fw ((List.range' k m).findSome? g)) := by
    intro m
    induction m with
    | zero =>
      intro k q
      obtain rfl:k=n := by omega
      rw[Ch l];rfl
    | succ m u =>
      intro k q
      rw[ze, xZ]
      have := j k (by omega)
      cases hg:g k with
      | none => rw[hg] at this;rw[DP this, u (k+1) (by omega)]
      | some r => rw[hg] at this;rw[Ch this];rfl
  rw[yp]
  exact key n 0 (by omega)
theorem gi{α ρ:Type}{l:List α}{g h:α→Option ρ}(e:∀x∈l,g x=h x):l.findSome? g=l.findSome? h:=by
 induction l with
 | nil=>rfl
 | cons a l j=>rw[xZ,xZ,e a (v8 ..),j λx q=>e x (wC _ q)]
theorem XG{α ρ:Type}[Inhabited α](l:List α)(p:α→Bool)(r:ρ):(List.range l.length).findSome? (λk=>if p l[k]! then none else some r)=if l.all p then none else some r:=by
 induction l with
 | nil=>rfl
 | cons a l j=>
  rw[wK,List.range_succ_eq_map,xZ,List.findSome?_map]
  have q:(List.range l.length).findSome? ((λk=>if p (a::l)[k]! = true then none else some r) ∘ Nat.succ)=if l.all p=true then none else some r:=by
   rw[← j];exact gi λk _=>by simp
  rw[q]
  by_cases hp:p a=true
  ·simp[hp]
  ·simp[hp]
theorem Et{ρ:Type}(o:Option ρ)(f:Unit→Option ρ):Aq (some (Fw o)) f=match o with | none=>f () | some r=>some r:=by cases o<;>rfl
def Gr(c:UInt8):Bool:=((97≤c.toNat)&&(c.toNat≤122))||((48≤c.toNat)&&(c.toNat≤57))||(c.toNat=46)||(c.toNat=45)
def Ef(s:List UInt8):Bool:=(1≤s.length)&&(s.length≤24)&&((97≤s[0]!.toNat)&&(s[0]!.toNat≤122))&&s.all Gr
def HH(c:UInt8):Bool:=(32≤c.toNat)&&(c.toNat≤126)
def Dt(s:List UInt8):Bool:=(1≤s.length)&&(s.length≤200)&&s.all HH
theorem s4(s:List UInt8) k(j:k<s.length)(l:s.length≤9223372036854775807):M9 s k=Ca k (if Gr s[k]! then none else some false):=by
 unfold M9
 rw[vw (by simpa using j),AZ j,AD,Ae (by omega)]
 generalize s[k]! = c
 have e:((((((c.toNat:Int)<97)||(122<(c.toNat:Int)))&&(((c.toNat:Int)<48)||(57<(c.toNat:Int))))&&(!((c.toNat:Int)=46)))&&(!((c.toNat:Int)=45)))=!Gr c:=by
  unfold Gr
  rw[wo]
  simp only[wD,v7,vx,wy,xc,Bool.or_eq_false_iff,yN]
  omega
 rw[e]
 cases Gr c<;>rfl
theorem cM(s:List UInt8)(B:s.length≤9223372036854775807):OB s=some (Ef s):=by
 unfold OB
 rw[CP (n:=s.length) (λk=>if Gr s[k]! then none else some false) (λk C=>s4 s k C B) (by unfold M9;rw[ne (by simp)]),XG]
 unfold Ef
 cases s with
 | nil=>simp
 | cons c t=>
  have E:AL (c::t) 0=some c:=rfl
  rw[E]
  simp only[List.getElem!_cons_zero,vy (zf c t),xj]
  generalize (c::t).all Gr=F
  generalize I:(c::t).length=L
  have M:1≤L:=by rw[← I];simp
  by_cases u:24<(L:Int)
  ·have j:decide (L≤24)=false:=by simp;omega
   simp[u,j]
  ·rw[vy u]
   simp only[xj,xp,An,AD]
   have j:decide (L≤24)=true:=by simp;omega
   have J:decide (1≤L)=true:=by simp;omega
   rw[j,J]
   by_cases w:(c.toNat:Int)<97
   ·have l:decide (97≤c.toNat)=false:=by simp;omega
    simp[w,l]
   ·rw[vy w]
    have l:decide (97≤c.toNat)=true:=by simp;omega
    simp only[xp,An,AD,xj]
    by_cases A:122<(c.toNat:Int)
    ·have q:decide (c.toNat≤122)=false:=by simp;omega
     simp[A,q]
    ·have q:decide (c.toNat≤122)=true:=by simp;omega
     rw[ne (by simpa using A),Et,l,q]
     cases F<;>rfl
def Hg(k:Nat)(c:UInt8):Bool:=((97≤c.toNat)&&(c.toNat≤122))||((k≠0)&&Gr c)
theorem uL(s:List UInt8) k(j:k<s.length)(l:s.length≤9223372036854775807) :
  Mp s k=Ca k (if Hg k s[k]! then none else some false):=by
 unfold Mp
 rw[vw (by simpa using j),AZ j,AD,Ae (by omega)]
 generalize s[k]! = c
 have e:((!((97≤(c.toNat:Int))&&((c.toNat:Int)≤122)))&&(((k:Int)=0)||(((!((c.toNat:Int)=46))&&(!((c.toNat:Int)=45)))&&(((c.toNat:Int)<48)||(57<(c.toNat:Int))))))=!Hg k c:=by
  unfold Hg Gr
  rw[wo]
  simp only[wD,v7,vx,wy,xc,Bool.or_eq_false_iff,yN]
  omega
 rw[e]
 cases Hg k c<;>rfl
theorem bC{ρ:Type}(n:Nat)(g:Nat→Option ρ):(List.range n).findSome? g=none↔∀k,k<n→g k=none:=by
 rw[wz];simp
theorem mS{α:Type}[Inhabited α](l:List α)(p:α→Bool):l.all p=true↔∀k,k<l.length→p l[k]! = true:=by
 rw[wR]
 constructor
 ·intro h k j;rw[wF l k j];exact h _ (xw j)
 ·intro h x q
  obtain⟨k,j,rfl⟩:=xD.1 q
  rw[← wF l k j];exact h k j
theorem JH{ρ:Type} n p(r:ρ):(List.range n).findSome? (λk=>if p k then none else some r)=if(List.range n).all p then none else some r:=by
 generalize List.range n=l
 induction l with
 | nil=>rfl
 | cons a l j=>rw[xZ,zE,];by_cases h:p a=true<;>simp[h,j]
theorem fc(s:List UInt8)(u:s.length≤9223372036854775807):OA s=some (Ef s):=by
 unfold OA
 rw[CP (n:=s.length) (λk=>if Hg k s[k]! then none else some false) (λk j=>uL s k j u) (by unfold Mp;rw[ne (by simp)]),JH,Et]
 have key:((List.range s.length).all λk=>Hg k s[k]!)=((s=[])||(((97≤s[0]!.toNat)&&(s[0]!.toNat≤122))&&s.all Gr)):=by
  rw[wo,wR]
  simp only[wi,wD,vx,v7,mS]
  constructor
  ·intro h
   cases q:s with
   | nil=>exact .inl rfl
   | cons c t=>
    rw[← q]
    have w:0<s.length:=by rw[q];simp
    have A:=h 0 w
    simp only[Hg,wD,v7,vx] at A
    refine .inr ⟨by omega,λk j=>?_⟩
    have:=h k j
    simp only[Hg,Gr,wD,v7,vx] at this ⊢
    omega
  ·rintro(rfl | ⟨J,B⟩) k j
   ·cases j
   ·have:=B k j
    by_cases l:k=0
    ·subst l;simp only[Hg,wD,v7,vx];omega
    ·simp only[Hg,wD,v7,vx];exact .inr ⟨l,this⟩
 rw[key]
 unfold Ef
 cases s with
 | nil=>rfl
 | cons c t=>
  rw[vy (zf c t),xj]
  generalize (c::t).all Gr=C
  generalize ((97≤(c::t)[0]!.toNat)&&((c::t)[0]!.toNat≤122))=E
  have F:decide (1≤((c::t).length:Int))=decide (1≤(c::t).length):=by simp;omega
  have I:decide (((c::t).length:Int)≤24)=decide ((c::t).length≤24):=by simp;omega
  rw[F,I]
  cases E<;>cases C<;>simp
theorem WZ(s:List UInt8)(B:s.length≤9223372036854775807):Jj s=some (Dt s):=by
 unfold Jj Dt
 rw[CP (n:=s.length) (λk=>if HH s[k]! then none else some false) (λk l=>by
  unfold QS
  rw[vw (by simpa using l),AZ l,AD,Ae (by omega)]
  generalize s[k]! = c
  have e:(((c.toNat:Int)<32)||(126<(c.toNat:Int)))=!HH c:=by
   unfold HH
   rw[wo]
   simp only[wD,v7,vx,wy,xc,yN]
   omega
  rw[e]
  cases HH c<;>rfl) (by unfold QS;rw[ne (by simp)]),XG,Et]
 generalize s.all HH=u
 cases s with
 | nil=>simp
 | cons c t=>
  rw[vy (zf c t),xj]
  generalize w:(c::t).length=L
  have C:1≤L:=by rw[← w];simp
  by_cases q:200<(L:Int)
  ·have j:decide (L≤200)=false:=by simp;omega
   simp[q,j]
  ·have j:decide (L≤200)=true:=by simp;omega
   have A:decide (1≤L)=true:=by simp;omega
   rw[ne (by simpa using q),j,A]
   cases u<;>rfl
theorem SA(s:List UInt8)(w:s.length≤9223372036854775807):LC s=some (Dt s):=by
 unfold LC Dt
 rw[CP (n:=s.length) (λk=>if HH s[k]! then none else some false) (λk j=>by
  unfold Qi
  rw[vw (by simpa using j),AZ j,AD,Ae (by omega)]
  generalize s[k]! = c
  have e:(((c.toNat:Int)<32)||(126<(c.toNat:Int)))=!HH c:=by
   unfold HH
   rw[wo]
   simp only[wD,v7,vx,wy,xc,yN]
   omega
  rw[e]
  cases HH c<;>rfl) (by unfold Qi;rw[ne (by simp)]),XG,Et]
 generalize s.all HH=l
 have q:decide (1≤(s.length:Int))=decide (1≤s.length):=by simp;omega
 have u:decide ((s.length:Int)≤200)=decide (s.length≤200):=by simp;omega
 rw[q,u]
 cases l<;>simp
theorem XE a b x y:A4 (a::x) (b::y)=((a<b)||(a==b&&A4 x y)):=rfl
theorem MB:∀(a b:List UInt8),(A4 a b||(a=b))=!A4 b a
 | [],[]=>rfl
 | [],_::_=>rfl
 | _::_,[]=>rfl
 | a::x,b::y=>by
  rw[XE,XE]
  have l:=MB x y
  by_cases h:a=b
  ·subst h
   have q:¬ a<a:=λh=>by simp[yn] at h
   simp only[vy q,xp,xM,xj,zS,true_and]
   exact l
  ·have u:(a==b)=false:=by simpa using h
   have w:(b==a)=false:=by simpa using λe:b=a=>h e.symm
   have A:¬ (a::x=b::y):=λe=>h (List.cons.inj e).1
   rw[u,w,vy A]
   simp only[yQ,Bool.or_false]
   have B:a.toNat≠b.toNat:=λe=>h (UInt8.toNat_inj.1 e)
   by_cases j:a<b
   ·have:¬ b<a:=by rw[yn] at j ⊢;omega
    simp[j,this]
   ·have:b<a:=by rw[yn] at j ⊢;omega
    simp[j,this]
theorem X2 a:A4 a a=false:=by
 have:=MB a a
 cases h:A4 a a
 ·rfl
 ·rw[h] at this;simp at this
def HZ(l:List AC):Prop:=∀a∈l,a.Name.length≤9223372036854775807∧a.Value.length≤9223372036854775807
def Ez(l:List AC)(ch:Bool)(k:Nat):Option Int:=
 if Ef l[k]!.Name=false then some 9 else if Dt l[k]!.Value=false∧¬ (ch=true∧l[k]!.Value=[]) then some 23 else if 0<k∧A4 l[k-1]!.Name l[k]!.Name=false then some 5 else none
def Ao(l:List AC)(ch:Bool):Int:=((List.range l.length).findSome? (Ez l ch)).getD 0
theorem HZ.at{l:List AC}(h:HZ l){k}(j:k<l.length):l[k]!.Name.length≤9223372036854775807∧l[k]!.Value.length≤9223372036854775807:=by
 rw[wF l k j];exact h _ (xw j)
theorem nk(l:List AC) ch(h:HZ l)(C:l.length≤9223372036854775807) k(w:k<l.length):Mu l ch k=Ca k (Ez l ch k):=by
 unfold Mu Ez
 obtain⟨j,q⟩:=h.at w
 rw[vw (by simpa using w),AZ w,AD]
 generalize l[k]! = x at j q ⊢
 rw[cM _ j,AD]
 cases Ef x.Name
 ·rfl
 rw[ne (by decide),ne (by decide),WZ _ q,AD,Ae (by omega)]
 by_cases u:Dt x.Value=false∧¬ (ch=true∧x.Value=[])
 ·rw[vw u,vw (by simp[u.1];cases ch<;>simp_all)];rfl
 rw[ne u,ne (by intro e;simp at e;exact u ⟨e.1,by rintro⟨a,b⟩;simp[a,b] at e⟩)]
 by_cases A:k=0
 ·subst A;rfl
 ·have B:decide ((0:Int)<(k:Int))=true:=by simp;omega
  rw[B,E8 (by omega) (by omega)]
  simp only[xp,An,AD,xM]
  rw[AZ (by omega),AD,MB]
  have:(0<k∧A4 l[k-1]!.Name x.Name=false)↔A4 l[k-1]!.Name x.Name=false:=by constructor;exact λh=>h.2;exact λh=>⟨by omega,h⟩
  simp only[this]
  cases A4 l[k-1]!.Name x.Name<;>rfl
theorem uv(l:List AC) ch(h:HZ l)(C:l.length≤9223372036854775807) k(w:k<l.length):MK l ch k=Ca k (Ez l ch k):=by
 unfold MK Ez
 obtain⟨j,q⟩:=h.at w
 rw[vw (by simpa using w),AZ w,AD]
 generalize l[k]! = x at j q ⊢
 rw[fc _ j,AD]
 cases Ef x.Name
 ·rfl
 rw[ne (by decide),ne (by decide),SA _ q,AD,Ae (by omega)]
 by_cases u:Dt x.Value=false∧¬ (ch=true∧x.Value=[])
 ·rw[vw u,vw (by simp[u.1];cases ch<;>simp_all)];rfl
 rw[ne u,ne (by intro e;simp at e;exact u ⟨e.1,by rintro⟨a,b⟩;simp[a,b] at e⟩)]
 by_cases A:k=0
 ·subst A;rfl
 ·have B:decide ((0:Int)<(k:Int))=true:=by simp;omega
  rw[B,E8 (by omega) (by omega)]
  simp only[xp,An,AD,xM]
  rw[AZ (by omega),AD]
  have:(0<k∧A4 l[k-1]!.Name x.Name=false)↔A4 l[k-1]!.Name x.Name=false:=by constructor;exact λh=>h.2;exact λh=>⟨by omega,h⟩
  simp only[this]
  cases A4 l[k-1]!.Name x.Name<;>rfl
theorem FX{o:Option Int} : (Aq (some (Fw o)) λ_:Unit=>some 0)=some (o.getD 0):=by cases o<;>rfl
theorem ef(l:List AC) ch(h:HZ l)(j:l.length≤9223372036854775807):NL l ch=some (Ao l ch):=by
 unfold NL
 rw[CP (n:=l.length) (Ez l ch) (λk q=>nk l ch h j k q) (by unfold Mu;rw[ne (by simp)]),FX];rfl
theorem QX(l:List AC) ch(h:HZ l)(j:l.length≤9223372036854775807):Hh l ch=some (Ao l ch):=by
 unfold Hh
 rw[CP (n:=l.length) (Ez l ch) (λk q=>uv l ch h j k q) (by unfold MK;rw[ne (by simp)]),FX];rfl
theorem Le(l:List AC)(h:HZ l)(j:l.length≤9223372036854775807):HM l=some (Ao l false):=by unfold HM;rw[ef l _ h j];rfl
theorem gR(l:List AC)(h:HZ l)(j:l.length≤9223372036854775807):Lh l=some (Ao l true):=by unfold Lh;rw[ef l _ h j];rfl
def Dc(l:List AC)(name:List UInt8):List UInt8:=((List.range l.length).findSome? λk=>if l[k]!.Name=name then some l[k]!.Value else none).getD []
theorem Z9{o:Option (List UInt8)} : (Aq (some (Fw o)) λ_:Unit=>some [])=some (o.getD []):=by cases o<;>rfl
theorem PI(l:List AC) name(q:l.length≤9223372036854775807):G9 l name=some (Dc l name):=by
 unfold G9
 rw[CP (n:=l.length) (λk=>if l[k]!.Name=name then some l[k]!.Value else none) (λk j=>by
  unfold Q2
  rw[vw (by simpa using j),AZ j,AD,Ae (by omega)]
  generalize l[k]! = x
  by_cases h:x.Name=name<;>simp[h,Ca]) (by unfold Q2;rw[ne (by simp)]),Z9];rfl
theorem Ul(l:List AC) name(q:l.length≤9223372036854775807):I3 l name=some (Dc l name):=by
 unfold I3
 rw[CP (n:=l.length) (λk=>if l[k]!.Name=name then some l[k]!.Value else none) (λk j=>by
  unfold Rh
  rw[vw (by simpa using j),AZ j,AD,Ae (by omega)]
  generalize l[k]! = x
  by_cases h:x.Name=name<;>simp[h,Ca]) (by unfold Rh;rw[ne (by simp)]),Z9];rfl
def DC:AC:=⟨[],[]⟩
def Bs(j:AC→AC→List AC→List AC):List AC→List AC→List AC→List AC
 | [],[],c=>c
 | x::a,[],c=>Bs j a [] (j x DC c)
 | [],y::b,c=>Bs j [] b (j DC y c)
 | x::a,y::b,c=>if A4 x.Name y.Name then Bs j a (y::b) (j x DC c) else if A4 y.Name x.Name then Bs j (x::a) b (j DC y c) else Bs j a b (j x y c)
  termination_by a b=>a.length+b.length
def Jr(l:AC→AC→List AC→List AC)(a b:List AC)(i j:Nat)(o:List AC):Option ((Int × Int × List AC) ⊕ As Unit (List AC)):=
 if i<a.length∨j<b.length then
  if j=b.length∨(i<a.length∧A4 a[i]!.Name b[j]!.Name=true) then some (.inl (((i+1:Nat):Int),(j:Int),l a[i]! DC o))
  else if i=a.length∨A4 b[j]!.Name a[i]!.Name=true then some (.inl ((i:Int),((j+1:Nat):Int),l DC b[j]! o))
  else some (.inl (((i+1:Nat):Int),((j+1:Nat):Int),l a[i]! b[j]! o))
 else some (.inr (.ext o))
theorem RN{l:List AC}{i}(h:i<l.length):l.drop i=l[i]!::l.drop (i+1):=by
 rw[xq h,wF l i h]
theorem Vi{f} A(a b c:List AC) B(l:∀x y o, (A x y o).length≤o.length+1)
 (U:∀(i j:Nat) (o:List AC), i≤a.length→j≤b.length→o.length+(a.length - i)+(b.length - j)≤B→f (i, j, o)=Jr A a b i j o) (hB:c.length+a.length+b.length≤B):iter f (0, 0, c)=some (.ext (Bs A a b c)) := by
  have key:∀(m i j:Nat) (o:List AC), i≤a.length→j≤b.length→(a.length - i)+(b.length - j)=m→o.length+m≤B→iter f ((i:Int), (j:Int), o)=some (.ext (Bs A (a.drop i) (b.drop j) o)) := by
    intro m
    induction m using Nat.strongRecOn with
    | _ m E =>
      intro i j o M O V X
      have q := U i j o M O (by omega)
      unfold Jr at q
      by_cases u:i<a.length
      · rw[RN u]
        by_cases w:j<b.length
        · rw[RN w]
          rw[vw (.inl u)] at q
          by_cases F:A4 a[i]!.Name b[j]!.Name=true
          · rw[vw (.inr ⟨u, F⟩)] at q
            rw[DP q, Bs, vw F, ← RN w]
            exact E (m - 1) (by omega) (i+1) j _ (by omega) O (by omega) (by have := l a[i]! DC o;omega)
          · rw[ne (by rintro(h | h);omega;exact F h.2)] at q
            by_cases J:A4 b[j]!.Name a[i]!.Name=true
            · rw[vw (.inr J)] at q
              rw[DP q, Bs, ne F, vw J, ← RN u]
              exact E (m - 1) (by omega) i (j+1) _ M (by omega) (by omega) (by have := l DC b[j]! o;omega)
            · rw[ne (by rintro(h | h);omega;exact J h)] at q
              rw[DP q, Bs, ne F, ne J]
              exact E (m - 2) (by omega) (i+1) (j+1) _ (by omega) (by omega) (by omega) (by have := l a[i]! b[j]! o;omega)
        · have C:j=b.length := by omega
          rw[vw (.inl u), vw (.inl C)] at q
          have hd:b.drop j=[] := by rw[C];simp
          rw[DP q, hd, Bs, ← hd]
          exact E (m - 1) (by omega) (i+1) j _ (by omega) O (by omega) (by have := l a[i]! DC o;omega)
      · have I:i=a.length := by omega
        have hd:a.drop i=[] := by rw[I];simp
        by_cases w:j<b.length
        · rw[vw (.inr w), ne (by rintro(h | h);omega;omega), vw (.inl I)] at q
          rw[RN w, DP q, hd, Bs, ← hd]
          exact E (m - 1) (by omega) i (j+1) _ M (by omega) (by omega) (by have := l DC b[j]! o;omega)
        · have C:j=b.length := by omega
          rw[ne (by omega)] at q
          have T:b.drop j=[] := by rw[C];simp
          rw[Ch q, hd, T, Bs]
  exact key _ 0 0 c (yR _) (yR _) rfl (by omega)
theorem IO{o:List AC}{x}(h:o.length+1≤4398046511104):app 32 o [x]=some (o++[x]):=by
 unfold app;rw[vw (by simp;omega)]
def FV(x y:AC)(o:List AC):List AC:=if y.Name=[] then o++[x] else if y.Value=[] then o else o++[y]
def Fi(x y:AC)(o:List AC):List AC:=o++[if y.Name=[] then x else y]
def Fh(x y:AC)(o:List AC):List AC:=if y.Name=[] then o++[x] else o
theorem U3(x y o):(FV x y o).length≤o.length+1:=by unfold FV;split;simp;split<;>simp
theorem fZ(x y o):(Fi x y o).length≤o.length+1:=by unfold Fi;simp
theorem hP(x y o):(Fh x y o).length≤o.length+1:=by unfold Fh;split<;>simp
theorem OW(c:List AC)(x y:AC)(h:c.length+1≤4398046511104):Kc c x y=some (FV x y c):=by
 unfold Kc FV
 rw[IO h,IO h]
 by_cases j:y.Name=[]<;>by_cases l:y.Value=[]<;>simp[j,l]
theorem Z4(x y:AC):x=y↔x.Name=y.Name∧x.Value=y.Value:=by cases x;cases y;simp
theorem Ox(c:List AC)(x y:AC)(h:c.length+1≤4398046511104):LB c x y=some (Fi x y c):=by
 unfold LB Fi
 by_cases j:y.Name=[]<;>simp[j,IO h]
theorem PF(c:List AC)(x y:AC)(h:c.length+1≤4398046511104):Ke c x y=some (Fh x y c):=by
 unfold Ke Fh
 rw[IO h]
 by_cases j:y.Name=[]<;>simp[j]
theorem sg(a b:List AC) i j(o:List AC)(M:a.length+b.length≤4398046511104)(U:i≤a.length)(V:j≤b.length)(X:o.length+(a.length-i)+(b.length-j)≤4398046511104):Qo a b i j o=Jr FV a b i j o:=by
 unfold Qo Jr
 by_cases l:i<a.length
 ·rw[vw (by simp;omega),vw (.inl l),AZ l]
  have A:decide ((i:Int)<(a.length:Int))=true:=by simp;omega
  have B:decide ((i:Int)=(a.length:Int))=false:=by simp;omega
  rw[A,B]
  by_cases q:j<b.length
  ·have w:decide ((j:Int)=(b.length:Int))=false:=by simp;omega
   rw[w,AZ q]
   simp only[xp,xM,zX,An,AD,xj]
   rw[OW _ _ _ (by omega),OW _ _ _ (by omega),OW _ _ _ (by omega)]
   simp only[AD]
   rw[Ae (by omega),Ae (by omega)]
   simp only[AD]
   have u:¬ j=b.length:=by omega
   have C:¬ i=a.length:=by omega
   simp only[u,C,l,true_and,false_or];rfl
  ·have E:j=b.length:=by omega
   have w:decide ((j:Int)=(b.length:Int))=true:=by simp;omega
   rw[w]
   have F:((true==false)&&(true==true))=false:=rfl
   rw[F]
   simp only[EM,AD,yd]
   rw[vw trivial,vw (.inl E),OW _ _ _ (by omega),AD,Ae (by omega),AD];rfl
 ·have I:i=a.length:=by omega
  have A:decide ((i:Int)<(a.length:Int))=false:=by simp;omega
  have B:decide ((i:Int)=(a.length:Int))=true:=by simp;omega
  rw[A,B]
  by_cases q:j<b.length
  ·have w:decide ((j:Int)=(b.length:Int))=false:=by simp;omega
   have J:decide ((j:Int)<(b.length:Int))=true:=by simp;omega
   have u:¬ j=b.length:=by omega
   rw[w,J,vw (by rfl),vw (.inr q),AZ q]
   have F:((false==false)&&(false==true))=false:=rfl
   have O:((true==false))=false:=rfl
   rw[F,O]
   simp only[EM,AD,xj,yQ,yd,xm,xo,yZ]
   have T:¬ (j=b.length∨i<a.length∧A4 a[i]!.Name b[j]!.Name=true):=by
    intro h;rcases h with h | h
    ·exact u h
    ·exact l h.1
   rw[ne T,vw (.inl I),OW _ _ _ (by omega),AD,Ae (by omega),AD];rfl
  ·have J:decide ((j:Int)<(b.length:Int))=false:=by simp;omega
   rw[J,ne (by decide),ne (by omega)]
theorem tA(c a b:List AC)(h:c.length+a.length+b.length≤4398046511104):Pb c a b=some (Bs FV a b c):=by
 unfold Pb
 rw[Vi FV a b c 4398046511104 U3 (λi j o l q u=>sg a b i j o (by omega) l q u) h];rfl
theorem U6(a b:List AC)(h:a.length+b.length≤4398046511104):L4 a b=some (Bs FV a b []):=by
 unfold L4;rw[tA [] a b (by simpa using h)];rfl
theorem pn(a b:List AC) i j(o:List AC)(M:a.length+b.length≤4398046511104)(U:i≤a.length)(V:j≤b.length)(X:o.length+(a.length-i)+(b.length-j)≤4398046511104):Qn a b i j o=Jr Fi a b i j o:=by
 unfold Qn Jr
 by_cases l:i<a.length
 ·rw[vw (by simp;omega),vw (.inl l),AZ l]
  have A:decide ((i:Int)<(a.length:Int))=true:=by simp;omega
  have B:decide ((i:Int)=(a.length:Int))=false:=by simp;omega
  rw[A,B]
  by_cases q:j<b.length
  ·have w:decide ((j:Int)=(b.length:Int))=false:=by simp;omega
   rw[w,AZ q]
   simp only[xp,xM,zX,An,AD,xj]
   rw[Ox _ _ _ (by omega),Ox _ _ _ (by omega),Ox _ _ _ (by omega)]
   simp only[AD]
   rw[Ae (by omega),Ae (by omega)]
   simp only[AD]
   have u:¬ j=b.length:=by omega
   have C:¬ i=a.length:=by omega
   simp only[u,C,l,true_and,false_or];rfl
  ·have E:j=b.length:=by omega
   have w:decide ((j:Int)=(b.length:Int))=true:=by simp;omega
   rw[w]
   have F:((true==false)&&(true==true))=false:=rfl
   rw[F]
   simp only[EM,AD,yd]
   rw[vw trivial,vw (.inl E),Ox _ _ _ (by omega),AD,Ae (by omega),AD];rfl
 ·have I:i=a.length:=by omega
  have A:decide ((i:Int)<(a.length:Int))=false:=by simp;omega
  have B:decide ((i:Int)=(a.length:Int))=true:=by simp;omega
  rw[A,B]
  by_cases q:j<b.length
  ·have w:decide ((j:Int)=(b.length:Int))=false:=by simp;omega
   have J:decide ((j:Int)<(b.length:Int))=true:=by simp;omega
   have u:¬ j=b.length:=by omega
   rw[w,J,vw (by rfl),vw (.inr q),AZ q]
   have F:((false==false)&&(false==true))=false:=rfl
   have O:((true==false))=false:=rfl
   rw[F,O]
   simp only[EM,AD,xj,yQ,yd,xm,xo,yZ]
   have T:¬ (j=b.length∨i<a.length∧A4 a[i]!.Name b[j]!.Name=true):=by
    intro h;rcases h with h | h
    ·exact u h
    ·exact l h.1
   rw[ne T,vw (.inl I),Ox _ _ _ (by omega),AD,Ae (by omega),AD];rfl
  ·have J:decide ((j:Int)<(b.length:Int))=false:=by simp;omega
   rw[J,ne (by decide),ne (by omega)]
theorem ke(c a b:List AC)(h:c.length+a.length+b.length≤4398046511104):Ri c a b=some (Bs Fi a b c):=by
 unfold Ri
 rw[Vi Fi a b c 4398046511104 fZ (λi j o l q u=>pn a b i j o (by omega) l q u) h];rfl
theorem q9(a b:List AC)(h:a.length+b.length≤4398046511104):QV a b=some (Bs Fi a b []):=by
 unfold QV;rw[ke [] a b (by simpa using h)];rfl
theorem rH(a b:List AC) i j(o:List AC)(M:a.length+b.length≤4398046511104)(U:i≤a.length)(V:j≤b.length)(X:o.length+(a.length-i)+(b.length-j)≤4398046511104):QM a b i j o=Jr Fh a b i j o:=by
 unfold QM Jr
 by_cases l:i<a.length
 ·rw[vw (by simp;omega),vw (.inl l),AZ l]
  have A:decide ((i:Int)<(a.length:Int))=true:=by simp;omega
  have B:decide ((i:Int)=(a.length:Int))=false:=by simp;omega
  rw[A,B]
  by_cases q:j<b.length
  ·have w:decide ((j:Int)=(b.length:Int))=false:=by simp;omega
   rw[w,AZ q]
   simp only[xp,xM,zX,An,AD,xj]
   rw[PF _ _ _ (by omega),PF _ _ _ (by omega),PF _ _ _ (by omega)]
   simp only[AD]
   rw[Ae (by omega),Ae (by omega)]
   simp only[AD]
   have u:¬ j=b.length:=by omega
   have C:¬ i=a.length:=by omega
   simp only[u,C,l,true_and,false_or];rfl
  ·have E:j=b.length:=by omega
   have w:decide ((j:Int)=(b.length:Int))=true:=by simp;omega
   rw[w]
   have F:((true==false)&&(true==true))=false:=rfl
   rw[F]
   simp only[EM,AD,yd]
   rw[vw trivial,vw (.inl E),PF _ _ _ (by omega),AD,Ae (by omega),AD];rfl
 ·have I:i=a.length:=by omega
  have A:decide ((i:Int)<(a.length:Int))=false:=by simp;omega
  have B:decide ((i:Int)=(a.length:Int))=true:=by simp;omega
  rw[A,B]
  by_cases q:j<b.length
  ·have w:decide ((j:Int)=(b.length:Int))=false:=by simp;omega
   have J:decide ((j:Int)<(b.length:Int))=true:=by simp;omega
   have u:¬ j=b.length:=by omega
   rw[w,J,vw (by rfl),vw (.inr q),AZ q]
   have F:((false==false)&&(false==true))=false:=rfl
   have O:((true==false))=false:=rfl
   rw[F,O]
   simp only[EM,AD,xj,yQ,yd,xm,xo,yZ]
   have T:¬ (j=b.length∨i<a.length∧A4 a[i]!.Name b[j]!.Name=true):=by
    intro h;rcases h with h | h
    ·exact u h
    ·exact l h.1
   rw[ne T,vw (.inl I),PF _ _ _ (by omega),AD,Ae (by omega),AD];rfl
  ·have J:decide ((j:Int)<(b.length:Int))=false:=by simp;omega
   rw[J,ne (by decide),ne (by omega)]
theorem l8(c a b:List AC)(h:c.length+a.length+b.length≤4398046511104):Oo c a b=some (Bs Fh a b c):=by
 unfold Oo
 rw[Vi Fh a b c 4398046511104 hP (λi j o l q u=>rH a b i j o (by omega) l q u) h];rfl
theorem jk(a b:List AC)(h:a.length+b.length≤4398046511104):PW a b=some (Bs Fh a b []):=by
 unfold PW;rw[l8 [] a b (by simpa using h)];rfl
theorem Q9(a b:List AC)(B:a.length≤9223372036854775807):HC a b=some (decide (a=b)):=by
 unfold HC
 by_cases q:a.length=b.length
 ·rw[ne (by simp[q]),CP (n:=a.length) (λk=>if decide (a[k]! = b[k]!) then none else some false) (λk w=>by
   unfold RJ
   rw[vw (by simpa using w),AZ w,AZ (by omega),AD,AD,Ae (by omega)]
   generalize a[k]! = x
   generalize b[k]! = y
   by_cases h:x=y
   ·subst h;simp[Ca]
   ·have A:=h;rw[Z4] at A
    simp only[vy h,zY]
    by_cases j:x.Name=y.Name
    ·have u:¬ x.Value=y.Value:=λe=>A ⟨j,e⟩
     simp[j,u,Ca]
    ·simp[j,Ca]) (by unfold RJ;rw[ne (by simp)]),JH,Et]
  by_cases h:a=b
  ·subst h;simp
  ·rw[vy h]
   have:((List.range a.length).all λk=>decide (a[k]! = b[k]!))=false:=by
    rw[← xR,wR]
    intro l
    apply h
    apply yg q
    intro k j u
    have:=l k (wi.2 j)
    simp only[vx] at this
    rwa [wF a k j,wF b k u] at this
   rw[this];rfl
 ·rw[vw (by simp;omega),vy (by rintro rfl;exact q rfl)]
theorem M7(a b:List AC)(B:a.length≤9223372036854775807):GI a b=some (decide (a=b)):=by
 unfold GI
 by_cases q:a.length=b.length
 ·rw[ne (by simp[q]),CP (n:=a.length) (λk=>if decide (a[k]! = b[k]!) then none else some false) (λk w=>by
   unfold O8
   rw[vw (by simpa using w),AZ w,AZ (by omega),AD,AD,Ae (by omega)]
   generalize a[k]! = x
   generalize b[k]! = y
   by_cases h:x=y
   ·subst h;simp[Ca]
   ·have A:=h;rw[Z4] at A
    simp only[vy h,zY]
    by_cases j:x.Name=y.Name
    ·have u:¬ x.Value=y.Value:=λe=>A ⟨j,e⟩
     simp[j,u,Ca]
    ·simp[j,Ca]) (by unfold O8;rw[ne (by simp)]),JH,Et]
  by_cases h:a=b
  ·subst h;simp
  ·rw[vy h]
   have:((List.range a.length).all λk=>decide (a[k]! = b[k]!))=false:=by
    rw[← xR,wR]
    intro l
    apply h
    apply yg q
    intro k j u
    have:=l k (wi.2 j)
    simp only[vx] at this
    rwa [wF a k j,wF b k u] at this
   rw[this];rfl
 ·rw[vw (by simp;omega),vy (by rintro rfl;exact q rfl)]
theorem oA{α β:Type}[Inhabited α]{f}(l:List α)(j:β→α→β)(I:β→Nat→Prop)(w:∀b k, k<l.length→I b k→I (j b l[k]!) (k+1))
 (A:∀b (k:Nat), k<l.length→I b k→f (b, (k:Int))=some (.inl (j b l[k]!, ((k+1:Nat):Int)))) (B:∀b, f (b, (l.length:Int))=some (.inr b)) (b0:β) (C:I b0 0):iter f (b0, 0)=some (l.foldl j b0) := by
  have key:∀(m k:Nat) (b:β), k+m=l.length→I b k→iter f (b, (k:Int))=some ((l.drop k).foldl j b) := by
    intro m
    induction m with
    | zero =>
      intro k b E _
      have:k=l.length := by omega
      subst this
      rw[Ch (B b)];simp
    | succ m F =>
      intro k b E u
      have q:k<l.length := by omega
      rw[DP (A b k q u), F (k+1) _ (by omega) (w b k q u), xq q, wh, wF l k q]
  have := key l.length 0 b0 (by omega) C
  simpa using this
theorem qZ{α β:Type}[Inhabited α]{f}(l:List α)(j:β→α→β)(I:β→Nat→Prop)(w:∀b k, k<l.length→I b k→I (j b l[k]!) (k+1))
 (A:∀b (k:Nat), k<l.length→I b k→f ((k:Int), b)=some (.inl (((k+1:Nat):Int), j b l[k]!))) (B:∀b, f ((l.length:Int), b)=some (.inr b)) (b0:β) (C:I b0 0):iter f (0, b0)=some (l.foldl j b0) := by
  have key:∀(m k:Nat) (b:β), k+m=l.length→I b k→iter f ((k:Int), b)=some ((l.drop k).foldl j b) := by
    intro m
    induction m with
    | zero =>
      intro k b E _
      have:k=l.length := by omega
      subst this
      rw[Ch (B b)];simp
    | succ m F =>
      intro k b E u
      have q:k<l.length := by omega
      rw[DP (A b k q u), F (k+1) _ (by omega) (w b k q u), xq q, wh, wF l k q]
  have := key l.length 0 b0 (by omega) C
  simpa using this
theorem qI{α γ β:Type}[Inhabited α]{f}(l:List α)(j:γ × β→α→γ × β)(I:γ × β→Nat→Prop)(w:∀b k, k<l.length→I b k→I (j b l[k]!) (k+1))
 (A:∀c b (k:Nat), k<l.length→I (c, b) k→f (c, (k:Int), b)=some (.inl ((j (c, b) l[k]!).1, ((k+1:Nat):Int), (j (c, b) l[k]!).2))) (B:∀c b, f (c, (l.length:Int), b)=some (.inr (c, b))) (c0:γ) (b0:β) (C:I (c0, b0) 0) :
    iter f (c0, 0, b0)=some (l.foldl j (c0, b0)) := by
  have key:∀(m k:Nat) (b:γ × β), k+m=l.length→I b k→iter f (b.1, (k:Int), b.2)=some ((l.drop k).foldl j b) := by
    intro m
    induction m with
    | zero =>
      intro k b E _
      have:k=l.length := by omega
      subst this
      rw[Ch (B _ _)];simp
    | succ m F =>
      intro k b E u
      have q:k<l.length := by omega
      rw[DP (A b.1 b.2 k q u), F (k+1) _ (by omega) (w b k q u), xq q, wh, wF l k q]
  have := key l.length 0 (c0, b0) (by omega) C
  simpa using this
theorem tk a:A4 a []=false:=by cases a<;>rfl
theorem HN:∀ {a b c:List UInt8},A4 a b=true→A4 b c=true→A4 a c=true
 | _,[],_,h,_=>by rw[tk] at h;cases h
 | _,_::_,[],_,h=>by cases h
 | [],_::_,_::_,_,_=>rfl
 | a::x,b::y,c::z,h,k=>by
  rw[XE] at h k ⊢
  simp only[wD,vx,v7,zb,yn] at h k ⊢
  rcases h with h | ⟨rfl,h⟩<;>rcases k with k | ⟨rfl,k⟩
  ·left;omega
  ·left;exact h
  ·left;exact k
  ·right;exact⟨rfl,HN h k⟩
def Bg(l:List AC):Prop:=l.Pairwise λx y=>A4 x.Name y.Name=true
def Au:List AC→List UInt8→Option AC
 | [],_=>none
 | x::l,n=>if x.Name=n then some x else Au l n
theorem H1{l}{n}(h:∀e∈l,e.Name≠n):Au l n=none:=by
 induction l with
 | nil=>rfl
 | cons x l j=>rw[Au,ne (h x (v8 ..)),j λe q=>h e (wC _ q)]
theorem SL{l}{n}{e:AC}(h:Au l n=some e):e.Name=n∧e∈l:=by
 induction l with
 | nil=>cases h
 | cons x l j=>
  rw[Au] at h
  split at h
  ·cases h;exact⟨‹_›,v8 ..⟩
  ·exact⟨(j h).1,wC _ (j h).2⟩
theorem FC{a b}(h:A4 a b=true):b≠a:=by rintro rfl;rw[X2] at h;cases h
theorem EN{x:AC}{l} : Bg (x::l)↔(∀e∈l,A4 x.Name e.Name=true)∧Bg l:=List.pairwise_cons
theorem RG:∀ {l m:List AC},Bg l→Bg m→(∀n,Au l n=Au m n)→l=m
 | [],[],_,_,_=>rfl
 | [],y::m,_,_,h=>by have:=h y.Name;simp[Au] at this
 | x::l,[],_,_,h=>by have:=h x.Name;simp[Au] at this
 | x::l,y::m,E,F,h=>by
  have w:=EN.1 E
  have A:=EN.1 F
  have B:x.Name=y.Name:=by
   rcases j:A4 x.Name y.Name with _ | _
   ·rcases q:A4 y.Name x.Name with _ | _
    ·have:=MB x.Name y.Name
     rw[j,q] at this
     simpa using this
    ·have:=h y.Name
     rw[Au,ne (FC q),H1 λe u=>FC (HN q (w.1 e u)),Au,vw rfl] at this
     cases this
   ·have:=h x.Name
    rw[Au,vw rfl,Au,ne (FC j),H1 λe u=>FC (HN j (A.1 e u))] at this
    cases this
  have I:x=y:=by
   have:=h x.Name
   rw[Au,vw rfl,Au,vw B.symm] at this
   exact wn this
  subst I
  rw[RG w.2 A.2 λn=>?_]
  by_cases C:x.Name=n
  ·subst C
   rw[H1 λe u=>FC (w.1 e u),H1 λe u=>FC (A.1 e u)]
  ·have:=h n
   rwa [Au,ne C,Au,ne C] at this
def Cw:List AC→AC→List AC
 | [],a=>[a]
 | x::l,a=>if x.Name=a.Name then a::l else if A4 x.Name a.Name=true then x::Cw l a else a::x::l
theorem Yh{l}{a e}(h:e∈Cw l a):e=a∨e∈l:=by
 induction l with
 | nil=>simpa[Cw] using h
 | cons x l j=>
  rw[Cw] at h
  split at h
  ·rcases wM.1 h with h | h
   ·exact .inl h
   ·exact .inr (wC _ h)
  ·split at h
   ·rcases wM.1 h with h | h
    ·exact .inr (h ▸ v8 ..)
    ·rcases j h with h | h
     ·exact .inl h
     ·exact .inr (wC _ h)
   ·rcases wM.1 h with h | h
    ·exact .inl h
    ·exact .inr h
theorem eY{a b}(j:a≠b)(l:¬ A4 a b=true):A4 b a=true:=by
 have:=MB a b
 rw[yG.2 l,vy j] at this
 simpa using this
theorem Pi{l}(a:AC)(h:Bg l):Bg (Cw l a):=by
 induction l with
 | nil=>simp[Cw,Bg]
 | cons x l B=>
  have u:=EN.1 h
  rw[Cw]
  split
  ·rename_i A;exact EN.2 ⟨λe j=>by rw[← A];exact u.1 e j,u.2⟩
  ·rename_i A
   split
   ·rename_i q
    exact EN.2 ⟨λe j=>by rcases Yh j with rfl | j;exact q;exact u.1 e j,B u.2⟩
   ·rename_i q
    have w:=eY A q
    exact EN.2 ⟨λe j=>by rcases wM.1 j with rfl | j;exact w;exact HN w (u.1 e j),h⟩
theorem R2 l(a:AC) n:Au (Cw l a) n=if a.Name=n then some a else Au l n:=by
 induction l with
 | nil=>simp[Cw,Au]
 | cons x l q=>
  rw[Cw]
  split
  ·rename_i j
   rw[Au,Au]
   by_cases h:a.Name=n
   ·rw[vw h,vw h]
   ·rw[ne h,ne h,ne (by rw[j];exact h)]
  ·rename_i j
   split
   ·rw[Au,Au,q]
    by_cases h:a.Name=n
    ·rw[vw h,ne (by rw[← h];exact j),vw h]
    ·rw[ne h,ne h]
   ·rw[Au]
theorem Nv(l:List AC) a:(Cw l a).length≤l.length+1:=by
 induction l with
 | nil=>simp[Cw]
 | cons x l j=>rw[Cw];split;simp;split;simp;omega;simp
def EP(a:AC)(s:Bool × List AC)(x:AC):Bool × List AC:=
 let j:=if s.1=false∧A4 x.Name a.Name=false then(true,s.2++[a]) else s
 if x.Name=a.Name then j else(j.1,j.2++[x])
theorem Wd(a:AC):∀(l:List AC) (o:List AC),(∀e∈l,A4 a.Name e.Name=true)→l.foldl (EP a) (true,o)=(true,o++l)
 | [],o,_=>by simp
 | x::l,o,h=>by
  have j:=h x (v8 ..)
  have:EP a (true,o) x=(true,o++[x]):=by simp[EP,FC j]
  rw[wh,this,Wd a l _ λe q=>h e (wC _ q)]
  simp
theorem bX(a:AC):∀(l:List AC) (o:List AC),Bg l→(let s:=l.foldl (EP a) (false,o);if s.1 then s.2 else s.2++[a])=o++Cw l a
 | [],o,_=>by simp[Cw]
 | x::l,o,h=>by
  have u:=EN.1 h
  rw[wh,Cw]
  by_cases q:x.Name=a.Name
  ·have B:A4 x.Name a.Name=false:=by rw[q];exact X2 _
   have:EP a (false,o) x=(true,o++[a]):=by simp[EP,q,X2]
   rw[this,Wd a l _ λe w=>by rw[← q];exact u.1 e w,vw q]
   simp
  ·by_cases j:A4 x.Name a.Name=true
   ·have:EP a (false,o) x=(false,o++[x]):=by simp[EP,q,j]
    rw[this,bX a l _ u.2,ne q,vw j]
    simp
   ·have A:=eY q j
    have:EP a (false,o) x=(true,o++[a]++[x]):=by simp[EP,q,yG.2 j]
    rw[this,Wd a l _ λe w=>HN A (u.1 e w),ne q,ne j]
    simp
theorem cW(a:AC) s(x:AC):(EP a s x).2.length≤s.2.length+2:=by
 unfold EP
 have:(if s.1=false∧A4 x.Name a.Name=false then(true,s.2++[a]) else s).2.length≤s.2.length+1:=by split<;>simp
 generalize (if s.1=false∧A4 x.Name a.Name=false then(true,s.2++[a]) else s)=t at this
 by_cases j:x.Name=a.Name
 ·simp only[j,xm];omega
 ·simp only[j,yZ,wG,wu];omega
theorem Vr(l:List AC)(a:AC)(B:Bg l)(h:l.length≤1099511627776):Ir l a=some (Cw l a):=by
 unfold Ir
 rw[qI l (EP a) (λs k=>s.2.length≤2 * k) (λb k _ u=>by have:=cW a b l[k]!;show(EP a b l[k]!).2.length≤_;omega) (λc b k w u=>by
  have C:b.length≤2 * k:=u
  unfold PR
  rw[vw (by simpa using w),AZ w,Ae (by omega)]
  simp only[AD]
  generalize l[k]! = x
  have E:app 32 b [a]=some (b++[a]):=IO (by omega)
  have A:app 32 b [x]=some (b++[x]):=IO (by omega)
  have F:app 32 (b++[a]) [x]=some (b++[a]++[x]):=IO (by simp;omega)
  cases c
  ·simp only[Bool.not_false,xp,An,AD,xM]
   unfold EP
   cases J:A4 x.Name a.Name
   ·by_cases q:x.Name=a.Name<;>simp[E,F,q]
   ·by_cases q:x.Name=a.Name<;>simp[A,q]
  ·have:((!true)==true)=false:=rfl
   rw[this,EM]
   simp only[AD,zG,yQ,xo,yZ,CL]
   unfold EP
   by_cases q:x.Name=a.Name<;>simp[A,q]) (λc b=>by unfold PR;rw[ne (by simp)]) false [] (by simp)]
 have hp:=bX a l [] B
 have j:(l.foldl (EP a) (false,([]:List AC))).2.length≤2 * l.length:=by
  have:∀(m:List AC) (s:Bool × List AC),(m.foldl (EP a) s).2.length≤s.2.length+2 * m.length:=by
   intro m
   induction m with
   | nil=>intro s;simp
   | cons x m I=>intro s;rw[wh];have:=I (EP a s x);have:=cW a s x;simp only[wK];omega
  have:=this l (false,[])
  simpa using this
 generalize l.foldl (EP a) (false,([]:List AC))=s at hp j
 obtain⟨c,o⟩:=s
 simp only[CL]
 cases c
 ·simp only[Bool.not_false,xm]
  rw[IO (by simp at j;omega)]
  simpa using hp
 ·simpa using hp
def D4(g:AC→AC→List AC):List AC→List AC→List AC
 | [],[]=>[]
 | x::a,[]=>g x DC++D4 g a []
 | [],y::b=>g DC y++D4 g [] b
 | x::a,y::b=>if A4 x.Name y.Name then g x DC++D4 g a (y::b) else if A4 y.Name x.Name then g DC y++D4 g (x::a) b else g x y++D4 g a b
  termination_by a b=>a.length+b.length
theorem rt l g(h:∀x y o,l x y o=o++g x y):∀(m:Nat) (a b c:List AC),a.length+b.length=m→Bs l a b c=c++D4 g a b:=by
 intro m
 induction m using Nat.strongRecOn with
 | _ m q=>
  intro a b c j
  cases a with
  | nil=>
   cases b with
   | nil=>simp[Bs,D4]
   | cons y b=>rw[Bs,D4,q (m-1) (by simp at j;omega) [] b _ (by simp at j ⊢;omega),h];simp
  | cons x a=>
   cases b with
   | nil=>rw[Bs,D4,q (m-1) (by simp at j;omega) a [] _ (by simp at j ⊢;omega),h];simp
   | cons y b=>
    rw[Bs,D4]
    split
    ·rw[q (m-1) (by simp at j;omega) a (y::b) _ (by simp at j ⊢;omega),h];simp
    ·split
     ·rw[q (m-1) (by simp at j;omega) (x::a) b _ (by simp at j ⊢;omega),h];simp
     ·rw[q (m-2) (by simp at j;omega) a b _ (by simp at j ⊢;omega),h];simp
def UE(l:List AC)(n:List UInt8)(o:Option AC):Prop:=l=o.toList∧∀e,o=some e→e.Name=n
structure Mw(g:AC→AC→List AC)(G:Option AC→Option AC→Option AC):Prop where
 l:∀x:AC,x.Name≠[]→UE (g x DC) x.Name (G (some x) none)
 r:∀y:AC,y.Name≠[]→UE (g DC y) y.Name (G none (some y))
 b:∀x y:AC,x.Name=y.Name→x.Name≠[]→UE (g x y) x.Name (G (some x) (some y))
 n:G none none=none
theorem ki{o:Option AC}{j}{rest}(A:∀e,o=some e→e.Name=j)(q:∀e∈rest,A4 j e.Name=true)(u:Bg rest):Bg (o.toList++rest)∧∀n,Au (o.toList++rest) n=if j=n then o else Au rest n:=by
 cases o with
 | none=>
  refine⟨u,λn=>?_⟩
  split
  ·rename_i h;subst h;exact H1 λe l=>FC (q e l)
  ·rfl
 | some x=>
  have w:=A x rfl
  refine⟨EN.2 ⟨λe l=>by rw[w];exact q e l,u⟩,λn=>?_⟩
  show Au (x::rest) n=_
  rw[Au,w]
def Nm(l:List AC):Prop:=∀e∈l,e.Name≠[]
theorem qk{g}{G}(hg:Mw g G):∀(m:Nat) (a b:List AC),a.length+b.length=m→Bg a→Bg b→Nm a→Nm b →
  (∀n,(∀e∈a,A4 n e.Name=true)→(∀e∈b,A4 n e.Name=true)→∀e∈D4 g a b,A4 n e.Name=true)∧Bg (D4 g a b)∧∀n,Au (D4 g a b) n=G (Au a n) (Au b n):=by
 intro m
 induction m using Nat.strongRecOn with
 | _ m ih=>
  intro a b T V U O J
  have tail:∀ {l:List AC} {I:List UInt8} {o:Option AC} {a' b':List AC},UE l I o→a'.length+b'.length<m→Bg a'→Bg b'→Nm a'→Nm b'→(∀e∈a',A4 I e.Name=true)→(∀e∈b',A4 I e.Name=true) →
    (∀n,A4 n I=true→∀e∈l++D4 g a' b',A4 n e.Name=true)∧Bg (l++D4 g a' b')∧∀n,Au (l++D4 g a' b') n=if I=n then o else G (Au a' n) (Au b' n):=by
   rintro l I o a' b' ⟨rfl,ho⟩ q X Y Z a0 u B
   obtain⟨i1,i2,i3⟩:=ih _ q a' b' rfl X Y Z a0
   obtain⟨j1,j2⟩:=ki ho (i1 I u B) i2
   refine⟨λn A e j=>?_,j1,λn=>by rw[j2 n,i3 n]⟩
   rcases wm.1 j with j | j
   ·rw[Option.mem_toList] at j;rw[ho e j];exact A
   ·exact HN A (i1 I u B e j)
  cases a with
  | nil=>
   cases b with
   | nil=>exact⟨λn _ _ e j=>by simp[D4] at j,by simp[D4,Bg],λn=>by simp[D4,Au,hg.n]⟩
   | cons y b=>
    have u:=EN.1 U
    have hy:=J y (v8 ..)
    rw[D4]
    obtain⟨C,E,F⟩:=tail (a':=[]) (b':=b) (hg.r y hy) (by simp at T ⊢;omega) V u.2 O (λe j=>J e (wC _ j)) (λe j=>by cases j) u.1
    refine⟨λn _ h e j=>C n (h y (v8 ..)) e j,E,λn=>?_⟩
    rw[F n]
    conv=>rhs;rw[Au,Au]
    split
    ·rfl
    ·rfl
  | cons x a=>
   have u:=EN.1 V
   have hx:=O x (v8 ..)
   cases b with
   | nil=>
    rw[D4]
    obtain⟨C,E,F⟩:=tail (a':=a) (b':=[]) (hg.l x hx) (by simp at T ⊢;omega) u.2 U (λe j=>O e (wC _ j)) J u.1 (λe j=>by cases j)
    refine⟨λn h _ e j=>C n (h x (v8 ..)) e j,E,λn=>?_⟩
    rw[F n]
    conv=>rhs;rw[Au,Au]
    split
    ·rfl
    ·rfl
   | cons y b=>
    have B:=EN.1 U
    have hy:=J y (v8 ..)
    rw[D4]
    split
    ·rename_i q
     obtain⟨C,E,F⟩:=tail (a':=a) (b':=y::b) (hg.l x hx) (by simp at T ⊢;omega) u.2 U (λe j=>O e (wC _ j)) J u.1 (λe j=>by
      rcases wM.1 j with rfl | j
      ·exact q
      ·exact HN q (B.1 e j))
     refine⟨λn h _ e j=>C n (h x (v8 ..)) e j,E,λn=>?_⟩
     rw[F n]
     by_cases A:x.Name=n
     ·subst A
      rw[vw rfl,Au,vw rfl,H1 λe j=>by
       rcases wM.1 j with rfl | j
       ·exact FC q
       ·exact FC (HN q (B.1 e j))]
     ·rw[ne A];conv=>rhs;rw[Au,ne A]
    ·rename_i q
     split
     ·rename_i w
      obtain⟨C,E,F⟩:=tail (a':=x::a) (b':=b) (hg.r y hy) (by simp at T ⊢;omega) V B.2 O (λe j=>J e (wC _ j)) (λe j=>by
       rcases wM.1 j with rfl | j
       ·exact w
       ·exact HN w (u.1 e j)) B.1
      refine⟨λn _ h e j=>C n (h y (v8 ..)) e j,E,λn=>?_⟩
      rw[F n]
      by_cases A:y.Name=n
      ·subst A
       rw[vw rfl]
       conv=>rhs;rw[H1 (l:=x::a) (λe j=>by
        rcases wM.1 j with rfl | j
        ·exact FC w
        ·exact FC (HN w (u.1 e j))),Au,vw rfl]
      ·rw[ne A];conv=>rhs;arg 2;rw[Au,ne A]
     ·rename_i w
      have M:x.Name=y.Name:=by
       have:=MB x.Name y.Name
       rw[yG.2 q,yG.2 w] at this
       simpa using this
      obtain⟨C,E,F⟩:=tail (a':=a) (b':=b) (hg.b x y M hx) (by simp at T ⊢;omega) u.2 B.2 (λe j=>O e (wC _ j)) (λe j=>J e (wC _ j)) u.1 (λe j=>by rw[M];exact B.1 e j)
      refine⟨λn h _ e j=>C n (h x (v8 ..)) e j,E,λn=>?_⟩
      rw[F n]
      conv=>rhs;rw[Au,Au,← M]
      split<;>rfl
def G0:Option AC→Option AC→Option AC
 | o,none=>o
 | _,some y=>if y.Value=[] then none else some y
def RH:Option AC→Option AC→Option AC
 | o,none=>o
 | _,some y=>some y
def Mk:Option AC→Option AC→Option AC
 | o,none=>o
 | _,some _=>none
theorem QD{j}{g}{G}(h:∀x y o,j x y o=o++g x y)(hg:Mw g G){a b}(l:Bg a)(q:Bg b)(u:Nm a)(w:Nm b) :
  Bg (Bs j a b [])∧∀n,Au (Bs j a b []) n=G (Au a n) (Au b n):=by
 rw[rt j g h _ a b [] rfl,yh]
 exact(qk hg _ a b rfl l q u w).2
def OD(x y:AC):List AC:=if y.Name=[] then [x] else if y.Value=[] then [] else [y]
def Oc(x y:AC):List AC:=[if y.Name=[] then x else y]
def MU(x y:AC):List AC:=if y.Name=[] then [x] else []
theorem Rq:Mw OD G0:=by
 refine⟨λx q=>⟨by simp[OD,G0,DC],by rintro e ⟨⟩;rfl⟩,λy u=>⟨?_,?_⟩,λx y l q=>⟨?_,?_⟩,rfl⟩
 ·simp only[OD,G0,ne u];split<;>rfl
 ·intro e j;simp only[G0] at j;split at j<;>cases j;rfl
 ·rw[l] at q;simp only[OD,G0,ne q];split<;>rfl
 ·intro e j;simp only[G0] at j;split at j<;>cases j;exact l.symm
theorem pV:Mw Oc RH:=by
 refine⟨λx l=>⟨by simp[Oc,RH,DC],by rintro e ⟨⟩;rfl⟩,λy q=>⟨by simp[Oc,RH,ne q],by rintro e ⟨⟩;rfl⟩,λx y j l=>⟨?_,?_⟩,rfl⟩
 ·rw[j] at l;simp[Oc,RH,ne l]
 ·rintro e ⟨⟩;exact j.symm
theorem bM:Mw MU Mk:=by
 refine⟨λx j=>⟨by simp[MU,Mk,DC],by rintro e ⟨⟩;rfl⟩,λy q=>⟨by simp[MU,Mk,ne q],by rintro e ⟨⟩⟩,λx y l j=>⟨?_,by rintro e ⟨⟩⟩,rfl⟩
 rw[l] at j;simp[MU,Mk,ne j]
theorem Ts(x y o):FV x y o=o++OD x y:=by unfold FV OD;split;rfl;split;simp;rfl
theorem qD(x y o):Fi x y o=o++Oc x y:=rfl
theorem gq(x y o):Fh x y o=o++MU x y:=by unfold Fh MU;split;rfl;simp
theorem sc{l:List AC}(h:∀k,k+1<l.length→A4 l[k]!.Name l[k+1]!.Name=true):Bg l:=by
 induction l with
 | nil=>exact List.Pairwise.nil
 | cons x l w=>
  have q:=w λk A=>by have:=h (k+1) (by simp;omega);simpa using this
  refine EN.2 ⟨λe j=>?_,q⟩
  cases l with
  | nil=>cases j
  | cons y l=>
   have u:A4 x.Name y.Name=true:=by have:=h 0 (by simp);simpa using this
   rcases wM.1 j with rfl | j
   ·exact u
   ·exact HN u ((EN.1 q).1 e j)
theorem EL{l:List AC}{ch:Bool}(h:Ao l ch=0):Bg l∧Nm l∧(ch=false→∀e∈l,e.Value≠[]):=by
 have hn:∀k,k<l.length→Ez l ch k=none:=by
  intro k hk
  unfold Ao at h
  cases hf:(List.range l.length).findSome? (Ez l ch) with
  | none=>exact(bC _ _).1 hf k hk
  | some r=>
   rw[hf] at h
   obtain⟨j,_,hj⟩:=xE hf
   exfalso
   unfold Ez at hj
   simp only[yf] at h
   subst h
   repeat' split at hj
   all_goals simp at hj
 have hname:∀k,k<l.length→Ef l[k]!.Name=true∧¬ (Dt l[k]!.Value=false∧¬ (ch=true∧l[k]!.Value=[]))∧¬ (0<k∧A4 l[k-1]!.Name l[k]!.Name=false):=by
  intro k hk
  have:=hn k hk
  unfold Ez at this
  split at this
  ·cases this
  ·split at this
   ·cases this
   ·split at this
    ·cases this
    ·exact⟨by rcases hx:Ef l[k]!.Name with _ | _;exact absurd hx (by assumption);rfl,‹_›,‹_›⟩
 refine⟨sc λk hk=>?_,λe he=>?_,λhc e he=>?_⟩
 ·have:=(hname (k+1) hk).2.2
  rw[Nat.add_sub_cancel] at this
  simpa using this
 ·obtain⟨k,hk,rfl⟩:=xD.1 he
  have:=(hname k hk).1
  rw[wF l k hk] at this
  intro e0
  rw[e0] at this
  simp[Ef] at this
 ·obtain⟨k,hk,rfl⟩:=xD.1 he
  have:=(hname k hk).2.1
  rw[wF l k hk,hc] at this
  intro e0
  apply this
  rw[e0]
  exact⟨rfl,by simp⟩
theorem eS(p:AC→Bool)(h:AC→AC)(j:∀x,(h x).Name=x.Name):∀(l o:List AC),Bg l→Bg o →
  Bg (l.foldl (λo x=>if p x then Cw o (h x) else o) o)∧∀n,Au (l.foldl (λo x=>if p x then Cw o (h x) else o) o) n=match Au l n with | some x=>if p x then some (h x) else Au o n | none=>Au o n
 | [],o,_,q=>⟨q,λn=>rfl⟩
 | x::l,o,B,q=>by
  have A:=EN.1 B
  have w:Bg (if p x then Cw o (h x) else o):=by split;exact Pi _ q;exact q
  obtain⟨C,E⟩:=eS p h j l _ A.2 w
  refine⟨C,λn=>?_⟩
  rw[wh,E n,Au]
  by_cases u:x.Name=n
  ·subst u
   rw[vw rfl,H1 λe F=>FC (A.1 e F)]
   cases hp:p x
   ·simp[hp]
   ·simp[hp,R2,j]
  ·rw[ne u]
   cases I:Au l n with
   | some z => 
    cases hp:p x
    ·simp[hp]
    ·simp[hp,R2,j,u]
   | none=>
    cases hp:p x
    ·simp[hp]
    ·simp[hp,R2,j,u]
theorem uV(p:AC→Bool)(h:AC→AC)(l o:List AC):(l.foldl (λo x=>if p x then Cw o (h x) else o) o).length≤o.length+l.length:=by
 induction l generalizing o with
 | nil=>simp
 | cons x l j=>
  rw[wh]
  have q:=j (if p x then Cw o (h x) else o)
  have u:(if p x then Cw o (h x) else o).length≤o.length+1:=by split;exact Nv _ _;omega
  simp only[wK]
  omega
def GL(l o:List AC):List AC:=l.foldl (λo x=>if(λ_=>true) x then Cw o (id x) else o) o
theorem Xc{l o}(j:Bg l)(q:Bg o):Bg (GL l o)∧∀n,Au (GL l o) n=match Au l n with | some x=>some x | none=>Au o n:=by
 obtain⟨u,w⟩:=eS (λ_=>true) id (λ_=>rfl) l o j q
 refine⟨u,λn=>?_⟩
 unfold GL
 rw[w n]
 cases Au l n<;>simp
theorem eu(l o:List AC):(GL l o).length≤o.length+l.length:=uV _ _ _ _
theorem Zr{f}(l o:List AC)(u:Bg o)(C:o.length+l.length≤1099511627776)
 (w:∀b (k:Nat), k<l.length→f (b, (k:Int))=(AB (Ir b l[k]!) λo2 => AB (AN .i64 ((k:Int)+1)) λx => some (.inl (o2, x)))) (A:∀b, f (b, (l.length:Int))=some (.inr b)):iter f (o, 0)=some (GL l o) := by
  unfold GL
  refine oA l _ (λb k => Bg b∧b.length≤o.length+k) (λb k q ⟨j, B⟩ => ?_) (λb k q ⟨j, B⟩ => ?_) A o ⟨u, by omega⟩
  · have := Nv b l[k]!
    exact⟨Pi _ j, by show(Cw b l[k]!).length≤_;omega⟩
  · rw[w b k q, Vr b _ j (by omega), AD, Ae (by omega)];rfl
def Fd(l:List AC):List AC:=l.filter λa=>!(a.Value=[])
theorem nw{l}(h:Bg l):Bg (Fd l)∧∀n,Au (Fd l) n=(Au l n).filter λa=>!(a.Value=[]):=by
 induction l with
 | nil=>exact⟨List.Pairwise.nil,λn=>rfl⟩
 | cons x l C=>
  have w:=EN.1 h
  obtain⟨A,B⟩:=C w.2
  have j:∀e∈Fd l,A4 x.Name e.Name=true:=λe u=>w.1 e (yj.1 u).1
  by_cases q:x.Value=[]
  ·have:Fd (x::l)=Fd l:=by simp[Fd,q]
   rw[this]
   refine⟨A,λn=>?_⟩
   rw[Au]
   split
   ·rename_i E;subst E
    rw[H1 λe u=>FC (j e u)]
    simp[Option.filter,q]
   ·exact B n
  ·have:Fd (x::l)=x::Fd l:=by simp[Fd,q]
   rw[this]
   refine⟨EN.2 ⟨j,A⟩,λn=>?_⟩
   rw[Au,Au]
   split
   ·simp[Option.filter,q]
   ·exact B n
theorem jl(l ch:List AC)(A:Bg l)(hc:Bg ch)(h:l.length+ch.length≤1099511627776):H4 l ch=some (Fd (GL ch (GL l []))):=by
 unfold H4
 have w:Bg ([]:List AC):=List.Pairwise.nil
 have B:=(Xc A w).1
 have u:=eu l []
 have C:=eu ch (GL l [])
 rw[Zr l [] w (by simp;omega) (λb k j=>by unfold Qc;rw[vw (by simpa using j),AZ j];rfl) (λb=>by unfold Qc;rw[ne (by simp)]),AD,
  Zr ch _ B (by simp at u;omega) (λb k j=>by unfold PA;rw[vw (by simpa using j),AZ j];rfl) (λb=>by unfold PA;rw[ne (by simp)]),AD]
 generalize GL ch (GL l [])=r at C
 rw[qZ r (λo x=>if x.Value=[] then o else o++[x]) (λb k=>b.length≤k) (λb k j E=>by split;omega;simp;omega) (λb k j E=>by
  unfold OL
  rw[vw (by simpa using j),AZ j,AD,Ae (by simp at u;omega)]
  generalize r[k]! = x
  by_cases q:x.Value=[]
  ·simp[q]
  ·have:=IO (o:=b) (x:=x) (by simp at u;omega)
   simp[q,this]) (λb=>by unfold OL;rw[ne (by simp)]) [] (by simp),AD]
 have:∀(m o:List AC),m.foldl (λo x=>if x.Value=[] then o else o++[x]) o=o++Fd m:=by
  intro m
  induction m with
  | nil=>intro o;simp[Fd]
  | cons x m F=>
   intro o
   rw[wh,F]
   by_cases q:x.Value=[]
   ·simp[q,Fd]
   ·simp[q,Fd]
 rw[this];rfl
theorem mc{l ch}(u:Ao l false=0)(w:Ao ch true=0):Bs FV l ch []=Fd (GL ch (GL l [])):=by
 obtain⟨j,A,v1⟩:=EL u
 obtain⟨q,B,_⟩:=EL w
 have C:Bg ([]:List AC):=List.Pairwise.nil
 obtain⟨E,F⟩:=Xc j C
 obtain⟨I,J⟩:=Xc q E
 obtain⟨M,O⟩:=nw I
 obtain⟨T,U⟩:=QD Ts Rq j q A B
 refine RG T M λn=>?_
 rw[U,O,J,F]
 cases Y:Au ch n with
 | some y=>
  simp only[G0,Option.filter]
  by_cases V:y.Value=[]<;>simp[V]
 | none=>
  cases X:Au l n with
  | some x=>simp[G0,Option.filter,v1 rfl x (SL X).2]
  | none=>simp[G0,Au,Option.filter]
theorem Ze{ρ:Type}(g:AC→Option ρ)(l:List AC):(List.range l.length).findSome? (λk=>g l[k]!)=l.findSome? g:=by
 induction l with
 | nil=>rfl
 | cons a l j=>
  rw[wK,List.range_succ_eq_map,xZ,List.findSome?_map,xZ]
  have:(List.range l.length).findSome? ((λk=>g (a::l)[k]!) ∘ Nat.succ)=l.findSome? g:=by
   rw[← j];exact gi λk _=>by simp
  rw[this]
  simp
theorem gW{ρ:Type}(l:List AC)(n:List UInt8)(v:AC→ρ):(l.findSome? λx=>if x.Name=n then some (v x) else none)=(Au l n).map v:=by
 induction l with
 | nil=>rfl
 | cons x l j=>
  rw[xZ,Au]
  by_cases h:x.Name=n
  ·simp[h]
  ·simp[h,j]
theorem pp(l:List AC)(n:List UInt8):Dc l n=match Au l n with | some x=>x.Value | none=>[]:=by
 unfold Dc
 rw[Ze (λx=>if x.Name=n then some x.Value else none) l,gW l n (·.Value)]
 cases Au l n<;>rfl
theorem fD(l:List AC)(n:List UInt8)(q:l.length≤9223372036854775807):N5 l n=some (Au l n).isSome:=by
 unfold N5
 rw[CP (n:=l.length) (λk=>(λx:AC=>if x.Name=n then some true else none) l[k]!) (λk j=>by
  unfold P8
  rw[vw (by simpa using j),AZ j,AD,Ae (by omega)]
  generalize l[k]! = x
  by_cases h:x.Name=n<;>simp[h,Ca]) (by unfold P8;rw[ne (by simp)]),Ze (λx:AC=>if x.Name=n then some true else none) l,gW l n (λ_=>true),Et]
 cases Au l n<;>rfl
def FQ(a b:List AC):List AC:=a.filter λx=>!(Au b x.Name).isSome
theorem rK{a}(b:List AC)(h:Bg a):Bg (FQ a b)∧∀n,Au (FQ a b) n=Mk (Au a n) (Au b n):=by
 induction a with
 | nil=>exact⟨List.Pairwise.nil,λn=>by cases Au b n<;>rfl⟩
 | cons x l E=>
  have A:=EN.1 h
  obtain⟨B,C⟩:=E A.2
  have j:∀e∈FQ l b,A4 x.Name e.Name=true:=λe u=>A.1 e (yj.1 u).1
  cases q:Au b x.Name with
  | some y=>
   have:FQ (x::l) b=FQ l b:=by simp[FQ,q]
   rw[this]
   refine⟨B,λn=>?_⟩
   rw[Au]
   split
   ·rename_i w;subst w
    rw[H1 λe u=>FC (j e u),q];rfl
   ·exact C n
  | none=>
   have:FQ (x::l) b=x::FQ l b:=by simp[FQ,q]
   rw[this]
   refine⟨EN.2 ⟨j,B⟩,λn=>?_⟩
   rw[Au,Au]
   split
   ·rename_i w;subst w;rw[q];rfl
   ·exact C n
theorem ns{a b}(j:Bg a)(l:Bg b)(q:Nm a)(u:Nm b):Bs Fh a b []=FQ a b:=by
 obtain⟨w,A⟩:=rK b j
 obtain⟨B,C⟩:=QD gq bM j l q u
 exact RG B w λn=>by rw[C,A]
theorem T7 j(h:∀x y o,(j x y o).length≤o.length+1):∀(m:Nat) (a b c:List AC),a.length+b.length=m→(Bs j a b c).length≤c.length+m:=by
 intro m
 induction m using Nat.strongRecOn with
 | _ m q=>
  intro a b c l
  cases a with
  | nil=>
   cases b with
   | nil=>simp[Bs]
   | cons y b=>rw[Bs];have:=q (m-1) (by simp at l;omega) [] b (j DC y c) (by simp at l ⊢;omega);have:=h DC y c;simp at l;omega
  | cons x a=>
   cases b with
   | nil=>rw[Bs];have:=q (m-1) (by simp at l;omega) a [] (j x DC c) (by simp at l ⊢;omega);have:=h x DC c;simp at l;omega
   | cons y b=>
    rw[Bs]
    split
    ·have:=q (m-1) (by simp at l;omega) a (y::b) (j x DC c) (by simp at l ⊢;omega);have:=h x DC c;simp at l;omega
    ·split
     ·have:=q (m-1) (by simp at l;omega) (x::a) b (j DC y c) (by simp at l ⊢;omega);have:=h DC y c;simp at l;omega
     ·have:=q (m-2) (by simp at l;omega) a b (j x y c) (by simp at l ⊢;omega);have:=h x y c;simp at l;omega
theorem FA{σ β:Type}{f}(n:Nat)(R:Nat→σ→Prop)(Q:β→Prop)
 (w:∀k s, k<n→R k s→(∃j, f s=some (.inl j)∧R (k+1) j)∨(∃b, f s=some (.inr b)∧Q b))
 (A:∀s, R n s→∃b, f s=some (.inr b)∧Q b) {s} (B:R 0 s):∃b, iter f s=some b∧Q b := by
  have key:∀m k s, k+m=n→R k s→∃b, iter f s=some b∧Q b := by
    intro m
    induction m with
    | zero =>
      intro k s C l
      obtain rfl:k=n := by omega
      obtain⟨b, E, F⟩ := A s l
      exact⟨b, Ch E, F⟩
    | succ m I =>
      intro k s C l
      rcases w k s (by omega) l with ⟨j, q, u⟩ | ⟨b, q, u⟩
      · obtain⟨b, J, M⟩ := I (k+1) j (by omega) u
        exact⟨b, by rw[DP q, J], M⟩
      · exact⟨b, Ch q, u⟩
  exact key n 0 s (by omega) B
theorem Hr{α:Type}[Inhabited α]{l:List α}{k}(h:k<l.length):l.drop k=l[k]!::l.drop (k+1):=by
 rw[xq h,wF l k h]
theorem Iv{α:Type}[Inhabited α]{l:List α}{k}(h:k<l.length):l.take (k+1)=l.take k++[l[k]!]:=by
 rw[List.take_add_one,wB h,wF l k h];rfl
theorem BN{α:Type}[Inhabited α]{l:List α}{k}(h:k<l.length):l[k]! ∈ l:=by
 rw[wF l k h];exact xw h
theorem vA{ρ:Type}{n k:Nat}{g:Nat→Option ρ}{r:ρ}(w:k<n)(l:∀j,j<k→g j=none)(q:g k=some r):(List.range n).findSome? g=some r:=by
 obtain⟨m,rfl⟩:∃m,n=k+(m+1):=⟨n-k-1,by omega⟩
 rw[yp,← List.range'_append (s:=0) (m:=k) (n:=m+1) (step:=1),List.findSome?_append]
 have:(List.range' 0 k).findSome? g=none:=by
  rw[wz];intro x u;exact l x (by simpa using u)
 rw[this,yk,wW,ze,xZ,q];rfl
theorem gC{ρ:Type}{n:Nat}{g:Nat→Option ρ}(l:∀j,j<n→g j=none):(List.range n).findSome? g=none:=by
 rw[wz];intro x q;exact l x (by simpa using q)
theorem JR{x}(j : -9223372036854775808≤x)(l:x≤9223372036854775807):AN .i64 x=some x:=By j l
theorem Ix x j l:CX x j l=some ((j≤x)&&(x≤l)):=by
 unfold CX
 rfl
theorem kj{α σ β γ:Type}[Inhabited α]{f}(l:List α)(mk:γ→Nat→σ)(j:List α→γ→β)(I:Nat→γ→Prop)
 (A:∀k c, k<l.length→I k c→(∃q, f (mk c k)=some (.inl (mk q (k+1)))∧I (k+1) q∧j (l[k]!::l.drop (k+1)) c=j (l.drop (k+1)) q)∨f (mk c k)=some (.inr (j (l[k]!::l.drop (k+1)) c)))
 (B:∀c, I l.length c→f (mk c l.length)=some (.inr (j [] c))) (c:γ) (C:I 0 c) (s:σ) (E:s=mk c 0):iter f s=some (j l c) := by
  subst E
  have key:∀m k c, k+m=l.length→I k c→iter f (mk c k)=some (j (l.drop k) c) := by
    intro m
    induction m with
    | zero =>
      intro k c F u
      obtain rfl:k=l.length := by omega
      rw[zg]
      exact Ch (B c u)
    | succ m J =>
      intro k c F u
      rw[Hr (by omega)]
      rcases A k c (by omega) u with ⟨q, w, M, O⟩ | w
      · rw[DP w, J (k+1) q (by omega) M, O]
      · exact Ch w
  have := key l.length 0 c (by omega) C
  rwa [List.drop_zero] at this
theorem UN{o:List Int}{x}(h:o.length+1≤1099511627776):app 8 o [x]=some (o++[x]):=by
 unfold app;rw[vw (by simp;omega)]
def HF(c:Int):Bool:=(c=9)||(c=10)||((32≤c)&&(c≤126))||((160≤c)&&(c≤55295))||((57344≤c)&&(c≤1114111))
def Bx(x:AG):Int:=
 if(x.Char=0∧x.Ref=0)∨(x.Char≠0∧x.Ref≠0) then 4 else if(x.Char≠0∧HF x.Char=false)∨(x.Ref≠0∧¬ (1≤x.Ref∧x.Ref≤1073741824)) then 2 else Ao x.Attrs false
def ES(x:AG):Prop:=x.Attrs.length≤9223372036854775807∧HZ x.Attrs
theorem cG c:MQ c=some (HF c):=by
 unfold MQ HF
 congr 1
 rw[wo]
 simp only[wD,v7,vx]
 omega
theorem dM c:Mf c=some (HF c):=by
 unfold Mf HF
 rw[Ix,Ix,Ix]
 generalize decide (c=9)=j
 generalize decide (c=10)=l
 generalize ((32≤c)&&(c≤126))=a3
 generalize ((160≤c)&&(c≤55295))=a4
 generalize ((57344≤c)&&(c≤1114111))=a5
 cases j<;>cases l<;>cases a3<;>cases a4<;>cases a5<;>rfl
theorem VJ(x:AG)(h:ES x):NA x=some (Bx x):=by
 unfold NA Bx
 rw[cG,Le _ h.2 h.1]
 by_cases c:x.Char=0
 ·by_cases r:x.Ref=0
  ·simp[c,r]
  ·by_cases q:1≤x.Ref∧x.Ref≤1073741824
   ·have j:¬ x.Ref<1:=by omega
    have l:¬ 1073741824<x.Ref:=by omega
    simp[c,r,q,j,l]
   ·have j:x.Ref<1∨1073741824<x.Ref:=by omega
    simp[c,r,q,j]
 ·by_cases r:x.Ref=0
  ·cases u:HF x.Char<;>simp[c,r,u]
  ·simp[c,r]
theorem VF(x:AG)(h:ES x):Nx x=some (Bx x):=by
 unfold Nx Bx
 rw[dM,QX _ _ h.2 h.1,Ix]
 by_cases c:x.Char=0
 ·by_cases r:x.Ref=0
  ·simp[c,r]
  ·by_cases q:1≤x.Ref∧x.Ref≤1073741824
   ·simp[c,r,q]
   ·have j:((1≤x.Ref)&&(x.Ref≤1073741824))=false:=by rw[← xR];simpa using q
    simp[c,r,q,j]
 ·by_cases r:x.Ref=0
  ·cases l:HF x.Char<;>simp[c,r,l]
  ·simp[c,r]
def Ei(f:List AG)(k:Nat):Option Int:=if Bx f[k]! = 0 then none else some (Bx f[k]!)
def FR(f:List AG):Int:=((List.range f.length).findSome? (Ei f)).getD 0
theorem oc(f:List AG)(h:∀x∈f,ES x)(l:f.length≤9223372036854775807):PY f=some (FR f):=by
 unfold PY
 rw[CP (n:=f.length) (Ei f) (λk j=>by
  unfold RU Ei
  rw[vw (by simpa using j),AZ j,AD,Ae (by omega),VJ _ (h _ (BN j)),AD]
  by_cases e:Bx f[k]! = 0
  ·rw[ne (by simpa using e),vw e];rfl
  ·rw[vw (by simpa using e),ne e];rfl) (by unfold RU;rw[ne (by simp)]),FX];rfl
theorem ni(f:List AG)(h:∀x∈f,ES x)(l:f.length≤9223372036854775807):Re f=some (FR f):=by
 unfold Re
 rw[CP (n:=f.length) (Ei f) (λk j=>by
  unfold O6 Ei
  rw[vw (by simpa using j),AZ j,AD,Ae (by omega),VF _ (h _ (BN j)),AD]
  by_cases e:Bx f[k]! = 0
  ·rw[ne (by simpa using e),vw e];rfl
  ·rw[vw (by simpa using e),ne e];rfl) (by unfold O6;rw[ne (by simp)]),FX];rfl
theorem OZ{f:List AG}(h:FR f=0){k}(w:k<f.length):Bx f[k]! = 0:=by
 unfold FR at h
 cases l:(List.range f.length).findSome? (Ei f) with
 | some e=>
  rw[l] at h
  have h:e=0:=h
  subst h
  obtain⟨j,_,q⟩:=xE l
  unfold Ei at q
  split at q
  ·cases q
  ·rename_i u;exact absurd (wn q) u
 | none=>
  rw[wz] at l
  have:=l k (wi.2 w)
  unfold Ei at this
  split at this
  ·rename_i u;exact u
  ·cases this
theorem iH{x:AG}(h:Bx x=0):Ao x.Attrs false=0:=by
 unfold Bx at h
 split at h
 ·cases h
 ·split at h
  ·cases h
  ·exact h
def Mo:List UInt8:=[104,105,100,100,101,110]
def Mx:List UInt8:=[111,110]
def S5:List UInt8:=[99,117,116]
def Xl:List UInt8:=[97,100,100]
def B1(x:AG)(j:Int):Bool:=(Dc x.Attrs Mo=Mx)||((j=0)&&!(Dc x.Attrs S5=[]))||((j=1)&&!(Dc x.Attrs Xl=[]))
theorem lR(x:AG) j(h:ES x):QY x j=some (B1 x j):=by
 unfold QY B1
 rw[PI _ _ h.1,PI _ _ h.1,PI _ _ h.1,AD]
 show(AB (gd ((decide (Dc x.Attrs Mo=Mx)==false)&&(decide (j=0)==true)) (some (Dc x.Attrs S5))) λ(l:List UInt8)=>
  AB (gd ((((Dc x.Attrs Mo=Mx)||((j=0)&&!(l=[])))==false)&&(decide (j=1)==true)) (some (Dc x.Attrs Xl))) λ(w:List UInt8)=>
   some (((Dc x.Attrs Mo=Mx)||((j=0)&&!(l=[])))||((j=1)&&!(w=[]))))=_
 cases decide (Dc x.Attrs Mo=Mx)
 ·by_cases q:j=0
  ·subst q
   cases A:decide (Dc x.Attrs S5=[])<;>simp[A]
  ·by_cases u:j=1
   ·subst u;simp
   ·simp[q,u]
 ·simp
def DI(f:List AG)(j:Int)(k:Nat):Bool:=!B1 f[k]! j||((k+1=f.length)&&(f[k]!.Char=10))
def shown(f:List AG)(j:Int)(k:Nat):List Int:=((List.range k).filter (DI f j)).map λ(i:Nat)=>(i:Int)
theorem ZZ f j k:shown f j (k+1)=if DI f j k then shown f j k++[(k:Int)] else shown f j k:=by
 unfold shown
 rw[List.range_succ,List.filter_append]
 split<;>rename_i h<;>simp[h]
theorem gk f j k:(shown f j k).length≤k:=by
 unfold shown
 rw[wZ]
 exact xF (yo _ _) (by simp)
theorem pZ(f:List AG) j(h:∀x∈f,ES x)(A:f.length≤1048576):Pg f j=some (shown f j f.length):=by
 unfold Pg
 obtain⟨b,u,w⟩:=FA (f:=λ(a:Int × (List Int))=>NY f j a.1 a.2) f.length (λk s=>s=((k:Int),shown f j k)) (λb=>b=shown f j f.length)
  (λk s l q=>by
   subst q
   left
   have B:=gk f j k
   unfold NY
   simp only
   rw[vw (by simpa using l),AZ l,AD,Ae (by omega),lR _ _ (h _ (BN l)),AD,JR (by omega) (by omega),UN (by omega),ZZ]
   unfold DI
   generalize f[k]! = x
   refine⟨_,?_,rfl⟩
   have e:decide ((k:Int)=(f.length:Int)-1)=decide (k+1=f.length):=by rw[wo];simp;omega
   cases B1 x j
   ·simp
   ·simp only[zG,xp,An,AD,xj,e]
    cases ((k+1=f.length)&&(x.Char=10))<;>rfl)
  (λs q=>by
   subst q
   unfold NY
   exact⟨_,by rw[ne (by simp)],rfl⟩) (s:=(0,[])) rfl
 rw[u,w];rfl
theorem ij(f:List AG) j(h:∀x∈f,ES x)(I:FR f=0)(X:f.length≤1048576):H7 f j=some (shown f j f.length):=by
 unfold H7
 obtain⟨b,J,M⟩:=FA (f:=λ(a:Int × (List Int))=>NK f j a.1 a.2) f.length (λk s=>s=((k:Int),shown f j k)) (λb=>b=shown f j f.length)
  (λk s q w=>by
   subst w
   left
   have Y:=gk f j k
   have B:=iH (OZ I q)
   have u:=h _ (BN q)
   unfold NK
   simp only
   rw[vw (by simpa using q),AZ q,AD,Ae (by omega),JR (by omega) (by omega),UN (by omega),ZZ]
   unfold DI
   generalize f[k]! = x at B u ⊢
   obtain⟨Z,n1,v1⟩:=EL B
   have C:∀n,(Au x.Attrs n).isSome=!(Dc x.Attrs n=[]):=λn=>by
    rw[pp]
    cases O:Au x.Attrs n with
    | none=>rfl
    | some y=>have:=v1 rfl y (SL O).2;simp[this]
   rw[Ul _ _ u.1,fD _ _ u.1,fD _ _ u.1,AD,C,C]
   refine⟨_,?_,rfl⟩
   have e:decide ((k:Int)=(f.length:Int)-1)=decide (k+1=f.length):=by rw[wo];simp;omega
   have key:∀b:Bool,(AB (gd (b==false) (some ((f.length:Int)-1))) λ(T:Int)=>if(b||(((k:Int)=T)&&(x.Char=10)))=true then(AB (some (shown f j k++[(k:Int)])) λl=>some l) else some (shown f j k)) =
     some (if(b||((k+1=f.length)&&(x.Char=10)))=true then shown f j k++[(k:Int)] else shown f j k):=by
    intro b
    cases b
    ·simp only[xp,An,AD,e];split<;>rfl
    ·rfl
   simp only[key]
   clear key e
   unfold B1 Mo Mx S5 Xl
   generalize decide (k+1=f.length)=le
   generalize decide (x.Char=10)=ce
   generalize decide (Dc x.Attrs [104,105,100,100,101,110]=[111,110])=A
   generalize decide (Dc x.Attrs [99,117,116]=[])=U
   generalize decide (Dc x.Attrs [97,100,100]=[])=V
   by_cases E:j=0
   ·subst E
    cases A<;>cases U<;>cases le<;>cases ce<;>simp
   ·by_cases F:j=1
    ·subst F
     cases A<;>cases V<;>cases le<;>cases ce<;>simp
    ·cases A<;>cases le<;>cases ce<;>simp[E,F])
  (λs w=>by
   subst w
   unfold NK
   exact⟨_,by rw[ne (by simp)],rfl⟩) (s:=(0,[])) rfl
 rw[J,M];rfl
theorem Bb{p}[Decidable p](h:¬ p):(!decide p)=true:=by simp[h]
theorem CI{p}[Decidable p](h:p):¬ ((!decide p)=true):=by simp[h]
def CZ(l:List AC):Prop:=l.length≤1073741824∧HZ l
theorem CZ.e{x:AG}(h:CZ x.Attrs):ES x:=⟨by have:=h.1;omega,h.2⟩
structure Gn(s:AI):Prop where
 at_:CZ s.Attrs
 el:s.Elems.length≤1073741824
 ea:∀e∈s.Elems,CZ e.Attrs
structure FS(d:List AI):Prop where
 len:d.length≤1099511627776
 st:∀s∈d,Gn s
 sum:(d.map λs=>s.Elems.length).sum≤1073741824
theorem cH{f:List AG}(h:∀e∈f,CZ e.Attrs):∀e∈f,ES e:=λe j=>(h e j).e
def Cy(s:AI):Int:=
 if s.Kind=1 then(if s.N≠0∨s.Attrs≠[] then 4 else if s.Elems=[] then 11 else FR s.Elems)
 else if s.Kind=0∨s.Kind=2 then(if s.Elems≠[]∨(s.Kind=2∧s.Attrs≠[]) then 4 else if s.N<1∨2147483647<s.N then 2 else Ao s.Attrs true)
 else 8
theorem Rp{α:Type}[DecidableEq α](l:List α):decide (0<(l.length:Int))=!(l=[]):=by
 by_cases h:l=[]
 ·subst h;rfl
 ·have:=yA.2 h
  rw[vy h,vz (by omega)];rfl
theorem YB{α:Type}[DecidableEq α](l:List α):decide ((l.length:Int)=0)=decide (l=[]):=by
 by_cases h:l=[]
 ·subst h;rfl
 ·have:=yA.2 h
  rw[vy h,vy (by omega)]
theorem YG:∀(j l r q:Bool),j=false∨l=false→(j&&(!l||r))=(j&&(!l||q)):=by decide
theorem V6(s:AI)(h:Gn s):NU s=some (Cy s):=by
 have B:=h.at_.1
 have C:=h.el
 unfold NU Cy
 rw[gR _ h.at_.2 (by omega),oc _ (cH h.ea) (by omega),Rp,Rp,YB]
 by_cases A:s.Kind=1
 ·have u:¬ s.Kind=0:=by omega
  have w:¬ s.Kind=2:=by omega
  simp only[A,AD]
  by_cases j:s.N=0<;>by_cases l:s.Attrs=[]<;>by_cases q:s.Elems=[]<;>simp[j,l,q]
 ·by_cases u:s.Kind=0
  ·simp only[u,AD]
   by_cases l:s.Attrs=[]<;>by_cases q:s.Elems=[]<;>by_cases j:s.N<1∨2147483647<s.N<;>simp[l,q,j]
  ·by_cases w:s.Kind=2
   ·simp only[w,AD]
    by_cases l:s.Attrs=[]<;>by_cases q:s.Elems=[]<;>by_cases j:s.N<1∨2147483647<s.N<;>simp[l,q,j]
   ·simp[u,A,w]
theorem rX(s:AI)(h:Gn s):RW s=some (Cy s):=by
 have C:=h.at_.1
 have E:=h.el
 unfold RW Cy
 rw[QX _ _ h.at_.2 (by omega),ni _ (cH h.ea) (by omega),Ix,Ix,Rp,Rp,YB]
 by_cases u:s.Kind=1
 ·simp only[u,AD]
  by_cases j:s.N=0<;>by_cases l:s.Attrs=[]<;>by_cases q:s.Elems=[]<;>simp[j,l,q]
 ·have B:(!((1≤s.N)&&(s.N≤2147483647)))=decide (s.N<1∨2147483647<s.N):=by
   rw[wo];simp only[wy,yN,vx,xc];omega
  simp only[AD]
  rw[B]
  by_cases w:s.Kind=0
  ·simp only[w]
   by_cases l:s.Attrs=[]<;>by_cases q:s.Elems=[]<;>by_cases j:s.N<1∨2147483647<s.N<;>simp[l,q,j]
  ·by_cases A:s.Kind=2
   ·simp only[A]
    by_cases l:s.Attrs=[]<;>by_cases q:s.Elems=[]<;>by_cases j:s.N<1∨2147483647<s.N<;>simp[l,q,j]
   ·have:(!((0≤s.Kind)&&(s.Kind≤2)))=true:=by
     rw[wy,yN];simp only[vx,xc];omega
    rw[this];simp[w,u,A]
structure Fb(s:AI):Prop where
 kind:(s.Kind=0∧s.Elems=[]∧1≤s.N∧s.N≤2147483647∧Ao s.Attrs true=0)∨(s.Kind=2∧s.Elems=[]∧s.Attrs=[]∧1≤s.N∧s.N≤2147483647) ∨
  (s.Kind=1∧s.N=0∧s.Attrs=[]∧s.Elems≠[]∧FR s.Elems=0)
theorem Qj{s:AI}(h:Cy s=0):Fb s:=by
 constructor
 unfold Cy at h
 by_cases u:s.Kind=1
 ·rw[vw u] at h
  by_cases j:s.N≠0∨s.Attrs≠[]
  ·rw[vw j] at h;cases h
  ·rw[ne j] at h
   by_cases q:s.Elems=[]
   ·rw[vw q] at h;cases h
   ·rw[ne q] at h
    refine .inr (.inr ⟨u,?_,?_,q,h⟩)
    ·exact wX λl=>j (.inl l)
    ·exact wX λl=>j (.inr l)
 ·rw[ne u] at h
  by_cases k:s.Kind=0∨s.Kind=2
  ·rw[vw k] at h
   by_cases j:s.Elems≠[]∨(s.Kind=2∧s.Attrs≠[])
   ·rw[vw j] at h;cases h
   ·rw[ne j] at h
    by_cases q:s.N<1∨2147483647<s.N
    ·rw[vw q] at h;cases h
    ·rw[ne q] at h
     have w:s.Elems=[]:=wX λl=>j (.inl l)
     rcases k with k | k
     ·exact .inl ⟨k,w,by omega,by omega,h⟩
     ·exact .inr (.inl ⟨k,w,wX λl=>j (.inr ⟨k,l⟩),by omega,by omega⟩)
  ·rw[ne k] at h;cases h
def D3(p s:AI):Bool:=((p.Kind=s.Kind)&&(!(s.Kind=0)||(p.Attrs=s.Attrs)))||((p.Kind=2)&&(s.Kind=1))
def B2(s:AI):Int:=if s.Kind=1 then 0 else s.N
def Cu(s:AI):Int:=if s.Kind=2 then 0 else if s.Kind=1 then s.Elems.length else s.N
def A5(d:List AI):Int:=(d.map B2).sum
def BH(d:List AI):Int:=(d.map Cu).sum
theorem UJ{d:List AI}{k}(h:k<d.length):A5 (d.take (k+1))=A5 (d.take k)+B2 d[k]!:=by rw[Iv h];simp[A5]
theorem WV{d:List AI}{k}(h:k<d.length):BH (d.take (k+1))=BH (d.take k)+Cu d[k]!:=by rw[Iv h];simp[BH]
def E7(d:List AI)(k:Nat):Option Int:=if Cy d[k]!≠0 then some (Cy d[k]!) else if 0<k∧D3 d[k-1]! d[k]! = true then some 5 else none
def CY(d:List AI):Int:=match (List.range d.length).findSome? (E7 d) with
 | some e=>e
 | none=>if 2147483647<A5 d∨2147483647<BH d then 3 else 0
theorem eE{f:Int × Int × Int→Option ((Int × Int × Int) ⊕ (As (Int × Int) Int))}(n:Nat)(g:Nat→Option Int)(I:Nat→Int × Int→Prop)
  (h:∀(k:Nat) (a b:Int),k<n→(∀j,j<k→g j=none)→I k (a,b)→(∃e,g k=some e∧f (a,b,(k:Int))=some (.inr (.ext e)))∨(g k=none∧∃A B,f (a,b,(k:Int))=some (.inl (A,B,((k+1:Nat):Int)))∧I (k+1) (A,B)))
  (q:∀(a b:Int),I n (a,b)→f (a,b,(n:Int))=some (.inr (.nrm (a,b)))) {a0 b0:Int} (O:I 0 (a0,b0)) :
  (∃e,(List.range n).findSome? g=some e∧iter f (a0,b0,0)=some (.ext e))∨((List.range n).findSome? g=none∧∃a b,I n (a,b)∧iter f (a0,b0,0)=some (.nrm (a,b))):=by
 obtain⟨b,E,T⟩:=FA (f:=f) n (λk s=>s.2.2=(k:Int)∧I k (s.1,s.2.1)∧∀j,j<k→g j=none)
  (λb=>(∃e,(List.range n).findSome? g=some e∧b=.ext e)∨((List.range n).findSome? g=none∧∃x y,I n (x,y)∧b=.nrm (x,y)))
  (λk s F C=>by
   obtain⟨x,y,z⟩:=s
   obtain⟨rfl,w,hg⟩:=C
   rcases h k x y F hg w with ⟨e,l,u⟩ | ⟨l,A,B,u,U⟩
   ·exact .inr ⟨_,u,.inl ⟨e,vA F hg l,rfl⟩⟩
   ·refine .inl ⟨_,u,rfl,U,λj J=>?_⟩
    rcases yU j k with M | M
    ·exact hg j M
    ·obtain rfl:j=k:=by omega
     exact l)
  (λs C=>by
   obtain⟨x,y,z⟩:=s
   obtain⟨rfl,w,hg⟩:=C
   exact⟨_,q x y w,.inr ⟨gC hg,x,y,w,rfl⟩⟩) (s:=(a0,b0,0)) ⟨rfl,O,λj J=>absurd J (zT _)⟩
 rcases T with ⟨e,l,rfl⟩ | ⟨l,x,y,u,rfl⟩
 ·exact .inl ⟨e,l,E⟩
 ·exact .inr ⟨l,x,y,u,E⟩
theorem Sh{s:AI}(h:Fb s)(j:Gn s):0≤B2 s∧B2 s≤2147483647∧0≤Cu s∧Cu s≤2147483647∧(s.Kind≠2→s.N+s.Elems.length=Cu s)∧(s.Kind≠2→HS s=some (Cu s)):=by
 have u:=j.el
 unfold B2 Cu HS
 rcases h.kind with ⟨k,e,l,q,_⟩ | ⟨k,e,_,l,q⟩ | ⟨k,n,_,_,_⟩
 ·rw[e];simp[k];omega
 ·rw[e];simp[k];omega
 ·simp[k,n];omega
theorem YP{d}{k}(h:E7 d k=none):Cy d[k]! = 0∧(0<k→D3 d[k-1]! d[k]! = false):=by
 unfold E7 at h
 by_cases c:Cy d[k]!≠0
 ·rw[vw c] at h;cases h
 ·rw[ne c] at h
  refine⟨wU.1 c,λj=>?_⟩
  cases l:D3 d[k-1]! d[k]! with
  | false=>rfl
  | true=>rw[vw ⟨j,l⟩] at h;cases h
theorem PU(d:List AI)(h:FS d):Iw d=some (CY d):=by
 have hm:=h.len
 unfold Iw CY
 rcases eE (f:=λ(a:Int × Int × Int)=>Il d a.1 a.2.1 a.2.2) d.length (E7 d) (λk c=>0≤A5 (d.take k)∧0≤BH (d.take k)∧c=(min (A5 (d.take k)) 2147483648,min (BH (d.take k)) 2147483648))
  (λk a b B _ hI=>by
   obtain⟨p1,p2,M⟩:=hI
   cases M
   have C:=h.st _ (BN B)
   show(∃e,_∧Il d (min (A5 (d.take k)) 2147483648) (min (BH (d.take k)) 2147483648) (k:Int)=_)∨(_∧∃a' b',Il d (min (A5 (d.take k)) 2147483648) (min (BH (d.take k)) 2147483648) (k:Int)=_∧_)
   unfold Il
   rw[vw (by simpa using B),AZ B,AD,V6 _ C,AD]
   by_cases l:Cy d[k]!≠0
   ·exact .inl ⟨_,by unfold E7;rw[vw l],by rw[vw (by simpa using l)];rfl⟩
   rw[ne (by simpa using l)]
   have hg:=Qj (wU.1 l)
   obtain⟨z1,z2,z3,z4,z5,z6⟩:=Sh hg C
   have E:∀(β:Type) (F:Unit→Option (As β ((Int × Int × Int) ⊕ (As (Int × Int) Int)))),(Aq (if(decide ((0:Int)<(k:Int))) then(AB (AN .i64 ((k:Int)-1)) λ(x8:Int)=>AB (AL d x8) λ(O:AI)=>
     AB (gd (((decide (O.Kind=d[k]!.Kind))==true)&&((!(d[k]!.Kind=0))==false)) (HC O.Attrs d[k]!.Attrs)) λ(r2:Bool)=>
     if(((O.Kind=d[k]!.Kind)&&((!(d[k]!.Kind=0))||r2))||((O.Kind=2)&&(d[k]!.Kind=1))) then(some (.ext (.ext (.inr (.ext 5))))) else(some (.nrm ()))) else(some (.nrm ()))) F) =
     if 0<k∧D3 d[k-1]! d[k]! = true then some (.ext (.inr (.ext 5))) else F ():=by
    intro β F
    by_cases q:0<k
    ·rw[vw (by simp;omega),E8 q (by omega),AD,AZ (by omega),AD]
     have hp:=(h.st _ (BN (l:=d) (k:=k-1) (by omega))).at_.1
     have e:∀j:Bool→Option (As Unit (As β ((Int × Int × Int) ⊕ (As (Int × Int) Int)))),(∀r,((d[k-1]!.Kind=d[k]!.Kind)&&((!(d[k]!.Kind=0))||r))=((d[k-1]!.Kind=d[k]!.Kind)&&((!(d[k]!.Kind=0))||(d[k-1]!.Attrs=d[k]!.Attrs)))→j r=j (decide (d[k-1]!.Attrs=d[k]!.Attrs))) →
       AB (gd (((decide (d[k-1]!.Kind=d[k]!.Kind))==true)&&((!(d[k]!.Kind=0))==false)) (HC d[k-1]!.Attrs d[k]!.Attrs)) j=j (decide (d[k-1]!.Attrs=d[k]!.Attrs)):=by
      intro j X
      rw[Q9 _ _ (by omega)]
      by_cases u:d[k-1]!.Kind=d[k]!.Kind<;>by_cases I:d[k]!.Kind=0
      ·rw[vz u,vz I];rfl
      ·rw[vz u,vy I]
       show j default=_
       exact X _ (YG _ _ _ _ (.inr (vy I)))
      ·rw[vy u,vz I]
       show j default=_
       exact X _ (YG _ _ _ _ (.inl (vy u)))
      ·rw[vy u,vy I]
       show j default=_
       exact X _ (YG _ _ _ _ (.inl (vy u)))
     rw[e _ (λr hr=>by rw[hr])]
     by_cases A:D3 d[k-1]! d[k]! = true
     ·rw[vw (c:=(_||_)=true) (by unfold D3 at A;exact A),vw ⟨q,A⟩];rfl
     ·rw[ne (c:=(_||_)=true) (by unfold D3 at A;exact A),ne (λY=>A Y.2)];rfl
    ·rw[ne (by simp;omega),ne (λY=>q Y.1)];rfl
   rw[E]
   by_cases J:0<k∧D3 d[k-1]! d[k]! = true
   ·exact .inl ⟨5,by unfold E7;rw[ne l,vw J],by rw[vw J];rfl⟩
   ·rw[ne J]
    refine .inr ⟨by unfold E7;rw[ne l,ne J],?_⟩
    rw[UJ B,WV B]
    clear E l J
    generalize A5 (d.take k)=o at p1 ⊢
    generalize BH (d.take k)=w at p2 ⊢
    by_cases T:d[k]!.Kind=1
    ·have U:B2 d[k]! = 0:=by unfold B2;rw[vw T]
     rw[ne (CI T),AD,vw (Bb (by omega)),z6 (by omega),AD,By (by omega) (by omega),AD,F1,Ae (by omega),AD]
     exact⟨_,_,rfl,by omega,by omega,by rw[U];congr 1<;>omega⟩
    ·have U:B2 d[k]! = d[k]!.N:=by unfold B2;rw[ne T]
     rw[vw (Bb T),By (by omega) (by omega),AD,AD]
     by_cases V:d[k]!.Kind=2
     ·have hw:Cu d[k]! = 0:=by unfold Cu;rw[vw V]
      rw[ne (CI V),F1,Ae (by omega),AD]
      exact⟨_,_,rfl,by omega,by omega,by rw[hw,← U];congr 1<;>omega⟩
     ·rw[vw (Bb V),z6 V,AD,By (by omega) (by omega),AD,F1,Ae (by omega),AD]
      exact⟨_,_,rfl,by omega,by omega,by rw[← U];congr 1<;>omega⟩)
  (λa b hI=>by
   show Il d a b (d.length:Int)=_
   unfold Il
   rw[ne (by simp)]) (a0:=0) (b0:=0) ⟨by simp[A5],by simp[BH],by simp[A5,BH];decide⟩ with ⟨e,Z,h2⟩ | ⟨Z,a,b,⟨_,_,M⟩,h2⟩
 ·rw[Z,h2];rfl
 ·rw[Z,h2,F1]
  rw[yC] at M
  cases M
  by_cases hx:2147483647<A5 d∨2147483647<BH d
  ·rw[vw (by simp;omega)];simp only;rw[vw hx]
  ·rw[ne (by simp;omega)];simp only;rw[ne hx]
theorem ow(p s:AI)(hp:p.Kind=0∨p.Kind=1∨p.Kind=2)(u:p.Attrs.length≤1073741824)(l:s.Kind=0∨s.Kind=1∨s.Kind=2){γ:Type}(A B:Option γ) :
  (if(decide (s.Kind=1)) then(if(!(p.Kind=0)) then A else B) else(if(decide (s.Kind=2)) then(if(decide (p.Kind=2)) then A else B) else
   (AB (gd ((decide (p.Kind=0))==true) (GI p.Attrs s.Attrs)) λ(q:Bool)=>if((p.Kind=0)&&q) then A else B)))=if D3 p s=true then A else B:=by
 rw[M7 _ _ (by omega)]
 unfold D3
 rcases l with k | k | k<;>rcases hp with j | j | j<;>simp[k,j,default]
theorem Jk{s:AI}(h:Fb s):s.Kind=0∨s.Kind=1∨s.Kind=2:=by
 rcases h.kind with ⟨k,_⟩ | ⟨k,_⟩ | ⟨k,_⟩
 ·exact .inl k
 ·exact .inr (.inr k)
 ·exact .inr (.inl k)
theorem rh(d:List AI)(h:FS d):NC d=some (CY d):=by
 have hm:=h.len
 unfold NC CY
 rcases eE (f:=λ(a:Int × Int × Int)=>IX d a.1 a.2.1 a.2.2) d.length (E7 d)
  (λk c=>0≤A5 (d.take k)∧0≤BH (d.take k)∧(A5 (d.take k)≤2147483647→c.1=A5 (d.take k))∧(2147483647<A5 (d.take k)→2147483647<c.1)∧0≤c.1∧c.1≤4294967296 ∧
   (BH (d.take k)≤2147483647→c.2=BH (d.take k))∧(2147483647<BH (d.take k)→2147483647<c.2)∧0≤c.2∧c.2≤4294967296)
  (λk a b A B C=>by
   obtain⟨p1,p2,q1,q2,q3,q4,q5,q6,q7,q8⟩:=C
   dsimp only at q1 q2 q3 q4 q5 q6 q7 q8
   have E:=h.st _ (BN A)
   show(∃e,_∧IX d a b (k:Int)=_)∨(_∧∃a' b',IX d a b (k:Int)=_∧_)
   unfold IX
   rw[vw (by simpa using A),AZ A,AD,rX _ E,AD]
   by_cases j:Cy d[k]!≠0
   ·exact .inl ⟨_,by unfold E7;rw[vw j],by rw[vw (Bb j)];rfl⟩
   rw[ne (CI (wU.1 j))]
   have hg:=Qj (wU.1 j)
   obtain⟨z1,z2,z3,z4,z5,z6⟩:=Sh hg E
   have I:∀(β:Type) (F:Unit→Option (As β ((Int × Int × Int) ⊕ (As (Int × Int) Int)))),(Aq (if(decide ((0:Int)<(k:Int))) then(AB (AN .i64 ((k:Int)-1)) λ(x7:Int)=>AB (AL d x7) λ(J:AI)=>
      if(decide (d[k]!.Kind=1)) then(
       if(!(J.Kind=0)) then(
        some (.ext (.ext (.inr (.ext 5))))
       ) else(
        some (.nrm ())
       )
      ) else(
       if(decide (d[k]!.Kind=2)) then(
        if(decide (J.Kind=2)) then(
         some (.ext (.ext (.inr (.ext 5))))
        ) else(
         some (.nrm ())
        )
       ) else(
        AB (gd ((decide (J.Kind=0))==true) (GI J.Attrs d[k]!.Attrs)) λ(M:Bool)=>
        if((J.Kind=0)&&M) then(
         some (.ext (.ext (.inr (.ext 5))))
        ) else(
         some (.nrm ())
        )
       )
      )) else(some (.nrm ()))) F) =
     if 0<k∧D3 d[k-1]! d[k]! = true then some (.ext (.inr (.ext 5))) else F ():=by
    intro β F
    by_cases l:0<k
    ·rw[vw (by rw[vx];omega),E8 l (by omega),AD,AZ (by omega),AD]
     have hp:=(h.st _ (BN (l:=d) (k:=k-1) (by omega))).at_.1
     have Y:=Jk (Qj (YP (B (k-1) (by omega))).1)
     rw[ow _ _ Y hp (Jk hg)]
     by_cases q:D3 d[k-1]! d[k]! = true
     ·rw[vw q,vw ⟨l,q⟩];rfl
     ·rw[ne q,ne (λZ=>q Z.2)];rfl
    ·rw[ne (by rw[vx];omega),ne (λZ=>l Z.1)];rfl
   rw[I]
   by_cases O:0<k∧D3 d[k-1]! d[k]! = true
   ·exact .inl ⟨5,by unfold E7;rw[ne j,vw O],by rw[vw O];rfl⟩
   ·rw[ne O]
    refine .inr ⟨by unfold E7;rw[ne j,ne O],?_⟩
    rw[UJ A,WV A]
    clear I j O
    generalize A5 (d.take k)=o at p1 q1 q2 ⊢
    generalize BH (d.take k)=w at p2 q5 q6 ⊢
    have T:∃u,(if((!(d[k]!.Kind=1))&&(a<2147483648)) then(AB (AN .i64 (a+d[k]!.N)) λ(U:Int)=>some U) else some a)=some u∧(o+B2 d[k]!≤2147483647→u=o+B2 d[k]!)∧(2147483647<o+B2 d[k]!→2147483647<u)∧0≤u∧u≤4294967296:=by
     by_cases V:d[k]!.Kind=1
     ·have ho:B2 d[k]! = 0:=by unfold B2;rw[vw V]
      rw[ne (by rw[v7];exact λh=>CI V h.1)]
      exact⟨a,rfl,by omega,by omega,by omega,by omega⟩
     ·have ho:B2 d[k]! = d[k]!.N:=by unfold B2;rw[ne V]
      by_cases ha:a<2147483648
      ·rw[vw (by rw[v7];exact⟨Bb V,vz ha⟩),By (by omega) (by omega),AD]
       exact⟨_,rfl,by omega,by omega,by omega,by omega⟩
      ·rw[ne (by rw[v7];exact λh=>ha (yH h.2))]
       exact⟨a,rfl,by omega,by omega,by omega,by omega⟩
    obtain⟨u,e1,M,r2,r3,r4⟩:=T
    rw[e1,AD]
    by_cases X:d[k]!.Kind=2
    ·have hw:Cu d[k]! = 0:=by unfold Cu;rw[vw X]
     rw[ne (by rw[v7];exact λh=>CI X h.1),F1,Ae (by omega),AD]
     exact⟨_,_,rfl,by omega,by omega,M,r2,r3,r4,by dsimp only;omega,by dsimp only;omega,by dsimp only;omega,by dsimp only;omega⟩
    ·have hN:=z5 X
     by_cases q:b<2147483648
     ·rw[vw (by rw[v7];exact⟨Bb X,vz q⟩),By (by omega) (by omega),AD,By (by omega) (by omega),AD,F1,Ae (by omega),AD]
      exact⟨_,_,rfl,by omega,by omega,M,r2,r3,r4,by dsimp only;omega,by dsimp only;omega,by dsimp only;omega,by dsimp only;omega⟩
     ·rw[ne (by rw[v7];exact λh=>q (yH h.2)),F1,Ae (by omega),AD]
      exact⟨_,_,rfl,by omega,by omega,M,r2,r3,r4,by dsimp only;omega,by dsimp only;omega,by dsimp only;omega,by dsimp only;omega⟩)
  (λa b C=>by
   show IX d a b (d.length:Int)=_
   unfold IX
   rw[ne (by simp)]) (a0:=0) (b0:=0) ⟨by simp[A5],by simp[BH],by simp[A5],by simp[A5],by simp,by simp,by simp[BH],by simp[BH],by simp,by simp⟩ with ⟨e,h1,h2⟩ | ⟨h1,a,b,C,h2⟩
 ·rw[h1,h2];rfl
 ·rw[h1,h2,F1]
  rw[yC] at C
  dsimp only at C
  by_cases hx:2147483647<A5 d∨2147483647<BH d
  ·rw[vw (by simp;omega)];simp only;rw[vw hx]
  ·rw[ne (by simp;omega)];simp only;rw[ne hx]
inductive Un where
 | a (e:AG)
 | r (cut:Bool) (at_:List AC)
def E2:List (List AG)→List Bool→List (List AC)→List Un
 | A::j,c::l,t::q=>A.map Un.a++Un.r c t::E2 j l q
 | A::_,_,_=>A.map Un.a
 | [],_,_=>[]
structure Dn(x:Bo):Prop where
 adds:x.Adds.length=x.Cuts.length+1
 attrs:x.Attrs.length=x.Cuts.length
def Bo.us(x:Bo):List Un:=E2 x.Adds x.Cuts x.Attrs
def Un.isR:Un→Bool
 | .a _=>false
 | .r _ _=>true
def Av(us:List Un):Nat:=us.countP Un.isR
theorem bE:∀(cs:List Bool) (j:List (List AG)) (l:List (List AC)) (c:Bool) (t:List AC),j.length=cs.length+1→l.length=cs.length →
  E2 (j++[[]]) (cs++[c]) (l++[t])=E2 j cs l++[.r c t]
 | [],[A],[],c,t,_,_=>by simp[E2]
 | [],[],_,_,_,h,_=>by simp at h
 | [],_::_::_,_,_,_,h,_=>by simp at h
 | [],_,_::_,_,_,_,h=>by simp at h
 | B::cs,A::j,t0::l,c,t,q,u=>by
  have w:=bE cs j l c t (by simpa using q) (by simpa using u)
  simp only[wN,E2,w,wJ]
 | _::_,[],_,_,_,h,_=>by simp at h
 | _::_,_,[],_,_,_,h=>by simp at h
theorem aV:∀(cs:List Bool) (j:List (List AG)) (l:List (List AC)) (A q:List AG),j.length=cs.length+1→l.length=cs.length→j[cs.length]?=some A →
  E2 (j.set cs.length (A++q)) cs l=E2 j cs l++q.map Un.a
 | [],[u],[],A,q,_,_,h=>by
  simp at h;subst h
  simp[E2]
 | [],[],_,_,_,h,_,_=>by simp at h
 | [],_::_::_,_,_,_,h,_,_=>by simp at h
 | [],_,_::_,_,_,_,h,_=>by simp at h
 | F::cs,u::j,t0::l,A,q,w,B,C=>by
  have E:=aV cs j l A q (by simpa using w) (by simpa using B) (by simpa using C)
  simp only[wK,zW,E2,E,wJ,wN]
 | _::_,[],_,_,_,h,_,_=>by simp at h
 | _::_,_,[],_,_,_,h,_=>by simp at h
theorem ZP:∀(cs:List Bool) (j:List (List AG)) (q:List (List AC)),j.length=cs.length+1→q.length=cs.length→Av (E2 j cs q)=cs.length
 | [],[A],[],_,_=>by
  have:∀l:List AG,Av (l.map Un.a)=0:=λl=>by induction l with
   | nil=>rfl
   | cons x l u=>simp[Av,Un.isR]
  exact this A
 | [],[],_,h,_=>by simp at h
 | [],_::_::_,_,h,_=>by simp at h
 | [],_,_::_,_,h=>by simp at h
 | C::cs,E::j,t0::q,w,B=>by
  have u:=ZP cs j q (by simpa using w) (by simpa using B)
  have:∀l:List AG,(l.map Un.a).countP Un.isR=0:=λl=>by induction l with
   | nil=>rfl
   | cons x l u=>simp[Un.isR]
  simp only[Av,E2,List.countP_append,this,xT,Un.isR,xm,wW,wK] at u ⊢
  omega
 | _::_,[],_,h,_=>by simp at h
 | _::_,_,[],_,h=>by simp at h
theorem ZA:∀(cs:List Bool) (j:List (List AG)) (l:List (List AC)),j.length=cs.length+1→l.length=cs.length→∀A∈j,A.length≤(E2 j cs l).length
 | [],[A],[],_,_=>by simp[E2]
 | [],[],_,h,_=>by simp at h
 | [],_::_::_,_,h,_=>by simp at h
 | [],_,_::_,_,h=>by simp at h
 | B::cs,C::j,t0::l,q,u=>by
  have w:=ZA cs j l (by simpa using q) (by simpa using u)
  intro A hA
  simp only[E2,wG,wZ,wK]
  rcases wM.1 hA with rfl | hA
  ·omega
  ·have:=w A hA;omega
 | _::_,[],_,h,_=>by simp at h
 | _::_,_,[],_,h=>by simp at h
theorem sf(us:List Un):Av us≤us.length:=yO
theorem Dn.cnt{x:Bo}(h:Dn x):Av x.us=x.Cuts.length:=ZP _ _ _ h.adds h.attrs
theorem Dn.cuts_le{x:Bo}(h:Dn x):x.Cuts.length≤x.us.length:=by rw[← h.cnt];exact sf _
theorem Dn.add_le{x:Bo}(h:Dn x){k}(j:k<x.Adds.length):x.Adds[k]!.length≤x.us.length:=ZA _ _ _ h.adds h.attrs _ (BN j)
theorem pE:Dn ⟨[[]],[],[]⟩:=⟨rfl,rfl⟩
theorem tD:(⟨[[]],[],[]⟩:Bo).us=[]:=rfl
theorem Yx{x:Bo}(h:Dn x) c t:Dn ⟨x.Adds++[[]],x.Cuts++[c],x.Attrs++[t]⟩∧(⟨x.Adds++[[]],x.Cuts++[c],x.Attrs++[t]⟩:Bo).us=x.us++[.r c t]:=
 ⟨⟨by simp[h.adds],by simp[h.attrs]⟩,bE _ _ _ _ _ h.adds h.attrs⟩
theorem eZ{x:Bo}(h:Dn x)(j:List AG):Dn ⟨x.Adds.set x.Cuts.length (x.Adds[x.Cuts.length]!++j),x.Cuts,x.Attrs⟩∧(⟨x.Adds.set x.Cuts.length (x.Adds[x.Cuts.length]!++j),x.Cuts,x.Attrs⟩:Bo).us=x.us++j.map Un.a:=by
 refine⟨⟨by simp[h.adds],h.attrs⟩,aV _ _ _ _ _ h.adds h.attrs ?_⟩
 have:x.Cuts.length<x.Adds.length:=by rw[h.adds];omega
 rw[wB this,wF x.Adds _ this]
theorem jU{x:Bo}(h:Dn x)(j:x.Cuts.length≤9223372036854775806):AN .i64 ((x.Adds.length:Int)-1)=some ((x.Cuts.length:Nat):Int):=by
 rw[h.adds,By (by omega) (by omega)];congr 1;omega
theorem ZQ{α:Type}{o:List α}{x}(h:o.length+1≤1099511627776):app 24 o [x]=some (o++[x]):=by
 unfold app;rw[vw];simp only[wu];omega
theorem oI{α:Type}{o:List α}{x}(h:o.length+1≤1099511627776):app 1 o [x]=some (o++[x]):=by
 unfold app;rw[vw];simp only[wu];omega
theorem Hx{α:Type}{o:List α}{x}(h:o.length+1≤1099511627776):app 64 o [x]=some (o++[x]):=by
 unfold app;rw[vw];simp only[wu];omega
theorem HV{α:Type}{o xs:List α}(h:o.length+xs.length≤1099511627776):app 40 o xs=some (o++xs):=by
 unfold app;rw[vw];omega
theorem UC{α:Type}{l:List α}{k:Nat}{x:α} : l.set ((k:Int).toNat) x=l.set k x:=by simp
def BO(s:AI):List Un:=if s.Kind=1 then s.Elems.map Un.a else List.replicate s.N.toNat (.r (decide (s.Kind=2)) s.Attrs)
def Aj(d:List AI):List Un:=d.flatMap BO
theorem UP s d:Aj (s::d)=BO s++Aj d:=rfl
theorem X7{d:List AI}{k}(h:k<d.length):Aj (d.take (k+1))=Aj (d.take k)++BO d[k]!:=by
 rw[Iv h];simp[Aj]
theorem pX(d:List AI) k:(Aj (d.take k)).length≤(Aj d).length:=by
 have:Aj d=Aj (d.take k)++Aj (d.drop k):=by
  conv=>lhs;rw[← xt k d]
  unfold Aj;rw[List.flatMap_append]
 rw[this,wG];omega
theorem mX(s:AI)(x:Bo)(h:Dn x)(u:0≤s.N)(w:x.us.length+s.N.toNat≤4294967296) :
  ∃o,iter (λ(a:Int × Bo)=>Jg s a.1 a.2) (0,x)=some o∧∃y,o=.ext y∧Dn y∧y.us=x.us++List.replicate s.N.toNat (.r (decide (s.Kind=2)) s.Attrs):=by
 refine FA s.N.toNat (λk q=>q.1=(k:Int)∧Dn q.2∧q.2.us=x.us++List.replicate k (.r (decide (s.Kind=2)) s.Attrs)) _ ?_ ?_ ⟨rfl,h,by simp⟩
 ·rintro k ⟨i,y⟩ A ⟨rfl,j,l⟩
  dsimp only at j l
  refine .inl ⟨(((k+1:Nat):Int),⟨y.Adds++[[]],y.Cuts++[decide (s.Kind=2)],y.Attrs++[s.Attrs]⟩),?_,rfl,(Yx j _ _).1,(Yx j _ _).2.trans (by rw[l,wJ,← yr])⟩
  have B:y.us.length=x.us.length+k:=by rw[l];simp
  have C:=j.cuts_le
  have E:=j.adds
  have F:=j.attrs
  show Jg s (k:Int) y=_
  unfold Jg
  rw[vw (by simp;omega),ZQ (by omega),AD,oI (by omega),AD,ZQ (by omega),AD,Ae (by omega),AD]
 ·rintro⟨i,y⟩ ⟨rfl,j,l⟩
  dsimp only at j l
  refine⟨_,?_,y,rfl,j,l⟩
  show Jg s (s.N.toNat:Int) y=_
  unfold Jg
  rw[ne (by simp;omega)]
theorem oW(d:List AI)(I:∀s∈d,0≤s.N)(O:d.length≤4294967296)(T:(Aj d).length≤4294967296):∃x,QW d=some x∧Dn x∧x.us=Aj d:=by
 unfold QW
 have key:∃x,iter (λ(a:Int × Bo)=>JU d a.1 a.2) (0,⟨[[]],[],[]⟩)=some x∧(Dn x∧x.us=Aj d):=by
  refine FA d.length (λk B=>B.1=(k:Int)∧Dn B.2∧B.2.us=Aj (d.take k)) _ ?_ ?_ ⟨rfl,pE,tD⟩
  ·rintro k ⟨i,y⟩ q ⟨rfl,j,l⟩
   dsimp only at j l
   have C:y.us.length+(BO d[k]!).length≤4294967296:=by
    have:=pX d (k+1)
    rw[X7 q,wG] at this
    rw[l];omega
   have U:=j.cuts_le
   have V:=j.adds
   refine .inl ?_
   show ∃X,JU d (k:Int) y=_∧_
   unfold JU
   rw[vw (by simpa using q),AZ q]
   simp only[AD]
   by_cases A:d[k]!.Kind=1
   ·have u:BO d[k]! = d[k]!.Elems.map Un.a:=by unfold BO;rw[vw A]
    rw[u,wZ] at C
    have w:y.Cuts.length<y.Adds.length:=by omega
    have hA:=j.add_le w
    rw[vw (by simpa using A),jU j (by omega),AD,AZ w,AD,HV (by rw[yJ];omega),AD,yh,HV (by omega),AD,AD,Ae (by omega),AD,UC]
    exact⟨_,rfl,rfl,(eZ j _).1,(eZ j _).2.trans (by rw[X7 q,l,u])⟩
   ·have u:BO d[k]! = List.replicate d[k]!.N.toNat (.r (decide (d[k]!.Kind=2)) d[k]!.Attrs):=by unfold BO;rw[ne A]
    rw[u,ws] at C
    obtain⟨o,E,z,F,J,M⟩:=mX d[k]! y j (I _ (BN q)) C
    subst F
    rw[ne (by simpa using A),E,mv,AD,Ae (by omega),AD]
    exact⟨_,rfl,rfl,J,by rw[X7 q,← l,u];exact M⟩
  ·rintro⟨i,y⟩ ⟨rfl,j,l⟩
   dsimp only at j l
   refine⟨y,?_,j,by rw[l,yC]⟩
   show JU d (d.length:Int) y=_
   unfold JU
   rw[ne (by simp)]
 obtain⟨x,E,F⟩:=key
 exact⟨x,by rw[E];rfl,F⟩
def CJ:List Un→List Un→List Un
 | .a e::j,l=>.a e::CJ j l
 | j,.a _::l=>.r false []::CJ j l
 | .r q u::j,.r w A::l=>if w then CJ j l else .r q (FQ u A)::CJ j l
 | [],.r _ _::_=>[]
 | .r _ _::_,[]=>[]
 | [],[]=>[]
  termination_by j l=>j.length+l.length
def Cp:List Un→List Un→List Un
 | .a _::j,l=>.r false []::Cp j l
 | j,.a e::l=>.a e::Cp j l
 | .r q _::j,.r u w::l=>if q then Cp j l else .r u w::Cp j l
 | [],.r _ _::_=>[]
 | .r _ _::_,[]=>[]
 | [],[]=>[]
  termination_by j l=>j.length+l.length
def OK(us:List Un):Prop:=∀e j,us≠.a e::j
theorem Zo(A:List AG) us vs:CJ (A.map Un.a++us) vs=A.map Un.a++CJ us vs:=by
 induction A with
 | nil=>rfl
 | cons e A j=>simp only[wP,wN];rw[CJ,j]
theorem rp(A:List AG) us vs:Cp (A.map Un.a++us) vs=List.replicate A.length (.r false [])++Cp us vs:=by
 induction A with
 | nil=>rfl
 | cons e A j=>simp only[wP,wN,wK,wc];rw[Cp,j]
theorem ZV(B:List AG)(us vs:List Un)(h:OK us):CJ us (B.map Un.a++vs)=List.replicate B.length (.r false [])++CJ us vs:=by
 induction B with
 | nil=>rfl
 | cons e B j=>
  simp only[wP,wN,wK,wc]
  rw[← j]
  match us,h with
  | [],_=>rw[CJ];intro _ _ h;cases h
  | .r c t::us,_=>rw[CJ];intro _ _ h;cases h
  | .a e::us,h=>exact absurd rfl (h e us)
theorem gN(B:List AG)(us vs:List Un)(h:OK us):Cp us (B.map Un.a++vs)=B.map Un.a++Cp us vs:=by
 induction B with
 | nil=>rfl
 | cons e B j=>
  simp only[wP,wN]
  rw[← j]
  match us,h with
  | [],_=>rw[Cp];intro _ _ h;cases h
  | .r c t::us,_=>rw[Cp];intro _ _ h;cases h
  | .a e::us,h=>exact absurd rfl (h e us)
theorem bW:OK []:=λ_ _ h=>by cases h
theorem Z6:∀(us vs:List Un),(CJ us vs).length≤us.length+vs.length:=by
 intro us vs
 fun_induction CJ us vs<;>simp_all<;>omega
theorem Wl:∀(us vs:List Un),(Cp us vs).length≤us.length+vs.length:=by
 intro us vs
 fun_induction Cp us vs<;>simp_all<;>omega
def Bo.from_(x:Bo)(k:Nat):List Un:=E2 (x.Adds.drop k) (x.Cuts.drop k) (x.Attrs.drop k)
theorem Xd{x:Bo}(h:Dn x){k}(j:k<x.Cuts.length):x.from_ k=x.Adds[k]!.map Un.a++.r x.Cuts[k]! x.Attrs[k]!::x.from_ (k+1):=by
 unfold Bo.from_
 have l:=h.adds
 have q:=h.attrs
 rw[Hr (l:=x.Adds) (by omega),Hr (l:=x.Cuts) j,Hr (l:=x.Attrs) (by omega),E2]
theorem jH{x:Bo}(h:Dn x):x.from_ x.Cuts.length=x.Adds[x.Cuts.length]!.map Un.a:=by
 unfold Bo.from_
 have j:=h.adds
 rw[Hr (l:=x.Adds) (by omega),zg]
 cases x.Adds.drop (x.Cuts.length+1)<;>rfl
structure DS where
 out:List AI
 adds:List AG
 cuts:Nat
def BP(s:DS):List AI:=(if 0<s.adds.length then s.out++[⟨1,0,[],s.adds⟩] else s.out)++(if 0<s.cuts then [⟨2,s.cuts,[],[]⟩] else [])
def Hc(l:List AI)(t:List AC):List AI:=
 if 0<l.length∧l[l.length-1]!.Kind=0∧l[l.length-1]!.Attrs=t then l.set (l.length-1) ⟨l[l.length-1]!.Kind,l[l.length-1]!.N+1,l[l.length-1]!.Attrs,l[l.length-1]!.Elems⟩
 else l++[⟨0,1,t,[]⟩]
def dU(s:DS):Un→DS
 | .a e=>⟨s.out,s.adds++[e],s.cuts⟩
 | .r true _=>⟨s.out,s.adds,s.cuts+1⟩
 | .r false t=>⟨Hc (BP s) t,[],0⟩
def BT(us:List Un):List AI:=BP (us.foldl dU ⟨[],[],0⟩)
theorem tu(A:List AG):∀s:DS,(A.map Un.a).foldl dU s=⟨s.out,s.adds++A,s.cuts⟩:=by
 induction A with
 | nil=>intro s;simp
 | cons e A j=>intro s;simp only[wP,wh];rw[j];simp[dU]
theorem kt(x:Bo)(k:Nat)(h:Dn x)(l:k≤x.Cuts.length):∃p,x.us=p++x.from_ k:=by
 induction k with
 | zero=>exact⟨[],rfl⟩
 | succ k j=>
  obtain⟨p,hp⟩:=j (by omega)
  rw[Xd h (by omega)] at hp
  exact⟨p++(x.Adds[k]!.map Un.a++[.r x.Cuts[k]! x.Attrs[k]!]),by rw[hp];simp⟩
theorem pT{l:List AI}(h:0<l.length)(j:l.length≤9223372036854775807):AN .i64 ((l.length:Int)-1)=some ((l.length-1:Nat):Int):=by
 rw[By (by omega) (by omega)];congr 1;omega
structure S4(d:List AI):Prop where
 st:∀s∈d,Fb s
 ord:∀k,0<k→k<d.length→D3 d[k-1]! d[k]! = false
 olds:A5 d≤2147483647
 nows:BH d≤2147483647
theorem rO{d}{k}{r}(h:E7 d k=some r):r≠0:=by
 unfold E7 at h
 split at h
 ·rename_i j;cases h;exact j
 ·split at h
  ·cases h;decide
  ·cases h
theorem Nf{d:List AI}(h:CY d=0):S4 d:=by
 cases l:(List.range d.length).findSome? (E7 d) with
 | some e=>
  unfold CY at h
  rw[l] at h
  simp only at h
  subst h
  obtain⟨x,_,q⟩:=xE l
  exact absurd rfl (rO q)
 | none=>
  unfold CY at h
  rw[l] at h
  simp only at h
  rw[wz] at l
  have hg:∀k,k<d.length→E7 d k=none:=λk j=>l k (wi.2 j)
  by_cases u:2147483647<A5 d∨2147483647<BH d
  ·rw[vw u] at h;cases h
  ·refine⟨λs w=>?_,λk A j=>(YP (hg k j)).2 A,by omega,by omega⟩
   obtain⟨k,j,rfl⟩:=xD.1 w
   rw[← wF d k j]
   exact Qj (YP (hg k j)).1
theorem Im s d:A5 (s::d)=B2 s+A5 d:=by simp[A5]
theorem Jq s d:BH (s::d)=Cu s+BH d:=by simp[BH]
theorem fw{d}(h:∀s∈d,Fb s)(l:∀s∈d,Gn s):0≤A5 d∧0≤BH d:=by
 induction d with
 | nil=>simp[A5,BH]
 | cons s d q=>
  obtain⟨u,w⟩:=q (λx j=>h x (wC _ j)) (λx j=>l x (wC _ j))
  obtain⟨A,B,z3,z4,_⟩:=Sh (h s (v8 ..)) (l s (v8 ..))
  rw[Im,Jq];omega
theorem nX(d:List AI) k:A5 d=A5 (d.take k)+A5 (d.drop k)∧BH d=BH (d.take k)+BH (d.drop k):=by
 have e:d=d.take k++d.drop k:=(xt k d).symm
 constructor
 ·conv=>lhs;rw[e]
  unfold A5;rw[yX,List.sum_append]
 ·conv=>lhs;rw[e]
  unfold BH;rw[yX,List.sum_append]
theorem ZU{d:List AI}(h:S4 d)(l:FS d) k:0≤A5 (d.take k)∧A5 (d.take k)≤2147483647∧0≤BH (d.take k)∧BH (d.take k)≤2147483647∧0≤A5 (d.drop k)∧0≤BH (d.drop k):=by
 obtain⟨q,u⟩:=fw (d:=d.take k) (λs j=>h.st s (xy j)) (λs j=>l.st s (xy j))
 obtain⟨w,A⟩:=fw (d:=d.drop k) (λs j=>h.st s (xx j)) (λs j=>l.st s (xx j))
 obtain⟨B,C⟩:=nX d k
 have:=h.olds
 have:=h.nows
 omega
theorem TR(d:List AI)(u:FS d)(h:S4 d):Jz d=some (A5 d,BH d):=by
 unfold Jz
 have U:=u.len
 have key:∃r,iter (λ(a:Int × Int × Int)=>Jx d a.1 a.2.1 a.2.2) (0,0,0)=some r∧r=(A5 d,BH d):=by
  refine FA d.length (λk A=>A=(A5 (d.take k),BH (d.take k),(k:Int))) _ ?_ ?_ (by simp[A5,BH])
  ·rintro k A j rfl
   obtain⟨E,F,I,J,_⟩:=ZU h u k
   obtain⟨V,X,z3,z4,z5,C⟩:=Sh (h.st _ (BN j)) (u.st _ (BN j))
   refine .inl ⟨_,?_,rfl⟩
   show Jx d (A5 (d.take k)) (BH (d.take k)) (k:Int)=_
   unfold Jx
   rw[vw (by simpa using j),AZ j,AD,UJ j,WV j]
   generalize A5 (d.take k)=o at E F ⊢
   generalize BH (d.take k)=w at I J ⊢
   by_cases l:d[k]!.Kind=1
   ·have B:B2 d[k]! = 0:=by unfold B2;rw[vw l]
    rw[ne (CI l),AD,vw (Bb (by omega)),C (by omega),AD,By (by omega) (by omega),AD,CL,Ae (by omega),AD,B,Int.add_zero]
   ·have B:B2 d[k]! = d[k]!.N:=by unfold B2;rw[ne l]
    rw[vw (Bb l),By (by omega) (by omega),AD,AD,B]
    by_cases q:d[k]!.Kind=2
    ·have M:Cu d[k]! = 0:=by unfold Cu;rw[vw q]
     rw[ne (CI q),CL,Ae (by omega),AD,M,Int.add_zero]
    ·rw[vw (Bb q),C q,AD,By (by omega) (by omega),AD,CL,Ae (by omega),AD]
  ·rintro A rfl
   refine⟨(A5 d,BH d),?_,rfl⟩
   rw[yC]
   show Jx d _ _ (d.length:Int)=_
   unfold Jx
   rw[ne (by simp)]
 obtain⟨r,O,T⟩:=key
 rw[O,T];rfl
theorem VD{α β:Type}[Inhabited α]{f}(l:List α)(g:α→β)(z:β)
 (h:∀(k:Nat) (out:List β), k<l.length→out.length=l.length→f ((k:Int), out)=some (.inl (((k+1:Nat):Int), out.set k (g l[k]!)))) (j:∀out, f ((l.length:Int), out)=some (.inr out)) :
    iter f (0, List.replicate l.length z)=some (l.map g) := by
  have key:∃r, iter f (0, List.replicate l.length z)=some r∧r=l.map g := by
    refine FA l.length (λk q => q=((k:Int), (l.take k).map g++List.replicate (l.length - k) z)) _ ?_ ?_ (by simp)
    · rintro k q u rfl
      refine .inl ⟨_, h k _ u (by simp;omega), ?_⟩
      congr 1
      obtain⟨m, w⟩:∃m, l.length - k=m+1 := ⟨l.length - k - 1, by omega⟩
      rw[w, wc, Iv u, yX, zN _ _ (by rw[wZ, xl];omega), show l.length - (k+1)=m by omega]
      have:k - ((l.take k).map g).length=0 := by simp;omega
      rw[this, yy, wJ];rfl
    · rintro q rfl
      refine⟨_, j _, by simp⟩
  obtain⟨r, A, B⟩ := key
  rw[A, B]
theorem Q1{l:List AC}(h:l.length≤1073741824):app 32 [] l=some l:=by
 unfold app;rw[vw];rfl;simp;omega
theorem VY{α:Type}{n:Nat}(z:α)(h:n≤4294967296):mk 40 (n:Int) z=some (List.replicate n z):=by
 unfold mk;rw[vw (by omega)];simp
theorem kc(f:List AG)(l:f.length≤4294967296)(h:∀e∈f,CZ e.Attrs):Rf f=some f:=by
 unfold Rf
 rw[VY _ l,AD]
 have:=VD (f:=λ(a:Int × (List AG))=>JO f a.1 a.2) f id (AG.mk 0 0 []) (λk out j u=>by
  have q:=(h _ (BN j)).1
  show JO f (k:Int) out=_
  unfold JO
  rw[vw (by simpa using j),AZ j,AD,Q1 q,AD,AZ (by omega),AD,Ae (by omega),AD,UC]
  rfl) (λout=>by
  show JO f (f.length:Int) out=_
  unfold JO
  rw[ne (by simp)])
 rw[this,List.map_id];rfl
def GR(l ch:List AC):List AC:=Bs FV l ch []
def C1(ch:List AC)(x:AG):AG:=⟨x.Char,x.Ref,GR x.Attrs ch⟩
theorem rC(l:List AG)(ch:List AC)(q:l.length≤4294967296)(h:∀e∈l,CZ e.Attrs)(hc:ch.length≤1073741824):O4 l ch=some (l.map (C1 ch)):=by
 unfold O4
 rw[VY _ q,AD]
 have:=VD (f:=λ(a:Int × (List AG))=>KF l ch a.1 a.2) l (C1 ch) (AG.mk 0 0 []) (λk out j u=>by
  have w:=(h _ (BN j)).1
  show KF l ch (k:Int) out=_
  unfold KF
  rw[vw (by simpa using j),AZ j,AD,U6 _ _ (by omega),AD,AZ (by omega),AD,Ae (by omega),AD,UC]
  rfl) (λout=>by
  show KF l ch (l.length:Int) out=_
  unfold KF
  rw[ne (by simp)])
 rw[this];rfl
def A8:List Un→List AG→List AG
 | .a e::j,f=>e::A8 j f
 | .r true _::j,_::f=>A8 j f
 | .r false t::j,x::f=>C1 t x::A8 j f
 | .r _ _::_,[]=>[]
 | [],_=>[]
theorem S8(A:List AG) us f:A8 (A.map Un.a++us) f=A++A8 us f:=by
 induction A with
 | nil=>rfl
 | cons e A j=>simp only[wP,wN,A8,j]
theorem WN t us:∀(n:Nat) (f:List AG),n≤f.length→A8 (List.replicate n (.r true t)++us) f=A8 us (f.drop n)
 | 0,f,_=>rfl
 | n+1,[],h=>by simp at h
 | n+1,x::f,h=>by rw[wc,wN,A8,WN t us n f (by simpa using h)];rfl
theorem Ws:∀(us:List Un) (f:List AG),(A8 us f).length≤us.length:=by
 intro us f
 fun_induction A8 us f<;>simp_all<;>omega
theorem Rd{α:Type}(l:List α)(n:Int)(j:0≤n)(h:n≤l.length):CS l 0 n=some (l.take n.toNat):=by
 unfold CS;rw[vw (by omega)];simp
theorem Ok{d:List AI}(h:∀s∈d,Fb s):((Aj d).length:Int)=A5 d+(d.map λs=>s.Elems.length).sum:=by
 induction d with
 | nil=>rfl
 | cons s d j=>
  have A:=j (λx l=>h x (wC _ l))
  rw[UP,wG,Im,wP,xJ]
  have q:=(h s (v8 ..)).kind
  unfold BO B2
  rcases q with ⟨k,e,u,w,_⟩ | ⟨k,e,_,u,w⟩ | ⟨k,n,_,_,_⟩
  ·rw[ne (by omega),ne (by omega),e,ws,yJ];omega
  ·rw[ne (by omega),ne (by omega),e,ws,yJ];omega
  ·rw[vw k,vw k,wZ];omega
def DX(l:List AI)(t:List AC)(n:Int):List AI:=
 if 0<l.length∧l[l.length-1]!.Kind=0∧l[l.length-1]!.Attrs=t then l.set (l.length-1) ⟨l[l.length-1]!.Kind,l[l.length-1]!.N+n,l[l.length-1]!.Attrs,l[l.length-1]!.Elems⟩
 else l++[⟨0,n,t,[]⟩]
theorem Uy l t:DX l t 1=Hc l t:=rfl
theorem Pj{l:List AI}{s} : (l++[s])[l.length]! = s:=by
 rw[wF (l++[s]) l.length (by simp)];simp
theorem XK{l:List AI}{s}{k}(h:k<l.length):(l++[s])[k]! = l[k]!:=by
 rw[wF (l++[s]) k (by simp;omega),wF l k h,List.getElem_append_left h]
theorem pt(l:List AI) t m n:DX (DX l t m) t n=DX l t (m+n):=by
 unfold DX
 by_cases j:0<l.length∧l[l.length-1]!.Kind=0∧l[l.length-1]!.Attrs=t
 ·have q:l.length-1<l.length:=by omega
  have hg:∀x:AI,(l.set (l.length-1) x)[l.length-1]! = x:=λx=>by rw[wF _ _ (by simpa using q),List.getElem_set_self]
  rw[vw j,vw j,yY,hg,vw ⟨j.1,j.2.1,j.2.2⟩,List.set_set]
  simp only[Int.add_assoc]
 ·rw[ne j,ne j]
  rw[show(l++[(⟨0,m,t,[]⟩:AI)]).length-1=l.length by simp,Pj,vw ⟨by simp,rfl,rfl⟩]
  simp
def EX(s:DS)(n:Int)(t:List AC):DS:=if n=0 then s else⟨DX (BP s) t n,[],0⟩
theorem SQ l:BP ⟨l,[],0⟩=l:=by simp[BP]
theorem pJ s(n:Int) t(h:0≤n):EX s n t=(List.replicate n.toNat (Un.r false t)).foldl dU s:=by
 have u:∀(j:Nat) (l:List AI) (n:Int),(List.replicate j (Un.r false t)).foldl dU ⟨DX l t n,[],0⟩=⟨DX l t (n+j),[],0⟩:=by
  intro j
  induction j with
  | zero=>intro l n;simp
  | succ j w=>
   intro l n
   rw[wc,wh]
   simp only[dU,SQ]
   rw[← Uy,pt,w,show n+1+(j:Int)=n+((j+1:Nat):Int) by omega]
 unfold EX
 by_cases q:n=0
 ·subst q;simp
 ·rw[ne q]
  obtain⟨j,A⟩:∃j,n.toNat=j+1:=⟨n.toNat-1,by omega⟩
  rw[A,wc,wh]
  simp only[dU]
  rw[← Uy,u,show(1:Int)+j=n by omega]
theorem jc(s:DS) t:∀(n:Nat) ,(List.replicate n (Un.r true t)).foldl dU s=⟨s.out,s.adds,s.cuts+n⟩:=by
 intro n
 induction n generalizing s with
 | zero=>simp
 | succ n j=>rw[wc,wh,j];simp only[dU];congr 1;omega
def Di(u:Un):Prop:=match u with
 | .a e=>Bx e=0∧CZ e.Attrs
 | .r c t=>(c=false→Ao t true=0)∧CZ t
def BR(us:List Un):Nat:=us.countP λu=>!u.isR
def FK:Un→Bool
 | .a _=>true
 | .r c _=>!c
def Bv(us:List Un):Nat:=us.countP FK
theorem iC{A:List AG}(l:A≠[])(h:∀e∈A,Bx e=0):Cy ⟨1,0,[],A⟩=0:=by
 unfold Cy
 rw[vw rfl,ne (by simp),ne l]
 show FR A=0
 unfold FR
 have:(List.range A.length).findSome? (Ei A)=none:=by
  rw[wz]
  intro k j
  have j:=wi.1 j
  unfold Ei
  rw[vw (h _ (BN j))]
 rw[this];rfl
theorem ee{n}(j:1≤n)(l:n≤2147483647):Cy ⟨2,n,[],[]⟩=0:=by
 unfold Cy
 rw[ne (by simp),vw (by simp),ne (by simp),ne (by simp only;omega)]
 show Ao [] true=0
 decide
theorem YD{n}{t}(j:1≤n)(l:n≤2147483647)(h:Ao t true=0):Cy ⟨0,n,t,[]⟩=0:=by
 unfold Cy
 rw[ne (by simp),vw (by simp),ne (by simp),ne (by simp only;omega)]
 exact h
def IG(a:Nat)(s:AI):Prop:=((s.Kind=0∧s.Elems=[]∧1≤s.N∧Ao s.Attrs true=0)∨(s.Kind=2∧s.Elems=[]∧s.Attrs=[]∧1≤s.N) ∨
  (s.Kind=1∧s.N=0∧s.Attrs=[]∧s.Elems≠[]∧∀e∈s.Elems,Bx e=0))∧CZ s.Attrs∧s.Elems.length≤a∧∀e∈s.Elems,CZ e.Attrs
def Ia(l:List AI):Prop:=∀k,0<k→k<l.length→D3 l[k-1]! l[k]! = false
structure CD(m a r n:Nat)(s:DS):Prop where
 ok:∀x∈s.out,IG a x
 adj:Ia s.out
 last:0<s.out.length→s.out[s.out.length-1]!.Kind=0
 add:∀e∈s.adds,Bx e=0∧CZ e.Attrs
 olds:A5 s.out+s.cuts=r
 nows:BH s.out+s.adds.length=n
 len:s.out.length+s.adds.length+s.cuts≤m
 al:s.adds.length≤a
theorem qq:CD 0 0 0 0 ⟨[],[],0⟩:=⟨by simp,λk _ j=>by simp at j,λh=>by simp at h,by simp,by simp[A5],by simp[BH],by simp,by simp⟩
theorem Xh a b:A5 (a++b)=A5 a+A5 b:=by simp[A5]
theorem Wp a b:BH (a++b)=BH a+BH b:=by simp[BH]
theorem W7{l:List AI}{s}(h:Ia l)(u:0<l.length→D3 l[l.length-1]! s=false):Ia (l++[s]):=by
 intro k q w
 simp only[wG,wu] at w
 by_cases j:k<l.length
 ·rw[XK (by omega),XK j];exact h k q j
 ·have:k=l.length:=by omega
  subst this
  rw[XK (by omega),Pj]
  exact u q
theorem IG.mono{a b}{s}(h:IG a s)(j:a≤b):IG b s:=⟨h.1,h.2.1,xF h.2.2.1 j,h.2.2.2⟩
theorem GM:CZ []:=⟨by simp,λa j=>by simp at j⟩
theorem Nz{m a r n}{s:DS}(h:CD m a r n s):(∀x∈BP s,IG a x)∧Ia (BP s)∧A5 (BP s)=r∧BH (BP s)=n∧(BP s).length≤m∧(BP s).length≤s.out.length+2:=by
 have u:=h.len
 have J:=h.olds
 have M:=h.nows
 have key:∃l,l=(if 0<s.adds.length then s.out++[⟨1,0,[],s.adds⟩] else s.out)∧(∀x∈l,IG a x)∧Ia l∧A5 l=A5 s.out∧BH l=BH s.out+s.adds.length∧l.length≤s.out.length+s.adds.length∧l.length≤s.out.length+1∧(0<l.length→l[l.length-1]!.Kind≠2):=by
  refine⟨_,rfl,?_⟩
  by_cases j:0<s.adds.length
  ·rw[vw j]
   have w:s.adds≠[]:=λe=>by rw[e] at j;simp at j
   refine⟨λx A=>?_,W7 h.adj λu=>?_,by rw[Xh];simp[A5,B2],by rw[Wp];simp[BH,Cu],by simp;omega,by simp,λ_=>?_⟩
   ·rcases wm.1 A with q | q
    ·exact h.ok x q
    ·have:x=⟨1,0,[],s.adds⟩:=by simpa using q
     subst this
     exact⟨.inr (.inr ⟨rfl,rfl,rfl,w,λe B=>(h.add e B).1⟩),GM,h.al,λe B=>(h.add e B).2⟩
   ·have C:∀p:AI,p.Kind=0→D3 p ⟨1,0,[],s.adds⟩=false:=λp hp=>by unfold D3;rw[hp];simp
    exact C _ (h.last u)
   ·rw[show(s.out++[(⟨1,0,[],s.adds⟩:AI)]).length-1=s.out.length by simp,Pj];simp
  ·rw[ne j]
   exact⟨h.ok,h.adj,rfl,by omega,by omega,by omega,λu=>by rw[h.last u];decide⟩
 obtain⟨l,E,F,I,O,T,V,X,U⟩:=key
 unfold BP
 rw[← E]
 by_cases j:0<s.cuts
 ·rw[vw j]
  refine⟨λx A=>?_,W7 I λu=>?_,by rw[Xh,O,← J];simp[A5,B2],by rw[Wp,T,← M];simp[BH,Cu],by simp;omega,by simp;omega⟩
  ·rcases wm.1 A with q | q
   ·exact F x q
   ·have:x=⟨2,s.cuts,[],[]⟩:=by simpa using q
    subst this
    exact⟨.inr (.inl ⟨rfl,rfl,rfl,by simp only;omega⟩),GM,by simp,by simp⟩
  ·have C:∀p:AI,p.Kind≠2→D3 p ⟨2,s.cuts,[],[]⟩=false:=λp hp=>by unfold D3;simp[hp]
   exact C _ (U u)
 ·rw[ne j,wS]
  exact⟨F,I,by omega,by omega,by omega,by omega⟩
theorem bZ:∀ {l:List AI} {i:Nat} {s:AI},i<l.length→A5 (l.set i s)=A5 l-B2 l[i]!+B2 s∧BH (l.set i s)=BH l-Cu l[i]!+Cu s
 | x::l,0,s,_=>by
  rw[yy,Im,Im,Jq,Jq]
  show _=_-B2 x+B2 s∧_=_-Cu x+Cu s
  omega
 | x::l,i+1,s,h=>by
  obtain⟨j,q⟩:=bZ (l:=l) (i:=i) (s:=s) (by simpa using h)
  rw[zW,Im,Im,Jq,Jq,j,q]
  show _=_-B2 l[i]!+B2 s∧_=_-Cu l[i]!+Cu s
  omega
theorem uW{l:List AI}{i}{s:AI}(h:Ia l)(E:i<l.length)(A:s.Kind=l[i]!.Kind)(B:s.Attrs=l[i]!.Attrs):Ia (l.set i s):=by
 intro k C q
 rw[yY] at q
 have e:∀j,j<l.length→(l.set i s)[j]!.Kind=l[j]!.Kind∧(l.set i s)[j]!.Attrs=l[j]!.Attrs:=λj u=>by
  rw[wF (l.set i s) j (by simpa using u),wF l j u,List.getElem_set]
  split
  ·rename_i w;subst w;rw[A,B,wF l i u];exact⟨rfl,rfl⟩
  ·exact⟨rfl,rfl⟩
 have:=h k C q
 unfold D3 at this ⊢
 rw[(e _ (by omega)).1,(e _ (by omega)).2,(e k q).1,(e k q).2]
 exact this
theorem tI{a}{l:List AI}{t}{n}(B:∀x∈l,IG a x)(F:Ia l)(I:1≤n)(J:Ao t true=0)(C:CZ t):(∀x∈DX l t n,IG a x)∧Ia (DX l t n)∧A5 (DX l t n)=A5 l+n ∧
  BH (DX l t n)=BH l+n∧(DX l t n).length≤l.length+1∧0<(DX l t n).length∧(DX l t n)[(DX l t n).length-1]!.Kind=0:=by
 unfold DX
 split
 ·rename_i q
  have u:l.length-1<l.length:=by omega
  have A:=B _ (BN u)
  have w:(l[l.length-1]!.Elems=[]∧1≤l[l.length-1]!.N∧Ao l[l.length-1]!.Attrs true=0):=by
   rcases A.1 with ⟨k,e,M,O⟩ | ⟨k,_⟩ | ⟨k,_⟩
   ·exact⟨e,M,O⟩
   ·rw[q.2.1] at k;cases k
   ·rw[q.2.1] at k;cases k
  obtain⟨T,U⟩:=bZ (l:=l) (i:=l.length-1) (s:=⟨l[l.length-1]!.Kind,l[l.length-1]!.N+n,l[l.length-1]!.Attrs,l[l.length-1]!.Elems⟩) u
  refine⟨λx E=>?_,uW F u rfl rfl,?_,?_,by rw[yY];omega,by rw[yY];omega,?_⟩
  ·rcases yP E with j | j
   ·exact B x j
   ·subst j
    exact⟨.inl ⟨q.2.1,w.1,by simp only;omega,w.2.2⟩,A.2.1,A.2.2.1,A.2.2.2⟩
  ·rw[T];unfold B2;simp only[q.2.1];simp;omega
  ·rw[U];unfold Cu;simp only[q.2.1];simp;omega
  ·rw[yY,wF _ _ (by simpa using u),List.getElem_set_self];exact q.2.1
 ·rename_i q
  refine⟨λx E=>?_,W7 F λV=>?_,by rw[Xh];simp[A5,B2],by rw[Wp];simp[BH,Cu],by simp,by simp,?_⟩
  ·rcases wm.1 E with j | j
   ·exact B x j
   ·have:x=⟨0,n,t,[]⟩:=by simpa using j
    subst this
    exact⟨.inl ⟨rfl,rfl,I,J⟩,C,by simp,by simp⟩
  ·unfold D3
   generalize l[l.length-1]! = p at q ⊢
   by_cases j:p.Kind=0
   ·have X:¬ p.Attrs=t:=λe=>q ⟨V,j,e⟩
    simp[j,X]
   ·simp[j]
  ·rw[show(l++[(⟨0,n,t,[]⟩:AI)]).length-1=l.length by simp,Pj]
theorem pG{m a r n}{s}(h:CD m a r n s){u:Un}(B:Di u):CD (m+1) (a+(if u.isR then 0 else 1)) (r+(if u.isR then 1 else 0)) (n+(if FK u then 1 else 0)) (dU s u):=by
 have Y:=h.len
 have C:=h.olds
 have E:=h.nows
 have F:=h.al
 match u,B with
 | .a e,I=>
  have j:(if(Un.a e).isR=true then 0 else 1)=1:=rfl
  have l:(if(Un.a e).isR=true then 1 else 0)=0:=rfl
  have q:(if FK (Un.a e)=true then 1 else 0)=1:=rfl
  rw[j,l,q]
  refine⟨λx J=>(h.ok x J).mono (by omega),h.adj,h.last,λy M=>?_,C,by simp[dU];omega,by simp[dU];omega,by simp[dU];omega⟩
  rcases wm.1 M with w | w
  ·exact h.add y w
  ·have:y=e:=by simpa using w
   subst this;exact I
 | .r true t,A=>
  have j:(if(Un.r true t).isR=true then 0 else 1)=0:=rfl
  have l:(if(Un.r true t).isR=true then 1 else 0)=1:=rfl
  have q:(if FK (Un.r true t)=true then 1 else 0)=0:=rfl
  rw[j,l,q]
  exact⟨h.ok,h.adj,h.last,h.add,by simp[dU];omega,E,by simp[dU];omega,F⟩
 | .r false t,A=>
  have j:(if(Un.r false t).isR=true then 0 else 1)=0:=rfl
  have l:(if(Un.r false t).isR=true then 1 else 0)=1:=rfl
  have q:(if FK (Un.r false t)=true then 1 else 0)=1:=rfl
  rw[j,l,q]
  obtain⟨O,T,Z,k4,k5,_⟩:=Nz h
  obtain⟨U,V,j3,j4,j5,j6,X⟩:=tI (n:=1) O T (by omega) (A.1 rfl) A.2
  refine⟨U,V,λ_=>X,by simp[dU],?_,?_,?_,by simp[dU]⟩
  ·show A5 (DX (BP s) t 1)+((0:Nat):Int)=_
   omega
  ·show BH (DX (BP s) t 1)+((0:Nat):Int)=_
   omega
  ·show(DX (BP s) t 1).length+0+0≤_
   omega
theorem fy:∀ {us:List Un} {m a r n:Nat} {s:DS},CD m a r n s→(∀u∈us,Di u)→CD (m+us.length) (a+BR us) (r+Av us) (n+Bv us) (us.foldl dU s)
 | [],_,_,_,_,_,h,_=>by simpa[BR,Av,Bv] using h
 | u::us,m,a,r,n,s,h,j=>by
  have:=fy (us:=us) (pG h (j u (v8 ..))) λv l=>j v (wC _ l)
  have q:BR (u::us)=(if u.isR then 0 else 1)+BR us:=by unfold BR;rw[xT];cases u.isR<;>simp<;>omega
  have w:Av (u::us)=(if u.isR then 1 else 0)+Av us:=by unfold Av;rw[xT];omega
  have A:Bv (u::us)=(if FK u then 1 else 0)+Bv us:=by unfold Bv;rw[xT];omega
  rw[wh,q,w,A,wK,show m+(us.length+1)=m+1+us.length by omega,← yD,← yD,← yD]
  exact this
def D0:DS:=⟨[],[],0⟩
def Ay(us:List Un):DS:=us.foldl dU D0
theorem KR{us:List Un}(h:∀u∈us,Di u):CD us.length (BR us) (Av us) (Bv us) (Ay us):=by
 have:=fy qq h
 simp only[wW] at this
 exact this
theorem KE us:BT us=BP (Ay us):=rfl
theorem gm{m a r n}{s}(h:CD m a r n s)(hr:r≤2147483647)(hn:n≤2147483647):CY (BP s)=0:=by
 obtain⟨B,M,V,X,Y,_⟩:=Nz h
 generalize BP s=l at B M V X Y
 have u:∀l:List AI,(∀x∈l,IG a x)→0≤A5 l∧0≤BH l∧(∀x∈l,x.N≤A5 l∨x.Kind=1):=by
  intro l
  induction l with
  | nil=>intro _;simp[A5,BH]
  | cons x l Z=>
   intro w
   obtain⟨i1,i2,i3⟩:=Z λs hs=>w s (wC _ hs)
   have C:=(w x (v8 ..)).1
   rw[Im,Jq]
   have E:0≤B2 x∧0≤Cu x∧(x.N≤B2 x∨x.Kind=1):=by
    unfold B2 Cu
    rcases C with ⟨k,e,j,_⟩ | ⟨k,e,_,j⟩ | ⟨k,j,_⟩
    ·rw[ne (by omega),ne (by omega),ne (by omega)];omega
    ·rw[ne (by omega),vw (by omega)];omega
    ·rw[vw k,ne (by omega),vw k];omega
   refine⟨by omega,by omega,λy F=>?_⟩
   rcases wM.1 F with rfl | F
   ·rcases E.2.2 with h | h
    ·exact .inl (by omega)
    ·exact .inr h
   ·rcases i3 y F with h | h
    ·exact .inl (by omega)
    ·exact .inr h
 obtain⟨p1,p2,p3⟩:=u l B
 have A:∀k,k<l.length→E7 l k=none:=by
  intro k I
  have w:=B _ (BN I)
  have J:=p3 _ (BN I)
  have E:Cy l[k]! = 0:=by
   generalize l[k]! = x at w J
   obtain⟨xk,xn,xa,xe⟩:=x
   rcases w.1 with ⟨k,e,j,q⟩ | ⟨k,e,q,j⟩ | ⟨k,j,q,O,T⟩
   ·dsimp only at k e j q J;subst k;subst e
    exact YD j (by omega) q
   ·dsimp only at k e j q J;subst k;subst e;subst q
    exact ee j (by omega)
   ·dsimp only at k j q O T;subst k;subst j;subst q
    exact iC O T
  unfold E7
  rw[ne (by simpa using E),ne]
  rintro⟨h0,U⟩
  rw[M k h0 I] at U;cases U
 unfold CY
 rw[gC A]
 simp only
 rw[ne (by omega)]
def VA(ch:Bool)(e:AC):Prop:=Ef e.Name=true∧(Dt e.Value=true∨(ch=true∧e.Value=[]))
theorem FU(l:List AC)(ch:Bool):Ao l ch=0↔Bg l∧∀e∈l,VA ch e:=by
 constructor
 ·intro h
  refine⟨(EL h).1,λe he=>?_⟩
  obtain⟨k,hk,rfl⟩:=xD.1 he
  have hn:Ez l ch k=none:=by
   unfold Ao at h
   cases hf:(List.range l.length).findSome? (Ez l ch) with
   | none=>exact(bC _ _).1 hf k hk
   | some r=>
    rw[hf] at h
    obtain⟨j,_,hj⟩:=xE hf
    exfalso
    unfold Ez at hj
    simp only[yf] at h
    subst h
    repeat' split at hj
    all_goals simp at hj
  unfold Ez at hn
  rw[wF l k hk] at hn
  generalize l[k]=x at hn ⊢
  unfold VA
  by_cases c1:Ef x.Name=false
  ·rw[vw c1] at hn;cases hn
  ·rw[ne c1] at hn
   by_cases c2:Dt x.Value=false∧¬ (ch=true∧x.Value=[])
   ·rw[vw c2] at hn;cases hn
   ·refine⟨by simpa using c1,?_⟩
    by_cases c3:Dt x.Value=true
    ·exact .inl c3
    ·exact .inr (wX λh3=>c2 ⟨by simpa using c3,h3⟩)
 ·rintro⟨hs,hv⟩
  unfold Ao
  have:(List.range l.length).findSome? (Ez l ch)=none:=by
   rw[wz]
   intro k hk
   have hk:=wi.1 hk
   have h1:=hv _ (BN hk)
   unfold Ez
   unfold VA at h1
   rw[ne (by rw[h1.1];simp),ne (by rintro⟨a1,a2⟩;rcases h1.2 with h2 | h2;rw[a1] at h2;cases h2;exact a2 h2),ne]
   rintro⟨h0,h2⟩
   have:=List.pairwise_iff_getElem.1 hs (k-1) k (by omega) hk (by omega)
   rw[wF l k hk,wF l (k-1) (by omega)] at h2
   rw[this] at h2;cases h2
  rw[this];rfl
theorem hJ:∀ {l:List AC},Bg l→∀e∈l,Au l e.Name=some e
 | [],_,e,h=>by simp at h
 | x::l,j,e,h=>by
  obtain⟨q,u⟩:=EN.1 j
  rcases wM.1 h with rfl | h
  ·unfold Au;rw[vw rfl]
  ·have:=FC (q e h)
   unfold Au;rw[ne (Ne.symm this)]
   exact hJ u e h
theorem XM{j}{g}{G}(h:∀x y o, j x y o=o++g x y)(hg:Mw g G){a b}{l q ch}
 (w:Ao a l=0) (A:Ao b q=0) (E:∀x y e, (∀z, x=some z→VA l z)→(∀z, y=some z→VA q z)→G x y=some e→VA ch e):Ao (Bs j a b []) ch=0 := by
  obtain⟨F, v1⟩ := (FU a l).1 w
  obtain⟨I, J⟩ := (FU b q).1 A
  obtain⟨B, M⟩ := QD h hg F I (EL w).2.1 (EL A).2.1
  refine(FU _ _).2 ⟨B, λe O => ?_⟩
  have C := hJ B e O
  rw[M] at C
  exact E _ _ e (λz u => v1 z (SL u).2) (λz u => J z (SL u).2) C
theorem VA.up{e}{c}(h:VA false e):VA c e:=⟨h.1,.inl (by rcases h.2 with h | h;exact h;exact absurd h.1 (by decide))⟩
theorem nj{a b}(l:Ao a false=0)(q:Ao b true=0):Ao (GR a b) false=0:=
 XM Ts Rq l q λx y e u w h=>by
  unfold G0 at h
  split at h
  ·exact u e h
  ·split at h
   ·cases h
   ·rename_i A
    cases h
    have:=w e rfl
    exact⟨this.1,.inl (by rcases this.2 with j | j;exact j;exact absurd j.2 A)⟩
theorem rF{a b}(j:Ao a true=0)(l:Ao b true=0):Ao (Bs Fi a b []) true=0:=
 XM qD pV j l λx y e q u h=>by
  unfold RH at h
  split at h
  ·exact q e h
  ·exact u e h
theorem nQ{a b}(j:Ao a true=0)(l:Ao b true=0):Ao (Bs Fh a b []) true=0:=
 XM gq bM j l λx y e q u h=>by
  unfold Mk at h
  split at h
  ·exact q e h
  ·cases h
theorem Gc{l:List AC}{ch}(h:Ao l ch=0)(j:l.length≤1073741824):CZ l:=by
 refine⟨j,λe q=>?_⟩
 have:=((FU l ch).1 h).2 e q
 have u:e.Name.length≤24:=by
  have:=this.1
  unfold Ef at this
  simp only[v7,vx] at this
  exact this.1.1.2
 have w:e.Value.length≤200:=by
  rcases this.2 with h | h
  ·unfold Dt at h
   simp only[v7,vx] at h
   exact h.1.2
  ·rw[h.2];simp
 omega
theorem bN(a b:List AC):(GR a b).length≤a.length+b.length:=by
 have:=T7 FV U3 _ a b [] rfl
 simpa[GR] using this
theorem mj(a b:List AC):(Bs Fi a b []).length≤a.length+b.length:=by
 have:=T7 Fi fZ _ a b [] rfl
 simpa using this
theorem pI(a b:List AC):(Bs Fh a b []).length≤a.length+b.length:=by
 have:=T7 Fh hP _ a b [] rfl
 simpa using this
def Co(s:DS):Ah:=⟨s.out,s.adds,(s.cuts:Int)⟩
theorem iD{α:Type}{l:List α} : decide (0<(l.length:Int))=true↔0<l.length:=by rw[vx];omega
theorem ZJ(s:DS)(q:s.out.length+2≤1099511627776):L8 (Co s)=some ⟨BP s,[],0⟩:=by
 unfold L8 Co
 dsimp only
 unfold BP
 by_cases l:0<s.adds.length
 ·rw[vw (iD.2 l),Hx (by omega),vw l]
  simp only[AD]
  by_cases j:0<s.cuts
  ·rw[vw (by rw[vx];omega),Hx (by rw[wG,wu];omega),vw j];rfl
  ·rw[ne (by rw[vx];omega),ne j,wS];rfl
 ·rw[ne (λh=>l (iD.1 h)),ne l]
  simp only[AD]
  by_cases j:0<s.cuts
  ·rw[vw (by rw[vx];omega),Hx (by omega),vw j];rfl
  ·rw[ne (by rw[vx];omega),ne j,wS];rfl
theorem fG{a} : ∀ {l:List AI},(∀x∈l,IG a x)→0≤A5 l∧0≤BH l∧(∀x∈l,0≤x.N∧x.N≤A5 l)
 | [],_=>by simp[A5,BH]
 | x::l,u=>by
  obtain⟨C,E,A⟩:=fG (l:=l) λs B=>u s (wC _ B)
  have j:=(u x (v8 ..)).1
  rw[Im,Jq]
  have F:0≤B2 x∧0≤Cu x∧0≤x.N∧x.N≤B2 x:=by
   unfold B2 Cu
   rcases j with ⟨k,e,w,_⟩ | ⟨k,e,_,w⟩ | ⟨k,w,_⟩
   ·rw[ne (by omega),ne (by omega),ne (by omega)];omega
   ·rw[ne (by omega),vw (by omega)];omega
   ·rw[vw k,ne (by omega),vw k];omega
  refine⟨by omega,by omega,λy q=>?_⟩
  rcases wM.1 q with rfl | q
  ·omega
  ·have:=A y q;omega
theorem gK{m a r n}{s:DS}(h:CD m a r n s)(Y:s.out.length+4≤1099511627776)(Z:r≤4000000000000000000)(k:Int)(t:List AC)(h0:0≤k)(hk:k≤4000000000000000000)(B:t.length≤1073741824) :
  Gv (Co s) k t=some (Co (EX s k t)):=by
 unfold Gv EX
 by_cases j:k=0
 ·rw[vw (by rw[vx];exact j),vw j]
 rw[ne (by rw[vx];exact j),ne j,ZJ s (by omega),AD]
 obtain⟨C,F,I,J,M,O⟩:=Nz h
 obtain⟨T,U,E⟩:=fG C
 dsimp only
 generalize BP s=l at C F I J M O T U E
 unfold DX
 by_cases q:0<l.length
 ·rw[pT q (by omega),AD]
  have V:decide (0≤(((l.length-1:Nat)):Int))=true:=by simp
  have X:=C _ (BN (l:=l) (k:=l.length-1) (by omega))
  have hN:=E _ (BN (l:=l) (k:=l.length-1) (by omega))
  rw[V,show(true==true)=true from rfl,An,AZ (l:=l) (by omega),AD,xM]
  by_cases w:l[l.length-1]!.Kind=0
  ·rw[vz w,show(true==true)=true from rfl,An,AD,An,Q9 _ _ (by have:=X.2.1.1;omega),AD,xM]
   by_cases A:l[l.length-1]!.Attrs=t
   ·rw[vw (by rw[vx];exact A),AD,By (by omega) (by omega),AD,UC,vw ⟨q,w,A⟩];rfl
   ·rw[ne (by rw[vx];exact A),Q1 B,AD,Hx (by omega),AD,ne (λh=>A h.2.2)];rfl
  ·rw[vy w,show(false==true)=false from rfl,EM,AD,EM,AD,yQ,ne (by decide),Q1 B,AD,Hx (by omega),AD,ne (λh=>w h.2.1)];rfl
 ·have u:l=[]:=xf (by omega)
  subst u
  rw[show((([]:List AI).length:Int)-1) = -1 from rfl,show AN .i64 (-1)=some (-1) from By (by decide) (by decide),AD,
   show decide (0≤(-1:Int))=false by decide,show(false==true)=false from rfl,EM,AD,yQ,show(false==true)=false from rfl,EM,AD,EM,AD,yQ,ne (by decide),
   Q1 B,AD,Hx (by simp),AD,ne (by simp)];rfl
theorem aW(s:DS)(l:List AG)(j:l.length≤4294967296)(h:∀e∈l,CZ e.Attrs)(q:s.adds.length+l.length≤1099511627776):H2 (Co s) l=some (Co ⟨s.out,s.adds++l,s.cuts⟩):=by
 unfold H2
 rw[kc l j h,AD]
 show(AB (app 40 s.adds l) _)=_
 rw[HV q,AD];rfl
def Dr(l:List AI):Nat:=(l.map λx=>x.Elems.length).sum
theorem WR a b:Dr (a++b)=Dr a+Dr b:=by simp[Dr]
theorem Y1(s:DS):Dr (BP s)=Dr s.out+s.adds.length:=by
 unfold BP
 rw[WR]
 have l:Dr (if 0<s.cuts then [(⟨2,s.cuts,[],[]⟩:AI)] else [])=0:=by split<;>rfl
 rw[l]
 by_cases j:0<s.adds.length
 ·rw[vw j,WR];simp[Dr]
 ·rw[ne j];omega
theorem bG:∀ {l:List AI} {i:Nat} {s:AI},i<l.length→s.Elems=l[i]!.Elems→Dr (l.set i s)=Dr l
 | x::l,0,s,_,h=>by
  have j:s.Elems=x.Elems:=h
  simp[Dr,j]
 | x::l,i+1,s,q,h=>by
  have:=bG (l:=l) (i:=i) (s:=s) (by simpa using q) h
  rw[zW]
  simp only[Dr,wP,xJ] at this ⊢
  omega
theorem jx l t n:Dr (DX l t n)=Dr l:=by
 unfold DX
 split
 ·rename_i j;exact bG (by omega) rfl
 ·rw[WR];simp[Dr]
theorem eX:∀(us:List Un) (s:DS),Dr (us.foldl dU s).out+(us.foldl dU s).adds.length=Dr s.out+s.adds.length+BR us
 | [],s=>by simp[BR]
 | u::us,s=>by
  have j:=eX us (dU s u)
  have l:BR (u::us)=(if u.isR then 0 else 1)+BR us:=by unfold BR;rw[xT];cases u.isR<;>simp<;>omega
  rw[wh,j,l]
  match u with
  | .a e=>simp[dU,Un.isR];omega
  | .r true t=>simp[dU,Un.isR]
  | .r false t=>
   have:Dr (dU s (.r false t)).out=Dr s.out+s.adds.length:=by
    show Dr (Hc (BP s) t)=_
    rw[← Uy,jx,Y1]
   simp only[Un.isR,xm]
   rw[this];simp[dU]
theorem am us:Dr (BP (Ay us))=BR us:=by
 rw[Y1]
 have:=eX us D0
 unfold Ay
 rw[this];simp[D0,Dr]
theorem fN{us}(h:∀u∈us,Di u)(q:(BP (Ay us)).length≤1099511627776)(w:BR us≤1073741824):FS (BP (Ay us)):=by
 obtain⟨j,_⟩:=Nz (KR h)
 exact⟨q,λx l=>⟨(j x l).2.1,by have:=(j x l).2.2.1;omega,(j x l).2.2.2⟩,by have:=am us;unfold Dr at this;omega⟩
theorem Q8{us}(h:∀u∈us,Di u)(l:(Ay us).out.length+2≤1099511627776)(q:BR us≤1073741824) :
  Ib (Co (Ay us))=some (if CY (BT us)≠0 then([],3,⟨BT us,[],0⟩) else(BT us,0,⟨BT us,[],0⟩)):=by
 obtain⟨w,A,B,C,E,F⟩:=Nz (KR h)
 unfold Ib
 rw[ZJ _ l,AD]
 dsimp only
 rw[PU _ (fN h (by omega) q),AD,← KE]
 by_cases j:CY (BT us)≠0
 ·rw[vw (Bb j),vw j]
 ·have j:=wU.1 j
  rw[ne (CI j),ne (by simpa using j)]
theorem Kr us(n:Int) t(h:0≤n):EX (Ay us) n t=Ay (us++List.replicate n.toNat (.r false t)):=by
 rw[pJ _ _ _ h];unfold Ay;rw[zZ]
theorem NB us(l:List AG):(⟨(Ay us).out,(Ay us).adds++l,(Ay us).cuts⟩:DS)=Ay (us++l.map Un.a):=by
 unfold Ay;rw[zZ,tu]
theorem UI us n t:(⟨(Ay us).out,(Ay us).adds,(Ay us).cuts+n⟩:DS)=Ay (us++List.replicate n (.r true t)):=by
 unfold Ay;rw[zZ,jc]
theorem pe(x y:AG)(h:x.Attrs.length≤1073741824):Ot x y=some (decide (x=y)):=by
 unfold Ot
 rw[M7 _ _ (by omega)]
 obtain⟨j,l,q⟩:=x
 obtain⟨u,w,A⟩:=y
 by_cases B:j=u<;>by_cases C:l=w<;>by_cases E:q=A<;>simp[B,C,E,default]
theorem Sg{α:Type}[Inhabited α][DecidableEq α]{a b:List α}(l:a.length=b.length)(h:((List.range a.length).all λk=>decide (a[k]! = b[k]!))=true):a=b:=by
 apply yg l
 intro k j q
 have:=wR.1 h k (wi.2 j)
 simp only[vx] at this
 rwa [wF a k j,wF b k q] at this
theorem UL{α:Type}[Inhabited α][DecidableEq α](a:List α):((List.range a.length).all λk=>decide (a[k]! = a[k]!))=true:=by
 rw[wR];intro k _;rw[vz rfl]
theorem Ya(a b:List AG)(u:a.length≤9223372036854775806)(h:∀e∈a,e.Attrs.length≤1073741824):LS a b=some (decide (a=b)):=by
 unfold LS
 by_cases j:a.length=b.length
 ·rw[ne (by simp[j]),CP (n:=a.length) (λk=>if decide (a[k]! = b[k]!) then none else some false) (λk l=>by
   unfold OP
   rw[vw (by simpa using l),AZ l,AZ (by omega),AD,AD,pe _ _ (h _ (BN l)),AD,Ae (by omega)]
   generalize a[k]! = x
   generalize b[k]! = y
   by_cases h:x=y<;>simp[h,Ca]) (by unfold OP;rw[ne (by simp)]),JH,Et]
  by_cases h:a=b
  ·subst h;rw[UL,vz rfl];rfl
  ·rw[vy h]
   have:((List.range a.length).all λk=>decide (a[k]! = b[k]!))=false:=by
    rw[← xR];exact λq=>h (Sg j q)
   rw[this];rfl
 ·rw[vw (by simp;omega),vy (by rintro rfl;exact j rfl)]
theorem om(a b:List AI)(X:a.length≤9223372036854775806)(h:∀s∈a,Gn s):NP a b=some (decide (a=b)):=by
 unfold NP
 by_cases j:a.length=b.length
 ·rw[ne (by simp[j]),CP (n:=a.length) (λk=>if decide (a[k]! = b[k]!) then none else some false) (λk l=>by
   unfold PQ
   have q:=h _ (BN l)
   rw[vw (by simpa using l),AZ l,AZ (by omega),AD,AD,M7 _ _ (by have:=q.at_.1;omega),Ya _ _ (by have:=q.el;omega) (λe u=>(q.ea e u).1),Ae (by omega)]
   generalize a[k]! = x
   generalize b[k]! = y
   obtain⟨w,A,B,C⟩:=x
   obtain⟨E,F,I,J⟩:=y
   by_cases M:w=E<;>by_cases O:A=F<;>by_cases T:B=I<;>by_cases U:C=J<;>simp[M,O,T,U,Ca,default]) (by unfold PQ;rw[ne (by simp)]),JH,Et]
  by_cases h:a=b
  ·subst h;rw[UL,vz rfl];rfl
  ·rw[vy h]
   have:((List.range a.length).all λk=>decide (a[k]! = b[k]!))=false:=by
    rw[← xR];exact λV=>h (Sg j V)
   rw[this];rfl
 ·rw[vw (by simp;omega),vy (by rintro rfl;exact j rfl)]
theorem lj(d:List AI)(q:FS d)(h:S4 d):NR d=some (A5 d):=by
 unfold NR
 have E:=q.len
 have key:∃r,iter (λ(a:Int × Int)=>Jw d a.1 a.2) (0,0)=some r∧r=A5 d:=by
  refine FA d.length (λk l=>l=(A5 (d.take k),(k:Int))) _ ?_ ?_ (by simp[A5])
  ·rintro k l j rfl
   obtain⟨F,I,J,M,_⟩:=ZU h q k
   have hg:=(h.st _ (BN j)).kind
   have u:d[k]!.N=B2 d[k]!∧d[k]!.N≤2147483647∧0≤d[k]!.N:=by
    unfold B2
    rcases hg with ⟨k,e,w,A,_⟩ | ⟨k,e,_,w,A⟩ | ⟨k,n,_,_,_⟩
    ·rw[ne (by omega)];omega
    ·rw[ne (by omega)];omega
    ·rw[vw k];omega
   refine .inl ⟨_,?_,rfl⟩
   show Jw d (A5 (d.take k)) (k:Int)=_
   unfold Jw
   rw[vw (by simpa using j),AZ j,AD,By (by omega) (by omega),AD,Ae (by omega),AD,UJ j,u.1]
  ·rintro l rfl
   refine⟨A5 d,?_,rfl⟩
   rw[yC]
   show Jw d _ (d.length:Int)=_
   unfold Jw
   rw[ne (by simp)]
 obtain⟨r,B,C⟩:=key
 rw[B,C];rfl
def Li(f:List AG):Prop:=∀e∈f,Bx e=0∧e.Attrs.length≤1048576
def Rs(us:List Un):Prop:=∀u∈us,match u with | .a e=>Bx e=0∧e.Attrs.length≤1048576 | .r c t=>(c=false→Ao t true=0)∧t.length≤1048576
def aX(f:List AG):Prop:=∀e∈f,Ao e.Attrs false=0∧e.Attrs.length≤1048576
theorem Ho{e:AG}(h:Bx e=0):Ao e.Attrs false=0:=iH h
theorem Li.fa{f}(h:Li f):aX f:=λe j=>⟨Ho (h e j).1,(h e j).2⟩
theorem kJ{x:Bo}(h:Dn x){k}(j:k<x.Cuts.length):Un.r x.Cuts[k]! x.Attrs[k]! ∈ x.us:=by
 obtain⟨p,hp⟩:=kt x k h (by omega)
 rw[Xd h j] at hp
 rw[hp];simp
theorem Vl{l t:List AC}(j:Ao l false=0)(q:Ao t true=0)(u:l.length≤1048576)(w:t.length≤1048576):H4 l t=some (GR l t):=by
 rw[jl l t (EL j).1 (EL q).1 (by omega),← mc j q];rfl
theorem lh(f:List AG)(x:Bo)(h:Dn x)(A:x.Cuts.length=f.length)(F:aX f)(I:Rs x.us)(T:x.us.length≤4294967296):Np f x=some (A8 x.us f):=by
 unfold Np
 have U:=h.adds
 have V:=h.attrs
 have J:=Ws x.us f
 have M:=h.cuts_le
 have key:∃r,iter (λ(a:Int × (List AG))=>KH f x a.1 a.2) (0,[])=some r∧r++x.Adds[f.length]! = A8 x.us f:=by
  refine FA f.length (λk B=>B.1=(k:Int)∧B.2++A8 (x.from_ k) (f.drop k)=A8 x.us f) _ ?_ ?_ ⟨rfl,rfl⟩
  ·rintro k ⟨i,out⟩ l ⟨rfl,hd⟩
   dsimp only at hd
   have hA:=h.add_le (k:=k) (by omega)
   rw[Xd h (by omega),Hr l,S8,← wJ] at hd
   have u:=ye List.length hd
   rw[wG,wG] at u
   have q:=I _ (kJ h (k:=k) (by omega))
   dsimp only at q
   have j:=F _ (BN l)
   refine .inl ?_
   show ∃X,KH f x (k:Int) out=_∧_
   unfold KH
   rw[vw (by simpa using l),AZ (l:=x.Adds) (by omega),AD,HV (by omega),AD,AZ (l:=x.Cuts) (by omega),AD]
   cases C:x.Cuts[k]! with
   | true=>
    rw[C] at hd
    rw[ne (by decide),AD,Ae (by omega),AD]
    exact⟨_,rfl,rfl,hd⟩
   | false=>
    rw[C] at hd q
    rw[vw (by decide),AZ l,AD,AZ (l:=x.Attrs) (by omega),AD,Vl j.1 (q.1 rfl) j.2 q.2,AD]
    rw[HV (by rw[wG,wu];omega),AD,AD,Ae (by omega),AD]
    refine⟨_,rfl,rfl,?_⟩
    rw[← hd]
    simp only[A8,wJ,zO]
    rfl
  ·rintro⟨i,out⟩ ⟨rfl,hd⟩
   dsimp only at hd
   refine⟨out,?_,?_⟩
   ·show KH f x (f.length:Int) out=_
    unfold KH
    rw[ne (by simp)]
   ·rw[← A,jH h] at hd
    have:=S8 x.Adds[x.Cuts.length]! [] (f.drop x.Cuts.length)
    rw[wS] at this
    rw[this] at hd
    rw[← hd,← A]
    simp[A8]
 obtain⟨r,O,E⟩:=key
 have w:=ye List.length E
 rw[wG] at w
 rw[O,AD,AZ (l:=x.Adds) (by omega),AD,HV (by omega),AD,E]
theorem s7(f:List AG)(x:Bo)(h:Dn x)(j:x.Cuts.length=f.length)(l:Li f)(q:Rs x.us)(u:x.us.length≤4294967296):Np f x=some (A8 x.us f):=lh f x h j l.fa q u
theorem R5{κ}(j:∀a,a.Name.length+a.Value.length+1≤κ a){l:List AC}(u:(l.map κ).sum≤1048576):CZ l:=by
 have w:=Kd (μ:=κ) (λa=>by have:=j a;omega) l
 refine⟨by omega,λa q=>?_⟩
 have A:=IL (μ:=κ) q
 have:=j a
 omega
theorem sB{ν}{κ}(j:∀e,(e.Attrs.map κ).sum+1≤ν e)(l:∀a,a.Name.length+a.Value.length+1≤κ a){f:List AG}(u:(f.map ν).sum≤1048576):f.length≤1048576∧∀e∈f,CZ e.Attrs:=by
 have w:=Kd (μ:=ν) (λe=>by have:=j e;omega) f
 refine⟨by omega,λe q=>R5 l ?_⟩
 have A:=IL (μ:=ν) q
 have:=j e
 omega
structure Gu(d:List AI):Prop where
 at_:∀s∈d,s.Attrs.length≤1048576
 ea:∀s∈d,∀e∈s.Elems,e.Attrs.length≤1048576
 sum:(d.map λs=>s.Elems.length).sum≤1048576
 len:d.length≤1048576
theorem nW{d}(h:∀s∈d,Fb s)(w:Gu d):Rs (Aj d):=by
 intro u I
 obtain⟨s,q,l⟩:=List.mem_flatMap.1 I
 have J:=(h s q).kind
 have A:=w.at_ s q
 have M:=w.ea s q
 unfold BO at l
 rcases J with ⟨k,e,O,T,B⟩ | ⟨k,e,B,O,T⟩ | ⟨k,n,_,_,p⟩
 ·rw[ne (by omega),vy (by omega)] at l
  have:=xY l
  subst this
  exact⟨λ_=>B,A⟩
 ·rw[ne (by omega),vz k] at l
  have:=xY l
  subst this
  exact⟨λh=>(by cases h),A⟩
 ·rw[vw k] at l
  obtain⟨e,C,rfl⟩:=xd.1 l
  obtain⟨j,E,rfl⟩:=xD.1 C
  have F:=OZ p E
  rw[wF s.Elems j E] at F
  exact⟨F,M _ C⟩
theorem s6{f}(h:FR f=0)(w:∀e∈f,e.Attrs.length≤1048576):Li f:=by
 intro e l
 obtain⟨j,q,rfl⟩:=xD.1 l
 have u:=OZ h q
 rw[wF f j q] at u
 exact⟨u,w _ l⟩
theorem So(us:List Un):BR us≤us.length:=yO
theorem V0(us:List Un):Bv us≤us.length:=yO
theorem JV{us:List Un}(h:∀u∈us,Di u):(Ay us).out.length+(Ay us).adds.length+(Ay us).cuts≤us.length:=(KR h).len
theorem th:∀(us:List Un) (f:List AG),Li f→Rs us→∀e∈A8 us f,e.Attrs.length≤1073741824:=by
 intro us f
 fun_induction A8 us f with
 | case1 e us f q=>
  intro l j x h
  rcases wM.1 h with rfl | h
  ·have:x.Attrs.length≤1048576:=(j _ (v8 ..)).2
   show x.Attrs.length≤_
   omega
  ·exact q l (λv u=>j v (wC _ u)) x h
 | case2 t us y f q=>
  intro l j x h
  exact q (λe w=>l e (wC _ w)) (λv u=>j v (wC _ u)) x h
 | case3 t us y f q=>
  intro l j x h
  rcases wM.1 h with rfl | h
  ·have A:=(l y (v8 ..)).2
   have B:t.length≤1048576:=(j _ (v8 ..)).2
   have:=bN y.Attrs t
   show(GR y.Attrs t).length≤_
   omega
  ·exact q (λe w=>l e (wC _ w)) (λv u=>j v (wC _ u)) x h
 | case4=>intro _ _ x h;cases h
 | case5=>intro _ _ x h;cases h
theorem UY{d}(h:∀s∈d,Fb s):(Av (Aj d):Int)=A5 d:=by
 induction d with
 | nil=>rfl
 | cons s d j=>
  have B:=j (λx q=>h x (wC _ q))
  have u:=(h s (v8 ..)).kind
  rw[UP,Im]
  have e:Av (BO s++Aj d)=Av (BO s)+Av (Aj d):=by simp[Av]
  rw[e]
  have C:(Av (BO s):Int)=B2 s:=by
   unfold BO B2
   rcases u with ⟨k,e,w,A,_⟩ | ⟨k,e,_,w,A⟩ | ⟨k,n,_,_,_⟩
   ·rw[ne (by omega),ne (by omega)];simp[Av,xu,Un.isR];omega
   ·rw[ne (by omega),ne (by omega)];simp[Av,xu,Un.isR];omega
   ·rw[vw k,vw k]
    have:∀l:List AG,Av (l.map Un.a)=0:=λl=>by induction l with
     | nil=>rfl
     | cons x l j=>simp[Av,Un.isR]
    rw[this];rfl
  omega
def Dp(us:List Un):Prop:=∀u∈us,match u with | .a e=>Bx e=0∧e.Attrs.length≤1048576 | .r c t=>(c=false→Ao t true=0)∧(c=true→t=[])∧t.length≤1048576
theorem jV{s:AI}(h:Fb s)(w:s.Attrs.length≤1048576)(E:∀e∈s.Elems,e.Attrs.length≤1048576):Dp (BO s):=by
 intro u l
 unfold BO at l
 rcases h.kind with ⟨k,e,F,I,q⟩ | ⟨k,e,q,F,I⟩ | ⟨k,n,_,_,p⟩
 ·rw[ne (by omega),vy (by omega)] at l
  have:=xY l
  subst this
  exact⟨λ_=>q,λh=>(by cases h),w⟩
 ·rw[ne (by omega),vz k] at l
  have:=xY l
  subst this
  exact⟨λh=>(by cases h),λ_=>q,w⟩
 ·rw[vw k] at l
  obtain⟨e,A,rfl⟩:=xd.1 l
  obtain⟨j,B,rfl⟩:=xD.1 A
  have C:=OZ p B
  rw[wF s.Elems j B] at C
  exact⟨C,E _ A⟩
theorem Sr{d}(h:∀s∈d,Fb s)(l:Gu d):Dp (Aj d):=by
 intro u q
 obtain⟨s,j,w⟩:=List.mem_flatMap.1 q
 exact jV (h s j) (l.at_ s j) (l.ea s j) u w
def CF(s:AI):Int:=if s.Kind=1 then s.Elems.length else s.N
def CK(p:BX):List Un:=match p.steps with
 | []=>[]
 | s::rest=>(BO s).drop p.used.toNat++Aj rest
structure Fu(p:BX):Prop where
 stp:∀s∈p.steps,Fb s∧Gn s
 u0:0≤p.used
 fit:∀s rest,p.steps=s::rest→p.used<CF s
theorem HT{s}(h:Fb s)(j:Gn s):1≤CF s∧CF s≤2147483647∧((BO s).length:Int)=CF s∧HS s=some (CF s):=by
 have A:=j.el
 unfold CF BO HS
 rcases h.kind with ⟨k,e,l,q,u⟩ | ⟨k,e,u,l,q⟩ | ⟨k,n,_,w,p⟩
 ·rw[ne (by omega),ne (by omega),ne (by rw[vx];omega),ws];exact⟨by omega,by omega,by omega,rfl⟩
 ·rw[ne (by omega),ne (by omega),ne (by rw[vx];omega),ws];exact⟨by omega,by omega,by omega,rfl⟩
 ·have:=yA.2 w
  rw[vw k,vw k,vw (by rw[vx];exact k),wZ];exact⟨by omega,by omega,rfl,rfl⟩
theorem OT a:CK ⟨a,0⟩=Aj a:=by
 cases a with
 | nil=>rfl
 | cons s rest=>simp[CK,Aj]
theorem RO{a}(h:∀s∈a,Fb s∧Gn s):Fu ⟨a,0⟩:=⟨h,zU 0,λs rest e=>by
 have j:s∈a:=by show s∈(⟨a,0⟩:BX).steps;rw[e];exact v8 ..
 have:=(HT (h s j).1 (h s j).2).1
 show(0:Int)<CF s
 omega⟩
theorem M2 u:Gf ⟨[],u⟩=some (-1):=by unfold Gf;rw[vw (by simp)]
theorem Mm(s:AI) rest u:Gf ⟨s::rest,u⟩=some s.Kind:=by
 unfold Gf;rw[ne (by simp;omega)];rfl
theorem Hi{s}{rest}{u}(h:Fu ⟨s::rest,u⟩):Gs ⟨s::rest,u⟩=some (CF s-u):=by
 have j:=h.stp s (v8 ..)
 have l:=HT j.1 j.2
 have q:=h.u0
 have w:=h.fit s rest rfl
 dsimp only at q w
 unfold Gs
 show AB (some s) _=_
 rw[AD,l.2.2.2,AD,By (by dsimp only;omega) (by dsimp only;omega)];rfl
def KD(s:AI)(u n:Nat):List Un:=((BO s).drop u).take n
theorem Hv{s:AI}{rest:List AI}{u n:Int}(h:Fu ⟨s::rest,u⟩)(T:1≤n)(U:n≤CF s-u)(V:rest.length≤4294967296) :
  ∃p s',Fx ⟨s::rest,u⟩ n=some (s',p)∧Fu p∧CK ⟨s::rest,u⟩=KD s u.toNat n.toNat++CK p∧p.steps.length≤rest.length+1∧s'.Kind=s.Kind∧s'.Attrs=s.Attrs∧(s.Kind=1→s'.Elems.map Un.a=KD s u.toNat n.toNat∧(s'.Elems.length:Int)=n∧∀e∈s'.Elems,e∈s.Elems):=by
 have w:=h.stp s (v8 ..)
 have E:=HT w.1 w.2
 have F:=h.u0
 have I:=h.fit s rest rfl
 dsimp only at F I
 unfold Fx
 dsimp only
 show ∃p s',AB (some s) _=_∧_
 rw[AD]
 have q:∃s',(if(decide (s.Kind=1)) then(AB (AN .i64 (u+n)) λ(J:Int)=>AB (CS s.Elems u J) λ(M:List AG)=>some (AI.mk s.Kind s.N s.Attrs M)) else(some (AI.mk s.Kind n s.Attrs s.Elems)))=some s'∧s'.Kind=s.Kind∧s'.Attrs=s.Attrs∧(s.Kind=1→s'.Elems.map Un.a=KD s u.toNat n.toNat∧(s'.Elems.length:Int)=n∧∀e∈s'.Elems,e∈s.Elems):=by
  by_cases k:s.Kind=1
  ·have X:CF s=s.Elems.length:=by unfold CF;rw[vw k]
   rw[vw (by rw[vx];exact k),By (by omega) (by omega),AD]
   have:CS s.Elems u (u+n)=some ((s.Elems.drop u.toNat).take n.toNat):=by
    unfold CS
    rw[vw (by omega),show(u+n).toNat-u.toNat=n.toNat by omega]
   rw[this,AD]
   refine⟨_,rfl,rfl,rfl,λ_=>⟨?_,?_,λe l=>xx (xy l)⟩⟩
   ·unfold KD BO;rw[vw k,List.map_take,List.map_drop]
   ·dsimp only;rw[List.length_take,List.length_drop];omega
  ·rw[ne (by rw[vx];exact k)]
   exact⟨_,rfl,rfl,rfl,λh=>absurd h k⟩
 obtain⟨s',q,A,B,C⟩:=q
 rw[q,AD,By (by omega) (by omega),AD,E.2.2.2,AD]
 have j:(BO s).drop u.toNat=KD s u.toNat n.toNat++(BO s).drop (u.toNat+n.toNat):=by
  unfold KD
  rw[← List.drop_drop,xt]
 by_cases l:u+n=CF s
 ·rw[vw (by rw[vx];exact l)]
  have:CS (s::rest) 1 ((s::rest).length:Int)=some rest:=by
   unfold CS
   rw[vw (by rw[wK];omega)]
   simp
  rw[this,AD,AD]
  refine⟨_,_,rfl,RO λx O=>h.stp x (wC _ O),?_,by simp,A,B,C⟩
  rw[OT]
  show(BO s).drop u.toNat++Aj rest=_
  rw[j,zD (by omega),wS]
 ·rw[ne (by rw[vx];exact l),AD]
  refine⟨_,_,rfl,⟨h.stp,by show 0≤u+n;omega,λx r e=>?_⟩,?_,by simp,A,B,C⟩
  ·have:s=x:=by have:=e;simp at this;exact this.1
   subst this
   show u+n<CF s
   omega
  ·show(BO s).drop u.toNat++Aj rest=_++((BO s).drop (u+n).toNat++Aj rest)
   rw[j,wJ,show(u+n).toNat=u.toNat+n.toNat by omega]
theorem PN{s:AI}{u n}(k:s.Kind≠1)(h:u+n≤s.N.toNat):KD s u n=List.replicate n (.r (decide (s.Kind=2)) s.Attrs):=by
 unfold KD BO
 rw[ne k,List.drop_replicate,List.take_replicate,show min n (s.N.toNat-u)=n by omega]
theorem u6 n l j q u us vs:CJ (List.replicate n (.r l q)++us) (List.replicate n (.r j u)++vs)=(if j then [] else List.replicate n (.r l (FQ q u)))++CJ us vs:=by
 induction n with
 | zero=>cases j<;>rfl
 | succ n w=>
  rw[wc,wc,wN,wN,CJ,w]
  cases j<;>rfl
theorem lu n j l u q us vs:Cp (List.replicate n (.r j u)++us) (List.replicate n (.r l q)++vs)=(if j then [] else List.replicate n (.r l q))++Cp us vs:=by
 induction n with
 | zero=>cases j<;>rfl
 | succ n w=>
  rw[wc,wc,wN,wN,Cp,w]
  cases j<;>rfl
theorem Y4{a b}(j:Ao a true=0)(l:Ao b true=0):Bs Fh a b []=FQ a b:=ns (EL j).1 (EL l).1 (EL j).2.1 (EL l).2.1
theorem Rz{u:Un}{us:List Un}(h:Dp us)(hu:u ∈ us):Di u := by
  have := h u hu
  match u, this with
  | .a e, he => exact⟨he.1, Gc (Ho he.1) (by omega)⟩
  | .r true t, ht => have := ht.2.1 rfl
                     subst this;exact⟨λh => (by cases h), GM⟩
  | .r false t, ht => exact⟨λ_ => ht.1 rfl, Gc (ht.1 rfl) (by have := ht.2.2;omega)⟩
theorem Dp.tl{u}{us}(h:Dp (u::us)):Dp us:=λv j=>h v (wC _ j)
theorem NW:Ao [] true=0:=by decide
theorem fO:Di (.r false []):=⟨λ_=>NW,GM⟩
theorem ic{j q:List AC}(u:Ao j true=0)(w:Ao q true=0)(B:j.length≤1048576)(A:q.length≤1048576):Ao (FQ j q) true=0∧CZ (FQ j q):=by
 have e:=nQ u w
 have l:=pI j q
 rw[Y4 u w] at e l
 exact⟨e,Gc e (by omega)⟩
theorem fJ:∀(us vs:List Un),Dp us→Dp vs→∀u∈CJ us vs,Di u:=by
 intro us vs
 fun_induction CJ us vs with
 | case1 e us vs w=>
  intro l q u j
  rcases wM.1 j with rfl | j
  ·exact Rz l (v8 ..)
  ·exact w l.tl q u j
 | case2 us e vs F w=>
  intro l q u j
  rcases wM.1 j with rfl | j
  ·exact fO
  ·exact w l q.tl u j
 | case3 E I us J vs w=>intro l q u j;exact w l.tl q.tl u j
 | case4 E I us T J vs B w=>
  intro l q u j
  rcases wM.1 j with rfl | j
  ·have A:=l _ (v8 ..)
   have C:=q _ (v8 ..)
   dsimp only at A C
   cases E with
   | true=>
    have:=A.2.1 rfl
    subst this
    exact⟨λh=>(by cases h),GM⟩
   | false=>
    obtain⟨M,O⟩:=ic (A.1 rfl) (C.1 (by simpa using B)) A.2.2 C.2.2
    exact⟨λ_=>M,O⟩
  ·exact w l.tl q.tl u j
 | case5=>intro _ _ u j;cases j
 | case6=>intro _ _ u j;cases j
 | case7=>intro _ _ u j;cases j
theorem W5:∀(us vs:List Un),Dp us→Dp vs→∀u∈Cp us vs,Di u:=by
 intro us vs
 fun_induction Cp us vs with
 | case1 e us vs q=>
  intro w l u j
  rcases wM.1 j with rfl | j
  ·exact fO
  ·exact q w.tl l u j
 | case2 us e vs A q=>
  intro w l u j
  rcases wM.1 j with rfl | j
  ·exact Rz l (v8 ..)
  ·exact q w l.tl u j
 | case3 B us C E vs q=>intro w l u j;exact q w.tl l.tl u j
 | case4 I B us C E vs F q=>
  intro w l u j
  rcases wM.1 j with rfl | j
  ·exact Rz l (v8 ..)
  ·exact q w.tl l.tl u j
 | case5=>intro _ _ u j;cases j
 | case6=>intro _ _ u j;cases j
 | case7=>intro _ _ u j;cases j
theorem DY(u:Un) us:BR (u::us)=(if u.isR then 0 else 1)+BR us:=by unfold BR;rw[xT];cases u.isR<;>simp<;>omega
theorem jJ:∀(us vs:List Un),BR (CJ us vs)≤BR us:=by
 intro us vs
 fun_induction CJ us vs with
 | case1 e us vs j=>rw[DY,DY];omega
 | case2 us e vs l j=>rw[DY];simp only[Un.isR,xm];omega
 | case3 q u us w vs j=>rw[DY];omega
 | case4 q u us B w vs A j=>rw[DY,DY];simp only[Un.isR,xm];omega
 | case5=>simp[BR]
 | case6=>simp[BR]
 | case7=>simp[BR]
theorem jm:∀(us vs:List Un),BR (Cp us vs)≤BR vs:=by
 intro us vs
 fun_induction Cp us vs with
 | case1 e us vs j=>rw[DY];simp only[Un.isR,xm];omega
 | case2 us e vs l j=>rw[DY,DY];omega
 | case3 q us u w vs j=>rw[DY];omega
 | case4 B q us u w vs A j=>rw[DY,DY];simp only[Un.isR,xm];omega
 | case5=>simp[BR]
 | case6=>simp[BR]
 | case7=>simp[BR]
theorem Hq a b:Av (a++b)=Av a+Av b:=by simp[Av]
theorem OX(l:List AG):Av (l.map Un.a)=0:=by induction l with
 | nil=>rfl
 | cons x l j=>simp[Av,Un.isR]
theorem Om n c t:Av (List.replicate n (.r c t))=n:=by simp[Av,xu,Un.isR]
theorem XZ{s:AI}{rest}{u:Int}(h:Fu ⟨s::rest,u⟩)(l:s.Kind≠1):OK (CK ⟨s::rest,u⟩)∧0<Av (CK ⟨s::rest,u⟩):=by
 have q:=h.stp s (v8 ..)
 have C:=HT q.1 q.2
 have w:=h.u0
 have A:=h.fit s rest rfl
 dsimp only at w A
 have E:CF s=s.N:=by unfold CF;rw[ne l]
 have e:CK ⟨s::rest,u⟩=List.replicate (s.N.toNat-u.toNat) (.r (decide (s.Kind=2)) s.Attrs)++Aj rest:=by
  show(BO s).drop u.toNat++Aj rest=_
  unfold BO
  rw[ne l,List.drop_replicate]
 obtain⟨j,B⟩:∃j,s.N.toNat-u.toNat=j+1:=⟨s.N.toNat-u.toNat-1,by omega⟩
 rw[e,B]
 constructor
 ·rw[wc,wN]
  exact λ_ _ h=>by cases h
 ·rw[Hq,Om]
  omega
theorem Gq a b:Av (a++b)=Av a+Av b:=by simp[Av]
def W0:hZ:=⟨[],0,0⟩
theorem gf(a b:List Db)(F:a.length≤9223372036854775806):ND a b=some (decide (a=b)):=by
 unfold ND
 by_cases l:a.length=b.length
 ·rw[ne (by simp[l]),CP (n:=a.length) (λk=>if decide (a[k]! = b[k]!) then none else some false) (λk u=>by
   unfold QE
   rw[vw (by simpa using u),AZ u,AZ (by omega),AD,AD,Ae (by omega)]
   generalize a[k]! = x
   generalize b[k]! = y
   obtain⟨A,B⟩:=x
   obtain⟨C,E⟩:=y
   by_cases h:A=C<;>by_cases q:B=E<;>simp[h,q,Ca]) (by unfold QE;rw[ne (by simp)]),JH,Et]
  by_cases h:a=b
  ·subst h;simp
  ·rw[vy h]
   have:((List.range a.length).all λk=>decide (a[k]! = b[k]!))=false:=by
    rw[← xR,wR]
    intro j
    apply h
    apply yg l
    intro k w q
    have:=j k (wi.2 w)
    simp only[vx] at this
    rwa [wF a k w,wF b k q] at this
   rw[this];rfl
 ·rw[vw (by simp;omega),vy (by rintro rfl;exact l rfl)]
theorem Ko{X:List Un}(j:∀u∈X,Di u)(w:X.length≤100000000000)(k:Int)(t:List AC)(l:0≤k)(A:k≤100000000000)(q:t.length≤1073741824) :
  Gv (Co (Ay X)) k t=some (Co (Ay (X++List.replicate k.toNat (.r false t)))):=by
 have B:=JV j
 have C:Av X≤X.length:=yO
 rw[gK (KR j) (by omega) (by omega) k t l (by omega) q,Kr X k t l]
theorem Mj{X:List Un}(j:∀u∈X,Di u)(w:X.length≤100000000000)(l:List AG)(q:l.length≤4294967296)(h:∀e∈l,CZ e.Attrs):H2 (Co (Ay X)) l=some (Co (Ay (X++l.map Un.a))):=by
 have A:=JV j
 rw[aW (Ay X) l q h (by omega),NB]
theorem T3{X:List Un}(j:∀u∈X,Di u)(q:X.length≤100000000000)(n:Int)(t:List AC)(w:0≤n)(A:n≤100000000000){α:Type}(f:Ah→Option α) :
  (AB (AN .i64 ((Co (Ay X)).cut+n)) λ(l:Int)=>f (Ah.mk (Co (Ay X)).out (Co (Ay X)).add l))=f (Co (Ay (X++List.replicate n.toNat (.r true t)))):=by
 have B:=JV j
 show(AB (AN .i64 (((Ay X).cuts:Int)+n)) _)=_
 rw[By (by omega) (by omega),AD,← UI]
 congr 1
 show(⟨(Ay X).out,(Ay X).adds,((Ay X).cuts:Int)+n⟩:Ah)=⟨(Ay X).out,(Ay X).adds,(((Ay X).cuts+n.toNat:Nat):Int)⟩
 congr 1
 omega
theorem Dp.app{a b}(h:Dp (a++b)):Dp b:=λu j=>h u (zM _ j)
theorem sI(I J:List Un)(p q:BX)(hp:Fu p)(C:Fu q)(ha:CK p=I)(hb:CK q=J)(oa:Dp I)(ob:Dp J)(hc:Av I=Av J)(ah:I.length≤4294967296)(ai:J.length≤4294967296)(O:p.steps.length≤4294967296)(E:q.steps.length≤4294967296) :
  iter (λ(a:Ah × Ah × BX × BX)=>Ma a.1 a.2.1 a.2.2.1 a.2.2.2) ((Ah.mk [] [] 0),(Ah.mk [] [] 0),p,q)=some (Co (Ay (CJ I J)),Co (Ay (Cp I J))):=by
 have key:∃r,iter (λ(a:Ah × Ah × BX × BX)=>Ma a.1 a.2.1 a.2.2.1 a.2.2.2) ((Ah.mk [] [] 0),(Ah.mk [] [] 0),p,q)=some r∧r=(Co (Ay (CJ I J)),Co (Ay (Cp I J))):=by
  refine eT (λF=>Fu F.2.2.1∧Fu F.2.2.2∧Dp (CK F.2.2.1)∧Dp (CK F.2.2.2)∧F.2.2.1.steps.length≤4294967296∧F.2.2.2.steps.length≤4294967296∧Av (CK F.2.2.1)=Av (CK F.2.2.2) ∧
   ∃X Y,F.1=Co (Ay X)∧F.2.1=Co (Ay Y)∧X++CJ (CK F.2.2.1) (CK F.2.2.2)=CJ I J∧Y++Cp (CK F.2.2.1) (CK F.2.2.2)=Cp I J)
   (λF=>(CK F.2.2.1).length+(CK F.2.2.2).length) _ ?_ ⟨hp,C,by rw[ha];exact oa,by rw[hb];exact ob,O,E,by rw[ha,hb];exact hc,[],[],rfl,rfl,by rw[ha,hb];rfl,by rw[ha,hb];rfl⟩
  rintro⟨x,y,p,q⟩ ⟨hp,C,U,oQ,O,E,hc,X,Y,hx,hy,j,l⟩
  dsimp only at hp C U oQ O E hc hx hy j l
  subst hx;subst hy
  have aj:X.length≤8589934592:=by
   have A:=ye List.length j
   have M:=Z6 I J
   rw[wG] at A
   omega
  have ak:Y.length≤8589934592:=by
   have A:=ye List.length l
   have M:=Wl I J
   rw[wG] at A
   omega
  have V:∀u∈X,Di u:=λu hu=>fJ I J oa ob u (by rw[← j];exact yE _ hu)
  have Z:∀u∈Y,Di u:=λu hu=>W5 I J oa ob u (by rw[← l];exact yE _ hu)
  dsimp only
  unfold Ma
  obtain⟨ps,pu⟩:=p
  obtain⟨qs,qu⟩:=q
  match ps,qs with
  | [],[]=>
   refine .inr ?_
   rw[M2,M2]
   simp only[AD]
   refine⟨_,rfl,?_⟩
   have e1:CJ [] []=[]:=by rw[CJ]
   have e2:Cp [] []=[]:=by rw[Cp]
   change X++CJ [] []=_ at j
   change Y++Cp [] []=_ at l
   rw[e1,wS] at j
   rw[e2,wS] at l
   rw[j,l]
  | s::ps,qs=>
   have hs:=hp.stp s (v8 ..)
   have hsz:=HT hs.1 hs.2
   have ab:=hp.u0
   have ac:=hp.fit s ps rfl
   have al:=Jk hs.1
   dsimp only at ab ac O
   rw[wK] at O
   rw[Mm,AD]
   have a6:decide (0≤s.Kind)=true:=by rw[vx];omega
   rw[a6,show(true==false)=false from rfl,ne (by decide),AD,vw (by decide)]
   refine .inl ?_
   by_cases hk:s.Kind=1
   ·obtain⟨p',s',A,M,T,h4,k1,k2,k3⟩:=Hv (n:=CF s-pu) hp (by omega) (by omega) (by omega)
    obtain⟨k3,k4,k5⟩:=k3 hk
    rw[vw (by rw[vx];exact hk),Hi hp,AD,A,CL,Mj V (by omega) s'.Elems (by omega) (λe he=>hs.2.ea e (k5 e he)),AD,Ko Z (by omega) _ _ (by omega) (by omega) (by simp),AD]
    rw[← k3] at T
    rw[T] at j l hc U ⊢
    rw[Zo,← wJ] at j
    rw[rp,← wJ] at l
    rw[Hq,OX,wW] at hc
    rw[xK]
    refine⟨_,rfl,⟨M,C,U.app,oQ,by dsimp only;omega,E,hc,_,_,rfl,rfl,j,l⟩,?_⟩
    dsimp only
    rw[wG,wZ];omega
   ·rw[ne (by rw[vx];exact hk)]
    have a0:=XZ hp hk
    match qs with
    | []=>
     exfalso
     have A:=a0.2
     rw[hc] at A
     exact absurd A (by show ¬ (0<Av []);simp[Av])
    | t::qs=>
     have ht:=C.stp t (v8 ..)
     have ad:=HT ht.1 ht.2
     have a7:=C.u0
     have a8:=C.fit t qs rfl
     have ae:=Jk ht.1
     dsimp only at a7 a8 E
     rw[wK] at E
     rw[Mm,AD]
     by_cases B:t.Kind=1
     ·obtain⟨q',t',A,M,T,h4,k1,k2,k3⟩:=Hv (n:=CF t-qu) C (by omega) (by omega) (by omega)
      obtain⟨k3,k4,k5⟩:=k3 B
      rw[vw (by rw[vx];exact B),Hi C,AD,A,CL,Ko V (by omega) _ _ (by omega) (by omega) (by simp),AD,Mj Z (by omega) t'.Elems (by omega) (λe he=>ht.2.ea e (k5 e he)),AD]
      rw[← k3] at T
      rw[T] at j l hc oQ ⊢
      rw[ZV _ _ _ a0.1,← wJ] at j
      rw[gN _ _ _ a0.1,← wJ] at l
      rw[Hq,OX,wW] at hc
      rw[xK]
      refine⟨_,rfl,⟨hp,M,U,oQ.app,by dsimp only [List.length_cons];omega,by dsimp only;omega,hc,_,_,rfl,rfl,j,l⟩,?_⟩
      dsimp only
      rw[wG,wZ];omega
     ·rw[ne (by rw[vx];exact B),Hi hp,AD,Hi C,AD]
      generalize hn:min (CF s-pu) (CF t-qu)=n
      have aa:1≤n:=by omega
      have af:n≤CF s-pu:=by omega
      have ag:n≤CF t-qu:=by omega
      have z1:CF s=s.N:=by unfold CF;rw[ne hk]
      have z2:CF t=t.N:=by unfold CF;rw[ne B]
      obtain⟨p',s',A,M,T,h4,k1,k2,_⟩:=Hv (n:=n) hp aa af (by omega)
      obtain⟨q',t',j1,j2,j3,j4,l1,l2,_⟩:=Hv (n:=n) C aa ag (by omega)
      rw[PN hk (by omega)] at T
      rw[PN B (by omega)] at j3
      rw[T] at U
      rw[j3] at oQ
      obtain⟨m,hm⟩:∃m,n.toNat=m+1:=⟨n.toNat-1,by omega⟩
      have u1:=U (.r (decide (s.Kind=2)) s.Attrs) (by rw[hm,wc];simp)
      have u2:=oQ (.r (decide (t.Kind=2)) t.Attrs) (by rw[hm,wc];simp)
      dsimp only at u1 u2
      rw[A,CL,j1,CL,k1,l1,k2,l2]
      rw[T,j3] at j l hc ⊢
      rw[u6,← wJ] at j
      rw[lu,← wJ] at l
      rw[Hq,Hq,Om,Om] at hc
      by_cases h0:s.Kind=0<;>by_cases g0:t.Kind=0
      ·have d1:decide (s.Kind=2)=false:=by rw[h0];rfl
       have d2:decide (t.Kind=2)=false:=by rw[g0];rfl
       have a1:=u1.1 d1
       have a2:=u2.1 d2
       have lk:=(ic a1 a2 u1.2.2 u2.2.2).2
       rw[d1,d2] at j l ⊢
       rw[vz h0,vz g0,vw (by decide),jk _ _ (by omega),Y4 a1 a2,AD,Ko V (by omega) n _ (by omega) (by omega) lk.1,AD,Ko Z (by omega) n _ (by omega) (by omega) (by omega),AD]
       refine⟨_,rfl,⟨M,j2,U.app,oQ.app,by dsimp only;omega,by dsimp only;omega,by dsimp only;omega,_,_,rfl,rfl,j,l⟩,?_⟩
       dsimp only
       rw[wG,wG,ws];omega
      ·have d1:decide (s.Kind=2)=false:=by rw[h0];rfl
       have d2:decide (t.Kind=2)=true:=by rw[vx];omega
       rw[d1,d2] at j l ⊢
       rw[vz h0,vy g0,ne (by decide),vw (by decide)]
       rw[vw rfl,wS] at j
       rw[T3 Z (by omega) n t.Attrs (by omega) (by omega) (λw=>some (Sum.inl (Co (Ay X),w,p',q')))]
       refine⟨_,rfl,⟨M,j2,U.app,oQ.app,by dsimp only;omega,by dsimp only;omega,by dsimp only;omega,_,_,rfl,rfl,j,l⟩,?_⟩
       dsimp only
       rw[wG,wG,ws];omega
      ·have d1:decide (s.Kind=2)=true:=by rw[vx];omega
       have d2:decide (t.Kind=2)=false:=by rw[g0];rfl
       rw[d1,d2] at j l ⊢
       rw[vy h0,vz g0,ne (by decide),ne (by decide),vw (by decide)]
       rw[vw rfl,wS] at l
       rw[T3 V (by omega) n (FQ s.Attrs t.Attrs) (by omega) (by omega) (λw=>some (Sum.inl (w,Co (Ay Y),p',q')))]
       refine⟨_,rfl,⟨M,j2,U.app,oQ.app,by dsimp only;omega,by dsimp only;omega,by dsimp only;omega,_,_,rfl,rfl,j,l⟩,?_⟩
       dsimp only
       rw[wG,wG,ws];omega
      ·have d1:decide (s.Kind=2)=true:=by rw[vx];omega
       have d2:decide (t.Kind=2)=true:=by rw[vx];omega
       rw[d1,d2] at j l ⊢
       rw[vy h0,vy g0,ne (by decide),ne (by decide),ne (by decide)]
       rw[vw rfl,wS] at j l
       refine⟨_,rfl,⟨M,j2,U.app,oQ.app,by dsimp only;omega,by dsimp only;omega,by dsimp only;omega,_,_,rfl,rfl,j,l⟩,?_⟩
       dsimp only
       rw[wG,wG,ws];omega
  | [],t::qs=>
   have ht:=C.stp t (v8 ..)
   have ad:=HT ht.1 ht.2
   have a7:=C.u0
   have a8:=C.fit t qs rfl
   have ae:=Jk ht.1
   dsimp only at a7 a8 E
   rw[wK] at E
   rw[M2,AD,show decide ((0:Int) ≤ -1)=false by decide,show(false==false)=true from rfl,vw rfl,Mm,AD,AD]
   have a6:decide (0≤t.Kind)=true:=by rw[vx];omega
   rw[a6,vw (by decide),ne (by decide),AD]
   refine .inl ?_
   by_cases B:t.Kind=1
   ·obtain⟨q',t',A,M,T,h4,k1,k2,k3⟩:=Hv (n:=CF t-qu) C (by omega) (by omega) (by omega)
    obtain⟨k3,k4,k5⟩:=k3 B
    rw[vw (by rw[vx];exact B),Hi C,AD,A,CL,Ko V (by omega) _ _ (by omega) (by omega) (by simp),AD,Mj Z (by omega) t'.Elems (by omega) (λe he=>ht.2.ea e (k5 e he)),AD]
    rw[← k3] at T
    rw[T] at j l hc oQ ⊢
    rw[ZV _ _ _ (show OK (CK ⟨[],pu⟩) from bW),← wJ] at j
    rw[gN _ _ _ (show OK (CK ⟨[],pu⟩) from bW),← wJ] at l
    rw[Hq,OX,wW] at hc
    rw[xK]
    refine⟨_,rfl,⟨hp,M,U,oQ.app,O,by dsimp only;omega,hc,_,_,rfl,rfl,j,l⟩,?_⟩
    dsimp only
    rw[wG,wZ];omega
   ·exfalso
    have A:=(XZ C B).2
    rw[← hc] at A
    exact absurd A (by show ¬ (0<Av []);simp[Av])
 obtain⟨r,A,M⟩:=key
 rw[A,M]
theorem nb a b:BR (a++b)=BR a+BR b:=by simp[BR]
theorem Sb{d:List AI}(h:∀s∈d,Fb s):BR (Aj d)=(d.map λs=>s.Elems.length).sum:=by
 induction d with
 | nil=>rfl
 | cons s d j=>
  have q:=j (λx u=>h x (wC _ u))
  have w:=(h s (v8 ..)).kind
  rw[UP,nb,q,wP,xJ]
  congr 1
  unfold BO
  rcases w with ⟨k,e,_,_,_⟩ | ⟨k,e,_,_,_⟩ | ⟨k,_,_,_,_⟩
  ·rw[ne (by omega),e];simp[BR,xu,Un.isR]
  ·rw[ne (by omega),e];simp[BR,xu,Un.isR]
  ·rw[vw k]
   have:∀l:List AG,BR (l.map Un.a)=l.length:=λl=>by induction l with
    | nil=>rfl
    | cons x l j=>rw[wP,DY,j,wK];simp only[Un.isR];simp;omega
   rw[this]
def YS(a b:List AI):List AI × List AI × Int:=
 if CY (BT (CJ (Aj a) (Aj b)))≠0∨CY (BT (Cp (Aj a) (Aj b)))≠0 then([],[],3) else(BT (CJ (Aj a) (Aj b)),BT (Cp (Aj a) (Aj b)),0)
theorem ld a b(E:FS a)(F:FS b)(I:Gu a)(J:Gu b):Ns a b=some (if CY a≠0 then([],[],CY a) else if CY b≠0 then([],[],CY b) else
  if A5 a≠A5 b then([],[],14) else YS a b):=by
 unfold Ns
 rw[PU a E,AD]
 by_cases j:CY a≠0
 ·rw[vw (Bb j),vw j]
 have j:=wU.1 j
 rw[ne (CI j),ne (by simpa using j),PU b F,AD]
 by_cases l:CY b≠0
 ·rw[vw (Bb l),vw l]
 have l:=wU.1 l
 have q:=Nf j
 have u:=Nf l
 rw[ne (CI l),ne (by simpa using l),TR a E q,TR b F u,CL,CL]
 by_cases A:A5 a≠A5 b
 ·rw[vw (Bb A),vw A]
 have A:=wU.1 A
 have V:=Ok q.st
 have X:=Ok u.st
 have Y:=UY q.st
 have Z:=UY u.st
 have M:=Sr q.st I
 have O:=Sr u.st J
 have g1:=q.olds
 have g2:=u.olds
 have m1:=I.sum
 have m2:=J.sum
 have n1:=I.len
 have n2:=J.len
 rw[ne (CI A),ne (by simpa using A)]
 rw[sI (Aj a) (Aj b) ⟨a,0⟩ ⟨b,0⟩ (RO λs C=>⟨q.st s C,E.st s C⟩) (RO λs C=>⟨u.st s C,F.st s C⟩) (OT a) (OT b) M O (by omega) (by omega) (by omega) (by dsimp only;omega) (by dsimp only;omega),CL]
 have px:=Z6 (Aj a) (Aj b)
 have py:=Wl (Aj a) (Aj b)
 have T:=fJ _ _ M O
 have U:=W5 _ _ M O
 have lx:=JV T
 have ly:=JV U
 have cx:=jJ (Aj a) (Aj b)
 have cy:=jm (Aj a) (Aj b)
 have wa:=Sb q.st
 have wb:=Sb u.st
 rw[Q8 T (by omega) (by omega),Q8 U (by omega) (by omega)]
 unfold YS
 by_cases w:CY (BT (CJ (Aj a) (Aj b)))=0<;>by_cases B:CY (BT (Cp (Aj a) (Aj b)))=0
 ·rw[ne (by simpa using w),ne (by simpa using B),ne (by simp[w,B])];rfl
 ·rw[ne (by simpa using w),vw B,vw (.inr B)];rfl
 ·rw[vw w,ne (by simpa using B),vw (.inl w)];rfl
 ·rw[vw w,vw B,vw (.inl w)];rfl
def JS(f:List AG):Int:=if FR f≠0 then FR f else if f=[]∨f[f.length-1]!.Char≠10 then 11 else 0
theorem si{f}{k}{r}(h:Ei f k=some r):r≠0:=by
 unfold Ei at h
 split at h
 ·cases h
 ·rename_i j;cases h;exact j
theorem Yt(f:List AG)(C:f.length≤1073741824):(Aq (some (Fw ((List.range f.length).findSome? (Ei f)))) λ(_:Unit)=>
  AB (gd ((true==true)&&((decide ((f.length:Int)=0))==false)) (AN .i64 ((f.length:Int)-1))) λ(u:Int)=>
  AB (gd ((true==true)&&((decide ((f.length:Int)=0))==false)) (AL f u)) λ(w:AG)=>
  if(true&&(((f.length:Int)=0)||(!(w.Char=10)))) then some (11:Int) else some 0)=some (JS f):=by
 rw[Et]
 unfold JS FR
 cases A:(List.range f.length).findSome? (Ei f) with
 | some r=>
  have l:r≠0:=by
   obtain⟨k,B⟩:=xE A
   exact si B.2
  dsimp only [Option.getD]
  rw[vw l]
 | none=>
  dsimp only [Option.getD]
  rw[ne (by decide)]
  by_cases q:f=[]
  ·subst q;rfl
  ·have E:0<f.length:=yA.2 q
   have hd:decide ((f.length:Int)=0)=false:=vy (by omega)
   rw[hd,show((true==true)&&(false==false))=true from rfl,An,show((f.length:Int)-1)=((f.length-1:Nat):Int) by omega,By (by omega) (by omega),AD,An,AZ (by omega),AD]
   by_cases j:f[f.length-1]!.Char=10
   ·rw[ne (by rw[vz j];decide),ne (λh=>h.elim q λh=>h j)]
   ·rw[vw (by rw[vy j];decide),vw (.inr j)]
theorem Xr(f:List AG)(h:∀x∈f,ES x)(l:f.length≤1073741824):Gp f true=some (JS f):=by
 unfold Gp
 rw[CP (n:=f.length) (Ei f) (λk j=>by
  unfold Ki Ei
  rw[vw (by simpa using j),AZ j,AD,Ae (by omega),VJ _ (h _ (BN j)),AD]
  by_cases e:Bx f[k]! = 0
  ·rw[ne (CI e),vw e];rfl
  ·rw[vw (Bb e),ne e];rfl) (by unfold Ki;rw[ne (by simp)])]
 exact Yt f l
theorem oh(f:List AG)(h:∀x∈f,ES x)(l:f.length≤1073741824):Jl f true=some (JS f):=by
 unfold Jl
 rw[CP (n:=f.length) (Ei f) (λk j=>by
  unfold LV Ei
  rw[vw (by simpa using j),AZ j,AD,Ae (by omega),VF _ (h _ (BN j)),AD]
  by_cases e:Bx f[k]! = 0
  ·rw[ne (CI e),vw e];rfl
  ·rw[vw (Bb e),ne e];rfl) (by unfold LV;rw[ne (by simp)])]
 exact Yt f l
instance:Inhabited Un:=⟨.r false []⟩
def off(n:List UInt8):AC:=⟨n,[]⟩
def Dm:Un→AI
 | .a e=>⟨1,0,[],[e]⟩
 | .r true _=>⟨2,1,[],[]⟩
 | .r false t=>⟨0,1,t,[]⟩
def JG(u:Un):Prop:=match u with | .a _=>False | .r c t=>(c=false→Ao t true=0)∧(c=true→t=[])∧t.length≤2
theorem dZ{us:List Un}(h:∀u ∈ us, JG u):∀u ∈ us, Di u := by
  intro u hu
  have := h u hu
  match u, this with
  | .r true t, ht => have := ht.2.1 rfl
                     subst this;exact⟨λh => (by cases h), GM⟩
  | .r false t, ht => exact⟨λ_ => ht.1 rfl, Gc (ht.1 rfl) (by have := ht.2.2;omega)⟩
theorem lH{u}(h:JG u):Cy (Dm u)=0∧Gn (Dm u)∧(Dm u).N=1:=by
 match u,h with
 | .r true t,j=>exact⟨ee (by decide) (by decide),⟨GM,by simp[Dm],λe l=>by simp[Dm] at l⟩,rfl⟩
 | .r false t,j=>exact⟨YD (by decide) (by decide) (j.1 rfl),⟨Gc (j.1 rfl) (by have:=j.2.2;show t.length≤_;omega),by simp[Dm],λe l=>by simp[Dm] at l⟩,rfl⟩
theorem nv(us:List Un)(h:∀u∈us,JG u)(V:us.length≤1048576) :
  iter (λ(a:Int × Ah)=>Fk (us.map Dm) a.1 a.2) (0,(Ah.mk [] [] 0))=some (.nrm (Co (Ay us))):=by
 have key:∃r,iter (λ(a:Int × Ah)=>Fk (us.map Dm) a.1 a.2) (0,(Ah.mk [] [] 0))=some r∧r=.nrm (Co (Ay us)):=by
  refine FA us.length (λk q=>q=((k:Int),Co (Ay (us.take k)))) _ ?_ ?_ rfl
  ·rintro k q j rfl
   have w:=h _ (BN j)
   have l:∀u∈us.take k,Di u:=λu F=>dZ h u (xy F)
   have I:(us.take k).length≤us.length:=by rw[xl];omega
   have J:=JV l
   have A:(us.map Dm)[k]! = Dm us[k]!:=by
    rw[wF (us.map Dm) k (by simpa using j),wF us k j,yt]
   obtain⟨C,E,M⟩:=lH w
   refine .inl ⟨_,?_,rfl⟩
   show Fk (us.map Dm) (k:Int) _=_
   unfold Fk
   rw[vw (by simpa using j),AZ (by simpa using j),AD,A,V6 _ E,AD,C]
   rw[Iv j]
   generalize us[k]! = u at w C E M
   match u,w with
   | .r true t,B=>
    have O:=B.2.1 rfl
    subst O
    rw[ne (by simp[Dm]),AD,ne (by decide),ne (by simp[Dm]),ne (by simp[Dm])]
    show Aq (AB (AN .i64 (((Ay (us.take k)).cuts:Int)+1)) _) _=_
    rw[By (by omega) (by omega),AD,ne (by rw[vx];omega),IC,Ae (by omega),AD]
    have e:=UI (us.take k) 1 []
    rw[show List.replicate 1 (Un.r true [])=[.r true []] from rfl] at e
    rw[← e];rfl
   | .r false t,B=>
    rw[ne (by simp[Dm]),AD,ne (by decide),vw (by simp[Dm])]
    show Aq (AB (Gv _ 1 t) _) _=_
    rw[Ko l (by omega) 1 t (by decide) (by decide) (by have:=B.2.2;omega),AD,IC,Ae (by omega),AD];rfl
  ·rintro q rfl
   refine⟨_,?_,rfl⟩
   rw[yC]
   show Fk (us.map Dm) (us.length:Int) _=_
   unfold Fk
   rw[ne (by simp)]
 obtain⟨r,T,U⟩:=key
 rw[T,U]
theorem uI(us:List Un)(h:∀u∈us,JG u)(l:us.length≤1048576):IZ (us.map Dm)=some (BT us,0):=by
 unfold IZ
 have j:=dZ h
 have q:=JV j
 have A:=So us
 have B:=V0 us
 have a3:Av us≤us.length:=yO
 have w:CY (BT us)=0:=gm (KR j) (by omega) (by omega)
 rw[nv us h l,IC,Q8 j (by omega) (by omega),ne (by simpa using w),GQ]
theorem kE:GX.length=256:=by decide +kernel
theorem tt(s:List UInt8) k(j:k≤s.length):CS s (k:Int) (s.length:Int)=some (s.drop k):=by
 unfold CS
 rw[vw (by omega)]
 congr 1
 rw[yS (by simp),xK]
def Jd(t:Bool)(f:List AG)(k:Nat):Option Int:=if Bx f[k]! = 0 then(if t=false∧f[k]!.Ref=0 then some 8 else none) else some (Bx f[k]!)
theorem pA{x:AG}(h:Bx x=0):(x.Ref=0↔x.Char≠0):=by
 unfold Bx at h
 by_cases c:x.Char=0<;>by_cases r:x.Ref=0<;>simp[c,r] at h ⊢
theorem Zw(f:List AG)(h:∀x∈f,ES x)(l:f.length≤1073741824):Gp f false=some (((List.range f.length).findSome? (Jd false f)).getD 0):=by
 unfold Gp
 rw[CP (n:=f.length) (Jd false f) (λk j=>by
  unfold Ki Jd
  rw[vw (by simpa using j),AZ j,AD,Ae (by omega),VJ _ (h _ (BN j)),AD]
  generalize f[k]! = x
  by_cases e:Bx x=0
  ·rw[ne (CI e),vw e]
   by_cases r:x.Ref=0
   ·rw[vw (show(!false&&(x.Ref=0))=true by rw[vz r];rfl),vw ⟨rfl,r⟩];rfl
   ·rw[ne (show ¬ (!false&&(x.Ref=0))=true by rw[vy r];decide),ne (λh=>r h.2)];rfl
  ·rw[vw (Bb e),ne e];rfl) (by unfold Ki;rw[ne (by simp)])]
 cases (List.range f.length).findSome? (Jd false f)<;>rfl
theorem ji(f:List AG)(h:∀x∈f,ES x)(u:f.length≤1073741824):Jl f false=some (((List.range f.length).findSome? (Jd false f)).getD 0):=by
 unfold Jl
 rw[CP (n:=f.length) (Jd false f) (λk j=>by
  unfold LV Jd
  rw[vw (by simpa using j),AZ j,AD,Ae (by omega),VF _ (h _ (BN j)),AD]
  generalize f[k]! = x
  by_cases e:Bx x=0
  ·rw[ne (CI e),vw e]
   have q:=pA e
   by_cases r:x.Ref=0
   ·rw[vw (show(!false&&!(x.Char=0))=true by rw[vy (q.1 r)];rfl),vw ⟨rfl,r⟩];rfl
   ·have l:x.Char=0:=wX λl=>r (q.2 l)
    rw[ne (show ¬ (!false&&!(x.Char=0))=true by rw[vz l];decide),ne (λh=>r h.2)];rfl
  ·rw[vw (Bb e),ne e];rfl) (by unfold LV;rw[ne (by simp)])]
 cases (List.range f.length).findSome? (Jd false f)<;>rfl
theorem qn(f:List AG) t(h:∀x∈f,ES x)(j:f.length≤1073741824):∃r,Gp f t=some r∧Jl f t=some r:=by
 cases t
 ·exact⟨_,Zw f h j,ji f h j⟩
 ·exact⟨_,Xr f h j,oh f h j⟩
theorem se(a b:List AG)(M:a.length≤9223372036854775806)(h:∀e∈a,e.Attrs.length≤1073741824):U8 a b=some (decide (a=b)):=by
 unfold U8
 by_cases j:a.length=b.length
 ·rw[ne (by simp[j]),CP (n:=a.length) (λk=>if decide (a[k]! = b[k]!) then none else some false) (λk l=>by
   unfold Ve
   have O:=h _ (BN l)
   rw[vw (by simpa using l),AZ l,AZ (by omega),AD,AD,Q9 _ _ (by omega),Ae (by omega)]
   generalize a[k]! = x
   generalize b[k]! = y
   obtain⟨q,u,w⟩:=x
   obtain⟨A,B,C⟩:=y
   by_cases E:q=A<;>by_cases F:u=B<;>by_cases I:w=C<;>simp[E,F,I,Ca,default]) (by unfold Ve;rw[ne (by simp)]),JH,Et]
  by_cases h:a=b
  ·subst h;rw[UL,vz rfl];rfl
  ·rw[vy h]
   have:((List.range a.length).all λk=>decide (a[k]! = b[k]!))=false:=by
    rw[← xR];exact λJ=>h (Sg j J)
   rw[this];rfl
 ·rw[vw (by simp;omega),vy (by rintro rfl;exact j rfl)]
theorem oR(f:List AG)(u:f.length≤1073741824):∃r,iter (λ(a:Int × (List Int))=>MA f a.1 a.2) (0,[])=some r∧r.length≤f.length:=by
 refine FA f.length (λk l=>l.1=(k:Int)∧l.2.length≤k) _ ?_ ?_ ⟨rfl,by simp⟩
 ·rintro k ⟨x,out⟩ q ⟨rfl,j⟩
  dsimp only at j ⊢
  left
  unfold MA
  rw[vw (by simpa using q),AZ q,AD]
  by_cases r:f[k]!.Ref=0
  ·rw[ne (CI r),AD,Ae (by omega),AD]
   exact⟨_,rfl,rfl,by dsimp only;omega⟩
  ·rw[vw (Bb r),UN (by omega),AD,AD,Ae (by omega),AD]
   exact⟨_,rfl,rfl,by dsimp only;rw[List.length_append,List.length_singleton];omega⟩
 ·rintro⟨x,out⟩ ⟨rfl,j⟩
  dsimp only at j ⊢
  unfold MA
  rw[ne (by simp)]
  exact⟨_,rfl,j⟩
theorem OH{α:Type}[Inhabited α][DecidableEq α]{f}(a b:List α)(j:a.length=b.length)
 (l:∀k:Nat, k<a.length→f k=Ca k (if decide (a[k]! = b[k]!) then none else some false)) (q:f a.length=some (.inr (.nrm ()))) :
    (Aq (iter f 0) λ(_:Unit) => some true)=some (decide (a=b)) := by
  rw[CP (n := a.length) (λk => if decide (a[k]! = b[k]!) then none else some false) l q, JH, Et]
  by_cases h:a=b
  · subst h;rw[UL, vz rfl];rfl
  · rw[vy h]
    have:((List.range a.length).all λk => decide (a[k]! = b[k]!))=false := by
      rw[← xR];exact λu => h (Sg j u)
    rw[this];rfl
theorem iG(x y:Ax):((x.Row=y.Row)&&((x.Col=y.Col)&&((x.H=y.H)&&((x.W=y.W)&&true))))=decide (x=y):=by
 obtain⟨j,l,q,u⟩:=x
 obtain⟨w,A,B,C⟩:=y
 rw[wo];simp
theorem eV(x y:BS):((x.Clock=y.Clock)&&((x.Site=y.Site)&&((x.Kind=y.Kind)&&((x.Item=y.Item)&&((x.Parent=y.Parent)&&((x.Place=y.Place)&&((x.Name=y.Name)&&((x.Value=y.Value)&&true))))))))=decide (x=y):=by
 obtain⟨j,l,q,u,w,A,B,C⟩:=x
 obtain⟨E,F,I,J,M,O,T,U⟩:=y
 rw[wo];simp
theorem uc(a b:List Ax)(q:a.length≤9223372036854775806):Qy a b=some (decide (a=b)):=by
 unfold Qy
 by_cases j:a.length=b.length
 ·rw[ne (by simp[j])]
  exact OH a b j (λk l=>by
   unfold PJ
   rw[vw (by simpa using l),AZ l,AZ (by omega),AD,AD,iG,Ae (by omega)]
   generalize a[k]! = x
   generalize b[k]! = y
   by_cases h:x=y<;>simp[h,Ca]) (by unfold PJ;rw[ne (by simp)])
 ·rw[vw (by simp;omega),vy (by rintro rfl;exact j rfl)]
theorem VM(a b:List Ax)(q:a.length≤9223372036854775806):LK a b=some (decide (a=b)):=by
 unfold LK
 by_cases j:a.length=b.length
 ·rw[ne (by simp[j])]
  exact OH a b j (λk l=>by
   unfold Oa
   rw[vw (by simpa using l),AZ l,AZ (by omega),AD,AD,iG,Ae (by omega)]
   generalize a[k]! = x
   generalize b[k]! = y
   by_cases h:x=y<;>simp[h,Ca]) (by unfold Oa;rw[ne (by simp)])
 ·rw[vw (by simp;omega),vy (by rintro rfl;exact j rfl)]
theorem pD(a b:List BS)(q:a.length≤9223372036854775806):YO a b=some (decide (a=b)):=by
 unfold YO
 by_cases j:a.length=b.length
 ·rw[ne (by simp[j])]
  exact OH a b j (λk l=>by
   unfold YW
   rw[vw (by simpa using l),AZ l,AZ (by omega),AD,AD,eV,Ae (by omega)]
   generalize a[k]! = x
   generalize b[k]! = y
   by_cases h:x=y<;>simp[h,Ca]) (by unfold YW;rw[ne (by simp)])
 ·rw[vw (by simp;omega),vy (by rintro rfl;exact j rfl)]
theorem pU(a b:List BS)(q:a.length≤9223372036854775806):Jy a b=some (decide (a=b)):=by
 unfold Jy
 by_cases j:a.length=b.length
 ·rw[ne (by simp[j])]
  exact OH a b j (λk l=>by
   unfold NS
   rw[vw (by simpa using l),AZ l,AZ (by omega),AD,AD,eV,Ae (by omega)]
   generalize a[k]! = x
   generalize b[k]! = y
   by_cases h:x=y<;>simp[h,Ca]) (by unfold NS;rw[ne (by simp)])
 ·rw[vw (by simp;omega),vy (by rintro rfl;exact j rfl)]
theorem rj(x y:A0)(U:x.Attrs.length≤1073741824):OU x y=some (decide (x=y)):=by
 unfold OU
 rw[Q9 _ _ (by omega)]
 obtain⟨j,l,q,u,w⟩:=x
 obtain⟨A,B,C,E,F⟩:=y
 by_cases I:j=A<;>by_cases J:l=B<;>by_cases M:q=C<;>by_cases O:u=E<;>by_cases T:w=F<;>simp[I,J,M,O,T,gd,AD]
theorem j9(x y:A0)(U:x.Attrs.length≤1073741824):QI x y=some (decide (x=y)):=by
 unfold QI
 rw[M7 _ _ (by omega)]
 obtain⟨j,l,q,u,w⟩:=x
 obtain⟨A,B,C,E,F⟩:=y
 by_cases I:j=A<;>by_cases J:l=B<;>by_cases M:q=C<;>by_cases O:u=E<;>by_cases T:w=F<;>simp[I,J,M,O,T,gd,AD]
theorem uo(a b:List A0)(q:a.length≤9223372036854775806)(h:∀x∈a,x.Attrs.length≤1073741824):Pm a b=some (decide (a=b)):=by
 unfold Pm
 by_cases j:a.length=b.length
 ·rw[ne (by simp[j])]
  exact OH a b j (λk l=>by
   unfold P1
   rw[vw (by simpa using l),AZ l,AZ (by omega),AD,AD,rj _ _ (h _ (BN l)),AD,Ae (by omega)]
   generalize a[k]! = x
   generalize b[k]! = y
   by_cases h:x=y<;>simp[h,Ca]) (by unfold P1;rw[ne (by simp)])
 ·rw[vw (by simp;omega),vy (by rintro rfl;exact j rfl)]
theorem co(a b:List A0)(q:a.length≤9223372036854775806)(h:∀x∈a,x.Attrs.length≤1073741824):M8 a b=some (decide (a=b)):=by
 unfold M8
 by_cases j:a.length=b.length
 ·rw[ne (by simp[j])]
  exact OH a b j (λk l=>by
   unfold P2
   rw[vw (by simpa using l),AZ l,AZ (by omega),AD,AD,j9 _ _ (h _ (BN l)),AD,Ae (by omega)]
   generalize a[k]! = x
   generalize b[k]! = y
   by_cases h:x=y<;>simp[h,Ca]) (by unfold P2;rw[ne (by simp)])
 ·rw[vw (by simp;omega),vy (by rintro rfl;exact j rfl)]
def PX(g:A1):Prop:=g.Cells.length≤1048576∧g.Merges.length≤1048576∧∀x∈g.Cells,CZ x.Attrs
structure JC(n:AX):Prop where
 at_:CZ n.Attrs
 fl:n.Flow.length≤1048576
 fa:∀e∈n.Flow,CZ e.Attrs
 gr:PX n.Grid
 dr:n.Draw.length≤1048576
def jY(d:Bc):Prop:=d.Nodes.length≤1048576∧∀n∈d.Nodes,JC n
theorem Ww x y(h:PX x):Lw x y=some (decide (x=y)):=by
 obtain⟨l,q,j⟩:=h
 unfold Lw
 rw[uc _ _ (by omega),uo _ _ (by omega) (λe u=>(j e u).1)]
 obtain⟨w,A,B,C⟩:=x
 obtain⟨E,F,I,J⟩:=y
 by_cases l:w=E<;>by_cases q:A=F<;>by_cases j:B=I<;>by_cases M:C=J<;>simp[l,q,j,M,gd,AD]
theorem rz x y(h:PX x):QZ x y=some (decide (x=y)):=by
 obtain⟨l,q,j⟩:=h
 unfold QZ
 rw[VM _ _ (by omega),co _ _ (by omega) (λe u=>(j e u).1)]
 obtain⟨w,A,B,C⟩:=x
 obtain⟨E,F,I,J⟩:=y
 by_cases l:w=E<;>by_cases q:A=F<;>by_cases j:B=I<;>by_cases M:C=J<;>simp[l,q,j,M,gd,AD]
theorem vp x y(h:JC x):iF x y=some (decide (x=y)):=by
 have Z:=h.at_.1
 have hf:=h.fl
 have hd:=h.dr
 unfold iF
 rw[Q9 _ _ (by omega),se _ _ (by omega) (λe j=>(h.fa e j).1),Ww _ _ h.gr,pD _ _ (by omega)]
 obtain⟨l,q,u,w,A,B⟩:=x
 obtain⟨C,E,F,I,J,M⟩:=y
 by_cases O:l=C<;>by_cases T:q=E<;>by_cases U:u=F<;>by_cases V:w=I<;>by_cases X:A=J<;>by_cases Y:B=M<;>simp[O,T,U,V,X,Y,gd,AD]
theorem iW x y(h:JC x):JL x y=some (decide (x=y)):=by
 have Z:=h.at_.1
 have hf:=h.fl
 have hd:=h.dr
 unfold JL
 rw[M7 _ _ (by omega),Ya _ _ (by omega) (λe j=>(h.fa e j).1),rz _ _ h.gr,pU _ _ (by omega)]
 obtain⟨l,q,u,w,A,B⟩:=x
 obtain⟨C,E,F,I,J,M⟩:=y
 by_cases O:l=C<;>by_cases T:q=E<;>by_cases U:u=F<;>by_cases V:w=I<;>by_cases X:A=J<;>by_cases Y:B=M<;>simp[O,T,U,V,X,Y,gd,AD]
theorem tW{α:Type} b(l:List α)(j:b≤128)(h:l.length≤1048576):app b ([]:List α) l=some l:=by
 unfold app
 rw[vw];rfl
 simp only[yJ,wW]
 refine⟨?_,by omega⟩
 calc l.length * b≤1048576 * 128:=Nat.mul_le_mul h j
  _≤_:=by decide
theorem Sf{β:Type}(p:Nat→Bool)(F:Nat→β)(l:List Nat):(l.findSome? λk=>if p k then some (F k) else none)=(l.find? p).map F:=by
 induction l with
 | nil=>rfl
 | cons a l j=>rw[xZ,List.find?_cons];by_cases h:p a=true<;>simp[h,j]
def GP(l:List AX)(id:Int):Option Nat:=(List.range l.length).find? λk=>decide (l[k]!.ID=id)
theorem PP{l:List AX}{id}{k}(h:GP l id=some k):k<l.length∧l[k]!.ID=id:=by
 have j:=List.mem_of_find?_eq_some h
 have q:=List.find?_some h
 exact⟨wi.1 j,yH q⟩
theorem VV(d:Bc)(id:Int)(l:d.Nodes.length≤1048576):FP d id=some (match GP d.Nodes id with | some k=>(k:Int) | none=>-1):=by
 unfold FP
 rw[CP (n:=d.Nodes.length) (λk=>if decide (d.Nodes[k]!.ID=id) then some (k:Int) else none) (λk j=>by
  unfold Oe
  rw[vw (by simpa using j),AZ j,AD,Ae (by omega)]
  by_cases h:d.Nodes[k]!.ID=id
  ·rw[vw (vz h),vw (vz h)];rfl
  ·rw[ne (by simpa using h),ne (by simpa using h)];rfl) (by unfold Oe;rw[ne (by simp)]),Sf,Et]
 unfold GP
 cases (List.range d.Nodes.length).find? λk=>decide (d.Nodes[k]!.ID=id)<;>rfl
def LH:AX:=AX.mk 1 0 [] [(AG.mk 0 2 [])] (A1.mk 0 0 [] []) []
theorem nD:ES (AG.mk 0 2 []):=⟨by decide,λa j=>by cases j⟩
theorem rU:ES (AG.mk 10 0 []):=⟨by decide,λa j=>by cases j⟩
theorem o0:PX (A1.mk 0 0 [] []):=⟨by decide,by decide,λa j=>by cases j⟩
theorem fM:CZ []:=⟨by decide,λa j=>by cases j⟩
theorem Y3:HM []=some 0:=by rw[Le _ (λa j=>by cases j) (by decide)];rfl
theorem sd:Gp [AG.mk 0 2 []] false=some 0:=by
 rw[Zw _ (λx j=>by
  have:x=AG.mk 0 2 []:=by simpa using j
  subst this;exact nD) (by decide)]
 rfl
theorem lY:Gp [AG.mk 10 0 []] true=some 0:=by
 rw[Xr _ (λx j=>by
  have:x=AG.mk 10 0 []:=by simpa using j
  subst this;exact rU) (by decide)]
 rfl
theorem Uw:Lw (A1.mk 0 0 [] []) (A1.mk 0 0 [] [])=some true:=by rw[Ww _ _ o0,vz rfl]
theorem Vg:Dz LH=some 0:=by
 unfold Dz LH
 dsimp only
 rw[ne (by decide),ne (by decide),Y3,AD,ne (by decide)]
 have t:F7 0=some false:=rfl
 have l:Iq 0=some true:=rfl
 have g:JE 0=some false:=rfl
 have d:HB 0=some false:=rfl
 rw[t,l,g,d,Uw]
 show(AB (Gp [AG.mk 0 2 []] false) λ(j:Int)=>some j)=some 0
 rw[sd];rfl
theorem Hm:Kx LH=some [2]:=by
 unfold Kx Pd
 have j:(λ(a:Int × (List Int))=>IK LH.Flow a.1 a.2) (0,[])=some (.inl (1,[2])):=by
  show IK [AG.mk 0 2 []] 0 []=_
  unfold IK;rfl
 have l:(λ(a:Int × (List Int))=>IK LH.Flow a.1 a.2) (1,[2])=some (.inr [2]):=by
  show IK [AG.mk 0 2 []] 1 [2]=_
  unfold IK;rfl
 have q:(λ(a:Int × (List Int))=>IA LH a.1 a.2) (0,[2])=some (.inr [2]):=by
  show IA LH 0 [2]=_
  unfold IA;rfl
 rw[DP j,Ch l,AD,AD,Ch q];rfl
theorem lP{μ:AX→Nat}{γ:A1→Nat}{ψ:A0→Nat}{ρ:Ax→Nat}{δ:BS→Nat}{ν:AG→Nat}{κ:AC→Nat}
  (q:∀n,(n.Attrs.map κ).sum+(n.Flow.map ν).sum+γ n.Grid+(n.Draw.map δ).sum+1≤μ n) (hg:∀g,(g.Cells.map ψ).sum+(g.Merges.map ρ).sum+1≤γ g)
  (hc:∀c,(c.Attrs.map κ).sum+1≤ψ c) (w:∀r,1≤ρ r) (hd:∀o,1≤δ o) (A:∀e,(e.Attrs.map κ).sum+1≤ν e) (j:∀a,a.Name.length+a.Value.length+1≤κ a)
  {d:Bc} (C:(d.Nodes.map μ).sum≤1048576):jY d:=by
 have E:=Kd (μ:=μ) (λn=>by have:=q n;omega) d.Nodes
 refine⟨by omega,λn B=>?_⟩
 have F:=IL (μ:=μ) B
 have I:=q n
 have J:=hg n.Grid
 have u:=sB (ν:=ν) (κ:=κ) A j (f:=n.Flow) (by omega)
 have M:=Kd (μ:=ψ) (λc=>by have:=hc c;omega) n.Grid.Cells
 have O:=Kd (μ:=ρ) w n.Grid.Merges
 have T:=Kd (μ:=δ) hd n.Draw
 refine⟨R5 j (by omega),u.1,u.2,⟨by omega,by omega,λc l=>R5 j ?_⟩,by omega⟩
 have U:=IL (μ:=ψ) l
 have:=hc c
 omega
theorem G4{n:Nat}(h:n<2147483648):IntKind.i32.wrap (n:Int)=(n:Int):=by
 have e:(n:Int) % (2 ^ (32:Nat):Int)=(n:Int):=za (by omega) (by omega)
 show(if(true&&((n:Int) % (2 ^ (32:Nat):Int) ≥ (2 ^ (31:Nat):Int)))=true then(n:Int) % (2 ^ (32:Nat):Int)-(2 ^ (32:Nat):Int) else(n:Int) % (2 ^ (32:Nat):Int))=_
 rw[e,ne]
 simp only[xM,vx]
 omega
theorem dP{n:Nat}(h:n<9223372036854775808):IntKind.i64.wrap (n:Int)=(n:Int):=by
 have e:(n:Int) % (2 ^ (64:Nat):Int)=(n:Int):=za (by omega) (by omega)
 show(if(true&&((n:Int) % (2 ^ (64:Nat):Int) ≥ (2 ^ (63:Nat):Int)))=true then(n:Int) % (2 ^ (64:Nat):Int)-(2 ^ (64:Nat):Int) else(n:Int) % (2 ^ (64:Nat):Int))=_
 rw[e,ne]
 simp only[xM,vx]
 omega
theorem NV(i a b:Nat)(j:b<2 ^ i)(l:a * 2 ^ i+b<2147483648):EZ .i32 ((a * 2 ^ i:Nat):Int) (b:Int)=((a * 2 ^ i+b:Nat):Int):=by
 unfold EZ
 have q:(BitVec.ofInt 32 ((a * 2 ^ i:Nat):Int) ||| BitVec.ofInt 32 (b:Int)).toNat=a * 2 ^ i+b:=by
  rw[BitVec.toNat_or,BitVec.ofInt_natCast,BitVec.ofInt_natCast,BitVec.toNat_ofNat,BitVec.toNat_ofNat,zH (by omega),zH (by omega)]
  rw[← Nat.shiftLeft_eq,Nat.shiftLeft_add_eq_or_of_lt j]
 show IntKind.i32.wrap ((BitVec.ofInt 32 ((a * 2 ^ i:Nat):Int) ||| BitVec.ofInt 32 (b:Int)).toNat:Int)=_
 rw[q];exact G4 l
theorem oE:∀b:Fin 256,Cj .u8 ((b.val:Nat):Int) 31=((b.val % 32:Nat):Int):=by decide +kernel
theorem mB:∀b:Fin 256,Cj .u8 ((b.val:Nat):Int) 15=((b.val % 16:Nat):Int):=by decide +kernel
theorem qF:∀b:Fin 256,Cj .u8 ((b.val:Nat):Int) 7=((b.val % 8:Nat):Int):=by decide +kernel
theorem MV:∀b:Fin 256,Cj .u8 ((b.val:Nat):Int) 63=((b.val % 64:Nat):Int):=by decide +kernel
theorem MN(i a:Nat)(j:i≤32)(l:a * 2 ^ i<2147483648):DV .i32 (a:Int) i=((a * 2 ^ i:Nat):Int):=by
 unfold DV
 show IntKind.i32.wrap ((a:Int) * 2 ^ (min i 32))=_
 rw[Nat.min_eq_left j,show(a:Int) * 2 ^ i=((a * 2 ^ i:Nat):Int) by push_cast;rfl,G4 l]
theorem ro:∀c:Fin 256,GX[c.val]! = (Lib.firstT c.val:Int):=by decide +kernel
theorem jd:∀c:Fin 256,EZ .i32 (RZ .i32 (IntKind.i32.wrap (c.val:Int)) (Eu .i32 (DV .i32 (IntKind.i32.wrap 241) 31) 31)) (Cj .i32 65533 (Eu .i32 (DV .i32 (IntKind.i32.wrap 241) 31) 31))=65533:=by decide +kernel
theorem ta:∀c:Fin 256,IntKind.i64.wrap (Cj .u8 (Lib.firstT c.val:Int) 7)=((Lib.firstT c.val % 8:Nat):Int):=by decide +kernel
theorem ou:∀c:Fin 256,AL Tu (Eu .u8 (Lib.firstT c.val:Int) 4)=some (JM.mk (Lib.accLo (Lib.firstT c.val / 16)) (Lib.accHi (Lib.firstT c.val / 16))):=by decide +kernel
theorem tZ:∀c:Fin 256,128≤c.val→Lib.firstT c.val=241∨(2≤Lib.firstT c.val % 8∧Lib.firstT c.val % 8≤4∧Lib.firstT c.val<240):=by decide +kernel
theorem uC(c d:Fin 256):EZ .i32 (DV .i32 (IntKind.i32.wrap (Cj .u8 ((c.val:Nat):Int) 31)) 6) (IntKind.i32.wrap (Cj .u8 ((d.val:Nat):Int) 63))=((c.val % 32 * 64+d.val % 64:Nat):Int):=by
 rw[oE,MV,G4 (by omega),G4 (by omega),MN 6 _ (by omega) (by omega),NV 6 _ _ (by omega) (by omega)]
theorem uS(c d e:Fin 256):EZ .i32 (EZ .i32 (DV .i32 (IntKind.i32.wrap (Cj .u8 ((c.val:Nat):Int) 15)) 12) (DV .i32 (IntKind.i32.wrap (Cj .u8 ((d.val:Nat):Int) 63)) 6)) (IntKind.i32.wrap (Cj .u8 ((e.val:Nat):Int) 63)) =
  ((c.val % 16 * 4096+d.val % 64 * 64+e.val % 64:Nat):Int):=by
 rw[mB,MV,MV,G4 (by omega),G4 (by omega),G4 (by omega),MN 12 _ (by omega) (by omega),MN 6 _ (by omega) (by omega),NV 12 _ _ (by omega) (by omega),
  show c.val % 16 * 2 ^ 12+d.val % 64 * 2 ^ 6=(c.val % 16 * 64+d.val % 64) * 2 ^ 6 by omega,NV 6 _ _ (by omega) (by omega)]
theorem rf(c d e f:Fin 256):EZ .i32 (EZ .i32 (EZ .i32 (DV .i32 (IntKind.i32.wrap (Cj .u8 ((c.val:Nat):Int) 7)) 18) (DV .i32 (IntKind.i32.wrap (Cj .u8 ((d.val:Nat):Int) 63)) 12)) (DV .i32 (IntKind.i32.wrap (Cj .u8 ((e.val:Nat):Int) 63)) 6)) (IntKind.i32.wrap (Cj .u8 ((f.val:Nat):Int) 63)) =
  ((c.val % 8 * 262144+d.val % 64 * 4096+e.val % 64 * 64+f.val % 64:Nat):Int):=by
 rw[qF,MV,MV,MV,G4 (by omega),G4 (by omega),G4 (by omega),G4 (by omega),MN 18 _ (by omega) (by omega),MN 12 _ (by omega) (by omega),MN 6 _ (by omega) (by omega),NV 18 _ _ (by omega) (by omega),
  show c.val % 8 * 2 ^ 18+d.val % 64 * 2 ^ 12=(c.val % 8 * 64+d.val % 64) * 2 ^ 12 by omega,NV 12 _ _ (by omega) (by omega),
  show(c.val % 8 * 64+d.val % 64) * 2 ^ 12+e.val % 64 * 2 ^ 6=((c.val % 8 * 64+d.val % 64) * 64+e.val % 64) * 2 ^ 6 by omega,NV 6 _ _ (by omega) (by omega)]
theorem Ow(s:List UInt8) k(h:k<s.length):s.getD k 0=s[k]!:=by
 rw[wF s k h,yM,wB h];rfl
theorem og(s:List UInt8)(h:s≠[])(j:128≤(s.getD 0 0).toNat):P3 s=some (((Lib.decodeL s).1:Int),((Lib.decodeL s).2:Int)):=by
 have l:0<s.length:=yA.2 h
 rw[Lib.decodeL_N]
 unfold P3
 rw[ne (by rw[vx];omega),show(0:Int)=((0:Nat):Int) from rfl,AZ l,AD]
 rw[Ow s 0 l] at j ⊢
 generalize s[0]! = c at j ⊢
 obtain⟨C,hC⟩:∃C:Fin 256,C.val=c.toNat:=⟨⟨c.toNat,c.toNat_lt⟩,rfl⟩
 rw[← hC] at j ⊢
 rw[AZ (l:=GX) (by rw[kE];exact C.isLt),AD,ro,ou,ta]
 rcases tZ C j with B | ⟨q,u,w⟩
 ·rw[vw (by rw[vx];omega),Lib.bad_eq _ _ _ _ _ C.isLt B,B]
  show some (_,(1:Int))=_
  rw[show((241:Nat):Int)=241 from rfl,jd C];rfl
 ·rw[ne (by rw[vx];omega),AD]
  have A:=Lib.slow_eq s.length C.val (s.getD 1 0).toNat (s.getD 2 0).toNat (s.getD 3 0).toNat l (UInt8.toNat_lt _) (UInt8.toNat_lt _) (UInt8.toNat_lt _) w
  rw[← A]
  generalize hsz:Lib.firstT C.val % 8=sz at q u ⊢
  generalize Lib.accLo (Lib.firstT C.val / 16)=V
  generalize Lib.accHi (Lib.firstT C.val / 16)=X
  unfold Lib.slowN
  by_cases I:s.length<sz
  ·rw[vw (by rw[vx];omega),vw I];rfl
  rw[ne (by rw[vx];omega),ne I,show(1:Int)=((1:Nat):Int) from rfl,AZ (by omega),AD,Ow s 1 (by omega)]
  generalize s[1]! = d
  obtain⟨D,Y⟩:∃D:Fin 256,D.val=d.toNat:=⟨⟨d.toNat,d.toNat_lt⟩,rfl⟩
  rw[← Y]
  by_cases J:D.val<V∨X<D.val
  ·rw[vw (by simp only[wD,vx];omega),vw J];rfl
  rw[ne (by simp only[wD,vx];omega),ne J]
  by_cases M:sz≤2
  ·rw[vw (by rw[vx];omega),vw M,uC];rfl
  rw[ne (by rw[vx];omega),ne M,show(2:Int)=((2:Nat):Int) from rfl,AZ (by omega),AD,Ow s 2 (by omega)]
  generalize s[2]! = e
  obtain⟨E,Z⟩:∃E:Fin 256,E.val=e.toNat:=⟨⟨e.toNat,e.toNat_lt⟩,rfl⟩
  rw[← Z]
  by_cases O:E.val<128∨191<E.val
  ·rw[vw (by simp only[wD,vx];omega),vw O];rfl
  rw[ne (by simp only[wD,vx];omega),ne O]
  by_cases T:sz≤3
  ·rw[vw (by rw[vx];omega),vw T,uS];rfl
  rw[ne (by rw[vx];omega),ne T,show(3:Int)=((3:Nat):Int) from rfl,AZ (by omega),AD,Ow s 3 (by omega)]
  generalize s[3]! = f
  obtain⟨F,hF⟩:∃F:Fin 256,F.val=f.toNat:=⟨⟨f.toNat,f.toNat_lt⟩,rfl⟩
  rw[← hF]
  by_cases U:F.val<128∨191<F.val
  ·rw[vw (by simp only[wD,vx];omega),vw U];rfl
  rw[ne (by simp only[wD,vx];omega),ne U,rf];rfl
theorem oV(s:List UInt8)(h:s≠[]):Qv s=some (((Lib.decodeL s).1:Int),((Lib.decodeL s).2:Int)):=by
 have l:0<s.length:=yA.2 h
 unfold Qv
 rw[vy h,show((!false)==true)=true from rfl,An,show(0:Int)=((0:Nat):Int) from rfl,AZ l,AD,Bool.not_false,xM]
 by_cases q:(s[0]!).toNat<128
 ·rw[vw (by rw[vx];omega),AD,G4 (by omega)]
  obtain⟨c,t,rfl⟩:=List.exists_cons_of_ne_nil h
  have j:c.toNat<128:=q
  rw[Lib.decodeL_ascii c t j];rfl
 ·rw[ne (by rw[vx];omega),og s h (by rw[Ow s 0 l];omega),CL]
def Gi(r:Nat):Bool:=(r=10)||!HF (r:Int)
def II:Nat→List UInt8→Bool
 | 0,_=>true
 | n+1,s=>if s=[] then true else if((Lib.decodeL s).1=65533∧(Lib.decodeL s).2=1)∨Gi (Lib.decodeL s).1=true then false else II n (s.drop (Lib.decodeL s).2)
theorem iS n(s:List UInt8):II (n+1) s=if s=[] then true else if((Lib.decodeL s).1=65533∧(Lib.decodeL s).2=1)∨Gi (Lib.decodeL s).1=true then false else II n (s.drop (Lib.decodeL s).2):=rfl
def Py:Nat→List UInt8→Bool
 | 0,_=>true
 | n+1,s=>if s=[] then true else if Gi (Lib.decodeL s).1=true then false else Py n (s.drop (Lib.decodeL s).2)
theorem aO n(s:List UInt8):Py (n+1) s=if s=[] then true else if Gi (Lib.decodeL s).1=true then false else Py n (s.drop (Lib.decodeL s).2):=rfl
theorem oN:∀(n:Nat) (s:List UInt8),s.length≤n→(Lib.validD s&&Py n s)=II n s:=by
 intro n
 induction n with
 | zero=>intro s u;obtain rfl:=xf (Nat.le_zero.1 u);rfl
 | succ n w=>
  intro s u
  rw[iS,aO]
  by_cases j:s=[]
  ·subst j;rfl
  ·have A:=Lib.decodeL_width s
   have B:=yA.2 j
   rw[ne j,ne j,Lib.validD_step s j]
   by_cases l:(Lib.decodeL s).1=65533∧(Lib.decodeL s).2=1
   ·rw[vw l,vw (show((Lib.decodeL s).1=65533∧(Lib.decodeL s).2=1)∨Gi (Lib.decodeL s).1=true from .inl l)];rfl
   ·rw[ne l]
    by_cases q:Gi (Lib.decodeL s).1=true
    ·rw[vw q,vw (.inr q),yz]
    ·rw[ne q,ne (by rintro(h | h);exact l h;exact q h)]
     exact w _ (by rw[wv];omega)
theorem bB(r:Nat)(h:r≤1114111):IntKind.i64.wrap (r:Int)=(r:Int):=dP (by omega)
theorem uy(s:List UInt8):QR s=some (II s.length s):=by
 unfold QR
 have key:∀(n:Nat) (s:List UInt8),s.length≤n→(Aq (iter (λ(a:(List UInt8))=>F3 a) s) λ(_:Unit)=>some true)=some (II n s):=by
  intro n
  induction n with
  | zero=>
   intro s hs
   obtain rfl:=xf (Nat.le_zero.1 hs)
   have h1:(λ(a:(List UInt8))=>F3 a) []=some (.inr (.nrm ())):=by
    show F3 []=_
    unfold F3;rfl
   rw[Ch h1];rfl
  | succ n ih=>
   intro s hs
   rw[iS]
   by_cases hn:s=[]
   ·subst hn
    have h1:(λ(a:(List UInt8))=>F3 a) []=some (.inr (.nrm ())):=by
     show F3 []=_
     unfold F3;rfl
    rw[Ch h1];rfl
   ·have hw:=Lib.decodeL_width s
    have hle:=Lib.decodeL_le s hn
    have hr:=Lib.decodeL_rune s
    have hstep:F3 s=if((Lib.decodeL s).1=65533∧(Lib.decodeL s).2=1)∨Gi (Lib.decodeL s).1=true then some (.inr (.ext false)) else some (.inl (s.drop (Lib.decodeL s).2)):=by
     unfold F3 Gi
     rw[vw (Bb hn),oV s hn,CL,bB _ hr,cG]
     generalize (Lib.decodeL s).1=r at *
     generalize (Lib.decodeL s).2=w at *
     by_cases h1:r=65533∧w=1
     ·obtain⟨rfl,rfl⟩:=h1
      rw[vw (.inl ⟨rfl,rfl⟩)];rfl
     ·have e1:(((r:Int)=65533)&&((w:Int)=1))=false:=by
       rw[← xR,v7,vx,vx];omega
      by_cases h2:r=10
      ·subst h2
       rw[vw (.inr (by rfl)),e1];rfl
      ·have e2:(decide ((r:Int)=10))=false:=vy (by omega)
       rw[e1,e2,vy h2]
       show(AB (gd true (some (HF (r:Int)))) λ(r3:Bool)=>_)=_
       rw[An,AD,tt s w hle,AD]
       cases HF (r:Int)
       ·rw[vw (show(r=65533∧w=1)∨(false||!false)=true from .inr rfl)];rfl
       ·rw[ne (show ¬ ((r=65533∧w=1)∨(false||!true)=true) by rintro(h | h);exact h1 h;exact absurd h (by decide))];rfl
    by_cases hb:((Lib.decodeL s).1=65533∧(Lib.decodeL s).2=1)∨Gi (Lib.decodeL s).1=true
    ·rw[vw hb] at hstep
     rw[Ch (f:=λ(a:(List UInt8))=>F3 a) hstep,ne hn,vw hb];rfl
    ·rw[ne hb] at hstep
     rw[DP (f:=λ(a:(List UInt8))=>F3 a) hstep,ne hn,ne hb]
     exact ih _ (by rw[wv];omega)
 exact key s.length s (wL _)
theorem uz(s:List UInt8) p:GV s p=Lib.decodeL (s.drop p):=(Lib.decodeL_drop ⟨s.toArray⟩ p).symm
theorem o9(s:List UInt8)(hs:s.length≤9223372036854775807):RA s=some (II s.length s):=by
 unfold RA Ue UK
 rw[vw hs,AD,← oN s.length s (wL _)]
 cases Lib.validD s with
 | false=>rfl
 | true=>
  rw[ne (by decide),xM]
  have key:∀(n p:Nat),s.length-p≤n→(Aq (iter (λ(a:(Nat))=>F0 s a) p) λ(_:Unit)=>some true)=some (Py n (s.drop p)):=by
   intro n
   induction n with
   | zero=>
    intro p hp
    have h1:(λ(a:(Nat))=>F0 s a) p=some (.inr (.nrm ())):=by
     show F0 s p=_
     unfold F0;rw[ne (by rw[vx];omega)]
    rw[Ch h1];rfl
   | succ n ih=>
    intro p hp
    rw[aO]
    by_cases hn:s.length≤p
    ·have h1:(λ(a:(Nat))=>F0 s a) p=some (.inr (.nrm ())):=by
      show F0 s p=_
      unfold F0;rw[ne (by rw[vx];omega)]
     rw[Ch h1,vw (List.drop_eq_nil_of_le hn)];rfl
    ·have hne:s.drop p≠[]:=by
      intro e
      have:=ye List.length e
      rw[wv,yJ] at this
      omega
     have hw:=Lib.decodeL_width (s.drop p)
     have hr:=Lib.decodeL_rune (s.drop p)
     have hstep:F0 s p=if Gi (Lib.decodeL (s.drop p)).1=true then some (.inr (.ext false)) else some (.inl (p+(Lib.decodeL (s.drop p)).2)):=by
      unfold F0 Gi
      rw[vw (by rw[vx];omega),uz,bB _ hr,dM]
      generalize (Lib.decodeL (s.drop p)).1=r at *
      generalize (Lib.decodeL (s.drop p)).2=w at *
      by_cases h2:r=10
      ·subst h2;rfl
      ·rw[vy h2,vy (show ¬ ((r:Int)=10) by omega)]
       show(AB (gd true (some (HF (r:Int)))) λ(r3:Bool)=>_)=_
       rw[An,AD]
     rw[ne hne]
     by_cases hb:Gi (Lib.decodeL (s.drop p)).1=true
     ·rw[vw hb] at hstep
      rw[Ch (f:=λ(a:(Nat))=>F0 s a) hstep,vw hb];rfl
     ·rw[ne hb] at hstep
      rw[DP (f:=λ(a:(Nat))=>F0 s a) hstep,ne hb,List.drop_drop]
      exact ih _ (by omega)
  have:=key s.length 0 (by omega)
  rw[List.drop_zero] at this
  exact this
theorem VE{ρ:Type}{f g}{n}(I:Nat→Prop)(u:I 0)(h:∀k:Nat, k<n→I k→∃o:Option ρ, f k=Ca k o∧g k=Ca k o∧(o=none→I (k+1)))
 (w:f n=some (.inr (.nrm ()))) (hg:g n=some (.inr (.nrm ()))):∃o:Option ρ, iter f 0=some (Fw o)∧iter g 0=some (Fw o)∧(o=none→I n) := by
  have key:∀m k:Nat, k+m=n→I k→∃o:Option ρ, iter f (k:Int)=some (Fw o)∧iter g (k:Int)=some (Fw o)∧(o=none→I n) := by
    intro m
    induction m with
    | zero =>
      intro k A j
      obtain rfl:k=n := by omega
      exact⟨none, Ch w, Ch hg, λ_ => j⟩
    | succ m B =>
      intro k A j
      obtain⟨o, l, q, C⟩ := h k (by omega) j
      cases o with
      | some r => exact⟨some r, Ch l, Ch q, λe => by cases e⟩
      | none =>
        obtain⟨o, E, F, J⟩ := B (k+1) (by omega) (C rfl)
        exact⟨o, (DP l).trans E, (DP q).trans F, J⟩
  exact key n 0 (by omega) u
theorem TU x y:KM x y=some (if x<y then -1 else if y<x then 1 else 0):=by
 unfold KM RF
 rw[vz (rfl:x=x),vz (rfl:y=y),AD,AD,ne (by decide),ne (by decide)]
 by_cases j:x<y
 ·rw[vw (vz j),vw j]
 ·rw[ne (by simpa using j),ne j]
  by_cases l:y<x
  ·rw[vw (vz l),vw l]
  ·rw[ne (by simpa using l),ne l]
theorem Y6 a b:M3 [a,b]=some (if a≠0 then a else b):=by
 unfold M3
 by_cases j:a≠0
 ·have q:(λ(x:Int)=>Eh [a,b] x) 0=some (.inr (.ext a)):=by
   show Eh [a,b] 0=_
   unfold Eh
   rw[vw (by simp),show AL [a,b] 0=some a from rfl,AD,vw (Bb j)]
  rw[Ch q,vw j];rfl
 ·have u:a=0:=wU.1 j
  have q:(λ(x:Int)=>Eh [a,b] x) 0=some (.inl 1):=by
   show Eh [a,b] 0=_
   unfold Eh
   rw[vw (by simp),show AL [a,b] 0=some a from rfl,AD,ne (CI u)];rfl
  by_cases A:b≠0
  ·have w:(λ(x:Int)=>Eh [a,b] x) 1=some (.inr (.ext b)):=by
    show Eh [a,b] 1=_
    unfold Eh
    rw[vw (by simp),show AL [a,b] 1=some b from rfl,AD,vw (Bb A)]
   rw[DP q,Ch w,ne j];rfl
  ·have l:b=0:=wU.1 A
   have w:(λ(x:Int)=>Eh [a,b] x) 1=some (.inl 2):=by
    show Eh [a,b] 1=_
    unfold Eh
    rw[vw (by simp),show AL [a,b] 1=some b from rfl,AD,ne (CI l)];rfl
   have B:(λ(x:Int)=>Eh [a,b] x) 2=some (.inr (.nrm ())):=by
    show Eh [a,b] 2=_
    unfold Eh
    rw[ne (by simp)]
   rw[DP q,DP w,Ch B,ne j,l];rfl
def CE(a b c d:Int):Int:=if a<b then -1 else if b<a then 1 else if c<d then -1 else if d<c then 1 else 0
theorem iU a b c d:(if(if a<b then -1 else if b<a then 1 else 0)≠(0:Int) then(if a<b then -1 else if b<a then 1 else 0) else if c<d then -1 else if d<c then 1 else(0:Int))=CE a b c d:=by
 unfold CE
 by_cases j:a<b
 ·simp[j]
 ·by_cases l:b<a
  ·simp[j,l]
  ·simp[j,l]
theorem Rt a b c d:0≤CE a b c d↔(b<a∨(b=a∧d≤c)):=by
 unfold CE
 split
 ·constructor<;>intro h<;>omega
 ·split
  ·constructor<;>intro h<;>omega
  ·split
   ·constructor<;>intro h<;>omega
   ·split
    ·constructor<;>intro h<;>omega
    ·constructor<;>intro h<;>omega
theorem pW(a b:A0):L9 a b=some (CE a.Row b.Row a.Col b.Col):=by
 unfold L9
 rw[TU,TU,AD,AD,Y6,AD,iU]
theorem E1 x a b:CX x a b=some (decide (a≤x∧x≤b)):=by
 rw[Ix]
 congr 1
 rw[wo];simp
def Id(rows cols:Int)(c:A0):Prop:=0≤c.Row∧c.Row<rows∧0≤c.Col∧c.Col<cols∧0≤c.Ref∧c.Ref≤1073741824
instance (rows cols:Int) (c:A0):Decidable (Id rows cols c):=by unfold Id;infer_instance
def JZ(c:A0):Bool:=(c.Text=[])&&(c.Ref=0)&&(c.Attrs=[])
def SZ(rows cols:Int)(j:Bool)(c:A0):Int:=
 if ¬ Id rows cols c then 2 else if II c.Text.length c.Text=false then 23 else if Ao c.Attrs false≠0 then Ao c.Attrs false else if(!j&&JZ c)=true then 4 else 0
def P7(rows cols:Int)(j:Bool)(l:List A0)(k:Nat):Option Int:=
 if SZ rows cols j l[k]!≠0 then some (SZ rows cols j l[k]!) else if 0<k∧0≤CE l[k-1]!.Row l[k]!.Row l[k-1]!.Col l[k]!.Col then some 5 else none
def N8(rows cols:Int)(j:Bool)(l:List A0):Int:=((List.range l.length).findSome? (P7 rows cols j l)).getD 0
theorem f7(l:List AC):decide ((l.length:Int)=0)=decide (l=[]):=by
 rw[wo,vx,vx,← List.length_eq_zero_iff];omega
def Tz(c:A0):Prop:=CZ c.Attrs∧c.Text.length≤1073741824
theorem oz(l:List A0) k(C:k<l.length)(E:l.length≤9223372036854775806) :
  (AB (gd ((decide (0<(k:Int)))==true) (AN .i64 ((k:Int)-1))) λ(u:Int)=>
   AB (gd ((decide (0<(k:Int)))==true) (AL l u)) λ(w:A0)=>
   AB (gd ((decide (0<(k:Int)))==true) (L9 w l[k]!)) λ(A:Int)=>
   if((0<(k:Int))&&(0≤A)) then(some (.inr (.ext 5)):Option (Int ⊕ (As Unit Int))) else(
    AB (AN .i64 ((k:Int)+1)) λ(B:Int)=>some (.inl B)))=Ca k (if 0<k∧0≤CE l[k-1]!.Row l[k]!.Row l[k-1]!.Col l[k]!.Col then some 5 else none):=by
 by_cases q:0<k
 ·rw[vz (show(0:Int)<k by omega),show((true==true):Bool)=true from rfl,An,E8 q (by omega),AD,An,AZ (by omega),AD,An,pW,AD]
  by_cases j:0≤CE l[k-1]!.Row l[k]!.Row l[k-1]!.Col l[k]!.Col
  ·rw[vw (show(true&&(0≤CE l[k-1]!.Row l[k]!.Row l[k-1]!.Col l[k]!.Col))=true by rw[vz j];rfl),vw ⟨q,j⟩];rfl
  ·rw[ne (show ¬ (true&&(0≤CE l[k-1]!.Row l[k]!.Row l[k-1]!.Col l[k]!.Col))=true by rw[vy j];decide),ne (λh=>j h.2),Ae (by omega)];rfl
 ·obtain rfl:k=0:=by omega
  rw[ne (show ¬ (0<0∧_) from λh=>absurd h.1 (by decide))];rfl
theorem sC rows cols q (l:List A0) (O:l.length≤1073741824) (I:∀c∈l,Tz c):Q7 l rows cols q=some (N8 rows cols q l):=by
 unfold Q7
 rw[CP (n:=l.length) (P7 rows cols q l) (λk u=>by
  obtain⟨F,T⟩:=I _ (BN u)
  have B:=oz l k u (by omega)
  unfold Rb P7 SZ
  rw[vw (by simpa using u),AZ u,AD]
  by_cases w:Id rows cols l[k]!
  ·have C:=w
   unfold Id at C
   rw[ne (by simp only[wD,vx];omega),ne (by simp only[wD,vx];omega),uy,AD,Le _ F.2 (by have:=F.1;omega),AD,B]
   rw[ne (wU.2 w)]
   cases J:II l[k]!.Text.length l[k]!.Text with
   | false=>rfl
   | true=>
    rw[ne (show ¬ ((!true)=true) by decide),ne (show ¬ (true=false) by decide)]
    by_cases j:Ao l[k]!.Attrs false=0
    ·rw[ne (CI j),ne (wU.2 j)]
     have M:PH l[k]! = some (JZ l[k]!):=by unfold PH JZ;rw[f7]
     rw[M,AD]
     by_cases A:(!q&&JZ l[k]!)=true
     ·rw[vw (by rw[Bool.and_comm];exact A),vw A];rfl
     ·rw[ne (by rw[Bool.and_comm];exact A),ne A,ne (show ¬ ((0:Int)≠0) from λh=>h rfl)]
    ·rw[vw (Bb j),vw j,vw j];rfl
  ·rw[vw w]
   unfold Id at w
   by_cases E:((((l[k]!.Row<0)||(rows≤l[k]!.Row))||(l[k]!.Col<0))||(cols≤l[k]!.Col))=true
   ·rw[vw E];rfl
   ·rw[ne E,vw (by simp only[wD,vx] at E ⊢;omega)];rfl) (by unfold Rb;rw[ne (by simp)]),FX]
 rfl
theorem rV(l:List A0) k(J:k<l.length)(M:l.length≤9223372036854775806) :
  (AB (gd ((decide (0<(k:Int)))==true) (AN .i64 ((k:Int)-1))) λ(F:Int)=>
      AB (gd ((decide (0<(k:Int)))==true) (AL l F)) λ(j:A0)=>
      AB (gd ((((decide (0<(k:Int)))==true)&&((decide (l[k]!.Row<j.Row))==false))&&((decide (l[k]!.Row=j.Row))==true)) (AN .i64 ((k:Int)-1))) λ(I:Int)=>
      AB (gd ((((decide (0<(k:Int)))==true)&&((decide (l[k]!.Row<j.Row))==false))&&((decide (l[k]!.Row=j.Row))==true)) (AL l I)) λ(w:A0)=>
      if((0<(k:Int))&&((l[k]!.Row<j.Row)||((l[k]!.Row=j.Row)&&(l[k]!.Col≤w.Col)))) then(some (.inr (.ext 5)):Option (Int ⊕ (As Unit Int))) else(
       AB (AN .i64 ((k:Int)+1)) λ(A:Int)=>some (.inl A)))=Ca k (if 0<k∧0≤CE l[k-1]!.Row l[k]!.Row l[k-1]!.Col l[k]!.Col then some 5 else none):=by
 have q:=Rt l[k-1]!.Row l[k]!.Row l[k-1]!.Col l[k]!.Col
 by_cases B:0<k
 ·rw[vz (show(0:Int)<k by omega),show((true==true):Bool)=true from rfl,An,E8 B (by omega),AD,An,AZ (show k-1<l.length by omega),AD]
  by_cases u:l[k]!.Row<l[k-1]!.Row
  ·rw[vz u,vw (show 0<k∧0≤CE l[k-1]!.Row l[k]!.Row l[k-1]!.Col l[k]!.Col from⟨B,q.2 (.inl u)⟩)];rfl
  ·by_cases C:l[k]!.Row=l[k-1]!.Row
   ·rw[vy u,vz C,show(((true&&(false==false))&&(true==true)):Bool)=true from rfl,An,AD,An,AZ (show k-1<l.length by omega),AD]
    by_cases E:l[k]!.Col≤l[k-1]!.Col
    ·rw[vz E,vw (show 0<k∧0≤CE l[k-1]!.Row l[k]!.Row l[k-1]!.Col l[k]!.Col from⟨B,q.2 (.inr ⟨C,E⟩)⟩)];rfl
    ·rw[vy E,ne (show ¬ (0<k∧0≤CE l[k-1]!.Row l[k]!.Row l[k-1]!.Col l[k]!.Col) from λh=>by have:=q.1 h.2;omega),Ae (by omega)];rfl
   ·rw[vy u,vy C,ne (show ¬ (0<k∧0≤CE l[k-1]!.Row l[k]!.Row l[k-1]!.Col l[k]!.Col) from λh=>by have:=q.1 h.2;omega),Ae (by omega)];rfl
 ·obtain rfl:k=0:=by omega
  rw[ne (show ¬ (0<0∧_) from λh=>absurd h.1 (by decide))];rfl
theorem lc rows cols q (l:List A0) (T:l.length≤1073741824) (I:∀c∈l,Tz c) (U:0≤rows∧rows≤2147483647) (J:0≤cols∧cols≤2147483647):Mr l rows cols q=some (N8 rows cols q l):=by
 unfold Mr
 rw[CP (n:=l.length) (P7 rows cols q l) (λk u=>by
  obtain⟨C,V⟩:=I _ (BN u)
  have A:=rV l k u (by omega)
  unfold OS P7 SZ
  rw[vw (by simpa using u),AZ u,AD,By (by omega) (by omega),AD,E1,AD,E1,A]
  by_cases w:Id rows cols l[k]!
  ·have B:=w
   unfold Id at B
   rw[ne (wU.2 w),vz (show 0≤l[k]!.Row∧l[k]!.Row≤rows-1 by omega),show((!true)==false)=true from rfl,An,By (by omega) (by omega),AD,An,E1,AD,vz (show 0≤l[k]!.Col∧l[k]!.Col≤cols-1 by omega),
    show(((!true)||(!true))==false)=true from rfl,An,AD,vz (show 0≤l[k]!.Ref∧l[k]!.Ref≤1073741824 by omega),ne (by decide),o9 _ (by omega),AD,QX _ _ C.2 (by have:=C.1;omega),AD]
   cases M:II l[k]!.Text.length l[k]!.Text with
   | false=>rfl
   | true=>
    rw[ne (show ¬ ((!true)=true) by decide),ne (show ¬ (true=false) by decide)]
    by_cases j:Ao l[k]!.Attrs false=0
    ·rw[ne (CI j),ne (wU.2 j)]
     have O:Qh l[k]! = some (JZ l[k]!):=by unfold Qh JZ;rw[f7]
     rw[O]
     cases q with
     | true=>rfl
     | false=>
      show(AB (gd true (some (JZ l[k]!))) λ(X:Bool)=>_)=_
      rw[An,AD]
      cases JZ l[k]!<;>rfl
    ·rw[vw (Bb j),vw j,vw j];rfl
  ·rw[vw w]
   unfold Id at w
   by_cases E:0≤l[k]!.Row∧l[k]!.Row≤rows-1
   ·rw[vz E,show((!true)==false)=true from rfl,An,By (by omega) (by omega),AD,An,E1,AD]
    by_cases F:0≤l[k]!.Col∧l[k]!.Col≤cols-1
    ·rw[vz F,show(((!true)||(!true))==false)=true from rfl,An,AD,vy (show ¬ (0≤l[k]!.Ref∧l[k]!.Ref≤1073741824) by omega)];rfl
    ·rw[vy F];rfl
   ·rw[vy E];rfl) (by unfold OS;rw[ne (by simp)]),FX]
 rfl
theorem Yz{ρ:Type}{f}{n}(g:Nat→Option ρ)(u:∀k:Nat, k<n→(∀j, j<k→g j=none)→f k=Ca k (g k))
 (w:f n=some (.inr (.nrm ()))):iter f 0=some (Fw ((List.range n).findSome? g)) := by
  have key:∀m k:Nat, k+m=n→(∀j, j<k→g j=none)→iter f (k:Int)=some (Fw ((List.range' k m).findSome? g)) := by
    intro m
    induction m with
    | zero =>
      intro k A _
      obtain rfl:k=n := by omega
      rw[Ch w];rfl
    | succ m B =>
      intro k A l
      have q := u k (by omega) l
      rw[ze, xZ]
      cases hg:g k with
      | some r => rw[hg] at q;rw[Ch q];rfl
      | none =>
        rw[hg] at q
        rw[DP q]
        exact B (k+1) (by omega) (λj C => by
          by_cases e:j=k
          · rw[e];exact hg
          · exact l j (by omega))
  have := key n 0 (by omega) (λj l => absurd l (zT _))
  rw[yp]
  exact this
def Du(rows cols:Int)(r:Ax):Prop:=0≤r.Row∧r.Row<rows∧0≤r.Col∧r.Col<cols∧1≤r.H∧r.H≤rows-r.Row∧1≤r.W∧r.W≤cols-r.Col
instance (rows cols:Int) (r:Ax):Decidable (Du rows cols r):=by unfold Du;infer_instance
def Hb(a b:Ax):Bool:=decide (a.Row<b.Row+b.H∧b.Row<a.Row+a.H∧a.Col<b.Col+b.W∧b.Col<a.Col+a.W)
def F6(rows cols:Int):Prop:=0≤rows∧rows≤2147483647∧0≤cols∧cols≤2147483647
instance (rows cols:Int):Decidable (F6 rows cols):=by unfold F6;infer_instance
theorem qG(r:Ax) rows cols (h:F6 rows cols):O3 r rows cols=some (decide (Du rows cols r)):=by
 obtain⟨C,E,F,I⟩:=h
 unfold O3
 by_cases q:0≤r.Row∧0≤r.Col∧1≤r.H∧1≤r.W∧r.Row<rows∧r.Col<cols
 ·obtain⟨u,w,a3,a4,a5,A⟩:=q
  rw[vz u,vz w,vz a3,vz a4,vz a5,vz A,show((((((true&&true)&&true)&&true)&&true)&&true)==true)=true from rfl,An,By (by omega) (by omega),AD]
  by_cases j:r.H≤rows-r.Row
  ·rw[vz j,show(((((((true&&true)&&true)&&true)&&true)&&true)&&true)==true)=true from rfl,An,By (by omega) (by omega),AD]
   by_cases l:r.W≤cols-r.Col
   ·rw[vz l,vz (show Du rows cols r from⟨u,a5,w,A,a3,j,a4,l⟩)];rfl
   ·rw[vy l,vy (show ¬ Du rows cols r from λh=>l h.2.2.2.2.2.2.2)];rfl
  ·rw[vy j,vy (show ¬ Du rows cols r from λh=>j h.2.2.2.2.2.1)];rfl
 ·have B:((((((0≤r.Row)&&(0≤r.Col))&&(1≤r.H))&&(1≤r.W))&&(r.Row<rows))&&(r.Col<cols))=false:=by
   rw[← xR]
   simp only[v7,vx]
   intro h;exact q (by omega)
  rw[B,vy (show ¬ Du rows cols r from λh=>q ⟨h.1,h.2.2.1,h.2.2.2.2.1,h.2.2.2.2.2.2.1,h.2.1,h.2.2.2.1⟩)];rfl
theorem uZ(r:Ax) rows cols (h:F6 rows cols):Lp r rows cols=some (decide (Du rows cols r)):=by
 obtain⟨q,u,w,A⟩:=h
 unfold Lp
 rw[By (by omega) (by omega),AD,E1,AD]
 by_cases j:0≤r.Row∧r.Row≤rows-1
 ·rw[vz j,show((true==true):Bool)=true from rfl,An,By (by omega) (by omega),AD,An,E1,AD]
  by_cases l:0≤r.Col∧r.Col≤cols-1
  ·rw[vz l,show((true&&true)==true)=true from rfl,An,By (by omega) (by omega),AD,An,E1,AD]
   by_cases a3:1≤r.H∧r.H≤rows-r.Row
   ·rw[vz a3,show(((true&&true)&&true)==true)=true from rfl,An,By (by omega) (by omega),AD,An,E1,AD]
    by_cases a4:1≤r.W∧r.W≤cols-r.Col
    ·rw[vz a4,vz (show Du rows cols r from⟨j.1,by omega,l.1,by omega,a3.1,a3.2,a4.1,a4.2⟩)];rfl
    ·rw[vy a4,vy (show ¬ Du rows cols r from λh=>a4 ⟨h.2.2.2.2.2.2.1,h.2.2.2.2.2.2.2⟩)];rfl
   ·rw[vy a3,vy (show ¬ Du rows cols r from λh=>a3 ⟨h.2.2.2.2.1,h.2.2.2.2.2.1⟩)];rfl
  ·rw[vy l,vy (show ¬ Du rows cols r from λh=>l ⟨h.2.2.1,by have:=h.2.2.2.1;omega⟩)];rfl
 ·rw[vy j,vy (show ¬ Du rows cols r from λh=>j ⟨h.1,by have:=h.2.1;omega⟩)];rfl
theorem su{rows cols}(h:F6 rows cols){a b:Ax}(w:Du rows cols a)(A:Du rows cols b):Oh a b=some (Hb a b):=by
 obtain⟨B,C,E,F⟩:=h
 obtain⟨I,J,a3,a4,a5,M,O,T⟩:=w
 obtain⟨U,V,X,Y,Z,b6,b7,b8⟩:=A
 unfold Oh Hb
 rw[By (by omega) (by omega),AD]
 by_cases j:a.Row<b.Row+b.H
 ·rw[vz j,show((true==true):Bool)=true from rfl,An,By (by omega) (by omega),AD]
  by_cases l:b.Row<a.Row+a.H
  ·rw[vz l,show((true&&true)==true)=true from rfl,An,By (by omega) (by omega),AD]
   by_cases q:a.Col<b.Col+b.W
   ·rw[vz q,show(((true&&true)&&true)==true)=true from rfl,An,By (by omega) (by omega),AD]
    by_cases u:b.Col<a.Col+a.W
    ·rw[vz u,vz (show _∧_∧_∧_ from⟨j,l,q,u⟩)];rfl
    ·rw[vy u,vy (show ¬ (a.Row<b.Row+b.H∧b.Row<a.Row+a.H∧a.Col<b.Col+b.W∧b.Col<a.Col+a.W) from λh=>u h.2.2.2)];rfl
   ·rw[vy q,vy (show ¬ (a.Row<b.Row+b.H∧b.Row<a.Row+a.H∧a.Col<b.Col+b.W∧b.Col<a.Col+a.W) from λh=>q h.2.2.1)];rfl
  ·rw[vy l,vy (show ¬ (a.Row<b.Row+b.H∧b.Row<a.Row+a.H∧a.Col<b.Col+b.W∧b.Col<a.Col+a.W) from λh=>l h.2.1)];rfl
 ·rw[vy j,vy (show ¬ (a.Row<b.Row+b.H∧b.Row<a.Row+a.H∧a.Col<b.Col+b.W∧b.Col<a.Col+a.W) from λh=>j h.1)];rfl
theorem lT{rows cols}(h:F6 rows cols){a b:Ax}(q:Du rows cols a)(u:Du rows cols b):QN a b=some (Hb b a):=by
 obtain⟨w,A,B,C⟩:=h
 obtain⟨E,F,a3,a4,a5,I,J,M⟩:=q
 obtain⟨O,T,U,V,X,Y,Z,b8⟩:=u
 unfold QN Hb
 rw[By (by omega) (by omega),AD,By (by omega) (by omega),AD]
 by_cases j:max a.Row b.Row<min (a.Row+a.H) (b.Row+b.H)
 ·rw[vz j,show((true==true):Bool)=true from rfl,An,By (by omega) (by omega),AD,An,By (by omega) (by omega),AD]
  by_cases l:max a.Col b.Col<min (a.Col+a.W) (b.Col+b.W)
  ·rw[vz l,vz (show b.Row<a.Row+a.H∧a.Row<b.Row+b.H∧b.Col<a.Col+a.W∧a.Col<b.Col+b.W by omega)];rfl
  ·rw[vy l,vy (show ¬ (b.Row<a.Row+a.H∧a.Row<b.Row+b.H∧b.Col<a.Col+a.W∧a.Col<b.Col+b.W) by omega)];rfl
 ·rw[vy j,vy (show ¬ (b.Row<a.Row+a.H∧a.Row<b.Row+b.H∧b.Col<a.Col+a.W∧a.Col<b.Col+b.W) by omega)];rfl
theorem jt{α:Type}[Inhabited α]{l:List α}{k j}(q:j<k)(u:k≤l.length):(l.take k)[j]! = l[j]!:=by
 rw[wF (l.take k) j (by rw[xl];omega),wF l j (by omega),List.getElem_take]
def NF(l:List Ax)(k:Nat)(w:Ax):Option Nat:=(List.range k).find? λj=>Hb l[j]! w
theorem mE{rows cols}(h:F6 rows cols)(l:List Ax) k(A:k≤l.length)(F:l.length≤1073741824)(B:∀j,j<k→Du rows cols l[j]!){w}(C:Du rows cols w) :
  Mt w (l.take k)=some (NF l k w).isSome:=by
 unfold Mt R3
 have q:(l.take k).length=k:=by rw[xl];omega
 rw[CP (n:=k) (λj=>if Hb l[j]! w then some (j:Int) else none) (λj u=>by
  unfold Ou SO
  rw[vw (by rw[q,vx];omega),AZ (by rw[q];exact u),AD,jt u A,su h (B j u) C,AD,AD,Ae (by omega)]
  cases Hb l[j]! w<;>rfl) (by unfold Ou;rw[ne (by rw[q];simp)]),Sf,Et]
 unfold NF
 cases (List.range k).find? λj=>Hb l[j]! w with
 | none=>rfl
 | some j=>
  show(AB (some (j:Int)) λ(E:Int)=>some (decide (0≤E)))=_
  rw[AD,vz (yi j)];rfl
def La(rows cols:Int)(l:List Ax)(k:Nat):Option Int:=
 if ¬ Du rows cols l[k]! then some 2 else if l[k]!.H=1∧l[k]!.W=1 then some 4 else if 0<k∧0≤CE l[k-1]!.Row l[k]!.Row l[k-1]!.Col l[k]!.Col then some 5 else if(NF l k l[k]!).isSome=true then some 21 else none
theorem gG{rows cols}{l}{k}(h:La rows cols l k=none):Du rows cols l[k]!:=by
 unfold La at h
 by_cases j:Du rows cols l[k]!
 ·exact j
 ·rw[vw j] at h;cases h
def Mz(g:A1):Int:=
 if ¬ F6 g.Rows g.Cols then 2 else if N8 g.Rows g.Cols false g.Cells≠0 then N8 g.Rows g.Cols false g.Cells else((List.range g.Merges.length).findSome? (La g.Rows g.Cols g.Merges)).getD 0
def YF(g:A1):Prop:=g.Cells.length≤1048576∧g.Merges.length≤1048576∧∀c∈g.Cells,Tz c
theorem ny(a b:Ax):Qg a b=some (!(0≤CE a.Row b.Row a.Col b.Col)):=by
 unfold Qg
 congr 1
 rw[wo]
 have:=Rt a.Row b.Row a.Col b.Col
 simp only[wD,v7,vx,wy,xc,this]
 omega
theorem es(g:A1)(h:YF g):LA g=some (Mz g):=by
 obtain⟨Y,Z,E⟩:=h
 unfold LA Mz
 by_cases u:F6 g.Rows g.Cols
 ·have F:=u
  obtain⟨r1,r2,M,r4⟩:=F
  rw[ne (by simp only[wD,vx];omega),sC _ _ _ _ (by omega) E,AD,ne (wU.2 u)]
  by_cases B:N8 g.Rows g.Cols false g.Cells=0
  ·rw[ne (CI B),ne (wU.2 B),Yz (n:=g.Merges.length) (La g.Rows g.Cols g.Merges) (λk O T=>by
    unfold OO
    rw[vw (by simpa using O),AZ O,AD,qG _ _ _ u,AD]
    unfold La
    by_cases w:Du g.Rows g.Cols g.Merges[k]!
    ·rw[vz w,ne (show ¬ ((!true)=true) by decide),ne (wU.2 w)]
     by_cases A:g.Merges[k]!.H=1∧g.Merges[k]!.W=1
     ·rw[vw (by rw[vz A.1,vz A.2];rfl),vw A];rfl
     ·rw[ne (by simp only[v7,vx];exact A),ne A]
      have q:=mE u g.Merges k (by omega) (by omega) (λj I=>gG (T j I)) w
      have U:CS g.Merges 0 (k:Int)=some (g.Merges.take k):=by
       rw[Rd g.Merges k (by omega) (by omega)];simp
      have l:(AB (CS g.Merges 0 (k:Int)) λ(V:List Ax)=>
        AB (Mt g.Merges[k]! V) λ(M:Bool)=>
        if M then(some (.inr (.ext 21)):Option (Int ⊕ (As Unit Int))) else(
         AB (AN .i64 ((k:Int)+1)) λ(X:Int)=>some (.inl X)))=Ca k (if(NF g.Merges k g.Merges[k]!).isSome=true then some 21 else none):=by
       rw[U,AD,q,AD,Ae (by omega)]
       cases (NF g.Merges k g.Merges[k]!).isSome<;>rfl
      by_cases J:0<k
      ·rw[vz (show(0:Int)<k by omega),show((true==true):Bool)=true from rfl,An,E8 J (by omega),AD,An,AZ (show k-1<g.Merges.length by omega),AD,An,ny,AD]
       by_cases C:0≤CE g.Merges[k-1]!.Row g.Merges[k]!.Row g.Merges[k-1]!.Col g.Merges[k]!.Col
       ·rw[vz C,vw (show 0<k∧0≤CE g.Merges[k-1]!.Row g.Merges[k]!.Row g.Merges[k-1]!.Col g.Merges[k]!.Col from⟨J,C⟩)];rfl
       ·rw[vy C,ne (show ¬ (0<k∧0≤CE g.Merges[k-1]!.Row g.Merges[k]!.Row g.Merges[k-1]!.Col g.Merges[k]!.Col) from λh=>C h.2)]
        exact l
      ·have e0:k=0:=by omega
       rw[ne (show ¬ (0<k∧0≤CE g.Merges[k-1]!.Row g.Merges[k]!.Row g.Merges[k-1]!.Col g.Merges[k]!.Col) from λh=>J h.1),vy (show ¬ (0:Int)<k by omega)]
       exact l
    ·rw[vy w,vw w];rfl) (by unfold OO;rw[ne (by simp)]),FX]
  ·rw[vw (Bb B),vw B]
 ·rw[vw u,vw (by unfold F6 at u;simp only[wD,vx];omega)]
theorem lW{X:Type}(l:List Ax)(k:Nat)(I:k<l.length)(J:l.length≤9223372036854775806)(a b:Option X) :
  (AB (gd ((decide (0<(k:Int)))==true) (AN .i64 ((k:Int)-1))) λ(C:Int)=>
    AB (gd ((decide (0<(k:Int)))==true) (AL l C)) λ(j:Ax)=>
    AB (gd ((((decide (0<(k:Int)))==true)&&((decide (l[k]!.Row<j.Row))==false))&&((decide (l[k]!.Row=j.Row))==true)) (AN .i64 ((k:Int)-1))) λ(E:Int)=>
    AB (gd ((((decide (0<(k:Int)))==true)&&((decide (l[k]!.Row<j.Row))==false))&&((decide (l[k]!.Row=j.Row))==true)) (AL l E)) λ(F:Ax)=>
    if((0<(k:Int))&&((l[k]!.Row<j.Row)||((l[k]!.Row=j.Row)&&(l[k]!.Col≤F.Col)))) then a else b) =
   if 0<k∧0≤CE l[k-1]!.Row l[k]!.Row l[k-1]!.Col l[k]!.Col then a else b:=by
 have q:=Rt l[k-1]!.Row l[k]!.Row l[k-1]!.Col l[k]!.Col
 by_cases u:0<k
 ·rw[vz (show(0:Int)<k by omega),show((true==true):Bool)=true from rfl,An,E8 u (by omega),AD,An,AZ (show k-1<l.length by omega),AD]
  by_cases w:l[k]!.Row<l[k-1]!.Row
  ·rw[vz w,vw (show 0<k∧0≤CE l[k-1]!.Row l[k]!.Row l[k-1]!.Col l[k]!.Col from⟨u,q.2 (.inl w)⟩)];rfl
  ·by_cases A:l[k]!.Row=l[k-1]!.Row
   ·rw[vy w,vz A,show(((true&&(false==false))&&(true==true)):Bool)=true from rfl,An,AD,An,AZ (show k-1<l.length by omega),AD]
    by_cases B:l[k]!.Col≤l[k-1]!.Col
    ·rw[vz B,vw (show 0<k∧0≤CE l[k-1]!.Row l[k]!.Row l[k-1]!.Col l[k]!.Col from⟨u,q.2 (.inr ⟨A,B⟩)⟩)];rfl
    ·rw[vy B,ne (show ¬ (0<k∧0≤CE l[k-1]!.Row l[k]!.Row l[k-1]!.Col l[k]!.Col) from λh=>by have:=q.1 h.2;omega)];rfl
   ·rw[vy w,vy A,ne (show ¬ (0<k∧0≤CE l[k-1]!.Row l[k]!.Row l[k-1]!.Col l[k]!.Col) from λh=>by have:=q.1 h.2;omega)];rfl
 ·rw[ne (show ¬ (0<k∧0≤CE l[k-1]!.Row l[k]!.Row l[k-1]!.Col l[k]!.Col) from λh=>u h.1),vy (show ¬ (0:Int)<k by omega)];rfl
theorem jI(g:A1)(h:YF g):Qt g=some (Mz g):=by
 obtain⟨U,V,B⟩:=h
 unfold Qt Mz
 rw[E1,AD]
 by_cases l:F6 g.Rows g.Cols
 ·have C:=l
  obtain⟨I,J,M,O⟩:=C
  rw[vz (show 0≤g.Rows∧g.Rows≤2147483647 from⟨I,J⟩),show((!true)==false)=true from rfl,An,E1,AD,vz (show 0≤g.Cols∧g.Cols≤2147483647 from⟨M,O⟩),ne (by decide),
   lc _ _ _ _ (by omega) B ⟨I,J⟩ ⟨M,O⟩,AD,ne (wU.2 l)]
  by_cases w:N8 g.Rows g.Cols false g.Cells=0
  ·rw[ne (CI w),ne (wU.2 w),Yz (n:=g.Merges.length) (La g.Rows g.Cols g.Merges) (λk E T=>by
    unfold Pw
    rw[vw (by simpa using E),AZ E,AD,uZ _ _ _ l,AD]
    unfold La
    by_cases q:Du g.Rows g.Cols g.Merges[k]!
    ·rw[vz q,ne (show ¬ ((!true)=true) by decide),ne (wU.2 q)]
     by_cases u:g.Merges[k]!.H=1∧g.Merges[k]!.W=1
     ·rw[vw (by rw[vz u.1,vz u.2];rfl),vw u];rfl
     ·rw[ne (by simp only[v7,vx];exact u),ne u,lW _ k E (by omega)]
      by_cases A:0<k∧0≤CE g.Merges[k-1]!.Row g.Merges[k]!.Row g.Merges[k-1]!.Col g.Merges[k]!.Col
      ·rw[vw A,vw A];rfl
      ·rw[ne A,ne A,CP (n:=k) (λj=>if Hb g.Merges[j]! g.Merges[k]! then some (.inr (.ext 21)) else none) (λj F=>by
        unfold RQ
        rw[vw (by rw[vx];omega),AZ (by omega),AD,lT l q (gG (T j F)),AD,Ae (by omega)]
        cases Hb g.Merges[j]! g.Merges[k]!<;>rfl) (by unfold RQ;rw[ne (by rw[vx];omega)]),Sf,Et]
       unfold NF
       cases (List.range k).find? λj=>Hb g.Merges[j]! g.Merges[k]! with
       | none=>rw[Ae (by omega)];rfl
       | some j=>rfl
    ·rw[vy q,vw q];rfl) (by unfold Pw;rw[ne (by simp)]),FX]
  ·rw[vw (Bb w),vw w]
 ·rw[vw l]
  unfold F6 at l
  by_cases a:0≤g.Rows∧g.Rows≤2147483647
  ·rw[vz a,show((!true)==false)=true from rfl,An,E1,AD,vy (show ¬ (0≤g.Cols∧g.Cols≤2147483647) by omega)];rfl
  ·rw[vy a];rfl
def Wm(c:UInt8):Bool:=(97≤c.toNat)&&(c.toNat≤122)
def T0(s:List UInt8):Bool:=(List.range s.length).all λk=>Wm s[k]!
def LQ(s:List UInt8):Bool:=(1≤s.length)&&(s.length≤200)&&!(s[s.length-1]!.toNat=97)&&T0 s
theorem Z0(s:List UInt8)(l:s.length≤9223372036854775806):iter (λ(a:Int)=>Km s a) 0=some (Fw (if T0 s then none else some false)):=by
 rw[CP (n:=s.length) (λk=>if Wm s[k]! then none else some false) (λk j=>by
  unfold Km
  rw[vw (by simpa using j),AZ j,AD,Ae (by omega)]
  unfold Wm
  generalize s[k]! = c
  by_cases h:97≤c.toNat∧c.toNat≤122
  ·rw[ne (by simp only[wD,vx];omega),vw (by simp only[v7,vx];exact h)];rfl
  ·rw[vw (by simp only[wD,vx];omega),ne (by simp only[v7,vx];exact h)];rfl) (by unfold Km;rw[ne (by simp)]),JH]
 rfl
theorem qU:UD=Km:=by funext s x;rfl
theorem nf(s:List UInt8)(q:s.length≤9223372036854775806):QQ s=some (LQ s):=by
 unfold QQ LQ
 rw[qU,Z0 s q]
 by_cases h:1≤s.length∧s.length≤200
 ·have j:s≠[]:=yA.1 h.1
  rw[vy j,vy (show ¬ (200:Int)<(s.length:Int) by omega),show((false||false)==false)=true from rfl,An,E8 h.1 (by omega),AD,An,AZ (by omega),AD,vz h.1,vz h.2]
  by_cases l:s[s.length-1]!.toNat=97
  ·rw[vz l,vw (by rw[vz (show((s[s.length-1]!.toNat:Int)=97) by omega)];rfl)];rfl
  ·rw[vy l,ne (by rw[vy (show ¬ ((s[s.length-1]!.toNat:Int)=97) by omega)];decide)]
   cases T0 s<;>rfl
 ·have u:((s=[])||(200<(s.length:Int)))=true:=by
   rw[wD,vx,vx,← List.length_eq_zero_iff];omega
  have hd:((1≤s.length)&&(s.length≤200))=false:=by
   rw[← xR,v7,vx,vx];exact h
  rw[u,hd];rfl
theorem jb(s:List UInt8)(l:s.length≤9223372036854775806):Rc s=some (LQ s):=by
 unfold Rc LQ
 rw[Z0 s l,Et]
 cases T0 s with
 | false=>rw[yz];rfl
 | true=>
  rw[vw rfl,zY]
  dsimp only
  by_cases h:1≤s.length∧s.length≤200
  ·rw[vz (show(1:Int)≤(s.length:Int) by omega),vz (show(s.length:Int)≤200 by omega),show((true&&true)==true)=true from rfl,An,E8 h.1 (by omega),AD,An,AZ (by omega),AD,vz h.1,vz h.2]
   by_cases j:s[s.length-1]!.toNat=97
   ·rw[vz j,vz (show((s[s.length-1]!.toNat:Int)=97) by omega)]
   ·rw[vy j,vy (show ¬ ((s[s.length-1]!.toNat:Int)=97) by omega)]
  ·have q:((1≤(s.length:Int))&&((s.length:Int)≤200))=false:=by
    rw[← xR,v7,vx,vx];omega
   have hd:((1≤s.length)&&(s.length≤200))=false:=by
    rw[← xR,v7,vx,vx];exact h
   rw[q,hd];rfl
def HD(o:BS):Prop:=(1≤o.Clock∧o.Clock≤1073741824)∧(0≤o.Site∧o.Site≤1000)∧(1≤o.Item∧o.Item≤1073741824)
instance (o:BS):Decidable (HD o):=by unfold HD;infer_instance
def M5(o:BS):Int:=
 if ¬ (o.Kind=0∨o.Kind=1) then 8 else if ¬ HD o then 2
 else if o.Kind=0 then(if o.Name≠[]∨o.Value≠[] then 4 else if ¬ (-1≤o.Parent∧o.Parent≤1073741824) then 2 else if LQ o.Place=false then 9 else 0)
 else(if o.Parent≠0∨o.Place≠[] then 4 else if Ef o.Name=false then 9 else if o.Value≠[]∧Dt o.Value=false then 23 else 0)
def PK(l:List BS)(k:Nat):Option Int:=
 if M5 l[k]!≠0 then some (M5 l[k]!) else if 0<k∧0≤CE l[k-1]!.Clock l[k]!.Clock l[k-1]!.Site l[k]!.Site then some 5 else none
def fj(l:List BS):Int:=((List.range l.length).findSome? (PK l)).getD 0
def Tt(o:BS):Prop:=o.Place.length≤1073741824∧o.Name.length≤1073741824∧o.Value.length≤1073741824
theorem tT(o:BS)(h:Tt o):RS o=some (M5 o):=by
 obtain⟨hp,I,J⟩:=h
 unfold RS M5
 rw[nf _ (by omega),cM _ (by omega),WZ _ (by omega)]
 by_cases l:o.Kind=0
 ·have u:¬ o.Kind=1:=by omega
  rw[ne (show ¬ ((!(o.Kind=0))&&(!(o.Kind=1)))=true by rw[vz l];simp),ne (show ¬ ¬ (o.Kind=0∨o.Kind=1) from λh=>h (.inl l))]
  by_cases q:HD o
  ·have w:=q
   unfold HD at w
   rw[ne (by simp only[wD,vx];omega),ne (wU.2 q),vw l,vz l,vy u]
   by_cases j:o.Name≠[]∨o.Value≠[]
   ·have A:(true&&((!(o.Name=[]))||(!(o.Value=[]))))=true:=by
     rw[xM,wD]
     rcases j with c | c
     ·exact .inl (Bb c)
     ·exact .inr (Bb c)
    rw[vw j,A];rfl
   ·have C:o.Name=[]∧o.Value=[]:=⟨wX λh=>j (.inl h),wX λh=>j (.inr h)⟩
    have A:(true&&((!(o.Name=[]))||(!(o.Value=[]))))=false:=by rw[vz C.1,vz C.2];rfl
    rw[ne j,A]
    by_cases B : -1≤o.Parent∧o.Parent≤1073741824
    ·rw[ne (wU.2 B)]
     have E:((o.Parent<(-1))||(1073741824<o.Parent))=false:=by
      rw[← xR,wD,vx,vx];omega
     rw[E]
     cases LQ o.Place with
     | false=>rfl
     | true=>rw[vz C.2];rfl
    ·rw[vw B]
     have E:((o.Parent<(-1))||(1073741824<o.Parent))=true:=by
      rw[wD,vx,vx];omega
     rw[E];rfl
  ·rw[vw (by unfold HD at q;simp only[wD,vx];omega),vw q]
 ·by_cases u:o.Kind=1
  ·rw[ne (show ¬ ((!(o.Kind=0))&&(!(o.Kind=1)))=true by rw[vz u,vy l];decide),ne (show ¬ ¬ (o.Kind=0∨o.Kind=1) from λh=>h (.inr u))]
   by_cases q:HD o
   ·have w:=q
    unfold HD at w
    rw[ne (by simp only[wD,vx];omega),ne (wU.2 q),ne l,vy l,vz u]
    by_cases j:o.Parent≠0∨o.Place≠[]
    ·have A:(true&&((!(o.Parent=0))||(!(o.Place=[]))))=true:=by
      rw[xM,wD]
      rcases j with c | c
      ·exact .inl (Bb c)
      ·exact .inr (Bb c)
     rw[vw j,A];rfl
    ·have C:o.Parent=0∧o.Place=[]:=⟨wX λh=>j (.inl h),wX λh=>j (.inr h)⟩
     have A:(true&&((!(o.Parent=0))||(!(o.Place=[]))))=false:=by rw[vz C.1,vz C.2];rfl
     rw[ne j,A]
     cases Ef o.Name with
     | false=>rfl
     | true=>
      by_cases B:o.Value=[]
      ·rw[vz B,ne (show ¬ (true=false) by decide),ne (show ¬ (o.Value≠[]∧Dt o.Value=false) from λh=>h.1 B)];rfl
      ·rw[vy B,ne (show ¬ (true=false) by decide)]
       cases F:Dt o.Value with
       | false=>rw[vw (show o.Value≠[]∧false=false from⟨B,rfl⟩)];rfl
       | true=>rw[ne (show ¬ (o.Value≠[]∧true=false) from λh=>by cases h.2)];rfl
   ·rw[vw (by unfold HD at q;simp only[wD,vx];omega),vw q]
  ·rw[vw (show((!(o.Kind=0))&&(!(o.Kind=1)))=true by rw[vy u,vy l];rfl),vw (show ¬ (o.Kind=0∨o.Kind=1) from λh=>h.elim l u)]
theorem mQ(a b:BS):Oi a b=some (CE a.Clock b.Clock a.Site b.Site):=by
 unfold Oi
 rw[TU,TU,AD,AD,Y6,AD,iU]
theorem qN(a b:BS):Nl a b=some (!(0≤CE a.Clock b.Clock a.Site b.Site)):=by
 unfold Nl
 congr 1
 rw[wo]
 have:=Rt a.Clock b.Clock a.Site b.Site
 simp only[wD,v7,vx,wy,xc,this]
 omega
theorem Zh(l:List BS)(A:l.length≤1073741824)(w:∀o∈l,Tt o):MF l=some (fj l):=by
 unfold MF
 rw[CP (n:=l.length) (PK l) (λk q=>by
  unfold Od PK
  rw[vw (by simpa using q),AZ q,AD,tT _ (w _ (BN q)),AD]
  by_cases e:M5 l[k]! = 0
  ·rw[ne (CI e),ne (wU.2 e)]
   by_cases u:0<k
   ·rw[vz (show(0:Int)<k by omega),show((true==true):Bool)=true from rfl,An,E8 u (by omega),AD,An,AZ (show k-1<l.length by omega),AD,An,mQ,AD]
    by_cases j:0≤CE l[k-1]!.Clock l[k]!.Clock l[k-1]!.Site l[k]!.Site
    ·rw[vz j,vw (show 0<k∧0≤CE l[k-1]!.Clock l[k]!.Clock l[k-1]!.Site l[k]!.Site from⟨u,j⟩)];rfl
    ·rw[vy j,ne (show ¬ (0<k∧0≤CE l[k-1]!.Clock l[k]!.Clock l[k-1]!.Site l[k]!.Site) from λh=>j h.2),Ae (by omega)];rfl
   ·rw[ne (show ¬ (0<k∧0≤CE l[k-1]!.Clock l[k]!.Clock l[k-1]!.Site l[k]!.Site) from λh=>u h.1),vy (show ¬ (0:Int)<k by omega),Ae (by omega)];rfl
  ·rw[vw (Bb e),vw e];rfl) (by unfold Od;rw[ne (by simp)]),FX]
 rfl
theorem rW(l:List BS)(hm:l.length≤1073741824)(U:∀o∈l,Tt o):NQ l=some (fj l):=by
 unfold NQ
 rw[CP (n:=l.length) (PK l) (λk F=>by
  obtain⟨hp,V,X⟩:=U _ (BN F)
  have u:(AB (gd ((decide (0<(k:Int)))==true) (AN .i64 ((k:Int)-1))) λ(Y:Int)=>
    AB (gd ((decide (0<(k:Int)))==true) (AL l Y)) λ(Z:BS)=>
    AB (gd ((decide (0<(k:Int)))==true) (Nl Z l[k]!)) λ(r4:Bool)=>
    if((0<(k:Int))&&(!r4)) then(some (.inr (.ext 5)):Option (Int ⊕ (As Unit Int))) else(
     AB (AN .i64 ((k:Int)+1)) λ(x7:Int)=>some (.inl x7)))=Ca k (if 0<k∧0≤CE l[k-1]!.Clock l[k]!.Clock l[k-1]!.Site l[k]!.Site then some 5 else none):=by
   by_cases I:0<k
   ·rw[vz (show(0:Int)<k by omega),show((true==true):Bool)=true from rfl,An,E8 I (by omega),AD,An,AZ (show k-1<l.length by omega),AD,An,qN,AD]
    by_cases C:0≤CE l[k-1]!.Clock l[k]!.Clock l[k-1]!.Site l[k]!.Site
    ·rw[vz C,vw (show 0<k∧0≤CE l[k-1]!.Clock l[k]!.Clock l[k-1]!.Site l[k]!.Site from⟨I,C⟩)];rfl
    ·rw[vy C,ne (show ¬ (0<k∧0≤CE l[k-1]!.Clock l[k]!.Clock l[k-1]!.Site l[k]!.Site) from λh=>C h.2),Ae (by omega)];rfl
   ·rw[ne (show ¬ (0<k∧0≤CE l[k-1]!.Clock l[k]!.Clock l[k-1]!.Site l[k]!.Site) from λh=>I h.1),vy (show ¬ (0:Int)<k by omega),Ae (by omega)];rfl
  unfold PZ PK M5
  rw[vw (by simpa using F),AZ F,AD,u,E1,AD,E1,E1,E1,jb _ (by omega),fc _ (by omega),SA _ (by omega)]
  generalize l[k]! = o at hp V X ⊢
  by_cases A:o.Kind=0∨o.Kind=1
  ·rw[ne (show ¬ ((!(o.Kind=0))&&(!(o.Kind=1)))=true by rcases A with h | h<;>rw[vz h]<;>simp),ne (wU.2 A)]
   by_cases w:HD o
   ·rw[ne (wU.2 w),vz w.1,show((!true)==false)=true from rfl,An,AD,vz w.2.1,show(((!true)||(!true))==false)=true from rfl,An,AD,vz w.2.2,ne (show ¬ (((!true)||(!true))||(!true))=true by decide)]
    by_cases E:o.Kind=0
    ·rw[vw (vz E),vw E]
     by_cases j:o.Name≠[]∨o.Value≠[]
     ·have J:((!(o.Name=[]))||(!(o.Value=[])))=true:=by
       rw[wD]
       rcases j with c | c
       ·exact .inl (Bb c)
       ·exact .inr (Bb c)
      rw[vw j,vw J];rfl
     ·have B:o.Name=[]∧o.Value=[]:=⟨wX λh=>j (.inl h),wX λh=>j (.inr h)⟩
      rw[ne j,ne (show ¬ ((!(o.Name=[]))||(!(o.Value=[])))=true by rw[vz B.1,vz B.2];decide),AD]
      by_cases q : -1≤o.Parent∧o.Parent≤1073741824
      ·rw[ne (wU.2 q),vz q,ne (show ¬ ((!true)=true) by decide),AD]
       cases LQ o.Place<;>rfl
      ·rw[vw q,vy q];rfl
    ·rw[ne (show ¬ decide (o.Kind=0)=true by simpa using E),ne E]
     by_cases j:o.Parent≠0∨o.Place≠[]
     ·have J:((!(o.Parent=0))||(!(o.Place=[])))=true:=by
       rw[wD]
       rcases j with c | c
       ·exact .inl (Bb c)
       ·exact .inr (Bb c)
      rw[vw j,vw J];rfl
     ·have B:o.Parent=0∧o.Place=[]:=⟨wX λh=>j (.inl h),wX λh=>j (.inr h)⟩
      rw[ne j,ne (show ¬ ((!(o.Parent=0))||(!(o.Place=[])))=true by rw[vz B.1,vz B.2];decide),AD]
      cases Ef o.Name with
      | false=>rfl
      | true=>
       by_cases q:o.Value=[]
       ·rw[vz q,ne (show ¬ (true=false) by decide),ne (show ¬ (o.Value≠[]∧Dt o.Value=false) from λh=>h.1 q)];rfl
       ·rw[vy q,ne (show ¬ (true=false) by decide)]
        cases a0:Dt o.Value with
        | false=>rw[vw (show o.Value≠[]∧false=false from⟨q,rfl⟩)];rfl
        | true=>rw[ne (show ¬ (o.Value≠[]∧true=false) from λh=>by cases h.2)];rfl
   ·rw[vw w]
    unfold HD at w
    by_cases O:1≤o.Clock∧o.Clock≤1073741824
    ·rw[vz O,show((!true)==false)=true from rfl,An,AD]
     by_cases T:0≤o.Site∧o.Site≤1000
     ·rw[vz T,show(((!true)||(!true))==false)=true from rfl,An,AD,vy (show ¬ (1≤o.Item∧o.Item≤1073741824) by omega)];rfl
     ·rw[vy T];rfl
    ·rw[vy O];rfl
  ·have M:((!(o.Kind=0))&&(!(o.Kind=1)))=true:=by
    rw[vy (λh=>A (.inl h)),vy (λh=>A (.inr h))];rfl
   rw[vw M,vw A];rfl) (by unfold PZ;rw[ne (by simp)]),FX]
 rfl
theorem cU:Kp=F7:=by funext k;rfl
theorem ku:TW=Iq:=by funext k;rfl
theorem ot:P5=JE:=by funext k;rfl
theorem ub:T4=HB:=by funext k;rfl
structure Lo(n:AX):Prop where
 ok:JC n
 ce:∀c∈n.Grid.Cells,Tz c
 dr:∀o∈n.Draw,Tt o
theorem Lo.gd{n:AX}(h:Lo n):YF n.Grid:=⟨h.ok.gr.1,h.ok.gr.2.1,h.ce⟩
def OJ(kind:Int)(c:A0):Bool:=((kind=2)&&((!(c.Text=[]))||(0<(c.Attrs.length:Int))))||((kind=6)&&(!(c.Ref=0)))
def f9(kind:Int)(l:List A0):Int:=((List.range l.length).findSome? λk=>if OJ kind l[k]! then some (4:Int) else none).getD 0
theorem gt kind(l:List A0)(q:l.length≤1073741824):Qf kind l=some (f9 kind l):=by
 unfold Qf
 rw[CP (n:=l.length) (λk=>if OJ kind l[k]! then some (4:Int) else none) (λk j=>by
  unfold Qp
  rw[vw (by simpa using j),AZ j,AD,Ae (by omega)]
  show(if OJ kind l[k]! = true then _ else _)=_
  cases OJ kind l[k]!<;>rfl) (by unfold Qp;rw[ne (by simp)]),FX]
 rfl
theorem uR kind(l:List A0)(A:l.length≤1073741824):Qk kind l=some (f9 kind l):=by
 unfold Qk
 rw[CP (n:=l.length) (λk=>if OJ kind l[k]! then some (4:Int) else none) (λk w=>by
  unfold Ph OJ
  rw[vw (by simpa using w),AZ w,Ae (by omega)]
  generalize l[k]! = c
  by_cases u:kind=2
  ·have j:¬ kind=6:=by omega
   rw[vz u,vy j]
   rw[show((true==true):Bool)=true from rfl,An,AD]
   generalize ((!(c.Text=[]))||(0<(c.Attrs.length:Int)))=q
   cases q<;>rfl
  ·by_cases j:kind=6
   ·rw[vy u,vz j]
    rw[show((false==true):Bool)=false from rfl,EM,AD]
    show(AB (gd true (some c)) λ(B:A0)=>_)=_
    rw[An,AD]
    generalize (!(c.Ref=0))=q
    cases q<;>rfl
   ·rw[vy u,vy j];rfl) (by unfold Ph;rw[ne (by simp)]),FX]
 rfl
def WL(t l g z d j q:Bool):Bool:=((!(t||l)&&j)||(!g&&!z))||(!d&&q)
theorem kG t l g z d j q :
  (if(((!(t||l))&&j)==false) then(
   if((!g)==true) then(
    AB (gd ((((!(t||l))&&j)||((!g)&&(!z)))==false) (some d)) λ(w:Bool)=>
    some ((((!(t||l))&&j)||((!g)&&(!z)))||((!w)&&q))
   ) else(
    AB (gd ((((!(t||l))&&j)||((!g)&&false))==false) (some d)) λ(A:Bool)=>
    some ((((!(t||l))&&j)||((!g)&&false))||((!A)&&q))
   )
  ) else(
   AB (gd ((((!(t||l))&&j)||false)==false) (some d)) λ(u:Bool)=>
   some ((((!(t||l))&&j)||false)||((!u)&&q))
  ))=some (WL t l g z d j q):=by
 cases t<;>cases l<;>cases g<;>cases z<;>cases d<;>cases j<;>cases q<;>rfl
theorem nc{X:Type}(t l g z d j q:Bool)(A B:Option X) :
  (AB (gd ((j&&(!(t||l)))==false) (some z)) λ(u:Bool)=>
   AB (gd (((j&&(!(t||l)))==false)&&((!u)==true)) (some g)) λ(w:Bool)=>
   AB (gd ((((j&&(!(t||l)))||((!u)&&(!w)))==false)&&(q==true)) (some d)) λ(C:Bool)=>
   if(((j&&(!(t||l)))||((!u)&&(!w)))||(q&&(!C))) then A else B)=if WL t l g z d j q=true then A else B:=by
 cases t<;>cases l<;>cases g<;>cases z<;>cases d<;>cases j<;>cases q<;>rfl
theorem eU{α:Type}(l:List α):decide ((l.length:Int)=0)=l.isEmpty:=by
 cases l with
 | nil=>rfl
 | cons a l=>exact vy (by simp only[wK];omega)
theorem oU g:Q3 g=some (decide (g=A1.mk 0 0 [] [])):=by
 unfold Q3
 congr 1
 obtain⟨a,b,c,d⟩:=g
 rw[eU,eU,wo]
 simp[and_assoc]
theorem Vs(n:AX)(h:Lo n):∃e,Dz n=some e∧Md n=some e:=by
 have A:=h.ok.at_
 have hf:=h.ok.fl
 have hg:=h.ok.gr
 have hd:=h.ok.dr
 have M:∀x∈n.Flow,ES x:=λx Z=>⟨by have:=(h.ok.fa x Z).1;omega,(h.ok.fa x Z).2⟩
 unfold Dz Md
 rw[cU,ku,ot,ub,E1,AD]
 by_cases c1:1≤n.ID∧n.ID≤1073741824
 ·rw[ne (show ¬ ((n.ID<1)||(1073741824<n.ID))=true by simp only[wD,vx];omega),vz c1,ne (show ¬ ((!true)=true) by decide),E1,AD]
  by_cases j:(0≤n.Kind∧n.Kind≤12)∧(n.ID=1↔n.Kind=0)
  ·obtain⟨j,B⟩:=j
   have O:(((n.Kind<0)||(13≤n.Kind))||(!((decide (n.ID=1))==(decide (n.Kind=0)))))=false:=by
    rw[vy (show ¬ n.Kind<0 by omega),vy (show ¬ 13≤n.Kind by omega)]
    by_cases q:n.ID=1
    ·rw[vz q,vz (B.1 q)];rfl
    ·rw[vy q,vy (λe=>q (B.2 e))];rfl
   have T:(((!(0≤n.Kind∧n.Kind≤12))||((n.ID=1)&&(!(n.Kind=0))))||((!(n.ID=1))&&(n.Kind=0)))=false:=by
    rw[vz j]
    by_cases q:n.ID=1
    ·rw[vz q,vz (B.1 q)];rfl
    ·rw[vy q,vy (λe=>q (B.2 e))];rfl
   rw[O,T,ne (show ¬ (false=true) by decide),ne (show ¬ (false=true) by decide),Le _ A.2 (by have:=A.1;omega),AD,QX _ _ A.2 (by have:=A.1;omega),AD]
   by_cases C:Ao n.Attrs false=0
   ·rw[ne (CI C),ne (CI C)]
    obtain⟨t,ht⟩:∃t,F7 n.Kind=some t:=⟨_,rfl⟩
    obtain⟨l,hl⟩:∃t,Iq n.Kind=some t:=⟨_,rfl⟩
    obtain⟨g,U⟩:∃t,JE n.Kind=some t:=⟨_,rfl⟩
    obtain⟨d,V⟩:∃t,HB n.Kind=some t:=⟨_,rfl⟩
    rw[ht,hl,U,V,AD,AD,Ww _ _ hg,oU]
    have X:∃E,gd (t==false) (some l)=some E:=by cases t<;>exact⟨_,rfl⟩
    obtain⟨E,Y⟩:=X
    rw[Y,AD,AD,AD,kG,AD,AD,nc]
    by_cases F:WL t E g (decide (n.Grid=A1.mk 0 0 [] [])) d (decide (0<(n.Flow.length:Int))) (decide (0<(n.Draw.length:Int)))=true
    ·rw[vw F,vw F];exact⟨_,rfl,rfl⟩
    ·rw[ne F,ne F]
     by_cases I:(t||E)=true
     ·obtain⟨r,h1,h2⟩:=qn n.Flow t M (by omega)
      rw[vw I,vw I,h1,h2];exact⟨_,rfl,rfl⟩
     ·rw[ne I,ne I]
      cases g with
      | true=>
       rw[vw rfl,es _ h.gd,AD,AD,vw rfl,jI _ h.gd,AD]
       by_cases J:Mz n.Grid=0
       ·rw[ne (CI J),ne (CI J),gt _ _ (by have:=hg.1;omega),uR _ _ (by have:=hg.1;omega)];exact⟨_,rfl,rfl⟩
       ·rw[vw (Bb J),vw (Bb J)];exact⟨_,rfl,rfl⟩
      | false=>
       rw[ne (show ¬ (false=true) by decide),AD,ne (show ¬ (false=true) by decide),Zh _ (by omega) h.dr,rW _ (by omega) h.dr];exact⟨_,rfl,rfl⟩
   ·rw[vw (Bb C),vw (Bb C)];exact⟨_,rfl,rfl⟩
  ·have O:(((n.Kind<0)||(13≤n.Kind))||(!((decide (n.ID=1))==(decide (n.Kind=0)))))=true:=by
    by_cases u:0≤n.Kind∧n.Kind≤12
    ·have w:¬ (n.ID=1↔n.Kind=0):=λe=>j ⟨u,e⟩
     by_cases q:n.ID=1
     ·rw[vz q,vy (λe=>w ⟨λ_=>e,λ_=>q⟩),wD];exact .inr rfl
     ·rw[vy q,vz (wX λe=>w ⟨λx=>absurd x q,λx=>absurd x e⟩),wD];exact .inr rfl
    ·simp only[wD,vx];exact .inl (by omega)
   have T:(((!(0≤n.Kind∧n.Kind≤12))||((n.ID=1)&&(!(n.Kind=0))))||((!(n.ID=1))&&(n.Kind=0)))=true:=by
    by_cases u:0≤n.Kind∧n.Kind≤12
    ·have w:¬ (n.ID=1↔n.Kind=0):=λe=>j ⟨u,e⟩
     rw[vz u]
     by_cases q:n.ID=1
     ·rw[vz q,vy (λe=>w ⟨λ_=>e,λ_=>q⟩)];rfl
     ·rw[vy q,vz (wX λe=>w ⟨λx=>absurd x q,λx=>absurd x e⟩)];rfl
    ·rw[vy u];rfl
   rw[O,T];exact⟨_,rfl,rfl⟩
 ·rw[vw (show((n.ID<1)||(1073741824<n.ID))=true by simp only[wD,vx];omega),vy c1];exact⟨_,rfl,rfl⟩
theorem pi(s:List Int) v(u:s.length≤1048576):M1 s v=some ((List.range s.length).find? λj=>decide (v=s[j]!)).isSome:=by
 unfold M1 TF
 rw[CP (n:=s.length) (λj=>if decide (v=s[j]!) then some (j:Int) else none) (λj l=>by
  unfold Qz
  rw[vw (by simpa using l),AZ l,AD,Ae (by omega)]
  cases decide (v=s[j]!)<;>rfl) (by unfold Qz;rw[ne (by simp)]),Sf,Et]
 cases (List.range s.length).find? λj=>decide (v=s[j]!) with
 | none=>rfl
 | some j=>
  show(AB (some (j:Int)) λ(q:Int)=>some (decide (0≤q)))=_
  rw[AD,vz (yi j)];rfl
theorem LW(s:List Int) v(q:s.length≤1048576):M1 s v=some (decide (v∈s)):=by
 rw[pi s v q]
 congr 1
 rw[wo,vx,List.find?_isSome]
 constructor
 ·rintro⟨j,u,w⟩
  have l:=wi.1 u
  rw[yH w];exact BN l
 ·intro h
  obtain⟨j,l,e⟩:=List.getElem_of_mem h
  exact⟨j,wi.2 l,vz (by rw[wF s j l,e])⟩
def Ii(p k:Int):Bool:=
 if p=0 then decide (k∈[1,6,7,10,11,12]) else if p=1 then decide (k∈[2,4,5,10]) else if p=3 then decide (k∈[4,5,10]) else if p=4∨p=12 then decide (k=5) else if p=2 then decide (k=3) else if p=7 then decide (k=8∨k=9) else false
theorem US p k:M0 p k=some (Ii p k):=by
 unfold M0 Ii
 by_cases l:p=0
 ·rw[vw (vz l),vw l,AD,LW _ _ (by decide)];rfl
 ·rw[ne (show ¬ decide (p=0)=true by simpa using l),ne l]
  by_cases q:p=1
  ·rw[vw (vz q),vw q,AD,LW _ _ (by decide)];rfl
  ·rw[ne (show ¬ decide (p=1)=true by simpa using q),ne q]
   by_cases u:p=3
   ·rw[vw (vz u),vw u,AD,LW _ _ (by decide)];rfl
   ·rw[ne (show ¬ decide (p=3)=true by simpa using u),ne u]
    have B:(if decide (p=4)=true then some (decide (p=4)) else some (decide (p=12)))=some (decide (p=4∨p=12)):=by
     by_cases j:p=4
     ·rw[vw (vz j),vz j,vz (Or.inl j:p=4∨p=12)]
     ·rw[ne (show ¬ decide (p=4)=true by simpa using j)]
      congr 1
      rw[wo,vx,vx]
      exact⟨.inr,λh=>h.elim (λh=>absurd h j) id⟩
    rw[B,AD]
    by_cases j:p=4∨p=12
    ·rw[vw (vz j),vw j,AD,LW _ _ (by decide),AD]
     congr 1;rw[wo];simp
    ·rw[ne (show ¬ decide (p=4∨p=12)=true by simpa using j),ne j]
     by_cases w:p=2
     ·rw[vw (vz w),vw w,AD,LW _ _ (by decide),AD]
      congr 1;rw[wo];simp
     ·rw[ne (show ¬ decide (p=2)=true by simpa using w),ne w]
      by_cases A:p=7
      ·rw[vw (vz A),vw A,AD,LW _ _ (by decide),AD]
       congr 1;rw[wo];simp
      ·rw[ne (show ¬ decide (p=7)=true by simpa using A),ne A,AD,LW _ _ (by decide),AD];simp
theorem SK p k:L3 p k=some (Ii p k) := by
  have Z:k=1∨k=2∨k=3∨k=4∨k=5∨k=6∨k=7∨k=8∨k=9∨k=10∨k=11∨k=12∨(k≠1∧k≠2∧k≠3∧k≠4∧k≠5∧k≠6∧k≠7∧k≠8∧k≠9∧k≠10∧k≠11∧k≠12) := by omega
  have hp:p=0∨p=1∨p=2∨p=3∨p=4∨p=7∨p=12∨(p≠0∧p≠1∧p≠2∧p≠3∧p≠4∧p≠7∧p≠12) := by omega
  unfold L3 Ii Kp
  rcases Z with rfl | rfl | rfl | rfl | rfl | rfl | rfl | rfl | rfl | rfl | rfl | rfl | ⟨I, J, M, O, T, U, V, X, Y, l, q, u⟩
  all_goals first
    | (rcases hp with rfl | rfl | rfl | rfl | rfl | rfl | rfl | ⟨w, A, B, C, E, F, j⟩
       all_goals first | rfl | (simp[w, A, B, C, E, F, j];done))
    | (rcases hp with rfl | rfl | rfl | rfl | rfl | rfl | rfl | ⟨w, A, B, C, E, F, j⟩
       all_goals first
         | (simp[I, J, M, O, T, U, V, X, Y, l, q, u];done)
         | (simp[I, J, M, O, T, U, V, X, Y, l, q, u, w, A, B, C, E, F, j];done))
theorem sG{n:Nat}(h:n<9223372036854775808):IntKind.u64.wrap (n:Int)=(n:Int):=by
 have e:(n:Int) % (2 ^ (64:Nat):Int)=(n:Int):=za (by omega) (by omega)
 show(if(false&&((n:Int) % (2 ^ (64:Nat):Int) ≥ (2 ^ (63:Nat):Int)))=true then(n:Int) % (2 ^ (64:Nat):Int)-(2 ^ (64:Nat):Int) else(n:Int) % (2 ^ (64:Nat):Int))=_
 rw[e,ne (by simp)]
theorem sq(m:Nat)(h:m<4294967296):IntKind.i64.wrap (Eu .u64 (IntKind.u64.wrap (m:Int)) 1)=((m / 2:Nat):Int):=by
 rw[sG (by omega)]
 show IntKind.i64.wrap ((m:Int).fdiv (2 ^ (min 1 64)))=_
 rw[show((2:Int) ^ (min 1 64))=2 from rfl,Int.fdiv_eq_ediv_of_nonneg _ (by omega),show(m:Int) / 2=((m / 2:Nat):Int) by omega,dP (by omega)]
def RT(l:List AX):Prop:=∀a b:Nat,a<b→b<l.length→l[a]!.ID<l[b]!.ID
theorem Y7(n:AX) id:MJ n id=some (if n.ID<id then -1 else if id<n.ID then 1 else 0):=by
 unfold MJ
 by_cases j:n.ID<id
 ·rw[vw (vz j),vw j]
 ·rw[ne (show ¬ decide (n.ID<id)=true by simpa using j),ne j]
  by_cases l:id<n.ID
  ·rw[vw (vz l),vw l]
  ·rw[ne (show ¬ decide (id<n.ID)=true by simpa using l),ne l]
theorem gP(d:Bc) id(U:d.Nodes.length≤1048576)(E:RT d.Nodes):∃i:Nat,Ni d id=some ((i:Int),(GP d.Nodes id).isSome)∧(∀k,GP d.Nodes id=some k→i=k):=by
 obtain⟨l⟩:=d
 dsimp only at U E ⊢
 have key:∃r,iter (λ(a:Int × Int)=>Mb l id a.1 a.2) (0,(l.length:Int))=some r ∧
   ∃I:Nat,r=(I:Int)∧I≤l.length∧(∀m,m<I→l[m]!.ID<id)∧∀m,I≤m→m<l.length→¬ l[m]!.ID<id:=by
  refine FA l.length (λk O=>∃I J:Nat,O=((I:Int),(J:Int))∧I≤J∧J≤l.length∧J-I≤l.length-k∧(∀m,m<I→l[m]!.ID<id)∧∀m,J≤m→m<l.length→¬ l[m]!.ID<id) _ ?_ ?_ ⟨0,l.length,rfl,by omega,by omega,by omega,λm h=>absurd h (zT _),λm T F=>absurd F (by omega)⟩
  ·rintro k O hk ⟨I,J,rfl,T,F,V,B,u⟩
   dsimp only
   unfold Mb
   by_cases X:I<J
   ·left
    rw[vw (by rw[vx];omega),show(I:Int)+(J:Int)=((I+J:Nat):Int) by omega,By (by omega) (by omega),AD,sq _ (by omega),AZ (by omega),AD,Y7,AD]
    by_cases M:l[(I+J) / 2]!.ID<id
    ·rw[vw M,vw (by decide),Ae (by omega)]
     refine⟨_,rfl,(I+J) / 2+1,J,rfl,by omega,F,by omega,λm Y=>?_,u⟩
     by_cases e:m=(I+J) / 2
     ·rw[e];exact M
     ·have:=E m ((I+J) / 2) (by omega) (by omega);omega
    ·rw[ne M,ne (show ¬ decide ((if id<l[(I+J) / 2]!.ID then(1:Int) else 0)<0)=true by split<;>decide)]
     refine⟨_,rfl,I,(I+J) / 2,rfl,by omega,by omega,by omega,B,λm C j=>?_⟩
     by_cases e:m=(I+J) / 2
     ·rw[e];exact M
     ·have:=E ((I+J) / 2) m (by omega) j;omega
   ·right
    rw[ne (by rw[vx];omega)]
    exact⟨_,rfl,I,rfl,by omega,B,λm C j=>u m (by omega) j⟩
  ·rintro O ⟨I,J,rfl,T,F,V,B,u⟩
   dsimp only
   unfold Mb
   rw[ne (by rw[vx];omega)]
   exact⟨_,rfl,I,rfl,by omega,B,λm C j=>u m (by omega) j⟩
 obtain⟨r,Z,I,rfl,hI,B,u⟩:=key
 unfold Ni UF
 rw[Z,AD]
 have w:∀k,GP l id=some k→I=k:=by
  intro k q
  obtain⟨C,j⟩:=PP q
  have a1:¬ k<I:=λh=>by have:=B k h;omega
  by_cases e:I=k
  ·exact e
  ·have:=E I k (by omega) C
   have:=u I (wL _) (by omega)
   omega
 refine⟨I,?_,w⟩
 by_cases A:I<l.length
 ·rw[vz (show(I:Int)<(l.length:Int) by omega),show((true==true):Bool)=true from rfl,An,AZ A,AD,An,Y7,AD,CL]
  congr 2
  have h6:=u I (wL _) A
  rw[ne h6]
  cases q:GP l id with
  | some k=>
   obtain⟨C,j⟩:=PP q
   have:=w k q
   subst this
   rw[ne (by omega)];rfl
  | none=>
   have a0:l[I]!.ID≠id:=by
    intro e
    have:=List.find?_eq_none.1 q I (wi.2 A)
    exact this (vz e)
   rw[vw (by omega)];rfl
 ·rw[vy (show ¬ (I:Int)<(l.length:Int) by omega)]
  show some ((I:Int),false)=_
  cases q:GP l id with
  | some k=>
   obtain⟨C,j⟩:=PP q
   have:=w k q
   omega
  | none=>rfl
def F5(d:Bc):Prop:=d.Nodes.length≤1048576∧∀n∈d.Nodes,Lo n
theorem mD:IK=MA:=by funext f x o;rfl
theorem sj(n:AX):TO n=MA n.Flow:=by funext x o;rfl
theorem oo:S9=IA:=by funext n x o;rfl
theorem nq(n:AX)(w:List Int)(A:n.Grid.Cells.length≤1048576)(u:w.length≤1048576):∃r,iter (λ(a:Int × (List Int))=>IA n a.1 a.2) (0,w)=some r∧r.length≤2097152:=by
 refine FA n.Grid.Cells.length (λk l=>l.1=(k:Int)∧l.2.length≤1048576+k) _ ?_ ?_ ⟨rfl,by simpa using u⟩
 ·rintro k ⟨x,out⟩ q ⟨rfl,j⟩
  dsimp only at j ⊢
  left
  unfold IA
  rw[vw (by simpa using q),AZ q,AD]
  by_cases r:n.Grid.Cells[k]!.Ref=0
  ·rw[ne (CI r),AD,Ae (by omega),AD]
   exact⟨_,rfl,rfl,by dsimp only;omega⟩
  ·rw[vw (Bb r),UN (by omega),AD,AD,Ae (by omega),AD]
   exact⟨_,rfl,rfl,by dsimp only;rw[List.length_append,List.length_singleton];omega⟩
 ·rintro⟨x,out⟩ ⟨rfl,j⟩
  dsimp only at j ⊢
  unfold IA
  rw[ne (by simp)]
  exact⟨_,rfl,by omega⟩
theorem mT(n:AX)(h:Lo n):∃r,Kx n=some r∧P0 n=some r∧r.length≤2097152:=by
 have u:=h.ok.fl
 obtain⟨w,j,A⟩:=oR n.Flow (by omega)
 obtain⟨r,l,q⟩:=nq n w h.ok.gr.1 (by omega)
 refine⟨r,?_,?_,q⟩
 ·unfold Kx Pd
  rw[mD,j,AD,AD,l];rfl
 ·unfold P0
  rw[sj,oo,j,AD,l];rfl
theorem tz(d:Bc) kind(l:List Int)(w:d.Nodes.length≤1048576)(B:RT d.Nodes)(J:l.length≤2097152):∃e,Oz d kind l=some e∧Qm d kind l=some e:=by
 obtain⟨o,C,E,_⟩:=VE (ρ:=Int) (f:=λ(a:Int)=>MD d kind l a) (g:=λ(a:Int)=>N4 d kind l a) (n:=l.length) (λ_=>True) trivial (λk q _=>by
  unfold MD N4
  obtain⟨i,F,u⟩:=gP d l[k]! w B
  rw[vw (by simpa using q),vw (by simpa using q),AZ q,AD,AD,F,CL,VV _ _ w,AD]
  cases A:GP d.Nodes l[k]! with
  | none=>exact⟨some 7,rfl,rfl,λe=>by cases e⟩
  | some j=>
   obtain⟨I,M⟩:=PP A
   have:=u j A
   subst this
   dsimp only
   rw[ne (show ¬ ((!Option.isSome (some i))=true) by simp),AZ I,AD,US,AD,ne (show ¬ decide ((i:Int)<0)=true by simp),AD,SK,AD]
   cases Ii kind d.Nodes[i]!.Kind with
   | false=>exact⟨some 8,rfl,rfl,λe=>by cases e⟩
   | true=>
    rw[Ae (by omega)]
    exact⟨none,rfl,rfl,λ_=>trivial⟩) (by unfold MD;rw[ne (by simp)]) (by unfold N4;rw[ne (by simp)])
 refine⟨o.getD 0,?_,?_⟩
 ·unfold Oz;rw[C,FX]
 ·unfold Qm;rw[E,FX]
theorem il{l:List AX}(h:∀k,0<k→k<l.length→l[k-1]!.ID<l[k]!.ID):RT l:=by
 intro a b q u
 induction b with
 | zero=>omega
 | succ b w=>
  have j:=h (b+1) (by omega) u
  rw[Nat.add_sub_cancel] at j
  by_cases e:a=b
  ·rw[e];exact j
  ·have:=w (by omega) (by omega);omega
theorem Ye(d:Bc)(h:F5 d):∃e,Ed d=some e∧ME d=some e:=by
 obtain⟨F,C⟩:=h
 unfold Ed ME
 by_cases h0:d.Nodes.length=0
 ·rw[vw (by rw[vx];omega),vw (by rw[vx];omega)];exact⟨_,rfl,rfl⟩
 ·rw[ne (by rw[vx];omega),ne (by rw[vx];omega)]
  obtain⟨o,I,J,M⟩:=VE (ρ:=Int) (f:=λ(a:Int)=>Gb d a) (g:=λ(a:Int)=>MI d a) (n:=d.Nodes.length) (λk=>∀j,0<j→j<k→d.Nodes[j-1]!.ID<d.Nodes[j]!.ID) (λj _ O=>absurd O (zT _)) (λk l T=>by
   unfold Gb MI
   obtain⟨e,w,A⟩:=Vs _ (C _ (BN l))
   rw[vw (by simpa using l),vw (by simpa using l),AZ l,AD,AD,w,A,AD,AD]
   by_cases q:e=0
   ·rw[ne (CI q),ne (CI q)]
    by_cases U:k=0
    ·subst U
     rw[vz (show((0:Nat):Int)=0 from rfl),show((true==true):Bool)=true from rfl,An,show(0:Int)=((0:Nat):Int) from rfl,AZ l,AD,vy (show ¬ ((0:Nat):Int)<((0:Nat):Int) by omega)]
     by_cases B1:d.Nodes[0]!.ID=1
     ·refine⟨none,?_,?_,λ_ j E V=>by omega⟩
      ·rw[vz B1];rfl
      ·rw[vz B1];rfl
     ·refine⟨some 5,?_,?_,λe=>by cases e⟩
      ·rw[vy B1];rfl
      ·rw[vy B1];rfl
    ·have X:0<k:=by omega
     rw[vy (show ¬ ((k:Int)=0) by omega),vz (show(0:Int)<(k:Int) by omega),show((false==true):Bool)=false from rfl,EM,AD]
     show ∃o:Option Int,(AB (gd true (AN .i64 ((k:Int)-1))) λ(B:Int)=>AB (gd true (AL d.Nodes B)) λ(u:AX)=>_)=_∧(AB (gd true (AN .i64 ((k:Int)-1))) λ(u:Int)=>AB (gd true (AL d.Nodes u)) λ(Y:AX)=>_)=_∧_
     rw[An,E8 X (by omega),AD,AD,An,AZ (show k-1<d.Nodes.length by omega),AD,AD,Ae (by omega)]
     by_cases B1:d.Nodes[k]!.ID≤d.Nodes[k-1]!.ID
     ·rw[vz B1]
      exact⟨some 5,rfl,rfl,λe=>by cases e⟩
     ·rw[vy B1]
      refine⟨none,rfl,rfl,λ_ j E V=>?_⟩
      by_cases e:j=k
      ·rw[e];omega
      ·exact T j E (by omega)
   ·rw[vw (Bb q),vw (Bb q)]
    exact⟨some e,rfl,rfl,λe=>by cases e⟩) (by unfold Gb;rw[ne (by simp)]) (by unfold MI;rw[ne (by simp)])
  rw[I,J]
  cases o with
  | some e=>exact⟨e,rfl,rfl⟩
  | none=>
   have Z:=il (M rfl)
   show ∃e,(Aq (iter (λ(a:Int)=>Lx d a) 0) λ(u4:Unit)=>some 0)=some e∧(Aq (iter (λ(a:Int)=>Kn d a) 0) λ(u4:Unit)=>some 0)=some e
   obtain⟨o,w,A,_⟩:=VE (ρ:=Int) (f:=λ(a:Int)=>Lx d a) (g:=λ(a:Int)=>Kn d a) (n:=d.Nodes.length) (λ_=>True) trivial (λk l _=>by
    unfold Lx Kn
    obtain⟨r,r1,r2,r3⟩:=mT _ (C _ (BN l))
    obtain⟨e,c1,c2⟩:=tz d d.Nodes[k]!.Kind r F Z r3
    rw[vw (by simpa using l),vw (by simpa using l),AZ l,AD,AD,r1,r2,AD,AD,c1,c2,AD]
    by_cases q:e=0
    ·rw[ne (CI q),Ae (by omega)]
     exact⟨none,rfl,rfl,λ_=>trivial⟩
    ·rw[vw (Bb q)]
     exact⟨some e,rfl,rfl,λ_=>trivial⟩) (by unfold Lx;rw[ne (by simp)]) (by unfold Kn;rw[ne (by simp)])
   exact⟨o.getD 0,by rw[w,FX],by rw[A,FX]⟩
theorem tK{μ:AX→Nat}{γ:A1→Nat}{ψ:A0→Nat}{ρ:Ax→Nat}{δ:BS→Nat}{ν:AG→Nat}{κ:AC→Nat}
  (q:∀n,(n.Attrs.map κ).sum+(n.Flow.map ν).sum+γ n.Grid+(n.Draw.map δ).sum+1≤μ n) (hg:∀g,(g.Cells.map ψ).sum+(g.Merges.map ρ).sum+1≤γ g)
  (hc:∀c,c.Text.length+(c.Attrs.map κ).sum+1≤ψ c) (A:∀r,1≤ρ r) (hd:∀o,o.Place.length+o.Name.length+o.Value.length+1≤δ o) (B:∀e,(e.Attrs.map κ).sum+1≤ν e) (C:∀a,a.Name.length+a.Value.length+1≤κ a)
  {d:Bc} (E:(d.Nodes.map μ).sum≤1048576):F5 d:=by
 have u:=lP q hg (λc=>by have:=hc c;omega) A (λo=>by have:=hd o;omega) B C E
 refine⟨u.1,λn l=>⟨u.2 n l,λc j=>⟨(u.2 n l).gr.2.2 c j,?_⟩,λo w=>?_⟩⟩
 ·have F:=IL (μ:=μ) l
  have I:=q n
  have M:=hg n.Grid
  have J:=IL (μ:=ψ) j
  have:=hc c
  omega
 ·have F:=IL (μ:=μ) l
  have I:=q n
  have J:=IL (μ:=δ) w
  have:=hd o
  exact⟨by omega,by omega,by omega⟩
theorem Ng{α β:Type}{o:Option α}{f:α→Option β}{r:β}(h:AB o f=some r):∃a,o=some a∧f a=some r:=by
 cases o with
 | none=>cases h
 | some a=>exact⟨a,rfl,h⟩
theorem oX{n:AX}(h:Lo n)(j:Dz n=some 0)(A:F7 n.Kind=some true):JS n.Flow=0:=by
 have l:∀x∈n.Flow,ES x:=λx q=>⟨by have:=(h.ok.fa x q).1;omega,(h.ok.fa x q).2⟩
 have B:=h.ok.fl
 unfold Dz at j
 split at j
 ·cases j
 split at j
 ·cases j
 obtain⟨e,_,j⟩:=Ng j
 split at j
 ·rename_i c;injection j with j;rw[j] at c;simp at c
 obtain⟨E,u,j⟩:=Ng j
 rw[A] at u
 cases u
 obtain⟨C,_,j⟩:=Ng j
 obtain⟨g,_,j⟩:=Ng j
 obtain⟨F,_,j⟩:=Ng j
 split at j
 ·cases j
 rw[vw (show(true||C)=true from rfl)] at j
 obtain⟨I,w,j⟩:=Ng j
 injection j with j
 rw[Xr _ l (by omega),j] at w
 injection w
theorem SJ{d:Bc}(h:F5 d)(l:Ed d=some 0):RT d.Nodes∧∀k,k<d.Nodes.length→Dz d.Nodes[k]! = some 0:=by
 obtain⟨T,F⟩:=h
 unfold Ed at l
 split at l
 ·cases l
 let g:Nat→Option Int:=λk=>if(Dz d.Nodes[k]!).getD 0≠0 then some ((Dz d.Nodes[k]!).getD 0) else if(k=0∧d.Nodes[k]!.ID≠1)∨(0<k∧d.Nodes[k]!.ID≤d.Nodes[k-1]!.ID) then some 5 else none
 have hit:iter (λ(a:Int)=>Gb d a) 0=some (Fw ((List.range d.Nodes.length).findSome? g)):=by
  refine CP g (λk j=>?_) (by unfold Gb;rw[ne (by simp)])
  unfold Gb
  obtain⟨e,A,_⟩:=Vs _ (F _ (BN j))
  show _=Ca k (g k)
  simp only[g]
  rw[vw (by simpa using j),AZ j,AD,A,AD]
  show _=Ca k (if e≠0 then some e else _)
  by_cases u:e=0
  ·rw[ne (CI u),ne (by simpa using u)]
   by_cases B:k=0
   ·subst B
    rw[vz (show((0:Nat):Int)=0 from rfl),vy (show ¬ (0:Int)<((0:Nat):Int) by omega)]
    by_cases B1:d.Nodes[0]!.ID=1
    ·rw[vz B1,ne (show ¬ ((0=0∧d.Nodes[0]!.ID≠1)∨(0<0∧d.Nodes[0]!.ID≤d.Nodes[0-1]!.ID)) by rintro(⟨_,b⟩ | ⟨a,_⟩);exact b B1;omega)]
     rfl
    ·rw[vy B1,vw (show((0=0∧d.Nodes[0]!.ID≠1)∨(0<0∧d.Nodes[0]!.ID≤d.Nodes[0-1]!.ID)) from .inl ⟨rfl,B1⟩)]
     rfl
   ·have I:0<k:=by omega
    rw[vy (show ¬ ((k:Int)=0) by omega),vz (show(0:Int)<(k:Int) by omega)]
    show(AB (gd true (AN .i64 ((k:Int)-1))) λ(C:Int)=>AB (gd true (AL d.Nodes C)) λ(J:AX)=>_)=_
    rw[An,E8 I (by omega),AD,An,AZ (show k-1<d.Nodes.length by omega),AD,Ae (by omega)]
    by_cases B1:d.Nodes[k]!.ID≤d.Nodes[k-1]!.ID
    ·rw[vz B1,vw (show((k=0∧d.Nodes[k]!.ID≠1)∨(0<k∧d.Nodes[k]!.ID≤d.Nodes[k-1]!.ID)) from .inr ⟨I,B1⟩)]
     rfl
    ·rw[vy B1,ne (show ¬ ((k=0∧d.Nodes[k]!.ID≠1)∨(0<k∧d.Nodes[k]!.ID≤d.Nodes[k-1]!.ID)) by rintro(⟨a,_⟩ | ⟨_,b⟩);exact B a;exact B1 b)]
     rfl
  ·rw[vw (Bb u),vw u]
   rfl
 rw[hit] at l
 cases w:(List.range d.Nodes.length).findSome? g with
 | some e=>
  rw[w] at l
  have l:(some e:Option Int)=some 0:=l
  injection l with l
  obtain⟨k,_,j⟩:=xE w
  simp only[g] at j
  split at j
  ·rename_i E;injection j with j;exact absurd (j.trans l) E
  ·split at j
   ·injection j with j;omega
   ·cases j
 | none=>
  rw[wz] at w
  have j:∀k,k<d.Nodes.length→(Dz d.Nodes[k]!).getD 0=0∧¬ ((k=0∧d.Nodes[k]!.ID≠1)∨(0<k∧d.Nodes[k]!.ID≤d.Nodes[k-1]!.ID)):=by
   intro k j
   have:=w k (wi.2 j)
   simp only[g] at this
   split at this
   ·cases this
   ·rename_i M
    split at this
    ·cases this
    ·rename_i O;exact⟨by simpa using M,O⟩
  refine⟨il λk B q=>?_,λk q=>?_⟩
  ·have:=(j k q).2
   have U:¬ (0<k∧d.Nodes[k]!.ID≤d.Nodes[k-1]!.ID):=λe=>this (.inr e)
   omega
  ·obtain⟨e,A,_⟩:=Vs _ (F _ (BN q))
   have:=(j k q).1
   rw[A] at this ⊢
   exact ye some this
theorem pM{d:Bc} id(j:d.Nodes.length≤1048576)(l:RT d.Nodes):RL d id=some (match GP d.Nodes id with | some k=>(k:Int) | none=>-1):=by
 unfold RL
 obtain⟨i,q,u⟩:=gP d id j l
 rw[q,CL]
 cases w:GP d.Nodes id with
 | none=>rfl
 | some k=>rw[u k w];rfl
def dV:Cd:=Cd.mk (AX.mk 0 0 [] [] (A1.mk 0 0 [] []) []) [] []
theorem qj(d:Bc)(s:Am)(j:List UInt8)(h:F5 d)(V:j.length≤1073741824) :
  (∃e,e≠0∧MC d s j=some (dV,e)∧Nn d s=some e) ∨
  (∃k,k<d.Nodes.length∧GP d.Nodes s.Node=some k∧d.Nodes[k]!.ID=s.Node∧Lo d.Nodes[k]!∧F7 d.Nodes[k]!.Kind=some true∧JS d.Nodes[k]!.Flow=0∧0≤s.From∧s.From≤s.To∧s.To<((shown d.Nodes[k]!.Flow 0 d.Nodes[k]!.Flow.length).length:Int) ∧
   Ed d=some 0∧Nn d s=some 0∧MC d s j=some (if j≠[]∧Dt j=false then(dV,23) else(Cd.mk d.Nodes[k]! (shown d.Nodes[k]!.Flow 0 d.Nodes[k]!.Flow.length) j,0))):=by
 obtain⟨e,J,O⟩:=Ye d h
 have M:=h.1
 unfold MC Nn
 rw[J,O,AD,AD]
 by_cases E:e=0
 ·subst E
  obtain⟨T,w⟩:=SJ h J
  rw[ne (by decide),ne (by decide),pM s.Node M T,VV d s.Node M,AD,AD]
  cases U:GP d.Nodes s.Node with
  | none=>exact .inl ⟨7,by decide,rfl,rfl⟩
  | some k=>
   obtain⟨F,B1⟩:=PP U
   dsimp only
   have A:=h.2 _ (BN F)
   have B:∀x∈d.Nodes[k]!.Flow,ES x:=λx u=>⟨by have:=(A.ok.fa x u).1;omega,(A.ok.fa x u).2⟩
   have C:=A.ok.fl
   rw[ne (by simp),ne (by simp),AZ F,AD,AD,cU]
   obtain⟨t,I⟩:∃t,F7 d.Nodes[k]!.Kind=some t:=⟨_,rfl⟩
   rw[I,AD,AD]
   cases t with
   | false=>exact .inl ⟨8,by decide,rfl,rfl⟩
   | true=>
    have l:=oX A (w k F) I
    have hp:FR d.Nodes[k]!.Flow=0:=by
     unfold JS at l
     split at l
     ·rename_i u;exact absurd l u
     ·rename_i u;simpa using u
    rw[ne (by decide),ne (by decide),pZ _ 0 B C,ij _ 0 B hp C,AD,AD]
    by_cases X:s.From<0∨s.To<s.From∨((shown d.Nodes[k]!.Flow 0 d.Nodes[k]!.Flow.length).length:Int)≤s.To
    ·refine .inl ⟨2,by decide,?_,?_⟩
     ·rw[vw (by simp only[wD,vx];omega)];rfl
     ·rw[vw (by simp only[wD,vx];omega)]
    ·refine .inr ⟨k,F,rfl,B1,A,I,l,by omega,by omega,by omega,rfl,?_,?_⟩
     ·rw[ne (by simp only[wD,vx];omega)]
     ·rw[ne (by simp only[wD,vx];omega)]
      by_cases q:j=[]
      ·subst q
       rw[ne (show ¬ (([]:List UInt8)≠[]∧Dt []=false) by simp)]
       rfl
      ·rw[vy q]
       show(AB (gd true (Jj j)) λ(Y:Bool)=>_)=_
       rw[An,WZ _ (by omega),AD]
       cases Z:Dt j with
       | false=>rw[vw (show j≠[]∧false=false from⟨q,rfl⟩)];rfl
       | true=>rw[ne (show ¬ (j≠[]∧true=false) by simp)];rfl
 ·rw[vw (Bb E),vw (Bb E)]
  exact .inl ⟨e,E,rfl,rfl⟩
def EB(s:AI):Int:=if(s.Kind=1∧s.Elems=[]∧Cy s=11)∨(s.Kind≠1∧s.N=0∧Cy s=2) then Ao s.Attrs true else Cy s
def XL(s:AI):Prop:=(s.Kind=0∧s.Elems=[]∧0≤s.N∧s.N≤2147483647∧Ao s.Attrs true=0)∨(s.Kind=2∧s.Elems=[]∧s.Attrs=[]∧0≤s.N∧s.N≤2147483647) ∨
  (s.Kind=1∧s.N=0∧s.Attrs=[]∧FR s.Elems=0)
theorem dR{s:AI}(h:EB s=0):XL s:=by
 unfold EB at h
 split at h
 ·rename_i C
  rcases C with ⟨q,A,j⟩ | ⟨q,A,j⟩
  ·unfold Cy at j
   rw[vw q] at j
   by_cases l:s.N≠0∨s.Attrs≠[]
   ·rw[vw l] at j;cases j
   ·refine .inr (.inr ⟨q,wX λh=>l (.inl h),wX λh=>l (.inr h),by rw[A];rfl⟩)
  ·unfold Cy at j
   rw[ne q] at j
   by_cases u:s.Kind=0∨s.Kind=2
   ·rw[vw u] at j
    by_cases l:s.Elems≠[]∨(s.Kind=2∧s.Attrs≠[])
    ·rw[vw l] at j;cases j
    ·have B:s.Elems=[]:=wX λh=>l (.inl h)
     rcases u with k | k
     ·exact .inl ⟨k,B,by omega,by omega,h⟩
     ·exact .inr (.inl ⟨k,B,wX λh=>l (.inr ⟨k,h⟩),by omega,by omega⟩)
   ·rw[ne u] at j;cases j
 ·rcases (Qj h).kind with ⟨k,e,E,w,a⟩ | ⟨k,e,a,E,w⟩ | ⟨k,n,a,_,p⟩
  ·exact .inl ⟨k,e,by omega,w,a⟩
  ·exact .inr (.inl ⟨k,e,a,by omega,w⟩)
  ·exact .inr (.inr ⟨k,n,a,p⟩)
theorem bA{s:AI}(h:XL s)(q:Gn s):∀u∈BO s,Di u:=by
 intro u l
 unfold BO at l
 rcases h with ⟨k,e,E,F,w⟩ | ⟨k,e,w,E,F⟩ | ⟨k,n,_,p⟩
 ·rw[ne (by omega),vy (by omega)] at l
  have:=xY l
  subst this
  exact⟨λ_=>w,q.at_⟩
 ·rw[ne (by omega),vz k] at l
  have:=xY l
  subst this
  exact⟨λh=>(by cases h),q.at_⟩
 ·rw[vw k] at l
  obtain⟨e,A,rfl⟩:=xd.1 l
  obtain⟨j,B,rfl⟩:=xD.1 A
  have C:=OZ p B
  rw[wF s.Elems j B] at C
  exact⟨C,q.ea _ A⟩
theorem gO{s:AI}(h:XL s):(Av (BO s):Int)=s.N∧BR (BO s)=s.Elems.length∧0≤s.N∧s.N≤2147483647:=by
 have A:∀l:List AG,Av (l.map Un.a)=0∧BR (l.map Un.a)=l.length:=by
  intro l
  induction l with
  | nil=>exact⟨rfl,rfl⟩
  | cons x l j=>unfold Av BR at j ⊢;rw[wP,xT,xT,j.1,j.2];exact⟨rfl,rfl⟩
 have q:∀(n:Nat) (c:Bool) (t:List AC),Av (List.replicate n (Un.r c t))=n∧BR (List.replicate n (Un.r c t))=0:=by
  intro n c t
  induction n with
  | zero=>exact⟨rfl,rfl⟩
  | succ n j=>unfold Av BR at j ⊢;rw[wc,xT,xT,j.1,j.2];exact⟨rfl,rfl⟩
 unfold BO
 rcases h with ⟨k,e,u,w,B⟩ | ⟨k,e,B,u,w⟩ | ⟨k,n,_,p⟩
 ·rw[ne (by omega),(q _ _ _).1,(q _ _ _).2,e];refine⟨by omega,rfl,u,w⟩
 ·rw[ne (by omega),(q _ _ _).1,(q _ _ _).2,e];refine⟨by omega,rfl,u,w⟩
 ·rw[vw k,(A _).1,(A _).2,n];exact⟨rfl,rfl,by decide,by decide⟩
def Ld:List AI→List Un→List AI × Int
 | [],X=>if CY (BT X)≠0 then([],3) else(BT X,0)
 | s::d,X=>if EB s≠0 then([],EB s) else if s.Kind=2∧2147483647<((Ay X).cuts:Int)+s.N then([],3) else Ld d (X++BO s)
def Kj:List AI→List Un→As Ah (List AI × Int)
 | [],X=>.nrm (Co (Ay X))
 | s::d,X=>if EB s≠0 then .ext ([],EB s) else if s.Kind=2∧2147483647<((Ay X).cuts:Int)+s.N then .ext ([],3) else Kj d (X++BO s)
theorem hO(s:AI) d X:Kj (s::d) X=if EB s≠0 then .ext ([],EB s) else if s.Kind=2∧2147483647<((Ay X).cuts:Int)+s.N then .ext ([],3) else Kj d (X++BO s):=rfl
theorem SV(s:AI) d X:Ld (s::d) X=if EB s≠0 then([],EB s) else if s.Kind=2∧2147483647<((Ay X).cuts:Int)+s.N then([],3) else Ld d (X++BO s):=rfl
structure IT(d:List AI)(k:Nat)(X:List Un):Prop where
 ok:∀u∈X,Di u
 out:(Ay X).out.length≤3 * k
 cut:(Ay X).cuts≤2147483647
 rows:Av X≤2147483647 * k
 adds:BR X+((d.drop k).map λs=>s.Elems.length).sum=(d.map λs=>s.Elems.length).sum
theorem R0(s:DS):(BP s).length≤s.out.length+2:=by
 unfold BP
 split<;>split<;>simp
theorem Xf(l:List AI) t n:(DX l t n).length≤l.length+1:=by
 unfold DX
 split<;>simp
theorem cS a b:BR (a++b)=BR a+BR b:=List.countP_append
theorem qy{X}(h:∀u∈X,Di u):(Ay X).adds.length≤BR X:=(KR h).al
theorem gQ(s:AI)(e:Int):((((s.Kind=1)&&((s.Elems.length:Int)=0))&&(e=11))||(((!(s.Kind=1))&&(s.N=0))&&(e=2)))=true ↔
  ((s.Kind=1∧s.Elems=[]∧e=11)∨(s.Kind≠1∧s.N=0∧e=2)):=by
 rw[YB]
 simp only[wD,v7,wy,vx,xc,ne_eq,and_assoc]
theorem mG(d:List AI)(ho:FS d)(U:Gu d):iter (λ(a:Int × Ah)=>Fk d a.1 a.2) (0,(Ah.mk [] [] 0))=some (Kj d []):=by
 have hm:=U.len
 have a0:=U.sum
 refine kj d (λX k=>((k:Int),Co (Ay X))) Kj (IT d) ?_ ?_ [] ⟨by simp,by simp[Ay,D0],by simp[Ay,D0],by simp[Av],by simp[BR]⟩ _ rfl
 ·rintro k X B A
  have j:=ho.st _ (BN B)
  have I:=A.ok
  have h2:=A.out
  have h3:=A.cut
  have h4:=A.rows
  have V:=A.adds
  have h6:=qy I
  have h7:=U.at_ _ (BN B)
  rw[Hr B,wP,xJ] at V
  show(∃w,Fk d (k:Int) _=_∧_)∨Fk d (k:Int) _=_
  unfold Fk
  rw[vw (by simpa using B),AZ B,AD,V6 _ j,AD]
  rw[hO]
  generalize d[k]! = s at j V h7
  have C:(if((((s.Kind=1)&&((s.Elems.length:Int)=0))&&(Cy s=11))||(((!(s.Kind=1))&&(s.N=0))&&(Cy s=2))) then(AB (Lh s.Attrs) λ(e3:Int)=>some e3) else(some (Cy s)))=some (EB s):=by
   unfold EB
   by_cases J:((s.Kind=1∧s.Elems=[]∧Cy s=11)∨(s.Kind≠1∧s.N=0∧Cy s=2))
   ·rw[vw ((gQ s _).2 J),vw J,gR _ j.at_.2 (by have:=j.at_.1;omega),AD]
   ·rw[ne (λh=>J ((gQ s _).1 h)),ne J]
  rw[C,AD]
  by_cases E:EB s=0
  ·have Y:=dR E
   have hU:=bA Y j
   obtain⟨c1,c2,M,c4⟩:=gO Y
   rw[ne (CI E),ne (show ¬ (EB s≠0) by simpa using E)]
   have l:∀w,w=X++BO s→(Ay w).out.length≤(Ay X).out.length+3→(Ay w).cuts≤2147483647→IT d (k+1) w:=by
    rintro w rfl h8 h9
    refine⟨λu Z=>?_,by omega,h9,?_,?_⟩
    ·rcases wm.1 Z with h | h
     ·exact I u h
     ·exact hU u h
    ·rw[Gq];omega
    ·rw[cS,c2,← V];omega
   have hX:∀u∈X++BO s,Di u:=λu Z=>by
    rcases wm.1 Z with h | h
    ·exact I u h
    ·exact hU u h
   have q:BO s=if s.Kind=1 then s.Elems.map Un.a else List.replicate s.N.toNat (.r (decide (s.Kind=2)) s.Attrs):=rfl
   by_cases O:s.Kind=0
   ·rw[vw (by rw[vx];exact O),ne (show ¬ (s.Kind=2∧2147483647<((Ay X).cuts:Int)+s.N) by rintro⟨h,_⟩;omega)]
    rw[ne (by omega),vy (by omega)] at q
    rw[gK (KR I) (by omega) (by omega) s.N s.Attrs M (by omega) (by omega),AD,IC,Ae (by omega),AD,Kr _ _ _ M,← q]
    refine .inl ⟨_,rfl,l _ rfl ?_ ?_,rfl⟩
    ·rw[q,← Kr _ _ _ M];unfold EX
     have:=R0 (Ay X)
     have:=Xf (BP (Ay X)) s.Attrs s.N
     split
     ·omega
     ·dsimp only;omega
    ·rw[q,← Kr _ _ _ M];unfold EX
     split
     ·exact h3
     ·simp
   ·by_cases F:s.Kind=1
    ·rw[ne (by rw[vx];exact O),vw (by rw[vx];exact F),ne (show ¬ (s.Kind=2∧2147483647<((Ay X).cuts:Int)+s.N) by rintro⟨h,_⟩;omega)]
     rw[vw F] at q
     rw[aW _ _ (by have:=j.el;omega) j.ea (by omega),AD,IC,Ae (by omega),AD,NB,← q]
     refine .inl ⟨_,rfl,l _ rfl ?_ ?_,rfl⟩
     ·rw[q,← NB];dsimp only;omega
     ·rw[q,← NB];exact h3
    ·have k2:s.Kind=2:=by
      rcases Y with h | h | h
      ·exact absurd h.1 O
      ·exact h.1
      ·exact absurd h.1 F
     rw[ne (by rw[vx];exact O),ne (by rw[vx];exact F)]
     rw[ne F,vz k2] at q
     show(∃w,Aq (AB (AN .i64 (((Ay X).cuts:Int)+s.N)) _) _=_∧_)∨Aq (AB (AN .i64 (((Ay X).cuts:Int)+s.N)) _) _=_
     rw[By (by omega) (by omega),AD]
     by_cases T:2147483647<((Ay X).cuts:Int)+s.N
     ·rw[vw (by rw[vx];exact T),vw ⟨k2,T⟩];exact .inr rfl
     ·rw[ne (by rw[vx];exact T),ne (λh=>T h.2),IC,Ae (by omega),AD]
      have e:=UI X s.N.toNat s.Attrs
      rw[← q] at e
      refine .inl ⟨_,?_,l _ rfl ?_ ?_,rfl⟩
      ·rw[← e]
       unfold Co
       dsimp only
       rw[show(((Ay X).cuts+s.N.toNat:Nat):Int)=((Ay X).cuts:Int)+s.N by omega]
      ·rw[← e];dsimp only;omega
      ·rw[← e];dsimp only;omega
  ·rw[vw (Bb E),vw E];exact .inr rfl
 ·rintro X A
  show Fk d (d.length:Int) _=_
  unfold Fk
  rw[ne (by simp)];rfl
theorem qW(d:List AI)(Z:FS d)(O:Gu d):∀(e:List AI) (k:Nat) (X:List Un),k+e.length=d.length→d.drop k=e→IT d k X →
  (Aq (some (Kj e X)) λ(w4:Ah)=>FG (Ib w4) λ(r1:List AI) (r2:Int) (_:Ah)=>some (r1,r2))=some (Ld e X):=by
 have hm:=O.len
 have T:=O.sum
 intro e
 induction e with
 | nil=>
  intro k X E _ j
  have h2:=j.out
  have F:=j.adds
  simp only[yJ] at E
  unfold Kj Ld
  rw[IC,Q8 j.ok (by omega) (by omega)]
  split<;>rfl
 | cons s e ih=>
  intro k X E hd j
  simp only[wK] at E
  have l:k<d.length:=by omega
  rw[Hr l] at hd
  injection hd with w I
  rw[hO,SV]
  by_cases A:EB s=0
  ·rw[ne (show ¬ (EB s≠0) by simpa using A),ne (show ¬ (EB s≠0) by simpa using A)]
   by_cases B:s.Kind=2∧2147483647<((Ay X).cuts:Int)+s.N
   ·rw[vw B,vw B];rfl
   ·rw[ne B,ne B]
    refine ih (k+1) _ (by omega) I ?_
    have C:=Z.st _ (BN l)
    rw[w] at C
    have U:=dR A
    have hU:=bA U C
    obtain⟨c1,c2,c3,c4⟩:=gO U
    have h1:=j.ok
    have h2:=j.out
    have V:=j.cut
    have h4:=j.rows
    have F:=j.adds
    rw[Hr l,wP,xJ,w] at F
    have q:BO s=if s.Kind=1 then s.Elems.map Un.a else List.replicate s.N.toNat (.r (decide (s.Kind=2)) s.Attrs):=rfl
    have J:(Ay (X++BO s)).out.length≤(Ay X).out.length+3∧(Ay (X++BO s)).cuts≤2147483647:=by
     by_cases Y:s.Kind=1
     ·rw[vw Y] at q
      rw[q,← NB];exact⟨by dsimp only;omega,V⟩
     ·rw[ne Y] at q
      by_cases M:s.Kind=2
      ·rw[vz M] at q
       rw[q,← UI]
       have:¬ 2147483647<((Ay X).cuts:Int)+s.N:=λh=>B ⟨M,h⟩
       refine⟨by dsimp only;omega,by dsimp only;omega⟩
      ·rw[vy M] at q
       rw[q,← Kr _ _ _ c3];unfold EX
       have:=R0 (Ay X)
       have:=Xf (BP (Ay X)) s.Attrs s.N
       split
       ·exact⟨by omega,V⟩
       ·exact⟨by dsimp only;omega,by simp⟩
    refine⟨λu hu=>?_,by omega,J.2,?_,?_⟩
    ·rcases wm.1 hu with h | h
     ·exact h1 u h
     ·exact hU u h
    ·rw[Gq];omega
    ·rw[cS,c2,← F];omega
  ·rw[vw A,vw A];rfl
theorem pf d:IT d 0 []:=⟨by simp,by simp[Ay,D0],by simp[Ay,D0],by simp[Av],by simp[BR]⟩
theorem kK(d:List AI)(j:FS d)(l:Gu d):IZ d=some (Ld d []):=by
 unfold IZ
 rw[mG d j l]
 exact qW d j l d 0 [] (by simp) rfl (pf d)
theorem mZ(us:List Un):BR us+Av us=us.length:=by
 induction us with
 | nil=>rfl
 | cons u us q=>
  have j:BR (u::us)=(if u.isR then 0 else 1)+BR us:=by unfold BR;rw[xT];cases u.isR<;>simp<;>omega
  have l:Av (u::us)=(if u.isR then 1 else 0)+Av us:=by unfold Av;rw[xT];omega
  rw[j,l,wK]
  cases u.isR<;>simp<;>omega
theorem NG a b:Aj (a++b)=Aj a++Aj b:=by simp[Aj]
theorem eO(n:Int) t:BO ⟨0,n,t,[]⟩=List.replicate n.toNat (.r false t):=rfl
theorem lL(n:Int):BO ⟨2,n,[],[]⟩=List.replicate n.toNat (.r true []):=rfl
theorem Vh{l:List AI} t(u:∀x∈l,0≤x.N):Aj (Hc l t)=Aj l++[.r false t]∧∀x∈Hc l t,0≤x.N:=by
 have j:Aj (l++[⟨0,1,t,[]⟩])=Aj l++[.r false t]∧∀x∈l++[(⟨0,1,t,[]⟩:AI)],0≤x.N:=by
  refine⟨by rw[NG];rfl,λx w=>?_⟩
  rcases wm.1 w with h | h
  ·exact u x h
  ·have:x=⟨0,1,t,[]⟩:=by simpa using h
   subst this;show(0:Int)≤1;decide
 unfold Hc
 split
 ·rename_i h
  obtain⟨B,q,A⟩:=h
  obtain⟨p,s,rfl⟩:∃p s,l=p++[s]:=⟨l.take (l.length-1),l[l.length-1]!,by
   rw[← Iv (by omega),show l.length-1+1=l.length by omega,yC]⟩
  have e:(p++[s]).length-1=p.length:=by simp
  rw[e,Pj] at q A ⊢
  rw[zN _ _ (by omega),Nat.sub_self,yy]
  have C:=u s (by simp)
  refine⟨?_,λx w=>?_⟩
  ·rw[NG,NG,wJ]
   congr 1
   show BO _++[]=(BO s++[])++_
   rw[wS,wS]
   unfold BO
   rw[ne (by rw[q];decide),ne (by rw[q];decide),q,A]
   dsimp only
   rw[show(s.N+1).toNat=s.N.toNat+1 by omega,yr]
   rfl
  ·rcases wm.1 w with h | h
   ·exact u x (yE _ h)
   ·have:x=⟨s.Kind,s.N+1,s.Attrs,s.Elems⟩:=by simpa using h
    subst this
    show 0≤s.N+1
    omega
 ·exact j
theorem fT{s:DS}(h:s.adds=[]):Aj (BP s)=Aj s.out++List.replicate s.cuts (.r true []):=by
 unfold BP
 rw[h,ne (by simp),NG]
 congr 1
 split
 ·show BO _++[]=_
  rw[wS,lL];rfl
 ·rw[show s.cuts=0 by omega];rfl
theorem YN:∀(us:List Un) (s:DS),s.adds=[]→(∀x∈s.out,0≤x.N)→(∀u∈us,JG u)→Aj (BP (us.foldl dU s))=Aj (BP s)++us
 | [],_,_,_,_=>by simp
 | .a e::us,s,_,_,j=>(j (.a e) (v8 ..)).elim
 | .r true t::us,s,l,q,j=>by
  have B:=(j _ (v8 ..)).2.1 rfl
  subst B
  rw[wh,YN us _ (by exact l) (by exact q) λv w=>j v (wC _ w),fT l]
  show Aj (BP ⟨s.out,s.adds,s.cuts+1⟩)++us=_
  rw[fT (by exact l)]
  dsimp only
  rw[yr,wJ,wJ,wJ]
  rfl
 | .r false t::us,s,l,q,j=>by
  have C:∀x∈BP s,0≤x.N:=by
   intro x A
   unfold BP at A
   rw[l,ne (by simp)] at A
   rcases wm.1 A with h | h
   ·exact q x h
   ·split at h
    ·have:x=⟨2,s.cuts,[],[]⟩:=by simpa using h
     subst this
     show(0:Int)≤s.cuts
     omega
    ·simp at h
  obtain⟨E,F⟩:=Vh t C
  rw[wh,YN us _ rfl (by exact F) λv w=>j v (wC _ w)]
  show Aj (BP ⟨Hc (BP s) t,[],0⟩)++us=_
  rw[SQ,E,wJ]
  rfl
theorem km{us}(h:∀u∈us,JG u):Aj (BT us)=us:=by
 have:=YN us ⟨[],[],0⟩ rfl (by simp) h
 exact this
theorem kN{a}(l:Ao a false=0):GR a []=a:=by
 obtain⟨j,q,v1⟩:=EL l
 obtain⟨u,w⟩:=QD Ts Rq j (List.Pairwise.nil) q (λ_ h=>by cases h)
 exact RG u j λn=>by show Au (Bs FV a [] []) n=_;rw[w];rfl
theorem jT{x:AG}(h:Ao x.Attrs false=0):C1 [] x=x:=by unfold C1;rw[kN h]
def BI(f:List AG):List Nat:=(List.range f.length).filter (DI f 0)
theorem YE(f:List AG):shown f 0 f.length=(BI f).map λ(i:Nat)=>(i:Int):=rfl
theorem HW{f:List AG}{k}(j:k<(BI f).length):(BI f)[k]!<f.length:=by
 rw[wF _ k j]
 exact wi.1 (yj.1 (xw j)).1
theorem rn f:(BI f).Pairwise (· < ·):=List.Pairwise.filter _ List.pairwise_lt_range
theorem sr{f}{j k}(q:j<(BI f).length)(u:k<(BI f).length)(h:(BI f)[j]! = (BI f)[k]!):j=k:=by
 rw[wF _ j q,wF _ k u] at h
 have w:=List.pairwise_iff_getElem.1 (rn f)
 rcases Nat.lt_trichotomy j k with l | l | l
 ·have:=w j k q u l;omega
 ·exact l
 ·have:=w k j u q l;omega
theorem JN(f:List AG):(BI f).length≤f.length:=by
 unfold BI
 exact xF (yo _ _) (by simp)
theorem Lb{f:List AG}{k}(j:k<(BI f).length):AL (shown f 0 f.length) (k:Int)=some (((BI f)[k]!:Nat):Int):=by
 rw[YE,AZ (by simpa using j),wF ((BI f).map λ(i:Nat)=>(i:Int)) k (by simpa using j),wF _ k j,yt]
def Yj(n f t:Int):Prop:=n<0∨2147483647<n∨f<0∨t<f∨n<t
instance (n f t:Int):Decidable (Yj n f t):=by unfold Yj;infer_instance
theorem nR{n:Nat}(h:n≤4294967296){z:Bool} : mk 1 (n:Int) z=some (List.replicate n z):=by
 unfold mk
 rw[vw (by omega),xK]
def fS(s:List (List UInt8))(v:List UInt8)(k:Nat):Option Int:=if v=s[k]! then some (k:Int) else none
theorem sP(s:List (List UInt8)) v(w:s.length≤1000):QB s v=some (decide (v∈s)):=by
 have u:=CP (f:=λ(a:Int)=>Ms s v a) (n:=s.length) (fS s v) (λk j=>by
  unfold Ms fS
  rw[vw (by simpa using j),AZ j,AD]
  by_cases e:v=s[k]!
  ·rw[vw (by simpa using e),vw e];rfl
  ·rw[ne (by simpa using e),ne e,Ae (by omega)];rfl) (by unfold Ms;rw[ne (by simp)])
 unfold QB UM
 rw[u]
 cases l:(List.range s.length).findSome? (fS s v) with
 | none=>
  rw[wz] at l
  have:v ∉ s:=λq=>by
   obtain⟨k,j,e⟩:=xD.1 q
   have:=l k (wi.2 j)
   unfold fS at this
   rw[wF s k j,vw e.symm] at this
   cases this
  rw[vy this];rfl
 | some r=>
  obtain⟨k,j,e⟩:=xE l
  unfold fS at e
  split at e
  ·rename_i q
   cases e
   have:v∈s:=by rw[q];exact BN (wi.1 j)
   rw[vz this]
   show some (decide (0≤(k:Int)))=_
   rw[vz (yi k)]
  ·cases e
def fU:List (List UInt8):=[[98,111,108,100],[105,116,97,108,105,99],[117,110,100,101,114],[115,116,114,105,107,101],[102,105,120,101,100],[114,97,105,115,101],[115,105,122,101],[99,111,108,111,117,114],[108,97,110,103],[115,116,121,108,101]]
def KO(n:List UInt8):Bool:=decide (n∈fU)
theorem lK n:PG n=some (KO n):=by
 unfold PG
 rw[sP _ _ (by decide)];rfl
theorem l9 n:PM n=some (KO n):=by
 unfold PM KO fU
 simp only[wM,zh,or_false]
 by_cases j:n=[98,111,108,100]
 ·subst j;rfl
 by_cases l:n=[105,116,97,108,105,99]
 ·subst l;rfl
 by_cases q:n=[117,110,100,101,114]
 ·subst q;rfl
 by_cases u:n=[115,116,114,105,107,101]
 ·subst u;rfl
 by_cases w:n=[102,105,120,101,100]
 ·subst w;rfl
 by_cases A:n=[114,97,105,115,101]
 ·subst A;rfl
 by_cases B:n=[115,105,122,101]
 ·subst B;rfl
 by_cases C:n=[99,111,108,111,117,114]
 ·subst C;rfl
 by_cases E:n=[108,97,110,103]
 ·subst E;rfl
 rw[ne (by simpa using j),ne (by simpa using l),ne (by simpa using q),ne (by simpa using u),ne (by simpa using w),ne (by simpa using A),ne (by simpa using B),ne (by simpa using C),ne (by simpa using E),AD]
 simp only[j,l,q,u,w,A,B,C,E,false_or]
 cases decide (n=[115,116,121,108,101])<;>rfl
def Mh:List UInt8:=[114,101,109,97,114,107,46]
def Tv:List UInt8:=[109,97,114,107,46]
def shr(n:List UInt8):Bool:=(((n=[108,105,110,107])||(n=[108,111,99,107]))||((7<(n.length:Int))&&(n.take 7=Mh)))||((5<(n.length:Int))&&(n.take 5=Tv))
theorem nT(n:List UInt8):Qq n=some (shr n):=by
 unfold Qq shr
 cases hA:((n=[108,105,110,107])||(n=[108,111,99,107])) with
 | true=>rfl
 | false=>
  by_cases l:(7:Int)<n.length
  ·rw[vz l]
   show(AB (CS n 0 7) λw=>_)=_
   rw[Rd n 7 (by omega) (by omega),AD]
   have u:(7:Int).toNat=7:=rfl
   rw[u]
   show(AB (gd ((((false||(true&&(n.take 7=Mh)))==false))&&(decide (5<(n.length:Int))==true)) (CS n 0 5)) λj=>some ((false||(true&&(n.take 7=Mh)))||((5<(n.length:Int))&&(j=Tv))))=_
   cases hB:decide (n.take 7=Mh) with
   | true=>rfl
   | false=>
    rw[vz (show(5:Int)<n.length by omega)]
    show(AB (CS n 0 5) λj=>_)=_
    rw[Rd n 5 (by omega) (by omega),AD]
    rfl
  ·rw[vy l]
   show(AB (gd (decide (5<(n.length:Int))==true) (CS n 0 5)) λj=>some (false||((5<(n.length:Int))&&(j=Tv))))=_
   by_cases q:(5:Int)<n.length
   ·rw[vz q]
    show(AB (CS n 0 5) λj=>_)=_
    rw[Rd n 5 (by omega) (by omega),AD]
    rfl
   ·rw[vy q];rfl
theorem eA(n w:List UInt8):NO n w=some (((w.length:Int)<(n.length:Int))&&(n.take w.length=w)):=by
 unfold NO
 by_cases h:(w.length:Int)<(n.length:Int)
 ·rw[vz h]
  show(AB (CS n 0 (w.length:Int)) λj=>_)=_
  rw[Rd n w.length (by omega) (by omega),AD]
  rfl
 ·rw[vy h];rfl
theorem qX(n:List UInt8):O9 n=some (shr n):=by
 unfold O9 shr
 rw[eA,eA]
 cases hA:((n=[108,105,110,107])||(n=[108,111,99,107])) with
 | true=>rfl
 | false=>
  show(AB (some (((7:Int)<(n.length:Int))&&(n.take 7=Mh))) λj=>AB (gd ((false||j)==false) (some (((5:Int)<(n.length:Int))&&(n.take 5=Tv)))) λl=>some ((false||j)||l))=_
  rw[AD]
  cases (((7:Int)<(n.length:Int))&&(n.take 7=Mh))<;>rfl
theorem Ky{α β ρ σ:Type}[Inhabited α]{f}(l:List α)(mk:Nat→β→σ)(j:β→α→β)(u:β→ρ)(I:β→Nat→Prop)(A:∀b k, k<l.length→I b k→I (j b l[k]!) (k+1))
 (B:∀b (k:Nat), k<l.length→I b k→f (mk k b)=some (.inl (mk (k+1) (j b l[k]!)))) (C:∀b, I b l.length→f (mk l.length b)=some (.inr (u b))) (b0:β) (E:I b0 0):iter f (mk 0 b0)=some (u (l.foldl j b0)) := by
  have key:∀(m k:Nat) (b:β), k+m=l.length→I b k→iter f (mk k b)=some (u ((l.drop k).foldl j b)) := by
    intro m
    induction m with
    | zero =>
      intro k b F w
      have:k=l.length := by omega
      subst this
      rw[Ch (C b w)];simp
    | succ m J =>
      intro k b F w
      have q:k<l.length := by omega
      rw[DP (B b k q w), J (k+1) _ (by omega) (A b k q w), xq q, wh, wF l k q]
  have := key l.length 0 b0 (by omega) E
  simpa using this
theorem uG{o}{a:AC}(h:∀e∈o,A4 e.Name a.Name=true):Cw o a=o++[a]:=by
 induction o with
 | nil=>rfl
 | cons x o l=>
  have j:=h x (v8 ..)
  rw[Cw,ne (Ne.symm (FC j)),vw j,l λe q=>h e (wC _ q)]
  rfl
def EU(p:AC→Bool)(o:List AC)(x:AC):List AC:=if p x then Cw o x else o
def Q5(p:AC→Bool)(o:List AC)(x:AC):List AC:=if p x then o++[x] else o
theorem fP p:∀(l o:List AC),l.foldl (Q5 p) o=o++l.filter p
 | [],o=>by simp
 | x::l,o=>by
  rw[wh,fP p l,List.filter_cons]
  unfold Q5
  cases p x<;>simp
theorem Vu p:∀(l o:List AC),Bg l→(∀e∈o,∀x∈l,A4 e.Name x.Name=true)→l.foldl (EU p) o=o++l.filter p
 | [],o,_,_=>by simp
 | x::l,o,A,u=>by
  have w:=EN.1 A
  rw[wh,List.filter_cons]
  cases hp:p x with
  | false=>
   rw[show EU p o x=o by unfold EU;rw[hp];rfl,ne (by decide)]
   exact Vu p l o w.2 λe j y q=>u e j y (wC _ q)
  | true=>
   rw[show EU p o x=o++[x] by unfold EU;rw[hp,vw rfl,uG λe j=>u e j x (v8 ..)],vw rfl]
   rw[Vu p l _ w.2 λe j y q=>by
    rcases wm.1 j with j | j
    ·exact u e j y (wC _ q)
    ·rw[wq] at j;subst j;exact w.1 y q]
   simp
theorem mb{l:List AC}{ch} p(h:Ao l ch=0):Ao (l.filter p) ch=0:=by
 obtain⟨j,q⟩:=(FU l ch).1 h
 exact(FU _ _).2 ⟨j.filter _,λe u=>q e (yj.1 u).1⟩
theorem WI{l}{ch}{a}(h:Ao l ch=0)(q:VA ch a):Ao (Cw l a) ch=0:=by
 obtain⟨u,w⟩:=(FU l ch).1 h
 exact(FU _ _).2 ⟨Pi a u,λe j=>by rcases Yh j with rfl | j;exact q;exact w e j⟩
theorem tp{a}(l:VA false a):Ao [a] true=0:=(FU _ _).2 ⟨by simp[Bg],λe j=>by rw[wq] at j;subst j;exact l.up⟩
theorem va{a:AC}(h:Ao [a] false=0):a.Value≠[]:=(EL h).2.2 rfl a (wq.2 rfl)
theorem uQ{l}{a:AC}(h:Ao l false=0)(q:VA false a):GR l [a]=Cw l a:=by
 have u:=tp q
 have A:a.Value≠[]:=va ((FU _ _).2 ⟨by simp[Bg],λe w=>by rw[wq] at w;subst w;exact q⟩)
 obtain⟨B,C⟩:=QD Ts Rq (EL h).1 (EL u).1 (EL h).2.1 (EL u).2.1
 refine RG B (Pi a (EL h).1) λn=>?_
 rw[show Au (GR l [a]) n=G0 (Au l n) (Au [a] n) from C n,R2]
 by_cases j:a.Name=n
 ·rw[vw j]
  unfold Au
  rw[vw j]
  unfold G0
  simp[A]
 ·rw[ne j]
  rw[show Au [a] n=none by unfold Au;rw[ne j];rfl]
  rfl
def Dx(l r:AG):AG:=if l.Char=10 then r else l
def GH(l r:AG):List AC:=if(Dx l r).Char=10 then [] else(Dx l r).Attrs.filter λa=>KO a.Name
def No(r:AG)(a:AC):Bool:=shr a.Name&&(Dc r.Attrs a.Name=a.Value)
def OC(l r:AG):List AC:=l.Attrs.foldl (EU (No r)) (GH l r)
theorem fm p:∀(l o:List AC),Ao o false=0→(∀e∈l,VA false e)→Ao (l.foldl (EU p) o) false=0∧(l.foldl (EU p) o).length≤o.length+l.length
 | [],o,h,_=>⟨h,by simp⟩
 | x::l,o,h,j=>by
  have q:=j x (v8 ..)
  have u:Ao (EU p o x) false=0∧(EU p o x).length≤o.length+1:=by
   unfold EU
   split
   ·exact⟨WI h q,Nv o x⟩
   ·exact⟨h,by omega⟩
  obtain⟨w,B⟩:=fm p l _ u.1 λe A=>j e (wC _ A)
  rw[wh,wK]
  exact⟨w,by omega⟩
theorem VL{l r:AG}(j:Ao l.Attrs false=0)(q:Ao r.Attrs false=0){m}(u:l.Attrs.length≤m)(w:r.Attrs.length≤m):Ao (GH l r) false=0∧(GH l r).length≤m:=by
 unfold GH
 split
 ·exact⟨by decide,by simp⟩
 ·have:Ao (Dx l r).Attrs false=0∧(Dx l r).Attrs.length≤m:=by unfold Dx;split;exact⟨q,w⟩;exact⟨j,u⟩
  exact⟨mb _ this.1,xF (yo _ _) this.2⟩
theorem sy{l r:AG}(j:Ao l.Attrs false=0)(q:Ao r.Attrs false=0){m}(u:l.Attrs.length≤m)(w:r.Attrs.length≤m):Ao (OC l r) false=0∧(OC l r).length≤m+m:=by
 obtain⟨A,C⟩:=VL j q u w
 obtain⟨B,E⟩:=fm (No r) l.Attrs (GH l r) A ((FU _ _).1 j).2
 exact⟨B,by unfold OC;omega⟩
theorem tb{o:List AC}{x}(h:o.length+1≤1099511627776):app 32 o [x]=some (o++[x]):=IO (by omega)
theorem mN{l r}(q:(Dx l r).Attrs.length≤1048576){α:Type}(F:List AC→Option α) :
  (AB (if(!((Dx l r).Char=10)) then(Aq (iter (λ(a:Int × (List AC))=>KY (Dx l r) a.1 a.2) (0,[])) λ(w:Unit)=>none) else some []) F)=F (GH l r):=by
 unfold GH
 by_cases h:(Dx l r).Char=10
 ·rw[ne (CI h),vw h];rfl
 ·rw[vw (Bb h),ne h]
  generalize Dx l r=e at q
  have:=Ky (f:=λ(a:Int × (List AC))=>KY e a.1 a.2) e.Attrs (λk o=>((k:Int),o)) (Q5 λa=>KO a.Name) (λo=>(.ext o:As Unit (List AC))) (λo k=>o.length≤k)
   (λb k j q=>by unfold Q5;split;simp;omega;omega) (λo k j u=>by
    dsimp only
    unfold KY Q5
    dsimp only
    rw[vw (by simpa using j),AZ j,AD,lK,AD]
    by_cases hp:KO e.Attrs[k]!.Name=true
    ·rw[vw hp,vw hp,tb (by omega),AD,AD,Ae (by omega)];rfl
    ·rw[ne hp,ne hp,AD,Ae (by omega)];rfl) (λo u=>by
    dsimp only
    unfold KY
    rw[ne (by simp)]) [] (by simp)
  rw[show((0:Nat):Int)=0 from rfl] at this
  rw[this,fP]
  rfl
theorem sh{l r}(u:Ao (Dx l r).Attrs false=0)(j:(Dx l r).Attrs.length≤1048576){α:Type}(F:List AC→Option α) :
  (AB (if(!((Dx l r).Char=10)) then(Aq (iter (λ(a:(List AC) × Int)=>KZ (Dx l r) a.1 a.2) ([],0)) λ(B:Unit)=>none) else some []) F)=F (GH l r):=by
 unfold GH
 by_cases h:(Dx l r).Char=10
 ·rw[ne (CI h),vw h];rfl
 ·rw[vw (Bb h),ne h]
  generalize Dx l r=e at j u
  obtain⟨A,C⟩:=(FU _ _).1 u
  have:=Ky (f:=λ(a:(List AC) × Int)=>KZ e a.1 a.2) e.Attrs (λk o=>(o,(k:Int))) (EU λa=>KO a.Name) (λo=>(.ext o:As Unit (List AC))) (λo k=>o.length≤k∧Bg o)
   (λb k q j=>by
    unfold EU
    split
    ·exact⟨by have:=Nv b e.Attrs[k]!;omega,Pi _ j.2⟩
    ·exact⟨by omega,j.2⟩) (λo k q w=>by
    dsimp only
    unfold KZ EU
    dsimp only
    rw[vw (by simpa using q),AZ q,AD,l9,AD]
    by_cases hp:KO e.Attrs[k]!.Name=true
    ·rw[vw hp,vw hp,Vr _ _ w.2 (by omega),AD,AD,Ae (by omega)];rfl
    ·rw[ne hp,ne hp,AD,Ae (by omega)];rfl) (λo w=>by
    dsimp only
    unfold KZ
    rw[ne (by simp)]) [] ⟨by simp,by simp[Bg]⟩
  rw[show((0:Nat):Int)=0 from rfl] at this
  rw[this,Vu _ _ _ A (by simp)]
  rfl
theorem lq{l r:AG}{k}(C:0<k∨l.Attrs=[])(u:Ao l.Attrs false=0)(E:Ao r.Attrs false=0)(F:l.Attrs.length≤1048576)(I:r.Attrs.length≤1048576) :
  iter (λ(a:(List AC) × Int)=>L2 k l r a.1 a.2) (GH l r,0)=some (OC l r):=by
 obtain⟨J,T⟩:=VL u E F I
 obtain⟨U,w⟩:=(FU _ _).1 u
 have:=Ky (f:=λ(a:(List AC) × Int)=>L2 k l r a.1 a.2) l.Attrs (λk o=>(o,(k:Int))) (EU (No r)) (λo=>o) (λo k=>o.length≤1048576+k∧Ao o false=0)
  (λb j q A=>by
   unfold EU
   split
   ·exact⟨by have:=Nv b l.Attrs[j]!;omega,WI A.2 (w _ (BN q))⟩
   ·exact⟨by omega,A.2⟩) (λo j q B=>by
   dsimp only
   have M:0<k:=by
    rcases C with h | h
    ·exact h
    ·rw[h] at q;simp at q
   have O:=w _ (BN q)
   unfold L2 EU No
   rw[vw (by simpa using q),AZ q,AD,nT,AD,vz M,zY]
   cases shr l.Attrs[j]!.Name with
   | true=>
    show AB (AB (G9 r.Attrs l.Attrs[j]!.Name) _) _=_
    rw[PI _ _ (by omega),AD]
    by_cases e:Dc r.Attrs l.Attrs[j]!.Name=l.Attrs[j]!.Value
    ·rw[vw (by simpa using e),U6 _ _ (by simp;omega),AD,AD,Ae (by omega),vw (by simpa using e),AD]
     show some (Sum.inl (GR o [l.Attrs[j]!],_))=_
     rw[uQ B.2 O]
    ·rw[ne (by simpa using e),AD,Ae (by omega),ne (by simpa using e)];rfl
   | false=>
    show AB (AB (some default) _) _=_
    rw[AD,ne (by simp),AD,Ae (by omega),ne (by simp)];rfl) (λo B=>by
   dsimp only
   unfold L2
   rw[ne (by simp)]) (GH l r) ⟨by omega,J⟩
 exact this
theorem pz{l r:AG}(u:Ao l.Attrs false=0)(B:Ao r.Attrs false=0)(C:l.Attrs.length≤1048576)(E:r.Attrs.length≤1048576) :
  iter (λ(a:(List AC) × Int)=>Ku l r a.1 a.2) (GH l r,0)=some (.ext (OC l r)):=by
 obtain⟨F,J⟩:=VL u B C E
 obtain⟨M,I⟩:=(FU _ _).1 u
 have:=Ky (f:=λ(a:(List AC) × Int)=>Ku l r a.1 a.2) l.Attrs (λk o=>(o,(k:Int))) (EU (No r)) (λo=>(.ext o:As Unit (List AC))) (λo k=>o.length≤1048576+k∧Ao o false=0)
  (λb j q w=>by
   unfold EU
   split
   ·exact⟨by have:=Nv b l.Attrs[j]!;omega,WI w.2 (I _ (BN q))⟩
   ·exact⟨by omega,w.2⟩) (λo j q A=>by
   dsimp only
   unfold Ku EU No
   rw[vw (by simpa using q),AZ q,AD,qX,AD]
   cases shr l.Attrs[j]!.Name with
   | true=>
    show AB (AB (I3 r.Attrs l.Attrs[j]!.Name) _) _=_
    rw[Ul _ _ (by omega),AD]
    by_cases e:Dc r.Attrs l.Attrs[j]!.Name=l.Attrs[j]!.Value
    ·rw[vw (by simpa using e),Vr _ _ (EL A.2).1 (by omega),AD,AD,Ae (by omega),vw (by simpa using e)];rfl
    ·rw[ne (by simpa using e),AD,Ae (by omega),ne (by simpa using e)];rfl
   | false=>
    show AB (AB (some default) _) _=_
    rw[AD,ne (by simp),AD,Ae (by omega),ne (by simp)];rfl) (λo A=>by
   dsimp only
   unfold Ku
   rw[ne (by simp)]) (GH l r) ⟨by omega,F⟩
 exact this
abbrev Lj(n:AX)(a:List UInt8):Cd:=Cd.mk n (shown n.Flow 0 n.Flow.length) a
def Xg:AG:=⟨10,0,[]⟩
def GN(f:List AG)(k:Nat):AG:=f[(BI f)[k]!]!
def ER(f:List AG)(k:Nat):AG:=if k=0 then Xg else GN f (k-1)
theorem Qd(f:List AG):(shown f 0 f.length).length=(BI f).length:=by rw[YE,wZ]
theorem eB{n:AX} a{k}(j:k<(BI n.Flow).length):Ll (Lj n a) (k:Int)=some (GN n.Flow k):=by
 unfold Ll GN
 dsimp only [Lj]
 have l:=Qd n.Flow
 rw[ne (by simp only[wD,vx];omega),Lb j,AD,AZ (HW j),AD]
theorem nB{n:AX} a{k}(j:k<(BI n.Flow).length):Ll (Lj n a) ((k:Int)-1)=some (ER n.Flow k):=by
 unfold ER
 split
 ·rename_i h;subst h;rfl
 ·rw[show((k:Int)-1)=((k-1:Nat):Int) by omega]
  exact eB a (by omega)
def P9(f:List AG):Prop:=∀e∈f,Ao e.Attrs false=0∧e.Attrs.length≤1048576
theorem qK:Ao Xg.Attrs false=0∧Xg.Attrs.length≤1048576:=⟨by decide,by decide⟩
theorem Vj{f}(h:P9 f){k}(j:k<(BI f).length):Ao (GN f k).Attrs false=0∧(GN f k).Attrs.length≤1048576:=h _ (BN (HW j))
theorem gV{f}(h:P9 f){k}(j:k<(BI f).length):Ao (ER f k).Attrs false=0∧(ER f k).Attrs.length≤1048576:=by
 unfold ER
 split
 ·exact qK
 ·exact Vj h (by omega)
theorem fH{l r:AG}(j:Ao l.Attrs false=0∧l.Attrs.length≤1048576)(q:Ao r.Attrs false=0∧r.Attrs.length≤1048576):Ao (Dx l r).Attrs false=0∧(Dx l r).Attrs.length≤1048576:=by
 unfold Dx;split;exact q;exact j
def Gt(f:List AG)(k:Nat):List AC:=OC (ER f k) (GN f k)
theorem tj{n:AX}(a:List UInt8){k}(j:k<(BI n.Flow).length)(B:n.Flow.length≤1048576)(h:P9 n.Flow):Nh (Lj n a) (k:Int)=some (Gt n.Flow k):=by
 have C:=JN n.Flow
 have l:=gV h j
 have q:=Vj h j
 have u:=fH l q
 unfold Nh Gt
 rw[JR (show(-9223372036854775808:Int)≤(k:Int)-1 by omega) (by omega),AD,nB a j,AD,eB a j,AD]
 have w:(if decide ((ER n.Flow k).Char=10)=true then some (GN n.Flow k) else some (ER n.Flow k))=some (Dx (ER n.Flow k) (GN n.Flow k)):=by
  unfold Dx
  by_cases h:(ER n.Flow k).Char=10
  ·rw[vw (by simpa using h),vw h]
  ·rw[ne (by simpa using h),ne h]
 rw[w,AD,mN u.2,lq (by
  by_cases A:k=0
  ·right;unfold ER;rw[vw A];rfl
  ·left;omega) l.1 q.1 l.2 q.2]
 rfl
def I6(f:List AG):List AG:=(BI f).map λi=>f[i]!
theorem sZ f:(I6 f).length=(BI f).length:=by simp[I6]
theorem fr{f}{k}(j:k<(BI f).length):(I6 f)[k]! = GN f k:=by
 have l:k<((BI f).map λi=>f[i]!).length:=by simpa using j
 show((BI f).map λi=>f[i]!)[k]! = f[(BI f)[k]!]!
 rw[wF _ k l,yt,wF (BI f) k j]
theorem oK(f:List AG)(q:H7 f 0=some (shown f 0 f.length))(A:f.length≤1048576):LF f=some (I6 f):=by
 have B:=JN f
 have C:=Qd f
 unfold LF
 rw[q,AD]
 have:=Ky (f:=λ(a:Int × (List AG))=>MM f (shown f 0 f.length) a.1 a.2) (BI f) (λk o=>((k:Int),o)) (λo i=>o++[f[i]!]) (λo=>o) (λo k=>o.length≤k)
  (λb k j E=>by simp;omega) (λo k j u=>by
   dsimp only
   unfold MM
   rw[vw (by simp only[vx];omega),Lb j,AD,AZ (HW j),AD,HV (by rw[wu];omega),AD,Ae (by omega)];rfl) (λo u=>by
   dsimp only
   unfold MM
   rw[ne (by simp only[vx];omega)]) [] (by simp)
 rw[show((0:Nat):Int)=0 from rfl] at this
 rw[this,AD]
 have key:∀(l:List Nat) (o:List AG),l.foldl (λo i=>o++[f[i]!]) o=o++l.map λi=>f[i]!:=by
  intro l
  induction l with
  | nil=>simp
  | cons x l w=>intro o;rw[wh,w];simp
 rw[key];rfl
theorem qA{f:List AG}{k}(q:k<(BI f).length)(M:f.length≤1048576)(h:P9 f):KL (I6 f) (k:Int)=some (Gt f k):=by
 have O:=JN f
 have E:=sZ f
 have u:=gV h q
 have w:=Vj h q
 have j:=fH u w
 unfold KL Gt
 have F:(if decide ((0:Int)<(k:Int))=true then AB (AN .i64 ((k:Int)-1)) λ(A:Int)=>AB (AL (I6 f) A) λ(B:AG)=>some B else some (AG.mk 10 0 []))=some (ER f k):=by
  unfold ER
  by_cases l:k=0
  ·subst l;rfl
  ·rw[vw (by simp only[vx];omega),E8 (by omega) (by omega),AD,AZ (by omega),AD,ne l,fr (by omega)]
 have I:(if decide ((k:Int)<((I6 f).length:Int))=true then AB (AL (I6 f) (k:Int)) λ(C:AG)=>some C else some (AG.mk 10 0 []))=some (GN f k):=by
  rw[vw (by simp only[vx];omega),AZ (by omega),AD,fr q]
 have J:(if decide ((ER f k).Char=10)=true then some (GN f k) else some (ER f k))=some (Dx (ER f k) (GN f k)):=by
  unfold Dx
  by_cases h:(ER f k).Char=10
  ·rw[vw (by simpa using h),vw h]
  ·rw[ne (by simpa using h),ne h]
 rw[F,AD,I,AD,J,AD,sh j.1 j.2]
 by_cases l:k=0
 ·subst l
  rw[ne (by decide),AD]
  rfl
 ·rw[vw (by simp only[vx];omega),pz u.1 w.1 u.2 w.2]
  rfl
def IR(a b:List AC):List AC:=Bs Fi a b []
def Mv(c:Bool)(j l:List AC):Un:=.r c (if c then [] else IR j l)
def Ba:List Un→List Un→List Un
 | .r true _::j,l=>.r true []::Ba j l
 | j,.a e::l=>.a e::Ba j l
 | .a e::j,.r q u::l=>if q then Ba j l else .a (C1 u e)::Ba j l
 | .r false w::j,.r q u::l=>Mv q w u::Ba j l
 | [],.r _ _::_=>[]
 | .a _::_,[]=>[]
 | .r false _::_,[]=>[]
 | [],[]=>[]
  termination_by j l=>j.length+l.length
def RE(us:List Un):Prop:=∀t j,us≠.r true t::j
theorem PS t us vs:Ba (.r true t::us) vs=.r true []::Ba us vs:=by rw[Ba]
theorem eI t us vs:∀n:Nat,Ba (List.replicate n (.r true t)++us) vs=List.replicate n (.r true [])++Ba us vs
 | 0=>rfl
 | n+1=>by rw[wc,wN,PS,eI t us vs n];rfl
theorem RK(B:List AG)(us vs:List Un)(h:RE us):Ba us (B.map Un.a++vs)=B.map Un.a++Ba us vs:=by
 induction B with
 | nil=>rfl
 | cons e B j=>
  simp only[wP,wN]
  rw[← j]
  match us,h with
  | [],_=>rw[Ba];intro _ _ h;cases h
  | .r false t::us,_=>rw[Ba];intro _ _ h;cases h
  | .r true t::us,h=>exact absurd rfl (h t us)
  | .a e::us,h=>rw[Ba];intro _ _ h;cases h
theorem aD t us:RE (.r false t::us):=λ_ _ h=>by cases h
theorem iN:RE []:=λ_ _ h=>by cases h
theorem pg e us vs j l:Ba (.a e::us) (.r j l::vs)=(if j then [] else [.a (C1 l e)])++Ba us vs:=by
 rw[Ba];cases j<;>rfl
theorem Xp us vs j l q:Ba (.r false l::us) (.r j q::vs)=Mv j l q::Ba us vs:=by rw[Ba]
theorem aP us vs j l:∀A:List AG,Ba (A.map Un.a++us) (List.replicate A.length (.r j l)++vs)=(if j then [] else(A.map (C1 l)).map Un.a)++Ba us vs
 | []=>by cases j<;>rfl
 | e::A=>by
  rw[wP,wK,wc,wN,wN,pg,aP us vs j l A]
  cases j<;>rfl
theorem cE us vs j l q:∀n:Nat,Ba (List.replicate n (.r false l)++us) (List.replicate n (.r j q)++vs)=List.replicate n (Mv j l q)++Ba us vs
 | 0=>rfl
 | n+1=>by rw[wc,wc,wN,wN,Xp,cE us vs j l q n];rfl
theorem ZH(B:List AG):Ba [] (B.map Un.a)=B.map Un.a:=by
 have:=RK B [] [] iN
 rw[wS] at this
 rw[this,Ba,wS]
theorem ZR:∀(us vs:List Un),(Ba us vs).length≤us.length+vs.length:=by
 intro us vs
 fun_induction Ba us vs<;>simp_all<;>omega
theorem tg:∀(us vs:List Un),BR (Ba us vs)≤BR us+BR vs:=by
 intro us vs
 fun_induction Ba us vs with
 | case1 t us vs j=>rw[DY,DY];simp only[Un.isR,xo,xm,yZ];omega
 | case2 us e vs q j=>rw[DY,DY];omega
 | case3 e us l vs j=>rw[DY,DY];simp only[Un.isR,xo,xm,yZ];omega
 | case4 e us u l vs w j=>rw[DY,DY,DY];simp only[Un.isR,xo,xm,yZ];omega
 | case5 A us u l vs j=>rw[DY,DY,DY];simp only[Un.isR,Mv,xo,xm,yZ];omega
 | case6=>simp[BR]
 | case7=>simp[BR]
 | case8=>simp[BR]
 | case9=>simp[BR]
theorem Hy u us:Bv (u::us)=(if FK u then 1 else 0)+Bv us:=by unfold Bv;rw[xT];omega
theorem QP a b:Bv (a++b)=Bv a+Bv b:=by simp[Bv]
theorem Yv(l:List AG):Bv (l.map Un.a)=l.length:=by
 induction l with
 | nil=>rfl
 | cons x l j=>rw[wP,Hy,j,wK];simp only[FK,xm];omega
theorem TP n c t:Bv (List.replicate n (.r c t))=if c then 0 else n:=by
 cases c<;>simp[Bv,xu,FK]
theorem Va{e:AG}{t:List AC}(j:Bx e=0)(w:e.Attrs.length≤1048576)(q:Ao t true=0)(u:t.length≤1048576):Bx (C1 t e)=0∧CZ (C1 t e).Attrs:=by
 have l:=nj (Ho j) q
 have A:=bN e.Attrs t
 refine⟨?_,Gc (l:=GR e.Attrs t) l (by omega)⟩
 unfold Bx at j ⊢
 unfold C1
 dsimp only
 split
 ·rename_i h;rw[vw h] at j;exact j
 ·rename_i h
  rw[ne h] at j
  split
  ·rename_i h;rw[vw h] at j;exact j
  ·exact l
theorem aH{a b:List AC}(l:Ao a true=0)(q:Ao b true=0)(u:a.length≤1048576)(w:b.length≤1048576):Ao (IR a b) true=0∧CZ (IR a b):=by
 have j:=rF l q
 have A:=mj a b
 exact⟨j,Gc j (by unfold IR;omega)⟩
theorem fp:∀(us vs:List Un),Dp us→Dp vs→∀u∈Ba us vs,Di u:=by
 intro us vs
 fun_induction Ba us vs with
 | case1 t us vs w=>
  intro q l u j
  rcases wM.1 j with rfl | j
  ·exact⟨λh=>(by cases h),GM⟩
  ·exact w q.tl l u j
 | case2 us e vs I w=>
  intro q l u j
  rcases wM.1 j with rfl | j
  ·exact Rz l (v8 ..)
  ·exact w q l.tl u j
 | case3 e us E vs w=>intro q l u j;exact w q.tl l.tl u j
 | case4 e us F E vs C w=>
  intro q l u j
  rcases wM.1 j with rfl | j
  ·have A:=q _ (v8 ..)
   have B:=l _ (v8 ..)
   dsimp only at A B
   exact Va A.1 A.2 (B.1 (by simpa using C)) B.2.2
  ·exact w q.tl l.tl u j
 | case5 O us F E vs w=>
  intro q l u j
  rcases wM.1 j with rfl | j
  ·have A:=q _ (v8 ..)
   have B:=l _ (v8 ..)
   dsimp only at A B
   cases F with
   | true=>exact⟨λh=>(by cases h),GM⟩
   | false=>
    obtain⟨J,M⟩:=aH (A.1 rfl) (B.1 rfl) A.2.2 B.2.2
    exact⟨λ_=>J,M⟩
  ·exact w q.tl l.tl u j
 | case6=>intro _ _ u j;cases j
 | case7=>intro _ _ u j;cases j
 | case8=>intro _ _ u j;cases j
 | case9=>intro _ _ u j;cases j
end Go.Proofs.YtdafahjmopdleaaGreatDoor.Al
