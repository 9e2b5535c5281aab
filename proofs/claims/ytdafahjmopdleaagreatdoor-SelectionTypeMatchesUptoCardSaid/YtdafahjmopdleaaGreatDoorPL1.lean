/- Plain laws over the models, a part of them. -/
import Derived.Test.YtdafahjmopdleaaGreatDoorMod1
import Derived.Lib.DecodeNEq
import Derived.Lib.TrimUEq
import Derived.Lib.ValidLaws
set_option linter.all false
namespace Go.Proofs.YtdafahjmopdleaaGreatDoor.Al
@[simp] theorem AE{a α:Type}(x:a)(f:a→Option α):AB (some x) f=f x:=rfl
@[simp] theorem Bi{a b α:Type}(x:a)(y:b)(f:a→b→Option α):B5 (some (x,y)) f=f x y:=rfl
@[simp] theorem Kp{a b c α:Type}(x:a)(y:b)(z:c)(f:a→b→c→Option α):F8 (some (x,y,z)) f=f x y z:=rfl
@[simp] theorem vn{a b c d α:Type}(x:a)(y:b)(z:c)(u:d)(f:a→b→c→d→Option α):lU (some (x,y,z,u)) f=f x y z u:=rfl
@[simp] theorem Hi{a α:Type}(x:a)(f:a→Option α):Ao (some (.nrm x)) f=f x:=rfl
@[simp] theorem sK{a α:Type}(t:α)(f:a→Option α):Ao (some (.ext t)) f=some t:=rfl
@[simp] theorem Fo{a b α:Type}(x:a)(y:b)(f:a→b→Option α):FS (some (.nrm (x,y))) f=f x y:=rfl
@[simp] theorem vw{a b α:Type}(t:α)(f:a→b→Option α):FS (some (.ext t)) f=some t:=rfl
@[simp] theorem vk{a b c α:Type}(x:a)(y:b)(z:c)(f:a→b→c→Option α):fA (some (.nrm (x,y,z))) f=f x y z:=rfl
@[simp] theorem vt{a b c α:Type}(t:α)(f:a→b→c→Option α):fA (some (.ext t)) f=some t:=rfl
@[simp] theorem At{α:Type}[Inhabited α](m:Option α):gd true m=m:=rfl
@[simp] theorem Fl{α:Type}[Inhabited α](m:Option α):gd false m=some default:=rfl
theorem AR{α:Type}[Inhabited α]{l:List α}{k}(h:k<l.length):AL l (k:Int)=some l[k]!:=by
 unfold AL
 rw[vx (ym k),wy,wB h,wD l k h]
theorem Aa{k:Nat}(h:k<9223372036854775807):AM .i64 ((k:Int)+1)=some (((k+1:Nat)):Int):=by
 rw[Bz (by omega) (by omega)];rfl
theorem Es{k:Nat}(h:0<k)(j:k≤9223372036854775807):AM .i64 ((k:Int)-1)=some ((k-1:Nat):Int):=by
 rw[Bz (by omega) (by omega)];congr 1;omega
def Cb{ρ:Type}(k:Nat):Option ρ→Option (Int ⊕ An Unit ρ)
 | none=>some (.inl ((k+1:Nat):Int))
 | some r=>some (.inr (.ext r))
def Fu{ρ:Type} : Option ρ→An Unit ρ
 | none=>.nrm ()
 | some r=>.ext r
theorem CT{ρ:Type}{f}{n}(g:Nat→Option ρ)(j:∀k:Nat, k<n→f k=Cb k (g k))
 (l:f n=some (.inr (.nrm ()))):iter f 0=some (Fu ((List.range n).findSome? g)) := by
  have key:∀m k:Nat, k+m=n→iter f (k:Int)=some (Fu ((List.range' k m).findSome? g)) := by
    intro m
    induction m with
    | zero =>
      intro k q
      obtain rfl:k=n := by omega
      rw[B3 l];rfl
    | succ m u =>
      intro k q
      rw[zm, xc]
      have := j k (by omega)
      cases hg:g k with
      | none => rw[hg] at this;rw[DM this, u (k+1) (by omega)]
      | some r => rw[hg] at this;rw[B3 this];rfl
  rw[yu]
  exact key n 0 (by omega)
theorem dM{α ρ:Type}{l:List α}{g h:α→Option ρ}(e:∀x∈l,g x=h x):l.findSome? g=l.findSome? h:=by
 induction l with
 | nil=>rfl
 | cons a l j=>rw[xc,xc,e a (v8 ..),j λx q=>e x (wC _ q)]
theorem Ws{α ρ:Type}[Inhabited α](l:List α)(p:α→Bool)(r:ρ):(List.range l.length).findSome? (λk=>if p l[k]! then none else some r)=if l.all p then none else some r:=by
 induction l with
 | nil=>rfl
 | cons a l j=>
  rw[wK,List.range_succ_eq_map,xc,List.findSome?_map]
  have q:(List.range l.length).findSome? ((λk=>if p (a::l)[k]! = true then none else some r) ∘ Nat.succ)=if l.all p=true then none else some r:=by
   rw[← j];exact dM λk _=>by simp
  rw[q]
  by_cases hp:p a=true
  ·simp[hp]
  ·simp[hp]
theorem Ek{ρ:Type}(o:Option ρ)(f:Unit→Option ρ):Ao (some (Fu o)) f=match o with | none=>f () | some r=>some r:=by cases o<;>rfl
def GN(c:UInt8):Bool:=((97≤c.toNat)&&(c.toNat≤122))||((48≤c.toNat)&&(c.toNat≤57))||(c.toNat=46)||(c.toNat=45)
def EV(s:List UInt8):Bool:=(1≤s.length)&&(s.length≤24)&&((97≤s[0]!.toNat)&&(s[0]!.toNat≤122))&&s.all GN
def HG(c:UInt8):Bool:=(32≤c.toNat)&&(c.toNat≤126)
def Dl(s:List UInt8):Bool:=(1≤s.length)&&(s.length≤200)&&s.all HG
theorem nt(s:List UInt8) k(j:k<s.length)(l:s.length≤9223372036854775807):NA s k=Cb k (if GN s[k]! then none else some false):=by
 unfold NA
 rw[vx (by simpa using j),AR j,AE,Aa (by omega)]
 generalize s[k]! = c
 have e:((((((c.toNat:Int)<97)||(122<(c.toNat:Int)))&&(((c.toNat:Int)<48)||(57<(c.toNat:Int))))&&(!((c.toNat:Int)=46)))&&(!((c.toNat:Int)=45)))=!GN c:=by
  unfold GN
  rw[ws]
  simp only[wF,v7,vy,wz,xd,Bool.or_eq_false_iff,yO]
  omega
 rw[e]
 cases GN c<;>rfl
theorem bJ(s:List UInt8)(B:s.length≤9223372036854775807):Nv s=some (EV s):=by
 unfold Nv
 rw[CT (n:=s.length) (λk=>if GN s[k]! then none else some false) (λk C=>nt s k C B) (by unfold NA;rw[ne (by simp)]),Ws]
 unfold EV
 cases s with
 | nil=>simp
 | cons c t=>
  have E:AL (c::t) 0=some c:=rfl
  rw[E]
  simp only[List.getElem!_cons_zero,v6 (zn c t),xj]
  generalize (c::t).all GN=F
  generalize I:(c::t).length=L
  have M:1≤L:=by rw[← I];simp
  by_cases u:24<(L:Int)
  ·have j:decide (L≤24)=false:=by simp;omega
   simp[u,j]
  ·rw[v6 u]
   simp only[xj,xq,At,AE]
   have j:decide (L≤24)=true:=by simp;omega
   have J:decide (1≤L)=true:=by simp;omega
   rw[j,J]
   by_cases w:(c.toNat:Int)<97
   ·have l:decide (97≤c.toNat)=false:=by simp;omega
    simp[w,l]
   ·rw[v6 w]
    have l:decide (97≤c.toNat)=true:=by simp;omega
    simp only[xq,At,AE,xj]
    by_cases A:122<(c.toNat:Int)
    ·have q:decide (c.toNat≤122)=false:=by simp;omega
     simp[A,q]
    ·have q:decide (c.toNat≤122)=true:=by simp;omega
     rw[ne (by simpa using A),Ek,l,q]
     cases F<;>rfl
def Ht(k:Nat)(c:UInt8):Bool:=((97≤c.toNat)&&(c.toNat≤122))||((k≠0)&&GN c)
theorem nu(s:List UInt8) k(j:k<s.length)(l:s.length≤9223372036854775807) :
  Ny s k=Cb k (if Ht k s[k]! then none else some false):=by
 unfold Ny
 rw[vx (by simpa using j),AR j,AE,Aa (by omega)]
 generalize s[k]! = c
 have e:((!((97≤(c.toNat:Int))&&((c.toNat:Int)≤122)))&&(((k:Int)=0)||(((!((c.toNat:Int)=46))&&(!((c.toNat:Int)=45)))&&(((c.toNat:Int)<48)||(57<(c.toNat:Int))))))=!Ht k c:=by
  unfold Ht GN
  rw[ws]
  simp only[wF,v7,vy,wz,xd,Bool.or_eq_false_iff,yO]
  omega
 rw[e]
 cases Ht k c<;>rfl
theorem ZB{ρ:Type}(n:Nat)(g:Nat→Option ρ):(List.range n).findSome? g=none↔∀k,k<n→g k=none:=by
 rw[xD];simp
theorem uM{α:Type}[Inhabited α](l:List α)(p:α→Bool):l.all p=true↔∀k,k<l.length→p l[k]! = true:=by
 rw[wT]
 constructor
 ·intro h k j;rw[wD l k j];exact h _ (xz j)
 ·intro h x q
  obtain⟨k,j,rfl⟩:=xE.1 q
  rw[← wD l k j];exact h k j
theorem IR{ρ:Type} n p(r:ρ):(List.range n).findSome? (λk=>if p k then none else some r)=if(List.range n).all p then none else some r:=by
 generalize List.range n=l
 induction l with
 | nil=>rfl
 | cons a l j=>rw[xc,zH,];by_cases h:p a=true<;>simp[h,j]
theorem bF(s:List UInt8)(u:s.length≤9223372036854775807):Ni s=some (EV s):=by
 unfold Ni
 rw[CT (n:=s.length) (λk=>if Ht k s[k]! then none else some false) (λk j=>nu s k j u) (by unfold Ny;rw[ne (by simp)]),IR,Ek]
 have key:((List.range s.length).all λk=>Ht k s[k]!)=((s=[])||(((97≤s[0]!.toNat)&&(s[0]!.toNat≤122))&&s.all GN)):=by
  rw[ws,wT]
  simp only[wh,wF,vy,v7,uM]
  constructor
  ·intro h
   cases q:s with
   | nil=>exact .inl rfl
   | cons c t=>
    rw[← q]
    have w:0<s.length:=by rw[q];simp
    have A:=h 0 w
    simp only[Ht,wF,v7,vy] at A
    refine .inr ⟨by omega,λk j=>?_⟩
    have:=h k j
    simp only[Ht,GN,wF,v7,vy] at this ⊢
    omega
  ·rintro(rfl | ⟨J,B⟩) k j
   ·cases j
   ·have:=B k j
    by_cases l:k=0
    ·subst l;simp only[Ht,wF,v7,vy];omega
    ·simp only[Ht,wF,v7,vy];exact .inr ⟨l,this⟩
 rw[key]
 unfold EV
 cases s with
 | nil=>rfl
 | cons c t=>
  rw[v6 (zn c t),xj]
  generalize (c::t).all GN=C
  generalize ((97≤(c::t)[0]!.toNat)&&((c::t)[0]!.toNat≤122))=E
  have F:decide (1≤((c::t).length:Int))=decide (1≤(c::t).length):=by simp;omega
  have I:decide (((c::t).length:Int)≤24)=decide ((c::t).length≤24):=by simp;omega
  rw[F,I]
  cases E<;>cases C<;>simp
theorem VI(s:List UInt8)(B:s.length≤9223372036854775807):Jo s=some (Dl s):=by
 unfold Jo Dl
 rw[CT (n:=s.length) (λk=>if HG s[k]! then none else some false) (λk l=>by
  unfold RY
  rw[vx (by simpa using l),AR l,AE,Aa (by omega)]
  generalize s[k]! = c
  have e:(((c.toNat:Int)<32)||(126<(c.toNat:Int)))=!HG c:=by
   unfold HG
   rw[ws]
   simp only[wF,v7,vy,wz,xd,yO]
   omega
  rw[e]
  cases HG c<;>rfl) (by unfold RY;rw[ne (by simp)]),Ws,Ek]
 generalize s.all HG=u
 cases s with
 | nil=>simp
 | cons c t=>
  rw[v6 (zn c t),xj]
  generalize w:(c::t).length=L
  have C:1≤L:=by rw[← w];simp
  by_cases q:200<(L:Int)
  ·have j:decide (L≤200)=false:=by simp;omega
   simp[q,j]
  ·have j:decide (L≤200)=true:=by simp;omega
   have A:decide (1≤L)=true:=by simp;omega
   rw[ne (by simpa using q),j,A]
   cases u<;>rfl
theorem UW(s:List UInt8)(w:s.length≤9223372036854775807):Lt s=some (Dl s):=by
 unfold Lt Dl
 rw[CT (n:=s.length) (λk=>if HG s[k]! then none else some false) (λk j=>by
  unfold Q6
  rw[vx (by simpa using j),AR j,AE,Aa (by omega)]
  generalize s[k]! = c
  have e:(((c.toNat:Int)<32)||(126<(c.toNat:Int)))=!HG c:=by
   unfold HG
   rw[ws]
   simp only[wF,v7,vy,wz,xd,yO]
   omega
  rw[e]
  cases HG c<;>rfl) (by unfold Q6;rw[ne (by simp)]),Ws,Ek]
 generalize s.all HG=l
 have q:decide (1≤(s.length:Int))=decide (1≤s.length):=by simp;omega
 have u:decide ((s.length:Int)≤200)=decide (s.length≤200):=by simp;omega
 rw[q,u]
 cases l<;>simp
theorem YO a b x y:A1 (a::x) (b::y)=((a<b)||(a==b&&A1 x y)):=rfl
theorem OE:∀(a b:List UInt8),(A1 a b||(a=b))=!A1 b a
 | [],[]=>rfl
 | [],_::_=>rfl
 | _::_,[]=>rfl
 | a::x,b::y=>by
  rw[YO,YO]
  have l:=OE x y
  by_cases h:a=b
  ·subst h
   have q:¬ a<a:=λh=>by simp[yr] at h
   simp only[v6 q,xq,xJ,xj,zU,true_and]
   exact l
  ·have u:(a==b)=false:=by simpa using h
   have w:(b==a)=false:=by simpa using λe:b=a=>h e.symm
   have A:¬ (a::x=b::y):=λe=>h (List.cons.inj e).1
   rw[u,w,v6 A]
   simp only[yR,Bool.or_false]
   have B:a.toNat≠b.toNat:=λe=>h (UInt8.toNat_inj.1 e)
   by_cases j:a<b
   ·have:¬ b<a:=by rw[yr] at j ⊢;omega
    simp[j,this]
   ·have:b<a:=by rw[yr] at j ⊢;omega
    simp[j,this]
theorem VR a:A1 a a=false:=by
 have:=OE a a
 cases h:A1 a a
 ·rfl
 ·rw[h] at this;simp at this
def GR(l:List AC):Prop:=∀a∈l,a.Name.length≤9223372036854775807∧a.Value.length≤9223372036854775807
def Et(l:List AC)(j:Bool)(k:Nat):Option Int:=
 if EV l[k]!.Name=false then some 9 else if Dl l[k]!.Value=false∧¬ (j=true∧l[k]!.Value=[]) then some 23 else if 0<k∧A1 l[k-1]!.Name l[k]!.Name=false then some 5 else none
def Am(l:List AC)(j:Bool):Int:=((List.range l.length).findSome? (Et l j)).getD 0
theorem GR.at{l:List AC}(h:GR l){k}(j:k<l.length):l[k]!.Name.length≤9223372036854775807∧l[k]!.Value.length≤9223372036854775807:=by
 rw[wD l k j];exact h _ (xz j)
theorem pp(l:List AC) u(h:GR l)(E:l.length≤9223372036854775807) k(A:k<l.length):Mf l u k=Cb k (Et l u k):=by
 unfold Mf Et
 obtain⟨j,q⟩:=h.at A
 rw[vx (by simpa using A),AR A,AE]
 generalize l[k]! = x at j q ⊢
 rw[bJ _ j,AE]
 cases EV x.Name
 ·rfl
 rw[ne (by decide),ne (by decide),VI _ q,AE,Aa (by omega)]
 by_cases w:Dl x.Value=false∧¬ (u=true∧x.Value=[])
 ·rw[vx w,vx (by simp[w.1];cases u<;>simp_all)];rfl
 rw[ne w,ne (by intro e;simp at e;exact w ⟨e.1,by rintro⟨a,b⟩;simp[a,b] at e⟩)]
 by_cases B:k=0
 ·subst B;rfl
 ·have C:decide ((0:Int)<(k:Int))=true:=by simp;omega
  rw[C,Es (by omega) (by omega)]
  simp only[xq,At,AE,xJ]
  rw[AR (by omega),AE,OE]
  have:(0<k∧A1 l[k-1]!.Name x.Name=false)↔A1 l[k-1]!.Name x.Name=false:=by constructor;exact λh=>h.2;exact λh=>⟨by omega,h⟩
  simp only[this]
  cases A1 l[k-1]!.Name x.Name<;>rfl
theorem uG(l:List AC) u(h:GR l)(E:l.length≤9223372036854775807) k(A:k<l.length):Ns l u k=Cb k (Et l u k):=by
 unfold Ns Et
 obtain⟨j,q⟩:=h.at A
 rw[vx (by simpa using A),AR A,AE]
 generalize l[k]! = x at j q ⊢
 rw[bF _ j,AE]
 cases EV x.Name
 ·rfl
 rw[ne (by decide),ne (by decide),UW _ q,AE,Aa (by omega)]
 by_cases w:Dl x.Value=false∧¬ (u=true∧x.Value=[])
 ·rw[vx w,vx (by simp[w.1];cases u<;>simp_all)];rfl
 rw[ne w,ne (by intro e;simp at e;exact w ⟨e.1,by rintro⟨a,b⟩;simp[a,b] at e⟩)]
 by_cases B:k=0
 ·subst B;rfl
 ·have C:decide ((0:Int)<(k:Int))=true:=by simp;omega
  rw[C,Es (by omega) (by omega)]
  simp only[xq,At,AE,xJ]
  rw[AR (by omega),AE]
  have:(0<k∧A1 l[k-1]!.Name x.Name=false)↔A1 l[k-1]!.Name x.Name=false:=by constructor;exact λh=>h.2;exact λh=>⟨by omega,h⟩
  simp only[this]
  cases A1 l[k-1]!.Name x.Name<;>rfl
theorem FG{o:Option Int} : (Ao (some (Fu o)) λ_:Unit=>some 0)=some (o.getD 0):=by cases o<;>rfl
theorem Y5(l:List AC) j(h:GR l)(q:l.length≤9223372036854775807):M7 l j=some (Am l j):=by
 unfold M7
 rw[CT (n:=l.length) (Et l j) (λk u=>pp l j h q k u) (by unfold Mf;rw[ne (by simp)]),FG];rfl
theorem RN(l:List AC) j(h:GR l)(q:l.length≤9223372036854775807):HE l j=some (Am l j):=by
 unfold HE
 rw[CT (n:=l.length) (Et l j) (λk u=>uG l j h q k u) (by unfold Ns;rw[ne (by simp)]),FG];rfl
theorem PP(l:List AC)(h:GR l)(j:l.length≤9223372036854775807):Hu l=some (Am l false):=by unfold Hu;rw[Y5 l _ h j];rfl
theorem fW(l:List AC)(h:GR l)(j:l.length≤9223372036854775807):Lh l=some (Am l true):=by unfold Lh;rw[Y5 l _ h j];rfl
def DU(l:List AC)(name:List UInt8):List UInt8:=((List.range l.length).findSome? λk=>if l[k]!.Name=name then some l[k]!.Value else none).getD []
theorem cW{o:Option (List UInt8)} : (Ao (some (Fu o)) λ_:Unit=>some [])=some (o.getD []):=by cases o<;>rfl
theorem RE(l:List AC) name(q:l.length≤9223372036854775807):G9 l name=some (DU l name):=by
 unfold G9
 rw[CT (n:=l.length) (λk=>if l[k]!.Name=name then some l[k]!.Value else none) (λk j=>by
  unfold RX
  rw[vx (by simpa using j),AR j,AE,Aa (by omega)]
  generalize l[k]! = x
  by_cases h:x.Name=name<;>simp[h,Cb]) (by unfold RX;rw[ne (by simp)]),cW];rfl
theorem Vw(l:List AC) name(q:l.length≤9223372036854775807):Ia l name=some (DU l name):=by
 unfold Ia
 rw[CT (n:=l.length) (λk=>if l[k]!.Name=name then some l[k]!.Value else none) (λk j=>by
  unfold QI
  rw[vx (by simpa using j),AR j,AE,Aa (by omega)]
  generalize l[k]! = x
  by_cases h:x.Name=name<;>simp[h,Cb]) (by unfold QI;rw[ne (by simp)]),cW];rfl
def DB:AC:=⟨[],[]⟩
def Bs(j:AC→AC→List AC→List AC):List AC→List AC→List AC→List AC
 | [],[],c=>c
 | x::a,[],c=>Bs j a [] (j x DB c)
 | [],y::b,c=>Bs j [] b (j DB y c)
 | x::a,y::b,c=>if A1 x.Name y.Name then Bs j a (y::b) (j x DB c) else if A1 y.Name x.Name then Bs j (x::a) b (j DB y c) else Bs j a b (j x y c)
  termination_by a b=>a.length+b.length
def JI(l:AC→AC→List AC→List AC)(a b:List AC)(i j:Nat)(o:List AC):Option ((Int × Int × List AC) ⊕ An Unit (List AC)):=
 if i<a.length∨j<b.length then
  if j=b.length∨(i<a.length∧A1 a[i]!.Name b[j]!.Name=true) then some (.inl (((i+1:Nat):Int),(j:Int),l a[i]! DB o))
  else if i=a.length∨A1 b[j]!.Name a[i]!.Name=true then some (.inl ((i:Int),((j+1:Nat):Int),l DB b[j]! o))
  else some (.inl (((i+1:Nat):Int),((j+1:Nat):Int),l a[i]! b[j]! o))
 else some (.inr (.ext o))
theorem PV{l:List AC}{i}(h:i<l.length):l.drop i=l[i]!::l.drop (i+1):=by
 rw[xr h,wD l i h]
theorem Va{f} A(a b c:List AC) B(l:∀x y o, (A x y o).length≤o.length+1)
 (U:∀(i j:Nat) (o:List AC), i≤a.length→j≤b.length→o.length+(a.length - i)+(b.length - j)≤B→f (i, j, o)=JI A a b i j o) (hB:c.length+a.length+b.length≤B):iter f (0, 0, c)=some (.ext (Bs A a b c)) := by
  have key:∀(m i j:Nat) (o:List AC), i≤a.length→j≤b.length→(a.length - i)+(b.length - j)=m→o.length+m≤B→iter f ((i:Int), (j:Int), o)=some (.ext (Bs A (a.drop i) (b.drop j) o)) := by
    intro m
    induction m using Nat.strongRecOn with
    | _ m E =>
      intro i j o M O V X
      have q := U i j o M O (by omega)
      unfold JI at q
      by_cases u:i<a.length
      · rw[PV u]
        by_cases w:j<b.length
        · rw[PV w]
          rw[vx (.inl u)] at q
          by_cases F:A1 a[i]!.Name b[j]!.Name=true
          · rw[vx (.inr ⟨u, F⟩)] at q
            rw[DM q, Bs, vx F, ← PV w]
            exact E (m - 1) (by omega) (i+1) j _ (by omega) O (by omega) (by have := l a[i]! DB o;omega)
          · rw[ne (by rintro(h | h);omega;exact F h.2)] at q
            by_cases J:A1 b[j]!.Name a[i]!.Name=true
            · rw[vx (.inr J)] at q
              rw[DM q, Bs, ne F, vx J, ← PV u]
              exact E (m - 1) (by omega) i (j+1) _ M (by omega) (by omega) (by have := l DB b[j]! o;omega)
            · rw[ne (by rintro(h | h);omega;exact J h)] at q
              rw[DM q, Bs, ne F, ne J]
              exact E (m - 2) (by omega) (i+1) (j+1) _ (by omega) (by omega) (by omega) (by have := l a[i]! b[j]! o;omega)
        · have C:j=b.length := by omega
          rw[vx (.inl u), vx (.inl C)] at q
          have hd:b.drop j=[] := by rw[C];simp
          rw[DM q, hd, Bs, ← hd]
          exact E (m - 1) (by omega) (i+1) j _ (by omega) O (by omega) (by have := l a[i]! DB o;omega)
      · have I:i=a.length := by omega
        have hd:a.drop i=[] := by rw[I];simp
        by_cases w:j<b.length
        · rw[vx (.inr w), ne (by rintro(h | h);omega;omega), vx (.inl I)] at q
          rw[PV w, DM q, hd, Bs, ← hd]
          exact E (m - 1) (by omega) i (j+1) _ M (by omega) (by omega) (by have := l DB b[j]! o;omega)
        · have C:j=b.length := by omega
          rw[ne (by omega)] at q
          have T:b.drop j=[] := by rw[C];simp
          rw[B3 q, hd, T, Bs]
  exact key _ 0 0 c (yS _) (yS _) rfl (by omega)
theorem Hl{o:List AC}{x}(h:o.length+1≤4398046511104):app 32 o [x]=some (o++[x]):=by
 unfold app;rw[vx (by simp;omega)]
def FP(x y:AC)(o:List AC):List AC:=if y.Name=[] then o++[x] else if y.Value=[] then o else o++[y]
def FX(x y:AC)(o:List AC):List AC:=o++[if y.Name=[] then x else y]
def FW(x y:AC)(o:List AC):List AC:=if y.Name=[] then o++[x] else o
theorem XU(x y o):(FP x y o).length≤o.length+1:=by unfold FP;split;simp;split<;>simp
theorem iD(x y o):(FX x y o).length≤o.length+1:=by unfold FX;simp
theorem bG(x y o):(FW x y o).length≤o.length+1:=by unfold FW;split<;>simp
theorem Q9(c:List AC)(x y:AC)(h:c.length+1≤4398046511104):Lb c x y=some (FP x y c):=by
 unfold Lb FP
 rw[Hl h,Hl h]
 by_cases j:y.Name=[]<;>by_cases l:y.Value=[]<;>simp[j,l]
theorem dR(x y:AC):x=y↔x.Name=y.Name∧x.Value=y.Value:=by cases x;cases y;simp
theorem RQ(c:List AC)(x y:AC)(h:c.length+1≤4398046511104):Ls c x y=some (FX x y c):=by
 unfold Ls FX
 by_cases j:y.Name=[]<;>simp[j,Hl h]
theorem Pv(c:List AC)(x y:AC)(h:c.length+1≤4398046511104):Kr c x y=some (FW x y c):=by
 unfold Kr FW
 rw[Hl h]
 by_cases j:y.Name=[]<;>simp[j]
theorem nj(a b:List AC) i j(o:List AC)(M:a.length+b.length≤4398046511104)(U:i≤a.length)(V:j≤b.length)(X:o.length+(a.length-i)+(b.length-j)≤4398046511104):PQ a b i j o=JI FP a b i j o:=by
 unfold PQ JI
 by_cases l:i<a.length
 ·rw[vx (by simp;omega),vx (.inl l),AR l]
  have A:decide ((i:Int)<(a.length:Int))=true:=by simp;omega
  have B:decide ((i:Int)=(a.length:Int))=false:=by simp;omega
  rw[A,B]
  by_cases q:j<b.length
  ·have w:decide ((j:Int)=(b.length:Int))=false:=by simp;omega
   rw[w,AR q]
   simp only[xq,xJ,ze,At,AE,xj]
   rw[Q9 _ _ _ (by omega),Q9 _ _ _ (by omega),Q9 _ _ _ (by omega)]
   simp only[AE]
   rw[Aa (by omega),Aa (by omega)]
   simp only[AE]
   have u:¬ j=b.length:=by omega
   have C:¬ i=a.length:=by omega
   simp only[u,C,l,true_and,zX];rfl
  ·have E:j=b.length:=by omega
   have w:decide ((j:Int)=(b.length:Int))=true:=by simp;omega
   rw[w]
   have F:((true==false)&&(true==true))=false:=rfl
   rw[F]
   simp only[Fl,AE,yf]
   rw[vx trivial,vx (.inl E),Q9 _ _ _ (by omega),AE,Aa (by omega),AE];rfl
 ·have I:i=a.length:=by omega
  have A:decide ((i:Int)<(a.length:Int))=false:=by simp;omega
  have B:decide ((i:Int)=(a.length:Int))=true:=by simp;omega
  rw[A,B]
  by_cases q:j<b.length
  ·have w:decide ((j:Int)=(b.length:Int))=false:=by simp;omega
   have J:decide ((j:Int)<(b.length:Int))=true:=by simp;omega
   have u:¬ j=b.length:=by omega
   rw[w,J,vx (by rfl),vx (.inr q),AR q]
   have F:((false==false)&&(false==true))=false:=rfl
   have O:((true==false))=false:=rfl
   rw[F,O]
   simp only[Fl,AE,xj,yR,yf,xm,xo,ya]
   have T:¬ (j=b.length∨i<a.length∧A1 a[i]!.Name b[j]!.Name=true):=by
    intro h;rcases h with h | h
    ·exact u h
    ·exact l h.1
   rw[ne T,vx (.inl I),Q9 _ _ _ (by omega),AE,Aa (by omega),AE];rfl
  ·have J:decide ((j:Int)<(b.length:Int))=false:=by simp;omega
   rw[J,ne (by decide),ne (by omega)]
theorem qB(c a b:List AC)(h:c.length+a.length+b.length≤4398046511104):RH c a b=some (Bs FP a b c):=by
 unfold RH
 rw[Va FP a b c 4398046511104 XU (λi j o l q u=>nj a b i j o (by omega) l q u) h];rfl
theorem WL(a b:List AC)(h:a.length+b.length≤4398046511104):LQ a b=some (Bs FP a b []):=by
 unfold LQ;rw[qB [] a b (by simpa using h)];rfl
theorem ug(a b:List AC) i j(o:List AC)(M:a.length+b.length≤4398046511104)(U:i≤a.length)(V:j≤b.length)(X:o.length+(a.length-i)+(b.length-j)≤4398046511104):Oh a b i j o=JI FX a b i j o:=by
 unfold Oh JI
 by_cases l:i<a.length
 ·rw[vx (by simp;omega),vx (.inl l),AR l]
  have A:decide ((i:Int)<(a.length:Int))=true:=by simp;omega
  have B:decide ((i:Int)=(a.length:Int))=false:=by simp;omega
  rw[A,B]
  by_cases q:j<b.length
  ·have w:decide ((j:Int)=(b.length:Int))=false:=by simp;omega
   rw[w,AR q]
   simp only[xq,xJ,ze,At,AE,xj]
   rw[RQ _ _ _ (by omega),RQ _ _ _ (by omega),RQ _ _ _ (by omega)]
   simp only[AE]
   rw[Aa (by omega),Aa (by omega)]
   simp only[AE]
   have u:¬ j=b.length:=by omega
   have C:¬ i=a.length:=by omega
   simp only[u,C,l,true_and,zX];rfl
  ·have E:j=b.length:=by omega
   have w:decide ((j:Int)=(b.length:Int))=true:=by simp;omega
   rw[w]
   have F:((true==false)&&(true==true))=false:=rfl
   rw[F]
   simp only[Fl,AE,yf]
   rw[vx trivial,vx (.inl E),RQ _ _ _ (by omega),AE,Aa (by omega),AE];rfl
 ·have I:i=a.length:=by omega
  have A:decide ((i:Int)<(a.length:Int))=false:=by simp;omega
  have B:decide ((i:Int)=(a.length:Int))=true:=by simp;omega
  rw[A,B]
  by_cases q:j<b.length
  ·have w:decide ((j:Int)=(b.length:Int))=false:=by simp;omega
   have J:decide ((j:Int)<(b.length:Int))=true:=by simp;omega
   have u:¬ j=b.length:=by omega
   rw[w,J,vx (by rfl),vx (.inr q),AR q]
   have F:((false==false)&&(false==true))=false:=rfl
   have O:((true==false))=false:=rfl
   rw[F,O]
   simp only[Fl,AE,xj,yR,yf,xm,xo,ya]
   have T:¬ (j=b.length∨i<a.length∧A1 a[i]!.Name b[j]!.Name=true):=by
    intro h;rcases h with h | h
    ·exact u h
    ·exact l h.1
   rw[ne T,vx (.inl I),RQ _ _ _ (by omega),AE,Aa (by omega),AE];rfl
  ·have J:decide ((j:Int)<(b.length:Int))=false:=by simp;omega
   rw[J,ne (by decide),ne (by omega)]
theorem uQ(c a b:List AC)(h:c.length+a.length+b.length≤4398046511104):PD c a b=some (Bs FX a b c):=by
 unfold PD
 rw[Va FX a b c 4398046511104 iD (λi j o l q u=>ug a b i j o (by omega) l q u) h];rfl
theorem kx(a b:List AC)(h:a.length+b.length≤4398046511104):Of a b=some (Bs FX a b []):=by
 unfold Of;rw[uQ [] a b (by simpa using h)];rfl
theorem oo(a b:List AC) i j(o:List AC)(M:a.length+b.length≤4398046511104)(U:i≤a.length)(V:j≤b.length)(X:o.length+(a.length-i)+(b.length-j)≤4398046511104):QF a b i j o=JI FW a b i j o:=by
 unfold QF JI
 by_cases l:i<a.length
 ·rw[vx (by simp;omega),vx (.inl l),AR l]
  have A:decide ((i:Int)<(a.length:Int))=true:=by simp;omega
  have B:decide ((i:Int)=(a.length:Int))=false:=by simp;omega
  rw[A,B]
  by_cases q:j<b.length
  ·have w:decide ((j:Int)=(b.length:Int))=false:=by simp;omega
   rw[w,AR q]
   simp only[xq,xJ,ze,At,AE,xj]
   rw[Pv _ _ _ (by omega),Pv _ _ _ (by omega),Pv _ _ _ (by omega)]
   simp only[AE]
   rw[Aa (by omega),Aa (by omega)]
   simp only[AE]
   have u:¬ j=b.length:=by omega
   have C:¬ i=a.length:=by omega
   simp only[u,C,l,true_and,zX];rfl
  ·have E:j=b.length:=by omega
   have w:decide ((j:Int)=(b.length:Int))=true:=by simp;omega
   rw[w]
   have F:((true==false)&&(true==true))=false:=rfl
   rw[F]
   simp only[Fl,AE,yf]
   rw[vx trivial,vx (.inl E),Pv _ _ _ (by omega),AE,Aa (by omega),AE];rfl
 ·have I:i=a.length:=by omega
  have A:decide ((i:Int)<(a.length:Int))=false:=by simp;omega
  have B:decide ((i:Int)=(a.length:Int))=true:=by simp;omega
  rw[A,B]
  by_cases q:j<b.length
  ·have w:decide ((j:Int)=(b.length:Int))=false:=by simp;omega
   have J:decide ((j:Int)<(b.length:Int))=true:=by simp;omega
   have u:¬ j=b.length:=by omega
   rw[w,J,vx (by rfl),vx (.inr q),AR q]
   have F:((false==false)&&(false==true))=false:=rfl
   have O:((true==false))=false:=rfl
   rw[F,O]
   simp only[Fl,AE,xj,yR,yf,xm,xo,ya]
   have T:¬ (j=b.length∨i<a.length∧A1 a[i]!.Name b[j]!.Name=true):=by
    intro h;rcases h with h | h
    ·exact u h
    ·exact l h.1
   rw[ne T,vx (.inl I),Pv _ _ _ (by omega),AE,Aa (by omega),AE];rfl
  ·have J:decide ((j:Int)<(b.length:Int))=false:=by simp;omega
   rw[J,ne (by decide),ne (by omega)]
theorem nC(c a b:List AC)(h:c.length+a.length+b.length≤4398046511104):Pe c a b=some (Bs FW a b c):=by
 unfold Pe
 rw[Va FW a b c 4398046511104 bG (λi j o l q u=>oo a b i j o (by omega) l q u) h];rfl
theorem ls(a b:List AC)(h:a.length+b.length≤4398046511104):Oj a b=some (Bs FW a b []):=by
 unfold Oj;rw[nC [] a b (by simpa using h)];rfl
theorem Pr(a b:List AC)(B:a.length≤9223372036854775807):Gz a b=some (decide (a=b)):=by
 unfold Gz
 by_cases q:a.length=b.length
 ·rw[ne (by simp[q]),CT (n:=a.length) (λk=>if decide (a[k]! = b[k]!) then none else some false) (λk w=>by
   unfold Pk
   rw[vx (by simpa using w),AR w,AR (by omega),AE,AE,Aa (by omega)]
   generalize a[k]! = x
   generalize b[k]! = y
   by_cases h:x=y
   ·subst h;simp[Cb]
   ·have A:=h;rw[dR] at A
    simp only[v6 h,zf]
    by_cases j:x.Name=y.Name
    ·have u:¬ x.Value=y.Value:=λe=>A ⟨j,e⟩
     simp[j,u,Cb]
    ·simp[j,Cb]) (by unfold Pk;rw[ne (by simp)]),IR,Ek]
  by_cases h:a=b
  ·subst h;simp
  ·rw[v6 h]
   have:((List.range a.length).all λk=>decide (a[k]! = b[k]!))=false:=by
    rw[← xR,wT]
    intro l
    apply h
    apply yh q
    intro k j u
    have:=l k (wh.2 j)
    simp only[vy] at this
    rwa [wD a k j,wD b k u] at this
   rw[this];rfl
 ·rw[vx (by simp;omega),v6 (by rintro rfl;exact q rfl)]
theorem NX(a b:List AC)(B:a.length≤9223372036854775807):GC a b=some (decide (a=b)):=by
 unfold GC
 by_cases q:a.length=b.length
 ·rw[ne (by simp[q]),CT (n:=a.length) (λk=>if decide (a[k]! = b[k]!) then none else some false) (λk w=>by
   unfold Oa
   rw[vx (by simpa using w),AR w,AR (by omega),AE,AE,Aa (by omega)]
   generalize a[k]! = x
   generalize b[k]! = y
   by_cases h:x=y
   ·subst h;simp[Cb]
   ·have A:=h;rw[dR] at A
    simp only[v6 h,zf]
    by_cases j:x.Name=y.Name
    ·have u:¬ x.Value=y.Value:=λe=>A ⟨j,e⟩
     simp[j,u,Cb]
    ·simp[j,Cb]) (by unfold Oa;rw[ne (by simp)]),IR,Ek]
  by_cases h:a=b
  ·subst h;simp
  ·rw[v6 h]
   have:((List.range a.length).all λk=>decide (a[k]! = b[k]!))=false:=by
    rw[← xR,wT]
    intro l
    apply h
    apply yh q
    intro k j u
    have:=l k (wh.2 j)
    simp only[vy] at this
    rwa [wD a k j,wD b k u] at this
   rw[this];rfl
 ·rw[vx (by simp;omega),v6 (by rintro rfl;exact q rfl)]
theorem pK{α β:Type}[Inhabited α]{f}(l:List α)(j:β→α→β)(I:β→Nat→Prop)(w:∀b k, k<l.length→I b k→I (j b l[k]!) (k+1))
 (A:∀b (k:Nat), k<l.length→I b k→f (b, (k:Int))=some (.inl (j b l[k]!, ((k+1:Nat):Int)))) (B:∀b, f (b, (l.length:Int))=some (.inr b)) (b0:β) (C:I b0 0):iter f (b0, 0)=some (l.foldl j b0) := by
  have key:∀(m k:Nat) (b:β), k+m=l.length→I b k→iter f (b, (k:Int))=some ((l.drop k).foldl j b) := by
    intro m
    induction m with
    | zero =>
      intro k b E _
      have:k=l.length := by omega
      subst this
      rw[B3 (B b)];simp
    | succ m F =>
      intro k b E u
      have q:k<l.length := by omega
      rw[DM (A b k q u), F (k+1) _ (by omega) (w b k q u), xr q, wg, wD l k q]
  have := key l.length 0 b0 (by omega) C
  simpa using this
theorem mz{α β:Type}[Inhabited α]{f}(l:List α)(j:β→α→β)(I:β→Nat→Prop)(w:∀b k, k<l.length→I b k→I (j b l[k]!) (k+1))
 (A:∀b (k:Nat), k<l.length→I b k→f ((k:Int), b)=some (.inl (((k+1:Nat):Int), j b l[k]!))) (B:∀b, f ((l.length:Int), b)=some (.inr b)) (b0:β) (C:I b0 0):iter f (0, b0)=some (l.foldl j b0) := by
  have key:∀(m k:Nat) (b:β), k+m=l.length→I b k→iter f ((k:Int), b)=some ((l.drop k).foldl j b) := by
    intro m
    induction m with
    | zero =>
      intro k b E _
      have:k=l.length := by omega
      subst this
      rw[B3 (B b)];simp
    | succ m F =>
      intro k b E u
      have q:k<l.length := by omega
      rw[DM (A b k q u), F (k+1) _ (by omega) (w b k q u), xr q, wg, wD l k q]
  have := key l.length 0 b0 (by omega) C
  simpa using this
theorem qL{α γ β:Type}[Inhabited α]{f}(l:List α)(j:γ × β→α→γ × β)(I:γ × β→Nat→Prop)(w:∀b k, k<l.length→I b k→I (j b l[k]!) (k+1))
 (A:∀c b (k:Nat), k<l.length→I (c, b) k→f (c, (k:Int), b)=some (.inl ((j (c, b) l[k]!).1, ((k+1:Nat):Int), (j (c, b) l[k]!).2))) (B:∀c b, f (c, (l.length:Int), b)=some (.inr (c, b))) (c0:γ) (b0:β) (C:I (c0, b0) 0) :
    iter f (c0, 0, b0)=some (l.foldl j (c0, b0)) := by
  have key:∀(m k:Nat) (b:γ × β), k+m=l.length→I b k→iter f (b.1, (k:Int), b.2)=some ((l.drop k).foldl j b) := by
    intro m
    induction m with
    | zero =>
      intro k b E _
      have:k=l.length := by omega
      subst this
      rw[B3 (B _ _)];simp
    | succ m F =>
      intro k b E u
      have q:k<l.length := by omega
      rw[DM (A b.1 b.2 k q u), F (k+1) _ (by omega) (w b k q u), xr q, wg, wD l k q]
  have := key l.length 0 (c0, b0) (by omega) C
  simpa using this
theorem kY a:A1 a []=false:=by cases a<;>rfl
theorem HK:∀ {a b c:List UInt8},A1 a b=true→A1 b c=true→A1 a c=true
 | _,[],_,h,_=>by rw[kY] at h;cases h
 | _,_::_,[],_,h=>by cases h
 | [],_::_,_::_,_,_=>rfl
 | a::x,b::y,c::z,h,k=>by
  rw[YO] at h k ⊢
  simp only[wF,vy,v7,zj,yr] at h k ⊢
  rcases h with h | ⟨rfl,h⟩<;>rcases k with k | ⟨rfl,k⟩
  ·left;omega
  ·left;exact h
  ·left;exact k
  ·right;exact⟨rfl,HK h k⟩
def Bc(l:List AC):Prop:=l.Pairwise λx y=>A1 x.Name y.Name=true
def Ar:List AC→List UInt8→Option AC
 | [],_=>none
 | x::l,n=>if x.Name=n then some x else Ar l n
theorem H0{l}{n}(h:∀e∈l,e.Name≠n):Ar l n=none:=by
 induction l with
 | nil=>rfl
 | cons x l j=>rw[Ar,ne (h x (v8 ..)),j λe q=>h e (wC _ q)]
theorem Sn{l}{n}{e:AC}(h:Ar l n=some e):e.Name=n∧e∈l:=by
 induction l with
 | nil=>cases h
 | cons x l j=>
  rw[Ar] at h
  split at h
  ·cases h;exact⟨‹_›,v8 ..⟩
  ·exact⟨(j h).1,wC _ (j h).2⟩
theorem Ez{a b}(h:A1 a b=true):b≠a:=by rintro rfl;rw[VR] at h;cases h
theorem EO{x:AC}{l} : Bc (x::l)↔(∀e∈l,A1 x.Name e.Name=true)∧Bc l:=List.pairwise_cons
theorem Qi:∀ {l m:List AC},Bc l→Bc m→(∀n,Ar l n=Ar m n)→l=m
 | [],[],_,_,_=>rfl
 | [],y::m,_,_,h=>by have:=h y.Name;simp[Ar] at this
 | x::l,[],_,_,h=>by have:=h x.Name;simp[Ar] at this
 | x::l,y::m,E,F,h=>by
  have w:=EO.1 E
  have A:=EO.1 F
  have B:x.Name=y.Name:=by
   rcases j:A1 x.Name y.Name with _ | _
   ·rcases q:A1 y.Name x.Name with _ | _
    ·have:=OE x.Name y.Name
     rw[j,q] at this
     simpa using this
    ·have:=h y.Name
     rw[Ar,ne (Ez q),H0 λe u=>Ez (HK q (w.1 e u)),Ar,vx rfl] at this
     cases this
   ·have:=h x.Name
    rw[Ar,vx rfl,Ar,ne (Ez j),H0 λe u=>Ez (HK j (A.1 e u))] at this
    cases this
  have I:x=y:=by
   have:=h x.Name
   rw[Ar,vx rfl,Ar,vx B.symm] at this
   exact wo this
  subst I
  rw[Qi w.2 A.2 λn=>?_]
  by_cases C:x.Name=n
  ·subst C
   rw[H0 λe u=>Ez (w.1 e u),H0 λe u=>Ez (A.1 e u)]
  ·have:=h n
   rwa [Ar,ne C,Ar,ne C] at this
def Cu:List AC→AC→List AC
 | [],a=>[a]
 | x::l,a=>if x.Name=a.Name then a::l else if A1 x.Name a.Name=true then x::Cu l a else a::x::l
theorem eB{l}{a e}(h:e∈Cu l a):e=a∨e∈l:=by
 induction l with
 | nil=>simpa[Cu] using h
 | cons x l j=>
  rw[Cu] at h
  split at h
  ·rcases wM.1 h with h | h
   ·exact .inl h
   ·exact .inr (wC _ h)
  ·split at h
   ·rcases wM.1 h with h | h
    ·exact .inr (h ▸ v8 ..)
    ·rcases j h with h | h
     ·exact .inl h
     ·exact .inr (wC _ h)
   ·rcases wM.1 h with h | h
    ·exact .inl h
    ·exact .inr h
theorem hZ{a b}(j:a≠b)(l:¬ A1 a b=true):A1 b a=true:=by
 have:=OE a b
 rw[xt.2 l,v6 j] at this
 simpa using this
theorem OL{l}(a:AC)(h:Bc l):Bc (Cu l a):=by
 induction l with
 | nil=>simp[Cu,Bc]
 | cons x l B=>
  have u:=EO.1 h
  rw[Cu]
  split
  ·rename_i A;exact EO.2 ⟨λe j=>by rw[← A];exact u.1 e j,u.2⟩
  ·rename_i A
   split
   ·rename_i q
    exact EO.2 ⟨λe j=>by rcases eB j with rfl | j;exact q;exact u.1 e j,B u.2⟩
   ·rename_i q
    have w:=hZ A q
    exact EO.2 ⟨λe j=>by rcases wM.1 j with rfl | j;exact w;exact HK w (u.1 e j),h⟩
theorem Ss l(a:AC) n:Ar (Cu l a) n=if a.Name=n then some a else Ar l n:=by
 induction l with
 | nil=>simp[Cu,Ar]
 | cons x l q=>
  rw[Cu]
  split
  ·rename_i j
   rw[Ar,Ar]
   by_cases h:a.Name=n
   ·rw[vx h,vx h]
   ·rw[ne h,ne h,ne (by rw[j];exact h)]
  ·rename_i j
   split
   ·rw[Ar,Ar,q]
    by_cases h:a.Name=n
    ·rw[vx h,ne (by rw[← h];exact j),vx h]
    ·rw[ne h,ne h]
   ·rw[Ar]
theorem KO(l:List AC) a:(Cu l a).length≤l.length+1:=by
 induction l with
 | nil=>simp[Cu]
 | cons x l j=>rw[Cu];split;simp;split;simp;omega;simp
def EL(a:AC)(s:Bool × List AC)(x:AC):Bool × List AC:=
 let j:=if s.1=false∧A1 x.Name a.Name=false then(true,s.2++[a]) else s
 if x.Name=a.Name then j else(j.1,j.2++[x])
theorem Vs(a:AC):∀(l:List AC) (o:List AC),(∀e∈l,A1 a.Name e.Name=true)→l.foldl (EL a) (true,o)=(true,o++l)
 | [],o,_=>by simp
 | x::l,o,h=>by
  have j:=h x (v8 ..)
  have:EL a (true,o) x=(true,o++[x]):=by simp[EL,Ez j]
  rw[wg,this,Vs a l _ λe q=>h e (wC _ q)]
  simp
theorem ZK(a:AC):∀(l:List AC) (o:List AC),Bc l→(let s:=l.foldl (EL a) (false,o);if s.1 then s.2 else s.2++[a])=o++Cu l a
 | [],o,_=>by simp[Cu]
 | x::l,o,h=>by
  have u:=EO.1 h
  rw[wg,Cu]
  by_cases q:x.Name=a.Name
  ·have B:A1 x.Name a.Name=false:=by rw[q];exact VR _
   have:EL a (false,o) x=(true,o++[a]):=by simp[EL,q,VR]
   rw[this,Vs a l _ λe w=>by rw[← q];exact u.1 e w,vx q]
   simp
  ·by_cases j:A1 x.Name a.Name=true
   ·have:EL a (false,o) x=(false,o++[x]):=by simp[EL,q,j]
    rw[this,ZK a l _ u.2,ne q,vx j]
    simp
   ·have A:=hZ q j
    have:EL a (false,o) x=(true,o++[a]++[x]):=by simp[EL,q,xt.2 j]
    rw[this,Vs a l _ λe w=>HK A (u.1 e w),ne q,ne j]
    simp
theorem eO(a:AC) s(x:AC):(EL a s x).2.length≤s.2.length+2:=by
 unfold EL
 have:(if s.1=false∧A1 x.Name a.Name=false then(true,s.2++[a]) else s).2.length≤s.2.length+1:=by split<;>simp
 generalize (if s.1=false∧A1 x.Name a.Name=false then(true,s.2++[a]) else s)=t at this
 by_cases j:x.Name=a.Name
 ·simp only[j,xm];omega
 ·simp only[j,ya,wG,wm];omega
theorem SH(l:List AC)(a:AC)(B:Bc l)(h:l.length≤1099511627776):II l a=some (Cu l a):=by
 unfold II
 rw[qL l (EL a) (λs k=>s.2.length≤2 * k) (λb k _ u=>by have:=eO a b l[k]!;show(EL a b l[k]!).2.length≤_;omega) (λc b k w u=>by
  have C:b.length≤2 * k:=u
  unfold OY
  rw[vx (by simpa using w),AR w,Aa (by omega)]
  simp only[AE]
  generalize l[k]! = x
  have E:app 32 b [a]=some (b++[a]):=Hl (by omega)
  have A:app 32 b [x]=some (b++[x]):=Hl (by omega)
  have F:app 32 (b++[a]) [x]=some (b++[a]++[x]):=Hl (by simp;omega)
  cases c
  ·simp only[zY,xq,At,AE,xJ]
   unfold EL
   cases J:A1 x.Name a.Name
   ·by_cases q:x.Name=a.Name<;>simp[E,F,q]
   ·by_cases q:x.Name=a.Name<;>simp[A,q]
  ·have:((!true)==true)=false:=rfl
   rw[this,Fl]
   simp only[AE,zJ,yR,xo,ya,Bi]
   unfold EL
   by_cases q:x.Name=a.Name<;>simp[A,q]) (λc b=>by unfold OY;rw[ne (by simp)]) false [] (by simp)]
 have hp:=ZK a l [] B
 have j:(l.foldl (EL a) (false,([]:List AC))).2.length≤2 * l.length:=by
  have:∀(m:List AC) (s:Bool × List AC),(m.foldl (EL a) s).2.length≤s.2.length+2 * m.length:=by
   intro m
   induction m with
   | nil=>intro s;simp
   | cons x m I=>intro s;rw[wg];have:=I (EL a s x);have:=eO a s x;simp only[wK];omega
  have:=this l (false,[])
  simpa using this
 generalize l.foldl (EL a) (false,([]:List AC))=s at hp j
 obtain⟨c,o⟩:=s
 simp only[Bi]
 cases c
 ·simp only[zY,xm]
  rw[Hl (by simp at j;omega)]
  simpa using hp
 ·simpa using hp
def D4(g:AC→AC→List AC):List AC→List AC→List AC
 | [],[]=>[]
 | x::a,[]=>g x DB++D4 g a []
 | [],y::b=>g DB y++D4 g [] b
 | x::a,y::b=>if A1 x.Name y.Name then g x DB++D4 g a (y::b) else if A1 y.Name x.Name then g DB y++D4 g (x::a) b else g x y++D4 g a b
  termination_by a b=>a.length+b.length
theorem mQ l g(h:∀x y o,l x y o=o++g x y):∀(m:Nat) (a b c:List AC),a.length+b.length=m→Bs l a b c=c++D4 g a b:=by
 intro m
 induction m using Nat.strongRecOn with
 | _ m q=>
  intro a b c j
  cases a with
  | nil=>
   cases b with
   | nil=>simp[Bs,D4]
   | cons y b=>rw[Bs,D4,q (m-1) (by simp at j;omega) [] b _ (by simp at j ⊢;omega),h];simp
  | cons x a=>
   cases b with
   | nil=>rw[Bs,D4,q (m-1) (by simp at j;omega) a [] _ (by simp at j ⊢;omega),h];simp
   | cons y b=>
    rw[Bs,D4]
    split
    ·rw[q (m-1) (by simp at j;omega) a (y::b) _ (by simp at j ⊢;omega),h];simp
    ·split
     ·rw[q (m-1) (by simp at j;omega) (x::a) b _ (by simp at j ⊢;omega),h];simp
     ·rw[q (m-2) (by simp at j;omega) a b _ (by simp at j ⊢;omega),h];simp
def SO(l:List AC)(n:List UInt8)(o:Option AC):Prop:=l=o.toList∧∀e,o=some e→e.Name=n
structure NI(g:AC→AC→List AC)(G:Option AC→Option AC→Option AC):Prop where
 l:∀x:AC,x.Name≠[]→SO (g x DB) x.Name (G (some x) none)
 r:∀y:AC,y.Name≠[]→SO (g DB y) y.Name (G none (some y))
 b:∀x y:AC,x.Name=y.Name→x.Name≠[]→SO (g x y) x.Name (G (some x) (some y))
 n:G none none=none
theorem tu{o:Option AC}{j}{rest}(A:∀e,o=some e→e.Name=j)(q:∀e∈rest,A1 j e.Name=true)(u:Bc rest):Bc (o.toList++rest)∧∀n,Ar (o.toList++rest) n=if j=n then o else Ar rest n:=by
 cases o with
 | none=>
  refine⟨u,λn=>?_⟩
  split
  ·rename_i h;subst h;exact H0 λe l=>Ez (q e l)
  ·rfl
 | some x=>
  have w:=A x rfl
  refine⟨EO.2 ⟨λe l=>by rw[w];exact q e l,u⟩,λn=>?_⟩
  show Ar (x::rest) n=_
  rw[Ar,w]
def Nm(l:List AC):Prop:=∀e∈l,e.Name≠[]
theorem nV{g}{G}(hg:NI g G):∀(m:Nat) (a b:List AC),a.length+b.length=m→Bc a→Bc b→Nm a→Nm b →
  (∀n,(∀e∈a,A1 n e.Name=true)→(∀e∈b,A1 n e.Name=true)→∀e∈D4 g a b,A1 n e.Name=true)∧Bc (D4 g a b)∧∀n,Ar (D4 g a b) n=G (Ar a n) (Ar b n):=by
 intro m
 induction m using Nat.strongRecOn with
 | _ m ih=>
  intro a b T V U O J
  have tail:∀ {l:List AC} {I:List UInt8} {o:Option AC} {a' b':List AC},SO l I o→a'.length+b'.length<m→Bc a'→Bc b'→Nm a'→Nm b'→(∀e∈a',A1 I e.Name=true)→(∀e∈b',A1 I e.Name=true) →
    (∀n,A1 n I=true→∀e∈l++D4 g a' b',A1 n e.Name=true)∧Bc (l++D4 g a' b')∧∀n,Ar (l++D4 g a' b') n=if I=n then o else G (Ar a' n) (Ar b' n):=by
   rintro l I o a' b' ⟨rfl,ho⟩ q X Y Z a0 u B
   obtain⟨i1,i2,i3⟩:=ih _ q a' b' rfl X Y Z a0
   obtain⟨j1,j2⟩:=tu ho (i1 I u B) i2
   refine⟨λn A e j=>?_,j1,λn=>by rw[j2 n,i3 n]⟩
   rcases wn.1 j with j | j
   ·rw[Option.mem_toList] at j;rw[ho e j];exact A
   ·exact HK A (i1 I u B e j)
  cases a with
  | nil=>
   cases b with
   | nil=>exact⟨λn _ _ e j=>by simp[D4] at j,by simp[D4,Bc],λn=>by simp[D4,Ar,hg.n]⟩
   | cons y b=>
    have u:=EO.1 U
    have hy:=J y (v8 ..)
    rw[D4]
    obtain⟨C,E,F⟩:=tail (a':=[]) (b':=b) (hg.r y hy) (by simp at T ⊢;omega) V u.2 O (λe j=>J e (wC _ j)) (λe j=>by cases j) u.1
    refine⟨λn _ h e j=>C n (h y (v8 ..)) e j,E,λn=>?_⟩
    rw[F n]
    conv=>rhs;rw[Ar,Ar]
    split
    ·rfl
    ·rfl
  | cons x a=>
   have u:=EO.1 V
   have hx:=O x (v8 ..)
   cases b with
   | nil=>
    rw[D4]
    obtain⟨C,E,F⟩:=tail (a':=a) (b':=[]) (hg.l x hx) (by simp at T ⊢;omega) u.2 U (λe j=>O e (wC _ j)) J u.1 (λe j=>by cases j)
    refine⟨λn h _ e j=>C n (h x (v8 ..)) e j,E,λn=>?_⟩
    rw[F n]
    conv=>rhs;rw[Ar,Ar]
    split
    ·rfl
    ·rfl
   | cons y b=>
    have B:=EO.1 U
    have hy:=J y (v8 ..)
    rw[D4]
    split
    ·rename_i q
     obtain⟨C,E,F⟩:=tail (a':=a) (b':=y::b) (hg.l x hx) (by simp at T ⊢;omega) u.2 U (λe j=>O e (wC _ j)) J u.1 (λe j=>by
      rcases wM.1 j with rfl | j
      ·exact q
      ·exact HK q (B.1 e j))
     refine⟨λn h _ e j=>C n (h x (v8 ..)) e j,E,λn=>?_⟩
     rw[F n]
     by_cases A:x.Name=n
     ·subst A
      rw[vx rfl,Ar,vx rfl,H0 λe j=>by
       rcases wM.1 j with rfl | j
       ·exact Ez q
       ·exact Ez (HK q (B.1 e j))]
     ·rw[ne A];conv=>rhs;rw[Ar,ne A]
    ·rename_i q
     split
     ·rename_i w
      obtain⟨C,E,F⟩:=tail (a':=x::a) (b':=b) (hg.r y hy) (by simp at T ⊢;omega) V B.2 O (λe j=>J e (wC _ j)) (λe j=>by
       rcases wM.1 j with rfl | j
       ·exact w
       ·exact HK w (u.1 e j)) B.1
      refine⟨λn _ h e j=>C n (h y (v8 ..)) e j,E,λn=>?_⟩
      rw[F n]
      by_cases A:y.Name=n
      ·subst A
       rw[vx rfl]
       conv=>rhs;rw[H0 (l:=x::a) (λe j=>by
        rcases wM.1 j with rfl | j
        ·exact Ez w
        ·exact Ez (HK w (u.1 e j))),Ar,vx rfl]
      ·rw[ne A];conv=>rhs;arg 2;rw[Ar,ne A]
     ·rename_i w
      have M:x.Name=y.Name:=by
       have:=OE x.Name y.Name
       rw[xt.2 q,xt.2 w] at this
       simpa using this
      obtain⟨C,E,F⟩:=tail (a':=a) (b':=b) (hg.b x y M hx) (by simp at T ⊢;omega) u.2 B.2 (λe j=>O e (wC _ j)) (λe j=>J e (wC _ j)) u.1 (λe j=>by rw[M];exact B.1 e j)
      refine⟨λn h _ e j=>C n (h x (v8 ..)) e j,E,λn=>?_⟩
      rw[F n]
      conv=>rhs;rw[Ar,Ar,← M]
      split<;>rfl
def GZ:Option AC→Option AC→Option AC
 | o,none=>o
 | _,some y=>if y.Value=[] then none else some y
def Pf:Option AC→Option AC→Option AC
 | o,none=>o
 | _,some y=>some y
def OF:Option AC→Option AC→Option AC
 | o,none=>o
 | _,some _=>none
theorem Q7{j}{g}{G}(h:∀x y o,j x y o=o++g x y)(hg:NI g G){a b}(l:Bc a)(q:Bc b)(u:Nm a)(w:Nm b) :
  Bc (Bs j a b [])∧∀n,Ar (Bs j a b []) n=G (Ar a n) (Ar b n):=by
 rw[mQ j g h _ a b [] rfl,yk]
 exact(nV hg _ a b rfl l q u w).2
def Nc(x y:AC):List AC:=if y.Name=[] then [x] else if y.Value=[] then [] else [y]
def PN(x y:AC):List AC:=[if y.Name=[] then x else y]
def N0(x y:AC):List AC:=if y.Name=[] then [x] else []
theorem SQ:NI Nc GZ:=by
 refine⟨λx q=>⟨by simp[Nc,GZ,DB],by rintro e ⟨⟩;rfl⟩,λy u=>⟨?_,?_⟩,λx y l q=>⟨?_,?_⟩,rfl⟩
 ·simp only[Nc,GZ,ne u];split<;>rfl
 ·intro e j;simp only[GZ] at j;split at j<;>cases j;rfl
 ·rw[l] at q;simp only[Nc,GZ,ne q];split<;>rfl
 ·intro e j;simp only[GZ] at j;split at j<;>cases j;exact l.symm
theorem pe:NI PN Pf:=by
 refine⟨λx l=>⟨by simp[PN,Pf,DB],by rintro e ⟨⟩;rfl⟩,λy q=>⟨by simp[PN,Pf,ne q],by rintro e ⟨⟩;rfl⟩,λx y j l=>⟨?_,?_⟩,rfl⟩
 ·rw[j] at l;simp[PN,Pf,ne l]
 ·rintro e ⟨⟩;exact j.symm
theorem cQ:NI N0 OF:=by
 refine⟨λx j=>⟨by simp[N0,OF,DB],by rintro e ⟨⟩;rfl⟩,λy q=>⟨by simp[N0,OF,ne q],by rintro e ⟨⟩⟩,λx y l j=>⟨?_,by rintro e ⟨⟩⟩,rfl⟩
 rw[l] at j;simp[N0,OF,ne j]
theorem Sq(x y o):FP x y o=o++Nc x y:=by unfold FP Nc;split;rfl;split;simp;rfl
theorem nW(x y o):FX x y o=o++PN x y:=rfl
theorem il(x y o):FW x y o=o++N0 x y:=by unfold FW N0;split;rfl;simp
theorem jp{l:List AC}(h:∀k,k+1<l.length→A1 l[k]!.Name l[k+1]!.Name=true):Bc l:=by
 induction l with
 | nil=>exact List.Pairwise.nil
 | cons x l w=>
  have q:=w λk A=>by have:=h (k+1) (by simp;omega);simpa using this
  refine EO.2 ⟨λe j=>?_,q⟩
  cases l with
  | nil=>cases j
  | cons y l=>
   have u:A1 x.Name y.Name=true:=by have:=h 0 (by simp);simpa using this
   rcases wM.1 j with rfl | j
   ·exact u
   ·exact HK u ((EO.1 q).1 e j)
theorem EN{l:List AC}{ch:Bool}(h:Am l ch=0):Bc l∧Nm l∧(ch=false→∀e∈l,e.Value≠[]):=by
 have hn:∀k,k<l.length→Et l ch k=none:=by
  intro k hk
  unfold Am at h
  cases hf:(List.range l.length).findSome? (Et l ch) with
  | none=>exact(ZB _ _).1 hf k hk
  | some r=>
   rw[hf] at h
   obtain⟨j,_,hj⟩:=xF hf
   exfalso
   unfold Et at hj
   simp only[yg] at h
   subst h
   repeat' split at hj
   all_goals simp at hj
 have hname:∀k,k<l.length→EV l[k]!.Name=true∧¬ (Dl l[k]!.Value=false∧¬ (ch=true∧l[k]!.Value=[]))∧¬ (0<k∧A1 l[k-1]!.Name l[k]!.Name=false):=by
  intro k hk
  have:=hn k hk
  unfold Et at this
  split at this
  ·cases this
  ·split at this
   ·cases this
   ·split at this
    ·cases this
    ·exact⟨by rcases hx:EV l[k]!.Name with _ | _;exact absurd hx (by assumption);rfl,‹_›,‹_›⟩
 refine⟨jp λk hk=>?_,λe he=>?_,λhc e he=>?_⟩
 ·have:=(hname (k+1) hk).2.2
  rw[Nat.add_sub_cancel] at this
  simpa using this
 ·obtain⟨k,hk,rfl⟩:=xE.1 he
  have:=(hname k hk).1
  rw[wD l k hk] at this
  intro e0
  rw[e0] at this
  simp[EV] at this
 ·obtain⟨k,hk,rfl⟩:=xE.1 he
  have:=(hname k hk).2.1
  rw[wD l k hk,hc] at this
  intro e0
  apply this
  rw[e0]
  exact⟨rfl,by simp⟩
theorem eg(p:AC→Bool)(h:AC→AC)(j:∀x,(h x).Name=x.Name):∀(l o:List AC),Bc l→Bc o →
  Bc (l.foldl (λo x=>if p x then Cu o (h x) else o) o)∧∀n,Ar (l.foldl (λo x=>if p x then Cu o (h x) else o) o) n=match Ar l n with | some x=>if p x then some (h x) else Ar o n | none=>Ar o n
 | [],o,_,q=>⟨q,λn=>rfl⟩
 | x::l,o,B,q=>by
  have A:=EO.1 B
  have w:Bc (if p x then Cu o (h x) else o):=by split;exact OL _ q;exact q
  obtain⟨C,E⟩:=eg p h j l _ A.2 w
  refine⟨C,λn=>?_⟩
  rw[wg,E n,Ar]
  by_cases u:x.Name=n
  ·subst u
   rw[vx rfl,H0 λe F=>Ez (A.1 e F)]
   cases hp:p x
   ·simp[hp]
   ·simp[hp,Ss,j]
  ·rw[ne u]
   cases I:Ar l n with
   | some z => 
    cases hp:p x
    ·simp[hp]
    ·simp[hp,Ss,j,u]
   | none=>
    cases hp:p x
    ·simp[hp]
    ·simp[hp,Ss,j,u]
theorem pD(p:AC→Bool)(h:AC→AC)(l o:List AC):(l.foldl (λo x=>if p x then Cu o (h x) else o) o).length≤o.length+l.length:=by
 induction l generalizing o with
 | nil=>simp
 | cons x l j=>
  rw[wg]
  have q:=j (if p x then Cu o (h x) else o)
  have u:(if p x then Cu o (h x) else o).length≤o.length+1:=by split;exact KO _ _;omega
  simp only[wK]
  omega
def F7(l o:List AC):List AC:=l.foldl (λo x=>if(λ_=>true) x then Cu o (id x) else o) o
theorem W1{l o}(j:Bc l)(q:Bc o):Bc (F7 l o)∧∀n,Ar (F7 l o) n=match Ar l n with | some x=>some x | none=>Ar o n:=by
 obtain⟨u,w⟩:=eg (λ_=>true) id (λ_=>rfl) l o j q
 refine⟨u,λn=>?_⟩
 unfold F7
 rw[w n]
 cases Ar l n<;>simp
theorem dN(l o:List AC):(F7 l o).length≤o.length+l.length:=pD _ _ _ _
theorem aW{f}(l o:List AC)(u:Bc o)(C:o.length+l.length≤1099511627776)
 (w:∀b (k:Nat), k<l.length→f (b, (k:Int))=(AB (II b l[k]!) λo2 => AB (AM .i64 ((k:Int)+1)) λx => some (.inl (o2, x)))) (A:∀b, f (b, (l.length:Int))=some (.inr b)):iter f (o, 0)=some (F7 l o) := by
  unfold F7
  refine pK l _ (λb k => Bc b∧b.length≤o.length+k) (λb k q ⟨j, B⟩ => ?_) (λb k q ⟨j, B⟩ => ?_) A o ⟨u, by omega⟩
  · have := KO b l[k]!
    exact⟨OL _ j, by show(Cu b l[k]!).length≤_;omega⟩
  · rw[w b k q, SH b _ j (by omega), AE, Aa (by omega)];rfl
def Fd(l:List AC):List AC:=l.filter λa=>!(a.Value=[])
theorem tP{l}(h:Bc l):Bc (Fd l)∧∀n,Ar (Fd l) n=(Ar l n).filter λa=>!(a.Value=[]):=by
 induction l with
 | nil=>exact⟨List.Pairwise.nil,λn=>rfl⟩
 | cons x l C=>
  have w:=EO.1 h
  obtain⟨A,B⟩:=C w.2
  have j:∀e∈Fd l,A1 x.Name e.Name=true:=λe u=>w.1 e (yn.1 u).1
  by_cases q:x.Value=[]
  ·have:Fd (x::l)=Fd l:=by simp[Fd,q]
   rw[this]
   refine⟨A,λn=>?_⟩
   rw[Ar]
   split
   ·rename_i E;subst E
    rw[H0 λe u=>Ez (j e u)]
    simp[Option.filter,q]
   ·exact B n
  ·have:Fd (x::l)=x::Fd l:=by simp[Fd,q]
   rw[this]
   refine⟨EO.2 ⟨j,A⟩,λn=>?_⟩
   rw[Ar,Ar]
   split
   ·simp[Option.filter,q]
   ·exact B n
theorem tz(l q:List AC)(B:Bc l)(hc:Bc q)(h:l.length+q.length≤1099511627776):IE l q=some (Fd (F7 q (F7 l []))):=by
 unfold IE
 have A:Bc ([]:List AC):=List.Pairwise.nil
 have C:=(W1 B A).1
 have w:=dN l []
 have E:=dN q (F7 l [])
 rw[aW l [] A (by simp;omega) (λb k j=>by unfold Qh;rw[vx (by simpa using j),AR j];rfl) (λb=>by unfold Qh;rw[ne (by simp)]),AE,
  aW q _ C (by simp at w;omega) (λb k j=>by unfold QV;rw[vx (by simpa using j),AR j];rfl) (λb=>by unfold QV;rw[ne (by simp)]),AE]
 generalize F7 q (F7 l [])=r at E
 rw[mz r (λo x=>if x.Value=[] then o else o++[x]) (λb k=>b.length≤k) (λb k j F=>by split;omega;simp;omega) (λb k j F=>by
  unfold O5
  rw[vx (by simpa using j),AR j,AE,Aa (by simp at w;omega)]
  generalize r[k]! = x
  by_cases u:x.Value=[]
  ·simp[u]
  ·have:=Hl (o:=b) (x:=x) (by simp at w;omega)
   simp[u,this]) (λb=>by unfold O5;rw[ne (by simp)]) [] (by simp),AE]
 have:∀(m o:List AC),m.foldl (λo x=>if x.Value=[] then o else o++[x]) o=o++Fd m:=by
  intro m
  induction m with
  | nil=>intro o;simp[Fd]
  | cons x m I=>
   intro o
   rw[wg,I]
   by_cases u:x.Value=[]
   ·simp[u,Fd]
   ·simp[u,Fd]
 rw[this];rfl
theorem rH{l j}(w:Am l false=0)(A:Am j true=0):Bs FP l j []=Fd (F7 j (F7 l [])):=by
 obtain⟨q,B,v1⟩:=EN w
 obtain⟨u,C,_⟩:=EN A
 have E:Bc ([]:List AC):=List.Pairwise.nil
 obtain⟨F,I⟩:=W1 q E
 obtain⟨J,M⟩:=W1 u F
 obtain⟨O,T⟩:=tP J
 obtain⟨U,V⟩:=Q7 Sq SQ q u B C
 refine Qi U O λn=>?_
 rw[V,T,M,I]
 cases Z:Ar j n with
 | some y=>
  simp only[GZ,Option.filter]
  by_cases X:y.Value=[]<;>simp[X]
 | none=>
  cases Y:Ar l n with
  | some x=>simp[GZ,Option.filter,v1 rfl x (Sn Y).2]
  | none=>simp[GZ,Ar,Option.filter]
theorem cJ{ρ:Type}(g:AC→Option ρ)(l:List AC):(List.range l.length).findSome? (λk=>g l[k]!)=l.findSome? g:=by
 induction l with
 | nil=>rfl
 | cons a l j=>
  rw[wK,List.range_succ_eq_map,xc,List.findSome?_map,xc]
  have:(List.range l.length).findSome? ((λk=>g (a::l)[k]!) ∘ Nat.succ)=l.findSome? g:=by
   rw[← j];exact dM λk _=>by simp
  rw[this]
  simp
theorem gy{ρ:Type}(l:List AC)(n:List UInt8)(v:AC→ρ):(l.findSome? λx=>if x.Name=n then some (v x) else none)=(Ar l n).map v:=by
 induction l with
 | nil=>rfl
 | cons x l j=>
  rw[xc,Ar]
  by_cases h:x.Name=n
  ·simp[h]
  ·simp[h,j]
theorem ru(l:List AC)(n:List UInt8):DU l n=match Ar l n with | some x=>x.Value | none=>[]:=by
 unfold DU
 rw[cJ (λx=>if x.Name=n then some x.Value else none) l,gy l n (·.Value)]
 cases Ar l n<;>rfl
theorem aE(l:List AC)(n:List UInt8)(q:l.length≤9223372036854775807):NE l n=some (Ar l n).isSome:=by
 unfold NE
 rw[CT (n:=l.length) (λk=>(λx:AC=>if x.Name=n then some true else none) l[k]!) (λk j=>by
  unfold Q1
  rw[vx (by simpa using j),AR j,AE,Aa (by omega)]
  generalize l[k]! = x
  by_cases h:x.Name=n<;>simp[h,Cb]) (by unfold Q1;rw[ne (by simp)]),cJ (λx:AC=>if x.Name=n then some true else none) l,gy l n (λ_=>true),Ek]
 cases Ar l n<;>rfl
def FD(a b:List AC):List AC:=a.filter λx=>!(Ar b x.Name).isSome
theorem jO{a}(b:List AC)(h:Bc a):Bc (FD a b)∧∀n,Ar (FD a b) n=OF (Ar a n) (Ar b n):=by
 induction a with
 | nil=>exact⟨List.Pairwise.nil,λn=>by cases Ar b n<;>rfl⟩
 | cons x l E=>
  have A:=EO.1 h
  obtain⟨B,C⟩:=E A.2
  have j:∀e∈FD l b,A1 x.Name e.Name=true:=λe u=>A.1 e (yn.1 u).1
  cases q:Ar b x.Name with
  | some y=>
   have:FD (x::l) b=FD l b:=by simp[FD,q]
   rw[this]
   refine⟨B,λn=>?_⟩
   rw[Ar]
   split
   ·rename_i w;subst w
    rw[H0 λe u=>Ez (j e u),q];rfl
   ·exact C n
  | none=>
   have:FD (x::l) b=x::FD l b:=by simp[FD,q]
   rw[this]
   refine⟨EO.2 ⟨j,B⟩,λn=>?_⟩
   rw[Ar,Ar]
   split
   ·rename_i w;subst w;rw[q];rfl
   ·exact C n
theorem kk{a b}(j:Bc a)(l:Bc b)(q:Nm a)(u:Nm b):Bs FW a b []=FD a b:=by
 obtain⟨w,A⟩:=jO b j
 obtain⟨B,C⟩:=Q7 il cQ j l q u
 exact Qi B w λn=>by rw[C,A]
theorem Rv j(h:∀x y o,(j x y o).length≤o.length+1):∀(m:Nat) (a b c:List AC),a.length+b.length=m→(Bs j a b c).length≤c.length+m:=by
 intro m
 induction m using Nat.strongRecOn with
 | _ m q=>
  intro a b c l
  cases a with
  | nil=>
   cases b with
   | nil=>simp[Bs]
   | cons y b=>rw[Bs];have:=q (m-1) (by simp at l;omega) [] b (j DB y c) (by simp at l ⊢;omega);have:=h DB y c;simp at l;omega
  | cons x a=>
   cases b with
   | nil=>rw[Bs];have:=q (m-1) (by simp at l;omega) a [] (j x DB c) (by simp at l ⊢;omega);have:=h x DB c;simp at l;omega
   | cons y b=>
    rw[Bs]
    split
    ·have:=q (m-1) (by simp at l;omega) a (y::b) (j x DB c) (by simp at l ⊢;omega);have:=h x DB c;simp at l;omega
    ·split
     ·have:=q (m-1) (by simp at l;omega) (x::a) b (j DB y c) (by simp at l ⊢;omega);have:=h DB y c;simp at l;omega
     ·have:=q (m-2) (by simp at l;omega) a b (j x y c) (by simp at l ⊢;omega);have:=h x y c;simp at l;omega
theorem Ec{σ β:Type}{f}(n:Nat)(R:Nat→σ→Prop)(Q:β→Prop)
 (w:∀k s, k<n→R k s→(∃j, f s=some (.inl j)∧R (k+1) j)∨(∃b, f s=some (.inr b)∧Q b))
 (A:∀s, R n s→∃b, f s=some (.inr b)∧Q b) {s} (B:R 0 s):∃b, iter f s=some b∧Q b := by
  have key:∀m k s, k+m=n→R k s→∃b, iter f s=some b∧Q b := by
    intro m
    induction m with
    | zero =>
      intro k s C l
      obtain rfl:k=n := by omega
      obtain⟨b, E, F⟩ := A s l
      exact⟨b, B3 E, F⟩
    | succ m I =>
      intro k s C l
      rcases w k s (by omega) l with ⟨j, q, u⟩ | ⟨b, q, u⟩
      · obtain⟨b, J, M⟩ := I (k+1) j (by omega) u
        exact⟨b, by rw[DM q, J], M⟩
      · exact⟨b, B3 q, u⟩
  exact key n 0 s (by omega) B
theorem G6{α:Type}[Inhabited α]{l:List α}{k}(h:k<l.length):l.drop k=l[k]!::l.drop (k+1):=by
 rw[xr h,wD l k h]
theorem H4{α:Type}[Inhabited α]{l:List α}{k}(h:k<l.length):l.take (k+1)=l.take k++[l[k]!]:=by
 rw[List.take_add_one,wB h,wD l k h];rfl
theorem BL{α:Type}[Inhabited α]{l:List α}{k}(h:k<l.length):l[k]! ∈ l:=by
 rw[wD l k h];exact xz h
theorem nK{ρ:Type}{n k:Nat}{g:Nat→Option ρ}{r:ρ}(w:k<n)(l:∀j,j<k→g j=none)(q:g k=some r):(List.range n).findSome? g=some r:=by
 obtain⟨m,rfl⟩:∃m,n=k+(m+1):=⟨n-k-1,by omega⟩
 rw[yu,← List.range'_append (s:=0) (m:=k) (n:=m+1) (step:=1),List.findSome?_append]
 have:(List.range' 0 k).findSome? g=none:=by
  rw[xD];intro x u;exact l x (by simpa using u)
 rw[this,yp,wY,zm,xc,q];rfl
theorem ZE{ρ:Type}{n:Nat}{g:Nat→Option ρ}(l:∀j,j<n→g j=none):(List.range n).findSome? g=none:=by
 rw[xD];intro x q;exact l x (by simpa using q)
theorem LG{x}(j : -9223372036854775808≤x)(l:x≤9223372036854775807):AM .i64 x=some x:=Bz j l
theorem Is x j l:Cr x j l=some ((j≤x)&&(x≤l)):=by
 unfold Cr
 rfl
theorem kN{α σ β γ:Type}[Inhabited α]{f}(l:List α)(mk:γ→Nat→σ)(j:List α→γ→β)(I:Nat→γ→Prop)
 (A:∀k c, k<l.length→I k c→(∃q, f (mk c k)=some (.inl (mk q (k+1)))∧I (k+1) q∧j (l[k]!::l.drop (k+1)) c=j (l.drop (k+1)) q)∨f (mk c k)=some (.inr (j (l[k]!::l.drop (k+1)) c)))
 (B:∀c, I l.length c→f (mk c l.length)=some (.inr (j [] c))) (c:γ) (C:I 0 c) (s:σ) (E:s=mk c 0):iter f s=some (j l c) := by
  subst E
  have key:∀m k c, k+m=l.length→I k c→iter f (mk c k)=some (j (l.drop k) c) := by
    intro m
    induction m with
    | zero =>
      intro k c F u
      obtain rfl:k=l.length := by omega
      rw[yi]
      exact B3 (B c u)
    | succ m J =>
      intro k c F u
      rw[G6 (by omega)]
      rcases A k c (by omega) u with ⟨q, w, M, O⟩ | w
      · rw[DM w, J (k+1) q (by omega) M, O]
      · exact B3 w
  have := key l.length 0 c (by omega) C
  rwa [List.drop_zero] at this
theorem UY{o:List Int}{x}(h:o.length+1≤1099511627776):app 8 o [x]=some (o++[x]):=by
 unfold app;rw[vx (by simp;omega)]
def Er(c:Int):Bool:=(c=9)||(c=10)||((32≤c)&&(c≤126))||((160≤c)&&(c≤55295))||((57344≤c)&&(c≤1114111))
def Bv(x:AD):Int:=
 if(x.Char=0∧x.Ref=0)∨(x.Char≠0∧x.Ref≠0) then 4 else if(x.Char≠0∧Er x.Char=false)∨(x.Ref≠0∧¬ (1≤x.Ref∧x.Ref≤1073741824)) then 2 else Am x.Attrs false
def EX(x:AD):Prop:=x.Attrs.length≤9223372036854775807∧GR x.Attrs
theorem TL c:Jb c=some (Er c):=by
 unfold Jb Er
 congr 1
 rw[ws]
 simp only[wF,v7,vy]
 omega
theorem Tn c:Jl c=some (Er c):=by
 unfold Jl Er
 rw[Is,Is,Is]
 generalize decide (c=9)=j
 generalize decide (c=10)=l
 generalize ((32≤c)&&(c≤126))=a3
 generalize ((160≤c)&&(c≤55295))=a4
 generalize ((57344≤c)&&(c≤1114111))=a5
 cases j<;>cases l<;>cases a3<;>cases a4<;>cases a5<;>rfl
theorem VO(x:AD)(h:EX x):N9 x=some (Bv x):=by
 unfold N9 Bv
 rw[TL,PP _ h.2 h.1]
 by_cases c:x.Char=0
 ·by_cases r:x.Ref=0
  ·simp[c,r]
  ·by_cases q:1≤x.Ref∧x.Ref≤1073741824
   ·have j:¬ x.Ref<1:=by omega
    have l:¬ 1073741824<x.Ref:=by omega
    simp[c,r,q,j,l]
   ·have j:x.Ref<1∨1073741824<x.Ref:=by omega
    simp[c,r,q,j]
 ·by_cases r:x.Ref=0
  ·cases u:Er x.Char<;>simp[c,r,u]
  ·simp[c,r]
theorem XB(x:AD)(h:EX x):N8 x=some (Bv x):=by
 unfold N8 Bv
 rw[Tn,RN _ _ h.2 h.1,Is]
 by_cases c:x.Char=0
 ·by_cases r:x.Ref=0
  ·simp[c,r]
  ·by_cases q:1≤x.Ref∧x.Ref≤1073741824
   ·simp[c,r,q]
   ·have j:((1≤x.Ref)&&(x.Ref≤1073741824))=false:=by rw[← xR];simpa using q
    simp[c,r,q,j]
 ·by_cases r:x.Ref=0
  ·cases l:Er x.Char<;>simp[c,r,l]
  ·simp[c,r]
def Eg(f:List AD)(k:Nat):Option Int:=if Bv f[k]! = 0 then none else some (Bv f[k]!)
def FN(f:List AD):Int:=((List.range f.length).findSome? (Eg f)).getD 0
theorem uV(f:List AD)(h:∀x∈f,EX x)(l:f.length≤9223372036854775807):Qq f=some (FN f):=by
 unfold Qq
 rw[CT (n:=f.length) (Eg f) (λk j=>by
  unfold Qw Eg
  rw[vx (by simpa using j),AR j,AE,Aa (by omega),VO _ (h _ (BL j)),AE]
  by_cases e:Bv f[k]! = 0
  ·rw[ne (by simpa using e),vx e];rfl
  ·rw[vx (by simpa using e),ne e];rfl) (by unfold Qw;rw[ne (by simp)]),FG];rfl
theorem jF(f:List AD)(h:∀x∈f,EX x)(l:f.length≤9223372036854775807):Oc f=some (FN f):=by
 unfold Oc
 rw[CT (n:=f.length) (Eg f) (λk j=>by
  unfold Qx Eg
  rw[vx (by simpa using j),AR j,AE,Aa (by omega),XB _ (h _ (BL j)),AE]
  by_cases e:Bv f[k]! = 0
  ·rw[ne (by simpa using e),vx e];rfl
  ·rw[vx (by simpa using e),ne e];rfl) (by unfold Qx;rw[ne (by simp)]),FG];rfl
theorem OZ{f:List AD}(h:FN f=0){k}(w:k<f.length):Bv f[k]! = 0:=by
 unfold FN at h
 cases l:(List.range f.length).findSome? (Eg f) with
 | some e=>
  rw[l] at h
  have h:e=0:=h
  subst h
  obtain⟨j,_,q⟩:=xF l
  unfold Eg at q
  split at q
  ·cases q
  ·rename_i u;exact absurd (wo q) u
 | none=>
  rw[xD] at l
  have:=l k (wh.2 w)
  unfold Eg at this
  split at this
  ·rename_i u;exact u
  ·cases this
theorem iW{x:AD}(h:Bv x=0):Am x.Attrs false=0:=by
 unfold Bv at h
 split at h
 ·cases h
 ·split at h
  ·cases h
  ·exact h
def MJ:List UInt8:=[104,105,100,100,101,110]
def OK:List UInt8:=[111,110]
def T6:List UInt8:=[99,117,116]
def YF:List UInt8:=[97,100,100]
def Ch(x:AD)(j:Int):Bool:=(DU x.Attrs MJ=OK)||((j=0)&&!(DU x.Attrs T6=[]))||((j=1)&&!(DU x.Attrs YF=[]))
theorem jq(x:AD) j(h:EX x):P1 x j=some (Ch x j):=by
 unfold P1 Ch
 rw[RE _ _ h.1,RE _ _ h.1,RE _ _ h.1,AE]
 show(AB (gd ((decide (DU x.Attrs MJ=OK)==false)&&(decide (j=0)==true)) (some (DU x.Attrs T6))) λ(l:List UInt8)=>
  AB (gd ((((DU x.Attrs MJ=OK)||((j=0)&&!(l=[])))==false)&&(decide (j=1)==true)) (some (DU x.Attrs YF))) λ(w:List UInt8)=>
   some (((DU x.Attrs MJ=OK)||((j=0)&&!(l=[])))||((j=1)&&!(w=[]))))=_
 cases decide (DU x.Attrs MJ=OK)
 ·by_cases q:j=0
  ·subst q
   cases A:decide (DU x.Attrs T6=[])<;>simp[A]
  ·by_cases u:j=1
   ·subst u;simp
   ·simp[q,u]
 ·simp
def Ce(f:List AD)(j:Int)(k:Nat):Bool:=!Ch f[k]! j||((k+1=f.length)&&(f[k]!.Char=10))
def shown(f:List AD)(j:Int)(k:Nat):List Int:=((List.range k).filter (Ce f j)).map λ(i:Nat)=>(i:Int)
theorem bC f j k:shown f j (k+1)=if Ce f j k then shown f j k++[(k:Int)] else shown f j k:=by
 unfold shown
 rw[List.range_succ,zc]
 split<;>rename_i h<;>simp[h]
theorem aJ f j k:(shown f j k).length≤k:=by
 unfold shown
 rw[wN]
 exact w0 (yY _ _) (by simp)
theorem oL(f:List AD) j(h:∀x∈f,EX x)(A:f.length≤1048576):QW f j=some (shown f j f.length):=by
 unfold QW
 obtain⟨b,u,w⟩:=Ec (f:=λ(a:Int × (List Int))=>OC f j a.1 a.2) f.length (λk s=>s=((k:Int),shown f j k)) (λb=>b=shown f j f.length)
  (λk s l q=>by
   subst q
   left
   have B:=aJ f j k
   unfold OC
   simp only
   rw[vx (by simpa using l),AR l,AE,Aa (by omega),jq _ _ (h _ (BL l)),AE,LG (by omega) (by omega),UY (by omega),bC]
   unfold Ce
   generalize f[k]! = x
   refine⟨_,?_,rfl⟩
   have e:decide ((k:Int)=(f.length:Int)-1)=decide (k+1=f.length):=by rw[ws];simp;omega
   cases Ch x j
   ·simp
   ·simp only[zJ,xq,At,AE,xj,e]
    cases ((k+1=f.length)&&(x.Char=10))<;>rfl)
  (λs q=>by
   subst q
   unfold OC
   exact⟨_,by rw[ne (by simp)],rfl⟩) (s:=(0,[])) rfl
 rw[u,w];rfl
theorem ep(f:List AD) j(h:∀x∈f,EX x)(I:FN f=0)(X:f.length≤1048576):HV f j=some (shown f j f.length):=by
 unfold HV
 obtain⟨b,J,M⟩:=Ec (f:=λ(a:Int × (List Int))=>MQ f j a.1 a.2) f.length (λk s=>s=((k:Int),shown f j k)) (λb=>b=shown f j f.length)
  (λk s q w=>by
   subst w
   left
   have Y:=aJ f j k
   have B:=iW (OZ I q)
   have u:=h _ (BL q)
   unfold MQ
   simp only
   rw[vx (by simpa using q),AR q,AE,Aa (by omega),LG (by omega) (by omega),UY (by omega),bC]
   unfold Ce
   generalize f[k]! = x at B u ⊢
   obtain⟨Z,n1,v1⟩:=EN B
   have C:∀n,(Ar x.Attrs n).isSome=!(DU x.Attrs n=[]):=λn=>by
    rw[ru]
    cases O:Ar x.Attrs n with
    | none=>rfl
    | some y=>have:=v1 rfl y (Sn O).2;simp[this]
   rw[Vw _ _ u.1,aE _ _ u.1,aE _ _ u.1,AE,C,C]
   refine⟨_,?_,rfl⟩
   have e:decide ((k:Int)=(f.length:Int)-1)=decide (k+1=f.length):=by rw[ws];simp;omega
   have key:∀b:Bool,(AB (gd (b==false) (some ((f.length:Int)-1))) λ(T:Int)=>if(b||(((k:Int)=T)&&(x.Char=10)))=true then(AB (some (shown f j k++[(k:Int)])) λl=>some l) else some (shown f j k)) =
     some (if(b||((k+1=f.length)&&(x.Char=10)))=true then shown f j k++[(k:Int)] else shown f j k):=by
    intro b
    cases b
    ·simp only[xq,At,AE,e];split<;>rfl
    ·rfl
   simp only[key]
   clear key e
   unfold Ch MJ OK T6 YF
   generalize decide (k+1=f.length)=le
   generalize decide (x.Char=10)=ce
   generalize decide (DU x.Attrs [104,105,100,100,101,110]=[111,110])=A
   generalize decide (DU x.Attrs [99,117,116]=[])=U
   generalize decide (DU x.Attrs [97,100,100]=[])=V
   by_cases E:j=0
   ·subst E
    cases A<;>cases U<;>cases le<;>cases ce<;>simp
   ·by_cases F:j=1
    ·subst F
     cases A<;>cases V<;>cases le<;>cases ce<;>simp
    ·cases A<;>cases le<;>cases ce<;>simp[E,F])
  (λs w=>by
   subst w
   unfold MQ
   exact⟨_,by rw[ne (by simp)],rfl⟩) (s:=(0,[])) rfl
 rw[J,M];rfl
theorem BX{p}[Decidable p](h:¬ p):(!decide p)=true:=by simp[h]
theorem CI{p}[Decidable p](h:p):¬ ((!decide p)=true):=by simp[h]
def Co(l:List AC):Prop:=l.length≤1073741824∧GR l
theorem Co.e{x:AD}(h:Co x.Attrs):EX x:=⟨by have:=h.1;omega,h.2⟩
structure GV(s:AI):Prop where
 at_:Co s.Attrs
 el:s.Elems.length≤1073741824
 ea:∀e∈s.Elems,Co e.Attrs
structure FR(d:List AI):Prop where
 len:d.length≤1099511627776
 st:∀s∈d,GV s
 sum:(d.map λs=>s.Elems.length).sum≤1073741824
theorem Zi{f:List AD}(h:∀e∈f,Co e.Attrs):∀e∈f,EX e:=λe j=>(h e j).e
def Cv(s:AI):Int:=
 if s.Kind=1 then(if s.N≠0∨s.Attrs≠[] then 4 else if s.Elems=[] then 11 else FN s.Elems)
 else if s.Kind=0∨s.Kind=2 then(if s.Elems≠[]∨(s.Kind=2∧s.Attrs≠[]) then 4 else if s.N<1∨2147483647<s.N then 2 else Am s.Attrs true)
 else 8
theorem SM{α:Type}[DecidableEq α](l:List α):decide (0<(l.length:Int))=!(l=[]):=by
 by_cases h:l=[]
 ·subst h;rfl
 ·have:=xP.2 h
  rw[v6 h,vz (by omega)];rfl
theorem V5{α:Type}[DecidableEq α](l:List α):decide ((l.length:Int)=0)=decide (l=[]):=by
 by_cases h:l=[]
 ·subst h;rfl
 ·have:=xP.2 h
  rw[v6 h,v6 (by omega)]
theorem WA:∀(j l r q:Bool),j=false∨l=false→(j&&(!l||r))=(j&&(!l||q)):=by decide
theorem Wf(s:AI)(h:GV s):MZ s=some (Cv s):=by
 have B:=h.at_.1
 have C:=h.el
 unfold MZ Cv
 rw[fW _ h.at_.2 (by omega),uV _ (Zi h.ea) (by omega),SM,SM,V5]
 by_cases A:s.Kind=1
 ·have u:¬ s.Kind=0:=by omega
  have w:¬ s.Kind=2:=by omega
  simp only[A,AE]
  by_cases j:s.N=0<;>by_cases l:s.Attrs=[]<;>by_cases q:s.Elems=[]<;>simp[j,l,q]
 ·by_cases u:s.Kind=0
  ·simp only[u,AE]
   by_cases l:s.Attrs=[]<;>by_cases q:s.Elems=[]<;>by_cases j:s.N<1∨2147483647<s.N<;>simp[l,q,j]
  ·by_cases w:s.Kind=2
   ·simp only[w,AE]
    by_cases l:s.Attrs=[]<;>by_cases q:s.Elems=[]<;>by_cases j:s.N<1∨2147483647<s.N<;>simp[l,q,j]
   ·simp[u,A,w]
theorem lW(s:AI)(h:GV s):RL s=some (Cv s):=by
 have C:=h.at_.1
 have E:=h.el
 unfold RL Cv
 rw[RN _ _ h.at_.2 (by omega),jF _ (Zi h.ea) (by omega),Is,Is,SM,SM,V5]
 by_cases u:s.Kind=1
 ·simp only[u,AE]
  by_cases j:s.N=0<;>by_cases l:s.Attrs=[]<;>by_cases q:s.Elems=[]<;>simp[j,l,q]
 ·have B:(!((1≤s.N)&&(s.N≤2147483647)))=decide (s.N<1∨2147483647<s.N):=by
   rw[ws];simp only[wz,yO,vy,xd];omega
  simp only[AE]
  rw[B]
  by_cases w:s.Kind=0
  ·simp only[w]
   by_cases l:s.Attrs=[]<;>by_cases q:s.Elems=[]<;>by_cases j:s.N<1∨2147483647<s.N<;>simp[l,q,j]
  ·by_cases A:s.Kind=2
   ·simp only[A]
    by_cases l:s.Attrs=[]<;>by_cases q:s.Elems=[]<;>by_cases j:s.N<1∨2147483647<s.N<;>simp[l,q,j]
   ·have:(!((0≤s.Kind)&&(s.Kind≤2)))=true:=by
     rw[wz,yO];simp only[vy,xd];omega
    rw[this];simp[w,u,A]
structure FV(s:AI):Prop where
 kind:(s.Kind=0∧s.Elems=[]∧1≤s.N∧s.N≤2147483647∧Am s.Attrs true=0)∨(s.Kind=2∧s.Elems=[]∧s.Attrs=[]∧1≤s.N∧s.N≤2147483647) ∨
  (s.Kind=1∧s.N=0∧s.Attrs=[]∧s.Elems≠[]∧FN s.Elems=0)
theorem Pd{s:AI}(h:Cv s=0):FV s:=by
 constructor
 unfold Cv at h
 by_cases u:s.Kind=1
 ·rw[vx u] at h
  by_cases j:s.N≠0∨s.Attrs≠[]
  ·rw[vx j] at h;cases h
  ·rw[ne j] at h
   by_cases q:s.Elems=[]
   ·rw[vx q] at h;cases h
   ·rw[ne q] at h
    refine .inr (.inr ⟨u,?_,?_,q,h⟩)
    ·exact wX λl=>j (.inl l)
    ·exact wX λl=>j (.inr l)
 ·rw[ne u] at h
  by_cases k:s.Kind=0∨s.Kind=2
  ·rw[vx k] at h
   by_cases j:s.Elems≠[]∨(s.Kind=2∧s.Attrs≠[])
   ·rw[vx j] at h;cases h
   ·rw[ne j] at h
    by_cases q:s.N<1∨2147483647<s.N
    ·rw[vx q] at h;cases h
    ·rw[ne q] at h
     have w:s.Elems=[]:=wX λl=>j (.inl l)
     rcases k with k | k
     ·exact .inl ⟨k,w,by omega,by omega,h⟩
     ·exact .inr (.inl ⟨k,w,wX λl=>j (.inr ⟨k,l⟩),by omega,by omega⟩)
  ·rw[ne k] at h;cases h
def D7(p s:AI):Bool:=((p.Kind=s.Kind)&&(!(s.Kind=0)||(p.Attrs=s.Attrs)))||((p.Kind=2)&&(s.Kind=1))
def B4(s:AI):Int:=if s.Kind=1 then 0 else s.N
def Ct(s:AI):Int:=if s.Kind=2 then 0 else if s.Kind=1 then s.Elems.length else s.N
def A4(d:List AI):Int:=(d.map B4).sum
def BH(d:List AI):Int:=(d.map Ct).sum
theorem Rr{d:List AI}{k}(h:k<d.length):A4 (d.take (k+1))=A4 (d.take k)+B4 d[k]!:=by rw[H4 h];simp[A4]
theorem YJ{d:List AI}{k}(h:k<d.length):BH (d.take (k+1))=BH (d.take k)+Ct d[k]!:=by rw[H4 h];simp[BH]
def E3(d:List AI)(k:Nat):Option Int:=if Cv d[k]!≠0 then some (Cv d[k]!) else if 0<k∧D7 d[k-1]! d[k]! = true then some 5 else none
def CZ(d:List AI):Int:=match (List.range d.length).findSome? (E3 d) with
 | some e=>e
 | none=>if 2147483647<A4 d∨2147483647<BH d then 3 else 0
theorem bH{f:Int × Int × Int→Option ((Int × Int × Int) ⊕ (An (Int × Int) Int))}(n:Nat)(g:Nat→Option Int)(I:Nat→Int × Int→Prop)
  (h:∀(k:Nat) (a b:Int),k<n→(∀j,j<k→g j=none)→I k (a,b)→(∃e,g k=some e∧f (a,b,(k:Int))=some (.inr (.ext e)))∨(g k=none∧∃A B,f (a,b,(k:Int))=some (.inl (A,B,((k+1:Nat):Int)))∧I (k+1) (A,B)))
  (q:∀(a b:Int),I n (a,b)→f (a,b,(n:Int))=some (.inr (.nrm (a,b)))) {a0 b0:Int} (O:I 0 (a0,b0)) :
  (∃e,(List.range n).findSome? g=some e∧iter f (a0,b0,0)=some (.ext e))∨((List.range n).findSome? g=none∧∃a b,I n (a,b)∧iter f (a0,b0,0)=some (.nrm (a,b))):=by
 obtain⟨b,E,T⟩:=Ec (f:=f) n (λk s=>s.2.2=(k:Int)∧I k (s.1,s.2.1)∧∀j,j<k→g j=none)
  (λb=>(∃e,(List.range n).findSome? g=some e∧b=.ext e)∨((List.range n).findSome? g=none∧∃x y,I n (x,y)∧b=.nrm (x,y)))
  (λk s F C=>by
   obtain⟨x,y,z⟩:=s
   obtain⟨rfl,w,hg⟩:=C
   rcases h k x y F hg w with ⟨e,l,u⟩ | ⟨l,A,B,u,U⟩
   ·exact .inr ⟨_,u,.inl ⟨e,nK F hg l,rfl⟩⟩
   ·refine .inl ⟨_,u,rfl,U,λj J=>?_⟩
    rcases yV j k with M | M
    ·exact hg j M
    ·obtain rfl:j=k:=by omega
     exact l)
  (λs C=>by
   obtain⟨x,y,z⟩:=s
   obtain⟨rfl,w,hg⟩:=C
   exact⟨_,q x y w,.inr ⟨ZE hg,x,y,w,rfl⟩⟩) (s:=(a0,b0,0)) ⟨rfl,O,λj J=>absurd J (zV _)⟩
 rcases T with ⟨e,l,rfl⟩ | ⟨l,x,y,u,rfl⟩
 ·exact .inl ⟨e,l,E⟩
 ·exact .inr ⟨l,x,y,u,E⟩
theorem Ug{s:AI}(h:FV s)(j:GV s):0≤B4 s∧B4 s≤2147483647∧0≤Ct s∧Ct s≤2147483647∧(s.Kind≠2→s.N+s.Elems.length=Ct s)∧(s.Kind≠2→HO s=some (Ct s)):=by
 have u:=j.el
 unfold B4 Ct HO
 rcases h.kind with ⟨k,e,l,q,_⟩ | ⟨k,e,_,l,q⟩ | ⟨k,n,_,_,_⟩
 ·rw[e];simp[k];omega
 ·rw[e];simp[k];omega
 ·simp[k,n];omega
theorem XX{d}{k}(h:E3 d k=none):Cv d[k]! = 0∧(0<k→D7 d[k-1]! d[k]! = false):=by
 unfold E3 at h
 by_cases c:Cv d[k]!≠0
 ·rw[vx c] at h;cases h
 ·rw[ne c] at h
  refine⟨wU.1 c,λj=>?_⟩
  cases l:D7 d[k-1]! d[k]! with
  | false=>rfl
  | true=>rw[vx ⟨j,l⟩] at h;cases h
theorem RR(d:List AI)(h:FR d):I6 d=some (CZ d):=by
 have hm:=h.len
 unfold I6 CZ
 rcases bH (f:=λ(a:Int × Int × Int)=>Id d a.1 a.2.1 a.2.2) d.length (E3 d) (λk c=>0≤A4 (d.take k)∧0≤BH (d.take k)∧c=(min (A4 (d.take k)) 2147483648,min (BH (d.take k)) 2147483648))
  (λk a b B _ hI=>by
   obtain⟨p1,p2,M⟩:=hI
   cases M
   have C:=h.st _ (BL B)
   show(∃e,_∧Id d (min (A4 (d.take k)) 2147483648) (min (BH (d.take k)) 2147483648) (k:Int)=_)∨(_∧∃a' b',Id d (min (A4 (d.take k)) 2147483648) (min (BH (d.take k)) 2147483648) (k:Int)=_∧_)
   unfold Id
   rw[vx (by simpa using B),AR B,AE,Wf _ C,AE]
   by_cases l:Cv d[k]!≠0
   ·exact .inl ⟨_,by unfold E3;rw[vx l],by rw[vx (by simpa using l)];rfl⟩
   rw[ne (by simpa using l)]
   have hg:=Pd (wU.1 l)
   obtain⟨z1,z2,z3,z4,z5,z6⟩:=Ug hg C
   have E:∀(β:Type) (F:Unit→Option (An β ((Int × Int × Int) ⊕ (An (Int × Int) Int)))),(Ao (if(decide ((0:Int)<(k:Int))) then(AB (AM .i64 ((k:Int)-1)) λ(x8:Int)=>AB (AL d x8) λ(O:AI)=>
     AB (gd (((decide (O.Kind=d[k]!.Kind))==true)&&((!(d[k]!.Kind=0))==false)) (Gz O.Attrs d[k]!.Attrs)) λ(r2:Bool)=>
     if(((O.Kind=d[k]!.Kind)&&((!(d[k]!.Kind=0))||r2))||((O.Kind=2)&&(d[k]!.Kind=1))) then(some (.ext (.ext (.inr (.ext 5))))) else(some (.nrm ()))) else(some (.nrm ()))) F) =
     if 0<k∧D7 d[k-1]! d[k]! = true then some (.ext (.inr (.ext 5))) else F ():=by
    intro β F
    by_cases q:0<k
    ·rw[vx (by simp;omega),Es q (by omega),AE,AR (by omega),AE]
     have hp:=(h.st _ (BL (l:=d) (k:=k-1) (by omega))).at_.1
     have e:∀j:Bool→Option (An Unit (An β ((Int × Int × Int) ⊕ (An (Int × Int) Int)))),(∀r,((d[k-1]!.Kind=d[k]!.Kind)&&((!(d[k]!.Kind=0))||r))=((d[k-1]!.Kind=d[k]!.Kind)&&((!(d[k]!.Kind=0))||(d[k-1]!.Attrs=d[k]!.Attrs)))→j r=j (decide (d[k-1]!.Attrs=d[k]!.Attrs))) →
       AB (gd (((decide (d[k-1]!.Kind=d[k]!.Kind))==true)&&((!(d[k]!.Kind=0))==false)) (Gz d[k-1]!.Attrs d[k]!.Attrs)) j=j (decide (d[k-1]!.Attrs=d[k]!.Attrs)):=by
      intro j X
      rw[Pr _ _ (by omega)]
      by_cases u:d[k-1]!.Kind=d[k]!.Kind<;>by_cases I:d[k]!.Kind=0
      ·rw[vz u,vz I];rfl
      ·rw[vz u,v6 I]
       show j default=_
       exact X _ (WA _ _ _ _ (.inr (v6 I)))
      ·rw[v6 u,vz I]
       show j default=_
       exact X _ (WA _ _ _ _ (.inl (v6 u)))
      ·rw[v6 u,v6 I]
       show j default=_
       exact X _ (WA _ _ _ _ (.inl (v6 u)))
     rw[e _ (λr hr=>by rw[hr])]
     by_cases A:D7 d[k-1]! d[k]! = true
     ·rw[vx (c:=(_||_)=true) (by unfold D7 at A;exact A),vx ⟨q,A⟩];rfl
     ·rw[ne (c:=(_||_)=true) (by unfold D7 at A;exact A),ne (λY=>A Y.2)];rfl
    ·rw[ne (by simp;omega),ne (λY=>q Y.1)];rfl
   rw[E]
   by_cases J:0<k∧D7 d[k-1]! d[k]! = true
   ·exact .inl ⟨5,by unfold E3;rw[ne l,vx J],by rw[vx J];rfl⟩
   ·rw[ne J]
    refine .inr ⟨by unfold E3;rw[ne l,ne J],?_⟩
    rw[Rr B,YJ B]
    clear E l J
    generalize A4 (d.take k)=o at p1 ⊢
    generalize BH (d.take k)=w at p2 ⊢
    by_cases T:d[k]!.Kind=1
    ·have U:B4 d[k]! = 0:=by unfold B4;rw[vx T]
     rw[ne (CI T),AE,vx (BX (by omega)),z6 (by omega),AE,Bz (by omega) (by omega),AE,Fo,Aa (by omega),AE]
     exact⟨_,_,rfl,by omega,by omega,by rw[U];congr 1<;>omega⟩
    ·have U:B4 d[k]! = d[k]!.N:=by unfold B4;rw[ne T]
     rw[vx (BX T),Bz (by omega) (by omega),AE,AE]
     by_cases V:d[k]!.Kind=2
     ·have hw:Ct d[k]! = 0:=by unfold Ct;rw[vx V]
      rw[ne (CI V),Fo,Aa (by omega),AE]
      exact⟨_,_,rfl,by omega,by omega,by rw[hw,← U];congr 1<;>omega⟩
     ·rw[vx (BX V),z6 V,AE,Bz (by omega) (by omega),AE,Fo,Aa (by omega),AE]
      exact⟨_,_,rfl,by omega,by omega,by rw[← U];congr 1<;>omega⟩)
  (λa b hI=>by
   show Id d a b (d.length:Int)=_
   unfold Id
   rw[ne (by simp)]) (a0:=0) (b0:=0) ⟨by simp[A4],by simp[BH],by simp[A4,BH];decide⟩ with ⟨e,Z,h2⟩ | ⟨Z,a,b,⟨_,_,M⟩,h2⟩
 ·rw[Z,h2];rfl
 ·rw[Z,h2,Fo]
  rw[xp] at M
  cases M
  by_cases hx:2147483647<A4 d∨2147483647<BH d
  ·rw[vx (by simp;omega)];simp only;rw[vx hx]
  ·rw[ne (by simp;omega)];simp only;rw[ne hx]
theorem pv(p s:AI)(hp:p.Kind=0∨p.Kind=1∨p.Kind=2)(u:p.Attrs.length≤1073741824)(l:s.Kind=0∨s.Kind=1∨s.Kind=2){γ:Type}(A B:Option γ) :
  (if(decide (s.Kind=1)) then(if(!(p.Kind=0)) then A else B) else(if(decide (s.Kind=2)) then(if(decide (p.Kind=2)) then A else B) else
   (AB (gd ((decide (p.Kind=0))==true) (GC p.Attrs s.Attrs)) λ(q:Bool)=>if((p.Kind=0)&&q) then A else B)))=if D7 p s=true then A else B:=by
 rw[NX _ _ (by omega)]
 unfold D7
 rcases l with k | k | k<;>rcases hp with j | j | j<;>simp[k,j,default]
theorem JL{s:AI}(h:FV s):s.Kind=0∨s.Kind=1∨s.Kind=2:=by
 rcases h.kind with ⟨k,_⟩ | ⟨k,_⟩ | ⟨k,_⟩
 ·exact .inl k
 ·exact .inr (.inr k)
 ·exact .inr (.inl k)
theorem pL(d:List AI)(h:FR d):Nz d=some (CZ d):=by
 have hm:=h.len
 unfold Nz CZ
 rcases bH (f:=λ(a:Int × Int × Int)=>Ib d a.1 a.2.1 a.2.2) d.length (E3 d)
  (λk c=>0≤A4 (d.take k)∧0≤BH (d.take k)∧(A4 (d.take k)≤2147483647→c.1=A4 (d.take k))∧(2147483647<A4 (d.take k)→2147483647<c.1)∧0≤c.1∧c.1≤4294967296 ∧
   (BH (d.take k)≤2147483647→c.2=BH (d.take k))∧(2147483647<BH (d.take k)→2147483647<c.2)∧0≤c.2∧c.2≤4294967296)
  (λk a b A B C=>by
   obtain⟨p1,p2,q1,q2,q3,q4,q5,q6,q7,q8⟩:=C
   dsimp only at q1 q2 q3 q4 q5 q6 q7 q8
   have E:=h.st _ (BL A)
   show(∃e,_∧Ib d a b (k:Int)=_)∨(_∧∃a' b',Ib d a b (k:Int)=_∧_)
   unfold Ib
   rw[vx (by simpa using A),AR A,AE,lW _ E,AE]
   by_cases j:Cv d[k]!≠0
   ·exact .inl ⟨_,by unfold E3;rw[vx j],by rw[vx (BX j)];rfl⟩
   rw[ne (CI (wU.1 j))]
   have hg:=Pd (wU.1 j)
   obtain⟨z1,z2,z3,z4,z5,z6⟩:=Ug hg E
   have I:∀(β:Type) (F:Unit→Option (An β ((Int × Int × Int) ⊕ (An (Int × Int) Int)))),(Ao (if(decide ((0:Int)<(k:Int))) then(AB (AM .i64 ((k:Int)-1)) λ(x7:Int)=>AB (AL d x7) λ(J:AI)=>
      if(decide (d[k]!.Kind=1)) then(
       if(!(J.Kind=0)) then(
        some (.ext (.ext (.inr (.ext 5))))
       ) else(
        some (.nrm ())
       )
      ) else(
       if(decide (d[k]!.Kind=2)) then(
        if(decide (J.Kind=2)) then(
         some (.ext (.ext (.inr (.ext 5))))
        ) else(
         some (.nrm ())
        )
       ) else(
        AB (gd ((decide (J.Kind=0))==true) (GC J.Attrs d[k]!.Attrs)) λ(M:Bool)=>
        if((J.Kind=0)&&M) then(
         some (.ext (.ext (.inr (.ext 5))))
        ) else(
         some (.nrm ())
        )
       )
      )) else(some (.nrm ()))) F) =
     if 0<k∧D7 d[k-1]! d[k]! = true then some (.ext (.inr (.ext 5))) else F ():=by
    intro β F
    by_cases l:0<k
    ·rw[vx (by rw[vy];omega),Es l (by omega),AE,AR (by omega),AE]
     have hp:=(h.st _ (BL (l:=d) (k:=k-1) (by omega))).at_.1
     have Y:=JL (Pd (XX (B (k-1) (by omega))).1)
     rw[pv _ _ Y hp (JL hg)]
     by_cases q:D7 d[k-1]! d[k]! = true
     ·rw[vx q,vx ⟨l,q⟩];rfl
     ·rw[ne q,ne (λZ=>q Z.2)];rfl
    ·rw[ne (by rw[vy];omega),ne (λZ=>l Z.1)];rfl
   rw[I]
   by_cases O:0<k∧D7 d[k-1]! d[k]! = true
   ·exact .inl ⟨5,by unfold E3;rw[ne j,vx O],by rw[vx O];rfl⟩
   ·rw[ne O]
    refine .inr ⟨by unfold E3;rw[ne j,ne O],?_⟩
    rw[Rr A,YJ A]
    clear I j O
    generalize A4 (d.take k)=o at p1 q1 q2 ⊢
    generalize BH (d.take k)=w at p2 q5 q6 ⊢
    have T:∃u,(if((!(d[k]!.Kind=1))&&(a<2147483648)) then(AB (AM .i64 (a+d[k]!.N)) λ(U:Int)=>some U) else some a)=some u∧(o+B4 d[k]!≤2147483647→u=o+B4 d[k]!)∧(2147483647<o+B4 d[k]!→2147483647<u)∧0≤u∧u≤4294967296:=by
     by_cases V:d[k]!.Kind=1
     ·have ho:B4 d[k]! = 0:=by unfold B4;rw[vx V]
      rw[ne (by rw[v7];exact λh=>CI V h.1)]
      exact⟨a,rfl,by omega,by omega,by omega,by omega⟩
     ·have ho:B4 d[k]! = d[k]!.N:=by unfold B4;rw[ne V]
      by_cases ha:a<2147483648
      ·rw[vx (by rw[v7];exact⟨BX V,vz ha⟩),Bz (by omega) (by omega),AE]
       exact⟨_,rfl,by omega,by omega,by omega,by omega⟩
      ·rw[ne (by rw[v7];exact λh=>ha (xu h.2))]
       exact⟨a,rfl,by omega,by omega,by omega,by omega⟩
    obtain⟨u,e1,M,r2,r3,r4⟩:=T
    rw[e1,AE]
    by_cases X:d[k]!.Kind=2
    ·have hw:Ct d[k]! = 0:=by unfold Ct;rw[vx X]
     rw[ne (by rw[v7];exact λh=>CI X h.1),Fo,Aa (by omega),AE]
     exact⟨_,_,rfl,by omega,by omega,M,r2,r3,r4,by dsimp only;omega,by dsimp only;omega,by dsimp only;omega,by dsimp only;omega⟩
    ·have hN:=z5 X
     by_cases q:b<2147483648
     ·rw[vx (by rw[v7];exact⟨BX X,vz q⟩),Bz (by omega) (by omega),AE,Bz (by omega) (by omega),AE,Fo,Aa (by omega),AE]
      exact⟨_,_,rfl,by omega,by omega,M,r2,r3,r4,by dsimp only;omega,by dsimp only;omega,by dsimp only;omega,by dsimp only;omega⟩
     ·rw[ne (by rw[v7];exact λh=>q (xu h.2)),Fo,Aa (by omega),AE]
      exact⟨_,_,rfl,by omega,by omega,M,r2,r3,r4,by dsimp only;omega,by dsimp only;omega,by dsimp only;omega,by dsimp only;omega⟩)
  (λa b C=>by
   show Ib d a b (d.length:Int)=_
   unfold Ib
   rw[ne (by simp)]) (a0:=0) (b0:=0) ⟨by simp[A4],by simp[BH],by simp[A4],by simp[A4],by simp,by simp,by simp[BH],by simp[BH],by simp,by simp⟩ with ⟨e,h1,h2⟩ | ⟨h1,a,b,C,h2⟩
 ·rw[h1,h2];rfl
 ·rw[h1,h2,Fo]
  rw[xp] at C
  dsimp only at C
  by_cases hx:2147483647<A4 d∨2147483647<BH d
  ·rw[vx (by simp;omega)];simp only;rw[vx hx]
  ·rw[ne (by simp;omega)];simp only;rw[ne hx]
inductive Un where
 | a (e:AD)
 | r (cut:Bool) (at_:List AC)
def E2:List (List AD)→List Bool→List (List AC)→List Un
 | A::j,c::l,t::q=>A.map Un.a++Un.r c t::E2 j l q
 | A::_,_,_=>A.map Un.a
 | [],_,_=>[]
structure Dj(x:Bk):Prop where
 adds:x.Adds.length=x.Cuts.length+1
 attrs:x.Attrs.length=x.Cuts.length
def Bk.us(x:Bk):List Un:=E2 x.Adds x.Cuts x.Attrs
def Un.isR:Un→Bool
 | .a _=>false
 | .r _ _=>true
def Au(us:List Un):Nat:=us.countP Un.isR
theorem aA:∀(cs:List Bool) (j:List (List AD)) (l:List (List AC)) (c:Bool) (t:List AC),j.length=cs.length+1→l.length=cs.length →
  E2 (j++[[]]) (cs++[c]) (l++[t])=E2 j cs l++[.r c t]
 | [],[A],[],c,t,_,_=>by simp[E2]
 | [],[],_,_,_,h,_=>by simp at h
 | [],_::_::_,_,_,_,h,_=>by simp at h
 | [],_,_::_,_,_,_,h=>by simp at h
 | B::cs,A::j,t0::l,c,t,q,u=>by
  have w:=aA cs j l c t (by simpa using q) (by simpa using u)
  simp only[wO,E2,w,wJ]
 | _::_,[],_,_,_,h,_=>by simp at h
 | _::_,_,[],_,_,_,h=>by simp at h
theorem fI:∀(cs:List Bool) (j:List (List AD)) (l:List (List AC)) (A q:List AD),j.length=cs.length+1→l.length=cs.length→j[cs.length]?=some A →
  E2 (j.set cs.length (A++q)) cs l=E2 j cs l++q.map Un.a
 | [],[u],[],A,q,_,_,h=>by
  simp at h;subst h
  simp[E2]
 | [],[],_,_,_,h,_,_=>by simp at h
 | [],_::_::_,_,_,_,h,_,_=>by simp at h
 | [],_,_::_,_,_,_,h,_=>by simp at h
 | F::cs,u::j,t0::l,A,q,w,B,C=>by
  have E:=fI cs j l A q (by simpa using w) (by simpa using B) (by simpa using C)
  simp only[wK,zd,E2,E,wJ,wO]
 | _::_,[],_,_,_,h,_,_=>by simp at h
 | _::_,_,[],_,_,_,h,_=>by simp at h
theorem eH:∀(cs:List Bool) (j:List (List AD)) (q:List (List AC)),j.length=cs.length+1→q.length=cs.length→Au (E2 j cs q)=cs.length
 | [],[A],[],_,_=>by
  have:∀l:List AD,Au (l.map Un.a)=0:=λl=>by induction l with
   | nil=>rfl
   | cons x l u=>simp[Au,Un.isR]
  exact this A
 | [],[],_,h,_=>by simp at h
 | [],_::_::_,_,h,_=>by simp at h
 | [],_,_::_,_,h=>by simp at h
 | C::cs,E::j,t0::q,w,B=>by
  have u:=eH cs j q (by simpa using w) (by simpa using B)
  have:∀l:List AD,(l.map Un.a).countP Un.isR=0:=λl=>by induction l with
   | nil=>rfl
   | cons x l u=>simp[Un.isR]
  simp only[Au,E2,List.countP_append,this,xT,Un.isR,xm,wY,wK] at u ⊢
  omega
 | _::_,[],_,h,_=>by simp at h
 | _::_,_,[],_,h=>by simp at h
theorem eK:∀(cs:List Bool) (j:List (List AD)) (l:List (List AC)),j.length=cs.length+1→l.length=cs.length→∀A∈j,A.length≤(E2 j cs l).length
 | [],[A],[],_,_=>by simp[E2]
 | [],[],_,h,_=>by simp at h
 | [],_::_::_,_,h,_=>by simp at h
 | [],_,_::_,_,h=>by simp at h
 | B::cs,C::j,t0::l,q,u=>by
  have w:=eK cs j l (by simpa using q) (by simpa using u)
  intro A hA
  simp only[E2,wG,wN,wK]
  rcases wM.1 hA with rfl | hA
  ·omega
  ·have:=w A hA;omega
 | _::_,[],_,h,_=>by simp at h
 | _::_,_,[],_,h=>by simp at h
theorem nx(us:List Un):Au us≤us.length:=yP
theorem Dj.cnt{x:Bk}(h:Dj x):Au x.us=x.Cuts.length:=eH _ _ _ h.adds h.attrs
theorem Dj.cuts_le{x:Bk}(h:Dj x):x.Cuts.length≤x.us.length:=by rw[← h.cnt];exact nx _
theorem Dj.add_le{x:Bk}(h:Dj x){k}(j:k<x.Adds.length):x.Adds[k]!.length≤x.us.length:=eK _ _ _ h.adds h.attrs _ (BL j)
theorem qG:Dj ⟨[[]],[],[]⟩:=⟨rfl,rfl⟩
theorem kt:(⟨[[]],[],[]⟩:Bk).us=[]:=rfl
theorem am{x:Bk}(h:Dj x) c t:Dj ⟨x.Adds++[[]],x.Cuts++[c],x.Attrs++[t]⟩∧(⟨x.Adds++[[]],x.Cuts++[c],x.Attrs++[t]⟩:Bk).us=x.us++[.r c t]:=
 ⟨⟨by simp[h.adds],by simp[h.attrs]⟩,aA _ _ _ _ _ h.adds h.attrs⟩
theorem cK{x:Bk}(h:Dj x)(j:List AD):Dj ⟨x.Adds.set x.Cuts.length (x.Adds[x.Cuts.length]!++j),x.Cuts,x.Attrs⟩∧(⟨x.Adds.set x.Cuts.length (x.Adds[x.Cuts.length]!++j),x.Cuts,x.Attrs⟩:Bk).us=x.us++j.map Un.a:=by
 refine⟨⟨by simp[h.adds],h.attrs⟩,fI _ _ _ _ _ h.adds h.attrs ?_⟩
 have:x.Cuts.length<x.Adds.length:=by rw[h.adds];omega
 rw[wB this,wD x.Adds _ this]
theorem tI{x:Bk}(h:Dj x)(j:x.Cuts.length≤9223372036854775806):AM .i64 ((x.Adds.length:Int)-1)=some ((x.Cuts.length:Nat):Int):=by
 rw[h.adds,Bz (by omega) (by omega)];congr 1;omega
theorem ZU{α:Type}{o:List α}{x}(h:o.length+1≤1099511627776):app 24 o [x]=some (o++[x]):=by
 unfold app;rw[vx];simp only[wm];omega
theorem sB{α:Type}{o:List α}{x}(h:o.length+1≤1099511627776):app 1 o [x]=some (o++[x]):=by
 unfold app;rw[vx];simp only[wm];omega
theorem IM{α:Type}{o:List α}{x}(h:o.length+1≤1099511627776):app 64 o [x]=some (o++[x]):=by
 unfold app;rw[vx];simp only[wm];omega
theorem F5{α:Type}{o xs:List α}(h:o.length+xs.length≤1099511627776):app 40 o xs=some (o++xs):=by
 unfold app;rw[vx];omega
theorem Rp{α:Type}{l:List α}{k:Nat}{x:α} : l.set ((k:Int).toNat) x=l.set k x:=by simp
def BM(s:AI):List Un:=if s.Kind=1 then s.Elems.map Un.a else List.replicate s.N.toNat (.r (decide (s.Kind=2)) s.Attrs)
def Ai(d:List AI):List Un:=d.flatMap BM
theorem Um s d:Ai (s::d)=BM s++Ai d:=rfl
theorem WY{d:List AI}{k}(h:k<d.length):Ai (d.take (k+1))=Ai (d.take k)++BM d[k]!:=by
 rw[H4 h];simp[Ai]
theorem ts(d:List AI) k:(Ai (d.take k)).length≤(Ai d).length:=by
 have:Ai d=Ai (d.take k)++Ai (d.drop k):=by
  conv=>lhs;rw[← xw k d]
  unfold Ai;rw[List.flatMap_append]
 rw[this,wG];omega
theorem pM(s:AI)(x:Bk)(h:Dj x)(u:0≤s.N)(w:x.us.length+s.N.toNat≤4294967296) :
  ∃o,iter (λ(a:Int × Bk)=>JT s a.1 a.2) (0,x)=some o∧∃y,o=.ext y∧Dj y∧y.us=x.us++List.replicate s.N.toNat (.r (decide (s.Kind=2)) s.Attrs):=by
 refine Ec s.N.toNat (λk q=>q.1=(k:Int)∧Dj q.2∧q.2.us=x.us++List.replicate k (.r (decide (s.Kind=2)) s.Attrs)) _ ?_ ?_ ⟨rfl,h,by simp⟩
 ·rintro k ⟨i,y⟩ A ⟨rfl,j,l⟩
  dsimp only at j l
  refine .inl ⟨(((k+1:Nat):Int),⟨y.Adds++[[]],y.Cuts++[decide (s.Kind=2)],y.Attrs++[s.Attrs]⟩),?_,rfl,(am j _ _).1,(am j _ _).2.trans (by rw[l,wJ,← yw])⟩
  have B:y.us.length=x.us.length+k:=by rw[l];simp
  have C:=j.cuts_le
  have E:=j.adds
  have F:=j.attrs
  show JT s (k:Int) y=_
  unfold JT
  rw[vx (by simp;omega),ZU (by omega),AE,sB (by omega),AE,ZU (by omega),AE,Aa (by omega),AE]
 ·rintro⟨i,y⟩ ⟨rfl,j,l⟩
  dsimp only at j l
  refine⟨_,?_,y,rfl,j,l⟩
  show JT s (s.N.toNat:Int) y=_
  unfold JT
  rw[ne (by simp;omega)]
theorem kj(d:List AI)(I:∀s∈d,0≤s.N)(O:d.length≤4294967296)(T:(Ai d).length≤4294967296):∃x,QM d=some x∧Dj x∧x.us=Ai d:=by
 unfold QM
 have key:∃x,iter (λ(a:Int × Bk)=>JM d a.1 a.2) (0,⟨[[]],[],[]⟩)=some x∧(Dj x∧x.us=Ai d):=by
  refine Ec d.length (λk B=>B.1=(k:Int)∧Dj B.2∧B.2.us=Ai (d.take k)) _ ?_ ?_ ⟨rfl,qG,kt⟩
  ·rintro k ⟨i,y⟩ q ⟨rfl,j,l⟩
   dsimp only at j l
   have C:y.us.length+(BM d[k]!).length≤4294967296:=by
    have:=ts d (k+1)
    rw[WY q,wG] at this
    rw[l];omega
   have U:=j.cuts_le
   have V:=j.adds
   refine .inl ?_
   show ∃X,JM d (k:Int) y=_∧_
   unfold JM
   rw[vx (by simpa using q),AR q]
   simp only[AE]
   by_cases A:d[k]!.Kind=1
   ·have u:BM d[k]! = d[k]!.Elems.map Un.a:=by unfold BM;rw[vx A]
    rw[u,wN] at C
    have w:y.Cuts.length<y.Adds.length:=by omega
    have hA:=j.add_le w
    rw[vx (by simpa using A),tI j (by omega),AE,AR w,AE,F5 (by rw[yJ];omega),AE,yk,F5 (by omega),AE,AE,Aa (by omega),AE,Rp]
    exact⟨_,rfl,rfl,(cK j _).1,(cK j _).2.trans (by rw[WY q,l,u])⟩
   ·have u:BM d[k]! = List.replicate d[k]!.N.toNat (.r (decide (d[k]!.Kind=2)) d[k]!.Attrs):=by unfold BM;rw[ne A]
    rw[u,wu] at C
    obtain⟨o,E,z,F,J,M⟩:=pM d[k]! y j (I _ (BL q)) C
    subst F
    rw[ne (by simpa using A),E,sK,AE,Aa (by omega),AE]
    exact⟨_,rfl,rfl,J,by rw[WY q,← l,u];exact M⟩
  ·rintro⟨i,y⟩ ⟨rfl,j,l⟩
   dsimp only at j l
   refine⟨y,?_,j,by rw[l,xp]⟩
   show JM d (d.length:Int) y=_
   unfold JM
   rw[ne (by simp)]
 obtain⟨x,E,F⟩:=key
 exact⟨x,by rw[E];rfl,F⟩
def CP:List Un→List Un→List Un
 | .a e::j,l=>.a e::CP j l
 | j,.a _::l=>.r false []::CP j l
 | .r q u::j,.r w A::l=>if w then CP j l else .r q (FD u A)::CP j l
 | [],.r _ _::_=>[]
 | .r _ _::_,[]=>[]
 | [],[]=>[]
  termination_by j l=>j.length+l.length
def Cp:List Un→List Un→List Un
 | .a _::j,l=>.r false []::Cp j l
 | j,.a e::l=>.a e::Cp j l
 | .r q _::j,.r u w::l=>if q then Cp j l else .r u w::Cp j l
 | [],.r _ _::_=>[]
 | .r _ _::_,[]=>[]
 | [],[]=>[]
  termination_by j l=>j.length+l.length
def NH(us:List Un):Prop:=∀e j,us≠.a e::j
theorem bI(A:List AD) us vs:CP (A.map Un.a++us) vs=A.map Un.a++CP us vs:=by
 induction A with
 | nil=>rfl
 | cons e A j=>simp only[wS,wO];rw[CP,j]
theorem kv(A:List AD) us vs:Cp (A.map Un.a++us) vs=List.replicate A.length (.r false [])++Cp us vs:=by
 induction A with
 | nil=>rfl
 | cons e A j=>simp only[wS,wO,wK,wc];rw[Cp,j]
theorem cY(B:List AD)(us vs:List Un)(h:NH us):CP us (B.map Un.a++vs)=List.replicate B.length (.r false [])++CP us vs:=by
 induction B with
 | nil=>rfl
 | cons e B j=>
  simp only[wS,wO,wK,wc]
  rw[← j]
  match us,h with
  | [],_=>rw[CP];intro _ _ h;cases h
  | .r c t::us,_=>rw[CP];intro _ _ h;cases h
  | .a e::us,h=>exact absurd rfl (h e us)
theorem gE(B:List AD)(us vs:List Un)(h:NH us):Cp us (B.map Un.a++vs)=B.map Un.a++Cp us vs:=by
 induction B with
 | nil=>rfl
 | cons e B j=>
  simp only[wS,wO]
  rw[← j]
  match us,h with
  | [],_=>rw[Cp];intro _ _ h;cases h
  | .r c t::us,_=>rw[Cp];intro _ _ h;cases h
  | .a e::us,h=>exact absurd rfl (h e us)
theorem Ze:NH []:=λ_ _ h=>by cases h
theorem fK:∀(us vs:List Un),(CP us vs).length≤us.length+vs.length:=by
 intro us vs
 fun_induction CP us vs<;>simp_all<;>omega
theorem Wd:∀(us vs:List Un),(Cp us vs).length≤us.length+vs.length:=by
 intro us vs
 fun_induction Cp us vs<;>simp_all<;>omega
def Bk.from_(x:Bk)(k:Nat):List Un:=E2 (x.Adds.drop k) (x.Cuts.drop k) (x.Attrs.drop k)
theorem Xs{x:Bk}(h:Dj x){k}(j:k<x.Cuts.length):x.from_ k=x.Adds[k]!.map Un.a++.r x.Cuts[k]! x.Attrs[k]!::x.from_ (k+1):=by
 unfold Bk.from_
 have l:=h.adds
 have q:=h.attrs
 rw[G6 (l:=x.Adds) (by omega),G6 (l:=x.Cuts) j,G6 (l:=x.Attrs) (by omega),E2]
theorem uL{x:Bk}(h:Dj x):x.from_ x.Cuts.length=x.Adds[x.Cuts.length]!.map Un.a:=by
 unfold Bk.from_
 have j:=h.adds
 rw[G6 (l:=x.Adds) (by omega),yi]
 cases x.Adds.drop (x.Cuts.length+1)<;>rfl
structure DS where
 out:List AI
 adds:List AD
 cuts:Nat
def BQ(s:DS):List AI:=(if 0<s.adds.length then s.out++[⟨1,0,[],s.adds⟩] else s.out)++(if 0<s.cuts then [⟨2,s.cuts,[],[]⟩] else [])
def HD(l:List AI)(t:List AC):List AI:=
 if 0<l.length∧l[l.length-1]!.Kind=0∧l[l.length-1]!.Attrs=t then l.set (l.length-1) ⟨l[l.length-1]!.Kind,l[l.length-1]!.N+1,l[l.length-1]!.Attrs,l[l.length-1]!.Elems⟩
 else l++[⟨0,1,t,[]⟩]
def dU(s:DS):Un→DS
 | .a e=>⟨s.out,s.adds++[e],s.cuts⟩
 | .r true _=>⟨s.out,s.adds,s.cuts+1⟩
 | .r false t=>⟨HD (BQ s) t,[],0⟩
def BO(us:List Un):List AI:=BQ (us.foldl dU ⟨[],[],0⟩)
theorem jU(A:List AD):∀s:DS,(A.map Un.a).foldl dU s=⟨s.out,s.adds++A,s.cuts⟩:=by
 induction A with
 | nil=>intro s;simp
 | cons e A j=>intro s;simp only[wS,wg];rw[j];simp[dU]
theorem pZ(x:Bk)(k:Nat)(h:Dj x)(l:k≤x.Cuts.length):∃p,x.us=p++x.from_ k:=by
 induction k with
 | zero=>exact⟨[],rfl⟩
 | succ k j=>
  obtain⟨p,hp⟩:=j (by omega)
  rw[Xs h (by omega)] at hp
  exact⟨p++(x.Adds[k]!.map Un.a++[.r x.Cuts[k]! x.Attrs[k]!]),by rw[hp];simp⟩
theorem mn{l:List AI}(h:0<l.length)(j:l.length≤9223372036854775807):AM .i64 ((l.length:Int)-1)=some ((l.length-1:Nat):Int):=by
 rw[Bz (by omega) (by omega)];congr 1;omega
structure UJ(d:List AI):Prop where
 st:∀s∈d,FV s
 ord:∀k,0<k→k<d.length→D7 d[k-1]! d[k]! = false
 olds:A4 d≤2147483647
 nows:BH d≤2147483647
theorem uq{d}{k}{r}(h:E3 d k=some r):r≠0:=by
 unfold E3 at h
 split at h
 ·rename_i j;cases h;exact j
 ·split at h
  ·cases h;decide
  ·cases h
theorem MN{d:List AI}(h:CZ d=0):UJ d:=by
 cases l:(List.range d.length).findSome? (E3 d) with
 | some e=>
  unfold CZ at h
  rw[l] at h
  simp only at h
  subst h
  obtain⟨x,_,q⟩:=xF l
  exact absurd rfl (uq q)
 | none=>
  unfold CZ at h
  rw[l] at h
  simp only at h
  rw[xD] at l
  have hg:∀k,k<d.length→E3 d k=none:=λk j=>l k (wh.2 j)
  by_cases u:2147483647<A4 d∨2147483647<BH d
  ·rw[vx u] at h;cases h
  ·refine⟨λs w=>?_,λk A j=>(XX (hg k j)).2 A,by omega,by omega⟩
   obtain⟨k,j,rfl⟩:=xE.1 w
   rw[← wD d k j]
   exact Pd (XX (hg k j)).1
theorem Io s d:A4 (s::d)=B4 s+A4 d:=by simp[A4]
theorem Jy s d:BH (s::d)=Ct s+BH d:=by simp[BH]
theorem aM{d}(h:∀s∈d,FV s)(l:∀s∈d,GV s):0≤A4 d∧0≤BH d:=by
 induction d with
 | nil=>simp[A4,BH]
 | cons s d q=>
  obtain⟨u,w⟩:=q (λx j=>h x (wC _ j)) (λx j=>l x (wC _ j))
  obtain⟨A,B,z3,z4,_⟩:=Ug (h s (v8 ..)) (l s (v8 ..))
  rw[Io,Jy];omega
theorem j0(d:List AI) k:A4 d=A4 (d.take k)+A4 (d.drop k)∧BH d=BH (d.take k)+BH (d.drop k):=by
 have e:d=d.take k++d.drop k:=(xw k d).symm
 constructor
 ·conv=>lhs;rw[e]
  unfold A4;rw[yK,List.sum_append]
 ·conv=>lhs;rw[e]
  unfold BH;rw[yK,List.sum_append]
theorem Y6{d:List AI}(h:UJ d)(l:FR d) k:0≤A4 (d.take k)∧A4 (d.take k)≤2147483647∧0≤BH (d.take k)∧BH (d.take k)≤2147483647∧0≤A4 (d.drop k)∧0≤BH (d.drop k):=by
 obtain⟨q,u⟩:=aM (d:=d.take k) (λs j=>h.st s (yC j)) (λs j=>l.st s (yC j))
 obtain⟨w,A⟩:=aM (d:=d.drop k) (λs j=>h.st s (yA j)) (λs j=>l.st s (yA j))
 obtain⟨B,C⟩:=j0 d k
 have:=h.olds
 have:=h.nows
 omega
theorem Tc(d:List AI)(u:FR d)(h:UJ d):J0 d=some (A4 d,BH d):=by
 unfold J0
 have U:=u.len
 have key:∃r,iter (λ(a:Int × Int × Int)=>Jn d a.1 a.2.1 a.2.2) (0,0,0)=some r∧r=(A4 d,BH d):=by
  refine Ec d.length (λk A=>A=(A4 (d.take k),BH (d.take k),(k:Int))) _ ?_ ?_ (by simp[A4,BH])
  ·rintro k A j rfl
   obtain⟨E,F,I,J,_⟩:=Y6 h u k
   obtain⟨V,X,z3,z4,z5,C⟩:=Ug (h.st _ (BL j)) (u.st _ (BL j))
   refine .inl ⟨_,?_,rfl⟩
   show Jn d (A4 (d.take k)) (BH (d.take k)) (k:Int)=_
   unfold Jn
   rw[vx (by simpa using j),AR j,AE,Rr j,YJ j]
   generalize A4 (d.take k)=o at E F ⊢
   generalize BH (d.take k)=w at I J ⊢
   by_cases l:d[k]!.Kind=1
   ·have B:B4 d[k]! = 0:=by unfold B4;rw[vx l]
    rw[ne (CI l),AE,vx (BX (by omega)),C (by omega),AE,Bz (by omega) (by omega),AE,Bi,Aa (by omega),AE,B,Int.add_zero]
   ·have B:B4 d[k]! = d[k]!.N:=by unfold B4;rw[ne l]
    rw[vx (BX l),Bz (by omega) (by omega),AE,AE,B]
    by_cases q:d[k]!.Kind=2
    ·have M:Ct d[k]! = 0:=by unfold Ct;rw[vx q]
     rw[ne (CI q),Bi,Aa (by omega),AE,M,Int.add_zero]
    ·rw[vx (BX q),C q,AE,Bz (by omega) (by omega),AE,Bi,Aa (by omega),AE]
  ·rintro A rfl
   refine⟨(A4 d,BH d),?_,rfl⟩
   rw[xp]
   show Jn d _ _ (d.length:Int)=_
   unfold Jn
   rw[ne (by simp)]
 obtain⟨r,O,T⟩:=key
 rw[O,T];rfl
theorem WO{α β:Type}[Inhabited α]{f}(l:List α)(g:α→β)(z:β)
 (h:∀(k:Nat) (out:List β), k<l.length→out.length=l.length→f ((k:Int), out)=some (.inl (((k+1:Nat):Int), out.set k (g l[k]!)))) (j:∀out, f ((l.length:Int), out)=some (.inr out)) :
    iter f (0, List.replicate l.length z)=some (l.map g) := by
  have key:∃r, iter f (0, List.replicate l.length z)=some r∧r=l.map g := by
    refine Ec l.length (λk q => q=((k:Int), (l.take k).map g++List.replicate (l.length - k) z)) _ ?_ ?_ (by simp)
    · rintro k q u rfl
      refine .inl ⟨_, h k _ u (by simp;omega), ?_⟩
      congr 1
      obtain⟨m, w⟩:∃m, l.length - k=m+1 := ⟨l.length - k - 1, by omega⟩
      rw[w, wc, H4 u, yK, yt _ _ (by rw[wN, xl];omega), show l.length - (k+1)=m by omega]
      have:k - ((l.take k).map g).length=0 := by simp;omega
      rw[this, yo, wJ];rfl
    · rintro q rfl
      refine⟨_, j _, by simp⟩
  obtain⟨r, A, B⟩ := key
  rw[A, B]
theorem OP{l:List AC}(h:l.length≤1073741824):app 32 [] l=some l:=by
 unfold app;rw[vx];rfl;simp;omega
theorem V7{α:Type}{n:Nat}(z:α)(h:n≤4294967296):mk 40 (n:Int) z=some (List.replicate n z):=by
 unfold mk;rw[vx (by omega)];simp
theorem nX(f:List AD)(l:f.length≤4294967296)(h:∀e∈f,Co e.Attrs):QU f=some f:=by
 unfold QU
 rw[V7 _ l,AE]
 have:=WO (f:=λ(a:Int × (List AD))=>JP f a.1 a.2) f id (AD.mk 0 0 []) (λk out j u=>by
  have q:=(h _ (BL j)).1
  show JP f (k:Int) out=_
  unfold JP
  rw[vx (by simpa using j),AR j,AE,OP q,AE,AR (by omega),AE,Aa (by omega),AE,Rp]
  rfl) (λout=>by
  show JP f (f.length:Int) out=_
  unfold JP
  rw[ne (by simp)])
 rw[this,List.map_id];rfl
def F3(l j:List AC):List AC:=Bs FP l j []
def C0(j:List AC)(x:AD):AD:=⟨x.Char,x.Ref,F3 x.Attrs j⟩
theorem ko(l:List AD)(j:List AC)(u:l.length≤4294967296)(h:∀e∈l,Co e.Attrs)(hc:j.length≤1073741824):Ow l j=some (l.map (C0 j)):=by
 unfold Ow
 rw[V7 _ u,AE]
 have:=WO (f:=λ(a:Int × (List AD))=>KL l j a.1 a.2) l (C0 j) (AD.mk 0 0 []) (λk out q w=>by
  have A:=(h _ (BL q)).1
  show KL l j (k:Int) out=_
  unfold KL
  rw[vx (by simpa using q),AR q,AE,WL _ _ (by omega),AE,AR (by omega),AE,Aa (by omega),AE,Rp]
  rfl) (λout=>by
  show KL l j (l.length:Int) out=_
  unfold KL
  rw[ne (by simp)])
 rw[this];rfl
def A8:List Un→List AD→List AD
 | .a e::j,f=>e::A8 j f
 | .r true _::j,_::f=>A8 j f
 | .r false t::j,x::f=>C0 t x::A8 j f
 | .r _ _::_,[]=>[]
 | [],_=>[]
theorem TQ(A:List AD) us f:A8 (A.map Un.a++us) f=A++A8 us f:=by
 induction A with
 | nil=>rfl
 | cons e A j=>simp only[wS,wO,A8,j]
theorem YZ t us:∀(n:Nat) (f:List AD),n≤f.length→A8 (List.replicate n (.r true t)++us) f=A8 us (f.drop n)
 | 0,f,_=>rfl
 | n+1,[],h=>by simp at h
 | n+1,x::f,h=>by rw[wc,wO,A8,YZ t us n f (by simpa using h)];rfl
theorem YM:∀(us:List Un) (f:List AD),(A8 us f).length≤us.length:=by
 intro us f
 fun_induction A8 us f<;>simp_all<;>omega
theorem Rk{α:Type}(l:List α)(n:Int)(j:0≤n)(h:n≤l.length):CV l 0 n=some (l.take n.toNat):=by
 unfold CV;rw[vx (by omega)];simp
theorem Ox{d:List AI}(h:∀s∈d,FV s):((Ai d).length:Int)=A4 d+(d.map λs=>s.Elems.length).sum:=by
 induction d with
 | nil=>rfl
 | cons s d j=>
  have A:=j (λx l=>h x (wC _ l))
  rw[Um,wG,Io,wS,xK]
  have q:=(h s (v8 ..)).kind
  unfold BM B4
  rcases q with ⟨k,e,u,w,_⟩ | ⟨k,e,_,u,w⟩ | ⟨k,n,_,_,_⟩
  ·rw[ne (by omega),ne (by omega),e,wu,yJ];omega
  ·rw[ne (by omega),ne (by omega),e,wu,yJ];omega
  ·rw[vx k,vx k,wN];omega
def DL(l:List AI)(t:List AC)(n:Int):List AI:=
 if 0<l.length∧l[l.length-1]!.Kind=0∧l[l.length-1]!.Attrs=t then l.set (l.length-1) ⟨l[l.length-1]!.Kind,l[l.length-1]!.N+n,l[l.length-1]!.Attrs,l[l.length-1]!.Elems⟩
 else l++[⟨0,n,t,[]⟩]
theorem Xk l t:DL l t 1=HD l t:=rfl
theorem OR{l:List AI}{s} : (l++[s])[l.length]! = s:=by
 rw[wD (l++[s]) l.length (by simp)];simp
theorem Ux{l:List AI}{s}{k}(h:k<l.length):(l++[s])[k]! = l[k]!:=by
 rw[wD (l++[s]) k (by simp;omega),wD l k h,List.getElem_append_left h]
theorem nk(l:List AI) t m n:DL (DL l t m) t n=DL l t (m+n):=by
 unfold DL
 by_cases j:0<l.length∧l[l.length-1]!.Kind=0∧l[l.length-1]!.Attrs=t
 ·have q:l.length-1<l.length:=by omega
  have hg:∀x:AI,(l.set (l.length-1) x)[l.length-1]! = x:=λx=>by rw[wD _ _ (by simpa using q),zP]
  rw[vx j,vx j,yL,hg,vx ⟨j.1,j.2.1,j.2.2⟩,List.set_set]
  simp only[Int.add_assoc]
 ·rw[ne j,ne j]
  rw[show(l++[(⟨0,m,t,[]⟩:AI)]).length-1=l.length by simp,OR,vx ⟨by simp,rfl,rfl⟩]
  simp
def EW(s:DS)(n:Int)(t:List AC):DS:=if n=0 then s else⟨DL (BQ s) t n,[],0⟩
theorem T2 l:BQ ⟨l,[],0⟩=l:=by simp[BQ]
theorem tO s(n:Int) t(h:0≤n):EW s n t=(List.replicate n.toNat (Un.r false t)).foldl dU s:=by
 have u:∀(j:Nat) (l:List AI) (n:Int),(List.replicate j (Un.r false t)).foldl dU ⟨DL l t n,[],0⟩=⟨DL l t (n+j),[],0⟩:=by
  intro j
  induction j with
  | zero=>intro l n;simp
  | succ j w=>
   intro l n
   rw[wc,wg]
   simp only[dU,T2]
   rw[← Xk,nk,w,show n+1+(j:Int)=n+((j+1:Nat):Int) by omega]
 unfold EW
 by_cases q:n=0
 ·subst q;simp
 ·rw[ne q]
  obtain⟨j,A⟩:∃j,n.toNat=j+1:=⟨n.toNat-1,by omega⟩
  rw[A,wc,wg]
  simp only[dU]
  rw[← Xk,u,show(1:Int)+j=n by omega]
theorem jY(s:DS) t:∀(n:Nat) ,(List.replicate n (Un.r true t)).foldl dU s=⟨s.out,s.adds,s.cuts+n⟩:=by
 intro n
 induction n generalizing s with
 | zero=>simp
 | succ n j=>rw[wc,wg,j];simp only[dU];congr 1;omega
def DZ(u:Un):Prop:=match u with
 | .a e=>Bv e=0∧Co e.Attrs
 | .r c t=>(c=false→Am t true=0)∧Co t
def BS(us:List Un):Nat:=us.countP λu=>!u.isR
def FJ:Un→Bool
 | .a _=>true
 | .r c _=>!c
def By(us:List Un):Nat:=us.countP FJ
theorem Yj{A:List AD}(l:A≠[])(h:∀e∈A,Bv e=0):Cv ⟨1,0,[],A⟩=0:=by
 unfold Cv
 rw[vx rfl,ne (by simp),ne l]
 show FN A=0
 unfold FN
 have:(List.range A.length).findSome? (Eg A)=none:=by
  rw[xD]
  intro k j
  have j:=wh.1 j
  unfold Eg
  rw[vx (h _ (BL j))]
 rw[this];rfl
theorem f6{n}(j:1≤n)(l:n≤2147483647):Cv ⟨2,n,[],[]⟩=0:=by
 unfold Cv
 rw[ne (by simp),vx (by simp),ne (by simp),ne (by simp only;omega)]
 show Am [] true=0
 decide
theorem Xr{n}{t}(j:1≤n)(l:n≤2147483647)(h:Am t true=0):Cv ⟨0,n,t,[]⟩=0:=by
 unfold Cv
 rw[ne (by simp),vx (by simp),ne (by simp),ne (by simp only;omega)]
 exact h
def Hz(a:Nat)(s:AI):Prop:=((s.Kind=0∧s.Elems=[]∧1≤s.N∧Am s.Attrs true=0)∨(s.Kind=2∧s.Elems=[]∧s.Attrs=[]∧1≤s.N) ∨
  (s.Kind=1∧s.N=0∧s.Attrs=[]∧s.Elems≠[]∧∀e∈s.Elems,Bv e=0))∧Co s.Attrs∧s.Elems.length≤a∧∀e∈s.Elems,Co e.Attrs
def Ii(l:List AI):Prop:=∀k,0<k→k<l.length→D7 l[k-1]! l[k]! = false
structure CD(m a r n:Nat)(s:DS):Prop where
 ok:∀x∈s.out,Hz a x
 adj:Ii s.out
 last:0<s.out.length→s.out[s.out.length-1]!.Kind=0
 add:∀e∈s.adds,Bv e=0∧Co e.Attrs
 olds:A4 s.out+s.cuts=r
 nows:BH s.out+s.adds.length=n
 len:s.out.length+s.adds.length+s.cuts≤m
 al:s.adds.length≤a
theorem nc:CD 0 0 0 0 ⟨[],[],0⟩:=⟨by simp,λk _ j=>by simp at j,λh=>by simp at h,by simp,by simp[A4],by simp[BH],by simp,by simp⟩
theorem Wj a b:A4 (a++b)=A4 a+A4 b:=by simp[A4]
theorem Vc a b:BH (a++b)=BH a+BH b:=by simp[BH]
theorem XS{l:List AI}{s}(h:Ii l)(u:0<l.length→D7 l[l.length-1]! s=false):Ii (l++[s]):=by
 intro k q w
 simp only[wG,wm] at w
 by_cases j:k<l.length
 ·rw[Ux (by omega),Ux j];exact h k q j
 ·have:k=l.length:=by omega
  subst this
  rw[Ux (by omega),OR]
  exact u q
theorem Hz.mono{a b}{s}(h:Hz a s)(j:a≤b):Hz b s:=⟨h.1,h.2.1,w0 h.2.2.1 j,h.2.2.2⟩
theorem GF:Co []:=⟨by simp,λa j=>by simp at j⟩
theorem MM{m a r n}{s:DS}(h:CD m a r n s):(∀x∈BQ s,Hz a x)∧Ii (BQ s)∧A4 (BQ s)=r∧BH (BQ s)=n∧(BQ s).length≤m∧(BQ s).length≤s.out.length+2:=by
 have u:=h.len
 have J:=h.olds
 have M:=h.nows
 have key:∃l,l=(if 0<s.adds.length then s.out++[⟨1,0,[],s.adds⟩] else s.out)∧(∀x∈l,Hz a x)∧Ii l∧A4 l=A4 s.out∧BH l=BH s.out+s.adds.length∧l.length≤s.out.length+s.adds.length∧l.length≤s.out.length+1∧(0<l.length→l[l.length-1]!.Kind≠2):=by
  refine⟨_,rfl,?_⟩
  by_cases j:0<s.adds.length
  ·rw[vx j]
   have w:s.adds≠[]:=λe=>by rw[e] at j;simp at j
   refine⟨λx A=>?_,XS h.adj λu=>?_,by rw[Wj];simp[A4,B4],by rw[Vc];simp[BH,Ct],by simp;omega,by simp,λ_=>?_⟩
   ·rcases wn.1 A with q | q
    ·exact h.ok x q
    ·have:x=⟨1,0,[],s.adds⟩:=by simpa using q
     subst this
     exact⟨.inr (.inr ⟨rfl,rfl,rfl,w,λe B=>(h.add e B).1⟩),GF,h.al,λe B=>(h.add e B).2⟩
   ·have C:∀p:AI,p.Kind=0→D7 p ⟨1,0,[],s.adds⟩=false:=λp hp=>by unfold D7;rw[hp];simp
    exact C _ (h.last u)
   ·rw[show(s.out++[(⟨1,0,[],s.adds⟩:AI)]).length-1=s.out.length by simp,OR];simp
  ·rw[ne j]
   exact⟨h.ok,h.adj,rfl,by omega,by omega,by omega,λu=>by rw[h.last u];decide⟩
 obtain⟨l,E,F,I,O,T,V,X,U⟩:=key
 unfold BQ
 rw[← E]
 by_cases j:0<s.cuts
 ·rw[vx j]
  refine⟨λx A=>?_,XS I λu=>?_,by rw[Wj,O,← J];simp[A4,B4],by rw[Vc,T,← M];simp[BH,Ct],by simp;omega,by simp;omega⟩
  ·rcases wn.1 A with q | q
   ·exact F x q
   ·have:x=⟨2,s.cuts,[],[]⟩:=by simpa using q
    subst this
    exact⟨.inr (.inl ⟨rfl,rfl,rfl,by simp only;omega⟩),GF,by simp,by simp⟩
  ·have C:∀p:AI,p.Kind≠2→D7 p ⟨2,s.cuts,[],[]⟩=false:=λp hp=>by unfold D7;simp[hp]
   exact C _ (U u)
 ·rw[ne j,wR]
  exact⟨F,I,by omega,by omega,by omega,by omega⟩
theorem cV:∀ {l:List AI} {i:Nat} {s:AI},i<l.length→A4 (l.set i s)=A4 l-B4 l[i]!+B4 s∧BH (l.set i s)=BH l-Ct l[i]!+Ct s
 | x::l,0,s,_=>by
  rw[yo,Io,Io,Jy,Jy]
  show _=_-B4 x+B4 s∧_=_-Ct x+Ct s
  omega
 | x::l,i+1,s,h=>by
  obtain⟨j,q⟩:=cV (l:=l) (i:=i) (s:=s) (by simpa using h)
  rw[zd,Io,Io,Jy,Jy,j,q]
  show _=_-B4 l[i]!+B4 s∧_=_-Ct l[i]!+Ct s
  omega
theorem rJ{l:List AI}{i}{s:AI}(h:Ii l)(E:i<l.length)(A:s.Kind=l[i]!.Kind)(B:s.Attrs=l[i]!.Attrs):Ii (l.set i s):=by
 intro k C q
 rw[yL] at q
 have e:∀j,j<l.length→(l.set i s)[j]!.Kind=l[j]!.Kind∧(l.set i s)[j]!.Attrs=l[j]!.Attrs:=λj u=>by
  rw[wD (l.set i s) j (by simpa using u),wD l j u,List.getElem_set]
  split
  ·rename_i w;subst w;rw[A,B,wD l i u];exact⟨rfl,rfl⟩
  ·exact⟨rfl,rfl⟩
 have:=h k C q
 unfold D7 at this ⊢
 rw[(e _ (by omega)).1,(e _ (by omega)).2,(e k q).1,(e k q).2]
 exact this
theorem ub{a}{l:List AI}{t}{n}(B:∀x∈l,Hz a x)(F:Ii l)(I:1≤n)(J:Am t true=0)(C:Co t):(∀x∈DL l t n,Hz a x)∧Ii (DL l t n)∧A4 (DL l t n)=A4 l+n ∧
  BH (DL l t n)=BH l+n∧(DL l t n).length≤l.length+1∧0<(DL l t n).length∧(DL l t n)[(DL l t n).length-1]!.Kind=0:=by
 unfold DL
 split
 ·rename_i q
  have u:l.length-1<l.length:=by omega
  have A:=B _ (BL u)
  have w:(l[l.length-1]!.Elems=[]∧1≤l[l.length-1]!.N∧Am l[l.length-1]!.Attrs true=0):=by
   rcases A.1 with ⟨k,e,M,O⟩ | ⟨k,_⟩ | ⟨k,_⟩
   ·exact⟨e,M,O⟩
   ·rw[q.2.1] at k;cases k
   ·rw[q.2.1] at k;cases k
  obtain⟨T,U⟩:=cV (l:=l) (i:=l.length-1) (s:=⟨l[l.length-1]!.Kind,l[l.length-1]!.N+n,l[l.length-1]!.Attrs,l[l.length-1]!.Elems⟩) u
  refine⟨λx E=>?_,rJ F u rfl rfl,?_,?_,by rw[yL];omega,by rw[yL];omega,?_⟩
  ·rcases yQ E with j | j
   ·exact B x j
   ·subst j
    exact⟨.inl ⟨q.2.1,w.1,by simp only;omega,w.2.2⟩,A.2.1,A.2.2.1,A.2.2.2⟩
  ·rw[T];unfold B4;simp only[q.2.1];simp;omega
  ·rw[U];unfold Ct;simp only[q.2.1];simp;omega
  ·rw[yL,wD _ _ (by simpa using u),zP];exact q.2.1
 ·rename_i q
  refine⟨λx E=>?_,XS F λV=>?_,by rw[Wj];simp[A4,B4],by rw[Vc];simp[BH,Ct],by simp,by simp,?_⟩
  ·rcases wn.1 E with j | j
   ·exact B x j
   ·have:x=⟨0,n,t,[]⟩:=by simpa using j
    subst this
    exact⟨.inl ⟨rfl,rfl,I,J⟩,C,by simp,by simp⟩
  ·unfold D7
   generalize l[l.length-1]! = p at q ⊢
   by_cases j:p.Kind=0
   ·have X:¬ p.Attrs=t:=λe=>q ⟨V,j,e⟩
    simp[j,X]
   ·simp[j]
  ·rw[show(l++[(⟨0,n,t,[]⟩:AI)]).length-1=l.length by simp,OR]
theorem o0{m a r n}{s}(h:CD m a r n s){u:Un}(B:DZ u):CD (m+1) (a+(if u.isR then 0 else 1)) (r+(if u.isR then 1 else 0)) (n+(if FJ u then 1 else 0)) (dU s u):=by
 have Y:=h.len
 have C:=h.olds
 have E:=h.nows
 have F:=h.al
 match u,B with
 | .a e,I=>
  have j:(if(Un.a e).isR=true then 0 else 1)=1:=rfl
  have l:(if(Un.a e).isR=true then 1 else 0)=0:=rfl
  have q:(if FJ (Un.a e)=true then 1 else 0)=1:=rfl
  rw[j,l,q]
  refine⟨λx J=>(h.ok x J).mono (by omega),h.adj,h.last,λy M=>?_,C,by simp[dU];omega,by simp[dU];omega,by simp[dU];omega⟩
  rcases wn.1 M with w | w
  ·exact h.add y w
  ·have:y=e:=by simpa using w
   subst this;exact I
 | .r true t,A=>
  have j:(if(Un.r true t).isR=true then 0 else 1)=0:=rfl
  have l:(if(Un.r true t).isR=true then 1 else 0)=1:=rfl
  have q:(if FJ (Un.r true t)=true then 1 else 0)=0:=rfl
  rw[j,l,q]
  exact⟨h.ok,h.adj,h.last,h.add,by simp[dU];omega,E,by simp[dU];omega,F⟩
 | .r false t,A=>
  have j:(if(Un.r false t).isR=true then 0 else 1)=0:=rfl
  have l:(if(Un.r false t).isR=true then 1 else 0)=1:=rfl
  have q:(if FJ (Un.r false t)=true then 1 else 0)=1:=rfl
  rw[j,l,q]
  obtain⟨O,T,Z,k4,k5,_⟩:=MM h
  obtain⟨U,V,j3,j4,j5,j6,X⟩:=ub (n:=1) O T (by omega) (A.1 rfl) A.2
  refine⟨U,V,λ_=>X,by simp[dU],?_,?_,?_,by simp[dU]⟩
  ·show A4 (DL (BQ s) t 1)+((0:Nat):Int)=_
   omega
  ·show BH (DL (BQ s) t 1)+((0:Nat):Int)=_
   omega
  ·show(DL (BQ s) t 1).length+0+0≤_
   omega
theorem eY:∀ {us:List Un} {m a r n:Nat} {s:DS},CD m a r n s→(∀u∈us,DZ u)→CD (m+us.length) (a+BS us) (r+Au us) (n+By us) (us.foldl dU s)
 | [],_,_,_,_,_,h,_=>by simpa[BS,Au,By] using h
 | u::us,m,a,r,n,s,h,j=>by
  have:=eY (us:=us) (o0 h (j u (v8 ..))) λv l=>j v (wC _ l)
  have q:BS (u::us)=(if u.isR then 0 else 1)+BS us:=by unfold BS;rw[xT];cases u.isR<;>simp<;>omega
  have w:Au (u::us)=(if u.isR then 1 else 0)+Au us:=by unfold Au;rw[xT];omega
  have A:By (u::us)=(if FJ u then 1 else 0)+By us:=by unfold By;rw[xT];omega
  rw[wg,q,w,A,wK,show m+(us.length+1)=m+1+us.length by omega,← yF,← yF,← yF]
  exact this
def D0:DS:=⟨[],[],0⟩
def Av(us:List Un):DS:=us.foldl dU D0
theorem JK{us:List Un}(h:∀u∈us,DZ u):CD us.length (BS us) (Au us) (By us) (Av us):=by
 have:=eY nc h
 simp only[wY] at this
 exact this
theorem Jx us:BO us=BQ (Av us):=rfl
theorem fT{m a r n}{s}(h:CD m a r n s)(hr:r≤2147483647)(hn:n≤2147483647):CZ (BQ s)=0:=by
 obtain⟨B,M,V,X,Y,_⟩:=MM h
 generalize BQ s=l at B M V X Y
 have u:∀l:List AI,(∀x∈l,Hz a x)→0≤A4 l∧0≤BH l∧(∀x∈l,x.N≤A4 l∨x.Kind=1):=by
  intro l
  induction l with
  | nil=>intro _;simp[A4,BH]
  | cons x l Z=>
   intro w
   obtain⟨i1,i2,i3⟩:=Z λs hs=>w s (wC _ hs)
   have C:=(w x (v8 ..)).1
   rw[Io,Jy]
   have E:0≤B4 x∧0≤Ct x∧(x.N≤B4 x∨x.Kind=1):=by
    unfold B4 Ct
    rcases C with ⟨k,e,j,_⟩ | ⟨k,e,_,j⟩ | ⟨k,j,_⟩
    ·rw[ne (by omega),ne (by omega),ne (by omega)];omega
    ·rw[ne (by omega),vx (by omega)];omega
    ·rw[vx k,ne (by omega),vx k];omega
   refine⟨by omega,by omega,λy F=>?_⟩
   rcases wM.1 F with rfl | F
   ·rcases E.2.2 with h | h
    ·exact .inl (by omega)
    ·exact .inr h
   ·rcases i3 y F with h | h
    ·exact .inl (by omega)
    ·exact .inr h
 obtain⟨p1,p2,p3⟩:=u l B
 have A:∀k,k<l.length→E3 l k=none:=by
  intro k I
  have w:=B _ (BL I)
  have J:=p3 _ (BL I)
  have E:Cv l[k]! = 0:=by
   generalize l[k]! = x at w J
   obtain⟨xk,xn,xa,xe⟩:=x
   rcases w.1 with ⟨k,e,j,q⟩ | ⟨k,e,q,j⟩ | ⟨k,j,q,O,T⟩
   ·dsimp only at k e j q J;subst k;subst e
    exact Xr j (by omega) q
   ·dsimp only at k e j q J;subst k;subst e;subst q
    exact f6 j (by omega)
   ·dsimp only at k j q O T;subst k;subst j;subst q
    exact Yj O T
  unfold E3
  rw[ne (by simpa using E),ne]
  rintro⟨h0,U⟩
  rw[M k h0 I] at U;cases U
 unfold CZ
 rw[ZE A]
 simp only
 rw[ne (by omega)]
def VA(j:Bool)(e:AC):Prop:=EV e.Name=true∧(Dl e.Value=true∨(j=true∧e.Value=[]))
theorem Ew(l:List AC)(ch:Bool):Am l ch=0↔Bc l∧∀e∈l,VA ch e:=by
 constructor
 ·intro h
  refine⟨(EN h).1,λe he=>?_⟩
  obtain⟨k,hk,rfl⟩:=xE.1 he
  have hn:Et l ch k=none:=by
   unfold Am at h
   cases hf:(List.range l.length).findSome? (Et l ch) with
   | none=>exact(ZB _ _).1 hf k hk
   | some r=>
    rw[hf] at h
    obtain⟨j,_,hj⟩:=xF hf
    exfalso
    unfold Et at hj
    simp only[yg] at h
    subst h
    repeat' split at hj
    all_goals simp at hj
  unfold Et at hn
  rw[wD l k hk] at hn
  generalize l[k]=x at hn ⊢
  unfold VA
  by_cases c1:EV x.Name=false
  ·rw[vx c1] at hn;cases hn
  ·rw[ne c1] at hn
   by_cases c2:Dl x.Value=false∧¬ (ch=true∧x.Value=[])
   ·rw[vx c2] at hn;cases hn
   ·refine⟨by simpa using c1,?_⟩
    by_cases c3:Dl x.Value=true
    ·exact .inl c3
    ·exact .inr (wX λh3=>c2 ⟨by simpa using c3,h3⟩)
 ·rintro⟨hs,hv⟩
  unfold Am
  have:(List.range l.length).findSome? (Et l ch)=none:=by
   rw[xD]
   intro k hk
   have hk:=wh.1 hk
   have h1:=hv _ (BL hk)
   unfold Et
   unfold VA at h1
   rw[ne (by rw[h1.1];simp),ne (by rintro⟨a1,a2⟩;rcases h1.2 with h2 | h2;rw[a1] at h2;cases h2;exact a2 h2),ne]
   rintro⟨h0,h2⟩
   have:=List.pairwise_iff_getElem.1 hs (k-1) k (by omega) hk (by omega)
   rw[wD l k hk,wD l (k-1) (by omega)] at h2
   rw[this] at h2;cases h2
  rw[this];rfl
theorem gX:∀ {l:List AC},Bc l→∀e∈l,Ar l e.Name=some e
 | [],_,e,h=>by simp at h
 | x::l,j,e,h=>by
  obtain⟨q,u⟩:=EO.1 j
  rcases wM.1 h with rfl | h
  ·unfold Ar;rw[vx rfl]
  ·have:=Ez (q e h)
   unfold Ar;rw[ne (Ne.symm this)]
   exact gX u e h
theorem Uz{j}{g}{G}(h:∀x y o, j x y o=o++g x y)(hg:NI g G){a b}{l q w}
 (A:Am a l=0) (B:Am b q=0) (F:∀x y e, (∀z, x=some z→VA l z)→(∀z, y=some z→VA q z)→G x y=some e→VA w e):Am (Bs j a b []) w=0 := by
  obtain⟨I, v1⟩ := (Ew a l).1 A
  obtain⟨J, M⟩ := (Ew b q).1 B
  obtain⟨C, O⟩ := Q7 h hg I J (EN A).2.1 (EN B).2.1
  refine(Ew _ _).2 ⟨C, λe T => ?_⟩
  have E := gX C e T
  rw[O] at E
  exact F _ _ e (λz u => v1 z (Sn u).2) (λz u => M z (Sn u).2) E
theorem VA.up{e}{c}(h:VA false e):VA c e:=⟨h.1,.inl (by rcases h.2 with h | h;exact h;exact absurd h.1 (by decide))⟩
theorem lL{a b}(l:Am a false=0)(q:Am b true=0):Am (F3 a b) false=0:=
 Uz Sq SQ l q λx y e u w h=>by
  unfold GZ at h
  split at h
  ·exact u e h
  ·split at h
   ·cases h
   ·rename_i A
    cases h
    have:=w e rfl
    exact⟨this.1,.inl (by rcases this.2 with j | j;exact j;exact absurd j.2 A)⟩
theorem o6{a b}(j:Am a true=0)(l:Am b true=0):Am (Bs FX a b []) true=0:=
 Uz nW pe j l λx y e q u h=>by
  unfold Pf at h
  split at h
  ·exact q e h
  ·exact u e h
theorem jz{a b}(j:Am a true=0)(l:Am b true=0):Am (Bs FW a b []) true=0:=
 Uz il cQ j l λx y e q u h=>by
  unfold OF at h
  split at h
  ·exact q e h
  ·cases h
theorem GS{l:List AC}{j}(h:Am l j=0)(q:l.length≤1073741824):Co l:=by
 refine⟨q,λe u=>?_⟩
 have:=((Ew l j).1 h).2 e u
 have w:e.Name.length≤24:=by
  have:=this.1
  unfold EV at this
  simp only[v7,vy] at this
  exact this.1.1.2
 have A:e.Value.length≤200:=by
  rcases this.2 with h | h
  ·unfold Dl at h
   simp only[v7,vy] at h
   exact h.1.2
  ·rw[h.2];simp
 omega
theorem Y2(a b:List AC):(F3 a b).length≤a.length+b.length:=by
 have:=Rv FP XU _ a b [] rfl
 simpa[F3] using this
theorem l8(a b:List AC):(Bs FX a b []).length≤a.length+b.length:=by
 have:=Rv FX iD _ a b [] rfl
 simpa using this
theorem lB(a b:List AC):(Bs FW a b []).length≤a.length+b.length:=by
 have:=Rv FW bG _ a b [] rfl
 simpa using this
def Cm(s:DS):Ae:=⟨s.out,s.adds,(s.cuts:Int)⟩
theorem gh{α:Type}{l:List α} : decide (0<(l.length:Int))=true↔0<l.length:=by rw[vy];omega
theorem fu(s:DS)(q:s.out.length+2≤1099511627776):Mb (Cm s)=some ⟨BQ s,[],0⟩:=by
 unfold Mb Cm
 dsimp only
 unfold BQ
 by_cases l:0<s.adds.length
 ·rw[vx (gh.2 l),IM (by omega),vx l]
  simp only[AE]
  by_cases j:0<s.cuts
  ·rw[vx (by rw[vy];omega),IM (by rw[wG,wm];omega),vx j];rfl
  ·rw[ne (by rw[vy];omega),ne j,wR];rfl
 ·rw[ne (λh=>l (gh.1 h)),ne l]
  simp only[AE]
  by_cases j:0<s.cuts
  ·rw[vx (by rw[vy];omega),IM (by omega),vx j];rfl
  ·rw[ne (by rw[vy];omega),ne j,wR];rfl
theorem ap{a} : ∀ {l:List AI},(∀x∈l,Hz a x)→0≤A4 l∧0≤BH l∧(∀x∈l,0≤x.N∧x.N≤A4 l)
 | [],_=>by simp[A4,BH]
 | x::l,u=>by
  obtain⟨C,E,A⟩:=ap (l:=l) λs B=>u s (wC _ B)
  have j:=(u x (v8 ..)).1
  rw[Io,Jy]
  have F:0≤B4 x∧0≤Ct x∧0≤x.N∧x.N≤B4 x:=by
   unfold B4 Ct
   rcases j with ⟨k,e,w,_⟩ | ⟨k,e,_,w⟩ | ⟨k,w,_⟩
   ·rw[ne (by omega),ne (by omega),ne (by omega)];omega
   ·rw[ne (by omega),vx (by omega)];omega
   ·rw[vx k,ne (by omega),vx k];omega
  refine⟨by omega,by omega,λy q=>?_⟩
  rcases wM.1 q with rfl | q
  ·omega
  ·have:=A y q;omega
theorem fk{m a r n}{s:DS}(h:CD m a r n s)(Y:s.out.length+4≤1099511627776)(Z:r≤4000000000000000000)(k:Int)(t:List AC)(h0:0≤k)(hk:k≤4000000000000000000)(B:t.length≤1073741824) :
  Gu (Cm s) k t=some (Cm (EW s k t)):=by
 unfold Gu EW
 by_cases j:k=0
 ·rw[vx (by rw[vy];exact j),vx j]
 rw[ne (by rw[vy];exact j),ne j,fu s (by omega),AE]
 obtain⟨C,F,I,J,M,O⟩:=MM h
 obtain⟨T,U,E⟩:=ap C
 dsimp only
 generalize BQ s=l at C F I J M O T U E
 unfold DL
 by_cases q:0<l.length
 ·rw[mn q (by omega),AE]
  have V:decide (0≤(((l.length-1:Nat)):Int))=true:=by simp
  have X:=C _ (BL (l:=l) (k:=l.length-1) (by omega))
  have hN:=E _ (BL (l:=l) (k:=l.length-1) (by omega))
  rw[V,show(true==true)=true from rfl,At,AR (l:=l) (by omega),AE,xJ]
  by_cases w:l[l.length-1]!.Kind=0
  ·rw[vz w,show(true==true)=true from rfl,At,AE,At,Pr _ _ (by have:=X.2.1.1;omega),AE,xJ]
   by_cases A:l[l.length-1]!.Attrs=t
   ·rw[vx (by rw[vy];exact A),AE,Bz (by omega) (by omega),AE,Rp,vx ⟨q,w,A⟩];rfl
   ·rw[ne (by rw[vy];exact A),OP B,AE,IM (by omega),AE,ne (λh=>A h.2.2)];rfl
  ·rw[v6 w,show(false==true)=false from rfl,Fl,AE,Fl,AE,yR,ne (by decide),OP B,AE,IM (by omega),AE,ne (λh=>w h.2.1)];rfl
 ·have u:l=[]:=xf (by omega)
  subst u
  rw[show((([]:List AI).length:Int)-1) = -1 from rfl,show AM .i64 (-1)=some (-1) from Bz (by decide) (by decide),AE,
   show decide (0≤(-1:Int))=false by decide,show(false==true)=false from rfl,Fl,AE,yR,show(false==true)=false from rfl,Fl,AE,Fl,AE,yR,ne (by decide),
   OP B,AE,IM (by simp),AE,ne (by simp)];rfl
theorem Zq(s:DS)(l:List AD)(j:l.length≤4294967296)(h:∀e∈l,Co e.Attrs)(q:s.adds.length+l.length≤1099511627776):Hr (Cm s) l=some (Cm ⟨s.out,s.adds++l,s.cuts⟩):=by
 unfold Hr
 rw[nX l j h,AE]
 show(AB (app 40 s.adds l) _)=_
 rw[F5 q,AE];rfl
def De(l:List AI):Nat:=(l.map λx=>x.Elems.length).sum
theorem YU a b:De (a++b)=De a+De b:=by simp[De]
theorem eD(s:DS):De (BQ s)=De s.out+s.adds.length:=by
 unfold BQ
 rw[YU]
 have l:De (if 0<s.cuts then [(⟨2,s.cuts,[],[]⟩:AI)] else [])=0:=by split<;>rfl
 rw[l]
 by_cases j:0<s.adds.length
 ·rw[vx j,YU];simp[De]
 ·rw[ne j];omega
theorem Yk:∀ {l:List AI} {i:Nat} {s:AI},i<l.length→s.Elems=l[i]!.Elems→De (l.set i s)=De l
 | x::l,0,s,_,h=>by
  have j:s.Elems=x.Elems:=h
  simp[De,j]
 | x::l,i+1,s,q,h=>by
  have:=Yk (l:=l) (i:=i) (s:=s) (by simpa using q) h
  rw[zd]
  simp only[De,wS,xK] at this ⊢
  omega
theorem jk l t n:De (DL l t n)=De l:=by
 unfold DL
 split
 ·rename_i j;exact Yk (by omega) rfl
 ·rw[YU];simp[De]
theorem gY:∀(us:List Un) (s:DS),De (us.foldl dU s).out+(us.foldl dU s).adds.length=De s.out+s.adds.length+BS us
 | [],s=>by simp[BS]
 | u::us,s=>by
  have j:=gY us (dU s u)
  have l:BS (u::us)=(if u.isR then 0 else 1)+BS us:=by unfold BS;rw[xT];cases u.isR<;>simp<;>omega
  rw[wg,j,l]
  match u with
  | .a e=>simp[dU,Un.isR];omega
  | .r true t=>simp[dU,Un.isR]
  | .r false t=>
   have:De (dU s (.r false t)).out=De s.out+s.adds.length:=by
    show De (HD (BQ s) t)=_
    rw[← Xk,jk,eD]
   simp only[Un.isR,xm]
   rw[this];simp[dU]
theorem Zc us:De (BQ (Av us))=BS us:=by
 rw[eD]
 have:=gY us D0
 unfold Av
 rw[this];simp[D0,De]
theorem gB{us}(h:∀u∈us,DZ u)(q:(BQ (Av us)).length≤1099511627776)(w:BS us≤1073741824):FR (BQ (Av us)):=by
 obtain⟨j,_⟩:=MM (JK h)
 exact⟨q,λx l=>⟨(j x l).2.1,by have:=(j x l).2.2.1;omega,(j x l).2.2.2⟩,by have:=Zc us;unfold De at this;omega⟩
theorem P2{us}(h:∀u∈us,DZ u)(l:(Av us).out.length+2≤1099511627776)(q:BS us≤1073741824) :
  IZ (Cm (Av us))=some (if CZ (BO us)≠0 then([],3,⟨BO us,[],0⟩) else(BO us,0,⟨BO us,[],0⟩)):=by
 obtain⟨w,A,B,C,E,F⟩:=MM (JK h)
 unfold IZ
 rw[fu _ l,AE]
 dsimp only
 rw[RR _ (gB h (by omega) q),AE,← Jx]
 by_cases j:CZ (BO us)≠0
 ·rw[vx (BX j),vx j]
 ·have j:=wU.1 j
  rw[ne (CI j),ne (by simpa using j)]
theorem Km us(n:Int) t(h:0≤n):EW (Av us) n t=Av (us++List.replicate n.toNat (.r false t)):=by
 rw[tO _ _ _ h];unfold Av;rw[zg]
theorem Mk us(l:List AD):(⟨(Av us).out,(Av us).adds++l,(Av us).cuts⟩:DS)=Av (us++l.map Un.a):=by
 unfold Av;rw[zg,jU]
theorem Tr us n t:(⟨(Av us).out,(Av us).adds,(Av us).cuts+n⟩:DS)=Av (us++List.replicate n (.r true t)):=by
 unfold Av;rw[zg,jY]
theorem nh(x y:AD)(h:x.Attrs.length≤1073741824):QE x y=some (decide (x=y)):=by
 unfold QE
 rw[NX _ _ (by omega)]
 obtain⟨j,l,q⟩:=x
 obtain⟨u,w,A⟩:=y
 by_cases B:j=u<;>by_cases C:l=w<;>by_cases E:q=A<;>simp[B,C,E,default]
theorem UQ{α:Type}[Inhabited α][DecidableEq α]{a b:List α}(l:a.length=b.length)(h:((List.range a.length).all λk=>decide (a[k]! = b[k]!))=true):a=b:=by
 apply yh l
 intro k j q
 have:=wT.1 h k (wh.2 j)
 simp only[vy] at this
 rwa [wD a k j,wD b k q] at this
theorem Ru{α:Type}[Inhabited α][DecidableEq α](a:List α):((List.range a.length).all λk=>decide (a[k]! = a[k]!))=true:=by
 rw[wT];intro k _;rw[vz rfl]
theorem WF(a b:List AD)(u:a.length≤9223372036854775806)(h:∀e∈a,e.Attrs.length≤1073741824):Lg a b=some (decide (a=b)):=by
 unfold Lg
 by_cases j:a.length=b.length
 ·rw[ne (by simp[j]),CT (n:=a.length) (λk=>if decide (a[k]! = b[k]!) then none else some false) (λk l=>by
   unfold Pc
   rw[vx (by simpa using l),AR l,AR (by omega),AE,AE,nh _ _ (h _ (BL l)),AE,Aa (by omega)]
   generalize a[k]! = x
   generalize b[k]! = y
   by_cases h:x=y<;>simp[h,Cb]) (by unfold Pc;rw[ne (by simp)]),IR,Ek]
  by_cases h:a=b
  ·subst h;rw[Ru,vz rfl];rfl
  ·rw[v6 h]
   have:((List.range a.length).all λk=>decide (a[k]! = b[k]!))=false:=by
    rw[← xR];exact λq=>h (UQ j q)
   rw[this];rfl
 ·rw[vx (by simp;omega),v6 (by rintro rfl;exact j rfl)]
theorem lM(a b:List AI)(X:a.length≤9223372036854775806)(h:∀s∈a,GV s):L2 a b=some (decide (a=b)):=by
 unfold L2
 by_cases j:a.length=b.length
 ·rw[ne (by simp[j]),CT (n:=a.length) (λk=>if decide (a[k]! = b[k]!) then none else some false) (λk l=>by
   unfold Q5
   have q:=h _ (BL l)
   rw[vx (by simpa using l),AR l,AR (by omega),AE,AE,NX _ _ (by have:=q.at_.1;omega),WF _ _ (by have:=q.el;omega) (λe u=>(q.ea e u).1),Aa (by omega)]
   generalize a[k]! = x
   generalize b[k]! = y
   obtain⟨w,A,B,C⟩:=x
   obtain⟨E,F,I,J⟩:=y
   by_cases M:w=E<;>by_cases O:A=F<;>by_cases T:B=I<;>by_cases U:C=J<;>simp[M,O,T,U,Cb,default]) (by unfold Q5;rw[ne (by simp)]),IR,Ek]
  by_cases h:a=b
  ·subst h;rw[Ru,vz rfl];rfl
  ·rw[v6 h]
   have:((List.range a.length).all λk=>decide (a[k]! = b[k]!))=false:=by
    rw[← xR];exact λV=>h (UQ j V)
   rw[this];rfl
 ·rw[vx (by simp;omega),v6 (by rintro rfl;exact j rfl)]
theorem tb(d:List AI)(q:FR d)(h:UJ d):Nk d=some (A4 d):=by
 unfold Nk
 have E:=q.len
 have key:∃r,iter (λ(a:Int × Int)=>JD d a.1 a.2) (0,0)=some r∧r=A4 d:=by
  refine Ec d.length (λk l=>l=(A4 (d.take k),(k:Int))) _ ?_ ?_ (by simp[A4])
  ·rintro k l j rfl
   obtain⟨F,I,J,M,_⟩:=Y6 h q k
   have hg:=(h.st _ (BL j)).kind
   have u:d[k]!.N=B4 d[k]!∧d[k]!.N≤2147483647∧0≤d[k]!.N:=by
    unfold B4
    rcases hg with ⟨k,e,w,A,_⟩ | ⟨k,e,_,w,A⟩ | ⟨k,n,_,_,_⟩
    ·rw[ne (by omega)];omega
    ·rw[ne (by omega)];omega
    ·rw[vx k];omega
   refine .inl ⟨_,?_,rfl⟩
   show JD d (A4 (d.take k)) (k:Int)=_
   unfold JD
   rw[vx (by simpa using j),AR j,AE,Bz (by omega) (by omega),AE,Aa (by omega),AE,Rr j,u.1]
  ·rintro l rfl
   refine⟨A4 d,?_,rfl⟩
   rw[xp]
   show JD d _ (d.length:Int)=_
   unfold JD
   rw[ne (by simp)]
 obtain⟨r,B,C⟩:=key
 rw[B,C];rfl
def L4(f:List AD):Prop:=∀e∈f,Bv e=0∧e.Attrs.length≤1048576
def TV(us:List Un):Prop:=∀u∈us,match u with | .a e=>Bv e=0∧e.Attrs.length≤1048576 | .r c t=>(c=false→Am t true=0)∧t.length≤1048576
def ZO(f:List AD):Prop:=∀e∈f,Am e.Attrs false=0∧e.Attrs.length≤1048576
theorem Hx{e:AD}(h:Bv e=0):Am e.Attrs false=0:=iW h
theorem L4.fa{f}(h:L4 f):ZO f:=λe j=>⟨Hx (h e j).1,(h e j).2⟩
theorem sj{x:Bk}(h:Dj x){k}(j:k<x.Cuts.length):Un.r x.Cuts[k]! x.Attrs[k]! ∈ x.us:=by
 obtain⟨p,hp⟩:=pZ x k h (by omega)
 rw[Xs h j] at hp
 rw[hp];simp
theorem WP{l t:List AC}(j:Am l false=0)(q:Am t true=0)(u:l.length≤1048576)(w:t.length≤1048576):IE l t=some (F3 l t):=by
 rw[tz l t (EN j).1 (EN q).1 (by omega),← rH j q];rfl
theorem pb(f:List AD)(x:Bk)(h:Dj x)(A:x.Cuts.length=f.length)(F:ZO f)(I:TV x.us)(T:x.us.length≤4294967296):Mo f x=some (A8 x.us f):=by
 unfold Mo
 have U:=h.adds
 have V:=h.attrs
 have J:=YM x.us f
 have M:=h.cuts_le
 have key:∃r,iter (λ(a:Int × (List AD))=>JS f x a.1 a.2) (0,[])=some r∧r++x.Adds[f.length]! = A8 x.us f:=by
  refine Ec f.length (λk B=>B.1=(k:Int)∧B.2++A8 (x.from_ k) (f.drop k)=A8 x.us f) _ ?_ ?_ ⟨rfl,rfl⟩
  ·rintro k ⟨i,out⟩ l ⟨rfl,hd⟩
   dsimp only at hd
   have hA:=h.add_le (k:=k) (by omega)
   rw[Xs h (by omega),G6 l,TQ,← wJ] at hd
   have u:=yZ List.length hd
   rw[wG,wG] at u
   have q:=I _ (sj h (k:=k) (by omega))
   dsimp only at q
   have j:=F _ (BL l)
   refine .inl ?_
   show ∃X,JS f x (k:Int) out=_∧_
   unfold JS
   rw[vx (by simpa using l),AR (l:=x.Adds) (by omega),AE,F5 (by omega),AE,AR (l:=x.Cuts) (by omega),AE]
   cases C:x.Cuts[k]! with
   | true=>
    rw[C] at hd
    rw[ne (by decide),AE,Aa (by omega),AE]
    exact⟨_,rfl,rfl,hd⟩
   | false=>
    rw[C] at hd q
    rw[vx (by decide),AR l,AE,AR (l:=x.Attrs) (by omega),AE,WP j.1 (q.1 rfl) j.2 q.2,AE]
    rw[F5 (by rw[wG,wm];omega),AE,AE,Aa (by omega),AE]
    refine⟨_,rfl,rfl,?_⟩
    rw[← hd]
    simp only[A8,wJ,zQ]
    rfl
  ·rintro⟨i,out⟩ ⟨rfl,hd⟩
   dsimp only at hd
   refine⟨out,?_,?_⟩
   ·show JS f x (f.length:Int) out=_
    unfold JS
    rw[ne (by simp)]
   ·rw[← A,uL h] at hd
    have:=TQ x.Adds[x.Cuts.length]! [] (f.drop x.Cuts.length)
    rw[wR] at this
    rw[this] at hd
    rw[← hd,← A]
    simp[A8]
 obtain⟨r,O,E⟩:=key
 have w:=yZ List.length E
 rw[wG] at w
 rw[O,AE,AR (l:=x.Adds) (by omega),AE,F5 (by omega),AE,E]
theorem u7(f:List AD)(x:Bk)(h:Dj x)(j:x.Cuts.length=f.length)(l:L4 f)(q:TV x.us)(u:x.us.length≤4294967296):Mo f x=some (A8 x.us f):=pb f x h j l.fa q u
theorem VP{κ}(j:∀a,a.Name.length+a.Value.length+1≤κ a){l:List AC}(u:(l.map κ).sum≤1048576):Co l:=by
 have w:=Np (μ:=κ) (λa=>by have:=j a;omega) l
 refine⟨by omega,λa q=>?_⟩
 have A:=IK (μ:=κ) q
 have:=j a
 omega
theorem jr{ν}{κ}(j:∀e,(e.Attrs.map κ).sum+1≤ν e)(l:∀a,a.Name.length+a.Value.length+1≤κ a){f:List AD}(u:(f.map ν).sum≤1048576):f.length≤1048576∧∀e∈f,Co e.Attrs:=by
 have w:=Np (μ:=ν) (λe=>by have:=j e;omega) f
 refine⟨by omega,λe q=>VP l ?_⟩
 have A:=IK (μ:=ν) q
 have:=j e
 omega
structure GQ(d:List AI):Prop where
 at_:∀s∈d,s.Attrs.length≤1048576
 ea:∀s∈d,∀e∈s.Elems,e.Attrs.length≤1048576
 sum:(d.map λs=>s.Elems.length).sum≤1048576
 len:d.length≤1048576
theorem jA{d}(h:∀s∈d,FV s)(w:GQ d):TV (Ai d):=by
 intro u I
 obtain⟨s,q,l⟩:=List.mem_flatMap.1 I
 have J:=(h s q).kind
 have A:=w.at_ s q
 have M:=w.ea s q
 unfold BM at l
 rcases J with ⟨k,e,O,T,B⟩ | ⟨k,e,B,O,T⟩ | ⟨k,n,_,_,p⟩
 ·rw[ne (by omega),v6 (by omega)] at l
  have:=xZ l
  subst this
  exact⟨λ_=>B,A⟩
 ·rw[ne (by omega),vz k] at l
  have:=xZ l
  subst this
  exact⟨λh=>(by cases h),A⟩
 ·rw[vx k] at l
  obtain⟨e,C,rfl⟩:=xY.1 l
  obtain⟨j,E,rfl⟩:=xE.1 C
  have F:=OZ p E
  rw[wD s.Elems j E] at F
  exact⟨F,M _ C⟩
theorem ui{f}(h:FN f=0)(w:∀e∈f,e.Attrs.length≤1048576):L4 f:=by
 intro e l
 obtain⟨j,q,rfl⟩:=xE.1 l
 have u:=OZ h q
 rw[wD f j q] at u
 exact⟨u,w _ l⟩
theorem Ta(us:List Un):BS us≤us.length:=yP
theorem W9(us:List Un):By us≤us.length:=yP
theorem J8{us:List Un}(h:∀u∈us,DZ u):(Av us).out.length+(Av us).adds.length+(Av us).cuts≤us.length:=(JK h).len
theorem np:∀(us:List Un) (f:List AD),L4 f→TV us→∀e∈A8 us f,e.Attrs.length≤1073741824:=by
 intro us f
 fun_induction A8 us f with
 | case1 e us f q=>
  intro l j x h
  rcases wM.1 h with rfl | h
  ·have:x.Attrs.length≤1048576:=(j _ (v8 ..)).2
   show x.Attrs.length≤_
   omega
  ·exact q l (λv u=>j v (wC _ u)) x h
 | case2 t us y f q=>
  intro l j x h
  exact q (λe w=>l e (wC _ w)) (λv u=>j v (wC _ u)) x h
 | case3 t us y f q=>
  intro l j x h
  rcases wM.1 h with rfl | h
  ·have A:=(l y (v8 ..)).2
   have B:t.length≤1048576:=(j _ (v8 ..)).2
   have:=Y2 y.Attrs t
   show(F3 y.Attrs t).length≤_
   omega
  ·exact q (λe w=>l e (wC _ w)) (λv u=>j v (wC _ u)) x h
 | case4=>intro _ _ x h;cases h
 | case5=>intro _ _ x h;cases h
theorem SI{d}(h:∀s∈d,FV s):(Au (Ai d):Int)=A4 d:=by
 induction d with
 | nil=>rfl
 | cons s d j=>
  have B:=j (λx q=>h x (wC _ q))
  have u:=(h s (v8 ..)).kind
  rw[Um,Io]
  have e:Au (BM s++Ai d)=Au (BM s)+Au (Ai d):=by simp[Au]
  rw[e]
  have C:(Au (BM s):Int)=B4 s:=by
   unfold BM B4
   rcases u with ⟨k,e,w,A,_⟩ | ⟨k,e,_,w,A⟩ | ⟨k,n,_,_,_⟩
   ·rw[ne (by omega),ne (by omega)];simp[Au,xx,Un.isR];omega
   ·rw[ne (by omega),ne (by omega)];simp[Au,xx,Un.isR];omega
   ·rw[vx k,vx k]
    have:∀l:List AD,Au (l.map Un.a)=0:=λl=>by induction l with
     | nil=>rfl
     | cons x l j=>simp[Au,Un.isR]
    rw[this];rfl
  omega
def Dk(us:List Un):Prop:=∀u∈us,match u with | .a e=>Bv e=0∧e.Attrs.length≤1048576 | .r c t=>(c=false→Am t true=0)∧(c=true→t=[])∧t.length≤1048576
theorem pQ{s:AI}(h:FV s)(w:s.Attrs.length≤1048576)(E:∀e∈s.Elems,e.Attrs.length≤1048576):Dk (BM s):=by
 intro u l
 unfold BM at l
 rcases h.kind with ⟨k,e,F,I,q⟩ | ⟨k,e,q,F,I⟩ | ⟨k,n,_,_,p⟩
 ·rw[ne (by omega),v6 (by omega)] at l
  have:=xZ l
  subst this
  exact⟨λ_=>q,λh=>(by cases h),w⟩
 ·rw[ne (by omega),vz k] at l
  have:=xZ l
  subst this
  exact⟨λh=>(by cases h),λ_=>q,w⟩
 ·rw[vx k] at l
  obtain⟨e,A,rfl⟩:=xY.1 l
  obtain⟨j,B,rfl⟩:=xE.1 A
  have C:=OZ p B
  rw[wD s.Elems j B] at C
  exact⟨C,E _ A⟩
theorem Rz{d}(h:∀s∈d,FV s)(l:GQ d):Dk (Ai d):=by
 intro u q
 obtain⟨s,j,w⟩:=List.mem_flatMap.1 q
 exact pQ (h s j) (l.at_ s j) (l.ea s j) u w
def CH(s:AI):Int:=if s.Kind=1 then s.Elems.length else s.N
def CQ(p:BZ):List Un:=match p.steps with
 | []=>[]
 | s::rest=>(BM s).drop p.used.toNat++Ai rest
structure Fy(p:BZ):Prop where
 stp:∀s∈p.steps,FV s∧GV s
 u0:0≤p.used
 fit:∀s rest,p.steps=s::rest→p.used<CH s
theorem Gy{s}(h:FV s)(j:GV s):1≤CH s∧CH s≤2147483647∧((BM s).length:Int)=CH s∧HO s=some (CH s):=by
 have A:=j.el
 unfold CH BM HO
 rcases h.kind with ⟨k,e,l,q,u⟩ | ⟨k,e,u,l,q⟩ | ⟨k,n,_,w,p⟩
 ·rw[ne (by omega),ne (by omega),ne (by rw[vy];omega),wu];exact⟨by omega,by omega,by omega,rfl⟩
 ·rw[ne (by omega),ne (by omega),ne (by rw[vy];omega),wu];exact⟨by omega,by omega,by omega,rfl⟩
 ·have:=xP.2 w
  rw[vx k,vx k,vx (by rw[vy];exact k),wN];exact⟨by omega,by omega,rfl,rfl⟩
theorem Qp a:CQ ⟨a,0⟩=Ai a:=by
 cases a with
 | nil=>rfl
 | cons s rest=>simp[CQ,Ai]
theorem QN{a}(h:∀s∈a,FV s∧GV s):Fy ⟨a,0⟩:=⟨h,za 0,λs rest e=>by
 have j:s∈a:=by show s∈(⟨a,0⟩:BZ).steps;rw[e];exact v8 ..
 have:=(Gy (h s j).1 (h s j).2).1
 show(0:Int)<CH s
 omega⟩
theorem NL u:GW ⟨[],u⟩=some (-1):=by unfold GW;rw[vx (by simp)]
theorem MO(s:AI) rest u:GW ⟨s::rest,u⟩=some s.Kind:=by
 unfold GW;rw[ne (by simp;omega)];rfl
theorem HT{s}{rest}{u}(h:Fy ⟨s::rest,u⟩):Gg ⟨s::rest,u⟩=some (CH s-u):=by
 have j:=h.stp s (v8 ..)
 have l:=Gy j.1 j.2
 have q:=h.u0
 have w:=h.fit s rest rfl
 dsimp only at q w
 unfold Gg
 show AB (some s) _=_
 rw[AE,l.2.2.2,AE,Bz (by dsimp only;omega) (by dsimp only;omega)];rfl
def KE(s:AI)(u n:Nat):List Un:=((BM s).drop u).take n
theorem H3{s:AI}{rest:List AI}{u n:Int}(h:Fy ⟨s::rest,u⟩)(T:1≤n)(U:n≤CH s-u)(V:rest.length≤4294967296) :
  ∃p s',F1 ⟨s::rest,u⟩ n=some (s',p)∧Fy p∧CQ ⟨s::rest,u⟩=KE s u.toNat n.toNat++CQ p∧p.steps.length≤rest.length+1∧s'.Kind=s.Kind∧s'.Attrs=s.Attrs∧(s.Kind=1→s'.Elems.map Un.a=KE s u.toNat n.toNat∧(s'.Elems.length:Int)=n∧∀e∈s'.Elems,e∈s.Elems):=by
 have w:=h.stp s (v8 ..)
 have E:=Gy w.1 w.2
 have F:=h.u0
 have I:=h.fit s rest rfl
 dsimp only at F I
 unfold F1
 dsimp only
 show ∃p s',AB (some s) _=_∧_
 rw[AE]
 have q:∃s',(if(decide (s.Kind=1)) then(AB (AM .i64 (u+n)) λ(J:Int)=>AB (CV s.Elems u J) λ(M:List AD)=>some (AI.mk s.Kind s.N s.Attrs M)) else(some (AI.mk s.Kind n s.Attrs s.Elems)))=some s'∧s'.Kind=s.Kind∧s'.Attrs=s.Attrs∧(s.Kind=1→s'.Elems.map Un.a=KE s u.toNat n.toNat∧(s'.Elems.length:Int)=n∧∀e∈s'.Elems,e∈s.Elems):=by
  by_cases k:s.Kind=1
  ·have X:CH s=s.Elems.length:=by unfold CH;rw[vx k]
   rw[vx (by rw[vy];exact k),Bz (by omega) (by omega),AE]
   have:CV s.Elems u (u+n)=some ((s.Elems.drop u.toNat).take n.toNat):=by
    unfold CV
    rw[vx (by omega),show(u+n).toNat-u.toNat=n.toNat by omega]
   rw[this,AE]
   refine⟨_,rfl,rfl,rfl,λ_=>⟨?_,?_,λe l=>yA (yC l)⟩⟩
   ·unfold KE BM;rw[vx k,List.map_take,List.map_drop]
   ·dsimp only;rw[List.length_take,List.length_drop];omega
  ·rw[ne (by rw[vy];exact k)]
   exact⟨_,rfl,rfl,rfl,λh=>absurd h k⟩
 obtain⟨s',q,A,B,C⟩:=q
 rw[q,AE,Bz (by omega) (by omega),AE,E.2.2.2,AE]
 have j:(BM s).drop u.toNat=KE s u.toNat n.toNat++(BM s).drop (u.toNat+n.toNat):=by
  unfold KE
  rw[← List.drop_drop,xw]
 by_cases l:u+n=CH s
 ·rw[vx (by rw[vy];exact l)]
  have:CV (s::rest) 1 ((s::rest).length:Int)=some rest:=by
   unfold CV
   rw[vx (by rw[wK];omega)]
   simp
  rw[this,AE,AE]
  refine⟨_,_,rfl,QN λx O=>h.stp x (wC _ O),?_,by simp,A,B,C⟩
  rw[Qp]
  show(BM s).drop u.toNat++Ai rest=_
  rw[j,zG (by omega),wR]
 ·rw[ne (by rw[vy];exact l),AE]
  refine⟨_,_,rfl,⟨h.stp,by show 0≤u+n;omega,λx r e=>?_⟩,?_,by simp,A,B,C⟩
  ·have:s=x:=by have:=e;simp at this;exact this.1
   subst this
   show u+n<CH s
   omega
  ·show(BM s).drop u.toNat++Ai rest=_++((BM s).drop (u+n).toNat++Ai rest)
   rw[j,wJ,show(u+n).toNat=u.toNat+n.toNat by omega]
theorem O9{s:AI}{u n}(k:s.Kind≠1)(h:u+n≤s.N.toNat):KE s u n=List.replicate n (.r (decide (s.Kind=2)) s.Attrs):=by
 unfold KE BM
 rw[ne k,List.drop_replicate,List.take_replicate,show min n (s.N.toNat-u)=n by omega]
theorem uY n l j q u us vs:CP (List.replicate n (.r l q)++us) (List.replicate n (.r j u)++vs)=(if j then [] else List.replicate n (.r l (FD q u)))++CP us vs:=by
 induction n with
 | zero=>cases j<;>rfl
 | succ n w=>
  rw[wc,wc,wO,wO,CP,w]
  cases j<;>rfl
theorem sO n j l u q us vs:Cp (List.replicate n (.r j u)++us) (List.replicate n (.r l q)++vs)=(if j then [] else List.replicate n (.r l q))++Cp us vs:=by
 induction n with
 | zero=>cases j<;>rfl
 | succ n w=>
  rw[wc,wc,wO,wO,Cp,w]
  cases j<;>rfl
theorem Yx{a b}(j:Am a true=0)(l:Am b true=0):Bs FW a b []=FD a b:=kk (EN j).1 (EN l).1 (EN j).2.1 (EN l).2.1
theorem S4{u:Un}{us:List Un}(h:Dk us)(hu:u ∈ us):DZ u := by
  have := h u hu
  match u, this with
  | .a e, he => exact⟨he.1, GS (Hx he.1) (by omega)⟩
  | .r true t, ht => have := ht.2.1 rfl
                     subst this;exact⟨λh => (by cases h), GF⟩
  | .r false t, ht => exact⟨λ_ => ht.1 rfl, GS (ht.1 rfl) (by have := ht.2.2;omega)⟩
theorem Dk.tl{u}{us}(h:Dk (u::us)):Dk us:=λv j=>h v (wC _ j)
theorem NT:Am [] true=0:=by decide
theorem ZN:DZ (.r false []):=⟨λ_=>NT,GF⟩
theorem Yt{j q:List AC}(u:Am j true=0)(w:Am q true=0)(B:j.length≤1048576)(A:q.length≤1048576):Am (FD j q) true=0∧Co (FD j q):=by
 have e:=jz u w
 have l:=lB j q
 rw[Yx u w] at e l
 exact⟨e,GS e (by omega)⟩
theorem e7:∀(us vs:List Un),Dk us→Dk vs→∀u∈CP us vs,DZ u:=by
 intro us vs
 fun_induction CP us vs with
 | case1 e us vs w=>
  intro l q u j
  rcases wM.1 j with rfl | j
  ·exact S4 l (v8 ..)
  ·exact w l.tl q u j
 | case2 us e vs F w=>
  intro l q u j
  rcases wM.1 j with rfl | j
  ·exact ZN
  ·exact w l q.tl u j
 | case3 E I us J vs w=>intro l q u j;exact w l.tl q.tl u j
 | case4 E I us T J vs B w=>
  intro l q u j
  rcases wM.1 j with rfl | j
  ·have A:=l _ (v8 ..)
   have C:=q _ (v8 ..)
   dsimp only at A C
   cases E with
   | true=>
    have:=A.2.1 rfl
    subst this
    exact⟨λh=>(by cases h),GF⟩
   | false=>
    obtain⟨M,O⟩:=Yt (A.1 rfl) (C.1 (by simpa using B)) A.2.2 C.2.2
    exact⟨λ_=>M,O⟩
  ·exact w l.tl q.tl u j
 | case5=>intro _ _ u j;cases j
 | case6=>intro _ _ u j;cases j
 | case7=>intro _ _ u j;cases j
theorem WV:∀(us vs:List Un),Dk us→Dk vs→∀u∈Cp us vs,DZ u:=by
 intro us vs
 fun_induction Cp us vs with
 | case1 e us vs q=>
  intro w l u j
  rcases wM.1 j with rfl | j
  ·exact ZN
  ·exact q w.tl l u j
 | case2 us e vs A q=>
  intro w l u j
  rcases wM.1 j with rfl | j
  ·exact S4 l (v8 ..)
  ·exact q w l.tl u j
 | case3 B us C E vs q=>intro w l u j;exact q w.tl l.tl u j
 | case4 I B us C E vs F q=>
  intro w l u j
  rcases wM.1 j with rfl | j
  ·exact S4 l (v8 ..)
  ·exact q w.tl l.tl u j
 | case5=>intro _ _ u j;cases j
 | case6=>intro _ _ u j;cases j
 | case7=>intro _ _ u j;cases j
theorem DW(u:Un) us:BS (u::us)=(if u.isR then 0 else 1)+BS us:=by unfold BS;rw[xT];cases u.isR<;>simp<;>omega
theorem nf:∀(us vs:List Un),BS (CP us vs)≤BS us:=by
 intro us vs
 fun_induction CP us vs with
 | case1 e us vs j=>rw[DW,DW];omega
 | case2 us e vs l j=>rw[DW];simp only[Un.isR,xm];omega
 | case3 q u us w vs j=>rw[DW];omega
 | case4 q u us B w vs A j=>rw[DW,DW];simp only[Un.isR,xm];omega
 | case5=>simp[BS]
 | case6=>simp[BS]
 | case7=>simp[BS]
theorem pj:∀(us vs:List Un),BS (Cp us vs)≤BS vs:=by
 intro us vs
 fun_induction Cp us vs with
 | case1 e us vs j=>rw[DW];simp only[Un.isR,xm];omega
 | case2 us e vs l j=>rw[DW,DW];omega
 | case3 q us u w vs j=>rw[DW];omega
 | case4 B q us u w vs A j=>rw[DW,DW];simp only[Un.isR,xm];omega
 | case5=>simp[BS]
 | case6=>simp[BS]
 | case7=>simp[BS]
theorem Ho a b:Au (a++b)=Au a+Au b:=by simp[Au]
theorem Ph(l:List AD):Au (l.map Un.a)=0:=by induction l with
 | nil=>rfl
 | cons x l j=>simp[Au,Un.isR]
theorem Pg n c t:Au (List.replicate n (.r c t))=n:=by simp[Au,xx,Un.isR]
theorem Wz{s:AI}{rest}{u:Int}(h:Fy ⟨s::rest,u⟩)(l:s.Kind≠1):NH (CQ ⟨s::rest,u⟩)∧0<Au (CQ ⟨s::rest,u⟩):=by
 have q:=h.stp s (v8 ..)
 have C:=Gy q.1 q.2
 have w:=h.u0
 have A:=h.fit s rest rfl
 dsimp only at w A
 have E:CH s=s.N:=by unfold CH;rw[ne l]
 have e:CQ ⟨s::rest,u⟩=List.replicate (s.N.toNat-u.toNat) (.r (decide (s.Kind=2)) s.Attrs)++Ai rest:=by
  show(BM s).drop u.toNat++Ai rest=_
  unfold BM
  rw[ne l,List.drop_replicate]
 obtain⟨j,B⟩:∃j,s.N.toNat-u.toNat=j+1:=⟨s.N.toNat-u.toNat-1,by omega⟩
 rw[e,B]
 constructor
 ·rw[wc,wO]
  exact λ_ _ h=>by cases h
 ·rw[Ho,Pg]
  omega
theorem Gs a b:Au (a++b)=Au a+Au b:=by simp[Au]
def W0:cG:=⟨[],0,0⟩
theorem mT(a b:List DK)(F:a.length≤9223372036854775806):Kk a b=some (decide (a=b)):=by
 unfold Kk
 by_cases l:a.length=b.length
 ·rw[ne (by simp[l]),CT (n:=a.length) (λk=>if decide (a[k]! = b[k]!) then none else some false) (λk u=>by
   unfold RW
   rw[vx (by simpa using u),AR u,AR (by omega),AE,AE,Aa (by omega)]
   generalize a[k]! = x
   generalize b[k]! = y
   obtain⟨A,B⟩:=x
   obtain⟨C,E⟩:=y
   by_cases h:A=C<;>by_cases q:B=E<;>simp[h,q,Cb]) (by unfold RW;rw[ne (by simp)]),IR,Ek]
  by_cases h:a=b
  ·subst h;simp
  ·rw[v6 h]
   have:((List.range a.length).all λk=>decide (a[k]! = b[k]!))=false:=by
    rw[← xR,wT]
    intro j
    apply h
    apply yh l
    intro k w q
    have:=j k (wh.2 w)
    simp only[vy] at this
    rwa [wD a k w,wD b k q] at this
   rw[this];rfl
 ·rw[vx (by simp;omega),v6 (by rintro rfl;exact l rfl)]
theorem KV{X:List Un}(j:∀u∈X,DZ u)(w:X.length≤100000000000)(k:Int)(t:List AC)(l:0≤k)(A:k≤100000000000)(q:t.length≤1073741824) :
  Gu (Cm (Av X)) k t=some (Cm (Av (X++List.replicate k.toNat (.r false t)))):=by
 have B:=J8 j
 have C:Au X≤X.length:=yP
 rw[fk (JK j) (by omega) (by omega) k t l (by omega) q,Km X k t l]
theorem NK{X:List Un}(j:∀u∈X,DZ u)(w:X.length≤100000000000)(l:List AD)(q:l.length≤4294967296)(h:∀e∈l,Co e.Attrs):Hr (Cm (Av X)) l=some (Cm (Av (X++l.map Un.a))):=by
 have A:=J8 j
 rw[Zq (Av X) l q h (by omega),Mk]
theorem Sz{X:List Un}(j:∀u∈X,DZ u)(q:X.length≤100000000000)(n:Int)(t:List AC)(w:0≤n)(A:n≤100000000000){α:Type}(f:Ae→Option α) :
  (AB (AM .i64 ((Cm (Av X)).cut+n)) λ(l:Int)=>f (Ae.mk (Cm (Av X)).out (Cm (Av X)).add l))=f (Cm (Av (X++List.replicate n.toNat (.r true t)))):=by
 have B:=J8 j
 show(AB (AM .i64 (((Av X).cuts:Int)+n)) _)=_
 rw[Bz (by omega) (by omega),AE,← Tr]
 congr 1
 show(⟨(Av X).out,(Av X).adds,((Av X).cuts:Int)+n⟩:Ae)=⟨(Av X).out,(Av X).adds,(((Av X).cuts+n.toNat:Nat):Int)⟩
 congr 1
 omega
theorem Dk.app{a b}(h:Dk (a++b)):Dk b:=λu j=>h u (zO _ j)
theorem ox(I J:List Un)(p q:BZ)(hp:Fy p)(C:Fy q)(ha:CQ p=I)(hb:CQ q=J)(oa:Dk I)(ob:Dk J)(hc:Au I=Au J)(ah:I.length≤4294967296)(ai:J.length≤4294967296)(O:p.steps.length≤4294967296)(E:q.steps.length≤4294967296) :
  iter (λ(a:Ae × Ae × BZ × BZ)=>M0 a.1 a.2.1 a.2.2.1 a.2.2.2) ((Ae.mk [] [] 0),(Ae.mk [] [] 0),p,q)=some (Cm (Av (CP I J)),Cm (Av (Cp I J))):=by
 have key:∃r,iter (λ(a:Ae × Ae × BZ × BZ)=>M0 a.1 a.2.1 a.2.2.1 a.2.2.2) ((Ae.mk [] [] 0),(Ae.mk [] [] 0),p,q)=some r∧r=(Cm (Av (CP I J)),Cm (Av (Cp I J))):=by
  refine Yr (λF=>Fy F.2.2.1∧Fy F.2.2.2∧Dk (CQ F.2.2.1)∧Dk (CQ F.2.2.2)∧F.2.2.1.steps.length≤4294967296∧F.2.2.2.steps.length≤4294967296∧Au (CQ F.2.2.1)=Au (CQ F.2.2.2) ∧
   ∃X Y,F.1=Cm (Av X)∧F.2.1=Cm (Av Y)∧X++CP (CQ F.2.2.1) (CQ F.2.2.2)=CP I J∧Y++Cp (CQ F.2.2.1) (CQ F.2.2.2)=Cp I J)
   (λF=>(CQ F.2.2.1).length+(CQ F.2.2.2).length) _ ?_ ⟨hp,C,by rw[ha];exact oa,by rw[hb];exact ob,O,E,by rw[ha,hb];exact hc,[],[],rfl,rfl,by rw[ha,hb];rfl,by rw[ha,hb];rfl⟩
  rintro⟨x,y,p,q⟩ ⟨hp,C,U,oQ,O,E,hc,X,Y,hx,hy,j,l⟩
  dsimp only at hp C U oQ O E hc hx hy j l
  subst hx;subst hy
  have aj:X.length≤8589934592:=by
   have A:=yZ List.length j
   have M:=fK I J
   rw[wG] at A
   omega
  have ak:Y.length≤8589934592:=by
   have A:=yZ List.length l
   have M:=Wd I J
   rw[wG] at A
   omega
  have V:∀u∈X,DZ u:=λu hu=>e7 I J oa ob u (by rw[← j];exact yG _ hu)
  have Z:∀u∈Y,DZ u:=λu hu=>WV I J oa ob u (by rw[← l];exact yG _ hu)
  dsimp only
  unfold M0
  obtain⟨ps,pu⟩:=p
  obtain⟨qs,qu⟩:=q
  match ps,qs with
  | [],[]=>
   refine .inr ?_
   rw[NL,NL]
   simp only[AE]
   refine⟨_,rfl,?_⟩
   have e1:CP [] []=[]:=by rw[CP]
   have e2:Cp [] []=[]:=by rw[Cp]
   change X++CP [] []=_ at j
   change Y++Cp [] []=_ at l
   rw[e1,wR] at j
   rw[e2,wR] at l
   rw[j,l]
  | s::ps,qs=>
   have hs:=hp.stp s (v8 ..)
   have hsz:=Gy hs.1 hs.2
   have ab:=hp.u0
   have ac:=hp.fit s ps rfl
   have al:=JL hs.1
   dsimp only at ab ac O
   rw[wK] at O
   rw[MO,AE]
   have a6:decide (0≤s.Kind)=true:=by rw[vy];omega
   rw[a6,show(true==false)=false from rfl,ne (by decide),AE,vx (by decide)]
   refine .inl ?_
   by_cases hk:s.Kind=1
   ·obtain⟨p',s',A,M,T,h4,k1,k2,k3⟩:=H3 (n:=CH s-pu) hp (by omega) (by omega) (by omega)
    obtain⟨k3,k4,k5⟩:=k3 hk
    rw[vx (by rw[vy];exact hk),HT hp,AE,A,Bi,NK V (by omega) s'.Elems (by omega) (λe he=>hs.2.ea e (k5 e he)),AE,KV Z (by omega) _ _ (by omega) (by omega) (by simp),AE]
    rw[← k3] at T
    rw[T] at j l hc U ⊢
    rw[bI,← wJ] at j
    rw[kv,← wJ] at l
    rw[Ho,Ph,wY] at hc
    rw[wy]
    refine⟨_,rfl,⟨M,C,U.app,oQ,by dsimp only;omega,E,hc,_,_,rfl,rfl,j,l⟩,?_⟩
    dsimp only
    rw[wG,wN];omega
   ·rw[ne (by rw[vy];exact hk)]
    have a0:=Wz hp hk
    match qs with
    | []=>
     exfalso
     have A:=a0.2
     rw[hc] at A
     exact absurd A (by show ¬ (0<Au []);simp[Au])
    | t::qs=>
     have ht:=C.stp t (v8 ..)
     have ad:=Gy ht.1 ht.2
     have a7:=C.u0
     have a8:=C.fit t qs rfl
     have ae:=JL ht.1
     dsimp only at a7 a8 E
     rw[wK] at E
     rw[MO,AE]
     by_cases B:t.Kind=1
     ·obtain⟨q',t',A,M,T,h4,k1,k2,k3⟩:=H3 (n:=CH t-qu) C (by omega) (by omega) (by omega)
      obtain⟨k3,k4,k5⟩:=k3 B
      rw[vx (by rw[vy];exact B),HT C,AE,A,Bi,KV V (by omega) _ _ (by omega) (by omega) (by simp),AE,NK Z (by omega) t'.Elems (by omega) (λe he=>ht.2.ea e (k5 e he)),AE]
      rw[← k3] at T
      rw[T] at j l hc oQ ⊢
      rw[cY _ _ _ a0.1,← wJ] at j
      rw[gE _ _ _ a0.1,← wJ] at l
      rw[Ho,Ph,wY] at hc
      rw[wy]
      refine⟨_,rfl,⟨hp,M,U,oQ.app,by dsimp only [List.length_cons];omega,by dsimp only;omega,hc,_,_,rfl,rfl,j,l⟩,?_⟩
      dsimp only
      rw[wG,wN];omega
     ·rw[ne (by rw[vy];exact B),HT hp,AE,HT C,AE]
      generalize hn:min (CH s-pu) (CH t-qu)=n
      have aa:1≤n:=by omega
      have af:n≤CH s-pu:=by omega
      have ag:n≤CH t-qu:=by omega
      have z1:CH s=s.N:=by unfold CH;rw[ne hk]
      have z2:CH t=t.N:=by unfold CH;rw[ne B]
      obtain⟨p',s',A,M,T,h4,k1,k2,_⟩:=H3 (n:=n) hp aa af (by omega)
      obtain⟨q',t',j1,j2,j3,j4,l1,l2,_⟩:=H3 (n:=n) C aa ag (by omega)
      rw[O9 hk (by omega)] at T
      rw[O9 B (by omega)] at j3
      rw[T] at U
      rw[j3] at oQ
      obtain⟨m,hm⟩:∃m,n.toNat=m+1:=⟨n.toNat-1,by omega⟩
      have u1:=U (.r (decide (s.Kind=2)) s.Attrs) (by rw[hm,wc];simp)
      have u2:=oQ (.r (decide (t.Kind=2)) t.Attrs) (by rw[hm,wc];simp)
      dsimp only at u1 u2
      rw[A,Bi,j1,Bi,k1,l1,k2,l2]
      rw[T,j3] at j l hc ⊢
      rw[uY,← wJ] at j
      rw[sO,← wJ] at l
      rw[Ho,Ho,Pg,Pg] at hc
      by_cases h0:s.Kind=0<;>by_cases g0:t.Kind=0
      ·have d1:decide (s.Kind=2)=false:=by rw[h0];rfl
       have d2:decide (t.Kind=2)=false:=by rw[g0];rfl
       have a1:=u1.1 d1
       have a2:=u2.1 d2
       have lk:=(Yt a1 a2 u1.2.2 u2.2.2).2
       rw[d1,d2] at j l ⊢
       rw[vz h0,vz g0,vx (by decide),ls _ _ (by omega),Yx a1 a2,AE,KV V (by omega) n _ (by omega) (by omega) lk.1,AE,KV Z (by omega) n _ (by omega) (by omega) (by omega),AE]
       refine⟨_,rfl,⟨M,j2,U.app,oQ.app,by dsimp only;omega,by dsimp only;omega,by dsimp only;omega,_,_,rfl,rfl,j,l⟩,?_⟩
       dsimp only
       rw[wG,wG,wu];omega
      ·have d1:decide (s.Kind=2)=false:=by rw[h0];rfl
       have d2:decide (t.Kind=2)=true:=by rw[vy];omega
       rw[d1,d2] at j l ⊢
       rw[vz h0,v6 g0,ne (by decide),vx (by decide)]
       rw[vx rfl,wR] at j
       rw[Sz Z (by omega) n t.Attrs (by omega) (by omega) (λw=>some (Sum.inl (Cm (Av X),w,p',q')))]
       refine⟨_,rfl,⟨M,j2,U.app,oQ.app,by dsimp only;omega,by dsimp only;omega,by dsimp only;omega,_,_,rfl,rfl,j,l⟩,?_⟩
       dsimp only
       rw[wG,wG,wu];omega
      ·have d1:decide (s.Kind=2)=true:=by rw[vy];omega
       have d2:decide (t.Kind=2)=false:=by rw[g0];rfl
       rw[d1,d2] at j l ⊢
       rw[v6 h0,vz g0,ne (by decide),ne (by decide),vx (by decide)]
       rw[vx rfl,wR] at l
       rw[Sz V (by omega) n (FD s.Attrs t.Attrs) (by omega) (by omega) (λw=>some (Sum.inl (w,Cm (Av Y),p',q')))]
       refine⟨_,rfl,⟨M,j2,U.app,oQ.app,by dsimp only;omega,by dsimp only;omega,by dsimp only;omega,_,_,rfl,rfl,j,l⟩,?_⟩
       dsimp only
       rw[wG,wG,wu];omega
      ·have d1:decide (s.Kind=2)=true:=by rw[vy];omega
       have d2:decide (t.Kind=2)=true:=by rw[vy];omega
       rw[d1,d2] at j l ⊢
       rw[v6 h0,v6 g0,ne (by decide),ne (by decide),ne (by decide)]
       rw[vx rfl,wR] at j l
       refine⟨_,rfl,⟨M,j2,U.app,oQ.app,by dsimp only;omega,by dsimp only;omega,by dsimp only;omega,_,_,rfl,rfl,j,l⟩,?_⟩
       dsimp only
       rw[wG,wG,wu];omega
  | [],t::qs=>
   have ht:=C.stp t (v8 ..)
   have ad:=Gy ht.1 ht.2
   have a7:=C.u0
   have a8:=C.fit t qs rfl
   have ae:=JL ht.1
   dsimp only at a7 a8 E
   rw[wK] at E
   rw[NL,AE,show decide ((0:Int) ≤ -1)=false by decide,show(false==false)=true from rfl,vx rfl,MO,AE,AE]
   have a6:decide (0≤t.Kind)=true:=by rw[vy];omega
   rw[a6,vx (by decide),ne (by decide),AE]
   refine .inl ?_
   by_cases B:t.Kind=1
   ·obtain⟨q',t',A,M,T,h4,k1,k2,k3⟩:=H3 (n:=CH t-qu) C (by omega) (by omega) (by omega)
    obtain⟨k3,k4,k5⟩:=k3 B
    rw[vx (by rw[vy];exact B),HT C,AE,A,Bi,KV V (by omega) _ _ (by omega) (by omega) (by simp),AE,NK Z (by omega) t'.Elems (by omega) (λe he=>ht.2.ea e (k5 e he)),AE]
    rw[← k3] at T
    rw[T] at j l hc oQ ⊢
    rw[cY _ _ _ (show NH (CQ ⟨[],pu⟩) from Ze),← wJ] at j
    rw[gE _ _ _ (show NH (CQ ⟨[],pu⟩) from Ze),← wJ] at l
    rw[Ho,Ph,wY] at hc
    rw[wy]
    refine⟨_,rfl,⟨hp,M,U,oQ.app,O,by dsimp only;omega,hc,_,_,rfl,rfl,j,l⟩,?_⟩
    dsimp only
    rw[wG,wN];omega
   ·exfalso
    have A:=(Wz C B).2
    rw[← hc] at A
    exact absurd A (by show ¬ (0<Au []);simp[Au])
 obtain⟨r,A,M⟩:=key
 rw[A,M]
theorem jG a b:BS (a++b)=BS a+BS b:=by simp[BS]
theorem UP{d:List AI}(h:∀s∈d,FV s):BS (Ai d)=(d.map λs=>s.Elems.length).sum:=by
 induction d with
 | nil=>rfl
 | cons s d j=>
  have q:=j (λx u=>h x (wC _ u))
  have w:=(h s (v8 ..)).kind
  rw[Um,jG,q,wS,xK]
  congr 1
  unfold BM
  rcases w with ⟨k,e,_,_,_⟩ | ⟨k,e,_,_,_⟩ | ⟨k,_,_,_,_⟩
  ·rw[ne (by omega),e];simp[BS,xx,Un.isR]
  ·rw[ne (by omega),e];simp[BS,xx,Un.isR]
  ·rw[vx k]
   have:∀l:List AD,BS (l.map Un.a)=l.length:=λl=>by induction l with
    | nil=>rfl
    | cons x l j=>rw[wS,DW,j,wK];simp only[Un.isR];simp;omega
   rw[this]
def Wh(a b:List AI):List AI × List AI × Int:=
 if CZ (BO (CP (Ai a) (Ai b)))≠0∨CZ (BO (Cp (Ai a) (Ai b)))≠0 then([],[],3) else(BO (CP (Ai a) (Ai b)),BO (Cp (Ai a) (Ai b)),0)
theorem mv a b(E:FR a)(F:FR b)(I:GQ a)(J:GQ b):M8 a b=some (if CZ a≠0 then([],[],CZ a) else if CZ b≠0 then([],[],CZ b) else
  if A4 a≠A4 b then([],[],14) else Wh a b):=by
 unfold M8
 rw[RR a E,AE]
 by_cases j:CZ a≠0
 ·rw[vx (BX j),vx j]
 have j:=wU.1 j
 rw[ne (CI j),ne (by simpa using j),RR b F,AE]
 by_cases l:CZ b≠0
 ·rw[vx (BX l),vx l]
 have l:=wU.1 l
 have q:=MN j
 have u:=MN l
 rw[ne (CI l),ne (by simpa using l),Tc a E q,Tc b F u,Bi,Bi]
 by_cases A:A4 a≠A4 b
 ·rw[vx (BX A),vx A]
 have A:=wU.1 A
 have V:=Ox q.st
 have X:=Ox u.st
 have Y:=SI q.st
 have Z:=SI u.st
 have M:=Rz q.st I
 have O:=Rz u.st J
 have g1:=q.olds
 have g2:=u.olds
 have m1:=I.sum
 have m2:=J.sum
 have n1:=I.len
 have n2:=J.len
 rw[ne (CI A),ne (by simpa using A)]
 rw[ox (Ai a) (Ai b) ⟨a,0⟩ ⟨b,0⟩ (QN λs C=>⟨q.st s C,E.st s C⟩) (QN λs C=>⟨u.st s C,F.st s C⟩) (Qp a) (Qp b) M O (by omega) (by omega) (by omega) (by dsimp only;omega) (by dsimp only;omega),Bi]
 have px:=fK (Ai a) (Ai b)
 have py:=Wd (Ai a) (Ai b)
 have T:=e7 _ _ M O
 have U:=WV _ _ M O
 have lx:=J8 T
 have ly:=J8 U
 have cx:=nf (Ai a) (Ai b)
 have cy:=pj (Ai a) (Ai b)
 have wa:=UP q.st
 have wb:=UP u.st
 rw[P2 T (by omega) (by omega),P2 U (by omega) (by omega)]
 unfold Wh
 by_cases w:CZ (BO (CP (Ai a) (Ai b)))=0<;>by_cases B:CZ (BO (Cp (Ai a) (Ai b)))=0
 ·rw[ne (by simpa using w),ne (by simpa using B),ne (by simp[w,B])];rfl
 ·rw[ne (by simpa using w),vx B,vx (.inr B)];rfl
 ·rw[vx w,ne (by simpa using B),vx (.inl w)];rfl
 ·rw[vx w,vx B,vx (.inl w)];rfl
def IB(f:List AD):Int:=if FN f≠0 then FN f else if f=[]∨f[f.length-1]!.Char≠10 then 11 else 0
theorem sC{f}{k}{r}(h:Eg f k=some r):r≠0:=by
 unfold Eg at h
 split at h
 ·cases h
 ·rename_i j;cases h;exact j
theorem ft(f:List AD)(C:f.length≤1073741824):(Ao (some (Fu ((List.range f.length).findSome? (Eg f)))) λ(_:Unit)=>
  AB (gd ((true==true)&&((decide ((f.length:Int)=0))==false)) (AM .i64 ((f.length:Int)-1))) λ(u:Int)=>
  AB (gd ((true==true)&&((decide ((f.length:Int)=0))==false)) (AL f u)) λ(w:AD)=>
  if(true&&(((f.length:Int)=0)||(!(w.Char=10)))) then some (11:Int) else some 0)=some (IB f):=by
 rw[Ek]
 unfold IB FN
 cases A:(List.range f.length).findSome? (Eg f) with
 | some r=>
  have l:r≠0:=by
   obtain⟨k,B⟩:=xF A
   exact sC B.2
  dsimp only [Option.getD]
  rw[vx l]
 | none=>
  dsimp only [Option.getD]
  rw[ne (by decide)]
  by_cases q:f=[]
  ·subst q;rfl
  ·have E:0<f.length:=xP.2 q
   have hd:decide ((f.length:Int)=0)=false:=v6 (by omega)
   rw[hd,show((true==true)&&(false==false))=true from rfl,At,show((f.length:Int)-1)=((f.length-1:Nat):Int) by omega,Bz (by omega) (by omega),AE,At,AR (by omega),AE]
   by_cases j:f[f.length-1]!.Char=10
   ·rw[ne (by rw[vz j];decide),ne (λh=>h.elim q λh=>h j)]
   ·rw[vx (by rw[v6 j];decide),vx (.inr j)]
theorem gP(f:List AD)(h:∀x∈f,EX x)(l:f.length≤1073741824):Hm f true=some (IB f):=by
 unfold Hm
 rw[CT (n:=f.length) (Eg f) (λk j=>by
  unfold KY Eg
  rw[vx (by simpa using j),AR j,AE,Aa (by omega),VO _ (h _ (BL j)),AE]
  by_cases e:Bv f[k]! = 0
  ·rw[ne (CI e),vx e];rfl
  ·rw[vx (BX e),ne e];rfl) (by unfold KY;rw[ne (by simp)])]
 exact ft f l
theorem uS(f:List AD)(h:∀x∈f,EX x)(l:f.length≤1073741824):JW f true=some (IB f):=by
 unfold JW
 rw[CT (n:=f.length) (Eg f) (λk j=>by
  unfold LU Eg
  rw[vx (by simpa using j),AR j,AE,Aa (by omega),XB _ (h _ (BL j)),AE]
  by_cases e:Bv f[k]! = 0
  ·rw[ne (CI e),vx e];rfl
  ·rw[vx (BX e),ne e];rfl) (by unfold LU;rw[ne (by simp)])]
 exact ft f l
instance:Inhabited Un:=⟨.r false []⟩
def off(n:List UInt8):AC:=⟨n,[]⟩
def Dn:Un→AI
 | .a e=>⟨1,0,[],[e]⟩
 | .r true _=>⟨2,1,[],[]⟩
 | .r false t=>⟨0,1,t,[]⟩
def Ic(u:Un):Prop:=match u with | .a _=>False | .r c t=>(c=false→Am t true=0)∧(c=true→t=[])∧t.length≤2
theorem fQ{us:List Un}(h:∀u ∈ us, Ic u):∀u ∈ us, DZ u := by
  intro u hu
  have := h u hu
  match u, this with
  | .r true t, ht => have := ht.2.1 rfl
                     subst this;exact⟨λh => (by cases h), GF⟩
  | .r false t, ht => exact⟨λ_ => ht.1 rfl, GS (ht.1 rfl) (by have := ht.2.2;omega)⟩
theorem mj{u}(h:Ic u):Cv (Dn u)=0∧GV (Dn u)∧(Dn u).N=1:=by
 match u,h with
 | .r true t,j=>exact⟨f6 (by decide) (by decide),⟨GF,by simp[Dn],λe l=>by simp[Dn] at l⟩,rfl⟩
 | .r false t,j=>exact⟨Xr (by decide) (by decide) (j.1 rfl),⟨GS (j.1 rfl) (by have:=j.2.2;show t.length≤_;omega),by simp[Dn],λe l=>by simp[Dn] at l⟩,rfl⟩
theorem s9(us:List Un)(h:∀u∈us,Ic u)(V:us.length≤1048576) :
  iter (λ(a:Int × Ae)=>Ff (us.map Dn) a.1 a.2) (0,(Ae.mk [] [] 0))=some (.nrm (Cm (Av us))):=by
 have key:∃r,iter (λ(a:Int × Ae)=>Ff (us.map Dn) a.1 a.2) (0,(Ae.mk [] [] 0))=some r∧r=.nrm (Cm (Av us)):=by
  refine Ec us.length (λk q=>q=((k:Int),Cm (Av (us.take k)))) _ ?_ ?_ rfl
  ·rintro k q j rfl
   have w:=h _ (BL j)
   have l:∀u∈us.take k,DZ u:=λu F=>fQ h u (yC F)
   have I:(us.take k).length≤us.length:=by rw[xl];omega
   have J:=J8 l
   have A:(us.map Dn)[k]! = Dn us[k]!:=by
    rw[wD (us.map Dn) k (by simpa using j),wD us k j,yj]
   obtain⟨C,E,M⟩:=mj w
   refine .inl ⟨_,?_,rfl⟩
   show Ff (us.map Dn) (k:Int) _=_
   unfold Ff
   rw[vx (by simpa using j),AR (by simpa using j),AE,A,Wf _ E,AE,C]
   rw[H4 j]
   generalize us[k]! = u at w C E M
   match u,w with
   | .r true t,B=>
    have O:=B.2.1 rfl
    subst O
    rw[ne (by simp[Dn]),AE,ne (by decide),ne (by simp[Dn]),ne (by simp[Dn])]
    show Ao (AB (AM .i64 (((Av (us.take k)).cuts:Int)+1)) _) _=_
    rw[Bz (by omega) (by omega),AE,ne (by rw[vy];omega),Hi,Aa (by omega),AE]
    have e:=Tr (us.take k) 1 []
    rw[show List.replicate 1 (Un.r true [])=[.r true []] from rfl] at e
    rw[← e];rfl
   | .r false t,B=>
    rw[ne (by simp[Dn]),AE,ne (by decide),vx (by simp[Dn])]
    show Ao (AB (Gu _ 1 t) _) _=_
    rw[KV l (by omega) 1 t (by decide) (by decide) (by have:=B.2.2;omega),AE,Hi,Aa (by omega),AE];rfl
  ·rintro q rfl
   refine⟨_,?_,rfl⟩
   rw[xp]
   show Ff (us.map Dn) (us.length:Int) _=_
   unfold Ff
   rw[ne (by simp)]
 obtain⟨r,T,U⟩:=key
 rw[T,U]
theorem u6(us:List Un)(h:∀u∈us,Ic u)(l:us.length≤1048576):It (us.map Dn)=some (BO us,0):=by
 unfold It
 have j:=fQ h
 have q:=J8 j
 have A:=Ta us
 have B:=W9 us
 have a3:Au us≤us.length:=yP
 have w:CZ (BO us)=0:=fT (JK j) (by omega) (by omega)
 rw[s9 us h l,Hi,P2 j (by omega) (by omega),ne (by simpa using w),Kp]
theorem ov:∀c,c<256→Fe[c]! ∈ ([240,241,2,19,3,35,52,4,68]:List Int):=by decide +kernel
theorem ev:Fe.length=256:=by decide +kernel
theorem oO{x:Int}(h:x∈([2,19,3,35,52,4,68]:List Int)):(∃a,AL Re (FZ .u8 x 4)=some a)∧∃sz:Nat,IntKind.i64.wrap (Cg .u8 x 7)=(sz:Int)∧2≤sz∧sz≤4:=by
 simp only[wM,List.mem_nil_iff,zZ] at h
 rcases h with rfl | rfl | rfl | rfl | rfl | rfl | rfl
 ·exact⟨⟨_,rfl⟩,2,by decide +kernel,by decide,by decide⟩
 ·exact⟨⟨_,rfl⟩,3,by decide +kernel,by decide,by decide⟩
 ·exact⟨⟨_,rfl⟩,3,by decide +kernel,by decide,by decide⟩
 ·exact⟨⟨_,rfl⟩,3,by decide +kernel,by decide,by decide⟩
 ·exact⟨⟨_,rfl⟩,4,by decide +kernel,by decide,by decide⟩
 ·exact⟨⟨_,rfl⟩,4,by decide +kernel,by decide,by decide⟩
 ·exact⟨⟨_,rfl⟩,4,by decide +kernel,by decide,by decide⟩
def XA(s:List UInt8)(o:Option (Int × Int)):Prop:=∃(r:Int) (n:Nat),o=some (r,(n:Int))∧1≤n∧n≤s.length
theorem Nn{s}(h:s≠[]) r:XA s (some (r,1)):=⟨r,1,rfl,wL _,xP.2 h⟩
theorem l7(s:List UInt8)(h:s≠[]):XA s (LJ s):=by
 have A:0<s.length:=xP.2 h
 unfold LJ
 rw[ne (by rw[vy];omega),show(0:Int)=((0:Nat):Int) from rfl,AR A,AE]
 generalize s[0]! = c
 have l:c.toNat<256:=c.toNat_lt
 rw[AR (l:=Fe) (by rw[ev];exact l),AE]
 have q:=ov _ l
 generalize Fe[c.toNat]! = x at q
 by_cases u:240≤x
 ·rw[vx (by rw[vy];exact u)];exact Nn h _
 ·have j:x∈([2,19,3,35,52,4,68]:List Int):=by
   simp only[wM,List.mem_nil_iff,zZ] at q ⊢
   omega
  obtain⟨⟨a,B⟩,sz,C,E,F⟩:=oO j
  rw[ne (by rw[vy];exact u),B,AE,C]
  by_cases w:(s.length:Int)<sz
  ·rw[vx (by rw[vy];exact w)];exact Nn h _
  rw[ne (by rw[vy];exact w),show(1:Int)=((1:Nat):Int) from rfl,AR (by omega),AE]
  split
  ·exact Nn h _
  by_cases I:sz≤2
  ·rw[vx (by rw[vy];omega)];exact⟨_,2,rfl,by decide,by omega⟩
  rw[ne (by rw[vy];omega),show(2:Int)=((2:Nat):Int) from rfl,AR (by omega),AE]
  split
  ·exact Nn h _
  by_cases J:sz≤3
  ·rw[vx (by rw[vy];omega)];exact⟨_,3,rfl,by decide,by omega⟩
  rw[ne (by rw[vy];omega),show(3:Int)=((3:Nat):Int) from rfl,AR (by omega),AE]
  split
  ·exact Nn h _
  ·exact⟨_,4,rfl,by decide,by omega⟩
theorem mh(s:List UInt8)(h:s≠[]):XA s (HH s):=by
 have j:0<s.length:=xP.2 h
 unfold HH
 rw[v6 h,show((!false)==true)=true from rfl,At,show(0:Int)=((0:Nat):Int) from rfl,AR j,AE,zY,xJ]
 split
 ·rw[AE];exact Nn h _
 ·obtain⟨r,n,l,q,u⟩:=l7 s h
  rw[l];exact⟨r,n,rfl,q,u⟩
theorem VF(s:List UInt8) k(j:k≤s.length):CV s (k:Int) (s.length:Int)=some (s.drop k):=by
 unfold CV
 rw[vx (by omega)]
 congr 1
 rw[yT (by simp),wy]
theorem rj(l:List AC)(h:l.length≤1073741824):app 32 ([]:List AC) l=some l:=by
 unfold app
 rw[vx (by simp only[yJ];omega)];rfl
def KG(t:Bool)(f:List AD)(k:Nat):Option Int:=if Bv f[k]! = 0 then(if t=false∧f[k]!.Ref=0 then some 8 else none) else some (Bv f[k]!)
theorem lT{x:AD}(h:Bv x=0):(x.Ref=0↔x.Char≠0):=by
 unfold Bv at h
 by_cases c:x.Char=0<;>by_cases r:x.Ref=0<;>simp[c,r] at h ⊢
theorem fd(f:List AD)(h:∀x∈f,EX x)(l:f.length≤1073741824):Hm f false=some (((List.range f.length).findSome? (KG false f)).getD 0):=by
 unfold Hm
 rw[CT (n:=f.length) (KG false f) (λk j=>by
  unfold KY KG
  rw[vx (by simpa using j),AR j,AE,Aa (by omega),VO _ (h _ (BL j)),AE]
  generalize f[k]! = x
  by_cases e:Bv x=0
  ·rw[ne (CI e),vx e]
   by_cases r:x.Ref=0
   ·rw[vx (show(!false&&(x.Ref=0))=true by rw[vz r];rfl),vx ⟨rfl,r⟩];rfl
   ·rw[ne (show ¬ (!false&&(x.Ref=0))=true by rw[v6 r];decide),ne (λh=>r h.2)];rfl
  ·rw[vx (BX e),ne e];rfl) (by unfold KY;rw[ne (by simp)])]
 cases (List.range f.length).findSome? (KG false f)<;>rfl
theorem kH(f:List AD)(h:∀x∈f,EX x)(u:f.length≤1073741824):JW f false=some (((List.range f.length).findSome? (KG false f)).getD 0):=by
 unfold JW
 rw[CT (n:=f.length) (KG false f) (λk j=>by
  unfold LU KG
  rw[vx (by simpa using j),AR j,AE,Aa (by omega),XB _ (h _ (BL j)),AE]
  generalize f[k]! = x
  by_cases e:Bv x=0
  ·rw[ne (CI e),vx e]
   have q:=lT e
   by_cases r:x.Ref=0
   ·rw[vx (show(!false&&!(x.Char=0))=true by rw[v6 (q.1 r)];rfl),vx ⟨rfl,r⟩];rfl
   ·have l:x.Char=0:=wX λl=>r (q.2 l)
    rw[ne (show ¬ (!false&&!(x.Char=0))=true by rw[vz l];decide),ne (λh=>r h.2)];rfl
  ·rw[vx (BX e),ne e];rfl) (by unfold LU;rw[ne (by simp)])]
 cases (List.range f.length).findSome? (KG false f)<;>rfl
theorem jI(f:List AD) t(h:∀x∈f,EX x)(j:f.length≤1073741824):∃r,Hm f t=some r∧JW f t=some r:=by
 cases t
 ·exact⟨_,fd f h j,kH f h j⟩
 ·exact⟨_,gP f h j,uS f h j⟩
theorem rk(a b:List AD)(M:a.length≤9223372036854775806)(h:∀e∈a,e.Attrs.length≤1073741824):WB a b=some (decide (a=b)):=by
 unfold WB
 by_cases j:a.length=b.length
 ·rw[ne (by simp[j]),CT (n:=a.length) (λk=>if decide (a[k]! = b[k]!) then none else some false) (λk l=>by
   unfold YN
   have O:=h _ (BL l)
   rw[vx (by simpa using l),AR l,AR (by omega),AE,AE,Pr _ _ (by omega),Aa (by omega)]
   generalize a[k]! = x
   generalize b[k]! = y
   obtain⟨q,u,w⟩:=x
   obtain⟨A,B,C⟩:=y
   by_cases E:q=A<;>by_cases F:u=B<;>by_cases I:w=C<;>simp[E,F,I,Cb,default]) (by unfold YN;rw[ne (by simp)]),IR,Ek]
  by_cases h:a=b
  ·subst h;rw[Ru,vz rfl];rfl
  ·rw[v6 h]
   have:((List.range a.length).all λk=>decide (a[k]! = b[k]!))=false:=by
    rw[← xR];exact λJ=>h (UQ j J)
   rw[this];rfl
 ·rw[vx (by simp;omega),v6 (by rintro rfl;exact j rfl)]
theorem oN(f:List AD)(u:f.length≤1073741824):∃r,iter (λ(a:Int × (List Int))=>MK f a.1 a.2) (0,[])=some r∧r.length≤f.length:=by
 refine Ec f.length (λk l=>l.1=(k:Int)∧l.2.length≤k) _ ?_ ?_ ⟨rfl,by simp⟩
 ·rintro k ⟨x,out⟩ q ⟨rfl,j⟩
  dsimp only at j ⊢
  left
  unfold MK
  rw[vx (by simpa using q),AR q,AE]
  by_cases r:f[k]!.Ref=0
  ·rw[ne (CI r),AE,Aa (by omega),AE]
   exact⟨_,rfl,rfl,by dsimp only;omega⟩
  ·rw[vx (BX r),UY (by omega),AE,AE,Aa (by omega),AE]
   exact⟨_,rfl,rfl,by dsimp only;rw[List.length_append,List.length_singleton];omega⟩
 ·rintro⟨x,out⟩ ⟨rfl,j⟩
  dsimp only at j ⊢
  unfold MK
  rw[ne (by simp)]
  exact⟨_,rfl,j⟩
theorem Nf{α:Type}[Inhabited α][DecidableEq α]{f}(a b:List α)(j:a.length=b.length)
 (l:∀k:Nat, k<a.length→f k=Cb k (if decide (a[k]! = b[k]!) then none else some false)) (q:f a.length=some (.inr (.nrm ()))) :
    (Ao (iter f 0) λ(_:Unit) => some true)=some (decide (a=b)) := by
  rw[CT (n := a.length) (λk => if decide (a[k]! = b[k]!) then none else some false) l q, IR, Ek]
  by_cases h:a=b
  · subst h;rw[Ru, vz rfl];rfl
  · rw[v6 h]
    have:((List.range a.length).all λk => decide (a[k]! = b[k]!))=false := by
      rw[← xR];exact λu => h (UQ j u)
    rw[this];rfl
theorem cB(x y:As):((x.Row=y.Row)&&((x.Col=y.Col)&&((x.H=y.H)&&((x.W=y.W)&&true))))=decide (x=y):=by
 obtain⟨j,l,q,u⟩:=x
 obtain⟨w,A,B,C⟩:=y
 rw[ws];simp
theorem iY(x y:BN):((x.Clock=y.Clock)&&((x.Site=y.Site)&&((x.Kind=y.Kind)&&((x.Item=y.Item)&&((x.Parent=y.Parent)&&((x.Place=y.Place)&&((x.Name=y.Name)&&((x.Value=y.Value)&&true))))))))=decide (x=y):=by
 obtain⟨j,l,q,u,w,A,B,C⟩:=x
 obtain⟨E,F,I,J,M,O,T,U⟩:=y
 rw[ws];simp
theorem l9(a b:List As)(q:a.length≤9223372036854775806):Qj a b=some (decide (a=b)):=by
 unfold Qj
 by_cases j:a.length=b.length
 ·rw[ne (by simp[j])]
  exact Nf a b j (λk l=>by
   unfold Ol
   rw[vx (by simpa using l),AR l,AR (by omega),AE,AE,cB,Aa (by omega)]
   generalize a[k]! = x
   generalize b[k]! = y
   by_cases h:x=y<;>simp[h,Cb]) (by unfold Ol;rw[ne (by simp)])
 ·rw[vx (by simp;omega),v6 (by rintro rfl;exact j rfl)]
theorem tB(a b:List As)(q:a.length≤9223372036854775806):Ip a b=some (decide (a=b)):=by
 unfold Ip
 by_cases j:a.length=b.length
 ·rw[ne (by simp[j])]
  exact Nf a b j (λk l=>by
   unfold NF
   rw[vx (by simpa using l),AR l,AR (by omega),AE,AE,cB,Aa (by omega)]
   generalize a[k]! = x
   generalize b[k]! = y
   by_cases h:x=y<;>simp[h,Cb]) (by unfold NF;rw[ne (by simp)])
 ·rw[vx (by simp;omega),v6 (by rintro rfl;exact j rfl)]
theorem pE(a b:List BN)(q:a.length≤9223372036854775806):U9 a b=some (decide (a=b)):=by
 unfold U9
 by_cases j:a.length=b.length
 ·rw[ne (by simp[j])]
  exact Nf a b j (λk l=>by
   unfold Vr
   rw[vx (by simpa using l),AR l,AR (by omega),AE,AE,iY,Aa (by omega)]
   generalize a[k]! = x
   generalize b[k]! = y
   by_cases h:x=y<;>simp[h,Cb]) (by unfold Vr;rw[ne (by simp)])
 ·rw[vx (by simp;omega),v6 (by rintro rfl;exact j rfl)]
theorem uh(a b:List BN)(q:a.length≤9223372036854775806):Js a b=some (decide (a=b)):=by
 unfold Js
 by_cases j:a.length=b.length
 ·rw[ne (by simp[j])]
  exact Nf a b j (λk l=>by
   unfold Nh
   rw[vx (by simpa using l),AR l,AR (by omega),AE,AE,iY,Aa (by omega)]
   generalize a[k]! = x
   generalize b[k]! = y
   by_cases h:x=y<;>simp[h,Cb]) (by unfold Nh;rw[ne (by simp)])
 ·rw[vx (by simp;omega),v6 (by rintro rfl;exact j rfl)]
theorem rZ(x y:Aw)(U:x.Attrs.length≤1073741824):OS x y=some (decide (x=y)):=by
 unfold OS
 rw[Pr _ _ (by omega)]
 obtain⟨j,l,q,u,w⟩:=x
 obtain⟨A,B,C,E,F⟩:=y
 by_cases I:j=A<;>by_cases J:l=B<;>by_cases M:q=C<;>by_cases O:u=E<;>by_cases T:w=F<;>simp[I,J,M,O,T,gd,AE]
theorem sD(x y:Aw)(U:x.Attrs.length≤1073741824):QO x y=some (decide (x=y)):=by
 unfold QO
 rw[NX _ _ (by omega)]
 obtain⟨j,l,q,u,w⟩:=x
 obtain⟨A,B,C,E,F⟩:=y
 by_cases I:j=A<;>by_cases J:l=B<;>by_cases M:q=C<;>by_cases O:u=E<;>by_cases T:w=F<;>simp[I,J,M,O,T,gd,AE]
theorem jf(a b:List Aw)(q:a.length≤9223372036854775806)(h:∀x∈a,x.Attrs.length≤1073741824):Qo a b=some (decide (a=b)):=by
 unfold Qo
 by_cases j:a.length=b.length
 ·rw[ne (by simp[j])]
  exact Nf a b j (λk l=>by
   unfold RM
   rw[vx (by simpa using l),AR l,AR (by omega),AE,AE,rZ _ _ (h _ (BL l)),AE,Aa (by omega)]
   generalize a[k]! = x
   generalize b[k]! = y
   by_cases h:x=y<;>simp[h,Cb]) (by unfold RM;rw[ne (by simp)])
 ·rw[vx (by simp;omega),v6 (by rintro rfl;exact j rfl)]
theorem lD(a b:List Aw)(q:a.length≤9223372036854775806)(h:∀x∈a,x.Attrs.length≤1073741824):Jk a b=some (decide (a=b)):=by
 unfold Jk
 by_cases j:a.length=b.length
 ·rw[ne (by simp[j])]
  exact Nf a b j (λk l=>by
   unfold M2
   rw[vx (by simpa using l),AR l,AR (by omega),AE,AE,sD _ _ (h _ (BL l)),AE,Aa (by omega)]
   generalize a[k]! = x
   generalize b[k]! = y
   by_cases h:x=y<;>simp[h,Cb]) (by unfold M2;rw[ne (by simp)])
 ·rw[vx (by simp;omega),v6 (by rintro rfl;exact j rfl)]
def Nw(g:BW):Prop:=g.Cells.length≤1048576∧g.Merges.length≤1048576∧∀x∈g.Cells,Co x.Attrs
structure OO(n:Ag):Prop where
 at_:Co n.Attrs
 fl:n.Flow.length≤1048576
 fa:∀e∈n.Flow,Co e.Attrs
 gr:Nw n.Grid
 dr:n.Draw.length≤1048576
def ro(d:B0):Prop:=d.Nodes.length≤1048576∧∀n∈d.Nodes,OO n
theorem YC x y(h:Nw x):Lr x y=some (decide (x=y)):=by
 obtain⟨l,q,j⟩:=h
 unfold Lr
 rw[l9 _ _ (by omega),jf _ _ (by omega) (λe u=>(j e u).1)]
 obtain⟨w,A,B,C⟩:=x
 obtain⟨E,F,I,J⟩:=y
 by_cases l:w=E<;>by_cases q:A=F<;>by_cases j:B=I<;>by_cases M:C=J<;>simp[l,q,j,M,gd,AE]
theorem uU x y(h:Nw x):Qs x y=some (decide (x=y)):=by
 obtain⟨l,q,j⟩:=h
 unfold Qs
 rw[tB _ _ (by omega),lD _ _ (by omega) (λe u=>(j e u).1)]
 obtain⟨w,A,B,C⟩:=x
 obtain⟨E,F,I,J⟩:=y
 by_cases l:w=E<;>by_cases q:A=F<;>by_cases j:B=I<;>by_cases M:C=J<;>simp[l,q,j,M,gd,AE]
theorem vu x y(h:OO x):gI x y=some (decide (x=y)):=by
 have Z:=h.at_.1
 have hf:=h.fl
 have hd:=h.dr
 unfold gI
 rw[Pr _ _ (by omega),rk _ _ (by omega) (λe j=>(h.fa e j).1),YC _ _ h.gr,pE _ _ (by omega)]
 obtain⟨l,q,u,w,A,B⟩:=x
 obtain⟨C,E,F,I,J,M⟩:=y
 by_cases O:l=C<;>by_cases T:q=E<;>by_cases U:u=F<;>by_cases V:w=I<;>by_cases X:A=J<;>by_cases Y:B=M<;>simp[O,T,U,V,X,Y,gd,AE]
theorem hM x y(h:OO x):IF x y=some (decide (x=y)):=by
 have Z:=h.at_.1
 have hf:=h.fl
 have hd:=h.dr
 unfold IF
 rw[NX _ _ (by omega),WF _ _ (by omega) (λe j=>(h.fa e j).1),uU _ _ h.gr,uh _ _ (by omega)]
 obtain⟨l,q,u,w,A,B⟩:=x
 obtain⟨C,E,F,I,J,M⟩:=y
 by_cases O:l=C<;>by_cases T:q=E<;>by_cases U:u=F<;>by_cases V:w=I<;>by_cases X:A=J<;>by_cases Y:B=M<;>simp[O,T,U,V,X,Y,gd,AE]
theorem Tv{β:Type}(p:Nat→Bool)(F:Nat→β)(l:List Nat):(l.findSome? λk=>if p k then some (F k) else none)=(l.find? p).map F:=by
 induction l with
 | nil=>rfl
 | cons a l j=>rw[xc,List.find?_cons];by_cases h:p a=true<;>simp[h,j]
def GH(l:List Ag)(id:Int):Option Nat:=(List.range l.length).find? λk=>decide (l[k]!.ID=id)
theorem OT{l:List Ag}{id}{k}(h:GH l id=some k):k<l.length∧l[k]!.ID=id:=by
 have j:=List.mem_of_find?_eq_some h
 have q:=List.find?_some h
 exact⟨wh.1 j,xu q⟩
theorem WI(d:B0)(id:Int)(l:d.Nodes.length≤1048576):Hh d id=some (match GH d.Nodes id with | some k=>(k:Int) | none=>-1):=by
 unfold Hh
 rw[CT (n:=d.Nodes.length) (λk=>if decide (d.Nodes[k]!.ID=id) then some (k:Int) else none) (λk j=>by
  unfold Pz
  rw[vx (by simpa using j),AR j,AE,Aa (by omega)]
  by_cases h:d.Nodes[k]!.ID=id
  ·rw[vx (vz h),vx (vz h)];rfl
  ·rw[ne (by simpa using h),ne (by simpa using h)];rfl) (by unfold Pz;rw[ne (by simp)]),Tv,Ek]
 unfold GH
 cases (List.range d.Nodes.length).find? λk=>decide (d.Nodes[k]!.ID=id)<;>rfl
def Ke:Ag:=Ag.mk 1 0 [] [(AD.mk 0 2 [])] (BW.mk 0 0 [] []) []
theorem qH:EX (AD.mk 0 2 []):=⟨by decide,λa j=>by cases j⟩
theorem tR:Nw (BW.mk 0 0 [] []):=⟨by decide,by decide,λa j=>by cases j⟩
theorem ot:Hu []=some 0:=by rw[PP _ (λa j=>by cases j) (by decide)];rfl
theorem ns:Hm [AD.mk 0 2 []] false=some 0:=by
 rw[fd _ (λx j=>by
  have:x=AD.mk 0 2 []:=by simpa using j
  subst this;exact qH) (by decide)]
 rfl
theorem jg:Lr (BW.mk 0 0 [] []) (BW.mk 0 0 [] [])=some true:=by rw[YC _ _ tR,vz rfl]
theorem YP:Fc Ke=some 0:=by
 unfold Fc Ke
 dsimp only
 rw[ne (by decide),ne (by decide),ot,AE,ne (by decide)]
 have t:IC 0=some false:=rfl
 have l:Mc 0=some true:=rfl
 have g:Mi 0=some false:=rfl
 have d:Jm 0=some false:=rfl
 rw[t,l,g,d,jg]
 show(AB (Hm [AD.mk 0 2 []] false) λ(j:Int)=>some j)=some 0
 rw[ns];rfl
theorem Hg:KS Ke=some [2]:=by
 unfold KS Q8
 have j:(λ(a:Int × (List Int))=>IH Ke.Flow a.1 a.2) (0,[])=some (.inl (1,[2])):=by
  show IH [AD.mk 0 2 []] 0 []=_
  unfold IH;rfl
 have l:(λ(a:Int × (List Int))=>IH Ke.Flow a.1 a.2) (1,[2])=some (.inr [2]):=by
  show IH [AD.mk 0 2 []] 1 [2]=_
  unfold IH;rfl
 have q:(λ(a:Int × (List Int))=>Hb Ke a.1 a.2) (0,[2])=some (.inr [2]):=by
  show Hb Ke 0 [2]=_
  unfold Hb;rfl
 rw[DM j,B3 l,AE,AE,B3 q];rfl
theorem ss{μ:Ag→Nat}{γ:BW→Nat}{ψ:Aw→Nat}{ρ:As→Nat}{δ:BN→Nat}{ν:AD→Nat}{κ:AC→Nat}
  (q:∀n,(n.Attrs.map κ).sum+(n.Flow.map ν).sum+γ n.Grid+(n.Draw.map δ).sum+1≤μ n) (hg:∀g,(g.Cells.map ψ).sum+(g.Merges.map ρ).sum+1≤γ g)
  (hc:∀c,(c.Attrs.map κ).sum+1≤ψ c) (w:∀r,1≤ρ r) (hd:∀o,1≤δ o) (A:∀e,(e.Attrs.map κ).sum+1≤ν e) (j:∀a,a.Name.length+a.Value.length+1≤κ a)
  {d:B0} (C:(d.Nodes.map μ).sum≤1048576):ro d:=by
 have E:=Np (μ:=μ) (λn=>by have:=q n;omega) d.Nodes
 refine⟨by omega,λn B=>?_⟩
 have F:=IK (μ:=μ) B
 have I:=q n
 have J:=hg n.Grid
 have u:=jr (ν:=ν) (κ:=κ) A j (f:=n.Flow) (by omega)
 have M:=Np (μ:=ψ) (λc=>by have:=hc c;omega) n.Grid.Cells
 have O:=Np (μ:=ρ) w n.Grid.Merges
 have T:=Np (μ:=δ) hd n.Draw
 refine⟨VP j (by omega),u.1,u.2,⟨by omega,by omega,λc l=>VP j ?_⟩,by omega⟩
 have U:=IK (μ:=ψ) l
 have:=hc c
 omega
theorem Gq{n:Nat}(h:n<2147483648):IntKind.i32.wrap (n:Int)=(n:Int):=by
 have e:(n:Int) % (2 ^ (32:Nat):Int)=(n:Int):=zh (by omega) (by omega)
 show(if(true&&((n:Int) % (2 ^ (32:Nat):Int) ≥ (2 ^ (31:Nat):Int)))=true then(n:Int) % (2 ^ (32:Nat):Int)-(2 ^ (32:Nat):Int) else(n:Int) % (2 ^ (32:Nat):Int))=_
 rw[e,ne]
 simp only[xJ,vy]
 omega
theorem iI{n:Nat}(h:n<9223372036854775808):IntKind.i64.wrap (n:Int)=(n:Int):=by
 have e:(n:Int) % (2 ^ (64:Nat):Int)=(n:Int):=zh (by omega) (by omega)
 show(if(true&&((n:Int) % (2 ^ (64:Nat):Int) ≥ (2 ^ (63:Nat):Int)))=true then(n:Int) % (2 ^ (64:Nat):Int)-(2 ^ (64:Nat):Int) else(n:Int) % (2 ^ (64:Nat):Int))=_
 rw[e,ne]
 simp only[xJ,vy]
 omega
theorem Ml(i a b:Nat)(j:b<2 ^ i)(l:a * 2 ^ i+b<2147483648):EZ .i32 ((a * 2 ^ i:Nat):Int) (b:Int)=((a * 2 ^ i+b:Nat):Int):=by
 unfold EZ
 have q:(BitVec.ofInt 32 ((a * 2 ^ i:Nat):Int) ||| BitVec.ofInt 32 (b:Int)).toNat=a * 2 ^ i+b:=by
  rw[BitVec.toNat_or,BitVec.ofInt_natCast,BitVec.ofInt_natCast,BitVec.toNat_ofNat,BitVec.toNat_ofNat,zK (by omega),zK (by omega)]
  rw[← Nat.shiftLeft_eq,Nat.shiftLeft_add_eq_or_of_lt j]
 show IntKind.i32.wrap ((BitVec.ofInt 32 ((a * 2 ^ i:Nat):Int) ||| BitVec.ofInt 32 (b:Int)).toNat:Int)=_
 rw[q];exact Gq l
theorem uF:∀b:Fin 256,Cg .u8 ((b.val:Nat):Int) 31=((b.val % 32:Nat):Int):=by decide +kernel
theorem qr:∀b:Fin 256,Cg .u8 ((b.val:Nat):Int) 15=((b.val % 16:Nat):Int):=by decide +kernel
theorem sf:∀b:Fin 256,Cg .u8 ((b.val:Nat):Int) 7=((b.val % 8:Nat):Int):=by decide +kernel
theorem Md:∀b:Fin 256,Cg .u8 ((b.val:Nat):Int) 63=((b.val % 64:Nat):Int):=by decide +kernel
theorem MX(i a:Nat)(j:i≤32)(l:a * 2 ^ i<2147483648):D9 .i32 (a:Int) i=((a * 2 ^ i:Nat):Int):=by
 unfold D9
 show IntKind.i32.wrap ((a:Int) * 2 ^ (min i 32))=_
 rw[Nat.min_eq_left j,show(a:Int) * 2 ^ i=((a * 2 ^ i:Nat):Int) by push_cast;rfl,Gq l]
theorem j9:∀c:Fin 256,Fe[c.val]! = (Lib.firstT c.val:Int):=by decide +kernel
theorem jb:∀c:Fin 256,EZ .i32 (QD .i32 (IntKind.i32.wrap (c.val:Int)) (FZ .i32 (D9 .i32 (IntKind.i32.wrap 241) 31) 31)) (Cg .i32 65533 (FZ .i32 (D9 .i32 (IntKind.i32.wrap 241) 31) 31))=65533:=by decide +kernel
theorem rt:∀c:Fin 256,IntKind.i64.wrap (Cg .u8 (Lib.firstT c.val:Int) 7)=((Lib.firstT c.val % 8:Nat):Int):=by decide +kernel
theorem jD:∀c:Fin 256,AL Re (FZ .u8 (Lib.firstT c.val:Int) 4)=some (Iq.mk (Lib.accLo (Lib.firstT c.val / 16)) (Lib.accHi (Lib.firstT c.val / 16))):=by decide +kernel
theorem uD:∀c:Fin 256,128≤c.val→Lib.firstT c.val=241∨(2≤Lib.firstT c.val % 8∧Lib.firstT c.val % 8≤4∧Lib.firstT c.val<240):=by decide +kernel
theorem o8(c d:Fin 256):EZ .i32 (D9 .i32 (IntKind.i32.wrap (Cg .u8 ((c.val:Nat):Int) 31)) 6) (IntKind.i32.wrap (Cg .u8 ((d.val:Nat):Int) 63))=((c.val % 32 * 64+d.val % 64:Nat):Int):=by
 rw[uF,Md,Gq (by omega),Gq (by omega),MX 6 _ (by omega) (by omega),Ml 6 _ _ (by omega) (by omega)]
theorem uj(c d e:Fin 256):EZ .i32 (EZ .i32 (D9 .i32 (IntKind.i32.wrap (Cg .u8 ((c.val:Nat):Int) 15)) 12) (D9 .i32 (IntKind.i32.wrap (Cg .u8 ((d.val:Nat):Int) 63)) 6)) (IntKind.i32.wrap (Cg .u8 ((e.val:Nat):Int) 63)) =
  ((c.val % 16 * 4096+d.val % 64 * 64+e.val % 64:Nat):Int):=by
 rw[qr,Md,Md,Gq (by omega),Gq (by omega),Gq (by omega),MX 12 _ (by omega) (by omega),MX 6 _ (by omega) (by omega),Ml 12 _ _ (by omega) (by omega),
  show c.val % 16 * 2 ^ 12+d.val % 64 * 2 ^ 6=(c.val % 16 * 64+d.val % 64) * 2 ^ 6 by omega,Ml 6 _ _ (by omega) (by omega)]
theorem li(c d e f:Fin 256):EZ .i32 (EZ .i32 (EZ .i32 (D9 .i32 (IntKind.i32.wrap (Cg .u8 ((c.val:Nat):Int) 7)) 18) (D9 .i32 (IntKind.i32.wrap (Cg .u8 ((d.val:Nat):Int) 63)) 12)) (D9 .i32 (IntKind.i32.wrap (Cg .u8 ((e.val:Nat):Int) 63)) 6)) (IntKind.i32.wrap (Cg .u8 ((f.val:Nat):Int) 63)) =
  ((c.val % 8 * 262144+d.val % 64 * 4096+e.val % 64 * 64+f.val % 64:Nat):Int):=by
 rw[sf,Md,Md,Md,Gq (by omega),Gq (by omega),Gq (by omega),Gq (by omega),MX 18 _ (by omega) (by omega),MX 12 _ (by omega) (by omega),MX 6 _ (by omega) (by omega),Ml 18 _ _ (by omega) (by omega),
  show c.val % 8 * 2 ^ 18+d.val % 64 * 2 ^ 12=(c.val % 8 * 64+d.val % 64) * 2 ^ 12 by omega,Ml 12 _ _ (by omega) (by omega),
  show(c.val % 8 * 64+d.val % 64) * 2 ^ 12+e.val % 64 * 2 ^ 6=((c.val % 8 * 64+d.val % 64) * 64+e.val % 64) * 2 ^ 6 by omega,Ml 6 _ _ (by omega) (by omega)]
theorem QB(s:List UInt8) k(h:k<s.length):s.getD k 0=s[k]!:=by
 rw[wD s k h,yN,wB h];rfl
theorem sx(s:List UInt8)(h:s≠[])(j:128≤(s.getD 0 0).toNat):LJ s=some (((Lib.decodeL s).1:Int),((Lib.decodeL s).2:Int)):=by
 have l:0<s.length:=xP.2 h
 rw[Lib.decodeL_N]
 unfold LJ
 rw[ne (by rw[vy];omega),show(0:Int)=((0:Nat):Int) from rfl,AR l,AE]
 rw[QB s 0 l] at j ⊢
 generalize s[0]! = c at j ⊢
 obtain⟨C,hC⟩:∃C:Fin 256,C.val=c.toNat:=⟨⟨c.toNat,c.toNat_lt⟩,rfl⟩
 rw[← hC] at j ⊢
 rw[AR (l:=Fe) (by rw[ev];exact C.isLt),AE,j9,jD,rt]
 rcases uD C j with B | ⟨q,u,w⟩
 ·rw[vx (by rw[vy];omega),Lib.bad_eq _ _ _ _ _ C.isLt B,B]
  show some (_,(1:Int))=_
  rw[show((241:Nat):Int)=241 from rfl,jb C];rfl
 ·rw[ne (by rw[vy];omega),AE]
  have A:=Lib.slow_eq s.length C.val (s.getD 1 0).toNat (s.getD 2 0).toNat (s.getD 3 0).toNat l (UInt8.toNat_lt _) (UInt8.toNat_lt _) (UInt8.toNat_lt _) w
  rw[← A]
  generalize hsz:Lib.firstT C.val % 8=sz at q u ⊢
  generalize Lib.accLo (Lib.firstT C.val / 16)=V
  generalize Lib.accHi (Lib.firstT C.val / 16)=X
  unfold Lib.slowN
  by_cases I:s.length<sz
  ·rw[vx (by rw[vy];omega),vx I];rfl
  rw[ne (by rw[vy];omega),ne I,show(1:Int)=((1:Nat):Int) from rfl,AR (by omega),AE,QB s 1 (by omega)]
  generalize s[1]! = d
  obtain⟨D,Y⟩:∃D:Fin 256,D.val=d.toNat:=⟨⟨d.toNat,d.toNat_lt⟩,rfl⟩
  rw[← Y]
  by_cases J:D.val<V∨X<D.val
  ·rw[vx (by simp only[wF,vy];omega),vx J];rfl
  rw[ne (by simp only[wF,vy];omega),ne J]
  by_cases M:sz≤2
  ·rw[vx (by rw[vy];omega),vx M,o8];rfl
  rw[ne (by rw[vy];omega),ne M,show(2:Int)=((2:Nat):Int) from rfl,AR (by omega),AE,QB s 2 (by omega)]
  generalize s[2]! = e
  obtain⟨E,Z⟩:∃E:Fin 256,E.val=e.toNat:=⟨⟨e.toNat,e.toNat_lt⟩,rfl⟩
  rw[← Z]
  by_cases O:E.val<128∨191<E.val
  ·rw[vx (by simp only[wF,vy];omega),vx O];rfl
  rw[ne (by simp only[wF,vy];omega),ne O]
  by_cases T:sz≤3
  ·rw[vx (by rw[vy];omega),vx T,uj];rfl
  rw[ne (by rw[vy];omega),ne T,show(3:Int)=((3:Nat):Int) from rfl,AR (by omega),AE,QB s 3 (by omega)]
  generalize s[3]! = f
  obtain⟨F,hF⟩:∃F:Fin 256,F.val=f.toNat:=⟨⟨f.toNat,f.toNat_lt⟩,rfl⟩
  rw[← hF]
  by_cases U:F.val<128∨191<F.val
  ·rw[vx (by simp only[wF,vy];omega),vx U];rfl
  rw[ne (by simp only[wF,vy];omega),ne U,li];rfl
theorem o9(s:List UInt8)(h:s≠[]):HH s=some (((Lib.decodeL s).1:Int),((Lib.decodeL s).2:Int)):=by
 have l:0<s.length:=xP.2 h
 unfold HH
 rw[v6 h,show((!false)==true)=true from rfl,At,show(0:Int)=((0:Nat):Int) from rfl,AR l,AE,zY,xJ]
 by_cases q:(s[0]!).toNat<128
 ·rw[vx (by rw[vy];omega),AE,Gq (by omega)]
  obtain⟨c,t,rfl⟩:=List.exists_cons_of_ne_nil h
  have j:c.toNat<128:=q
  rw[Lib.decodeL_ascii c t j];rfl
 ·rw[ne (by rw[vy];omega),sx s h (by rw[QB s 0 l];omega),Bi]
def Gx(r:Nat):Bool:=(r=10)||!Er (r:Int)
def He:Nat→List UInt8→Bool
 | 0,_=>true
 | n+1,s=>if s=[] then true else if((Lib.decodeL s).1=65533∧(Lib.decodeL s).2=1)∨Gx (Lib.decodeL s).1=true then false else He n (s.drop (Lib.decodeL s).2)
theorem gf n(s:List UInt8):He (n+1) s=if s=[] then true else if((Lib.decodeL s).1=65533∧(Lib.decodeL s).2=1)∨Gx (Lib.decodeL s).1=true then false else He n (s.drop (Lib.decodeL s).2):=rfl
def OX:Nat→List UInt8→Bool
 | 0,_=>true
 | n+1,s=>if s=[] then true else if Gx (Lib.decodeL s).1=true then false else OX n (s.drop (Lib.decodeL s).2)
theorem iP n(s:List UInt8):OX (n+1) s=if s=[] then true else if Gx (Lib.decodeL s).1=true then false else OX n (s.drop (Lib.decodeL s).2):=rfl
theorem mW:∀(n:Nat) (s:List UInt8),s.length≤n→(Lib.validD s&&OX n s)=He n s:=by
 intro n
 induction n with
 | zero=>intro s u;obtain rfl:=xf (Nat.le_zero.1 u);rfl
 | succ n w=>
  intro s u
  rw[gf,iP]
  by_cases j:s=[]
  ·subst j;rfl
  ·have A:=Lib.decodeL_width s
   have B:=xP.2 j
   rw[ne j,ne j,Lib.validD_step s j]
   by_cases l:(Lib.decodeL s).1=65533∧(Lib.decodeL s).2=1
   ·rw[vx l,vx (show((Lib.decodeL s).1=65533∧(Lib.decodeL s).2=1)∨Gx (Lib.decodeL s).1=true from .inl l)];rfl
   ·rw[ne l]
    by_cases q:Gx (Lib.decodeL s).1=true
    ·rw[vx q,vx (.inr q),y9]
    ·rw[ne q,ne (by rintro(h | h);exact l h;exact q h)]
     exact w _ (by rw[wq];omega)
theorem eF(r:Nat)(h:r≤1114111):IntKind.i64.wrap (r:Int)=(r:Int):=iI (by omega)
theorem ki(s:List UInt8):RO s=some (He s.length s):=by
 unfold RO
 have key:∀(n:Nat) (s:List UInt8),s.length≤n→(Ao (iter (λ(a:(List UInt8))=>Fm a) s) λ(_:Unit)=>some true)=some (He n s):=by
  intro n
  induction n with
  | zero=>
   intro s hs
   obtain rfl:=xf (Nat.le_zero.1 hs)
   have h1:(λ(a:(List UInt8))=>Fm a) []=some (.inr (.nrm ())):=by
    show Fm []=_
    unfold Fm;rfl
   rw[B3 h1];rfl
  | succ n ih=>
   intro s hs
   rw[gf]
   by_cases hn:s=[]
   ·subst hn
    have h1:(λ(a:(List UInt8))=>Fm a) []=some (.inr (.nrm ())):=by
     show Fm []=_
     unfold Fm;rfl
    rw[B3 h1];rfl
   ·have hw:=Lib.decodeL_width s
    have hle:=Lib.decodeL_le s hn
    have hr:=Lib.decodeL_rune s
    have hstep:Fm s=if((Lib.decodeL s).1=65533∧(Lib.decodeL s).2=1)∨Gx (Lib.decodeL s).1=true then some (.inr (.ext false)) else some (.inl (s.drop (Lib.decodeL s).2)):=by
     unfold Fm Gx
     rw[vx (BX hn),o9 s hn,Bi,eF _ hr,TL]
     generalize (Lib.decodeL s).1=r at *
     generalize (Lib.decodeL s).2=w at *
     by_cases h1:r=65533∧w=1
     ·obtain⟨rfl,rfl⟩:=h1
      rw[vx (.inl ⟨rfl,rfl⟩)];rfl
     ·have e1:(((r:Int)=65533)&&((w:Int)=1))=false:=by
       rw[← xR,v7,vy,vy];omega
      by_cases h2:r=10
      ·subst h2
       rw[vx (.inr (by rfl)),e1];rfl
      ·have e2:(decide ((r:Int)=10))=false:=v6 (by omega)
       rw[e1,e2,v6 h2]
       show(AB (gd true (some (Er (r:Int)))) λ(r3:Bool)=>_)=_
       rw[At,AE,VF s w hle,AE]
       cases Er (r:Int)
       ·rw[vx (show(r=65533∧w=1)∨(false||!false)=true from .inr rfl)];rfl
       ·rw[ne (show ¬ ((r=65533∧w=1)∨(false||!true)=true) by rintro(h | h);exact h1 h;exact absurd h (by decide))];rfl
    by_cases hb:((Lib.decodeL s).1=65533∧(Lib.decodeL s).2=1)∨Gx (Lib.decodeL s).1=true
    ·rw[vx hb] at hstep
     rw[B3 (f:=λ(a:(List UInt8))=>Fm a) hstep,ne hn,vx hb];rfl
    ·rw[ne hb] at hstep
     rw[DM (f:=λ(a:(List UInt8))=>Fm a) hstep,ne hn,ne hb]
     exact ih _ (by rw[wq];omega)
 exact key s.length s (wL _)
theorem oU(s:List UInt8) p:Gp s p=Lib.decodeL (s.drop p):=(Lib.decodeL_drop ⟨s.toArray⟩ p).symm
theorem se(s:List UInt8)(hs:s.length≤9223372036854775807):Qv s=some (He s.length s):=by
 unfold Qv Ts Sx
 rw[vx hs,AE,← mW s.length s (wL _)]
 cases Lib.validD s with
 | false=>rfl
 | true=>
  rw[ne (by decide),xJ]
  have key:∀(n p:Nat),s.length-p≤n→(Ao (iter (λ(a:(Nat))=>Fw s a) p) λ(_:Unit)=>some true)=some (OX n (s.drop p)):=by
   intro n
   induction n with
   | zero=>
    intro p hp
    have h1:(λ(a:(Nat))=>Fw s a) p=some (.inr (.nrm ())):=by
     show Fw s p=_
     unfold Fw;rw[ne (by rw[vy];omega)]
    rw[B3 h1];rfl
   | succ n ih=>
    intro p hp
    rw[iP]
    by_cases hn:s.length≤p
    ·have h1:(λ(a:(Nat))=>Fw s a) p=some (.inr (.nrm ())):=by
      show Fw s p=_
      unfold Fw;rw[ne (by rw[vy];omega)]
     rw[B3 h1,vx (List.drop_eq_nil_of_le hn)];rfl
    ·have hne:s.drop p≠[]:=by
      intro e
      have:=yZ List.length e
      rw[wq,yJ] at this
      omega
     have hw:=Lib.decodeL_width (s.drop p)
     have hr:=Lib.decodeL_rune (s.drop p)
     have hstep:Fw s p=if Gx (Lib.decodeL (s.drop p)).1=true then some (.inr (.ext false)) else some (.inl (p+(Lib.decodeL (s.drop p)).2)):=by
      unfold Fw Gx
      rw[vx (by rw[vy];omega),oU,eF _ hr,Tn]
      generalize (Lib.decodeL (s.drop p)).1=r at *
      generalize (Lib.decodeL (s.drop p)).2=w at *
      by_cases h2:r=10
      ·subst h2;rfl
      ·rw[v6 h2,v6 (show ¬ ((r:Int)=10) by omega)]
       show(AB (gd true (some (Er (r:Int)))) λ(r3:Bool)=>_)=_
       rw[At,AE]
     rw[ne hne]
     by_cases hb:Gx (Lib.decodeL (s.drop p)).1=true
     ·rw[vx hb] at hstep
      rw[B3 (f:=λ(a:(Nat))=>Fw s a) hstep,vx hb];rfl
     ·rw[ne hb] at hstep
      rw[DM (f:=λ(a:(Nat))=>Fw s a) hstep,ne hb,List.drop_drop]
      exact ih _ (by omega)
  have:=key s.length 0 (by omega)
  rw[List.drop_zero] at this
  exact this
theorem WS{ρ:Type}{f g}{n}(I:Nat→Prop)(u:I 0)(h:∀k:Nat, k<n→I k→∃o:Option ρ, f k=Cb k o∧g k=Cb k o∧(o=none→I (k+1)))
 (w:f n=some (.inr (.nrm ()))) (hg:g n=some (.inr (.nrm ()))):∃o:Option ρ, iter f 0=some (Fu o)∧iter g 0=some (Fu o)∧(o=none→I n) := by
  have key:∀m k:Nat, k+m=n→I k→∃o:Option ρ, iter f (k:Int)=some (Fu o)∧iter g (k:Int)=some (Fu o)∧(o=none→I n) := by
    intro m
    induction m with
    | zero =>
      intro k A j
      obtain rfl:k=n := by omega
      exact⟨none, B3 w, B3 hg, λ_ => j⟩
    | succ m B =>
      intro k A j
      obtain⟨o, l, q, C⟩ := h k (by omega) j
      cases o with
      | some r => exact⟨some r, B3 l, B3 q, λe => by cases e⟩
      | none =>
        obtain⟨o, E, F, J⟩ := B (k+1) (by omega) (C rfl)
        exact⟨o, (DM l).trans E, (DM q).trans F, J⟩
  exact key n 0 (by omega) u
theorem TM x y:Ja x y=some (if x<y then -1 else if y<x then 1 else 0):=by
 unfold Ja Rl
 rw[vz (rfl:x=x),vz (rfl:y=y),AE,AE,ne (by decide),ne (by decide)]
 by_cases j:x<y
 ·rw[vx (vz j),vx j]
 ·rw[ne (by simpa using j),ne j]
  by_cases l:y<x
  ·rw[vx (vz l),vx l]
  ·rw[ne (by simpa using l),ne l]
theorem bU a b:N4 [a,b]=some (if a≠0 then a else b):=by
 unfold N4
 by_cases j:a≠0
 ·have q:(λ(x:Int)=>Ef [a,b] x) 0=some (.inr (.ext a)):=by
   show Ef [a,b] 0=_
   unfold Ef
   rw[vx (by simp),show AL [a,b] 0=some a from rfl,AE,vx (BX j)]
  rw[B3 q,vx j];rfl
 ·have u:a=0:=wU.1 j
  have q:(λ(x:Int)=>Ef [a,b] x) 0=some (.inl 1):=by
   show Ef [a,b] 0=_
   unfold Ef
   rw[vx (by simp),show AL [a,b] 0=some a from rfl,AE,ne (CI u)];rfl
  by_cases A:b≠0
  ·have w:(λ(x:Int)=>Ef [a,b] x) 1=some (.inr (.ext b)):=by
    show Ef [a,b] 1=_
    unfold Ef
    rw[vx (by simp),show AL [a,b] 1=some b from rfl,AE,vx (BX A)]
   rw[DM q,B3 w,ne j];rfl
  ·have l:b=0:=wU.1 A
   have w:(λ(x:Int)=>Ef [a,b] x) 1=some (.inl 2):=by
    show Ef [a,b] 1=_
    unfold Ef
    rw[vx (by simp),show AL [a,b] 1=some b from rfl,AE,ne (CI l)];rfl
   have B:(λ(x:Int)=>Ef [a,b] x) 2=some (.inr (.nrm ())):=by
    show Ef [a,b] 2=_
    unfold Ef
    rw[ne (by simp)]
   rw[DM q,DM w,B3 B,ne j,l];rfl
def CE(a b c d:Int):Int:=if a<b then -1 else if b<a then 1 else if c<d then -1 else if d<c then 1 else 0
theorem gb a b c d:(if(if a<b then -1 else if b<a then 1 else 0)≠(0:Int) then(if a<b then -1 else if b<a then 1 else 0) else if c<d then -1 else if d<c then 1 else(0:Int))=CE a b c d:=by
 unfold CE
 by_cases j:a<b
 ·simp[j]
 ·by_cases l:b<a
  ·simp[j,l]
  ·simp[j,l]
theorem Tg a b c d:0≤CE a b c d↔(b<a∨(b=a∧d≤c)):=by
 unfold CE
 split
 ·constructor<;>intro h<;>omega
 ·split
  ·constructor<;>intro h<;>omega
  ·split
   ·constructor<;>intro h<;>omega
   ·split
    ·constructor<;>intro h<;>omega
    ·constructor<;>intro h<;>omega
theorem sp(a b:Aw):NR a b=some (CE a.Row b.Row a.Col b.Col):=by
 unfold NR
 rw[TM,TM,AE,AE,bU,AE,gb]
theorem Ey x a b:Cr x a b=some (decide (a≤x∧x≤b)):=by
 rw[Is]
 congr 1
 rw[ws];simp
def Il(j l:Int)(c:Aw):Prop:=0≤c.Row∧c.Row<j∧0≤c.Col∧c.Col<l∧0≤c.Ref∧c.Ref≤1073741824
instance (rows cols:Int) (c:Aw):Decidable (Il rows cols c):=by unfold Il;infer_instance
def KB(c:Aw):Bool:=(c.Text=[])&&(c.Ref=0)&&(c.Attrs=[])
def UI(l q:Int)(j:Bool)(c:Aw):Int:=
 if ¬ Il l q c then 2 else if He c.Text.length c.Text=false then 23 else if Am c.Attrs false≠0 then Am c.Attrs false else if(!j&&KB c)=true then 4 else 0
def PW(q u:Int)(j:Bool)(l:List Aw)(k:Nat):Option Int:=
 if UI q u j l[k]!≠0 then some (UI q u j l[k]!) else if 0<k∧0≤CE l[k-1]!.Row l[k]!.Row l[k-1]!.Col l[k]!.Col then some 5 else none
def NP(q u:Int)(j:Bool)(l:List Aw):Int:=((List.range l.length).findSome? (PW q u j l)).getD 0
theorem iA(l:List AC):decide ((l.length:Int)=0)=decide (l=[]):=by
 rw[ws,vy,vy,← List.length_eq_zero_iff];omega
def Ua(c:Aw):Prop:=Co c.Attrs∧c.Text.length≤1073741824
theorem oI(l:List Aw) k(C:k<l.length)(E:l.length≤9223372036854775806) :
  (AB (gd ((decide (0<(k:Int)))==true) (AM .i64 ((k:Int)-1))) λ(u:Int)=>
   AB (gd ((decide (0<(k:Int)))==true) (AL l u)) λ(w:Aw)=>
   AB (gd ((decide (0<(k:Int)))==true) (NR w l[k]!)) λ(A:Int)=>
   if((0<(k:Int))&&(0≤A)) then(some (.inr (.ext 5)):Option (Int ⊕ (An Unit Int))) else(
    AB (AM .i64 ((k:Int)+1)) λ(B:Int)=>some (.inl B)))=Cb k (if 0<k∧0≤CE l[k-1]!.Row l[k]!.Row l[k-1]!.Col l[k]!.Col then some 5 else none):=by
 by_cases q:0<k
 ·rw[vz (show(0:Int)<k by omega),show((true==true):Bool)=true from rfl,At,Es q (by omega),AE,At,AR (by omega),AE,At,sp,AE]
  by_cases j:0≤CE l[k-1]!.Row l[k]!.Row l[k-1]!.Col l[k]!.Col
  ·rw[vx (show(true&&(0≤CE l[k-1]!.Row l[k]!.Row l[k-1]!.Col l[k]!.Col))=true by rw[vz j];rfl),vx ⟨q,j⟩];rfl
  ·rw[ne (show ¬ (true&&(0≤CE l[k-1]!.Row l[k]!.Row l[k-1]!.Col l[k]!.Col))=true by rw[v6 j];decide),ne (λh=>j h.2),Aa (by omega)];rfl
 ·obtain rfl:k=0:=by omega
  rw[ne (show ¬ (0<0∧_) from λh=>absurd h.1 (by decide))];rfl
theorem oK j q w (l:List Aw) (U:l.length≤1073741824) (M:∀c∈l,Ua c):RF l j q w=some (NP j q w l):=by
 unfold RF
 rw[CT (n:=l.length) (PW j q w l) (λk A=>by
  obtain⟨J,V⟩:=M _ (BL A)
  have E:=oI l k A (by omega)
  unfold RU PW UI
  rw[vx (by simpa using A),AR A,AE]
  by_cases B:Il j q l[k]!
  ·have F:=B
   unfold Il at F
   rw[ne (by simp only[wF,vy];omega),ne (by simp only[wF,vy];omega),ki,AE,PP _ J.2 (by have:=J.1;omega),AE,E]
   rw[ne (wU.2 B)]
   cases O:He l[k]!.Text.length l[k]!.Text with
   | false=>rfl
   | true=>
    rw[ne (show ¬ ((!true)=true) by decide),ne (show ¬ (true=false) by decide)]
    by_cases u:Am l[k]!.Attrs false=0
    ·rw[ne (CI u),ne (wU.2 u)]
     have T:Rb l[k]! = some (KB l[k]!):=by unfold Rb KB;rw[iA]
     rw[T,AE]
     by_cases C:(!w&&KB l[k]!)=true
     ·rw[vx (by rw[Bool.and_comm];exact C),vx C];rfl
     ·rw[ne (by rw[Bool.and_comm];exact C),ne C,ne (show ¬ ((0:Int)≠0) from λh=>h rfl)]
    ·rw[vx (BX u),vx u,vx u];rfl
  ·rw[vx B]
   unfold Il at B
   by_cases I:((((l[k]!.Row<0)||(j≤l[k]!.Row))||(l[k]!.Col<0))||(q≤l[k]!.Col))=true
   ·rw[vx I];rfl
   ·rw[ne I,vx (by simp only[wF,vy] at I ⊢;omega)];rfl) (by unfold RU;rw[ne (by simp)]),FG]
 rfl
theorem ka(l:List Aw) k(J:k<l.length)(M:l.length≤9223372036854775806) :
  (AB (gd ((decide (0<(k:Int)))==true) (AM .i64 ((k:Int)-1))) λ(F:Int)=>
      AB (gd ((decide (0<(k:Int)))==true) (AL l F)) λ(j:Aw)=>
      AB (gd ((((decide (0<(k:Int)))==true)&&((decide (l[k]!.Row<j.Row))==false))&&((decide (l[k]!.Row=j.Row))==true)) (AM .i64 ((k:Int)-1))) λ(I:Int)=>
      AB (gd ((((decide (0<(k:Int)))==true)&&((decide (l[k]!.Row<j.Row))==false))&&((decide (l[k]!.Row=j.Row))==true)) (AL l I)) λ(w:Aw)=>
      if((0<(k:Int))&&((l[k]!.Row<j.Row)||((l[k]!.Row=j.Row)&&(l[k]!.Col≤w.Col)))) then(some (.inr (.ext 5)):Option (Int ⊕ (An Unit Int))) else(
       AB (AM .i64 ((k:Int)+1)) λ(A:Int)=>some (.inl A)))=Cb k (if 0<k∧0≤CE l[k-1]!.Row l[k]!.Row l[k-1]!.Col l[k]!.Col then some 5 else none):=by
 have q:=Tg l[k-1]!.Row l[k]!.Row l[k-1]!.Col l[k]!.Col
 by_cases B:0<k
 ·rw[vz (show(0:Int)<k by omega),show((true==true):Bool)=true from rfl,At,Es B (by omega),AE,At,AR (show k-1<l.length by omega),AE]
  by_cases u:l[k]!.Row<l[k-1]!.Row
  ·rw[vz u,vx (show 0<k∧0≤CE l[k-1]!.Row l[k]!.Row l[k-1]!.Col l[k]!.Col from⟨B,q.2 (.inl u)⟩)];rfl
  ·by_cases C:l[k]!.Row=l[k-1]!.Row
   ·rw[v6 u,vz C,show(((true&&(false==false))&&(true==true)):Bool)=true from rfl,At,AE,At,AR (show k-1<l.length by omega),AE]
    by_cases E:l[k]!.Col≤l[k-1]!.Col
    ·rw[vz E,vx (show 0<k∧0≤CE l[k-1]!.Row l[k]!.Row l[k-1]!.Col l[k]!.Col from⟨B,q.2 (.inr ⟨C,E⟩)⟩)];rfl
    ·rw[v6 E,ne (show ¬ (0<k∧0≤CE l[k-1]!.Row l[k]!.Row l[k-1]!.Col l[k]!.Col) from λh=>by have:=q.1 h.2;omega),Aa (by omega)];rfl
   ·rw[v6 u,v6 C,ne (show ¬ (0<k∧0≤CE l[k-1]!.Row l[k]!.Row l[k-1]!.Col l[k]!.Col) from λh=>by have:=q.1 h.2;omega),Aa (by omega)];rfl
 ·obtain rfl:k=0:=by omega
  rw[ne (show ¬ (0<0∧_) from λh=>absurd h.1 (by decide))];rfl
theorem tk j q w (l:List Aw) (V:l.length≤1073741824) (M:∀c∈l,Ua c) (X:0≤j∧j≤2147483647) (O:0≤q∧q≤2147483647):NS l j q w=some (NP j q w l):=by
 unfold NS
 rw[CT (n:=l.length) (PW j q w l) (λk A=>by
  obtain⟨F,Y⟩:=M _ (BL A)
  have C:=ka l k A (by omega)
  unfold O7 PW UI
  rw[vx (by simpa using A),AR A,AE,Bz (by omega) (by omega),AE,Ey,AE,Ey,C]
  by_cases B:Il j q l[k]!
  ·have E:=B
   unfold Il at E
   rw[ne (wU.2 B),vz (show 0≤l[k]!.Row∧l[k]!.Row≤j-1 by omega),show((!true)==false)=true from rfl,At,Bz (by omega) (by omega),AE,At,Ey,AE,vz (show 0≤l[k]!.Col∧l[k]!.Col≤q-1 by omega),
    show(((!true)||(!true))==false)=true from rfl,At,AE,vz (show 0≤l[k]!.Ref∧l[k]!.Ref≤1073741824 by omega),ne (by decide),se _ (by omega),AE,RN _ _ F.2 (by have:=F.1;omega),AE]
   cases T:He l[k]!.Text.length l[k]!.Text with
   | false=>rfl
   | true=>
    rw[ne (show ¬ ((!true)=true) by decide),ne (show ¬ (true=false) by decide)]
    by_cases u:Am l[k]!.Attrs false=0
    ·rw[ne (CI u),ne (wU.2 u)]
     have U:Q0 l[k]! = some (KB l[k]!):=by unfold Q0 KB;rw[iA]
     rw[U]
     cases w with
     | true=>rfl
     | false=>
      show(AB (gd true (some (KB l[k]!))) λ(Z:Bool)=>_)=_
      rw[At,AE]
      cases KB l[k]!<;>rfl
    ·rw[vx (BX u),vx u,vx u];rfl
  ·rw[vx B]
   unfold Il at B
   by_cases I:0≤l[k]!.Row∧l[k]!.Row≤j-1
   ·rw[vz I,show((!true)==false)=true from rfl,At,Bz (by omega) (by omega),AE,At,Ey,AE]
    by_cases J:0≤l[k]!.Col∧l[k]!.Col≤q-1
    ·rw[vz J,show(((!true)||(!true))==false)=true from rfl,At,AE,v6 (show ¬ (0≤l[k]!.Ref∧l[k]!.Ref≤1073741824) by omega)];rfl
    ·rw[v6 J];rfl
   ·rw[v6 I];rfl) (by unfold O7;rw[ne (by simp)]),FG]
 rfl
theorem f7{ρ:Type}{f}{n}(g:Nat→Option ρ)(u:∀k:Nat, k<n→(∀j, j<k→g j=none)→f k=Cb k (g k))
 (w:f n=some (.inr (.nrm ()))):iter f 0=some (Fu ((List.range n).findSome? g)) := by
  have key:∀m k:Nat, k+m=n→(∀j, j<k→g j=none)→iter f (k:Int)=some (Fu ((List.range' k m).findSome? g)) := by
    intro m
    induction m with
    | zero =>
      intro k A _
      obtain rfl:k=n := by omega
      rw[B3 w];rfl
    | succ m B =>
      intro k A l
      have q := u k (by omega) l
      rw[zm, xc]
      cases hg:g k with
      | some r => rw[hg] at q;rw[B3 q];rfl
      | none =>
        rw[hg] at q
        rw[DM q]
        exact B (k+1) (by omega) (λj C => by
          by_cases e:j=k
          · rw[e];exact hg
          · exact l j (by omega))
  have := key n 0 (by omega) (λj l => absurd l (zV _))
  rw[yu]
  exact this
def Dm(j l:Int)(r:As):Prop:=0≤r.Row∧r.Row<j∧0≤r.Col∧r.Col<l∧1≤r.H∧r.H≤j-r.Row∧1≤r.W∧r.W≤l-r.Col
instance (rows cols:Int) (r:As):Decidable (Dm rows cols r):=by unfold Dm;infer_instance
def G3(a b:As):Bool:=decide (a.Row<b.Row+b.H∧b.Row<a.Row+a.H∧a.Col<b.Col+b.W∧b.Col<a.Col+a.W)
def Gi(j l:Int):Prop:=0≤j∧j≤2147483647∧0≤l∧l≤2147483647
instance (rows cols:Int):Decidable (Gi rows cols):=by unfold Gi;infer_instance
theorem jo(r:As) j l(h:Gi j l):PL r j l=some (decide (Dm j l r)):=by
 obtain⟨F,I,J,M⟩:=h
 unfold PL
 by_cases w:0≤r.Row∧0≤r.Col∧1≤r.H∧1≤r.W∧r.Row<j∧r.Col<l
 ·obtain⟨A,B,a3,a4,a5,C⟩:=w
  rw[vz A,vz B,vz a3,vz a4,vz a5,vz C,show((((((true&&true)&&true)&&true)&&true)&&true)==true)=true from rfl,At,Bz (by omega) (by omega),AE]
  by_cases q:r.H≤j-r.Row
  ·rw[vz q,show(((((((true&&true)&&true)&&true)&&true)&&true)&&true)==true)=true from rfl,At,Bz (by omega) (by omega),AE]
   by_cases u:r.W≤l-r.Col
   ·rw[vz u,vz (show Dm j l r from⟨A,a5,B,C,a3,q,a4,u⟩)];rfl
   ·rw[v6 u,v6 (show ¬ Dm j l r from λh=>u h.2.2.2.2.2.2.2)];rfl
  ·rw[v6 q,v6 (show ¬ Dm j l r from λh=>q h.2.2.2.2.2.1)];rfl
 ·have E:((((((0≤r.Row)&&(0≤r.Col))&&(1≤r.H))&&(1≤r.W))&&(r.Row<j))&&(r.Col<l))=false:=by
   rw[← xR]
   simp only[v7,vy]
   intro h;exact w (by omega)
  rw[E,v6 (show ¬ Dm j l r from λh=>w ⟨h.1,h.2.2.1,h.2.2.2.2.1,h.2.2.2.2.2.2.1,h.2.1,h.2.2.2.1⟩)];rfl
theorem ng(r:As) j l(h:Gi j l):LZ r j l=some (decide (Dm j l r)):=by
 obtain⟨w,A,B,C⟩:=h
 unfold LZ
 rw[Bz (by omega) (by omega),AE,Ey,AE]
 by_cases q:0≤r.Row∧r.Row≤j-1
 ·rw[vz q,show((true==true):Bool)=true from rfl,At,Bz (by omega) (by omega),AE,At,Ey,AE]
  by_cases u:0≤r.Col∧r.Col≤l-1
  ·rw[vz u,show((true&&true)==true)=true from rfl,At,Bz (by omega) (by omega),AE,At,Ey,AE]
   by_cases a3:1≤r.H∧r.H≤j-r.Row
   ·rw[vz a3,show(((true&&true)&&true)==true)=true from rfl,At,Bz (by omega) (by omega),AE,At,Ey,AE]
    by_cases a4:1≤r.W∧r.W≤l-r.Col
    ·rw[vz a4,vz (show Dm j l r from⟨q.1,by omega,u.1,by omega,a3.1,a3.2,a4.1,a4.2⟩)];rfl
    ·rw[v6 a4,v6 (show ¬ Dm j l r from λh=>a4 ⟨h.2.2.2.2.2.2.1,h.2.2.2.2.2.2.2⟩)];rfl
   ·rw[v6 a3,v6 (show ¬ Dm j l r from λh=>a3 ⟨h.2.2.2.2.1,h.2.2.2.2.2.1⟩)];rfl
  ·rw[v6 u,v6 (show ¬ Dm j l r from λh=>u ⟨h.2.2.1,by have:=h.2.2.2.1;omega⟩)];rfl
 ·rw[v6 q,v6 (show ¬ Dm j l r from λh=>q ⟨h.1,by have:=h.2.1;omega⟩)];rfl
theorem uH{j l}(h:Gi j l){a b:As}(B:Dm j l a)(C:Dm j l b):Rj a b=some (G3 a b):=by
 obtain⟨E,F,I,J⟩:=h
 obtain⟨M,O,a3,a4,a5,T,U,V⟩:=B
 obtain⟨X,Y,Z,b4,b5,b6,b7,b8⟩:=C
 unfold Rj G3
 rw[Bz (by omega) (by omega),AE]
 by_cases q:a.Row<b.Row+b.H
 ·rw[vz q,show((true==true):Bool)=true from rfl,At,Bz (by omega) (by omega),AE]
  by_cases u:b.Row<a.Row+a.H
  ·rw[vz u,show((true&&true)==true)=true from rfl,At,Bz (by omega) (by omega),AE]
   by_cases w:a.Col<b.Col+b.W
   ·rw[vz w,show(((true&&true)&&true)==true)=true from rfl,At,Bz (by omega) (by omega),AE]
    by_cases A:b.Col<a.Col+a.W
    ·rw[vz A,vz (show _∧_∧_∧_ from⟨q,u,w,A⟩)];rfl
    ·rw[v6 A,v6 (show ¬ (a.Row<b.Row+b.H∧b.Row<a.Row+a.H∧a.Col<b.Col+b.W∧b.Col<a.Col+a.W) from λh=>A h.2.2.2)];rfl
   ·rw[v6 w,v6 (show ¬ (a.Row<b.Row+b.H∧b.Row<a.Row+a.H∧a.Col<b.Col+b.W∧b.Col<a.Col+a.W) from λh=>w h.2.2.1)];rfl
  ·rw[v6 u,v6 (show ¬ (a.Row<b.Row+b.H∧b.Row<a.Row+a.H∧a.Col<b.Col+b.W∧b.Col<a.Col+a.W) from λh=>u h.2.1)];rfl
 ·rw[v6 q,v6 (show ¬ (a.Row<b.Row+b.H∧b.Row<a.Row+a.H∧a.Col<b.Col+b.W∧b.Col<a.Col+a.W) from λh=>q h.1)];rfl
theorem nE{j l}(h:Gi j l){a b:As}(w:Dm j l a)(A:Dm j l b):Qm a b=some (G3 b a):=by
 obtain⟨B,C,E,F⟩:=h
 obtain⟨I,J,a3,a4,a5,M,O,T⟩:=w
 obtain⟨U,V,X,Y,Z,b6,b7,b8⟩:=A
 unfold Qm G3
 rw[Bz (by omega) (by omega),AE,Bz (by omega) (by omega),AE]
 by_cases q:max a.Row b.Row<min (a.Row+a.H) (b.Row+b.H)
 ·rw[vz q,show((true==true):Bool)=true from rfl,At,Bz (by omega) (by omega),AE,At,Bz (by omega) (by omega),AE]
  by_cases u:max a.Col b.Col<min (a.Col+a.W) (b.Col+b.W)
  ·rw[vz u,vz (show b.Row<a.Row+a.H∧a.Row<b.Row+b.H∧b.Col<a.Col+a.W∧a.Col<b.Col+b.W by omega)];rfl
  ·rw[v6 u,v6 (show ¬ (b.Row<a.Row+a.H∧a.Row<b.Row+b.H∧b.Col<a.Col+a.W∧a.Col<b.Col+b.W) by omega)];rfl
 ·rw[v6 q,v6 (show ¬ (b.Row<a.Row+a.H∧a.Row<b.Row+b.H∧b.Col<a.Col+a.W∧a.Col<b.Col+b.W) by omega)];rfl
theorem u9{α:Type}[Inhabited α]{l:List α}{k j}(q:j<k)(u:k≤l.length):(l.take k)[j]! = l[j]!:=by
 rw[wD (l.take k) j (by rw[xl];omega),wD l j (by omega),List.getElem_take]
def M1(l:List As)(k:Nat)(w:As):Option Nat:=(List.range k).find? λj=>G3 l[j]! w
theorem sL{q u}(h:Gi q u)(l:List As) k(C:k≤l.length)(J:l.length≤1073741824)(E:∀j,j<k→Dm q u l[j]!){w}(F:Dm q u w) :
  Ms w (l.take k)=some (M1 l k w).isSome:=by
 unfold Ms TI
 have A:(l.take k).length=k:=by rw[xl];omega
 rw[CT (n:=k) (λj=>if G3 l[j]! w then some (j:Int) else none) (λj B=>by
  unfold OW TD
  rw[vx (by rw[A,vy];omega),AR (by rw[A];exact B),AE,u9 B C,uH h (E j B) F,AE,AE,Aa (by omega)]
  cases G3 l[j]! w<;>rfl) (by unfold OW;rw[ne (by rw[A];simp)]),Tv,Ek]
 unfold M1
 cases (List.range k).find? λj=>G3 l[j]! w with
 | none=>rfl
 | some j=>
  show(AB (some (j:Int)) λ(I:Int)=>some (decide (0≤I)))=_
  rw[AE,vz (ym j)];rfl
def Lu(j q:Int)(l:List As)(k:Nat):Option Int:=
 if ¬ Dm j q l[k]! then some 2 else if l[k]!.H=1∧l[k]!.W=1 then some 4 else if 0<k∧0≤CE l[k-1]!.Row l[k]!.Row l[k-1]!.Col l[k]!.Col then some 5 else if(M1 l k l[k]!).isSome=true then some 21 else none
theorem aY{j q}{l}{k}(h:Lu j q l k=none):Dm j q l[k]!:=by
 unfold Lu at h
 by_cases u:Dm j q l[k]!
 ·exact u
 ·rw[vx u] at h;cases h
def RZ(g:BW):Int:=
 if ¬ Gi g.Rows g.Cols then 2 else if NP g.Rows g.Cols false g.Cells≠0 then NP g.Rows g.Cols false g.Cells else((List.range g.Merges.length).findSome? (Lu g.Rows g.Cols g.Merges)).getD 0
def V2(g:BW):Prop:=g.Cells.length≤1048576∧g.Merges.length≤1048576∧∀c∈g.Cells,Ua c
theorem pw(a b:As):Qk a b=some (!(0≤CE a.Row b.Row a.Col b.Col)):=by
 unfold Qk
 congr 1
 rw[ws]
 have:=Tg a.Row b.Row a.Col b.Col
 simp only[wF,v7,vy,wz,xd,this]
 omega
theorem oJ(g:BW)(h:V2 g):O4 g=some (RZ g):=by
 obtain⟨Y,Z,E⟩:=h
 unfold O4 RZ
 by_cases u:Gi g.Rows g.Cols
 ·have F:=u
  obtain⟨r1,r2,M,r4⟩:=F
  rw[ne (by simp only[wF,vy];omega),oK _ _ _ _ (by omega) E,AE,ne (wU.2 u)]
  by_cases B:NP g.Rows g.Cols false g.Cells=0
  ·rw[ne (CI B),ne (wU.2 B),f7 (n:=g.Merges.length) (Lu g.Rows g.Cols g.Merges) (λk O T=>by
    unfold O0
    rw[vx (by simpa using O),AR O,AE,jo _ _ _ u,AE]
    unfold Lu
    by_cases w:Dm g.Rows g.Cols g.Merges[k]!
    ·rw[vz w,ne (show ¬ ((!true)=true) by decide),ne (wU.2 w)]
     by_cases A:g.Merges[k]!.H=1∧g.Merges[k]!.W=1
     ·rw[vx (by rw[vz A.1,vz A.2];rfl),vx A];rfl
     ·rw[ne (by simp only[v7,vy];exact A),ne A]
      have q:=sL u g.Merges k (by omega) (by omega) (λj I=>aY (T j I)) w
      have U:CV g.Merges 0 (k:Int)=some (g.Merges.take k):=by
       rw[Rk g.Merges k (by omega) (by omega)];simp
      have l:(AB (CV g.Merges 0 (k:Int)) λ(V:List As)=>
        AB (Ms g.Merges[k]! V) λ(M:Bool)=>
        if M then(some (.inr (.ext 21)):Option (Int ⊕ (An Unit Int))) else(
         AB (AM .i64 ((k:Int)+1)) λ(X:Int)=>some (.inl X)))=Cb k (if(M1 g.Merges k g.Merges[k]!).isSome=true then some 21 else none):=by
       rw[U,AE,q,AE,Aa (by omega)]
       cases (M1 g.Merges k g.Merges[k]!).isSome<;>rfl
      by_cases J:0<k
      ·rw[vz (show(0:Int)<k by omega),show((true==true):Bool)=true from rfl,At,Es J (by omega),AE,At,AR (show k-1<g.Merges.length by omega),AE,At,pw,AE]
       by_cases C:0≤CE g.Merges[k-1]!.Row g.Merges[k]!.Row g.Merges[k-1]!.Col g.Merges[k]!.Col
       ·rw[vz C,vx (show 0<k∧0≤CE g.Merges[k-1]!.Row g.Merges[k]!.Row g.Merges[k-1]!.Col g.Merges[k]!.Col from⟨J,C⟩)];rfl
       ·rw[v6 C,ne (show ¬ (0<k∧0≤CE g.Merges[k-1]!.Row g.Merges[k]!.Row g.Merges[k-1]!.Col g.Merges[k]!.Col) from λh=>C h.2)]
        exact l
      ·have e0:k=0:=by omega
       rw[ne (show ¬ (0<k∧0≤CE g.Merges[k-1]!.Row g.Merges[k]!.Row g.Merges[k-1]!.Col g.Merges[k]!.Col) from λh=>J h.1),v6 (show ¬ (0:Int)<k by omega)]
       exact l
    ·rw[v6 w,vx w];rfl) (by unfold O0;rw[ne (by simp)]),FG]
  ·rw[vx (BX B),vx B]
 ·rw[vx u,vx (by unfold Gi at u;simp only[wF,vy];omega)]
theorem sn{X:Type}(l:List As)(k:Nat)(I:k<l.length)(J:l.length≤9223372036854775806)(a b:Option X) :
  (AB (gd ((decide (0<(k:Int)))==true) (AM .i64 ((k:Int)-1))) λ(C:Int)=>
    AB (gd ((decide (0<(k:Int)))==true) (AL l C)) λ(j:As)=>
    AB (gd ((((decide (0<(k:Int)))==true)&&((decide (l[k]!.Row<j.Row))==false))&&((decide (l[k]!.Row=j.Row))==true)) (AM .i64 ((k:Int)-1))) λ(E:Int)=>
    AB (gd ((((decide (0<(k:Int)))==true)&&((decide (l[k]!.Row<j.Row))==false))&&((decide (l[k]!.Row=j.Row))==true)) (AL l E)) λ(F:As)=>
    if((0<(k:Int))&&((l[k]!.Row<j.Row)||((l[k]!.Row=j.Row)&&(l[k]!.Col≤F.Col)))) then a else b) =
   if 0<k∧0≤CE l[k-1]!.Row l[k]!.Row l[k-1]!.Col l[k]!.Col then a else b:=by
 have q:=Tg l[k-1]!.Row l[k]!.Row l[k-1]!.Col l[k]!.Col
 by_cases u:0<k
 ·rw[vz (show(0:Int)<k by omega),show((true==true):Bool)=true from rfl,At,Es u (by omega),AE,At,AR (show k-1<l.length by omega),AE]
  by_cases w:l[k]!.Row<l[k-1]!.Row
  ·rw[vz w,vx (show 0<k∧0≤CE l[k-1]!.Row l[k]!.Row l[k-1]!.Col l[k]!.Col from⟨u,q.2 (.inl w)⟩)];rfl
  ·by_cases A:l[k]!.Row=l[k-1]!.Row
   ·rw[v6 w,vz A,show(((true&&(false==false))&&(true==true)):Bool)=true from rfl,At,AE,At,AR (show k-1<l.length by omega),AE]
    by_cases B:l[k]!.Col≤l[k-1]!.Col
    ·rw[vz B,vx (show 0<k∧0≤CE l[k-1]!.Row l[k]!.Row l[k-1]!.Col l[k]!.Col from⟨u,q.2 (.inr ⟨A,B⟩)⟩)];rfl
    ·rw[v6 B,ne (show ¬ (0<k∧0≤CE l[k-1]!.Row l[k]!.Row l[k-1]!.Col l[k]!.Col) from λh=>by have:=q.1 h.2;omega)];rfl
   ·rw[v6 w,v6 A,ne (show ¬ (0<k∧0≤CE l[k-1]!.Row l[k]!.Row l[k-1]!.Col l[k]!.Col) from λh=>by have:=q.1 h.2;omega)];rfl
 ·rw[ne (show ¬ (0<k∧0≤CE l[k-1]!.Row l[k]!.Row l[k-1]!.Col l[k]!.Col) from λh=>u h.1),v6 (show ¬ (0:Int)<k by omega)];rfl
theorem rT(g:BW)(h:V2 g):P4 g=some (RZ g):=by
 obtain⟨U,V,B⟩:=h
 unfold P4 RZ
 rw[Ey,AE]
 by_cases l:Gi g.Rows g.Cols
 ·have C:=l
  obtain⟨I,J,M,O⟩:=C
  rw[vz (show 0≤g.Rows∧g.Rows≤2147483647 from⟨I,J⟩),show((!true)==false)=true from rfl,At,Ey,AE,vz (show 0≤g.Cols∧g.Cols≤2147483647 from⟨M,O⟩),ne (by decide),
   tk _ _ _ _ (by omega) B ⟨I,J⟩ ⟨M,O⟩,AE,ne (wU.2 l)]
  by_cases w:NP g.Rows g.Cols false g.Cells=0
  ·rw[ne (CI w),ne (wU.2 w),f7 (n:=g.Merges.length) (Lu g.Rows g.Cols g.Merges) (λk E T=>by
    unfold QT
    rw[vx (by simpa using E),AR E,AE,ng _ _ _ l,AE]
    unfold Lu
    by_cases q:Dm g.Rows g.Cols g.Merges[k]!
    ·rw[vz q,ne (show ¬ ((!true)=true) by decide),ne (wU.2 q)]
     by_cases u:g.Merges[k]!.H=1∧g.Merges[k]!.W=1
     ·rw[vx (by rw[vz u.1,vz u.2];rfl),vx u];rfl
     ·rw[ne (by simp only[v7,vy];exact u),ne u,sn _ k E (by omega)]
      by_cases A:0<k∧0≤CE g.Merges[k-1]!.Row g.Merges[k]!.Row g.Merges[k-1]!.Col g.Merges[k]!.Col
      ·rw[vx A,vx A];rfl
      ·rw[ne A,ne A,CT (n:=k) (λj=>if G3 g.Merges[j]! g.Merges[k]! then some (.inr (.ext 21)) else none) (λj F=>by
        unfold PJ
        rw[vx (by rw[vy];omega),AR (by omega),AE,nE l q (aY (T j F)),AE,Aa (by omega)]
        cases G3 g.Merges[j]! g.Merges[k]!<;>rfl) (by unfold PJ;rw[ne (by rw[vy];omega)]),Tv,Ek]
       unfold M1
       cases (List.range k).find? λj=>G3 g.Merges[j]! g.Merges[k]! with
       | none=>rw[Aa (by omega)];rfl
       | some j=>rfl
    ·rw[v6 q,vx q];rfl) (by unfold QT;rw[ne (by simp)]),FG]
  ·rw[vx (BX w),vx w]
 ·rw[vx l]
  unfold Gi at l
  by_cases a:0≤g.Rows∧g.Rows≤2147483647
  ·rw[vz a,show((!true)==false)=true from rfl,At,Ey,AE,v6 (show ¬ (0≤g.Cols∧g.Cols≤2147483647) by omega)];rfl
  ·rw[v6 a];rfl
def Wp(c:UInt8):Bool:=(97≤c.toNat)&&(c.toNat≤122)
def UN(s:List UInt8):Bool:=(List.range s.length).all λk=>Wp s[k]!
def Lw(s:List UInt8):Bool:=(1≤s.length)&&(s.length≤200)&&!(s[s.length-1]!.toNat=97)&&UN s
theorem cE(s:List UInt8)(l:s.length≤9223372036854775806):iter (λ(a:Int)=>Kz s a) 0=some (Fu (if UN s then none else some false)):=by
 rw[CT (n:=s.length) (λk=>if Wp s[k]! then none else some false) (λk j=>by
  unfold Kz
  rw[vx (by simpa using j),AR j,AE,Aa (by omega)]
  unfold Wp
  generalize s[k]! = c
  by_cases h:97≤c.toNat∧c.toNat≤122
  ·rw[ne (by simp only[wF,vy];omega),vx (by simp only[v7,vy];exact h)];rfl
  ·rw[vx (by simp only[wF,vy];omega),ne (by simp only[v7,vy];exact h)];rfl) (by unfold Kz;rw[ne (by simp)]),IR]
 rfl
theorem tt:TB=Kz:=by funext s x;rfl
theorem qo(s:List UInt8)(q:s.length≤9223372036854775806):PI s=some (Lw s):=by
 unfold PI Lw
 rw[tt,cE s q]
 by_cases h:1≤s.length∧s.length≤200
 ·have j:s≠[]:=xP.1 h.1
  rw[v6 j,v6 (show ¬ (200:Int)<(s.length:Int) by omega),show((false||false)==false)=true from rfl,At,Es h.1 (by omega),AE,At,AR (by omega),AE,vz h.1,vz h.2]
  by_cases l:s[s.length-1]!.toNat=97
  ·rw[vz l,vx (by rw[vz (show((s[s.length-1]!.toNat:Int)=97) by omega)];rfl)];rfl
  ·rw[v6 l,ne (by rw[v6 (show ¬ ((s[s.length-1]!.toNat:Int)=97) by omega)];decide)]
   cases UN s<;>rfl
 ·have u:((s=[])||(200<(s.length:Int)))=true:=by
   rw[wF,vy,vy,← List.length_eq_zero_iff];omega
  have hd:((1≤s.length)&&(s.length≤200))=false:=by
   rw[← xR,v7,vy,vy];exact h
  rw[u,hd];rfl
theorem rf(s:List UInt8)(l:s.length≤9223372036854775806):Qn s=some (Lw s):=by
 unfold Qn Lw
 rw[cE s l,Ek]
 cases UN s with
 | false=>rw[y9];rfl
 | true=>
  rw[vx rfl,zf]
  dsimp only
  by_cases h:1≤s.length∧s.length≤200
  ·rw[vz (show(1:Int)≤(s.length:Int) by omega),vz (show(s.length:Int)≤200 by omega),show((true&&true)==true)=true from rfl,At,Es h.1 (by omega),AE,At,AR (by omega),AE,vz h.1,vz h.2]
   by_cases j:s[s.length-1]!.toNat=97
   ·rw[vz j,vz (show((s[s.length-1]!.toNat:Int)=97) by omega)]
   ·rw[v6 j,v6 (show ¬ ((s[s.length-1]!.toNat:Int)=97) by omega)]
  ·have q:((1≤(s.length:Int))&&((s.length:Int)≤200))=false:=by
    rw[← xR,v7,vy,vy];omega
   have hd:((1≤s.length)&&(s.length≤200))=false:=by
    rw[← xR,v7,vy,vy];exact h
   rw[q,hd];rfl
def HQ(o:BN):Prop:=(1≤o.Clock∧o.Clock≤1073741824)∧(0≤o.Site∧o.Site≤1000)∧(1≤o.Item∧o.Item≤1073741824)
instance (o:BN):Decidable (HQ o):=by unfold HQ;infer_instance
def OI(o:BN):Int:=
 if ¬ (o.Kind=0∨o.Kind=1) then 8 else if ¬ HQ o then 2
 else if o.Kind=0 then(if o.Name≠[]∨o.Value≠[] then 4 else if ¬ (-1≤o.Parent∧o.Parent≤1073741824) then 2 else if Lw o.Place=false then 9 else 0)
 else(if o.Parent≠0∨o.Place≠[] then 4 else if EV o.Name=false then 9 else if o.Value≠[]∧Dl o.Value=false then 23 else 0)
def Py(l:List BN)(k:Nat):Option Int:=
 if OI l[k]!≠0 then some (OI l[k]!) else if 0<k∧0≤CE l[k-1]!.Clock l[k]!.Clock l[k-1]!.Site l[k]!.Site then some 5 else none
def ZZ(l:List BN):Int:=((List.range l.length).findSome? (Py l)).getD 0
def Tf(o:BN):Prop:=o.Place.length≤1073741824∧o.Name.length≤1073741824∧o.Value.length≤1073741824
theorem kE(o:BN)(h:Tf o):O2 o=some (OI o):=by
 obtain⟨hp,I,J⟩:=h
 unfold O2 OI
 rw[qo _ (by omega),bJ _ (by omega),VI _ (by omega)]
 by_cases l:o.Kind=0
 ·have u:¬ o.Kind=1:=by omega
  rw[ne (show ¬ ((!(o.Kind=0))&&(!(o.Kind=1)))=true by rw[vz l];simp),ne (show ¬ ¬ (o.Kind=0∨o.Kind=1) from λh=>h (.inl l))]
  by_cases q:HQ o
  ·have w:=q
   unfold HQ at w
   rw[ne (by simp only[wF,vy];omega),ne (wU.2 q),vx l,vz l,v6 u]
   by_cases j:o.Name≠[]∨o.Value≠[]
   ·have A:(true&&((!(o.Name=[]))||(!(o.Value=[]))))=true:=by
     rw[xJ,wF]
     rcases j with c | c
     ·exact .inl (BX c)
     ·exact .inr (BX c)
    rw[vx j,A];rfl
   ·have C:o.Name=[]∧o.Value=[]:=⟨wX λh=>j (.inl h),wX λh=>j (.inr h)⟩
    have A:(true&&((!(o.Name=[]))||(!(o.Value=[]))))=false:=by rw[vz C.1,vz C.2];rfl
    rw[ne j,A]
    by_cases B : -1≤o.Parent∧o.Parent≤1073741824
    ·rw[ne (wU.2 B)]
     have E:((o.Parent<(-1))||(1073741824<o.Parent))=false:=by
      rw[← xR,wF,vy,vy];omega
     rw[E]
     cases Lw o.Place with
     | false=>rfl
     | true=>rw[vz C.2];rfl
    ·rw[vx B]
     have E:((o.Parent<(-1))||(1073741824<o.Parent))=true:=by
      rw[wF,vy,vy];omega
     rw[E];rfl
  ·rw[vx (by unfold HQ at q;simp only[wF,vy];omega),vx q]
 ·by_cases u:o.Kind=1
  ·rw[ne (show ¬ ((!(o.Kind=0))&&(!(o.Kind=1)))=true by rw[vz u,v6 l];decide),ne (show ¬ ¬ (o.Kind=0∨o.Kind=1) from λh=>h (.inr u))]
   by_cases q:HQ o
   ·have w:=q
    unfold HQ at w
    rw[ne (by simp only[wF,vy];omega),ne (wU.2 q),ne l,v6 l,vz u]
    by_cases j:o.Parent≠0∨o.Place≠[]
    ·have A:(true&&((!(o.Parent=0))||(!(o.Place=[]))))=true:=by
      rw[xJ,wF]
      rcases j with c | c
      ·exact .inl (BX c)
      ·exact .inr (BX c)
     rw[vx j,A];rfl
    ·have C:o.Parent=0∧o.Place=[]:=⟨wX λh=>j (.inl h),wX λh=>j (.inr h)⟩
     have A:(true&&((!(o.Parent=0))||(!(o.Place=[]))))=false:=by rw[vz C.1,vz C.2];rfl
     rw[ne j,A]
     cases EV o.Name with
     | false=>rfl
     | true=>
      by_cases B:o.Value=[]
      ·rw[vz B,ne (show ¬ (true=false) by decide),ne (show ¬ (o.Value≠[]∧Dl o.Value=false) from λh=>h.1 B)];rfl
      ·rw[v6 B,ne (show ¬ (true=false) by decide)]
       cases F:Dl o.Value with
       | false=>rw[vx (show o.Value≠[]∧false=false from⟨B,rfl⟩)];rfl
       | true=>rw[ne (show ¬ (o.Value≠[]∧true=false) from λh=>by cases h.2)];rfl
   ·rw[vx (by unfold HQ at q;simp only[wF,vy];omega),vx q]
  ·rw[vx (show((!(o.Kind=0))&&(!(o.Kind=1)))=true by rw[v6 u,v6 l];rfl),vx (show ¬ (o.Kind=0∨o.Kind=1) from λh=>h.elim l u)]
theorem kh(a b:BN):Ps a b=some (CE a.Clock b.Clock a.Site b.Site):=by
 unfold Ps
 rw[TM,TM,AE,AE,bU,AE,gb]
theorem mH(a b:BN):Mh a b=some (!(0≤CE a.Clock b.Clock a.Site b.Site)):=by
 unfold Mh
 congr 1
 rw[ws]
 have:=Tg a.Clock b.Clock a.Site b.Site
 simp only[wF,v7,vy,wz,xd,this]
 omega
theorem lw(l:List BN)(A:l.length≤1073741824)(w:∀o∈l,Tf o):OQ l=some (ZZ l):=by
 unfold OQ
 rw[CT (n:=l.length) (Py l) (λk q=>by
  unfold Qb Py
  rw[vx (by simpa using q),AR q,AE,kE _ (w _ (BL q)),AE]
  by_cases e:OI l[k]! = 0
  ·rw[ne (CI e),ne (wU.2 e)]
   by_cases u:0<k
   ·rw[vz (show(0:Int)<k by omega),show((true==true):Bool)=true from rfl,At,Es u (by omega),AE,At,AR (show k-1<l.length by omega),AE,At,kh,AE]
    by_cases j:0≤CE l[k-1]!.Clock l[k]!.Clock l[k-1]!.Site l[k]!.Site
    ·rw[vz j,vx (show 0<k∧0≤CE l[k-1]!.Clock l[k]!.Clock l[k-1]!.Site l[k]!.Site from⟨u,j⟩)];rfl
    ·rw[v6 j,ne (show ¬ (0<k∧0≤CE l[k-1]!.Clock l[k]!.Clock l[k-1]!.Site l[k]!.Site) from λh=>j h.2),Aa (by omega)];rfl
   ·rw[ne (show ¬ (0<k∧0≤CE l[k-1]!.Clock l[k]!.Clock l[k-1]!.Site l[k]!.Site) from λh=>u h.1),v6 (show ¬ (0:Int)<k by omega),Aa (by omega)];rfl
  ·rw[vx (BX e),vx e];rfl) (by unfold Qb;rw[ne (by simp)]),FG]
 rfl
theorem qM(l:List BN)(hm:l.length≤1073741824)(U:∀o∈l,Tf o):MI l=some (ZZ l):=by
 unfold MI
 rw[CT (n:=l.length) (Py l) (λk F=>by
  obtain⟨hp,V,X⟩:=U _ (BL F)
  have u:(AB (gd ((decide (0<(k:Int)))==true) (AM .i64 ((k:Int)-1))) λ(Y:Int)=>
    AB (gd ((decide (0<(k:Int)))==true) (AL l Y)) λ(Z:BN)=>
    AB (gd ((decide (0<(k:Int)))==true) (Mh Z l[k]!)) λ(r4:Bool)=>
    if((0<(k:Int))&&(!r4)) then(some (.inr (.ext 5)):Option (Int ⊕ (An Unit Int))) else(
     AB (AM .i64 ((k:Int)+1)) λ(x7:Int)=>some (.inl x7)))=Cb k (if 0<k∧0≤CE l[k-1]!.Clock l[k]!.Clock l[k-1]!.Site l[k]!.Site then some 5 else none):=by
   by_cases I:0<k
   ·rw[vz (show(0:Int)<k by omega),show((true==true):Bool)=true from rfl,At,Es I (by omega),AE,At,AR (show k-1<l.length by omega),AE,At,mH,AE]
    by_cases C:0≤CE l[k-1]!.Clock l[k]!.Clock l[k-1]!.Site l[k]!.Site
    ·rw[vz C,vx (show 0<k∧0≤CE l[k-1]!.Clock l[k]!.Clock l[k-1]!.Site l[k]!.Site from⟨I,C⟩)];rfl
    ·rw[v6 C,ne (show ¬ (0<k∧0≤CE l[k-1]!.Clock l[k]!.Clock l[k-1]!.Site l[k]!.Site) from λh=>C h.2),Aa (by omega)];rfl
   ·rw[ne (show ¬ (0<k∧0≤CE l[k-1]!.Clock l[k]!.Clock l[k-1]!.Site l[k]!.Site) from λh=>I h.1),v6 (show ¬ (0:Int)<k by omega),Aa (by omega)];rfl
  unfold Rc Py OI
  rw[vx (by simpa using F),AR F,AE,u,Ey,AE,Ey,Ey,Ey,rf _ (by omega),bF _ (by omega),UW _ (by omega)]
  generalize l[k]! = o at hp V X ⊢
  by_cases A:o.Kind=0∨o.Kind=1
  ·rw[ne (show ¬ ((!(o.Kind=0))&&(!(o.Kind=1)))=true by rcases A with h | h<;>rw[vz h]<;>simp),ne (wU.2 A)]
   by_cases w:HQ o
   ·rw[ne (wU.2 w),vz w.1,show((!true)==false)=true from rfl,At,AE,vz w.2.1,show(((!true)||(!true))==false)=true from rfl,At,AE,vz w.2.2,ne (show ¬ (((!true)||(!true))||(!true))=true by decide)]
    by_cases E:o.Kind=0
    ·rw[vx (vz E),vx E]
     by_cases j:o.Name≠[]∨o.Value≠[]
     ·have J:((!(o.Name=[]))||(!(o.Value=[])))=true:=by
       rw[wF]
       rcases j with c | c
       ·exact .inl (BX c)
       ·exact .inr (BX c)
      rw[vx j,vx J];rfl
     ·have B:o.Name=[]∧o.Value=[]:=⟨wX λh=>j (.inl h),wX λh=>j (.inr h)⟩
      rw[ne j,ne (show ¬ ((!(o.Name=[]))||(!(o.Value=[])))=true by rw[vz B.1,vz B.2];decide),AE]
      by_cases q : -1≤o.Parent∧o.Parent≤1073741824
      ·rw[ne (wU.2 q),vz q,ne (show ¬ ((!true)=true) by decide),AE]
       cases Lw o.Place<;>rfl
      ·rw[vx q,v6 q];rfl
    ·rw[ne (show ¬ decide (o.Kind=0)=true by simpa using E),ne E]
     by_cases j:o.Parent≠0∨o.Place≠[]
     ·have J:((!(o.Parent=0))||(!(o.Place=[])))=true:=by
       rw[wF]
       rcases j with c | c
       ·exact .inl (BX c)
       ·exact .inr (BX c)
      rw[vx j,vx J];rfl
     ·have B:o.Parent=0∧o.Place=[]:=⟨wX λh=>j (.inl h),wX λh=>j (.inr h)⟩
      rw[ne j,ne (show ¬ ((!(o.Parent=0))||(!(o.Place=[])))=true by rw[vz B.1,vz B.2];decide),AE]
      cases EV o.Name with
      | false=>rfl
      | true=>
       by_cases q:o.Value=[]
       ·rw[vz q,ne (show ¬ (true=false) by decide),ne (show ¬ (o.Value≠[]∧Dl o.Value=false) from λh=>h.1 q)];rfl
       ·rw[v6 q,ne (show ¬ (true=false) by decide)]
        cases a0:Dl o.Value with
        | false=>rw[vx (show o.Value≠[]∧false=false from⟨q,rfl⟩)];rfl
        | true=>rw[ne (show ¬ (o.Value≠[]∧true=false) from λh=>by cases h.2)];rfl
   ·rw[vx w]
    unfold HQ at w
    by_cases O:1≤o.Clock∧o.Clock≤1073741824
    ·rw[vz O,show((!true)==false)=true from rfl,At,AE]
     by_cases T:0≤o.Site∧o.Site≤1000
     ·rw[vz T,show(((!true)||(!true))==false)=true from rfl,At,AE,v6 (show ¬ (1≤o.Item∧o.Item≤1073741824) by omega)];rfl
     ·rw[v6 T];rfl
    ·rw[v6 O];rfl
  ·have M:((!(o.Kind=0))&&(!(o.Kind=1)))=true:=by
    rw[v6 (λh=>A (.inl h)),v6 (λh=>A (.inr h))];rfl
   rw[vx M,vx A];rfl) (by unfold Rc;rw[ne (by simp)]),FG]
 rfl
theorem iZ:LY=IC:=by funext k;rfl
theorem sR:T0=Mc:=by funext k;rfl
theorem mS:Qt=Mi:=by funext k;rfl
theorem nm:Te=Jm:=by funext k;rfl
structure KQ(n:Ag):Prop where
 ok:OO n
 ce:∀c∈n.Grid.Cells,Ua c
 dr:∀o∈n.Draw,Tf o
theorem KQ.gd{n:Ag}(h:KQ n):V2 n.Grid:=⟨h.ok.gr.1,h.ok.gr.2.1,h.ce⟩
def Nu(kind:Int)(c:Aw):Bool:=((kind=2)&&((!(c.Text=[]))||(0<(c.Attrs.length:Int))))||((kind=6)&&(!(c.Ref=0)))
def dD(kind:Int)(l:List Aw):Int:=((List.range l.length).findSome? λk=>if Nu kind l[k]! then some (4:Int) else none).getD 0
theorem kg kind(l:List Aw)(q:l.length≤1073741824):PX kind l=some (dD kind l):=by
 unfold PX
 rw[CT (n:=l.length) (λk=>if Nu kind l[k]! then some (4:Int) else none) (λk j=>by
  unfold Oz
  rw[vx (by simpa using j),AR j,AE,Aa (by omega)]
  show(if Nu kind l[k]! = true then _ else _)=_
  cases Nu kind l[k]!<;>rfl) (by unfold Oz;rw[ne (by simp)]),FG]
 rfl
theorem pc kind(l:List Aw)(A:l.length≤1073741824):PS kind l=some (dD kind l):=by
 unfold PS
 rw[CT (n:=l.length) (λk=>if Nu kind l[k]! then some (4:Int) else none) (λk w=>by
  unfold On Nu
  rw[vx (by simpa using w),AR w,Aa (by omega)]
  generalize l[k]! = c
  by_cases u:kind=2
  ·have j:¬ kind=6:=by omega
   rw[vz u,v6 j]
   rw[show((true==true):Bool)=true from rfl,At,AE]
   generalize ((!(c.Text=[]))||(0<(c.Attrs.length:Int)))=q
   cases q<;>rfl
  ·by_cases j:kind=6
   ·rw[v6 u,vz j]
    rw[show((false==true):Bool)=false from rfl,Fl,AE]
    show(AB (gd true (some c)) λ(B:Aw)=>_)=_
    rw[At,AE]
    generalize (!(c.Ref=0))=q
    cases q<;>rfl
   ·rw[v6 u,v6 j];rfl) (by unfold On;rw[ne (by simp)]),FG]
 rfl
def VV(t l g z d j q:Bool):Bool:=((!(t||l)&&j)||(!g&&!z))||(!d&&q)
theorem rm t l g z d j q :
  (if(((!(t||l))&&j)==false) then(
   if((!g)==true) then(
    AB (gd ((((!(t||l))&&j)||((!g)&&(!z)))==false) (some d)) λ(w:Bool)=>
    some ((((!(t||l))&&j)||((!g)&&(!z)))||((!w)&&q))
   ) else(
    AB (gd ((((!(t||l))&&j)||((!g)&&false))==false) (some d)) λ(A:Bool)=>
    some ((((!(t||l))&&j)||((!g)&&false))||((!A)&&q))
   )
  ) else(
   AB (gd ((((!(t||l))&&j)||false)==false) (some d)) λ(u:Bool)=>
   some ((((!(t||l))&&j)||false)||((!u)&&q))
  ))=some (VV t l g z d j q):=by
 cases t<;>cases l<;>cases g<;>cases z<;>cases d<;>cases j<;>cases q<;>rfl
theorem ny{X:Type}(t l g z d j q:Bool)(A B:Option X) :
  (AB (gd ((j&&(!(t||l)))==false) (some z)) λ(u:Bool)=>
   AB (gd (((j&&(!(t||l)))==false)&&((!u)==true)) (some g)) λ(w:Bool)=>
   AB (gd ((((j&&(!(t||l)))||((!u)&&(!w)))==false)&&(q==true)) (some d)) λ(C:Bool)=>
   if(((j&&(!(t||l)))||((!u)&&(!w)))||(q&&(!C))) then A else B)=if VV t l g z d j q=true then A else B:=by
 cases t<;>cases l<;>cases g<;>cases z<;>cases d<;>cases j<;>cases q<;>rfl
theorem fU{α:Type}(l:List α):decide ((l.length:Int)=0)=l.isEmpty:=by
 cases l with
 | nil=>rfl
 | cons a l=>exact v6 (by simp only[wK];omega)
theorem qE g:QA g=some (decide (g=BW.mk 0 0 [] [])):=by
 unfold QA
 congr 1
 obtain⟨a,b,c,d⟩:=g
 rw[fU,fU,ws]
 simp[and_assoc]
theorem Wr(n:Ag)(h:KQ n):∃e,Fc n=some e∧N2 n=some e:=by
 have A:=h.ok.at_
 have hf:=h.ok.fl
 have hg:=h.ok.gr
 have hd:=h.ok.dr
 have M:∀x∈n.Flow,EX x:=λx Z=>⟨by have:=(h.ok.fa x Z).1;omega,(h.ok.fa x Z).2⟩
 unfold Fc N2
 rw[iZ,sR,mS,nm,Ey,AE]
 by_cases c1:1≤n.ID∧n.ID≤1073741824
 ·rw[ne (show ¬ ((n.ID<1)||(1073741824<n.ID))=true by simp only[wF,vy];omega),vz c1,ne (show ¬ ((!true)=true) by decide),Ey,AE]
  by_cases j:(0≤n.Kind∧n.Kind≤12)∧(n.ID=1↔n.Kind=0)
  ·obtain⟨j,B⟩:=j
   have O:(((n.Kind<0)||(13≤n.Kind))||(!((decide (n.ID=1))==(decide (n.Kind=0)))))=false:=by
    rw[v6 (show ¬ n.Kind<0 by omega),v6 (show ¬ 13≤n.Kind by omega)]
    by_cases q:n.ID=1
    ·rw[vz q,vz (B.1 q)];rfl
    ·rw[v6 q,v6 (λe=>q (B.2 e))];rfl
   have T:(((!(0≤n.Kind∧n.Kind≤12))||((n.ID=1)&&(!(n.Kind=0))))||((!(n.ID=1))&&(n.Kind=0)))=false:=by
    rw[vz j]
    by_cases q:n.ID=1
    ·rw[vz q,vz (B.1 q)];rfl
    ·rw[v6 q,v6 (λe=>q (B.2 e))];rfl
   rw[O,T,ne (show ¬ (false=true) by decide),ne (show ¬ (false=true) by decide),PP _ A.2 (by have:=A.1;omega),AE,RN _ _ A.2 (by have:=A.1;omega),AE]
   by_cases C:Am n.Attrs false=0
   ·rw[ne (CI C),ne (CI C)]
    obtain⟨t,ht⟩:∃t,IC n.Kind=some t:=⟨_,rfl⟩
    obtain⟨l,hl⟩:∃t,Mc n.Kind=some t:=⟨_,rfl⟩
    obtain⟨g,U⟩:∃t,Mi n.Kind=some t:=⟨_,rfl⟩
    obtain⟨d,V⟩:∃t,Jm n.Kind=some t:=⟨_,rfl⟩
    rw[ht,hl,U,V,AE,AE,YC _ _ hg,qE]
    have X:∃E,gd (t==false) (some l)=some E:=by cases t<;>exact⟨_,rfl⟩
    obtain⟨E,Y⟩:=X
    rw[Y,AE,AE,AE,rm,AE,AE,ny]
    by_cases F:VV t E g (decide (n.Grid=BW.mk 0 0 [] [])) d (decide (0<(n.Flow.length:Int))) (decide (0<(n.Draw.length:Int)))=true
    ·rw[vx F,vx F];exact⟨_,rfl,rfl⟩
    ·rw[ne F,ne F]
     by_cases I:(t||E)=true
     ·obtain⟨r,h1,h2⟩:=jI n.Flow t M (by omega)
      rw[vx I,vx I,h1,h2];exact⟨_,rfl,rfl⟩
     ·rw[ne I,ne I]
      cases g with
      | true=>
       rw[vx rfl,oJ _ h.gd,AE,AE,vx rfl,rT _ h.gd,AE]
       by_cases J:RZ n.Grid=0
       ·rw[ne (CI J),ne (CI J),kg _ _ (by have:=hg.1;omega),pc _ _ (by have:=hg.1;omega)];exact⟨_,rfl,rfl⟩
       ·rw[vx (BX J),vx (BX J)];exact⟨_,rfl,rfl⟩
      | false=>
       rw[ne (show ¬ (false=true) by decide),AE,ne (show ¬ (false=true) by decide),lw _ (by omega) h.dr,qM _ (by omega) h.dr];exact⟨_,rfl,rfl⟩
   ·rw[vx (BX C),vx (BX C)];exact⟨_,rfl,rfl⟩
  ·have O:(((n.Kind<0)||(13≤n.Kind))||(!((decide (n.ID=1))==(decide (n.Kind=0)))))=true:=by
    by_cases u:0≤n.Kind∧n.Kind≤12
    ·have w:¬ (n.ID=1↔n.Kind=0):=λe=>j ⟨u,e⟩
     by_cases q:n.ID=1
     ·rw[vz q,v6 (λe=>w ⟨λ_=>e,λ_=>q⟩),wF];exact .inr rfl
     ·rw[v6 q,vz (wX λe=>w ⟨λx=>absurd x q,λx=>absurd x e⟩),wF];exact .inr rfl
    ·simp only[wF,vy];exact .inl (by omega)
   have T:(((!(0≤n.Kind∧n.Kind≤12))||((n.ID=1)&&(!(n.Kind=0))))||((!(n.ID=1))&&(n.Kind=0)))=true:=by
    by_cases u:0≤n.Kind∧n.Kind≤12
    ·have w:¬ (n.ID=1↔n.Kind=0):=λe=>j ⟨u,e⟩
     rw[vz u]
     by_cases q:n.ID=1
     ·rw[vz q,v6 (λe=>w ⟨λ_=>e,λ_=>q⟩)];rfl
     ·rw[v6 q,vz (wX λe=>w ⟨λx=>absurd x q,λx=>absurd x e⟩)];rfl
    ·rw[v6 u];rfl
   rw[O,T];exact⟨_,rfl,rfl⟩
 ·rw[vx (show((n.ID<1)||(1073741824<n.ID))=true by simp only[wF,vy];omega),v6 c1];exact⟨_,rfl,rfl⟩
theorem qY(s:List Int) v(u:s.length≤1048576):OG s v=some ((List.range s.length).find? λj=>decide (v=s[j]!)).isSome:=by
 unfold OG TR
 rw[CT (n:=s.length) (λj=>if decide (v=s[j]!) then some (j:Int) else none) (λj l=>by
  unfold PC
  rw[vx (by simpa using l),AR l,AE,Aa (by omega)]
  cases decide (v=s[j]!)<;>rfl) (by unfold PC;rw[ne (by simp)]),Tv,Ek]
 cases (List.range s.length).find? λj=>decide (v=s[j]!) with
 | none=>rfl
 | some j=>
  show(AB (some (j:Int)) λ(q:Int)=>some (decide (0≤q)))=_
  rw[AE,vz (ym j)];rfl
theorem LL(s:List Int) v(q:s.length≤1048576):OG s v=some (decide (v∈s)):=by
 rw[qY s v q]
 congr 1
 rw[ws,vy,List.find?_isSome]
 constructor
 ·rintro⟨j,u,w⟩
  have l:=wh.1 u
  rw[xu w];exact BL l
 ·intro h
  obtain⟨j,l,e⟩:=List.getElem_of_mem h
  exact⟨j,wh.2 l,vz (by rw[wD s j l,e])⟩
def Px(p k:Int):Bool:=
 if p=0 then decide (k∈[1,6,7,10,11,12]) else if p=1 then decide (k∈[2,4,5,10]) else if p=3 then decide (k∈[4,5,10]) else if p=4∨p=12 then decide (k=5) else if p=2 then decide (k=3) else if p=7 then decide (k=8∨k=9) else false
theorem mB p k:QX p k=some (Px p k):=by
 unfold QX Px
 by_cases l:p=0
 ·rw[vx (vz l),vx l,AE,LL _ _ (by decide)];rfl
 ·rw[ne (show ¬ decide (p=0)=true by simpa using l),ne l]
  by_cases q:p=1
  ·rw[vx (vz q),vx q,AE,LL _ _ (by decide)];rfl
  ·rw[ne (show ¬ decide (p=1)=true by simpa using q),ne q]
   by_cases u:p=3
   ·rw[vx (vz u),vx u,AE,LL _ _ (by decide)];rfl
   ·rw[ne (show ¬ decide (p=3)=true by simpa using u),ne u]
    have B:(if decide (p=4)=true then some (decide (p=4)) else some (decide (p=12)))=some (decide (p=4∨p=12)):=by
     by_cases j:p=4
     ·rw[vx (vz j),vz j,vz (Or.inl j:p=4∨p=12)]
     ·rw[ne (show ¬ decide (p=4)=true by simpa using j)]
      congr 1
      rw[ws,vy,vy]
      exact⟨.inr,λh=>h.elim (λh=>absurd h j) id⟩
    rw[B,AE]
    by_cases j:p=4∨p=12
    ·rw[vx (vz j),vx j,AE,LL _ _ (by decide),AE]
     congr 1;rw[ws];simp
    ·rw[ne (show ¬ decide (p=4∨p=12)=true by simpa using j),ne j]
     by_cases w:p=2
     ·rw[vx (vz w),vx w,AE,LL _ _ (by decide),AE]
      congr 1;rw[ws];simp
     ·rw[ne (show ¬ decide (p=2)=true by simpa using w),ne w]
      by_cases A:p=7
      ·rw[vx (vz A),vx A,AE,LL _ _ (by decide),AE]
       congr 1;rw[ws];simp
      ·rw[ne (show ¬ decide (p=7)=true by simpa using A),ne A,AE,LL _ _ (by decide),AE];simp
theorem lR p k:RT p k=some (Px p k) := by
  have Z:k=1∨k=2∨k=3∨k=4∨k=5∨k=6∨k=7∨k=8∨k=9∨k=10∨k=11∨k=12∨(k≠1∧k≠2∧k≠3∧k≠4∧k≠5∧k≠6∧k≠7∧k≠8∧k≠9∧k≠10∧k≠11∧k≠12) := by omega
  have hp:p=0∨p=1∨p=2∨p=3∨p=4∨p=7∨p=12∨(p≠0∧p≠1∧p≠2∧p≠3∧p≠4∧p≠7∧p≠12) := by omega
  unfold RT Px LY
  rcases Z with rfl | rfl | rfl | rfl | rfl | rfl | rfl | rfl | rfl | rfl | rfl | rfl | ⟨I, J, M, O, T, U, V, X, Y, l, q, u⟩
  all_goals first
    | (rcases hp with rfl | rfl | rfl | rfl | rfl | rfl | rfl | ⟨w, A, B, C, E, F, j⟩
       all_goals first | rfl | (simp[w, A, B, C, E, F, j];done))
    | (rcases hp with rfl | rfl | rfl | rfl | rfl | rfl | rfl | ⟨w, A, B, C, E, F, j⟩
       all_goals first
         | (simp[I, J, M, O, T, U, V, X, Y, l, q, u];done)
         | (simp[I, J, M, O, T, U, V, X, Y, l, q, u, w, A, B, C, E, F, j];done))
theorem lm{n:Nat}(h:n<9223372036854775808):IntKind.u64.wrap (n:Int)=(n:Int):=by
 have e:(n:Int) % (2 ^ (64:Nat):Int)=(n:Int):=zh (by omega) (by omega)
 show(if(false&&((n:Int) % (2 ^ (64:Nat):Int) ≥ (2 ^ (63:Nat):Int)))=true then(n:Int) % (2 ^ (64:Nat):Int)-(2 ^ (64:Nat):Int) else(n:Int) % (2 ^ (64:Nat):Int))=_
 rw[e,ne (by simp)]
theorem sk(m:Nat)(h:m<4294967296):IntKind.i64.wrap (FZ .u64 (IntKind.u64.wrap (m:Int)) 1)=((m / 2:Nat):Int):=by
 rw[lm (by omega)]
 show IntKind.i64.wrap ((m:Int).fdiv (2 ^ (min 1 64)))=_
 rw[show((2:Int) ^ (min 1 64))=2 from rfl,Int.fdiv_eq_ediv_of_nonneg _ (by omega),show(m:Int) / 2=((m / 2:Nat):Int) by omega,iI (by omega)]
def P8(l:List Ag):Prop:=∀a b:Nat,a<b→b<l.length→l[a]!.ID<l[b]!.ID
theorem ed(n:Ag) id:MP n id=some (if n.ID<id then -1 else if id<n.ID then 1 else 0):=by
 unfold MP
 by_cases j:n.ID<id
 ·rw[vx (vz j),vx j]
 ·rw[ne (show ¬ decide (n.ID<id)=true by simpa using j),ne j]
  by_cases l:id<n.ID
  ·rw[vx (vz l),vx l]
  ·rw[ne (show ¬ decide (id<n.ID)=true by simpa using l),ne l]
theorem Z9(d:B0) id(U:d.Nodes.length≤1048576)(E:P8 d.Nodes):∃i:Nat,MR d id=some ((i:Int),(GH d.Nodes id).isSome)∧(∀k,GH d.Nodes id=some k→i=k):=by
 obtain⟨l⟩:=d
 dsimp only at U E ⊢
 have key:∃r,iter (λ(a:Int × Int)=>Nq l id a.1 a.2) (0,(l.length:Int))=some r ∧
   ∃I:Nat,r=(I:Int)∧I≤l.length∧(∀m,m<I→l[m]!.ID<id)∧∀m,I≤m→m<l.length→¬ l[m]!.ID<id:=by
  refine Ec l.length (λk O=>∃I J:Nat,O=((I:Int),(J:Int))∧I≤J∧J≤l.length∧J-I≤l.length-k∧(∀m,m<I→l[m]!.ID<id)∧∀m,J≤m→m<l.length→¬ l[m]!.ID<id) _ ?_ ?_ ⟨0,l.length,rfl,by omega,by omega,by omega,λm h=>absurd h (zV _),λm T F=>absurd F (by omega)⟩
  ·rintro k O hk ⟨I,J,rfl,T,F,V,B,u⟩
   dsimp only
   unfold Nq
   by_cases X:I<J
   ·left
    rw[vx (by rw[vy];omega),show(I:Int)+(J:Int)=((I+J:Nat):Int) by omega,Bz (by omega) (by omega),AE,sk _ (by omega),AR (by omega),AE,ed,AE]
    by_cases M:l[(I+J) / 2]!.ID<id
    ·rw[vx M,vx (by decide),Aa (by omega)]
     refine⟨_,rfl,(I+J) / 2+1,J,rfl,by omega,F,by omega,λm Y=>?_,u⟩
     by_cases e:m=(I+J) / 2
     ·rw[e];exact M
     ·have:=E m ((I+J) / 2) (by omega) (by omega);omega
    ·rw[ne M,ne (show ¬ decide ((if id<l[(I+J) / 2]!.ID then(1:Int) else 0)<0)=true by split<;>decide)]
     refine⟨_,rfl,I,(I+J) / 2,rfl,by omega,by omega,by omega,B,λm C j=>?_⟩
     by_cases e:m=(I+J) / 2
     ·rw[e];exact M
     ·have:=E ((I+J) / 2) m (by omega) j;omega
   ·right
    rw[ne (by rw[vy];omega)]
    exact⟨_,rfl,I,rfl,by omega,B,λm C j=>u m (by omega) j⟩
  ·rintro O ⟨I,J,rfl,T,F,V,B,u⟩
   dsimp only
   unfold Nq
   rw[ne (by rw[vy];omega)]
   exact⟨_,rfl,I,rfl,by omega,B,λm C j=>u m (by omega) j⟩
 obtain⟨r,Z,I,rfl,hI,B,u⟩:=key
 unfold MR TX
 rw[Z,AE]
 have w:∀k,GH l id=some k→I=k:=by
  intro k q
  obtain⟨C,j⟩:=OT q
  have a1:¬ k<I:=λh=>by have:=B k h;omega
  by_cases e:I=k
  ·exact e
  ·have:=E I k (by omega) C
   have:=u I (wL _) (by omega)
   omega
 refine⟨I,?_,w⟩
 by_cases A:I<l.length
 ·rw[vz (show(I:Int)<(l.length:Int) by omega),show((true==true):Bool)=true from rfl,At,AR A,AE,At,ed,AE,Bi]
  congr 2
  have h6:=u I (wL _) A
  rw[ne h6]
  cases q:GH l id with
  | some k=>
   obtain⟨C,j⟩:=OT q
   have:=w k q
   subst this
   rw[ne (by omega)];rfl
  | none=>
   have a0:l[I]!.ID≠id:=by
    intro e
    have:=List.find?_eq_none.1 q I (wh.2 A)
    exact this (vz e)
   rw[vx (by omega)];rfl
 ·rw[v6 (show ¬ (I:Int)<(l.length:Int) by omega)]
  show some ((I:Int),false)=_
  cases q:GH l id with
  | some k=>
   obtain⟨C,j⟩:=OT q
   have:=w k q
   omega
  | none=>rfl
def Kl(d:B0):Prop:=d.Nodes.length≤1048576∧∀n∈d.Nodes,KQ n
theorem tv:IH=MK:=by funext f x o;rfl
theorem kp(n:Ag):Rt n=MK n.Flow:=by funext x o;rfl
theorem qv:R8=Hb:=by funext n x o;rfl
theorem sd(n:Ag)(w:List Int)(A:n.Grid.Cells.length≤1048576)(u:w.length≤1048576):∃r,iter (λ(a:Int × (List Int))=>Hb n a.1 a.2) (0,w)=some r∧r.length≤2097152:=by
 refine Ec n.Grid.Cells.length (λk l=>l.1=(k:Int)∧l.2.length≤1048576+k) _ ?_ ?_ ⟨rfl,by simpa using u⟩
 ·rintro k ⟨x,out⟩ q ⟨rfl,j⟩
  dsimp only at j ⊢
  left
  unfold Hb
  rw[vx (by simpa using q),AR q,AE]
  by_cases r:n.Grid.Cells[k]!.Ref=0
  ·rw[ne (CI r),AE,Aa (by omega),AE]
   exact⟨_,rfl,rfl,by dsimp only;omega⟩
  ·rw[vx (BX r),UY (by omega),AE,AE,Aa (by omega),AE]
   exact⟨_,rfl,rfl,by dsimp only;rw[List.length_append,List.length_singleton];omega⟩
 ·rintro⟨x,out⟩ ⟨rfl,j⟩
  dsimp only at j ⊢
  unfold Hb
  rw[ne (by simp)]
  exact⟨_,rfl,by omega⟩
theorem rN(n:Ag)(h:KQ n):∃r,KS n=some r∧QH n=some r∧r.length≤2097152:=by
 have u:=h.ok.fl
 obtain⟨w,j,A⟩:=oN n.Flow (by omega)
 obtain⟨r,l,q⟩:=sd n w h.ok.gr.1 (by omega)
 refine⟨r,?_,?_,q⟩
 ·unfold KS Q8
  rw[tv,j,AE,AE,l];rfl
 ·unfold QH
  rw[kp,qv,j,AE,l];rfl
theorem tN(d:B0) kind(l:List Int)(w:d.Nodes.length≤1048576)(B:P8 d.Nodes)(J:l.length≤2097152):∃e,PY d kind l=some e∧QZ d kind l=some e:=by
 obtain⟨o,C,E,_⟩:=WS (ρ:=Int) (f:=λ(a:Int)=>OM d kind l a) (g:=λ(a:Int)=>MT d kind l a) (n:=l.length) (λ_=>True) trivial (λk q _=>by
  unfold OM MT
  obtain⟨i,F,u⟩:=Z9 d l[k]! w B
  rw[vx (by simpa using q),vx (by simpa using q),AR q,AE,AE,F,Bi,WI _ _ w,AE]
  cases A:GH d.Nodes l[k]! with
  | none=>exact⟨some 7,rfl,rfl,λe=>by cases e⟩
  | some j=>
   obtain⟨I,M⟩:=OT A
   have:=u j A
   subst this
   dsimp only
   rw[ne (show ¬ ((!Option.isSome (some i))=true) by simp),AR I,AE,mB,AE,ne (show ¬ decide ((i:Int)<0)=true by simp),AE,lR,AE]
   cases Px kind d.Nodes[i]!.Kind with
   | false=>exact⟨some 8,rfl,rfl,λe=>by cases e⟩
   | true=>
    rw[Aa (by omega)]
    exact⟨none,rfl,rfl,λ_=>trivial⟩) (by unfold OM;rw[ne (by simp)]) (by unfold MT;rw[ne (by simp)])
 refine⟨o.getD 0,?_,?_⟩
 ·unfold PY;rw[C,FG]
 ·unfold QZ;rw[E,FG]
theorem fJ{l:List Ag}(h:∀k,0<k→k<l.length→l[k-1]!.ID<l[k]!.ID):P8 l:=by
 intro a b q u
 induction b with
 | zero=>omega
 | succ b w=>
  have j:=h (b+1) (by omega) u
  rw[Nat.add_sub_cancel] at j
  by_cases e:a=b
  ·rw[e];exact j
  ·have:=w (by omega) (by omega);omega
theorem lu(d:B0)(h:Kl d):∃e,KI d=some e∧O1 d=some e:=by
 obtain⟨F,C⟩:=h
 unfold KI O1
 by_cases h0:d.Nodes.length=0
 ·rw[vx (by rw[vy];omega),vx (by rw[vy];omega)];exact⟨_,rfl,rfl⟩
 ·rw[ne (by rw[vy];omega),ne (by rw[vy];omega)]
  obtain⟨o,I,J,M⟩:=WS (ρ:=Int) (f:=λ(a:Int)=>Iy d a) (g:=λ(a:Int)=>Nl d a) (n:=d.Nodes.length) (λk=>∀j,0<j→j<k→d.Nodes[j-1]!.ID<d.Nodes[j]!.ID) (λj _ O=>absurd O (zV _)) (λk l T=>by
   unfold Iy Nl
   obtain⟨e,w,A⟩:=Wr _ (C _ (BL l))
   rw[vx (by simpa using l),vx (by simpa using l),AR l,AE,AE,w,A,AE,AE]
   by_cases q:e=0
   ·rw[ne (CI q),ne (CI q)]
    by_cases U:k=0
    ·subst U
     rw[vz (show((0:Nat):Int)=0 from rfl),show((true==true):Bool)=true from rfl,At,show(0:Int)=((0:Nat):Int) from rfl,AR l,AE,v6 (show ¬ ((0:Nat):Int)<((0:Nat):Int) by omega)]
     by_cases Ch:d.Nodes[0]!.ID=1
     ·refine⟨none,?_,?_,λ_ j E V=>by omega⟩
      ·rw[vz Ch];rfl
      ·rw[vz Ch];rfl
     ·refine⟨some 5,?_,?_,λe=>by cases e⟩
      ·rw[v6 Ch];rfl
      ·rw[v6 Ch];rfl
    ·have X:0<k:=by omega
     rw[v6 (show ¬ ((k:Int)=0) by omega),vz (show(0:Int)<(k:Int) by omega),show((false==true):Bool)=false from rfl,Fl,AE]
     show ∃o:Option Int,(AB (gd true (AM .i64 ((k:Int)-1))) λ(B:Int)=>AB (gd true (AL d.Nodes B)) λ(u:Ag)=>_)=_∧(AB (gd true (AM .i64 ((k:Int)-1))) λ(u:Int)=>AB (gd true (AL d.Nodes u)) λ(Y:Ag)=>_)=_∧_
     rw[At,Es X (by omega),AE,AE,At,AR (show k-1<d.Nodes.length by omega),AE,AE,Aa (by omega)]
     by_cases Ch:d.Nodes[k]!.ID≤d.Nodes[k-1]!.ID
     ·rw[vz Ch]
      exact⟨some 5,rfl,rfl,λe=>by cases e⟩
     ·rw[v6 Ch]
      refine⟨none,rfl,rfl,λ_ j E V=>?_⟩
      by_cases e:j=k
      ·rw[e];omega
      ·exact T j E (by omega)
   ·rw[vx (BX q),vx (BX q)]
    exact⟨some e,rfl,rfl,λe=>by cases e⟩) (by unfold Iy;rw[ne (by simp)]) (by unfold Nl;rw[ne (by simp)])
  rw[I,J]
  cases o with
  | some e=>exact⟨e,rfl,rfl⟩
  | none=>
   have Z:=fJ (M rfl)
   show ∃e,(Ao (iter (λ(a:Int)=>Lk d a) 0) λ(u4:Unit)=>some 0)=some e∧(Ao (iter (λ(a:Int)=>Ki d a) 0) λ(u4:Unit)=>some 0)=some e
   obtain⟨o,w,A,_⟩:=WS (ρ:=Int) (f:=λ(a:Int)=>Lk d a) (g:=λ(a:Int)=>Ki d a) (n:=d.Nodes.length) (λ_=>True) trivial (λk l _=>by
    unfold Lk Ki
    obtain⟨r,r1,r2,r3⟩:=rN _ (C _ (BL l))
    obtain⟨e,c1,c2⟩:=tN d d.Nodes[k]!.Kind r F Z r3
    rw[vx (by simpa using l),vx (by simpa using l),AR l,AE,AE,r1,r2,AE,AE,c1,c2,AE]
    by_cases q:e=0
    ·rw[ne (CI q),Aa (by omega)]
     exact⟨none,rfl,rfl,λ_=>trivial⟩
    ·rw[vx (BX q)]
     exact⟨some e,rfl,rfl,λ_=>trivial⟩) (by unfold Lk;rw[ne (by simp)]) (by unfold Ki;rw[ne (by simp)])
   exact⟨o.getD 0,by rw[w,FG],by rw[A,FG]⟩
theorem mI{μ:Ag→Nat}{γ:BW→Nat}{ψ:Aw→Nat}{ρ:As→Nat}{δ:BN→Nat}{ν:AD→Nat}{κ:AC→Nat}
  (q:∀n,(n.Attrs.map κ).sum+(n.Flow.map ν).sum+γ n.Grid+(n.Draw.map δ).sum+1≤μ n) (hg:∀g,(g.Cells.map ψ).sum+(g.Merges.map ρ).sum+1≤γ g)
  (hc:∀c,c.Text.length+(c.Attrs.map κ).sum+1≤ψ c) (A:∀r,1≤ρ r) (hd:∀o,o.Place.length+o.Name.length+o.Value.length+1≤δ o) (B:∀e,(e.Attrs.map κ).sum+1≤ν e) (C:∀a,a.Name.length+a.Value.length+1≤κ a)
  {d:B0} (E:(d.Nodes.map μ).sum≤1048576):Kl d:=by
 have u:=ss q hg (λc=>by have:=hc c;omega) A (λo=>by have:=hd o;omega) B C E
 refine⟨u.1,λn l=>⟨u.2 n l,λc j=>⟨(u.2 n l).gr.2.2 c j,?_⟩,λo w=>?_⟩⟩
 ·have F:=IK (μ:=μ) l
  have I:=q n
  have M:=hg n.Grid
  have J:=IK (μ:=ψ) j
  have:=hc c
  omega
 ·have F:=IK (μ:=μ) l
  have I:=q n
  have J:=IK (μ:=δ) w
  have:=hd o
  exact⟨by omega,by omega,by omega⟩
theorem OH{α β:Type}{o:Option α}{f:α→Option β}{r:β}(h:AB o f=some r):∃a,o=some a∧f a=some r:=by
 cases o with
 | none=>cases h
 | some a=>exact⟨a,rfl,h⟩
theorem mV{n:Ag}(h:KQ n)(j:Fc n=some 0)(A:IC n.Kind=some true):IB n.Flow=0:=by
 have l:∀x∈n.Flow,EX x:=λx q=>⟨by have:=(h.ok.fa x q).1;omega,(h.ok.fa x q).2⟩
 have B:=h.ok.fl
 unfold Fc at j
 split at j
 ·cases j
 split at j
 ·cases j
 obtain⟨e,_,j⟩:=OH j
 split at j
 ·rename_i c;injection j with j;rw[j] at c;simp at c
 obtain⟨E,u,j⟩:=OH j
 rw[A] at u
 cases u
 obtain⟨C,_,j⟩:=OH j
 obtain⟨g,_,j⟩:=OH j
 obtain⟨F,_,j⟩:=OH j
 split at j
 ·cases j
 rw[vx (show(true||C)=true from rfl)] at j
 obtain⟨I,w,j⟩:=OH j
 injection j with j
 rw[gP _ l (by omega),j] at w
 injection w
theorem aX{d:B0}(h:Kl d)(l:KI d=some 0):P8 d.Nodes∧∀k,k<d.Nodes.length→Fc d.Nodes[k]! = some 0:=by
 obtain⟨T,F⟩:=h
 unfold KI at l
 split at l
 ·cases l
 let g:Nat→Option Int:=λk=>if(Fc d.Nodes[k]!).getD 0≠0 then some ((Fc d.Nodes[k]!).getD 0) else if(k=0∧d.Nodes[k]!.ID≠1)∨(0<k∧d.Nodes[k]!.ID≤d.Nodes[k-1]!.ID) then some 5 else none
 have hit:iter (λ(a:Int)=>Iy d a) 0=some (Fu ((List.range d.Nodes.length).findSome? g)):=by
  refine CT g (λk j=>?_) (by unfold Iy;rw[ne (by simp)])
  unfold Iy
  obtain⟨e,A,_⟩:=Wr _ (F _ (BL j))
  show _=Cb k (g k)
  simp only[g]
  rw[vx (by simpa using j),AR j,AE,A,AE]
  show _=Cb k (if e≠0 then some e else _)
  by_cases u:e=0
  ·rw[ne (CI u),ne (by simpa using u)]
   by_cases B:k=0
   ·subst B
    rw[vz (show((0:Nat):Int)=0 from rfl),v6 (show ¬ (0:Int)<((0:Nat):Int) by omega)]
    by_cases Ch:d.Nodes[0]!.ID=1
    ·rw[vz Ch,ne (show ¬ ((0=0∧d.Nodes[0]!.ID≠1)∨(0<0∧d.Nodes[0]!.ID≤d.Nodes[0-1]!.ID)) by rintro(⟨_,b⟩ | ⟨a,_⟩);exact b Ch;omega)]
     rfl
    ·rw[v6 Ch,vx (show((0=0∧d.Nodes[0]!.ID≠1)∨(0<0∧d.Nodes[0]!.ID≤d.Nodes[0-1]!.ID)) from .inl ⟨rfl,Ch⟩)]
     rfl
   ·have I:0<k:=by omega
    rw[v6 (show ¬ ((k:Int)=0) by omega),vz (show(0:Int)<(k:Int) by omega)]
    show(AB (gd true (AM .i64 ((k:Int)-1))) λ(C:Int)=>AB (gd true (AL d.Nodes C)) λ(J:Ag)=>_)=_
    rw[At,Es I (by omega),AE,At,AR (show k-1<d.Nodes.length by omega),AE,Aa (by omega)]
    by_cases Ch:d.Nodes[k]!.ID≤d.Nodes[k-1]!.ID
    ·rw[vz Ch,vx (show((k=0∧d.Nodes[k]!.ID≠1)∨(0<k∧d.Nodes[k]!.ID≤d.Nodes[k-1]!.ID)) from .inr ⟨I,Ch⟩)]
     rfl
    ·rw[v6 Ch,ne (show ¬ ((k=0∧d.Nodes[k]!.ID≠1)∨(0<k∧d.Nodes[k]!.ID≤d.Nodes[k-1]!.ID)) by rintro(⟨a,_⟩ | ⟨_,b⟩);exact B a;exact Ch b)]
     rfl
  ·rw[vx (BX u),vx u]
   rfl
 rw[hit] at l
 cases w:(List.range d.Nodes.length).findSome? g with
 | some e=>
  rw[w] at l
  have l:(some e:Option Int)=some 0:=l
  injection l with l
  obtain⟨k,_,j⟩:=xF w
  simp only[g] at j
  split at j
  ·rename_i E;injection j with j;exact absurd (j.trans l) E
  ·split at j
   ·injection j with j;omega
   ·cases j
 | none=>
  rw[xD] at w
  have j:∀k,k<d.Nodes.length→(Fc d.Nodes[k]!).getD 0=0∧¬ ((k=0∧d.Nodes[k]!.ID≠1)∨(0<k∧d.Nodes[k]!.ID≤d.Nodes[k-1]!.ID)):=by
   intro k j
   have:=w k (wh.2 j)
   simp only[g] at this
   split at this
   ·cases this
   ·rename_i M
    split at this
    ·cases this
    ·rename_i O;exact⟨by simpa using M,O⟩
  refine⟨fJ λk B q=>?_,λk q=>?_⟩
  ·have:=(j k q).2
   have U:¬ (0<k∧d.Nodes[k]!.ID≤d.Nodes[k-1]!.ID):=λe=>this (.inr e)
   omega
  ·obtain⟨e,A,_⟩:=Wr _ (F _ (BL q))
   have:=(j k q).1
   rw[A] at this ⊢
   exact yZ some this
theorem tK{d:B0} id(j:d.Nodes.length≤1048576)(l:P8 d.Nodes):Oq d id=some (match GH d.Nodes id with | some k=>(k:Int) | none=>-1):=by
 unfold Oq
 obtain⟨i,q,u⟩:=Z9 d id j l
 rw[q,Bi]
 cases w:GH d.Nodes id with
 | none=>rfl
 | some k=>rw[u k w];rfl
def Yv:CN:=CN.mk (Ag.mk 0 0 [] [] (BW.mk 0 0 [] []) []) [] []
theorem iF(d:B0)(s:BK)(j:List UInt8)(h:Kl d)(V:j.length≤1073741824) :
  (∃e,e≠0∧L0 d s j=some (Yv,e)∧Jp d s=some e) ∨
  (∃k,k<d.Nodes.length∧GH d.Nodes s.Node=some k∧d.Nodes[k]!.ID=s.Node∧KQ d.Nodes[k]!∧IC d.Nodes[k]!.Kind=some true∧IB d.Nodes[k]!.Flow=0∧0≤s.From∧s.From≤s.To∧s.To<((shown d.Nodes[k]!.Flow 0 d.Nodes[k]!.Flow.length).length:Int) ∧
   KI d=some 0∧Jp d s=some 0∧L0 d s j=some (if j≠[]∧Dl j=false then(Yv,23) else(CN.mk d.Nodes[k]! (shown d.Nodes[k]!.Flow 0 d.Nodes[k]!.Flow.length) j,0))):=by
 obtain⟨e,J,O⟩:=lu d h
 have M:=h.1
 unfold L0 Jp
 rw[J,O,AE,AE]
 by_cases E:e=0
 ·subst E
  obtain⟨T,w⟩:=aX h J
  rw[ne (by decide),ne (by decide),tK s.Node M T,WI d s.Node M,AE,AE]
  cases U:GH d.Nodes s.Node with
  | none=>exact .inl ⟨7,by decide,rfl,rfl⟩
  | some k=>
   obtain⟨F,Ch⟩:=OT U
   dsimp only
   have A:=h.2 _ (BL F)
   have B:∀x∈d.Nodes[k]!.Flow,EX x:=λx u=>⟨by have:=(A.ok.fa x u).1;omega,(A.ok.fa x u).2⟩
   have C:=A.ok.fl
   rw[ne (by simp),ne (by simp),AR F,AE,AE,iZ]
   obtain⟨t,I⟩:∃t,IC d.Nodes[k]!.Kind=some t:=⟨_,rfl⟩
   rw[I,AE,AE]
   cases t with
   | false=>exact .inl ⟨8,by decide,rfl,rfl⟩
   | true=>
    have l:=mV A (w k F) I
    have hp:FN d.Nodes[k]!.Flow=0:=by
     unfold IB at l
     split at l
     ·rename_i u;exact absurd l u
     ·rename_i u;simpa using u
    rw[ne (by decide),ne (by decide),oL _ 0 B C,ep _ 0 B hp C,AE,AE]
    by_cases X:s.From<0∨s.To<s.From∨((shown d.Nodes[k]!.Flow 0 d.Nodes[k]!.Flow.length).length:Int)≤s.To
    ·refine .inl ⟨2,by decide,?_,?_⟩
     ·rw[vx (by simp only[wF,vy];omega)];rfl
     ·rw[vx (by simp only[wF,vy];omega)]
    ·refine .inr ⟨k,F,rfl,Ch,A,I,l,by omega,by omega,by omega,rfl,?_,?_⟩
     ·rw[ne (by simp only[wF,vy];omega)]
     ·rw[ne (by simp only[wF,vy];omega)]
      by_cases q:j=[]
      ·subst q
       rw[ne (show ¬ (([]:List UInt8)≠[]∧Dl []=false) by simp)]
       rfl
      ·rw[v6 q]
       show(AB (gd true (Jo j)) λ(Y:Bool)=>_)=_
       rw[At,VI _ (by omega),AE]
       cases Z:Dl j with
       | false=>rw[vx (show j≠[]∧false=false from⟨q,rfl⟩)];rfl
       | true=>rw[ne (show ¬ (j≠[]∧true=false) by simp)];rfl
 ·rw[vx (BX E),vx (BX E)]
  exact .inl ⟨e,E,rfl,rfl⟩
def EB(s:AI):Int:=if(s.Kind=1∧s.Elems=[]∧Cv s=11)∨(s.Kind≠1∧s.N=0∧Cv s=2) then Am s.Attrs true else Cv s
def XI(s:AI):Prop:=(s.Kind=0∧s.Elems=[]∧0≤s.N∧s.N≤2147483647∧Am s.Attrs true=0)∨(s.Kind=2∧s.Elems=[]∧s.Attrs=[]∧0≤s.N∧s.N≤2147483647) ∨
  (s.Kind=1∧s.N=0∧s.Attrs=[]∧FN s.Elems=0)
theorem Yy{s:AI}(h:EB s=0):XI s:=by
 unfold EB at h
 split at h
 ·rename_i C
  rcases C with ⟨q,A,j⟩ | ⟨q,A,j⟩
  ·unfold Cv at j
   rw[vx q] at j
   by_cases l:s.N≠0∨s.Attrs≠[]
   ·rw[vx l] at j;cases j
   ·refine .inr (.inr ⟨q,wX λh=>l (.inl h),wX λh=>l (.inr h),by rw[A];rfl⟩)
  ·unfold Cv at j
   rw[ne q] at j
   by_cases u:s.Kind=0∨s.Kind=2
   ·rw[vx u] at j
    by_cases l:s.Elems≠[]∨(s.Kind=2∧s.Attrs≠[])
    ·rw[vx l] at j;cases j
    ·have B:s.Elems=[]:=wX λh=>l (.inl h)
     rcases u with k | k
     ·exact .inl ⟨k,B,by omega,by omega,h⟩
     ·exact .inr (.inl ⟨k,B,wX λh=>l (.inr ⟨k,h⟩),by omega,by omega⟩)
   ·rw[ne u] at j;cases j
 ·rcases (Pd h).kind with ⟨k,e,E,w,a⟩ | ⟨k,e,a,E,w⟩ | ⟨k,n,a,_,p⟩
  ·exact .inl ⟨k,e,by omega,w,a⟩
  ·exact .inr (.inl ⟨k,e,a,by omega,w⟩)
  ·exact .inr (.inr ⟨k,n,a,p⟩)
theorem gu{s:AI}(h:XI s)(q:GV s):∀u∈BM s,DZ u:=by
 intro u l
 unfold BM at l
 rcases h with ⟨k,e,E,F,w⟩ | ⟨k,e,w,E,F⟩ | ⟨k,n,_,p⟩
 ·rw[ne (by omega),v6 (by omega)] at l
  have:=xZ l
  subst this
  exact⟨λ_=>w,q.at_⟩
 ·rw[ne (by omega),vz k] at l
  have:=xZ l
  subst this
  exact⟨λh=>(by cases h),q.at_⟩
 ·rw[vx k] at l
  obtain⟨e,A,rfl⟩:=xY.1 l
  obtain⟨j,B,rfl⟩:=xE.1 A
  have C:=OZ p B
  rw[wD s.Elems j B] at C
  exact⟨C,q.ea _ A⟩
theorem aI{s:AI}(h:XI s):(Au (BM s):Int)=s.N∧BS (BM s)=s.Elems.length∧0≤s.N∧s.N≤2147483647:=by
 have A:∀l:List AD,Au (l.map Un.a)=0∧BS (l.map Un.a)=l.length:=by
  intro l
  induction l with
  | nil=>exact⟨rfl,rfl⟩
  | cons x l j=>unfold Au BS at j ⊢;rw[wS,xT,xT,j.1,j.2];exact⟨rfl,rfl⟩
 have q:∀(n:Nat) (c:Bool) (t:List AC),Au (List.replicate n (Un.r c t))=n∧BS (List.replicate n (Un.r c t))=0:=by
  intro n c t
  induction n with
  | zero=>exact⟨rfl,rfl⟩
  | succ n j=>unfold Au BS at j ⊢;rw[wc,xT,xT,j.1,j.2];exact⟨rfl,rfl⟩
 unfold BM
 rcases h with ⟨k,e,u,w,B⟩ | ⟨k,e,B,u,w⟩ | ⟨k,n,_,p⟩
 ·rw[ne (by omega),(q _ _ _).1,(q _ _ _).2,e];refine⟨by omega,rfl,u,w⟩
 ·rw[ne (by omega),(q _ _ _).1,(q _ _ _).2,e];refine⟨by omega,rfl,u,w⟩
 ·rw[vx k,(A _).1,(A _).2,n];exact⟨rfl,rfl,by decide,by decide⟩
def L8:List AI→List Un→List AI × Int
 | [],X=>if CZ (BO X)≠0 then([],3) else(BO X,0)
 | s::d,X=>if EB s≠0 then([],EB s) else if s.Kind=2∧2147483647<((Av X).cuts:Int)+s.N then([],3) else L8 d (X++BM s)
def Ln:List AI→List Un→An Ae (List AI × Int)
 | [],X=>.nrm (Cm (Av X))
 | s::d,X=>if EB s≠0 then .ext ([],EB s) else if s.Kind=2∧2147483647<((Av X).cuts:Int)+s.N then .ext ([],3) else Ln d (X++BM s)
theorem dA(s:AI) d X:Ln (s::d) X=if EB s≠0 then .ext ([],EB s) else if s.Kind=2∧2147483647<((Av X).cuts:Int)+s.N then .ext ([],3) else Ln d (X++BM s):=rfl
theorem Sw(s:AI) d X:L8 (s::d) X=if EB s≠0 then([],EB s) else if s.Kind=2∧2147483647<((Av X).cuts:Int)+s.N then([],3) else L8 d (X++BM s):=rfl
structure IT(d:List AI)(k:Nat)(X:List Un):Prop where
 ok:∀u∈X,DZ u
 out:(Av X).out.length≤3 * k
 cut:(Av X).cuts≤2147483647
 rows:Au X≤2147483647 * k
 adds:BS X+((d.drop k).map λs=>s.Elems.length).sum=(d.map λs=>s.Elems.length).sum
theorem Tk(s:DS):(BQ s).length≤s.out.length+2:=by
 unfold BQ
 split<;>split<;>simp
theorem VQ(l:List AI) t n:(DL l t n).length≤l.length+1:=by
 unfold DL
 split<;>simp
theorem ZF a b:BS (a++b)=BS a+BS b:=List.countP_append
theorem jZ{X}(h:∀u∈X,DZ u):(Av X).adds.length≤BS X:=(JK h).al
theorem Yf(s:AI)(e:Int):((((s.Kind=1)&&((s.Elems.length:Int)=0))&&(e=11))||(((!(s.Kind=1))&&(s.N=0))&&(e=2)))=true ↔
  ((s.Kind=1∧s.Elems=[]∧e=11)∨(s.Kind≠1∧s.N=0∧e=2)):=by
 rw[V5]
 simp only[wF,v7,wz,vy,xd,ne_eq,and_assoc]
theorem sa(d:List AI)(ho:FR d)(U:GQ d):iter (λ(a:Int × Ae)=>Ff d a.1 a.2) (0,(Ae.mk [] [] 0))=some (Ln d []):=by
 have hm:=U.len
 have a0:=U.sum
 refine kN d (λX k=>((k:Int),Cm (Av X))) Ln (IT d) ?_ ?_ [] ⟨by simp,by simp[Av,D0],by simp[Av,D0],by simp[Au],by simp[BS]⟩ _ rfl
 ·rintro k X B A
  have j:=ho.st _ (BL B)
  have I:=A.ok
  have h2:=A.out
  have h3:=A.cut
  have h4:=A.rows
  have V:=A.adds
  have h6:=jZ I
  have h7:=U.at_ _ (BL B)
  rw[G6 B,wS,xK] at V
  show(∃w,Ff d (k:Int) _=_∧_)∨Ff d (k:Int) _=_
  unfold Ff
  rw[vx (by simpa using B),AR B,AE,Wf _ j,AE]
  rw[dA]
  generalize d[k]! = s at j V h7
  have C:(if((((s.Kind=1)&&((s.Elems.length:Int)=0))&&(Cv s=11))||(((!(s.Kind=1))&&(s.N=0))&&(Cv s=2))) then(AB (Lh s.Attrs) λ(e3:Int)=>some e3) else(some (Cv s)))=some (EB s):=by
   unfold EB
   by_cases J:((s.Kind=1∧s.Elems=[]∧Cv s=11)∨(s.Kind≠1∧s.N=0∧Cv s=2))
   ·rw[vx ((Yf s _).2 J),vx J,fW _ j.at_.2 (by have:=j.at_.1;omega),AE]
   ·rw[ne (λh=>J ((Yf s _).1 h)),ne J]
  rw[C,AE]
  by_cases E:EB s=0
  ·have Y:=Yy E
   have hU:=gu Y j
   obtain⟨c1,c2,M,c4⟩:=aI Y
   rw[ne (CI E),ne (show ¬ (EB s≠0) by simpa using E)]
   have l:∀w,w=X++BM s→(Av w).out.length≤(Av X).out.length+3→(Av w).cuts≤2147483647→IT d (k+1) w:=by
    rintro w rfl h8 h9
    refine⟨λu Z=>?_,by omega,h9,?_,?_⟩
    ·rcases wn.1 Z with h | h
     ·exact I u h
     ·exact hU u h
    ·rw[Gs];omega
    ·rw[ZF,c2,← V];omega
   have hX:∀u∈X++BM s,DZ u:=λu Z=>by
    rcases wn.1 Z with h | h
    ·exact I u h
    ·exact hU u h
   have q:BM s=if s.Kind=1 then s.Elems.map Un.a else List.replicate s.N.toNat (.r (decide (s.Kind=2)) s.Attrs):=rfl
   by_cases O:s.Kind=0
   ·rw[vx (by rw[vy];exact O),ne (show ¬ (s.Kind=2∧2147483647<((Av X).cuts:Int)+s.N) by rintro⟨h,_⟩;omega)]
    rw[ne (by omega),v6 (by omega)] at q
    rw[fk (JK I) (by omega) (by omega) s.N s.Attrs M (by omega) (by omega),AE,Hi,Aa (by omega),AE,Km _ _ _ M,← q]
    refine .inl ⟨_,rfl,l _ rfl ?_ ?_,rfl⟩
    ·rw[q,← Km _ _ _ M];unfold EW
     have:=Tk (Av X)
     have:=VQ (BQ (Av X)) s.Attrs s.N
     split
     ·omega
     ·dsimp only;omega
    ·rw[q,← Km _ _ _ M];unfold EW
     split
     ·exact h3
     ·simp
   ·by_cases F:s.Kind=1
    ·rw[ne (by rw[vy];exact O),vx (by rw[vy];exact F),ne (show ¬ (s.Kind=2∧2147483647<((Av X).cuts:Int)+s.N) by rintro⟨h,_⟩;omega)]
     rw[vx F] at q
     rw[Zq _ _ (by have:=j.el;omega) j.ea (by omega),AE,Hi,Aa (by omega),AE,Mk,← q]
     refine .inl ⟨_,rfl,l _ rfl ?_ ?_,rfl⟩
     ·rw[q,← Mk];dsimp only;omega
     ·rw[q,← Mk];exact h3
    ·have k2:s.Kind=2:=by
      rcases Y with h | h | h
      ·exact absurd h.1 O
      ·exact h.1
      ·exact absurd h.1 F
     rw[ne (by rw[vy];exact O),ne (by rw[vy];exact F)]
     rw[ne F,vz k2] at q
     show(∃w,Ao (AB (AM .i64 (((Av X).cuts:Int)+s.N)) _) _=_∧_)∨Ao (AB (AM .i64 (((Av X).cuts:Int)+s.N)) _) _=_
     rw[Bz (by omega) (by omega),AE]
     by_cases T:2147483647<((Av X).cuts:Int)+s.N
     ·rw[vx (by rw[vy];exact T),vx ⟨k2,T⟩];exact .inr rfl
     ·rw[ne (by rw[vy];exact T),ne (λh=>T h.2),Hi,Aa (by omega),AE]
      have e:=Tr X s.N.toNat s.Attrs
      rw[← q] at e
      refine .inl ⟨_,?_,l _ rfl ?_ ?_,rfl⟩
      ·rw[← e]
       unfold Cm
       dsimp only
       rw[show(((Av X).cuts+s.N.toNat:Nat):Int)=((Av X).cuts:Int)+s.N by omega]
      ·rw[← e];dsimp only;omega
      ·rw[← e];dsimp only;omega
  ·rw[vx (BX E),vx E];exact .inr rfl
 ·rintro X A
  show Ff d (d.length:Int) _=_
  unfold Ff
  rw[ne (by simp)];rfl
theorem rU(d:List AI)(Z:FR d)(O:GQ d):∀(e:List AI) (k:Nat) (X:List Un),k+e.length=d.length→d.drop k=e→IT d k X →
  (Ao (some (Ln e X)) λ(w4:Ae)=>F8 (IZ w4) λ(r1:List AI) (r2:Int) (_:Ae)=>some (r1,r2))=some (L8 e X):=by
 have hm:=O.len
 have T:=O.sum
 intro e
 induction e with
 | nil=>
  intro k X E _ j
  have h2:=j.out
  have F:=j.adds
  simp only[yJ] at E
  unfold Ln L8
  rw[Hi,P2 j.ok (by omega) (by omega)]
  split<;>rfl
 | cons s e ih=>
  intro k X E hd j
  simp only[wK] at E
  have l:k<d.length:=by omega
  rw[G6 l] at hd
  injection hd with w I
  rw[dA,Sw]
  by_cases A:EB s=0
  ·rw[ne (show ¬ (EB s≠0) by simpa using A),ne (show ¬ (EB s≠0) by simpa using A)]
   by_cases B:s.Kind=2∧2147483647<((Av X).cuts:Int)+s.N
   ·rw[vx B,vx B];rfl
   ·rw[ne B,ne B]
    refine ih (k+1) _ (by omega) I ?_
    have C:=Z.st _ (BL l)
    rw[w] at C
    have U:=Yy A
    have hU:=gu U C
    obtain⟨c1,c2,c3,c4⟩:=aI U
    have h1:=j.ok
    have h2:=j.out
    have V:=j.cut
    have h4:=j.rows
    have F:=j.adds
    rw[G6 l,wS,xK,w] at F
    have q:BM s=if s.Kind=1 then s.Elems.map Un.a else List.replicate s.N.toNat (.r (decide (s.Kind=2)) s.Attrs):=rfl
    have J:(Av (X++BM s)).out.length≤(Av X).out.length+3∧(Av (X++BM s)).cuts≤2147483647:=by
     by_cases Y:s.Kind=1
     ·rw[vx Y] at q
      rw[q,← Mk];exact⟨by dsimp only;omega,V⟩
     ·rw[ne Y] at q
      by_cases M:s.Kind=2
      ·rw[vz M] at q
       rw[q,← Tr]
       have:¬ 2147483647<((Av X).cuts:Int)+s.N:=λh=>B ⟨M,h⟩
       refine⟨by dsimp only;omega,by dsimp only;omega⟩
      ·rw[v6 M] at q
       rw[q,← Km _ _ _ c3];unfold EW
       have:=Tk (Av X)
       have:=VQ (BQ (Av X)) s.Attrs s.N
       split
       ·exact⟨by omega,V⟩
       ·exact⟨by dsimp only;omega,by simp⟩
    refine⟨λu hu=>?_,by omega,J.2,?_,?_⟩
    ·rcases wn.1 hu with h | h
     ·exact h1 u h
     ·exact hU u h
    ·rw[Gs];omega
    ·rw[ZF,c2,← F];omega
  ·rw[vx A,vx A];rfl
theorem ju d:IT d 0 []:=⟨by simp,by simp[Av,D0],by simp[Av,D0],by simp[Au],by simp[BS]⟩
theorem tF(d:List AI)(j:FR d)(l:GQ d):It d=some (L8 d []):=by
 unfold It
 rw[sa d j l]
 exact rU d j l d 0 [] (by simp) rfl (ju d)
theorem ua(us:List Un):BS us+Au us=us.length:=by
 induction us with
 | nil=>rfl
 | cons u us q=>
  have j:BS (u::us)=(if u.isR then 0 else 1)+BS us:=by unfold BS;rw[xT];cases u.isR<;>simp<;>omega
  have l:Au (u::us)=(if u.isR then 1 else 0)+Au us:=by unfold Au;rw[xT];omega
  rw[j,l,wK]
  cases u.isR<;>simp<;>omega
theorem Nx a b:Ai (a++b)=Ai a++Ai b:=by simp[Ai]
theorem iQ(n:Int) t:BM ⟨0,n,t,[]⟩=List.replicate n.toNat (.r false t):=rfl
theorem tm(n:Int):BM ⟨2,n,[],[]⟩=List.replicate n.toNat (.r true []):=rfl
theorem Xy{l:List AI} t(u:∀x∈l,0≤x.N):Ai (HD l t)=Ai l++[.r false t]∧∀x∈HD l t,0≤x.N:=by
 have j:Ai (l++[⟨0,1,t,[]⟩])=Ai l++[.r false t]∧∀x∈l++[(⟨0,1,t,[]⟩:AI)],0≤x.N:=by
  refine⟨by rw[Nx];rfl,λx w=>?_⟩
  rcases wn.1 w with h | h
  ·exact u x h
  ·have:x=⟨0,1,t,[]⟩:=by simpa using h
   subst this;show(0:Int)≤1;decide
 unfold HD
 split
 ·rename_i h
  obtain⟨B,q,A⟩:=h
  obtain⟨p,s,rfl⟩:∃p s,l=p++[s]:=⟨l.take (l.length-1),l[l.length-1]!,by
   rw[← H4 (by omega),show l.length-1+1=l.length by omega,xp]⟩
  have e:(p++[s]).length-1=p.length:=by simp
  rw[e,OR] at q A ⊢
  rw[yt _ _ (by omega),zW,yo]
  have C:=u s (by simp)
  refine⟨?_,λx w=>?_⟩
  ·rw[Nx,Nx,wJ]
   congr 1
   show BM _++[]=(BM s++[])++_
   rw[wR,wR]
   unfold BM
   rw[ne (by rw[q];decide),ne (by rw[q];decide),q,A]
   dsimp only
   rw[show(s.N+1).toNat=s.N.toNat+1 by omega,yw]
   rfl
  ·rcases wn.1 w with h | h
   ·exact u x (yG _ h)
   ·have:x=⟨s.Kind,s.N+1,s.Attrs,s.Elems⟩:=by simpa using h
    subst this
    show 0≤s.N+1
    omega
 ·exact j
theorem fG{s:DS}(h:s.adds=[]):Ai (BQ s)=Ai s.out++List.replicate s.cuts (.r true []):=by
 unfold BQ
 rw[h,ne (by simp),Nx]
 congr 1
 split
 ·show BM _++[]=_
  rw[wR,tm];rfl
 ·rw[show s.cuts=0 by omega];rfl
theorem Wg:∀(us:List Un) (s:DS),s.adds=[]→(∀x∈s.out,0≤x.N)→(∀u∈us,Ic u)→Ai (BQ (us.foldl dU s))=Ai (BQ s)++us
 | [],_,_,_,_=>by simp
 | .a e::us,s,_,_,j=>(j (.a e) (v8 ..)).elim
 | .r true t::us,s,l,q,j=>by
  have B:=(j _ (v8 ..)).2.1 rfl
  subst B
  rw[wg,Wg us _ (by exact l) (by exact q) λv w=>j v (wC _ w),fG l]
  show Ai (BQ ⟨s.out,s.adds,s.cuts+1⟩)++us=_
  rw[fG (by exact l)]
  dsimp only
  rw[yw,wJ,wJ,wJ]
  rfl
 | .r false t::us,s,l,q,j=>by
  have C:∀x∈BQ s,0≤x.N:=by
   intro x A
   unfold BQ at A
   rw[l,ne (by simp)] at A
   rcases wn.1 A with h | h
   ·exact q x h
   ·split at h
    ·have:x=⟨2,s.cuts,[],[]⟩:=by simpa using h
     subst this
     show(0:Int)≤s.cuts
     omega
    ·simp at h
  obtain⟨E,F⟩:=Xy t C
  rw[wg,Wg us _ rfl (by exact F) λv w=>j v (wC _ w)]
  show Ai (BQ ⟨HD (BQ s) t,[],0⟩)++us=_
  rw[T2,E,wJ]
  rfl
theorem kI{us}(h:∀u∈us,Ic u):Ai (BO us)=us:=by
 have:=Wg us ⟨[],[],0⟩ rfl (by simp) h
 exact this
theorem pC{a}(l:Am a false=0):F3 a []=a:=by
 obtain⟨j,q,v1⟩:=EN l
 obtain⟨u,w⟩:=Q7 Sq SQ j (List.Pairwise.nil) q (λ_ h=>by cases h)
 exact Qi u j λn=>by show Ar (Bs FP a [] []) n=_;rw[w];rfl
theorem oV{x:AD}(h:Am x.Attrs false=0):C0 [] x=x:=by unfold C0;rw[pC h]
def Az(f:List AD):List Nat:=(List.range f.length).filter (Ce f 0)
theorem Xx(f:List AD):shown f 0 f.length=(Az f).map λ(i:Nat)=>(i:Int):=rfl
theorem Gh{f:List AD}{k}(j:k<(Az f).length):(Az f)[k]!<f.length:=by
 rw[wD _ k j]
 exact wh.1 (yn.1 (xz j)).1
theorem lz f:(Az f).Pairwise (· < ·):=List.Pairwise.filter _ List.pairwise_lt_range
theorem ut{f}{j k}(q:j<(Az f).length)(u:k<(Az f).length)(h:(Az f)[j]! = (Az f)[k]!):j=k:=by
 rw[wD _ j q,wD _ k u] at h
 have w:=List.pairwise_iff_getElem.1 (lz f)
 rcases Nat.lt_trichotomy j k with l | l | l
 ·have:=w j k q u l;omega
 ·exact l
 ·have:=w k j u q l;omega
theorem G0(f:List AD):(Az f).length≤f.length:=by
 unfold Az
 exact w0 (yY _ _) (by simp)
theorem Kx{f:List AD}{k}(j:k<(Az f).length):AL (shown f 0 f.length) (k:Int)=some (((Az f)[k]!:Nat):Int):=by
 rw[Xx,AR (by simpa using j),wD ((Az f).map λ(i:Nat)=>(i:Int)) k (by simpa using j),wD _ k j,yj]
theorem pJ{f:List AD}(h:IB f=0):∃k,k<(Az f).length∧k+1=(Az f).length∧f[(Az f)[k]!]!.Char=10:=by
 have l:f≠[]∧f[f.length-1]!.Char=10:=by
  unfold IB at h
  split at h
  ·rename_i q;exact absurd h q
  ·split at h
   ·cases h
   ·rename_i q
    simp only[not_or,wU] at q
    exact q
 have w:0<f.length:=xP.2 l.1
 have j:Az f=(List.range (f.length-1)).filter (Ce f 0)++[f.length-1]:=by
  unfold Az
  have u:List.range f.length=List.range (f.length-1)++[f.length-1]:=by
   conv=>lhs;rw[show f.length=(f.length-1)+1 by omega,List.range_succ]
  rw[u,zc]
  have:Ce f 0 (f.length-1)=true:=by
   unfold Ce
   rw[l.2]
   simp;right;omega
  simp[this]
 refine⟨((List.range (f.length-1)).filter (Ce f 0)).length,by rw[j];simp,by rw[j];simp,?_⟩
 have:(Az f)[((List.range (f.length-1)).filter (Ce f 0)).length]! = f.length-1:=by
  rw[j,wD _ _ (by simp)]
  simp
 rw[this];exact l.2
def gJ(n f t:Int):Prop:=n<0∨2147483647<n∨f<0∨t<f∨n<t
instance (n f t:Int):Decidable (gJ n f t):=by unfold gJ;infer_instance
theorem pX{n:Nat}(h:n≤4294967296){z:Bool} : mk 1 (n:Int) z=some (List.replicate n z):=by
 unfold mk
 rw[vx (by omega),wy]
def Dx(id:Int)(w:List AI):BE:=BE.mk 2 id (Ag.mk 0 0 [] [] (BW.mk 0 0 [] []) []) [] w (EY.mk [] [] [] [] []) []
def El(n:Ag)(a:Nat):Nat→Nat
 | 0=>a
 | m+1=>if n.Flow[(Az n.Flow)[a]!]!.Char=10 then a else El n (a+1) m
theorem Si n:∀(m a:Nat),El n a m≤a+m
 | 0,a=>by simp[El]
 | m+1,a=>by
  unfold El
  split
  ·omega
  ·have:=Si n m (a+1);omega
theorem Ys{F}{n:Ag}(l:∀k:Nat,k<(Az n.Flow).length→F (k:Int)=if n.Flow[(Az n.Flow)[k]!]!.Char=10 then some (.inr (k:Int)) else some (.inl ((k+1:Nat):Int))){z}(u:z<(Az n.Flow).length)(j:n.Flow[(Az n.Flow)[z]!]!.Char=10) :
  ∀m a,a+m=z→iter F (a:Int)=some ((El n a m:Nat):Int):=by
 intro m
 induction m with
 | zero=>
  intro a w
  obtain rfl:a=z:=by omega
  rw[B3 ((l a u).trans (vx j))]
  rfl
 | succ m A=>
  intro a w
  have h:=l a (by omega)
  unfold El
  by_cases q:n.Flow[(Az n.Flow)[a]!]!.Char=10
  ·rw[vx q] at h ⊢
   exact B3 h
  ·rw[ne q] at h ⊢
   rw[DM h,A (a+1) (by omega)]
theorem tC id(w:List AI)(j:w.length≤9223372036854775806)(l:∀s∈w,GV s):Ha [Dx id w] [Dx id w]=some true:=by
 have q:Na (Dx id w) (Dx id w)=some true:=by
  unfold Na
  have u:(((Dx id w).Kind=(Dx id w).Kind)&&((Dx id w).Node=(Dx id w).Node))=true:=by simp
  rw[u]
  have A:OO (Ag.mk 0 0 [] [] (BW.mk 0 0 [] []) []):=by
   constructor<;>simp[Co,GR,Nw]
  have B:IF (Dx id w).New (Dx id w).New=some true:=by
   show IF (Ag.mk 0 0 [] [] (BW.mk 0 0 [] []) []) (Ag.mk 0 0 [] [] (BW.mk 0 0 [] []) [])=_
   rw[hM _ _ A];simp
  have C:GC (Dx id w).Attrs (Dx id w).Attrs=some true:=by
   rw[NX _ _ (by simp[Dx])];simp
  have hd:L2 (Dx id w).Steps (Dx id w).Steps=some true:=by
   show L2 w w=_
   rw[lM _ _ j l];simp
  have hg:Pb (Dx id w).Grid (Dx id w).Grid=some true:=by
   have E:Kk [] []=some true:=by rw[mT _ _ (by simp)];simp
   have F:Jk [] []=some true:=by
    unfold Jk
    rw[ne (by simp),B3 (r:=.nrm ()) (by unfold M2;rw[ne (by simp)])];rfl
   have I:Ip [] []=some true:=by
    unfold Ip
    rw[ne (by simp),B3 (r:=.nrm ()) (by unfold NF;rw[ne (by simp)])];rfl
   unfold Pb Dx
   dsimp only
   rw[E,F,I];rfl
  have hp:Js (Dx id w).Draw (Dx id w).Draw=some true:=by
   unfold Js
   rw[ne (by simp),B3 (r:=.nrm ()) (by unfold Nh;rw[ne (by simp[Dx])])];rfl
  rw[B,C,hd,hg,hp];rfl
 unfold Ha
 rw[ne (by simp),DM (s':=(1:Int)) (by
  unfold MH
  rw[vx (by simp),show(0:Int)=((0:Nat):Int) from rfl,AR (by simp),AE,AE]
  show(AB (Na (Dx id w) (Dx id w)) _)=_
  rw[q,AE,ne (by decide),Aa (by omega)];rfl),B3 (r:=.nrm ()) (by unfold MH;rw[ne (by simp)])]
 rfl
def fS(s:List (List UInt8))(v:List UInt8)(k:Nat):Option Int:=if v=s[k]! then some (k:Int) else none
theorem im(s:List (List UInt8)) v(w:s.length≤1000):NJ s v=some (decide (v∈s)):=by
 have u:=CT (f:=λ(a:Int)=>NQ s v a) (n:=s.length) (fS s v) (λk j=>by
  unfold NQ fS
  rw[vx (by simpa using j),AR j,AE]
  by_cases e:v=s[k]!
  ·rw[vx (by simpa using e),vx e];rfl
  ·rw[ne (by simpa using e),ne e,Aa (by omega)];rfl) (by unfold NQ;rw[ne (by simp)])
 unfold NJ S6
 rw[u]
 cases l:(List.range s.length).findSome? (fS s v) with
 | none=>
  rw[xD] at l
  have:v ∉ s:=λq=>by
   obtain⟨k,j,e⟩:=xE.1 q
   have:=l k (wh.2 j)
   unfold fS at this
   rw[wD s k j,vx e.symm] at this
   cases this
  rw[v6 this];rfl
 | some r=>
  obtain⟨k,j,e⟩:=xF l
  unfold fS at e
  split at e
  ·rename_i q
   cases e
   have:v∈s:=by rw[q];exact BL (wh.1 j)
   rw[vz this]
   show some (decide (0≤(k:Int)))=_
   rw[vz (ym k)]
  ·cases e
def ek:List (List UInt8):=[[98,111,108,100],[105,116,97,108,105,99],[117,110,100,101,114],[115,116,114,105,107,101],[102,105,120,101,100],[114,97,105,115,101],[115,105,122,101],[99,111,108,111,117,114],[108,97,110,103],[115,116,121,108,101]]
def Jc(n:List UInt8):Bool:=decide (n∈ek)
theorem uc n:P5 n=some (Jc n):=by
 unfold P5
 rw[im _ _ (by decide)];rfl
theorem jK n:P0 n=some (Jc n):=by
 unfold P0 Jc ek
 simp only[wM,yx,zZ]
 by_cases j:n=[98,111,108,100]
 ·subst j;rfl
 by_cases l:n=[105,116,97,108,105,99]
 ·subst l;rfl
 by_cases q:n=[117,110,100,101,114]
 ·subst q;rfl
 by_cases u:n=[115,116,114,105,107,101]
 ·subst u;rfl
 by_cases w:n=[102,105,120,101,100]
 ·subst w;rfl
 by_cases A:n=[114,97,105,115,101]
 ·subst A;rfl
 by_cases B:n=[115,105,122,101]
 ·subst B;rfl
 by_cases C:n=[99,111,108,111,117,114]
 ·subst C;rfl
 by_cases E:n=[108,97,110,103]
 ·subst E;rfl
 rw[ne (by simpa using j),ne (by simpa using l),ne (by simpa using q),ne (by simpa using u),ne (by simpa using w),ne (by simpa using A),ne (by simpa using B),ne (by simpa using C),ne (by simpa using E),AE]
 simp only[j,l,q,u,w,A,B,C,E,zX]
 cases decide (n=[115,116,121,108,101])<;>rfl
def NB:List UInt8:=[114,101,109,97,114,107,46]
def TY:List UInt8:=[109,97,114,107,46]
def shr(n:List UInt8):Bool:=(((n=[108,105,110,107])||(n=[108,111,99,107]))||((7<(n.length:Int))&&(n.take 7=NB)))||((5<(n.length:Int))&&(n.take 5=TY))
theorem eQ(n:List UInt8):Mx n=some (shr n):=by
 unfold Mx shr
 cases hA:((n=[108,105,110,107])||(n=[108,111,99,107])) with
 | true=>rfl
 | false=>
  by_cases l:(7:Int)<n.length
  ·rw[vz l]
   show(AB (CV n 0 7) λw=>_)=_
   rw[Rk n 7 (by omega) (by omega),AE]
   have u:(7:Int).toNat=7:=rfl
   rw[u]
   show(AB (gd ((((false||(true&&(n.take 7=NB)))==false))&&(decide (5<(n.length:Int))==true)) (CV n 0 5)) λj=>some ((false||(true&&(n.take 7=NB)))||((5<(n.length:Int))&&(j=TY))))=_
   cases hB:decide (n.take 7=NB) with
   | true=>rfl
   | false=>
    rw[vz (show(5:Int)<n.length by omega)]
    show(AB (CV n 0 5) λj=>_)=_
    rw[Rk n 5 (by omega) (by omega),AE]
    rfl
  ·rw[v6 l]
   show(AB (gd (decide (5<(n.length:Int))==true) (CV n 0 5)) λj=>some (false||((5<(n.length:Int))&&(j=TY))))=_
   by_cases q:(5:Int)<n.length
   ·rw[vz q]
    show(AB (CV n 0 5) λj=>_)=_
    rw[Rk n 5 (by omega) (by omega),AE]
    rfl
   ·rw[v6 q];rfl
theorem ge(n w:List UInt8):NU n w=some (((w.length:Int)<(n.length:Int))&&(n.take w.length=w)):=by
 unfold NU
 by_cases h:(w.length:Int)<(n.length:Int)
 ·rw[vz h]
  show(AB (CV n 0 (w.length:Int)) λj=>_)=_
  rw[Rk n w.length (by omega) (by omega),AE]
  rfl
 ·rw[v6 h];rfl
theorem dG(n:List UInt8):Mz n=some (shr n):=by
 unfold Mz shr
 rw[ge,ge]
 cases hA:((n=[108,105,110,107])||(n=[108,111,99,107])) with
 | true=>rfl
 | false=>
  show(AB (some (((7:Int)<(n.length:Int))&&(n.take 7=NB))) λj=>AB (gd ((false||j)==false) (some (((5:Int)<(n.length:Int))&&(n.take 5=TY)))) λl=>some ((false||j)||l))=_
  rw[AE]
  cases (((7:Int)<(n.length:Int))&&(n.take 7=NB))<;>rfl
theorem Ie{α β ρ σ:Type}[Inhabited α]{f}(l:List α)(mk:Nat→β→σ)(j:β→α→β)(u:β→ρ)(I:β→Nat→Prop)(A:∀b k, k<l.length→I b k→I (j b l[k]!) (k+1))
 (B:∀b (k:Nat), k<l.length→I b k→f (mk k b)=some (.inl (mk (k+1) (j b l[k]!)))) (C:∀b, I b l.length→f (mk l.length b)=some (.inr (u b))) (b0:β) (E:I b0 0):iter f (mk 0 b0)=some (u (l.foldl j b0)) := by
  have key:∀(m k:Nat) (b:β), k+m=l.length→I b k→iter f (mk k b)=some (u ((l.drop k).foldl j b)) := by
    intro m
    induction m with
    | zero =>
      intro k b F w
      have:k=l.length := by omega
      subst this
      rw[B3 (C b w)];simp
    | succ m J =>
      intro k b F w
      have q:k<l.length := by omega
      rw[DM (B b k q w), J (k+1) _ (by omega) (A b k q w), xr q, wg, wD l k q]
  have := key l.length 0 b0 (by omega) E
  simpa using this
theorem qy{o}{a:AC}(h:∀e∈o,A1 e.Name a.Name=true):Cu o a=o++[a]:=by
 induction o with
 | nil=>rfl
 | cons x o l=>
  have j:=h x (v8 ..)
  rw[Cu,ne (Ne.symm (Ez j)),vx j,l λe q=>h e (wC _ q)]
  rfl
def Dz(p:AC→Bool)(o:List AC)(x:AC):List AC:=if p x then Cu o x else o
def Ji(p:AC→Bool)(o:List AC)(x:AC):List AC:=if p x then o++[x] else o
theorem XV p:∀(l o:List AC),l.foldl (Ji p) o=o++l.filter p
 | [],o=>by simp
 | x::l,o=>by
  rw[wg,XV p l,List.filter_cons]
  unfold Ji
  cases p x<;>simp
theorem Sj p:∀(l o:List AC),Bc l→(∀e∈o,∀x∈l,A1 e.Name x.Name=true)→l.foldl (Dz p) o=o++l.filter p
 | [],o,_,_=>by simp
 | x::l,o,A,u=>by
  have w:=EO.1 A
  rw[wg,List.filter_cons]
  cases hp:p x with
  | false=>
   rw[show Dz p o x=o by unfold Dz;rw[hp];rfl,ne (by decide)]
   exact Sj p l o w.2 λe j y q=>u e j y (wC _ q)
  | true=>
   rw[show Dz p o x=o++[x] by unfold Dz;rw[hp,vx rfl,qy λe j=>u e j x (v8 ..)],vx rfl]
   rw[Sj p l _ w.2 λe j y q=>by
    rcases wn.1 j with j | j
    ·exact u e j y (wC _ q)
    ·rw[wv] at j;subst j;exact w.1 y q]
   simp
theorem bT{l:List AC}{j} p(h:Am l j=0):Am (l.filter p) j=0:=by
 obtain⟨q,u⟩:=(Ew l j).1 h
 exact(Ew _ _).2 ⟨q.filter _,λe w=>u e (yn.1 w).1⟩
theorem YX{l}{j}{a}(h:Am l j=0)(u:VA j a):Am (Cu l a) j=0:=by
 obtain⟨w,A⟩:=(Ew l j).1 h
 exact(Ew _ _).2 ⟨OL a w,λe q=>by rcases eB q with rfl | q;exact u;exact A e q⟩
theorem td{a}(l:VA false a):Am [a] true=0:=(Ew _ _).2 ⟨by simp[Bc],λe j=>by rw[wv] at j;subst j;exact l.up⟩
theorem vg{a:AC}(h:Am [a] false=0):a.Value≠[]:=(EN h).2.2 rfl a (wv.2 rfl)
theorem kw{l}{a:AC}(h:Am l false=0)(q:VA false a):F3 l [a]=Cu l a:=by
 have u:=td q
 have A:a.Value≠[]:=vg ((Ew _ _).2 ⟨by simp[Bc],λe w=>by rw[wv] at w;subst w;exact q⟩)
 obtain⟨B,C⟩:=Q7 Sq SQ (EN h).1 (EN u).1 (EN h).2.1 (EN u).2.1
 refine Qi B (OL a (EN h).1) λn=>?_
 rw[show Ar (F3 l [a]) n=GZ (Ar l n) (Ar [a] n) from C n,Ss]
 by_cases j:a.Name=n
 ·rw[vx j]
  unfold Ar
  rw[vx j]
  unfold GZ
  simp[A]
 ·rw[ne j]
  rw[show Ar [a] n=none by unfold Ar;rw[ne j];rfl]
  rfl
def Dv(l r:AD):AD:=if l.Char=10 then r else l
def GA(l r:AD):List AC:=if(Dv l r).Char=10 then [] else(Dv l r).Attrs.filter λa=>Jc a.Name
def M5(r:AD)(a:AC):Bool:=shr a.Name&&(DU r.Attrs a.Name=a.Value)
def Nd(l r:AD):List AC:=l.Attrs.foldl (Dz (M5 r)) (GA l r)
theorem Ym p:∀(l o:List AC),Am o false=0→(∀e∈l,VA false e)→Am (l.foldl (Dz p) o) false=0∧(l.foldl (Dz p) o).length≤o.length+l.length
 | [],o,h,_=>⟨h,by simp⟩
 | x::l,o,h,j=>by
  have q:=j x (v8 ..)
  have u:Am (Dz p o x) false=0∧(Dz p o x).length≤o.length+1:=by
   unfold Dz
   split
   ·exact⟨YX h q,KO o x⟩
   ·exact⟨h,by omega⟩
  obtain⟨w,B⟩:=Ym p l _ u.1 λe A=>j e (wC _ A)
  rw[wg,wK]
  exact⟨w,by omega⟩
theorem Wm{l r:AD}(j:Am l.Attrs false=0)(q:Am r.Attrs false=0){m}(u:l.Attrs.length≤m)(w:r.Attrs.length≤m):Am (GA l r) false=0∧(GA l r).length≤m:=by
 unfold GA
 split
 ·exact⟨by decide,by simp⟩
 ·have:Am (Dv l r).Attrs false=0∧(Dv l r).Attrs.length≤m:=by unfold Dv;split;exact⟨q,w⟩;exact⟨j,u⟩
  exact⟨bT _ this.1,w0 (yY _ _) this.2⟩
theorem nZ{l r:AD}(j:Am l.Attrs false=0)(q:Am r.Attrs false=0){m}(u:l.Attrs.length≤m)(w:r.Attrs.length≤m):Am (Nd l r) false=0∧(Nd l r).length≤m+m:=by
 obtain⟨A,C⟩:=Wm j q u w
 obtain⟨B,E⟩:=Ym (M5 r) l.Attrs (GA l r) A ((Ew _ _).1 j).2
 exact⟨B,by unfold Nd;omega⟩
theorem en{o:List AC}{x}(h:o.length+1≤1099511627776):app 32 o [x]=some (o++[x]):=Hl (by omega)
theorem nB{l r}(q:(Dv l r).Attrs.length≤1048576){α:Type}(F:List AC→Option α) :
  (AB (if(!((Dv l r).Char=10)) then(Ao (iter (λ(a:Int × (List AC))=>LX (Dv l r) a.1 a.2) (0,[])) λ(w:Unit)=>none) else some []) F)=F (GA l r):=by
 unfold GA
 by_cases h:(Dv l r).Char=10
 ·rw[ne (CI h),vx h];rfl
 ·rw[vx (BX h),ne h]
  generalize Dv l r=e at q
  have:=Ie (f:=λ(a:Int × (List AC))=>LX e a.1 a.2) e.Attrs (λk o=>((k:Int),o)) (Ji λa=>Jc a.Name) (λo=>(.ext o:An Unit (List AC))) (λo k=>o.length≤k)
   (λb k j q=>by unfold Ji;split;simp;omega;omega) (λo k j u=>by
    dsimp only
    unfold LX Ji
    dsimp only
    rw[vx (by simpa using j),AR j,AE,uc,AE]
    by_cases hp:Jc e.Attrs[k]!.Name=true
    ·rw[vx hp,vx hp,en (by omega),AE,AE,Aa (by omega)];rfl
    ·rw[ne hp,ne hp,AE,Aa (by omega)];rfl) (λo u=>by
    dsimp only
    unfold LX
    rw[ne (by simp)]) [] (by simp)
  rw[show((0:Nat):Int)=0 from rfl] at this
  rw[this,XV]
  rfl
theorem nT{l r}(u:Am (Dv l r).Attrs false=0)(j:(Dv l r).Attrs.length≤1048576){α:Type}(F:List AC→Option α) :
  (AB (if(!((Dv l r).Char=10)) then(Ao (iter (λ(a:(List AC) × Int)=>Lp (Dv l r) a.1 a.2) ([],0)) λ(B:Unit)=>none) else some []) F)=F (GA l r):=by
 unfold GA
 by_cases h:(Dv l r).Char=10
 ·rw[ne (CI h),vx h];rfl
 ·rw[vx (BX h),ne h]
  generalize Dv l r=e at j u
  obtain⟨A,C⟩:=(Ew _ _).1 u
  have:=Ie (f:=λ(a:(List AC) × Int)=>Lp e a.1 a.2) e.Attrs (λk o=>(o,(k:Int))) (Dz λa=>Jc a.Name) (λo=>(.ext o:An Unit (List AC))) (λo k=>o.length≤k∧Bc o)
   (λb k q j=>by
    unfold Dz
    split
    ·exact⟨by have:=KO b e.Attrs[k]!;omega,OL _ j.2⟩
    ·exact⟨by omega,j.2⟩) (λo k q w=>by
    dsimp only
    unfold Lp Dz
    dsimp only
    rw[vx (by simpa using q),AR q,AE,jK,AE]
    by_cases hp:Jc e.Attrs[k]!.Name=true
    ·rw[vx hp,vx hp,SH _ _ w.2 (by omega),AE,AE,Aa (by omega)];rfl
    ·rw[ne hp,ne hp,AE,Aa (by omega)];rfl) (λo w=>by
    dsimp only
    unfold Lp
    rw[ne (by simp)]) [] ⟨by simp,by simp[Bc]⟩
  rw[show((0:Nat):Int)=0 from rfl] at this
  rw[this,Sj _ _ _ A (by simp)]
  rfl
theorem nD{l r:AD}{k}(C:0<k∨l.Attrs=[])(u:Am l.Attrs false=0)(E:Am r.Attrs false=0)(F:l.Attrs.length≤1048576)(I:r.Attrs.length≤1048576) :
  iter (λ(a:(List AC) × Int)=>LI k l r a.1 a.2) (GA l r,0)=some (Nd l r):=by
 obtain⟨J,T⟩:=Wm u E F I
 obtain⟨U,w⟩:=(Ew _ _).1 u
 have:=Ie (f:=λ(a:(List AC) × Int)=>LI k l r a.1 a.2) l.Attrs (λk o=>(o,(k:Int))) (Dz (M5 r)) (λo=>o) (λo k=>o.length≤1048576+k∧Am o false=0)
  (λb j q A=>by
   unfold Dz
   split
   ·exact⟨by have:=KO b l.Attrs[j]!;omega,YX A.2 (w _ (BL q))⟩
   ·exact⟨by omega,A.2⟩) (λo j q B=>by
   dsimp only
   have M:0<k:=by
    rcases C with h | h
    ·exact h
    ·rw[h] at q;simp at q
   have O:=w _ (BL q)
   unfold LI Dz M5
   rw[vx (by simpa using q),AR q,AE,eQ,AE,vz M,zf]
   cases shr l.Attrs[j]!.Name with
   | true=>
    show AB (AB (G9 r.Attrs l.Attrs[j]!.Name) _) _=_
    rw[RE _ _ (by omega),AE]
    by_cases e:DU r.Attrs l.Attrs[j]!.Name=l.Attrs[j]!.Value
    ·rw[vx (by simpa using e),WL _ _ (by simp;omega),AE,AE,Aa (by omega),vx (by simpa using e),AE]
     show some (Sum.inl (F3 o [l.Attrs[j]!],_))=_
     rw[kw B.2 O]
    ·rw[ne (by simpa using e),AE,Aa (by omega),ne (by simpa using e)];rfl
   | false=>
    show AB (AB (some default) _) _=_
    rw[AE,ne (by simp),AE,Aa (by omega),ne (by simp)];rfl) (λo B=>by
   dsimp only
   unfold LI
   rw[ne (by simp)]) (GA l r) ⟨by omega,J⟩
 exact this
theorem lg{l r:AD}(u:Am l.Attrs false=0)(B:Am r.Attrs false=0)(C:l.Attrs.length≤1048576)(E:r.Attrs.length≤1048576) :
  iter (λ(a:(List AC) × Int)=>Ly l r a.1 a.2) (GA l r,0)=some (.ext (Nd l r)):=by
 obtain⟨F,J⟩:=Wm u B C E
 obtain⟨M,I⟩:=(Ew _ _).1 u
 have:=Ie (f:=λ(a:(List AC) × Int)=>Ly l r a.1 a.2) l.Attrs (λk o=>(o,(k:Int))) (Dz (M5 r)) (λo=>(.ext o:An Unit (List AC))) (λo k=>o.length≤1048576+k∧Am o false=0)
  (λb j q w=>by
   unfold Dz
   split
   ·exact⟨by have:=KO b l.Attrs[j]!;omega,YX w.2 (I _ (BL q))⟩
   ·exact⟨by omega,w.2⟩) (λo j q A=>by
   dsimp only
   unfold Ly Dz M5
   rw[vx (by simpa using q),AR q,AE,dG,AE]
   cases shr l.Attrs[j]!.Name with
   | true=>
    show AB (AB (Ia r.Attrs l.Attrs[j]!.Name) _) _=_
    rw[Vw _ _ (by omega),AE]
    by_cases e:DU r.Attrs l.Attrs[j]!.Name=l.Attrs[j]!.Value
    ·rw[vx (by simpa using e),SH _ _ (EN A.2).1 (by omega),AE,AE,Aa (by omega),vx (by simpa using e)];rfl
    ·rw[ne (by simpa using e),AE,Aa (by omega),ne (by simpa using e)];rfl
   | false=>
    show AB (AB (some default) _) _=_
    rw[AE,ne (by simp),AE,Aa (by omega),ne (by simp)];rfl) (λo A=>by
   dsimp only
   unfold Ly
   rw[ne (by simp)]) (GA l r) ⟨by omega,F⟩
 exact this
end Go.Proofs.YtdafahjmopdleaaGreatDoor.Al
