/- Plain laws over the models, a part of them. -/
import Derived.Test.YtgcalnmhoifpoaaGreatDoorMod1
import Derived.Lib.DecodeNEq
import Derived.Lib.TrimUEq
import Derived.Lib.ValidLaws
set_option linter.all false
namespace Go.Proofs.YtgcalnmhoifpoaaGreatDoor.Al
@[simp] theorem AE{a α:Type}(x:a)(f:a→Option α):AB (some x) f=f x:=rfl
@[simp] theorem CB{a b α:Type}(x:a)(y:b)(f:a→b→Option α):CR (some (x,y)) f=f x y:=rfl
@[simp] theorem OL{a b c α:Type}(x:a)(y:b)(z:c)(f:a→b→c→Option α):HH (some (x,y,z)) f=f x y z:=rfl
@[simp] theorem vd{a b c d α:Type}(x:a)(y:b)(z:c)(u:d)(f:a→b→c→d→Option α):qW (some (x,y,z,u)) f=f x y z u:=rfl
@[simp] theorem Gs{a α:Type}(x:a)(f:a→Option α):At (some (.nrm x)) f=f x:=rfl
@[simp] theorem Xw{a α:Type}(t:α)(f:a→Option α):At (some (.ext t)) f=some t:=rfl
@[simp] theorem Fm{a b α:Type}(x:a)(y:b)(f:a→b→Option α):E1 (some (.nrm (x,y))) f=f x y:=rfl
@[simp] theorem va{a b α:Type}(t:α)(f:a→b→Option α):E1 (some (.ext t)) f=some t:=rfl
@[simp] theorem vW{a b c α:Type}(x:a)(y:b)(z:c)(f:a→b→c→Option α):fP (some (.nrm (x,y,z))) f=f x y z:=rfl
@[simp] theorem vX{a b c α:Type}(t:α)(f:a→b→c→Option α):fP (some (.ext t)) f=some t:=rfl
@[simp] theorem An{α:Type}[Inhabited α](m:Option α):gd true m=m:=rfl
@[simp] theorem Fa{α:Type}[Inhabited α](m:Option α):gd false m=some default:=rfl
theorem Aa{α:Type}[Inhabited α]{l:List α}{k}(h:k<l.length):AM l (k:Int)=some l[k]!:=by
 unfold AM
 rw[vh (yw k),wd,vo h,vr l k h]
theorem Ad{k:Nat}(h:k<9223372036854775807):AN .i64 ((k:Int)+1)=some (((k+1:Nat)):Int):=by
 rw[Bz (by omega) (by omega)];rfl
theorem FH{k:Nat}(h:0<k)(j:k≤9223372036854775807):AN .i64 ((k:Int)-1)=some ((k-1:Nat):Int):=by
 rw[Bz (by omega) (by omega)];congr 1;omega
def Cg{ρ:Type}(k:Nat):Option ρ→Option (Int ⊕ Au Unit ρ)
 | none=>some (.inl ((k+1:Nat):Int))
 | some r=>some (.inr (.ext r))
def Fk{ρ:Type} : Option ρ→Au Unit ρ
 | none=>.nrm ()
 | some r=>.ext r
theorem Cb{ρ:Type}{f}{n}(g:Nat→Option ρ)(j:∀k:Nat, k<n→f k=Cg k (g k))
 (l:f n=some (.inr (.nrm ()))):iter f 0=some (Fk ((List.range n).findSome? g)) := by
  have key:∀m k:Nat, k+m=n→iter f (k:Int)=some (Fk ((List.range' k m).findSome? g)) := by
    intro m
    induction m with
    | zero =>
      intro k q
      obtain rfl:k=n := by omega
      rw[Cv l];rfl
    | succ m u =>
      intro k q
      rw[zi, xP]
      have := j k (by omega)
      cases hg:g k with
      | none => rw[hg] at this;rw[Dx this, u (k+1) (by omega)]
      | some r => rw[hg] at this;rw[Cv this];rfl
  rw[yj]
  exact key n 0 (by omega)
theorem cR{α ρ:Type}{l:List α}{g h:α→Option ρ}(e:∀x∈l,g x=h x):l.findSome? g=l.findSome? h:=by
 induction l with
 | nil=>rfl
 | cons a l j=>rw[xP,xP,e a (vn ..),j λx q=>e x (vp _ q)]
theorem Ua{α ρ:Type}[Inhabited α](l:List α)(p:α→Bool)(r:ρ):(List.range l.length).findSome? (λk=>if p l[k]! then none else some r)=if l.all p then none else some r:=by
 induction l with
 | nil=>rfl
 | cons a l j=>
  rw[v6,List.range_succ_eq_map,xP,List.findSome?_map]
  have q:(List.range l.length).findSome? ((λk=>if p (a::l)[k]! = true then none else some r) ∘ Nat.succ)=if l.all p=true then none else some r:=by
   rw[← j];exact cR λk _=>by simp
  rw[q]
  by_cases hp:p a=true
  ·simp[hp]
  ·simp[hp]
theorem E9{ρ:Type}(o:Option ρ)(f:Unit→Option ρ):At (some (Fk o)) f=match o with | none=>f () | some r=>some r:=by cases o<;>rfl
def GZ(c:UInt8):Bool:=((97≤c.toNat)&&(c.toNat≤122))||((48≤c.toNat)&&(c.toNat≤57))||(c.toNat=46)||(c.toNat=45)
def ER(s:List UInt8):Bool:=(1≤s.length)&&(s.length≤24)&&((97≤s[0]!.toNat)&&(s[0]!.toNat≤122))&&s.all GZ
def G6(c:UInt8):Bool:=(32≤c.toNat)&&(c.toNat≤126)
def Di(s:List UInt8):Bool:=(1≤s.length)&&(s.length≤200)&&s.all G6
theorem jO(s:List UInt8) k(j:k<s.length)(l:s.length≤9223372036854775807):NM s k=Cg k (if GZ s[k]! then none else some false):=by
 unfold NM
 rw[vh (by simpa using j),Aa j,AE,Ad (by omega)]
 generalize s[k]! = c
 have e:((((((c.toNat:Int)<97)||(122<(c.toNat:Int)))&&(((c.toNat:Int)<48)||(57<(c.toNat:Int))))&&(!((c.toNat:Int)=46)))&&(!((c.toNat:Int)=45)))=!GZ c:=by
  unfold GZ
  rw[wc]
  simp only[vt,vm,vi,wl,xR,Bool.or_eq_false_iff,yL]
  omega
 rw[e]
 cases GZ c<;>rfl
theorem gR(s:List UInt8)(B:s.length≤9223372036854775807):Lk s=some (ER s):=by
 unfold Lk
 rw[Cb (n:=s.length) (λk=>if GZ s[k]! then none else some false) (λk C=>jO s k C B) (by unfold NM;rw[vg (by simp)]),Ua]
 unfold ER
 cases s with
 | nil=>simp
 | cons c t=>
  have E:AM (c::t) 0=some c:=rfl
  rw[E]
  simp only[List.getElem!_cons_zero,vk (yk c t),xW]
  generalize (c::t).all GZ=F
  generalize I:(c::t).length=L
  have J:1≤L:=by rw[← I];simp
  by_cases u:24<(L:Int)
  ·have j:decide (L≤24)=false:=by simp;omega
   simp[u,j]
  ·rw[vk u]
   simp only[xW,xh,An,AE]
   have j:decide (L≤24)=true:=by simp;omega
   have e2:decide (1≤L)=true:=by simp;omega
   rw[j,e2]
   by_cases w:(c.toNat:Int)<97
   ·have l:decide (97≤c.toNat)=false:=by simp;omega
    simp[w,l]
   ·rw[vk w]
    have l:decide (97≤c.toNat)=true:=by simp;omega
    simp only[xh,An,AE,xW]
    by_cases A:122<(c.toNat:Int)
    ·have q:decide (c.toNat≤122)=false:=by simp;omega
     simp[A,q]
    ·have q:decide (c.toNat≤122)=true:=by simp;omega
     rw[vg (by simpa using A),E9,l,q]
     cases F<;>rfl
def HR(k:Nat)(c:UInt8):Bool:=((97≤c.toNat)&&(c.toNat≤122))||((k≠0)&&GZ c)
theorem p7(s:List UInt8) k(j:k<s.length)(l:s.length≤9223372036854775807) :
  Mo s k=Cg k (if HR k s[k]! then none else some false):=by
 unfold Mo
 rw[vh (by simpa using j),Aa j,AE,Ad (by omega)]
 generalize s[k]! = c
 have e:((!((97≤(c.toNat:Int))&&((c.toNat:Int)≤122)))&&(((k:Int)=0)||(((!((c.toNat:Int)=46))&&(!((c.toNat:Int)=45)))&&(((c.toNat:Int)<48)||(57<(c.toNat:Int))))))=!HR k c:=by
  unfold HR GZ
  rw[wc]
  simp only[vt,vm,vi,wl,xR,Bool.or_eq_false_iff,yL]
  omega
 rw[e]
 cases HR k c<;>rfl
theorem Zy{ρ:Type}(n:Nat)(g:Nat→Option ρ):(List.range n).findSome? g=none↔∀k,k<n→g k=none:=by
 rw[wx];simp
theorem rA{α:Type}[Inhabited α](l:List α)(p:α→Bool):l.all p=true↔∀k,k<l.length→p l[k]! = true:=by
 rw[wI]
 constructor
 ·intro h k j;rw[vr l k j];exact h _ (xr j)
 ·intro h x q
  obtain⟨k,j,rfl⟩:=ww.1 q
  rw[← vr l k j];exact h k j
theorem Ky{ρ:Type} n p(r:ρ):(List.range n).findSome? (λk=>if p k then none else some r)=if(List.range n).all p then none else some r:=by
 generalize List.range n=l
 induction l with
 | nil=>rfl
 | cons a l j=>rw[xP,zE,];by_cases h:p a=true<;>simp[h,j]
theorem bA(s:List UInt8)(u:s.length≤9223372036854775807):MA s=some (ER s):=by
 unfold MA
 rw[Cb (n:=s.length) (λk=>if HR k s[k]! then none else some false) (λk j=>p7 s k j u) (by unfold Mo;rw[vg (by simp)]),Ky,E9]
 have key:((List.range s.length).all λk=>HR k s[k]!)=((s=[])||(((97≤s[0]!.toNat)&&(s[0]!.toNat≤122))&&s.all GZ)):=by
  rw[wc,wI]
  simp only[wU,vt,vi,vm,rA]
  constructor
  ·intro h
   cases q:s with
   | nil=>exact .inl rfl
   | cons c t=>
    rw[← q]
    have w:0<s.length:=by rw[q];simp
    have A:=h 0 w
    simp only[HR,vt,vm,vi] at A
    refine .inr ⟨by omega,λk j=>?_⟩
    have:=h k j
    simp only[HR,GZ,vt,vm,vi] at this ⊢
    omega
  ·rintro(rfl | ⟨I,B⟩) k j
   ·cases j
   ·have:=B k j
    by_cases l:k=0
    ·subst l;simp only[HR,vt,vm,vi];omega
    ·simp only[HR,vt,vm,vi];exact .inr ⟨l,this⟩
 rw[key]
 unfold ER
 cases s with
 | nil=>rfl
 | cons c t=>
  rw[vk (yk c t),xW]
  generalize (c::t).all GZ=C
  generalize ((97≤(c::t)[0]!.toNat)&&((c::t)[0]!.toNat≤122))=E
  have F:decide (1≤((c::t).length:Int))=decide (1≤(c::t).length):=by simp;omega
  have e2:decide (((c::t).length:Int)≤24)=decide ((c::t).length≤24):=by simp;omega
  rw[F,e2]
  cases E<;>cases C<;>simp
theorem V6(s:List UInt8)(A:s.length≤9223372036854775807):JS s=some (Di s):=by
 unfold JS Di
 rw[Cb (n:=s.length) (λk=>if G6 s[k]! then none else some false) (λk l=>by
  unfold PM
  rw[vh (by simpa using l),Aa l,AE,Ad (by omega)]
  generalize s[k]! = c
  have e:(((c.toNat:Int)<32)||(126<(c.toNat:Int)))=!G6 c:=by
   unfold G6
   rw[wc]
   simp only[vt,vm,vi,wl,xR,yL]
   omega
  rw[e]
  cases G6 c<;>rfl) (by unfold PM;rw[vg (by simp)]),Ua,E9]
 generalize s.all G6=u
 cases s with
 | nil=>simp
 | cons c t=>
  rw[vk (yk c t),xW]
  generalize w:(c::t).length=L
  have B:1≤L:=by rw[← w];simp
  by_cases q:200<(L:Int)
  ·have j:decide (L≤200)=false:=by simp;omega
   simp[q,j]
  ·have j:decide (L≤200)=true:=by simp;omega
   have e2:decide (1≤L)=true:=by simp;omega
   rw[vg (by simpa using q),j,e2]
   cases u<;>rfl
theorem Th(s:List UInt8)(u:s.length≤9223372036854775807):J9 s=some (Di s):=by
 unfold J9 Di
 rw[Cb (n:=s.length) (λk=>if G6 s[k]! then none else some false) (λk j=>by
  unfold P2
  rw[vh (by simpa using j),Aa j,AE,Ad (by omega)]
  generalize s[k]! = c
  have e:(((c.toNat:Int)<32)||(126<(c.toNat:Int)))=!G6 c:=by
   unfold G6
   rw[wc]
   simp only[vt,vm,vi,wl,xR,yL]
   omega
  rw[e]
  cases G6 c<;>rfl) (by unfold P2;rw[vg (by simp)]),Ua,E9]
 generalize s.all G6=l
 have q:decide (1≤(s.length:Int))=decide (1≤s.length):=by simp;omega
 have e2:decide ((s.length:Int)≤200)=decide (s.length≤200):=by simp;omega
 rw[q,e2]
 cases l<;>simp
theorem XH a b x y:Ay (a::x) (b::y)=((a<b)||(a==b&&Ay x y)):=rfl
theorem M4:∀(a b:List UInt8),(Ay a b||(a=b))=!Ay b a
 | [],[]=>rfl
 | [],_::_=>rfl
 | _::_,[]=>rfl
 | a::x,b::y=>by
  rw[XH,XH]
  have l:=M4 x y
  by_cases h:a=b
  ·subst h
   have q:¬ a<a:=λh=>by simp[yg] at h
   simp only[vk q,xh,wy,xW,yv,zH]
   exact l
  ·have u:(a==b)=false:=by simpa using h
   have w:(b==a)=false:=by simpa using λe:b=a=>h e.symm
   have A:¬ (a::x=b::y):=λe=>h (List.cons.inj e).1
   rw[u,w,vk A]
   simp only[yM,Bool.or_false]
   have B:a.toNat≠b.toNat:=λe=>h (UInt8.toNat_inj.1 e)
   by_cases j:a<b
   ·have:¬ b<a:=by rw[yg] at j ⊢;omega
    simp[j,this]
   ·have:b<a:=by rw[yg] at j ⊢;omega
    simp[j,this]
theorem WB a:Ay a a=false:=by
 have:=M4 a a
 cases h:Ay a a
 ·rfl
 ·rw[h] at this;simp at this
def G0(l:List AC):Prop:=∀a∈l,a.Name.length≤9223372036854775807∧a.Value.length≤9223372036854775807
def Eh(l:List AC)(j:Bool)(k:Nat):Option Int:=
 if ER l[k]!.Name=false then some 9 else if Di l[k]!.Value=false∧¬ (j=true∧l[k]!.Value=[]) then some 23 else if 0<k∧Ay l[k-1]!.Name l[k]!.Name=false then some 5 else none
def BC(l:List AC)(j:Bool):Int:=((List.range l.length).findSome? (Eh l j)).getD 0
theorem G0.at{l:List AC}(h:G0 l){k}(j:k<l.length):l[k]!.Name.length≤9223372036854775807∧l[k]!.Value.length≤9223372036854775807:=by
 rw[vr l k j];exact h _ (xr j)
theorem sO(l:List AC) u(h:G0 l)(E:l.length≤9223372036854775807) k(A:k<l.length):Me l u k=Cg k (Eh l u k):=by
 unfold Me Eh
 obtain⟨j,q⟩:=h.at A
 rw[vh (by simpa using A),Aa A,AE]
 generalize l[k]! = x at j q ⊢
 rw[gR _ j,AE]
 cases ER x.Name
 ·rfl
 rw[vg (by decide),vg (by decide),V6 _ q,AE,Ad (by omega)]
 by_cases w:Di x.Value=false∧¬ (u=true∧x.Value=[])
 ·rw[vh w,vh (by simp[w.1];cases u<;>simp_all)];rfl
 rw[vg w,vg (by intro e;simp at e;exact w ⟨e.1,by rintro⟨a,b⟩;simp[a,b] at e⟩)]
 by_cases B:k=0
 ·subst B;rfl
 ·have C:decide ((0:Int)<(k:Int))=true:=by simp;omega
  rw[C,FH (by omega) (by omega)]
  simp only[xh,An,AE,wy]
  rw[Aa (by omega),AE,M4]
  have:(0<k∧Ay l[k-1]!.Name x.Name=false)↔Ay l[k-1]!.Name x.Name=false:=by constructor;exact λh=>h.2;exact λh=>⟨by omega,h⟩
  simp only[this]
  cases Ay l[k-1]!.Name x.Name<;>rfl
theorem pq(l:List AC) u(h:G0 l)(E:l.length≤9223372036854775807) k(A:k<l.length):Ld l u k=Cg k (Eh l u k):=by
 unfold Ld Eh
 obtain⟨j,q⟩:=h.at A
 rw[vh (by simpa using A),Aa A,AE]
 generalize l[k]! = x at j q ⊢
 rw[bA _ j,AE]
 cases ER x.Name
 ·rfl
 rw[vg (by decide),vg (by decide),Th _ q,AE,Ad (by omega)]
 by_cases w:Di x.Value=false∧¬ (u=true∧x.Value=[])
 ·rw[vh w,vh (by simp[w.1];cases u<;>simp_all)];rfl
 rw[vg w,vg (by intro e;simp at e;exact w ⟨e.1,by rintro⟨a,b⟩;simp[a,b] at e⟩)]
 by_cases B:k=0
 ·subst B;rfl
 ·have C:decide ((0:Int)<(k:Int))=true:=by simp;omega
  rw[C,FH (by omega) (by omega)]
  simp only[xh,An,AE,wy]
  rw[Aa (by omega),AE]
  have:(0<k∧Ay l[k-1]!.Name x.Name=false)↔Ay l[k-1]!.Name x.Name=false:=by constructor;exact λh=>h.2;exact λh=>⟨by omega,h⟩
  simp only[this]
  cases Ay l[k-1]!.Name x.Name<;>rfl
theorem FC{o:Option Int} : (At (some (Fk o)) λ_:Unit=>some 0)=some (o.getD 0):=by cases o<;>rfl
theorem Yh(l:List AC) j(h:G0 l)(q:l.length≤9223372036854775807):Lb l j=some (BC l j):=by
 unfold Lb
 rw[Cb (n:=l.length) (Eh l j) (λk u=>sO l j h q k u) (by unfold Me;rw[vg (by simp)]),FC];rfl
theorem Rx(l:List AC) j(h:G0 l)(q:l.length≤9223372036854775807):Iv l j=some (BC l j):=by
 unfold Iv
 rw[Cb (n:=l.length) (Eh l j) (λk u=>pq l j h q k u) (by unfold Ld;rw[vg (by simp)]),FC];rfl
theorem Rf(l:List AC)(h:G0 l)(j:l.length≤9223372036854775807):Jq l=some (BC l false):=by unfold Jq;rw[Yh l _ h j];rfl
theorem gW(l:List AC)(h:G0 l)(j:l.length≤9223372036854775807):KX l=some (BC l true):=by unfold KX;rw[Yh l _ h j];rfl
def Du(l:List AC)(name:List UInt8):List UInt8:=((List.range l.length).findSome? λk=>if l[k]!.Name=name then some l[k]!.Value else none).getD []
theorem Zl{o:Option (List UInt8)} : (At (some (Fk o)) λ_:Unit=>some [])=some (o.getD []):=by cases o<;>rfl
theorem ST(l:List AC) name(q:l.length≤9223372036854775807):It l name=some (Du l name):=by
 unfold It
 rw[Cb (n:=l.length) (λk=>if l[k]!.Name=name then some l[k]!.Value else none) (λk j=>by
  unfold OZ
  rw[vh (by simpa using j),Aa j,AE,Ad (by omega)]
  generalize l[k]! = x
  by_cases h:x.Name=name<;>simp[h,Cg]) (by unfold OZ;rw[vg (by simp)]),Zl];rfl
theorem fy(l:List AC) name(q:l.length≤9223372036854775807):Ko l name=some (Du l name):=by
 unfold Ko
 rw[Cb (n:=l.length) (λk=>if l[k]!.Name=name then some l[k]!.Value else none) (λk j=>by
  unfold QO
  rw[vh (by simpa using j),Aa j,AE,Ad (by omega)]
  generalize l[k]! = x
  by_cases h:x.Name=name<;>simp[h,Cg]) (by unfold QO;rw[vg (by simp)]),Zl];rfl
def C3:AC:=⟨[],[]⟩
def Bo(j:AC→AC→List AC→List AC):List AC→List AC→List AC→List AC
 | [],[],c=>c
 | x::a,[],c=>Bo j a [] (j x C3 c)
 | [],y::b,c=>Bo j [] b (j C3 y c)
 | x::a,y::b,c=>if Ay x.Name y.Name then Bo j a (y::b) (j x C3 c) else if Ay y.Name x.Name then Bo j (x::a) b (j C3 y c) else Bo j a b (j x y c)
  termination_by a b=>a.length+b.length
def JU(l:AC→AC→List AC→List AC)(a b:List AC)(i j:Nat)(o:List AC):Option ((Int × Int × List AC) ⊕ Au Unit (List AC)):=
 if i<a.length∨j<b.length then
  if j=b.length∨(i<a.length∧Ay a[i]!.Name b[j]!.Name=true) then some (.inl (((i+1:Nat):Int),(j:Int),l a[i]! C3 o))
  else if i=a.length∨Ay b[j]!.Name a[i]!.Name=true then some (.inl ((i:Int),((j+1:Nat):Int),l C3 b[j]! o))
  else some (.inl (((i+1:Nat):Int),((j+1:Nat):Int),l a[i]! b[j]! o))
 else some (.inr (.ext o))
theorem Qt{l:List AC}{i}(h:i<l.length):l.drop i=l[i]!::l.drop (i+1):=by
 rw[xj h,vr l i h]
theorem Um{f} A(a b c:List AC) B(l:∀x y o, (A x y o).length≤o.length+1)
 (U:∀(i j:Nat) (o:List AC), i≤a.length→j≤b.length→o.length+(a.length - i)+(b.length - j)≤B→f (i, j, o)=JU A a b i j o) (hB:c.length+a.length+b.length≤B):iter f (0, 0, c)=some (.ext (Bo A a b c)) := by
  have key:∀(m i j:Nat) (o:List AC), i≤a.length→j≤b.length→(a.length - i)+(b.length - j)=m→o.length+m≤B→iter f ((i:Int), (j:Int), o)=some (.ext (Bo A (a.drop i) (b.drop j) o)) := by
    intro m
    induction m using Nat.strongRecOn with
    | _ m E =>
      intro i j o M O V X
      have q := U i j o M O (by omega)
      unfold JU at q
      by_cases u:i<a.length
      · rw[Qt u]
        by_cases w:j<b.length
        · rw[Qt w]
          rw[vh (.inl u)] at q
          by_cases F:Ay a[i]!.Name b[j]!.Name=true
          · rw[vh (.inr ⟨u, F⟩)] at q
            rw[Dx q, Bo, vh F, ← Qt w]
            exact E (m - 1) (by omega) (i+1) j _ (by omega) O (by omega) (by have := l a[i]! C3 o;omega)
          · rw[vg (by rintro(h | h);omega;exact F h.2)] at q
            by_cases J:Ay b[j]!.Name a[i]!.Name=true
            · rw[vh (.inr J)] at q
              rw[Dx q, Bo, vg F, vh J, ← Qt u]
              exact E (m - 1) (by omega) i (j+1) _ M (by omega) (by omega) (by have := l C3 b[j]! o;omega)
            · rw[vg (by rintro(h | h);omega;exact J h)] at q
              rw[Dx q, Bo, vg F, vg J]
              exact E (m - 2) (by omega) (i+1) (j+1) _ (by omega) (by omega) (by omega) (by have := l a[i]! b[j]! o;omega)
        · have C:j=b.length := by omega
          rw[vh (.inl u), vh (.inl C)] at q
          have hd:b.drop j=[] := by rw[C];simp
          rw[Dx q, hd, Bo, ← hd]
          exact E (m - 1) (by omega) (i+1) j _ (by omega) O (by omega) (by have := l a[i]! C3 o;omega)
      · have I:i=a.length := by omega
        have hd:a.drop i=[] := by rw[I];simp
        by_cases w:j<b.length
        · rw[vh (.inr w), vg (by rintro(h | h);omega;omega), vh (.inl I)] at q
          rw[Qt w, Dx q, hd, Bo, ← hd]
          exact E (m - 1) (by omega) i (j+1) _ M (by omega) (by omega) (by have := l C3 b[j]! o;omega)
        · have C:j=b.length := by omega
          rw[vg (by omega)] at q
          have T:b.drop j=[] := by rw[C];simp
          rw[Cv q, hd, T, Bo]
  exact key _ 0 0 c (xd _) (xd _) rfl (by omega)
theorem H0{o:List AC}{x}(h:o.length+1≤4398046511104):app 32 o [x]=some (o++[x]):=by
 unfold app;rw[vh (by simp;omega)]
def FA(x y:AC)(o:List AC):List AC:=if y.Name=[] then o++[x] else if y.Value=[] then o else o++[y]
def FU(x y:AC)(o:List AC):List AC:=o++[if y.Name=[] then x else y]
def FL(x y:AC)(o:List AC):List AC:=if y.Name=[] then o++[x] else o
theorem U9(x y o):(FA x y o).length≤o.length+1:=by unfold FA;split;simp;split<;>simp
theorem dM(x y o):(FU x y o).length≤o.length+1:=by unfold FU;simp
theorem eg(x y o):(FL x y o).length≤o.length+1:=by unfold FL;split<;>simp
theorem PY(c:List AC)(x y:AC)(h:c.length+1≤4398046511104):Ku c x y=some (FA x y c):=by
 unfold Ku FA
 rw[H0 h,H0 h]
 by_cases j:y.Name=[]<;>by_cases l:y.Value=[]<;>simp[j,l]
theorem gJ(x y:AC):x=y↔x.Name=y.Name∧x.Value=y.Value:=by cases x;cases y;simp
theorem N3(c:List AC)(x y:AC)(h:c.length+1≤4398046511104):Kj c x y=some (FU x y c):=by
 unfold Kj FU
 by_cases j:y.Name=[]<;>simp[j,H0 h]
theorem OT(c:List AC)(x y:AC)(h:c.length+1≤4398046511104):KD c x y=some (FL x y c):=by
 unfold KD FL
 rw[H0 h]
 by_cases j:y.Name=[]<;>simp[j]
theorem jv(a b:List AC) i j(o:List AC)(J:a.length+b.length≤4398046511104)(T:i≤a.length)(U:j≤b.length)(V:o.length+(a.length-i)+(b.length-j)≤4398046511104):P0 a b i j o=JU FA a b i j o:=by
 unfold P0 JU
 by_cases l:i<a.length
 ·rw[vh (by simp;omega),vh (.inl l),Aa l]
  have A:decide ((i:Int)<(a.length:Int))=true:=by simp;omega
  have e2:decide ((i:Int)=(a.length:Int))=false:=by simp;omega
  rw[A,e2]
  by_cases q:j<b.length
  ·have w:decide ((j:Int)=(b.length:Int))=false:=by simp;omega
   rw[w,Aa q]
   simp only[xh,wy,zc,An,AE,xW]
   rw[PY _ _ _ (by omega),PY _ _ _ (by omega),PY _ _ _ (by omega)]
   simp only[AE]
   rw[Ad (by omega),Ad (by omega)]
   simp only[AE]
   have u:¬ j=b.length:=by omega
   have B:¬ i=a.length:=by omega
   simp only[u,B,l,zH,false_or];rfl
  ·have C:j=b.length:=by omega
   have w:decide ((j:Int)=(b.length:Int))=true:=by simp;omega
   rw[w]
   have E:((true==false)&&(true==true))=false:=rfl
   rw[E]
   simp only[Fa,AE,yX]
   rw[vh trivial,vh (.inl C),PY _ _ _ (by omega),AE,Ad (by omega),AE];rfl
 ·have F:i=a.length:=by omega
  have A:decide ((i:Int)<(a.length:Int))=false:=by simp;omega
  have e2:decide ((i:Int)=(a.length:Int))=true:=by simp;omega
  rw[A,e2]
  by_cases q:j<b.length
  ·have w:decide ((j:Int)=(b.length:Int))=false:=by simp;omega
   have I:decide ((j:Int)<(b.length:Int))=true:=by simp;omega
   have u:¬ j=b.length:=by omega
   rw[w,I,vh (by rfl),vh (.inr q),Aa q]
   have E:((false==false)&&(false==true))=false:=rfl
   have M:((true==false))=false:=rfl
   rw[E,M]
   simp only[Fa,AE,xW,yM,yX,xZ,xT,yP]
   have O:¬ (j=b.length∨i<a.length∧Ay a[i]!.Name b[j]!.Name=true):=by
    intro h;rcases h with h | h
    ·exact u h
    ·exact l h.1
   rw[vg O,vh (.inl F),PY _ _ _ (by omega),AE,Ad (by omega),AE];rfl
  ·have I:decide ((j:Int)<(b.length:Int))=false:=by simp;omega
   rw[I,vg (by decide),vg (by omega)]
theorem oT(c a b:List AC)(h:c.length+a.length+b.length≤4398046511104):O5 c a b=some (Bo FA a b c):=by
 unfold O5
 rw[Um FA a b c 4398046511104 U9 (λi j o l q u=>jv a b i j o (by omega) l q u) h];rfl
theorem cA(a b:List AC)(h:a.length+b.length≤4398046511104):Mc a b=some (Bo FA a b []):=by
 unfold Mc;rw[oT [] a b (by simpa using h)];rfl
theorem pr(a b:List AC) i j(o:List AC)(J:a.length+b.length≤4398046511104)(T:i≤a.length)(U:j≤b.length)(V:o.length+(a.length-i)+(b.length-j)≤4398046511104):OU a b i j o=JU FU a b i j o:=by
 unfold OU JU
 by_cases l:i<a.length
 ·rw[vh (by simp;omega),vh (.inl l),Aa l]
  have A:decide ((i:Int)<(a.length:Int))=true:=by simp;omega
  have e2:decide ((i:Int)=(a.length:Int))=false:=by simp;omega
  rw[A,e2]
  by_cases q:j<b.length
  ·have w:decide ((j:Int)=(b.length:Int))=false:=by simp;omega
   rw[w,Aa q]
   simp only[xh,wy,zc,An,AE,xW]
   rw[N3 _ _ _ (by omega),N3 _ _ _ (by omega),N3 _ _ _ (by omega)]
   simp only[AE]
   rw[Ad (by omega),Ad (by omega)]
   simp only[AE]
   have u:¬ j=b.length:=by omega
   have B:¬ i=a.length:=by omega
   simp only[u,B,l,zH,false_or];rfl
  ·have C:j=b.length:=by omega
   have w:decide ((j:Int)=(b.length:Int))=true:=by simp;omega
   rw[w]
   have E:((true==false)&&(true==true))=false:=rfl
   rw[E]
   simp only[Fa,AE,yX]
   rw[vh trivial,vh (.inl C),N3 _ _ _ (by omega),AE,Ad (by omega),AE];rfl
 ·have F:i=a.length:=by omega
  have A:decide ((i:Int)<(a.length:Int))=false:=by simp;omega
  have e2:decide ((i:Int)=(a.length:Int))=true:=by simp;omega
  rw[A,e2]
  by_cases q:j<b.length
  ·have w:decide ((j:Int)=(b.length:Int))=false:=by simp;omega
   have I:decide ((j:Int)<(b.length:Int))=true:=by simp;omega
   have u:¬ j=b.length:=by omega
   rw[w,I,vh (by rfl),vh (.inr q),Aa q]
   have E:((false==false)&&(false==true))=false:=rfl
   have M:((true==false))=false:=rfl
   rw[E,M]
   simp only[Fa,AE,xW,yM,yX,xZ,xT,yP]
   have O:¬ (j=b.length∨i<a.length∧Ay a[i]!.Name b[j]!.Name=true):=by
    intro h;rcases h with h | h
    ·exact u h
    ·exact l h.1
   rw[vg O,vh (.inl F),N3 _ _ _ (by omega),AE,Ad (by omega),AE];rfl
  ·have I:decide ((j:Int)<(b.length:Int))=false:=by simp;omega
   rw[I,vg (by decide),vg (by omega)]
theorem jp(c a b:List AC)(h:c.length+a.length+b.length≤4398046511104):Pa c a b=some (Bo FU a b c):=by
 unfold Pa
 rw[Um FU a b c 4398046511104 dM (λi j o l q u=>pr a b i j o (by omega) l q u) h];rfl
theorem lT(a b:List AC)(h:a.length+b.length≤4398046511104):Pk a b=some (Bo FU a b []):=by
 unfold Pk;rw[jp [] a b (by simpa using h)];rfl
theorem rH(a b:List AC) i j(o:List AC)(J:a.length+b.length≤4398046511104)(T:i≤a.length)(U:j≤b.length)(V:o.length+(a.length-i)+(b.length-j)≤4398046511104):Od a b i j o=JU FL a b i j o:=by
 unfold Od JU
 by_cases l:i<a.length
 ·rw[vh (by simp;omega),vh (.inl l),Aa l]
  have A:decide ((i:Int)<(a.length:Int))=true:=by simp;omega
  have e2:decide ((i:Int)=(a.length:Int))=false:=by simp;omega
  rw[A,e2]
  by_cases q:j<b.length
  ·have w:decide ((j:Int)=(b.length:Int))=false:=by simp;omega
   rw[w,Aa q]
   simp only[xh,wy,zc,An,AE,xW]
   rw[OT _ _ _ (by omega),OT _ _ _ (by omega),OT _ _ _ (by omega)]
   simp only[AE]
   rw[Ad (by omega),Ad (by omega)]
   simp only[AE]
   have u:¬ j=b.length:=by omega
   have B:¬ i=a.length:=by omega
   simp only[u,B,l,zH,false_or];rfl
  ·have C:j=b.length:=by omega
   have w:decide ((j:Int)=(b.length:Int))=true:=by simp;omega
   rw[w]
   have E:((true==false)&&(true==true))=false:=rfl
   rw[E]
   simp only[Fa,AE,yX]
   rw[vh trivial,vh (.inl C),OT _ _ _ (by omega),AE,Ad (by omega),AE];rfl
 ·have F:i=a.length:=by omega
  have A:decide ((i:Int)<(a.length:Int))=false:=by simp;omega
  have e2:decide ((i:Int)=(a.length:Int))=true:=by simp;omega
  rw[A,e2]
  by_cases q:j<b.length
  ·have w:decide ((j:Int)=(b.length:Int))=false:=by simp;omega
   have I:decide ((j:Int)<(b.length:Int))=true:=by simp;omega
   have u:¬ j=b.length:=by omega
   rw[w,I,vh (by rfl),vh (.inr q),Aa q]
   have E:((false==false)&&(false==true))=false:=rfl
   have M:((true==false))=false:=rfl
   rw[E,M]
   simp only[Fa,AE,xW,yM,yX,xZ,xT,yP]
   have O:¬ (j=b.length∨i<a.length∧Ay a[i]!.Name b[j]!.Name=true):=by
    intro h;rcases h with h | h
    ·exact u h
    ·exact l h.1
   rw[vg O,vh (.inl F),OT _ _ _ (by omega),AE,Ad (by omega),AE];rfl
  ·have I:decide ((j:Int)<(b.length:Int))=false:=by simp;omega
   rw[I,vg (by decide),vg (by omega)]
theorem mf(c a b:List AC)(h:c.length+a.length+b.length≤4398046511104):OD c a b=some (Bo FL a b c):=by
 unfold OD
 rw[Um FL a b c 4398046511104 eg (λi j o l q u=>rH a b i j o (by omega) l q u) h];rfl
theorem mD(a b:List AC)(h:a.length+b.length≤4398046511104):Oe a b=some (Bo FL a b []):=by
 unfold Oe;rw[mf [] a b (by simpa using h)];rfl
theorem Nv(a b:List AC)(B:a.length≤9223372036854775807):G8 a b=some (decide (a=b)):=by
 unfold G8
 by_cases q:a.length=b.length
 ·rw[vg (by simp[q]),Cb (n:=a.length) (λk=>if decide (a[k]! = b[k]!) then none else some false) (λk w=>by
   unfold QK
   rw[vh (by simpa using w),Aa w,Aa (by omega),AE,AE,Ad (by omega)]
   generalize a[k]! = x
   generalize b[k]! = y
   by_cases h:x=y
   ·subst h;simp[Cg]
   ·have A:=h;rw[gJ] at A
    simp only[vk h,Bool.and_true]
    by_cases j:x.Name=y.Name
    ·have u:¬ x.Value=y.Value:=λe=>A ⟨j,e⟩
     simp[j,u,Cg]
    ·simp[j,Cg]) (by unfold QK;rw[vg (by simp)]),Ky,E9]
  by_cases h:a=b
  ·subst h;simp
  ·rw[vk h]
   have:((List.range a.length).all λk=>decide (a[k]! = b[k]!))=false:=by
    rw[← xY,wI]
    intro l
    apply h
    apply yq q
    intro k j u
    have:=l k (wU.2 j)
    simp only[vi] at this
    rwa [vr a k j,vr b k u] at this
   rw[this];rfl
 ·rw[vh (by simp;omega),vk (by rintro rfl;exact q rfl)]
theorem Rd(a b:List AC)(B:a.length≤9223372036854775807):Hi a b=some (decide (a=b)):=by
 unfold Hi
 by_cases q:a.length=b.length
 ·rw[vg (by simp[q]),Cb (n:=a.length) (λk=>if decide (a[k]! = b[k]!) then none else some false) (λk w=>by
   unfold OW
   rw[vh (by simpa using w),Aa w,Aa (by omega),AE,AE,Ad (by omega)]
   generalize a[k]! = x
   generalize b[k]! = y
   by_cases h:x=y
   ·subst h;simp[Cg]
   ·have A:=h;rw[gJ] at A
    simp only[vk h,Bool.and_true]
    by_cases j:x.Name=y.Name
    ·have u:¬ x.Value=y.Value:=λe=>A ⟨j,e⟩
     simp[j,u,Cg]
    ·simp[j,Cg]) (by unfold OW;rw[vg (by simp)]),Ky,E9]
  by_cases h:a=b
  ·subst h;simp
  ·rw[vk h]
   have:((List.range a.length).all λk=>decide (a[k]! = b[k]!))=false:=by
    rw[← xY,wI]
    intro l
    apply h
    apply yq q
    intro k j u
    have:=l k (wU.2 j)
    simp only[vi] at this
    rwa [vr a k j,vr b k u] at this
   rw[this];rfl
 ·rw[vh (by simp;omega),vk (by rintro rfl;exact q rfl)]
theorem mu{α β:Type}[Inhabited α]{f}(l:List α)(j:β→α→β)(I:β→Nat→Prop)(w:∀b k, k<l.length→I b k→I (j b l[k]!) (k+1))
 (A:∀b (k:Nat), k<l.length→I b k→f (b, (k:Int))=some (.inl (j b l[k]!, ((k+1:Nat):Int)))) (B:∀b, f (b, (l.length:Int))=some (.inr b)) (b0:β) (C:I b0 0):iter f (b0, 0)=some (l.foldl j b0) := by
  have key:∀(m k:Nat) (b:β), k+m=l.length→I b k→iter f (b, (k:Int))=some ((l.drop k).foldl j b) := by
    intro m
    induction m with
    | zero =>
      intro k b E _
      have:k=l.length := by omega
      subst this
      rw[Cv (B b)];simp
    | succ m F =>
      intro k b E u
      have q:k<l.length := by omega
      rw[Dx (A b k q u), F (k+1) _ (by omega) (w b k q u), xj q, wT, vr l k q]
  have := key l.length 0 b0 (by omega) C
  simpa using this
theorem rm{α β:Type}[Inhabited α]{f}(l:List α)(j:β→α→β)(I:β→Nat→Prop)(w:∀b k, k<l.length→I b k→I (j b l[k]!) (k+1))
 (A:∀b (k:Nat), k<l.length→I b k→f ((k:Int), b)=some (.inl (((k+1:Nat):Int), j b l[k]!))) (B:∀b, f ((l.length:Int), b)=some (.inr b)) (b0:β) (C:I b0 0):iter f (0, b0)=some (l.foldl j b0) := by
  have key:∀(m k:Nat) (b:β), k+m=l.length→I b k→iter f ((k:Int), b)=some ((l.drop k).foldl j b) := by
    intro m
    induction m with
    | zero =>
      intro k b E _
      have:k=l.length := by omega
      subst this
      rw[Cv (B b)];simp
    | succ m F =>
      intro k b E u
      have q:k<l.length := by omega
      rw[Dx (A b k q u), F (k+1) _ (by omega) (w b k q u), xj q, wT, vr l k q]
  have := key l.length 0 b0 (by omega) C
  simpa using this
theorem og{α γ β:Type}[Inhabited α]{f}(l:List α)(j:γ × β→α→γ × β)(I:γ × β→Nat→Prop)(w:∀b k, k<l.length→I b k→I (j b l[k]!) (k+1))
 (A:∀c b (k:Nat), k<l.length→I (c, b) k→f (c, (k:Int), b)=some (.inl ((j (c, b) l[k]!).1, ((k+1:Nat):Int), (j (c, b) l[k]!).2))) (B:∀c b, f (c, (l.length:Int), b)=some (.inr (c, b))) (c0:γ) (b0:β) (C:I (c0, b0) 0) :
    iter f (c0, 0, b0)=some (l.foldl j (c0, b0)) := by
  have key:∀(m k:Nat) (b:γ × β), k+m=l.length→I b k→iter f (b.1, (k:Int), b.2)=some ((l.drop k).foldl j b) := by
    intro m
    induction m with
    | zero =>
      intro k b E _
      have:k=l.length := by omega
      subst this
      rw[Cv (B _ _)];simp
    | succ m F =>
      intro k b E u
      have q:k<l.length := by omega
      rw[Dx (A b.1 b.2 k q u), F (k+1) _ (by omega) (w b k q u), xj q, wT, vr l k q]
  have := key l.length 0 (c0, b0) (by omega) C
  simpa using this
theorem iJ a:Ay a []=false:=by cases a<;>rfl
theorem HE:∀ {a b c:List UInt8},Ay a b=true→Ay b c=true→Ay a c=true
 | _,[],_,h,_=>by rw[iJ] at h;cases h
 | _,_::_,[],_,h=>by cases h
 | [],_::_,_::_,_,_=>rfl
 | a::x,b::y,c::z,h,k=>by
  rw[XH] at h k ⊢
  simp only[vt,vi,vm,zg,yg] at h k ⊢
  rcases h with h | ⟨rfl,h⟩<;>rcases k with k | ⟨rfl,k⟩
  ·left;omega
  ·left;exact h
  ·left;exact k
  ·right;exact⟨rfl,HE h k⟩
def Bs(l:List AC):Prop:=l.Pairwise λx y=>Ay x.Name y.Name=true
def Ar:List AC→List UInt8→Option AC
 | [],_=>none
 | x::l,n=>if x.Name=n then some x else Ar l n
theorem HJ{l}{n}(h:∀e∈l,e.Name≠n):Ar l n=none:=by
 induction l with
 | nil=>rfl
 | cons x l j=>rw[Ar,vg (h x (vn ..)),j λe q=>h e (vp _ q)]
theorem Q5{l}{n}{e:AC}(h:Ar l n=some e):e.Name=n∧e∈l:=by
 induction l with
 | nil=>cases h
 | cons x l j=>
  rw[Ar] at h
  split at h
  ·cases h;exact⟨‹_›,vn ..⟩
  ·exact⟨(j h).1,vp _ (j h).2⟩
theorem Ex{a b}(h:Ay a b=true):b≠a:=by rintro rfl;rw[WB] at h;cases h
theorem EP{x:AC}{l} : Bs (x::l)↔(∀e∈l,Ay x.Name e.Name=true)∧Bs l:=List.pairwise_cons
theorem SV:∀ {l m:List AC},Bs l→Bs m→(∀n,Ar l n=Ar m n)→l=m
 | [],[],_,_,_=>rfl
 | [],y::m,_,_,h=>by have:=h y.Name;simp[Ar] at this
 | x::l,[],_,_,h=>by have:=h x.Name;simp[Ar] at this
 | x::l,y::m,E,F,h=>by
  have w:=EP.1 E
  have A:=EP.1 F
  have B:x.Name=y.Name:=by
   rcases j:Ay x.Name y.Name with _ | _
   ·rcases q:Ay y.Name x.Name with _ | _
    ·have:=M4 x.Name y.Name
     rw[j,q] at this
     simpa using this
    ·have:=h y.Name
     rw[Ar,vg (Ex q),HJ λe u=>Ex (HE q (w.1 e u)),Ar,vh rfl] at this
     cases this
   ·have:=h x.Name
    rw[Ar,vh rfl,Ar,vg (Ex j),HJ λe u=>Ex (HE j (A.1 e u))] at this
    cases this
  have I:x=y:=by
   have:=h x.Name
   rw[Ar,vh rfl,Ar,vh B.symm] at this
   exact wY this
  subst I
  rw[SV w.2 A.2 λn=>?_]
  by_cases C:x.Name=n
  ·subst C
   rw[HJ λe u=>Ex (w.1 e u),HJ λe u=>Ex (A.1 e u)]
  ·have:=h n
   rwa [Ar,vg C,Ar,vg C] at this
def DR:List AC→AC→List AC
 | [],a=>[a]
 | x::l,a=>if x.Name=a.Name then a::l else if Ay x.Name a.Name=true then x::DR l a else a::x::l
theorem sy{l}{a e}(h:e∈DR l a):e=a∨e∈l:=by
 induction l with
 | nil=>simpa[DR] using h
 | cons x l j=>
  rw[DR] at h
  split at h
  ·rcases wC.1 h with h | h
   ·exact .inl h
   ·exact .inr (vp _ h)
  ·split at h
   ·rcases wC.1 h with h | h
    ·exact .inr (h ▸ vn ..)
    ·rcases j h with h | h
     ·exact .inl h
     ·exact .inr (vp _ h)
   ·rcases wC.1 h with h | h
    ·exact .inl h
    ·exact .inr h
theorem fX{a b}(j:a≠b)(l:¬ Ay a b=true):Ay b a=true:=by
 have:=M4 a b
 rw[yD.2 l,vk j] at this
 simpa using this
theorem fS{l}(a:AC)(h:Bs l):Bs (DR l a):=by
 induction l with
 | nil=>simp[DR,Bs]
 | cons x l B=>
  have u:=EP.1 h
  rw[DR]
  split
  ·rename_i A;exact EP.2 ⟨λe j=>by rw[← A];exact u.1 e j,u.2⟩
  ·rename_i A
   split
   ·rename_i q
    exact EP.2 ⟨λe j=>by rcases sy j with rfl | j;exact q;exact u.1 e j,B u.2⟩
   ·rename_i q
    have w:=fX A q
    exact EP.2 ⟨λe j=>by rcases wC.1 j with rfl | j;exact w;exact HE w (u.1 e j),h⟩
theorem UV l(a:AC) n:Ar (DR l a) n=if a.Name=n then some a else Ar l n:=by
 induction l with
 | nil=>simp[DR,Ar]
 | cons x l q=>
  rw[DR]
  split
  ·rename_i j
   rw[Ar,Ar]
   by_cases h:a.Name=n
   ·rw[vh h,vh h]
   ·rw[vg h,vg h,vg (by rw[j];exact h)]
  ·rename_i j
   split
   ·rw[Ar,Ar,q]
    by_cases h:a.Name=n
    ·rw[vh h,vg (by rw[← h];exact j),vh h]
    ·rw[vg h,vg h]
   ·rw[Ar]
theorem ge(l:List AC) a:(DR l a).length≤l.length+1:=by
 induction l with
 | nil=>simp[DR]
 | cons x l j=>rw[DR];split;simp;split;simp;omega;simp
def EH(a:AC)(s:Bool × List AC)(x:AC):Bool × List AC:=
 let j:=if s.1=false∧Ay x.Name a.Name=false then(true,s.2++[a]) else s
 if x.Name=a.Name then j else(j.1,j.2++[x])
theorem UT(a:AC):∀(l:List AC) (o:List AC),(∀e∈l,Ay a.Name e.Name=true)→l.foldl (EH a) (true,o)=(true,o++l)
 | [],o,_=>by simp
 | x::l,o,h=>by
  have j:=h x (vn ..)
  have:EH a (true,o) x=(true,o++[x]):=by simp[EH,Ex j]
  rw[wT,this,UT a l _ λe q=>h e (vp _ q)]
  simp
theorem Yx(a:AC):∀(l:List AC) (o:List AC),Bs l→(let s:=l.foldl (EH a) (false,o);if s.1 then s.2 else s.2++[a])=o++DR l a
 | [],o,_=>by simp[DR]
 | x::l,o,h=>by
  have u:=EP.1 h
  rw[wT,DR]
  by_cases q:x.Name=a.Name
  ·have B:Ay x.Name a.Name=false:=by rw[q];exact WB _
   have:EH a (false,o) x=(true,o++[a]):=by simp[EH,q,WB]
   rw[this,UT a l _ λe w=>by rw[← q];exact u.1 e w,vh q]
   simp
  ·by_cases j:Ay x.Name a.Name=true
   ·have:EH a (false,o) x=(false,o++[x]):=by simp[EH,q,j]
    rw[this,Yx a l _ u.2,vg q,vh j]
    simp
   ·have A:=fX q j
    have:EH a (false,o) x=(true,o++[a]++[x]):=by simp[EH,q,yD.2 j]
    rw[this,UT a l _ λe w=>HE A (u.1 e w),vg q,vg j]
    simp
theorem gZ(a:AC) s(x:AC):(EH a s x).2.length≤s.2.length+2:=by
 unfold EH
 have:(if s.1=false∧Ay x.Name a.Name=false then(true,s.2++[a]) else s).2.length≤s.2.length+1:=by split<;>simp
 generalize (if s.1=false∧Ay x.Name a.Name=false then(true,s.2++[a]) else s)=t at this
 by_cases j:x.Name=a.Name
 ·simp only[j,xZ];omega
 ·simp only[j,yP,vw,wg];omega
theorem mO(l:List AC)(a:AC)(A:Bs l)(h:l.length≤1099511627776):KW l a=some (DR l a):=by
 unfold KW
 rw[og l (EH a) (λs k=>s.2.length≤2 * k) (λb k _ u=>by have:=gZ a b l[k]!;show(EH a b l[k]!).2.length≤_;omega) (λc b k w u=>by
  have B:b.length≤2 * k:=u
  unfold PW
  rw[vh (by simpa using w),Aa w,Ad (by omega)]
  simp only[AE]
  generalize l[k]! = x
  have C:app 32 b [a]=some (b++[a]):=H0 (by omega)
  have e2:app 32 b [x]=some (b++[x]):=H0 (by omega)
  have E:app 32 (b++[a]) [x]=some (b++[a]++[x]):=H0 (by simp;omega)
  cases c
  ·simp only[Bool.not_false,xh,An,AE,wy]
   unfold EH
   cases I:Ay x.Name a.Name
   ·by_cases q:x.Name=a.Name<;>simp[C,E,q]
   ·by_cases q:x.Name=a.Name<;>simp[e2,q]
  ·have:((!true)==true)=false:=rfl
   rw[this,Fa]
   simp only[AE,zG,yM,xT,yP,CB]
   unfold EH
   by_cases q:x.Name=a.Name<;>simp[e2,q]) (λc b=>by unfold PW;rw[vg (by simp)]) false [] (by simp)]
 have hp:=Yx a l [] A
 have j:(l.foldl (EH a) (false,([]:List AC))).2.length≤2 * l.length:=by
  have:∀(m:List AC) (s:Bool × List AC),(m.foldl (EH a) s).2.length≤s.2.length+2 * m.length:=by
   intro m
   induction m with
   | nil=>intro s;simp
   | cons x m F=>intro s;rw[wT];have:=F (EH a s x);have:=gZ a s x;simp only[v6];omega
  have:=this l (false,[])
  simpa using this
 generalize l.foldl (EH a) (false,([]:List AC))=s at hp j
 obtain⟨c,o⟩:=s
 simp only[CB]
 cases c
 ·simp only[Bool.not_false,xZ]
  rw[H0 (by simp at j;omega)]
  simpa using hp
 ·simpa using hp
def D1(g:AC→AC→List AC):List AC→List AC→List AC
 | [],[]=>[]
 | x::a,[]=>g x C3++D1 g a []
 | [],y::b=>g C3 y++D1 g [] b
 | x::a,y::b=>if Ay x.Name y.Name then g x C3++D1 g a (y::b) else if Ay y.Name x.Name then g C3 y++D1 g (x::a) b else g x y++D1 g a b
  termination_by a b=>a.length+b.length
theorem qR l g(h:∀x y o,l x y o=o++g x y):∀(m:Nat) (a b c:List AC),a.length+b.length=m→Bo l a b c=c++D1 g a b:=by
 intro m
 induction m using Nat.strongRecOn with
 | _ m q=>
  intro a b c j
  cases a with
  | nil=>
   cases b with
   | nil=>simp[Bo,D1]
   | cons y b=>rw[Bo,D1,q (m-1) (by simp at j;omega) [] b _ (by simp at j ⊢;omega),h];simp
  | cons x a=>
   cases b with
   | nil=>rw[Bo,D1,q (m-1) (by simp at j;omega) a [] _ (by simp at j ⊢;omega),h];simp
   | cons y b=>
    rw[Bo,D1]
    split
    ·rw[q (m-1) (by simp at j;omega) a (y::b) _ (by simp at j ⊢;omega),h];simp
    ·split
     ·rw[q (m-1) (by simp at j;omega) (x::a) b _ (by simp at j ⊢;omega),h];simp
     ·rw[q (m-2) (by simp at j;omega) a b _ (by simp at j ⊢;omega),h];simp
def S4(l:List AC)(n:List UInt8)(o:Option AC):Prop:=l=o.toList∧∀e,o=some e→e.Name=n
structure My(g:AC→AC→List AC)(G:Option AC→Option AC→Option AC):Prop where
 l:∀x:AC,x.Name≠[]→S4 (g x C3) x.Name (G (some x) none)
 r:∀y:AC,y.Name≠[]→S4 (g C3 y) y.Name (G none (some y))
 b:∀x y:AC,x.Name=y.Name→x.Name≠[]→S4 (g x y) x.Name (G (some x) (some y))
 n:G none none=none
theorem td{o:Option AC}{j}{rest}(A:∀e,o=some e→e.Name=j)(q:∀e∈rest,Ay j e.Name=true)(u:Bs rest):Bs (o.toList++rest)∧∀n,Ar (o.toList++rest) n=if j=n then o else Ar rest n:=by
 cases o with
 | none=>
  refine⟨u,λn=>?_⟩
  split
  ·rename_i h;subst h;exact HJ λe l=>Ex (q e l)
  ·rfl
 | some x=>
  have w:=A x rfl
  refine⟨EP.2 ⟨λe l=>by rw[w];exact q e l,u⟩,λn=>?_⟩
  show Ar (x::rest) n=_
  rw[Ar,w]
def Nm(l:List AC):Prop:=∀e∈l,e.Name≠[]
theorem oh{g}{G}(hg:My g G):∀(m:Nat) (a b:List AC),a.length+b.length=m→Bs a→Bs b→Nm a→Nm b →
  (∀n,(∀e∈a,Ay n e.Name=true)→(∀e∈b,Ay n e.Name=true)→∀e∈D1 g a b,Ay n e.Name=true)∧Bs (D1 g a b)∧∀n,Ar (D1 g a b) n=G (Ar a n) (Ar b n):=by
 intro m
 induction m using Nat.strongRecOn with
 | _ m ih=>
  intro a b T V U O J
  have tail:∀ {l:List AC} {I:List UInt8} {o:Option AC} {a' b':List AC},S4 l I o→a'.length+b'.length<m→Bs a'→Bs b'→Nm a'→Nm b'→(∀e∈a',Ay I e.Name=true)→(∀e∈b',Ay I e.Name=true) →
    (∀n,Ay n I=true→∀e∈l++D1 g a' b',Ay n e.Name=true)∧Bs (l++D1 g a' b')∧∀n,Ar (l++D1 g a' b') n=if I=n then o else G (Ar a' n) (Ar b' n):=by
   rintro l I o a' b' ⟨rfl,ho⟩ q X Y Z a0 u B
   obtain⟨i1,i2,i3⟩:=ih _ q a' b' rfl X Y Z a0
   obtain⟨j1,j2⟩:=td ho (i1 I u B) i2
   refine⟨λn A e j=>?_,j1,λn=>by rw[j2 n,i3 n]⟩
   rcases wX.1 j with j | j
   ·rw[Option.mem_toList] at j;rw[ho e j];exact A
   ·exact HE A (i1 I u B e j)
  cases a with
  | nil=>
   cases b with
   | nil=>exact⟨λn _ _ e j=>by simp[D1] at j,by simp[D1,Bs],λn=>by simp[D1,Ar,hg.n]⟩
   | cons y b=>
    have u:=EP.1 U
    have hy:=J y (vn ..)
    rw[D1]
    obtain⟨C,E,F⟩:=tail (a':=[]) (b':=b) (hg.r y hy) (by simp at T ⊢;omega) V u.2 O (λe j=>J e (vp _ j)) (λe j=>by cases j) u.1
    refine⟨λn _ h e j=>C n (h y (vn ..)) e j,E,λn=>?_⟩
    rw[F n]
    conv=>rhs;rw[Ar,Ar]
    split
    ·rfl
    ·rfl
  | cons x a=>
   have u:=EP.1 V
   have hx:=O x (vn ..)
   cases b with
   | nil=>
    rw[D1]
    obtain⟨C,E,F⟩:=tail (a':=a) (b':=[]) (hg.l x hx) (by simp at T ⊢;omega) u.2 U (λe j=>O e (vp _ j)) J u.1 (λe j=>by cases j)
    refine⟨λn h _ e j=>C n (h x (vn ..)) e j,E,λn=>?_⟩
    rw[F n]
    conv=>rhs;rw[Ar,Ar]
    split
    ·rfl
    ·rfl
   | cons y b=>
    have B:=EP.1 U
    have hy:=J y (vn ..)
    rw[D1]
    split
    ·rename_i q
     obtain⟨C,E,F⟩:=tail (a':=a) (b':=y::b) (hg.l x hx) (by simp at T ⊢;omega) u.2 U (λe j=>O e (vp _ j)) J u.1 (λe j=>by
      rcases wC.1 j with rfl | j
      ·exact q
      ·exact HE q (B.1 e j))
     refine⟨λn h _ e j=>C n (h x (vn ..)) e j,E,λn=>?_⟩
     rw[F n]
     by_cases A:x.Name=n
     ·subst A
      rw[vh rfl,Ar,vh rfl,HJ λe j=>by
       rcases wC.1 j with rfl | j
       ·exact Ex q
       ·exact Ex (HE q (B.1 e j))]
     ·rw[vg A];conv=>rhs;rw[Ar,vg A]
    ·rename_i q
     split
     ·rename_i w
      obtain⟨C,E,F⟩:=tail (a':=x::a) (b':=b) (hg.r y hy) (by simp at T ⊢;omega) V B.2 O (λe j=>J e (vp _ j)) (λe j=>by
       rcases wC.1 j with rfl | j
       ·exact w
       ·exact HE w (u.1 e j)) B.1
      refine⟨λn _ h e j=>C n (h y (vn ..)) e j,E,λn=>?_⟩
      rw[F n]
      by_cases A:y.Name=n
      ·subst A
       rw[vh rfl]
       conv=>rhs;rw[HJ (l:=x::a) (λe j=>by
        rcases wC.1 j with rfl | j
        ·exact Ex w
        ·exact Ex (HE w (u.1 e j))),Ar,vh rfl]
      ·rw[vg A];conv=>rhs;arg 2;rw[Ar,vg A]
     ·rename_i w
      have M:x.Name=y.Name:=by
       have:=M4 x.Name y.Name
       rw[yD.2 q,yD.2 w] at this
       simpa using this
      obtain⟨C,E,F⟩:=tail (a':=a) (b':=b) (hg.b x y M hx) (by simp at T ⊢;omega) u.2 B.2 (λe j=>O e (vp _ j)) (λe j=>J e (vp _ j)) u.1 (λe j=>by rw[M];exact B.1 e j)
      refine⟨λn h _ e j=>C n (h x (vn ..)) e j,E,λn=>?_⟩
      rw[F n]
      conv=>rhs;rw[Ar,Ar,← M]
      split<;>rfl
def Hl:Option AC→Option AC→Option AC
 | o,none=>o
 | _,some y=>if y.Value=[] then none else some y
def Px:Option AC→Option AC→Option AC
 | o,none=>o
 | _,some y=>some y
def M8:Option AC→Option AC→Option AC
 | o,none=>o
 | _,some _=>none
theorem Tq{j}{g}{G}(h:∀x y o,j x y o=o++g x y)(hg:My g G){a b}(l:Bs a)(q:Bs b)(u:Nm a)(w:Nm b) :
  Bs (Bo j a b [])∧∀n,Ar (Bo j a b []) n=G (Ar a n) (Ar b n):=by
 rw[qR j g h _ a b [] rfl,yc]
 exact(oh hg _ a b rfl l q u w).2
def Mg(x y:AC):List AC:=if y.Name=[] then [x] else if y.Value=[] then [] else [y]
def QC(x y:AC):List AC:=[if y.Name=[] then x else y]
def L0(x y:AC):List AC:=if y.Name=[] then [x] else []
theorem UI:My Mg Hl:=by
 refine⟨λx q=>⟨by simp[Mg,Hl,C3],by rintro e ⟨⟩;rfl⟩,λy u=>⟨?_,?_⟩,λx y l q=>⟨?_,?_⟩,rfl⟩
 ·simp only[Mg,Hl,vg u];split<;>rfl
 ·intro e j;simp only[Hl] at j;split at j<;>cases j;rfl
 ·rw[l] at q;simp only[Mg,Hl,vg q];split<;>rfl
 ·intro e j;simp only[Hl] at j;split at j<;>cases j;exact l.symm
theorem ql:My QC Px:=by
 refine⟨λx l=>⟨by simp[QC,Px,C3],by rintro e ⟨⟩;rfl⟩,λy q=>⟨by simp[QC,Px,vg q],by rintro e ⟨⟩;rfl⟩,λx y j l=>⟨?_,?_⟩,rfl⟩
 ·rw[j] at l;simp[QC,Px,vg l]
 ·rintro e ⟨⟩;exact j.symm
theorem bC:My L0 M8:=by
 refine⟨λx j=>⟨by simp[L0,M8,C3],by rintro e ⟨⟩;rfl⟩,λy q=>⟨by simp[L0,M8,vg q],by rintro e ⟨⟩⟩,λx y l j=>⟨?_,by rintro e ⟨⟩⟩,rfl⟩
 rw[l] at j;simp[L0,M8,vg j]
theorem Vw(x y o):FA x y o=o++Mg x y:=by unfold FA Mg;split;rfl;split;simp;rfl
theorem oR(x y o):FU x y o=o++QC x y:=rfl
theorem ZW(x y o):FL x y o=o++L0 x y:=by unfold FL L0;split;rfl;simp
theorem tX{l:List AC}(h:∀k,k+1<l.length→Ay l[k]!.Name l[k+1]!.Name=true):Bs l:=by
 induction l with
 | nil=>exact List.Pairwise.nil
 | cons x l w=>
  have q:=w λk A=>by have:=h (k+1) (by simp;omega);simpa using this
  refine EP.2 ⟨λe j=>?_,q⟩
  cases l with
  | nil=>cases j
  | cons y l=>
   have u:Ay x.Name y.Name=true:=by have:=h 0 (by simp);simpa using this
   rcases wC.1 j with rfl | j
   ·exact u
   ·exact HE u ((EP.1 q).1 e j)
theorem F8{l:List AC}{ch:Bool}(h:BC l ch=0):Bs l∧Nm l∧(ch=false→∀e∈l,e.Value≠[]):=by
 have hn:∀k,k<l.length→Eh l ch k=none:=by
  intro k hk
  unfold BC at h
  cases hf:(List.range l.length).findSome? (Eh l ch) with
  | none=>exact(Zy _ _).1 hf k hk
  | some r=>
   rw[hf] at h
   obtain⟨j,_,hj⟩:=xE hf
   exfalso
   unfold Eh at hj
   simp only[xg] at h
   subst h
   repeat' split at hj
   all_goals simp at hj
 have hname:∀k,k<l.length→ER l[k]!.Name=true∧¬ (Di l[k]!.Value=false∧¬ (ch=true∧l[k]!.Value=[]))∧¬ (0<k∧Ay l[k-1]!.Name l[k]!.Name=false):=by
  intro k hk
  have:=hn k hk
  unfold Eh at this
  split at this
  ·cases this
  ·split at this
   ·cases this
   ·split at this
    ·cases this
    ·exact⟨by rcases hx:ER l[k]!.Name with _ | _;exact absurd hx (by assumption);rfl,‹_›,‹_›⟩
 refine⟨tX λk hk=>?_,λe he=>?_,λhc e he=>?_⟩
 ·have:=(hname (k+1) hk).2.2
  rw[Nat.add_sub_cancel] at this
  simpa using this
 ·obtain⟨k,hk,rfl⟩:=ww.1 he
  have:=(hname k hk).1
  rw[vr l k hk] at this
  intro e0
  rw[e0] at this
  simp[ER] at this
 ·obtain⟨k,hk,rfl⟩:=ww.1 he
  have:=(hname k hk).2.1
  rw[vr l k hk,hc] at this
  intro e0
  apply this
  rw[e0]
  exact⟨rfl,by simp⟩
theorem fg(p:AC→Bool)(h:AC→AC)(j:∀x,(h x).Name=x.Name):∀(l o:List AC),Bs l→Bs o →
  Bs (l.foldl (λo x=>if p x then DR o (h x) else o) o)∧∀n,Ar (l.foldl (λo x=>if p x then DR o (h x) else o) o) n=match Ar l n with | some x=>if p x then some (h x) else Ar o n | none=>Ar o n
 | [],o,_,q=>⟨q,λn=>rfl⟩
 | x::l,o,B,q=>by
  have A:=EP.1 B
  have w:Bs (if p x then DR o (h x) else o):=by split;exact fS _ q;exact q
  obtain⟨C,E⟩:=fg p h j l _ A.2 w
  refine⟨C,λn=>?_⟩
  rw[wT,E n,Ar]
  by_cases u:x.Name=n
  ·subst u
   rw[vh rfl,HJ λe F=>Ex (A.1 e F)]
   cases hp:p x
   ·simp[hp]
   ·simp[hp,UV,j]
  ·rw[vg u]
   cases I:Ar l n with
   | some z => 
    cases hp:p x
    ·simp[hp]
    ·simp[hp,UV,j,u]
   | none=>
    cases hp:p x
    ·simp[hp]
    ·simp[hp,UV,j,u]
theorem jI(p:AC→Bool)(h:AC→AC)(l o:List AC):(l.foldl (λo x=>if p x then DR o (h x) else o) o).length≤o.length+l.length:=by
 induction l generalizing o with
 | nil=>simp
 | cons x l j=>
  rw[wT]
  have q:=j (if p x then DR o (h x) else o)
  have u:(if p x then DR o (h x) else o).length≤o.length+1:=by split;exact ge _ _;omega
  simp only[v6]
  omega
def F0(l o:List AC):List AC:=l.foldl (λo x=>if(λ_=>true) x then DR o (id x) else o) o
theorem W5{l o}(j:Bs l)(q:Bs o):Bs (F0 l o)∧∀n,Ar (F0 l o) n=match Ar l n with | some x=>some x | none=>Ar o n:=by
 obtain⟨u,w⟩:=fg (λ_=>true) id (λ_=>rfl) l o j q
 refine⟨u,λn=>?_⟩
 unfold F0
 rw[w n]
 cases Ar l n<;>simp
theorem Z7(l o:List AC):(F0 l o).length≤o.length+l.length:=jI _ _ _ _
theorem eO{f}(l o:List AC)(u:Bs o)(C:o.length+l.length≤1099511627776)
 (w:∀b (k:Nat), k<l.length→f (b, (k:Int))=(AB (KW b l[k]!) λo2 => AB (AN .i64 ((k:Int)+1)) λx => some (.inl (o2, x)))) (A:∀b, f (b, (l.length:Int))=some (.inr b)):iter f (o, 0)=some (F0 l o) := by
  unfold F0
  refine mu l _ (λb k => Bs b∧b.length≤o.length+k) (λb k q ⟨j, B⟩ => ?_) (λb k q ⟨j, B⟩ => ?_) A o ⟨u, by omega⟩
  · have := ge b l[k]!
    exact⟨fS _ j, by show(DR b l[k]!).length≤_;omega⟩
  · rw[w b k q, mO b _ j (by omega), AE, Ad (by omega)];rfl
def FV(l:List AC):List AC:=l.filter λa=>!(a.Value=[])
theorem tx{l}(h:Bs l):Bs (FV l)∧∀n,Ar (FV l) n=(Ar l n).filter λa=>!(a.Value=[]):=by
 induction l with
 | nil=>exact⟨List.Pairwise.nil,λn=>rfl⟩
 | cons x l C=>
  have w:=EP.1 h
  obtain⟨A,B⟩:=C w.2
  have j:∀e∈FV l,Ay x.Name e.Name=true:=λe u=>w.1 e (yd.1 u).1
  by_cases q:x.Value=[]
  ·have:FV (x::l)=FV l:=by simp[FV,q]
   rw[this]
   refine⟨A,λn=>?_⟩
   rw[Ar]
   split
   ·rename_i E;subst E
    rw[HJ λe u=>Ex (j e u)]
    simp[Option.filter,q]
   ·exact B n
  ·have:FV (x::l)=x::FV l:=by simp[FV,q]
   rw[this]
   refine⟨EP.2 ⟨j,A⟩,λn=>?_⟩
   rw[Ar,Ar]
   split
   ·simp[Option.filter,q]
   ·exact B n
theorem ij(l q:List AC)(B:Bs l)(hc:Bs q)(h:l.length+q.length≤1099511627776):H4 l q=some (FV (F0 q (F0 l []))):=by
 unfold H4
 have A:Bs ([]:List AC):=List.Pairwise.nil
 have C:=(W5 B A).1
 have w:=Z7 l []
 have E:=Z7 q (F0 l [])
 rw[eO l [] A (by simp;omega) (λb k j=>by unfold OH;rw[vh (by simpa using j),Aa j];rfl) (λb=>by unfold OH;rw[vg (by simp)]),AE,
  eO q _ C (by simp at w;omega) (λb k j=>by unfold QS;rw[vh (by simpa using j),Aa j];rfl) (λb=>by unfold QS;rw[vg (by simp)]),AE]
 generalize F0 q (F0 l [])=r at E
 rw[rm r (λo x=>if x.Value=[] then o else o++[x]) (λb k=>b.length≤k) (λb k j F=>by split;omega;simp;omega) (λb k j F=>by
  unfold Qx
  rw[vh (by simpa using j),Aa j,AE,Ad (by simp at w;omega)]
  generalize r[k]! = x
  by_cases u:x.Value=[]
  ·simp[u]
  ·have:=H0 (o:=b) (x:=x) (by simp at w;omega)
   simp[u,this]) (λb=>by unfold Qx;rw[vg (by simp)]) [] (by simp),AE]
 have:∀(m o:List AC),m.foldl (λo x=>if x.Value=[] then o else o++[x]) o=o++FV m:=by
  intro m
  induction m with
  | nil=>intro o;simp[FV]
  | cons x m I=>
   intro o
   rw[wT,I]
   by_cases u:x.Value=[]
   ·simp[u,FV]
   ·simp[u,FV]
 rw[this];rfl
theorem mR{l j}(w:BC l false=0)(A:BC j true=0):Bo FA l j []=FV (F0 j (F0 l [])):=by
 obtain⟨q,B,v1⟩:=F8 w
 obtain⟨u,C,_⟩:=F8 A
 have E:Bs ([]:List AC):=List.Pairwise.nil
 obtain⟨F,I⟩:=W5 q E
 obtain⟨J,M⟩:=W5 u F
 obtain⟨O,T⟩:=tx J
 obtain⟨U,V⟩:=Tq Vw UI q u B C
 refine SV U O λn=>?_
 rw[V,T,M,I]
 cases Z:Ar j n with
 | some y=>
  simp only[Hl,Option.filter]
  by_cases X:y.Value=[]<;>simp[X]
 | none=>
  cases Y:Ar l n with
  | some x=>simp[Hl,Option.filter,v1 rfl x (Q5 Y).2]
  | none=>simp[Hl,Ar,Option.filter]
theorem gi{ρ:Type}(g:AC→Option ρ)(l:List AC):(List.range l.length).findSome? (λk=>g l[k]!)=l.findSome? g:=by
 induction l with
 | nil=>rfl
 | cons a l j=>
  rw[v6,List.range_succ_eq_map,xP,List.findSome?_map,xP]
  have:(List.range l.length).findSome? ((λk=>g (a::l)[k]!) ∘ Nat.succ)=l.findSome? g:=by
   rw[← j];exact cR λk _=>by simp
  rw[this]
  simp
theorem bB{ρ:Type}(l:List AC)(n:List UInt8)(v:AC→ρ):(l.findSome? λx=>if x.Name=n then some (v x) else none)=(Ar l n).map v:=by
 induction l with
 | nil=>rfl
 | cons x l j=>
  rw[xP,Ar]
  by_cases h:x.Name=n
  ·simp[h]
  ·simp[h,j]
theorem tj(l:List AC)(n:List UInt8):Du l n=match Ar l n with | some x=>x.Value | none=>[]:=by
 unfold Du
 rw[gi (λx=>if x.Name=n then some x.Value else none) l,bB l n (·.Value)]
 cases Ar l n<;>rfl
theorem Yz(l:List AC)(n:List UInt8)(q:l.length≤9223372036854775807):Ma l n=some (Ar l n).isSome:=by
 unfold Ma
 rw[Cb (n:=l.length) (λk=>(λx:AC=>if x.Name=n then some true else none) l[k]!) (λk j=>by
  unfold Nu
  rw[vh (by simpa using j),Aa j,AE,Ad (by omega)]
  generalize l[k]! = x
  by_cases h:x.Name=n<;>simp[h,Cg]) (by unfold Nu;rw[vg (by simp)]),gi (λx:AC=>if x.Name=n then some true else none) l,bB l n (λ_=>true),E9]
 cases Ar l n<;>rfl
def E2(a b:List AC):List AC:=a.filter λx=>!(Ar b x.Name).isSome
theorem o7{a}(b:List AC)(h:Bs a):Bs (E2 a b)∧∀n,Ar (E2 a b) n=M8 (Ar a n) (Ar b n):=by
 induction a with
 | nil=>exact⟨List.Pairwise.nil,λn=>by cases Ar b n<;>rfl⟩
 | cons x l E=>
  have A:=EP.1 h
  obtain⟨B,C⟩:=E A.2
  have j:∀e∈E2 l b,Ay x.Name e.Name=true:=λe u=>A.1 e (yd.1 u).1
  cases q:Ar b x.Name with
  | some y=>
   have:E2 (x::l) b=E2 l b:=by simp[E2,q]
   rw[this]
   refine⟨B,λn=>?_⟩
   rw[Ar]
   split
   ·rename_i w;subst w
    rw[HJ λe u=>Ex (j e u),q];rfl
   ·exact C n
  | none=>
   have:E2 (x::l) b=x::E2 l b:=by simp[E2,q]
   rw[this]
   refine⟨EP.2 ⟨j,B⟩,λn=>?_⟩
   rw[Ar,Ar]
   split
   ·rename_i w;subst w;rw[q];rfl
   ·exact C n
theorem s4{a b}(j:Bs a)(l:Bs b)(q:Nm a)(u:Nm b):Bo FL a b []=E2 a b:=by
 obtain⟨w,A⟩:=o7 b j
 obtain⟨B,C⟩:=Tq ZW bC j l q u
 exact SV B w λn=>by rw[C,A]
theorem T5 j(h:∀x y o,(j x y o).length≤o.length+1):∀(m:Nat) (a b c:List AC),a.length+b.length=m→(Bo j a b c).length≤c.length+m:=by
 intro m
 induction m using Nat.strongRecOn with
 | _ m q=>
  intro a b c l
  cases a with
  | nil=>
   cases b with
   | nil=>simp[Bo]
   | cons y b=>rw[Bo];have:=q (m-1) (by simp at l;omega) [] b (j C3 y c) (by simp at l ⊢;omega);have:=h C3 y c;simp at l;omega
  | cons x a=>
   cases b with
   | nil=>rw[Bo];have:=q (m-1) (by simp at l;omega) a [] (j x C3 c) (by simp at l ⊢;omega);have:=h x C3 c;simp at l;omega
   | cons y b=>
    rw[Bo]
    split
    ·have:=q (m-1) (by simp at l;omega) a (y::b) (j x C3 c) (by simp at l ⊢;omega);have:=h x C3 c;simp at l;omega
    ·split
     ·have:=q (m-1) (by simp at l;omega) (x::a) b (j C3 y c) (by simp at l ⊢;omega);have:=h C3 y c;simp at l;omega
     ·have:=q (m-2) (by simp at l;omega) a b (j x y c) (by simp at l ⊢;omega);have:=h x y c;simp at l;omega
theorem EL{σ β:Type}{f}(n:Nat)(R:Nat→σ→Prop)(Q:β→Prop)
 (w:∀k s, k<n→R k s→(∃j, f s=some (.inl j)∧R (k+1) j)∨(∃b, f s=some (.inr b)∧Q b))
 (A:∀s, R n s→∃b, f s=some (.inr b)∧Q b) {s} (B:R 0 s):∃b, iter f s=some b∧Q b := by
  have key:∀m k s, k+m=n→R k s→∃b, iter f s=some b∧Q b := by
    intro m
    induction m with
    | zero =>
      intro k s C l
      obtain rfl:k=n := by omega
      obtain⟨b, E, F⟩ := A s l
      exact⟨b, Cv E, F⟩
    | succ m I =>
      intro k s C l
      rcases w k s (by omega) l with ⟨j, q, u⟩ | ⟨b, q, u⟩
      · obtain⟨b, J, M⟩ := I (k+1) j (by omega) u
        exact⟨b, by rw[Dx q, J], M⟩
      · exact⟨b, Cv q, u⟩
  exact key n 0 s (by omega) B
theorem Hd{α:Type}[Inhabited α]{l:List α}{k}(h:k<l.length):l.drop k=l[k]!::l.drop (k+1):=by
 rw[xj h,vr l k h]
theorem Fi{α:Type}[Inhabited α]{l:List α}{k}(h:k<l.length):l.take (k+1)=l.take k++[l[k]!]:=by
 rw[List.take_add_one,vo h,vr l k h];rfl
theorem BT{α:Type}[Inhabited α]{l:List α}{k}(h:k<l.length):l[k]! ∈ l:=by
 rw[vr l k h];exact xr h
theorem km{ρ:Type}{n k:Nat}{g:Nat→Option ρ}{r:ρ}(w:k<n)(l:∀j,j<k→g j=none)(q:g k=some r):(List.range n).findSome? g=some r:=by
 obtain⟨m,rfl⟩:∃m,n=k+(m+1):=⟨n-k-1,by omega⟩
 rw[yj,← List.range'_append (s:=0) (m:=k) (n:=m+1) (step:=1),List.findSome?_append]
 have:(List.range' 0 k).findSome? g=none:=by
  rw[wx];intro x u;exact l x (by simpa using u)
 rw[this,xc,wK,zi,xP,q];rfl
theorem Z1{ρ:Type}{n:Nat}{g:Nat→Option ρ}(l:∀j,j<n→g j=none):(List.range n).findSome? g=none:=by
 rw[wx];intro x q;exact l x (by simpa using q)
theorem Li{x}(j : -9223372036854775808≤x)(l:x≤9223372036854775807):AN .i64 x=some x:=Bz j l
theorem IL x j l:Cq x j l=some ((j≤x)&&(x≤l)):=by
 unfold Cq
 rfl
theorem mB{α σ β γ:Type}[Inhabited α]{f}(l:List α)(mk:γ→Nat→σ)(j:List α→γ→β)(I:Nat→γ→Prop)
 (A:∀k c, k<l.length→I k c→(∃q, f (mk c k)=some (.inl (mk q (k+1)))∧I (k+1) q∧j (l[k]!::l.drop (k+1)) c=j (l.drop (k+1)) q)∨f (mk c k)=some (.inr (j (l[k]!::l.drop (k+1)) c)))
 (B:∀c, I l.length c→f (mk c l.length)=some (.inr (j [] c))) (c:γ) (C:I 0 c) (s:σ) (E:s=mk c 0):iter f s=some (j l c) := by
  subst E
  have key:∀m k c, k+m=l.length→I k c→iter f (mk c k)=some (j (l.drop k) c) := by
    intro m
    induction m with
    | zero =>
      intro k c F u
      obtain rfl:k=l.length := by omega
      rw[zK]
      exact Cv (B c u)
    | succ m J =>
      intro k c F u
      rw[Hd (by omega)]
      rcases A k c (by omega) u with ⟨q, w, M, O⟩ | w
      · rw[Dx w, J (k+1) q (by omega) M, O]
      · exact Cv w
  have := key l.length 0 c (by omega) C
  rwa [List.drop_zero] at this
theorem R5{o:List Int}{x}(h:o.length+1≤1099511627776):app 8 o [x]=some (o++[x]):=by
 unfold app;rw[vh (by simp;omega)]
def GI(c:Int):Bool:=(c=9)||(c=10)||((32≤c)&&(c≤126))||((160≤c)&&(c≤55295))||((57344≤c)&&(c≤1114111))
def Bq(x:AD):Int:=
 if(x.Char=0∧x.Ref=0)∨(x.Char≠0∧x.Ref≠0) then 4 else if(x.Char≠0∧GI x.Char=false)∨(x.Ref≠0∧¬ (1≤x.Ref∧x.Ref≤1073741824)) then 2 else BC x.Attrs false
def EG(x:AD):Prop:=x.Attrs.length≤9223372036854775807∧G0 x.Attrs
theorem gG c:M5 c=some (GI c):=by
 unfold M5 GI
 congr 1
 rw[wc]
 simp only[vt,vm,vi]
 omega
theorem Zg c:M9 c=some (GI c):=by
 unfold M9 GI
 rw[IL,IL,IL]
 generalize decide (c=9)=j
 generalize decide (c=10)=l
 generalize ((32≤c)&&(c≤126))=a3
 generalize ((160≤c)&&(c≤55295))=a4
 generalize ((57344≤c)&&(c≤1114111))=a5
 cases j<;>cases l<;>cases a3<;>cases a4<;>cases a5<;>rfl
theorem WI(x:AD)(h:EG x):Ml x=some (Bq x):=by
 unfold Ml Bq
 rw[gG,Rf _ h.2 h.1]
 by_cases c:x.Char=0
 ·by_cases r:x.Ref=0
  ·simp[c,r]
  ·by_cases q:1≤x.Ref∧x.Ref≤1073741824
   ·have j:¬ x.Ref<1:=by omega
    have l:¬ 1073741824<x.Ref:=by omega
    simp[c,r,q,j,l]
   ·have j:x.Ref<1∨1073741824<x.Ref:=by omega
    simp[c,r,q,j]
 ·by_cases r:x.Ref=0
  ·cases u:GI x.Char<;>simp[c,r,u]
  ·simp[c,r]
theorem WH(x:AD)(h:EG x):Mb x=some (Bq x):=by
 unfold Mb Bq
 rw[Zg,Rx _ _ h.2 h.1,IL]
 by_cases c:x.Char=0
 ·by_cases r:x.Ref=0
  ·simp[c,r]
  ·by_cases q:1≤x.Ref∧x.Ref≤1073741824
   ·simp[c,r,q]
   ·have j:((1≤x.Ref)&&(x.Ref≤1073741824))=false:=by rw[← xY];simpa using q
    simp[c,r,q,j]
 ·by_cases r:x.Ref=0
  ·cases l:GI x.Char<;>simp[c,r,l]
  ·simp[c,r]
def Eb(f:List AD)(k:Nat):Option Int:=if Bq f[k]! = 0 then none else some (Bq f[k]!)
def EJ(f:List AD):Int:=((List.range f.length).findSome? (Eb f)).getD 0
theorem dA(f:List AD)(h:∀x∈f,EG x)(l:f.length≤9223372036854775807):MI f=some (EJ f):=by
 unfold MI
 rw[Cb (n:=f.length) (Eb f) (λk j=>by
  unfold QE Eb
  rw[vh (by simpa using j),Aa j,AE,Ad (by omega),WI _ (h _ (BT j)),AE]
  by_cases e:Bq f[k]! = 0
  ·rw[vg (by simpa using e),vh e];rfl
  ·rw[vh (by simpa using e),vg e];rfl) (by unfold QE;rw[vg (by simp)]),FC];rfl
theorem fV(f:List AD)(h:∀x∈f,EG x)(l:f.length≤9223372036854775807):JV f=some (EJ f):=by
 unfold JV
 rw[Cb (n:=f.length) (Eb f) (λk j=>by
  unfold Pv Eb
  rw[vh (by simpa using j),Aa j,AE,Ad (by omega),WH _ (h _ (BT j)),AE]
  by_cases e:Bq f[k]! = 0
  ·rw[vg (by simpa using e),vh e];rfl
  ·rw[vh (by simpa using e),vg e];rfl) (by unfold Pv;rw[vg (by simp)]),FC];rfl
theorem Nf{f:List AD}(h:EJ f=0){k}(w:k<f.length):Bq f[k]! = 0:=by
 unfold EJ at h
 cases l:(List.range f.length).findSome? (Eb f) with
 | some e=>
  rw[l] at h
  have h:e=0:=h
  subst h
  obtain⟨j,_,q⟩:=xE l
  unfold Eb at q
  split at q
  ·cases q
  ·rename_i u;exact absurd (wY q) u
 | none=>
  rw[wx] at l
  have:=l k (wU.2 w)
  unfold Eb at this
  split at this
  ·rename_i u;exact u
  ·cases this
theorem eR{x:AD}(h:Bq x=0):BC x.Attrs false=0:=by
 unfold Bq at h
 split at h
 ·cases h
 ·split at h
  ·cases h
  ·exact h
def Mt:List UInt8:=[104,105,100,100,101,110]
def MT:List UInt8:=[111,110]
def SY:List UInt8:=[99,117,116]
def Uc:List UInt8:=[97,100,100]
def Ca(x:AD)(j:Int):Bool:=(Du x.Attrs Mt=MT)||((j=0)&&!(Du x.Attrs SY=[]))||((j=1)&&!(Du x.Attrs Uc=[]))
theorem jF(x:AD) j(h:EG x):Ou x j=some (Ca x j):=by
 unfold Ou Ca
 rw[ST _ _ h.1,ST _ _ h.1,ST _ _ h.1,AE]
 show(AB (gd ((decide (Du x.Attrs Mt=MT)==false)&&(decide (j=0)==true)) (some (Du x.Attrs SY))) λ(l:List UInt8)=>
  AB (gd ((((Du x.Attrs Mt=MT)||((j=0)&&!(l=[])))==false)&&(decide (j=1)==true)) (some (Du x.Attrs Uc))) λ(w:List UInt8)=>
   some (((Du x.Attrs Mt=MT)||((j=0)&&!(l=[])))||((j=1)&&!(w=[]))))=_
 cases decide (Du x.Attrs Mt=MT)
 ·by_cases q:j=0
  ·subst q
   cases A:decide (Du x.Attrs SY=[])<;>simp[A]
  ·by_cases u:j=1
   ·subst u;simp
   ·simp[q,u]
 ·simp
def Bi(f:List AD)(j:Int)(k:Nat):Bool:=!Ca f[k]! j||((k+1=f.length)&&(f[k]!.Char=10))
def shown(f:List AD)(j:Int)(k:Nat):List Int:=((List.range k).filter (Bi f j)).map λ(i:Nat)=>(i:Int)
theorem Ze f j k:shown f j (k+1)=if Bi f j k then shown f j k++[(k:Int)] else shown f j k:=by
 unfold shown
 rw[List.range_succ,za]
 split<;>rename_i h<;>simp[h]
theorem dL f j k:(shown f j k).length≤k:=by
 unfold shown
 rw[v7]
 exact wq (yh _ _) (by simp)
theorem tI(f:List AD) j(h:∀x∈f,EG x)(A:f.length≤1048576):Po f j=some (shown f j f.length):=by
 unfold Po
 obtain⟨b,u,w⟩:=EL (f:=λ(a:Int × (List Int))=>Mk f j a.1 a.2) f.length (λk s=>s=((k:Int),shown f j k)) (λb=>b=shown f j f.length)
  (λk s l q=>by
   subst q
   left
   have B:=dL f j k
   unfold Mk
   simp only
   rw[vh (by simpa using l),Aa l,AE,Ad (by omega),jF _ _ (h _ (BT l)),AE,Li (by omega) (by omega),R5 (by omega),Ze]
   unfold Bi
   generalize f[k]! = x
   refine⟨_,?_,rfl⟩
   have e:decide ((k:Int)=(f.length:Int)-1)=decide (k+1=f.length):=by rw[wc];simp;omega
   cases Ca x j
   ·simp
   ·simp only[zG,xh,An,AE,xW,e]
    cases ((k+1=f.length)&&(x.Char=10))<;>rfl)
  (λs q=>by
   subst q
   unfold Mk
   exact⟨_,by rw[vg (by simp)],rfl⟩) (s:=(0,[])) rfl
 rw[u,w];rfl
theorem fF(f:List AD) j(h:∀x∈f,EG x)(I:EJ f=0)(X:f.length≤1048576):I1 f j=some (shown f j f.length):=by
 unfold I1
 obtain⟨b,J,M⟩:=EL (f:=λ(a:Int × (List Int))=>MG f j a.1 a.2) f.length (λk s=>s=((k:Int),shown f j k)) (λb=>b=shown f j f.length)
  (λk s q w=>by
   subst w
   left
   have Y:=dL f j k
   have B:=eR (Nf I q)
   have u:=h _ (BT q)
   unfold MG
   simp only
   rw[vh (by simpa using q),Aa q,AE,Ad (by omega),Li (by omega) (by omega),R5 (by omega),Ze]
   unfold Bi
   generalize f[k]! = x at B u ⊢
   obtain⟨Z,n1,v1⟩:=F8 B
   have C:∀n,(Ar x.Attrs n).isSome=!(Du x.Attrs n=[]):=λn=>by
    rw[tj]
    cases O:Ar x.Attrs n with
    | none=>rfl
    | some y=>have:=v1 rfl y (Q5 O).2;simp[this]
   rw[fy _ _ u.1,Yz _ _ u.1,Yz _ _ u.1,AE,C,C]
   refine⟨_,?_,rfl⟩
   have e:decide ((k:Int)=(f.length:Int)-1)=decide (k+1=f.length):=by rw[wc];simp;omega
   have key:∀b:Bool,(AB (gd (b==false) (some ((f.length:Int)-1))) λ(T:Int)=>if(b||(((k:Int)=T)&&(x.Char=10)))=true then(AB (some (shown f j k++[(k:Int)])) λl=>some l) else some (shown f j k)) =
     some (if(b||((k+1=f.length)&&(x.Char=10)))=true then shown f j k++[(k:Int)] else shown f j k):=by
    intro b
    cases b
    ·simp only[xh,An,AE,e];split<;>rfl
    ·rfl
   simp only[key]
   clear key e
   unfold Ca Mt MT SY Uc
   generalize decide (k+1=f.length)=le
   generalize decide (x.Char=10)=ce
   generalize decide (Du x.Attrs [104,105,100,100,101,110]=[111,110])=A
   generalize decide (Du x.Attrs [99,117,116]=[])=U
   generalize decide (Du x.Attrs [97,100,100]=[])=V
   by_cases E:j=0
   ·subst E
    cases A<;>cases U<;>cases le<;>cases ce<;>simp
   ·by_cases F:j=1
    ·subst F
     cases A<;>cases V<;>cases le<;>cases ce<;>simp
    ·cases A<;>cases le<;>cases ce<;>simp[E,F])
  (λs w=>by
   subst w
   unfold MG
   exact⟨_,by rw[vg (by simp)],rfl⟩) (s:=(0,[])) rfl
 rw[J,M];rfl
theorem Ba{p}[Decidable p](h:¬ p):(!decide p)=true:=by simp[h]
theorem CM{p}[Decidable p](h:p):¬ ((!decide p)=true):=by simp[h]
def Co(l:List AC):Prop:=l.length≤1073741824∧G0 l
theorem Co.e{x:AD}(h:Co x.Attrs):EG x:=⟨by have:=h.1;omega,h.2⟩
structure H6(s:AI):Prop where
 at_:Co s.Attrs
 el:s.Elems.length≤1073741824
 ea:∀e∈s.Elems,Co e.Attrs
structure Ey(d:List AI):Prop where
 len:d.length≤1099511627776
 st:∀s∈d,H6 s
 sum:(d.map λs=>s.Elems.length).sum≤1073741824
theorem gT{f:List AD}(h:∀e∈f,Co e.Attrs):∀e∈f,EG e:=λe j=>(h e j).e
def Cs(s:AI):Int:=
 if s.Kind=1 then(if s.N≠0∨s.Attrs≠[] then 4 else if s.Elems=[] then 11 else EJ s.Elems)
 else if s.Kind=0∨s.Kind=2 then(if s.Elems≠[]∨(s.Kind=2∧s.Attrs≠[]) then 4 else if s.N<1∨2147483647<s.N then 2 else BC s.Attrs true)
 else 8
theorem T3{α:Type}[DecidableEq α](l:List α):decide (0<(l.length:Int))=!(l=[]):=by
 by_cases h:l=[]
 ·subst h;rfl
 ·have:=xy.2 h
  rw[vk h,vj (by omega)];rfl
theorem U5{α:Type}[DecidableEq α](l:List α):decide ((l.length:Int)=0)=decide (l=[]):=by
 by_cases h:l=[]
 ·subst h;rfl
 ·have:=xy.2 h
  rw[vk h,vk (by omega)]
theorem Xf:∀(j l r q:Bool),j=false∨l=false→(j&&(!l||r))=(j&&(!l||q)):=by decide
theorem UR(s:AI)(h:H6 s):Ly s=some (Cs s):=by
 have B:=h.at_.1
 have C:=h.el
 unfold Ly Cs
 rw[gW _ h.at_.2 (by omega),dA _ (gT h.ea) (by omega),T3,T3,U5]
 by_cases A:s.Kind=1
 ·have u:¬ s.Kind=0:=by omega
  have w:¬ s.Kind=2:=by omega
  simp only[A,AE]
  by_cases j:s.N=0<;>by_cases l:s.Attrs=[]<;>by_cases q:s.Elems=[]<;>simp[j,l,q]
 ·by_cases u:s.Kind=0
  ·simp only[u,AE]
   by_cases l:s.Attrs=[]<;>by_cases q:s.Elems=[]<;>by_cases j:s.N<1∨2147483647<s.N<;>simp[l,q,j]
  ·by_cases w:s.Kind=2
   ·simp only[w,AE]
    by_cases l:s.Attrs=[]<;>by_cases q:s.Elems=[]<;>by_cases j:s.N<1∨2147483647<s.N<;>simp[l,q,j]
   ·simp[u,A,w]
theorem tk(s:AI)(h:H6 s):Pc s=some (Cs s):=by
 have C:=h.at_.1
 have E:=h.el
 unfold Pc Cs
 rw[Rx _ _ h.at_.2 (by omega),fV _ (gT h.ea) (by omega),IL,IL,T3,T3,U5]
 by_cases u:s.Kind=1
 ·simp only[u,AE]
  by_cases j:s.N=0<;>by_cases l:s.Attrs=[]<;>by_cases q:s.Elems=[]<;>simp[j,l,q]
 ·have B:(!((1≤s.N)&&(s.N≤2147483647)))=decide (s.N<1∨2147483647<s.N):=by
   rw[wc];simp only[wl,yL,vi,xR];omega
  simp only[AE]
  rw[B]
  by_cases w:s.Kind=0
  ·simp only[w]
   by_cases l:s.Attrs=[]<;>by_cases q:s.Elems=[]<;>by_cases j:s.N<1∨2147483647<s.N<;>simp[l,q,j]
  ·by_cases A:s.Kind=2
   ·simp only[A]
    by_cases l:s.Attrs=[]<;>by_cases q:s.Elems=[]<;>by_cases j:s.N<1∨2147483647<s.N<;>simp[l,q,j]
   ·have:(!((0≤s.Kind)&&(s.Kind≤2)))=true:=by
     rw[wl,yL];simp only[vi,xR];omega
    rw[this];simp[w,u,A]
structure FO(s:AI):Prop where
 kind:(s.Kind=0∧s.Elems=[]∧1≤s.N∧s.N≤2147483647∧BC s.Attrs true=0)∨(s.Kind=2∧s.Elems=[]∧s.Attrs=[]∧1≤s.N∧s.N≤2147483647) ∨
  (s.Kind=1∧s.N=0∧s.Attrs=[]∧s.Elems≠[]∧EJ s.Elems=0)
theorem Pu{s:AI}(h:Cs s=0):FO s:=by
 constructor
 unfold Cs at h
 by_cases u:s.Kind=1
 ·rw[vh u] at h
  by_cases j:s.N≠0∨s.Attrs≠[]
  ·rw[vh j] at h;cases h
  ·rw[vg j] at h
   by_cases q:s.Elems=[]
   ·rw[vh q] at h;cases h
   ·rw[vg q] at h
    refine .inr (.inr ⟨u,?_,?_,q,h⟩)
    ·exact wM λl=>j (.inl l)
    ·exact wM λl=>j (.inr l)
 ·rw[vg u] at h
  by_cases k:s.Kind=0∨s.Kind=2
  ·rw[vh k] at h
   by_cases j:s.Elems≠[]∨(s.Kind=2∧s.Attrs≠[])
   ·rw[vh j] at h;cases h
   ·rw[vg j] at h
    by_cases q:s.N<1∨2147483647<s.N
    ·rw[vh q] at h;cases h
    ·rw[vg q] at h
     have w:s.Elems=[]:=wM λl=>j (.inl l)
     rcases k with k | k
     ·exact .inl ⟨k,w,by omega,by omega,h⟩
     ·exact .inr (.inl ⟨k,w,wM λl=>j (.inr ⟨k,l⟩),by omega,by omega⟩)
  ·rw[vg k] at h;cases h
def Dz(p s:AI):Bool:=((p.Kind=s.Kind)&&(!(s.Kind=0)||(p.Attrs=s.Attrs)))||((p.Kind=2)&&(s.Kind=1))
def By(s:AI):Int:=if s.Kind=1 then 0 else s.N
def Cr(s:AI):Int:=if s.Kind=2 then 0 else if s.Kind=1 then s.Elems.length else s.N
def Ax(d:List AI):Int:=(d.map By).sum
def BB(d:List AI):Int:=(d.map Cr).sum
theorem Tv{d:List AI}{k}(h:k<d.length):Ax (d.take (k+1))=Ax (d.take k)+By d[k]!:=by rw[Fi h];simp[Ax]
theorem T9{d:List AI}{k}(h:k<d.length):BB (d.take (k+1))=BB (d.take k)+Cr d[k]!:=by rw[Fi h];simp[BB]
def Eo(d:List AI)(k:Nat):Option Int:=if Cs d[k]!≠0 then some (Cs d[k]!) else if 0<k∧Dz d[k-1]! d[k]! = true then some 5 else none
def CY(d:List AI):Int:=match (List.range d.length).findSome? (Eo d) with
 | some e=>e
 | none=>if 2147483647<Ax d∨2147483647<BB d then 3 else 0
theorem fu{f:Int × Int × Int→Option ((Int × Int × Int) ⊕ (Au (Int × Int) Int))}(n:Nat)(g:Nat→Option Int)(I:Nat→Int × Int→Prop)
  (h:∀(k:Nat) (a b:Int),k<n→(∀j,j<k→g j=none)→I k (a,b)→(∃e,g k=some e∧f (a,b,(k:Int))=some (.inr (.ext e)))∨(g k=none∧∃A B,f (a,b,(k:Int))=some (.inl (A,B,((k+1:Nat):Int)))∧I (k+1) (A,B)))
  (q:∀(a b:Int),I n (a,b)→f (a,b,(n:Int))=some (.inr (.nrm (a,b)))) {a0 b0:Int} (O:I 0 (a0,b0)) :
  (∃e,(List.range n).findSome? g=some e∧iter f (a0,b0,0)=some (.ext e))∨((List.range n).findSome? g=none∧∃a b,I n (a,b)∧iter f (a0,b0,0)=some (.nrm (a,b))):=by
 obtain⟨b,E,T⟩:=EL (f:=f) n (λk s=>s.2.2=(k:Int)∧I k (s.1,s.2.1)∧∀j,j<k→g j=none)
  (λb=>(∃e,(List.range n).findSome? g=some e∧b=.ext e)∨((List.range n).findSome? g=none∧∃x y,I n (x,y)∧b=.nrm (x,y)))
  (λk s F C=>by
   obtain⟨x,y,z⟩:=s
   obtain⟨rfl,w,hg⟩:=C
   rcases h k x y F hg w with ⟨e,l,u⟩ | ⟨l,A,B,u,U⟩
   ·exact .inr ⟨_,u,.inl ⟨e,km F hg l,rfl⟩⟩
   ·refine .inl ⟨_,u,rfl,U,λj J=>?_⟩
    rcases yQ j k with M | M
    ·exact hg j M
    ·obtain rfl:j=k:=by omega
     exact l)
  (λs C=>by
   obtain⟨x,y,z⟩:=s
   obtain⟨rfl,w,hg⟩:=C
   exact⟨_,q x y w,.inr ⟨Z1 hg,x,y,w,rfl⟩⟩) (s:=(a0,b0,0)) ⟨rfl,O,λj J=>absurd J (zU _)⟩
 rcases T with ⟨e,l,rfl⟩ | ⟨l,x,y,u,rfl⟩
 ·exact .inl ⟨e,l,E⟩
 ·exact .inr ⟨l,x,y,u,E⟩
theorem SR{s:AI}(h:FO s)(j:H6 s):0≤By s∧By s≤2147483647∧0≤Cr s∧Cr s≤2147483647∧(s.Kind≠2→s.N+s.Elems.length=Cr s)∧(s.Kind≠2→Gx s=some (Cr s)):=by
 have u:=j.el
 unfold By Cr Gx
 rcases h.kind with ⟨k,e,l,q,_⟩ | ⟨k,e,_,l,q⟩ | ⟨k,n,_,_,_⟩
 ·rw[e];simp[k];omega
 ·rw[e];simp[k];omega
 ·simp[k,n];omega
theorem VI{d}{k}(h:Eo d k=none):Cs d[k]! = 0∧(0<k→Dz d[k-1]! d[k]! = false):=by
 unfold Eo at h
 by_cases c:Cs d[k]!≠0
 ·rw[vh c] at h;cases h
 ·rw[vg c] at h
  refine⟨wL.1 c,λj=>?_⟩
  cases l:Dz d[k-1]! d[k]! with
  | false=>rfl
  | true=>rw[vh ⟨j,l⟩] at h;cases h
theorem Ql(d:List AI)(h:Ey d):IR d=some (CY d):=by
 have hm:=h.len
 unfold IR CY
 rcases fu (f:=λ(a:Int × Int × Int)=>If d a.1 a.2.1 a.2.2) d.length (Eo d) (λk c=>0≤Ax (d.take k)∧0≤BB (d.take k)∧c=(min (Ax (d.take k)) 2147483648,min (BB (d.take k)) 2147483648))
  (λk a b B _ hI=>by
   obtain⟨p1,p2,M⟩:=hI
   cases M
   have C:=h.st _ (BT B)
   show(∃e,_∧If d (min (Ax (d.take k)) 2147483648) (min (BB (d.take k)) 2147483648) (k:Int)=_)∨(_∧∃a' b',If d (min (Ax (d.take k)) 2147483648) (min (BB (d.take k)) 2147483648) (k:Int)=_∧_)
   unfold If
   rw[vh (by simpa using B),Aa B,AE,UR _ C,AE]
   by_cases l:Cs d[k]!≠0
   ·exact .inl ⟨_,by unfold Eo;rw[vh l],by rw[vh (by simpa using l)];rfl⟩
   rw[vg (by simpa using l)]
   have hg:=Pu (wL.1 l)
   obtain⟨z1,z2,z3,z4,z5,z6⟩:=SR hg C
   have E:∀(β:Type) (F:Unit→Option (Au β ((Int × Int × Int) ⊕ (Au (Int × Int) Int)))),(At (if(decide ((0:Int)<(k:Int))) then(AB (AN .i64 ((k:Int)-1)) λ(x8:Int)=>AB (AM d x8) λ(O:AI)=>
     AB (gd (((decide (O.Kind=d[k]!.Kind))==true)&&((!(d[k]!.Kind=0))==false)) (G8 O.Attrs d[k]!.Attrs)) λ(r2:Bool)=>
     if(((O.Kind=d[k]!.Kind)&&((!(d[k]!.Kind=0))||r2))||((O.Kind=2)&&(d[k]!.Kind=1))) then(some (.ext (.ext (.inr (.ext 5))))) else(some (.nrm ()))) else(some (.nrm ()))) F) =
     if 0<k∧Dz d[k-1]! d[k]! = true then some (.ext (.inr (.ext 5))) else F ():=by
    intro β F
    by_cases q:0<k
    ·rw[vh (by simp;omega),FH q (by omega),AE,Aa (by omega),AE]
     have hp:=(h.st _ (BT (l:=d) (k:=k-1) (by omega))).at_.1
     have e:∀j:Bool→Option (Au Unit (Au β ((Int × Int × Int) ⊕ (Au (Int × Int) Int)))),(∀r,((d[k-1]!.Kind=d[k]!.Kind)&&((!(d[k]!.Kind=0))||r))=((d[k-1]!.Kind=d[k]!.Kind)&&((!(d[k]!.Kind=0))||(d[k-1]!.Attrs=d[k]!.Attrs)))→j r=j (decide (d[k-1]!.Attrs=d[k]!.Attrs))) →
       AB (gd (((decide (d[k-1]!.Kind=d[k]!.Kind))==true)&&((!(d[k]!.Kind=0))==false)) (G8 d[k-1]!.Attrs d[k]!.Attrs)) j=j (decide (d[k-1]!.Attrs=d[k]!.Attrs)):=by
      intro j X
      rw[Nv _ _ (by omega)]
      by_cases u:d[k-1]!.Kind=d[k]!.Kind<;>by_cases I:d[k]!.Kind=0
      ·rw[vj u,vj I];rfl
      ·rw[vj u,vk I]
       show j default=_
       exact X _ (Xf _ _ _ _ (.inr (vk I)))
      ·rw[vk u,vj I]
       show j default=_
       exact X _ (Xf _ _ _ _ (.inl (vk u)))
      ·rw[vk u,vk I]
       show j default=_
       exact X _ (Xf _ _ _ _ (.inl (vk u)))
     rw[e _ (λr hr=>by rw[hr])]
     by_cases A:Dz d[k-1]! d[k]! = true
     ·rw[vh (c:=(_||_)=true) (by unfold Dz at A;exact A),vh ⟨q,A⟩];rfl
     ·rw[vg (c:=(_||_)=true) (by unfold Dz at A;exact A),vg (λY=>A Y.2)];rfl
    ·rw[vg (by simp;omega),vg (λY=>q Y.1)];rfl
   rw[E]
   by_cases J:0<k∧Dz d[k-1]! d[k]! = true
   ·exact .inl ⟨5,by unfold Eo;rw[vg l,vh J],by rw[vh J];rfl⟩
   ·rw[vg J]
    refine .inr ⟨by unfold Eo;rw[vg l,vg J],?_⟩
    rw[Tv B,T9 B]
    clear E l J
    generalize Ax (d.take k)=o at p1 ⊢
    generalize BB (d.take k)=w at p2 ⊢
    by_cases T:d[k]!.Kind=1
    ·have U:By d[k]! = 0:=by unfold By;rw[vh T]
     rw[vg (CM T),AE,vh (Ba (by omega)),z6 (by omega),AE,Bz (by omega) (by omega),AE,Fm,Ad (by omega),AE]
     exact⟨_,_,rfl,by omega,by omega,by rw[U];congr 1<;>omega⟩
    ·have U:By d[k]! = d[k]!.N:=by unfold By;rw[vg T]
     rw[vh (Ba T),Bz (by omega) (by omega),AE,AE]
     by_cases V:d[k]!.Kind=2
     ·have hw:Cr d[k]! = 0:=by unfold Cr;rw[vh V]
      rw[vg (CM V),Fm,Ad (by omega),AE]
      exact⟨_,_,rfl,by omega,by omega,by rw[hw,← U];congr 1<;>omega⟩
     ·rw[vh (Ba V),z6 V,AE,Bz (by omega) (by omega),AE,Fm,Ad (by omega),AE]
      exact⟨_,_,rfl,by omega,by omega,by rw[← U];congr 1<;>omega⟩)
  (λa b hI=>by
   show If d a b (d.length:Int)=_
   unfold If
   rw[vg (by simp)]) (a0:=0) (b0:=0) ⟨by simp[Ax],by simp[BB],by simp[Ax,BB];decide⟩ with ⟨e,Z,h2⟩ | ⟨Z,a,b,⟨_,_,M⟩,h2⟩
 ·rw[Z,h2];rfl
 ·rw[Z,h2,Fm]
  rw[xf] at M
  cases M
  by_cases hx:2147483647<Ax d∨2147483647<BB d
  ·rw[vh (by simp;omega)];simp only;rw[vh hx]
  ·rw[vg (by simp;omega)];simp only;rw[vg hx]
theorem mW(p s:AI)(hp:p.Kind=0∨p.Kind=1∨p.Kind=2)(u:p.Attrs.length≤1073741824)(l:s.Kind=0∨s.Kind=1∨s.Kind=2){γ:Type}(A B:Option γ) :
  (if(decide (s.Kind=1)) then(if(!(p.Kind=0)) then A else B) else(if(decide (s.Kind=2)) then(if(decide (p.Kind=2)) then A else B) else
   (AB (gd ((decide (p.Kind=0))==true) (Hi p.Attrs s.Attrs)) λ(q:Bool)=>if((p.Kind=0)&&q) then A else B)))=if Dz p s=true then A else B:=by
 rw[Rd _ _ (by omega)]
 unfold Dz
 rcases l with k | k | k<;>rcases hp with j | j | j<;>simp[k,j,default]
theorem Jc{s:AI}(h:FO s):s.Kind=0∨s.Kind=1∨s.Kind=2:=by
 rcases h.kind with ⟨k,_⟩ | ⟨k,_⟩ | ⟨k,_⟩
 ·exact .inl k
 ·exact .inr (.inr k)
 ·exact .inr (.inl k)
theorem tg(d:List AI)(h:Ey d):L8 d=some (CY d):=by
 have hm:=h.len
 unfold L8 CY
 rcases fu (f:=λ(a:Int × Int × Int)=>Iq d a.1 a.2.1 a.2.2) d.length (Eo d)
  (λk c=>0≤Ax (d.take k)∧0≤BB (d.take k)∧(Ax (d.take k)≤2147483647→c.1=Ax (d.take k))∧(2147483647<Ax (d.take k)→2147483647<c.1)∧0≤c.1∧c.1≤4294967296 ∧
   (BB (d.take k)≤2147483647→c.2=BB (d.take k))∧(2147483647<BB (d.take k)→2147483647<c.2)∧0≤c.2∧c.2≤4294967296)
  (λk a b A B C=>by
   obtain⟨p1,p2,q1,q2,q3,q4,q5,q6,q7,q8⟩:=C
   dsimp only at q1 q2 q3 q4 q5 q6 q7 q8
   have E:=h.st _ (BT A)
   show(∃e,_∧Iq d a b (k:Int)=_)∨(_∧∃a' b',Iq d a b (k:Int)=_∧_)
   unfold Iq
   rw[vh (by simpa using A),Aa A,AE,tk _ E,AE]
   by_cases j:Cs d[k]!≠0
   ·exact .inl ⟨_,by unfold Eo;rw[vh j],by rw[vh (Ba j)];rfl⟩
   rw[vg (CM (wL.1 j))]
   have hg:=Pu (wL.1 j)
   obtain⟨z1,z2,z3,z4,z5,z6⟩:=SR hg E
   have I:∀(β:Type) (F:Unit→Option (Au β ((Int × Int × Int) ⊕ (Au (Int × Int) Int)))),(At (if(decide ((0:Int)<(k:Int))) then(AB (AN .i64 ((k:Int)-1)) λ(x7:Int)=>AB (AM d x7) λ(J:AI)=>
      if(decide (d[k]!.Kind=1)) then(
       if(!(J.Kind=0)) then(
        some (.ext (.ext (.inr (.ext 5))))
       ) else(
        some (.nrm ())
       )
      ) else(
       if(decide (d[k]!.Kind=2)) then(
        if(decide (J.Kind=2)) then(
         some (.ext (.ext (.inr (.ext 5))))
        ) else(
         some (.nrm ())
        )
       ) else(
        AB (gd ((decide (J.Kind=0))==true) (Hi J.Attrs d[k]!.Attrs)) λ(M:Bool)=>
        if((J.Kind=0)&&M) then(
         some (.ext (.ext (.inr (.ext 5))))
        ) else(
         some (.nrm ())
        )
       )
      )) else(some (.nrm ()))) F) =
     if 0<k∧Dz d[k-1]! d[k]! = true then some (.ext (.inr (.ext 5))) else F ():=by
    intro β F
    by_cases l:0<k
    ·rw[vh (by rw[vi];omega),FH l (by omega),AE,Aa (by omega),AE]
     have hp:=(h.st _ (BT (l:=d) (k:=k-1) (by omega))).at_.1
     have Y:=Jc (Pu (VI (B (k-1) (by omega))).1)
     rw[mW _ _ Y hp (Jc hg)]
     by_cases q:Dz d[k-1]! d[k]! = true
     ·rw[vh q,vh ⟨l,q⟩];rfl
     ·rw[vg q,vg (λZ=>q Z.2)];rfl
    ·rw[vg (by rw[vi];omega),vg (λZ=>l Z.1)];rfl
   rw[I]
   by_cases O:0<k∧Dz d[k-1]! d[k]! = true
   ·exact .inl ⟨5,by unfold Eo;rw[vg j,vh O],by rw[vh O];rfl⟩
   ·rw[vg O]
    refine .inr ⟨by unfold Eo;rw[vg j,vg O],?_⟩
    rw[Tv A,T9 A]
    clear I j O
    generalize Ax (d.take k)=o at p1 q1 q2 ⊢
    generalize BB (d.take k)=w at p2 q5 q6 ⊢
    have T:∃u,(if((!(d[k]!.Kind=1))&&(a<2147483648)) then(AB (AN .i64 (a+d[k]!.N)) λ(U:Int)=>some U) else some a)=some u∧(o+By d[k]!≤2147483647→u=o+By d[k]!)∧(2147483647<o+By d[k]!→2147483647<u)∧0≤u∧u≤4294967296:=by
     by_cases V:d[k]!.Kind=1
     ·have ho:By d[k]! = 0:=by unfold By;rw[vh V]
      rw[vg (by rw[vm];exact λh=>CM V h.1)]
      exact⟨a,rfl,by omega,by omega,by omega,by omega⟩
     ·have ho:By d[k]! = d[k]!.N:=by unfold By;rw[vg V]
      by_cases ha:a<2147483648
      ·rw[vh (by rw[vm];exact⟨Ba V,vj ha⟩),Bz (by omega) (by omega),AE]
       exact⟨_,rfl,by omega,by omega,by omega,by omega⟩
      ·rw[vg (by rw[vm];exact λh=>ha (yE h.2))]
       exact⟨a,rfl,by omega,by omega,by omega,by omega⟩
    obtain⟨u,e1,M,r2,r3,r4⟩:=T
    rw[e1,AE]
    by_cases X:d[k]!.Kind=2
    ·have hw:Cr d[k]! = 0:=by unfold Cr;rw[vh X]
     rw[vg (by rw[vm];exact λh=>CM X h.1),Fm,Ad (by omega),AE]
     exact⟨_,_,rfl,by omega,by omega,M,r2,r3,r4,by dsimp only;omega,by dsimp only;omega,by dsimp only;omega,by dsimp only;omega⟩
    ·have hN:=z5 X
     by_cases q:b<2147483648
     ·rw[vh (by rw[vm];exact⟨Ba X,vj q⟩),Bz (by omega) (by omega),AE,Bz (by omega) (by omega),AE,Fm,Ad (by omega),AE]
      exact⟨_,_,rfl,by omega,by omega,M,r2,r3,r4,by dsimp only;omega,by dsimp only;omega,by dsimp only;omega,by dsimp only;omega⟩
     ·rw[vg (by rw[vm];exact λh=>q (yE h.2)),Fm,Ad (by omega),AE]
      exact⟨_,_,rfl,by omega,by omega,M,r2,r3,r4,by dsimp only;omega,by dsimp only;omega,by dsimp only;omega,by dsimp only;omega⟩)
  (λa b C=>by
   show Iq d a b (d.length:Int)=_
   unfold Iq
   rw[vg (by simp)]) (a0:=0) (b0:=0) ⟨by simp[Ax],by simp[BB],by simp[Ax],by simp[Ax],by simp,by simp,by simp[BB],by simp[BB],by simp,by simp⟩ with ⟨e,h1,h2⟩ | ⟨h1,a,b,C,h2⟩
 ·rw[h1,h2];rfl
 ·rw[h1,h2,Fm]
  rw[xf] at C
  dsimp only at C
  by_cases hx:2147483647<Ax d∨2147483647<BB d
  ·rw[vh (by simp;omega)];simp only;rw[vh hx]
  ·rw[vg (by simp;omega)];simp only;rw[vg hx]
inductive Un where
 | a (e:AD)
 | r (cut:Bool) (at_:List AC)
def En:List (List AD)→List Bool→List (List AC)→List Un
 | A::j,c::l,t::q=>A.map Un.a++Un.r c t::En j l q
 | A::_,_,_=>A.map Un.a
 | [],_,_=>[]
structure Dh(x:Bh):Prop where
 adds:x.Adds.length=x.Cuts.length+1
 attrs:x.Attrs.length=x.Cuts.length
def Bh.us(x:Bh):List Un:=En x.Adds x.Cuts x.Attrs
def Un.isR:Un→Bool
 | .a _=>false
 | .r _ _=>true
def Ao(us:List Un):Nat:=us.countP Un.isR
theorem dV:∀(cs:List Bool) (j:List (List AD)) (l:List (List AC)) (c:Bool) (t:List AC),j.length=cs.length+1→l.length=cs.length →
  En (j++[[]]) (cs++[c]) (l++[t])=En j cs l++[.r c t]
 | [],[A],[],c,t,_,_=>by simp[En]
 | [],[],_,_,_,h,_=>by simp at h
 | [],_::_::_,_,_,_,h,_=>by simp at h
 | [],_,_::_,_,_,_,h=>by simp at h
 | B::cs,A::j,t0::l,c,t,q,u=>by
  have w:=dV cs j l c t (by simpa using q) (by simpa using u)
  simp only[wF,En,w,vy]
 | _::_,[],_,_,_,h,_=>by simp at h
 | _::_,_,[],_,_,_,h=>by simp at h
theorem Ye:∀(cs:List Bool) (j:List (List AD)) (l:List (List AC)) (A q:List AD),j.length=cs.length+1→l.length=cs.length→j[cs.length]?=some A →
  En (j.set cs.length (A++q)) cs l=En j cs l++q.map Un.a
 | [],[u],[],A,q,_,_,h=>by
  simp at h;subst h
  simp[En]
 | [],[],_,_,_,h,_,_=>by simp at h
 | [],_::_::_,_,_,_,h,_,_=>by simp at h
 | [],_,_::_,_,_,_,h,_=>by simp at h
 | F::cs,u::j,t0::l,A,q,w,B,C=>by
  have E:=Ye cs j l A q (by simpa using w) (by simpa using B) (by simpa using C)
  simp only[v6,zb,En,E,vy,wF]
 | _::_,[],_,_,_,h,_,_=>by simp at h
 | _::_,_,[],_,_,_,h,_=>by simp at h
theorem Y3:∀(cs:List Bool) (j:List (List AD)) (q:List (List AC)),j.length=cs.length+1→q.length=cs.length→Ao (En j cs q)=cs.length
 | [],[A],[],_,_=>by
  have:∀l:List AD,Ao (l.map Un.a)=0:=λl=>by induction l with
   | nil=>rfl
   | cons x l u=>simp[Ao,Un.isR]
  exact this A
 | [],[],_,h,_=>by simp at h
 | [],_::_::_,_,h,_=>by simp at h
 | [],_,_::_,_,h=>by simp at h
 | C::cs,E::j,t0::q,w,B=>by
  have u:=Y3 cs j q (by simpa using w) (by simpa using B)
  have:∀l:List AD,(l.map Un.a).countP Un.isR=0:=λl=>by induction l with
   | nil=>rfl
   | cons x l u=>simp[Un.isR]
  simp only[Ao,En,List.countP_append,this,xF,Un.isR,xZ,wK,v6] at u ⊢
  omega
 | _::_,[],_,h,_=>by simp at h
 | _::_,_,[],_,h=>by simp at h
theorem ZG:∀(cs:List Bool) (j:List (List AD)) (l:List (List AC)),j.length=cs.length+1→l.length=cs.length→∀A∈j,A.length≤(En j cs l).length
 | [],[A],[],_,_=>by simp[En]
 | [],[],_,h,_=>by simp at h
 | [],_::_::_,_,h,_=>by simp at h
 | [],_,_::_,_,h=>by simp at h
 | B::cs,C::j,t0::l,q,u=>by
  have w:=ZG cs j l (by simpa using q) (by simpa using u)
  intro A hA
  simp only[En,vw,v7,v6]
  rcases wC.1 hA with rfl | hA
  ·omega
  ·have:=w A hA;omega
 | _::_,[],_,h,_=>by simp at h
 | _::_,_,[],_,h=>by simp at h
theorem rN(us:List Un):Ao us≤us.length:=yN
theorem Dh.cnt{x:Bh}(h:Dh x):Ao x.us=x.Cuts.length:=Y3 _ _ _ h.adds h.attrs
theorem Dh.cuts_le{x:Bh}(h:Dh x):x.Cuts.length≤x.us.length:=by rw[← h.cnt];exact rN _
theorem Dh.add_le{x:Bh}(h:Dh x){k}(j:k<x.Adds.length):x.Adds[k]!.length≤x.us.length:=ZG _ _ _ h.adds h.attrs _ (BT j)
theorem rT:Dh ⟨[[]],[],[]⟩:=⟨rfl,rfl⟩
theorem nh:(⟨[[]],[],[]⟩:Bh).us=[]:=rfl
theorem YF{x:Bh}(h:Dh x) c t:Dh ⟨x.Adds++[[]],x.Cuts++[c],x.Attrs++[t]⟩∧(⟨x.Adds++[[]],x.Cuts++[c],x.Attrs++[t]⟩:Bh).us=x.us++[.r c t]:=
 ⟨⟨by simp[h.adds],by simp[h.attrs]⟩,dV _ _ _ _ _ h.adds h.attrs⟩
theorem aI{x:Bh}(h:Dh x)(j:List AD):Dh ⟨x.Adds.set x.Cuts.length (x.Adds[x.Cuts.length]!++j),x.Cuts,x.Attrs⟩∧(⟨x.Adds.set x.Cuts.length (x.Adds[x.Cuts.length]!++j),x.Cuts,x.Attrs⟩:Bh).us=x.us++j.map Un.a:=by
 refine⟨⟨by simp[h.adds],h.attrs⟩,Ye _ _ _ _ _ h.adds h.attrs ?_⟩
 have:x.Cuts.length<x.Adds.length:=by rw[h.adds];omega
 rw[vo this,vr x.Adds _ this]
theorem pG{x:Bh}(h:Dh x)(j:x.Cuts.length≤9223372036854775806):AN .i64 ((x.Adds.length:Int)-1)=some ((x.Cuts.length:Nat):Int):=by
 rw[h.adds,Bz (by omega) (by omega)];congr 1;omega
theorem ap{α:Type}{o:List α}{x}(h:o.length+1≤1099511627776):app 24 o [x]=some (o++[x]):=by
 unfold app;rw[vh];simp only[wg];omega
theorem jN{α:Type}{o:List α}{x}(h:o.length+1≤1099511627776):app 1 o [x]=some (o++[x]):=by
 unfold app;rw[vh];simp only[wg];omega
theorem Hq{α:Type}{o:List α}{x}(h:o.length+1≤1099511627776):app 64 o [x]=some (o++[x]):=by
 unfold app;rw[vh];simp only[wg];omega
theorem HF{α:Type}{o xs:List α}(h:o.length+xs.length≤1099511627776):app 40 o xs=some (o++xs):=by
 unfold app;rw[vh];omega
theorem TA{α:Type}{l:List α}{k:Nat}{x:α} : l.set ((k:Int).toNat) x=l.set k x:=by simp
def BG(s:AI):List Un:=if s.Kind=1 then s.Elems.map Un.a else List.replicate s.N.toNat (.r (decide (s.Kind=2)) s.Attrs)
def Ag(d:List AI):List Un:=d.flatMap BG
theorem SM s d:Ag (s::d)=BG s++Ag d:=rfl
theorem WP{d:List AI}{k}(h:k<d.length):Ag (d.take (k+1))=Ag (d.take k)++BG d[k]!:=by
 rw[Fi h];simp[Ag]
theorem kJ(d:List AI) k:(Ag (d.take k)).length≤(Ag d).length:=by
 have:Ag d=Ag (d.take k)++Ag (d.drop k):=by
  conv=>lhs;rw[← xo k d]
  unfold Ag;rw[List.flatMap_append]
 rw[this,vw];omega
theorem sE(s:AI)(x:Bh)(h:Dh x)(u:0≤s.N)(w:x.us.length+s.N.toNat≤4294967296) :
  ∃o,iter (λ(a:Int × Bh)=>Je s a.1 a.2) (0,x)=some o∧∃y,o=.ext y∧Dh y∧y.us=x.us++List.replicate s.N.toNat (.r (decide (s.Kind=2)) s.Attrs):=by
 refine EL s.N.toNat (λk q=>q.1=(k:Int)∧Dh q.2∧q.2.us=x.us++List.replicate k (.r (decide (s.Kind=2)) s.Attrs)) _ ?_ ?_ ⟨rfl,h,by simp⟩
 ·rintro k ⟨i,y⟩ A ⟨rfl,j,l⟩
  dsimp only at j l
  refine .inl ⟨(((k+1:Nat):Int),⟨y.Adds++[[]],y.Cuts++[decide (s.Kind=2)],y.Attrs++[s.Attrs]⟩),?_,rfl,(YF j _ _).1,(YF j _ _).2.trans (by rw[l,vy,← yr])⟩
  have B:y.us.length=x.us.length+k:=by rw[l];simp
  have C:=j.cuts_le
  have E:=j.adds
  have F:=j.attrs
  show Je s (k:Int) y=_
  unfold Je
  rw[vh (by simp;omega),ap (by omega),AE,jN (by omega),AE,ap (by omega),AE,Ad (by omega),AE]
 ·rintro⟨i,y⟩ ⟨rfl,j,l⟩
  dsimp only at j l
  refine⟨_,?_,y,rfl,j,l⟩
  show Je s (s.N.toNat:Int) y=_
  unfold Je
  rw[vg (by simp;omega)]
theorem kx(d:List AI)(I:∀s∈d,0≤s.N)(O:d.length≤4294967296)(T:(Ag d).length≤4294967296):∃x,Nk d=some x∧Dh x∧x.us=Ag d:=by
 unfold Nk
 have key:∃x,iter (λ(a:Int × Bh)=>Jl d a.1 a.2) (0,⟨[[]],[],[]⟩)=some x∧(Dh x∧x.us=Ag d):=by
  refine EL d.length (λk B=>B.1=(k:Int)∧Dh B.2∧B.2.us=Ag (d.take k)) _ ?_ ?_ ⟨rfl,rT,nh⟩
  ·rintro k ⟨i,y⟩ q ⟨rfl,j,l⟩
   dsimp only at j l
   have C:y.us.length+(BG d[k]!).length≤4294967296:=by
    have:=kJ d (k+1)
    rw[WP q,vw] at this
    rw[l];omega
   have U:=j.cuts_le
   have V:=j.adds
   refine .inl ?_
   show ∃X,Jl d (k:Int) y=_∧_
   unfold Jl
   rw[vh (by simpa using q),Aa q]
   simp only[AE]
   by_cases A:d[k]!.Kind=1
   ·have u:BG d[k]! = d[k]!.Elems.map Un.a:=by unfold BG;rw[vh A]
    rw[u,v7] at C
    have w:y.Cuts.length<y.Adds.length:=by omega
    have hA:=j.add_le w
    rw[vh (by simpa using A),pG j (by omega),AE,Aa w,AE,HF (by rw[yO];omega),AE,yc,HF (by omega),AE,AE,Ad (by omega),AE,TA]
    exact⟨_,rfl,rfl,(aI j _).1,(aI j _).2.trans (by rw[WP q,l,u])⟩
   ·have u:BG d[k]! = List.replicate d[k]!.N.toNat (.r (decide (d[k]!.Kind=2)) d[k]!.Attrs):=by unfold BG;rw[vg A]
    rw[u,wZ] at C
    obtain⟨o,E,z,F,J,M⟩:=sE d[k]! y j (I _ (BT q)) C
    subst F
    rw[vg (by simpa using A),E,Xw,AE,Ad (by omega),AE]
    exact⟨_,rfl,rfl,J,by rw[WP q,← l,u];exact M⟩
  ·rintro⟨i,y⟩ ⟨rfl,j,l⟩
   dsimp only at j l
   refine⟨y,?_,j,by rw[l,xf]⟩
   show Jl d (d.length:Int) y=_
   unfold Jl
   rw[vg (by simp)]
 obtain⟨x,E,F⟩:=key
 exact⟨x,by rw[E];rfl,F⟩
def CJ:List Un→List Un→List Un
 | .a e::j,l=>.a e::CJ j l
 | j,.a _::l=>.r false []::CJ j l
 | .r q u::j,.r w A::l=>if w then CJ j l else .r q (E2 u A)::CJ j l
 | [],.r _ _::_=>[]
 | .r _ _::_,[]=>[]
 | [],[]=>[]
  termination_by j l=>j.length+l.length
def Ck:List Un→List Un→List Un
 | .a _::j,l=>.r false []::Ck j l
 | j,.a e::l=>.a e::Ck j l
 | .r q _::j,.r u w::l=>if q then Ck j l else .r u w::Ck j l
 | [],.r _ _::_=>[]
 | .r _ _::_,[]=>[]
 | [],[]=>[]
  termination_by j l=>j.length+l.length
def Mr(us:List Un):Prop:=∀e j,us≠.a e::j
theorem YH(A:List AD) us vs:CJ (A.map Un.a++us) vs=A.map Un.a++CJ us vs:=by
 induction A with
 | nil=>rfl
 | cons e A j=>simp only[wB,wF];rw[CJ,j]
theorem sR(A:List AD) us vs:Ck (A.map Un.a++us) vs=List.replicate A.length (.r false [])++Ck us vs:=by
 induction A with
 | nil=>rfl
 | cons e A j=>simp only[wB,wF,v6,wP];rw[Ck,j]
theorem gO(B:List AD)(us vs:List Un)(h:Mr us):CJ us (B.map Un.a++vs)=List.replicate B.length (.r false [])++CJ us vs:=by
 induction B with
 | nil=>rfl
 | cons e B j=>
  simp only[wB,wF,v6,wP]
  rw[← j]
  match us,h with
  | [],_=>rw[CJ];intro _ _ h;cases h
  | .r c t::us,_=>rw[CJ];intro _ _ h;cases h
  | .a e::us,h=>exact absurd rfl (h e us)
theorem YM(B:List AD)(us vs:List Un)(h:Mr us):Ck us (B.map Un.a++vs)=B.map Un.a++Ck us vs:=by
 induction B with
 | nil=>rfl
 | cons e B j=>
  simp only[wB,wF]
  rw[← j]
  match us,h with
  | [],_=>rw[Ck];intro _ _ h;cases h
  | .r c t::us,_=>rw[Ck];intro _ _ h;cases h
  | .a e::us,h=>exact absurd rfl (h e us)
theorem Zu:Mr []:=λ_ _ h=>by cases h
theorem gV:∀(us vs:List Un),(CJ us vs).length≤us.length+vs.length:=by
 intro us vs
 fun_induction CJ us vs<;>simp_all<;>omega
theorem Vo:∀(us vs:List Un),(Ck us vs).length≤us.length+vs.length:=by
 intro us vs
 fun_induction Ck us vs<;>simp_all<;>omega
def Bh.from_(x:Bh)(k:Nat):List Un:=En (x.Adds.drop k) (x.Cuts.drop k) (x.Attrs.drop k)
theorem XD{x:Bh}(h:Dh x){k}(j:k<x.Cuts.length):x.from_ k=x.Adds[k]!.map Un.a++.r x.Cuts[k]! x.Attrs[k]!::x.from_ (k+1):=by
 unfold Bh.from_
 have l:=h.adds
 have q:=h.attrs
 rw[Hd (l:=x.Adds) (by omega),Hd (l:=x.Cuts) j,Hd (l:=x.Attrs) (by omega),En]
theorem nS{x:Bh}(h:Dh x):x.from_ x.Cuts.length=x.Adds[x.Cuts.length]!.map Un.a:=by
 unfold Bh.from_
 have j:=h.adds
 rw[Hd (l:=x.Adds) (by omega),zK]
 cases x.Adds.drop (x.Cuts.length+1)<;>rfl
structure DS where
 out:List AI
 adds:List AD
 cuts:Nat
def BJ(s:DS):List AI:=(if 0<s.adds.length then s.out++[⟨1,0,[],s.adds⟩] else s.out)++(if 0<s.cuts then [⟨2,s.cuts,[],[]⟩] else [])
def Gq(l:List AI)(t:List AC):List AI:=
 if 0<l.length∧l[l.length-1]!.Kind=0∧l[l.length-1]!.Attrs=t then l.set (l.length-1) ⟨l[l.length-1]!.Kind,l[l.length-1]!.N+1,l[l.length-1]!.Attrs,l[l.length-1]!.Elems⟩
 else l++[⟨0,1,t,[]⟩]
def dU(s:DS):Un→DS
 | .a e=>⟨s.out,s.adds++[e],s.cuts⟩
 | .r true _=>⟨s.out,s.adds,s.cuts+1⟩
 | .r false t=>⟨Gq (BJ s) t,[],0⟩
def BN(us:List Un):List AI:=BJ (us.foldl dU ⟨[],[],0⟩)
theorem pL(A:List AD):∀s:DS,(A.map Un.a).foldl dU s=⟨s.out,s.adds++A,s.cuts⟩:=by
 induction A with
 | nil=>intro s;simp
 | cons e A j=>intro s;simp only[wB,wT];rw[j];simp[dU]
theorem pB(x:Bh)(k:Nat)(h:Dh x)(l:k≤x.Cuts.length):∃p,x.us=p++x.from_ k:=by
 induction k with
 | zero=>exact⟨[],rfl⟩
 | succ k j=>
  obtain⟨p,hp⟩:=j (by omega)
  rw[XD h (by omega)] at hp
  exact⟨p++(x.Adds[k]!.map Un.a++[.r x.Cuts[k]! x.Attrs[k]!]),by rw[hp];simp⟩
theorem mh{l:List AI}(h:0<l.length)(j:l.length≤9223372036854775807):AN .i64 ((l.length:Int)-1)=some ((l.length-1:Nat):Int):=by
 rw[Bz (by omega) (by omega)];congr 1;omega
structure Rg(d:List AI):Prop where
 st:∀s∈d,FO s
 ord:∀k,0<k→k<d.length→Dz d[k-1]! d[k]! = false
 olds:Ax d≤2147483647
 nows:BB d≤2147483647
theorem iM{d}{k}{r}(h:Eo d k=some r):r≠0:=by
 unfold Eo at h
 split at h
 ·rename_i j;cases h;exact j
 ·split at h
  ·cases h;decide
  ·cases h
theorem L2{d:List AI}(h:CY d=0):Rg d:=by
 cases l:(List.range d.length).findSome? (Eo d) with
 | some e=>
  unfold CY at h
  rw[l] at h
  simp only at h
  subst h
  obtain⟨x,_,q⟩:=xE l
  exact absurd rfl (iM q)
 | none=>
  unfold CY at h
  rw[l] at h
  simp only at h
  rw[wx] at l
  have hg:∀k,k<d.length→Eo d k=none:=λk j=>l k (wU.2 j)
  by_cases u:2147483647<Ax d∨2147483647<BB d
  ·rw[vh u] at h;cases h
  ·refine⟨λs w=>?_,λk A j=>(VI (hg k j)).2 A,by omega,by omega⟩
   obtain⟨k,j,rfl⟩:=ww.1 w
   rw[← vr d k j]
   exact Pu (VI (hg k j)).1
theorem IH s d:Ax (s::d)=By s+Ax d:=by simp[Ax]
theorem I9 s d:BB (s::d)=Cr s+BB d:=by simp[BB]
theorem gQ{d}(h:∀s∈d,FO s)(l:∀s∈d,H6 s):0≤Ax d∧0≤BB d:=by
 induction d with
 | nil=>simp[Ax,BB]
 | cons s d q=>
  obtain⟨u,w⟩:=q (λx j=>h x (vp _ j)) (λx j=>l x (vp _ j))
  obtain⟨A,B,z3,z4,_⟩:=SR (h s (vn ..)) (l s (vn ..))
  rw[IH,I9];omega
theorem uQ(d:List AI) k:Ax d=Ax (d.take k)+Ax (d.drop k)∧BB d=BB (d.take k)+BB (d.drop k):=by
 have e:d=d.take k++d.drop k:=(xo k d).symm
 constructor
 ·conv=>lhs;rw[e]
  unfold Ax;rw[yF,List.sum_append]
 ·conv=>lhs;rw[e]
  unfold BB;rw[yF,List.sum_append]
theorem Z8{d:List AI}(h:Rg d)(l:Ey d) k:0≤Ax (d.take k)∧Ax (d.take k)≤2147483647∧0≤BB (d.take k)∧BB (d.take k)≤2147483647∧0≤Ax (d.drop k)∧0≤BB (d.drop k):=by
 obtain⟨q,u⟩:=gQ (d:=d.take k) (λs j=>h.st s (xG j)) (λs j=>l.st s (xG j))
 obtain⟨w,A⟩:=gQ (d:=d.drop k) (λs j=>h.st s (xt j)) (λs j=>l.st s (xt j))
 obtain⟨B,e2⟩:=uQ d k
 have:=h.olds
 have:=h.nows
 omega
theorem S1(d:List AI)(u:Ey d)(h:Rg d):Jy d=some (Ax d,BB d):=by
 unfold Jy
 have U:=u.len
 have key:∃r,iter (λ(a:Int × Int × Int)=>JC d a.1 a.2.1 a.2.2) (0,0,0)=some r∧r=(Ax d,BB d):=by
  refine EL d.length (λk A=>A=(Ax (d.take k),BB (d.take k),(k:Int))) _ ?_ ?_ (by simp[Ax,BB])
  ·rintro k A j rfl
   obtain⟨E,F,I,J,_⟩:=Z8 h u k
   obtain⟨V,X,z3,z4,z5,C⟩:=SR (h.st _ (BT j)) (u.st _ (BT j))
   refine .inl ⟨_,?_,rfl⟩
   show JC d (Ax (d.take k)) (BB (d.take k)) (k:Int)=_
   unfold JC
   rw[vh (by simpa using j),Aa j,AE,Tv j,T9 j]
   generalize Ax (d.take k)=o at E F ⊢
   generalize BB (d.take k)=w at I J ⊢
   by_cases l:d[k]!.Kind=1
   ·have B:By d[k]! = 0:=by unfold By;rw[vh l]
    rw[vg (CM l),AE,vh (Ba (by omega)),C (by omega),AE,Bz (by omega) (by omega),AE,CB,Ad (by omega),AE,B,Int.add_zero]
   ·have B:By d[k]! = d[k]!.N:=by unfold By;rw[vg l]
    rw[vh (Ba l),Bz (by omega) (by omega),AE,AE,B]
    by_cases q:d[k]!.Kind=2
    ·have M:Cr d[k]! = 0:=by unfold Cr;rw[vh q]
     rw[vg (CM q),CB,Ad (by omega),AE,M,Int.add_zero]
    ·rw[vh (Ba q),C q,AE,Bz (by omega) (by omega),AE,CB,Ad (by omega),AE]
  ·rintro A rfl
   refine⟨(Ax d,BB d),?_,rfl⟩
   rw[xf]
   show JC d _ _ (d.length:Int)=_
   unfold JC
   rw[vg (by simp)]
 obtain⟨r,O,T⟩:=key
 rw[O,T];rfl
theorem RF{α β:Type}[Inhabited α]{f}(l:List α)(g:α→β)(z:β)
 (h:∀(k:Nat) (out:List β), k<l.length→out.length=l.length→f ((k:Int), out)=some (.inl (((k+1:Nat):Int), out.set k (g l[k]!)))) (j:∀out, f ((l.length:Int), out)=some (.inr out)) :
    iter f (0, List.replicate l.length z)=some (l.map g) := by
  have key:∃r, iter f (0, List.replicate l.length z)=some r∧r=l.map g := by
    refine EL l.length (λk q => q=((k:Int), (l.take k).map g++List.replicate (l.length - k) z)) _ ?_ ?_ (by simp)
    · rintro k q u rfl
      refine .inl ⟨_, h k _ u (by simp;omega), ?_⟩
      congr 1
      obtain⟨m, w⟩:∃m, l.length - k=m+1 := ⟨l.length - k - 1, by omega⟩
      rw[w, wP, Fi u, yF, yi _ _ (by rw[v7, wi];omega), show l.length - (k+1)=m by omega]
      have:k - ((l.take k).map g).length=0 := by simp;omega
      rw[this, ye, vy];rfl
    · rintro q rfl
      refine⟨_, j _, by simp⟩
  obtain⟨r, A, B⟩ := key
  rw[A, B]
theorem NX{l:List AC}(h:l.length≤1073741824):app 32 [] l=some l:=by
 unfold app;rw[vh];rfl;simp;omega
theorem RO{α:Type}{n:Nat}(z:α)(h:n≤4294967296):mk 40 (n:Int) z=some (List.replicate n z):=by
 unfold mk;rw[vh (by omega)];simp
theorem sj(f:List AD)(l:f.length≤4294967296)(h:∀e∈f,Co e.Attrs):Qy f=some f:=by
 unfold Qy
 rw[RO _ l,AE]
 have:=RF (f:=λ(a:Int × (List AD))=>Ja f a.1 a.2) f id (AD.mk 0 0 []) (λk out j u=>by
  have q:=(h _ (BT j)).1
  show Ja f (k:Int) out=_
  unfold Ja
  rw[vh (by simpa using j),Aa j,AE,NX q,AE,Aa (by omega),AE,Ad (by omega),AE,TA]
  rfl) (λout=>by
  show Ja f (f.length:Int) out=_
  unfold Ja
  rw[vg (by simp)])
 rw[this,List.map_id];rfl
def Hu(l j:List AC):List AC:=Bo FA l j []
def Cw(j:List AC)(x:AD):AD:=⟨x.Char,x.Ref,Hu x.Attrs j⟩
theorem tQ(l:List AD)(j:List AC)(u:l.length≤4294967296)(h:∀e∈l,Co e.Attrs)(hc:j.length≤1073741824):P9 l j=some (l.map (Cw j)):=by
 unfold P9
 rw[RO _ u,AE]
 have:=RF (f:=λ(a:Int × (List AD))=>JT l j a.1 a.2) l (Cw j) (AD.mk 0 0 []) (λk out q w=>by
  have A:=(h _ (BT q)).1
  show JT l j (k:Int) out=_
  unfold JT
  rw[vh (by simpa using q),Aa q,AE,cA _ _ (by omega),AE,Aa (by omega),AE,Ad (by omega),AE,TA]
  rfl) (λout=>by
  show JT l j (l.length:Int) out=_
  unfold JT
  rw[vg (by simp)])
 rw[this];rfl
def A1:List Un→List AD→List AD
 | .a e::j,f=>e::A1 j f
 | .r true _::j,_::f=>A1 j f
 | .r false t::j,x::f=>Cw t x::A1 j f
 | .r _ _::_,[]=>[]
 | [],_=>[]
theorem SG(A:List AD) us f:A1 (A.map Un.a++us) f=A++A1 us f:=by
 induction A with
 | nil=>rfl
 | cons e A j=>simp only[wB,wF,A1,j]
theorem VU t us:∀(n:Nat) (f:List AD),n≤f.length→A1 (List.replicate n (.r true t)++us) f=A1 us (f.drop n)
 | 0,f,_=>rfl
 | n+1,[],h=>by simp at h
 | n+1,x::f,h=>by rw[wP,wF,A1,VU t us n f (by simpa using h)];rfl
theorem VW:∀(us:List Un) (f:List AD),(A1 us f).length≤us.length:=by
 intro us f
 fun_induction A1 us f<;>simp_all<;>omega
theorem KV{α:Type}(l:List α)(n:Int)(j:0≤n)(h:n≤l.length):Bx l 0 n=some (l.take n.toNat):=by
 unfold Bx;rw[vh (by omega)];simp
theorem Pn{d:List AI}(h:∀s∈d,FO s):((Ag d).length:Int)=Ax d+(d.map λs=>s.Elems.length).sum:=by
 induction d with
 | nil=>rfl
 | cons s d j=>
  have A:=j (λx l=>h x (vp _ l))
  rw[SM,vw,IH,wB,wv]
  have q:=(h s (vn ..)).kind
  unfold BG By
  rcases q with ⟨k,e,u,w,_⟩ | ⟨k,e,_,u,w⟩ | ⟨k,n,_,_,_⟩
  ·rw[vg (by omega),vg (by omega),e,wZ,yO];omega
  ·rw[vg (by omega),vg (by omega),e,wZ,yO];omega
  ·rw[vh k,vh k,v7];omega
def DO(l:List AI)(t:List AC)(n:Int):List AI:=
 if 0<l.length∧l[l.length-1]!.Kind=0∧l[l.length-1]!.Attrs=t then l.set (l.length-1) ⟨l[l.length-1]!.Kind,l[l.length-1]!.N+n,l[l.length-1]!.Attrs,l[l.length-1]!.Elems⟩
 else l++[⟨0,n,t,[]⟩]
theorem U2 l t:DO l t 1=Gq l t:=rfl
theorem Qv{l:List AI}{s} : (l++[s])[l.length]! = s:=by
 rw[vr (l++[s]) l.length (by simp)];simp
theorem Ui{l:List AI}{s}{k}(h:k<l.length):(l++[s])[k]! = l[k]!:=by
 rw[vr (l++[s]) k (by simp;omega),vr l k h,List.getElem_append_left h]
theorem pg(l:List AI) t m n:DO (DO l t m) t n=DO l t (m+n):=by
 unfold DO
 by_cases j:0<l.length∧l[l.length-1]!.Kind=0∧l[l.length-1]!.Attrs=t
 ·have q:l.length-1<l.length:=by omega
  have hg:∀x:AI,(l.set (l.length-1) x)[l.length-1]! = x:=λx=>by rw[vr _ _ (by simpa using q),zO]
  rw[vh j,vh j,xM,hg,vh ⟨j.1,j.2.1,j.2.2⟩,List.set_set]
  simp only[Int.add_assoc]
 ·rw[vg j,vg j]
  rw[show(l++[(⟨0,m,t,[]⟩:AI)]).length-1=l.length by simp,Qv,vh ⟨by simp,rfl,rfl⟩]
  simp
def ES(s:DS)(n:Int)(t:List AC):DS:=if n=0 then s else⟨DO (BJ s) t n,[],0⟩
theorem TE l:BJ ⟨l,[],0⟩=l:=by simp[BJ]
theorem qG s(n:Int) t(h:0≤n):ES s n t=(List.replicate n.toNat (Un.r false t)).foldl dU s:=by
 have u:∀(j:Nat) (l:List AI) (n:Int),(List.replicate j (Un.r false t)).foldl dU ⟨DO l t n,[],0⟩=⟨DO l t (n+j),[],0⟩:=by
  intro j
  induction j with
  | zero=>intro l n;simp
  | succ j w=>
   intro l n
   rw[wP,wT]
   simp only[dU,TE]
   rw[← U2,pg,w,show n+1+(j:Int)=n+((j+1:Nat):Int) by omega]
 unfold ES
 by_cases q:n=0
 ·subst q;simp
 ·rw[vg q]
  obtain⟨j,A⟩:∃j,n.toNat=j+1:=⟨n.toNat-1,by omega⟩
  rw[A,wP,wT]
  simp only[dU]
  rw[← U2,u,show(1:Int)+j=n by omega]
theorem tZ(s:DS) t:∀(n:Nat) ,(List.replicate n (Un.r true t)).foldl dU s=⟨s.out,s.adds,s.cuts+n⟩:=by
 intro n
 induction n generalizing s with
 | zero=>simp
 | succ n j=>rw[wP,wT,j];simp only[dU];congr 1;omega
def DT(u:Un):Prop:=match u with
 | .a e=>Bq e=0∧Co e.Attrs
 | .r c t=>(c=false→BC t true=0)∧Co t
def BL(us:List Un):Nat:=us.countP λu=>!u.isR
def E7:Un→Bool
 | .a _=>true
 | .r c _=>!c
def Br(us:List Un):Nat:=us.countP E7
theorem aE{A:List AD}(l:A≠[])(h:∀e∈A,Bq e=0):Cs ⟨1,0,[],A⟩=0:=by
 unfold Cs
 rw[vh rfl,vg (by simp),vg l]
 show EJ A=0
 unfold EJ
 have:(List.range A.length).findSome? (Eb A)=none:=by
  rw[wx]
  intro k j
  have j:=wU.1 j
  unfold Eb
  rw[vh (h _ (BT j))]
 rw[this];rfl
theorem YP{n}(j:1≤n)(l:n≤2147483647):Cs ⟨2,n,[],[]⟩=0:=by
 unfold Cs
 rw[vg (by simp),vh (by simp),vg (by simp),vg (by simp only;omega)]
 show BC [] true=0
 decide
theorem XF{n}{t}(j:1≤n)(l:n≤2147483647)(h:BC t true=0):Cs ⟨0,n,t,[]⟩=0:=by
 unfold Cs
 rw[vg (by simp),vh (by simp),vg (by simp),vg (by simp only;omega)]
 exact h
def HN(a:Nat)(s:AI):Prop:=((s.Kind=0∧s.Elems=[]∧1≤s.N∧BC s.Attrs true=0)∨(s.Kind=2∧s.Elems=[]∧s.Attrs=[]∧1≤s.N) ∨
  (s.Kind=1∧s.N=0∧s.Attrs=[]∧s.Elems≠[]∧∀e∈s.Elems,Bq e=0))∧Co s.Attrs∧s.Elems.length≤a∧∀e∈s.Elems,Co e.Attrs
def Ik(l:List AI):Prop:=∀k,0<k→k<l.length→Dz l[k-1]! l[k]! = false
structure CD(m a r n:Nat)(s:DS):Prop where
 ok:∀x∈s.out,HN a x
 adj:Ik s.out
 last:0<s.out.length→s.out[s.out.length-1]!.Kind=0
 add:∀e∈s.adds,Bq e=0∧Co e.Attrs
 olds:Ax s.out+s.cuts=r
 nows:BB s.out+s.adds.length=n
 len:s.out.length+s.adds.length+s.cuts≤m
 al:s.adds.length≤a
theorem pa:CD 0 0 0 0 ⟨[],[],0⟩:=⟨by simp,λk _ j=>by simp at j,λh=>by simp at h,by simp,by simp[Ax],by simp[BB],by simp,by simp⟩
theorem XS a b:Ax (a++b)=Ax a+Ax b:=by simp[Ax]
theorem Vt a b:BB (a++b)=BB a+BB b:=by simp[BB]
theorem Vr{l:List AI}{s}(h:Ik l)(u:0<l.length→Dz l[l.length-1]! s=false):Ik (l++[s]):=by
 intro k q w
 simp only[vw,wg] at w
 by_cases j:k<l.length
 ·rw[Ui (by omega),Ui j];exact h k q j
 ·have:k=l.length:=by omega
  subst this
  rw[Ui (by omega),Qv]
  exact u q
theorem HN.mono{a b}{s}(h:HN a s)(j:a≤b):HN b s:=⟨h.1,h.2.1,wq h.2.2.1 j,h.2.2.2⟩
theorem GB:Co []:=⟨by simp,λa j=>by simp at j⟩
theorem MJ{m a r n}{s:DS}(h:CD m a r n s):(∀x∈BJ s,HN a x)∧Ik (BJ s)∧Ax (BJ s)=r∧BB (BJ s)=n∧(BJ s).length≤m∧(BJ s).length≤s.out.length+2:=by
 have u:=h.len
 have J:=h.olds
 have M:=h.nows
 have key:∃l,l=(if 0<s.adds.length then s.out++[⟨1,0,[],s.adds⟩] else s.out)∧(∀x∈l,HN a x)∧Ik l∧Ax l=Ax s.out∧BB l=BB s.out+s.adds.length∧l.length≤s.out.length+s.adds.length∧l.length≤s.out.length+1∧(0<l.length→l[l.length-1]!.Kind≠2):=by
  refine⟨_,rfl,?_⟩
  by_cases j:0<s.adds.length
  ·rw[vh j]
   have w:s.adds≠[]:=λe=>by rw[e] at j;simp at j
   refine⟨λx A=>?_,Vr h.adj λu=>?_,by rw[XS];simp[Ax,By],by rw[Vt];simp[BB,Cr],by simp;omega,by simp,λ_=>?_⟩
   ·rcases wX.1 A with q | q
    ·exact h.ok x q
    ·have:x=⟨1,0,[],s.adds⟩:=by simpa using q
     subst this
     exact⟨.inr (.inr ⟨rfl,rfl,rfl,w,λe B=>(h.add e B).1⟩),GB,h.al,λe B=>(h.add e B).2⟩
   ·have C:∀p:AI,p.Kind=0→Dz p ⟨1,0,[],s.adds⟩=false:=λp hp=>by unfold Dz;rw[hp];simp
    exact C _ (h.last u)
   ·rw[show(s.out++[(⟨1,0,[],s.adds⟩:AI)]).length-1=s.out.length by simp,Qv];simp
  ·rw[vg j]
   exact⟨h.ok,h.adj,rfl,by omega,by omega,by omega,λu=>by rw[h.last u];decide⟩
 obtain⟨l,E,F,I,O,T,V,X,U⟩:=key
 unfold BJ
 rw[← E]
 by_cases j:0<s.cuts
 ·rw[vh j]
  refine⟨λx A=>?_,Vr I λu=>?_,by rw[XS,O,← J];simp[Ax,By],by rw[Vt,T,← M];simp[BB,Cr],by simp;omega,by simp;omega⟩
  ·rcases wX.1 A with q | q
   ·exact F x q
   ·have:x=⟨2,s.cuts,[],[]⟩:=by simpa using q
    subst this
    exact⟨.inr (.inl ⟨rfl,rfl,rfl,by simp only;omega⟩),GB,by simp,by simp⟩
  ·have C:∀p:AI,p.Kind≠2→Dz p ⟨2,s.cuts,[],[]⟩=false:=λp hp=>by unfold Dz;simp[hp]
   exact C _ (U u)
 ·rw[vg j,wG]
  exact⟨F,I,by omega,by omega,by omega,by omega⟩
theorem fK:∀ {l:List AI} {i:Nat} {s:AI},i<l.length→Ax (l.set i s)=Ax l-By l[i]!+By s∧BB (l.set i s)=BB l-Cr l[i]!+Cr s
 | x::l,0,s,_=>by
  rw[ye,IH,IH,I9,I9]
  show _=_-By x+By s∧_=_-Cr x+Cr s
  omega
 | x::l,i+1,s,h=>by
  obtain⟨j,q⟩:=fK (l:=l) (i:=i) (s:=s) (by simpa using h)
  rw[zb,IH,IH,I9,I9,j,q]
  show _=_-By l[i]!+By s∧_=_-Cr l[i]!+Cr s
  omega
theorem kD{l:List AI}{i}{s:AI}(h:Ik l)(E:i<l.length)(A:s.Kind=l[i]!.Kind)(B:s.Attrs=l[i]!.Attrs):Ik (l.set i s):=by
 intro k C q
 rw[xM] at q
 have e:∀j,j<l.length→(l.set i s)[j]!.Kind=l[j]!.Kind∧(l.set i s)[j]!.Attrs=l[j]!.Attrs:=λj u=>by
  rw[vr (l.set i s) j (by simpa using u),vr l j u,List.getElem_set]
  split
  ·rename_i w;subst w;rw[A,B,vr l i u];exact⟨rfl,rfl⟩
  ·exact⟨rfl,rfl⟩
 have:=h k C q
 unfold Dz at this ⊢
 rw[(e _ (by omega)).1,(e _ (by omega)).2,(e k q).1,(e k q).2]
 exact this
theorem jb{a}{l:List AI}{t}{n}(B:∀x∈l,HN a x)(F:Ik l)(I:1≤n)(J:BC t true=0)(C:Co t):(∀x∈DO l t n,HN a x)∧Ik (DO l t n)∧Ax (DO l t n)=Ax l+n ∧
  BB (DO l t n)=BB l+n∧(DO l t n).length≤l.length+1∧0<(DO l t n).length∧(DO l t n)[(DO l t n).length-1]!.Kind=0:=by
 unfold DO
 split
 ·rename_i q
  have u:l.length-1<l.length:=by omega
  have A:=B _ (BT u)
  have w:(l[l.length-1]!.Elems=[]∧1≤l[l.length-1]!.N∧BC l[l.length-1]!.Attrs true=0):=by
   rcases A.1 with ⟨k,e,M,O⟩ | ⟨k,_⟩ | ⟨k,_⟩
   ·exact⟨e,M,O⟩
   ·rw[q.2.1] at k;cases k
   ·rw[q.2.1] at k;cases k
  obtain⟨T,e2⟩:=fK (l:=l) (i:=l.length-1) (s:=⟨l[l.length-1]!.Kind,l[l.length-1]!.N+n,l[l.length-1]!.Attrs,l[l.length-1]!.Elems⟩) u
  refine⟨λx E=>?_,kD F u rfl rfl,?_,?_,by rw[xM];omega,by rw[xM];omega,?_⟩
  ·rcases xi E with j | j
   ·exact B x j
   ·subst j
    exact⟨.inl ⟨q.2.1,w.1,by simp only;omega,w.2.2⟩,A.2.1,A.2.2.1,A.2.2.2⟩
  ·rw[T];unfold By;simp only[q.2.1];simp;omega
  ·rw[e2];unfold Cr;simp only[q.2.1];simp;omega
  ·rw[xM,vr _ _ (by simpa using u),zO];exact q.2.1
 ·rename_i q
  refine⟨λx E=>?_,Vr F λU=>?_,by rw[XS];simp[Ax,By],by rw[Vt];simp[BB,Cr],by simp,by simp,?_⟩
  ·rcases wX.1 E with j | j
   ·exact B x j
   ·have:x=⟨0,n,t,[]⟩:=by simpa using j
    subst this
    exact⟨.inl ⟨rfl,rfl,I,J⟩,C,by simp,by simp⟩
  ·unfold Dz
   generalize l[l.length-1]! = p at q ⊢
   by_cases j:p.Kind=0
   ·have V:¬ p.Attrs=t:=λe=>q ⟨U,j,e⟩
    simp[j,V]
   ·simp[j]
  ·rw[show(l++[(⟨0,n,t,[]⟩:AI)]).length-1=l.length by simp,Qv]
theorem nM{m a r n}{s}(h:CD m a r n s){u:Un}(A:DT u):CD (m+1) (a+(if u.isR then 0 else 1)) (r+(if u.isR then 1 else 0)) (n+(if E7 u then 1 else 0)) (dU s u):=by
 have X:=h.len
 have B:=h.olds
 have C:=h.nows
 have E:=h.al
 match u,A with
 | .a e,F=>
  have j:(if(Un.a e).isR=true then 0 else 1)=1:=rfl
  have e2:(if(Un.a e).isR=true then 1 else 0)=0:=rfl
  have l:(if E7 (Un.a e)=true then 1 else 0)=1:=rfl
  rw[j,e2,l]
  refine⟨λx I=>(h.ok x I).mono (by omega),h.adj,h.last,λy J=>?_,B,by simp[dU];omega,by simp[dU];omega,by simp[dU];omega⟩
  rcases wX.1 J with q | q
  ·exact h.add y q
  ·have:y=e:=by simpa using q
   subst this;exact F
 | .r true t,w=>
  have j:(if(Un.r true t).isR=true then 0 else 1)=0:=rfl
  have e2:(if(Un.r true t).isR=true then 1 else 0)=1:=rfl
  have l:(if E7 (Un.r true t)=true then 1 else 0)=0:=rfl
  rw[j,e2,l]
  exact⟨h.ok,h.adj,h.last,h.add,by simp[dU];omega,C,by simp[dU];omega,E⟩
 | .r false t,w=>
  have j:(if(Un.r false t).isR=true then 0 else 1)=0:=rfl
  have e2:(if(Un.r false t).isR=true then 1 else 0)=1:=rfl
  have l:(if E7 (Un.r false t)=true then 1 else 0)=1:=rfl
  rw[j,e2,l]
  obtain⟨M,O,Y,Z,k5,_⟩:=MJ h
  obtain⟨T,U,j3,j4,j5,j6,V⟩:=jb (n:=1) M O (by omega) (w.1 rfl) w.2
  refine⟨T,U,λ_=>V,by simp[dU],?_,?_,?_,by simp[dU]⟩
  ·show Ax (DO (BJ s) t 1)+((0:Nat):Int)=_
   omega
  ·show BB (DO (BJ s) t 1)+((0:Nat):Int)=_
   omega
  ·show(DO (BJ s) t 1).length+0+0≤_
   omega
theorem bT:∀ {us:List Un} {m a r n:Nat} {s:DS},CD m a r n s→(∀u∈us,DT u)→CD (m+us.length) (a+BL us) (r+Ao us) (n+Br us) (us.foldl dU s)
 | [],_,_,_,_,_,h,_=>by simpa[BL,Ao,Br] using h
 | u::us,m,a,r,n,s,h,j=>by
  have:=bT (us:=us) (nM h (j u (vn ..))) λv l=>j v (vp _ l)
  have q:BL (u::us)=(if u.isR then 0 else 1)+BL us:=by unfold BL;rw[xF];cases u.isR<;>simp<;>omega
  have e2:Ao (u::us)=(if u.isR then 1 else 0)+Ao us:=by unfold Ao;rw[xF];omega
  have w:Br (u::us)=(if E7 u then 1 else 0)+Br us:=by unfold Br;rw[xF];omega
  rw[wT,q,e2,w,v6,show m+(us.length+1)=m+1+us.length by omega,← xl,← xl,← xl]
  exact this
def D0:DS:=⟨[],[],0⟩
def Aq(us:List Un):DS:=us.foldl dU D0
theorem JO{us:List Un}(h:∀u∈us,DT u):CD us.length (BL us) (Ao us) (Br us) (Aq us):=by
 have:=bT pa h
 simp only[wK] at this
 exact this
theorem JA us:BN us=BJ (Aq us):=rfl
theorem co{m a r n}{s}(h:CD m a r n s)(hr:r≤2147483647)(hn:n≤2147483647):CY (BJ s)=0:=by
 obtain⟨B,M,U,V,X,_⟩:=MJ h
 generalize BJ s=l at B M U V X
 have u:∀l:List AI,(∀x∈l,HN a x)→0≤Ax l∧0≤BB l∧(∀x∈l,x.N≤Ax l∨x.Kind=1):=by
  intro l
  induction l with
  | nil=>intro _;simp[Ax,BB]
  | cons x l Y=>
   intro w
   obtain⟨i1,i2,Z⟩:=Y λs hs=>w s (vp _ hs)
   have C:=(w x (vn ..)).1
   rw[IH,I9]
   have E:0≤By x∧0≤Cr x∧(x.N≤By x∨x.Kind=1):=by
    unfold By Cr
    rcases C with ⟨k,e,j,_⟩ | ⟨k,e,_,j⟩ | ⟨k,j,_⟩
    ·rw[vg (by omega),vg (by omega),vg (by omega)];omega
    ·rw[vg (by omega),vh (by omega)];omega
    ·rw[vh k,vg (by omega),vh k];omega
   refine⟨by omega,by omega,λy F=>?_⟩
   rcases wC.1 F with rfl | F
   ·rcases E.2.2 with h | h
    ·exact .inl (by omega)
    ·exact .inr h
   ·rcases Z y F with h | h
    ·exact .inl (by omega)
    ·exact .inr h
 obtain⟨p1,p2,p3⟩:=u l B
 have A:∀k,k<l.length→Eo l k=none:=by
  intro k I
  have w:=B _ (BT I)
  have J:=p3 _ (BT I)
  have E:Cs l[k]! = 0:=by
   generalize l[k]! = x at w J
   obtain⟨xk,xn,xa,xe⟩:=x
   rcases w.1 with ⟨k,e,j,q⟩ | ⟨k,e,q,j⟩ | ⟨k,j,q,O,e2⟩
   ·dsimp only at k e j q J;subst k;subst e
    exact XF j (by omega) q
   ·dsimp only at k e j q J;subst k;subst e;subst q
    exact YP j (by omega)
   ·dsimp only at k j q O e2;subst k;subst j;subst q
    exact aE O e2
  unfold Eo
  rw[vg (by simpa using E),vg]
  rintro⟨h0,T⟩
  rw[M k h0 I] at T;cases T
 unfold CY
 rw[Z1 A]
 simp only
 rw[vg (by omega)]
def VA(j:Bool)(e:AC):Prop:=ER e.Name=true∧(Di e.Value=true∨(j=true∧e.Value=[]))
theorem Ju(l:List AC)(ch:Bool):BC l ch=0↔Bs l∧∀e∈l,VA ch e:=by
 constructor
 ·intro h
  refine⟨(F8 h).1,λe he=>?_⟩
  obtain⟨k,hk,rfl⟩:=ww.1 he
  have hn:Eh l ch k=none:=by
   unfold BC at h
   cases hf:(List.range l.length).findSome? (Eh l ch) with
   | none=>exact(Zy _ _).1 hf k hk
   | some r=>
    rw[hf] at h
    obtain⟨j,_,hj⟩:=xE hf
    exfalso
    unfold Eh at hj
    simp only[xg] at h
    subst h
    repeat' split at hj
    all_goals simp at hj
  unfold Eh at hn
  rw[vr l k hk] at hn
  generalize l[k]=x at hn ⊢
  unfold VA
  by_cases c1:ER x.Name=false
  ·rw[vh c1] at hn;cases hn
  ·rw[vg c1] at hn
   by_cases c2:Di x.Value=false∧¬ (ch=true∧x.Value=[])
   ·rw[vh c2] at hn;cases hn
   ·refine⟨by simpa using c1,?_⟩
    by_cases c3:Di x.Value=true
    ·exact .inl c3
    ·exact .inr (wM λh3=>c2 ⟨by simpa using c3,h3⟩)
 ·rintro⟨hs,hv⟩
  unfold BC
  have:(List.range l.length).findSome? (Eh l ch)=none:=by
   rw[wx]
   intro k hk
   have hk:=wU.1 hk
   have h1:=hv _ (BT hk)
   unfold Eh
   unfold VA at h1
   rw[vg (by rw[h1.1];simp),vg (by rintro⟨a1,a2⟩;rcases h1.2 with h2 | h2;rw[a1] at h2;cases h2;exact a2 h2),vg]
   rintro⟨h0,h2⟩
   have:=List.pairwise_iff_getElem.1 hs (k-1) k (by omega) hk (by omega)
   rw[vr l k hk,vr l (k-1) (by omega)] at h2
   rw[this] at h2;cases h2
  rw[this];rfl
theorem fv:∀ {l:List AC},Bs l→∀e∈l,Ar l e.Name=some e
 | [],_,e,h=>by simp at h
 | x::l,j,e,h=>by
  obtain⟨q,u⟩:=EP.1 j
  rcases wC.1 h with rfl | h
  ·unfold Ar;rw[vh rfl]
  ·have:=Ex (q e h)
   unfold Ar;rw[vg (Ne.symm this)]
   exact fv u e h
theorem Ue{j}{g}{G}(h:∀x y o, j x y o=o++g x y)(hg:My g G){a b}{l q w}
 (A:BC a l=0) (B:BC b q=0) (F:∀x y e, (∀z, x=some z→VA l z)→(∀z, y=some z→VA q z)→G x y=some e→VA w e):BC (Bo j a b []) w=0 := by
  obtain⟨I, v1⟩ := (Ju a l).1 A
  obtain⟨J, M⟩ := (Ju b q).1 B
  obtain⟨C, O⟩ := Tq h hg I J (F8 A).2.1 (F8 B).2.1
  refine(Ju _ _).2 ⟨C, λe T => ?_⟩
  have E := fv C e T
  rw[O] at E
  exact F _ _ e (λz u => v1 z (Q5 u).2) (λz u => M z (Q5 u).2) E
theorem tE{a b}(l:BC a false=0)(q:BC b true=0):BC (Hu a b) false=0:=
 Ue Vw UI l q λx y e u w h=>by
  unfold Hl at h
  split at h
  ·exact u e h
  ·split at h
   ·cases h
   ·rename_i A
    cases h
    have:=w e rfl
    exact⟨this.1,.inl (by rcases this.2 with j | j;exact j;exact absurd j.2 A)⟩
theorem rk{a b}(j:BC a true=0)(l:BC b true=0):BC (Bo FU a b []) true=0:=
 Ue oR ql j l λx y e q u h=>by
  unfold Px at h
  split at h
  ·exact q e h
  ·exact u e h
theorem rE{a b}(j:BC a true=0)(l:BC b true=0):BC (Bo FL a b []) true=0:=
 Ue ZW bC j l λx y e q u h=>by
  unfold M8 at h
  split at h
  ·exact q e h
  ·cases h
theorem HA{l:List AC}{j}(h:BC l j=0)(q:l.length≤1073741824):Co l:=by
 refine⟨q,λe u=>?_⟩
 have:=((Ju l j).1 h).2 e u
 have w:e.Name.length≤24:=by
  have:=this.1
  unfold ER at this
  simp only[vm,vi] at this
  exact this.1.1.2
 have A:e.Value.length≤200:=by
  rcases this.2 with h | h
  ·unfold Di at h
   simp only[vm,vi] at h
   exact h.1.2
  ·rw[h.2];simp
 omega
theorem YG(a b:List AC):(Hu a b).length≤a.length+b.length:=by
 have:=T5 FA U9 _ a b [] rfl
 simpa[Hu] using this
theorem lH(a b:List AC):(Bo FU a b []).length≤a.length+b.length:=by
 have:=T5 FU dM _ a b [] rfl
 simpa using this
theorem rQ(a b:List AC):(Bo FL a b []).length≤a.length+b.length:=by
 have:=T5 FL eg _ a b [] rfl
 simpa using this
def Ce(s:DS):Af:=⟨s.out,s.adds,(s.cuts:Int)⟩
theorem Yv{α:Type}{l:List α} : decide (0<(l.length:Int))=true↔0<l.length:=by rw[vi];omega
theorem ei(s:DS)(q:s.out.length+2≤1099511627776):NC (Ce s)=some ⟨BJ s,[],0⟩:=by
 unfold NC Ce
 dsimp only
 unfold BJ
 by_cases l:0<s.adds.length
 ·rw[vh (Yv.2 l),Hq (by omega),vh l]
  simp only[AE]
  by_cases j:0<s.cuts
  ·rw[vh (by rw[vi];omega),Hq (by rw[vw,wg];omega),vh j];rfl
  ·rw[vg (by rw[vi];omega),vg j,wG];rfl
 ·rw[vg (λh=>l (Yv.1 h)),vg l]
  simp only[AE]
  by_cases j:0<s.cuts
  ·rw[vh (by rw[vi];omega),Hq (by omega),vh j];rfl
  ·rw[vg (by rw[vi];omega),vg j,wG];rfl
theorem ZN{a} : ∀ {l:List AI},(∀x∈l,HN a x)→0≤Ax l∧0≤BB l∧(∀x∈l,0≤x.N∧x.N≤Ax l)
 | [],_=>by simp[Ax,BB]
 | x::l,u=>by
  obtain⟨C,E,A⟩:=ZN (l:=l) λs B=>u s (vp _ B)
  have j:=(u x (vn ..)).1
  rw[IH,I9]
  have F:0≤By x∧0≤Cr x∧0≤x.N∧x.N≤By x:=by
   unfold By Cr
   rcases j with ⟨k,e,w,_⟩ | ⟨k,e,_,w⟩ | ⟨k,w,_⟩
   ·rw[vg (by omega),vg (by omega),vg (by omega)];omega
   ·rw[vg (by omega),vh (by omega)];omega
   ·rw[vh k,vg (by omega),vh k];omega
  refine⟨by omega,by omega,λy q=>?_⟩
  rcases wC.1 q with rfl | q
  ·omega
  ·have:=A y q;omega
theorem Y0{m a r n}{s:DS}(h:CD m a r n s)(Y:s.out.length+4≤1099511627776)(Z:r≤4000000000000000000)(k:Int)(t:List AC)(h0:0≤k)(hk:k≤4000000000000000000)(B:t.length≤1073741824) :
  GE (Ce s) k t=some (Ce (ES s k t)):=by
 unfold GE ES
 by_cases j:k=0
 ·rw[vh (by rw[vi];exact j),vh j]
 rw[vg (by rw[vi];exact j),vg j,ei s (by omega),AE]
 obtain⟨C,F,I,J,M,O⟩:=MJ h
 obtain⟨T,U,E⟩:=ZN C
 dsimp only
 generalize BJ s=l at C F I J M O T U E
 unfold DO
 by_cases q:0<l.length
 ·rw[mh q (by omega),AE]
  have V:decide (0≤(((l.length-1:Nat)):Int))=true:=by simp
  have X:=C _ (BT (l:=l) (k:=l.length-1) (by omega))
  have hN:=E _ (BT (l:=l) (k:=l.length-1) (by omega))
  rw[V,show(true==true)=true from rfl,An,Aa (l:=l) (by omega),AE,wy]
  by_cases w:l[l.length-1]!.Kind=0
  ·rw[vj w,show(true==true)=true from rfl,An,AE,An,Nv _ _ (by have:=X.2.1.1;omega),AE,wy]
   by_cases A:l[l.length-1]!.Attrs=t
   ·rw[vh (by rw[vi];exact A),AE,Bz (by omega) (by omega),AE,TA,vh ⟨q,w,A⟩];rfl
   ·rw[vg (by rw[vi];exact A),NX B,AE,Hq (by omega),AE,vg (λh=>A h.2.2)];rfl
  ·rw[vk w,show(false==true)=false from rfl,Fa,AE,Fa,AE,yM,vg (by decide),NX B,AE,Hq (by omega),AE,vg (λh=>w h.2.1)];rfl
 ·have u:l=[]:=wn (by omega)
  subst u
  rw[show((([]:List AI).length:Int)-1) = -1 from rfl,show AN .i64 (-1)=some (-1) from Bz (by decide) (by decide),AE,
   show decide (0≤(-1:Int))=false by decide,show(false==true)=false from rfl,Fa,AE,yM,show(false==true)=false from rfl,Fa,AE,Fa,AE,yM,vg (by decide),
   NX B,AE,Hq (by simp),AE,vg (by simp)];rfl
theorem bJ(s:DS)(l:List AD)(j:l.length≤4294967296)(h:∀e∈l,Co e.Attrs)(q:s.adds.length+l.length≤1099511627776):HK (Ce s) l=some (Ce ⟨s.out,s.adds++l,s.cuts⟩):=by
 unfold HK
 rw[sj l j h,AE]
 show(AB (app 40 s.adds l) _)=_
 rw[HF q,AE];rfl
def Df(l:List AI):Nat:=(l.map λx=>x.Elems.length).sum
theorem W1 a b:Df (a++b)=Df a+Df b:=by simp[Df]
theorem fD(s:DS):Df (BJ s)=Df s.out+s.adds.length:=by
 unfold BJ
 rw[W1]
 have l:Df (if 0<s.cuts then [(⟨2,s.cuts,[],[]⟩:AI)] else [])=0:=by split<;>rfl
 rw[l]
 by_cases j:0<s.adds.length
 ·rw[vh j,W1];simp[Df]
 ·rw[vg j];omega
theorem Yp:∀ {l:List AI} {i:Nat} {s:AI},i<l.length→s.Elems=l[i]!.Elems→Df (l.set i s)=Df l
 | x::l,0,s,_,h=>by
  have j:s.Elems=x.Elems:=h
  simp[Df,j]
 | x::l,i+1,s,q,h=>by
  have:=Yp (l:=l) (i:=i) (s:=s) (by simpa using q) h
  rw[zb]
  simp only[Df,wB,wv] at this ⊢
  omega
theorem pT l t n:Df (DO l t n)=Df l:=by
 unfold DO
 split
 ·rename_i j;exact Yp (by omega) rfl
 ·rw[W1];simp[Df]
theorem gC:∀(us:List Un) (s:DS),Df (us.foldl dU s).out+(us.foldl dU s).adds.length=Df s.out+s.adds.length+BL us
 | [],s=>by simp[BL]
 | u::us,s=>by
  have j:=gC us (dU s u)
  have l:BL (u::us)=(if u.isR then 0 else 1)+BL us:=by unfold BL;rw[xF];cases u.isR<;>simp<;>omega
  rw[wT,j,l]
  match u with
  | .a e=>simp[dU,Un.isR];omega
  | .r true t=>simp[dU,Un.isR]
  | .r false t=>
   have:Df (dU s (.r false t)).out=Df s.out+s.adds.length:=by
    show Df (Gq (BJ s) t)=_
    rw[← U2,pT,fD]
   simp only[Un.isR,xZ]
   rw[this];simp[dU]
theorem ex us:Df (BJ (Aq us))=BL us:=by
 rw[fD]
 have:=gC us D0
 unfold Aq
 rw[this];simp[D0,Df]
theorem Y6{us}(h:∀u∈us,DT u)(q:(BJ (Aq us)).length≤1099511627776)(w:BL us≤1073741824):Ey (BJ (Aq us)):=by
 obtain⟨j,_⟩:=MJ (JO h)
 exact⟨q,λx l=>⟨(j x l).2.1,by have:=(j x l).2.2.1;omega,(j x l).2.2.2⟩,by have:=ex us;unfold Df at this;omega⟩
theorem Qn{us}(h:∀u∈us,DT u)(l:(Aq us).out.length+2≤1099511627776)(q:BL us≤1073741824) :
  IJ (Ce (Aq us))=some (if CY (BN us)≠0 then([],3,⟨BN us,[],0⟩) else(BN us,0,⟨BN us,[],0⟩)):=by
 obtain⟨w,A,B,C,E,F⟩:=MJ (JO h)
 unfold IJ
 rw[ei _ l,AE]
 dsimp only
 rw[Ql _ (Y6 h (by omega) q),AE,← JA]
 by_cases j:CY (BN us)≠0
 ·rw[vh (Ba j),vh j]
 ·have j:=wL.1 j
  rw[vg (CM j),vg (by simpa using j)]
theorem Ka us(n:Int) t(h:0≤n):ES (Aq us) n t=Aq (us++List.replicate n.toNat (.r false t)):=by
 rw[qG _ _ _ h];unfold Aq;rw[zd]
theorem L5 us(l:List AD):(⟨(Aq us).out,(Aq us).adds++l,(Aq us).cuts⟩:DS)=Aq (us++l.map Un.a):=by
 unfold Aq;rw[zd,pL]
theorem Tc us n t:(⟨(Aq us).out,(Aq us).adds,(Aq us).cuts+n⟩:DS)=Aq (us++List.replicate n (.r true t)):=by
 unfold Aq;rw[zd,tZ]
theorem jm(x y:AD)(h:x.Attrs.length≤1073741824):Qu x y=some (decide (x=y)):=by
 unfold Qu
 rw[Rd _ _ (by omega)]
 obtain⟨j,l,q⟩:=x
 obtain⟨u,w,A⟩:=y
 by_cases B:j=u<;>by_cases C:l=w<;>by_cases E:q=A<;>simp[B,C,E,default]
theorem VF{α:Type}[Inhabited α][DecidableEq α]{a b:List α}(l:a.length=b.length)(h:((List.range a.length).all λk=>decide (a[k]! = b[k]!))=true):a=b:=by
 apply yq l
 intro k j q
 have:=wI.1 h k (wU.2 j)
 simp only[vi] at this
 rwa [vr a k j,vr b k q] at this
theorem Xi{α:Type}[Inhabited α][DecidableEq α](a:List α):((List.range a.length).all λk=>decide (a[k]! = a[k]!))=true:=by
 rw[wI];intro k _;rw[vj rfl]
theorem dC(a b:List AD)(u:a.length≤9223372036854775806)(h:∀e∈a,e.Attrs.length≤1073741824):L3 a b=some (decide (a=b)):=by
 unfold L3
 by_cases j:a.length=b.length
 ·rw[vg (by simp[j]),Cb (n:=a.length) (λk=>if decide (a[k]! = b[k]!) then none else some false) (λk l=>by
   unfold OK
   rw[vh (by simpa using l),Aa l,Aa (by omega),AE,AE,jm _ _ (h _ (BT l)),AE,Ad (by omega)]
   generalize a[k]! = x
   generalize b[k]! = y
   by_cases h:x=y<;>simp[h,Cg]) (by unfold OK;rw[vg (by simp)]),Ky,E9]
  by_cases h:a=b
  ·subst h;rw[Xi,vj rfl];rfl
  ·rw[vk h]
   have:((List.range a.length).all λk=>decide (a[k]! = b[k]!))=false:=by
    rw[← xY];exact λq=>h (VF j q)
   rw[this];rfl
 ·rw[vh (by simp;omega),vk (by rintro rfl;exact j rfl)]
theorem jd(d:List AI)(q:Ey d)(h:Rg d):ND d=some (Ax d):=by
 unfold ND
 have E:=q.len
 have key:∃r,iter (λ(a:Int × Int)=>Jf d a.1 a.2) (0,0)=some r∧r=Ax d:=by
  refine EL d.length (λk l=>l=(Ax (d.take k),(k:Int))) _ ?_ ?_ (by simp[Ax])
  ·rintro k l j rfl
   obtain⟨F,I,J,M,_⟩:=Z8 h q k
   have hg:=(h.st _ (BT j)).kind
   have u:d[k]!.N=By d[k]!∧d[k]!.N≤2147483647∧0≤d[k]!.N:=by
    unfold By
    rcases hg with ⟨k,e,w,A,_⟩ | ⟨k,e,_,w,A⟩ | ⟨k,n,_,_,_⟩
    ·rw[vg (by omega)];omega
    ·rw[vg (by omega)];omega
    ·rw[vh k];omega
   refine .inl ⟨_,?_,rfl⟩
   show Jf d (Ax (d.take k)) (k:Int)=_
   unfold Jf
   rw[vh (by simpa using j),Aa j,AE,Bz (by omega) (by omega),AE,Ad (by omega),AE,Tv j,u.1]
  ·rintro l rfl
   refine⟨Ax d,?_,rfl⟩
   rw[xf]
   show Jf d _ (d.length:Int)=_
   unfold Jf
   rw[vg (by simp)]
 obtain⟨r,B,C⟩:=key
 rw[B,C];rfl
def KQ(f:List AD):Prop:=∀e∈f,Bq e=0∧e.Attrs.length≤1048576
def TL(us:List Un):Prop:=∀u∈us,match u with | .a e=>Bq e=0∧e.Attrs.length≤1048576 | .r c t=>(c=false→BC t true=0)∧t.length≤1048576
def gz(f:List AD):Prop:=∀e∈f,BC e.Attrs false=0∧e.Attrs.length≤1048576
theorem Ht{e:AD}(h:Bq e=0):BC e.Attrs false=0:=eR h
theorem KQ.fa{f}(h:KQ f):gz f:=λe j=>⟨Ht (h e j).1,(h e j).2⟩
theorem iV{x:Bh}(h:Dh x){k}(j:k<x.Cuts.length):Un.r x.Cuts[k]! x.Attrs[k]! ∈ x.us:=by
 obtain⟨p,hp⟩:=pB x k h (by omega)
 rw[XD h j] at hp
 rw[hp];simp
theorem V8{l t:List AC}(j:BC l false=0)(q:BC t true=0)(u:l.length≤1048576)(w:t.length≤1048576):H4 l t=some (Hu l t):=by
 rw[ij l t (F8 j).1 (F8 q).1 (by omega),← mR j q];rfl
theorem rZ(f:List AD)(x:Bh)(h:Dh x)(A:x.Cuts.length=f.length)(F:gz f)(I:TL x.us)(T:x.us.length≤4294967296):NI f x=some (A1 x.us f):=by
 unfold NI
 have U:=h.adds
 have V:=h.attrs
 have J:=VW x.us f
 have M:=h.cuts_le
 have key:∃r,iter (λ(a:Int × (List AD))=>I3 f x a.1 a.2) (0,[])=some r∧r++x.Adds[f.length]! = A1 x.us f:=by
  refine EL f.length (λk B=>B.1=(k:Int)∧B.2++A1 (x.from_ k) (f.drop k)=A1 x.us f) _ ?_ ?_ ⟨rfl,rfl⟩
  ·rintro k ⟨i,out⟩ l ⟨rfl,hd⟩
   dsimp only at hd
   have hA:=h.add_le (k:=k) (by omega)
   rw[XD h (by omega),Hd l,SG,← vy] at hd
   have u:=yC List.length hd
   rw[vw,vw] at u
   have q:=I _ (iV h (k:=k) (by omega))
   dsimp only at q
   have j:=F _ (BT l)
   refine .inl ?_
   show ∃X,I3 f x (k:Int) out=_∧_
   unfold I3
   rw[vh (by simpa using l),Aa (l:=x.Adds) (by omega),AE,HF (by omega),AE,Aa (l:=x.Cuts) (by omega),AE]
   cases C:x.Cuts[k]! with
   | true=>
    rw[C] at hd
    rw[vg (by decide),AE,Ad (by omega),AE]
    exact⟨_,rfl,rfl,hd⟩
   | false=>
    rw[C] at hd q
    rw[vh (by decide),Aa l,AE,Aa (l:=x.Attrs) (by omega),AE,V8 j.1 (q.1 rfl) j.2 q.2,AE]
    rw[HF (by rw[vw,wg];omega),AE,AE,Ad (by omega),AE]
    refine⟨_,rfl,rfl,?_⟩
    rw[← hd]
    simp only[A1,vy,zP]
    rfl
  ·rintro⟨i,out⟩ ⟨rfl,hd⟩
   dsimp only at hd
   refine⟨out,?_,?_⟩
   ·show I3 f x (f.length:Int) out=_
    unfold I3
    rw[vg (by simp)]
   ·rw[← A,nS h] at hd
    have:=SG x.Adds[x.Cuts.length]! [] (f.drop x.Cuts.length)
    rw[wG] at this
    rw[this] at hd
    rw[← hd,← A]
    simp[A1]
 obtain⟨r,O,E⟩:=key
 have w:=yC List.length E
 rw[vw] at w
 rw[O,AE,Aa (l:=x.Adds) (by omega),AE,HF (by omega),AE,E]
theorem jS(f:List AD)(x:Bh)(h:Dh x)(j:x.Cuts.length=f.length)(l:KQ f)(q:TL x.us)(u:x.us.length≤4294967296):NI f x=some (A1 x.us f):=rZ f x h j l.fa q u
theorem Wb{κ}(j:∀a,a.Name.length+a.Value.length+1≤κ a){l:List AC}(u:(l.map κ).sum≤1048576):Co l:=by
 have w:=Lf (μ:=κ) (λa=>by have:=j a;omega) l
 refine⟨by omega,λa q=>?_⟩
 have A:=HB (μ:=κ) q
 have:=j a
 omega
theorem ZB{ν}{κ}(j:∀e,(e.Attrs.map κ).sum+1≤ν e)(l:∀a,a.Name.length+a.Value.length+1≤κ a){f:List AD}(u:(f.map ν).sum≤1048576):f.length≤1048576∧∀e∈f,Co e.Attrs:=by
 have w:=Lf (μ:=ν) (λe=>by have:=j e;omega) f
 refine⟨by omega,λe q=>Wb l ?_⟩
 have A:=HB (μ:=ν) q
 have:=j e
 omega
structure GD(d:List AI):Prop where
 at_:∀s∈d,s.Attrs.length≤1048576
 ea:∀s∈d,∀e∈s.Elems,e.Attrs.length≤1048576
 sum:(d.map λs=>s.Elems.length).sum≤1048576
 len:d.length≤1048576
theorem o5{d}(h:∀s∈d,FO s)(w:GD d):TL (Ag d):=by
 intro u I
 obtain⟨s,q,l⟩:=List.mem_flatMap.1 I
 have J:=(h s q).kind
 have A:=w.at_ s q
 have M:=w.ea s q
 unfold BG at l
 rcases J with ⟨k,e,O,T,B⟩ | ⟨k,e,B,O,T⟩ | ⟨k,n,_,_,p⟩
 ·rw[vg (by omega),vk (by omega)] at l
  have:=xK l
  subst this
  exact⟨λ_=>B,A⟩
 ·rw[vg (by omega),vj k] at l
  have:=xK l
  subst this
  exact⟨λh=>(by cases h),A⟩
 ·rw[vh k] at l
  obtain⟨e,C,rfl⟩:=wu.1 l
  obtain⟨j,E,rfl⟩:=ww.1 C
  have F:=Nf p E
  rw[vr s.Elems j E] at F
  exact⟨F,M _ C⟩
theorem sY{f}(h:EJ f=0)(w:∀e∈f,e.Attrs.length≤1048576):KQ f:=by
 intro e l
 obtain⟨j,q,rfl⟩:=ww.1 l
 have u:=Nf h q
 rw[vr f j q] at u
 exact⟨u,w _ l⟩
theorem TD(us:List Un):BL us≤us.length:=yN
theorem WV(us:List Un):Br us≤us.length:=yN
theorem Js{us:List Un}(h:∀u∈us,DT u):(Aq us).out.length+(Aq us).adds.length+(Aq us).cuts≤us.length:=(JO h).len
theorem pm:∀(us:List Un) (f:List AD),KQ f→TL us→∀e∈A1 us f,e.Attrs.length≤1073741824:=by
 intro us f
 fun_induction A1 us f with
 | case1 e us f q=>
  intro l j x h
  rcases wC.1 h with rfl | h
  ·have:x.Attrs.length≤1048576:=(j _ (vn ..)).2
   show x.Attrs.length≤_
   omega
  ·exact q l (λv u=>j v (vp _ u)) x h
 | case2 t us y f q=>
  intro l j x h
  exact q (λe w=>l e (vp _ w)) (λv u=>j v (vp _ u)) x h
 | case3 t us y f q=>
  intro l j x h
  rcases wC.1 h with rfl | h
  ·have A:=(l y (vn ..)).2
   have B:t.length≤1048576:=(j _ (vn ..)).2
   have:=YG y.Attrs t
   show(Hu y.Attrs t).length≤_
   omega
  ·exact q (λe w=>l e (vp _ w)) (λv u=>j v (vp _ u)) x h
 | case4=>intro _ _ x h;cases h
 | case5=>intro _ _ x h;cases h
theorem R9{d}(h:∀s∈d,FO s):(Ao (Ag d):Int)=Ax d:=by
 induction d with
 | nil=>rfl
 | cons s d j=>
  have B:=j (λx q=>h x (vp _ q))
  have u:=(h s (vn ..)).kind
  rw[SM,IH]
  have e:Ao (BG s++Ag d)=Ao (BG s)+Ao (Ag d):=by simp[Ao]
  rw[e]
  have e2:(Ao (BG s):Int)=By s:=by
   unfold BG By
   rcases u with ⟨k,e,w,A,_⟩ | ⟨k,e,_,w,A⟩ | ⟨k,n,_,_,_⟩
   ·rw[vg (by omega),vg (by omega)];simp[Ao,xp,Un.isR];omega
   ·rw[vg (by omega),vg (by omega)];simp[Ao,xp,Un.isR];omega
   ·rw[vh k,vh k]
    have:∀l:List AD,Ao (l.map Un.a)=0:=λl=>by induction l with
     | nil=>rfl
     | cons x l j=>simp[Ao,Un.isR]
    rw[this];rfl
  omega
def De(us:List Un):Prop:=∀u∈us,match u with | .a e=>Bq e=0∧e.Attrs.length≤1048576 | .r c t=>(c=false→BC t true=0)∧(c=true→t=[])∧t.length≤1048576
theorem nB{s:AI}(h:FO s)(w:s.Attrs.length≤1048576)(E:∀e∈s.Elems,e.Attrs.length≤1048576):De (BG s):=by
 intro u l
 unfold BG at l
 rcases h.kind with ⟨k,e,F,I,q⟩ | ⟨k,e,q,F,I⟩ | ⟨k,n,_,_,p⟩
 ·rw[vg (by omega),vk (by omega)] at l
  have:=xK l
  subst this
  exact⟨λ_=>q,λh=>(by cases h),w⟩
 ·rw[vg (by omega),vj k] at l
  have:=xK l
  subst this
  exact⟨λh=>(by cases h),λ_=>q,w⟩
 ·rw[vh k] at l
  obtain⟨e,A,rfl⟩:=wu.1 l
  obtain⟨j,B,rfl⟩:=ww.1 A
  have C:=Nf p B
  rw[vr s.Elems j B] at C
  exact⟨C,E _ A⟩
theorem SJ{d}(h:∀s∈d,FO s)(l:GD d):De (Ag d):=by
 intro u q
 obtain⟨s,j,w⟩:=List.mem_flatMap.1 q
 exact nB (h s j) (l.at_ s j) (l.ea s j) u w
def B4(s:AI):Int:=if s.Kind=1 then s.Elems.length else s.N
def CL(p:BU):List Un:=match p.steps with
 | []=>[]
 | s::rest=>(BG s).drop p.used.toNat++Ag rest
structure Fe(p:BU):Prop where
 stp:∀s∈p.steps,FO s∧H6 s
 u0:0≤p.used
 fit:∀s rest,p.steps=s::rest→p.used<B4 s
theorem Gm{s}(h:FO s)(j:H6 s):1≤B4 s∧B4 s≤2147483647∧((BG s).length:Int)=B4 s∧Gx s=some (B4 s):=by
 have A:=j.el
 unfold B4 BG Gx
 rcases h.kind with ⟨k,e,l,q,u⟩ | ⟨k,e,u,l,q⟩ | ⟨k,n,_,w,p⟩
 ·rw[vg (by omega),vg (by omega),vg (by rw[vi];omega),wZ];exact⟨by omega,by omega,by omega,rfl⟩
 ·rw[vg (by omega),vg (by omega),vg (by rw[vi];omega),wZ];exact⟨by omega,by omega,by omega,rfl⟩
 ·have:=xy.2 w
  rw[vh k,vh k,vh (by rw[vi];exact k),v7];exact⟨by omega,by omega,rfl,rfl⟩
theorem P1 a:CL ⟨a,0⟩=Ag a:=by
 cases a with
 | nil=>rfl
 | cons s rest=>simp[CL,Ag]
theorem OP{a}(h:∀s∈a,FO s∧H6 s):Fe ⟨a,0⟩:=⟨h,y9 0,λs rest e=>by
 have j:s∈a:=by show s∈(⟨a,0⟩:BU).steps;rw[e];exact vn ..
 have:=(Gm (h s j).1 (h s j).2).1
 show(0:Int)<B4 s
 omega⟩
theorem NJ u:GF ⟨[],u⟩=some (-1):=by unfold GF;rw[vh (by simp)]
theorem Lm(s:AI) rest u:GF ⟨s::rest,u⟩=some s.Kind:=by
 unfold GF;rw[vg (by simp;omega)];rfl
theorem Hc{s}{rest}{u}(h:Fe ⟨s::rest,u⟩):GR ⟨s::rest,u⟩=some (B4 s-u):=by
 have j:=h.stp s (vn ..)
 have l:=Gm j.1 j.2
 have q:=h.u0
 have w:=h.fit s rest rfl
 dsimp only at q w
 unfold GR
 show AB (some s) _=_
 rw[AE,l.2.2.2,AE,Bz (by dsimp only;omega) (by dsimp only;omega)];rfl
def I0(s:AI)(u n:Nat):List Un:=((BG s).drop u).take n
theorem Ha{s:AI}{rest:List AI}{u n:Int}(h:Fe ⟨s::rest,u⟩)(T:1≤n)(U:n≤B4 s-u)(V:rest.length≤4294967296) :
  ∃p s',Fj ⟨s::rest,u⟩ n=some (s',p)∧Fe p∧CL ⟨s::rest,u⟩=I0 s u.toNat n.toNat++CL p∧p.steps.length≤rest.length+1∧s'.Kind=s.Kind∧s'.Attrs=s.Attrs∧(s.Kind=1→s'.Elems.map Un.a=I0 s u.toNat n.toNat∧(s'.Elems.length:Int)=n∧∀e∈s'.Elems,e∈s.Elems):=by
 have w:=h.stp s (vn ..)
 have E:=Gm w.1 w.2
 have F:=h.u0
 have I:=h.fit s rest rfl
 dsimp only at F I
 unfold Fj
 dsimp only
 show ∃p s',AB (some s) _=_∧_
 rw[AE]
 have q:∃s',(if(decide (s.Kind=1)) then(AB (AN .i64 (u+n)) λ(J:Int)=>AB (Bx s.Elems u J) λ(M:List AD)=>some (AI.mk s.Kind s.N s.Attrs M)) else(some (AI.mk s.Kind n s.Attrs s.Elems)))=some s'∧s'.Kind=s.Kind∧s'.Attrs=s.Attrs∧(s.Kind=1→s'.Elems.map Un.a=I0 s u.toNat n.toNat∧(s'.Elems.length:Int)=n∧∀e∈s'.Elems,e∈s.Elems):=by
  by_cases k:s.Kind=1
  ·have X:B4 s=s.Elems.length:=by unfold B4;rw[vh k]
   rw[vh (by rw[vi];exact k),Bz (by omega) (by omega),AE]
   have:Bx s.Elems u (u+n)=some ((s.Elems.drop u.toNat).take n.toNat):=by
    unfold Bx
    rw[vh (by omega),show(u+n).toNat-u.toNat=n.toNat by omega]
   rw[this,AE]
   refine⟨_,rfl,rfl,rfl,λ_=>⟨?_,?_,λe l=>xt (xG l)⟩⟩
   ·unfold I0 BG;rw[vh k,ya,List.map_drop]
   ·dsimp only;rw[List.length_take,List.length_drop];omega
  ·rw[vg (by rw[vi];exact k)]
   exact⟨_,rfl,rfl,rfl,λh=>absurd h k⟩
 obtain⟨s',q,A,B,C⟩:=q
 rw[q,AE,Bz (by omega) (by omega),AE,E.2.2.2,AE]
 have j:(BG s).drop u.toNat=I0 s u.toNat n.toNat++(BG s).drop (u.toNat+n.toNat):=by
  unfold I0
  rw[← zW,xo]
 by_cases l:u+n=B4 s
 ·rw[vh (by rw[vi];exact l)]
  have:Bx (s::rest) 1 ((s::rest).length:Int)=some rest:=by
   unfold Bx
   rw[vh (by rw[v6];omega)]
   simp
  rw[this,AE,AE]
  refine⟨_,_,rfl,OP λx O=>h.stp x (vp _ O),?_,by simp,A,B,C⟩
  rw[P1]
  show(BG s).drop u.toNat++Ag rest=_
  rw[j,zC (by omega),wG]
 ·rw[vg (by rw[vi];exact l),AE]
  refine⟨_,_,rfl,⟨h.stp,by show 0≤u+n;omega,λx r e=>?_⟩,?_,by simp,A,B,C⟩
  ·have:s=x:=by have:=e;simp at this;exact this.1
   subst this
   show u+n<B4 s
   omega
  ·show(BG s).drop u.toNat++Ag rest=_++((BG s).drop (u+n).toNat++Ag rest)
   rw[j,vy,show(u+n).toNat=u.toNat+n.toNat by omega]
theorem P3{s:AI}{u n}(k:s.Kind≠1)(h:u+n≤s.N.toNat):I0 s u n=List.replicate n (.r (decide (s.Kind=2)) s.Attrs):=by
 unfold I0 BG
 rw[vg k,List.drop_replicate,List.take_replicate,show min n (s.N.toNat-u)=n by omega]
theorem ph n l j q u us vs:CJ (List.replicate n (.r l q)++us) (List.replicate n (.r j u)++vs)=(if j then [] else List.replicate n (.r l (E2 q u)))++CJ us vs:=by
 induction n with
 | zero=>cases j<;>rfl
 | succ n w=>
  rw[wP,wP,wF,wF,CJ,w]
  cases j<;>rfl
theorem ip n j l u q us vs:Ck (List.replicate n (.r j u)++us) (List.replicate n (.r l q)++vs)=(if j then [] else List.replicate n (.r l q))++Ck us vs:=by
 induction n with
 | zero=>cases j<;>rfl
 | succ n w=>
  rw[wP,wP,wF,wF,Ck,w]
  cases j<;>rfl
theorem ci{a b}(j:BC a true=0)(l:BC b true=0):Bo FL a b []=E2 a b:=s4 (F8 j).1 (F8 l).1 (F8 j).2.1 (F8 l).2.1
theorem Sw{u:Un}{us:List Un}(h:De us)(hu:u ∈ us):DT u := by
  have := h u hu
  match u, this with
  | .a e, he => exact⟨he.1, HA (Ht he.1) (by omega)⟩
  | .r true t, ht => have := ht.2.1 rfl
                     subst this;exact⟨λh => (by cases h), GB⟩
  | .r false t, ht => exact⟨λ_ => ht.1 rfl, HA (ht.1 rfl) (by have := ht.2.2;omega)⟩
theorem De.tl{u}{us}(h:De (u::us)):De us:=λv j=>h v (vp _ j)
theorem NW:BC [] true=0:=by decide
theorem ey:DT (.r false []):=⟨λ_=>NW,GB⟩
theorem eS{j q:List AC}(u:BC j true=0)(w:BC q true=0)(B:j.length≤1048576)(A:q.length≤1048576):BC (E2 j q) true=0∧Co (E2 j q):=by
 have e:=rE u w
 have l:=rQ j q
 rw[ci u w] at e l
 exact⟨e,HA e (by omega)⟩
theorem gq:∀(us vs:List Un),De us→De vs→∀u∈CJ us vs,DT u:=by
 intro us vs
 fun_induction CJ us vs with
 | case1 e us vs w=>
  intro l q u j
  rcases wC.1 j with rfl | j
  ·exact Sw l (vn ..)
  ·exact w l.tl q u j
 | case2 us e vs F w=>
  intro l q u j
  rcases wC.1 j with rfl | j
  ·exact ey
  ·exact w l q.tl u j
 | case3 E I us J vs w=>intro l q u j;exact w l.tl q.tl u j
 | case4 E I us T J vs B w=>
  intro l q u j
  rcases wC.1 j with rfl | j
  ·have A:=l _ (vn ..)
   have C:=q _ (vn ..)
   dsimp only at A C
   cases E with
   | true=>
    have:=A.2.1 rfl
    subst this
    exact⟨λh=>(by cases h),GB⟩
   | false=>
    obtain⟨M,O⟩:=eS (A.1 rfl) (C.1 (by simpa using B)) A.2.2 C.2.2
    exact⟨λ_=>M,O⟩
  ·exact w l.tl q.tl u j
 | case5=>intro _ _ u j;cases j
 | case6=>intro _ _ u j;cases j
 | case7=>intro _ _ u j;cases j
theorem Xb:∀(us vs:List Un),De us→De vs→∀u∈Ck us vs,DT u:=by
 intro us vs
 fun_induction Ck us vs with
 | case1 e us vs q=>
  intro w l u j
  rcases wC.1 j with rfl | j
  ·exact ey
  ·exact q w.tl l u j
 | case2 us e vs A q=>
  intro w l u j
  rcases wC.1 j with rfl | j
  ·exact Sw l (vn ..)
  ·exact q w l.tl u j
 | case3 B us C E vs q=>intro w l u j;exact q w.tl l.tl u j
 | case4 I B us C E vs F q=>
  intro w l u j
  rcases wC.1 j with rfl | j
  ·exact Sw l (vn ..)
  ·exact q w.tl l.tl u j
 | case5=>intro _ _ u j;cases j
 | case6=>intro _ _ u j;cases j
 | case7=>intro _ _ u j;cases j
theorem Db(u:Un) us:BL (u::us)=(if u.isR then 0 else 1)+BL us:=by unfold BL;rw[xF];cases u.isR<;>simp<;>omega
theorem tt:∀(us vs:List Un),BL (CJ us vs)≤BL us:=by
 intro us vs
 fun_induction CJ us vs with
 | case1 e us vs j=>rw[Db,Db];omega
 | case2 us e vs l j=>rw[Db];simp only[Un.isR,xZ];omega
 | case3 q u us w vs j=>rw[Db];omega
 | case4 q u us B w vs A j=>rw[Db,Db];simp only[Un.isR,xZ];omega
 | case5=>simp[BL]
 | case6=>simp[BL]
 | case7=>simp[BL]
theorem mP:∀(us vs:List Un),BL (Ck us vs)≤BL vs:=by
 intro us vs
 fun_induction Ck us vs with
 | case1 e us vs j=>rw[Db];simp only[Un.isR,xZ];omega
 | case2 us e vs l j=>rw[Db,Db];omega
 | case3 q us u w vs j=>rw[Db];omega
 | case4 B q us u w vs A j=>rw[Db,Db];simp only[Un.isR,xZ];omega
 | case5=>simp[BL]
 | case6=>simp[BL]
 | case7=>simp[BL]
theorem Hv a b:Ao (a++b)=Ao a+Ao b:=by simp[Ao]
theorem OB(l:List AD):Ao (l.map Un.a)=0:=by induction l with
 | nil=>rfl
 | cons x l j=>simp[Ao,Un.isR]
theorem Ow n c t:Ao (List.replicate n (.r c t))=n:=by simp[Ao,xp,Un.isR]
theorem VX{s:AI}{rest}{u:Int}(h:Fe ⟨s::rest,u⟩)(l:s.Kind≠1):Mr (CL ⟨s::rest,u⟩)∧0<Ao (CL ⟨s::rest,u⟩):=by
 have q:=h.stp s (vn ..)
 have C:=Gm q.1 q.2
 have w:=h.u0
 have A:=h.fit s rest rfl
 dsimp only at w A
 have E:B4 s=s.N:=by unfold B4;rw[vg l]
 have e:CL ⟨s::rest,u⟩=List.replicate (s.N.toNat-u.toNat) (.r (decide (s.Kind=2)) s.Attrs)++Ag rest:=by
  show(BG s).drop u.toNat++Ag rest=_
  unfold BG
  rw[vg l,List.drop_replicate]
 obtain⟨j,B⟩:∃j,s.N.toNat-u.toNat=j+1:=⟨s.N.toNat-u.toNat-1,by omega⟩
 rw[e,B]
 constructor
 ·rw[wP,wF]
  exact λ_ _ h=>by cases h
 ·rw[Hv,Ow]
  omega
theorem GH a b:Ao (a++b)=Ao a+Ao b:=by simp[Ao]
def W0:Zr:=⟨[],0,0⟩
theorem KF{X:List Un}(j:∀u∈X,DT u)(w:X.length≤100000000000)(k:Int)(t:List AC)(l:0≤k)(A:k≤100000000000)(q:t.length≤1073741824) :
  GE (Ce (Aq X)) k t=some (Ce (Aq (X++List.replicate k.toNat (.r false t)))):=by
 have B:=Js j
 have C:Ao X≤X.length:=yN
 rw[Y0 (JO j) (by omega) (by omega) k t l (by omega) q,Ka X k t l]
theorem Mj{X:List Un}(j:∀u∈X,DT u)(w:X.length≤100000000000)(l:List AD)(q:l.length≤4294967296)(h:∀e∈l,Co e.Attrs):HK (Ce (Aq X)) l=some (Ce (Aq (X++l.map Un.a))):=by
 have A:=Js j
 rw[bJ (Aq X) l q h (by omega),L5]
theorem RR{X:List Un}(j:∀u∈X,DT u)(q:X.length≤100000000000)(n:Int)(t:List AC)(w:0≤n)(A:n≤100000000000){α:Type}(f:Af→Option α) :
  (AB (AN .i64 ((Ce (Aq X)).cut+n)) λ(l:Int)=>f (Af.mk (Ce (Aq X)).out (Ce (Aq X)).add l))=f (Ce (Aq (X++List.replicate n.toNat (.r true t)))):=by
 have B:=Js j
 show(AB (AN .i64 (((Aq X).cuts:Int)+n)) _)=_
 rw[Bz (by omega) (by omega),AE,← Tc]
 congr 1
 show(⟨(Aq X).out,(Aq X).adds,((Aq X).cuts:Int)+n⟩:Af)=⟨(Aq X).out,(Aq X).adds,(((Aq X).cuts+n.toNat:Nat):Int)⟩
 congr 1
 omega
theorem De.app{a b}(h:De (a++b)):De b:=λu j=>h u (zN _ j)
theorem lD(I J:List Un)(p q:BU)(hp:Fe p)(C:Fe q)(ha:CL p=I)(hb:CL q=J)(oa:De I)(ob:De J)(hc:Ao I=Ao J)(ah:I.length≤4294967296)(ai:J.length≤4294967296)(O:p.steps.length≤4294967296)(E:q.steps.length≤4294967296) :
  iter (λ(a:Af × Af × BU × BU)=>Lp a.1 a.2.1 a.2.2.1 a.2.2.2) ((Af.mk [] [] 0),(Af.mk [] [] 0),p,q)=some (Ce (Aq (CJ I J)),Ce (Aq (Ck I J))):=by
 have key:∃r,iter (λ(a:Af × Af × BU × BU)=>Lp a.1 a.2.1 a.2.2.1 a.2.2.2) ((Af.mk [] [] 0),(Af.mk [] [] 0),p,q)=some r∧r=(Ce (Aq (CJ I J)),Ce (Aq (Ck I J))):=by
  refine Yr (λF=>Fe F.2.2.1∧Fe F.2.2.2∧De (CL F.2.2.1)∧De (CL F.2.2.2)∧F.2.2.1.steps.length≤4294967296∧F.2.2.2.steps.length≤4294967296∧Ao (CL F.2.2.1)=Ao (CL F.2.2.2) ∧
   ∃X Y,F.1=Ce (Aq X)∧F.2.1=Ce (Aq Y)∧X++CJ (CL F.2.2.1) (CL F.2.2.2)=CJ I J∧Y++Ck (CL F.2.2.1) (CL F.2.2.2)=Ck I J)
   (λF=>(CL F.2.2.1).length+(CL F.2.2.2).length) _ ?_ ⟨hp,C,by rw[ha];exact oa,by rw[hb];exact ob,O,E,by rw[ha,hb];exact hc,[],[],rfl,rfl,by rw[ha,hb];rfl,by rw[ha,hb];rfl⟩
  rintro⟨x,y,p,q⟩ ⟨hp,C,U,oQ,O,E,hc,X,Y,hx,hy,j,l⟩
  dsimp only at hp C U oQ O E hc hx hy j l
  subst hx;subst hy
  have aj:X.length≤8589934592:=by
   have A:=yC List.length j
   have M:=gV I J
   rw[vw] at A
   omega
  have ak:Y.length≤8589934592:=by
   have A:=yC List.length l
   have M:=Vo I J
   rw[vw] at A
   omega
  have V:∀u∈X,DT u:=λu hu=>gq I J oa ob u (by rw[← j];exact xz _ hu)
  have Z:∀u∈Y,DT u:=λu hu=>Xb I J oa ob u (by rw[← l];exact xz _ hu)
  dsimp only
  unfold Lp
  obtain⟨ps,pu⟩:=p
  obtain⟨qs,qu⟩:=q
  match ps,qs with
  | [],[]=>
   refine .inr ?_
   rw[NJ,NJ]
   simp only[AE]
   refine⟨_,rfl,?_⟩
   have e1:CJ [] []=[]:=by rw[CJ]
   have e2:Ck [] []=[]:=by rw[Ck]
   change X++CJ [] []=_ at j
   change Y++Ck [] []=_ at l
   rw[e1,wG] at j
   rw[e2,wG] at l
   rw[j,l]
  | s::ps,qs=>
   have hs:=hp.stp s (vn ..)
   have hsz:=Gm hs.1 hs.2
   have ab:=hp.u0
   have ac:=hp.fit s ps rfl
   have al:=Jc hs.1
   dsimp only at ab ac O
   rw[v6] at O
   rw[Lm,AE]
   have a6:decide (0≤s.Kind)=true:=by rw[vi];omega
   rw[a6,show(true==false)=false from rfl,vg (by decide),AE,vh (by decide)]
   refine .inl ?_
   by_cases hk:s.Kind=1
   ·obtain⟨p',s',A,M,T,h4,k1,k2,k3⟩:=Ha (n:=B4 s-pu) hp (by omega) (by omega) (by omega)
    obtain⟨k3,k4,k5⟩:=k3 hk
    rw[vh (by rw[vi];exact hk),Hc hp,AE,A,CB,Mj V (by omega) s'.Elems (by omega) (λe he=>hs.2.ea e (k5 e he)),AE,KF Z (by omega) _ _ (by omega) (by omega) (by simp),AE]
    rw[← k3] at T
    rw[T] at j l hc U ⊢
    rw[YH,← vy] at j
    rw[sR,← vy] at l
    rw[Hv,OB,wK] at hc
    rw[wd]
    refine⟨_,rfl,⟨M,C,U.app,oQ,by dsimp only;omega,E,hc,_,_,rfl,rfl,j,l⟩,?_⟩
    dsimp only
    rw[vw,v7];omega
   ·rw[vg (by rw[vi];exact hk)]
    have a0:=VX hp hk
    match qs with
    | []=>
     exfalso
     have A:=a0.2
     rw[hc] at A
     exact absurd A (by show ¬ (0<Ao []);simp[Ao])
    | t::qs=>
     have ht:=C.stp t (vn ..)
     have ad:=Gm ht.1 ht.2
     have a7:=C.u0
     have a8:=C.fit t qs rfl
     have ae:=Jc ht.1
     dsimp only at a7 a8 E
     rw[v6] at E
     rw[Lm,AE]
     by_cases B:t.Kind=1
     ·obtain⟨q',t',A,M,T,h4,k1,k2,k3⟩:=Ha (n:=B4 t-qu) C (by omega) (by omega) (by omega)
      obtain⟨k3,k4,k5⟩:=k3 B
      rw[vh (by rw[vi];exact B),Hc C,AE,A,CB,KF V (by omega) _ _ (by omega) (by omega) (by simp),AE,Mj Z (by omega) t'.Elems (by omega) (λe he=>ht.2.ea e (k5 e he)),AE]
      rw[← k3] at T
      rw[T] at j l hc oQ ⊢
      rw[gO _ _ _ a0.1,← vy] at j
      rw[YM _ _ _ a0.1,← vy] at l
      rw[Hv,OB,wK] at hc
      rw[wd]
      refine⟨_,rfl,⟨hp,M,U,oQ.app,by dsimp only [List.length_cons];omega,by dsimp only;omega,hc,_,_,rfl,rfl,j,l⟩,?_⟩
      dsimp only
      rw[vw,v7];omega
     ·rw[vg (by rw[vi];exact B),Hc hp,AE,Hc C,AE]
      generalize hn:min (B4 s-pu) (B4 t-qu)=n
      have aa:1≤n:=by omega
      have af:n≤B4 s-pu:=by omega
      have ag:n≤B4 t-qu:=by omega
      have z1:B4 s=s.N:=by unfold B4;rw[vg hk]
      have z2:B4 t=t.N:=by unfold B4;rw[vg B]
      obtain⟨p',s',A,M,T,h4,k1,k2,_⟩:=Ha (n:=n) hp aa af (by omega)
      obtain⟨q',t',j1,j2,j3,j4,l1,l2,_⟩:=Ha (n:=n) C aa ag (by omega)
      rw[P3 hk (by omega)] at T
      rw[P3 B (by omega)] at j3
      rw[T] at U
      rw[j3] at oQ
      obtain⟨m,hm⟩:∃m,n.toNat=m+1:=⟨n.toNat-1,by omega⟩
      have u1:=U (.r (decide (s.Kind=2)) s.Attrs) (by rw[hm,wP];simp)
      have u2:=oQ (.r (decide (t.Kind=2)) t.Attrs) (by rw[hm,wP];simp)
      dsimp only at u1 u2
      rw[A,CB,j1,CB,k1,l1,k2,l2]
      rw[T,j3] at j l hc ⊢
      rw[ph,← vy] at j
      rw[ip,← vy] at l
      rw[Hv,Hv,Ow,Ow] at hc
      by_cases h0:s.Kind=0<;>by_cases g0:t.Kind=0
      ·have d1:decide (s.Kind=2)=false:=by rw[h0];rfl
       have d2:decide (t.Kind=2)=false:=by rw[g0];rfl
       have a1:=u1.1 d1
       have a2:=u2.1 d2
       have lk:=(eS a1 a2 u1.2.2 u2.2.2).2
       rw[d1,d2] at j l ⊢
       rw[vj h0,vj g0,vh (by decide),mD _ _ (by omega),ci a1 a2,AE,KF V (by omega) n _ (by omega) (by omega) lk.1,AE,KF Z (by omega) n _ (by omega) (by omega) (by omega),AE]
       refine⟨_,rfl,⟨M,j2,U.app,oQ.app,by dsimp only;omega,by dsimp only;omega,by dsimp only;omega,_,_,rfl,rfl,j,l⟩,?_⟩
       dsimp only
       rw[vw,vw,wZ];omega
      ·have d1:decide (s.Kind=2)=false:=by rw[h0];rfl
       have d2:decide (t.Kind=2)=true:=by rw[vi];omega
       rw[d1,d2] at j l ⊢
       rw[vj h0,vk g0,vg (by decide),vh (by decide)]
       rw[vh rfl,wG] at j
       rw[RR Z (by omega) n t.Attrs (by omega) (by omega) (λw=>some (Sum.inl (Ce (Aq X),w,p',q')))]
       refine⟨_,rfl,⟨M,j2,U.app,oQ.app,by dsimp only;omega,by dsimp only;omega,by dsimp only;omega,_,_,rfl,rfl,j,l⟩,?_⟩
       dsimp only
       rw[vw,vw,wZ];omega
      ·have d1:decide (s.Kind=2)=true:=by rw[vi];omega
       have d2:decide (t.Kind=2)=false:=by rw[g0];rfl
       rw[d1,d2] at j l ⊢
       rw[vk h0,vj g0,vg (by decide),vg (by decide),vh (by decide)]
       rw[vh rfl,wG] at l
       rw[RR V (by omega) n (E2 s.Attrs t.Attrs) (by omega) (by omega) (λw=>some (Sum.inl (w,Ce (Aq Y),p',q')))]
       refine⟨_,rfl,⟨M,j2,U.app,oQ.app,by dsimp only;omega,by dsimp only;omega,by dsimp only;omega,_,_,rfl,rfl,j,l⟩,?_⟩
       dsimp only
       rw[vw,vw,wZ];omega
      ·have d1:decide (s.Kind=2)=true:=by rw[vi];omega
       have d2:decide (t.Kind=2)=true:=by rw[vi];omega
       rw[d1,d2] at j l ⊢
       rw[vk h0,vk g0,vg (by decide),vg (by decide),vg (by decide)]
       rw[vh rfl,wG] at j l
       refine⟨_,rfl,⟨M,j2,U.app,oQ.app,by dsimp only;omega,by dsimp only;omega,by dsimp only;omega,_,_,rfl,rfl,j,l⟩,?_⟩
       dsimp only
       rw[vw,vw,wZ];omega
  | [],t::qs=>
   have ht:=C.stp t (vn ..)
   have ad:=Gm ht.1 ht.2
   have a7:=C.u0
   have a8:=C.fit t qs rfl
   have ae:=Jc ht.1
   dsimp only at a7 a8 E
   rw[v6] at E
   rw[NJ,AE,show decide ((0:Int) ≤ -1)=false by decide,show(false==false)=true from rfl,vh rfl,Lm,AE,AE]
   have a6:decide (0≤t.Kind)=true:=by rw[vi];omega
   rw[a6,vh (by decide),vg (by decide),AE]
   refine .inl ?_
   by_cases B:t.Kind=1
   ·obtain⟨q',t',A,M,T,h4,k1,k2,k3⟩:=Ha (n:=B4 t-qu) C (by omega) (by omega) (by omega)
    obtain⟨k3,k4,k5⟩:=k3 B
    rw[vh (by rw[vi];exact B),Hc C,AE,A,CB,KF V (by omega) _ _ (by omega) (by omega) (by simp),AE,Mj Z (by omega) t'.Elems (by omega) (λe he=>ht.2.ea e (k5 e he)),AE]
    rw[← k3] at T
    rw[T] at j l hc oQ ⊢
    rw[gO _ _ _ (show Mr (CL ⟨[],pu⟩) from Zu),← vy] at j
    rw[YM _ _ _ (show Mr (CL ⟨[],pu⟩) from Zu),← vy] at l
    rw[Hv,OB,wK] at hc
    rw[wd]
    refine⟨_,rfl,⟨hp,M,U,oQ.app,O,by dsimp only;omega,hc,_,_,rfl,rfl,j,l⟩,?_⟩
    dsimp only
    rw[vw,v7];omega
   ·exfalso
    have A:=(VX C B).2
    rw[← hc] at A
    exact absurd A (by show ¬ (0<Ao []);simp[Ao])
 obtain⟨r,A,M⟩:=key
 rw[A,M]
theorem mE a b:BL (a++b)=BL a+BL b:=by simp[BL]
theorem Q7{d:List AI}(h:∀s∈d,FO s):BL (Ag d)=(d.map λs=>s.Elems.length).sum:=by
 induction d with
 | nil=>rfl
 | cons s d j=>
  have q:=j (λx u=>h x (vp _ u))
  have w:=(h s (vn ..)).kind
  rw[SM,mE,q,wB,wv]
  congr 1
  unfold BG
  rcases w with ⟨k,e,_,_,_⟩ | ⟨k,e,_,_,_⟩ | ⟨k,_,_,_,_⟩
  ·rw[vg (by omega),e];simp[BL,xp,Un.isR]
  ·rw[vg (by omega),e];simp[BL,xp,Un.isR]
  ·rw[vh k]
   have:∀l:List AD,BL (l.map Un.a)=l.length:=λl=>by induction l with
    | nil=>rfl
    | cons x l j=>rw[wB,Db,j,v6];simp only[Un.isR];simp;omega
   rw[this]
def WQ(a b:List AI):List AI × List AI × Int:=
 if CY (BN (CJ (Ag a) (Ag b)))≠0∨CY (BN (Ck (Ag a) (Ag b)))≠0 then([],[],3) else(BN (CJ (Ag a) (Ag b)),BN (Ck (Ag a) (Ag b)),0)
theorem rz a b(B:Ey a)(C:Ey b)(E:GD a)(F:GD b):MY a b=some (if CY a≠0 then([],[],CY a) else if CY b≠0 then([],[],CY b) else
  if Ax a≠Ax b then([],[],14) else WQ a b):=by
 unfold MY
 rw[Ql a B,AE]
 by_cases j:CY a≠0
 ·rw[vh (Ba j),vh j]
 have j:=wL.1 j
 rw[vg (CM j),vg (by simpa using j),Ql b C,AE]
 by_cases e2:CY b≠0
 ·rw[vh (Ba e2),vh e2]
 have e2:=wL.1 e2
 have l:=L2 j
 have q:=L2 e2
 rw[vg (CM e2),vg (by simpa using e2),S1 a B l,S1 b C q,CB,CB]
 by_cases w:Ax a≠Ax b
 ·rw[vh (Ba w),vh w]
 have w:=wL.1 w
 have T:=Pn l.st
 have U:=Pn q.st
 have V:=R9 l.st
 have X:=R9 q.st
 have I:=SJ l.st E
 have J:=SJ q.st F
 have Y:=l.olds
 have g2:=q.olds
 have Z:=E.sum
 have m2:=F.sum
 have n1:=E.len
 have n2:=F.len
 rw[vg (CM w),vg (by simpa using w)]
 rw[lD (Ag a) (Ag b) ⟨a,0⟩ ⟨b,0⟩ (OP λs A=>⟨l.st s A,B.st s A⟩) (OP λs A=>⟨q.st s A,C.st s A⟩) (P1 a) (P1 b) I J (by omega) (by omega) (by omega) (by dsimp only;omega) (by dsimp only;omega),CB]
 have px:=gV (Ag a) (Ag b)
 have py:=Vo (Ag a) (Ag b)
 have M:=gq _ _ I J
 have O:=Xb _ _ I J
 have lx:=Js M
 have ly:=Js O
 have cx:=tt (Ag a) (Ag b)
 have cy:=mP (Ag a) (Ag b)
 have wa:=Q7 l.st
 have wb:=Q7 q.st
 rw[Qn M (by omega) (by omega),Qn O (by omega) (by omega)]
 unfold WQ
 by_cases u:CY (BN (CJ (Ag a) (Ag b)))=0<;>by_cases f2:CY (BN (Ck (Ag a) (Ag b)))=0
 ·rw[vg (by simpa using u),vg (by simpa using f2),vg (by simp[u,f2])];rfl
 ·rw[vg (by simpa using u),vh f2,vh (.inr f2)];rfl
 ·rw[vh u,vg (by simpa using f2),vh (.inl u)];rfl
 ·rw[vh u,vh f2,vh (.inl u)];rfl
def Ji(f:List AD):Int:=if EJ f≠0 then EJ f else if f=[]∨f[f.length-1]!.Char≠10 then 11 else 0
theorem ox{f}{k}{r}(h:Eb f k=some r):r≠0:=by
 unfold Eb at h
 split at h
 ·cases h
 ·rename_i j;cases h;exact j
theorem gc(f:List AD)(C:f.length≤1073741824):(At (some (Fk ((List.range f.length).findSome? (Eb f)))) λ(_:Unit)=>
  AB (gd ((true==true)&&((decide ((f.length:Int)=0))==false)) (AN .i64 ((f.length:Int)-1))) λ(u:Int)=>
  AB (gd ((true==true)&&((decide ((f.length:Int)=0))==false)) (AM f u)) λ(w:AD)=>
  if(true&&(((f.length:Int)=0)||(!(w.Char=10)))) then some (11:Int) else some 0)=some (Ji f):=by
 rw[E9]
 unfold Ji EJ
 cases A:(List.range f.length).findSome? (Eb f) with
 | some r=>
  have l:r≠0:=by
   obtain⟨k,B⟩:=xE A
   exact ox B.2
  dsimp only [Option.getD]
  rw[vh l]
 | none=>
  dsimp only [Option.getD]
  rw[vg (by decide)]
  by_cases q:f=[]
  ·subst q;rfl
  ·have E:0<f.length:=xy.2 q
   have hd:decide ((f.length:Int)=0)=false:=vk (by omega)
   rw[hd,show((true==true)&&(false==false))=true from rfl,An,show((f.length:Int)-1)=((f.length-1:Nat):Int) by omega,Bz (by omega) (by omega),AE,An,Aa (by omega),AE]
   by_cases j:f[f.length-1]!.Char=10
   ·rw[vg (by rw[vj j];decide),vg (λh=>h.elim q λh=>h j)]
   ·rw[vh (by rw[vk j];decide),vh (.inr j)]
theorem YY(f:List AD)(h:∀x∈f,EG x)(l:f.length≤1073741824):H2 f true=some (Ji f):=by
 unfold H2
 rw[Cb (n:=f.length) (Eb f) (λk j=>by
  unfold LI Eb
  rw[vh (by simpa using j),Aa j,AE,Ad (by omega),WI _ (h _ (BT j)),AE]
  by_cases e:Bq f[k]! = 0
  ·rw[vg (CM e),vh e];rfl
  ·rw[vh (Ba e),vg e];rfl) (by unfold LI;rw[vg (by simp)])]
 exact gc f l
theorem jt(f:List AD)(h:∀x∈f,EG x)(l:f.length≤1073741824):JD f true=some (Ji f):=by
 unfold JD
 rw[Cb (n:=f.length) (Eb f) (λk j=>by
  unfold Ke Eb
  rw[vh (by simpa using j),Aa j,AE,Ad (by omega),WH _ (h _ (BT j)),AE]
  by_cases e:Bq f[k]! = 0
  ·rw[vg (CM e),vh e];rfl
  ·rw[vh (Ba e),vg e];rfl) (by unfold Ke;rw[vg (by simp)])]
 exact gc f l
instance:Inhabited Un:=⟨.r false []⟩
def off(n:List UInt8):AC:=⟨n,[]⟩
def Dg:Un→AI
 | .a e=>⟨1,0,[],[e]⟩
 | .r true _=>⟨2,1,[],[]⟩
 | .r false t=>⟨0,1,t,[]⟩
def IO(u:Un):Prop:=match u with | .a _=>False | .r c t=>(c=false→BC t true=0)∧(c=true→t=[])∧t.length≤2
theorem bM{us:List Un}(h:∀u ∈ us, IO u):∀u ∈ us, DT u := by
  intro u hu
  have := h u hu
  match u, this with
  | .r true t, ht => have := ht.2.1 rfl
                     subst this;exact⟨λh => (by cases h), GB⟩
  | .r false t, ht => exact⟨λ_ => ht.1 rfl, HA (ht.1 rfl) (by have := ht.2.2;omega)⟩
theorem jc{u}(h:IO u):Cs (Dg u)=0∧H6 (Dg u)∧(Dg u).N=1:=by
 match u,h with
 | .r true t,j=>exact⟨YP (by decide) (by decide),⟨GB,by simp[Dg],λe l=>by simp[Dg] at l⟩,rfl⟩
 | .r false t,j=>exact⟨XF (by decide) (by decide) (j.1 rfl),⟨HA (j.1 rfl) (by have:=j.2.2;show t.length≤_;omega),by simp[Dg],λe l=>by simp[Dg] at l⟩,rfl⟩
theorem nP(us:List Un)(h:∀u∈us,IO u)(V:us.length≤1048576) :
  iter (λ(a:Int × Af)=>FX (us.map Dg) a.1 a.2) (0,(Af.mk [] [] 0))=some (.nrm (Ce (Aq us))):=by
 have key:∃r,iter (λ(a:Int × Af)=>FX (us.map Dg) a.1 a.2) (0,(Af.mk [] [] 0))=some r∧r=.nrm (Ce (Aq us)):=by
  refine EL us.length (λk q=>q=((k:Int),Ce (Aq (us.take k)))) _ ?_ ?_ rfl
  ·rintro k q j rfl
   have w:=h _ (BT j)
   have l:∀u∈us.take k,DT u:=λu F=>bM h u (xG F)
   have I:(us.take k).length≤us.length:=by rw[wi];omega
   have J:=Js l
   have A:(us.map Dg)[k]! = Dg us[k]!:=by
    rw[vr (us.map Dg) k (by simpa using j),vr us k j,zL]
   obtain⟨C,E,M⟩:=jc w
   refine .inl ⟨_,?_,rfl⟩
   show FX (us.map Dg) (k:Int) _=_
   unfold FX
   rw[vh (by simpa using j),Aa (by simpa using j),AE,A,UR _ E,AE,C]
   rw[Fi j]
   generalize us[k]! = u at w C E M
   match u,w with
   | .r true t,B=>
    have O:=B.2.1 rfl
    subst O
    rw[vg (by simp[Dg]),AE,vg (by decide),vg (by simp[Dg]),vg (by simp[Dg])]
    show At (AB (AN .i64 (((Aq (us.take k)).cuts:Int)+1)) _) _=_
    rw[Bz (by omega) (by omega),AE,vg (by rw[vi];omega),Gs,Ad (by omega),AE]
    have e:=Tc (us.take k) 1 []
    rw[show List.replicate 1 (Un.r true [])=[.r true []] from rfl] at e
    rw[← e];rfl
   | .r false t,B=>
    rw[vg (by simp[Dg]),AE,vg (by decide),vh (by simp[Dg])]
    show At (AB (GE _ 1 t) _) _=_
    rw[KF l (by omega) 1 t (by decide) (by decide) (by have:=B.2.2;omega),AE,Gs,Ad (by omega),AE];rfl
  ·rintro q rfl
   refine⟨_,?_,rfl⟩
   rw[xf]
   show FX (us.map Dg) (us.length:Int) _=_
   unfold FX
   rw[vg (by simp)]
 obtain⟨r,T,U⟩:=key
 rw[T,U]
theorem ld(us:List Un)(h:∀u∈us,IO u)(l:us.length≤1048576):Ir (us.map Dg)=some (BN us,0):=by
 unfold Ir
 have j:=bM h
 have q:=Js j
 have A:=TD us
 have B:=WV us
 have a3:Ao us≤us.length:=yN
 have w:CY (BN us)=0:=co (JO j) (by omega) (by omega)
 rw[nP us h l,Gs,Qn j (by omega) (by omega),vg (by simpa using w),OL]
theorem ng:GK.length=256:=by decide +kernel
theorem nN(s:List UInt8) k(j:k≤s.length):Bx s (k:Int) (s.length:Int)=some (s.drop k):=by
 unfold Bx
 rw[vh (by omega)]
 congr 1
 rw[xx (by simp),wd]
def Ix(t:Bool)(f:List AD)(k:Nat):Option Int:=if Bq f[k]! = 0 then(if t=false∧f[k]!.Ref=0 then some 8 else none) else some (Bq f[k]!)
theorem lB{x:AD}(h:Bq x=0):(x.Ref=0↔x.Char≠0):=by
 unfold Bq at h
 by_cases c:x.Char=0<;>by_cases r:x.Ref=0<;>simp[c,r] at h ⊢
theorem ZF(f:List AD)(h:∀x∈f,EG x)(l:f.length≤1073741824):H2 f false=some (((List.range f.length).findSome? (Ix false f)).getD 0):=by
 unfold H2
 rw[Cb (n:=f.length) (Ix false f) (λk j=>by
  unfold LI Ix
  rw[vh (by simpa using j),Aa j,AE,Ad (by omega),WI _ (h _ (BT j)),AE]
  generalize f[k]! = x
  by_cases e:Bq x=0
  ·rw[vg (CM e),vh e]
   by_cases r:x.Ref=0
   ·rw[vh (show(!false&&(x.Ref=0))=true by rw[vj r];rfl),vh ⟨rfl,r⟩];rfl
   ·rw[vg (show ¬ (!false&&(x.Ref=0))=true by rw[vk r];decide),vg (λh=>r h.2)];rfl
  ·rw[vh (Ba e),vg e];rfl) (by unfold LI;rw[vg (by simp)])]
 cases (List.range f.length).findSome? (Ix false f)<;>rfl
theorem qN(f:List AD)(h:∀x∈f,EG x)(u:f.length≤1073741824):JD f false=some (((List.range f.length).findSome? (Ix false f)).getD 0):=by
 unfold JD
 rw[Cb (n:=f.length) (Ix false f) (λk j=>by
  unfold Ke Ix
  rw[vh (by simpa using j),Aa j,AE,Ad (by omega),WH _ (h _ (BT j)),AE]
  generalize f[k]! = x
  by_cases e:Bq x=0
  ·rw[vg (CM e),vh e]
   have q:=lB e
   by_cases r:x.Ref=0
   ·rw[vh (show(!false&&!(x.Char=0))=true by rw[vk (q.1 r)];rfl),vh ⟨rfl,r⟩];rfl
   ·have l:x.Char=0:=wM λl=>r (q.2 l)
    rw[vg (show ¬ (!false&&!(x.Char=0))=true by rw[vj l];decide),vg (λh=>r h.2)];rfl
  ·rw[vh (Ba e),vg e];rfl) (by unfold Ke;rw[vg (by simp)])]
 cases (List.range f.length).findSome? (Ix false f)<;>rfl
theorem kj(f:List AD) t(h:∀x∈f,EG x)(j:f.length≤1073741824):∃r,H2 f t=some r∧JD f t=some r:=by
 cases t
 ·exact⟨_,ZF f h j,qN f h j⟩
 ·exact⟨_,YY f h j,jt f h j⟩
theorem lq(a b:List AD)(M:a.length≤9223372036854775806)(h:∀e∈a,e.Attrs.length≤1073741824):Wx a b=some (decide (a=b)):=by
 unfold Wx
 by_cases j:a.length=b.length
 ·rw[vg (by simp[j]),Cb (n:=a.length) (λk=>if decide (a[k]! = b[k]!) then none else some false) (λk l=>by
   unfold Va
   have O:=h _ (BT l)
   rw[vh (by simpa using l),Aa l,Aa (by omega),AE,AE,Nv _ _ (by omega),Ad (by omega)]
   generalize a[k]! = x
   generalize b[k]! = y
   obtain⟨q,u,w⟩:=x
   obtain⟨A,B,C⟩:=y
   by_cases E:q=A<;>by_cases F:u=B<;>by_cases I:w=C<;>simp[E,F,I,Cg,default]) (by unfold Va;rw[vg (by simp)]),Ky,E9]
  by_cases h:a=b
  ·subst h;rw[Xi,vj rfl];rfl
  ·rw[vk h]
   have:((List.range a.length).all λk=>decide (a[k]! = b[k]!))=false:=by
    rw[← xY];exact λJ=>h (VF j J)
   rw[this];rfl
 ·rw[vh (by simp;omega),vk (by rintro rfl;exact j rfl)]
theorem nJ(f:List AD)(u:f.length≤1073741824):∃r,iter (λ(a:Int × (List Int))=>ML f a.1 a.2) (0,[])=some r∧r.length≤f.length:=by
 refine EL f.length (λk l=>l.1=(k:Int)∧l.2.length≤k) _ ?_ ?_ ⟨rfl,by simp⟩
 ·rintro k ⟨x,out⟩ q ⟨rfl,j⟩
  dsimp only at j ⊢
  left
  unfold ML
  rw[vh (by simpa using q),Aa q,AE]
  by_cases r:f[k]!.Ref=0
  ·rw[vg (CM r),AE,Ad (by omega),AE]
   exact⟨_,rfl,rfl,by dsimp only;omega⟩
  ·rw[vh (Ba r),R5 (by omega),AE,AE,Ad (by omega),AE]
   exact⟨_,rfl,rfl,by dsimp only;rw[List.length_append,List.length_singleton];omega⟩
 ·rintro⟨x,out⟩ ⟨rfl,j⟩
  dsimp only at j ⊢
  unfold ML
  rw[vg (by simp)]
  exact⟨_,rfl,j⟩
theorem NH{α:Type}[Inhabited α][DecidableEq α]{f}(a b:List α)(j:a.length=b.length)
 (l:∀k:Nat, k<a.length→f k=Cg k (if decide (a[k]! = b[k]!) then none else some false)) (q:f a.length=some (.inr (.nrm ()))) :
    (At (iter f 0) λ(_:Unit) => some true)=some (decide (a=b)) := by
  rw[Cb (n := a.length) (λk => if decide (a[k]! = b[k]!) then none else some false) l q, Ky, E9]
  by_cases h:a=b
  · subst h;rw[Xi, vj rfl];rfl
  · rw[vk h]
    have:((List.range a.length).all λk => decide (a[k]! = b[k]!))=false := by
      rw[← xY];exact λu => h (VF j u)
    rw[this];rfl
theorem fU(x y:As):((x.Row=y.Row)&&((x.Col=y.Col)&&((x.H=y.H)&&((x.W=y.W)&&true))))=decide (x=y):=by
 obtain⟨j,l,q,u⟩:=x
 obtain⟨w,A,B,C⟩:=y
 rw[wc];simp
theorem eK(x y:BQ):((x.Clock=y.Clock)&&((x.Site=y.Site)&&((x.Kind=y.Kind)&&((x.Item=y.Item)&&((x.Parent=y.Parent)&&((x.Place=y.Place)&&((x.Name=y.Name)&&((x.Value=y.Value)&&true))))))))=decide (x=y):=by
 obtain⟨j,l,q,u,w,A,B,C⟩:=x
 obtain⟨E,F,I,J,M,O,T,U⟩:=y
 rw[wc];simp
theorem rK(a b:List As)(q:a.length≤9223372036854775806):Qr a b=some (decide (a=b)):=by
 unfold Qr
 by_cases j:a.length=b.length
 ·rw[vg (by simp[j])]
  exact NH a b j (λk l=>by
   unfold OA
   rw[vh (by simpa using l),Aa l,Aa (by omega),AE,AE,fU,Ad (by omega)]
   generalize a[k]! = x
   generalize b[k]! = y
   by_cases h:x=y<;>simp[h,Cg]) (by unfold OA;rw[vg (by simp)])
 ·rw[vh (by simp;omega),vk (by rintro rfl;exact j rfl)]
theorem tW(a b:List As)(q:a.length≤9223372036854775806):Qs a b=some (decide (a=b)):=by
 unfold Qs
 by_cases j:a.length=b.length
 ·rw[vg (by simp[j])]
  exact NH a b j (λk l=>by
   unfold P6
   rw[vh (by simpa using l),Aa l,Aa (by omega),AE,AE,fU,Ad (by omega)]
   generalize a[k]! = x
   generalize b[k]! = y
   by_cases h:x=y<;>simp[h,Cg]) (by unfold P6;rw[vg (by simp)])
 ·rw[vh (by simp;omega),vk (by rintro rfl;exact j rfl)]
theorem oO(a b:List BQ)(q:a.length≤9223372036854775806):W2 a b=some (decide (a=b)):=by
 unfold W2
 by_cases j:a.length=b.length
 ·rw[vg (by simp[j])]
  exact NH a b j (λk l=>by
   unfold Xg
   rw[vh (by simpa using l),Aa l,Aa (by omega),AE,AE,eK,Ad (by omega)]
   generalize a[k]! = x
   generalize b[k]! = y
   by_cases h:x=y<;>simp[h,Cg]) (by unfold Xg;rw[vg (by simp)])
 ·rw[vh (by simp;omega),vk (by rintro rfl;exact j rfl)]
theorem lS(a b:List BQ)(q:a.length≤9223372036854775806):Ph a b=some (decide (a=b)):=by
 unfold Ph
 by_cases j:a.length=b.length
 ·rw[vg (by simp[j])]
  exact NH a b j (λk l=>by
   unfold Qm
   rw[vh (by simpa using l),Aa l,Aa (by omega),AE,AE,eK,Ad (by omega)]
   generalize a[k]! = x
   generalize b[k]! = y
   by_cases h:x=y<;>simp[h,Cg]) (by unfold Qm;rw[vg (by simp)])
 ·rw[vh (by simp;omega),vk (by rintro rfl;exact j rfl)]
theorem rV(x y:Av)(U:x.Attrs.length≤1073741824):Pf x y=some (decide (x=y)):=by
 unfold Pf
 rw[Nv _ _ (by omega)]
 obtain⟨j,l,q,u,w⟩:=x
 obtain⟨A,B,C,E,F⟩:=y
 by_cases I:j=A<;>by_cases J:l=B<;>by_cases M:q=C<;>by_cases O:u=E<;>by_cases T:w=F<;>simp[I,J,M,O,T,gd,AE]
theorem sv(x y:Av)(U:x.Attrs.length≤1073741824):O3 x y=some (decide (x=y)):=by
 unfold O3
 rw[Rd _ _ (by omega)]
 obtain⟨j,l,q,u,w⟩:=x
 obtain⟨A,B,C,E,F⟩:=y
 by_cases I:j=A<;>by_cases J:l=B<;>by_cases M:q=C<;>by_cases O:u=E<;>by_cases T:w=F<;>simp[I,J,M,O,T,gd,AE]
theorem ro(a b:List Av)(q:a.length≤9223372036854775806)(h:∀x∈a,x.Attrs.length≤1073741824):Qz a b=some (decide (a=b)):=by
 unfold Qz
 by_cases j:a.length=b.length
 ·rw[vg (by simp[j])]
  exact NH a b j (λk l=>by
   unfold Qo
   rw[vh (by simpa using l),Aa l,Aa (by omega),AE,AE,rV _ _ (h _ (BT l)),AE,Ad (by omega)]
   generalize a[k]! = x
   generalize b[k]! = y
   by_cases h:x=y<;>simp[h,Cg]) (by unfold Qo;rw[vg (by simp)])
 ·rw[vh (by simp;omega),vk (by rintro rfl;exact j rfl)]
theorem qv(a b:List Av)(q:a.length≤9223372036854775806)(h:∀x∈a,x.Attrs.length≤1073741824):O4 a b=some (decide (a=b)):=by
 unfold O4
 by_cases j:a.length=b.length
 ·rw[vg (by simp[j])]
  exact NH a b j (λk l=>by
   unfold Nw
   rw[vh (by simpa using l),Aa l,Aa (by omega),AE,AE,sv _ _ (h _ (BT l)),AE,Ad (by omega)]
   generalize a[k]! = x
   generalize b[k]! = y
   by_cases h:x=y<;>simp[h,Cg]) (by unfold Nw;rw[vg (by simp)])
 ·rw[vh (by simp;omega),vk (by rintro rfl;exact j rfl)]
def Np(g:BX):Prop:=g.Cells.length≤1048576∧g.Merges.length≤1048576∧∀x∈g.Cells,Co x.Attrs
structure Ol(n:Ak):Prop where
 at_:Co n.Attrs
 fl:n.Flow.length≤1048576
 fa:∀e∈n.Flow,Co e.Attrs
 gr:Np n.Grid
 dr:n.Draw.length≤1048576
def oq(d:B2):Prop:=d.Nodes.length≤1048576∧∀n∈d.Nodes,Ol n
theorem WX x y(h:Np x):KT x y=some (decide (x=y)):=by
 obtain⟨l,q,j⟩:=h
 unfold KT
 rw[rK _ _ (by omega),ro _ _ (by omega) (λe u=>(j e u).1)]
 obtain⟨w,A,B,C⟩:=x
 obtain⟨E,F,I,J⟩:=y
 by_cases l:w=E<;>by_cases q:A=F<;>by_cases j:B=I<;>by_cases M:C=J<;>simp[l,q,j,M,gd,AE]
theorem jk x y(h:Np x):Qe x y=some (decide (x=y)):=by
 obtain⟨l,q,j⟩:=h
 unfold Qe
 rw[tW _ _ (by omega),qv _ _ (by omega) (λe u=>(j e u).1)]
 obtain⟨w,A,B,C⟩:=x
 obtain⟨E,F,I,J⟩:=y
 by_cases l:w=E<;>by_cases q:A=F<;>by_cases j:B=I<;>by_cases M:C=J<;>simp[l,q,j,M,gd,AE]
theorem vb x y(h:Ol x):ew x y=some (decide (x=y)):=by
 have Z:=h.at_.1
 have hf:=h.fl
 have hd:=h.dr
 unfold ew
 rw[Nv _ _ (by omega),lq _ _ (by omega) (λe j=>(h.fa e j).1),WX _ _ h.gr,oO _ _ (by omega)]
 obtain⟨l,q,u,w,A,B⟩:=x
 obtain⟨C,E,F,I,J,M⟩:=y
 by_cases O:l=C<;>by_cases T:q=E<;>by_cases U:u=F<;>by_cases V:w=I<;>by_cases X:A=J<;>by_cases Y:B=M<;>simp[O,T,U,V,X,Y,gd,AE]
theorem pZ x y(h:Ol x):LG x y=some (decide (x=y)):=by
 have Z:=h.at_.1
 have hf:=h.fl
 have hd:=h.dr
 unfold LG
 rw[Rd _ _ (by omega),dC _ _ (by omega) (λe j=>(h.fa e j).1),jk _ _ h.gr,lS _ _ (by omega)]
 obtain⟨l,q,u,w,A,B⟩:=x
 obtain⟨C,E,F,I,J,M⟩:=y
 by_cases O:l=C<;>by_cases T:q=E<;>by_cases U:u=F<;>by_cases V:w=I<;>by_cases X:A=J<;>by_cases Y:B=M<;>simp[O,T,U,V,X,Y,gd,AE]
theorem Tr{β:Type}(p:Nat→Bool)(F:Nat→β)(l:List Nat):(l.findSome? λk=>if p k then some (F k) else none)=(l.find? p).map F:=by
 induction l with
 | nil=>rfl
 | cons a l j=>rw[xP,List.find?_cons];by_cases h:p a=true<;>simp[h,j]
def F9(l:List Ak)(id:Int):Option Nat:=(List.range l.length).find? λk=>decide (l[k]!.ID=id)
theorem QW{l:List Ak}{id}{k}(h:F9 l id=some k):k<l.length∧l[k]!.ID=id:=by
 have j:=List.mem_of_find?_eq_some h
 have q:=List.find?_some h
 exact⟨wU.1 j,yE q⟩
theorem Ws(d:B2)(id:Int)(l:d.Nodes.length≤1048576):HO d id=some (match F9 d.Nodes id with | some k=>(k:Int) | none=>-1):=by
 unfold HO
 rw[Cb (n:=d.Nodes.length) (λk=>if decide (d.Nodes[k]!.ID=id) then some (k:Int) else none) (λk j=>by
  unfold PP
  rw[vh (by simpa using j),Aa j,AE,Ad (by omega)]
  by_cases h:d.Nodes[k]!.ID=id
  ·rw[vh (vj h),vh (vj h)];rfl
  ·rw[vg (by simpa using h),vg (by simpa using h)];rfl) (by unfold PP;rw[vg (by simp)]),Tr,E9]
 unfold F9
 cases (List.range d.Nodes.length).find? λk=>decide (d.Nodes[k]!.ID=id)<;>rfl
def KL:Ak:=Ak.mk 1 0 [] [(AD.mk 0 2 [])] (BX.mk 0 0 [] []) []
theorem rq:EG (AD.mk 0 2 []):=⟨by decide,λa j=>by cases j⟩
theorem lP:Np (BX.mk 0 0 [] []):=⟨by decide,by decide,λa j=>by cases j⟩
theorem mU:Jq []=some 0:=by rw[Rf _ (λa j=>by cases j) (by decide)];rfl
theorem oe:H2 [AD.mk 0 2 []] false=some 0:=by
 rw[ZF _ (λx j=>by
  have:x=AD.mk 0 2 []:=by simpa using j
  subst this;exact rq) (by decide)]
 rfl
theorem mS:KT (BX.mk 0 0 [] []) (BX.mk 0 0 [] [])=some true:=by rw[WX _ _ lP,vj rfl]
theorem WS:FM KL=some 0:=by
 unfold FM KL
 dsimp only
 rw[vg (by decide),vg (by decide),mU,AE,vg (by decide)]
 have t:Hn 0=some false:=rfl
 have l:NO 0=some true:=rfl
 have g:Mw 0=some false:=rfl
 have d:JM 0=some false:=rfl
 rw[t,l,g,d,mS]
 show(AB (H2 [AD.mk 0 2 []] false) λ(j:Int)=>some j)=some 0
 rw[oe];rfl
theorem He:J7 KL=some [2]:=by
 unfold J7 Ny
 have j:(λ(a:Int × (List Int))=>HT KL.Flow a.1 a.2) (0,[])=some (.inl (1,[2])):=by
  show HT [AD.mk 0 2 []] 0 []=_
  unfold HT;rfl
 have l:(λ(a:Int × (List Int))=>HT KL.Flow a.1 a.2) (1,[2])=some (.inr [2]):=by
  show HT [AD.mk 0 2 []] 1 [2]=_
  unfold HT;rfl
 have q:(λ(a:Int × (List Int))=>Hp KL a.1 a.2) (0,[2])=some (.inr [2]):=by
  show Hp KL 0 [2]=_
  unfold Hp;rfl
 rw[Dx j,Cv l,AE,AE,Cv q];rfl
theorem iS{μ:Ak→Nat}{γ:BX→Nat}{ψ:Av→Nat}{ρ:As→Nat}{δ:BQ→Nat}{ν:AD→Nat}{κ:AC→Nat}
  (q:∀n,(n.Attrs.map κ).sum+(n.Flow.map ν).sum+γ n.Grid+(n.Draw.map δ).sum+1≤μ n) (hg:∀g,(g.Cells.map ψ).sum+(g.Merges.map ρ).sum+1≤γ g)
  (hc:∀c,(c.Attrs.map κ).sum+1≤ψ c) (w:∀r,1≤ρ r) (hd:∀o,1≤δ o) (A:∀e,(e.Attrs.map κ).sum+1≤ν e) (j:∀a,a.Name.length+a.Value.length+1≤κ a)
  {d:B2} (C:(d.Nodes.map μ).sum≤1048576):oq d:=by
 have E:=Lf (μ:=μ) (λn=>by have:=q n;omega) d.Nodes
 refine⟨by omega,λn B=>?_⟩
 have F:=HB (μ:=μ) B
 have I:=q n
 have J:=hg n.Grid
 have u:=ZB (ν:=ν) (κ:=κ) A j (f:=n.Flow) (by omega)
 have M:=Lf (μ:=ψ) (λc=>by have:=hc c;omega) n.Grid.Cells
 have O:=Lf (μ:=ρ) w n.Grid.Merges
 have T:=Lf (μ:=δ) hd n.Draw
 refine⟨Wb j (by omega),u.1,u.2,⟨by omega,by omega,λc l=>Wb j ?_⟩,by omega⟩
 have U:=HB (μ:=ψ) l
 have:=hc c
 omega
theorem GM{n:Nat}(h:n<2147483648):IntKind.i32.wrap (n:Int)=(n:Int):=by
 have e:(n:Int) % (2 ^ (32:Nat):Int)=(n:Int):=ze (by omega) (by omega)
 show(if(true&&((n:Int) % (2 ^ (32:Nat):Int) ≥ (2 ^ (31:Nat):Int)))=true then(n:Int) % (2 ^ (32:Nat):Int)-(2 ^ (32:Nat):Int) else(n:Int) % (2 ^ (32:Nat):Int))=_
 rw[e,vg]
 simp only[wy,vi]
 omega
theorem Y5{n:Nat}(h:n<9223372036854775808):IntKind.i64.wrap (n:Int)=(n:Int):=by
 have e:(n:Int) % (2 ^ (64:Nat):Int)=(n:Int):=ze (by omega) (by omega)
 show(if(true&&((n:Int) % (2 ^ (64:Nat):Int) ≥ (2 ^ (63:Nat):Int)))=true then(n:Int) % (2 ^ (64:Nat):Int)-(2 ^ (64:Nat):Int) else(n:Int) % (2 ^ (64:Nat):Int))=_
 rw[e,vg]
 simp only[wy,vi]
 omega
theorem Mx(i a b:Nat)(j:b<2 ^ i)(l:a * 2 ^ i+b<2147483648):ET .i32 ((a * 2 ^ i:Nat):Int) (b:Int)=((a * 2 ^ i+b:Nat):Int):=by
 unfold ET
 have q:(BitVec.ofInt 32 ((a * 2 ^ i:Nat):Int) ||| BitVec.ofInt 32 (b:Int)).toNat=a * 2 ^ i+b:=by
  rw[BitVec.toNat_or,BitVec.ofInt_natCast,BitVec.ofInt_natCast,BitVec.toNat_ofNat,BitVec.toNat_ofNat,yY (by omega),yY (by omega)]
  rw[← Nat.shiftLeft_eq,Nat.shiftLeft_add_eq_or_of_lt j]
 show IntKind.i32.wrap ((BitVec.ofInt 32 ((a * 2 ^ i:Nat):Int) ||| BitVec.ofInt 32 (b:Int)).toNat:Int)=_
 rw[q];exact GM l
theorem tJ:∀b:Fin 256,Ch .u8 ((b.val:Nat):Int) 31=((b.val % 32:Nat):Int):=by decide +kernel
theorem pv:∀b:Fin 256,Ch .u8 ((b.val:Nat):Int) 15=((b.val % 16:Nat):Int):=by decide +kernel
theorem qn:∀b:Fin 256,Ch .u8 ((b.val:Nat):Int) 7=((b.val % 8:Nat):Int):=by decide +kernel
theorem Lg:∀b:Fin 256,Ch .u8 ((b.val:Nat):Int) 63=((b.val % 64:Nat):Int):=by decide +kernel
theorem MR(i a:Nat)(j:i≤32)(l:a * 2 ^ i<2147483648):Dv .i32 (a:Int) i=((a * 2 ^ i:Nat):Int):=by
 unfold Dv
 show IntKind.i32.wrap ((a:Int) * 2 ^ (min i 32))=_
 rw[Nat.min_eq_left j,show(a:Int) * 2 ^ i=((a * 2 ^ i:Nat):Int) by push_cast;rfl,GM l]
theorem jY:∀c:Fin 256,GK[c.val]! = (Lib.firstT c.val:Int):=by decide +kernel
theorem qB:∀c:Fin 256,ET .i32 (PT .i32 (IntKind.i32.wrap (c.val:Int)) (Fo .i32 (Dv .i32 (IntKind.i32.wrap 241) 31) 31)) (Ch .i32 65533 (Fo .i32 (Dv .i32 (IntKind.i32.wrap 241) 31) 31))=65533:=by decide +kernel
theorem nF:∀c:Fin 256,IntKind.i64.wrap (Ch .u8 (Lib.firstT c.val:Int) 7)=((Lib.firstT c.val % 8:Nat):Int):=by decide +kernel
theorem ia:∀c:Fin 256,AM Td (Fo .u8 (Lib.firstT c.val:Int) 4)=some (Ip.mk (Lib.accLo (Lib.firstT c.val / 16)) (Lib.accHi (Lib.firstT c.val / 16))):=by decide +kernel
theorem ud:∀c:Fin 256,128≤c.val→Lib.firstT c.val=241∨(2≤Lib.firstT c.val % 8∧Lib.firstT c.val % 8≤4∧Lib.firstT c.val<240):=by decide +kernel
theorem uN(c d:Fin 256):ET .i32 (Dv .i32 (IntKind.i32.wrap (Ch .u8 ((c.val:Nat):Int) 31)) 6) (IntKind.i32.wrap (Ch .u8 ((d.val:Nat):Int) 63))=((c.val % 32 * 64+d.val % 64:Nat):Int):=by
 rw[tJ,Lg,GM (by omega),GM (by omega),MR 6 _ (by omega) (by omega),Mx 6 _ _ (by omega) (by omega)]
theorem kr(c d e:Fin 256):ET .i32 (ET .i32 (Dv .i32 (IntKind.i32.wrap (Ch .u8 ((c.val:Nat):Int) 15)) 12) (Dv .i32 (IntKind.i32.wrap (Ch .u8 ((d.val:Nat):Int) 63)) 6)) (IntKind.i32.wrap (Ch .u8 ((e.val:Nat):Int) 63)) =
  ((c.val % 16 * 4096+d.val % 64 * 64+e.val % 64:Nat):Int):=by
 rw[pv,Lg,Lg,GM (by omega),GM (by omega),GM (by omega),MR 12 _ (by omega) (by omega),MR 6 _ (by omega) (by omega),Mx 12 _ _ (by omega) (by omega),
  show c.val % 16 * 2 ^ 12+d.val % 64 * 2 ^ 6=(c.val % 16 * 64+d.val % 64) * 2 ^ 6 by omega,Mx 6 _ _ (by omega) (by omega)]
theorem oN(c d e f:Fin 256):ET .i32 (ET .i32 (ET .i32 (Dv .i32 (IntKind.i32.wrap (Ch .u8 ((c.val:Nat):Int) 7)) 18) (Dv .i32 (IntKind.i32.wrap (Ch .u8 ((d.val:Nat):Int) 63)) 12)) (Dv .i32 (IntKind.i32.wrap (Ch .u8 ((e.val:Nat):Int) 63)) 6)) (IntKind.i32.wrap (Ch .u8 ((f.val:Nat):Int) 63)) =
  ((c.val % 8 * 262144+d.val % 64 * 4096+e.val % 64 * 64+f.val % 64:Nat):Int):=by
 rw[qn,Lg,Lg,Lg,GM (by omega),GM (by omega),GM (by omega),GM (by omega),MR 18 _ (by omega) (by omega),MR 12 _ (by omega) (by omega),MR 6 _ (by omega) (by omega),Mx 18 _ _ (by omega) (by omega),
  show c.val % 8 * 2 ^ 18+d.val % 64 * 2 ^ 12=(c.val % 8 * 64+d.val % 64) * 2 ^ 12 by omega,Mx 12 _ _ (by omega) (by omega),
  show(c.val % 8 * 64+d.val % 64) * 2 ^ 12+e.val % 64 * 2 ^ 6=((c.val % 8 * 64+d.val % 64) * 64+e.val % 64) * 2 ^ 6 by omega,Mx 6 _ _ (by omega) (by omega)]
theorem Qw(s:List UInt8) k(h:k<s.length):s.getD k 0=s[k]!:=by
 rw[vr s k h,yJ,vo h];rfl
theorem ta(s:List UInt8)(h:s≠[])(j:128≤(s.getD 0 0).toNat):N6 s=some (((Lib.decodeL s).1:Int),((Lib.decodeL s).2:Int)):=by
 have l:0<s.length:=xy.2 h
 rw[Lib.decodeL_N]
 unfold N6
 rw[vg (by rw[vi];omega),show(0:Int)=((0:Nat):Int) from rfl,Aa l,AE]
 rw[Qw s 0 l] at j ⊢
 generalize s[0]! = c at j ⊢
 obtain⟨C,hC⟩:∃C:Fin 256,C.val=c.toNat:=⟨⟨c.toNat,c.toNat_lt⟩,rfl⟩
 rw[← hC] at j ⊢
 rw[Aa (l:=GK) (by rw[ng];exact C.isLt),AE,jY,ia,nF]
 rcases ud C j with B | ⟨q,u,w⟩
 ·rw[vh (by rw[vi];omega),Lib.bad_eq _ _ _ _ _ C.isLt B,B]
  show some (_,(1:Int))=_
  rw[show((241:Nat):Int)=241 from rfl,qB C];rfl
 ·rw[vg (by rw[vi];omega),AE]
  have A:=Lib.slow_eq s.length C.val (s.getD 1 0).toNat (s.getD 2 0).toNat (s.getD 3 0).toNat l (UInt8.toNat_lt _) (UInt8.toNat_lt _) (UInt8.toNat_lt _) w
  rw[← A]
  generalize hsz:Lib.firstT C.val % 8=sz at q u ⊢
  generalize Lib.accLo (Lib.firstT C.val / 16)=U
  generalize Lib.accHi (Lib.firstT C.val / 16)=V
  unfold Lib.slowN
  by_cases I:s.length<sz
  ·rw[vh (by rw[vi];omega),vh I];rfl
  rw[vg (by rw[vi];omega),vg I,show(1:Int)=((1:Nat):Int) from rfl,Aa (by omega),AE,Qw s 1 (by omega)]
  generalize s[1]! = d
  obtain⟨D,X⟩:∃D:Fin 256,D.val=d.toNat:=⟨⟨d.toNat,d.toNat_lt⟩,rfl⟩
  rw[← X]
  by_cases J:D.val<U∨V<D.val
  ·rw[vh (by simp only[vt,vi];omega),vh J];rfl
  rw[vg (by simp only[vt,vi];omega),vg J]
  by_cases e2:sz≤2
  ·rw[vh (by rw[vi];omega),vh e2,uN];rfl
  rw[vg (by rw[vi];omega),vg e2,show(2:Int)=((2:Nat):Int) from rfl,Aa (by omega),AE,Qw s 2 (by omega)]
  generalize s[2]! = e
  obtain⟨E,Y⟩:∃E:Fin 256,E.val=e.toNat:=⟨⟨e.toNat,e.toNat_lt⟩,rfl⟩
  rw[← Y]
  by_cases M:E.val<128∨191<E.val
  ·rw[vh (by simp only[vt,vi];omega),vh M];rfl
  rw[vg (by simp only[vt,vi];omega),vg M]
  by_cases O:sz≤3
  ·rw[vh (by rw[vi];omega),vh O,kr];rfl
  rw[vg (by rw[vi];omega),vg O,show(3:Int)=((3:Nat):Int) from rfl,Aa (by omega),AE,Qw s 3 (by omega)]
  generalize s[3]! = f
  obtain⟨F,Z⟩:∃F:Fin 256,F.val=f.toNat:=⟨⟨f.toNat,f.toNat_lt⟩,rfl⟩
  rw[← Z]
  by_cases T:F.val<128∨191<F.val
  ·rw[vh (by simp only[vt,vi];omega),vh T];rfl
  rw[vg (by simp only[vt,vi];omega),vg T,oN];rfl
theorem qA(s:List UInt8)(h:s≠[]):PR s=some (((Lib.decodeL s).1:Int),((Lib.decodeL s).2:Int)):=by
 have l:0<s.length:=xy.2 h
 unfold PR
 rw[vk h,show((!false)==true)=true from rfl,An,show(0:Int)=((0:Nat):Int) from rfl,Aa l,AE,Bool.not_false,wy]
 by_cases q:(s[0]!).toNat<128
 ·rw[vh (by rw[vi];omega),AE,GM (by omega)]
  obtain⟨c,t,rfl⟩:=List.exists_cons_of_ne_nil h
  have j:c.toNat<128:=q
  rw[Lib.decodeL_ascii c t j];rfl
 ·rw[vg (by rw[vi];omega),ta s h (by rw[Qw s 0 l];omega),CB]
def Ge(r:Nat):Bool:=(r=10)||!GI (r:Int)
def Hx:Nat→List UInt8→Bool
 | 0,_=>true
 | n+1,s=>if s=[] then true else if((Lib.decodeL s).1=65533∧(Lib.decodeL s).2=1)∨Ge (Lib.decodeL s).1=true then false else Hx n (s.drop (Lib.decodeL s).2)
theorem ZL n(s:List UInt8):Hx (n+1) s=if s=[] then true else if((Lib.decodeL s).1=65533∧(Lib.decodeL s).2=1)∨Ge (Lib.decodeL s).1=true then false else Hx n (s.drop (Lib.decodeL s).2):=rfl
def QA:Nat→List UInt8→Bool
 | 0,_=>true
 | n+1,s=>if s=[] then true else if Ge (Lib.decodeL s).1=true then false else QA n (s.drop (Lib.decodeL s).2)
theorem fY n(s:List UInt8):QA (n+1) s=if s=[] then true else if Ge (Lib.decodeL s).1=true then false else QA n (s.drop (Lib.decodeL s).2):=rfl
theorem sF:∀(n:Nat) (s:List UInt8),s.length≤n→(Lib.validD s&&QA n s)=Hx n s:=by
 intro n
 induction n with
 | zero=>intro s u;obtain rfl:=wn (Nat.le_zero.1 u);rfl
 | succ n w=>
  intro s u
  rw[ZL,fY]
  by_cases j:s=[]
  ·subst j;rfl
  ·have A:=Lib.decodeL_width s
   have B:=xy.2 j
   rw[vg j,vg j,Lib.validD_step s j]
   by_cases l:(Lib.decodeL s).1=65533∧(Lib.decodeL s).2=1
   ·rw[vh l,vh (show((Lib.decodeL s).1=65533∧(Lib.decodeL s).2=1)∨Ge (Lib.decodeL s).1=true from .inl l)];rfl
   ·rw[vg l]
    by_cases q:Ge (Lib.decodeL s).1=true
    ·rw[vh q,vh (.inr q),yx]
    ·rw[vg q,vg (by rintro(h | h);exact l h;exact q h)]
     exact w _ (by rw[we];omega)
theorem bI(r:Nat)(h:r≤1114111):IntKind.i64.wrap (r:Int)=(r:Int):=Y5 (by omega)
theorem om(s:List UInt8):OV s=some (Hx s.length s):=by
 unfold OV
 have key:∀(n:Nat) (s:List UInt8),s.length≤n→(At (iter (λ(a:(List UInt8))=>Fu a) s) λ(_:Unit)=>some true)=some (Hx n s):=by
  intro n
  induction n with
  | zero=>
   intro s hs
   obtain rfl:=wn (Nat.le_zero.1 hs)
   have h1:(λ(a:(List UInt8))=>Fu a) []=some (.inr (.nrm ())):=by
    show Fu []=_
    unfold Fu;rfl
   rw[Cv h1];rfl
  | succ n ih=>
   intro s hs
   rw[ZL]
   by_cases hn:s=[]
   ·subst hn
    have h1:(λ(a:(List UInt8))=>Fu a) []=some (.inr (.nrm ())):=by
     show Fu []=_
     unfold Fu;rfl
    rw[Cv h1];rfl
   ·have hw:=Lib.decodeL_width s
    have hle:=Lib.decodeL_le s hn
    have hr:=Lib.decodeL_rune s
    have hstep:Fu s=if((Lib.decodeL s).1=65533∧(Lib.decodeL s).2=1)∨Ge (Lib.decodeL s).1=true then some (.inr (.ext false)) else some (.inl (s.drop (Lib.decodeL s).2)):=by
     unfold Fu Ge
     rw[vh (Ba hn),qA s hn,CB,bI _ hr,gG]
     generalize (Lib.decodeL s).1=r at *
     generalize (Lib.decodeL s).2=w at *
     by_cases h1:r=65533∧w=1
     ·obtain⟨rfl,rfl⟩:=h1
      rw[vh (.inl ⟨rfl,rfl⟩)];rfl
     ·have e1:(((r:Int)=65533)&&((w:Int)=1))=false:=by
       rw[← xY,vm,vi,vi];omega
      by_cases h2:r=10
      ·subst h2
       rw[vh (.inr (by rfl)),e1];rfl
      ·have e2:(decide ((r:Int)=10))=false:=vk (by omega)
       rw[e1,e2,vk h2]
       show(AB (gd true (some (GI (r:Int)))) λ(r3:Bool)=>_)=_
       rw[An,AE,nN s w hle,AE]
       cases GI (r:Int)
       ·rw[vh (show(r=65533∧w=1)∨(false||!false)=true from .inr rfl)];rfl
       ·rw[vg (show ¬ ((r=65533∧w=1)∨(false||!true)=true) by rintro(h | h);exact h1 h;exact absurd h (by decide))];rfl
    by_cases hb:((Lib.decodeL s).1=65533∧(Lib.decodeL s).2=1)∨Ge (Lib.decodeL s).1=true
    ·rw[vh hb] at hstep
     rw[Cv (f:=λ(a:(List UInt8))=>Fu a) hstep,vg hn,vh hb];rfl
    ·rw[vg hb] at hstep
     rw[Dx (f:=λ(a:(List UInt8))=>Fu a) hstep,vg hn,vg hb]
     exact ih _ (by rw[we];omega)
 exact key s.length s (vu _)
theorem jC(s:List UInt8) p:GN s p=Lib.decodeL (s.drop p):=(Lib.decodeL_drop ⟨s.toArray⟩ p).symm
theorem qE(s:List UInt8)(hs:s.length≤9223372036854775807):N4 s=some (Hx s.length s):=by
 unfold N4 RS Rl
 rw[vh hs,AE,← sF s.length s (vu _)]
 cases Lib.validD s with
 | false=>rfl
 | true=>
  rw[vg (by decide),wy]
  have key:∀(n p:Nat),s.length-p≤n→(At (iter (λ(a:(Nat))=>Fq s a) p) λ(_:Unit)=>some true)=some (QA n (s.drop p)):=by
   intro n
   induction n with
   | zero=>
    intro p hp
    have h1:(λ(a:(Nat))=>Fq s a) p=some (.inr (.nrm ())):=by
     show Fq s p=_
     unfold Fq;rw[vg (by rw[vi];omega)]
    rw[Cv h1];rfl
   | succ n ih=>
    intro p hp
    rw[fY]
    by_cases hn:s.length≤p
    ·have h1:(λ(a:(Nat))=>Fq s a) p=some (.inr (.nrm ())):=by
      show Fq s p=_
      unfold Fq;rw[vg (by rw[vi];omega)]
     rw[Cv h1,vh (List.drop_eq_nil_of_le hn)];rfl
    ·have hne:s.drop p≠[]:=by
      intro e
      have:=yC List.length e
      rw[we,yO] at this
      omega
     have hw:=Lib.decodeL_width (s.drop p)
     have hr:=Lib.decodeL_rune (s.drop p)
     have hstep:Fq s p=if Ge (Lib.decodeL (s.drop p)).1=true then some (.inr (.ext false)) else some (.inl (p+(Lib.decodeL (s.drop p)).2)):=by
      unfold Fq Ge
      rw[vh (by rw[vi];omega),jC,bI _ hr,Zg]
      generalize (Lib.decodeL (s.drop p)).1=r at *
      generalize (Lib.decodeL (s.drop p)).2=w at *
      by_cases h2:r=10
      ·subst h2;rfl
      ·rw[vk h2,vk (show ¬ ((r:Int)=10) by omega)]
       show(AB (gd true (some (GI (r:Int)))) λ(r3:Bool)=>_)=_
       rw[An,AE]
     rw[vg hne]
     by_cases hb:Ge (Lib.decodeL (s.drop p)).1=true
     ·rw[vh hb] at hstep
      rw[Cv (f:=λ(a:(Nat))=>Fq s a) hstep,vh hb];rfl
     ·rw[vg hb] at hstep
      rw[Dx (f:=λ(a:(Nat))=>Fq s a) hstep,vg hb,zW]
      exact ih _ (by omega)
  have:=key s.length 0 (by omega)
  rw[List.drop_zero] at this
  exact this
theorem Wp{ρ:Type}{f g}{n}(I:Nat→Prop)(u:I 0)(h:∀k:Nat, k<n→I k→∃o:Option ρ, f k=Cg k o∧g k=Cg k o∧(o=none→I (k+1)))
 (w:f n=some (.inr (.nrm ()))) (hg:g n=some (.inr (.nrm ()))):∃o:Option ρ, iter f 0=some (Fk o)∧iter g 0=some (Fk o)∧(o=none→I n) := by
  have key:∀m k:Nat, k+m=n→I k→∃o:Option ρ, iter f (k:Int)=some (Fk o)∧iter g (k:Int)=some (Fk o)∧(o=none→I n) := by
    intro m
    induction m with
    | zero =>
      intro k A j
      obtain rfl:k=n := by omega
      exact⟨none, Cv w, Cv hg, λ_ => j⟩
    | succ m B =>
      intro k A j
      obtain⟨o, l, q, C⟩ := h k (by omega) j
      cases o with
      | some r => exact⟨some r, Cv l, Cv q, λe => by cases e⟩
      | none =>
        obtain⟨o, E, e2, F⟩ := B (k+1) (by omega) (C rfl)
        exact⟨o, (Dx l).trans E, (Dx q).trans e2, F⟩
  exact key n 0 (by omega) u
theorem SN x y:JK x y=some (if x<y then -1 else if y<x then 1 else 0):=by
 unfold JK Pp
 rw[vj (rfl:x=x),vj (rfl:y=y),AE,AE,vg (by decide),vg (by decide)]
 by_cases j:x<y
 ·rw[vh (vj j),vh j]
 ·rw[vg (by simpa using j),vg j]
  by_cases l:y<x
  ·rw[vh (vj l),vh l]
  ·rw[vg (by simpa using l),vg l]
theorem Yw a b:MX [a,b]=some (if a≠0 then a else b):=by
 unfold MX
 by_cases j:a≠0
 ·have q:(λ(x:Int)=>Ec [a,b] x) 0=some (.inr (.ext a)):=by
   show Ec [a,b] 0=_
   unfold Ec
   rw[vh (by simp),show AM [a,b] 0=some a from rfl,AE,vh (Ba j)]
  rw[Cv q,vh j];rfl
 ·have u:a=0:=wL.1 j
  have q:(λ(x:Int)=>Ec [a,b] x) 0=some (.inl 1):=by
   show Ec [a,b] 0=_
   unfold Ec
   rw[vh (by simp),show AM [a,b] 0=some a from rfl,AE,vg (CM u)];rfl
  by_cases A:b≠0
  ·have w:(λ(x:Int)=>Ec [a,b] x) 1=some (.inr (.ext b)):=by
    show Ec [a,b] 1=_
    unfold Ec
    rw[vh (by simp),show AM [a,b] 1=some b from rfl,AE,vh (Ba A)]
   rw[Dx q,Cv w,vg j];rfl
  ·have l:b=0:=wL.1 A
   have w:(λ(x:Int)=>Ec [a,b] x) 1=some (.inl 2):=by
    show Ec [a,b] 1=_
    unfold Ec
    rw[vh (by simp),show AM [a,b] 1=some b from rfl,AE,vg (CM l)];rfl
   have B:(λ(x:Int)=>Ec [a,b] x) 2=some (.inr (.nrm ())):=by
    show Ec [a,b] 2=_
    unfold Ec
    rw[vg (by simp)]
   rw[Dx q,Dx w,Cv B,vg j,l];rfl
def B8(a b c d:Int):Int:=if a<b then -1 else if b<a then 1 else if c<d then -1 else if d<c then 1 else 0
theorem Z2 a b c d:(if(if a<b then -1 else if b<a then 1 else 0)≠(0:Int) then(if a<b then -1 else if b<a then 1 else 0) else if c<d then -1 else if d<c then 1 else(0:Int))=B8 a b c d:=by
 unfold B8
 by_cases j:a<b
 ·simp[j]
 ·by_cases l:b<a
  ·simp[j,l]
  ·simp[j,l]
theorem TU a b c d:0≤B8 a b c d↔(b<a∨(b=a∧d≤c)):=by
 unfold B8
 split
 ·constructor<;>intro h<;>omega
 ·split
  ·constructor<;>intro h<;>omega
  ·split
   ·constructor<;>intro h<;>omega
   ·split
    ·constructor<;>intro h<;>omega
    ·constructor<;>intro h<;>omega
theorem lh(a b:Av):La a b=some (B8 a.Row b.Row a.Col b.Col):=by
 unfold La
 rw[SN,SN,AE,AE,Yw,AE,Z2]
theorem Er x a b:Cq x a b=some (decide (a≤x∧x≤b)):=by
 rw[IL]
 congr 1
 rw[wc];simp
def IU(j l:Int)(c:Av):Prop:=0≤c.Row∧c.Row<j∧0≤c.Col∧c.Col<l∧0≤c.Ref∧c.Ref≤1073741824
instance (rows cols:Int) (c:Av):Decidable (IU rows cols c):=by unfold IU;infer_instance
def JE(c:Av):Bool:=(c.Text=[])&&(c.Ref=0)&&(c.Attrs=[])
def TQ(l q:Int)(j:Bool)(c:Av):Int:=
 if ¬ IU l q c then 2 else if Hx c.Text.length c.Text=false then 23 else if BC c.Attrs false≠0 then BC c.Attrs false else if(!j&&JE c)=true then 4 else 0
def OS(q u:Int)(j:Bool)(l:List Av)(k:Nat):Option Int:=
 if TQ q u j l[k]!≠0 then some (TQ q u j l[k]!) else if 0<k∧0≤B8 l[k-1]!.Row l[k]!.Row l[k-1]!.Col l[k]!.Col then some 5 else none
def Nc(q u:Int)(j:Bool)(l:List Av):Int:=((List.range l.length).findSome? (OS q u j l)).getD 0
theorem bK(l:List AC):decide ((l.length:Int)=0)=decide (l=[]):=by
 rw[wc,vi,vi,← yy];omega
def Sr(c:Av):Prop:=Co c.Attrs∧c.Text.length≤1073741824
theorem nT(l:List Av) k(C:k<l.length)(E:l.length≤9223372036854775806) :
  (AB (gd ((decide (0<(k:Int)))==true) (AN .i64 ((k:Int)-1))) λ(u:Int)=>
   AB (gd ((decide (0<(k:Int)))==true) (AM l u)) λ(w:Av)=>
   AB (gd ((decide (0<(k:Int)))==true) (La w l[k]!)) λ(A:Int)=>
   if((0<(k:Int))&&(0≤A)) then(some (.inr (.ext 5)):Option (Int ⊕ (Au Unit Int))) else(
    AB (AN .i64 ((k:Int)+1)) λ(B:Int)=>some (.inl B)))=Cg k (if 0<k∧0≤B8 l[k-1]!.Row l[k]!.Row l[k-1]!.Col l[k]!.Col then some 5 else none):=by
 by_cases q:0<k
 ·rw[vj (show(0:Int)<k by omega),show((true==true):Bool)=true from rfl,An,FH q (by omega),AE,An,Aa (by omega),AE,An,lh,AE]
  by_cases j:0≤B8 l[k-1]!.Row l[k]!.Row l[k-1]!.Col l[k]!.Col
  ·rw[vh (show(true&&(0≤B8 l[k-1]!.Row l[k]!.Row l[k-1]!.Col l[k]!.Col))=true by rw[vj j];rfl),vh ⟨q,j⟩];rfl
  ·rw[vg (show ¬ (true&&(0≤B8 l[k-1]!.Row l[k]!.Row l[k-1]!.Col l[k]!.Col))=true by rw[vk j];decide),vg (λh=>j h.2),Ad (by omega)];rfl
 ·obtain rfl:k=0:=by omega
  rw[vg (show ¬ (0<0∧_) from λh=>absurd h.1 (by decide))];rfl
theorem iK j q w (l:List Av) (U:l.length≤1073741824) (M:∀c∈l,Sr c):N7 l j q w=some (Nc j q w l):=by
 unfold N7
 rw[Cb (n:=l.length) (OS j q w l) (λk A=>by
  obtain⟨J,V⟩:=M _ (BT A)
  have E:=nT l k A (by omega)
  unfold OY OS TQ
  rw[vh (by simpa using A),Aa A,AE]
  by_cases B:IU j q l[k]!
  ·have F:=B
   unfold IU at F
   rw[vg (by simp only[vt,vi];omega),vg (by simp only[vt,vi];omega),om,AE,Rf _ J.2 (by have:=J.1;omega),AE,E]
   rw[vg (wL.2 B)]
   cases O:Hx l[k]!.Text.length l[k]!.Text with
   | false=>rfl
   | true=>
    rw[vg (show ¬ ((!true)=true) by decide),vg (show ¬ (true=false) by decide)]
    by_cases u:BC l[k]!.Attrs false=0
    ·rw[vg (CM u),vg (wL.2 u)]
     have T:O7 l[k]! = some (JE l[k]!):=by unfold O7 JE;rw[bK]
     rw[T,AE]
     by_cases C:(!w&&JE l[k]!)=true
     ·rw[vh (by rw[Bool.and_comm];exact C),vh C];rfl
     ·rw[vg (by rw[Bool.and_comm];exact C),vg C,vg (show ¬ ((0:Int)≠0) from λh=>h rfl)]
    ·rw[vh (Ba u),vh u,vh u];rfl
  ·rw[vh B]
   unfold IU at B
   by_cases I:((((l[k]!.Row<0)||(j≤l[k]!.Row))||(l[k]!.Col<0))||(q≤l[k]!.Col))=true
   ·rw[vh I];rfl
   ·rw[vg I,vh (by simp only[vt,vi] at I ⊢;omega)];rfl) (by unfold OY;rw[vg (by simp)]),FC]
 rfl
theorem qm(l:List Av) k(J:k<l.length)(M:l.length≤9223372036854775806) :
  (AB (gd ((decide (0<(k:Int)))==true) (AN .i64 ((k:Int)-1))) λ(F:Int)=>
      AB (gd ((decide (0<(k:Int)))==true) (AM l F)) λ(j:Av)=>
      AB (gd ((((decide (0<(k:Int)))==true)&&((decide (l[k]!.Row<j.Row))==false))&&((decide (l[k]!.Row=j.Row))==true)) (AN .i64 ((k:Int)-1))) λ(I:Int)=>
      AB (gd ((((decide (0<(k:Int)))==true)&&((decide (l[k]!.Row<j.Row))==false))&&((decide (l[k]!.Row=j.Row))==true)) (AM l I)) λ(w:Av)=>
      if((0<(k:Int))&&((l[k]!.Row<j.Row)||((l[k]!.Row=j.Row)&&(l[k]!.Col≤w.Col)))) then(some (.inr (.ext 5)):Option (Int ⊕ (Au Unit Int))) else(
       AB (AN .i64 ((k:Int)+1)) λ(A:Int)=>some (.inl A)))=Cg k (if 0<k∧0≤B8 l[k-1]!.Row l[k]!.Row l[k-1]!.Col l[k]!.Col then some 5 else none):=by
 have q:=TU l[k-1]!.Row l[k]!.Row l[k-1]!.Col l[k]!.Col
 by_cases B:0<k
 ·rw[vj (show(0:Int)<k by omega),show((true==true):Bool)=true from rfl,An,FH B (by omega),AE,An,Aa (show k-1<l.length by omega),AE]
  by_cases u:l[k]!.Row<l[k-1]!.Row
  ·rw[vj u,vh (show 0<k∧0≤B8 l[k-1]!.Row l[k]!.Row l[k-1]!.Col l[k]!.Col from⟨B,q.2 (.inl u)⟩)];rfl
  ·by_cases C:l[k]!.Row=l[k-1]!.Row
   ·rw[vk u,vj C,show(((true&&(false==false))&&(true==true)):Bool)=true from rfl,An,AE,An,Aa (show k-1<l.length by omega),AE]
    by_cases E:l[k]!.Col≤l[k-1]!.Col
    ·rw[vj E,vh (show 0<k∧0≤B8 l[k-1]!.Row l[k]!.Row l[k-1]!.Col l[k]!.Col from⟨B,q.2 (.inr ⟨C,E⟩)⟩)];rfl
    ·rw[vk E,vg (show ¬ (0<k∧0≤B8 l[k-1]!.Row l[k]!.Row l[k-1]!.Col l[k]!.Col) from λh=>by have:=q.1 h.2;omega),Ad (by omega)];rfl
   ·rw[vk u,vk C,vg (show ¬ (0<k∧0≤B8 l[k-1]!.Row l[k]!.Row l[k-1]!.Col l[k]!.Col) from λh=>by have:=q.1 h.2;omega),Ad (by omega)];rfl
 ·obtain rfl:k=0:=by omega
  rw[vg (show ¬ (0<0∧_) from λh=>absurd h.1 (by decide))];rfl
theorem lU j q w (l:List Av) (U:l.length≤1073741824) (J:∀c∈l,Sr c) (V:0≤j∧j≤2147483647) (M:0≤q∧q≤2147483647):MU l j q w=some (Nc j q w l):=by
 unfold MU
 rw[Cb (n:=l.length) (OS j q w l) (λk A=>by
  obtain⟨F,X⟩:=J _ (BT A)
  have C:=qm l k A (by omega)
  unfold QP OS TQ
  rw[vh (by simpa using A),Aa A,AE,Bz (by omega) (by omega),AE,Er,AE,Er,C]
  by_cases B:IU j q l[k]!
  ·have E:=B
   unfold IU at E
   rw[vg (wL.2 B),vj (show 0≤l[k]!.Row∧l[k]!.Row≤j-1 by omega),show((!true)==false)=true from rfl,An,Bz (by omega) (by omega),AE,An,Er,AE,vj (show 0≤l[k]!.Col∧l[k]!.Col≤q-1 by omega),
    show(((!true)||(!true))==false)=true from rfl,An,AE,vj (show 0≤l[k]!.Ref∧l[k]!.Ref≤1073741824 by omega),vg (by decide),qE _ (by omega),AE,Rx _ _ F.2 (by have:=F.1;omega),AE]
   cases O:Hx l[k]!.Text.length l[k]!.Text with
   | false=>rfl
   | true=>
    rw[vg (show ¬ ((!true)=true) by decide),vg (show ¬ (true=false) by decide)]
    by_cases u:BC l[k]!.Attrs false=0
    ·rw[vg (CM u),vg (wL.2 u)]
     have T:Pt l[k]! = some (JE l[k]!):=by unfold Pt JE;rw[bK]
     rw[T]
     cases w with
     | true=>rfl
     | false=>
      show(AB (gd true (some (JE l[k]!))) λ(Y:Bool)=>_)=_
      rw[An,AE]
      cases JE l[k]!<;>rfl
    ·rw[vh (Ba u),vh u,vh u];rfl
  ·rw[vh B]
   unfold IU at B
   by_cases I:0≤l[k]!.Row∧l[k]!.Row≤j-1
   ·rw[vj I,show((!true)==false)=true from rfl,An,Bz (by omega) (by omega),AE,An,Er,AE]
    by_cases e2:0≤l[k]!.Col∧l[k]!.Col≤q-1
    ·rw[vj e2,show(((!true)||(!true))==false)=true from rfl,An,AE,vk (show ¬ (0≤l[k]!.Ref∧l[k]!.Ref≤1073741824) by omega)];rfl
    ·rw[vk e2];rfl
   ·rw[vk I];rfl) (by unfold QP;rw[vg (by simp)]),FC]
 rfl
theorem aX{ρ:Type}{f}{n}(g:Nat→Option ρ)(u:∀k:Nat, k<n→(∀j, j<k→g j=none)→f k=Cg k (g k))
 (w:f n=some (.inr (.nrm ()))):iter f 0=some (Fk ((List.range n).findSome? g)) := by
  have key:∀m k:Nat, k+m=n→(∀j, j<k→g j=none)→iter f (k:Int)=some (Fk ((List.range' k m).findSome? g)) := by
    intro m
    induction m with
    | zero =>
      intro k A _
      obtain rfl:k=n := by omega
      rw[Cv w];rfl
    | succ m B =>
      intro k A l
      have q := u k (by omega) l
      rw[zi, xP]
      cases hg:g k with
      | some r => rw[hg] at q;rw[Cv q];rfl
      | none =>
        rw[hg] at q
        rw[Dx q]
        exact B (k+1) (by omega) (λj C => by
          by_cases e:j=k
          · rw[e];exact hg
          · exact l j (by omega))
  have := key n 0 (by omega) (λj l => absurd l (zU _))
  rw[yj]
  exact this
def Dl(j l:Int)(r:As):Prop:=0≤r.Row∧r.Row<j∧0≤r.Col∧r.Col<l∧1≤r.H∧r.H≤j-r.Row∧1≤r.W∧r.W≤l-r.Col
instance (rows cols:Int) (r:As):Decidable (Dl rows cols r):=by unfold Dl;infer_instance
def Gn(a b:As):Bool:=decide (a.Row<b.Row+b.H∧b.Row<a.Row+a.H∧a.Col<b.Col+b.W∧b.Col<a.Col+a.W)
def Gb(j l:Int):Prop:=0≤j∧j≤2147483647∧0≤l∧l≤2147483647
instance (rows cols:Int):Decidable (Gb rows cols):=by unfold Gb;infer_instance
theorem l7(r:As) j l(h:Gb j l):Qj r j l=some (decide (Dl j l r)):=by
 obtain⟨F,I,J,M⟩:=h
 unfold Qj
 by_cases w:0≤r.Row∧0≤r.Col∧1≤r.H∧1≤r.W∧r.Row<j∧r.Col<l
 ·obtain⟨A,B,a3,a4,a5,C⟩:=w
  rw[vj A,vj B,vj a3,vj a4,vj a5,vj C,show((((((true&&true)&&true)&&true)&&true)&&true)==true)=true from rfl,An,Bz (by omega) (by omega),AE]
  by_cases q:r.H≤j-r.Row
  ·rw[vj q,show(((((((true&&true)&&true)&&true)&&true)&&true)&&true)==true)=true from rfl,An,Bz (by omega) (by omega),AE]
   by_cases u:r.W≤l-r.Col
   ·rw[vj u,vj (show Dl j l r from⟨A,a5,B,C,a3,q,a4,u⟩)];rfl
   ·rw[vk u,vk (show ¬ Dl j l r from λh=>u h.2.2.2.2.2.2.2)];rfl
  ·rw[vk q,vk (show ¬ Dl j l r from λh=>q h.2.2.2.2.2.1)];rfl
 ·have E:((((((0≤r.Row)&&(0≤r.Col))&&(1≤r.H))&&(1≤r.W))&&(r.Row<j))&&(r.Col<l))=false:=by
   rw[← xY]
   simp only[vm,vi]
   intro h;exact w (by omega)
  rw[E,vk (show ¬ Dl j l r from λh=>w ⟨h.1,h.2.2.1,h.2.2.2.2.1,h.2.2.2.2.2.2.1,h.2.1,h.2.2.2.1⟩)];rfl
theorem tz(r:As) j l(h:Gb j l):KZ r j l=some (decide (Dl j l r)):=by
 obtain⟨w,A,B,C⟩:=h
 unfold KZ
 rw[Bz (by omega) (by omega),AE,Er,AE]
 by_cases q:0≤r.Row∧r.Row≤j-1
 ·rw[vj q,show((true==true):Bool)=true from rfl,An,Bz (by omega) (by omega),AE,An,Er,AE]
  by_cases u:0≤r.Col∧r.Col≤l-1
  ·rw[vj u,show((true&&true)==true)=true from rfl,An,Bz (by omega) (by omega),AE,An,Er,AE]
   by_cases a3:1≤r.H∧r.H≤j-r.Row
   ·rw[vj a3,show(((true&&true)&&true)==true)=true from rfl,An,Bz (by omega) (by omega),AE,An,Er,AE]
    by_cases a4:1≤r.W∧r.W≤l-r.Col
    ·rw[vj a4,vj (show Dl j l r from⟨q.1,by omega,u.1,by omega,a3.1,a3.2,a4.1,a4.2⟩)];rfl
    ·rw[vk a4,vk (show ¬ Dl j l r from λh=>a4 ⟨h.2.2.2.2.2.2.1,h.2.2.2.2.2.2.2⟩)];rfl
   ·rw[vk a3,vk (show ¬ Dl j l r from λh=>a3 ⟨h.2.2.2.2.1,h.2.2.2.2.2.1⟩)];rfl
  ·rw[vk u,vk (show ¬ Dl j l r from λh=>u ⟨h.2.2.1,by have:=h.2.2.2.1;omega⟩)];rfl
 ·rw[vk q,vk (show ¬ Dl j l r from λh=>q ⟨h.1,by have:=h.2.1;omega⟩)];rfl
theorem ni{j l}(h:Gb j l){a b:As}(B:Dl j l a)(C:Dl j l b):QL a b=some (Gn a b):=by
 obtain⟨E,F,I,J⟩:=h
 obtain⟨M,O,a3,a4,a5,T,U,V⟩:=B
 obtain⟨X,Y,Z,b4,b5,b6,b7,b8⟩:=C
 unfold QL Gn
 rw[Bz (by omega) (by omega),AE]
 by_cases q:a.Row<b.Row+b.H
 ·rw[vj q,show((true==true):Bool)=true from rfl,An,Bz (by omega) (by omega),AE]
  by_cases u:b.Row<a.Row+a.H
  ·rw[vj u,show((true&&true)==true)=true from rfl,An,Bz (by omega) (by omega),AE]
   by_cases w:a.Col<b.Col+b.W
   ·rw[vj w,show(((true&&true)&&true)==true)=true from rfl,An,Bz (by omega) (by omega),AE]
    by_cases A:b.Col<a.Col+a.W
    ·rw[vj A,vj (show _∧_∧_∧_ from⟨q,u,w,A⟩)];rfl
    ·rw[vk A,vk (show ¬ (a.Row<b.Row+b.H∧b.Row<a.Row+a.H∧a.Col<b.Col+b.W∧b.Col<a.Col+a.W) from λh=>A h.2.2.2)];rfl
   ·rw[vk w,vk (show ¬ (a.Row<b.Row+b.H∧b.Row<a.Row+a.H∧a.Col<b.Col+b.W∧b.Col<a.Col+a.W) from λh=>w h.2.2.1)];rfl
  ·rw[vk u,vk (show ¬ (a.Row<b.Row+b.H∧b.Row<a.Row+a.H∧a.Col<b.Col+b.W∧b.Col<a.Col+a.W) from λh=>u h.2.1)];rfl
 ·rw[vk q,vk (show ¬ (a.Row<b.Row+b.H∧b.Row<a.Row+a.H∧a.Col<b.Col+b.W∧b.Col<a.Col+a.W) from λh=>q h.1)];rfl
theorem nV{j l}(h:Gb j l){a b:As}(w:Dl j l a)(A:Dl j l b):ON a b=some (Gn b a):=by
 obtain⟨B,C,E,F⟩:=h
 obtain⟨I,J,a3,a4,a5,M,O,T⟩:=w
 obtain⟨U,V,X,Y,Z,b6,b7,b8⟩:=A
 unfold ON Gn
 rw[Bz (by omega) (by omega),AE,Bz (by omega) (by omega),AE]
 by_cases q:max a.Row b.Row<min (a.Row+a.H) (b.Row+b.H)
 ·rw[vj q,show((true==true):Bool)=true from rfl,An,Bz (by omega) (by omega),AE,An,Bz (by omega) (by omega),AE]
  by_cases u:max a.Col b.Col<min (a.Col+a.W) (b.Col+b.W)
  ·rw[vj u,vj (show b.Row<a.Row+a.H∧a.Row<b.Row+b.H∧b.Col<a.Col+a.W∧a.Col<b.Col+b.W by omega)];rfl
  ·rw[vk u,vk (show ¬ (b.Row<a.Row+a.H∧a.Row<b.Row+b.H∧b.Col<a.Col+a.W∧a.Col<b.Col+b.W) by omega)];rfl
 ·rw[vk q,vk (show ¬ (b.Row<a.Row+a.H∧a.Row<b.Row+b.H∧b.Col<a.Col+a.W∧a.Col<b.Col+b.W) by omega)];rfl
theorem ot{α:Type}[Inhabited α]{l:List α}{k j}(q:j<k)(u:k≤l.length):(l.take k)[j]! = l[j]!:=by
 rw[vr (l.take k) j (by rw[wi];omega),vr l j (by omega),List.getElem_take]
def LY(l:List As)(k:Nat)(w:As):Option Nat:=(List.range k).find? λj=>Gn l[j]! w
theorem ti{q u}(h:Gb q u)(l:List As) k(C:k≤l.length)(J:l.length≤1073741824)(E:∀j,j<k→Dl q u l[j]!){w}(F:Dl q u w) :
  NQ w (l.take k)=some (LY l k w).isSome:=by
 unfold NQ Rk
 have A:(l.take k).length=k:=by rw[wi];omega
 rw[Cb (n:=k) (λj=>if Gn l[j]! w then some (j:Int) else none) (λj B=>by
  unfold Qf Ts
  rw[vh (by rw[A,vi];omega),Aa (by rw[A];exact B),AE,ot B C,ni h (E j B) F,AE,AE,Ad (by omega)]
  cases Gn l[j]! w<;>rfl) (by unfold Qf;rw[vg (by rw[A];simp)]),Tr,E9]
 unfold LY
 cases (List.range k).find? λj=>Gn l[j]! w with
 | none=>rfl
 | some j=>
  show(AB (some (j:Int)) λ(I:Int)=>some (decide (0≤I)))=_
  rw[AE,vj (yw j)];rfl
def Kz(j q:Int)(l:List As)(k:Nat):Option Int:=
 if ¬ Dl j q l[k]! then some 2 else if l[k]!.H=1∧l[k]!.W=1 then some 4 else if 0<k∧0≤B8 l[k-1]!.Row l[k]!.Row l[k-1]!.Col l[k]!.Col then some 5 else if(LY l k l[k]!).isSome=true then some 21 else none
theorem bD{j q}{l}{k}(h:Kz j q l k=none):Dl j q l[k]!:=by
 unfold Kz at h
 by_cases u:Dl j q l[k]!
 ·exact u
 ·rw[vh u] at h;cases h
def QV(g:BX):Int:=
 if ¬ Gb g.Rows g.Cols then 2 else if Nc g.Rows g.Cols false g.Cells≠0 then Nc g.Rows g.Cols false g.Cells else((List.range g.Merges.length).findSome? (Kz g.Rows g.Cols g.Merges)).getD 0
def Vb(g:BX):Prop:=g.Cells.length≤1048576∧g.Merges.length≤1048576∧∀c∈g.Cells,Sr c
theorem m9(a b:As):OG a b=some (!(0≤B8 a.Row b.Row a.Col b.Col)):=by
 unfold OG
 congr 1
 rw[wc]
 have:=TU a.Row b.Row a.Col b.Col
 simp only[vt,vm,vi,wl,xR,this]
 omega
theorem jz(g:BX)(h:Vb g):Oa g=some (QV g):=by
 obtain⟨Y,Z,E⟩:=h
 unfold Oa QV
 by_cases u:Gb g.Rows g.Cols
 ·have F:=u
  obtain⟨r1,r2,M,r4⟩:=F
  rw[vg (by simp only[vt,vi];omega),iK _ _ _ _ (by omega) E,AE,vg (wL.2 u)]
  by_cases B:Nc g.Rows g.Cols false g.Cells=0
  ·rw[vg (CM B),vg (wL.2 B),aX (n:=g.Merges.length) (Kz g.Rows g.Cols g.Merges) (λk O T=>by
    unfold Oc
    rw[vh (by simpa using O),Aa O,AE,l7 _ _ _ u,AE]
    unfold Kz
    by_cases w:Dl g.Rows g.Cols g.Merges[k]!
    ·rw[vj w,vg (show ¬ ((!true)=true) by decide),vg (wL.2 w)]
     by_cases A:g.Merges[k]!.H=1∧g.Merges[k]!.W=1
     ·rw[vh (by rw[vj A.1,vj A.2];rfl),vh A];rfl
     ·rw[vg (by simp only[vm,vi];exact A),vg A]
      have q:=ti u g.Merges k (by omega) (by omega) (λj I=>bD (T j I)) w
      have U:Bx g.Merges 0 (k:Int)=some (g.Merges.take k):=by
       rw[KV g.Merges k (by omega) (by omega)];simp
      have l:(AB (Bx g.Merges 0 (k:Int)) λ(V:List As)=>
        AB (NQ g.Merges[k]! V) λ(M:Bool)=>
        if M then(some (.inr (.ext 21)):Option (Int ⊕ (Au Unit Int))) else(
         AB (AN .i64 ((k:Int)+1)) λ(X:Int)=>some (.inl X)))=Cg k (if(LY g.Merges k g.Merges[k]!).isSome=true then some 21 else none):=by
       rw[U,AE,q,AE,Ad (by omega)]
       cases (LY g.Merges k g.Merges[k]!).isSome<;>rfl
      by_cases J:0<k
      ·rw[vj (show(0:Int)<k by omega),show((true==true):Bool)=true from rfl,An,FH J (by omega),AE,An,Aa (show k-1<g.Merges.length by omega),AE,An,m9,AE]
       by_cases C:0≤B8 g.Merges[k-1]!.Row g.Merges[k]!.Row g.Merges[k-1]!.Col g.Merges[k]!.Col
       ·rw[vj C,vh (show 0<k∧0≤B8 g.Merges[k-1]!.Row g.Merges[k]!.Row g.Merges[k-1]!.Col g.Merges[k]!.Col from⟨J,C⟩)];rfl
       ·rw[vk C,vg (show ¬ (0<k∧0≤B8 g.Merges[k-1]!.Row g.Merges[k]!.Row g.Merges[k-1]!.Col g.Merges[k]!.Col) from λh=>C h.2)]
        exact l
      ·have e0:k=0:=by omega
       rw[vg (show ¬ (0<k∧0≤B8 g.Merges[k-1]!.Row g.Merges[k]!.Row g.Merges[k-1]!.Col g.Merges[k]!.Col) from λh=>J h.1),vk (show ¬ (0:Int)<k by omega)]
       exact l
    ·rw[vk w,vh w];rfl) (by unfold Oc;rw[vg (by simp)]),FC]
  ·rw[vh (Ba B),vh B]
 ·rw[vh u,vh (by unfold Gb at u;simp only[vt,vi];omega)]
theorem kZ{X:Type}(l:List As)(k:Nat)(I:k<l.length)(J:l.length≤9223372036854775806)(a b:Option X) :
  (AB (gd ((decide (0<(k:Int)))==true) (AN .i64 ((k:Int)-1))) λ(C:Int)=>
    AB (gd ((decide (0<(k:Int)))==true) (AM l C)) λ(j:As)=>
    AB (gd ((((decide (0<(k:Int)))==true)&&((decide (l[k]!.Row<j.Row))==false))&&((decide (l[k]!.Row=j.Row))==true)) (AN .i64 ((k:Int)-1))) λ(E:Int)=>
    AB (gd ((((decide (0<(k:Int)))==true)&&((decide (l[k]!.Row<j.Row))==false))&&((decide (l[k]!.Row=j.Row))==true)) (AM l E)) λ(F:As)=>
    if((0<(k:Int))&&((l[k]!.Row<j.Row)||((l[k]!.Row=j.Row)&&(l[k]!.Col≤F.Col)))) then a else b) =
   if 0<k∧0≤B8 l[k-1]!.Row l[k]!.Row l[k-1]!.Col l[k]!.Col then a else b:=by
 have q:=TU l[k-1]!.Row l[k]!.Row l[k-1]!.Col l[k]!.Col
 by_cases u:0<k
 ·rw[vj (show(0:Int)<k by omega),show((true==true):Bool)=true from rfl,An,FH u (by omega),AE,An,Aa (show k-1<l.length by omega),AE]
  by_cases w:l[k]!.Row<l[k-1]!.Row
  ·rw[vj w,vh (show 0<k∧0≤B8 l[k-1]!.Row l[k]!.Row l[k-1]!.Col l[k]!.Col from⟨u,q.2 (.inl w)⟩)];rfl
  ·by_cases A:l[k]!.Row=l[k-1]!.Row
   ·rw[vk w,vj A,show(((true&&(false==false))&&(true==true)):Bool)=true from rfl,An,AE,An,Aa (show k-1<l.length by omega),AE]
    by_cases B:l[k]!.Col≤l[k-1]!.Col
    ·rw[vj B,vh (show 0<k∧0≤B8 l[k-1]!.Row l[k]!.Row l[k-1]!.Col l[k]!.Col from⟨u,q.2 (.inr ⟨A,B⟩)⟩)];rfl
    ·rw[vk B,vg (show ¬ (0<k∧0≤B8 l[k-1]!.Row l[k]!.Row l[k-1]!.Col l[k]!.Col) from λh=>by have:=q.1 h.2;omega)];rfl
   ·rw[vk w,vk A,vg (show ¬ (0<k∧0≤B8 l[k-1]!.Row l[k]!.Row l[k-1]!.Col l[k]!.Col) from λh=>by have:=q.1 h.2;omega)];rfl
 ·rw[vg (show ¬ (0<k∧0≤B8 l[k-1]!.Row l[k]!.Row l[k-1]!.Col l[k]!.Col) from λh=>u h.1),vk (show ¬ (0:Int)<k by omega)];rfl
theorem oX(g:BX)(h:Vb g):PC g=some (QV g):=by
 obtain⟨U,V,B⟩:=h
 unfold PC QV
 rw[Er,AE]
 by_cases l:Gb g.Rows g.Cols
 ·have C:=l
  obtain⟨I,J,M,O⟩:=C
  rw[vj (show 0≤g.Rows∧g.Rows≤2147483647 from⟨I,J⟩),show((!true)==false)=true from rfl,An,Er,AE,vj (show 0≤g.Cols∧g.Cols≤2147483647 from⟨M,O⟩),vg (by decide),
   lU _ _ _ _ (by omega) B ⟨I,J⟩ ⟨M,O⟩,AE,vg (wL.2 l)]
  by_cases w:Nc g.Rows g.Cols false g.Cells=0
  ·rw[vg (CM w),vg (wL.2 w),aX (n:=g.Merges.length) (Kz g.Rows g.Cols g.Merges) (λk E T=>by
    unfold Pj
    rw[vh (by simpa using E),Aa E,AE,tz _ _ _ l,AE]
    unfold Kz
    by_cases q:Dl g.Rows g.Cols g.Merges[k]!
    ·rw[vj q,vg (show ¬ ((!true)=true) by decide),vg (wL.2 q)]
     by_cases u:g.Merges[k]!.H=1∧g.Merges[k]!.W=1
     ·rw[vh (by rw[vj u.1,vj u.2];rfl),vh u];rfl
     ·rw[vg (by simp only[vm,vi];exact u),vg u,kZ _ k E (by omega)]
      by_cases A:0<k∧0≤B8 g.Merges[k-1]!.Row g.Merges[k]!.Row g.Merges[k-1]!.Col g.Merges[k]!.Col
      ·rw[vh A,vh A];rfl
      ·rw[vg A,vg A,Cb (n:=k) (λj=>if Gn g.Merges[j]! g.Merges[k]! then some (.inr (.ext 21)) else none) (λj F=>by
        unfold PL
        rw[vh (by rw[vi];omega),Aa (by omega),AE,nV l q (bD (T j F)),AE,Ad (by omega)]
        cases Gn g.Merges[j]! g.Merges[k]!<;>rfl) (by unfold PL;rw[vg (by rw[vi];omega)]),Tr,E9]
       unfold LY
       cases (List.range k).find? λj=>Gn g.Merges[j]! g.Merges[k]! with
       | none=>rw[Ad (by omega)];rfl
       | some j=>rfl
    ·rw[vk q,vh q];rfl) (by unfold Pj;rw[vg (by simp)]),FC]
  ·rw[vh (Ba w),vh w]
 ·rw[vh l]
  unfold Gb at l
  by_cases a:0≤g.Rows∧g.Rows≤2147483647
  ·rw[vj a,show((!true)==false)=true from rfl,An,Er,AE,vk (show ¬ (0≤g.Cols∧g.Cols≤2147483647) by omega)];rfl
  ·rw[vk a];rfl
def Vy(c:UInt8):Bool:=(97≤c.toNat)&&(c.toNat≤122)
def R7(s:List UInt8):Bool:=(List.range s.length).all λk=>Vy s[k]!
def KN(s:List UInt8):Bool:=(1≤s.length)&&(s.length≤200)&&!(s[s.length-1]!.toNat=97)&&R7 s
theorem Zt(s:List UInt8)(l:s.length≤9223372036854775806):iter (λ(a:Int)=>LC s a) 0=some (Fk (if R7 s then none else some false)):=by
 rw[Cb (n:=s.length) (λk=>if Vy s[k]! then none else some false) (λk j=>by
  unfold LC
  rw[vh (by simpa using j),Aa j,AE,Ad (by omega)]
  unfold Vy
  generalize s[k]! = c
  by_cases h:97≤c.toNat∧c.toNat≤122
  ·rw[vg (by simp only[vt,vi];omega),vh (by simp only[vm,vi];exact h)];rfl
  ·rw[vh (by simp only[vt,vi];omega),vg (by simp only[vm,vi];exact h)];rfl) (by unfold LC;rw[vg (by simp)]),Ky]
 rfl
theorem sb:S7=LC:=by funext s x;rfl
theorem mY(s:List UInt8)(q:s.length≤9223372036854775806):N9 s=some (KN s):=by
 unfold N9 KN
 rw[sb,Zt s q]
 by_cases h:1≤s.length∧s.length≤200
 ·have j:s≠[]:=xy.1 h.1
  rw[vk j,vk (show ¬ (200:Int)<(s.length:Int) by omega),show((false||false)==false)=true from rfl,An,FH h.1 (by omega),AE,An,Aa (by omega),AE,vj h.1,vj h.2]
  by_cases l:s[s.length-1]!.toNat=97
  ·rw[vj l,vh (by rw[vj (show((s[s.length-1]!.toNat:Int)=97) by omega)];rfl)];rfl
  ·rw[vk l,vg (by rw[vk (show ¬ ((s[s.length-1]!.toNat:Int)=97) by omega)];decide)]
   cases R7 s<;>rfl
 ·have u:((s=[])||(200<(s.length:Int)))=true:=by
   rw[vt,vi,vi,← yy];omega
  have hd:((1≤s.length)&&(s.length≤200))=false:=by
   rw[← xY,vm,vi,vi];exact h
  rw[u,hd];rfl
theorem pN(s:List UInt8)(l:s.length≤9223372036854775806):OR s=some (KN s):=by
 unfold OR KN
 rw[Zt s l,E9]
 cases R7 s with
 | false=>rw[yx];rfl
 | true=>
  rw[vh rfl,Bool.and_true]
  dsimp only
  by_cases h:1≤s.length∧s.length≤200
  ·rw[vj (show(1:Int)≤(s.length:Int) by omega),vj (show(s.length:Int)≤200 by omega),show((true&&true)==true)=true from rfl,An,FH h.1 (by omega),AE,An,Aa (by omega),AE,vj h.1,vj h.2]
   by_cases j:s[s.length-1]!.toNat=97
   ·rw[vj j,vj (show((s[s.length-1]!.toNat:Int)=97) by omega)]
   ·rw[vk j,vk (show ¬ ((s[s.length-1]!.toNat:Int)=97) by omega)]
  ·have q:((1≤(s.length:Int))&&((s.length:Int)≤200))=false:=by
    rw[← xY,vm,vi,vi];omega
   have hd:((1≤s.length)&&(s.length≤200))=false:=by
    rw[← xY,vm,vi,vi];exact h
   rw[q,hd];rfl
def G5(o:BQ):Prop:=(1≤o.Clock∧o.Clock≤1073741824)∧(0≤o.Site∧o.Site≤1000)∧(1≤o.Item∧o.Item≤1073741824)
instance (o:BQ):Decidable (G5 o):=by unfold G5;infer_instance
def Na(o:BQ):Int:=
 if ¬ (o.Kind=0∨o.Kind=1) then 8 else if ¬ G5 o then 2
 else if o.Kind=0 then(if o.Name≠[]∨o.Value≠[] then 4 else if ¬ (-1≤o.Parent∧o.Parent≤1073741824) then 2 else if KN o.Place=false then 9 else 0)
 else(if o.Parent≠0∨o.Place≠[] then 4 else if ER o.Name=false then 9 else if o.Value≠[]∧Di o.Value=false then 23 else 0)
def O0(l:List BQ)(k:Nat):Option Int:=
 if Na l[k]!≠0 then some (Na l[k]!) else if 0<k∧0≤B8 l[k-1]!.Clock l[k]!.Clock l[k-1]!.Site l[k]!.Site then some 5 else none
def bS(l:List BQ):Int:=((List.range l.length).findSome? (O0 l)).getD 0
def Rh(o:BQ):Prop:=o.Place.length≤1073741824∧o.Name.length≤1073741824∧o.Value.length≤1073741824
theorem jW(o:BQ)(h:Rh o):O9 o=some (Na o):=by
 obtain⟨hp,I,J⟩:=h
 unfold O9 Na
 rw[mY _ (by omega),gR _ (by omega),V6 _ (by omega)]
 by_cases l:o.Kind=0
 ·have u:¬ o.Kind=1:=by omega
  rw[vg (show ¬ ((!(o.Kind=0))&&(!(o.Kind=1)))=true by rw[vj l];simp),vg (show ¬ ¬ (o.Kind=0∨o.Kind=1) from λh=>h (.inl l))]
  by_cases q:G5 o
  ·have w:=q
   unfold G5 at w
   rw[vg (by simp only[vt,vi];omega),vg (wL.2 q),vh l,vj l,vk u]
   by_cases j:o.Name≠[]∨o.Value≠[]
   ·have A:(true&&((!(o.Name=[]))||(!(o.Value=[]))))=true:=by
     rw[wy,vt]
     rcases j with c | c
     ·exact .inl (Ba c)
     ·exact .inr (Ba c)
    rw[vh j,A];rfl
   ·have C:o.Name=[]∧o.Value=[]:=⟨wM λh=>j (.inl h),wM λh=>j (.inr h)⟩
    have A:(true&&((!(o.Name=[]))||(!(o.Value=[]))))=false:=by rw[vj C.1,vj C.2];rfl
    rw[vg j,A]
    by_cases B : -1≤o.Parent∧o.Parent≤1073741824
    ·rw[vg (wL.2 B)]
     have E:((o.Parent<(-1))||(1073741824<o.Parent))=false:=by
      rw[← xY,vt,vi,vi];omega
     rw[E]
     cases KN o.Place with
     | false=>rfl
     | true=>rw[vj C.2];rfl
    ·rw[vh B]
     have E:((o.Parent<(-1))||(1073741824<o.Parent))=true:=by
      rw[vt,vi,vi];omega
     rw[E];rfl
  ·rw[vh (by unfold G5 at q;simp only[vt,vi];omega),vh q]
 ·by_cases u:o.Kind=1
  ·rw[vg (show ¬ ((!(o.Kind=0))&&(!(o.Kind=1)))=true by rw[vj u,vk l];decide),vg (show ¬ ¬ (o.Kind=0∨o.Kind=1) from λh=>h (.inr u))]
   by_cases q:G5 o
   ·have w:=q
    unfold G5 at w
    rw[vg (by simp only[vt,vi];omega),vg (wL.2 q),vg l,vk l,vj u]
    by_cases j:o.Parent≠0∨o.Place≠[]
    ·have A:(true&&((!(o.Parent=0))||(!(o.Place=[]))))=true:=by
      rw[wy,vt]
      rcases j with c | c
      ·exact .inl (Ba c)
      ·exact .inr (Ba c)
     rw[vh j,A];rfl
    ·have C:o.Parent=0∧o.Place=[]:=⟨wM λh=>j (.inl h),wM λh=>j (.inr h)⟩
     have A:(true&&((!(o.Parent=0))||(!(o.Place=[]))))=false:=by rw[vj C.1,vj C.2];rfl
     rw[vg j,A]
     cases ER o.Name with
     | false=>rfl
     | true=>
      by_cases B:o.Value=[]
      ·rw[vj B,vg (show ¬ (true=false) by decide),vg (show ¬ (o.Value≠[]∧Di o.Value=false) from λh=>h.1 B)];rfl
      ·rw[vk B,vg (show ¬ (true=false) by decide)]
       cases F:Di o.Value with
       | false=>rw[vh (show o.Value≠[]∧false=false from⟨B,rfl⟩)];rfl
       | true=>rw[vg (show ¬ (o.Value≠[]∧true=false) from λh=>by cases h.2)];rfl
   ·rw[vh (by unfold G5 at q;simp only[vt,vi];omega),vh q]
  ·rw[vh (show((!(o.Kind=0))&&(!(o.Kind=1)))=true by rw[vk u,vk l];rfl),vh (show ¬ (o.Kind=0∨o.Kind=1) from λh=>h.elim l u)]
theorem qX(a b:BQ):PN a b=some (B8 a.Clock b.Clock a.Site b.Site):=by
 unfold PN
 rw[SN,SN,AE,AE,Yw,AE,Z2]
theorem jr(a b:BQ):MC a b=some (!(0≤B8 a.Clock b.Clock a.Site b.Site)):=by
 unfold MC
 congr 1
 rw[wc]
 have:=TU a.Clock b.Clock a.Site b.Site
 simp only[vt,vm,vi,wl,xR,this]
 omega
theorem o6(l:List BQ)(A:l.length≤1073741824)(w:∀o∈l,Rh o):OF l=some (bS l):=by
 unfold OF
 rw[Cb (n:=l.length) (O0 l) (λk q=>by
  unfold N5 O0
  rw[vh (by simpa using q),Aa q,AE,jW _ (w _ (BT q)),AE]
  by_cases e:Na l[k]! = 0
  ·rw[vg (CM e),vg (wL.2 e)]
   by_cases u:0<k
   ·rw[vj (show(0:Int)<k by omega),show((true==true):Bool)=true from rfl,An,FH u (by omega),AE,An,Aa (show k-1<l.length by omega),AE,An,qX,AE]
    by_cases j:0≤B8 l[k-1]!.Clock l[k]!.Clock l[k-1]!.Site l[k]!.Site
    ·rw[vj j,vh (show 0<k∧0≤B8 l[k-1]!.Clock l[k]!.Clock l[k-1]!.Site l[k]!.Site from⟨u,j⟩)];rfl
    ·rw[vk j,vg (show ¬ (0<k∧0≤B8 l[k-1]!.Clock l[k]!.Clock l[k-1]!.Site l[k]!.Site) from λh=>j h.2),Ad (by omega)];rfl
   ·rw[vg (show ¬ (0<k∧0≤B8 l[k-1]!.Clock l[k]!.Clock l[k-1]!.Site l[k]!.Site) from λh=>u h.1),vk (show ¬ (0:Int)<k by omega),Ad (by omega)];rfl
  ·rw[vh (Ba e),vh e];rfl) (by unfold N5;rw[vg (by simp)]),FC]
 rfl
theorem jB(l:List BQ)(hm:l.length≤1073741824)(U:∀o∈l,Rh o):Lw l=some (bS l):=by
 unfold Lw
 rw[Cb (n:=l.length) (O0 l) (λk F=>by
  obtain⟨hp,V,X⟩:=U _ (BT F)
  have u:(AB (gd ((decide (0<(k:Int)))==true) (AN .i64 ((k:Int)-1))) λ(Y:Int)=>
    AB (gd ((decide (0<(k:Int)))==true) (AM l Y)) λ(Z:BQ)=>
    AB (gd ((decide (0<(k:Int)))==true) (MC Z l[k]!)) λ(r4:Bool)=>
    if((0<(k:Int))&&(!r4)) then(some (.inr (.ext 5)):Option (Int ⊕ (Au Unit Int))) else(
     AB (AN .i64 ((k:Int)+1)) λ(x7:Int)=>some (.inl x7)))=Cg k (if 0<k∧0≤B8 l[k-1]!.Clock l[k]!.Clock l[k-1]!.Site l[k]!.Site then some 5 else none):=by
   by_cases I:0<k
   ·rw[vj (show(0:Int)<k by omega),show((true==true):Bool)=true from rfl,An,FH I (by omega),AE,An,Aa (show k-1<l.length by omega),AE,An,jr,AE]
    by_cases C:0≤B8 l[k-1]!.Clock l[k]!.Clock l[k-1]!.Site l[k]!.Site
    ·rw[vj C,vh (show 0<k∧0≤B8 l[k-1]!.Clock l[k]!.Clock l[k-1]!.Site l[k]!.Site from⟨I,C⟩)];rfl
    ·rw[vk C,vg (show ¬ (0<k∧0≤B8 l[k-1]!.Clock l[k]!.Clock l[k-1]!.Site l[k]!.Site) from λh=>C h.2),Ad (by omega)];rfl
   ·rw[vg (show ¬ (0<k∧0≤B8 l[k-1]!.Clock l[k]!.Clock l[k-1]!.Site l[k]!.Site) from λh=>I h.1),vk (show ¬ (0:Int)<k by omega),Ad (by omega)];rfl
  unfold Pi O0 Na
  rw[vh (by simpa using F),Aa F,AE,u,Er,AE,Er,Er,Er,pN _ (by omega),bA _ (by omega),Th _ (by omega)]
  generalize l[k]! = o at hp V X ⊢
  by_cases A:o.Kind=0∨o.Kind=1
  ·rw[vg (show ¬ ((!(o.Kind=0))&&(!(o.Kind=1)))=true by rcases A with h | h<;>rw[vj h]<;>simp),vg (wL.2 A)]
   by_cases w:G5 o
   ·rw[vg (wL.2 w),vj w.1,show((!true)==false)=true from rfl,An,AE,vj w.2.1,show(((!true)||(!true))==false)=true from rfl,An,AE,vj w.2.2,vg (show ¬ (((!true)||(!true))||(!true))=true by decide)]
    by_cases E:o.Kind=0
    ·rw[vh (vj E),vh E]
     by_cases j:o.Name≠[]∨o.Value≠[]
     ·have J:((!(o.Name=[]))||(!(o.Value=[])))=true:=by
       rw[vt]
       rcases j with c | c
       ·exact .inl (Ba c)
       ·exact .inr (Ba c)
      rw[vh j,vh J];rfl
     ·have B:o.Name=[]∧o.Value=[]:=⟨wM λh=>j (.inl h),wM λh=>j (.inr h)⟩
      rw[vg j,vg (show ¬ ((!(o.Name=[]))||(!(o.Value=[])))=true by rw[vj B.1,vj B.2];decide),AE]
      by_cases q : -1≤o.Parent∧o.Parent≤1073741824
      ·rw[vg (wL.2 q),vj q,vg (show ¬ ((!true)=true) by decide),AE]
       cases KN o.Place<;>rfl
      ·rw[vh q,vk q];rfl
    ·rw[vg (show ¬ decide (o.Kind=0)=true by simpa using E),vg E]
     by_cases j:o.Parent≠0∨o.Place≠[]
     ·have J:((!(o.Parent=0))||(!(o.Place=[])))=true:=by
       rw[vt]
       rcases j with c | c
       ·exact .inl (Ba c)
       ·exact .inr (Ba c)
      rw[vh j,vh J];rfl
     ·have B:o.Parent=0∧o.Place=[]:=⟨wM λh=>j (.inl h),wM λh=>j (.inr h)⟩
      rw[vg j,vg (show ¬ ((!(o.Parent=0))||(!(o.Place=[])))=true by rw[vj B.1,vj B.2];decide),AE]
      cases ER o.Name with
      | false=>rfl
      | true=>
       by_cases q:o.Value=[]
       ·rw[vj q,vg (show ¬ (true=false) by decide),vg (show ¬ (o.Value≠[]∧Di o.Value=false) from λh=>h.1 q)];rfl
       ·rw[vk q,vg (show ¬ (true=false) by decide)]
        cases a0:Di o.Value with
        | false=>rw[vh (show o.Value≠[]∧false=false from⟨q,rfl⟩)];rfl
        | true=>rw[vg (show ¬ (o.Value≠[]∧true=false) from λh=>by cases h.2)];rfl
   ·rw[vh w]
    unfold G5 at w
    by_cases O:1≤o.Clock∧o.Clock≤1073741824
    ·rw[vj O,show((!true)==false)=true from rfl,An,AE]
     by_cases T:0≤o.Site∧o.Site≤1000
     ·rw[vj T,show(((!true)||(!true))==false)=true from rfl,An,AE,vk (show ¬ (1≤o.Item∧o.Item≤1073741824) by omega)];rfl
     ·rw[vk T];rfl
    ·rw[vk O];rfl
  ·have M:((!(o.Kind=0))&&(!(o.Kind=1)))=true:=by
    rw[vk (λh=>A (.inl h)),vk (λh=>A (.inr h))];rfl
   rw[vh M,vh A];rfl) (by unfold Pi;rw[vg (by simp)]),FC]
 rfl
theorem Yb:Kp=Hn:=by funext k;rfl
theorem nQ:RZ=NO:=by funext k;rfl
theorem oA:Pr=Mw:=by funext k;rfl
theorem ub:RD=JM:=by funext k;rfl
structure Kg(n:Ak):Prop where
 ok:Ol n
 ce:∀c∈n.Grid.Cells,Sr c
 dr:∀o∈n.Draw,Rh o
theorem Kg.gd{n:Ak}(h:Kg n):Vb n.Grid:=⟨h.ok.gr.1,h.ok.gr.2.1,h.ce⟩
def Nh(kind:Int)(c:Av):Bool:=((kind=2)&&((!(c.Text=[]))||(0<(c.Attrs.length:Int))))||((kind=6)&&(!(c.Ref=0)))
def Yf(kind:Int)(l:List Av):Int:=((List.range l.length).findSome? λk=>if Nh kind l[k]! then some (4:Int) else none).getD 0
theorem mC kind(l:List Av)(q:l.length≤1073741824):PI kind l=some (Yf kind l):=by
 unfold PI
 rw[Cb (n:=l.length) (λk=>if Nh kind l[k]! then some (4:Int) else none) (λk j=>by
  unfold OC
  rw[vh (by simpa using j),Aa j,AE,Ad (by omega)]
  show(if Nh kind l[k]! = true then _ else _)=_
  cases Nh kind l[k]!<;>rfl) (by unfold OC;rw[vg (by simp)]),FC]
 rfl
theorem pP kind(l:List Av)(A:l.length≤1073741824):PF kind l=some (Yf kind l):=by
 unfold PF
 rw[Cb (n:=l.length) (λk=>if Nh kind l[k]! then some (4:Int) else none) (λk w=>by
  unfold Nr Nh
  rw[vh (by simpa using w),Aa w,Ad (by omega)]
  generalize l[k]! = c
  by_cases u:kind=2
  ·have j:¬ kind=6:=by omega
   rw[vj u,vk j]
   rw[show((true==true):Bool)=true from rfl,An,AE]
   generalize ((!(c.Text=[]))||(0<(c.Attrs.length:Int)))=q
   cases q<;>rfl
  ·by_cases j:kind=6
   ·rw[vk u,vj j]
    rw[show((false==true):Bool)=false from rfl,Fa,AE]
    show(AB (gd true (some c)) λ(B:Av)=>_)=_
    rw[An,AE]
    generalize (!(c.Ref=0))=q
    cases q<;>rfl
   ·rw[vk u,vk j];rfl) (by unfold Nr;rw[vg (by simp)]),FC]
 rfl
def XB(t l g z d j q:Bool):Bool:=((!(t||l)&&j)||(!g&&!z))||(!d&&q)
theorem uf t l g z d j q :
  (if(((!(t||l))&&j)==false) then(
   if((!g)==true) then(
    AB (gd ((((!(t||l))&&j)||((!g)&&(!z)))==false) (some d)) λ(w:Bool)=>
    some ((((!(t||l))&&j)||((!g)&&(!z)))||((!w)&&q))
   ) else(
    AB (gd ((((!(t||l))&&j)||((!g)&&false))==false) (some d)) λ(A:Bool)=>
    some ((((!(t||l))&&j)||((!g)&&false))||((!A)&&q))
   )
  ) else(
   AB (gd ((((!(t||l))&&j)||false)==false) (some d)) λ(u:Bool)=>
   some ((((!(t||l))&&j)||false)||((!u)&&q))
  ))=some (XB t l g z d j q):=by
 cases t<;>cases l<;>cases g<;>cases z<;>cases d<;>cases j<;>cases q<;>rfl
theorem pK{X:Type}(t l g z d j q:Bool)(A B:Option X) :
  (AB (gd ((j&&(!(t||l)))==false) (some z)) λ(u:Bool)=>
   AB (gd (((j&&(!(t||l)))==false)&&((!u)==true)) (some g)) λ(w:Bool)=>
   AB (gd ((((j&&(!(t||l)))||((!u)&&(!w)))==false)&&(q==true)) (some d)) λ(C:Bool)=>
   if(((j&&(!(t||l)))||((!u)&&(!w)))||(q&&(!C))) then A else B)=if XB t l g z d j q=true then A else B:=by
 cases t<;>cases l<;>cases g<;>cases z<;>cases d<;>cases j<;>cases q<;>rfl
theorem YO{α:Type}(l:List α):decide ((l.length:Int)=0)=l.isEmpty:=by
 cases l with
 | nil=>rfl
 | cons a l=>exact vk (by simp only[v6];omega)
theorem kh g:OM g=some (decide (g=BX.mk 0 0 [] [])):=by
 unfold OM
 congr 1
 obtain⟨a,b,c,d⟩:=g
 rw[YO,YO,wc]
 simp[and_assoc]
theorem Wl(n:Ak)(h:Kg n):∃e,FM n=some e∧Mf n=some e:=by
 have A:=h.ok.at_
 have hf:=h.ok.fl
 have hg:=h.ok.gr
 have hd:=h.ok.dr
 have M:∀x∈n.Flow,EG x:=λx Y=>⟨by have:=(h.ok.fa x Y).1;omega,(h.ok.fa x Y).2⟩
 unfold FM Mf
 rw[Yb,nQ,oA,ub,Er,AE]
 by_cases Z:1≤n.ID∧n.ID≤1073741824
 ·rw[vg (show ¬ ((n.ID<1)||(1073741824<n.ID))=true by simp only[vt,vi];omega),vj Z,vg (show ¬ ((!true)=true) by decide),Er,AE]
  by_cases j:(0≤n.Kind∧n.Kind≤12)∧(n.ID=1↔n.Kind=0)
  ·obtain⟨j,B⟩:=j
   have O:(((n.Kind<0)||(13≤n.Kind))||(!((decide (n.ID=1))==(decide (n.Kind=0)))))=false:=by
    rw[vk (show ¬ n.Kind<0 by omega),vk (show ¬ 13≤n.Kind by omega)]
    by_cases q:n.ID=1
    ·rw[vj q,vj (B.1 q)];rfl
    ·rw[vk q,vk (λe=>q (B.2 e))];rfl
   have e2:(((!(0≤n.Kind∧n.Kind≤12))||((n.ID=1)&&(!(n.Kind=0))))||((!(n.ID=1))&&(n.Kind=0)))=false:=by
    rw[vj j]
    by_cases q:n.ID=1
    ·rw[vj q,vj (B.1 q)];rfl
    ·rw[vk q,vk (λe=>q (B.2 e))];rfl
   rw[O,e2,vg (show ¬ (false=true) by decide),vg (show ¬ (false=true) by decide),Rf _ A.2 (by have:=A.1;omega),AE,Rx _ _ A.2 (by have:=A.1;omega),AE]
   by_cases C:BC n.Attrs false=0
   ·rw[vg (CM C),vg (CM C)]
    obtain⟨t,ht⟩:∃t,Hn n.Kind=some t:=⟨_,rfl⟩
    obtain⟨l,hl⟩:∃t,NO n.Kind=some t:=⟨_,rfl⟩
    obtain⟨g,T⟩:∃t,Mw n.Kind=some t:=⟨_,rfl⟩
    obtain⟨d,U⟩:∃t,JM n.Kind=some t:=⟨_,rfl⟩
    rw[ht,hl,T,U,AE,AE,WX _ _ hg,kh]
    have V:∃E,gd (t==false) (some l)=some E:=by cases t<;>exact⟨_,rfl⟩
    obtain⟨E,X⟩:=V
    rw[X,AE,AE,AE,uf,AE,AE,pK]
    by_cases F:XB t E g (decide (n.Grid=BX.mk 0 0 [] [])) d (decide (0<(n.Flow.length:Int))) (decide (0<(n.Draw.length:Int)))=true
    ·rw[vh F,vh F];exact⟨_,rfl,rfl⟩
    ·rw[vg F,vg F]
     by_cases I:(t||E)=true
     ·obtain⟨r,h1,h2⟩:=kj n.Flow t M (by omega)
      rw[vh I,vh I,h1,h2];exact⟨_,rfl,rfl⟩
     ·rw[vg I,vg I]
      cases g with
      | true=>
       rw[vh rfl,jz _ h.gd,AE,AE,vh rfl,oX _ h.gd,AE]
       by_cases J:QV n.Grid=0
       ·rw[vg (CM J),vg (CM J),mC _ _ (by have:=hg.1;omega),pP _ _ (by have:=hg.1;omega)];exact⟨_,rfl,rfl⟩
       ·rw[vh (Ba J),vh (Ba J)];exact⟨_,rfl,rfl⟩
      | false=>
       rw[vg (show ¬ (false=true) by decide),AE,vg (show ¬ (false=true) by decide),o6 _ (by omega) h.dr,jB _ (by omega) h.dr];exact⟨_,rfl,rfl⟩
   ·rw[vh (Ba C),vh (Ba C)];exact⟨_,rfl,rfl⟩
  ·have O:(((n.Kind<0)||(13≤n.Kind))||(!((decide (n.ID=1))==(decide (n.Kind=0)))))=true:=by
    by_cases u:0≤n.Kind∧n.Kind≤12
    ·have w:¬ (n.ID=1↔n.Kind=0):=λe=>j ⟨u,e⟩
     by_cases q:n.ID=1
     ·rw[vj q,vk (λe=>w ⟨λ_=>e,λ_=>q⟩),vt];exact .inr rfl
     ·rw[vk q,vj (wM λe=>w ⟨λx=>absurd x q,λx=>absurd x e⟩),vt];exact .inr rfl
    ·simp only[vt,vi];exact .inl (by omega)
   have e2:(((!(0≤n.Kind∧n.Kind≤12))||((n.ID=1)&&(!(n.Kind=0))))||((!(n.ID=1))&&(n.Kind=0)))=true:=by
    by_cases u:0≤n.Kind∧n.Kind≤12
    ·have w:¬ (n.ID=1↔n.Kind=0):=λe=>j ⟨u,e⟩
     rw[vj u]
     by_cases q:n.ID=1
     ·rw[vj q,vk (λe=>w ⟨λ_=>e,λ_=>q⟩)];rfl
     ·rw[vk q,vj (wM λe=>w ⟨λx=>absurd x q,λx=>absurd x e⟩)];rfl
    ·rw[vk u];rfl
   rw[O,e2];exact⟨_,rfl,rfl⟩
 ·rw[vh (show((n.ID<1)||(1073741824<n.ID))=true by simp only[vt,vi];omega),vk Z];exact⟨_,rfl,rfl⟩
theorem sg(s:List Int) v(u:s.length≤1048576):Mm s v=some ((List.range s.length).find? λj=>decide (v=s[j]!)).isSome:=by
 unfold Mm Sn
 rw[Cb (n:=s.length) (λj=>if decide (v=s[j]!) then some (j:Int) else none) (λj l=>by
  unfold QI
  rw[vh (by simpa using l),Aa l,AE,Ad (by omega)]
  cases decide (v=s[j]!)<;>rfl) (by unfold QI;rw[vg (by simp)]),Tr,E9]
 cases (List.range s.length).find? λj=>decide (v=s[j]!) with
 | none=>rfl
 | some j=>
  show(AB (some (j:Int)) λ(q:Int)=>some (decide (0≤q)))=_
  rw[AE,vj (yw j)];rfl
theorem LB(s:List Int) v(q:s.length≤1048576):Mm s v=some (decide (v∈s)):=by
 rw[sg s v q]
 congr 1
 rw[wc,vi,List.find?_isSome]
 constructor
 ·rintro⟨j,u,w⟩
  have l:=wU.1 u
  rw[yE w];exact BT l
 ·intro h
  obtain⟨j,l,e⟩:=yZ h
  exact⟨j,wU.2 l,vj (by rw[vr s j l,e])⟩
def On(p k:Int):Bool:=
 if p=0 then decide (k∈[1,6,7,10,11,12]) else if p=1 then decide (k∈[2,4,5,10]) else if p=3 then decide (k∈[4,5,10]) else if p=4∨p=12 then decide (k=5) else if p=2 then decide (k=3) else if p=7 then decide (k=8∨k=9) else false
theorem tH p k:Qh p k=some (On p k):=by
 unfold Qh On
 by_cases l:p=0
 ·rw[vh (vj l),vh l,AE,LB _ _ (by decide)];rfl
 ·rw[vg (show ¬ decide (p=0)=true by simpa using l),vg l]
  by_cases q:p=1
  ·rw[vh (vj q),vh q,AE,LB _ _ (by decide)];rfl
  ·rw[vg (show ¬ decide (p=1)=true by simpa using q),vg q]
   by_cases u:p=3
   ·rw[vh (vj u),vh u,AE,LB _ _ (by decide)];rfl
   ·rw[vg (show ¬ decide (p=3)=true by simpa using u),vg u]
    have B:(if decide (p=4)=true then some (decide (p=4)) else some (decide (p=12)))=some (decide (p=4∨p=12)):=by
     by_cases j:p=4
     ·rw[vh (vj j),vj j,vj (Or.inl j:p=4∨p=12)]
     ·rw[vg (show ¬ decide (p=4)=true by simpa using j)]
      congr 1
      rw[wc,vi,vi]
      exact⟨.inr,λh=>h.elim (λh=>absurd h j) id⟩
    rw[B,AE]
    by_cases j:p=4∨p=12
    ·rw[vh (vj j),vh j,AE,LB _ _ (by decide),AE]
     congr 1;rw[wc];simp
    ·rw[vg (show ¬ decide (p=4∨p=12)=true by simpa using j),vg j]
     by_cases w:p=2
     ·rw[vh (vj w),vh w,AE,LB _ _ (by decide),AE]
      congr 1;rw[wc];simp
     ·rw[vg (show ¬ decide (p=2)=true by simpa using w),vg w]
      by_cases A:p=7
      ·rw[vh (vj A),vh A,AE,LB _ _ (by decide),AE]
       congr 1;rw[wc];simp
      ·rw[vg (show ¬ decide (p=7)=true by simpa using A),vg A,AE,LB _ _ (by decide),AE];simp
theorem sW p k:PG p k=some (On p k) := by
  have Z:k=1∨k=2∨k=3∨k=4∨k=5∨k=6∨k=7∨k=8∨k=9∨k=10∨k=11∨k=12∨(k≠1∧k≠2∧k≠3∧k≠4∧k≠5∧k≠6∧k≠7∧k≠8∧k≠9∧k≠10∧k≠11∧k≠12) := by omega
  have hp:p=0∨p=1∨p=2∨p=3∨p=4∨p=7∨p=12∨(p≠0∧p≠1∧p≠2∧p≠3∧p≠4∧p≠7∧p≠12) := by omega
  unfold PG On Kp
  rcases Z with rfl | rfl | rfl | rfl | rfl | rfl | rfl | rfl | rfl | rfl | rfl | rfl | ⟨I, J, M, O, T, U, V, X, Y, l, q, u⟩
  all_goals first
    | (rcases hp with rfl | rfl | rfl | rfl | rfl | rfl | rfl | ⟨w, A, B, C, E, F, j⟩
       all_goals first | rfl | (simp[w, A, B, C, E, F, j];done))
    | (rcases hp with rfl | rfl | rfl | rfl | rfl | rfl | rfl | ⟨w, A, B, C, E, F, j⟩
       all_goals first
         | (simp[I, J, M, O, T, U, V, X, Y, l, q, u];done)
         | (simp[I, J, M, O, T, U, V, X, Y, l, q, u, w, A, B, C, E, F, j];done))
theorem s7{n:Nat}(h:n<9223372036854775808):IntKind.u64.wrap (n:Int)=(n:Int):=by
 have e:(n:Int) % (2 ^ (64:Nat):Int)=(n:Int):=ze (by omega) (by omega)
 show(if(false&&((n:Int) % (2 ^ (64:Nat):Int) ≥ (2 ^ (63:Nat):Int)))=true then(n:Int) % (2 ^ (64:Nat):Int)-(2 ^ (64:Nat):Int) else(n:Int) % (2 ^ (64:Nat):Int))=_
 rw[e,vg (by simp)]
theorem ka(m:Nat)(h:m<4294967296):IntKind.i64.wrap (Fo .u64 (IntKind.u64.wrap (m:Int)) 1)=((m / 2:Nat):Int):=by
 rw[s7 (by omega)]
 show IntKind.i64.wrap ((m:Int).fdiv (2 ^ (min 1 64)))=_
 rw[show((2:Int) ^ (min 1 64))=2 from rfl,Int.fdiv_eq_ediv_of_nonneg _ (by omega),show(m:Int) / 2=((m / 2:Nat):Int) by omega,Y5 (by omega)]
def Pd(l:List Ak):Prop:=∀a b:Nat,a<b→b<l.length→l[a]!.ID<l[b]!.ID
theorem ZO(n:Ak) id:Nd n id=some (if n.ID<id then -1 else if id<n.ID then 1 else 0):=by
 unfold Nd
 by_cases j:n.ID<id
 ·rw[vh (vj j),vh j]
 ·rw[vg (show ¬ decide (n.ID<id)=true by simpa using j),vg j]
  by_cases l:id<n.ID
  ·rw[vh (vj l),vh l]
  ·rw[vg (show ¬ decide (id<n.ID)=true by simpa using l),vg l]
theorem bV(d:B2) id(T:d.Nodes.length≤1048576)(C:Pd d.Nodes):∃i:Nat,MP d id=some ((i:Int),(F9 d.Nodes id).isSome)∧(∀k,F9 d.Nodes id=some k→i=k):=by
 obtain⟨l⟩:=d
 dsimp only at T C ⊢
 have key:∃r,iter (λ(a:Int × Int)=>Mp l id a.1 a.2) (0,(l.length:Int))=some r ∧
   ∃I:Nat,r=(I:Int)∧I≤l.length∧(∀m,m<I→l[m]!.ID<id)∧∀m,I≤m→m<l.length→¬ l[m]!.ID<id:=by
  refine EL l.length (λk M=>∃I J:Nat,M=((I:Int),(J:Int))∧I≤J∧J≤l.length∧J-I≤l.length-k∧(∀m,m<I→l[m]!.ID<id)∧∀m,J≤m→m<l.length→¬ l[m]!.ID<id) _ ?_ ?_ ⟨0,l.length,rfl,by omega,by omega,by omega,λm h=>absurd h (zU _),λm O E=>absurd E (by omega)⟩
  ·rintro k M hk ⟨I,J,rfl,O,E,U,A,q⟩
   dsimp only
   unfold Mp
   by_cases V:I<J
   ·left
    rw[vh (by rw[vi];omega),show(I:Int)+(J:Int)=((I+J:Nat):Int) by omega,Bz (by omega) (by omega),AE,ka _ (by omega),Aa (by omega),AE,ZO,AE]
    by_cases F:l[(I+J) / 2]!.ID<id
    ·rw[vh F,vh (by decide),Ad (by omega)]
     refine⟨_,rfl,(I+J) / 2+1,J,rfl,by omega,E,by omega,λm X=>?_,q⟩
     by_cases e:m=(I+J) / 2
     ·rw[e];exact F
     ·have:=C m ((I+J) / 2) (by omega) (by omega);omega
    ·rw[vg F,vg (show ¬ decide ((if id<l[(I+J) / 2]!.ID then(1:Int) else 0)<0)=true by split<;>decide)]
     refine⟨_,rfl,I,(I+J) / 2,rfl,by omega,by omega,by omega,A,λm B e2=>?_⟩
     by_cases e:m=(I+J) / 2
     ·rw[e];exact F
     ·have:=C ((I+J) / 2) m (by omega) e2;omega
   ·right
    rw[vg (by rw[vi];omega)]
    exact⟨_,rfl,I,rfl,by omega,A,λm B e2=>q m (by omega) e2⟩
  ·rintro M ⟨I,J,rfl,O,E,U,A,q⟩
   dsimp only
   unfold Mp
   rw[vg (by rw[vi];omega)]
   exact⟨_,rfl,I,rfl,by omega,A,λm B e2=>q m (by omega) e2⟩
 obtain⟨r,Y,I,rfl,hI,A,q⟩:=key
 unfold MP R4
 rw[Y,AE]
 have u:∀k,F9 l id=some k→I=k:=by
  intro k j
  obtain⟨B,e2⟩:=QW j
  have a1:¬ k<I:=λh=>by have:=A k h;omega
  by_cases e:I=k
  ·exact e
  ·have:=C I k (by omega) B
   have:=q I (vu _) (by omega)
   omega
 refine⟨I,?_,u⟩
 by_cases w:I<l.length
 ·rw[vj (show(I:Int)<(l.length:Int) by omega),show((true==true):Bool)=true from rfl,An,Aa w,AE,An,ZO,AE,CB]
  congr 2
  have Z:=q I (vu _) w
  rw[vg Z]
  cases j:F9 l id with
  | some k=>
   obtain⟨B,e2⟩:=QW j
   have:=u k j
   subst this
   rw[vg (by omega)];rfl
  | none=>
   have a0:l[I]!.ID≠id:=by
    intro e
    have:=List.find?_eq_none.1 j I (wU.2 w)
    exact this (vj e)
   rw[vh (by omega)];rfl
 ·rw[vk (show ¬ (I:Int)<(l.length:Int) by omega)]
  show some ((I:Int),false)=_
  cases j:F9 l id with
  | some k=>
   obtain⟨B,e2⟩:=QW j
   have:=u k j
   omega
  | none=>rfl
def OE(d:B2):Prop:=d.Nodes.length≤1048576∧∀n∈d.Nodes,Kg n
theorem rn:HT=ML:=by funext f x o;rfl
theorem ry(n:Ak):TI n=ML n.Flow:=by funext x o;rfl
theorem qV:Si=Hp:=by funext n x o;rfl
theorem sT(n:Ak)(w:List Int)(A:n.Grid.Cells.length≤1048576)(u:w.length≤1048576):∃r,iter (λ(a:Int × (List Int))=>Hp n a.1 a.2) (0,w)=some r∧r.length≤2097152:=by
 refine EL n.Grid.Cells.length (λk l=>l.1=(k:Int)∧l.2.length≤1048576+k) _ ?_ ?_ ⟨rfl,by simpa using u⟩
 ·rintro k ⟨x,out⟩ q ⟨rfl,j⟩
  dsimp only at j ⊢
  left
  unfold Hp
  rw[vh (by simpa using q),Aa q,AE]
  by_cases r:n.Grid.Cells[k]!.Ref=0
  ·rw[vg (CM r),AE,Ad (by omega),AE]
   exact⟨_,rfl,rfl,by dsimp only;omega⟩
  ·rw[vh (Ba r),R5 (by omega),AE,AE,Ad (by omega),AE]
   exact⟨_,rfl,rfl,by dsimp only;rw[List.length_append,List.length_singleton];omega⟩
 ·rintro⟨x,out⟩ ⟨rfl,j⟩
  dsimp only at j ⊢
  unfold Hp
  rw[vg (by simp)]
  exact⟨_,rfl,by omega⟩
theorem nU(n:Ak)(h:Kg n):∃r,J7 n=some r∧Ov n=some r∧r.length≤2097152:=by
 have u:=h.ok.fl
 obtain⟨w,j,A⟩:=nJ n.Flow (by omega)
 obtain⟨r,l,q⟩:=sT n w h.ok.gr.1 (by omega)
 refine⟨r,?_,?_,q⟩
 ·unfold J7 Ny
  rw[rn,j,AE,AE,l];rfl
 ·unfold Ov
  rw[ry,qV,j,AE,l];rfl
theorem uB(d:B2) kind(l:List Int)(w:d.Nodes.length≤1048576)(B:Pd d.Nodes)(J:l.length≤2097152):∃e,Qd d kind l=some e∧QM d kind l=some e:=by
 obtain⟨o,C,E,_⟩:=Wp (ρ:=Int) (f:=λ(a:Int)=>Ls d kind l a) (g:=λ(a:Int)=>Nb d kind l a) (n:=l.length) (λ_=>True) trivial (λk q _=>by
  unfold Ls Nb
  obtain⟨i,F,u⟩:=bV d l[k]! w B
  rw[vh (by simpa using q),vh (by simpa using q),Aa q,AE,AE,F,CB,Ws _ _ w,AE]
  cases A:F9 d.Nodes l[k]! with
  | none=>exact⟨some 7,rfl,rfl,λe=>by cases e⟩
  | some j=>
   obtain⟨I,e2⟩:=QW A
   have:=u j A
   subst this
   dsimp only
   rw[vg (show ¬ ((!Option.isSome (some i))=true) by simp),Aa I,AE,tH,AE,vg (show ¬ decide ((i:Int)<0)=true by simp),AE,sW,AE]
   cases On kind d.Nodes[i]!.Kind with
   | false=>exact⟨some 8,rfl,rfl,λe=>by cases e⟩
   | true=>
    rw[Ad (by omega)]
    exact⟨none,rfl,rfl,λ_=>trivial⟩) (by unfold Ls;rw[vg (by simp)]) (by unfold Nb;rw[vg (by simp)])
 refine⟨o.getD 0,?_,?_⟩
 ·unfold Qd;rw[C,FC]
 ·unfold QM;rw[E,FC]
theorem dB{l:List Ak}(h:∀k,0<k→k<l.length→l[k-1]!.ID<l[k]!.ID):Pd l:=by
 intro a b q u
 induction b with
 | zero=>omega
 | succ b w=>
  have j:=h (b+1) (by omega) u
  rw[Nat.add_sub_cancel] at j
  by_cases e:a=b
  ·rw[e];exact j
  ·have:=w (by omega) (by omega);omega
theorem ui(d:B2)(h:OE d):∃e,Jb d=some e∧Nt d=some e:=by
 obtain⟨E,B⟩:=h
 unfold Jb Nt
 by_cases h0:d.Nodes.length=0
 ·rw[vh (by rw[vi];omega),vh (by rw[vi];omega)];exact⟨_,rfl,rfl⟩
 ·rw[vg (by rw[vi];omega),vg (by rw[vi];omega)]
  obtain⟨o,F,I,J⟩:=Wp (ρ:=Int) (f:=λ(a:Int)=>IY d a) (g:=λ(a:Int)=>MV d a) (n:=d.Nodes.length) (λk=>∀j,0<j→j<k→d.Nodes[j-1]!.ID<d.Nodes[j]!.ID) (λj _ M=>absurd M (zU _)) (λk l O=>by
   unfold IY MV
   obtain⟨e,w,e2⟩:=Wl _ (B _ (BT l))
   rw[vh (by simpa using l),vh (by simpa using l),Aa l,AE,AE,w,e2,AE,AE]
   by_cases q:e=0
   ·rw[vg (CM q),vg (CM q)]
    by_cases T:k=0
    ·subst T
     rw[vj (show((0:Nat):Int)=0 from rfl),show((true==true):Bool)=true from rfl,An,show(0:Int)=((0:Nat):Int) from rfl,Aa l,AE,vk (show ¬ ((0:Nat):Int)<((0:Nat):Int) by omega)]
     by_cases Ca:d.Nodes[0]!.ID=1
     ·refine⟨none,?_,?_,λ_ j C U=>by omega⟩
      ·rw[vj Ca];rfl
      ·rw[vj Ca];rfl
     ·refine⟨some 5,?_,?_,λe=>by cases e⟩
      ·rw[vk Ca];rfl
      ·rw[vk Ca];rfl
    ·have V:0<k:=by omega
     rw[vk (show ¬ ((k:Int)=0) by omega),vj (show(0:Int)<(k:Int) by omega),show((false==true):Bool)=false from rfl,Fa,AE]
     show ∃o:Option Int,(AB (gd true (AN .i64 ((k:Int)-1))) λ(A:Int)=>AB (gd true (AM d.Nodes A)) λ(u:Ak)=>_)=_∧(AB (gd true (AN .i64 ((k:Int)-1))) λ(u:Int)=>AB (gd true (AM d.Nodes u)) λ(X:Ak)=>_)=_∧_
     rw[An,FH V (by omega),AE,AE,An,Aa (show k-1<d.Nodes.length by omega),AE,AE,Ad (by omega)]
     by_cases Ca:d.Nodes[k]!.ID≤d.Nodes[k-1]!.ID
     ·rw[vj Ca]
      exact⟨some 5,rfl,rfl,λe=>by cases e⟩
     ·rw[vk Ca]
      refine⟨none,rfl,rfl,λ_ j C U=>?_⟩
      by_cases e:j=k
      ·rw[e];omega
      ·exact O j C (by omega)
   ·rw[vh (Ba q),vh (Ba q)]
    exact⟨some e,rfl,rfl,λe=>by cases e⟩) (by unfold IY;rw[vg (by simp)]) (by unfold MV;rw[vg (by simp)])
  rw[F,I]
  cases o with
  | some e=>exact⟨e,rfl,rfl⟩
  | none=>
   have Y:=dB (J rfl)
   show ∃e,(At (iter (λ(a:Int)=>LR d a) 0) λ(Z:Unit)=>some 0)=some e∧(At (iter (λ(a:Int)=>Kh d a) 0) λ(Z:Unit)=>some 0)=some e
   obtain⟨o,w,e2,_⟩:=Wp (ρ:=Int) (f:=λ(a:Int)=>LR d a) (g:=λ(a:Int)=>Kh d a) (n:=d.Nodes.length) (λ_=>True) trivial (λk l _=>by
    unfold LR Kh
    obtain⟨r,r1,r2,r3⟩:=nU _ (B _ (BT l))
    obtain⟨e,c1,c2⟩:=uB d d.Nodes[k]!.Kind r E Y r3
    rw[vh (by simpa using l),vh (by simpa using l),Aa l,AE,AE,r1,r2,AE,AE,c1,c2,AE]
    by_cases q:e=0
    ·rw[vg (CM q),Ad (by omega)]
     exact⟨none,rfl,rfl,λ_=>trivial⟩
    ·rw[vh (Ba q)]
     exact⟨some e,rfl,rfl,λ_=>trivial⟩) (by unfold LR;rw[vg (by simp)]) (by unfold Kh;rw[vg (by simp)])
   exact⟨o.getD 0,by rw[w,FC],by rw[e2,FC]⟩
theorem nq{μ:Ak→Nat}{γ:BX→Nat}{ψ:Av→Nat}{ρ:As→Nat}{δ:BQ→Nat}{ν:AD→Nat}{κ:AC→Nat}
  (q:∀n,(n.Attrs.map κ).sum+(n.Flow.map ν).sum+γ n.Grid+(n.Draw.map δ).sum+1≤μ n) (hg:∀g,(g.Cells.map ψ).sum+(g.Merges.map ρ).sum+1≤γ g)
  (hc:∀c,c.Text.length+(c.Attrs.map κ).sum+1≤ψ c) (A:∀r,1≤ρ r) (hd:∀o,o.Place.length+o.Name.length+o.Value.length+1≤δ o) (B:∀e,(e.Attrs.map κ).sum+1≤ν e) (C:∀a,a.Name.length+a.Value.length+1≤κ a)
  {d:B2} (E:(d.Nodes.map μ).sum≤1048576):OE d:=by
 have u:=iS q hg (λc=>by have:=hc c;omega) A (λo=>by have:=hd o;omega) B C E
 refine⟨u.1,λn l=>⟨u.2 n l,λc j=>⟨(u.2 n l).gr.2.2 c j,?_⟩,λo w=>?_⟩⟩
 ·have F:=HB (μ:=μ) l
  have I:=q n
  have M:=hg n.Grid
  have J:=HB (μ:=ψ) j
  have:=hc c
  omega
 ·have F:=HB (μ:=μ) l
  have I:=q n
  have J:=HB (μ:=δ) w
  have:=hd o
  exact⟨by omega,by omega,by omega⟩
theorem MN{α β:Type}{o:Option α}{f:α→Option β}{r:β}(h:AB o f=some r):∃a,o=some a∧f a=some r:=by
 cases o with
 | none=>cases h
 | some a=>exact⟨a,rfl,h⟩
theorem oV{n:Ak}(h:Kg n)(j:FM n=some 0)(A:Hn n.Kind=some true):Ji n.Flow=0:=by
 have l:∀x∈n.Flow,EG x:=λx q=>⟨by have:=(h.ok.fa x q).1;omega,(h.ok.fa x q).2⟩
 have B:=h.ok.fl
 unfold FM at j
 split at j
 ·cases j
 split at j
 ·cases j
 obtain⟨e,_,j⟩:=MN j
 split at j
 ·rename_i c;injection j with j;rw[j] at c;simp at c
 obtain⟨E,u,j⟩:=MN j
 rw[A] at u
 cases u
 obtain⟨C,_,j⟩:=MN j
 obtain⟨g,_,j⟩:=MN j
 obtain⟨F,_,j⟩:=MN j
 split at j
 ·cases j
 rw[vh (show(true||C)=true from rfl)] at j
 obtain⟨I,w,j⟩:=MN j
 injection j with j
 rw[YY _ l (by omega),j] at w
 injection w
theorem Yj{d:B2}(h:OE d)(l:Jb d=some 0):Pd d.Nodes∧∀k,k<d.Nodes.length→FM d.Nodes[k]! = some 0:=by
 obtain⟨T,F⟩:=h
 unfold Jb at l
 split at l
 ·cases l
 let g:Nat→Option Int:=λk=>if(FM d.Nodes[k]!).getD 0≠0 then some ((FM d.Nodes[k]!).getD 0) else if(k=0∧d.Nodes[k]!.ID≠1)∨(0<k∧d.Nodes[k]!.ID≤d.Nodes[k-1]!.ID) then some 5 else none
 have hit:iter (λ(a:Int)=>IY d a) 0=some (Fk ((List.range d.Nodes.length).findSome? g)):=by
  refine Cb g (λk j=>?_) (by unfold IY;rw[vg (by simp)])
  unfold IY
  obtain⟨e,A,_⟩:=Wl _ (F _ (BT j))
  show _=Cg k (g k)
  simp only[g]
  rw[vh (by simpa using j),Aa j,AE,A,AE]
  show _=Cg k (if e≠0 then some e else _)
  by_cases u:e=0
  ·rw[vg (CM u),vg (by simpa using u)]
   by_cases B:k=0
   ·subst B
    rw[vj (show((0:Nat):Int)=0 from rfl),vk (show ¬ (0:Int)<((0:Nat):Int) by omega)]
    by_cases Ca:d.Nodes[0]!.ID=1
    ·rw[vj Ca,vg (show ¬ ((0=0∧d.Nodes[0]!.ID≠1)∨(0<0∧d.Nodes[0]!.ID≤d.Nodes[0-1]!.ID)) by rintro(⟨_,b⟩ | ⟨a,_⟩);exact b Ca;omega)]
     rfl
    ·rw[vk Ca,vh (show((0=0∧d.Nodes[0]!.ID≠1)∨(0<0∧d.Nodes[0]!.ID≤d.Nodes[0-1]!.ID)) from .inl ⟨rfl,Ca⟩)]
     rfl
   ·have I:0<k:=by omega
    rw[vk (show ¬ ((k:Int)=0) by omega),vj (show(0:Int)<(k:Int) by omega)]
    show(AB (gd true (AN .i64 ((k:Int)-1))) λ(C:Int)=>AB (gd true (AM d.Nodes C)) λ(J:Ak)=>_)=_
    rw[An,FH I (by omega),AE,An,Aa (show k-1<d.Nodes.length by omega),AE,Ad (by omega)]
    by_cases Ca:d.Nodes[k]!.ID≤d.Nodes[k-1]!.ID
    ·rw[vj Ca,vh (show((k=0∧d.Nodes[k]!.ID≠1)∨(0<k∧d.Nodes[k]!.ID≤d.Nodes[k-1]!.ID)) from .inr ⟨I,Ca⟩)]
     rfl
    ·rw[vk Ca,vg (show ¬ ((k=0∧d.Nodes[k]!.ID≠1)∨(0<k∧d.Nodes[k]!.ID≤d.Nodes[k-1]!.ID)) by rintro(⟨a,_⟩ | ⟨_,b⟩);exact B a;exact Ca b)]
     rfl
  ·rw[vh (Ba u),vh u]
   rfl
 rw[hit] at l
 cases w:(List.range d.Nodes.length).findSome? g with
 | some e=>
  rw[w] at l
  have l:(some e:Option Int)=some 0:=l
  injection l with l
  obtain⟨k,_,j⟩:=xE w
  simp only[g] at j
  split at j
  ·rename_i E;injection j with j;exact absurd (j.trans l) E
  ·split at j
   ·injection j with j;omega
   ·cases j
 | none=>
  rw[wx] at w
  have j:∀k,k<d.Nodes.length→(FM d.Nodes[k]!).getD 0=0∧¬ ((k=0∧d.Nodes[k]!.ID≠1)∨(0<k∧d.Nodes[k]!.ID≤d.Nodes[k-1]!.ID)):=by
   intro k j
   have:=w k (wU.2 j)
   simp only[g] at this
   split at this
   ·cases this
   ·rename_i M
    split at this
    ·cases this
    ·rename_i O;exact⟨by simpa using M,O⟩
  refine⟨dB λk B q=>?_,λk q=>?_⟩
  ·have:=(j k q).2
   have U:¬ (0<k∧d.Nodes[k]!.ID≤d.Nodes[k-1]!.ID):=λe=>this (.inr e)
   omega
  ·obtain⟨e,A,_⟩:=Wl _ (F _ (BT q))
   have:=(j k q).1
   rw[A] at this ⊢
   exact yC some this
theorem nD{d:B2} id(j:d.Nodes.length≤1048576)(l:Pd d.Nodes):Pz d id=some (match F9 d.Nodes id with | some k=>(k:Int) | none=>-1):=by
 unfold Pz
 obtain⟨i,q,u⟩:=bV d id j l
 rw[q,CB]
 cases w:F9 d.Nodes id with
 | none=>rfl
 | some k=>rw[u k w];rfl
def X7:Cu:=Cu.mk (Ak.mk 0 0 [] [] (BX.mk 0 0 [] []) []) [] []
theorem ml(d:B2)(s:BW)(j:List UInt8)(h:OE d)(V:j.length≤1073741824) :
  (∃e,e≠0∧NL d s j=some (X7,e)∧Ms d s=some e) ∨
  (∃k,k<d.Nodes.length∧F9 d.Nodes s.Node=some k∧d.Nodes[k]!.ID=s.Node∧Kg d.Nodes[k]!∧Hn d.Nodes[k]!.Kind=some true∧Ji d.Nodes[k]!.Flow=0∧0≤s.From∧s.From≤s.To∧s.To<((shown d.Nodes[k]!.Flow 0 d.Nodes[k]!.Flow.length).length:Int) ∧
   Jb d=some 0∧Ms d s=some 0∧NL d s j=some (if j≠[]∧Di j=false then(X7,23) else(Cu.mk d.Nodes[k]! (shown d.Nodes[k]!.Flow 0 d.Nodes[k]!.Flow.length) j,0))):=by
 obtain⟨e,J,O⟩:=ui d h
 have M:=h.1
 unfold NL Ms
 rw[J,O,AE,AE]
 by_cases E:e=0
 ·subst E
  obtain⟨T,w⟩:=Yj h J
  rw[vg (by decide),vg (by decide),nD s.Node M T,Ws d s.Node M,AE,AE]
  cases U:F9 d.Nodes s.Node with
  | none=>exact .inl ⟨7,by decide,rfl,rfl⟩
  | some k=>
   obtain⟨F,Ca⟩:=QW U
   dsimp only
   have A:=h.2 _ (BT F)
   have B:∀x∈d.Nodes[k]!.Flow,EG x:=λx u=>⟨by have:=(A.ok.fa x u).1;omega,(A.ok.fa x u).2⟩
   have C:=A.ok.fl
   rw[vg (by simp),vg (by simp),Aa F,AE,AE,Yb]
   obtain⟨t,I⟩:∃t,Hn d.Nodes[k]!.Kind=some t:=⟨_,rfl⟩
   rw[I,AE,AE]
   cases t with
   | false=>exact .inl ⟨8,by decide,rfl,rfl⟩
   | true=>
    have l:=oV A (w k F) I
    have hp:EJ d.Nodes[k]!.Flow=0:=by
     unfold Ji at l
     split at l
     ·rename_i u;exact absurd l u
     ·rename_i u;simpa using u
    rw[vg (by decide),vg (by decide),tI _ 0 B C,fF _ 0 B hp C,AE,AE]
    by_cases X:s.From<0∨s.To<s.From∨((shown d.Nodes[k]!.Flow 0 d.Nodes[k]!.Flow.length).length:Int)≤s.To
    ·refine .inl ⟨2,by decide,?_,?_⟩
     ·rw[vh (by simp only[vt,vi];omega)];rfl
     ·rw[vh (by simp only[vt,vi];omega)]
    ·refine .inr ⟨k,F,rfl,Ca,A,I,l,by omega,by omega,by omega,rfl,?_,?_⟩
     ·rw[vg (by simp only[vt,vi];omega)]
     ·rw[vg (by simp only[vt,vi];omega)]
      by_cases q:j=[]
      ·subst q
       rw[vg (show ¬ (([]:List UInt8)≠[]∧Di []=false) by simp)]
       rfl
      ·rw[vk q]
       show(AB (gd true (JS j)) λ(Y:Bool)=>_)=_
       rw[An,V6 _ (by omega),AE]
       cases Z:Di j with
       | false=>rw[vh (show j≠[]∧false=false from⟨q,rfl⟩)];rfl
       | true=>rw[vg (show ¬ (j≠[]∧true=false) by simp)];rfl
 ·rw[vh (Ba E),vh (Ba E)]
  exact .inl ⟨e,E,rfl,rfl⟩
def D8(s:AI):Int:=if(s.Kind=1∧s.Elems=[]∧Cs s=11)∨(s.Kind≠1∧s.N=0∧Cs s=2) then BC s.Attrs true else Cs s
def Vl(s:AI):Prop:=(s.Kind=0∧s.Elems=[]∧0≤s.N∧s.N≤2147483647∧BC s.Attrs true=0)∨(s.Kind=2∧s.Elems=[]∧s.Attrs=[]∧0≤s.N∧s.N≤2147483647) ∨
  (s.Kind=1∧s.N=0∧s.Attrs=[]∧EJ s.Elems=0)
theorem cH{s:AI}(h:D8 s=0):Vl s:=by
 unfold D8 at h
 split at h
 ·rename_i C
  rcases C with ⟨q,A,j⟩ | ⟨q,A,j⟩
  ·unfold Cs at j
   rw[vh q] at j
   by_cases l:s.N≠0∨s.Attrs≠[]
   ·rw[vh l] at j;cases j
   ·refine .inr (.inr ⟨q,wM λh=>l (.inl h),wM λh=>l (.inr h),by rw[A];rfl⟩)
  ·unfold Cs at j
   rw[vg q] at j
   by_cases u:s.Kind=0∨s.Kind=2
   ·rw[vh u] at j
    by_cases l:s.Elems≠[]∨(s.Kind=2∧s.Attrs≠[])
    ·rw[vh l] at j;cases j
    ·have B:s.Elems=[]:=wM λh=>l (.inl h)
     rcases u with k | k
     ·exact .inl ⟨k,B,by omega,by omega,h⟩
     ·exact .inr (.inl ⟨k,B,wM λh=>l (.inr ⟨k,h⟩),by omega,by omega⟩)
   ·rw[vg u] at j;cases j
 ·rcases (Pu h).kind with ⟨k,e,E,w,a⟩ | ⟨k,e,a,E,w⟩ | ⟨k,n,a,_,p⟩
  ·exact .inl ⟨k,e,by omega,w,a⟩
  ·exact .inr (.inl ⟨k,e,a,by omega,w⟩)
  ·exact .inr (.inr ⟨k,n,a,p⟩)
theorem ep{s:AI}(h:Vl s)(q:H6 s):∀u∈BG s,DT u:=by
 intro u l
 unfold BG at l
 rcases h with ⟨k,e,E,F,w⟩ | ⟨k,e,w,E,F⟩ | ⟨k,n,_,p⟩
 ·rw[vg (by omega),vk (by omega)] at l
  have:=xK l
  subst this
  exact⟨λ_=>w,q.at_⟩
 ·rw[vg (by omega),vj k] at l
  have:=xK l
  subst this
  exact⟨λh=>(by cases h),q.at_⟩
 ·rw[vh k] at l
  obtain⟨e,A,rfl⟩:=wu.1 l
  obtain⟨j,B,rfl⟩:=ww.1 A
  have C:=Nf p B
  rw[vr s.Elems j B] at C
  exact⟨C,q.ea _ A⟩
theorem eG{s:AI}(h:Vl s):(Ao (BG s):Int)=s.N∧BL (BG s)=s.Elems.length∧0≤s.N∧s.N≤2147483647:=by
 have w:∀l:List AD,Ao (l.map Un.a)=0∧BL (l.map Un.a)=l.length:=by
  intro l
  induction l with
  | nil=>exact⟨rfl,rfl⟩
  | cons x l j=>unfold Ao BL at j ⊢;rw[wB,xF,xF,j.1,j.2];exact⟨rfl,rfl⟩
 have e2:∀(n:Nat) (c:Bool) (t:List AC),Ao (List.replicate n (Un.r c t))=n∧BL (List.replicate n (Un.r c t))=0:=by
  intro n c t
  induction n with
  | zero=>exact⟨rfl,rfl⟩
  | succ n j=>unfold Ao BL at j ⊢;rw[wP,xF,xF,j.1,j.2];exact⟨rfl,rfl⟩
 unfold BG
 rcases h with ⟨k,e,q,u,A⟩ | ⟨k,e,A,q,u⟩ | ⟨k,n,_,p⟩
 ·rw[vg (by omega),(e2 _ _ _).1,(e2 _ _ _).2,e];refine⟨by omega,rfl,q,u⟩
 ·rw[vg (by omega),(e2 _ _ _).1,(e2 _ _ _).2,e];refine⟨by omega,rfl,q,u⟩
 ·rw[vh k,(w _).1,(w _).2,n];exact⟨rfl,rfl,by decide,by decide⟩
def Ki:List AI→List Un→List AI × Int
 | [],X=>if CY (BN X)≠0 then([],3) else(BN X,0)
 | s::d,X=>if D8 s≠0 then([],D8 s) else if s.Kind=2∧2147483647<((Aq X).cuts:Int)+s.N then([],3) else Ki d (X++BG s)
def LE:List AI→List Un→Au Af (List AI × Int)
 | [],X=>.nrm (Ce (Aq X))
 | s::d,X=>if D8 s≠0 then .ext ([],D8 s) else if s.Kind=2∧2147483647<((Aq X).cuts:Int)+s.N then .ext ([],3) else LE d (X++BG s)
theorem bY(s:AI) d X:LE (s::d) X=if D8 s≠0 then .ext ([],D8 s) else if s.Kind=2∧2147483647<((Aq X).cuts:Int)+s.N then .ext ([],3) else LE d (X++BG s):=rfl
theorem Sy(s:AI) d X:Ki (s::d) X=if D8 s≠0 then([],D8 s) else if s.Kind=2∧2147483647<((Aq X).cuts:Int)+s.N then([],3) else Ki d (X++BG s):=rfl
structure IT(d:List AI)(k:Nat)(X:List Un):Prop where
 ok:∀u∈X,DT u
 out:(Aq X).out.length≤3 * k
 cut:(Aq X).cuts≤2147483647
 rows:Ao X≤2147483647 * k
 adds:BL X+((d.drop k).map λs=>s.Elems.length).sum=(d.map λs=>s.Elems.length).sum
theorem Tz(s:DS):(BJ s).length≤s.out.length+2:=by
 unfold BJ
 split<;>split<;>simp
theorem Wu(l:List AI) t n:(DO l t n).length≤l.length+1:=by
 unfold DO
 split<;>simp
theorem YJ a b:BL (a++b)=BL a+BL b:=List.countP_append
theorem jZ{X}(h:∀u∈X,DT u):(Aq X).adds.length≤BL X:=(JO h).al
theorem ga(s:AI)(e:Int):((((s.Kind=1)&&((s.Elems.length:Int)=0))&&(e=11))||(((!(s.Kind=1))&&(s.N=0))&&(e=2)))=true ↔
  ((s.Kind=1∧s.Elems=[]∧e=11)∨(s.Kind≠1∧s.N=0∧e=2)):=by
 rw[U5]
 simp only[vt,vm,wl,vi,xR,ne_eq,and_assoc]
theorem kc(d:List AI)(ho:Ey d)(U:GD d):iter (λ(a:Int × Af)=>FX d a.1 a.2) (0,(Af.mk [] [] 0))=some (LE d []):=by
 have hm:=U.len
 have a0:=U.sum
 refine mB d (λX k=>((k:Int),Ce (Aq X))) LE (IT d) ?_ ?_ [] ⟨by simp,by simp[Aq,D0],by simp[Aq,D0],by simp[Ao],by simp[BL]⟩ _ rfl
 ·rintro k X B A
  have j:=ho.st _ (BT B)
  have I:=A.ok
  have h2:=A.out
  have h3:=A.cut
  have h4:=A.rows
  have V:=A.adds
  have h6:=jZ I
  have h7:=U.at_ _ (BT B)
  rw[Hd B,wB,wv] at V
  show(∃w,FX d (k:Int) _=_∧_)∨FX d (k:Int) _=_
  unfold FX
  rw[vh (by simpa using B),Aa B,AE,UR _ j,AE]
  rw[bY]
  generalize d[k]! = s at j V h7
  have C:(if((((s.Kind=1)&&((s.Elems.length:Int)=0))&&(Cs s=11))||(((!(s.Kind=1))&&(s.N=0))&&(Cs s=2))) then(AB (KX s.Attrs) λ(e3:Int)=>some e3) else(some (Cs s)))=some (D8 s):=by
   unfold D8
   by_cases J:((s.Kind=1∧s.Elems=[]∧Cs s=11)∨(s.Kind≠1∧s.N=0∧Cs s=2))
   ·rw[vh ((ga s _).2 J),vh J,gW _ j.at_.2 (by have:=j.at_.1;omega),AE]
   ·rw[vg (λh=>J ((ga s _).1 h)),vg J]
  rw[C,AE]
  by_cases E:D8 s=0
  ·have Y:=cH E
   have hU:=ep Y j
   obtain⟨c1,c2,M,c4⟩:=eG Y
   rw[vg (CM E),vg (show ¬ (D8 s≠0) by simpa using E)]
   have l:∀w,w=X++BG s→(Aq w).out.length≤(Aq X).out.length+3→(Aq w).cuts≤2147483647→IT d (k+1) w:=by
    rintro w rfl h8 h9
    refine⟨λu Z=>?_,by omega,h9,?_,?_⟩
    ·rcases wX.1 Z with h | h
     ·exact I u h
     ·exact hU u h
    ·rw[GH];omega
    ·rw[YJ,c2,← V];omega
   have hX:∀u∈X++BG s,DT u:=λu Z=>by
    rcases wX.1 Z with h | h
    ·exact I u h
    ·exact hU u h
   have q:BG s=if s.Kind=1 then s.Elems.map Un.a else List.replicate s.N.toNat (.r (decide (s.Kind=2)) s.Attrs):=rfl
   by_cases O:s.Kind=0
   ·rw[vh (by rw[vi];exact O),vg (show ¬ (s.Kind=2∧2147483647<((Aq X).cuts:Int)+s.N) by rintro⟨h,_⟩;omega)]
    rw[vg (by omega),vk (by omega)] at q
    rw[Y0 (JO I) (by omega) (by omega) s.N s.Attrs M (by omega) (by omega),AE,Gs,Ad (by omega),AE,Ka _ _ _ M,← q]
    refine .inl ⟨_,rfl,l _ rfl ?_ ?_,rfl⟩
    ·rw[q,← Ka _ _ _ M];unfold ES
     have:=Tz (Aq X)
     have:=Wu (BJ (Aq X)) s.Attrs s.N
     split
     ·omega
     ·dsimp only;omega
    ·rw[q,← Ka _ _ _ M];unfold ES
     split
     ·exact h3
     ·simp
   ·by_cases F:s.Kind=1
    ·rw[vg (by rw[vi];exact O),vh (by rw[vi];exact F),vg (show ¬ (s.Kind=2∧2147483647<((Aq X).cuts:Int)+s.N) by rintro⟨h,_⟩;omega)]
     rw[vh F] at q
     rw[bJ _ _ (by have:=j.el;omega) j.ea (by omega),AE,Gs,Ad (by omega),AE,L5,← q]
     refine .inl ⟨_,rfl,l _ rfl ?_ ?_,rfl⟩
     ·rw[q,← L5];dsimp only;omega
     ·rw[q,← L5];exact h3
    ·have k2:s.Kind=2:=by
      rcases Y with h | h | h
      ·exact absurd h.1 O
      ·exact h.1
      ·exact absurd h.1 F
     rw[vg (by rw[vi];exact O),vg (by rw[vi];exact F)]
     rw[vg F,vj k2] at q
     show(∃w,At (AB (AN .i64 (((Aq X).cuts:Int)+s.N)) _) _=_∧_)∨At (AB (AN .i64 (((Aq X).cuts:Int)+s.N)) _) _=_
     rw[Bz (by omega) (by omega),AE]
     by_cases T:2147483647<((Aq X).cuts:Int)+s.N
     ·rw[vh (by rw[vi];exact T),vh ⟨k2,T⟩];exact .inr rfl
     ·rw[vg (by rw[vi];exact T),vg (λh=>T h.2),Gs,Ad (by omega),AE]
      have e:=Tc X s.N.toNat s.Attrs
      rw[← q] at e
      refine .inl ⟨_,?_,l _ rfl ?_ ?_,rfl⟩
      ·rw[← e]
       unfold Ce
       dsimp only
       rw[show(((Aq X).cuts+s.N.toNat:Nat):Int)=((Aq X).cuts:Int)+s.N by omega]
      ·rw[← e];dsimp only;omega
      ·rw[← e];dsimp only;omega
  ·rw[vh (Ba E),vh E];exact .inr rfl
 ·rintro X A
  show FX d (d.length:Int) _=_
  unfold FX
  rw[vg (by simp)];rfl
theorem uH(d:List AI)(Z:Ey d)(O:GD d):∀(e:List AI) (k:Nat) (X:List Un),k+e.length=d.length→d.drop k=e→IT d k X →
  (At (some (LE e X)) λ(w4:Af)=>HH (IJ w4) λ(r1:List AI) (r2:Int) (_:Af)=>some (r1,r2))=some (Ki e X):=by
 have hm:=O.len
 have T:=O.sum
 intro e
 induction e with
 | nil=>
  intro k X E _ j
  have h2:=j.out
  have F:=j.adds
  simp only[yO] at E
  unfold LE Ki
  rw[Gs,Qn j.ok (by omega) (by omega)]
  split<;>rfl
 | cons s e ih=>
  intro k X E hd j
  simp only[v6] at E
  have l:k<d.length:=by omega
  rw[Hd l] at hd
  injection hd with w I
  rw[bY,Sy]
  by_cases A:D8 s=0
  ·rw[vg (show ¬ (D8 s≠0) by simpa using A),vg (show ¬ (D8 s≠0) by simpa using A)]
   by_cases B:s.Kind=2∧2147483647<((Aq X).cuts:Int)+s.N
   ·rw[vh B,vh B];rfl
   ·rw[vg B,vg B]
    refine ih (k+1) _ (by omega) I ?_
    have C:=Z.st _ (BT l)
    rw[w] at C
    have U:=cH A
    have hU:=ep U C
    obtain⟨c1,c2,c3,c4⟩:=eG U
    have h1:=j.ok
    have h2:=j.out
    have V:=j.cut
    have h4:=j.rows
    have F:=j.adds
    rw[Hd l,wB,wv,w] at F
    have q:BG s=if s.Kind=1 then s.Elems.map Un.a else List.replicate s.N.toNat (.r (decide (s.Kind=2)) s.Attrs):=rfl
    have J:(Aq (X++BG s)).out.length≤(Aq X).out.length+3∧(Aq (X++BG s)).cuts≤2147483647:=by
     by_cases Y:s.Kind=1
     ·rw[vh Y] at q
      rw[q,← L5];exact⟨by dsimp only;omega,V⟩
     ·rw[vg Y] at q
      by_cases M:s.Kind=2
      ·rw[vj M] at q
       rw[q,← Tc]
       have:¬ 2147483647<((Aq X).cuts:Int)+s.N:=λh=>B ⟨M,h⟩
       refine⟨by dsimp only;omega,by dsimp only;omega⟩
      ·rw[vk M] at q
       rw[q,← Ka _ _ _ c3];unfold ES
       have:=Tz (Aq X)
       have:=Wu (BJ (Aq X)) s.Attrs s.N
       split
       ·exact⟨by omega,V⟩
       ·exact⟨by dsimp only;omega,by simp⟩
    refine⟨λu hu=>?_,by omega,J.2,?_,?_⟩
    ·rcases wX.1 hu with h | h
     ·exact h1 u h
     ·exact hU u h
    ·rw[GH];omega
    ·rw[YJ,c2,← F];omega
  ·rw[vh A,vh A];rfl
theorem rM d:IT d 0 []:=⟨by simp,by simp[Aq,D0],by simp[Aq,D0],by simp[Ao],by simp[BL]⟩
theorem pY(d:List AI)(j:Ey d)(l:GD d):Ir d=some (Ki d []):=by
 unfold Ir
 rw[kc d j l]
 exact uH d j l d 0 [] (by simp) rfl (rM d)
theorem jg(us:List Un):BL us+Ao us=us.length:=by
 induction us with
 | nil=>rfl
 | cons u us l=>
  have j:BL (u::us)=(if u.isR then 0 else 1)+BL us:=by unfold BL;rw[xF];cases u.isR<;>simp<;>omega
  have e2:Ao (u::us)=(if u.isR then 1 else 0)+Ao us:=by unfold Ao;rw[xF];omega
  rw[j,e2,v6]
  cases u.isR<;>simp<;>omega
theorem NS a b:Ag (a++b)=Ag a++Ag b:=by simp[Ag]
theorem dW(n:Int) t:BG ⟨0,n,t,[]⟩=List.replicate n.toNat (.r false t):=rfl
theorem jn(n:Int):BG ⟨2,n,[],[]⟩=List.replicate n.toNat (.r true []):=rfl
theorem Wf{l:List AI} t(u:∀x∈l,0≤x.N):Ag (Gq l t)=Ag l++[.r false t]∧∀x∈Gq l t,0≤x.N:=by
 have j:Ag (l++[⟨0,1,t,[]⟩])=Ag l++[.r false t]∧∀x∈l++[(⟨0,1,t,[]⟩:AI)],0≤x.N:=by
  refine⟨by rw[NS];rfl,λx w=>?_⟩
  rcases wX.1 w with h | h
  ·exact u x h
  ·have:x=⟨0,1,t,[]⟩:=by simpa using h
   subst this;show(0:Int)≤1;decide
 unfold Gq
 split
 ·rename_i h
  obtain⟨B,q,A⟩:=h
  obtain⟨p,s,rfl⟩:∃p s,l=p++[s]:=⟨l.take (l.length-1),l[l.length-1]!,by
   rw[← Fi (by omega),show l.length-1+1=l.length by omega,xf]⟩
  have e:(p++[s]).length-1=p.length:=by simp
  rw[e,Qv] at q A ⊢
  rw[yi _ _ (by omega),zV,ye]
  have C:=u s (by simp)
  refine⟨?_,λx w=>?_⟩
  ·rw[NS,NS,vy]
   congr 1
   show BG _++[]=(BG s++[])++_
   rw[wG,wG]
   unfold BG
   rw[vg (by rw[q];decide),vg (by rw[q];decide),q,A]
   dsimp only
   rw[show(s.N+1).toNat=s.N.toNat+1 by omega,yr]
   rfl
  ·rcases wX.1 w with h | h
   ·exact u x (xz _ h)
   ·have:x=⟨s.Kind,s.N+1,s.Attrs,s.Elems⟩:=by simpa using h
    subst this
    show 0≤s.N+1
    omega
 ·exact j
theorem YL{s:DS}(h:s.adds=[]):Ag (BJ s)=Ag s.out++List.replicate s.cuts (.r true []):=by
 unfold BJ
 rw[h,vg (by simp),NS]
 congr 1
 split
 ·show BG _++[]=_
  rw[wG,jn];rfl
 ·rw[show s.cuts=0 by omega];rfl
theorem WK:∀(us:List Un) (s:DS),s.adds=[]→(∀x∈s.out,0≤x.N)→(∀u∈us,IO u)→Ag (BJ (us.foldl dU s))=Ag (BJ s)++us
 | [],_,_,_,_=>by simp
 | .a e::us,s,_,_,j=>(j (.a e) (vn ..)).elim
 | .r true t::us,s,l,q,j=>by
  have B:=(j _ (vn ..)).2.1 rfl
  subst B
  rw[wT,WK us _ (by exact l) (by exact q) λv w=>j v (vp _ w),YL l]
  show Ag (BJ ⟨s.out,s.adds,s.cuts+1⟩)++us=_
  rw[YL (by exact l)]
  dsimp only
  rw[yr,vy,vy,vy]
  rfl
 | .r false t::us,s,l,q,j=>by
  have C:∀x∈BJ s,0≤x.N:=by
   intro x A
   unfold BJ at A
   rw[l,vg (by simp)] at A
   rcases wX.1 A with h | h
   ·exact q x h
   ·split at h
    ·have:x=⟨2,s.cuts,[],[]⟩:=by simpa using h
     subst this
     show(0:Int)≤s.cuts
     omega
    ·simp at h
  obtain⟨E,F⟩:=Wf t C
  rw[wT,WK us _ rfl (by exact F) λv w=>j v (vp _ w)]
  show Ag (BJ ⟨Gq (BJ s) t,[],0⟩)++us=_
  rw[TE,E,vy]
  rfl
theorem pX{us}(h:∀u∈us,IO u):Ag (BN us)=us:=by
 have:=WK us ⟨[],[],0⟩ rfl (by simp) h
 exact this
theorem ix{a}(l:BC a false=0):Hu a []=a:=by
 obtain⟨j,q,v1⟩:=F8 l
 obtain⟨u,w⟩:=Tq Vw UI j (List.Pairwise.nil) q (λ_ h=>by cases h)
 exact SV u j λn=>by show Ar (Bo FA a [] []) n=_;rw[w];rfl
theorem o0{x:AD}(h:BC x.Attrs false=0):Cw [] x=x:=by unfold Cw;rw[ix h]
def Be(f:List AD):List Nat:=(List.range f.length).filter (Bi f 0)
theorem V9(f:List AD):shown f 0 f.length=(Be f).map λ(i:Nat)=>(i:Int):=rfl
theorem Te{f:List AD}{k}(j:k<(Be f).length):(Be f)[k]!<f.length:=by
 rw[vr _ k j]
 exact wU.1 (yd.1 (xr j)).1
theorem sU f:(Be f).Pairwise (· < ·):=List.Pairwise.filter _ List.pairwise_lt_range
theorem nE{f}{j k}(q:j<(Be f).length)(u:k<(Be f).length)(h:(Be f)[j]! = (Be f)[k]!):j=k:=by
 rw[vr _ j q,vr _ k u] at h
 have w:=List.pairwise_iff_getElem.1 (sU f)
 rcases Nat.lt_trichotomy j k with l | l | l
 ·have:=w j k q u l;omega
 ·exact l
 ·have:=w k j u q l;omega
theorem M0(f:List AD):(Be f).length≤f.length:=by
 unfold Be
 exact wq (yh _ _) (by simp)
theorem PD{f:List AD}{k}(j:k<(Be f).length):AM (shown f 0 f.length) (k:Int)=some (((Be f)[k]!:Nat):Int):=by
 rw[V9,Aa (by simpa using j),vr ((Be f).map λ(i:Nat)=>(i:Int)) k (by simpa using j),vr _ k j,zL]
def eE(n f t:Int):Prop:=n<0∨2147483647<n∨f<0∨t<f∨n<t
instance (n f t:Int):Decidable (eE n f t):=by unfold eE;infer_instance
theorem uZ{n:Nat}(h:n≤4294967296){z:Bool} : mk 1 (n:Int) z=some (List.replicate n z):=by
 unfold mk
 rw[vh (by omega),wd]
def JX:List UInt8:=[114,101,109,97,114,107,46]
def Jp:List UInt8:=[109,97,114,107,46]
def shr(n:List UInt8):Bool:=(((n=[108,105,110,107])||(n=[108,111,99,107]))||((7<(n.length:Int))&&(n.take 7=JX)))||((5<(n.length:Int))&&(n.take 5=Jp))
theorem ik(n:List UInt8):PH n=some (shr n):=by
 unfold PH shr
 cases hA:((n=[108,105,110,107])||(n=[108,111,99,107])) with
 | true=>rfl
 | false=>
  by_cases l:(7:Int)<n.length
  ·rw[vj l]
   show(AB (Bx n 0 7) λw=>_)=_
   rw[KV n 7 (by omega) (by omega),AE]
   have u:(7:Int).toNat=7:=rfl
   rw[u]
   show(AB (gd ((((false||(true&&(n.take 7=JX)))==false))&&(decide (5<(n.length:Int))==true)) (Bx n 0 5)) λj=>some ((false||(true&&(n.take 7=JX)))||((5<(n.length:Int))&&(j=Jp))))=_
   cases hB:decide (n.take 7=JX) with
   | true=>rfl
   | false=>
    rw[vj (show(5:Int)<n.length by omega)]
    show(AB (Bx n 0 5) λj=>_)=_
    rw[KV n 5 (by omega) (by omega),AE]
    rfl
  ·rw[vk l]
   show(AB (gd (decide (5<(n.length:Int))==true) (Bx n 0 5)) λj=>some (false||((5<(n.length:Int))&&(j=Jp))))=_
   by_cases q:(5:Int)<n.length
   ·rw[vj q]
    show(AB (Bx n 0 5) λj=>_)=_
    rw[KV n 5 (by omega) (by omega),AE]
    rfl
   ·rw[vk q];rfl
theorem TY{α β ρ σ:Type}[Inhabited α]{f}(l:List α)(mk:Nat→β→σ)(j:β→α→β)(u:β→ρ)(I:β→Nat→Prop)(A:∀b k, k<l.length→I b k→I (j b l[k]!) (k+1))
 (B:∀b (k:Nat), k<l.length→I b k→f (mk k b)=some (.inl (mk (k+1) (j b l[k]!)))) (C:∀b, I b l.length→f (mk l.length b)=some (.inr (u b))) (b0:β) (E:I b0 0):iter f (mk 0 b0)=some (u (l.foldl j b0)) := by
  have key:∀(m k:Nat) (b:β), k+m=l.length→I b k→iter f (mk k b)=some (u ((l.drop k).foldl j b)) := by
    intro m
    induction m with
    | zero =>
      intro k b F w
      have:k=l.length := by omega
      subst this
      rw[Cv (C b w)];simp
    | succ m J =>
      intro k b F w
      have q:k<l.length := by omega
      rw[Dx (B b k q w), J (k+1) _ (by omega) (A b k q w), xj q, wT, vr l k q]
  have := key l.length 0 b0 (by omega) E
  simpa using this
def Nx(p:AC→Bool)(o:List AC)(x:AC):List AC:=if p x then o++[x] else o
theorem bQ p:∀(l o:List AC),l.foldl (Nx p) o=o++l.filter p
 | [],o=>by simp
 | x::l,o=>by
  rw[wT,bQ p l,zj]
  unfold Nx
  cases p x<;>simp
theorem sd{l:List AC}{j} p(h:BC l j=0):BC (l.filter p) j=0:=by
 obtain⟨q,u⟩:=(Ju l j).1 h
 exact(Ju _ _).2 ⟨q.filter _,λe w=>u e (yd.1 w).1⟩
abbrev o9(n:Ak)(a:List UInt8):Cu:=Cu.mk n (shown n.Flow 0 n.Flow.length) a
theorem Uu(f:List AD):(shown f 0 f.length).length=(Be f).length:=by rw[V9,v7]
def Hk(a b:List AC):List AC:=Bo FU a b []
def M3(c:Bool)(j l:List AC):Un:=.r c (if c then [] else Hk j l)
def BZ:List Un→List Un→List Un
 | .r true _::j,l=>.r true []::BZ j l
 | j,.a e::l=>.a e::BZ j l
 | .a e::j,.r q u::l=>if q then BZ j l else .a (Cw u e)::BZ j l
 | .r false w::j,.r q u::l=>M3 q w u::BZ j l
 | [],.r _ _::_=>[]
 | .a _::_,[]=>[]
 | .r false _::_,[]=>[]
 | [],[]=>[]
  termination_by j l=>j.length+l.length
def Ok(us:List Un):Prop:=∀t j,us≠.r true t::j
theorem OX t us vs:BZ (.r true t::us) vs=.r true []::BZ us vs:=by rw[BZ]
theorem Y8 t us vs:∀n:Nat,BZ (List.replicate n (.r true t)++us) vs=List.replicate n (.r true [])++BZ us vs
 | 0=>rfl
 | n+1=>by rw[wP,wF,OX,Y8 t us vs n];rfl
theorem QJ(B:List AD)(us vs:List Un)(h:Ok us):BZ us (B.map Un.a++vs)=B.map Un.a++BZ us vs:=by
 induction B with
 | nil=>rfl
 | cons e B j=>
  simp only[wB,wF]
  rw[← j]
  match us,h with
  | [],_=>rw[BZ];intro _ _ h;cases h
  | .r false t::us,_=>rw[BZ];intro _ _ h;cases h
  | .r true t::us,h=>exact absurd rfl (h t us)
  | .a e::us,h=>rw[BZ];intro _ _ h;cases h
theorem bR t us:Ok (.r false t::us):=λ_ _ h=>by cases h
theorem YW:Ok []:=λ_ _ h=>by cases h
theorem p6 e us vs j l:BZ (.a e::us) (.r j l::vs)=(if j then [] else [.a (Cw l e)])++BZ us vs:=by
 rw[BZ];cases j<;>rfl
theorem UE us vs j l q:BZ (.r false l::us) (.r j q::vs)=M3 j l q::BZ us vs:=by rw[BZ]
theorem gh us vs j l:∀A:List AD,BZ (A.map Un.a++us) (List.replicate A.length (.r j l)++vs)=(if j then [] else(A.map (Cw l)).map Un.a)++BZ us vs
 | []=>by cases j<;>rfl
 | e::A=>by
  rw[wB,v6,wP,wF,wF,p6,gh us vs j l A]
  cases j<;>rfl
theorem fJ us vs j l q:∀n:Nat,BZ (List.replicate n (.r false l)++us) (List.replicate n (.r j q)++vs)=List.replicate n (M3 j l q)++BZ us vs
 | 0=>rfl
 | n+1=>by rw[wP,wP,wF,wF,UE,fJ us vs j l q n];rfl
theorem dK(B:List AD):BZ [] (B.map Un.a)=B.map Un.a:=by
 have:=QJ B [] [] YW
 rw[wG] at this
 rw[this,BZ,wG]
theorem gw:∀(us vs:List Un),(BZ us vs).length≤us.length+vs.length:=by
 intro us vs
 fun_induction BZ us vs<;>simp_all<;>omega
theorem rC:∀(us vs:List Un),BL (BZ us vs)≤BL us+BL vs:=by
 intro us vs
 fun_induction BZ us vs with
 | case1 t us vs j=>rw[Db,Db];simp only[Un.isR,xT,xZ,yP];omega
 | case2 us e vs q j=>rw[Db,Db];omega
 | case3 e us l vs j=>rw[Db,Db];simp only[Un.isR,xT,xZ,yP];omega
 | case4 e us u l vs w j=>rw[Db,Db,Db];simp only[Un.isR,xT,xZ,yP];omega
 | case5 A us u l vs j=>rw[Db,Db,Db];simp only[Un.isR,M3,xT,xZ,yP];omega
 | case6=>simp[BL]
 | case7=>simp[BL]
 | case8=>simp[BL]
 | case9=>simp[BL]
theorem HU u us:Br (u::us)=(if E7 u then 1 else 0)+Br us:=by unfold Br;rw[xF];omega
theorem Qq a b:Br (a++b)=Br a+Br b:=by simp[Br]
theorem gE(l:List AD):Br (l.map Un.a)=l.length:=by
 induction l with
 | nil=>rfl
 | cons x l j=>rw[wB,HU,j,v6];simp only[E7,xZ];omega
theorem R3 n c t:Br (List.replicate n (.r c t))=if c then 0 else n:=by
 cases c<;>simp[Br,xp,E7]
theorem XJ{e:AD}{t:List AC}(j:Bq e=0)(w:e.Attrs.length≤1048576)(q:BC t true=0)(u:t.length≤1048576):Bq (Cw t e)=0∧Co (Cw t e).Attrs:=by
 have l:=tE (Ht j) q
 have A:=YG e.Attrs t
 refine⟨?_,HA (l:=Hu e.Attrs t) l (by omega)⟩
 unfold Bq at j ⊢
 unfold Cw
 dsimp only
 split
 ·rename_i h;rw[vh h] at j;exact j
 ·rename_i h
  rw[vg h] at j
  split
  ·rename_i h;rw[vh h] at j;exact j
  ·exact l
theorem aA{a b:List AC}(l:BC a true=0)(q:BC b true=0)(u:a.length≤1048576)(w:b.length≤1048576):BC (Hk a b) true=0∧Co (Hk a b):=by
 have j:=rk l q
 have A:=lH a b
 exact⟨j,HA j (by unfold Hk;omega)⟩
theorem gL:∀(us vs:List Un),De us→De vs→∀u∈BZ us vs,DT u:=by
 intro us vs
 fun_induction BZ us vs with
 | case1 t us vs w=>
  intro q l u j
  rcases wC.1 j with rfl | j
  ·exact⟨λh=>(by cases h),GB⟩
  ·exact w q.tl l u j
 | case2 us e vs I w=>
  intro q l u j
  rcases wC.1 j with rfl | j
  ·exact Sw l (vn ..)
  ·exact w q l.tl u j
 | case3 e us E vs w=>intro q l u j;exact w q.tl l.tl u j
 | case4 e us F E vs C w=>
  intro q l u j
  rcases wC.1 j with rfl | j
  ·have A:=q _ (vn ..)
   have B:=l _ (vn ..)
   dsimp only at A B
   exact XJ A.1 A.2 (B.1 (by simpa using C)) B.2.2
  ·exact w q.tl l.tl u j
 | case5 O us F E vs w=>
  intro q l u j
  rcases wC.1 j with rfl | j
  ·have A:=q _ (vn ..)
   have B:=l _ (vn ..)
   dsimp only at A B
   cases F with
   | true=>exact⟨λh=>(by cases h),GB⟩
   | false=>
    obtain⟨J,M⟩:=aA (A.1 rfl) (B.1 rfl) A.2.2 B.2.2
    exact⟨λ_=>J,M⟩
  ·exact w q.tl l.tl u j
 | case6=>intro _ _ u j;cases j
 | case7=>intro _ _ u j;cases j
 | case8=>intro _ _ u j;cases j
 | case9=>intro _ _ u j;cases j
theorem rc{s s':AI}{rest}{u n}{p}(q:s.Kind≠1)(h:Fj ⟨s::rest,u⟩ n=some (s',p)):s'.N=n:=by
 unfold Fj at h
 dsimp only at h
 change AB (some s) _=_ at h
 rw[AE,vg (by rw[vi];exact q),AE] at h
 cases j:AN .i64 (u+n) with
 | none=>rw[j] at h;cases h
 | some a=>
  rw[j,AE] at h
  cases l:Gx s with
  | none=>rw[l] at h;cases h
  | some b=>
   rw[l,AE] at h
   generalize (if(decide (a=b))=true then _ else _:Option BU)=r at h
   cases r with
   | none=>cases h
   | some r=>
    rw[AE] at h
    cases h;rfl
theorem uG{s:AI}{rest}{u:Int}(h:Fe ⟨s::rest,u⟩)(B:s.Kind≠2):Ok (CL ⟨s::rest,u⟩)∧0<Br (CL ⟨s::rest,u⟩):=by
 have w:=h.stp s (vn ..)
 have J:=Gm w.1 w.2
 have C:=h.u0
 have E:=h.fit s rest rfl
 dsimp only at C E
 have A:u.toNat<(BG s).length:=by omega
 have F:∀v∈BG s,E7 v=true:=by
  intro v j
  unfold BG at j
  split at j
  ·obtain⟨e,_,rfl⟩:=wu.1 j;rfl
  ·have:=xK j
   subst this
   rw[vk B];rfl
 have e:CL ⟨s::rest,u⟩=(BG s)[u.toNat]::((BG s).drop (u.toNat+1)++Ag rest):=by
  show(BG s).drop u.toNat++Ag rest=_
  rw[xj A,wF]
 have l:=F _ (xr A)
 rw[e]
 constructor
 ·intro t M I
  injection I with q _
  rw[q] at l;cases l
 ·rw[HU,l,vh rfl];omega
theorem kw(U V:List Un)(p q:BU)(hp:Fe p)(B:Fe q)(ha:CL p=U)(hb:CL q=V)(oa:De U)(ob:De V)(hc:Br U=Ao V)(ak:U.length≤4294967296)(al:V.length≤4294967296)(I:p.steps.length≤4294967296)(C:q.steps.length≤4294967296) :
  iter (λ(a:Af × BU × BU)=>Lq a.1 a.2.1 a.2.2) ((Af.mk [] [] 0),p,q)=some (Ce (Aq (BZ U V))):=by
 have key:∃r,iter (λ(a:Af × BU × BU)=>Lq a.1 a.2.1 a.2.2) ((Af.mk [] [] 0),p,q)=some r∧r=Ce (Aq (BZ U V)):=by
  refine Yr (λF=>Fe F.2.1∧Fe F.2.2∧De (CL F.2.1)∧De (CL F.2.2)∧F.2.1.steps.length≤4294967296∧F.2.2.steps.length≤4294967296∧Br (CL F.2.1)=Ao (CL F.2.2) ∧
   ∃X,F.1=Ce (Aq X)∧X++BZ (CL F.2.1) (CL F.2.2)=BZ U V)
   (λF=>(CL F.2.1).length+(CL F.2.2).length) _ ?_ ⟨hp,B,by rw[ha];exact oa,by rw[hb];exact ob,I,C,by rw[ha,hb];exact hc,[],rfl,by rw[ha,hb];rfl⟩
  rintro⟨x,p,q⟩ ⟨hp,B,J,oQ,I,C,hc,X,hx,j⟩
  dsimp only at hp B J oQ I C hc hx j
  subst hx
  have an:X.length≤8589934592:=by
   have A:=yC List.length j
   have M:=gw U V
   rw[vw] at A
   omega
  have O:∀u∈X,DT u:=λu hu=>gL U V oa ob u (by rw[← j];exact xz _ hu)
  dsimp only
  unfold Lq
  obtain⟨ps,pu⟩:=p
  obtain⟨qs,qu⟩:=q
  match ps,qs with
  | [],[]=>
   refine .inr ?_
   rw[NJ,NJ]
   simp only[AE]
   refine⟨_,rfl,?_⟩
   have e1:BZ [] []=[]:=by rw[BZ]
   change X++BZ [] []=_ at j
   rw[e1,wG] at j
   rw[j]
  | s::ps,qs=>
   have hs:=hp.stp s (vn ..)
   have hsz:=Gm hs.1 hs.2
   have ac:=hp.u0
   have ad:=hp.fit s ps rfl
   have ao:=Jc hs.1
   dsimp only at ac ad I
   rw[v6] at I
   rw[Lm,AE]
   have a6:decide (0≤s.Kind)=true:=by rw[vi];omega
   rw[a6,show(true==false)=false from rfl,vg (by decide),AE,vh (by decide)]
   refine .inl ?_
   by_cases hk:s.Kind=2
   ·have z1:B4 s=s.N:=by unfold B4;rw[vg (by omega)]
    obtain⟨p',s',A,M,E,h4,k1,k2,_⟩:=Ha (n:=B4 s-pu) hp (by omega) (by omega) (by omega)
    have hN:=rc (by omega) A
    rw[vh (by rw[vi];exact hk),Hc hp,AE,A,CB,hN]
    rw[P3 (by omega) (by omega),vj hk] at E
    rw[E] at j hc J ⊢
    rw[Y8,← vy] at j
    rw[Qq,R3] at hc
    rw[RR O (by omega) (B4 s-pu) [] (by omega) (by omega) (λw=>some (Sum.inl (w,p',(⟨qs,qu⟩:BU))))]
    refine⟨_,rfl,⟨M,B,J.app,oQ,by dsimp only;omega,C,by simpa using hc,_,rfl,j⟩,?_⟩
    dsimp only
    rw[vw,wZ];omega
   ·rw[vg (by rw[vi];exact hk)]
    have a0:=uG hp hk
    match qs with
    | []=>
     exfalso
     have A:=a0.2
     rw[hc] at A
     exact absurd A (by show ¬ (0<Ao []);simp[Ao])
    | t::qs=>
     have Y:=B.stp t (vn ..)
     have ae:=Gm Y.1 Y.2
     have a7:=B.u0
     have a8:=B.fit t qs rfl
     have af:=Jc Y.1
     dsimp only at a7 a8 C
     rw[v6] at C
     rw[Lm,AE]
     by_cases l:t.Kind=1
     ·obtain⟨q',t',A,M,E,h4,k1,k2,T⟩:=Ha (n:=B4 t-qu) B (by omega) (by omega) (by omega)
      obtain⟨T,k4,k5⟩:=T l
      rw[vh (by rw[vi];exact l),Hc B,AE,A,CB,Mj O (by omega) t'.Elems (by omega) (λe he=>Y.2.ea e (k5 e he)),AE]
      rw[← T] at E
      rw[E] at j hc oQ ⊢
      rw[QJ _ _ _ a0.1,← vy] at j
      rw[Hv,OB,wK] at hc
      refine⟨_,rfl,⟨hp,M,J,oQ.app,by dsimp only [List.length_cons];omega,by dsimp only;omega,hc,_,rfl,j⟩,?_⟩
      dsimp only
      rw[vw,v7];omega
     ·rw[vg (by rw[vi];exact l),Hc hp,AE,Hc B,AE]
      generalize hn:min (B4 s-pu) (B4 t-qu)=n
      have aa:1≤n:=by omega
      have ag:n≤B4 s-pu:=by omega
      have ah:n≤B4 t-qu:=by omega
      have z2:B4 t=t.N:=by unfold B4;rw[vg l]
      obtain⟨p',s',A,M,E,h4,k1,k2,T⟩:=Ha (n:=n) hp aa ag (by omega)
      obtain⟨q',t',j1,j2,j3,j4,l1,l2,_⟩:=Ha (n:=n) B aa ah (by omega)
      rw[P3 l (by omega)] at j3
      rw[j3] at oQ
      obtain⟨m,hm⟩:∃m,n.toNat=m+1:=⟨n.toNat-1,by omega⟩
      have u2:=oQ (.r (decide (t.Kind=2)) t.Attrs) (by rw[hm,wP];simp)
      dsimp only at u2
      rw[A,CB,j1,CB,k1,l1,k2,l2]
      by_cases h0:s.Kind=0
      ·have z1:B4 s=s.N:=by unfold B4;rw[vg (by omega)]
       rw[P3 (by omega) (by omega),vk (by omega)] at E
       rw[E] at J
       have u1:=J (.r false s.Attrs) (by rw[hm,wP];simp)
       dsimp only at u1
       have a1:=u1.1 rfl
       rw[E,j3] at j hc ⊢
       rw[fJ,← vy] at j
       rw[Qq,R3,Hv,Ow] at hc
       have ab:Br (CL p')=Ao (CL q'):=by simp at hc;exact hc
       by_cases g0:t.Kind=0
       ·have Z:decide (t.Kind=2)=false:=by rw[g0];rfl
        have a2:=u2.1 Z
        have lk:=(aA a1 a2 u1.2.2 u2.2.2).2
        rw[Z] at j ⊢
        rw[vj h0,vj g0,vh (by decide),lT _ _ (by omega),AE,show Bo FU s.Attrs t.Attrs []=Hk s.Attrs t.Attrs from rfl,KF O (by omega) n _ (by omega) (by omega) lk.1,AE]
        refine⟨_,rfl,⟨M,j2,J.app,oQ.app,by dsimp only;omega,by dsimp only;omega,ab,_,rfl,j⟩,?_⟩
        dsimp only
        rw[vw,vw,wZ];omega
       ·have Z:decide (t.Kind=2)=true:=by rw[vi];omega
        rw[Z] at j ⊢
        rw[vj h0,vk g0,vg (by decide),vh (by decide)]
        rw[RR O (by omega) n [] (by omega) (by omega) (λw=>some (Sum.inl (w,p',q')))]
        refine⟨_,rfl,⟨M,j2,J.app,oQ.app,by dsimp only;omega,by dsimp only;omega,ab,_,rfl,j⟩,?_⟩
        dsimp only
        rw[vw,vw,wZ];omega
      ·have ai:s.Kind=1:=by omega
       obtain⟨T,k4,k5⟩:=T ai
       rw[← T] at E
       rw[E] at J
       rw[E,j3] at j hc ⊢
       rw[show n.toNat=s'.Elems.length by omega] at j hc oQ ⊢
       rw[gh,← vy] at j
       rw[Qq,gE,Hv,Ow] at hc
       rw[vk h0]
       by_cases g0:t.Kind=0
       ·have Z:decide (t.Kind=2)=false:=by rw[g0];rfl
        have a2:=u2.1 Z
        rw[Z] at j ⊢
        rw[vj g0,vg (by decide),vg (by decide),vh rfl,tQ _ _ (by omega) (λe he=>hs.2.ea e (k5 e he)) (by omega),AE]
        rw[vg (by decide)] at j
        rw[Mj O (by omega) _ (by rw[v7];omega) (λe he=>by
         obtain⟨e0,aj,rfl⟩:=wu.1 he
         have:=J (.a e0) (xz _ (List.mem_map_of_mem aj))
         exact(XJ this.1 this.2 a2 u2.2.2).2),AE]
        refine⟨_,rfl,⟨M,j2,J.app,oQ.app,by dsimp only;omega,by dsimp only;omega,by dsimp only;omega,_,rfl,j⟩,?_⟩
        dsimp only
        rw[vw,vw,wZ];omega
       ·have Z:decide (t.Kind=2)=true:=by rw[vi];omega
        rw[Z] at j ⊢
        rw[vk g0,vg (by decide),vg (by decide),vg (by decide)]
        rw[vh rfl,wG] at j
        refine⟨_,rfl,⟨M,j2,J.app,oQ.app,by dsimp only;omega,by dsimp only;omega,by dsimp only;omega,_,rfl,j⟩,?_⟩
        dsimp only
        rw[vw,vw,wZ];omega
  | [],t::qs=>
   have Y:=B.stp t (vn ..)
   have ae:=Gm Y.1 Y.2
   have a7:=B.u0
   have a8:=B.fit t qs rfl
   have af:=Jc Y.1
   dsimp only at a7 a8 C
   rw[v6] at C
   rw[NJ,AE,show decide ((0:Int) ≤ -1)=false by decide,show(false==false)=true from rfl,vh rfl,Lm,AE,AE]
   have a6:decide (0≤t.Kind)=true:=by rw[vi];omega
   rw[a6,vh (by decide),vg (by decide),AE]
   refine .inl ?_
   by_cases l:t.Kind=1
   ·obtain⟨q',t',A,M,E,h4,k1,k2,T⟩:=Ha (n:=B4 t-qu) B (by omega) (by omega) (by omega)
    obtain⟨T,k4,k5⟩:=T l
    rw[vh (by rw[vi];exact l),Hc B,AE,A,CB,Mj O (by omega) t'.Elems (by omega) (λe he=>Y.2.ea e (k5 e he)),AE]
    rw[← T] at E
    rw[E] at j hc oQ ⊢
    rw[QJ _ _ _ (show Ok (CL ⟨[],pu⟩) from YW),← vy] at j
    rw[Hv,OB,wK] at hc
    refine⟨_,rfl,⟨hp,M,J,oQ.app,I,by dsimp only;omega,hc,_,rfl,j⟩,?_⟩
    dsimp only
    rw[vw,v7];omega
   ·exfalso
    have A:=(VX B l).2
    rw[← hc] at A
    exact absurd A (by show ¬ (0<Br []);simp[Br])
 obtain⟨r,A,M⟩:=key
 rw[A,M]
theorem jE{d}(h:∀s∈d,FO s):(Br (Ag d):Int)=BB d:=by
 induction d with
 | nil=>rfl
 | cons s d j=>
  have l:=j (λx q=>h x (vp _ q))
  have u:=(h s (vn ..)).kind
  rw[SM,Qq,I9,← l]
  have:(Br (BG s):Int)=Cr s:=by
   unfold BG Cr
   rcases u with ⟨k,e,w,_,_⟩ | ⟨k,e,_,w,_⟩ | ⟨k,n,_,_,_⟩
   ·rw[vg (by omega),vg (by omega),vg (by omega),vk (by omega),R3];simp;omega
   ·rw[vg (by omega),vh (by omega),vj k,R3];simp
   ·rw[vh k,vg (by omega),vh k,gE]
  omega
def VZ(a b:List AI):List AI × Int:=if CY (BN (BZ (Ag a) (Ag b)))≠0 then([],3) else(BN (BZ (Ag a) (Ag b)),0)
theorem p9 a b(A:Ey a)(B:Ey b)(C:GD a)(E:GD b):MW a b=some (if CY a≠0 then([],CY a) else if CY b≠0 then([],CY b) else
  if Ax b≠BB a then([],14) else VZ a b):=by
 unfold MW
 rw[Ql a A,AE]
 by_cases j:CY a≠0
 ·rw[vh (Ba j),vh j]
 have j:=wL.1 j
 rw[vg (CM j),vg (show ¬ (CY a≠0) by simpa using j),Ql b B,AE]
 by_cases e2:CY b≠0
 ·rw[vh (Ba e2),vh e2]
 have e2:=wL.1 e2
 have l:=L2 j
 have q:=L2 e2
 rw[vg (CM e2),vg (show ¬ (CY b≠0) by simpa using e2),S1 a A l,S1 b B q,CB,CB]
 by_cases u:Ax b≠BB a
 ·rw[vh (Ba u),vh u]
 have u:=wL.1 u
 have M:=Pn l.st
 have O:=Pn q.st
 have T:=jE l.st
 have U:=R9 q.st
 have F:=SJ l.st C
 have I:=SJ q.st E
 have V:=l.olds
 have g2:=q.olds
 have X:=C.sum
 have Y:=E.sum
 have Z:=C.len
 have n2:=E.len
 rw[vg (CM u),vg (show ¬ (Ax b≠BB a) by simpa using u)]
 rw[kw (Ag a) (Ag b) ⟨a,0⟩ ⟨b,0⟩ (OP λs w=>⟨l.st s w,A.st s w⟩) (OP λs w=>⟨q.st s w,B.st s w⟩) (P1 a) (P1 b) F I (by omega) (by omega) (by omega) (by dsimp only;omega) (by dsimp only;omega),AE]
 have px:=gw (Ag a) (Ag b)
 have J:=gL _ _ F I
 have lx:=Js J
 have cx:=rC (Ag a) (Ag b)
 have wa:=Q7 l.st
 have wb:=Q7 q.st
 rw[Qn J (by omega) (by omega)]
 unfold VZ
 split<;>rfl
def GY(u:Un):Prop:=match u with | .a e=>Bq e=0∧e.Attrs.length≤1048576 | .r c t=>(c=false→BC t true=0)∧(c=true→t=[])∧t.length≤1048576
theorem OJ{u}(h:GY u):DT u:=by
 match u,h with
 | .a e,h=>exact⟨h.1,HA (Ht h.1) (by have:=h.2;omega)⟩
 | .r true t,h=>
  obtain rfl:=h.2.1 rfl
  exact⟨λh=>(by cases h),GB⟩
 | .r false t,h=>exact⟨h.1,HA (h.1 rfl) (by have:=h.2.2;omega)⟩
def Ia(s:DS):List Un:=Ag s.out++s.adds.map Un.a
def I8(s:DS):Prop:=∀x∈s.out,0≤x.N
theorem NF(s:DS)(h:I8 s):Ag (BJ s)=Ia s++List.replicate s.cuts (.r true [])∧∀x∈BJ s,0≤x.N:=by
 obtain⟨o,A,c⟩:=s
 unfold BJ Ia
 dsimp only
 have l:Ag (if 0<A.length then o++[⟨1,0,[],A⟩] else o)=Ag o++A.map Un.a∧∀x∈(if 0<A.length then o++[⟨1,0,[],A⟩] else o),0≤x.N:=by
  by_cases hA:0<A.length
  ·rw[vh hA]
   refine⟨by rw[NS];simp[Ag,BG],λx j=>?_⟩
   rcases wX.1 j with j | j
   ·exact h x j
   ·rw[wz] at j;subst j;exact y9 0
  ·rw[vg hA]
   obtain rfl:A=[]:=wn (by omega)
   exact⟨by simp,h⟩
 by_cases q:0<c
 ·rw[vh q,NS,l.1]
  refine⟨by simp[Ag,BG],λx j=>?_⟩
  rcases wX.1 j with j | j
  ·exact l.2 x j
  ·rw[wz] at j;subst j;exact yw c
 ·rw[vg q,wG]
  obtain rfl:c=0:=by omega
  exact⟨by rw[l.1];simp,l.2⟩
theorem Vx:∀(P:List Un) (f:List AD) (X Y:List Un),Ao P≤f.length→(∀g:List AD,g.length=f.length-Ao P→A1 X g=A1 Y g)→A1 (P++X) f=A1 (P++Y) f
 | [],f,X,Y,_,h=>h f rfl
 | .a e::P,f,X,Y,j,h=>by
  have q:Ao (.a e::P)=Ao P:=by unfold Ao;rw[List.countP_cons_of_neg];simp[Un.isR]
  rw[q] at j h
  rw[wF,wF,A1,A1,Vx P f X Y j h]
 | .r c t::P,f,X,Y,j,h=>by
  have e2:Ao (.r c t::P)=Ao P+1:=by unfold Ao;rw[yz];rfl
  rw[e2] at j h
  match f,j,h with
  | [],j,_=>simp at j
  | x::f,j,h=>
   have l:=Vx P f X Y (by simp only[v6] at j;omega) (λg hg=>h g (by simp only[v6];omega))
   cases c with
   | true=>rw[wF,wF,A1,A1,l]
   | false=>rw[wF,wF,A1,A1,l]
theorem Ru:∀(us:List Un) (s:DS),I8 s→(∀u∈us,GY u)→∀f:List AD,Ao (Ag (BJ s))+Ao us≤f.length→A1 (Ag (BJ (us.foldl dU s))) f=A1 (Ag (BJ s)++us) f
 | [],s,_,_,f,_=>by rw[wG];rfl
 | u::us,s,I,M,f,l=>by
  obtain⟨F,O⟩:=NF s I
  have q:Ao (u::us)=(if u.isR then 1 else 0)+Ao us:=by unfold Ao;rw[xF];omega
  have w:=M u (vn ..)
  have A:∀v∈us,GY v:=λv T=>M v (vp _ T)
  rw[wT]
  match u,q,w with
  | .a e,q,_=>
   have j:I8 (dU s (.a e)):=I
   obtain⟨B,_⟩:=NF _ j
   have J:Ia (dU s (.a e))=Ia s++[.a e]:=by
    show Ag s.out++(s.adds++[e]).map Un.a=_
    unfold Ia
    rw[yF,vy];rfl
   have C:(dU s (.a e)).cuts=s.cuts:=rfl
   rw[J,C] at B
   have U:∀n,Ao (List.replicate n (.r true []))=n:=λn=>by unfold Ao;rw[xp];rfl
   have V:Ao [Un.a e]=0:=rfl
   rw[Ru us _ j A f (by rw[B,GH,GH,V];rw[F,GH,q] at l;simp only[Un.isR] at l;simp at l;omega),B,F]
   rw[vy,vy,vy]
   rw[F,GH,U] at l
   refine Vx _ _ _ _ (by omega) λg hg=>?_
   rw[zP,A1,VU _ _ _ _ (by omega),VU _ _ _ _ (by omega),A1]
  | .r true t,q,w=>
   obtain rfl:=w.2.1 rfl
   have j:I8 (dU s (.r true [])):=I
   obtain⟨B,_⟩:=NF _ j
   have E:Ag (BJ (dU s (.r true [])))=Ag (BJ s)++[.r true []]:=by
    rw[B,F]
    show Ia s++List.replicate (s.cuts+1) _=_
    rw[yr,vy]
   rw[Ru us _ j A f (by rw[E,GH];rw[q] at l;show _+1+_≤_;simp only[Un.isR,xZ] at l;omega),E,vy];rfl
  | .r false t,q,_=>
   obtain⟨X,Y⟩:=Wf t O
   have j:I8 (dU s (.r false t)):=Y
   have E:Ag (BJ (dU s (.r false t)))=Ag (BJ s)++[.r false t]:=by
    show Ag (BJ ⟨Gq (BJ s) t,[],0⟩)=_
    rw[TE,X]
   rw[Ru us _ j A f (by rw[E,GH];rw[q] at l;show _+1+_≤_;simp only[Un.isR,xZ] at l;omega),E,vy];rfl
theorem tV{us}(j:∀u∈us,GY u)(f:List AD)(h:Ao us≤f.length):A1 (Ag (BN us)) f=A1 us f:=by
 have:=Ru us D0 (λx l=>by cases l) j f (by rw[show BJ D0=[] from rfl];show 0+_≤_;omega)
 exact this
end Go.Proofs.YtgcalnmhoifpoaaGreatDoor.Al
