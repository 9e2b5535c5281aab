/- Plain laws over the models, a part of them. -/
import Derived.Test.YtifgmfoihehlbaaGreatDoorMod1
import Derived.Lib.AtoiAllCases
import Derived.Lib.DecodeNEq
import Derived.Lib.ItoaMem
import Derived.Lib.TrimUEq
import Derived.Lib.ValidLaws
set_option linter.all false
namespace Go.Proofs.YtifgmfoihehlbaaGreatDoor.Al
@[simp] theorem AD{a α:Type}(x:a)(f:a→Option α):AB (some x) f=f x:=rfl
@[simp] theorem BW{a b α:Type}(x:a)(y:b)(f:a→b→Option α):CT (some (x,y)) f=f x y:=rfl
@[simp] theorem Gi{a b c α:Type}(x:a)(y:b)(z:c)(f:a→b→c→Option α):EC (some (x,y,z)) f=f x y z:=rfl
@[simp] theorem rM{a b c d α:Type}(x:a)(y:b)(z:c)(u:d)(f:a→b→c→d→Option α):nr (some (x,y,z,u)) f=f x y z u:=rfl
@[simp] theorem Jg{a α:Type}(x:a)(f:a→Option α):Az (some (.nrm x)) f=f x:=rfl
@[simp] theorem Io{a α:Type}(t:α)(f:a→Option α):Az (some (.ext t)) f=some t:=rfl
@[simp] theorem rD{a b α:Type}(x:a)(y:b)(f:a→b→Option α):F8 (some (.nrm (x,y))) f=f x y:=rfl
@[simp] theorem rC{a b α:Type}(t:α)(f:a→b→Option α):F8 (some (.ext t)) f=some t:=rfl
@[simp] theorem rK{a b c α:Type}(x:a)(y:b)(z:c)(f:a→b→c→Option α):ZD (some (.nrm (x,y,z))) f=f x y z:=rfl
@[simp] theorem rJ{a b c α:Type}(t:α)(f:a→b→c→Option α):ZD (some (.ext t)) f=some t:=rfl
@[simp] theorem Ak{α:Type}[Inhabited α](m:Option α):gd true m=m:=rfl
@[simp] theorem Bp{α:Type}[Inhabited α](m:Option α):gd false m=some default:=rfl
theorem Ae{α:Type}[Inhabited α]{l:List α}{k}(h:k<l.length):AM l (k:Int)=some l[k]!:=by
 unfold AM
 rw[rO (tz k),sr,rU h,ri l k h]
theorem EG{α:Type}{l:List α}{k}(h:k<l.length):AM l (k:Int)=some l[k]:=by
 unfold AM
 rw[rO (tz k),sr,rU h]
theorem Ap{k:Nat}(h:k<9223372036854775807):AS .i64 ((k:Int)+1)=some (((k+1:Nat)):Int):=by
 rw[CR (by omega) (by omega)];rfl
theorem FC{k:Nat}(h:0<k)(j:k≤9223372036854775807):AS .i64 ((k:Int)-1)=some ((k-1:Nat):Int):=by
 rw[CR (by omega) (by omega)];congr 1;omega
def CI{ρ:Type}(k:Nat):Option ρ→Option (Int ⊕ As Unit ρ)
 | none=>some (.inl ((k+1:Nat):Int))
 | some r=>some (.inr (.ext r))
def DY{ρ:Type} : Option ρ→As Unit ρ
 | none=>.nrm ()
 | some r=>.ext r
theorem By{ρ:Type}{f}{n}(g:Nat→Option ρ)(j:∀k:Nat, k<n→f k=CI k (g k))
 (l:f n=some (.inr (.nrm ()))):iter f 0=some (DY ((List.range n).findSome? g)) := by
  have key:∀m k:Nat, k+m=n→iter f (k:Int)=some (DY ((List.range' k m).findSome? g)) := by
    intro m
    induction m with
    | zero =>
      intro k q
      obtain rfl:k=n := by omega
      rw[BN l];rfl
    | succ m w =>
      intro k q
      rw[List.range'_succ, so]
      have := j k (by omega)
      cases hg:g k with
      | none => rw[hg] at this;rw[Bg this, w (k+1) (by omega)]
      | some r => rw[hg] at this;rw[BN this];rfl
  rw[ul]
  exact key n 0 (by omega)
theorem XF{α ρ:Type}{l:List α}{g h:α→Option ρ}(e:∀x∈l,g x=h x):l.findSome? g=l.findSome? h:=by
 induction l with
 | nil=>rfl
 | cons a l j=>rw[so,so,e a (rn ..),j λx m=>e x (rj _ m)]
theorem SO{α ρ:Type}[Inhabited α](l:List α)(p:α→Bool)(r:ρ):(List.range l.length).findSome? (λk=>if p l[k]! then none else some r)=if l.all p then none else some r:=by
 induction l with
 | nil=>rfl
 | cons a l j=>
  rw[sL,List.range_succ_eq_map,so,List.findSome?_map]
  have m:(List.range l.length).findSome? ((λk=>if p (a::l)[k]! = true then none else some r) ∘ Nat.succ)=if l.all p=true then none else some r:=by
   rw[← j];exact XF λk _=>by simp
  rw[m]
  by_cases hp:p a=true
  ·simp[hp]
  ·simp[hp]
theorem Es{ρ:Type}(o:Option ρ)(f:Unit→Option ρ):Az (some (DY o)) f=match o with | none=>f () | some r=>some r:=by cases o<;>rfl
def GV(c:UInt8):Bool:=((97≤c.toNat)&&(c.toNat≤122))||((48≤c.toNat)&&(c.toNat≤57))||(c.toNat=46)||(c.toNat=45)
def DR(s:List UInt8):Bool:=(1≤s.length)&&(s.length≤24)&&((97≤s[0]!.toNat)&&(s[0]!.toNat≤122))&&s.all GV
def Gs(c:UInt8):Bool:=(32≤c.toNat)&&(c.toNat≤126)
def DP(s:List UInt8):Bool:=(1≤s.length)&&(s.length≤200)&&s.all Gs
theorem mO(s:List UInt8) k(j:k<s.length)(l:s.length≤9223372036854775807):Lo s k=CI k (if GV s[k]! then none else some false):=by
 unfold Lo
 rw[rO (by simpa using j),Ae j,AD,Ap (by omega)]
 generalize s[k]! = c
 have e:((((((c.toNat:Int)<97)||(122<(c.toNat:Int)))&&(((c.toNat:Int)<48)||(57<(c.toNat:Int))))&&(!((c.toNat:Int)=46)))&&(!((c.toNat:Int)=45)))=!GV c:=by
  unfold GV
  rw[sM]
  simp only[re,rZ,rT,sU,sd,tI,tX]
  omega
 rw[e]
 cases GV c<;>rfl
theorem Rh(s:List UInt8)(B:s.length≤9223372036854775807):Jy s=some (DR s):=by
 unfold Jy
 rw[By (n:=s.length) (λk=>if GV s[k]! then none else some false) (λk C=>mO s k C B) (by unfold Lo;rw[rN (by simp)]),SO]
 unfold DR
 cases s with
 | nil=>simp
 | cons c t=>
  have E:AM (c::t) 0=some c:=rfl
  rw[E]
  simp only[List.getElem!_cons_zero,rQ (uF c t),sb]
  generalize (c::t).all GV=F
  generalize I:(c::t).length=L
  have M:1≤L:=by rw[← I];simp
  by_cases q:24<(L:Int)
  ·have j:decide (L≤24)=false:=by simp;omega
   simp[q,j]
  ·rw[rQ q]
   simp only[sb,sc,Ak,AD]
   have j:decide (L≤24)=true:=by simp;omega
   have J:decide (1≤L)=true:=by simp;omega
   rw[j,J]
   by_cases w:(c.toNat:Int)<97
   ·have l:decide (97≤c.toNat)=false:=by simp;omega
    simp[w,l]
   ·rw[rQ w]
    have l:decide (97≤c.toNat)=true:=by simp;omega
    simp only[sc,Ak,AD,sb]
    by_cases A:122<(c.toNat:Int)
    ·have m:decide (c.toNat≤122)=false:=by simp;omega
     simp[A,m]
    ·have m:decide (c.toNat≤122)=true:=by simp;omega
     rw[rN (by simpa using A),Es,l,m]
     cases F<;>rfl
def HT(k:Nat)(c:UInt8):Bool:=((97≤c.toNat)&&(c.toNat≤122))||((k≠0)&&GV c)
theorem nI(s:List UInt8) k(j:k<s.length)(l:s.length≤9223372036854775807) :
  MF s k=CI k (if HT k s[k]! then none else some false):=by
 unfold MF
 rw[rO (by simpa using j),Ae j,AD,Ap (by omega)]
 generalize s[k]! = c
 have e:((!((97≤(c.toNat:Int))&&((c.toNat:Int)≤122)))&&(((k:Int)=0)||(((!((c.toNat:Int)=46))&&(!((c.toNat:Int)=45)))&&(((c.toNat:Int)<48)||(57<(c.toNat:Int))))))=!HT k c:=by
  unfold HT GV
  rw[sM]
  simp only[re,rZ,rT,sU,sd,tI,tX]
  omega
 rw[e]
 cases HT k c<;>rfl
theorem Uo{ρ:Type}(n:Nat)(g:Nat→Option ρ):(List.range n).findSome? g=none↔∀k,k<n→g k=none:=by
 rw[sh];simp
theorem io{α:Type}[Inhabited α](l:List α)(p:α→Bool):l.all p=true↔∀k,k<l.length→p l[k]! = true:=by
 rw[ry]
 constructor
 ·intro h k j;rw[ri l k j];exact h _ (sG j)
 ·intro h x m
  obtain⟨k,j,rfl⟩:=sN.1 m
  rw[← ri l k j];exact h k j
theorem KN{ρ:Type} n p(r:ρ):(List.range n).findSome? (λk=>if p k then none else some r)=if(List.range n).all p then none else some r:=by
 generalize List.range n=l
 induction l with
 | nil=>rfl
 | cons a l j=>rw[so,uX,];by_cases h:p a=true<;>simp[h,j]
theorem Tn(s:List UInt8)(q:s.length≤9223372036854775807):JR s=some (DR s):=by
 unfold JR
 rw[By (n:=s.length) (λk=>if HT k s[k]! then none else some false) (λk j=>nI s k j q) (by unfold MF;rw[rN (by simp)]),KN,Es]
 have key:((List.range s.length).all λk=>HT k s[k]!)=((s=[])||(((97≤s[0]!.toNat)&&(s[0]!.toNat≤122))&&s.all GV)):=by
  rw[sM,ry]
  simp only[sA,re,rT,rZ,io]
  constructor
  ·intro h
   cases m:s with
   | nil=>exact .inl rfl
   | cons c t=>
    rw[← m]
    have w:0<s.length:=by rw[m];simp
    have A:=h 0 w
    simp only[HT,re,rZ,rT] at A
    refine .inr ⟨by omega,λk j=>?_⟩
    have:=h k j
    simp only[HT,GV,re,rZ,rT] at this ⊢
    omega
  ·rintro(rfl | ⟨J,B⟩) k j
   ·cases j
   ·have:=B k j
    by_cases l:k=0
    ·subst l;simp only[HT,re,rZ,rT];omega
    ·simp only[HT,re,rZ,rT];exact .inr ⟨l,this⟩
 rw[key]
 unfold DR
 cases s with
 | nil=>rfl
 | cons c t=>
  rw[rQ (uF c t),sb]
  generalize (c::t).all GV=C
  generalize ((97≤(c::t)[0]!.toNat)&&((c::t)[0]!.toNat≤122))=E
  have F:decide (1≤((c::t).length:Int))=decide (1≤(c::t).length):=by simp;omega
  have I:decide (((c::t).length:Int)≤24)=decide ((c::t).length≤24):=by simp;omega
  rw[F,I]
  cases E<;>cases C<;>simp
theorem TK(s:List UInt8)(B:s.length≤9223372036854775807):L2 s=some (DP s):=by
 unfold L2 DP
 rw[By (n:=s.length) (λk=>if Gs s[k]! then none else some false) (λk l=>by
  unfold ND
  rw[rO (by simpa using l),Ae l,AD,Ap (by omega)]
  generalize s[k]! = c
  have e:(((c.toNat:Int)<32)||(126<(c.toNat:Int)))=!Gs c:=by
   unfold Gs
   rw[sM]
   simp only[re,rZ,rT,sU,sd,tX]
   omega
  rw[e]
  cases Gs c<;>rfl) (by unfold ND;rw[rN (by simp)]),SO,Es]
 generalize s.all Gs=q
 cases s with
 | nil=>simp
 | cons c t=>
  rw[rQ (uF c t),sb]
  generalize w:(c::t).length=L
  have C:1≤L:=by rw[← w];simp
  by_cases m:200<(L:Int)
  ·have j:decide (L≤200)=false:=by simp;omega
   simp[m,j]
  ·have j:decide (L≤200)=true:=by simp;omega
   have A:decide (1≤L)=true:=by simp;omega
   rw[rN (by simpa using m),j,A]
   cases q<;>rfl
theorem XE(s:List UInt8)(w:s.length≤9223372036854775807):Lq s=some (DP s):=by
 unfold Lq DP
 rw[By (n:=s.length) (λk=>if Gs s[k]! then none else some false) (λk j=>by
  unfold Nv
  rw[rO (by simpa using j),Ae j,AD,Ap (by omega)]
  generalize s[k]! = c
  have e:(((c.toNat:Int)<32)||(126<(c.toNat:Int)))=!Gs c:=by
   unfold Gs
   rw[sM]
   simp only[re,rZ,rT,sU,sd,tX]
   omega
  rw[e]
  cases Gs c<;>rfl) (by unfold Nv;rw[rN (by simp)]),SO,Es]
 generalize s.all Gs=l
 have m:decide (1≤(s.length:Int))=decide (1≤s.length):=by simp;omega
 have q:decide ((s.length:Int)≤200)=decide (s.length≤200):=by simp;omega
 rw[m,q]
 cases l<;>simp
theorem Tl a b x y:Au (a::x) (b::y)=((a<b)||(a==b&&Au x y)):=rfl
theorem Kg:∀(a b:List UInt8),(Au a b||(a=b))=!Au b a
 | [],[]=>rfl
 | [],_::_=>rfl
 | _::_,[]=>rfl
 | a::x,b::y=>by
  rw[Tl,Tl]
  have l:=Kg x y
  by_cases h:a=b
  ·subst h
   have m:¬ a<a:=λh=>by simp[uD] at h
   simp only[rQ m,sc,sE,sb,uM,uu]
   exact l
  ·have q:(a==b)=false:=by simpa using h
   have w:(b==a)=false:=by simpa using λe:b=a=>h e.symm
   have A:¬ (a::x=b::y):=λe=>h (List.cons.inj e).1
   rw[q,w,rQ A]
   simp only[sR,u6]
   have B:a.toNat≠b.toNat:=λe=>h (UInt8.toNat_inj.1 e)
   by_cases j:a<b
   ·have:¬ b<a:=by rw[uD] at j ⊢;omega
    simp[j,this]
   ·have:b<a:=by rw[uD] at j ⊢;omega
    simp[j,this]
theorem JD a:Au a a=false:=by
 have:=Kg a a
 cases h:Au a a
 ·rfl
 ·rw[h] at this;simp at this
theorem Y0{a b}(h:Au a b=true):Au b a=false:=by
 have:=Kg a b
 rw[h] at this;simpa using this.symm
def Gn(l:List AC):Prop:=∀a∈l,a.Name.length≤9223372036854775807∧a.Value.length≤9223372036854775807
def Da(l:List AC)(j:Bool)(k:Nat):Option Int:=
 if DR l[k]!.Name=false then some 9 else if DP l[k]!.Value=false∧¬ (j=true∧l[k]!.Value=[]) then some 23 else if 0<k∧Au l[k-1]!.Name l[k]!.Name=false then some 5 else none
def BE(l:List AC)(j:Bool):Int:=((List.range l.length).findSome? (Da l j)).getD 0
theorem Gn.at{l:List AC}(h:Gn l){k}(j:k<l.length):l[k]!.Name.length≤9223372036854775807∧l[k]!.Value.length≤9223372036854775807:=by
 rw[ri l k j];exact h _ (sG j)
theorem mL(l:List AC) q(h:Gn l)(E:l.length≤9223372036854775807) k(A:k<l.length):Li l q k=CI k (Da l q k):=by
 unfold Li Da
 obtain⟨j,m⟩:=h.at A
 rw[rO (by simpa using A),Ae A,AD]
 generalize l[k]! = x at j m ⊢
 rw[Rh _ j,AD]
 cases DR x.Name
 ·rfl
 rw[rN (by decide),rN (by decide),TK _ m,AD,Ap (by omega)]
 by_cases w:DP x.Value=false∧¬ (q=true∧x.Value=[])
 ·rw[rO w,rO (by simp[w.1];cases q<;>simp_all)];rfl
 rw[rN w,rN (by intro e;simp at e;exact w ⟨e.1,by rintro⟨a,b⟩;simp[a,b] at e⟩)]
 by_cases B:k=0
 ·subst B;rfl
 ·have C:decide ((0:Int)<(k:Int))=true:=by simp;omega
  rw[C,FC (by omega) (by omega)]
  simp only[sc,Ak,AD,sE]
  rw[Ae (by omega),AD,Kg]
  have:(0<k∧Au l[k-1]!.Name x.Name=false)↔Au l[k-1]!.Name x.Name=false:=by constructor;exact λh=>h.2;exact λh=>⟨by omega,h⟩
  simp only[this]
  cases Au l[k-1]!.Name x.Name<;>rfl
theorem dR(l:List AC) q(h:Gn l)(E:l.length≤9223372036854775807) k(A:k<l.length):Ml l q k=CI k (Da l q k):=by
 unfold Ml Da
 obtain⟨j,m⟩:=h.at A
 rw[rO (by simpa using A),Ae A,AD]
 generalize l[k]! = x at j m ⊢
 rw[Tn _ j,AD]
 cases DR x.Name
 ·rfl
 rw[rN (by decide),rN (by decide),XE _ m,AD,Ap (by omega)]
 by_cases w:DP x.Value=false∧¬ (q=true∧x.Value=[])
 ·rw[rO w,rO (by simp[w.1];cases q<;>simp_all)];rfl
 rw[rN w,rN (by intro e;simp at e;exact w ⟨e.1,by rintro⟨a,b⟩;simp[a,b] at e⟩)]
 by_cases B:k=0
 ·subst B;rfl
 ·have C:decide ((0:Int)<(k:Int))=true:=by simp;omega
  rw[C,FC (by omega) (by omega)]
  simp only[sc,Ak,AD,sE]
  rw[Ae (by omega),AD]
  have:(0<k∧Au l[k-1]!.Name x.Name=false)↔Au l[k-1]!.Name x.Name=false:=by constructor;exact λh=>h.2;exact λh=>⟨by omega,h⟩
  simp only[this]
  cases Au l[k-1]!.Name x.Name<;>rfl
theorem Ex{o:Option Int} : (Az (some (DY o)) λ_:Unit=>some 0)=some (o.getD 0):=by cases o<;>rfl
theorem dM(l:List AC) j(h:Gn l)(m:l.length≤9223372036854775807):NC l j=some (BE l j):=by
 unfold NC
 rw[By (n:=l.length) (Da l j) (λk q=>mL l j h m k q) (by unfold Li;rw[rN (by simp)]),Ex];rfl
theorem Kx(l:List AC) j(h:Gn l)(m:l.length≤9223372036854775807):Ja l j=some (BE l j):=by
 unfold Ja
 rw[By (n:=l.length) (Da l j) (λk q=>dR l j h m k q) (by unfold Ml;rw[rN (by simp)]),Ex];rfl
theorem I7(l:List AC)(h:Gn l)(j:l.length≤9223372036854775807):Gu l=some (BE l false):=by unfold Gu;rw[dM l _ h j];rfl
def BF(l:List AC)(name:List UInt8):List UInt8:=((List.range l.length).findSome? λk=>if l[k]!.Name=name then some l[k]!.Value else none).getD []
theorem Yg{o:Option (List UInt8)} : (Az (some (DY o)) λ_:Unit=>some [])=some (o.getD []):=by cases o<;>rfl
theorem JU(l:List AC) name(m:l.length≤9223372036854775807):FP l name=some (BF l name):=by
 unfold FP
 rw[By (n:=l.length) (λk=>if l[k]!.Name=name then some l[k]!.Value else none) (λk j=>by
  unfold On
  rw[rO (by simpa using j),Ae j,AD,Ap (by omega)]
  generalize l[k]! = x
  by_cases h:x.Name=name<;>simp[h,CI]) (by unfold On;rw[rN (by simp)]),Yg];rfl
theorem I3(l:List AC) name(m:l.length≤9223372036854775807):Fb l name=some (BF l name):=by
 unfold Fb
 rw[By (n:=l.length) (λk=>if l[k]!.Name=name then some l[k]!.Value else none) (λk j=>by
  unfold NY
  rw[rO (by simpa using j),Ae j,AD,Ap (by omega)]
  generalize l[k]! = x
  by_cases h:x.Name=name<;>simp[h,CI]) (by unfold NY;rw[rN (by simp)]),Yg];rfl
def DK:AC:=⟨[],[]⟩
def CO(stp:AC→AC→List AC→List AC):List AC→List AC→List AC→List AC
 | [],[],c=>c
 | x::a,[],c=>CO stp a [] (stp x DK c)
 | [],y::b,c=>CO stp [] b (stp DK y c)
 | x::a,y::b,c=>if Au x.Name y.Name then CO stp a (y::b) (stp x DK c) else if Au y.Name x.Name then CO stp (x::a) b (stp DK y c) else CO stp a b (stp x y c)
  termination_by a b=>a.length+b.length
def QD(stp:AC→AC→List AC→List AC)(a b:List AC)(i j:Nat)(o:List AC):Option ((Int × Int × List AC) ⊕ As Unit (List AC)):=
 if i<a.length∨j<b.length then
  if j=b.length∨(i<a.length∧Au a[i]!.Name b[j]!.Name=true) then some (.inl (((i+1:Nat):Int),(j:Int),stp a[i]! DK o))
  else if i=a.length∨Au b[j]!.Name a[i]!.Name=true then some (.inl ((i:Int),((j+1:Nat):Int),stp DK b[j]! o))
  else some (.inl (((i+1:Nat):Int),((j+1:Nat):Int),stp a[i]! b[j]! o))
 else some (.inr (.ext o))
theorem Pd{l:List AC}{i}(h:i<l.length):l.drop i=l[i]!::l.drop (i+1):=by
 rw[sH h,ri l i h]
theorem fG{f} stp(a b c:List AC) B(l:∀x y o, (stp x y o).length≤o.length+1)
 (U:∀(i j:Nat) (o:List AC), i≤a.length→j≤b.length→o.length+(a.length - i)+(b.length - j)≤B→f (i, j, o)=QD stp a b i j o) (hB:c.length+a.length+b.length≤B):iter f (0, 0, c)=some (.ext (CO stp a b c)) := by
  have key:∀(m i j:Nat) (o:List AC), i≤a.length→j≤b.length→(a.length - i)+(b.length - j)=m→o.length+m≤B→iter f ((i:Int), (j:Int), o)=some (.ext (CO stp (a.drop i) (b.drop j) o)) := by
    intro m
    induction m using Nat.strongRecOn with
    | _ m E =>
      intro i j o M O V X
      have q := U i j o M O (by omega)
      unfold QD at q
      by_cases w:i<a.length
      · rw[Pd w]
        by_cases A:j<b.length
        · rw[Pd A]
          rw[rO (.inl w)] at q
          by_cases F:Au a[i]!.Name b[j]!.Name=true
          · rw[rO (.inr ⟨w, F⟩)] at q
            rw[Bg q, CO, rO F, ← Pd A]
            exact E (m - 1) (by omega) (i+1) j _ (by omega) O (by omega) (by have := l a[i]! DK o;omega)
          · rw[rN (by rintro(h | h);omega;exact F h.2)] at q
            by_cases J:Au b[j]!.Name a[i]!.Name=true
            · rw[rO (.inr J)] at q
              rw[Bg q, CO, rN F, rO J, ← Pd w]
              exact E (m - 1) (by omega) i (j+1) _ M (by omega) (by omega) (by have := l DK b[j]! o;omega)
            · rw[rN (by rintro(h | h);omega;exact J h)] at q
              rw[Bg q, CO, rN F, rN J]
              exact E (m - 2) (by omega) (i+1) (j+1) _ (by omega) (by omega) (by omega) (by have := l a[i]! b[j]! o;omega)
        · have C:j=b.length := by omega
          rw[rO (.inl w), rO (.inl C)] at q
          have hd:b.drop j=[] := by rw[C];simp
          rw[Bg q, hd, CO, ← hd]
          exact E (m - 1) (by omega) (i+1) j _ (by omega) O (by omega) (by have := l a[i]! DK o;omega)
      · have I:i=a.length := by omega
        have hd:a.drop i=[] := by rw[I];simp
        by_cases A:j<b.length
        · rw[rO (.inr A), rN (by rintro(h | h);omega;omega), rO (.inl I)] at q
          rw[Pd A, Bg q, hd, CO, ← hd]
          exact E (m - 1) (by omega) i (j+1) _ M (by omega) (by omega) (by have := l DK b[j]! o;omega)
        · have C:j=b.length := by omega
          rw[rN (by omega)] at q
          have T:b.drop j=[] := by rw[C];simp
          rw[BN q, hd, T, CO]
  exact key _ 0 0 c (s6 _) (s6 _) rfl (by omega)
theorem JJ{o:List AC}{x}(h:o.length+1≤4398046511104):app 32 o [x]=some (o++[x]):=by
 unfold app;rw[rO (by simp;omega)]
def EZ(x y:AC)(o:List AC):List AC:=if y.Name=[] then o++[x] else if y.Value=[] then o else o++[y]
theorem VE(x y o):(EZ x y o).length≤o.length+1:=by unfold EZ;split;simp;split<;>simp
theorem Ot(c:List AC)(x y:AC)(h:c.length+1≤4398046511104):KR c x y=some (EZ x y c):=by
 unfold KR EZ
 rw[JJ h,JJ h]
 by_cases j:y.Name=[]<;>by_cases l:y.Value=[]<;>simp[j,l]
theorem V6(x y:AC):x=y↔x.Name=y.Name∧x.Value=y.Value:=by cases x;cases y;simp
theorem mS(a b:List AC) i j(o:List AC)(M:a.length+b.length≤4398046511104)(U:i≤a.length)(V:j≤b.length)(X:o.length+(a.length-i)+(b.length-j)≤4398046511104):PW a b i j o=QD EZ a b i j o:=by
 unfold PW QD
 by_cases l:i<a.length
 ·rw[rO (by simp;omega),rO (.inl l),Ae l]
  have A:decide ((i:Int)<(a.length:Int))=true:=by simp;omega
  have B:decide ((i:Int)=(a.length:Int))=false:=by simp;omega
  rw[A,B]
  by_cases m:j<b.length
  ·have w:decide ((j:Int)=(b.length:Int))=false:=by simp;omega
   rw[w,Ae m]
   simp only[sc,sE,uY,Ak,AD,sb]
   rw[Ot _ _ _ (by omega),Ot _ _ _ (by omega),Ot _ _ _ (by omega)]
   simp only[AD]
   rw[Ap (by omega),Ap (by omega)]
   simp only[AD]
   have q:¬ j=b.length:=by omega
   have C:¬ i=a.length:=by omega
   simp only[q,C,l,uu,false_or];rfl
  ·have E:j=b.length:=by omega
   have w:decide ((j:Int)=(b.length:Int))=true:=by simp;omega
   rw[w]
   have F:((true==false)&&(true==true))=false:=rfl
   rw[F]
   simp only[Bp,AD,uO]
   rw[rO trivial,rO (.inl E),Ot _ _ _ (by omega),AD,Ap (by omega),AD];rfl
 ·have I:i=a.length:=by omega
  have A:decide ((i:Int)<(a.length:Int))=false:=by simp;omega
  have B:decide ((i:Int)=(a.length:Int))=true:=by simp;omega
  rw[A,B]
  by_cases m:j<b.length
  ·have w:decide ((j:Int)=(b.length:Int))=false:=by simp;omega
   have J:decide ((j:Int)<(b.length:Int))=true:=by simp;omega
   have q:¬ j=b.length:=by omega
   rw[w,J,rO (by rfl),rO (.inr m),Ae m]
   have F:((false==false)&&(false==true))=false:=rfl
   have O:((true==false))=false:=rfl
   rw[F,O]
   simp only[Bp,AD,sb,sR,uO,uQ,tE,ti]
   have T:¬ (j=b.length∨i<a.length∧Au a[i]!.Name b[j]!.Name=true):=by
    intro h;rcases h with h | h
    ·exact q h
    ·exact l h.1
   rw[rN T,rO (.inl I),Ot _ _ _ (by omega),AD,Ap (by omega),AD];rfl
  ·have J:decide ((j:Int)<(b.length:Int))=false:=by simp;omega
   rw[J,rN (by decide),rN (by omega)]
theorem ir(c a b:List AC)(h:c.length+a.length+b.length≤4398046511104):OK c a b=some (CO EZ a b c):=by
 unfold OK
 rw[fG EZ a b c 4398046511104 VE (λi j o l m q=>mS a b i j o (by omega) l m q) h];rfl
theorem TW(a b:List AC)(h:a.length+b.length≤4398046511104):GE a b=some (CO EZ a b []):=by
 unfold GE;rw[ir [] a b (by simpa using h)];rfl
theorem Sn(a b:List AC)(B:a.length≤9223372036854775807):LI a b=some (decide (a=b)):=by
 unfold LI
 by_cases m:a.length=b.length
 ·rw[rN (by simp[m]),By (n:=a.length) (λk=>if decide (a[k]! = b[k]!) then none else some false) (λk w=>by
   unfold M9
   rw[rO (by simpa using w),Ae w,Ae (by omega),AD,AD,Ap (by omega)]
   generalize a[k]! = x
   generalize b[k]! = y
   by_cases h:x=y
   ·subst h;simp[CI]
   ·have A:=h;rw[V6] at A
    simp only[rQ h,Bool.and_true]
    by_cases j:x.Name=y.Name
    ·have q:¬ x.Value=y.Value:=λe=>A ⟨j,e⟩
     simp[j,q,CI]
    ·simp[j,CI]) (by unfold M9;rw[rN (by simp)]),KN,Es]
  by_cases h:a=b
  ·subst h;simp
  ·rw[rQ h]
   have:((List.range a.length).all λk=>decide (a[k]! = b[k]!))=false:=by
    rw[← sO,ry]
    intro l
    apply h
    apply vG m
    intro k j q
    have:=l k (sA.2 j)
    simp only[rT] at this
    rwa [ri a k j,ri b k q] at this
   rw[this];rfl
 ·rw[rO (by simp;omega),rQ (by rintro rfl;exact m rfl)]
theorem MR(a b:List AC)(B:a.length≤9223372036854775807):GH a b=some (decide (a=b)):=by
 unfold GH
 by_cases m:a.length=b.length
 ·rw[rN (by simp[m]),By (n:=a.length) (λk=>if decide (a[k]! = b[k]!) then none else some false) (λk w=>by
   unfold OV
   rw[rO (by simpa using w),Ae w,Ae (by omega),AD,AD,Ap (by omega)]
   generalize a[k]! = x
   generalize b[k]! = y
   by_cases h:x=y
   ·subst h;simp[CI]
   ·have A:=h;rw[V6] at A
    simp only[rQ h,Bool.and_true]
    by_cases j:x.Name=y.Name
    ·have q:¬ x.Value=y.Value:=λe=>A ⟨j,e⟩
     simp[j,q,CI]
    ·simp[j,CI]) (by unfold OV;rw[rN (by simp)]),KN,Es]
  by_cases h:a=b
  ·subst h;simp
  ·rw[rQ h]
   have:((List.range a.length).all λk=>decide (a[k]! = b[k]!))=false:=by
    rw[← sO,ry]
    intro l
    apply h
    apply vG m
    intro k j q
    have:=l k (sA.2 j)
    simp only[rT] at this
    rwa [ri a k j,ri b k q] at this
   rw[this];rfl
 ·rw[rO (by simp;omega),rQ (by rintro rfl;exact m rfl)]
theorem og{α β:Type}[Inhabited α]{f}(l:List α)(stp:β→α→β)(I:β→Nat→Prop)(A:∀b k, k<l.length→I b k→I (stp b l[k]!) (k+1))
 (B:∀b (k:Nat), k<l.length→I b k→f (b, (k:Int))=some (.inl (stp b l[k]!, ((k+1:Nat):Int)))) (C:∀b, f (b, (l.length:Int))=some (.inr b)) (q:β) (E:I q 0):iter f (q, 0)=some (l.foldl stp q) := by
  have key:∀(m k:Nat) (b:β), k+m=l.length→I b k→iter f (b, (k:Int))=some ((l.drop k).foldl stp b) := by
    intro m
    induction m with
    | zero =>
      intro k b F _
      have:k=l.length := by omega
      subst this
      rw[BN (C b)];simp
    | succ m J =>
      intro k b F w
      have j:k<l.length := by omega
      rw[Bg (B b k j w), J (k+1) _ (by omega) (A b k j w), sH j, sm, ri l k j]
  have := key l.length 0 q (by omega) E
  simpa using this
theorem n9{α β:Type}[Inhabited α]{f}(l:List α)(stp:β→α→β)(I:β→Nat→Prop)(A:∀b k, k<l.length→I b k→I (stp b l[k]!) (k+1))
 (B:∀b (k:Nat), k<l.length→I b k→f ((k:Int), b)=some (.inl (((k+1:Nat):Int), stp b l[k]!))) (C:∀b, f ((l.length:Int), b)=some (.inr b)) (q:β) (E:I q 0):iter f (0, q)=some (l.foldl stp q) := by
  have key:∀(m k:Nat) (b:β), k+m=l.length→I b k→iter f ((k:Int), b)=some ((l.drop k).foldl stp b) := by
    intro m
    induction m with
    | zero =>
      intro k b F _
      have:k=l.length := by omega
      subst this
      rw[BN (C b)];simp
    | succ m J =>
      intro k b F w
      have j:k<l.length := by omega
      rw[Bg (B b k j w), J (k+1) _ (by omega) (A b k j w), sH j, sm, ri l k j]
  have := key l.length 0 q (by omega) E
  simpa using this
theorem o5{α γ β:Type}[Inhabited α]{f}(l:List α)(stp:γ × β→α→γ × β)(I:γ × β→Nat→Prop)(A:∀b k, k<l.length→I b k→I (stp b l[k]!) (k+1))
 (B:∀c b (k:Nat), k<l.length→I (c, b) k→f (c, (k:Int), b)=some (.inl ((stp (c, b) l[k]!).1, ((k+1:Nat):Int), (stp (c, b) l[k]!).2))) (C:∀c b, f (c, (l.length:Int), b)=some (.inr (c, b))) (c0:γ) (q:β) (E:I (c0, q) 0) :
    iter f (c0, 0, q)=some (l.foldl stp (c0, q)) := by
  have key:∀(m k:Nat) (b:γ × β), k+m=l.length→I b k→iter f (b.1, (k:Int), b.2)=some ((l.drop k).foldl stp b) := by
    intro m
    induction m with
    | zero =>
      intro k b F _
      have:k=l.length := by omega
      subst this
      rw[BN (C _ _)];simp
    | succ m J =>
      intro k b F w
      have j:k<l.length := by omega
      rw[Bg (B b.1 b.2 k j w), J (k+1) _ (by omega) (A b k j w), sH j, sm, ri l k j]
  have := key l.length 0 (c0, q) (by omega) E
  simpa using this
theorem XG a:Au a []=false:=by cases a<;>rfl
theorem Fl:∀ {a b c:List UInt8},Au a b=true→Au b c=true→Au a c=true
 | _,[],_,h,_=>by rw[XG] at h;cases h
 | _,_::_,[],_,h=>by cases h
 | [],_::_,_::_,_,_=>rfl
 | a::x,b::y,c::z,h,k=>by
  rw[Tl] at h k ⊢
  simp only[re,rT,rZ,beq_iff_eq,uD] at h k ⊢
  rcases h with h | ⟨rfl,h⟩<;>rcases k with k | ⟨rfl,k⟩
  ·left;omega
  ·left;exact h
  ·left;exact k
  ·right;exact⟨rfl,Fl h k⟩
def Ba(l:List AC):Prop:=l.Pairwise λx y=>Au x.Name y.Name=true
def Ao:List AC→List UInt8→Option AC
 | [],_=>none
 | x::l,n=>if x.Name=n then some x else Ao l n
theorem Hu{l}{n}(h:∀e∈l,e.Name≠n):Ao l n=none:=by
 induction l with
 | nil=>rfl
 | cons x l j=>rw[Ao,rN (h x (rn ..)),j λe m=>h e (rj _ m)]
theorem LC{l}{n}{e:AC}(h:Ao l n=some e):e.Name=n∧e∈l:=by
 induction l with
 | nil=>cases h
 | cons x l j=>
  rw[Ao] at h
  split at h
  ·cases h;exact⟨‹_›,rn ..⟩
  ·exact⟨(j h).1,rj _ (j h).2⟩
theorem Ez{a b}(h:Au a b=true):b≠a:=by rintro rfl;rw[JD] at h;cases h
theorem EV{x:AC}{l} : Ba (x::l)↔(∀e∈l,Au x.Name e.Name=true)∧Ba l:=uA
theorem UC:∀ {l m:List AC},Ba l→Ba m→(∀n,Ao l n=Ao m n)→l=m
 | [],[],_,_,_=>rfl
 | [],y::m,_,_,h=>by have:=h y.Name;simp[Ao] at this
 | x::l,[],_,_,h=>by have:=h x.Name;simp[Ao] at this
 | x::l,y::m,F,I,h=>by
  have A:=EV.1 F
  have B:=EV.1 I
  have C:x.Name=y.Name:=by
   rcases j:Au x.Name y.Name with _ | _
   ·rcases q:Au y.Name x.Name with _ | _
    ·have:=Kg x.Name y.Name
     rw[j,q] at this
     simpa using this
    ·have:=h y.Name
     rw[Ao,rN (Ez q),Hu λe w=>Ez (Fl q (A.1 e w)),Ao,rO rfl] at this
     cases this
   ·have:=h x.Name
    rw[Ao,rO rfl,Ao,rN (Ez j),Hu λe w=>Ez (Fl j (B.1 e w))] at this
    cases this
  have J:x=y:=by
   have:=h x.Name
   rw[Ao,rO rfl,Ao,rO C.symm] at this
   exact rx this
  subst J
  rw[UC A.2 B.2 λn=>?_]
  by_cases E:x.Name=n
  ·subst E
   rw[Hu λe w=>Ez (A.1 e w),Hu λe w=>Ez (B.1 e w)]
  ·have:=h n
   rwa [Ao,rN E,Ao,rN E] at this
def DE:List AC→AC→List AC
 | [],a=>[a]
 | x::l,a=>if x.Name=a.Name then a::l else if Au x.Name a.Name=true then x::DE l a else a::x::l
theorem nM{l}{a e}(h:e∈DE l a):e=a∨e∈l:=by
 induction l with
 | nil=>simpa[DE] using h
 | cons x l j=>
  rw[DE] at h
  split at h
  ·rcases sB.1 h with h | h
   ·exact .inl h
   ·exact .inr (rj _ h)
  ·split at h
   ·rcases sB.1 h with h | h
    ·exact .inr (h ▸ rn ..)
    ·rcases j h with h | h
     ·exact .inl h
     ·exact .inr (rj _ h)
   ·rcases sB.1 h with h | h
    ·exact .inl h
    ·exact .inr h
theorem TY{a b}(j:a≠b)(l:¬ Au a b=true):Au b a=true:=by
 have:=Kg a b
 rw[tp.2 l,rQ j] at this
 simpa using this
theorem Tu{l}(a:AC)(h:Ba l):Ba (DE l a):=by
 induction l with
 | nil=>simp[DE,Ba]
 | cons x l B=>
  have q:=EV.1 h
  rw[DE]
  split
  ·rename_i A;exact EV.2 ⟨λe j=>by rw[← A];exact q.1 e j,q.2⟩
  ·rename_i A
   split
   ·rename_i m
    exact EV.2 ⟨λe j=>by rcases nM j with rfl | j;exact m;exact q.1 e j,B q.2⟩
   ·rename_i m
    have w:=TY A m
    exact EV.2 ⟨λe j=>by rcases sB.1 j with rfl | j;exact w;exact Fl w (q.1 e j),h⟩
theorem SJ l(a:AC) n:Ao (DE l a) n=if a.Name=n then some a else Ao l n:=by
 induction l with
 | nil=>simp[DE,Ao]
 | cons x l m=>
  rw[DE]
  split
  ·rename_i j
   rw[Ao,Ao]
   by_cases h:a.Name=n
   ·rw[rO h,rO h]
   ·rw[rN h,rN h,rN (by rw[j];exact h)]
  ·rename_i j
   split
   ·rw[Ao,Ao,m]
    by_cases h:a.Name=n
    ·rw[rO h,rN (by rw[← h];exact j),rO h]
    ·rw[rN h,rN h]
   ·rw[Ao]
theorem Uc(l:List AC) a:(DE l a).length≤l.length+1:=by
 induction l with
 | nil=>simp[DE]
 | cons x l j=>rw[DE];split;simp;split;simp;omega;simp
def Dz(a:AC)(s:Bool × List AC)(x:AC):Bool × List AC:=
 let j:=if s.1=false∧Au x.Name a.Name=false then(true,s.2++[a]) else s
 if x.Name=a.Name then j else(j.1,j.2++[x])
theorem TF(a:AC):∀(l:List AC) (o:List AC),(∀e∈l,Au a.Name e.Name=true)→l.foldl (Dz a) (true,o)=(true,o++l)
 | [],o,_=>by simp
 | x::l,o,h=>by
  have j:=h x (rn ..)
  have:Dz a (true,o) x=(true,o++[x]):=by simp[Dz,Ez j]
  rw[sm,this,TF a l _ λe m=>h e (rj _ m)]
  simp
theorem Xa(a:AC):∀(l:List AC) (o:List AC),Ba l→(let s:=l.foldl (Dz a) (false,o);if s.1 then s.2 else s.2++[a])=o++DE l a
 | [],o,_=>by simp[DE]
 | x::l,o,h=>by
  have q:=EV.1 h
  rw[sm,DE]
  by_cases m:x.Name=a.Name
  ·have B:Au x.Name a.Name=false:=by rw[m];exact JD _
   have:Dz a (false,o) x=(true,o++[a]):=by simp[Dz,m,JD]
   rw[this,TF a l _ λe w=>by rw[← m];exact q.1 e w,rO m]
   simp
  ·by_cases j:Au x.Name a.Name=true
   ·have:Dz a (false,o) x=(false,o++[x]):=by simp[Dz,m,j]
    rw[this,Xa a l _ q.2,rN m,rO j]
    simp
   ·have A:=TY m j
    have:Dz a (false,o) x=(true,o++[a]++[x]):=by simp[Dz,m,tp.2 j]
    rw[this,TF a l _ λe w=>Fl A (q.1 e w),rN m,rN j]
    simp
theorem Yu(a:AC) s(x:AC):(Dz a s x).2.length≤s.2.length+2:=by
 unfold Dz
 have:(if s.1=false∧Au x.Name a.Name=false then(true,s.2++[a]) else s).2.length≤s.2.length+1:=by split<;>simp
 generalize (if s.1=false∧Au x.Name a.Name=false then(true,s.2++[a]) else s)=t at this
 by_cases j:x.Name=a.Name
 ·simp only[j,uQ];omega
 ·simp only[j,ti,sI,tO];omega
theorem Xp(l:List AC)(a:AC)(C:Ba l)(h:l.length≤1099511627776):Ir l a=some (DE l a):=by
 unfold Ir
 rw[o5 l (Dz a) (λs k=>s.2.length≤2 * k) (λb k _ w=>by have:=Yu a b l[k]!;show(Dz a b l[k]!).2.length≤_;omega) (λc b k A w=>by
  have E:b.length≤2 * k:=w
  unfold Nj
  rw[rO (by simpa using A),Ae A,Ap (by omega)]
  simp only[AD]
  generalize l[k]! = x
  have F:app 32 b [a]=some (b++[a]):=JJ (by omega)
  have B:app 32 b [x]=some (b++[x]):=JJ (by omega)
  have I:app 32 (b++[a]) [x]=some (b++[a]++[x]):=JJ (by simp;omega)
  cases c
  ·simp only[tJ,sc,Ak,AD,sE]
   unfold Dz
   cases M:Au x.Name a.Name
   ·by_cases q:x.Name=a.Name<;>simp[F,I,q]
   ·by_cases q:x.Name=a.Name<;>simp[B,q]
  ·have:((!true)==true)=false:=rfl
   rw[this,Bp]
   simp only[AD,tQ,sR,tE,ti,BW]
   unfold Dz
   by_cases q:x.Name=a.Name<;>simp[B,q]) (λc b=>by unfold Nj;rw[rN (by simp)]) false [] (by simp)]
 have hp:=Xa a l [] C
 have j:(l.foldl (Dz a) (false,([]:List AC))).2.length≤2 * l.length:=by
  have:∀(m:List AC) (s:Bool × List AC),(m.foldl (Dz a) s).2.length≤s.2.length+2 * m.length:=by
   intro m
   induction m with
   | nil=>intro s;simp
   | cons x m J=>intro s;rw[sm];have:=J (Dz a s x);have:=Yu a s x;simp only[sL];omega
  have:=this l (false,[])
  simpa using this
 generalize l.foldl (Dz a) (false,([]:List AC))=s at hp j
 obtain⟨c,o⟩:=s
 simp only[BW]
 cases c
 ·simp only[tJ,uQ]
  rw[JJ (by simp at j;omega)]
  simpa using hp
 ·simpa using hp
def Di(g:AC→AC→List AC):List AC→List AC→List AC
 | [],[]=>[]
 | x::a,[]=>g x DK++Di g a []
 | [],y::b=>g DK y++Di g [] b
 | x::a,y::b=>if Au x.Name y.Name then g x DK++Di g a (y::b) else if Au y.Name x.Name then g DK y++Di g (x::a) b else g x y++Di g a b
  termination_by a b=>a.length+b.length
theorem il stp g(h:∀x y o,stp x y o=o++g x y):∀(m:Nat) (a b c:List AC),a.length+b.length=m→CO stp a b c=c++Di g a b:=by
 intro m
 induction m using Nat.strongRecOn with
 | _ m l=>
  intro a b c j
  cases a with
  | nil=>
   cases b with
   | nil=>simp[CO,Di]
   | cons y b=>rw[CO,Di,l (m-1) (by simp at j;omega) [] b _ (by simp at j ⊢;omega),h];simp
  | cons x a=>
   cases b with
   | nil=>rw[CO,Di,l (m-1) (by simp at j;omega) a [] _ (by simp at j ⊢;omega),h];simp
   | cons y b=>
    rw[CO,Di]
    split
    ·rw[l (m-1) (by simp at j;omega) a (y::b) _ (by simp at j ⊢;omega),h];simp
    ·split
     ·rw[l (m-1) (by simp at j;omega) (x::a) b _ (by simp at j ⊢;omega),h];simp
     ·rw[l (m-2) (by simp at j;omega) a b _ (by simp at j ⊢;omega),h];simp
def QJ(l:List AC)(n:List UInt8)(o:Option AC):Prop:=l=o.toList∧∀e,o=some e→e.Name=n
structure PJ(g:AC→AC→List AC)(G:Option AC→Option AC→Option AC):Prop where
 l:∀x:AC,x.Name≠[]→QJ (g x DK) x.Name (G (some x) none)
 r:∀y:AC,y.Name≠[]→QJ (g DK y) y.Name (G none (some y))
 b:∀x y:AC,x.Name=y.Name→x.Name≠[]→QJ (g x y) x.Name (G (some x) (some y))
 n:G none none=none
theorem dN{o:Option AC}{j}{rest}(A:∀e,o=some e→e.Name=j)(m:∀e∈rest,Au j e.Name=true)(q:Ba rest):Ba (o.toList++rest)∧∀n,Ao (o.toList++rest) n=if j=n then o else Ao rest n:=by
 cases o with
 | none=>
  refine⟨q,λn=>?_⟩
  split
  ·rename_i h;subst h;exact Hu λe l=>Ez (m e l)
  ·rfl
 | some x=>
  have w:=A x rfl
  refine⟨EV.2 ⟨λe l=>by rw[w];exact m e l,q⟩,λn=>?_⟩
  show Ao (x::rest) n=_
  rw[Ao,w]
def Nm(l:List AC):Prop:=∀e∈l,e.Name≠[]
theorem eh{g}{G}(hg:PJ g G):∀(m:Nat) (a b:List AC),a.length+b.length=m→Ba a→Ba b→Nm a→Nm b →
  (∀n,(∀e∈a,Au n e.Name=true)→(∀e∈b,Au n e.Name=true)→∀e∈Di g a b,Au n e.Name=true)∧Ba (Di g a b)∧∀n,Ao (Di g a b) n=G (Ao a n) (Ao b n):=by
 intro m
 induction m using Nat.strongRecOn with
 | _ m ih=>
  intro a b U X V T M
  have tail:∀ {l:List AC} {J:List UInt8} {o:Option AC} {a' b':List AC},QJ l J o→a'.length+b'.length<m→Ba a'→Ba b'→Nm a'→Nm b'→(∀e∈a',Au J e.Name=true)→(∀e∈b',Au J e.Name=true) →
    (∀n,Au n J=true→∀e∈l++Di g a' b',Au n e.Name=true)∧Ba (l++Di g a' b')∧∀n,Ao (l++Di g a' b') n=if J=n then o else G (Ao a' n) (Ao b' n):=by
   rintro l J o a' b' ⟨rfl,ho⟩ q Z a0 a1 a2 w C
   obtain⟨i1,i2,i3⟩:=ih _ q a' b' rfl Z a0 a1 a2
   obtain⟨j1,j2⟩:=dN ho (i1 J w C) i2
   refine⟨λn B e j=>?_,j1,λn=>by rw[j2 n,i3 n]⟩
   rcases sk.1 j with j | j
   ·rw[Option.mem_toList] at j;rw[ho e j];exact B
   ·exact Fl B (i1 J w C e j)
  cases a with
  | nil=>
   cases b with
   | nil=>exact⟨λn _ _ e j=>by simp[Di] at j,by simp[Di,Ba],λn=>by simp[Di,Ao,hg.n]⟩
   | cons y b=>
    have w:=EV.1 V
    have hy:=M y (rn ..)
    rw[Di]
    obtain⟨E,F,I⟩:=tail (a':=[]) (b':=b) (hg.r y hy) (by simp at U ⊢;omega) X w.2 T (λe j=>M e (rj _ j)) (λe j=>by cases j) w.1
    refine⟨λn _ h e j=>E n (h y (rn ..)) e j,F,λn=>?_⟩
    rw[I n]
    conv=>rhs;rw[Ao,Ao]
    split
    ·rfl
    ·rfl
  | cons x a=>
   have w:=EV.1 X
   have hx:=T x (rn ..)
   cases b with
   | nil=>
    rw[Di]
    obtain⟨E,F,I⟩:=tail (a':=a) (b':=[]) (hg.l x hx) (by simp at U ⊢;omega) w.2 V (λe j=>T e (rj _ j)) M w.1 (λe j=>by cases j)
    refine⟨λn h _ e j=>E n (h x (rn ..)) e j,F,λn=>?_⟩
    rw[I n]
    conv=>rhs;rw[Ao,Ao]
    split
    ·rfl
    ·rfl
   | cons y b=>
    have C:=EV.1 V
    have hy:=M y (rn ..)
    rw[Di]
    split
    ·rename_i q
     obtain⟨E,F,I⟩:=tail (a':=a) (b':=y::b) (hg.l x hx) (by simp at U ⊢;omega) w.2 V (λe j=>T e (rj _ j)) M w.1 (λe j=>by
      rcases sB.1 j with rfl | j
      ·exact q
      ·exact Fl q (C.1 e j))
     refine⟨λn h _ e j=>E n (h x (rn ..)) e j,F,λn=>?_⟩
     rw[I n]
     by_cases B:x.Name=n
     ·subst B
      rw[rO rfl,Ao,rO rfl,Hu λe j=>by
       rcases sB.1 j with rfl | j
       ·exact Ez q
       ·exact Ez (Fl q (C.1 e j))]
     ·rw[rN B];conv=>rhs;rw[Ao,rN B]
    ·rename_i q
     split
     ·rename_i A
      obtain⟨E,F,I⟩:=tail (a':=x::a) (b':=b) (hg.r y hy) (by simp at U ⊢;omega) X C.2 T (λe j=>M e (rj _ j)) (λe j=>by
       rcases sB.1 j with rfl | j
       ·exact A
       ·exact Fl A (w.1 e j)) C.1
      refine⟨λn _ h e j=>E n (h y (rn ..)) e j,F,λn=>?_⟩
      rw[I n]
      by_cases B:y.Name=n
      ·subst B
       rw[rO rfl]
       conv=>rhs;rw[Hu (l:=x::a) (λe j=>by
        rcases sB.1 j with rfl | j
        ·exact Ez A
        ·exact Ez (Fl A (w.1 e j))),Ao,rO rfl]
      ·rw[rN B];conv=>rhs;arg 2;rw[Ao,rN B]
     ·rename_i A
      have O:x.Name=y.Name:=by
       have:=Kg x.Name y.Name
       rw[tp.2 q,tp.2 A] at this
       simpa using this
      obtain⟨E,F,I⟩:=tail (a':=a) (b':=b) (hg.b x y O hx) (by simp at U ⊢;omega) w.2 C.2 (λe j=>T e (rj _ j)) (λe j=>M e (rj _ j)) w.1 (λe j=>by rw[O];exact C.1 e j)
      refine⟨λn h _ e j=>E n (h x (rn ..)) e j,F,λn=>?_⟩
      rw[I n]
      conv=>rhs;rw[Ao,Ao,← O]
      split<;>rfl
def GR:Option AC→Option AC→Option AC
 | o,none=>o
 | _,some y=>if y.Value=[] then none else some y
theorem RT{stp}{g}{G}(h:∀x y o,stp x y o=o++g x y)(hg:PJ g G){a b}(j:Ba a)(l:Ba b)(m:Nm a)(q:Nm b) :
  Ba (CO stp a b [])∧∀n,Ao (CO stp a b []) n=G (Ao a n) (Ao b n):=by
 rw[il stp g h _ a b [] rfl,se]
 exact(eh hg _ a b rfl j l m q).2
def KP(x y:AC):List AC:=if y.Name=[] then [x] else if y.Value=[] then [] else [y]
theorem Rc:PJ KP GR:=by
 refine⟨λx m=>⟨by simp[KP,GR,DK],by rintro e ⟨⟩;rfl⟩,λy q=>⟨?_,?_⟩,λx y l m=>⟨?_,?_⟩,rfl⟩
 ·simp only[KP,GR,rN q];split<;>rfl
 ·intro e j;simp only[GR] at j;split at j<;>cases j;rfl
 ·rw[l] at m;simp only[KP,GR,rN m];split<;>rfl
 ·intro e j;simp only[GR] at j;split at j<;>cases j;exact l.symm
theorem SB(x y o):EZ x y o=o++KP x y:=by unfold EZ KP;split;rfl;split;simp;rfl
theorem eB{l:List AC}(h:∀k,k+1<l.length→Au l[k]!.Name l[k+1]!.Name=true):Ba l:=by
 induction l with
 | nil=>exact List.Pairwise.nil
 | cons x l w=>
  have m:=w λk A=>by have:=h (k+1) (by simp;omega);simpa using this
  refine EV.2 ⟨λe j=>?_,m⟩
  cases l with
  | nil=>cases j
  | cons y l=>
   have q:Au x.Name y.Name=true:=by have:=h 0 (by simp);simpa using this
   rcases sB.1 j with rfl | j
   ·exact q
   ·exact Fl q ((EV.1 m).1 e j)
theorem FM{l:List AC}{ch:Bool}(h:BE l ch=0):Ba l∧Nm l∧(ch=false→∀e∈l,e.Value≠[]):=by
 have hn:∀k,k<l.length→Da l ch k=none:=by
  intro k hk
  unfold BE at h
  cases hf:(List.range l.length).findSome? (Da l ch) with
  | none=>exact(Uo _ _).1 hf k hk
  | some r=>
   rw[hf] at h
   obtain⟨j,_,hj⟩:=sP hf
   exfalso
   unfold Da at hj
   simp only[sf] at h
   subst h
   repeat' split at hj
   all_goals simp at hj
 have hname:∀k,k<l.length→DR l[k]!.Name=true∧¬ (DP l[k]!.Value=false∧¬ (ch=true∧l[k]!.Value=[]))∧¬ (0<k∧Au l[k-1]!.Name l[k]!.Name=false):=by
  intro k hk
  have:=hn k hk
  unfold Da at this
  split at this
  ·cases this
  ·split at this
   ·cases this
   ·split at this
    ·cases this
    ·exact⟨by rcases hx:DR l[k]!.Name with _ | _;exact absurd hx (by assumption);rfl,‹_›,‹_›⟩
 refine⟨eB λk hk=>?_,λe he=>?_,λhc e he=>?_⟩
 ·have:=(hname (k+1) hk).2.2
  rw[ux] at this
  simpa using this
 ·obtain⟨k,hk,rfl⟩:=sN.1 he
  have:=(hname k hk).1
  rw[ri l k hk] at this
  intro e0
  rw[e0] at this
  simp[DR] at this
 ·obtain⟨k,hk,rfl⟩:=sN.1 he
  have:=(hname k hk).2.1
  rw[ri l k hk,hc] at this
  intro e0
  apply this
  rw[e0]
  exact⟨rfl,by simp⟩
theorem YL(p:AC→Bool)(h:AC→AC)(j:∀x,(h x).Name=x.Name):∀(l o:List AC),Ba l→Ba o →
  Ba (l.foldl (λo x=>if p x then DE o (h x) else o) o)∧∀n,Ao (l.foldl (λo x=>if p x then DE o (h x) else o) o) n=match Ao l n with | some x=>if p x then some (h x) else Ao o n | none=>Ao o n
 | [],o,_,m=>⟨m,λn=>rfl⟩
 | x::l,o,B,m=>by
  have A:=EV.1 B
  have w:Ba (if p x then DE o (h x) else o):=by split;exact Tu _ m;exact m
  obtain⟨C,E⟩:=YL p h j l _ A.2 w
  refine⟨C,λn=>?_⟩
  rw[sm,E n,Ao]
  by_cases q:x.Name=n
  ·subst q
   rw[rO rfl,Hu λe F=>Ez (A.1 e F)]
   cases hp:p x
   ·simp[hp]
   ·simp[hp,SJ,j]
  ·rw[rN q]
   cases I:Ao l n with
   | some z => 
    cases hp:p x
    ·simp[hp]
    ·simp[hp,SJ,j,q]
   | none=>
    cases hp:p x
    ·simp[hp]
    ·simp[hp,SJ,j,q]
theorem nb(p:AC→Bool)(h:AC→AC)(l o:List AC):(l.foldl (λo x=>if p x then DE o (h x) else o) o).length≤o.length+l.length:=by
 induction l generalizing o with
 | nil=>simp
 | cons x l j=>
  rw[sm]
  have m:=j (if p x then DE o (h x) else o)
  have q:(if p x then DE o (h x) else o).length≤o.length+1:=by split;exact Uc _ _;omega
  simp only[sL]
  omega
def Ff(l o:List AC):List AC:=l.foldl (λo x=>if(λ_=>true) x then DE o (id x) else o) o
theorem Tq{l o}(j:Ba l)(m:Ba o):Ba (Ff l o)∧∀n,Ao (Ff l o) n=match Ao l n with | some x=>some x | none=>Ao o n:=by
 obtain⟨q,w⟩:=YL (λ_=>true) id (λ_=>rfl) l o j m
 refine⟨q,λn=>?_⟩
 unfold Ff
 rw[w n]
 cases Ao l n<;>simp
theorem X7(l o:List AC):(Ff l o).length≤o.length+l.length:=nb _ _ _ _
theorem ZG{f}(l o:List AC)(q:Ba o)(C:o.length+l.length≤1099511627776)
 (w:∀b (k:Nat), k<l.length→f (b, (k:Int))=(AB (Ir b l[k]!) λo2 => AB (AS .i64 ((k:Int)+1)) λx => some (.inl (o2, x)))) (A:∀b, f (b, (l.length:Int))=some (.inr b)):iter f (o, 0)=some (Ff l o) := by
  unfold Ff
  refine og l _ (λb k => Ba b∧b.length≤o.length+k) (λb k m ⟨j, B⟩ => ?_) (λb k m ⟨j, B⟩ => ?_) A o ⟨q, by omega⟩
  · have := Uc b l[k]!
    exact⟨Tu _ j, by show(DE b l[k]!).length≤_;omega⟩
  · rw[w b k m, Xp b _ j (by omega), AD, Ap (by omega)];rfl
def FJ(l:List AC):List AC:=l.filter λa=>!(a.Value=[])
theorem oE{l}(h:Ba l):Ba (FJ l)∧∀n,Ao (FJ l) n=(Ao l n).filter λa=>!(a.Value=[]):=by
 induction l with
 | nil=>exact⟨List.Pairwise.nil,λn=>rfl⟩
 | cons x l C=>
  have w:=EV.1 h
  obtain⟨A,B⟩:=C w.2
  have j:∀e∈FJ l,Au x.Name e.Name=true:=λe q=>w.1 e (tS.1 q).1
  by_cases m:x.Value=[]
  ·have:FJ (x::l)=FJ l:=by simp[FJ,m]
   rw[this]
   refine⟨A,λn=>?_⟩
   rw[Ao]
   split
   ·rename_i E;subst E
    rw[Hu λe q=>Ez (j e q)]
    simp[Option.filter,m]
   ·exact B n
  ·have:FJ (x::l)=x::FJ l:=by simp[FJ,m]
   rw[this]
   refine⟨EV.2 ⟨j,A⟩,λn=>?_⟩
   rw[Ao,Ao]
   split
   ·simp[Option.filter,m]
   ·exact B n
theorem X0(l q:List AC)(C:Ba l)(hc:Ba q)(h:l.length+q.length≤1099511627776):Gg l q=some (FJ (Ff q (Ff l []))):=by
 unfold Gg
 have B:Ba ([]:List AC):=List.Pairwise.nil
 have E:=(Tq C B).1
 have A:=X7 l []
 have F:=X7 q (Ff l [])
 rw[ZG l [] B (by simp;omega) (λb k j=>by unfold NS;rw[rO (by simpa using j),Ae j];rfl) (λb=>by unfold NS;rw[rN (by simp)]),AD,
  ZG q _ E (by simp at A;omega) (λb k j=>by unfold Oa;rw[rO (by simpa using j),Ae j];rfl) (λb=>by unfold Oa;rw[rN (by simp)]),AD]
 generalize Ff q (Ff l [])=r at F
 rw[n9 r (λo x=>if x.Value=[] then o else o++[x]) (λb k=>b.length≤k) (λb k j I=>by split;omega;simp;omega) (λb k j I=>by
  unfold OP
  rw[rO (by simpa using j),Ae j,AD,Ap (by simp at A;omega)]
  generalize r[k]! = x
  by_cases w:x.Value=[]
  ·simp[w]
  ·have:=JJ (o:=b) (x:=x) (by simp at A;omega)
   simp[w,this]) (λb=>by unfold OP;rw[rN (by simp)]) [] (by simp),AD]
 have:∀(m o:List AC),m.foldl (λo x=>if x.Value=[] then o else o++[x]) o=o++FJ m:=by
  intro m
  induction m with
  | nil=>intro o;simp[FJ]
  | cons x m J=>
   intro o
   rw[sm,J]
   by_cases w:x.Value=[]
   ·simp[w,FJ]
   ·simp[w,FJ]
 rw[this];rfl
theorem Yy{l j}(w:BE l false=0)(A:BE j true=0):CO EZ l j []=FJ (Ff j (Ff l [])):=by
 obtain⟨m,B,v1⟩:=FM w
 obtain⟨q,C,_⟩:=FM A
 have E:Ba ([]:List AC):=List.Pairwise.nil
 obtain⟨F,I⟩:=Tq m E
 obtain⟨J,M⟩:=Tq q F
 obtain⟨O,T⟩:=oE J
 obtain⟨U,m2⟩:=RT SB Rc m q B C
 refine UC U O λn=>?_
 rw[m2,T,M,I]
 cases Z:Ao j n with
 | some y=>
  simp only[GR,Option.filter]
  by_cases V:y.Value=[]<;>simp[V]
 | none=>
  cases X:Ao l n with
  | some x=>simp[GR,Option.filter,v1 rfl x (LC X).2]
  | none=>simp[GR,Ao,Option.filter]
theorem Vc{ρ:Type}(g:AC→Option ρ)(l:List AC):(List.range l.length).findSome? (λk=>g l[k]!)=l.findSome? g:=by
 induction l with
 | nil=>rfl
 | cons a l j=>
  rw[sL,List.range_succ_eq_map,so,List.findSome?_map,so]
  have:(List.range l.length).findSome? ((λk=>g (a::l)[k]!) ∘ Nat.succ)=l.findSome? g:=by
   rw[← j];exact XF λk _=>by simp
  rw[this]
  simp
theorem WB{ρ:Type}(l:List AC)(n:List UInt8)(v:AC→ρ):(l.findSome? λx=>if x.Name=n then some (v x) else none)=(Ao l n).map v:=by
 induction l with
 | nil=>rfl
 | cons x l j=>
  rw[so,Ao]
  by_cases h:x.Name=n
  ·simp[h]
  ·simp[h,j]
theorem kb(l:List AC)(n:List UInt8):BF l n=match Ao l n with | some x=>x.Value | none=>[]:=by
 unfold BF
 rw[Vc (λx=>if x.Name=n then some x.Value else none) l,WB l n (·.Value)]
 cases Ao l n<;>rfl
theorem ez(l:List AC)(n:List UInt8)(m:l.length≤9223372036854775807):Lm l n=some (Ao l n).isSome:=by
 unfold Lm
 rw[By (n:=l.length) (λk=>(λx:AC=>if x.Name=n then some true else none) l[k]!) (λk j=>by
  unfold NR
  rw[rO (by simpa using j),Ae j,AD,Ap (by omega)]
  generalize l[k]! = x
  by_cases h:x.Name=n<;>simp[h,CI]) (by unfold NR;rw[rN (by simp)]),Vc (λx:AC=>if x.Name=n then some true else none) l,WB l n (λ_=>true),Es]
 cases Ao l n<;>rfl
theorem Wo stp(h:∀x y o,(stp x y o).length≤o.length+1):∀(m:Nat) (a b c:List AC),a.length+b.length=m→(CO stp a b c).length≤c.length+m:=by
 intro m
 induction m using Nat.strongRecOn with
 | _ m l=>
  intro a b c j
  cases a with
  | nil=>
   cases b with
   | nil=>simp[CO]
   | cons y b=>rw[CO];have:=l (m-1) (by simp at j;omega) [] b (stp DK y c) (by simp at j ⊢;omega);have:=h DK y c;simp at j;omega
  | cons x a=>
   cases b with
   | nil=>rw[CO];have:=l (m-1) (by simp at j;omega) a [] (stp x DK c) (by simp at j ⊢;omega);have:=h x DK c;simp at j;omega
   | cons y b=>
    rw[CO]
    split
    ·have:=l (m-1) (by simp at j;omega) a (y::b) (stp x DK c) (by simp at j ⊢;omega);have:=h x DK c;simp at j;omega
    ·split
     ·have:=l (m-1) (by simp at j;omega) (x::a) b (stp DK y c) (by simp at j ⊢;omega);have:=h DK y c;simp at j;omega
     ·have:=l (m-2) (by simp at j;omega) a b (stp x y c) (by simp at j ⊢;omega);have:=h x y c;simp at j;omega
theorem Kf{σ β:Type}{f}(n:Nat)(R:Nat→σ→Prop)(Q:β→Prop)
 (A:∀k s, k<n→R k s→(∃j, f s=some (.inl j)∧R (k+1) j)∨(∃b, f s=some (.inr b)∧Q b))
 (B:∀s, R n s→∃b, f s=some (.inr b)∧Q b) {s} (C:R 0 s):∃b, iter f s=some b∧Q b := by
  have key:∀m k s, k+m=n→R k s→∃b, iter f s=some b∧Q b := by
    intro m
    induction m with
    | zero =>
      intro k s E l
      obtain rfl:k=n := by omega
      obtain⟨b, F, I⟩ := B s l
      exact⟨b, BN F, I⟩
    | succ m J =>
      intro k s E l
      rcases A k s (by omega) l with ⟨j, q, w⟩ | ⟨b, q, w⟩
      · obtain⟨b, M, O⟩ := J (k+1) j (by omega) w
        exact⟨b, by rw[Bg q, M], O⟩
      · exact⟨b, BN q, w⟩
  exact key n 0 s (by omega) C
theorem fV{α:Type}[Inhabited α]{l:List α}{k}(h:k<l.length):l.drop k=l[k]!::l.drop (k+1):=by
 rw[sH h,ri l k h]
theorem MW{α:Type}[Inhabited α]{l:List α}{k}(h:k<l.length):l.take (k+1)=l.take k++[l[k]!]:=by
 rw[List.take_add_one,rU h,ri l k h];rfl
theorem Bk{α:Type}[Inhabited α]{l:List α}{k}(h:k<l.length):l[k]! ∈ l:=by
 rw[ri l k h];exact sG h
theorem O8 x j l:Cy x j l=some ((j≤x)&&(x≤l)):=by
 unfold Cy
 rfl
theorem Eo{α σ β γ:Type}[Inhabited α]{f}(l:List α)(mk:γ→Nat→σ)(j:List α→γ→β)(I:Nat→γ→Prop)
 (B:∀k c, k<l.length→I k c→(∃q, f (mk c k)=some (.inl (mk q (k+1)))∧I (k+1) q∧j (l[k]!::l.drop (k+1)) c=j (l.drop (k+1)) q)∨f (mk c k)=some (.inr (j (l[k]!::l.drop (k+1)) c)))
 (C:∀c, I l.length c→f (mk c l.length)=some (.inr (j [] c))) (c:γ) (E:I 0 c) (s:σ) (F:s=mk c 0):iter f s=some (j l c) := by
  subst F
  have key:∀m k c, k+m=l.length→I k c→iter f (mk c k)=some (j (l.drop k) c) := by
    intro m
    induction m with
    | zero =>
      intro k c J w
      obtain rfl:k=l.length := by omega
      rw[List.drop_length]
      exact BN (C c w)
    | succ m M =>
      intro k c J w
      rw[fV (by omega)]
      rcases B k c (by omega) w with ⟨q, A, O, T⟩ | A
      · rw[Bg A, M (k+1) q (by omega) O, T]
      · exact BN A
  have := key l.length 0 c (by omega) E
  rwa [tY] at this
theorem NM{o:List Int}{x}(h:o.length+1≤1099511627776):app 8 o [x]=some (o++[x]):=by
 unfold app;rw[rO (by simp;omega)]
def HC(c:Int):Bool:=(c=9)||(c=10)||((32≤c)&&(c≤126))||((160≤c)&&(c≤55295))||((57344≤c)&&(c≤1114111))
def DO(x:AL):Int:=
 if(x.Char=0∧x.Ref=0)∨(x.Char≠0∧x.Ref≠0) then 4 else if(x.Char≠0∧HC x.Char=false)∨(x.Ref≠0∧¬ (1≤x.Ref∧x.Ref≤1073741824)) then 2 else BE x.Attrs false
def FB(x:AL):Prop:=x.Attrs.length≤9223372036854775807∧Gn x.Attrs
theorem Xd c:La c=some (HC c):=by
 unfold La HC
 congr 1
 rw[sM]
 simp only[re,rZ,rT]
 omega
theorem ZC c:Mq c=some (HC c):=by
 unfold Mq HC
 rw[O8,O8,O8]
 generalize decide (c=9)=j
 generalize decide (c=10)=l
 generalize ((32≤c)&&(c≤126))=a3
 generalize ((160≤c)&&(c≤55295))=a4
 generalize ((57344≤c)&&(c≤1114111))=a5
 cases j<;>cases l<;>cases a3<;>cases a4<;>cases a5<;>rfl
theorem UR(x:AL)(h:FB x):Le x=some (DO x):=by
 unfold Le DO
 rw[Xd,I7 _ h.2 h.1]
 by_cases c:x.Char=0
 ·by_cases r:x.Ref=0
  ·simp[c,r]
  ·by_cases q:1≤x.Ref∧x.Ref≤1073741824
   ·have j:¬ x.Ref<1:=by omega
    have l:¬ 1073741824<x.Ref:=by omega
    simp[c,r,q,j,l]
   ·have j:x.Ref<1∨1073741824<x.Ref:=by omega
    simp[c,r,q,j]
 ·by_cases r:x.Ref=0
  ·cases m:HC x.Char<;>simp[c,r,m]
  ·simp[c,r]
theorem MK(x:AL)(h:FB x):Mu x=some (DO x):=by
 unfold Mu DO
 rw[ZC,Kx _ _ h.2 h.1,O8]
 by_cases c:x.Char=0
 ·by_cases r:x.Ref=0
  ·simp[c,r]
  ·by_cases q:1≤x.Ref∧x.Ref≤1073741824
   ·simp[c,r,q]
   ·have j:((1≤x.Ref)&&(x.Ref≤1073741824))=false:=by rw[← sO];simpa using q
    simp[c,r,q,j]
 ·by_cases r:x.Ref=0
  ·cases l:HC x.Char<;>simp[c,r,l]
  ·simp[c,r]
def GX(f:List AL)(k:Nat):Option Int:=if DO f[k]! = 0 then none else some (DO f[k]!)
def Md(f:List AL):Int:=((List.range f.length).findSome? (GX f)).getD 0
theorem cV(f:List AL)(h:∀x∈f,FB x)(l:f.length≤9223372036854775807):NV f=some (Md f):=by
 unfold NV
 rw[By (n:=f.length) (GX f) (λk j=>by
  unfold N0 GX
  rw[rO (by simpa using j),Ae j,AD,Ap (by omega),UR _ (h _ (Bk j)),AD]
  by_cases e:DO f[k]! = 0
  ·rw[rN (by simpa using e),rO e];rfl
  ·rw[rO (by simpa using e),rN e];rfl) (by unfold N0;rw[rN (by simp)]),Ex];rfl
theorem lj{x:AL}(h:DO x=0):BE x.Attrs false=0:=by
 unfold DO at h
 split at h
 ·cases h
 ·split at h
  ·cases h
  ·exact h
def aM:List UInt8:=[104,105,100,100,101,110]
def nC:List UInt8:=[111,110]
def jm:List UInt8:=[99,117,116]
def lD:List UInt8:=[97,100,100]
def BT(x:AL)(mode:Int):Bool:=(BF x.Attrs aM=nC)||((mode=0)&&!(BF x.Attrs jm=[]))||((mode=1)&&!(BF x.Attrs lD=[]))
def seen(f:List AL)(mode:Int)(k:Nat):Bool:=!BT f[k]! mode||((k+1=f.length)&&(f[k]!.Char=10))
def shown(f:List AL)(mode:Int)(k:Nat):List Int:=((List.range k).filter (seen f mode)).map λ(i:Nat)=>(i:Int)
theorem CY{p}[Decidable p](h:¬ p):(!decide p)=true:=by simp[h]
theorem DZ{p}[Decidable p](h:p):¬ ((!decide p)=true):=by simp[h]
def FZ(l:List AC):Prop:=l.length≤1073741824∧Gn l
theorem FZ.e{x:AL}(h:FZ x.Attrs):FB x:=⟨by have:=h.1;omega,h.2⟩
inductive Un where
 | a (e:AL)
 | r (cut:Bool) (at_:List AC)
theorem Y7{α:Type}{l:List α}{k:Nat}{x:α} : l.set ((k:Int).toNat) x=l.set k x:=by simp
theorem dA{α β:Type}[Inhabited α]{f}(l:List α)(g:α→β)(z:β)
 (h:∀(k:Nat) (out:List β), k<l.length→out.length=l.length→f ((k:Int), out)=some (.inl (((k+1:Nat):Int), out.set k (g l[k]!)))) (j:∀out, f ((l.length:Int), out)=some (.inr out)) :
    iter f (0, List.replicate l.length z)=some (l.map g) := by
  have key:∃r, iter f (0, List.replicate l.length z)=some r∧r=l.map g := by
    refine Kf l.length (λk q => q=((k:Int), (l.take k).map g++List.replicate (l.length - k) z)) _ ?_ ?_ (by simp)
    · rintro k q w rfl
      refine .inl ⟨_, h k _ w (by simp;omega), ?_⟩
      congr 1
      obtain⟨m, A⟩:∃m, l.length - k=m+1 := ⟨l.length - k - 1, by omega⟩
      rw[A, List.replicate_succ, MW w, tC, uj _ _ (by rw[rt, sp];omega), show l.length - (k+1)=m by omega]
      have:k - ((l.take k).map g).length=0 := by simp;omega
      rw[this, List.set_cons_zero, sg];rfl
    · rintro q rfl
      refine⟨_, j _, by simp⟩
  obtain⟨r, B, C⟩ := key
  rw[B, C]
theorem Ub{l:List AC}(h:l.length≤1073741824):app 32 [] l=some l:=by
 unfold app;rw[rO];rfl;simp;omega
theorem nN{α:Type}{n:Nat}(z:α)(h:n≤4294967296):mk 40 (n:Int) z=some (List.replicate n z):=by
 unfold mk;rw[rO (by omega)];simp
theorem jl(f:List AL)(l:f.length≤4294967296)(h:∀e∈f,FZ e.Attrs):Of f=some f:=by
 unfold Of
 rw[nN _ l,AD]
 have:=dA (f:=λ(a:Int × (List AL))=>Ji f a.1 a.2) f id (AL.mk 0 0 []) (λk out j q=>by
  have m:=(h _ (Bk j)).1
  show Ji f (k:Int) out=_
  unfold Ji
  rw[rO (by simpa using j),Ae j,AD,Ub m,AD,Ae (by omega),AD,Ap (by omega),AD,Y7]
  rfl) (λout=>by
  show Ji f (f.length:Int) out=_
  unfold Ji
  rw[rN (by simp)])
 rw[this,List.map_id];rfl
def Fx(l j:List AC):List AC:=CO EZ l j []
theorem Uu{α:Type}(l:List α)(n:Int)(j:0≤n)(h:n≤l.length):CB l 0 n=some (l.take n.toNat):=by
 unfold CB;rw[rO (by omega)];simp
theorem Xh{α:Type}(l:List α)(n:Int)(j:0≤n)(h:n≤l.length):CB l n (l.length:Int)=some (l.drop n.toNat):=by
 unfold CB;rw[rO (by omega)]
 congr 1
 rw[tf]
 simp
def VA(j:Bool)(e:AC):Prop:=DR e.Name=true∧(DP e.Value=true∨(j=true∧e.Value=[]))
theorem KH(l:List AC)(ch:Bool):BE l ch=0↔Ba l∧∀e∈l,VA ch e:=by
 constructor
 ·intro h
  refine⟨(FM h).1,λe he=>?_⟩
  obtain⟨k,hk,rfl⟩:=sN.1 he
  have hn:Da l ch k=none:=by
   unfold BE at h
   cases hf:(List.range l.length).findSome? (Da l ch) with
   | none=>exact(Uo _ _).1 hf k hk
   | some r=>
    rw[hf] at h
    obtain⟨j,_,hj⟩:=sP hf
    exfalso
    unfold Da at hj
    simp only[sf] at h
    subst h
    repeat' split at hj
    all_goals simp at hj
  unfold Da at hn
  rw[ri l k hk] at hn
  generalize l[k]=x at hn ⊢
  unfold VA
  by_cases c1:DR x.Name=false
  ·rw[rO c1] at hn;cases hn
  ·rw[rN c1] at hn
   by_cases c2:DP x.Value=false∧¬ (ch=true∧x.Value=[])
   ·rw[rO c2] at hn;cases hn
   ·refine⟨by simpa using c1,?_⟩
    by_cases c3:DP x.Value=true
    ·exact .inl c3
    ·exact .inr (rp λh3=>c2 ⟨by simpa using c3,h3⟩)
 ·rintro⟨hs,hv⟩
  unfold BE
  have:(List.range l.length).findSome? (Da l ch)=none:=by
   rw[sh]
   intro k hk
   have hk:=sA.1 hk
   have h1:=hv _ (Bk hk)
   unfold Da
   unfold VA at h1
   rw[rN (by rw[h1.1];simp),rN (by rintro⟨a1,a2⟩;rcases h1.2 with h2 | h2;rw[a1] at h2;cases h2;exact a2 h2),rN]
   rintro⟨h0,h2⟩
   have:=tM.1 hs (k-1) k (by omega) hk (by omega)
   rw[ri l k hk,ri l (k-1) (by omega)] at h2
   rw[this] at h2;cases h2
  rw[this];rfl
theorem YF:∀ {l:List AC},Ba l→∀e∈l,Ao l e.Name=some e
 | [],_,e,h=>by simp at h
 | x::l,j,e,h=>by
  obtain⟨m,q⟩:=EV.1 j
  rcases sB.1 h with rfl | h
  ·unfold Ao;rw[rO rfl]
  ·have:=Ez (m e h)
   unfold Ao;rw[rN (uR this)]
   exact YF q e h
theorem qK{stp}{g}{G}(h:∀x y o, stp x y o=o++g x y)(hg:PJ g G){a b}{j l q}
 (w:BE a j=0) (A:BE b l=0) (E:∀x y e, (∀z, x=some z→VA j z)→(∀z, y=some z→VA l z)→G x y=some e→VA q e):BE (CO stp a b []) q=0 := by
  obtain⟨F, v1⟩ := (KH a j).1 w
  obtain⟨I, J⟩ := (KH b l).1 A
  obtain⟨B, M⟩ := RT h hg F I (FM w).2.1 (FM A).2.1
  refine(KH _ _).2 ⟨B, λe O => ?_⟩
  have C := YF B e O
  rw[M] at C
  exact E _ _ e (λz m => v1 z (LC m).2) (λz m => J z (LC m).2) C
theorem VA.up{e}{c}(h:VA false e):VA c e:=⟨h.1,.inl (by rcases h.2 with h | h;exact h;exact absurd h.1 (by decide))⟩
theorem Tj{a b}(l:BE a false=0)(m:BE b true=0):BE (Fx a b) false=0:=
 qK SB Rc l m λx y e q w h=>by
  unfold GR at h
  split at h
  ·exact q e h
  ·split at h
   ·cases h
   ·rename_i A
    cases h
    have:=w e rfl
    exact⟨this.1,.inl (by rcases this.2 with j | j;exact j;exact absurd j.2 A)⟩
theorem Kk(a b:List AC):(Fx a b).length≤a.length+b.length:=by
 have:=Wo EZ VE _ a b [] rfl
 simpa[Fx] using this
theorem eS(x y:AL)(h:x.Attrs.length≤1073741824):Pt x y=some (decide (x=y)):=by
 unfold Pt
 rw[MR _ _ (by omega)]
 obtain⟨j,l,m⟩:=x
 obtain⟨q,w,A⟩:=y
 by_cases B:j=q<;>by_cases C:l=w<;>by_cases E:m=A<;>simp[B,C,E,default]
theorem Ug{α:Type}[Inhabited α][DecidableEq α]{a b:List α}(l:a.length=b.length)(h:((List.range a.length).all λk=>decide (a[k]! = b[k]!))=true):a=b:=by
 apply vG l
 intro k j m
 have:=ry.1 h k (sA.2 j)
 simp only[rT] at this
 rwa [ri a k j,ri b k m] at this
theorem Sx{α:Type}[Inhabited α][DecidableEq α](a:List α):((List.range a.length).all λk=>decide (a[k]! = a[k]!))=true:=by
 rw[ry];intro k _;rw[rR rfl]
theorem eK(a b:List AL)(q:a.length≤9223372036854775806)(h:∀e∈a,e.Attrs.length≤1073741824):PM a b=some (decide (a=b)):=by
 unfold PM
 by_cases j:a.length=b.length
 ·rw[rN (by simp[j]),By (n:=a.length) (λk=>if decide (a[k]! = b[k]!) then none else some false) (λk l=>by
   unfold NO
   rw[rO (by simpa using l),Ae l,Ae (by omega),AD,AD,eS _ _ (h _ (Bk l)),AD,Ap (by omega)]
   generalize a[k]! = x
   generalize b[k]! = y
   by_cases h:x=y<;>simp[h,CI]) (by unfold NO;rw[rN (by simp)]),KN,Es]
  by_cases h:a=b
  ·subst h;rw[Sx,rR rfl];rfl
  ·rw[rQ h]
   have:((List.range a.length).all λk=>decide (a[k]! = b[k]!))=false:=by
    rw[← sO];exact λm=>h (Ug j m)
   rw[this];rfl
 ·rw[rO (by simp;omega),rQ (by rintro rfl;exact j rfl)]
theorem PC{κ}(j:∀a,a.Name.length+a.Value.length+1≤κ a){l:List AC}(q:(l.map κ).sum≤1048576):FZ l:=by
 have w:=Lb (μ:=κ) (λa=>by have:=j a;omega) l
 refine⟨by omega,λa m=>?_⟩
 have A:=Hg (μ:=κ) m
 have:=j a
 omega
theorem na{ν}{κ}(j:∀e,(e.Attrs.map κ).sum+1≤ν e)(l:∀a,a.Name.length+a.Value.length+1≤κ a){f:List AL}(q:(f.map ν).sum≤1048576):f.length≤1048576∧∀e∈f,FZ e.Attrs:=by
 have w:=Lb (μ:=ν) (λe=>by have:=j e;omega) f
 refine⟨by omega,λe m=>PC l ?_⟩
 have A:=Hg (μ:=ν) m
 have:=j e
 omega
def W0:WU:=⟨[],0,0⟩
def Ry(f:List AL):Int:=if Md f≠0 then Md f else if f=[]∨f[f.length-1]!.Char≠10 then 11 else 0
theorem lW{f}{k}{r}(h:GX f k=some r):r≠0:=by
 unfold GX at h
 split at h
 ·cases h
 ·rename_i j;cases h;exact j
theorem ZF(f:List AL)(C:f.length≤1073741824):(Az (some (DY ((List.range f.length).findSome? (GX f)))) λ(_:Unit)=>
  AB (gd ((true==true)&&((decide ((f.length:Int)=0))==false)) (AS .i64 ((f.length:Int)-1))) λ(q:Int)=>
  AB (gd ((true==true)&&((decide ((f.length:Int)=0))==false)) (AM f q)) λ(w:AL)=>
  if(true&&(((f.length:Int)=0)||(!(w.Char=10)))) then some (11:Int) else some 0)=some (Ry f):=by
 rw[Es]
 unfold Ry Md
 cases A:(List.range f.length).findSome? (GX f) with
 | some r=>
  have l:r≠0:=by
   obtain⟨k,B⟩:=sP A
   exact lW B.2
  dsimp only [Option.getD]
  rw[rO l]
 | none=>
  dsimp only [Option.getD]
  rw[rN (by decide)]
  by_cases m:f=[]
  ·subst m;rfl
  ·have E:0<f.length:=tL.2 m
   have hd:decide ((f.length:Int)=0)=false:=rQ (by omega)
   rw[hd,show((true==true)&&(false==false))=true from rfl,Ak,show((f.length:Int)-1)=((f.length-1:Nat):Int) by omega,CR (by omega) (by omega),AD,Ak,Ae (by omega),AD]
   by_cases j:f[f.length-1]!.Char=10
   ·rw[rN (by rw[rR j];decide),rN (λh=>h.elim m λh=>h j)]
   ·rw[rO (by rw[rQ j];decide),rO (.inr j)]
theorem YP(f:List AL)(h:∀x∈f,FB x)(l:f.length≤1073741824):FO f true=some (Ry f):=by
 unfold FO
 rw[By (n:=f.length) (GX f) (λk j=>by
  unfold LP GX
  rw[rO (by simpa using j),Ae j,AD,Ap (by omega),UR _ (h _ (Bk j)),AD]
  by_cases e:DO f[k]! = 0
  ·rw[rN (DZ e),rO e];rfl
  ·rw[rO (CY e),rN e];rfl) (by unfold LP;rw[rN (by simp)])]
 exact ZF f l
theorem nR(f:List AL)(h:∀x∈f,FB x)(l:f.length≤1073741824):JQ f true=some (Ry f):=by
 unfold JQ
 rw[By (n:=f.length) (GX f) (λk j=>by
  unfold Kr GX
  rw[rO (by simpa using j),Ae j,AD,Ap (by omega),MK _ (h _ (Bk j)),AD]
  by_cases e:DO f[k]! = 0
  ·rw[rN (DZ e),rO e];rfl
  ·rw[rO (CY e),rN e];rfl) (by unfold Kr;rw[rN (by simp)])]
 exact ZF f l
instance:Inhabited Un:=⟨.r false []⟩
def off(n:List UInt8):AC:=⟨n,[]⟩
theorem je:GP.length=256:=by decide +kernel
theorem lR(s:List UInt8) k(j:k≤s.length):CB s (k:Int) (s.length:Int)=some (s.drop k):=by
 unfold CB
 rw[rO (by omega)]
 congr 1
 rw[tf (by simp),sr]
def Jl(t:Bool)(f:List AL)(k:Nat):Option Int:=if DO f[k]! = 0 then(if t=false∧f[k]!.Ref=0 then some 8 else none) else some (DO f[k]!)
theorem jC{x:AL}(h:DO x=0):(x.Ref=0↔x.Char≠0):=by
 unfold DO at h
 by_cases c:x.Char=0<;>by_cases r:x.Ref=0<;>simp[c,r] at h ⊢
theorem Tk(f:List AL)(h:∀x∈f,FB x)(l:f.length≤1073741824):FO f false=some (((List.range f.length).findSome? (Jl false f)).getD 0):=by
 unfold FO
 rw[By (n:=f.length) (Jl false f) (λk j=>by
  unfold LP Jl
  rw[rO (by simpa using j),Ae j,AD,Ap (by omega),UR _ (h _ (Bk j)),AD]
  generalize f[k]! = x
  by_cases e:DO x=0
  ·rw[rN (DZ e),rO e]
   by_cases r:x.Ref=0
   ·rw[rO (show(!false&&(x.Ref=0))=true by rw[rR r];rfl),rO ⟨rfl,r⟩];rfl
   ·rw[rN (show ¬ (!false&&(x.Ref=0))=true by rw[rQ r];decide),rN (λh=>r h.2)];rfl
  ·rw[rO (CY e),rN e];rfl) (by unfold LP;rw[rN (by simp)])]
 cases (List.range f.length).findSome? (Jl false f)<;>rfl
theorem Zk(f:List AL)(h:∀x∈f,FB x)(q:f.length≤1073741824):JQ f false=some (((List.range f.length).findSome? (Jl false f)).getD 0):=by
 unfold JQ
 rw[By (n:=f.length) (Jl false f) (λk j=>by
  unfold Kr Jl
  rw[rO (by simpa using j),Ae j,AD,Ap (by omega),MK _ (h _ (Bk j)),AD]
  generalize f[k]! = x
  by_cases e:DO x=0
  ·rw[rN (DZ e),rO e]
   have m:=jC e
   by_cases r:x.Ref=0
   ·rw[rO (show(!false&&!(x.Char=0))=true by rw[rQ (m.1 r)];rfl),rO ⟨rfl,r⟩];rfl
   ·have l:x.Char=0:=rp λl=>r (m.2 l)
    rw[rN (show ¬ (!false&&!(x.Char=0))=true by rw[rR l];decide),rN (λh=>r h.2)];rfl
  ·rw[rO (CY e),rN e];rfl) (by unfold Kr;rw[rN (by simp)])]
 cases (List.range f.length).findSome? (Jl false f)<;>rfl
theorem cY(f:List AL) t(h:∀x∈f,FB x)(j:f.length≤1073741824):∃r,FO f t=some r∧JQ f t=some r:=by
 cases t
 ·exact⟨_,Tk f h j,Zk f h j⟩
 ·exact⟨_,YP f h j,nR f h j⟩
theorem kx(a b:List AL)(M:a.length≤9223372036854775806)(h:∀e∈a,e.Attrs.length≤1073741824):Uz a b=some (decide (a=b)):=by
 unfold Uz
 by_cases j:a.length=b.length
 ·rw[rN (by simp[j]),By (n:=a.length) (λk=>if decide (a[k]! = b[k]!) then none else some false) (λk l=>by
   unfold UU
   have O:=h _ (Bk l)
   rw[rO (by simpa using l),Ae l,Ae (by omega),AD,AD,Sn _ _ (by omega),Ap (by omega)]
   generalize a[k]! = x
   generalize b[k]! = y
   obtain⟨m,q,w⟩:=x
   obtain⟨A,B,C⟩:=y
   by_cases E:m=A<;>by_cases F:q=B<;>by_cases I:w=C<;>simp[E,F,I,CI,default]) (by unfold UU;rw[rN (by simp)]),KN,Es]
  by_cases h:a=b
  ·subst h;rw[Sx,rR rfl];rfl
  ·rw[rQ h]
   have:((List.range a.length).all λk=>decide (a[k]! = b[k]!))=false:=by
    rw[← sO];exact λJ=>h (Ug j J)
   rw[this];rfl
 ·rw[rO (by simp;omega),rQ (by rintro rfl;exact j rfl)]
theorem nj(f:List AL)(q:f.length≤1073741824):∃r,iter (λ(a:Int × (List Int))=>Fc f a.1 a.2) (0,[])=some r∧r.length≤f.length:=by
 refine Kf f.length (λk l=>l.1=(k:Int)∧l.2.length≤k) _ ?_ ?_ ⟨rfl,by simp⟩
 ·rintro k ⟨x,out⟩ m ⟨rfl,j⟩
  dsimp only at j ⊢
  left
  unfold Fc
  rw[rO (by simpa using m),Ae m,AD]
  by_cases r:f[k]!.Ref=0
  ·rw[rN (DZ r),AD,Ap (by omega),AD]
   exact⟨_,rfl,rfl,by dsimp only;omega⟩
  ·rw[rO (CY r),NM (by omega),AD,AD,Ap (by omega),AD]
   exact⟨_,rfl,rfl,by dsimp only;rw[List.length_append,List.length_singleton];omega⟩
 ·rintro⟨x,out⟩ ⟨rfl,j⟩
  dsimp only at j ⊢
  unfold Fc
  rw[rN (by simp)]
  exact⟨_,rfl,j⟩
theorem Jb{α:Type}[Inhabited α][DecidableEq α]{f}(a b:List α)(j:a.length=b.length)
 (l:∀k:Nat, k<a.length→f k=CI k (if decide (a[k]! = b[k]!) then none else some false)) (m:f a.length=some (.inr (.nrm ()))) :
    (Az (iter f 0) λ(_:Unit) => some true)=some (decide (a=b)) := by
  rw[By (n := a.length) (λk => if decide (a[k]! = b[k]!) then none else some false) l m, KN, Es]
  by_cases h:a=b
  · subst h;rw[Sx, rR rfl];rfl
  · rw[rQ h]
    have:((List.range a.length).all λk => decide (a[k]! = b[k]!))=false := by
      rw[← sO];exact λq => h (Ug j q)
    rw[this];rfl
theorem Wz(x y:Ai):((x.Row=y.Row)&&((x.Col=y.Col)&&((x.H=y.H)&&((x.W=y.W)&&true))))=decide (x=y):=by
 obtain⟨j,l,m,q⟩:=x
 obtain⟨w,A,B,C⟩:=y
 rw[sM];simp
theorem Vl(x y:Ax):((x.Clock=y.Clock)&&((x.Site=y.Site)&&((x.Kind=y.Kind)&&((x.Item=y.Item)&&((x.Parent=y.Parent)&&((x.Place=y.Place)&&((x.Name=y.Name)&&((x.Value=y.Value)&&true))))))))=decide (x=y):=by
 obtain⟨j,l,m,q,w,A,B,C⟩:=x
 obtain⟨E,F,I,J,M,O,T,U⟩:=y
 rw[sM];simp
theorem iD(a b:List Ai)(m:a.length≤9223372036854775806):P0 a b=some (decide (a=b)):=by
 unfold P0
 by_cases j:a.length=b.length
 ·rw[rN (by simp[j])]
  exact Jb a b j (λk l=>by
   unfold PQ
   rw[rO (by simpa using l),Ae l,Ae (by omega),AD,AD,Wz,Ap (by omega)]
   generalize a[k]! = x
   generalize b[k]! = y
   by_cases h:x=y<;>simp[h,CI]) (by unfold PQ;rw[rN (by simp)])
 ·rw[rO (by simp;omega),rQ (by rintro rfl;exact j rfl)]
theorem nn(a b:List Ai)(m:a.length≤9223372036854775806):M4 a b=some (decide (a=b)):=by
 unfold M4
 by_cases j:a.length=b.length
 ·rw[rN (by simp[j])]
  exact Jb a b j (λk l=>by
   unfold PD
   rw[rO (by simpa using l),Ae l,Ae (by omega),AD,AD,Wz,Ap (by omega)]
   generalize a[k]! = x
   generalize b[k]! = y
   by_cases h:x=y<;>simp[h,CI]) (by unfold PD;rw[rN (by simp)])
 ·rw[rO (by simp;omega),rQ (by rintro rfl;exact j rfl)]
theorem hM(a b:List Ax)(m:a.length≤9223372036854775806):Tm a b=some (decide (a=b)):=by
 unfold Tm
 by_cases j:a.length=b.length
 ·rw[rN (by simp[j])]
  exact Jb a b j (λk l=>by
   unfold UA
   rw[rO (by simpa using l),Ae l,Ae (by omega),AD,AD,Vl,Ap (by omega)]
   generalize a[k]! = x
   generalize b[k]! = y
   by_cases h:x=y<;>simp[h,CI]) (by unfold UA;rw[rN (by simp)])
 ·rw[rO (by simp;omega),rQ (by rintro rfl;exact j rfl)]
theorem jB(a b:List Ax)(m:a.length≤9223372036854775806):Oo a b=some (decide (a=b)):=by
 unfold Oo
 by_cases j:a.length=b.length
 ·rw[rN (by simp[j])]
  exact Jb a b j (λk l=>by
   unfold Nz
   rw[rO (by simpa using l),Ae l,Ae (by omega),AD,AD,Vl,Ap (by omega)]
   generalize a[k]! = x
   generalize b[k]! = y
   by_cases h:x=y<;>simp[h,CI]) (by unfold Nz;rw[rN (by simp)])
 ·rw[rO (by simp;omega),rQ (by rintro rfl;exact j rfl)]
theorem oA(x y:Aj)(U:x.Attrs.length≤1073741824):Pj x y=some (decide (x=y)):=by
 unfold Pj
 rw[Sn _ _ (by omega)]
 obtain⟨j,l,m,q,w⟩:=x
 obtain⟨A,B,C,E,F⟩:=y
 by_cases I:j=A<;>by_cases J:l=B<;>by_cases M:m=C<;>by_cases O:q=E<;>by_cases T:w=F<;>simp[I,J,M,O,T,gd,AD]
theorem iu(x y:Aj)(U:x.Attrs.length≤1073741824):Nf x y=some (decide (x=y)):=by
 unfold Nf
 rw[MR _ _ (by omega)]
 obtain⟨j,l,m,q,w⟩:=x
 obtain⟨A,B,C,E,F⟩:=y
 by_cases I:j=A<;>by_cases J:l=B<;>by_cases M:m=C<;>by_cases O:q=E<;>by_cases T:w=F<;>simp[I,J,M,O,T,gd,AD]
theorem lG(a b:List Aj)(m:a.length≤9223372036854775806)(h:∀x∈a,x.Attrs.length≤1073741824):NT a b=some (decide (a=b)):=by
 unfold NT
 by_cases j:a.length=b.length
 ·rw[rN (by simp[j])]
  exact Jb a b j (λk l=>by
   unfold N6
   rw[rO (by simpa using l),Ae l,Ae (by omega),AD,AD,oA _ _ (h _ (Bk l)),AD,Ap (by omega)]
   generalize a[k]! = x
   generalize b[k]! = y
   by_cases h:x=y<;>simp[h,CI]) (by unfold N6;rw[rN (by simp)])
 ·rw[rO (by simp;omega),rQ (by rintro rfl;exact j rfl)]
theorem iB(a b:List Aj)(m:a.length≤9223372036854775806)(h:∀x∈a,x.Attrs.length≤1073741824):OO a b=some (decide (a=b)):=by
 unfold OO
 by_cases j:a.length=b.length
 ·rw[rN (by simp[j])]
  exact Jb a b j (λk l=>by
   unfold Nu
   rw[rO (by simpa using l),Ae l,Ae (by omega),AD,AD,iu _ _ (h _ (Bk l)),AD,Ap (by omega)]
   generalize a[k]! = x
   generalize b[k]! = y
   by_cases h:x=y<;>simp[h,CI]) (by unfold Nu;rw[rN (by simp)])
 ·rw[rO (by simp;omega),rQ (by rintro rfl;exact j rfl)]
def QA(g:Ar):Prop:=g.Cells.length≤1048576∧g.Merges.length≤1048576∧∀x∈g.Cells,FZ x.Attrs
structure NZ(n:AI):Prop where
 at_:FZ n.Attrs
 fl:n.Flow.length≤1048576
 fa:∀e∈n.Flow,FZ e.Attrs
 gr:QA n.Grid
 dr:n.Draw.length≤1048576
def Rd(d:AP):Prop:=d.Nodes.length≤1048576∧∀n∈d.Nodes,NZ n
theorem SK x y(h:QA x):Kv x y=some (decide (x=y)):=by
 obtain⟨l,m,j⟩:=h
 unfold Kv
 rw[iD _ _ (by omega),lG _ _ (by omega) (λe q=>(j e q).1)]
 obtain⟨w,A,B,C⟩:=x
 obtain⟨E,F,I,J⟩:=y
 by_cases l:w=E<;>by_cases m:A=F<;>by_cases j:B=I<;>by_cases M:C=J<;>simp[l,m,j,M,gd,AD]
theorem py x y(h:QA x):Ng x y=some (decide (x=y)):=by
 obtain⟨l,m,j⟩:=h
 unfold Ng
 rw[nn _ _ (by omega),iB _ _ (by omega) (λe q=>(j e q).1)]
 obtain⟨w,A,B,C⟩:=x
 obtain⟨E,F,I,J⟩:=y
 by_cases l:w=E<;>by_cases m:A=F<;>by_cases j:B=I<;>by_cases M:C=J<;>simp[l,m,j,M,gd,AD]
theorem bX x y(h:NZ x):UI x y=some (decide (x=y)):=by
 have ha:=h.at_.1
 have hf:=h.fl
 have hd:=h.dr
 unfold UI
 rw[Sn _ _ (by omega),kx _ _ (by omega) (λe j=>(h.fa e j).1),SK _ _ h.gr,hM _ _ (by omega)]
 obtain⟨l,m,q,w,A,B⟩:=x
 obtain⟨C,E,F,I,J,M⟩:=y
 by_cases O:l=C<;>by_cases T:m=E<;>by_cases U:q=F<;>by_cases V:w=I<;>by_cases X:A=J<;>by_cases Z:B=M<;>simp[O,T,U,V,X,Z,gd,AD]
theorem kp x y(h:NZ x):O4 x y=some (decide (x=y)):=by
 have ha:=h.at_.1
 have hf:=h.fl
 have hd:=h.dr
 unfold O4
 rw[MR _ _ (by omega),eK _ _ (by omega) (λe j=>(h.fa e j).1),py _ _ h.gr,jB _ _ (by omega)]
 obtain⟨l,m,q,w,A,B⟩:=x
 obtain⟨C,E,F,I,J,M⟩:=y
 by_cases O:l=C<;>by_cases T:m=E<;>by_cases U:q=F<;>by_cases V:w=I<;>by_cases X:A=J<;>by_cases Z:B=M<;>simp[O,T,U,V,X,Z,gd,AD]
theorem rG(a b:AP)(h:Rd a):XL a b=some (decide (a.Nodes=b.Nodes)):=by
 unfold XL Vg
 have m:=h.1
 by_cases j:a.Nodes.length=b.Nodes.length
 ·rw[rN (by simp[j]),Jb a.Nodes b.Nodes j (λk l=>by
   unfold Sm
   rw[rO (by simpa using l),Ae l,Ae (by omega),AD,AD,bX _ _ (h.2 _ (Bk l)),AD,Ap (by omega)]
   generalize a.Nodes[k]! = x
   generalize b.Nodes[k]! = y
   by_cases h:x=y<;>simp[h,CI]) (by unfold Sm;rw[rN (by simp)])]
  rfl
 ·rw[rO (by simp;omega),rQ (λe=>j (by rw[e]))];rfl
theorem ow(a b:AP)(h:Rd a):O5 a b=some (decide (a.Nodes=b.Nodes)):=by
 unfold O5
 have m:=h.1
 by_cases j:a.Nodes.length=b.Nodes.length
 ·rw[rN (by simp[j]),Jb a.Nodes b.Nodes j (λk l=>by
   unfold OY
   rw[rO (by simpa using l),Ae l,Ae (by omega),AD,AD,kp _ _ (h.2 _ (Bk l)),AD,Ap (by omega)]
   generalize a.Nodes[k]! = x
   generalize b.Nodes[k]! = y
   by_cases h:x=y<;>simp[h,CI]) (by unfold OY;rw[rN (by simp)])]
 ·rw[rO (by simp;omega),rQ (λe=>j (by rw[e]))]
theorem lN(g:Ar)(A:g.Cells.length≤1048576)(h:∀x∈g.Cells,FZ x.Attrs):iter (λ(a:Int × Ar)=>Km g.Cells a.1 a.2) (0,g)=some g:=by
 have key:∃r,iter (λ(a:Int × Ar)=>Km g.Cells a.1 a.2) (0,g)=some r∧r=g:=by
  refine Kf g.Cells.length (λk l=>l=((k:Int),g)) _ ?_ ?_ rfl
  ·rintro k l j rfl
   left
   refine⟨_,?_,rfl⟩
   dsimp only
   unfold Km
   have m:=(h _ (Bk j)).1
   rw[rO (by simpa using j),Ae j,AD,Ub m,AD,Ap (by omega),AD,Y7]
   have q:g.Cells.set k (Aj.mk g.Cells[k]!.Row g.Cells[k]!.Col g.Cells[k]!.Text g.Cells[k]!.Ref g.Cells[k]!.Attrs)=g.Cells:=by
    rw[show(Aj.mk g.Cells[k]!.Row g.Cells[k]!.Col g.Cells[k]!.Text g.Cells[k]!.Ref g.Cells[k]!.Attrs)=g.Cells[k]! from rfl,ri g.Cells k j]
    exact List.set_getElem_self j
   rw[q]
  ·rintro l rfl
   refine⟨g,?_,rfl⟩
   dsimp only
   unfold Km
   rw[rN (by simp)]
 obtain⟨r,w,rfl⟩:=key
 exact w
theorem T6{α:Type} b(l:List α)(j:b≤128)(h:l.length≤1048576):app b ([]:List α) l=some l:=by
 unfold app
 rw[rO];rfl
 simp only[tx,sF]
 refine⟨?_,by omega⟩
 calc l.length * b≤1048576 * 128:=uS h j
  _≤_:=by decide
theorem mK(n:AI)(h:NZ n):PX n=some n:=by
 unfold PX
 have hg:=h.gr
 have j:=h.fl
 rw[Ub h.at_.1,AD,jl _ (by omega) h.fa,AD,T6 _ _ (by decide) h.dr,AD,T6 _ _ (by decide) hg.2.1,AD,T6 _ _ (by decide) hg.1,AD]
 have:=lN n.Grid hg.1 hg.2.2
 rw[show(Ar.mk n.Grid.Rows n.Grid.Cols n.Grid.Cells n.Grid.Merges)=n.Grid from rfl,this];rfl
theorem Qi{β:Type}(p:Nat→Bool)(F:Nat→β)(l:List Nat):(l.findSome? λk=>if p k then some (F k) else none)=(l.find? p).map F:=by
 induction l with
 | nil=>rfl
 | cons a l j=>rw[so,List.find?_cons];by_cases h:p a=true<;>simp[h,j]
def CQ(l:List AI)(id:Int):Option Nat:=(List.range l.length).find? λk=>decide (l[k]!.ID=id)
theorem FF{l:List AI}{id}{k}(h:CQ l id=some k):k<l.length∧l[k]!.ID=id:=by
 have j:=uN h
 have m:=List.find?_some h
 exact⟨sA.1 j,tR m⟩
theorem RA(d:AP)(id:Int)(l:d.Nodes.length≤1048576):IG d id=some (match CQ d.Nodes id with | some k=>(k:Int) | none=>-1):=by
 unfold IG
 rw[By (n:=d.Nodes.length) (λk=>if decide (d.Nodes[k]!.ID=id) then some (k:Int) else none) (λk j=>by
  unfold Ph
  rw[rO (by simpa using j),Ae j,AD,Ap (by omega)]
  by_cases h:d.Nodes[k]!.ID=id
  ·rw[rO (rR h),rO (rR h)];rfl
  ·rw[rN (by simpa using h),rN (by simpa using h)];rfl) (by unfold Ph;rw[rN (by simp)]),Qi,Es]
 unfold CQ
 cases (List.range d.Nodes.length).find? λk=>decide (d.Nodes[k]!.ID=id)<;>rfl
def F5:AI:=AI.mk 1 0 [] [(AL.mk 0 2 [])] (Ar.mk 0 0 [] []) []
def Cm:AI:=AI.mk 2 1 [] [(AL.mk 10 0 [])] (Ar.mk 0 0 [] []) []
def B9:AP:=AP.mk [F5,Cm]
theorem oz:FB (AL.mk 0 2 []):=⟨by decide,λa j=>by cases j⟩
theorem cW:FB (AL.mk 10 0 []):=⟨by decide,λa j=>by cases j⟩
theorem MA:QA (Ar.mk 0 0 [] []):=⟨by decide,by decide,λa j=>by cases j⟩
theorem JO:FZ []:=⟨by decide,λa j=>by cases j⟩
theorem pa:Rd B9:=by
 refine⟨by decide,λn l=>?_⟩
 have:n=F5∨n=Cm:=by simpa[B9] using l
 rcases this with rfl | rfl
 ·exact⟨JO,by decide,λe j=>by
   have:e=AL.mk 0 2 []:=by simpa[F5] using j
   subst this;exact JO,MA,by decide⟩
 ·exact⟨JO,by decide,λe j=>by
   have:e=AL.mk 10 0 []:=by simpa[Cm] using j
   subst this;exact JO,MA,by decide⟩
theorem Uv:Gu []=some 0:=by rw[I7 _ (λa j=>by cases j) (by decide)];rfl
theorem nW:FO [AL.mk 0 2 []] false=some 0:=by
 rw[Tk _ (λx j=>by
  have:x=AL.mk 0 2 []:=by simpa using j
  subst this;exact oz) (by decide)]
 rfl
theorem pM:FO [AL.mk 10 0 []] true=some 0:=by
 rw[YP _ (λx j=>by
  have:x=AL.mk 10 0 []:=by simpa using j
  subst this;exact cW) (by decide)]
 rfl
theorem R2:Kv (Ar.mk 0 0 [] []) (Ar.mk 0 0 [] [])=some true:=by rw[SK _ _ MA,rR rfl]
theorem nF:Ch F5=some 0:=by
 unfold Ch F5
 dsimp only
 rw[rN (by decide),rN (by decide),Uv,AD,rN (by decide)]
 have t:Fp 0=some false:=rfl
 have l:F6 0=some true:=rfl
 have g:FD 0=some false:=rfl
 have d:F1 0=some false:=rfl
 rw[t,l,g,d,R2]
 show(AB (FO [AL.mk 0 2 []] false) λ(j:Int)=>some j)=some 0
 rw[nW];rfl
theorem V7:Ch Cm=some 0:=by
 unfold Ch Cm
 dsimp only
 rw[rN (by decide),rN (by decide),Uv,AD,rN (by decide)]
 have t:Fp 1=some true:=rfl
 have l:F6 1=some false:=rfl
 have g:FD 1=some false:=rfl
 have d:F1 1=some false:=rfl
 rw[t,l,g,d,R2]
 show(AB (FO [AL.mk 10 0 []] true) λ(j:Int)=>some j)=some 0
 rw[pM];rfl
theorem Gq:GM F5=some [2]:=by
 unfold GM Ke
 have j:(λ(a:Int × (List Int))=>Ey F5.Flow a.1 a.2) (0,[])=some (.inl (1,[2])):=by
  show Ey [AL.mk 0 2 []] 0 []=_
  unfold Ey;rfl
 have l:(λ(a:Int × (List Int))=>Ey F5.Flow a.1 a.2) (1,[2])=some (.inr [2]):=by
  show Ey [AL.mk 0 2 []] 1 [2]=_
  unfold Ey;rfl
 have m:(λ(a:Int × (List Int))=>EB F5 a.1 a.2) (0,[2])=some (.inr [2]):=by
  show EB F5 0 [2]=_
  unfold EB;rfl
 rw[Bg j,BN l,AD,AD,BN m];rfl
theorem nd:GM Cm=some []:=by
 unfold GM Ke
 have j:(λ(a:Int × (List Int))=>Ey Cm.Flow a.1 a.2) (0,[])=some (.inl (1,[])):=by
  show Ey [AL.mk 10 0 []] 0 []=_
  unfold Ey;rfl
 have l:(λ(a:Int × (List Int))=>Ey Cm.Flow a.1 a.2) (1,[])=some (.inr []):=by
  show Ey [AL.mk 10 0 []] 1 []=_
  unfold Ey;rfl
 have m:(λ(a:Int × (List Int))=>EB Cm a.1 a.2) (0,[])=some (.inr []):=by
  show EB Cm 0 []=_
  unfold EB;rfl
 rw[Bg j,BN l,AD,AD,BN m];rfl
theorem fg:FX B9 2=some (1,true):=by
 unfold FX Nq
 have h1:(λ(a:Int × Int)=>E5 B9.Nodes 2 a.1 a.2) (0,(B9.Nodes.length:Int))=some (.inl (0,1)):=by
  show E5 B9.Nodes 2 0 2=_
  unfold E5;decide +kernel
 have h2:(λ(a:Int × Int)=>E5 B9.Nodes 2 a.1 a.2) (0,1)=some (.inl (1,1)):=by
  show E5 B9.Nodes 2 0 1=_
  unfold E5;decide +kernel
 have h3:(λ(a:Int × Int)=>E5 B9.Nodes 2 a.1 a.2) (1,1)=some (.inr 1):=by
  show E5 B9.Nodes 2 1 1=_
  unfold E5;rfl
 rw[Bg h1,Bg h2,BN h3,AD];rfl
theorem dW:Kw 0 1=some true:=by
 unfold Kw
 rw[rO (by decide),AD]
 unfold LO Ow
 have j:(λ(a:Int)=>JF [1,6,7,10,11,12] 1 a) 0=some (.inr (.ext 0)):=by
  show JF [1,6,7,10,11,12] 1 0=_
  unfold JF;rfl
 rw[BN j];rfl
theorem aB:Ej B9 0 [2]=some 0:=by
 unfold Ej
 have j:(λ(a:Int)=>Ci B9 0 [2] a) 0=some (.inl 1):=by
  show Ci B9 0 [2] 0=_
  unfold Ci
  rw[rO (by decide),show AM ([2]:List Int) 0=some 2 from rfl,AD,fg,BW,rN (by decide),show AM B9.Nodes 1=some Cm from rfl,AD,show Cm.Kind=1 from rfl,dW]
  rfl
 have l:(λ(a:Int)=>Ci B9 0 [2] a) 1=some (.inr (.nrm ())):=by
  show Ci B9 0 [2] 1=_
  unfold Ci;rfl
 rw[Bg j,BN l];rfl
theorem cK:Ej B9 1 []=some 0:=by
 unfold Ej
 have j:(λ(a:Int)=>Ci B9 1 [] a) 0=some (.inr (.nrm ())):=by
  show Ci B9 1 [] 0=_
  unfold Ci;rfl
 rw[BN j];rfl
theorem lJ:D2 B9=some 0:=by
 unfold D2
 have j:(λ(a:Int)=>CJ B9 a) 0=some (.inl 1):=by
  show CJ B9 0=_
  unfold CJ
  rw[rO (by decide),show AM B9.Nodes 0=some F5 from rfl,AD,nF];rfl
 have l:(λ(a:Int)=>CJ B9 a) 1=some (.inl 2):=by
  show CJ B9 1=_
  unfold CJ
  rw[rO (by decide),show AM B9.Nodes 1=some Cm from rfl,AD,V7];rfl
 have a3:(λ(a:Int)=>CJ B9 a) 2=some (.inr (.nrm ())):=by
  show CJ B9 2=_
  unfold CJ;rfl
 have m:(λ(a:Int)=>Cc B9 a) 0=some (.inl 1):=by
  show Cc B9 0=_
  unfold Cc
  rw[rO (by decide),show AM B9.Nodes 0=some F5 from rfl,AD,Gq,AD,show F5.Kind=0 from rfl,aB];rfl
 have q:(λ(a:Int)=>Cc B9 a) 1=some (.inl 2):=by
  show Cc B9 1=_
  unfold Cc
  rw[rO (by decide),show AM B9.Nodes 1=some Cm from rfl,AD,nd,AD,show Cm.Kind=1 from rfl,cK];rfl
 have w:(λ(a:Int)=>Cc B9 a) 2=some (.inr (.nrm ())):=by
  show Cc B9 2=_
  unfold Cc;rfl
 rw[rN (by decide),Bg j,Bg l,BN a3,Bg m,Bg q,BN w];rfl
theorem kg:Nb=some true:=by
 unfold Nb
 have j:QF=some B9:=rfl
 have l:Qj [AL.mk 10 0 []]=some B9:=rfl
 have m:Ls=some (AL.mk 10 0 []):=rfl
 rw[j,AD,lJ,AD,rO (by decide),m,AD,l,AD,ow _ _ pa,AD,AD,rR rfl]
 rfl
theorem pW{μ:AI→Nat}{γ:Ar→Nat}{ψ:Aj→Nat}{ρ:Ai→Nat}{δ:Ax→Nat}{ν:AL→Nat}{κ:AC→Nat}
  (m:∀n,(n.Attrs.map κ).sum+(n.Flow.map ν).sum+γ n.Grid+(n.Draw.map δ).sum+1≤μ n) (hg:∀g,(g.Cells.map ψ).sum+(g.Merges.map ρ).sum+1≤γ g)
  (hc:∀c,(c.Attrs.map κ).sum+1≤ψ c) (w:∀r,1≤ρ r) (hd:∀o,1≤δ o) (A:∀e,(e.Attrs.map κ).sum+1≤ν e) (j:∀a,a.Name.length+a.Value.length+1≤κ a)
  {d:AP} (C:(d.Nodes.map μ).sum≤1048576):Rd d:=by
 have E:=Lb (μ:=μ) (λn=>by have:=m n;omega) d.Nodes
 refine⟨by omega,λn B=>?_⟩
 have F:=Hg (μ:=μ) B
 have I:=m n
 have J:=hg n.Grid
 have q:=na (ν:=ν) (κ:=κ) A j (f:=n.Flow) (by omega)
 have M:=Lb (μ:=ψ) (λc=>by have:=hc c;omega) n.Grid.Cells
 have O:=Lb (μ:=ρ) w n.Grid.Merges
 have T:=Lb (μ:=δ) hd n.Draw
 refine⟨PC j (by omega),q.1,q.2,⟨by omega,by omega,λc l=>PC j ?_⟩,by omega⟩
 have U:=Hg (μ:=ψ) l
 have:=hc c
 omega
theorem GN{n:Nat}(h:n<2147483648):IntKind.i32.wrap (n:Int)=(n:Int):=by
 have e:(n:Int) % (2 ^ (32:Nat):Int)=(n:Int):=u9 (by omega) (by omega)
 show(if(true&&((n:Int) % (2 ^ (32:Nat):Int) ≥ (2 ^ (31:Nat):Int)))=true then(n:Int) % (2 ^ (32:Nat):Int)-(2 ^ (32:Nat):Int) else(n:Int) % (2 ^ (32:Nat):Int))=_
 rw[e,rN]
 simp only[sE,rT]
 omega
theorem Vi{n:Nat}(h:n<9223372036854775808):IntKind.i64.wrap (n:Int)=(n:Int):=by
 have e:(n:Int) % (2 ^ (64:Nat):Int)=(n:Int):=u9 (by omega) (by omega)
 show(if(true&&((n:Int) % (2 ^ (64:Nat):Int) ≥ (2 ^ (63:Nat):Int)))=true then(n:Int) % (2 ^ (64:Nat):Int)-(2 ^ (64:Nat):Int) else(n:Int) % (2 ^ (64:Nat):Int))=_
 rw[e,rN]
 simp only[sE,rT]
 omega
theorem Lf(i a b:Nat)(j:b<2 ^ i)(l:a * 2 ^ i+b<2147483648):EX .i32 ((a * 2 ^ i:Nat):Int) (b:Int)=((a * 2 ^ i+b:Nat):Int):=by
 unfold EX
 have m:(BitVec.ofInt 32 ((a * 2 ^ i:Nat):Int) ||| BitVec.ofInt 32 (b:Int)).toNat=a * 2 ^ i+b:=by
  rw[BitVec.toNat_or,BitVec.ofInt_natCast,BitVec.ofInt_natCast,BitVec.toNat_ofNat,BitVec.toNat_ofNat,uZ (by omega),uZ (by omega)]
  rw[← Nat.shiftLeft_eq,Nat.shiftLeft_add_eq_or_of_lt j]
 show IntKind.i32.wrap ((BitVec.ofInt 32 ((a * 2 ^ i:Nat):Int) ||| BitVec.ofInt 32 (b:Int)).toNat:Int)=_
 rw[m];exact GN l
theorem oJ:∀b:Fin 256,Cg .u8 ((b.val:Nat):Int) 31=((b.val % 32:Nat):Int):=by decide +kernel
theorem kG:∀b:Fin 256,Cg .u8 ((b.val:Nat):Int) 15=((b.val % 16:Nat):Int):=by decide +kernel
theorem jw:∀b:Fin 256,Cg .u8 ((b.val:Nat):Int) 7=((b.val % 8:Nat):Int):=by decide +kernel
theorem MQ:∀b:Fin 256,Cg .u8 ((b.val:Nat):Int) 63=((b.val % 64:Nat):Int):=by decide +kernel
theorem Lv(i a:Nat)(j:i≤32)(l:a * 2 ^ i<2147483648):Dq .i32 (a:Int) i=((a * 2 ^ i:Nat):Int):=by
 unfold Dq
 show IntKind.i32.wrap ((a:Int) * 2 ^ (min i 32))=_
 rw[Nat.min_eq_left j,show(a:Int) * 2 ^ i=((a * 2 ^ i:Nat):Int) by push_cast;rfl,GN l]
theorem mT:∀c:Fin 256,GP[c.val]! = (Lib.firstT c.val:Int):=by decide +kernel
theorem cH:∀c:Fin 256,EX .i32 (QV .i32 (IntKind.i32.wrap (c.val:Int)) (F2 .i32 (Dq .i32 (IntKind.i32.wrap 241) 31) 31)) (Cg .i32 65533 (F2 .i32 (Dq .i32 (IntKind.i32.wrap 241) 31) 31))=65533:=by decide +kernel
theorem dn:∀c:Fin 256,IntKind.i64.wrap (Cg .u8 (Lib.firstT c.val:Int) 7)=((Lib.firstT c.val % 8:Nat):Int):=by decide +kernel
theorem fj:∀c:Fin 256,AM ST (F2 .u8 (Lib.firstT c.val:Int) 4)=some (Ip.mk (Lib.accLo (Lib.firstT c.val / 16)) (Lib.accHi (Lib.firstT c.val / 16))):=by decide +kernel
theorem jv:∀c:Fin 256,128≤c.val→Lib.firstT c.val=241∨(2≤Lib.firstT c.val % 8∧Lib.firstT c.val % 8≤4∧Lib.firstT c.val<240):=by decide +kernel
theorem ig(c d:Fin 256):EX .i32 (Dq .i32 (IntKind.i32.wrap (Cg .u8 ((c.val:Nat):Int) 31)) 6) (IntKind.i32.wrap (Cg .u8 ((d.val:Nat):Int) 63))=((c.val % 32 * 64+d.val % 64:Nat):Int):=by
 rw[oJ,MQ,GN (by omega),GN (by omega),Lv 6 _ (by omega) (by omega),Lf 6 _ _ (by omega) (by omega)]
theorem eR(c d e:Fin 256):EX .i32 (EX .i32 (Dq .i32 (IntKind.i32.wrap (Cg .u8 ((c.val:Nat):Int) 15)) 12) (Dq .i32 (IntKind.i32.wrap (Cg .u8 ((d.val:Nat):Int) 63)) 6)) (IntKind.i32.wrap (Cg .u8 ((e.val:Nat):Int) 63)) =
  ((c.val % 16 * 4096+d.val % 64 * 64+e.val % 64:Nat):Int):=by
 rw[kG,MQ,MQ,GN (by omega),GN (by omega),GN (by omega),Lv 12 _ (by omega) (by omega),Lv 6 _ (by omega) (by omega),Lf 12 _ _ (by omega) (by omega),
  show c.val % 16 * 2 ^ 12+d.val % 64 * 2 ^ 6=(c.val % 16 * 64+d.val % 64) * 2 ^ 6 by omega,Lf 6 _ _ (by omega) (by omega)]
theorem d6(c d e f:Fin 256):EX .i32 (EX .i32 (EX .i32 (Dq .i32 (IntKind.i32.wrap (Cg .u8 ((c.val:Nat):Int) 7)) 18) (Dq .i32 (IntKind.i32.wrap (Cg .u8 ((d.val:Nat):Int) 63)) 12)) (Dq .i32 (IntKind.i32.wrap (Cg .u8 ((e.val:Nat):Int) 63)) 6)) (IntKind.i32.wrap (Cg .u8 ((f.val:Nat):Int) 63)) =
  ((c.val % 8 * 262144+d.val % 64 * 4096+e.val % 64 * 64+f.val % 64:Nat):Int):=by
 rw[jw,MQ,MQ,MQ,GN (by omega),GN (by omega),GN (by omega),GN (by omega),Lv 18 _ (by omega) (by omega),Lv 12 _ (by omega) (by omega),Lv 6 _ (by omega) (by omega),Lf 18 _ _ (by omega) (by omega),
  show c.val % 8 * 2 ^ 18+d.val % 64 * 2 ^ 12=(c.val % 8 * 64+d.val % 64) * 2 ^ 12 by omega,Lf 12 _ _ (by omega) (by omega),
  show(c.val % 8 * 64+d.val % 64) * 2 ^ 12+e.val % 64 * 2 ^ 6=((c.val % 8 * 64+d.val % 64) * 64+e.val % 64) * 2 ^ 6 by omega,Lf 6 _ _ (by omega) (by omega)]
theorem Ps(s:List UInt8) k(h:k<s.length):s.getD k 0=s[k]!:=by
 rw[ri s k h,List.getD_eq_getElem?_getD,rU h];rfl
theorem mh(s:List UInt8)(h:s≠[])(j:128≤(s.getD 0 0).toNat):OU s=some (((Lib.decodeL s).1:Int),((Lib.decodeL s).2:Int)):=by
 have l:0<s.length:=tL.2 h
 rw[Lib.decodeL_N]
 unfold OU
 rw[rN (by rw[rT];omega),show(0:Int)=((0:Nat):Int) from rfl,Ae l,AD]
 rw[Ps s 0 l] at j ⊢
 generalize s[0]! = c at j ⊢
 obtain⟨C,hC⟩:∃C:Fin 256,C.val=c.toNat:=⟨⟨c.toNat,c.toNat_lt⟩,rfl⟩
 rw[← hC] at j ⊢
 rw[Ae (l:=GP) (by rw[je];exact C.isLt),AD,mT,fj,dn]
 rcases jv C j with B | ⟨m,q,w⟩
 ·rw[rO (by rw[rT];omega),Lib.bad_eq _ _ _ _ _ C.isLt B,B]
  show some (_,(1:Int))=_
  rw[show((241:Nat):Int)=241 from rfl,cH C];rfl
 ·rw[rN (by rw[rT];omega),AD]
  have A:=Lib.slow_eq s.length C.val (s.getD 1 0).toNat (s.getD 2 0).toNat (s.getD 3 0).toNat l (UInt8.toNat_lt _) (UInt8.toNat_lt _) (UInt8.toNat_lt _) w
  rw[← A]
  generalize hsz:Lib.firstT C.val % 8=sz at m q ⊢
  generalize Lib.accLo (Lib.firstT C.val / 16)=V
  generalize Lib.accHi (Lib.firstT C.val / 16)=X
  unfold Lib.slowN
  by_cases I:s.length<sz
  ·rw[rO (by rw[rT];omega),rO I];rfl
  rw[rN (by rw[rT];omega),rN I,show(1:Int)=((1:Nat):Int) from rfl,Ae (by omega),AD,Ps s 1 (by omega)]
  generalize s[1]! = d
  obtain⟨D,Z⟩:∃D:Fin 256,D.val=d.toNat:=⟨⟨d.toNat,d.toNat_lt⟩,rfl⟩
  rw[← Z]
  by_cases J:D.val<V∨X<D.val
  ·rw[rO (by simp only[re,rT];omega),rO J];rfl
  rw[rN (by simp only[re,rT];omega),rN J]
  by_cases M:sz≤2
  ·rw[rO (by rw[rT];omega),rO M,ig];rfl
  rw[rN (by rw[rT];omega),rN M,show(2:Int)=((2:Nat):Int) from rfl,Ae (by omega),AD,Ps s 2 (by omega)]
  generalize s[2]! = e
  obtain⟨E,hE⟩:∃E:Fin 256,E.val=e.toNat:=⟨⟨e.toNat,e.toNat_lt⟩,rfl⟩
  rw[← hE]
  by_cases O:E.val<128∨191<E.val
  ·rw[rO (by simp only[re,rT];omega),rO O];rfl
  rw[rN (by simp only[re,rT];omega),rN O]
  by_cases T:sz≤3
  ·rw[rO (by rw[rT];omega),rO T,eR];rfl
  rw[rN (by rw[rT];omega),rN T,show(3:Int)=((3:Nat):Int) from rfl,Ae (by omega),AD,Ps s 3 (by omega)]
  generalize s[3]! = f
  obtain⟨F,hF⟩:∃F:Fin 256,F.val=f.toNat:=⟨⟨f.toNat,f.toNat_lt⟩,rfl⟩
  rw[← hF]
  by_cases U:F.val<128∨191<F.val
  ·rw[rO (by simp only[re,rT];omega),rO U];rfl
  rw[rN (by simp only[re,rT];omega),rN U,d6];rfl
theorem oa(s:List UInt8)(h:s≠[]):M3 s=some (((Lib.decodeL s).1:Int),((Lib.decodeL s).2:Int)):=by
 have l:0<s.length:=tL.2 h
 unfold M3
 rw[rQ h,show((!false)==true)=true from rfl,Ak,show(0:Int)=((0:Nat):Int) from rfl,Ae l,AD,tJ,sE]
 by_cases m:(s[0]!).toNat<128
 ·rw[rO (by rw[rT];omega),AD,GN (by omega)]
  obtain⟨c,t,rfl⟩:=List.exists_cons_of_ne_nil h
  have j:c.toNat<128:=m
  rw[Lib.decodeL_ascii c t j];rfl
 ·rw[rN (by rw[rT];omega),mh s h (by rw[Ps s 0 l];omega),BW]
def Ga(r:Nat):Bool:=(r=10)||!HC (r:Int)
def Hj:Nat→List UInt8→Bool
 | 0,_=>true
 | n+1,s=>if s=[] then true else if((Lib.decodeL s).1=65533∧(Lib.decodeL s).2=1)∨Ga (Lib.decodeL s).1=true then false else Hj n (s.drop (Lib.decodeL s).2)
theorem Yi n(s:List UInt8):Hj (n+1) s=if s=[] then true else if((Lib.decodeL s).1=65533∧(Lib.decodeL s).2=1)∨Ga (Lib.decodeL s).1=true then false else Hj n (s.drop (Lib.decodeL s).2):=rfl
def OH:Nat→List UInt8→Bool
 | 0,_=>true
 | n+1,s=>if s=[] then true else if Ga (Lib.decodeL s).1=true then false else OH n (s.drop (Lib.decodeL s).2)
theorem W3 n(s:List UInt8):OH (n+1) s=if s=[] then true else if Ga (Lib.decodeL s).1=true then false else OH n (s.drop (Lib.decodeL s).2):=rfl
theorem oc:∀(n:Nat) (s:List UInt8),s.length≤n→(Lib.validD s&&OH n s)=Hj n s:=by
 intro n
 induction n with
 | zero=>intro s q;obtain rfl:=tP (Nat.le_zero.1 q);rfl
 | succ n w=>
  intro s q
  rw[Yi,W3]
  by_cases j:s=[]
  ·subst j;rfl
  ·have A:=Lib.decodeL_width s
   have B:=tL.2 j
   rw[rN j,rN j,Lib.validD_step s j]
   by_cases l:(Lib.decodeL s).1=65533∧(Lib.decodeL s).2=1
   ·rw[rO l,rO (show((Lib.decodeL s).1=65533∧(Lib.decodeL s).2=1)∨Ga (Lib.decodeL s).1=true from .inl l)];rfl
   ·rw[rN l]
    by_cases m:Ga (Lib.decodeL s).1=true
    ·rw[rO m,rO (.inr m),Bool.and_false]
    ·rw[rN m,rN (by rintro(h | h);exact l h;exact m h)]
     exact w _ (by rw[te];omega)
theorem YK(r:Nat)(h:r≤1114111):IntKind.i64.wrap (r:Int)=(r:Int):=Vi (by omega)
theorem oT(s:List UInt8):O6 s=some (Hj s.length s):=by
 unfold O6
 have key:∀(n:Nat) (s:List UInt8),s.length≤n→(Az (iter (λ(a:(List UInt8))=>FT a) s) λ(_:Unit)=>some true)=some (Hj n s):=by
  intro n
  induction n with
  | zero=>
   intro s hs
   obtain rfl:=tP (Nat.le_zero.1 hs)
   have h1:(λ(a:(List UInt8))=>FT a) []=some (.inr (.nrm ())):=by
    show FT []=_
    unfold FT;rfl
   rw[BN h1];rfl
  | succ n ih=>
   intro s hs
   rw[Yi]
   by_cases hn:s=[]
   ·subst hn
    have h1:(λ(a:(List UInt8))=>FT a) []=some (.inr (.nrm ())):=by
     show FT []=_
     unfold FT;rfl
    rw[BN h1];rfl
   ·have hw:=Lib.decodeL_width s
    have hle:=Lib.decodeL_le s hn
    have hr:=Lib.decodeL_rune s
    have hstep:FT s=if((Lib.decodeL s).1=65533∧(Lib.decodeL s).2=1)∨Ga (Lib.decodeL s).1=true then some (.inr (.ext false)) else some (.inl (s.drop (Lib.decodeL s).2)):=by
     unfold FT Ga
     rw[rO (CY hn),oa s hn,BW,YK _ hr,Xd]
     generalize (Lib.decodeL s).1=r at *
     generalize (Lib.decodeL s).2=w at *
     by_cases h1:r=65533∧w=1
     ·obtain⟨rfl,rfl⟩:=h1
      rw[rO (.inl ⟨rfl,rfl⟩)];rfl
     ·have e1:(((r:Int)=65533)&&((w:Int)=1))=false:=by
       rw[← sO,rZ,rT,rT];omega
      by_cases h2:r=10
      ·subst h2
       rw[rO (.inr (by rfl)),e1];rfl
      ·have e2:(decide ((r:Int)=10))=false:=rQ (by omega)
       rw[e1,e2,rQ h2]
       show(AB (gd true (some (HC (r:Int)))) λ(r3:Bool)=>_)=_
       rw[Ak,AD,lR s w hle,AD]
       cases HC (r:Int)
       ·rw[rO (show(r=65533∧w=1)∨(false||!false)=true from .inr rfl)];rfl
       ·rw[rN (show ¬ ((r=65533∧w=1)∨(false||!true)=true) by rintro(h | h);exact h1 h;exact absurd h (by decide))];rfl
    by_cases hb:((Lib.decodeL s).1=65533∧(Lib.decodeL s).2=1)∨Ga (Lib.decodeL s).1=true
    ·rw[rO hb] at hstep
     rw[BN (f:=λ(a:(List UInt8))=>FT a) hstep,rN hn,rO hb];rfl
    ·rw[rN hb] at hstep
     rw[Bg (f:=λ(a:(List UInt8))=>FT a) hstep,rN hn,rN hb]
     exact ih _ (by rw[te];omega)
 exact key s.length s (rV _)
theorem dx(s:List UInt8) p:GI s p=Lib.decodeL (s.drop p):=(Lib.decodeL_drop ⟨s.toArray⟩ p).symm
theorem lU(s:List UInt8)(hs:s.length≤9223372036854775807):Py s=some (Hj s.length s):=by
 unfold Py Rt SN
 rw[rO hs,AD,← oc s.length s (rV _)]
 cases Lib.validD s with
 | false=>rfl
 | true=>
  rw[rN (by decide),sE]
  have key:∀(n p:Nat),s.length-p≤n→(Az (iter (λ(a:(Nat))=>FY s a) p) λ(_:Unit)=>some true)=some (OH n (s.drop p)):=by
   intro n
   induction n with
   | zero=>
    intro p hp
    have h1:(λ(a:(Nat))=>FY s a) p=some (.inr (.nrm ())):=by
     show FY s p=_
     unfold FY;rw[rN (by rw[rT];omega)]
    rw[BN h1];rfl
   | succ n ih=>
    intro p hp
    rw[W3]
    by_cases hn:s.length≤p
    ·have h1:(λ(a:(Nat))=>FY s a) p=some (.inr (.nrm ())):=by
      show FY s p=_
      unfold FY;rw[rN (by rw[rT];omega)]
     rw[BN h1,rO (s9 hn)];rfl
    ·have hne:s.drop p≠[]:=by
      intro e
      have:=ro List.length e
      rw[te,tx] at this
      omega
     have hw:=Lib.decodeL_width (s.drop p)
     have hr:=Lib.decodeL_rune (s.drop p)
     have hstep:FY s p=if Ga (Lib.decodeL (s.drop p)).1=true then some (.inr (.ext false)) else some (.inl (p+(Lib.decodeL (s.drop p)).2)):=by
      unfold FY Ga
      rw[rO (by rw[rT];omega),dx,YK _ hr,ZC]
      generalize (Lib.decodeL (s.drop p)).1=r at *
      generalize (Lib.decodeL (s.drop p)).2=w at *
      by_cases h2:r=10
      ·subst h2;rfl
      ·rw[rQ h2,rQ (show ¬ ((r:Int)=10) by omega)]
       show(AB (gd true (some (HC (r:Int)))) λ(r3:Bool)=>_)=_
       rw[Ak,AD]
     rw[rN hne]
     by_cases hb:Ga (Lib.decodeL (s.drop p)).1=true
     ·rw[rO hb] at hstep
      rw[BN (f:=λ(a:(Nat))=>FY s a) hstep,rO hb];rfl
     ·rw[rN hb] at hstep
      rw[Bg (f:=λ(a:(Nat))=>FY s a) hstep,rN hb,List.drop_drop]
      exact ih _ (by omega)
  have:=key s.length 0 (by omega)
  rw[tY] at this
  exact this
theorem TN{ρ:Type}{f g}{n}(I:Nat→Prop)(w:I 0)(h:∀k:Nat, k<n→I k→∃o:Option ρ, f k=CI k o∧g k=CI k o∧(o=none→I (k+1)))
 (A:f n=some (.inr (.nrm ()))) (hg:g n=some (.inr (.nrm ()))):∃o:Option ρ, iter f 0=some (DY o)∧iter g 0=some (DY o)∧(o=none→I n) := by
  have key:∀m k:Nat, k+m=n→I k→∃o:Option ρ, iter f (k:Int)=some (DY o)∧iter g (k:Int)=some (DY o)∧(o=none→I n) := by
    intro m
    induction m with
    | zero =>
      intro k B j
      obtain rfl:k=n := by omega
      exact⟨none, BN A, BN hg, λ_ => j⟩
    | succ m C =>
      intro k B j
      obtain⟨o, l, q, E⟩ := h k (by omega) j
      cases o with
      | some r => exact⟨some r, BN l, BN q, λe => by cases e⟩
      | none =>
        obtain⟨o, F, J, M⟩ := C (k+1) (by omega) (E rfl)
        exact⟨o, (Bg l).trans F, (Bg q).trans J, M⟩
  exact key n 0 (by omega) w
theorem RQ x y:GC x y=some (if x<y then -1 else if y<x then 1 else 0):=by
 unfold GC Lp
 rw[rR (rfl:x=x),rR (rfl:y=y),AD,AD,rN (by decide),rN (by decide)]
 by_cases j:x<y
 ·rw[rO (rR j),rO j]
 ·rw[rN (by simpa using j),rN j]
  by_cases l:y<x
  ·rw[rO (rR l),rO l]
  ·rw[rN (by simpa using l),rN l]
theorem Y1 a b:IB [a,b]=some (if a≠0 then a else b):=by
 unfold IB
 by_cases j:a≠0
 ·have m:(λ(x:Int)=>D3 [a,b] x) 0=some (.inr (.ext a)):=by
   show D3 [a,b] 0=_
   unfold D3
   rw[rO (by simp),show AM [a,b] 0=some a from rfl,AD,rO (CY j)]
  rw[BN m,rO j];rfl
 ·have q:a=0:=sC.1 j
  have m:(λ(x:Int)=>D3 [a,b] x) 0=some (.inl 1):=by
   show D3 [a,b] 0=_
   unfold D3
   rw[rO (by simp),show AM [a,b] 0=some a from rfl,AD,rN (DZ q)];rfl
  by_cases A:b≠0
  ·have w:(λ(x:Int)=>D3 [a,b] x) 1=some (.inr (.ext b)):=by
    show D3 [a,b] 1=_
    unfold D3
    rw[rO (by simp),show AM [a,b] 1=some b from rfl,AD,rO (CY A)]
   rw[Bg m,BN w,rN j];rfl
  ·have l:b=0:=sC.1 A
   have w:(λ(x:Int)=>D3 [a,b] x) 1=some (.inl 2):=by
    show D3 [a,b] 1=_
    unfold D3
    rw[rO (by simp),show AM [a,b] 1=some b from rfl,AD,rN (DZ l)];rfl
   have B:(λ(x:Int)=>D3 [a,b] x) 2=some (.inr (.nrm ())):=by
    show D3 [a,b] 2=_
    unfold D3
    rw[rN (by simp)]
   rw[Bg m,Bg w,BN B,rN j,l];rfl
def Bx(a b c d:Int):Int:=if a<b then -1 else if b<a then 1 else if c<d then -1 else if d<c then 1 else 0
theorem X5 a b c d:(if(if a<b then -1 else if b<a then 1 else 0)≠(0:Int) then(if a<b then -1 else if b<a then 1 else 0) else if c<d then -1 else if d<c then 1 else(0:Int))=Bx a b c d:=by
 unfold Bx
 by_cases j:a<b
 ·simp[j]
 ·by_cases l:b<a
  ·simp[j,l]
  ·simp[j,l]
theorem Rf a b c d:0≤Bx a b c d↔(b<a∨(b=a∧d≤c)):=by
 unfold Bx
 split
 ·constructor<;>intro h<;>omega
 ·split
  ·constructor<;>intro h<;>omega
  ·split
   ·constructor<;>intro h<;>omega
   ·split
    ·constructor<;>intro h<;>omega
    ·constructor<;>intro h<;>omega
theorem lQ(a b:Aj):MS a b=some (Bx a.Row b.Row a.Col b.Col):=by
 unfold MS
 rw[RQ,RQ,AD,AD,Y1,AD,X5]
theorem EF x a b:Cy x a b=some (decide (a≤x∧x≤b)):=by
 rw[O8]
 congr 1
 rw[sM];simp
def Ha(rows j:Int)(c:Aj):Prop:=0≤c.Row∧c.Row<rows∧0≤c.Col∧c.Col<j∧0≤c.Ref∧c.Ref≤1073741824
instance (rows cols:Int) (c:Aj):Decidable (Ha rows cols c):=by unfold Ha;infer_instance
def JV(c:Aj):Bool:=(c.Text=[])&&(c.Ref=0)&&(c.Attrs=[])
def Mo(rows l:Int)(j:Bool)(c:Aj):Int:=
 if ¬ Ha rows l c then 2 else if Hj c.Text.length c.Text=false then 23 else if BE c.Attrs false≠0 then BE c.Attrs false else if(!j&&JV c)=true then 4 else 0
def Ie(rows m:Int)(j:Bool)(l:List Aj)(k:Nat):Option Int:=
 if Mo rows m j l[k]!≠0 then some (Mo rows m j l[k]!) else if 0<k∧0≤Bx l[k-1]!.Row l[k]!.Row l[k-1]!.Col l[k]!.Col then some 5 else none
def I1(rows m:Int)(j:Bool)(l:List Aj):Int:=((List.range l.length).findSome? (Ie rows m j l)).getD 0
theorem Vj(l:List AC):decide ((l.length:Int)=0)=decide (l=[]):=by
 rw[sM,rT,rT,← tF];omega
def Rn(c:Aj):Prop:=FZ c.Attrs∧c.Text.length≤1073741824
theorem km(l:List Aj) k(C:k<l.length)(E:l.length≤9223372036854775806) :
  (AB (gd ((decide (0<(k:Int)))==true) (AS .i64 ((k:Int)-1))) λ(q:Int)=>
   AB (gd ((decide (0<(k:Int)))==true) (AM l q)) λ(w:Aj)=>
   AB (gd ((decide (0<(k:Int)))==true) (MS w l[k]!)) λ(A:Int)=>
   if((0<(k:Int))&&(0≤A)) then(some (.inr (.ext 5)):Option (Int ⊕ (As Unit Int))) else(
    AB (AS .i64 ((k:Int)+1)) λ(B:Int)=>some (.inl B)))=CI k (if 0<k∧0≤Bx l[k-1]!.Row l[k]!.Row l[k-1]!.Col l[k]!.Col then some 5 else none):=by
 by_cases m:0<k
 ·rw[rR (show(0:Int)<k by omega),show((true==true):Bool)=true from rfl,Ak,FC m (by omega),AD,Ak,Ae (by omega),AD,Ak,lQ,AD]
  by_cases j:0≤Bx l[k-1]!.Row l[k]!.Row l[k-1]!.Col l[k]!.Col
  ·rw[rO (show(true&&(0≤Bx l[k-1]!.Row l[k]!.Row l[k-1]!.Col l[k]!.Col))=true by rw[rR j];rfl),rO ⟨m,j⟩];rfl
  ·rw[rN (show ¬ (true&&(0≤Bx l[k-1]!.Row l[k]!.Row l[k-1]!.Col l[k]!.Col))=true by rw[rQ j];decide),rN (λh=>j h.2),Ap (by omega)];rfl
 ·obtain rfl:k=0:=by omega
  rw[rN (show ¬ (0<0∧_) from λh=>absurd h.1 (by decide))];rfl
theorem gE rows j q (l:List Aj) (T:l.length≤1073741824) (J:∀c∈l,Rn c):Ns l rows j q=some (I1 rows j q l):=by
 unfold Ns
 rw[By (n:=l.length) (Ie rows j q l) (λk w=>by
  obtain⟨I,U⟩:=J _ (Bk w)
  have C:=km l k w (by omega)
  unfold PE Ie Mo
  rw[rO (by simpa using w),Ae w,AD]
  by_cases A:Ha rows j l[k]!
  ·have E:=A
   unfold Ha at E
   rw[rN (by simp only[re,rT];omega),rN (by simp only[re,rT];omega),oT,AD,I7 _ I.2 (by have:=I.1;omega),AD,C]
   rw[rN (sC.2 A)]
   cases M:Hj l[k]!.Text.length l[k]!.Text with
   | false=>rfl
   | true=>
    rw[rN (show ¬ ((!true)=true) by decide),rN (show ¬ (true=false) by decide)]
    by_cases m:BE l[k]!.Attrs false=0
    ·rw[rN (DZ m),rN (sC.2 m)]
     have O:OR l[k]! = some (JV l[k]!):=by unfold OR JV;rw[Vj]
     rw[O,AD]
     by_cases B:(!q&&JV l[k]!)=true
     ·rw[rO (by rw[Bool.and_comm];exact B),rO B];rfl
     ·rw[rN (by rw[Bool.and_comm];exact B),rN B,rN (show ¬ ((0:Int)≠0) from λh=>h rfl)]
    ·rw[rO (CY m),rO m,rO m];rfl
  ·rw[rO A]
   unfold Ha at A
   by_cases F:((((l[k]!.Row<0)||(rows≤l[k]!.Row))||(l[k]!.Col<0))||(j≤l[k]!.Col))=true
   ·rw[rO F];rfl
   ·rw[rN F,rO (by simp only[re,rT] at F ⊢;omega)];rfl) (by unfold PE;rw[rN (by simp)]),Ex]
 rfl
theorem hU(l:List Aj) k(J:k<l.length)(M:l.length≤9223372036854775806) :
  (AB (gd ((decide (0<(k:Int)))==true) (AS .i64 ((k:Int)-1))) λ(F:Int)=>
      AB (gd ((decide (0<(k:Int)))==true) (AM l F)) λ(j:Aj)=>
      AB (gd ((((decide (0<(k:Int)))==true)&&((decide (l[k]!.Row<j.Row))==false))&&((decide (l[k]!.Row=j.Row))==true)) (AS .i64 ((k:Int)-1))) λ(I:Int)=>
      AB (gd ((((decide (0<(k:Int)))==true)&&((decide (l[k]!.Row<j.Row))==false))&&((decide (l[k]!.Row=j.Row))==true)) (AM l I)) λ(w:Aj)=>
      if((0<(k:Int))&&((l[k]!.Row<j.Row)||((l[k]!.Row=j.Row)&&(l[k]!.Col≤w.Col)))) then(some (.inr (.ext 5)):Option (Int ⊕ (As Unit Int))) else(
       AB (AS .i64 ((k:Int)+1)) λ(A:Int)=>some (.inl A)))=CI k (if 0<k∧0≤Bx l[k-1]!.Row l[k]!.Row l[k-1]!.Col l[k]!.Col then some 5 else none):=by
 have m:=Rf l[k-1]!.Row l[k]!.Row l[k-1]!.Col l[k]!.Col
 by_cases B:0<k
 ·rw[rR (show(0:Int)<k by omega),show((true==true):Bool)=true from rfl,Ak,FC B (by omega),AD,Ak,Ae (show k-1<l.length by omega),AD]
  by_cases q:l[k]!.Row<l[k-1]!.Row
  ·rw[rR q,rO (show 0<k∧0≤Bx l[k-1]!.Row l[k]!.Row l[k-1]!.Col l[k]!.Col from⟨B,m.2 (.inl q)⟩)];rfl
  ·by_cases C:l[k]!.Row=l[k-1]!.Row
   ·rw[rQ q,rR C,show(((true&&(false==false))&&(true==true)):Bool)=true from rfl,Ak,AD,Ak,Ae (show k-1<l.length by omega),AD]
    by_cases E:l[k]!.Col≤l[k-1]!.Col
    ·rw[rR E,rO (show 0<k∧0≤Bx l[k-1]!.Row l[k]!.Row l[k-1]!.Col l[k]!.Col from⟨B,m.2 (.inr ⟨C,E⟩)⟩)];rfl
    ·rw[rQ E,rN (show ¬ (0<k∧0≤Bx l[k-1]!.Row l[k]!.Row l[k-1]!.Col l[k]!.Col) from λh=>by have:=m.1 h.2;omega),Ap (by omega)];rfl
   ·rw[rQ q,rQ C,rN (show ¬ (0<k∧0≤Bx l[k-1]!.Row l[k]!.Row l[k-1]!.Col l[k]!.Col) from λh=>by have:=m.1 h.2;omega),Ap (by omega)];rfl
 ·obtain rfl:k=0:=by omega
  rw[rN (show ¬ (0<0∧_) from λh=>absurd h.1 (by decide))];rfl
theorem mY rows j q (l:List Aj) (U:l.length≤1073741824) (J:∀c∈l,Rn c) (V:0≤rows∧rows≤2147483647) (M:0≤j∧j≤2147483647):Pv l rows j q=some (I1 rows j q l):=by
 unfold Pv
 rw[By (n:=l.length) (Ie rows j q l) (λk w=>by
  obtain⟨E,X⟩:=J _ (Bk w)
  have B:=hU l k w (by omega)
  unfold M7 Ie Mo
  rw[rO (by simpa using w),Ae w,AD,CR (by omega) (by omega),AD,EF,AD,EF,B]
  by_cases A:Ha rows j l[k]!
  ·have C:=A
   unfold Ha at C
   rw[rN (sC.2 A),rR (show 0≤l[k]!.Row∧l[k]!.Row≤rows-1 by omega),show((!true)==false)=true from rfl,Ak,CR (by omega) (by omega),AD,Ak,EF,AD,rR (show 0≤l[k]!.Col∧l[k]!.Col≤j-1 by omega),
    show(((!true)||(!true))==false)=true from rfl,Ak,AD,rR (show 0≤l[k]!.Ref∧l[k]!.Ref≤1073741824 by omega),rN (by decide),lU _ (by omega),AD,Kx _ _ E.2 (by have:=E.1;omega),AD]
   cases O:Hj l[k]!.Text.length l[k]!.Text with
   | false=>rfl
   | true=>
    rw[rN (show ¬ ((!true)=true) by decide),rN (show ¬ (true=false) by decide)]
    by_cases m:BE l[k]!.Attrs false=0
    ·rw[rN (DZ m),rN (sC.2 m)]
     have T:Pg l[k]! = some (JV l[k]!):=by unfold Pg JV;rw[Vj]
     rw[T]
     cases q with
     | true=>rfl
     | false=>
      show(AB (gd true (some (JV l[k]!))) λ(Z:Bool)=>_)=_
      rw[Ak,AD]
      cases JV l[k]!<;>rfl
    ·rw[rO (CY m),rO m,rO m];rfl
  ·rw[rO A]
   unfold Ha at A
   by_cases F:0≤l[k]!.Row∧l[k]!.Row≤rows-1
   ·rw[rR F,show((!true)==false)=true from rfl,Ak,CR (by omega) (by omega),AD,Ak,EF,AD]
    by_cases I:0≤l[k]!.Col∧l[k]!.Col≤j-1
    ·rw[rR I,show(((!true)||(!true))==false)=true from rfl,Ak,AD,rQ (show ¬ (0≤l[k]!.Ref∧l[k]!.Ref≤1073741824) by omega)];rfl
    ·rw[rQ I];rfl
   ·rw[rQ F];rfl) (by unfold M7;rw[rN (by simp)]),Ex]
 rfl
theorem X4{ρ:Type}{f}{n}(g:Nat→Option ρ)(w:∀k:Nat, k<n→(∀j, j<k→g j=none)→f k=CI k (g k))
 (A:f n=some (.inr (.nrm ()))):iter f 0=some (DY ((List.range n).findSome? g)) := by
  have key:∀m k:Nat, k+m=n→(∀j, j<k→g j=none)→iter f (k:Int)=some (DY ((List.range' k m).findSome? g)) := by
    intro m
    induction m with
    | zero =>
      intro k B _
      obtain rfl:k=n := by omega
      rw[BN A];rfl
    | succ m C =>
      intro k B l
      have q := w k (by omega) l
      rw[List.range'_succ, so]
      cases hg:g k with
      | some r => rw[hg] at q;rw[BN q];rfl
      | none =>
        rw[hg] at q
        rw[Bg q]
        exact C (k+1) (by omega) (λj E => by
          by_cases e:j=k
          · rw[e];exact hg
          · exact l j (by omega))
  have := key n 0 (by omega) (λj l => absurd l (Nat.not_lt_zero _))
  rw[ul]
  exact this
def DB(rows j:Int)(r:Ai):Prop:=0≤r.Row∧r.Row<rows∧0≤r.Col∧r.Col<j∧1≤r.H∧r.H≤rows-r.Row∧1≤r.W∧r.W≤j-r.Col
instance (rows cols:Int) (r:Ai):Decidable (DB rows cols r):=by unfold DB;infer_instance
def G2(a b:Ai):Bool:=decide (a.Row<b.Row+b.H∧b.Row<a.Row+a.H∧a.Col<b.Col+b.W∧b.Col<a.Col+a.W)
def E4(rows j:Int):Prop:=0≤rows∧rows≤2147483647∧0≤j∧j≤2147483647
instance (rows cols:Int):Decidable (E4 rows cols):=by unfold E4;infer_instance
theorem dH(r:Ai) rows j (h:E4 rows j):NE r rows j=some (decide (DB rows j r)):=by
 obtain⟨E,F,I,J⟩:=h
 unfold NE
 by_cases q:0≤r.Row∧0≤r.Col∧1≤r.H∧1≤r.W∧r.Row<rows∧r.Col<j
 ·obtain⟨w,A,a3,a4,a5,B⟩:=q
  rw[rR w,rR A,rR a3,rR a4,rR a5,rR B,show((((((true&&true)&&true)&&true)&&true)&&true)==true)=true from rfl,Ak,CR (by omega) (by omega),AD]
  by_cases l:r.H≤rows-r.Row
  ·rw[rR l,show(((((((true&&true)&&true)&&true)&&true)&&true)&&true)==true)=true from rfl,Ak,CR (by omega) (by omega),AD]
   by_cases m:r.W≤j-r.Col
   ·rw[rR m,rR (show DB rows j r from⟨w,a5,A,B,a3,l,a4,m⟩)];rfl
   ·rw[rQ m,rQ (show ¬ DB rows j r from λh=>m h.2.2.2.2.2.2.2)];rfl
  ·rw[rQ l,rQ (show ¬ DB rows j r from λh=>l h.2.2.2.2.2.1)];rfl
 ·have C:((((((0≤r.Row)&&(0≤r.Col))&&(1≤r.H))&&(1≤r.W))&&(r.Row<rows))&&(r.Col<j))=false:=by
   rw[← sO]
   simp only[rZ,rT]
   intro h;exact q (by omega)
  rw[C,rQ (show ¬ DB rows j r from λh=>q ⟨h.1,h.2.2.1,h.2.2.2.2.1,h.2.2.2.2.2.2.1,h.2.1,h.2.2.2.1⟩)];rfl
theorem lu(r:Ai) rows j (h:E4 rows j):M0 r rows j=some (decide (DB rows j r)):=by
 obtain⟨q,w,A,B⟩:=h
 unfold M0
 rw[CR (by omega) (by omega),AD,EF,AD]
 by_cases l:0≤r.Row∧r.Row≤rows-1
 ·rw[rR l,show((true==true):Bool)=true from rfl,Ak,CR (by omega) (by omega),AD,Ak,EF,AD]
  by_cases m:0≤r.Col∧r.Col≤j-1
  ·rw[rR m,show((true&&true)==true)=true from rfl,Ak,CR (by omega) (by omega),AD,Ak,EF,AD]
   by_cases a3:1≤r.H∧r.H≤rows-r.Row
   ·rw[rR a3,show(((true&&true)&&true)==true)=true from rfl,Ak,CR (by omega) (by omega),AD,Ak,EF,AD]
    by_cases a4:1≤r.W∧r.W≤j-r.Col
    ·rw[rR a4,rR (show DB rows j r from⟨l.1,by omega,m.1,by omega,a3.1,a3.2,a4.1,a4.2⟩)];rfl
    ·rw[rQ a4,rQ (show ¬ DB rows j r from λh=>a4 ⟨h.2.2.2.2.2.2.1,h.2.2.2.2.2.2.2⟩)];rfl
   ·rw[rQ a3,rQ (show ¬ DB rows j r from λh=>a3 ⟨h.2.2.2.2.1,h.2.2.2.2.2.1⟩)];rfl
  ·rw[rQ m,rQ (show ¬ DB rows j r from λh=>m ⟨h.2.2.1,by have:=h.2.2.2.1;omega⟩)];rfl
 ·rw[rQ l,rQ (show ¬ DB rows j r from λh=>l ⟨h.1,by have:=h.2.1;omega⟩)];rfl
theorem Zz{rows j}(h:E4 rows j){a b:Ai}(A:DB rows j a)(B:DB rows j b):Oq a b=some (G2 a b):=by
 obtain⟨C,E,F,I⟩:=h
 obtain⟨J,M,a3,a4,a5,O,T,U⟩:=A
 obtain⟨V,X,Z,b4,b5,b6,b7,b8⟩:=B
 unfold Oq G2
 rw[CR (by omega) (by omega),AD]
 by_cases l:a.Row<b.Row+b.H
 ·rw[rR l,show((true==true):Bool)=true from rfl,Ak,CR (by omega) (by omega),AD]
  by_cases m:b.Row<a.Row+a.H
  ·rw[rR m,show((true&&true)==true)=true from rfl,Ak,CR (by omega) (by omega),AD]
   by_cases q:a.Col<b.Col+b.W
   ·rw[rR q,show(((true&&true)&&true)==true)=true from rfl,Ak,CR (by omega) (by omega),AD]
    by_cases w:b.Col<a.Col+a.W
    ·rw[rR w,rR (show _∧_∧_∧_ from⟨l,m,q,w⟩)];rfl
    ·rw[rQ w,rQ (show ¬ (a.Row<b.Row+b.H∧b.Row<a.Row+a.H∧a.Col<b.Col+b.W∧b.Col<a.Col+a.W) from λh=>w h.2.2.2)];rfl
   ·rw[rQ q,rQ (show ¬ (a.Row<b.Row+b.H∧b.Row<a.Row+a.H∧a.Col<b.Col+b.W∧b.Col<a.Col+a.W) from λh=>q h.2.2.1)];rfl
  ·rw[rQ m,rQ (show ¬ (a.Row<b.Row+b.H∧b.Row<a.Row+a.H∧a.Col<b.Col+b.W∧b.Col<a.Col+a.W) from λh=>m h.2.1)];rfl
 ·rw[rQ l,rQ (show ¬ (a.Row<b.Row+b.H∧b.Row<a.Row+a.H∧a.Col<b.Col+b.W∧b.Col<a.Col+a.W) from λh=>l h.1)];rfl
theorem pv{rows j}(h:E4 rows j){a b:Ai}(q:DB rows j a)(w:DB rows j b):Pm a b=some (G2 b a):=by
 obtain⟨A,B,C,E⟩:=h
 obtain⟨F,I,a3,a4,a5,J,M,O⟩:=q
 obtain⟨T,U,V,X,Z,b6,b7,b8⟩:=w
 unfold Pm G2
 rw[CR (by omega) (by omega),AD,CR (by omega) (by omega),AD]
 by_cases l:max a.Row b.Row<min (a.Row+a.H) (b.Row+b.H)
 ·rw[rR l,show((true==true):Bool)=true from rfl,Ak,CR (by omega) (by omega),AD,Ak,CR (by omega) (by omega),AD]
  by_cases m:max a.Col b.Col<min (a.Col+a.W) (b.Col+b.W)
  ·rw[rR m,rR (show b.Row<a.Row+a.H∧a.Row<b.Row+b.H∧b.Col<a.Col+a.W∧a.Col<b.Col+b.W by omega)];rfl
  ·rw[rQ m,rQ (show ¬ (b.Row<a.Row+a.H∧a.Row<b.Row+b.H∧b.Col<a.Col+a.W∧a.Col<b.Col+b.W) by omega)];rfl
 ·rw[rQ l,rQ (show ¬ (b.Row<a.Row+a.H∧a.Row<b.Row+b.H∧b.Col<a.Col+a.W∧a.Col<b.Col+b.W) by omega)];rfl
theorem iN{α:Type}[Inhabited α]{l:List α}{k j}(m:j<k)(q:k≤l.length):(l.take k)[j]! = l[j]!:=by
 rw[ri (l.take k) j (by rw[sp];omega),ri l j (by omega),List.getElem_take]
def LW(l:List Ai)(k:Nat)(w:Ai):Option Nat:=(List.range k).find? λj=>G2 l[j]! w
theorem lH{rows m}(h:E4 rows m)(l:List Ai) k(B:k≤l.length)(F:l.length≤1073741824)(C:∀j,j<k→DB rows m l[j]!){w}(hw:DB rows m w) :
  Mj w (l.take k)=some (LW l k w).isSome:=by
 unfold Mj P9
 have q:(l.take k).length=k:=by rw[sp];omega
 rw[By (n:=k) (λj=>if G2 l[j]! w then some (j:Int) else none) (λj A=>by
  unfold PI QZ
  rw[rO (by rw[q,rT];omega),Ae (by rw[q];exact A),AD,iN A B,Zz h (C j A) hw,AD,AD,Ap (by omega)]
  cases G2 l[j]! w<;>rfl) (by unfold PI;rw[rN (by rw[q];simp)]),Qi,Es]
 unfold LW
 cases (List.range k).find? λj=>G2 l[j]! w with
 | none=>rfl
 | some j=>
  show(AB (some (j:Int)) λ(E:Int)=>some (decide (0≤E)))=_
  rw[AD,rR (tz j)];rfl
def Ju(rows j:Int)(l:List Ai)(k:Nat):Option Int:=
 if ¬ DB rows j l[k]! then some 2 else if l[k]!.H=1∧l[k]!.W=1 then some 4 else if 0<k∧0≤Bx l[k-1]!.Row l[k]!.Row l[k-1]!.Col l[k]!.Col then some 5 else if(LW l k l[k]!).isSome=true then some 21 else none
theorem Sv{rows j}{l}{k}(h:Ju rows j l k=none):DB rows j l[k]!:=by
 unfold Ju at h
 by_cases m:DB rows j l[k]!
 ·exact m
 ·rw[rO m] at h;cases h
def HY(g:Ar):Int:=
 if ¬ E4 g.Rows g.Cols then 2 else if I1 g.Rows g.Cols false g.Cells≠0 then I1 g.Rows g.Cols false g.Cells else((List.range g.Merges.length).findSome? (Ju g.Rows g.Cols g.Merges)).getD 0
def Ty(g:Ar):Prop:=g.Cells.length≤1048576∧g.Merges.length≤1048576∧∀c∈g.Cells,Rn c
theorem nq(a b:Ai):NP a b=some (!(0≤Bx a.Row b.Row a.Col b.Col)):=by
 unfold NP
 congr 1
 rw[sM]
 have:=Rf a.Row b.Row a.Col b.Col
 simp only[re,rZ,rT,sU,sd,this]
 omega
theorem Wm(g:Ar)(h:Ty g):Oy g=some (HY g):=by
 obtain⟨Z,hm,E⟩:=h
 unfold Oy HY
 by_cases q:E4 g.Rows g.Cols
 ·have F:=q
  obtain⟨r1,r2,M,r4⟩:=F
  rw[rN (by simp only[re,rT];omega),gE _ _ _ _ (by omega) E,AD,rN (sC.2 q)]
  by_cases B:I1 g.Rows g.Cols false g.Cells=0
  ·rw[rN (DZ B),rN (sC.2 B),X4 (n:=g.Merges.length) (Ju g.Rows g.Cols g.Merges) (λk O T=>by
    unfold N3
    rw[rO (by simpa using O),Ae O,AD,dH _ _ _ q,AD]
    unfold Ju
    by_cases w:DB g.Rows g.Cols g.Merges[k]!
    ·rw[rR w,rN (show ¬ ((!true)=true) by decide),rN (sC.2 w)]
     by_cases A:g.Merges[k]!.H=1∧g.Merges[k]!.W=1
     ·rw[rO (by rw[rR A.1,rR A.2];rfl),rO A];rfl
     ·rw[rN (by simp only[rZ,rT];exact A),rN A]
      have m:=lH q g.Merges k (by omega) (by omega) (λj I=>Sv (T j I)) w
      have U:CB g.Merges 0 (k:Int)=some (g.Merges.take k):=by
       rw[Uu g.Merges k (by omega) (by omega)];simp
      have l:(AB (CB g.Merges 0 (k:Int)) λ(V:List Ai)=>
        AB (Mj g.Merges[k]! V) λ(M:Bool)=>
        if M then(some (.inr (.ext 21)):Option (Int ⊕ (As Unit Int))) else(
         AB (AS .i64 ((k:Int)+1)) λ(X:Int)=>some (.inl X)))=CI k (if(LW g.Merges k g.Merges[k]!).isSome=true then some 21 else none):=by
       rw[U,AD,m,AD,Ap (by omega)]
       cases (LW g.Merges k g.Merges[k]!).isSome<;>rfl
      by_cases J:0<k
      ·rw[rR (show(0:Int)<k by omega),show((true==true):Bool)=true from rfl,Ak,FC J (by omega),AD,Ak,Ae (show k-1<g.Merges.length by omega),AD,Ak,nq,AD]
       by_cases C:0≤Bx g.Merges[k-1]!.Row g.Merges[k]!.Row g.Merges[k-1]!.Col g.Merges[k]!.Col
       ·rw[rR C,rO (show 0<k∧0≤Bx g.Merges[k-1]!.Row g.Merges[k]!.Row g.Merges[k-1]!.Col g.Merges[k]!.Col from⟨J,C⟩)];rfl
       ·rw[rQ C,rN (show ¬ (0<k∧0≤Bx g.Merges[k-1]!.Row g.Merges[k]!.Row g.Merges[k-1]!.Col g.Merges[k]!.Col) from λh=>C h.2)]
        exact l
      ·have e0:k=0:=by omega
       rw[rN (show ¬ (0<k∧0≤Bx g.Merges[k-1]!.Row g.Merges[k]!.Row g.Merges[k-1]!.Col g.Merges[k]!.Col) from λh=>J h.1),rQ (show ¬ (0:Int)<k by omega)]
       exact l
    ·rw[rQ w,rO w];rfl) (by unfold N3;rw[rN (by simp)]),Ex]
  ·rw[rO (CY B),rO B]
 ·rw[rO q,rO (by unfold E4 at q;simp only[re,rT];omega)]
theorem lE{X:Type}(l:List Ai)(k:Nat)(I:k<l.length)(J:l.length≤9223372036854775806)(a b:Option X) :
  (AB (gd ((decide (0<(k:Int)))==true) (AS .i64 ((k:Int)-1))) λ(C:Int)=>
    AB (gd ((decide (0<(k:Int)))==true) (AM l C)) λ(j:Ai)=>
    AB (gd ((((decide (0<(k:Int)))==true)&&((decide (l[k]!.Row<j.Row))==false))&&((decide (l[k]!.Row=j.Row))==true)) (AS .i64 ((k:Int)-1))) λ(E:Int)=>
    AB (gd ((((decide (0<(k:Int)))==true)&&((decide (l[k]!.Row<j.Row))==false))&&((decide (l[k]!.Row=j.Row))==true)) (AM l E)) λ(F:Ai)=>
    if((0<(k:Int))&&((l[k]!.Row<j.Row)||((l[k]!.Row=j.Row)&&(l[k]!.Col≤F.Col)))) then a else b) =
   if 0<k∧0≤Bx l[k-1]!.Row l[k]!.Row l[k-1]!.Col l[k]!.Col then a else b:=by
 have m:=Rf l[k-1]!.Row l[k]!.Row l[k-1]!.Col l[k]!.Col
 by_cases q:0<k
 ·rw[rR (show(0:Int)<k by omega),show((true==true):Bool)=true from rfl,Ak,FC q (by omega),AD,Ak,Ae (show k-1<l.length by omega),AD]
  by_cases w:l[k]!.Row<l[k-1]!.Row
  ·rw[rR w,rO (show 0<k∧0≤Bx l[k-1]!.Row l[k]!.Row l[k-1]!.Col l[k]!.Col from⟨q,m.2 (.inl w)⟩)];rfl
  ·by_cases A:l[k]!.Row=l[k-1]!.Row
   ·rw[rQ w,rR A,show(((true&&(false==false))&&(true==true)):Bool)=true from rfl,Ak,AD,Ak,Ae (show k-1<l.length by omega),AD]
    by_cases B:l[k]!.Col≤l[k-1]!.Col
    ·rw[rR B,rO (show 0<k∧0≤Bx l[k-1]!.Row l[k]!.Row l[k-1]!.Col l[k]!.Col from⟨q,m.2 (.inr ⟨A,B⟩)⟩)];rfl
    ·rw[rQ B,rN (show ¬ (0<k∧0≤Bx l[k-1]!.Row l[k]!.Row l[k-1]!.Col l[k]!.Col) from λh=>by have:=m.1 h.2;omega)];rfl
   ·rw[rQ w,rQ A,rN (show ¬ (0<k∧0≤Bx l[k-1]!.Row l[k]!.Row l[k-1]!.Col l[k]!.Col) from λh=>by have:=m.1 h.2;omega)];rfl
 ·rw[rN (show ¬ (0<k∧0≤Bx l[k-1]!.Row l[k]!.Row l[k-1]!.Col l[k]!.Col) from λh=>q h.1),rQ (show ¬ (0:Int)<k by omega)];rfl
theorem lV(g:Ar)(h:Ty g):NW g=some (HY g):=by
 obtain⟨U,V,B⟩:=h
 unfold NW HY
 rw[EF,AD]
 by_cases l:E4 g.Rows g.Cols
 ·have C:=l
  obtain⟨I,J,M,O⟩:=C
  rw[rR (show 0≤g.Rows∧g.Rows≤2147483647 from⟨I,J⟩),show((!true)==false)=true from rfl,Ak,EF,AD,rR (show 0≤g.Cols∧g.Cols≤2147483647 from⟨M,O⟩),rN (by decide),
   mY _ _ _ _ (by omega) B ⟨I,J⟩ ⟨M,O⟩,AD,rN (sC.2 l)]
  by_cases w:I1 g.Rows g.Cols false g.Cells=0
  ·rw[rN (DZ w),rN (sC.2 w),X4 (n:=g.Merges.length) (Ju g.Rows g.Cols g.Merges) (λk E T=>by
    unfold Mz
    rw[rO (by simpa using E),Ae E,AD,lu _ _ _ l,AD]
    unfold Ju
    by_cases m:DB g.Rows g.Cols g.Merges[k]!
    ·rw[rR m,rN (show ¬ ((!true)=true) by decide),rN (sC.2 m)]
     by_cases q:g.Merges[k]!.H=1∧g.Merges[k]!.W=1
     ·rw[rO (by rw[rR q.1,rR q.2];rfl),rO q];rfl
     ·rw[rN (by simp only[rZ,rT];exact q),rN q,lE _ k E (by omega)]
      by_cases A:0<k∧0≤Bx g.Merges[k-1]!.Row g.Merges[k]!.Row g.Merges[k-1]!.Col g.Merges[k]!.Col
      ·rw[rO A,rO A];rfl
      ·rw[rN A,rN A,By (n:=k) (λj=>if G2 g.Merges[j]! g.Merges[k]! then some (.inr (.ext 21)) else none) (λj F=>by
        unfold OF
        rw[rO (by rw[rT];omega),Ae (by omega),AD,pv l m (Sv (T j F)),AD,Ap (by omega)]
        cases G2 g.Merges[j]! g.Merges[k]!<;>rfl) (by unfold OF;rw[rN (by rw[rT];omega)]),Qi,Es]
       unfold LW
       cases (List.range k).find? λj=>G2 g.Merges[j]! g.Merges[k]! with
       | none=>rw[Ap (by omega)];rfl
       | some j=>rfl
    ·rw[rQ m,rO m];rfl) (by unfold Mz;rw[rN (by simp)]),Ex]
  ·rw[rO (CY w),rO w]
 ·rw[rO l]
  unfold E4 at l
  by_cases a:0≤g.Rows∧g.Rows≤2147483647
  ·rw[rR a,show((!true)==false)=true from rfl,Ak,EF,AD,rQ (show ¬ (0≤g.Cols∧g.Cols≤2147483647) by omega)];rfl
  ·rw[rQ a];rfl
def U5(c:UInt8):Bool:=(97≤c.toNat)&&(c.toNat≤122)
def QQ(s:List UInt8):Bool:=(List.range s.length).all λk=>U5 s[k]!
def Ku(s:List UInt8):Bool:=(1≤s.length)&&(s.length≤200)&&!(s[s.length-1]!.toNat=97)&&QQ s
theorem Vm(s:List UInt8)(l:s.length≤9223372036854775806):iter (λ(a:Int)=>LB s a) 0=some (DY (if QQ s then none else some false)):=by
 rw[By (n:=s.length) (λk=>if U5 s[k]! then none else some false) (λk j=>by
  unfold LB
  rw[rO (by simpa using j),Ae j,AD,Ap (by omega)]
  unfold U5
  generalize s[k]! = c
  by_cases h:97≤c.toNat∧c.toNat≤122
  ·rw[rN (by simp only[re,rT];omega),rO (by simp only[rZ,rT];exact h)];rfl
  ·rw[rO (by simp only[re,rT];omega),rN (by simp only[rZ,rT];exact h)];rfl) (by unfold LB;rw[rN (by simp)]),KN]
 rfl
theorem bS:LF=LB:=by funext s x;rfl
theorem pG(s:List UInt8)(m:s.length≤9223372036854775806):Kd s=some (Ku s):=by
 unfold Kd Ku
 rw[bS,Vm s m]
 by_cases h:1≤s.length∧s.length≤200
 ·have j:s≠[]:=tL.1 h.1
  rw[rQ j,rQ (show ¬ (200:Int)<(s.length:Int) by omega),show((false||false)==false)=true from rfl,Ak,FC h.1 (by omega),AD,Ak,Ae (by omega),AD,rR h.1,rR h.2]
  by_cases l:s[s.length-1]!.toNat=97
  ·rw[rR l,rO (by rw[rR (show((s[s.length-1]!.toNat:Int)=97) by omega)];rfl)];rfl
  ·rw[rQ l,rN (by rw[rQ (show ¬ ((s[s.length-1]!.toNat:Int)=97) by omega)];decide)]
   cases QQ s<;>rfl
 ·have q:((s=[])||(200<(s.length:Int)))=true:=by
   rw[re,rT,rT,← tF];omega
  have hd:((1≤s.length)&&(s.length≤200))=false:=by
   rw[← sO,rZ,rT,rT];exact h
  rw[q,hd];rfl
theorem eY(s:List UInt8)(l:s.length≤9223372036854775806):N8 s=some (Ku s):=by
 unfold N8 Ku
 rw[Vm s l,Es]
 cases QQ s with
 | false=>rw[Bool.and_false];rfl
 | true=>
  rw[rO rfl,Bool.and_true]
  dsimp only
  by_cases h:1≤s.length∧s.length≤200
  ·rw[rR (show(1:Int)≤(s.length:Int) by omega),rR (show(s.length:Int)≤200 by omega),show((true&&true)==true)=true from rfl,Ak,FC h.1 (by omega),AD,Ak,Ae (by omega),AD,rR h.1,rR h.2]
   by_cases j:s[s.length-1]!.toNat=97
   ·rw[rR j,rR (show((s[s.length-1]!.toNat:Int)=97) by omega)]
   ·rw[rQ j,rQ (show ¬ ((s[s.length-1]!.toNat:Int)=97) by omega)]
  ·have m:((1≤(s.length:Int))&&((s.length:Int)≤200))=false:=by
    rw[← sO,rZ,rT,rT];omega
   have hd:((1≤s.length)&&(s.length≤200))=false:=by
    rw[← sO,rZ,rT,rT];exact h
   rw[m,hd];rfl
def G7(o:Ax):Prop:=(1≤o.Clock∧o.Clock≤1073741824)∧(0≤o.Site∧o.Site≤1000)∧(1≤o.Item∧o.Item≤1073741824)
instance (o:Ax):Decidable (G7 o):=by unfold G7;infer_instance
def LV(o:Ax):Int:=
 if ¬ (o.Kind=0∨o.Kind=1) then 8 else if ¬ G7 o then 2
 else if o.Kind=0 then(if o.Name≠[]∨o.Value≠[] then 4 else if ¬ (-1≤o.Parent∧o.Parent≤1073741824) then 2 else if Ku o.Place=false then 9 else 0)
 else(if o.Parent≠0∨o.Place≠[] then 4 else if DR o.Name=false then 9 else if o.Value≠[]∧DP o.Value=false then 23 else 0)
def Ny(l:List Ax)(k:Nat):Option Int:=
 if LV l[k]!≠0 then some (LV l[k]!) else if 0<k∧0≤Bx l[k-1]!.Clock l[k]!.Clock l[k-1]!.Site l[k]!.Site then some 5 else none
def ZO(l:List Ax):Int:=((List.range l.length).findSome? (Ny l)).getD 0
def Q0(o:Ax):Prop:=o.Place.length≤1073741824∧o.Name.length≤1073741824∧o.Value.length≤1073741824
theorem iV(o:Ax)(h:Q0 o):Ky o=some (LV o):=by
 obtain⟨hp,I,J⟩:=h
 unfold Ky LV
 rw[pG _ (by omega),Rh _ (by omega),TK _ (by omega)]
 by_cases l:o.Kind=0
 ·have q:¬ o.Kind=1:=by omega
  rw[rN (show ¬ ((!(o.Kind=0))&&(!(o.Kind=1)))=true by rw[rR l];simp),rN (show ¬ ¬ (o.Kind=0∨o.Kind=1) from λh=>h (.inl l))]
  by_cases m:G7 o
  ·have w:=m
   unfold G7 at w
   rw[rN (by simp only[re,rT];omega),rN (sC.2 m),rO l,rR l,rQ q]
   by_cases j:o.Name≠[]∨o.Value≠[]
   ·have A:(true&&((!(o.Name=[]))||(!(o.Value=[]))))=true:=by
     rw[sE,re]
     rcases j with c | c
     ·exact .inl (CY c)
     ·exact .inr (CY c)
    rw[rO j,A];rfl
   ·have C:o.Name=[]∧o.Value=[]:=⟨rp λh=>j (.inl h),rp λh=>j (.inr h)⟩
    have A:(true&&((!(o.Name=[]))||(!(o.Value=[]))))=false:=by rw[rR C.1,rR C.2];rfl
    rw[rN j,A]
    by_cases B : -1≤o.Parent∧o.Parent≤1073741824
    ·rw[rN (sC.2 B)]
     have E:((o.Parent<(-1))||(1073741824<o.Parent))=false:=by
      rw[← sO,re,rT,rT];omega
     rw[E]
     cases Ku o.Place with
     | false=>rfl
     | true=>rw[rR C.2];rfl
    ·rw[rO B]
     have E:((o.Parent<(-1))||(1073741824<o.Parent))=true:=by
      rw[re,rT,rT];omega
     rw[E];rfl
  ·rw[rO (by unfold G7 at m;simp only[re,rT];omega),rO m]
 ·by_cases q:o.Kind=1
  ·rw[rN (show ¬ ((!(o.Kind=0))&&(!(o.Kind=1)))=true by rw[rR q,rQ l];decide),rN (show ¬ ¬ (o.Kind=0∨o.Kind=1) from λh=>h (.inr q))]
   by_cases m:G7 o
   ·have w:=m
    unfold G7 at w
    rw[rN (by simp only[re,rT];omega),rN (sC.2 m),rN l,rQ l,rR q]
    by_cases j:o.Parent≠0∨o.Place≠[]
    ·have A:(true&&((!(o.Parent=0))||(!(o.Place=[]))))=true:=by
      rw[sE,re]
      rcases j with c | c
      ·exact .inl (CY c)
      ·exact .inr (CY c)
     rw[rO j,A];rfl
    ·have C:o.Parent=0∧o.Place=[]:=⟨rp λh=>j (.inl h),rp λh=>j (.inr h)⟩
     have A:(true&&((!(o.Parent=0))||(!(o.Place=[]))))=false:=by rw[rR C.1,rR C.2];rfl
     rw[rN j,A]
     cases DR o.Name with
     | false=>rfl
     | true=>
      by_cases B:o.Value=[]
      ·rw[rR B,rN (show ¬ (true=false) by decide),rN (show ¬ (o.Value≠[]∧DP o.Value=false) from λh=>h.1 B)];rfl
      ·rw[rQ B,rN (show ¬ (true=false) by decide)]
       cases F:DP o.Value with
       | false=>rw[rO (show o.Value≠[]∧false=false from⟨B,rfl⟩)];rfl
       | true=>rw[rN (show ¬ (o.Value≠[]∧true=false) from λh=>by cases h.2)];rfl
   ·rw[rO (by unfold G7 at m;simp only[re,rT];omega),rO m]
  ·rw[rO (show((!(o.Kind=0))&&(!(o.Kind=1)))=true by rw[rQ q,rQ l];rfl),rO (show ¬ (o.Kind=0∨o.Kind=1) from λh=>h.elim l q)]
theorem Z1(a b:Ax):KO a b=some (Bx a.Clock b.Clock a.Site b.Site):=by
 unfold KO
 rw[RQ,RQ,AD,AD,Y1,AD,X5]
theorem gc(a b:Ax):Mc a b=some (!(0≤Bx a.Clock b.Clock a.Site b.Site)):=by
 unfold Mc
 congr 1
 rw[sM]
 have:=Rf a.Clock b.Clock a.Site b.Site
 simp only[re,rZ,rT,sU,sd,this]
 omega
theorem lC(l:List Ax)(A:l.length≤1073741824)(w:∀o∈l,Q0 o):IT l=some (ZO l):=by
 unfold IT
 rw[By (n:=l.length) (Ny l) (λk m=>by
  unfold K1 Ny
  rw[rO (by simpa using m),Ae m,AD,iV _ (w _ (Bk m)),AD]
  by_cases e:LV l[k]! = 0
  ·rw[rN (DZ e),rN (sC.2 e)]
   by_cases q:0<k
   ·rw[rR (show(0:Int)<k by omega),show((true==true):Bool)=true from rfl,Ak,FC q (by omega),AD,Ak,Ae (show k-1<l.length by omega),AD,Ak,Z1,AD]
    by_cases j:0≤Bx l[k-1]!.Clock l[k]!.Clock l[k-1]!.Site l[k]!.Site
    ·rw[rR j,rO (show 0<k∧0≤Bx l[k-1]!.Clock l[k]!.Clock l[k-1]!.Site l[k]!.Site from⟨q,j⟩)];rfl
    ·rw[rQ j,rN (show ¬ (0<k∧0≤Bx l[k-1]!.Clock l[k]!.Clock l[k-1]!.Site l[k]!.Site) from λh=>j h.2),Ap (by omega)];rfl
   ·rw[rN (show ¬ (0<k∧0≤Bx l[k-1]!.Clock l[k]!.Clock l[k-1]!.Site l[k]!.Site) from λh=>q h.1),rQ (show ¬ (0:Int)<k by omega),Ap (by omega)];rfl
  ·rw[rO (CY e),rO e];rfl) (by unfold K1;rw[rN (by simp)]),Ex]
 rfl
theorem cG(l:List Ax)(hm:l.length≤1073741824)(U:∀o∈l,Q0 o):Nl l=some (ZO l):=by
 unfold Nl
 rw[By (n:=l.length) (Ny l) (λk F=>by
  obtain⟨hp,V,X⟩:=U _ (Bk F)
  have q:(AB (gd ((decide (0<(k:Int)))==true) (AS .i64 ((k:Int)-1))) λ(Z:Int)=>
    AB (gd ((decide (0<(k:Int)))==true) (AM l Z)) λ(x6:Ax)=>
    AB (gd ((decide (0<(k:Int)))==true) (Mc x6 l[k]!)) λ(r4:Bool)=>
    if((0<(k:Int))&&(!r4)) then(some (.inr (.ext 5)):Option (Int ⊕ (As Unit Int))) else(
     AB (AS .i64 ((k:Int)+1)) λ(x7:Int)=>some (.inl x7)))=CI k (if 0<k∧0≤Bx l[k-1]!.Clock l[k]!.Clock l[k-1]!.Site l[k]!.Site then some 5 else none):=by
   by_cases I:0<k
   ·rw[rR (show(0:Int)<k by omega),show((true==true):Bool)=true from rfl,Ak,FC I (by omega),AD,Ak,Ae (show k-1<l.length by omega),AD,Ak,gc,AD]
    by_cases C:0≤Bx l[k-1]!.Clock l[k]!.Clock l[k-1]!.Site l[k]!.Site
    ·rw[rR C,rO (show 0<k∧0≤Bx l[k-1]!.Clock l[k]!.Clock l[k-1]!.Site l[k]!.Site from⟨I,C⟩)];rfl
    ·rw[rQ C,rN (show ¬ (0<k∧0≤Bx l[k-1]!.Clock l[k]!.Clock l[k-1]!.Site l[k]!.Site) from λh=>C h.2),Ap (by omega)];rfl
   ·rw[rN (show ¬ (0<k∧0≤Bx l[k-1]!.Clock l[k]!.Clock l[k-1]!.Site l[k]!.Site) from λh=>I h.1),rQ (show ¬ (0:Int)<k by omega),Ap (by omega)];rfl
  unfold Nr Ny LV
  rw[rO (by simpa using F),Ae F,AD,q,EF,AD,EF,EF,EF,eY _ (by omega),Tn _ (by omega),XE _ (by omega)]
  generalize l[k]! = o at hp V X ⊢
  by_cases A:o.Kind=0∨o.Kind=1
  ·rw[rN (show ¬ ((!(o.Kind=0))&&(!(o.Kind=1)))=true by rcases A with h | h<;>rw[rR h]<;>simp),rN (sC.2 A)]
   by_cases w:G7 o
   ·rw[rN (sC.2 w),rR w.1,show((!true)==false)=true from rfl,Ak,AD,rR w.2.1,show(((!true)||(!true))==false)=true from rfl,Ak,AD,rR w.2.2,rN (show ¬ (((!true)||(!true))||(!true))=true by decide)]
    by_cases E:o.Kind=0
    ·rw[rO (rR E),rO E]
     by_cases j:o.Name≠[]∨o.Value≠[]
     ·have J:((!(o.Name=[]))||(!(o.Value=[])))=true:=by
       rw[re]
       rcases j with c | c
       ·exact .inl (CY c)
       ·exact .inr (CY c)
      rw[rO j,rO J];rfl
     ·have B:o.Name=[]∧o.Value=[]:=⟨rp λh=>j (.inl h),rp λh=>j (.inr h)⟩
      rw[rN j,rN (show ¬ ((!(o.Name=[]))||(!(o.Value=[])))=true by rw[rR B.1,rR B.2];decide),AD]
      by_cases m : -1≤o.Parent∧o.Parent≤1073741824
      ·rw[rN (sC.2 m),rR m,rN (show ¬ ((!true)=true) by decide),AD]
       cases Ku o.Place<;>rfl
      ·rw[rO m,rQ m];rfl
    ·rw[rN (show ¬ decide (o.Kind=0)=true by simpa using E),rN E]
     by_cases j:o.Parent≠0∨o.Place≠[]
     ·have J:((!(o.Parent=0))||(!(o.Place=[])))=true:=by
       rw[re]
       rcases j with c | c
       ·exact .inl (CY c)
       ·exact .inr (CY c)
      rw[rO j,rO J];rfl
     ·have B:o.Parent=0∧o.Place=[]:=⟨rp λh=>j (.inl h),rp λh=>j (.inr h)⟩
      rw[rN j,rN (show ¬ ((!(o.Parent=0))||(!(o.Place=[])))=true by rw[rR B.1,rR B.2];decide),AD]
      cases DR o.Name with
      | false=>rfl
      | true=>
       by_cases m:o.Value=[]
       ·rw[rR m,rN (show ¬ (true=false) by decide),rN (show ¬ (o.Value≠[]∧DP o.Value=false) from λh=>h.1 m)];rfl
       ·rw[rQ m,rN (show ¬ (true=false) by decide)]
        cases a0:DP o.Value with
        | false=>rw[rO (show o.Value≠[]∧false=false from⟨m,rfl⟩)];rfl
        | true=>rw[rN (show ¬ (o.Value≠[]∧true=false) from λh=>by cases h.2)];rfl
   ·rw[rO w]
    unfold G7 at w
    by_cases O:1≤o.Clock∧o.Clock≤1073741824
    ·rw[rR O,show((!true)==false)=true from rfl,Ak,AD]
     by_cases T:0≤o.Site∧o.Site≤1000
     ·rw[rR T,show(((!true)||(!true))==false)=true from rfl,Ak,AD,rQ (show ¬ (1≤o.Item∧o.Item≤1073741824) by omega)];rfl
     ·rw[rQ T];rfl
    ·rw[rQ O];rfl
  ·have M:((!(o.Kind=0))&&(!(o.Kind=1)))=true:=by
    rw[rQ (λh=>A (.inl h)),rQ (λh=>A (.inr h))];rfl
   rw[rO M,rO A];rfl) (by unfold Nr;rw[rN (by simp)]),Ex]
 rfl
theorem nA:Lj=Fp:=by funext k;rfl
theorem nG:SV=F6:=by funext k;rfl
theorem ku:OQ=FD:=by funext k;rfl
theorem fU:SM=F1:=by funext k;rfl
structure GO(n:AI):Prop where
 ok:NZ n
 ce:∀c∈n.Grid.Cells,Rn c
 dr:∀o∈n.Draw,Q0 o
theorem GO.gd{n:AI}(h:GO n):Ty n.Grid:=⟨h.ok.gr.1,h.ok.gr.2.1,h.ce⟩
def L7(kind:Int)(c:Aj):Bool:=((kind=2)&&((!(c.Text=[]))||(0<(c.Attrs.length:Int))))||((kind=6)&&(!(c.Ref=0)))
def V9(kind:Int)(l:List Aj):Int:=((List.range l.length).findSome? λk=>if L7 kind l[k]! then some (4:Int) else none).getD 0
theorem jz kind(l:List Aj)(m:l.length≤1073741824):Pf kind l=some (V9 kind l):=by
 unfold Pf
 rw[By (n:=l.length) (λk=>if L7 kind l[k]! then some (4:Int) else none) (λk j=>by
  unfold OD
  rw[rO (by simpa using j),Ae j,AD,Ap (by omega)]
  show(if L7 kind l[k]! = true then _ else _)=_
  cases L7 kind l[k]!<;>rfl) (by unfold OD;rw[rN (by simp)]),Ex]
 rfl
theorem mE kind(l:List Aj)(A:l.length≤1073741824):Pw kind l=some (V9 kind l):=by
 unfold Pw
 rw[By (n:=l.length) (λk=>if L7 kind l[k]! then some (4:Int) else none) (λk w=>by
  unfold M1 L7
  rw[rO (by simpa using w),Ae w,Ap (by omega)]
  generalize l[k]! = c
  by_cases m:kind=2
  ·have j:¬ kind=6:=by omega
   rw[rR m,rQ j]
   rw[show((true==true):Bool)=true from rfl,Ak,AD]
   generalize ((!(c.Text=[]))||(0<(c.Attrs.length:Int)))=q
   cases q<;>rfl
  ·by_cases j:kind=6
   ·rw[rQ m,rR j]
    rw[show((false==true):Bool)=false from rfl,Bp,AD]
    show(AB (gd true (some c)) λ(B:Aj)=>_)=_
    rw[Ak,AD]
    generalize (!(c.Ref=0))=q
    cases q<;>rfl
   ·rw[rQ m,rQ j];rfl) (by unfold M1;rw[rN (by simp)]),Ex]
 rfl
def UE(t l g z d j m:Bool):Bool:=((!(t||l)&&j)||(!g&&!z))||(!d&&m)
theorem lM t l g z d j m :
  (if(((!(t||l))&&j)==false) then(
   if((!g)==true) then(
    AB (gd ((((!(t||l))&&j)||((!g)&&(!z)))==false) (some d)) λ(w:Bool)=>
    some ((((!(t||l))&&j)||((!g)&&(!z)))||((!w)&&m))
   ) else(
    AB (gd ((((!(t||l))&&j)||((!g)&&false))==false) (some d)) λ(A:Bool)=>
    some ((((!(t||l))&&j)||((!g)&&false))||((!A)&&m))
   )
  ) else(
   AB (gd ((((!(t||l))&&j)||false)==false) (some d)) λ(q:Bool)=>
   some ((((!(t||l))&&j)||false)||((!q)&&m))
  ))=some (UE t l g z d j m):=by
 cases t<;>cases l<;>cases g<;>cases z<;>cases d<;>cases j<;>cases m<;>rfl
theorem pP{X:Type}(t l g z d j m:Bool)(A B:Option X) :
  (AB (gd ((j&&(!(t||l)))==false) (some z)) λ(q:Bool)=>
   AB (gd (((j&&(!(t||l)))==false)&&((!q)==true)) (some g)) λ(w:Bool)=>
   AB (gd ((((j&&(!(t||l)))||((!q)&&(!w)))==false)&&(m==true)) (some d)) λ(C:Bool)=>
   if(((j&&(!(t||l)))||((!q)&&(!w)))||(m&&(!C))) then A else B)=if UE t l g z d j m=true then A else B:=by
 cases t<;>cases l<;>cases g<;>cases z<;>cases d<;>cases j<;>cases m<;>rfl
theorem Y3{α:Type}(l:List α):decide ((l.length:Int)=0)=l.isEmpty:=by
 cases l with
 | nil=>rfl
 | cons a l=>exact rQ (by simp only[sL];omega)
theorem aY g:PB g=some (decide (g=Ar.mk 0 0 [] [])):=by
 unfold PB
 congr 1
 obtain⟨a,b,c,d⟩:=g
 rw[Y3,Y3,sM]
 simp[and_assoc]
theorem SY(n:AI)(h:GO n):∃e,Ch n=some e∧NA n=some e:=by
 have A:=h.ok.at_
 have hf:=h.ok.fl
 have hg:=h.ok.gr
 have hd:=h.ok.dr
 have M:∀x∈n.Flow,FB x:=λx hx=>⟨by have:=(h.ok.fa x hx).1;omega,(h.ok.fa x hx).2⟩
 unfold Ch NA
 rw[nA,nG,ku,fU,EF,AD]
 by_cases c1:1≤n.ID∧n.ID≤1073741824
 ·rw[rN (show ¬ ((n.ID<1)||(1073741824<n.ID))=true by simp only[re,rT];omega),rR c1,rN (show ¬ ((!true)=true) by decide),EF,AD]
  by_cases j:(0≤n.Kind∧n.Kind≤12)∧(n.ID=1↔n.Kind=0)
  ·obtain⟨j,B⟩:=j
   have O:(((n.Kind<0)||(13≤n.Kind))||(!((decide (n.ID=1))==(decide (n.Kind=0)))))=false:=by
    rw[rQ (show ¬ n.Kind<0 by omega),rQ (show ¬ 13≤n.Kind by omega)]
    by_cases q:n.ID=1
    ·rw[rR q,rR (B.1 q)];rfl
    ·rw[rQ q,rQ (λe=>q (B.2 e))];rfl
   have T:(((!(0≤n.Kind∧n.Kind≤12))||((n.ID=1)&&(!(n.Kind=0))))||((!(n.ID=1))&&(n.Kind=0)))=false:=by
    rw[rR j]
    by_cases q:n.ID=1
    ·rw[rR q,rR (B.1 q)];rfl
    ·rw[rQ q,rQ (λe=>q (B.2 e))];rfl
   rw[O,T,rN (show ¬ (false=true) by decide),rN (show ¬ (false=true) by decide),I7 _ A.2 (by have:=A.1;omega),AD,Kx _ _ A.2 (by have:=A.1;omega),AD]
   by_cases C:BE n.Attrs false=0
   ·rw[rN (DZ C),rN (DZ C)]
    obtain⟨t,ht⟩:∃t,Fp n.Kind=some t:=⟨_,rfl⟩
    obtain⟨l,hl⟩:∃t,F6 n.Kind=some t:=⟨_,rfl⟩
    obtain⟨g,U⟩:∃t,FD n.Kind=some t:=⟨_,rfl⟩
    obtain⟨d,V⟩:∃t,F1 n.Kind=some t:=⟨_,rfl⟩
    rw[ht,hl,U,V,AD,AD,SK _ _ hg,aY]
    have X:∃E,gd (t==false) (some l)=some E:=by cases t<;>exact⟨_,rfl⟩
    obtain⟨E,Z⟩:=X
    rw[Z,AD,AD,AD,lM,AD,AD,pP]
    by_cases F:UE t E g (decide (n.Grid=Ar.mk 0 0 [] [])) d (decide (0<(n.Flow.length:Int))) (decide (0<(n.Draw.length:Int)))=true
    ·rw[rO F,rO F];exact⟨_,rfl,rfl⟩
    ·rw[rN F,rN F]
     by_cases I:(t||E)=true
     ·obtain⟨r,h1,h2⟩:=cY n.Flow t M (by omega)
      rw[rO I,rO I,h1,h2];exact⟨_,rfl,rfl⟩
     ·rw[rN I,rN I]
      cases g with
      | true=>
       rw[rO rfl,Wm _ h.gd,AD,AD,rO rfl,lV _ h.gd,AD]
       by_cases J:HY n.Grid=0
       ·rw[rN (DZ J),rN (DZ J),jz _ _ (by have:=hg.1;omega),mE _ _ (by have:=hg.1;omega)];exact⟨_,rfl,rfl⟩
       ·rw[rO (CY J),rO (CY J)];exact⟨_,rfl,rfl⟩
      | false=>
       rw[rN (show ¬ (false=true) by decide),AD,rN (show ¬ (false=true) by decide),lC _ (by omega) h.dr,cG _ (by omega) h.dr];exact⟨_,rfl,rfl⟩
   ·rw[rO (CY C),rO (CY C)];exact⟨_,rfl,rfl⟩
  ·have O:(((n.Kind<0)||(13≤n.Kind))||(!((decide (n.ID=1))==(decide (n.Kind=0)))))=true:=by
    by_cases m:0≤n.Kind∧n.Kind≤12
    ·have w:¬ (n.ID=1↔n.Kind=0):=λe=>j ⟨m,e⟩
     by_cases q:n.ID=1
     ·rw[rR q,rQ (λe=>w ⟨λ_=>e,λ_=>q⟩),re];exact .inr rfl
     ·rw[rQ q,rR (rp λe=>w ⟨λx=>absurd x q,λx=>absurd x e⟩),re];exact .inr rfl
    ·simp only[re,rT];exact .inl (by omega)
   have T:(((!(0≤n.Kind∧n.Kind≤12))||((n.ID=1)&&(!(n.Kind=0))))||((!(n.ID=1))&&(n.Kind=0)))=true:=by
    by_cases m:0≤n.Kind∧n.Kind≤12
    ·have w:¬ (n.ID=1↔n.Kind=0):=λe=>j ⟨m,e⟩
     rw[rR m]
     by_cases q:n.ID=1
     ·rw[rR q,rQ (λe=>w ⟨λ_=>e,λ_=>q⟩)];rfl
     ·rw[rQ q,rR (rp λe=>w ⟨λx=>absurd x q,λx=>absurd x e⟩)];rfl
    ·rw[rQ m];rfl
   rw[O,T];exact⟨_,rfl,rfl⟩
 ·rw[rO (show((n.ID<1)||(1073741824<n.ID))=true by simp only[re,rT];omega),rQ c1];exact⟨_,rfl,rfl⟩
theorem iY(s:List Int) v(q:s.length≤1048576):LO s v=some ((List.range s.length).find? λj=>decide (v=s[j]!)).isSome:=by
 unfold LO Ow
 rw[By (n:=s.length) (λj=>if decide (v=s[j]!) then some (j:Int) else none) (λj l=>by
  unfold JF
  rw[rO (by simpa using l),Ae l,AD,Ap (by omega)]
  cases decide (v=s[j]!)<;>rfl) (by unfold JF;rw[rN (by simp)]),Qi,Es]
 cases (List.range s.length).find? λj=>decide (v=s[j]!) with
 | none=>rfl
 | some j=>
  show(AB (some (j:Int)) λ(m:Int)=>some (decide (0≤m)))=_
  rw[AD,rR (tz j)];rfl
theorem KE(s:List Int) v(m:s.length≤1048576):LO s v=some (decide (v∈s)):=by
 rw[iY s v m]
 congr 1
 rw[sM,rT,List.find?_isSome]
 constructor
 ·rintro⟨j,q,w⟩
  have l:=sA.1 q
  rw[tR w];exact Bk l
 ·intro h
  obtain⟨j,l,e⟩:=List.getElem_of_mem h
  exact⟨j,sA.2 l,rR (by rw[ri s j l,e])⟩
def KS(p k:Int):Bool:=
 if p=0 then decide (k∈[1,6,7,10,11,12]) else if p=1 then decide (k∈[2,4,5,10]) else if p=3 then decide (k∈[4,5,10]) else if p=4∨p=12 then decide (k=5) else if p=2 then decide (k=3) else if p=7 then decide (k=8∨k=9) else false
theorem Rb p k:Kw p k=some (KS p k):=by
 unfold Kw KS
 by_cases l:p=0
 ·rw[rO (rR l),rO l,AD,KE _ _ (by decide)];rfl
 ·rw[rN (show ¬ decide (p=0)=true by simpa using l),rN l]
  by_cases m:p=1
  ·rw[rO (rR m),rO m,AD,KE _ _ (by decide)];rfl
  ·rw[rN (show ¬ decide (p=1)=true by simpa using m),rN m]
   by_cases q:p=3
   ·rw[rO (rR q),rO q,AD,KE _ _ (by decide)];rfl
   ·rw[rN (show ¬ decide (p=3)=true by simpa using q),rN q]
    have B:(if decide (p=4)=true then some (decide (p=4)) else some (decide (p=12)))=some (decide (p=4∨p=12)):=by
     by_cases j:p=4
     ·rw[rO (rR j),rR j,rR (Or.inl j:p=4∨p=12)]
     ·rw[rN (show ¬ decide (p=4)=true by simpa using j)]
      congr 1
      rw[sM,rT,rT]
      exact⟨.inr,λh=>h.elim (λh=>absurd h j) id⟩
    rw[B,AD]
    by_cases j:p=4∨p=12
    ·rw[rO (rR j),rO j,AD,KE _ _ (by decide),AD]
     congr 1;rw[sM];simp
    ·rw[rN (show ¬ decide (p=4∨p=12)=true by simpa using j),rN j]
     by_cases w:p=2
     ·rw[rO (rR w),rO w,AD,KE _ _ (by decide),AD]
      congr 1;rw[sM];simp
     ·rw[rN (show ¬ decide (p=2)=true by simpa using w),rN w]
      by_cases A:p=7
      ·rw[rO (rR A),rO A,AD,KE _ _ (by decide),AD]
       congr 1;rw[sM];simp
      ·rw[rN (show ¬ decide (p=7)=true by simpa using A),rN A,AD,KE _ _ (by decide),AD];simp
theorem fP p k:Po p k=some (KS p k) := by
  have hk:k=1∨k=2∨k=3∨k=4∨k=5∨k=6∨k=7∨k=8∨k=9∨k=10∨k=11∨k=12∨(k≠1∧k≠2∧k≠3∧k≠4∧k≠5∧k≠6∧k≠7∧k≠8∧k≠9∧k≠10∧k≠11∧k≠12) := by omega
  have hp:p=0∨p=1∨p=2∨p=3∨p=4∨p=7∨p=12∨(p≠0∧p≠1∧p≠2∧p≠3∧p≠4∧p≠7∧p≠12) := by omega
  unfold Po KS Lj
  rcases hk with rfl | rfl | rfl | rfl | rfl | rfl | rfl | rfl | rfl | rfl | rfl | rfl | ⟨I, J, M, O, T, U, V, X, Z, l, m, q⟩
  all_goals first
    | (rcases hp with rfl | rfl | rfl | rfl | rfl | rfl | rfl | ⟨w, A, B, C, E, F, j⟩
       all_goals first | rfl | (simp[w, A, B, C, E, F, j];done))
    | (rcases hp with rfl | rfl | rfl | rfl | rfl | rfl | rfl | ⟨w, A, B, C, E, F, j⟩
       all_goals first
         | (simp[I, J, M, O, T, U, V, X, Z, l, m, q];done)
         | (simp[I, J, M, O, T, U, V, X, Z, l, m, q, w, A, B, C, E, F, j];done))
theorem dO{n:Nat}(h:n<9223372036854775808):IntKind.u64.wrap (n:Int)=(n:Int):=by
 have e:(n:Int) % (2 ^ (64:Nat):Int)=(n:Int):=u9 (by omega) (by omega)
 show(if(false&&((n:Int) % (2 ^ (64:Nat):Int) ≥ (2 ^ (63:Nat):Int)))=true then(n:Int) % (2 ^ (64:Nat):Int)-(2 ^ (64:Nat):Int) else(n:Int) % (2 ^ (64:Nat):Int))=_
 rw[e,rN (by simp)]
theorem aP(m:Nat)(h:m<4294967296):IntKind.i64.wrap (F2 .u64 (IntKind.u64.wrap (m:Int)) 1)=((m / 2:Nat):Int):=by
 rw[dO (by omega)]
 show IntKind.i64.wrap ((m:Int).fdiv (2 ^ (min 1 64)))=_
 rw[show((2:Int) ^ (min 1 64))=2 from rfl,Int.fdiv_eq_ediv_of_nonneg _ (by omega),show(m:Int) / 2=((m / 2:Nat):Int) by omega,Vi (by omega)]
def HF(l:List AI):Prop:=∀a b:Nat,a<b→b<l.length→l[a]!.ID<l[b]!.ID
theorem Wh(n:AI) id:MB n id=some (if n.ID<id then -1 else if id<n.ID then 1 else 0):=by
 unfold MB
 by_cases j:n.ID<id
 ·rw[rO (rR j),rO j]
 ·rw[rN (show ¬ decide (n.ID<id)=true by simpa using j),rN j]
  by_cases l:id<n.ID
  ·rw[rO (rR l),rO l]
  ·rw[rN (show ¬ decide (id<n.ID)=true by simpa using l),rN l]
theorem MY(d:AP) id(V:d.Nodes.length≤1048576)(F:HF d.Nodes):∃i:Nat,FX d id=some ((i:Int),(CQ d.Nodes id).isSome)∧(∀k,CQ d.Nodes id=some k→i=k):=by
 obtain⟨l⟩:=d
 dsimp only at V F ⊢
 have key:∃r,iter (λ(a:Int × Int)=>E5 l id a.1 a.2) (0,(l.length:Int))=some r ∧
   ∃I:Nat,r=(I:Int)∧I≤l.length∧(∀m,m<I→l[m]!.ID<id)∧∀m,I≤m→m<l.length→¬ l[m]!.ID<id:=by
  refine Kf l.length (λk T=>∃I J:Nat,T=((I:Int),(J:Int))∧I≤J∧J≤l.length∧J-I≤l.length-k∧(∀m,m<I→l[m]!.ID<id)∧∀m,J≤m→m<l.length→¬ l[m]!.ID<id) _ ?_ ?_ ⟨0,l.length,rfl,by omega,by omega,by omega,λm h=>absurd h (Nat.not_lt_zero _),λm U M=>absurd M (by omega)⟩
  ·rintro k T hk ⟨I,J,rfl,U,M,X,C,w⟩
   dsimp only
   unfold E5
   by_cases Z:I<J
   ·left
    rw[rO (by rw[rT];omega),show(I:Int)+(J:Int)=((I+J:Nat):Int) by omega,CR (by omega) (by omega),AD,aP _ (by omega),Ae (by omega),AD,Wh,AD]
    by_cases O:l[(I+J) / 2]!.ID<id
    ·rw[rO O,rO (by decide),Ap (by omega)]
     refine⟨_,rfl,(I+J) / 2+1,J,rfl,by omega,M,by omega,λm a0=>?_,w⟩
     by_cases e:m=(I+J) / 2
     ·rw[e];exact O
     ·have:=F m ((I+J) / 2) (by omega) (by omega);omega
    ·rw[rN O,rN (show ¬ decide ((if id<l[(I+J) / 2]!.ID then(1:Int) else 0)<0)=true by split<;>decide)]
     refine⟨_,rfl,I,(I+J) / 2,rfl,by omega,by omega,by omega,C,λm E j=>?_⟩
     by_cases e:m=(I+J) / 2
     ·rw[e];exact O
     ·have:=F ((I+J) / 2) m (by omega) j;omega
   ·right
    rw[rN (by rw[rT];omega)]
    exact⟨_,rfl,I,rfl,by omega,C,λm E j=>w m (by omega) j⟩
  ·rintro T ⟨I,J,rfl,U,M,X,C,w⟩
   dsimp only
   unfold E5
   rw[rN (by rw[rT];omega)]
   exact⟨_,rfl,I,rfl,by omega,C,λm E j=>w m (by omega) j⟩
 obtain⟨r,hr,I,rfl,hI,C,w⟩:=key
 unfold FX Nq
 rw[hr,AD]
 have A:∀k,CQ l id=some k→I=k:=by
  intro k q
  obtain⟨E,j⟩:=FF q
  have a1:¬ k<I:=λh=>by have:=C k h;omega
  by_cases e:I=k
  ·exact e
  ·have:=F I k (by omega) E
   have:=w I (rV _) (by omega)
   omega
 refine⟨I,?_,A⟩
 by_cases B:I<l.length
 ·rw[rR (show(I:Int)<(l.length:Int) by omega),show((true==true):Bool)=true from rfl,Ak,Ae B,AD,Ak,Wh,AD,BW]
  congr 2
  have h6:=w I (rV _) B
  rw[rN h6]
  cases q:CQ l id with
  | some k=>
   obtain⟨E,j⟩:=FF q
   have:=A k q
   subst this
   rw[rN (by omega)];rfl
  | none=>
   have a2:l[I]!.ID≠id:=by
    intro e
    have:=uP.1 q I (sA.2 B)
    exact this (rR e)
   rw[rO (by omega)];rfl
 ·rw[rQ (show ¬ (I:Int)<(l.length:Int) by omega)]
  show some ((I:Int),false)=_
  cases q:CQ l id with
  | some k=>
   obtain⟨E,j⟩:=FF q
   have:=A k q
   omega
  | none=>rfl
def Is(d:AP):Prop:=d.Nodes.length≤1048576∧∀n∈d.Nodes,GO n
theorem ZR:Ey=Fc:=by funext f x o;rfl
theorem jZ(n:AI):QK n=Fc n.Flow:=by funext x o;rfl
theorem jM:Q1=EB:=by funext n x o;rfl
theorem bZ(n:AI)(w:List Int)(q:n.Grid.Cells.length≤1048576)(hw:w.length≤1048576):∃r,iter (λ(a:Int × (List Int))=>EB n a.1 a.2) (0,w)=some r∧r.length≤2097152:=by
 refine Kf n.Grid.Cells.length (λk l=>l.1=(k:Int)∧l.2.length≤1048576+k) _ ?_ ?_ ⟨rfl,by simpa using hw⟩
 ·rintro k ⟨x,out⟩ m ⟨rfl,j⟩
  dsimp only at j ⊢
  left
  unfold EB
  rw[rO (by simpa using m),Ae m,AD]
  by_cases r:n.Grid.Cells[k]!.Ref=0
  ·rw[rN (DZ r),AD,Ap (by omega),AD]
   exact⟨_,rfl,rfl,by dsimp only;omega⟩
  ·rw[rO (CY r),NM (by omega),AD,AD,Ap (by omega),AD]
   exact⟨_,rfl,rfl,by dsimp only;rw[List.length_append,List.length_singleton];omega⟩
 ·rintro⟨x,out⟩ ⟨rfl,j⟩
  dsimp only at j ⊢
  unfold EB
  rw[rN (by simp)]
  exact⟨_,rfl,by omega⟩
theorem eX(n:AI)(h:GO n):∃r,GM n=some r∧No n=some r∧r.length≤2097152:=by
 have q:=h.ok.fl
 obtain⟨w,j,A⟩:=nj n.Flow (by omega)
 obtain⟨r,l,m⟩:=bZ n w h.ok.gr.1 (by omega)
 refine⟨r,?_,?_,m⟩
 ·unfold GM Ke
  rw[ZR,j,AD,AD,l];rfl
 ·unfold No
  rw[jZ,jM,j,AD,l];rfl
theorem Um(d:AP) kind(l:List Int)(w:d.Nodes.length≤1048576)(B:HF d.Nodes)(J:l.length≤2097152):∃e,Ej d kind l=some e∧Nt d kind l=some e:=by
 obtain⟨o,C,E,_⟩:=TN (ρ:=Int) (f:=λ(a:Int)=>Ci d kind l a) (g:=λ(a:Int)=>Lh d kind l a) (n:=l.length) (λ_=>True) trivial (λk m _=>by
  unfold Ci Lh
  obtain⟨i,F,q⟩:=MY d l[k]! w B
  rw[rO (by simpa using m),rO (by simpa using m),Ae m,AD,AD,F,BW,RA _ _ w,AD]
  cases A:CQ d.Nodes l[k]! with
  | none=>exact⟨some 7,rfl,rfl,λe=>by cases e⟩
  | some j=>
   obtain⟨I,M⟩:=FF A
   have:=q j A
   subst this
   dsimp only
   rw[rN (show ¬ ((!Option.isSome (some i))=true) by simp),Ae I,AD,Rb,AD,rN (show ¬ decide ((i:Int)<0)=true by simp),AD,fP,AD]
   cases KS kind d.Nodes[i]!.Kind with
   | false=>exact⟨some 8,rfl,rfl,λe=>by cases e⟩
   | true=>
    rw[Ap (by omega)]
    exact⟨none,rfl,rfl,λ_=>trivial⟩) (by unfold Ci;rw[rN (by simp)]) (by unfold Lh;rw[rN (by simp)])
 refine⟨o.getD 0,?_,?_⟩
 ·unfold Ej;rw[C,Ex]
 ·unfold Nt;rw[E,Ex]
theorem Uw{l:List AI}(h:∀k,0<k→k<l.length→l[k-1]!.ID<l[k]!.ID):HF l:=by
 intro a b m q
 induction b with
 | zero=>omega
 | succ b w=>
  have j:=h (b+1) (by omega) q
  rw[ux] at j
  by_cases e:a=b
  ·rw[e];exact j
  ·have:=w (by omega) (by omega);omega
theorem ov(d:AP)(h:Is d):∃e,D2 d=some e∧Nh d=some e:=by
 obtain⟨F,C⟩:=h
 unfold D2 Nh
 by_cases h0:d.Nodes.length=0
 ·rw[rO (by rw[rT];omega),rO (by rw[rT];omega)];exact⟨_,rfl,rfl⟩
 ·rw[rN (by rw[rT];omega),rN (by rw[rT];omega)]
  obtain⟨o,I,J,M⟩:=TN (ρ:=Int) (f:=λ(a:Int)=>CJ d a) (g:=λ(a:Int)=>LT d a) (n:=d.Nodes.length) (λk=>∀j,0<j→j<k→d.Nodes[j-1]!.ID<d.Nodes[j]!.ID) (λj _ O=>absurd O (Nat.not_lt_zero _)) (λk l T=>by
   unfold CJ LT
   obtain⟨e,w,A⟩:=SY _ (C _ (Bk l))
   rw[rO (by simpa using l),rO (by simpa using l),Ae l,AD,AD,w,A,AD,AD]
   by_cases m:e=0
   ·rw[rN (DZ m),rN (DZ m)]
    by_cases U:k=0
    ·subst U
     rw[rR (show((0:Nat):Int)=0 from rfl),show((true==true):Bool)=true from rfl,Ak,show(0:Int)=((0:Nat):Int) from rfl,Ae l,AD,rQ (show ¬ ((0:Nat):Int)<((0:Nat):Int) by omega)]
     by_cases BT:d.Nodes[0]!.ID=1
     ·refine⟨none,?_,?_,λ_ j E V=>by omega⟩
      ·rw[rR BT];rfl
      ·rw[rR BT];rfl
     ·refine⟨some 5,?_,?_,λe=>by cases e⟩
      ·rw[rQ BT];rfl
      ·rw[rQ BT];rfl
    ·have X:0<k:=by omega
     rw[rQ (show ¬ ((k:Int)=0) by omega),rR (show(0:Int)<(k:Int) by omega),show((false==true):Bool)=false from rfl,Bp,AD]
     show ∃o:Option Int,(AB (gd true (AS .i64 ((k:Int)-1))) λ(B:Int)=>AB (gd true (AM d.Nodes B)) λ(q:AI)=>_)=_∧(AB (gd true (AS .i64 ((k:Int)-1))) λ(q:Int)=>AB (gd true (AM d.Nodes q)) λ(Z:AI)=>_)=_∧_
     rw[Ak,FC X (by omega),AD,AD,Ak,Ae (show k-1<d.Nodes.length by omega),AD,AD,Ap (by omega)]
     by_cases BT:d.Nodes[k]!.ID≤d.Nodes[k-1]!.ID
     ·rw[rR BT]
      exact⟨some 5,rfl,rfl,λe=>by cases e⟩
     ·rw[rQ BT]
      refine⟨none,rfl,rfl,λ_ j E V=>?_⟩
      by_cases e:j=k
      ·rw[e];omega
      ·exact T j E (by omega)
   ·rw[rO (CY m),rO (CY m)]
    exact⟨some e,rfl,rfl,λe=>by cases e⟩) (by unfold CJ;rw[rN (by simp)]) (by unfold LT;rw[rN (by simp)])
  rw[I,J]
  cases o with
  | some e=>exact⟨e,rfl,rfl⟩
  | none=>
   have hs:=Uw (M rfl)
   show ∃e,(Az (iter (λ(a:Int)=>Cc d a) 0) λ(u4:Unit)=>some 0)=some e∧(Az (iter (λ(a:Int)=>KJ d a) 0) λ(u4:Unit)=>some 0)=some e
   obtain⟨o,w,A,_⟩:=TN (ρ:=Int) (f:=λ(a:Int)=>Cc d a) (g:=λ(a:Int)=>KJ d a) (n:=d.Nodes.length) (λ_=>True) trivial (λk l _=>by
    unfold Cc KJ
    obtain⟨r,r1,r2,r3⟩:=eX _ (C _ (Bk l))
    obtain⟨e,c1,c2⟩:=Um d d.Nodes[k]!.Kind r F hs r3
    rw[rO (by simpa using l),rO (by simpa using l),Ae l,AD,AD,r1,r2,AD,AD,c1,c2,AD]
    by_cases m:e=0
    ·rw[rN (DZ m),Ap (by omega)]
     exact⟨none,rfl,rfl,λ_=>trivial⟩
    ·rw[rO (CY m)]
     exact⟨some e,rfl,rfl,λ_=>trivial⟩) (by unfold Cc;rw[rN (by simp)]) (by unfold KJ;rw[rN (by simp)])
   exact⟨o.getD 0,by rw[w,Ex],by rw[A,Ex]⟩
theorem pN{μ:AI→Nat}{γ:Ar→Nat}{ψ:Aj→Nat}{ρ:Ai→Nat}{δ:Ax→Nat}{ν:AL→Nat}{κ:AC→Nat}
  (m:∀n,(n.Attrs.map κ).sum+(n.Flow.map ν).sum+γ n.Grid+(n.Draw.map δ).sum+1≤μ n) (hg:∀g,(g.Cells.map ψ).sum+(g.Merges.map ρ).sum+1≤γ g)
  (hc:∀c,c.Text.length+(c.Attrs.map κ).sum+1≤ψ c) (A:∀r,1≤ρ r) (hd:∀o,o.Place.length+o.Name.length+o.Value.length+1≤δ o) (B:∀e,(e.Attrs.map κ).sum+1≤ν e) (C:∀a,a.Name.length+a.Value.length+1≤κ a)
  {d:AP} (E:(d.Nodes.map μ).sum≤1048576):Is d:=by
 have q:=pW m hg (λc=>by have:=hc c;omega) A (λo=>by have:=hd o;omega) B C E
 refine⟨q.1,λn l=>⟨q.2 n l,λc j=>⟨(q.2 n l).gr.2.2 c j,?_⟩,λo w=>?_⟩⟩
 ·have F:=Hg (μ:=μ) l
  have I:=m n
  have M:=hg n.Grid
  have J:=Hg (μ:=ψ) j
  have:=hc c
  omega
 ·have F:=Hg (μ:=μ) l
  have I:=m n
  have J:=Hg (μ:=δ) w
  have:=hd o
  exact⟨by omega,by omega,by omega⟩
end Go.Proofs.YtifgmfoihehlbaaGreatDoor.Al

set_option linter.unusedVariables false
set_option linter.unusedSimpArgs false
namespace Go.Proofs.YtifgmfoihehlbaaGreatDoor.Al
open Go
def DF:Nat→List UInt8→Option Nat
 | j,[]=>some j
 | j,c::r=>if 48≤c.toNat∧c.toNat≤57 then DF (j * 10+(c.toNat-48)) r else none
theorem W6(c:UInt8):∀(l:List UInt8) (j:Nat),DF j (l++[c])=(DF j l).bind λa=>if 48≤c.toNat∧c.toNat≤57 then some (a * 10+(c.toNat-48)) else none:=by
 intro l
 induction l with
 | nil=>intro j;simp only[se,DF,sJ]
 | cons x r m=>
  intro j
  rw[sv,DF,DF]
  split
  ·rw[m]
  ·rfl
theorem Wa:∀(l:List UInt8) (j v:Nat),DF j l=some v→j≤v:=by
 intro l
 induction l with
 | nil=>intro j v h;simp only[DF,rY] at h;omega
 | cons x r m=>
  intro j v h
  rw[DF] at h
  split at h
  ·have:=m _ _ h;omega
  ·cases h
theorem dK:∀(l:List UInt8) (j v:Nat),DF j l=some v→v<1152921504606846976→Lib.parseUint10 j l=.ok v:=by
 intro l
 induction l with
 | nil=>intro j v h _;simp only[DF,rY] at h;rw[h];rfl
 | cons x r m=>
  intro j v h q
  rw[DF] at h
  simp only[Lib.parseUint10]
  split at h
  ·rename_i hd
   have:=Wa _ _ _ h
   rw[rO hd,rN (by omega),rN (by omega)]
   exact m _ _ h q
  ·cases h
theorem gD u:DF 0 (Lib.decDigits u)=some u:=by
 induction u using Nat.strongRecOn with
 | _ u j=>
  rw[Lib.decDigits]
  split
  ·rename_i h
   have:(UInt8.ofNat (48+u)).toNat=48+u:=by simp;omega
   simp only[DF,this]
   rw[rO (by omega)]
   congr 1;omega
  ·rename_i h
   rw[W6,j (u / 10) (by omega),sJ]
   have:(UInt8.ofNat (48+u % 10)).toNat=48+u % 10:=by simp;omega
   rw[this,rO (by omega)]
   congr 1;omega
theorem ZQ u(h:1≤u):∃c r,Lib.decDigits u=c::r∧49≤c.toNat∧c.toNat≤57:=by
 induction u using Nat.strongRecOn with
 | _ u j=>
  rw[Lib.decDigits]
  split
  ·exact⟨_,[],rfl,by simp;omega,by simp;omega⟩
  ·obtain⟨c,r,e,l,m⟩:=j (u / 10) (by omega) (by omega)
   exact⟨c,r++[UInt8.ofNat (48+u % 10)],by rw[e];rfl,l,m⟩
theorem ci:∀(k u:Nat),u<10 ^ (k+1)→(Lib.decDigits u).length≤k+1:=by
 intro k
 induction k with
 | zero=>
  intro u h
  rw[Lib.decDigits,uB (by simpa using h)];simp
 | succ k j=>
  intro u h
  rw[Lib.decDigits]
  split
  ·simp
  ·have:=j (u / 10) (by rw[Nat.pow_succ] at h;omega)
   simp;omega
theorem iP:∀(n:Nat) (l:List UInt8) (u:Nat),l.length=n→DF 0 l=some u→(∃c r,l=c::r∧(c.toNat≠48∨r=[]))→l=Lib.decDigits u:=by
 intro n
 induction n with
 | zero=>rintro l u w _ ⟨c,r,rfl,_⟩;simp at w
 | succ n C=>
  rintro l u w j ⟨c,r,rfl,E⟩
  rcases List.eq_nil_or_concat r with rfl | ⟨A,d,rfl⟩
  ·simp only[DF] at j
   split at j
   ·rename_i hd
    simp only[rY] at j
    rw[Lib.decDigits,uB (by omega)]
    congr 1
    apply UInt8.toNat_inj.1
    simp;omega
   ·cases j
  ·rw[List.concat_eq_append,← sv,W6] at j
   cases m:DF 0 (c::A) with
   | none=>rw[m] at j;cases j
   | some a=>
    rw[m,sJ] at j
    split at j
    ·rename_i hd
     simp only[rY] at j
     have B:c.toNat≠48:=by
      rcases E with h | h
      ·exact h
      ·simp at h
     have F:1≤a:=by
      have q:=m
      rw[DF] at q
      split at q
      ·have:=Wa _ _ _ q;omega
      ·cases q
     have e:=C (c::A) a (by simp at w ⊢;omega) m ⟨c,A,rfl,.inl B⟩
     rw[List.concat_eq_append,← sv,e,Lib.decDigits.eq_def u,dif_neg (by omega)]
     congr 1
     ·congr 1;omega
     ·congr 1
      apply UInt8.toNat_inj.1
      simp;omega
    ·cases j
def EO(s:List UInt8):Int:=
 match s with
 | []=>-1
 | c::r=>if 10<(c::r).length∨(c.toNat=48∧r≠[]) then -1 else match DF 0 (c::r) with | some v=>(v:Int) | none=>-1
theorem dQ(c:UInt8)(j:48≤c.toNat):IntKind.i64.wrap (IntKind.u8.wrap ((c.toNat:Int)-48))=((c.toNat-48:Nat):Int):=by
 have:=c.toNat_lt
 rw[show IntKind.u8.wrap ((c.toNat:Int)-48)=((c.toNat-48:Nat):Int) by unfold IntKind.wrap;simp[IntKind.signed,IntKind.bits];omega]
 unfold IntKind.wrap
 simp[IntKind.signed,IntKind.bits]
 omega
theorem mU(s:List UInt8):Pk s=some (EO s):=by
 unfold Pk
 cases s with
 | nil=>simp[Bp,EO]
 | cons c r=>
  rw[rQ (by simp:¬ (c::r)=[]),sb]
  have hN:EO (c::r)=if 10<(c::r).length∨(c.toNat=48∧r≠[]) then -1 else match DF 0 (c::r) with | some v=>(v:Int) | none=>-1:=rfl
  by_cases h10:10<(c::r).length
  ·have hN1:EO (c::r) = -1:=by rw[hN,rO (.inl h10)]
   rw[hN1,rR (by exact_mod_cast h10)]
   simp[Bp]
  ·rw[rQ (by exact_mod_cast h10)]
   simp only[show((false==false)=true) from rfl,Ak,sb]
   rw[show AM (c::r) 0=some c from rfl,AD]
   by_cases h0:c.toNat=48∧r≠[]
   ·have hN1:EO (c::r) = -1:=by rw[hN,rO (.inr h0)]
    have h3:0<r.length:=tL.2 h0.2
    rw[hN1,rO (by simp[h0.1];omega)]
   ·have hN1:EO (c::r)=match DF 0 (c::r) with | some v=>(v:Int) | none=>-1:=by
     rw[hN,rN (by rintro(h | h);exact h10 h;exact h0 h)]
    rw[hN1,rN]
    ·have h:=Eo (f:=λ(a:Int × Int)=>Hp (c::r) a.1 a.2) (c::r) (λ(n:Nat) i=>((n:Int),(i:Int))) (λl n=>match DF n l with | some v=>(.nrm (v:Int):As Int Int) | none=>.ext (-1)) (λi n=>n<10 ^ i)
      (λi n hi hn=>by
       show(∃c',Hp (c::r) (n:Int) (i:Int)=_∧_)∨Hp (c::r) (n:Int) (i:Int)=_
       unfold Hp
       rw[rO (by rw[rT];exact_mod_cast hi),Ae hi,AD]
       generalize (c::r)[i]! = x
       have hi10:i≤9:=by omega
       have hp:10 ^ i≤10 ^ 9:=Nat.pow_le_pow_right (by omega) hi10
       by_cases hd:48≤x.toNat∧x.toNat≤57
       ·left
        refine⟨n * 10+(x.toNat-48),?_,by rw[Nat.pow_succ];omega,?_⟩
        ·rw[rN (by simp;omega),CR (by omega) (by omega),AD,dQ x hd.1,CR (by omega) (by omega),AD,Ap (by omega),AD]
         congr 3;omega
        ·rw[DF,rO hd]
       ·right
        rw[rO (by simp;omega),DF,rN hd])
      (λn hn=>by
       show Hp (c::r) (n:Int) ((c::r).length:Int)=_
       unfold Hp
       rw[rN (by simp)]
       rfl) (0:Nat) (by simp) ((0:Int),(0:Int)) rfl
     have h':iter (λ(a:Int × Int)=>Hp (c::r) a.1 a.2) ((0:Int),(0:Int))=_:=h
     rw[h']
     cases DF 0 (c::r) with
     | none=>rfl
     | some v=>rfl
    ·intro h
     apply h0
     rw[rZ,rT,rT] at h
     exact⟨by omega,λe=>by rw[e] at h;simp at h⟩
theorem Y2 s(n:Int)(F:1≤n)(I:n≤1073741824):(Lib.atoiAll s=.ok n∧Lib.itoa n=s)↔EO s=n:=by
 obtain⟨u,rfl⟩:∃u:Nat,n=(u:Int):=⟨n.toNat,by omega⟩
 have l:1≤u:=by omega
 rw[Lib.itoa_nonneg]
 constructor
 ·rintro⟨_,rfl⟩
  obtain⟨c,r,e,q,w⟩:=ZQ u l
  have A:=ci 9 u (by omega)
  have j:=gD u
  rw[e] at A j ⊢
  unfold EO
  simp only
  rw[rN (by rintro(h | ⟨h,_⟩)<;>omega),j]
 ·intro h
  unfold EO at h
  split at h
  ·omega
  ·rename_i c r
   split at h
   ·omega
   ·rename_i B
    cases j:DF 0 (c::r) with
    | none=>rw[j] at h;simp only at h;omega
    | some v=>
     rw[j] at h
     simp only at h
     have:v=u:=by omega
     subst this
     have e:=iP _ (c::r) v rfl j ⟨c,r,rfl,by
      by_cases m:c.toNat=48
      ·right
       apply rp
       intro C
       exact B (.inr ⟨m,C⟩)
      ·exact .inl m⟩
     refine⟨?_,e.symm⟩
     obtain⟨J,M,E,q,w⟩:=ZQ v l
     rw[E] at e
     simp only[uM] at e
     rw[Lib.atoiAll_plain c r (by rw[e.1];omega) (by rw[e.1];omega)]
     unfold Lib.parseMag
     rw[rN (by simp),dK _ _ _ j (by omega)]
     simp only[Lib.signless]
     rw[rN (by omega)]
end Go.Proofs.YtifgmfoihehlbaaGreatDoor.Al

namespace Go.Proofs.YtifgmfoihehlbaaGreatDoor.Al
theorem Bl{α β:Type}{o:Option α}{f:α→Option β}{r:β}(h:AB o f=some r):∃a,o=some a∧f a=some r:=by
 cases o with
 | none=>cases h
 | some a=>exact⟨a,rfl,h⟩
theorem N7{d:AP}(h:Is d)(l:D2 d=some 0):HF d.Nodes∧∀k,k<d.Nodes.length→Ch d.Nodes[k]! = some 0:=by
 obtain⟨T,F⟩:=h
 unfold D2 at l
 split at l
 ·cases l
 let g:Nat→Option Int:=λk=>if(Ch d.Nodes[k]!).getD 0≠0 then some ((Ch d.Nodes[k]!).getD 0) else if(k=0∧d.Nodes[k]!.ID≠1)∨(0<k∧d.Nodes[k]!.ID≤d.Nodes[k-1]!.ID) then some 5 else none
 have hit:iter (λ(a:Int)=>CJ d a) 0=some (DY ((List.range d.Nodes.length).findSome? g)):=by
  refine By g (λk j=>?_) (by unfold CJ;rw[rN (by simp)])
  unfold CJ
  obtain⟨e,A,_⟩:=SY _ (F _ (Bk j))
  show _=CI k (g k)
  simp only[g]
  rw[rO (by simpa using j),Ae j,AD,A,AD]
  show _=CI k (if e≠0 then some e else _)
  by_cases q:e=0
  ·rw[rN (DZ q),rN (by simpa using q)]
   by_cases B:k=0
   ·subst B
    rw[rR (show((0:Nat):Int)=0 from rfl),rQ (show ¬ (0:Int)<((0:Nat):Int) by omega)]
    by_cases BT:d.Nodes[0]!.ID=1
    ·rw[rR BT,rN (show ¬ ((0=0∧d.Nodes[0]!.ID≠1)∨(0<0∧d.Nodes[0]!.ID≤d.Nodes[0-1]!.ID)) by rintro(⟨_,b⟩ | ⟨a,_⟩);exact b BT;omega)]
     rfl
    ·rw[rQ BT,rO (show((0=0∧d.Nodes[0]!.ID≠1)∨(0<0∧d.Nodes[0]!.ID≤d.Nodes[0-1]!.ID)) from .inl ⟨rfl,BT⟩)]
     rfl
   ·have I:0<k:=by omega
    rw[rQ (show ¬ ((k:Int)=0) by omega),rR (show(0:Int)<(k:Int) by omega)]
    show(AB (gd true (AS .i64 ((k:Int)-1))) λ(C:Int)=>AB (gd true (AM d.Nodes C)) λ(J:AI)=>_)=_
    rw[Ak,FC I (by omega),AD,Ak,Ae (show k-1<d.Nodes.length by omega),AD,Ap (by omega)]
    by_cases BT:d.Nodes[k]!.ID≤d.Nodes[k-1]!.ID
    ·rw[rR BT,rO (show((k=0∧d.Nodes[k]!.ID≠1)∨(0<k∧d.Nodes[k]!.ID≤d.Nodes[k-1]!.ID)) from .inr ⟨I,BT⟩)]
     rfl
    ·rw[rQ BT,rN (show ¬ ((k=0∧d.Nodes[k]!.ID≠1)∨(0<k∧d.Nodes[k]!.ID≤d.Nodes[k-1]!.ID)) by rintro(⟨a,_⟩ | ⟨_,b⟩);exact B a;exact BT b)]
     rfl
  ·rw[rO (CY q),rO q]
   rfl
 rw[hit] at l
 cases w:(List.range d.Nodes.length).findSome? g with
 | some e=>
  rw[w] at l
  have l:(some e:Option Int)=some 0:=l
  injection l with l
  obtain⟨k,_,j⟩:=sP w
  simp only[g] at j
  split at j
  ·rename_i E;injection j with j;exact absurd (j.trans l) E
  ·split at j
   ·injection j with j;omega
   ·cases j
 | none=>
  rw[sh] at w
  have j:∀k,k<d.Nodes.length→(Ch d.Nodes[k]!).getD 0=0∧¬ ((k=0∧d.Nodes[k]!.ID≠1)∨(0<k∧d.Nodes[k]!.ID≤d.Nodes[k-1]!.ID)):=by
   intro k j
   have:=w k (sA.2 j)
   simp only[g] at this
   split at this
   ·cases this
   ·rename_i M
    split at this
    ·cases this
    ·rename_i O;exact⟨by simpa using M,O⟩
  refine⟨Uw λk B m=>?_,λk m=>?_⟩
  ·have:=(j k m).2
   have U:¬ (0<k∧d.Nodes[k]!.ID≤d.Nodes[k-1]!.ID):=λe=>this (.inr e)
   omega
  ·obtain⟨e,A,_⟩:=SY _ (F _ (Bk m))
   have:=(j k m).1
   rw[A] at this ⊢
   exact ro some this
theorem mC{d:AP} id(j:d.Nodes.length≤1048576)(l:HF d.Nodes):PS d id=some (match CQ d.Nodes id with | some k=>(k:Int) | none=>-1):=by
 unfold PS
 obtain⟨i,m,q⟩:=MY d id j l
 rw[m,BW]
 cases w:CQ d.Nodes id with
 | none=>rfl
 | some k=>rw[q k w];rfl
def g0:Ar:=Ar.mk 2 1 [(Aj.mk 1 0 [120] 0 [])] []
def e0:M8:=M8.mk [(LM.mk 1 1),(LM.mk 0 2)] [] [] [] []
def po(c t:Aj):Int:=Bx c.Row t.Row c.Col t.Col
def bB(l:List Aj):Prop:=∀k,k+1<l.length→po l[k]! l[k+1]!<0
def Sk(r:Ai)(row j:Int):Bool:=decide (r.Row≤row∧row<r.Row+r.H∧r.Col≤j∧j<r.Col+r.W)
def NL(l:List Ai)(row j:Int)(k:Nat):Option Ai:=if Sk l[k]! row j=true then some l[k]! else none
theorem pz(g:Ar) row j (J:E4 g.Rows g.Cols) (M:∀k,k<g.Merges.length→DB g.Rows g.Cols g.Merges[k]!) (Z:g.Merges.length≤1048576) (hr:row≤9223372036854775807) (hc:j≤9223372036854775807) :
  ∃o:Option Ai,iter (λ(a:Int)=>Js g row j a) 0=some (DY o)∧iter (λ(a:Int)=>JM g row j a) 0=some (DY o):=by
 refine⟨(List.range g.Merges.length).findSome? (NL g.Merges row j),?_,?_⟩
 ·refine By (f:=λ(a:Int)=>Js g row j a) (n:=g.Merges.length) (NL g.Merges row j) (λk l=>?_) ?_
  ·obtain⟨w,A,B,C,E,F,I,i8⟩:=M k l
   unfold Js NL Sk
   rw[rO (by simpa using l),Ae l,AD]
   generalize g.Merges[k]! = r at w A B C E F I i8
   obtain⟨T,U,V,X⟩:=J
   by_cases q:r.Row≤row
   ·rw[rR q]
    simp only[sc,Ak,sE]
    rw[CR (by omega) (by omega),AD]
    by_cases m:row-r.Row<r.H∧r.Col≤j
    ·rw[rR m.1,rR m.2]
     simp only[uY,sc,Ak,sE]
     rw[CR (by omega) (by omega),AD]
     by_cases O:j-r.Col<r.W
     ·rw[rO (rR O),rO (by rw[rT];omega)];rfl
     ·rw[rN (by rw[rT];exact O),rN (by rw[rT];omega),Ap (by omega),AD];rfl
    ·have e:((row-r.Row<r.H)&&(r.Col≤j))=false:=by
      rw[← sO,rZ,rT,rT];exact m
     rw[e]
     simp only[show(false==true)=false from rfl,Bp,AD,sR]
     rw[rN (by decide),rN (by rw[rT];omega),Ap (by omega),AD];rfl
   ·rw[rQ q]
    simp only[show(false==true)=false from rfl,Bp,AD,sR]
    rw[rN (by decide),rN (by rw[rT];omega),Ap (by omega),AD];rfl
  ·show Js g row j (g.Merges.length:Int)=_
   unfold Js
   rw[rN (by simp)]
 ·refine By (f:=λ(a:Int)=>JM g row j a) (n:=g.Merges.length) (NL g.Merges row j) (λk l=>?_) ?_
  ·obtain⟨w,A,B,C,E,F,I,i8⟩:=M k l
   unfold JM NL Sk
   rw[rO (by simpa using l),Ae l,AD]
   generalize g.Merges[k]! = r at w A B C E F I i8
   obtain⟨T,U,V,X⟩:=J
   rw[CR (by omega) (by omega),AD,CR (by omega) (by omega),AD,EF,AD]
   by_cases q:r.Row≤row∧row≤r.Row+r.H-1
   ·rw[rR q]
    simp only[sc,Ak,sE]
    rw[CR (by omega) (by omega),AD,CR (by omega) (by omega),AD,EF,AD]
    by_cases m:r.Col≤j∧j≤r.Col+r.W-1
    ·rw[rO (rR m),rO (by rw[rT];omega)];rfl
    ·rw[rN (by rw[rT];exact m),rN (by rw[rT];omega),Ap (by omega),AD];rfl
   ·rw[rQ q]
    simp only[show(false==true)=false from rfl,Bp,AD,sR]
    rw[rN (by decide),rN (by rw[rT];omega),Ap (by omega),AD];rfl
  ·show JM g row j (g.Merges.length:Int)=_
   unfold JM
   rw[rN (by simp)]
theorem Ua{l:Nat}{G:Nat→Option Int}(h:((List.range l).findSome? G).getD 0=0)(hn:∀k,k<l→G k≠some 0):∀k,k<l→G k=none:=by
 intro k hk
 cases hf:(List.range l).findSome? G with
 | none=>
  rw[sh] at hf
  exact hf k (sA.2 hk)
 | some v=>
  rw[hf] at h
  obtain⟨j,hj,hjv⟩:=sP hf
  have h0:v=0:=h
  rw[h0] at hjv
  exact absurd hjv (hn j (sA.1 hj))
theorem XT{g:Ar}(h:HY g=0):E4 g.Rows g.Cols∧bB g.Cells∧∀k,k<g.Merges.length→DB g.Rows g.Cols g.Merges[k]!:=by
 unfold HY at h
 by_cases h1:E4 g.Rows g.Cols
 ·rw[rN (by simpa using h1)] at h
  by_cases h2:I1 g.Rows g.Cols false g.Cells=0
  ·rw[rN (by simpa using h2)] at h
   refine⟨h1,λk hk=>?_,λk hk=>?_⟩
   ·have:=Ua h2 (λk _ he=>by
     unfold Ie at he
     split at he
     ·rename_i hne
      injection he with he
      exact hne he
     ·split at he
      ·cases he
      ·cases he) (k+1) (by omega)
    unfold Ie at this
    split at this
    ·cases this
    ·split at this
     ·cases this
     ·rename_i hq
      rw[ux] at hq
      show Bx _ _ _ _<0
      have:=λh=>hq ⟨by omega,h⟩
      omega
   ·have:=Ua h (λk _ he=>by
     unfold Ju at he
     split at he
     ·cases he
     ·split at he
      ·cases he
      ·split at he
       ·cases he
       ·split at he
        ·cases he
        ·cases he) k hk
    exact Sv this
  ·rw[rO h2] at h;exact absurd h h2
 ·rw[rO h1] at h;cases h
def LE(c:UInt8):Bool:=(97≤c.toNat)&&(c.toNat≤122)
def MZ(s:List UInt8):Bool:=s.all LE&&(1≤s.length)&&(s.length≤200)&&!(s[s.length-1]!.toNat=97)
theorem o6(c:UInt8):(((c.toNat:Int)<97)||(122<(c.toNat:Int)))=!LE c:=by
 unfold LE
 rw[sM]
 simp only[re,rT,sU,tX,sd]
 omega
theorem mo(s:List UInt8)(l:s.length≤1048576):iter (λ(a:Int)=>LF s a) 0=some (DY (if s.all LE then none else some false)):=by
 rw[By (n:=s.length) (λk=>if LE s[k]! then none else some false) (λk j=>by
  unfold LF
  rw[rO (by simpa using j),Ae j,AD,Ap (by omega),o6]
  cases LE s[k]!<;>rfl) (by unfold LF;rw[rN (by simp)]),SO]
theorem eZ(c:UInt8):decide ((c.toNat:Int)=97)=decide (c.toNat=97):=by
 rw[sM];simp only[rT];omega
theorem pV(s:List UInt8)(w:s.length≤1048576):Kd s=some (MZ s):=by
 unfold Kd
 rw[mo s w]
 unfold MZ
 by_cases j:s=[]
 ·subst j;rfl
 ·have m:1≤s.length:=tL.2 j
  rw[rQ j,sb]
  by_cases q:s.length≤200
  ·have l:decide (200<(s.length:Int))=false:=by simp;omega
   rw[l,show((false==false)=true) from rfl,Ak,FC m (by omega),AD,Ak,Ae (by omega),AD,sb,eZ]
   rw[rR m,rR q]
   generalize s.all LE=A
   cases decide (s[s.length-1]!.toNat=97)<;>cases A<;>rfl
  ·have l:decide (200<(s.length:Int))=true:=by simp;omega
   rw[l,show((true==false)=false) from rfl,Bp,AD,Bp,AD,uO,rO rfl,rQ q]
   simp
def FQ(x:Ax):Int:=
 if x.Kind≠0∧x.Kind≠1 then 8
 else if ¬ (((1≤x.Clock∧x.Clock≤1073741824)∧(0≤x.Site∧x.Site≤1000))∧(1≤x.Item∧x.Item≤1073741824)) then 2
 else if x.Kind=0 then(if x.Name≠[]∨x.Value≠[] then 4 else if ¬ (-1≤x.Parent∧x.Parent≤1073741824) then 2 else if MZ x.Place then 0 else 9)
 else(if x.Parent≠0∨x.Place≠[] then 4 else if DR x.Name then(if x.Value≠[]∧DP x.Value=false then 23 else 0) else 9)
structure Yw(x:Ax):Prop where
 place:x.Place.length≤1048576
 name:x.Name.length≤1048576
 value:x.Value.length≤1048576
theorem pb x(h:Yw x):Ky x=some (FQ x):=by
 unfold Ky FQ
 rw[pV _ h.place,Rh _ (by have:=h.name;omega),TK _ (by have:=h.value;omega)]
 obtain⟨Clock,Site,Kind,Item,j,Place,Name,Value⟩:=x
 dsimp only
 by_cases w:Kind≠0∧Kind≠1
 ·rw[rO w,rO (by simp[w.1,w.2])]
 rw[rN w,rN (by simpa using w)]
 by_cases B:((1≤Clock∧Clock≤1073741824)∧(0≤Site∧Site≤1000))∧(1≤Item∧Item≤1073741824)
 ·rw[rN (sC.2 B),rN (by simp only[re,rT];omega)]
  by_cases A:Kind=0
  ·subst A
   rw[rO rfl]
   by_cases l:Name≠[]∨Value≠[]
   ·rw[rO l,rO (by rcases l with h | h<;>simp[h])]
    rcases l with h | h<;>simp[h]
   ·have m:Name=[]:=rp λh=>l (.inl h)
    have q:Value=[]:=rp λh=>l (.inr h)
    subst m;subst q
    rw[rN l]
    simp only[uv,tQ,Bool.or_self,Bool.and_false,tE,ti,AD,show(decide ((0:Int)=1))=false from rfl,sR,sE,sc,Ak]
    by_cases hp : -1≤j∧j≤1073741824
    ·rw[rN (sC.2 hp),rN (by simp only[re,rT];omega)]
     cases MZ Place<;>simp[Bp]
    ·rw[rO hp,rO (by simp only[re,rT];omega)]
  ·have E:Kind=1:=rp λh=>w ⟨A,h⟩
   subst E
   rw[rN A]
   simp only[show(decide ((1:Int)=0))=false from rfl,sR,tE,ti,AD,uv,sE,show(false==true)=false from rfl,Bp,sc,Ak]
   by_cases l:j≠0∨Place≠[]
   ·rw[rO l,rO (by rcases l with h | h<;>simp[h])]
   ·have m:j=0:=rp λh=>l (.inl h)
    have q:Place=[]:=rp λh=>l (.inr h)
    subst m;subst q
    rw[rN l,rN (by simp)]
    cases DR Name
    ·simp
    ·by_cases C:Value=[]
     ·subst C;simp[Bp]
     ·simp[C]
      cases DP Value<;>rfl
 ·rw[rO B,rO (by simp only[re,rT];omega)]
def Lr(a b:Ax):Bool:=(a.Clock<b.Clock)||((a.Clock=b.Clock)&&(a.Site<b.Site))
def G6(x y:Int):Int:=if x<y then -1 else if y<x then 1 else 0
theorem RM x y:GC x y=some (G6 x y):=by
 unfold GC G6 Lp
 simp only[uv,tQ,AD,tE,ti,rT]
 split
 ·rfl
 ·split<;>rfl
theorem YV x y:IB [x,y]=some (if x≠0 then x else y):=by
 unfold IB
 rw[By (n:=2) (λk=>if [x,y][k]!≠0 then some [x,y][k]! else none) (λk m=>by
  unfold D3
  rw[rO (by simp;omega),Ae (by simpa using m),AD,Ap (by omega)]
  by_cases h:[x,y][k]! = 0
  ·rw[rN (by rw[h];decide),rN (sC.2 h)];rfl
  ·rw[rO (by rw[rQ h];rfl),rO h];rfl) (by unfold D3;rw[rN (by simp)])]
 by_cases j:x=0
 ·by_cases l:y=0
  ·subst j;subst l;rfl
  ·subst j;simp[List.range_succ,l,DY]
 ·simp[List.range_succ,j,DY]
theorem iM(a b:Ax):∃r,KO a b=some r∧decide (r<0)=Lr a b∧decide (0≤r)=!Lr a b:=by
 unfold KO
 rw[RM,RM,AD,AD,YV,AD]
 refine⟨_,rfl,?_⟩
 have key:(if G6 a.Clock b.Clock≠0 then G6 a.Clock b.Clock else G6 a.Site b.Site)<0↔Lr a b=true:=by
  unfold Lr G6
  simp only[re,rZ,rT]
  by_cases j:a.Clock<b.Clock
  ·simp[j]
  ·by_cases l:b.Clock<a.Clock
   ·simp[j,l];omega
   ·by_cases m:a.Site<b.Site
    ·simp[j,l,m];omega
    ·by_cases q:b.Site<a.Site
     ·simp[j,l,m,q]
     ·simp[j,l,m,q]
 constructor
 ·rw[sM,rT];exact key
 ·rw[sM,rT,sU,← sO,← key];omega
def JY(l:List Ax):Prop:=∀x∈l,Yw x
def MG(l:List Ax)(k:Nat):Option Int:=if FQ l[k]!≠0 then some (FQ l[k]!) else if 0<k∧Lr l[k-1]! l[k]! = false then some 5 else none
def Rw(l:List Ax):Int:=((List.range l.length).findSome? (MG l)).getD 0
theorem XN(l:List Ax)(h:JY l)(C:l.length≤1048576):IT l=some (Rw l):=by
 unfold IT
 rw[By (n:=l.length) (MG l) (λk m=>by
  unfold K1 MG
  rw[rO (by simpa using m),Ae m,AD,pb _ (h _ (Bk m)),AD,Ap (by omega)]
  by_cases j:FQ l[k]! = 0
  ·rw[rN (by rw[j];decide),rN (sC.2 j)]
   by_cases q:k=0
   ·subst q;rfl
   ·have w:decide ((0:Int)<(k:Int))=true:=by simp;omega
    obtain⟨r,A,_,B⟩:=iM l[k-1]! l[k]!
    rw[w,show((true==true)=true) from rfl,Ak,FC (by omega) (by omega),AD,Ak,Ae (by omega),AD,Ak,A,AD,B,sE]
    cases j:Lr l[k-1]! l[k]!
    ·rw[rO (by decide),rO ⟨by omega,rfl⟩];rfl
    ·rw[rN (by simp),rN (by simp)];rfl
  ·rw[rO (by rw[rQ j];rfl),rO j];rfl) (by unfold K1;rw[rN (by simp)]),Ex]
 rfl
def Lg(j:Bool)(e:AC):Prop:=DR e.Name=true∧(DP e.Value=true∨(j=true∧e.Value=[]))
theorem O2(l:List AC)(ch:Bool):BE l ch=0↔Ba l∧∀e∈l,Lg ch e:=by
 constructor
 ·intro h
  refine⟨(FM h).1,λe he=>?_⟩
  obtain⟨k,hk,rfl⟩:=sN.1 he
  have hn:Da l ch k=none:=by
   unfold BE at h
   cases hf:(List.range l.length).findSome? (Da l ch) with
   | none=>exact(Uo _ _).1 hf k hk
   | some r=>
    rw[hf] at h
    obtain⟨j,_,hj⟩:=sP hf
    exfalso
    unfold Da at hj
    simp only[sf] at h
    subst h
    repeat' split at hj
    all_goals simp at hj
  unfold Da at hn
  rw[ri l k hk] at hn
  generalize l[k]=x at hn ⊢
  unfold Lg
  by_cases c1:DR x.Name=false
  ·rw[rO c1] at hn;cases hn
  ·rw[rN c1] at hn
   by_cases c2:DP x.Value=false∧¬ (ch=true∧x.Value=[])
   ·rw[rO c2] at hn;cases hn
   ·refine⟨by simpa using c1,?_⟩
    by_cases c3:DP x.Value=true
    ·exact .inl c3
    ·exact .inr (rp λh3=>c2 ⟨by simpa using c3,h3⟩)
 ·rintro⟨hs,hv⟩
  unfold BE
  have:(List.range l.length).findSome? (Da l ch)=none:=by
   rw[sh]
   intro k hk
   have hk:=sA.1 hk
   have h1:=hv _ (Bk hk)
   unfold Da
   unfold Lg at h1
   rw[rN (by rw[h1.1];simp),rN (by rintro⟨a1,a2⟩;rcases h1.2 with h2 | h2;rw[a1] at h2;cases h2;exact a2 h2),rN]
   rintro⟨h0,h2⟩
   have:=tM.1 hs (k-1) k (by omega) hk (by omega)
   rw[ri l k hk,ri l (k-1) (by omega)] at h2
   rw[this] at h2;cases h2
  rw[this];rfl
theorem Y4:∀ {l:List AC},Ba l→∀e∈l,Ao l e.Name=some e
 | [],_,e,h=>by simp at h
 | x::l,j,e,h=>by
  obtain⟨m,q⟩:=EV.1 j
  rcases sB.1 h with rfl | h
  ·unfold Ao;rw[rO rfl]
  ·have:=Ez (m e h)
   unfold Ao;rw[rN (uR this)]
   exact Y4 q e h
theorem di{stp}{g}{G}(h:∀x y o, stp x y o=o++g x y)(hg:PJ g G){a b}{j l q}
 (w:BE a j=0) (A:BE b l=0) (E:∀x y e, (∀z, x=some z→Lg j z)→(∀z, y=some z→Lg l z)→G x y=some e→Lg q e):BE (CO stp a b []) q=0 := by
  obtain⟨F, v1⟩ := (O2 a j).1 w
  obtain⟨I, J⟩ := (O2 b l).1 A
  obtain⟨B, M⟩ := RT h hg F I (FM w).2.1 (FM A).2.1
  refine(O2 _ _).2 ⟨B, λe O => ?_⟩
  have C := Y4 B e O
  rw[M] at C
  exact E _ _ e (λz m => v1 z (LC m).2) (λz m => J z (LC m).2) C
theorem ki{a b}(l:BE a false=0)(m:BE b true=0):BE (CO EZ a b []) false=0:=
 di SB Rc l m λx y e q w h=>by
  unfold GR at h
  split at h
  ·exact q e h
  ·split at h
   ·cases h
   ·rename_i A
    cases h
    have:=w e rfl
    exact⟨this.1,.inl (by rcases this.2 with j | j;exact j;exact absurd j.2 A)⟩
theorem fW{a:AC}(j:DR a.Name=true)(l:a.Value=[]∨DP a.Value=true):BE [a] true=0:=by
 refine(O2 _ _).2 ⟨by unfold Ba;simp,λe m=>?_⟩
 obtain rfl:=s7.1 m
 exact⟨j,l.elim (λh=>.inr ⟨rfl,h⟩) .inl⟩
def FS(l:List AC)(a:AC):List AC:=CO EZ l [a] []
theorem Qp(l:List AC) a:(FS l a).length≤l.length+1:=by
 have:=Wo EZ VE _ l [a] [] rfl
 simpa[FS] using this
theorem WF{l}{a}(j:BE l false=0)(m:BE [a] true=0):BE (FS l a) false=0:=ki j m
theorem XQ{l:List AC}{a}(h:l.length≤1048576):GE l [a]=some (FS l a):=TW _ _ (by simp;omega)
theorem Wc{l:List AC}{a}(j:BE l false=0)(m:BE [a] true=0)(h:l.length≤1048576):Gg l [a]=some (FS l a):=by
 rw[X0 l [a] (FM j).1 (FM m).1 (by simp;omega),← Yy j m];rfl
theorem Sc:BE [] false=0:=by decide
def Bd(l:List AE):List (Int × AE):=l.map λx=>(x.Item,x)
def DA(l:List AE):List (Int × List AC):=l.map λx=>(x.Item,x.Attrs)
theorem TV l k:Ah (DA l) k=Ah (Bd l) k:=by
 induction l with
 | nil=>rfl
 | cons x r j=>show(if k=x.Item then some 0 else(Ah (DA r) k).map (· + 1))=(if k=x.Item then some 0 else(Ah (Bd r) k).map (· + 1));rw[j]
theorem Hq{l:List AE}{k}{j}(h:Ah (Bd l) k=some j):∃q:j<l.length,l[j].Item=k:=by
 obtain⟨v,m,_⟩:=Df h
 unfold Bd at m
 rw[rc,rg] at m
 obtain⟨x,A,w⟩:=m
 obtain⟨q,rfl⟩:=rW.1 A
 simp only[rf] at w
 exact⟨q,w.1⟩
theorem Kl{l}{k}(h:Ah (Bd l) k=none):∀x∈l,x.Item≠k:=by
 induction l with
 | nil=>intro x m;cases m
 | cons y r w=>
  unfold Bd at h
  rw[ru] at h
  unfold Ah at h
  split at h
  ·cases h
  ·rename_i A
   have B:Ah (Bd r) k=none:=by
    cases q:Ah (Bd r) k with
    | none=>rfl
    | some j=>unfold Bd at q;rw[q] at h;cases h
   intro x m
   rcases sB.1 m with rfl | m
   ·exact λe=>A e.symm
   ·exact w B x m
theorem VY{l}{k} : AU (Bd l) k=(Ah (Bd l) k).bind λj=>l[j]?:=by
 cases h:Ah (Bd l) k with
 | none=>exact(Ew h).1
 | some j=>
  obtain⟨v,m,w,_⟩:=Df h
  unfold Bd at m
  rw[rc,rg] at m
  obtain⟨x,A,q⟩:=m
  simp only[rf] at q
  rw[w,sJ,A,q.2]
def QT(key:Int)(l:List AE)(c:Nat):As Unit Int:=match Ah (Bd l) key with | some j=>.ext ((c+j:Nat):Int) | none=>.nrm ()
def Ij(l:List AE)(k:Int):Int:=match Ah (Bd l) k with | some j=>(j:Int) | none=>-1
theorem Lt(l:List AE) k(A:l.length≤1048577):H3 l k=some (Ij l k):=by
 unfold H3
 have h:=Eo (f:=λ(a:Int)=>II l k a) l (λ(_:Nat) i=>(i:Int)) (λr c=>QT k r c) (λi c=>c=i)
  (λi c w q=>by
   subst q
   show(∃B,II l k (c:Int)=_∧_)∨II l k (c:Int)=_
   unfold II
   rw[rO (by simpa using w),Ae w,AD,Ap (by omega)]
   by_cases m:l[c]!.Item=k
   ·right
    rw[rO (by simpa using m)]
    unfold QT Bd
    rw[ru]
    unfold Ah
    rw[rO m.symm];rfl
   ·left
    refine⟨c+1,by rw[rN (by simpa using m)];rfl,rfl,?_⟩
    unfold QT Bd
    rw[ru]
    conv=>lhs;unfold Ah
    rw[rN (λe=>m e.symm)]
    cases Ah ((l.drop (c+1)).map λx=>(x.Item,x)) k with
    | none=>rfl
    | some j=>simp only[sY];congr 2;omega)
  (λc q=>by
   subst q
   show II l k (l.length:Int)=_
   unfold II
   rw[rN (by simp)];rfl) 0 rfl 0 rfl
 rw[h]
 unfold QT Ij
 cases Ah (Bd l) k with
 | none=>rfl
 | some j=>simp
inductive Bc(items:List AE)(top:Int):Int→Prop
 | self:Bc items top top
 | step {x:AE} (hx:x∈items) (h:Bc items top x.Parent):Bc items top x.Item
theorem Bc.inv{j}{top y}(h:Bc j top y):y=top∨∃x∈j,x.Item=y∧Bc j top x.Parent:=by
 cases h with
 | self=>exact .inl rfl
 | step l h=>exact .inr ⟨_,l,rfl,h⟩
def Rk(j:List AE)(d:Int→Nat):Prop:=∀x∈j,d x.Parent<d x.Item
def Uq(j:List AE):Prop:=(j.map (·.Item)).Nodup
theorem Uq.eq{j}(h:Uq j){x y:AE}(w:x∈j)(A:y∈j)(e:x.Item=y.Item):x=y:=by
 unfold Uq at h
 induction j with
 | nil=>cases w
 | cons a r C=>
  rw[ru,um] at h
  rcases sB.1 w with B | m
  ·rcases sB.1 A with q | l
   ·rw[B,q]
   ·exact(h.1 (sK.2 ⟨y,l,by rw[← B];exact e.symm⟩)).elim
  ·rcases sB.1 A with q | l
   ·exact(h.1 (sK.2 ⟨x,m,by rw[← q];exact e⟩)).elim
   ·exact C h.2 m l
theorem Bc.up{j}(q:Uq j){top}{x:AE}(m:x∈j)(l:x.Item≠top):Bc j top x.Item↔Bc j top x.Parent:=by
 constructor
 ·intro h
  rcases h.inv with e | ⟨z,w,e,A⟩
  ·exact absurd e l
  ·rw[q.eq m w e.symm];exact A
 ·exact Bc.step m
open Classical in
theorem jS{m}{d}(BT:∀x∈m,1≤x.Item)(T:Uq m)(O:Rk m d){top}(X:1≤top)(m2:List (Int × List AC)) :
  ∀l:Int,Ol (Bd m) m2 l top=some (decide (Bc m top l)):=by
 have key:∀(n:Nat) (l:Int),d l≤n→∃c,iter (λ(a:Int)=>Gr (Bd m) top a) l=some c∧Az (some c) (λ(_:Unit)=>some false)=some (decide (Bc m top l)):=by
  intro n
  induction n with
  | zero=>
   intro l hd
   by_cases w:0<l
   ·by_cases q:l=top
    ·subst q
     refine⟨.ext true,BN (by unfold Gr;rw[rO (by simpa using w),rO (by simp)]),?_⟩
     rw[Io,rR (Bc.self)]
    ·cases A:Ah (Bd m) l with
     | none=>
      have I:=Kl A
      refine⟨.ext false,BN (by unfold Gr;rw[rO (by simpa using w),rN (by simpa using q),(Ew A).1];rfl),?_⟩
      rw[Io,rQ]
      intro C
      rcases C.inv with e | ⟨x,E,e,_⟩
      ·exact q e
      ·exact I x E e
     | some j=>
      obtain⟨F,e⟩:=Hq A
      have:=O _ (sG F)
      rw[e] at this
      omega
   ·refine⟨.nrm (),BN (by unfold Gr;rw[rN (by simpa using w)]),?_⟩
    rw[Jg,rQ]
    intro C
    rcases C.inv with e | ⟨x,E,e,_⟩
    ·omega
    ·have:=BT x E;omega
  | succ n U=>
   intro l hd
   by_cases w:0<l
   ·by_cases q:l=top
    ·subst q
     refine⟨.ext true,BN (by unfold Gr;rw[rO (by simpa using w),rO (by simp)]),?_⟩
     rw[Io,rR (Bc.self)]
    ·cases A:Ah (Bd m) l with
     | none=>
      have I:=Kl A
      refine⟨.ext false,BN (by unfold Gr;rw[rO (by simpa using w),rN (by simpa using q),(Ew A).1];rfl),?_⟩
      rw[Io,rQ]
      intro C
      rcases C.inv with e | ⟨x,E,e,_⟩
      ·exact q e
      ·exact I x E e
     | some j=>
      obtain⟨F,e⟩:=Hq A
      have B:=sG F
      have J:=O _ B
      rw[e] at J
      obtain⟨c,M,V⟩:=U m[j].Parent (by omega)
      refine⟨c,?_,?_⟩
      ·rw[Bg (s':=m[j].Parent) (by
        unfold Gr
        rw[rO (by simpa using w),rN (by simpa using q),VY,A,sJ,rU F]
        rfl)]
       exact M
      ·rw[V]
       congr 1
       rw[ts,← Bc.up T B (by rw[e];exact q),e]
   ·refine⟨.nrm (),BN (by unfold Gr;rw[rN (by simpa using w)]),?_⟩
    rw[Jg,rQ]
    intro C
    rcases C.inv with e | ⟨x,E,e,_⟩
    ·omega
    ·have:=BT x E;omega
 intro l
 obtain⟨c,q,M⟩:=key _ l (rV _)
 unfold Ol
 rw[q];exact M
theorem Yl{α:Type}{p q}{l:List α}(h:∀x∈l,p x=true→q x=true){z}(j:z∈l)(w:q z=true)(A:p z=false):l.countP p<l.countP q:=by
 induction l with
 | nil=>cases j
 | cons a r B=>
  have E:r.countP p≤r.countP q:=uk λx m=>h x (rj _ m)
  rw[ug,ug]
  rcases sB.1 j with rfl | j
  ·rw[w,A];simp;omega
  ·have:=B (λx m=>h x (rj _ m)) j
   have C:=h a (rn ..)
   cases hp:p a
   ·simp;split<;>omega
   ·rw[C hp];simp;omega
open Classical in
theorem dq{l:List AE}{d}(X:Uq l)(Z:Rk l d)(hm:l.length≤1048576)(top q:Int):MJ l q top=some (decide (Bc l top q)):=by
 let r:Int→Nat:=λy=>l.countP λz=>decide (d z.Item<d y)
 have F:∀x∈l,r x.Item+1≤l.length:=λx A=>by
  have:=Yl (p:=λz=>decide (d z.Item<d x.Item)) (q:=λ_=>true) (l:=l) (λ_ _ _=>rfl) A rfl (by simp)
  rw[List.countP_true] at this
  exact this
 have C:∀x∈l,∀y∈l,y.Item=x.Parent→r y.Item+1≤r x.Item:=λx A y hy e=>by
  have B:=Z x A
  exact Yl (p:=λz=>decide (d z.Item<d y.Item)) (q:=λz=>decide (d z.Item<d x.Item)) (λz _ T=>by simp at T ⊢;rw[e] at T;omega) hy (by simp;rw[e];exact B) (by simp)
 have key:∀(m:Nat) (q:Int) (i:Nat),i+m=l.length+1→1≤m→(∀x∈l,x.Item=q→r q+2≤m) →
   ∃c,iter (λ(a:Int × Int)=>HB l top ((l.length+1:Nat):Int) a.1 a.2) (q,(i:Int))=some c∧Az (some c) (λ(_:Unit)=>some false)=some (decide (Bc l top q)):=by
  intro m
  induction m with
  | zero=>intro q i _ h;omega
  | succ m ih=>
   intro q i hi _ hn
   have E:decide ((i:Int)<((l.length+1:Nat):Int))=true:=by simp;omega
   by_cases B:q=top
   ·subst B
    refine⟨.ext true,BN (by show HB l q _ q (i:Int)=_;unfold HB;rw[rO E,rO (by simp)]),?_⟩
    rw[Io,rR (Bc.self)]
   ·cases I:Ah (Bd l) q with
    | none=>
     have J:=Kl I
     refine⟨.ext false,BN (by
      show HB l top _ q (i:Int)=_
      unfold HB
      rw[rO E,rN (by simpa using B),Lt _ _ (by omega),AD]
      unfold Ij
      rw[I];rfl),?_⟩
     rw[Io,rQ]
     intro hb
     rcases hb.inv with e | ⟨x,A,e,_⟩
     ·exact B e
     ·exact J x A e
    | some j=>
     obtain⟨U,e⟩:=Hq I
     have w:=sG U
     have a0:=hn _ w e
     obtain⟨c,M,h3⟩:=ih l[j].Parent (i+1) (by omega) (by omega) (λx A V=>by
      have:=C _ w x A V
      rw[e] at this
      rw[← V];omega)
     refine⟨c,?_,?_⟩
     ·rw[Bg (s':=(l[j].Parent,((i+1:Nat):Int))) (by
       show HB l top _ q (i:Int)=_
       unfold HB
       rw[rO E,rN (by simpa using B),Lt _ _ (by omega),AD]
       unfold Ij
       rw[I]
       simp only
       rw[rN (by simp),EG U,AD,Ap (by omega),AD])]
      exact M
     ·rw[h3]
      congr 1
      rw[ts,← Bc.up X w (by rw[e];exact B),e]
 unfold MJ
 rw[Ap (by omega),AD]
 obtain⟨c,B,M⟩:=key (l.length+1) q 0 (by omega) (by omega) (λx A e=>by have:=F x A;rw[e] at this;omega)
 have O:iter (λ(a:Int × Int)=>HB l top ((l.length+1:Nat):Int) a.1 a.2) (q,0)=some c:=B
 rw[O];exact M
def upd(l:List AE)(n:AE):List AE:=match Ah (Bd l) n.Item with | some j=>l.set j n | none=>l++[n]
theorem pn l(n:AE):An (Bd l) n.Item n=Bd (upd l n):=by
 unfold upd
 cases h:Ah (Bd l) n.Item with
 | none=>rw[(Ew h).2];simp[Bd]
 | some j=>
  obtain⟨v,_,_,m⟩:=Df h
  rw[m];simp[Bd,uC]
theorem Yn l(n:AE):An (DA l) n.Item n.Attrs=DA (upd l n):=by
 unfold upd
 have m:=TV l n.Item
 cases h:Ah (Bd l) n.Item with
 | none=>rw[h] at m;rw[(Ew m).2];simp[DA]
 | some j=>
  rw[h] at m
  obtain⟨v,_,_,q⟩:=Df m
  rw[q];simp[DA,uC]
theorem Se(l:List AE) n:(upd l n).length≤l.length+1:=by
 unfold upd
 split<;>simp
theorem So{l:List AE}(h:Uq l)(n:AE):Uq (upd l n):=by
 unfold upd
 split
 ·rename_i j m
  obtain⟨A,e⟩:=Hq m
  unfold Uq at h ⊢
  rw[uC,← e]
  have:(l.map (·.Item)).set j l[j].Item=l.map (·.Item):=by
   apply tK
   intro i
   rw[sq]
   split
   ·rename_i q;subst q;simp[A]
   ·rfl
  rw[this];exact h
 ·rename_i m
  have B:=Kl m
  unfold Uq at h ⊢
  rw[tC,uz,vB]
  refine⟨h,by simp,λa C b w=>?_⟩
  rw[s7] at w
  obtain⟨x,E,rfl⟩:=sK.1 C
  rw[w];exact B x E
theorem JK{l}(h:Uq l){n z:AE}(w:z∈upd l n):z=n∨(z∈l∧z.Item≠n.Item):=by
 unfold upd at w
 split at w
 ·rename_i j C
  obtain⟨F,e⟩:=Hq C
  obtain⟨i,A⟩:=sj.1 w
  rw[sq] at A
  split at A
  ·cases A;exact .inl rfl
  ·rename_i E
   obtain⟨m,rfl⟩:=rW.1 A
   refine .inr ⟨sG m,λI=>E ?_⟩
   unfold Uq at h
   rw[tl,tM] at h
   rcases Nat.lt_trichotomy i j with q | heq | q
   ·exact(h i j (by simpa using m) (by simpa using F) q (by simp[I,e])).elim
   ·exact heq.symm
   ·exact(h j i (by simpa using F) (by simpa using m) q (by simp[I,e])).elim
 ·rename_i C
  have J:=Kl C
  rcases sk.1 w with B | B
  ·exact .inr ⟨B,J z B⟩
  ·exact .inl (s7.1 B)
open Classical in
theorem aL{l}{d}(B:Rk l d)(w:Uq l){n:AE}(C:¬ Bc l n.Item n.Parent):∃E,Rk (upd l n) E:=by
 refine⟨λy=>if Bc l n.Item y then d y+d n.Parent+1 else d y,λz F=>?_⟩
 simp only
 rcases JK w F with rfl | ⟨j,q⟩
 ·rw[rN C,rO Bc.self];omega
 ·have I:=B z j
  have A:=Bc.up w j q
  by_cases m:Bc l n.Item z.Item
  ·rw[rO m,rO (A.1 m)];omega
  ·rw[rN m,rN (λh=>m (A.2 h))];exact I
structure DI(k:Nat)(items attrs:List AE):Prop where
 uq:Uq items
 id:∀x∈items,1≤x.Item
 no:∀x∈items,x.Attrs=[]
 rk:∃d,Rk items d
 li:items.length≤k
 ua:Uq attrs
 la:attrs.length≤k
 ok:∀x∈attrs,BE x.Attrs false=0∧x.Attrs.length≤k
 ia:∀x∈attrs,1≤x.Item∧x.Item≤1073741824
 mv:∀x∈items,x.Item≤1073741824∧(-1≤x.Parent∧x.Parent≤1073741824)∧MZ x.Place=true
 sa:(attrs.map (·.Attrs.length)).sum≤k
theorem nQ{l:List AE}{n:AE}(h:Ah (Bd l) n.Item=none):((upd l n).map (·.Attrs.length)).sum=(l.map (·.Attrs.length)).sum+n.Attrs.length:=by
 unfold upd
 rw[h]
 simp
theorem aI:∀(l:List Nat) (j:Nat) (m:j<l.length) (v:Nat),(l.set j v).sum+l[j]=l.sum+v:=by
 intro l
 induction l with
 | nil=>intro j m;simp at m
 | cons a r q=>
  intro j m v
  cases j with
  | zero=>simp;omega
  | succ j=>
   have:=q j (by simpa using m) v
   simp
   omega
theorem fK{l:List AE}{n:AE}{j}(h:Ah (Bd l) n.Item=some j)(m:j<l.length):((upd l n).map (·.Attrs.length)).sum+l[j].Attrs.length=(l.map (·.Attrs.length)).sum+n.Attrs.length:=by
 have:=aI (l.map (·.Attrs.length)) j (by simpa using m) n.Attrs.length
 unfold upd
 rw[h]
 simp only[uC,uh] at *
 exact this
theorem Z0{o:Ax}(h:FQ o=0)(j:o.Kind=0):(-1≤o.Parent∧o.Parent≤1073741824)∧MZ o.Place=true:=by
 unfold FQ at h
 split at h
 ·exact absurd h (by decide)
 split at h
 ·exact absurd h (by decide)
 try rw[rO j] at h
 split at h
 ·exact absurd h (by decide)
 split at h
 ·exact absurd h (by decide)
 ·rename_i hp
  split at h
  ·rename_i l;exact⟨sC.1 hp,l⟩
  ·exact absurd h (by decide)
theorem dU{o:Ax}(h:FQ o=0):(1≤o.Item∧o.Item≤1073741824)∧((o.Kind=0)∨(o.Kind=1∧BE [⟨o.Name,o.Value⟩] true=0)):=by
 unfold FQ at h
 split at h
 ·exact absurd h (by decide)
 rename_i m
 split at h
 ·exact absurd h (by decide)
 rename_i q
 refine⟨(sC.1 q).2,?_⟩
 split at h
 ·rename_i j;exact .inl j
 ·rename_i j
  have w:o.Kind=1:=rp λh=>m ⟨j,h⟩
  refine .inr ⟨w,?_⟩
  split at h
  ·exact absurd h (by decide)
  ·split at h
   ·rename_i A
    split at h
    ·exact absurd h (by decide)
    ·rename_i B
     refine fW A ?_
     by_cases e:o.Value=[]
     ·exact .inl e
     ·right
      cases l:DP o.Value
      ·exact absurd ⟨e,l⟩ B
      ·rfl
   ·exact absurd h (by decide)
theorem I4{α:Type}{l m:List α}(h:l.length+m.length≤2097152):app 56 l m=some (l++m):=by
 unfold app
 rw[rO ⟨by omega,by omega⟩]
open Classical in
theorem pR{l:List Ax}{k}{m attrs:List AE}(h:DI k m attrs)(hk:k<l.length)(hm:l.length≤1048576)(ho:FQ l[k]! = 0) :
  ∃A B,DI (k+1) A B∧IV l (k:Int) (Bd m) (DA attrs)=some (.inl (((k+1:Nat):Int),Bd A,DA B)) ∧
   H4 l (k:Int) m attrs=some (.inl (((k+1:Nat):Int),A,B)):=by
 obtain⟨hI,O⟩:=dU ho
 have a1:=h.li
 have a2:=h.la
 unfold IV H4
 rw[rO (by simpa using hk),rO (by simpa using hk),Ae hk,AD,AD,Ap (by omega)]
 generalize l[k]! = o at *
 rcases O with h0 | ⟨h1,ha⟩
 ·
  obtain⟨d,hd⟩:=h.rk
  rw[rN (by rw[h0];decide),rN (by rw[h0];decide),jS h.id h.uq hd hI.1,AD]
  have T:∃r2:Bool,gd (((decide (o.Parent=o.Item))==false)&&((decide (0<o.Parent))==true)) (MJ m o.Parent o.Item)=some r2∧(((o.Parent=o.Item)||((0<o.Parent)&&r2))=decide (Bc m o.Item o.Parent)):=by
   rw[dq h.uq hd (by omega)]
   by_cases E:o.Parent=o.Item
   ·refine⟨default,by rw[rR E];rfl,?_⟩
    rw[rR E,E,rR Bc.self];rfl
   ·by_cases V:0<o.Parent
    ·refine⟨decide (Bc m o.Item o.Parent),by rw[rQ E,rR V];rfl,?_⟩
     rw[rQ E,rR V];simp
    ·refine⟨default,by rw[rQ E,rQ V];rfl,?_⟩
     rw[rQ E,rQ V,rQ]
     ·rfl
     ·intro U
      rcases U.inv with e | ⟨x,w,e,_⟩
      ·exact E e
      ·have:=h.id x w;omega
  obtain⟨r2,E,V⟩:=T
  rw[E,AD,V]
  by_cases U:Bc m o.Item o.Parent
  ·refine⟨m,attrs,⟨h.uq,h.id,h.no,h.rk,by omega,h.ua,by omega,λx w=>⟨(h.ok x w).1,by have:=(h.ok x w).2;omega⟩,h.ia,h.mv,by have:=h.sa;omega⟩,?_,?_⟩
   ·rw[rR U,rN (by decide),BW];rfl
   ·rw[rR U,rO rfl,BW];rfl
  ·have hn:(⟨o.Item,o.Parent,o.Place,[]⟩:AE)=⟨o.Item,o.Parent,o.Place,[]⟩:=rfl
   generalize F:(⟨o.Item,o.Parent,o.Place,[]⟩:AE)=n at hn
   have I:n.Item=o.Item:=by rw[← F]
   have a0:n.Parent=o.Parent:=by rw[← F]
   refine⟨upd m n,attrs,⟨So h.uq n,λx w=>?_,λx w=>?_,aL hd h.uq (by rw[I,a0];exact U),by have:=Se m n;omega,h.ua,by omega,λx w=>⟨(h.ok x w).1,by have:=(h.ok x w).2;omega⟩,h.ia,λx w=>?_,by have:=h.sa;omega⟩,?_,?_⟩
   ·rcases JK h.uq w with rfl | ⟨q,_⟩
    ·rw[I];exact hI.1
    ·exact h.id x q
   ·rcases JK h.uq w with rfl | ⟨q,_⟩
    ·rw[← F]
    ·exact h.no x q
   ·rcases JK h.uq w with rfl | ⟨q,_⟩
    ·rw[← F];exact⟨hI.2,Z0 ho h0⟩
    ·exact h.mv x q
   ·rw[rQ U,rO (by decide),BW,AD,← I,pn]
   ·rw[rQ U,rN (by decide),Lt _ _ (by omega),AD]
    unfold upd Ij
    rw[I]
    cases C:Ah (Bd m) o.Item with
    | none=>
     simp only
     rw[rO (by decide),I4 (by simp;omega),AD,BW,EG (by simp),AD,BW,AD,sr]
     simp
    | some j=>
     obtain⟨X,_⟩:=Hq C
     simp only
     rw[rN (by simp),BW,EG X,AD,BW,AD,sr]
 ·
  rw[rO (by rw[h1];decide),rO (by rw[h1];decide),Lt _ _ (by omega),AD]
  unfold Ij
  have J:=TV attrs o.Item
  cases C:Ah (Bd attrs) o.Item with
  | none=>
   rw[C] at J
   simp only
   rw[(Ew J).1,vH,XQ (by simp),AD,rO (by decide),I4 (by simp;omega)]
   simp only[AD,BW]
   rw[EG (by simp)]
   simp only[AD,List.getElem_append_right (rV _),vI,List.getElem_cons_zero]
   rw[Wc Sc ha (by simp)]
   simp only[AD,BW,sr]
   have E:(attrs++[(⟨o.Item,0,[],[]⟩:AE)]).set attrs.length ⟨o.Item,0,[],FS [] ⟨o.Name,o.Value⟩⟩=upd attrs ⟨o.Item,0,[],FS [] ⟨o.Name,o.Value⟩⟩:=by
    unfold upd;rw[C];simp
   rw[E]
   refine⟨m,upd attrs ⟨o.Item,0,[],FS [] ⟨o.Name,o.Value⟩⟩,⟨h.uq,h.id,h.no,h.rk,by omega,So h.ua _,by have:=Se attrs ⟨o.Item,0,[],FS [] ⟨o.Name,o.Value⟩⟩;omega,λx w=>?_,λx w=>?_,h.mv,?_⟩,?_,rfl⟩
   ·rcases JK h.ua w with rfl | ⟨q,_⟩
    ·exact⟨WF Sc ha,by have:=Qp [] ⟨o.Name,o.Value⟩;simp at this;simp only;omega⟩
    ·exact⟨(h.ok x q).1,by have:=(h.ok x q).2;omega⟩
   ·rcases JK h.ua w with rfl | ⟨q,_⟩
    ·exact hI
    ·exact h.ia x q
   ·rw[nQ (by simpa using C)]
    have:=Qp [] ⟨o.Name,o.Value⟩
    have:=h.sa
    simp at *
    omega
   ·rw[← Yn]
  | some j=>
   rw[C] at J
   obtain⟨X,ej⟩:=Hq C
   have M:=sG X
   have Z:=h.ok _ M
   obtain⟨v,v1,v2,v3⟩:=Df J
   have hv:v=attrs[j].Attrs:=by
    unfold DA at v1
    rw[rc,rU X] at v1
    simp at v1
    exact v1.2.symm
   subst hv
   simp only
   rw[v2,sf,XQ (by omega),AD,rN (by simp)]
   simp only[AD,BW]
   rw[EG X]
   simp only[AD]
   rw[Wc Z.1 ha (by omega)]
   simp only[AD,BW,sr]
   have E:attrs.set j ⟨attrs[j].Item,attrs[j].Parent,attrs[j].Place,FS attrs[j].Attrs ⟨o.Name,o.Value⟩⟩=upd attrs ⟨attrs[j].Item,attrs[j].Parent,attrs[j].Place,FS attrs[j].Attrs ⟨o.Name,o.Value⟩⟩:=by
    unfold upd;simp only;rw[ej,C]
   rw[E]
   refine⟨m,upd attrs ⟨attrs[j].Item,attrs[j].Parent,attrs[j].Place,FS attrs[j].Attrs ⟨o.Name,o.Value⟩⟩,⟨h.uq,h.id,h.no,h.rk,by omega,So h.ua _,by have:=Se attrs ⟨attrs[j].Item,attrs[j].Parent,attrs[j].Place,FS attrs[j].Attrs ⟨o.Name,o.Value⟩⟩;rw[← E] at this ⊢;simpa using(by omega:attrs.length≤k+1),λx w=>?_,λx w=>?_,h.mv,?_⟩,?_,rfl⟩
   ·rcases JK h.ua w with rfl | ⟨q,_⟩
    ·exact⟨WF Z.1 ha,by have:=Qp attrs[j].Attrs ⟨o.Name,o.Value⟩;simp only;omega⟩
    ·exact⟨(h.ok x q).1,by have:=(h.ok x q).2;omega⟩
   ·rcases JK h.ua w with rfl | ⟨q,_⟩
    ·exact(h.ia attrs[j] M)
    ·exact h.ia x q
   ·have h2:=fK (l:=attrs) (n:=⟨attrs[j].Item,attrs[j].Parent,attrs[j].Place,FS attrs[j].Attrs ⟨o.Name,o.Value⟩⟩) (j:=j) (by simp only;rw[ej,C]) X
    have:=Qp attrs[j].Attrs ⟨o.Name,o.Value⟩
    have:=h.sa
    simp only at h2
    omega
   ·rw[← Yn];simp only;rw[ej]
end Go.Proofs.YtifgmfoihehlbaaGreatDoor.Al

set_option linter.unusedVariables false
namespace Go.Proofs.YtifgmfoihehlbaaGreatDoor.Al
open Go.Sort
structure Gv(lt:AE→AE→Bool):Prop where
 swo:SWO lt
 tot:∀a b,lt a b=false→lt b a=false→a.Item=b.Item
theorem Gv.asymm{lt}(h:Gv lt){a b}(j:lt a b=true):lt b a=false:=by
 cases l:lt b a
 ·rfl
 ·have:=h.swo.trans a b a j l
  rw[h.swo.irrefl] at this;cases this
def HG(a b:AE):Bool:=Au a.Place b.Place||((a.Place=b.Place)&&(a.Item<b.Item))
def E6(a b:AE):Bool:=decide (a.Item<b.Item)
theorem U1(a b:AE):HG a b=true↔Au a.Place b.Place=true∨(a.Place=b.Place∧a.Item<b.Item):=by
 unfold HG;simp
theorem Ox(a b:AE):HG a b=false↔Au b.Place a.Place=true∨(b.Place=a.Place∧b.Item≤a.Item):=by
 rw[← sO,U1]
 constructor
 ·intro h
  by_cases e:b.Place=a.Place
  ·exact .inr ⟨e,by
    have:¬ a.Item<b.Item:=λj=>h (.inr ⟨e.symm,j⟩)
    omega⟩
  ·exact .inl (TY (λl=>e l.symm) λj=>h (.inl j))
 ·rintro(h | ⟨m,j⟩) (g | ⟨q,g2⟩)
  ·rw[Y0 h] at g;cases g
  ·rw[q,JD] at h;cases h
  ·rw[m,JD] at g;cases g
  ·omega
theorem Ia:Gv HG where
 swo:={
  irrefl:=λx=>by rw[Ox];exact .inr ⟨rfl,Int.le_refl _⟩
  trans:=λx y z l j=>by
   rw[U1] at *
   rcases l with l | ⟨l,m⟩<;>rcases j with j | ⟨j,g2⟩
   ·exact .inl (Fl l j)
   ·exact .inl (by rw[← j];exact l)
   ·exact .inl (by rw[l];exact j)
   ·exact .inr ⟨l.trans j,by omega⟩
  ntrans:=λx y z l j=>by
   rw[Ox] at *
   rcases l with l | ⟨l,m⟩<;>rcases j with j | ⟨j,g2⟩
   ·exact .inl (Fl j l)
   ·exact .inl (by rw[j];exact l)
   ·exact .inl (by rw[← l];exact j)
   ·exact .inr ⟨j.trans l,by omega⟩ }
 tot:=λa b l j=>by
  rw[Ox] at *
  rcases l with l | ⟨l,m⟩<;>rcases j with j | ⟨j,g2⟩
  ·rw[Y0 l] at j;cases j
  ·rw[j,JD] at l;cases l
  ·rw[l,JD] at j;cases j
  ·omega
theorem LH:Gv E6 where
 swo:={ irrefl:=λx=>by unfold E6;simp,trans:=λx y z j l=>by unfold E6 at *;simp at *;omega,ntrans:=λx y z j l=>by unfold E6 at *;simp at *;omega }
 tot:=λa b j l=>by unfold E6 at *;simp at *;omega
def srt(lt:AE→AE→Bool)(xs:List AE):List AE:=xs.mergeSort λa b=>!lt b a
theorem GB lt xs:(srt lt xs).Perm xs:=List.mergeSort_perm ..
theorem Qn{lt}(h:Gv lt) xs:(srt lt xs).Pairwise λa b=>lt b a=false:=by
 have:=List.pairwise_mergeSort (le:=λa b=>!lt b a) (λa b c j l=>by
  simp only[sU] at *
  exact h.swo.ntrans c b a l j) (λa b=>by
  cases j:lt b a
  ·rfl
  ·simp[h.asymm j]) xs
 exact this.imp λh=>by simpa using h
theorem Uq.perm{A B:List AE}(h:Uq A)(p:B.Perm A):Uq B:=(p.map λx:AE=>x.Item).nodup_iff.2 h
theorem Uq.filter{A:List AE}(h:Uq A)(p:AE→Bool):Uq (A.filter p):=by
 unfold Uq at *
 exact(List.filter_sublist.map _).nodup h
theorem Vt{lt}(h:Gv lt){xs}(l:Uq xs):(srt lt xs).Pairwise λa b=>lt a b=true:=by
 have m:=Qn h xs
 have j:Uq (srt lt xs):=l.perm (GB lt xs)
 unfold Uq at j
 rw[tl,tq] at j
 refine(m.and j).imp λ{a b} ⟨q,g2⟩=>?_
 cases g3:lt a b
 ·exact absurd (h.tot a b g3 q) g2
 ·rfl
theorem UD{lt}(h:Gv lt){c:List AE}(hc:c.Pairwise λa b=>lt a b=true){k}(q:k<c.length){z}(w:z∈c):lt c[k] z=true↔z∈c.drop (k+1):=by
 rw[tM] at hc
 constructor
 ·intro l
  obtain⟨i,j,rfl⟩:=sN.1 w
  have:k<i:=by
   rcases Nat.lt_trichotomy k i with g | g | g
   ·exact g
   ·subst g;rw[h.swo.irrefl] at l;cases l
   ·rw[h.asymm (hc i k j q g)] at l;cases l
  rw[sj]
  exact⟨i-(k+1),by rw[sT,show k+1+(i-(k+1))=i by omega,rU j]⟩
 ·intro A
  obtain⟨i,j⟩:=sj.1 A
  rw[sT] at j
  obtain⟨m,rfl⟩:=rW.1 j
  exact hc k (k+1+i) q m (by omega)
def Oz(l:AE→Bool)(lt:AE→AE→Bool)(A:List AE)(next:Option Nat)(k:Nat):Option Nat:=
 match next with
 | none=>if l A[k]! = true then some k else none
 | some j=>if l A[k]! = true∧lt A[k]! A[j]! = true then some k else some j
def nx:Option Nat→Int
 | none=>-1
 | some j=>(j:Int)
theorem Ys{l}{lt}(U:Gv lt){A:List AE}{f}
 (h1:∀k next, k<A.length→(∀j, next=some j→j<A.length)→f (nx next, (k:Int))=some (.inl (nx (Oz l lt A next k), ((k+1:Nat):Int)))) (h2:∀next, f (nx next, (A.length:Int))=some (.inr (nx next))) :
    ∃next, iter f (-1, 0)=some (nx next)∧(match next with | none => ∀z ∈ A, l z=false | some j => ∃I:j<A.length, l A[j]=true∧∀z ∈ A, l z=true→lt z A[j]=false) := by
  have key := Kf (f := f) A.length (λk s => ∃next, s=(nx next, (k:Int))∧(match next with | none => ∀i, i<k→∀C:i<A.length, l A[i]=false | some j => ∃I:j<A.length, l A[j]=true∧∀i, i<k→∀C:i<A.length, l A[i]=true→lt A[i] A[j]=false))
    (λb => ∃next, b=nx next∧(match next with | none => ∀z ∈ A, l z=false | some j => ∃I:j<A.length, l A[j]=true∧∀z ∈ A, l z=true→lt z A[j]=false))
    (λk s M V => by
      obtain⟨next, rfl, F⟩ := V
      left
      have X:∀j, next=some j→j<A.length := λj e => by subst e;exact F.1
      refine⟨_, h1 k next M X, Oz l lt A next k, rfl, ?_⟩
      unfold Oz
      cases next with
      | none =>
        simp only at F ⊢
        rw[ri A k M]
        by_cases E:l A[k]=true
        · rw[rO E]
          refine⟨M, E, λi C m q => ?_⟩
          by_cases w:i<k
          · rw[F i w m] at q;cases q
          · obtain rfl:i=k := by omega
            exact U.swo.irrefl _
        · rw[rN E]
          intro i C m
          by_cases w:i<k
          · exact F i w m
          · obtain rfl:i=k := by omega
            simpa using E
      | some j =>
        obtain⟨I, J, B⟩ := F
        simp only
        rw[ri A k M, ri A j I]
        by_cases E:l A[k]=true∧lt A[k] A[j]=true
        · rw[rO E]
          refine⟨M, E.1, λi C m q => ?_⟩
          by_cases w:i<k
          · have T := B i w m q
            cases O:lt A[i] A[k]
            · rfl
            · rw[U.swo.trans _ _ _ O E.2] at T;cases T
          · obtain rfl:i=k := by omega
            exact U.swo.irrefl _
        · rw[rN E]
          refine⟨I, J, λi C m q => ?_⟩
          by_cases w:i<k
          · exact B i w m q
          · obtain rfl:i=k := by omega
            cases O:lt A[i] A[j]
            · rfl
            · exact absurd ⟨q, O⟩ E)
    (λs V => by
      obtain⟨next, rfl, F⟩ := V
      refine⟨_, h2 next, next, rfl, ?_⟩
      cases next with
      | none =>
        intro z Z
        obtain⟨i, C, rfl⟩ := sN.1 Z
        exact F i C C
      | some j =>
        obtain⟨I, J, B⟩ := F
        refine⟨I, J, λz Z E => ?_⟩
        obtain⟨i, C, rfl⟩ := sN.1 Z
        exact B i C C E)
    (s := (-1, 0)) ⟨none, rfl, λi C => absurd C (by omega)⟩
  obtain⟨b, T, next, rfl, O⟩ := key
  exact⟨next, T, O⟩
theorem Q6{m:AE→Bool}{lt:AE→AE→Bool}(X:Gv lt){A c:List AE}(Z:Uq A)(I:∀z∈c,z∈A)(hc:c.Pairwise λa b=>lt a b=true){k:Nat}
  (l:∀z∈A,m z=true↔z∈c.drop k) {next:Option Nat} (J:match next with | none=>∀z∈A,m z=false | some j=>∃w:j<A.length,m A[j]=true∧∀z∈A,m z=true→lt z A[j]=false) :
  (k<c.length→∃j,∃w:j<A.length,next=some j∧some A[j]=c[k]?)∧(c.length≤k→next=none):=by
 constructor
 ·intro B
  have C:c[k]∈c.drop k:=sj.2 ⟨0,by rw[sT,si,rU B]⟩
  have hA:=I _ (sG B)
  have q:=(l _ hA).2 C
  cases next with
  | none=>rw[J _ hA] at q;cases q
  | some j=>
   obtain⟨w,M,U⟩:=J
   refine⟨j,w,rfl,?_⟩
   rw[rU B]
   congr 1
   have V:=U _ hA q
   have F:A[j]∈c.drop k:=(l _ (sG w)).1 M
   obtain⟨i,T⟩:=sj.1 F
   rw[sT] at T
   obtain⟨O,E⟩:=rW.1 T
   rw[tM] at hc
   rcases uy i with g | g
   ·subst g;rw[← E];rfl
   ·have:=hc k (k+i) B O (by omega)
    rw[E,V] at this;cases this
 ·intro B
  cases next with
  | none=>rfl
  | some j=>
   obtain⟨w,M,_⟩:=J
   have F:A[j]∈c.drop k:=(l _ (sG w)).1 M
   rw[s9 B] at F;cases F
structure Fo(A:List AE)(d:Int→Nat)(M:Nat):Prop where
 uq:Uq A
 id:∀x∈A,1≤x.Item
 rk:Rk A d
 top:∀x∈A,d x.Item≤M
 len:A.length≤1048576
def A7(A:List AE)(q:Int):List AE:=srt HG (A.filter λz=>decide (z.Parent=q))
theorem HD{A}{q}{z:AE} : z∈A7 A q↔z∈A∧z.Parent=q:=by
 unfold A7
 rw[(GB _ _).mem_iff,tS,rT]
theorem Pr{A}(j:Uq A)(q:Int):(A7 A q).Pairwise λa b=>HG a b=true:=Vt Ia (j.filter _)
def BL(A:List AE):Nat→Int→List AE
 | 0,_=>[]
 | n+1,q=>(A7 A q).flatMap λx=>x::BL A n x.Item
def Ki(q:Int)(place:List UInt8)(j:Int)(z:AE):Bool:=!(((!(z.Parent=q))||(Au z.Place place))||((z.Place=place)&&(z.Item≤j)))
theorem Wu(A:List AE)(F:A.length≤1048576) q place l:∃next,iter (λ(a:Int × Int)=>H8 A q place l a.1 a.2) ((-1),0)=some (nx next) ∧
  (match next with | none=>∀z∈A,Ki q place l z=false | some j=>∃w:j<A.length,Ki q place l A[j]=true∧∀z∈A,Ki q place l z=true→HG z A[j]=false):=by
 refine Ys Ia (λk next B C=>?_) (λnext=>?_)
 ·show H8 A q place l (nx next) (k:Int)=_
  unfold H8
  rw[rO (by simpa using B),Ae B,AD,Ap (by omega)]
  unfold Oz Ki
  generalize A[k]! = x
  by_cases m:(((!(x.Parent=q))||(Au x.Place place))||((x.Place=place)&&(x.Item≤l)))=true
  ·rw[rO m,m]
   cases next<;>simp
  ·rw[rN m]
   rw[sO] at m
   rw[m]
   cases next with
   | none=>simp[nx,Bp]
   | some j=>
    have w:=C j rfl
    have E:decide (nx (some j)<0)=false:=by unfold nx;simp
    rw[E,show((false==false)=true) from rfl,Ak,show nx (some j)=(j:Int) from rfl,Ae w,AD]
    simp only[tJ,uu]
    generalize A[j]! = y
    have e:HG x y=(Au x.Place y.Place||((x.Place=y.Place)&&(x.Item<y.Item))):=rfl
    rw[e]
    cases Au x.Place y.Place
    ·simp only[sb,show((false==false)=true) from rfl,Ak,AD]
     split<;>rfl
    ·simp only[sb,uO,show((true==false)=false) from rfl,Bp,AD,uQ]
     rfl
 ·show H8 A q place l (nx next) (A.length:Int)=_
  unfold H8
  rw[rN (by simp)]
def Ee(c:List AE)(k:Nat):List UInt8 × Int:=match k with | 0=>([],0) | k+1=>(c[k]!.Place,c[k]!.Item)
theorem ea{c:List AE}{k}(h:k<c.length):Ee c (k+1)=(c[k].Place,c[k].Item):=by
 show(c[k]!.Place,c[k]!.Item)=_
 rw[ri c k h]
theorem Y5{A}(B:Uq A)(BT:∀x∈A,1≤x.Item)(q:Int){k}(F:k≤(A7 A q).length){z:AE}(w:z∈A):Ki q (Ee (A7 A q) k).1 (Ee (A7 A q) k).2 z=true↔z∈(A7 A q).drop k:=by
 have C:∀(p:List UInt8) (i:Int),Ki q p i z=true↔z.Parent=q∧¬ (Au z.Place p=true∨(z.Place=p∧z.Item≤i)):=λp i=>by
  unfold Ki
  simp only[sU,tI,Bool.not_eq_false',rT,tX,sd,not_or,not_and,sO]
  constructor
  ·rintro⟨⟨j,m⟩,l⟩;exact⟨j,m,l⟩
  ·rintro⟨j,m,l⟩;exact⟨⟨j,m⟩,l⟩
 cases k with
 | zero=>
  rw[tY,HD,C]
  unfold Ee
  simp only
  constructor
  ·rintro⟨j,_⟩;exact⟨w,j⟩
  ·rintro⟨_,j⟩
   refine⟨j,?_⟩
   rintro(h | ⟨_,h⟩)
   ·rw[XG] at h;cases h
   ·have:=BT z w;omega
 | succ k=>
  unfold Ee
  simp only
  rw[ri (A7 A q) k (by omega),C]
  constructor
  ·rintro⟨j,m⟩
   refine(UD Ia (Pr B q) (by omega) (HD.2 ⟨w,j⟩)).1 ?_
   cases l:HG (A7 A q)[k] z
   ·rw[Ox] at l;exact absurd l m
   ·rfl
  ·intro j
   have m:=uH j
   refine⟨(HD.1 m).2,λl=>?_⟩
   have E:=(UD Ia (Pr B q) (by omega) m).2 j
   rw[← Ox] at l
   rw[l] at E;cases E
theorem jt{A:List AE}{d:Int→Nat}{M:Nat}(h:Fo A d M):∀(n:Nat) (q:Int) (out:List AE),M-d q<n→out.length+(BL A n q).length≤2097151→Dn n out A q=some (out++BL A n q):=by
 intro n
 induction n with
 | zero=>intro q out hn;omega
 | succ n ih=>
  intro q out hn hl
  show Jc (λw E l=>Dn n w E l) out A q=_
  unfold Jc
  have hA:∀z∈A7 A q,z∈A:=λz F=>(HD.1 F).1
  have loop:∀m k o,k+m=(A7 A q).length→o.length+(((A7 A q).drop k).flatMap λx=>x::BL A n x.Item).length≤2097151 →
    iter (λ(a:(List UInt8) × Int × (List AE))=>GS A q (λw E l=>Dn n w E l) a.1 a.2.1 a.2.2) ((Ee (A7 A q) k).1,(Ee (A7 A q) k).2,o) =
     some (.ext (o++((A7 A q).drop k).flatMap λx=>x::BL A n x.Item)):=by
   intro m
   induction m with
   | zero=>
    intro k o hk V
    refine BN ?_
    show GS A q _ (Ee (A7 A q) k).1 (Ee (A7 A q) k).2 o=_
    unfold GS
    obtain⟨next,J,O⟩:=Wu A h.len q (Ee (A7 A q) k).1 (Ee (A7 A q) k).2
    have:=(Q6 Ia h.uq hA (Pr h.uq q) (λz F=>Y5 h.uq h.id q (by omega) F) O).2 (by omega)
    subst this
    rw[J,AD,rO (by decide),s9 (by omega)]
    simp
   | succ m T=>
    intro k o hk V
    have B:k<(A7 A q).length:=by omega
    obtain⟨next,J,O⟩:=Wu A h.len q (Ee (A7 A q) k).1 (Ee (A7 A q) k).2
    obtain⟨j,hj,rfl,X⟩:=(Q6 Ia h.uq hA (Pr h.uq q) (λz F=>Y5 h.uq h.id q (by omega) F) O).1 B
    rw[rU B] at X
    have e4:A[j]=(A7 A q)[k]:=rx X
    have I:=sG B
    have C:=HD.1 I
    have hd:=h.rk _ C.1
    rw[C.2] at hd
    have Z:=h.top _ C.1
    rw[sH B,ss,sI,sL] at V
    rw[Bg (s':=((Ee (A7 A q) (k+1)).1,(Ee (A7 A q) (k+1)).2,(o++[(A7 A q)[k]])++BL A n (A7 A q)[k].Item)) (by
     show GS A q _ (Ee (A7 A q) k).1 (Ee (A7 A q) k).2 o=_
     unfold GS
     rw[J,AD,show nx (some j)=(j:Int) from rfl,rN (by simp),EG hj,AD,I4 (by simp;omega),AD,e4]
     show AB (Dn n (o++[(A7 A q)[k]]) A (A7 A q)[k].Item) _=_
     rw[ih _ _ (by omega) (by rw[sI];simp;omega),AD]
     rw[ea B]),T (k+1) _ (by omega) (by simp only[sI,sL,tx];omega)]
    conv=>rhs;rw[sH B,ss]
    simp
  have h0:=loop (A7 A q).length 0 out (by omega) (by rw[tY];exact hl)
  rw[tY] at h0
  have U:iter (λ(a:(List UInt8) × Int × (List AE))=>GS A q (λw E l=>Dn n w E l) a.1 a.2.1 a.2.2) ([],0,out)=some (.ext (out++(A7 A q).flatMap λx=>x::BL A n x.Item)):=h0
  rw[U,Io];rfl
end Go.Proofs.YtifgmfoihehlbaaGreatDoor.Al

set_option linter.unusedVariables false
namespace Go.Proofs.YtifgmfoihehlbaaGreatDoor.Al
open Go.Sort
theorem Bc.trans{A}{a b y}(h:Bc A b y)(g:Bc A a b):Bc A a y:=by
 induction h with
 | self=>exact g
 | step j _ l=>exact Bc.step j l
theorem Bc.rank{A}{d}(j:Rk A d){top y}(h:Bc A top y):d top≤d y:=by
 induction h with
 | self=>exact rV _
 | step l _ m=>have:=j _ l;omega
theorem qo{A}(l:Uq A){a b y}(h:Bc A a y)(g:Bc A b y):Bc A a b∨Bc A b a:=by
 induction h with
 | self=>exact .inr g
 | @step x j m q=>
  rcases g.inv with e | ⟨z,w,e,g2⟩
  ·exact .inl (by rw[← e];exact Bc.step j m)
  ·rw[l.eq w j e] at g2;exact q g2
theorem ME{A} : ∀(n:Nat) (q:Int) (z:AE),z∈BL A n q→z∈A∧Bc A q z.Parent:=by
 intro n
 induction n with
 | zero=>intro q z h;cases h
 | succ n l=>
  intro q z h
  unfold BL at h
  obtain⟨x,m,j⟩:=vJ.1 h
  obtain⟨hA,hp⟩:=HD.1 m
  rcases sB.1 j with rfl | j
  ·exact⟨hA,by rw[hp];exact Bc.self⟩
  ·obtain⟨w,B⟩:=l _ _ j
   exact⟨w,B.trans (Bc.step hA (by rw[hp];exact Bc.self))⟩
theorem W2{A}{d}(C:Uq A)(m:Rk A d):∀(n:Nat) (q:Int),(BL A n q).Pairwise λa b=>a.Item≠b.Item:=by
 intro n
 induction n with
 | zero=>intro q;exact List.Pairwise.nil
 | succ n O=>
  intro q
  unfold BL
  rw[List.pairwise_flatMap]
  have hB:∀a∈A7 A q,∀x∈a::BL A n a.Item,Bc A a.Item x.Item:=λa j x E=>by
   rcases sB.1 E with rfl | E
   ·exact Bc.self
   ·obtain⟨F,w⟩:=ME n _ _ E
    exact Bc.step F w
  refine⟨λa j=>uA.2 ⟨λz T e=>?_,O _⟩,?_⟩
  ·obtain⟨F,w⟩:=ME n _ _ T
   have:=w.rank m
   have:=m z F
   rw[e] at *;omega
  ·have U:=Pr C q
   have l:∀a∈A7 A q,a∈A∧a.Parent=q:=λa j=>HD.1 j
   refine List.Pairwise.imp_of_mem (λ{a b} j B I x E y V e=>?_) U
   have F:=hB a j x E
   have w:=hB b B y V
   rw[← e] at w
   have J:a.Item≠b.Item:=λM=>by
    rw[C.eq (l a j).1 (l b B).1 M,Ia.swo.irrefl] at I;cases I
   rcases qo C F w with g | g
   ·have g2:=(Bc.up C (l b B).1 (λM=>J M.symm)).1 g
    rw[(l b B).2] at g2
    have:=g2.rank m
    have:=m a (l a j).1
    rw[(l a j).2] at this
    omega
   ·have g2:=(Bc.up C (l a j).1 J).1 g
    rw[(l a j).2] at g2
    have:=g2.rank m
    have:=m b (l b B).1
    rw[(l b B).2] at this
    omega
theorem Xs:∀(l A:List AE),(l.Pairwise λa b=>a.Item≠b.Item)→(∀z∈l,z∈A)→l.length≤A.length:=by
 intro l
 induction l with
 | nil=>intro A _ _;exact s6 _
 | cons a r w=>
  intro A hp j
  rw[uA] at hp
  have m:=j a (rn ..)
  have:=w (A.erase a) hp.2 λz q=>(List.mem_erase_of_ne (λe=>hp.1 z q (by rw[e]))).2 (j z (rj _ q))
  rw[List.length_erase_of_mem m] at this
  have:0<A.length:=List.length_pos_of_mem m
  simp;omega
theorem My{A:List AE}{d}{M}(h:Fo A d M) n q:(BL A n q).length≤A.length:=
 Xs _ _ (W2 h.uq h.rk n q) λz j=>(ME n q z j).1
theorem Sd{α:Type} m k(v:α) q:AU (An m k v) q=if q=k then some v else AU m q:=by
 induction m with
 | nil=>unfold An AU;rfl
 | cons p r w=>
  unfold An
  by_cases l:k=p.1
  ·rw[rO l]
   conv=>lhs;unfold AU
   conv=>rhs;unfold AU
   rw[← l]
   split<;>rfl
  ·rw[rN l]
   conv=>lhs;unfold AU
   conv=>rhs;unfold AU
   rw[w]
   by_cases j:q=p.1
   ·rw[rO j,rO j,rN (by rw[j];exact λe=>l e.symm)]
   ·rw[rN j,rN j]
def cS(p q:List UInt8):Int:=if Au p q then -1 else if !(Au p q||(p=q)) then 1 else 0
def Qm(a b:AE):Int:=if cS a.Place b.Place≠0 then cS a.Place b.Place else G6 a.Item b.Item
theorem gJ p q:NK p q=some (cS p q):=by
 unfold NK Px cS
 simp only[uv,tQ,AD,tE,ti]
 split
 ·rfl
 ·split<;>rfl
theorem iW a b:KD a b=some (Qm a b):=by
 unfold KD Qm
 rw[gJ,RM,AD,AD,YV,AD]
theorem jc(a b:AE):Pe a b=some (G6 a.Item b.Item):=by
 unfold Pe
 rw[RM,AD]
theorem dX:ltOf Qm=HG:=by
 funext a b
 unfold ltOf
 rw[sM,rT,U1]
 unfold Qm cS G6
 by_cases j:Au a.Place b.Place=true
 ·simp[j]
 ·rw[sO] at j
  by_cases l:a.Place=b.Place
  ·simp only[j,l,JD,tE,ti,uv,Bool.or_true,tQ,ne_eq,not_true_eq_false,false_or,uu]
   split
   ·simp[*]
   ·split<;>omega
  ·simp[j,l]
theorem gL:ltOf (λa b:AE=>G6 a.Item b.Item)=E6:=by
 funext a b
 unfold ltOf E6 G6
 rw[ts]
 show(if a.Item<b.Item then(-1:Int) else if b.Item<a.Item then 1 else 0)<0↔_
 split
 ·simp[*]
 ·split<;>omega
theorem ZM{lt}(j:Gv lt){cmp}{l}(w:∀a b,cmp a b=some (l a b))(m:ltOf l=lt){xs:List AE}(A:Uq xs)(E:xs.length≤1048576) :
  HU cmp xs=some (srt lt xs):=by
 refine eL ⟨by omega,l,w,by rw[m];exact j.swo,λa B b C q g2=>?_,GB _ _,by rw[m];exact Qn j xs⟩
 rw[m] at q g2
 exact A.eq B C (j.tot a b q g2)
theorem XA{lt}(j:Gv lt){xs ys:List AE}(m:Uq ys)(hp:xs.Perm ys):srt lt xs=srt lt ys:=by
 refine T8 j.swo _ _ (((GB lt xs).trans hp).trans (GB lt ys).symm) (λa q b w A g2=>?_) (Qn j xs) (Qn j ys)
 have l:∀z∈srt lt xs,z∈ys:=λz B=>hp.subset ((GB lt xs).subset B)
 exact m.eq (l a q) (l b w) (j.tot a b A g2)
def Dg(kids:List (Int × List AE))(q:Int):List AE:=(AU kids q).getD []
def JC(A:List AE)(kids:List (Int × List AE)):Prop:=∀q,(Dg kids q).Perm (A.filter λz=>decide (z.Parent=q))
theorem Rx kids q v p:Dg (An kids q v) p=if p=q then v else Dg kids p:=by
 unfold Dg
 rw[Sd]
 split<;>rfl
theorem nT{A:List AE}(I:Uq A)(J:A.length≤1048576){kids}(m:JC A kids)(q:Int):∃w,Kj KD kids q=some w∧Dg w q=A7 A q∧JC A w∧∀p,Dg kids p=A7 A p→Dg w p=A7 A p:=by
 unfold Kj
 cases B:AU kids q with
 | none=>
  have j:=m q
  unfold Dg at j
  rw[B,vH] at j
  refine⟨kids,rfl,?_,m,λp h=>h⟩
  unfold Dg A7
  rw[B,List.nil_perm.1 j]
  simp[srt]
 | some C=>
  have j:=m q
  unfold Dg at j
  rw[B,sf] at j
  have E:Uq C:=(I.filter _).perm j
  have F:C.length≤1048576:=by rw[j.length_eq];exact rh (sn ..) J
  have l:srt HG C=A7 A q:=XA Ia (I.filter _) j
  simp only
  rw[ZM Ia iW dX E F,sY]
  refine⟨_,rfl,?_,λp=>?_,λp hp=>?_⟩
  ·rw[Rx,rO rfl,l]
  ·rw[Rx]
   split
   ·rename_i e;subst e
    exact(GB _ _).trans j
   ·exact m p
  ·rw[Rx]
   split
   ·rename_i e;subst e;exact l
   ·exact hp
def Db(m:List (Int × Bool))(i:Int):Bool:=(AU m i).getD false
theorem SQ m k i:Db (An m k true) i=((i=k)||Db m i):=by
 unfold Db
 rw[Sd]
 by_cases h:i=k<;>simp[h]
def Bn(l:List AE)(i:Int):Bool:=l.any λz=>decide (z.Item=i)
theorem Xy l m i:Bn (l++m) i=(Bn l i||Bn m i):=by unfold Bn;rw[List.any_append]
theorem mc{A}{d}{M}(h:Fo A d M):∀(n:Nat) (q:Int) (kids:List (Int × List AE)) (out:List AE) (seen:List (Int × Bool)),M-d q<n→JC A kids→out.length+(BL A n q).length≤2097151 →
  ∃l F,Dv n kids out seen q=some (l,out++BL A n q,F)∧JC A l∧(∀p,Dg kids p=A7 A p→Dg l p=A7 A p)∧∀i,Db F i=(Db seen i||Bn (BL A n q) i):=by
 intro n
 induction n with
 | zero=>intro q kids out seen hn;omega
 | succ n ih=>
  intro q kids out seen hn hK hl
  obtain⟨w,e1,e2,e3,e4⟩:=nT h.uq h.len hK q
  have a6:(A7 A q).length≤1048576:=by
   unfold A7
   rw[(GB _ _).length_eq];exact rh (sn ..) h.len
  have loop:∀m k o E O,k+m=(A7 A q).length→JC A E→Dg E q=A7 A q→o.length+(((A7 A q).drop k).flatMap λx=>x::BL A n x.Item).length≤2097151 →
    ∃B C,iter (λ(a:Int × (List AE) × (List (Int × (List AE))) × (List (Int × Bool)))=>GT q (λU V m2 j=>Dv n U V m2 j) w a.1 a.2.1 a.2.2.1 a.2.2.2) ((k:Int),o,E,O) =
     some (.ext (B,o++((A7 A q).drop k).flatMap λx=>x::BL A n x.Item,C))∧JC A B∧(∀p,Dg E p=A7 A p→Dg B p=A7 A p)∧∀i,Db C i=(Db O i||Bn (((A7 A q).drop k).flatMap λx=>x::BL A n x.Item) i):=by
   intro m
   induction m with
   | zero=>
    intro k o E O hk T hr ho
    refine⟨E,O,BN ?_,T,λp hp=>hp,λi=>?_⟩
    ·show GT q _ w (k:Int) o E O=_
     unfold GT
     rw[rN (by rw[show(AU w q).getD []=A7 A q from e2];simp;omega),s9 (by omega)]
     simp
    ·rw[s9 (by omega)];simp[Bn]
   | succ m a0=>
    intro k o E O hk T hr ho
    have I:k<(A7 A q).length:=by omega
    have X:=sG I
    have J:=HD.1 X
    have hd:=h.rk _ J.1
    rw[J.2] at hd
    have a2:=h.top _ J.1
    rw[sH I,ss,sI,sL] at ho
    obtain⟨k1,s1,f1,f2,f3,f4⟩:=ih (A7 A q)[k].Item E (o++[(A7 A q)[k]]) (An O (A7 A q)[k].Item true) (by omega) T (by rw[sI];simp;omega)
    obtain⟨B,C,Z,g2,g3,g4⟩:=a0 (k+1) ((o++[(A7 A q)[k]])++BL A n (A7 A q)[k].Item) k1 s1 (by omega) f2 (f3 q hr) (by simp only[sI,sL,tx];omega)
    refine⟨B,C,?_,g2,λp hp=>g3 p (f3 p hp),λi=>?_⟩
    ·rw[Bg (s':=(((k+1:Nat):Int),(o++[(A7 A q)[k]])++BL A n (A7 A q)[k].Item,k1,s1)) (by
      show GT q _ w (k:Int) o E O=_
      unfold GT
      rw[rO (by rw[show(AU w q).getD []=A7 A q from e2];simp;omega),show(AU E q).getD []=A7 A q from hr,EG I,AD,I4 (by simp;omega),AD]
      show EC (Dv n E (o++[(A7 A q)[k]]) (An O (A7 A q)[k].Item true) (A7 A q)[k].Item) _=_
      rw[f1,Gi,Ap (by omega),AD]),Z]
     conv=>rhs;rw[sH I,ss]
     simp
    ·rw[g4,f4,SQ,sH I,ss,Xy]
     have:Bn ((A7 A q)[k]::BL A n (A7 A q)[k].Item) i=((i=(A7 A q)[k].Item)||Bn (BL A n (A7 A q)[k].Item) i):=by
      unfold Bn
      rw[tm]
      congr 1
      rw[ts];exact⟨λe=>e.symm,λe=>e.symm⟩
     rw[this]
     cases Db O i<;>cases decide (i=(A7 A q)[k].Item)<;>simp
  obtain⟨B,C,Z,g2,g3,g4⟩:=loop (A7 A q).length 0 out w seen (by omega) e3 e2 (by rw[tY];exact hl)
  rw[tY] at Z g4
  refine⟨B,C,?_,g2,λp hp=>g3 p (e4 p hp),g4⟩
  show I8 (λU V m2 j=>Dv n U V m2 j) kids out seen q=_
  unfold I8
  rw[e1,AD]
  have a1:iter (λ(a:Int × (List AE) × (List (Int × (List AE))) × (List (Int × Bool)))=>GT q (λU V m2 j=>Dv n U V m2 j) w a.1 a.2.1 a.2.2.1 a.2.2.2) (0,out,w,seen)=_:=Z
  rw[a1,Io];rfl
end Go.Proofs.YtifgmfoihehlbaaGreatDoor.Al

set_option linter.unusedVariables false
set_option linter.unusedSimpArgs false
namespace Go.Proofs.YtifgmfoihehlbaaGreatDoor.Al
open Go.Sort
def wa(attrs:List AE)(x:AE):AE:=⟨x.Item,x.Parent,x.Place,(AU (DA attrs) x.Item).getD []⟩
theorem aD{l:List Ax}(E:l.length≤1048576)(F:∀x∈l,FQ x=0):∀(m k:Nat) (j attrs:List AE),k+m=l.length→DI k j attrs→∃q w,DI l.length q w ∧
  iter (λ(a:Int × (List (Int × AE)) × (List (Int × (List AC))))=>IV l a.1 a.2.1 a.2.2) ((k:Int),Bd j,DA attrs)=some (Bd q,DA w) ∧
  iter (λ(a:Int × (List AE) × (List AE))=>H4 l a.1 a.2.1 a.2.2) ((k:Int),j,attrs)=some (q,w):=by
 intro m
 induction m with
 | zero=>
  intro k j attrs I h
  obtain rfl:k=l.length:=by omega
  refine⟨j,attrs,h,BN ?_,BN ?_⟩
  ·show IV l (l.length:Int) _ _=_
   unfold IV;rw[rN (by simp)]
  ·show H4 l (l.length:Int) _ _=_
   unfold H4;rw[rN (by simp)]
 | succ m J=>
  intro k j attrs I h
  have A:k<l.length:=by omega
  obtain⟨B,C,M,O,T⟩:=pR h A E (F _ (Bk A))
  obtain⟨U,V,X,Z,h6⟩:=J (k+1) B C (by omega) M
  refine⟨U,V,X,?_,?_⟩
  ·rw[Bg (s':=(((k+1:Nat):Int),Bd B,DA C)) O];exact Z
  ·rw[Bg (s':=(((k+1:Nat):Int),B,C)) T];exact h6
theorem bP{l attrs:List AE}(Z:l.length≤1048576)(h2:attrs.length≤1048576)(J:∀x∈l,x.Attrs=[]) :
  iter (λ(a:Int × (List AE))=>Hx l attrs a.1 a.2) (0,l)=some (l.map (wa attrs)):=by
 have key:∀m k,k+m=l.length→iter (λ(a:Int × (List AE))=>Hx l attrs a.1 a.2) ((k:Int),(l.take k).map (wa attrs)++l.drop k)=some (l.map (wa attrs)):=by
  intro m
  induction m with
  | zero=>
   intro k O
   refine BN ?_
   show Hx l attrs (k:Int) _=_
   unfold Hx
   rw[rN (by simp;omega),s9 (by omega),tf (by omega),tN]
  | succ m T=>
   intro k O
   have q:k<l.length:=by omega
   have B:((l.take k).map (wa attrs)).length=k:=by simp;omega
   have U:((l.take k).map (wa attrs)++l.drop k)[k]?=some l[k]:=by
    rw[rl (by omega),B,vI,sT,si,rU q]
   have F:∀y,((l.take k).map (wa attrs)++l.drop k).set k y=(l.take k).map (wa attrs)++(y::l.drop (k+1)):=λy=>by
    rw[uj _ _ (by omega),B,vI,sH q];rfl
   have w:(l.take (k+1)).map (wa attrs)++l.drop (k+1)=(l.take k).map (wa attrs)++(wa attrs l[k]::l.drop (k+1)):=by
    rw[MW q,ri l k q,tC,sg];rfl
   have C:Hx l attrs (k:Int) ((l.take k).map (wa attrs)++l.drop k)=some (.inl (((k+1:Nat):Int),(l.take (k+1)).map (wa attrs)++l.drop (k+1))):=by
    unfold Hx
    have I:AM ((l.take k).map (wa attrs)++l.drop k) (k:Int)=some l[k]:=by
     unfold AM;rw[rO (tz k),sr,U]
    rw[rO (by simpa using q),I,AD,Lt _ _ (by omega),AD,Ap (by omega)]
    unfold Ij
    have A:=TV attrs l[k].Item
    cases E:Ah (Bd attrs) l[k].Item with
    | none=>
     rw[E] at A
     simp only
     rw[rN (by decide),AD,AD,w]
     have:wa attrs l[k]=l[k]:=by
      unfold wa
      rw[(Ew A).1,vH,← J _ (sG q)]
     rw[this,sH q]
    | some j=>
     rw[E] at A
     obtain⟨M,ej⟩:=Hq E
     obtain⟨v,v1,V,_⟩:=Df A
     have X:v=attrs[j].Attrs:=by
      unfold DA at v1
      rw[rc,rU M] at v1
      simp at v1
      exact v1.2.symm
     simp only
     rw[rO (by simp),EG M]
     simp only[AD,sr]
     rw[F,w]
     unfold wa
     rw[V,sf,X]
   rw[Bg (s':=(((k+1:Nat):Int),(l.take (k+1)).map (wa attrs)++l.drop (k+1))) C]
   exact T (k+1) (by omega)
 have:=key l.length 0 (by omega)
 simpa using this
theorem We{l:List Ax}(w:l.length≤1048576)(A:∀x∈l,FQ x=0):∃j attrs,DI l.length j attrs∧Lu l=some (Bd j,DA attrs)∧LU l=some (j.map (wa attrs),attrs):=by
 obtain⟨j,attrs,h,B,C⟩:=aD w A l.length 0 [] [] (by omega) ⟨by unfold Uq;simp,by simp,by simp,⟨λ_=>0,λx E=>by cases E⟩,by simp,by unfold Uq;simp,by simp,by simp,by simp,by simp,by simp⟩
 refine⟨j,attrs,h,?_,?_⟩
 ·unfold Lu
  have m:iter (λ(a:Int × (List (Int × AE)) × (List (Int × (List AC))))=>IV l a.1 a.2.1 a.2.2) (0,[],[])=some (Bd j,DA attrs):=B
  rw[m,BW]
 ·unfold LU
  have q:iter (λ(a:Int × (List AE) × (List AE))=>H4 l a.1 a.2.1 a.2.2) (0,[],[])=some (j,attrs):=C
  rw[q,BW,bP (by have:=h.li;omega) (by have:=h.la;omega) h.no,AD]
theorem oS(d:Int→Nat):∀A:List AE,∃M,∀x∈A,d x.Item≤M:=by
 intro A
 induction A with
 | nil=>exact⟨0,λx j=>by cases j⟩
 | cons a r l=>
  obtain⟨M,h⟩:=l
  refine⟨max M (d a.Item),λx j=>?_⟩
  rcases sB.1 j with rfl | j
  ·exact Nat.le_max_right ..
  ·exact rh (h x j) (Nat.le_max_left ..)
theorem DI.fo{n}{j attrs:List AE}(h:DI n j attrs)(w:n≤1048576):∃d M,Fo (j.map (wa attrs)) d M:=by
 obtain⟨d,hd⟩:=h.rk
 obtain⟨M,q⟩:=oS d (j.map (wa attrs))
 refine⟨d,M,?_,λx l=>?_,λx l=>?_,q,by have:=h.li;simp;omega⟩
 ·have:=h.uq
  unfold Uq at *
  rw[vK];exact this
 ·obtain⟨y,m,rfl⟩:=sK.1 l;exact h.id y m
 ·obtain⟨y,m,rfl⟩:=sK.1 l;exact hd y m
theorem P8{α:Type}{N:Nat→Option α}(mono:∀n r,N n=some r→N (n+1)=some r){j:Nat}{l:α}(h:N j=some l) :
  @dite _ (∃n r,N n=some r) (Classical.propDecidable _) (λh=>N h.choose) (λ_=>none)=some l:=by
 have m:∃n r,N n=some r:=⟨j,l,h⟩
 rw[uB m]
 obtain⟨C,w⟩:=m.choose_spec
 have up:∀k n r,N n=some r→N (n+k)=some r:=by
  intro k
  induction k with
  | zero=>intro n r h;exact h
  | succ k A=>intro n r h;exact mono _ _ (A n r h)
 have B:=up j _ _ w
 have q:=up m.choose _ _ h
 rw[Nat.add_comm] at q
 rw[B] at q
 rw[w];exact q
theorem JH{σ β:Type}{f g:σ→Option (σ ⊕ β)}(h:∀s v,f s=some v→g s=some v){s:σ}{r:β}(m:iter f s=some r):iter g s=some r:=by
 obtain⟨n,j⟩:=Mp.1 m
 refine Mp.2 ⟨n,?_⟩
 clear m
 induction n generalizing s with
 | zero=>exact j
 | succ n q=>
  unfold Em at j ⊢
  cases l:f s with
  | none=>rw[l] at j;cases j
  | some v=>
   rw[l] at j
   rw[h s v l]
   cases v with
   | inl w=>exact q j
   | inr b=>exact j
theorem nP n:∀(m:List (Int × List AE)) (A:List AE) (m2:List (Int × Bool)) (q:Int) r,Dv n m A m2 q=some r→Dv (n+1) m A m2 q=some r:=by
 induction n with
 | zero=>intro m A m2 q r h;cases h
 | succ n O=>
  intro m A m2 q r h
  change I8 (λm A m2 j=>Dv n m A m2 j) m A m2 q=some r at h
  show I8 (λm A m2 j=>Dv (n+1) m A m2 j) m A m2 q=some r
  unfold I8 at h ⊢
  cases I:Kj KD m q with
  | none=>rw[I] at h;cases h
  | some w=>
   rw[I,AD] at h
   rw[AD]
   cases C:iter (λ(a:Int × (List AE) × (List (Int × (List AE))) × (List (Int × Bool)))=>GT q (λm A m2 j=>Dv n m A m2 j) w a.1 a.2.1 a.2.2.1 a.2.2.2) (0,A,w,m2) with
   | none=>rw[C] at h;cases h
   | some v=>
    rw[C] at h
    rw[JH (g:=λ(a:Int × (List AE) × (List (Int × (List AE))) × (List (Int × Bool)))=>GT q (λm A m2 j=>Dv (n+1) m A m2 j) w a.1 a.2.1 a.2.2.1 a.2.2.2) (λs v B=>?_) C]
    ·exact h
    ·unfold GT at B ⊢
     split at B
     ·rename_i E
      rw[rO E]
      cases J:AM ((AU s.2.2.1 q).getD []) s.1 with
      | none=>rw[J] at B;cases B
      | some x=>
       rw[J,AD] at B
       rw[AD]
       cases M:app 56 s.2.1 [x] with
       | none=>rw[M] at B;cases B
       | some l=>
        rw[M,AD] at B
        rw[AD]
        change EC (Dv n s.2.2.1 l (An s.2.2.2 x.Item true) x.Item) _=_ at B
        show EC (Dv (n+1) s.2.2.1 l (An s.2.2.2 x.Item true) x.Item) _=_
        cases F:Dv n s.2.2.1 l (An s.2.2.2 x.Item true) x.Item with
        | none=>rw[F] at B;cases B
        | some t=>rw[F] at B;rw[O _ _ _ _ _ F];exact B
     ·rename_i E
      rw[rN E];exact B
theorem pS n:∀(o l:List AE) (q:Int) r,Dn n o l q=some r→Dn (n+1) o l q=some r:=by
 induction n with
 | zero=>intro o l q r h;cases h
 | succ n T=>
  intro o l q r h
  change Jc (λm A j=>Dn n m A j) o l q=some r at h
  show Jc (λm A j=>Dn (n+1) m A j) o l q=some r
  unfold Jc at h ⊢
  cases B:iter (λ(a:(List UInt8) × Int × (List AE))=>GS l q (λm A j=>Dn n m A j) a.1 a.2.1 a.2.2) ([],0,o) with
  | none=>rw[B] at h;cases h
  | some v=>
   rw[B] at h
   rw[JH (g:=λ(a:(List UInt8) × Int × (List AE))=>GS l q (λm A j=>Dn (n+1) m A j) a.1 a.2.1 a.2.2) (λs v w=>?_) B]
   ·exact h
   ·unfold GS at w ⊢
    cases J:iter (λ(a:Int × Int)=>H8 l q s.1 s.2.1 a.1 a.2) ((-1),0) with
    | none=>rw[J] at w;cases w
    | some C=>
     rw[J,AD] at w
     rw[AD]
     split at w
     ·rename_i E;rw[rO E];exact w
     ·rename_i E
      rw[rN E]
      cases M:AM l C with
      | none=>rw[M] at w;cases w
      | some x=>
       rw[M,AD] at w
       rw[AD]
       cases O:app 56 s.2.2 [x] with
       | none=>rw[O] at w;cases w
       | some F=>
        rw[O,AD] at w
        rw[AD]
        change AB (Dn n F l x.Item) _=_ at w
        show AB (Dn (n+1) F l x.Item) _=_
        cases I:Dn n F l x.Item with
        | none=>rw[I] at w;cases w
        | some t=>rw[I] at w;rw[T _ _ _ _ I];exact w
theorem gT{A}{d}{M}(h:Fo A d M):OJ [] A 0=some (BL A (M+1) 0):=by
 have j:=jt h (M+1) 0 [] (by omega) (by have:=My h (M+1) 0;have:=h.len;simp;omega)
 rw[se] at j
 unfold OJ
 exact P8 (N:=λn=>Dn n [] A 0) (λn r=>pS n [] A 0 r) j
theorem aJ{A}{d}{M}(h:Fo A d M){kids}(m:JC A kids):∃j s',PF kids [] [] 0=some (j,BL A (M+1) 0,s')∧∀i,Db s' i=Bn (BL A (M+1) 0) i:=by
 obtain⟨j,s',l,_,_,q⟩:=mc h (M+1) 0 kids [] [] (by omega) m (by have:=My h (M+1) 0;have:=h.len;simp;omega)
 rw[se] at l
 refine⟨j,s',?_,λi=>by rw[q];simp[Db,AU]⟩
 unfold PF
 exact P8 (N:=λn=>Dv n kids [] [] 0) (λn r=>nP n kids [] [] 0 r) l
end Go.Proofs.YtifgmfoihehlbaaGreatDoor.Al

set_option linter.unusedVariables false
set_option linter.unusedSimpArgs false
namespace Go.Proofs.YtifgmfoihehlbaaGreatDoor.Al
open Go.Sort
theorem cT{α:Type}{m:List (Int × α)}{k}{v0}(h:AU m k=some v0)(v:α):(An m k v).map (·.1)=m.map (·.1):=by
 induction m with
 | nil=>cases h
 | cons p r l=>
  unfold An
  by_cases j:k=p.1
  ·rw[rO j];simp[j]
  ·rw[rN j]
   unfold AU at h
   rw[rN j] at h
   rw[ru,ru,l h]
theorem UM{l}(w:Uq l){x:AE}(m:x∈l):AU (Bd l) x.Item=some x:=by
 rw[VY]
 cases h:Ah (Bd l) x.Item with
 | none=>exact absurd rfl (Kl h x m)
 | some j=>
  obtain⟨q,e⟩:=Hq h
  rw[sJ,rU q,w.eq (sG q) m e]
def Kb(j attrs:List AE)(k:Int):AE:=((AU (Bd j) k).map (wa attrs)).getD default
structure RJ(items attrs:List AE)(p:List Int)(st:(List AE) × (List (Int × AE)) × (List (Int × (List AE)))):Prop where
 all:st.1=p.map (Kb items attrs)
 keys:st.2.1.map (·.1)=items.map (·.Item)
 here:∀x∈items,∃a,AU st.2.1 x.Item=some ⟨x.Item,x.Parent,x.Place,a⟩
 kids:∀q,Dg st.2.2 q=(p.map (Kb items attrs)).filter λz=>decide (z.Parent=q)
abbrev Pq:(List AE) × (List (Int × AE)) × (List (Int × (List AE)))→List Int:=λa=>a.2.1.map (·.1)
theorem ko{j attrs:List AE}(F:Uq j)(hl:j.length≤1048576):∀(r p:List Int) l,RJ j attrs p l→(∀k∈r,k∈j.map (·.Item))→p.length+r.length≤1048576 →
  ∃st',FI (Kt Pq (j.map (·.Item)) (λa w=>HW (DA attrs) a.1 a.2.1 a.2.2 w)) r l=some st'∧RJ j attrs (p++r) st':=by
 intro r
 induction r with
 | nil=>intro p l h _ _;exact⟨l,rfl,by rw[tN];exact h⟩
 | cons k r U=>
  intro p l h I A
  obtain⟨x,B,rfl⟩:=sK.1 (I k (rn ..))
  obtain⟨a,J⟩:=h.here x B
  have C:(⟨x.Item,x.Parent,x.Place,(AU (DA attrs) x.Item).getD []⟩:AE)=wa attrs x:=rfl
  have M:Kb j attrs x.Item=wa attrs x:=by unfold Kb;rw[UM F B];rfl
  have O:(Dg l.2.2 x.Parent).length≤1048576:=by
   rw[h.kids];refine rh (sn ..) ?_;rw[rt];simp at A;omega
  have V:HW (DA attrs) l.1 l.2.1 l.2.2 x.Item=some (l.1++[wa attrs x],An l.2.1 x.Item (wa attrs x),An l.2.2 x.Parent (Dg l.2.2 x.Parent++[wa attrs x])):=by
   unfold HW
   rw[J,AD]
   show AB (app 56 (Dg l.2.2 x.Parent) [wa attrs x]) _=_
   rw[I4 (by simp;omega),AD]
   show AB (app 56 l.1 [wa attrs x]) _=_
   rw[I4 (by rw[h.all];simp at A ⊢;omega),AD]
   rfl
  have m:(An l.2.1 x.Item (wa attrs x)).map (·.1)=j.map (·.Item):=by rw[cT J];exact h.keys
  obtain⟨st',X,T⟩:=U (p++[x.Item]) (l.1++[wa attrs x],An l.2.1 x.Item (wa attrs x),An l.2.2 x.Parent (Dg l.2.2 x.Parent++[wa attrs x])) ⟨by rw[tC,uz,M,← h.all],m,λy C=>by
    show ∃a,AU (An l.2.1 x.Item (wa attrs x)) y.Item=_
    rw[Sd]
    split
    ·rename_i e
     rw[F.eq C B e];exact⟨_,rfl⟩
    ·exact h.here y C,λq=>by
    show Dg (An l.2.2 x.Parent _) q=_
    rw[Rx,tC,List.filter_append,uz,M]
    by_cases E:q=x.Parent
    ·subst E
     have e:[wa attrs x].filter (λz=>decide (z.Parent=x.Parent))=[wa attrs x]:=by simp[wa]
     rw[rO rfl,h.kids,e]
    ·have e:[wa attrs x].filter (λz=>decide (z.Parent=q))=[]:=by simp[wa];exact λe=>E e.symm
     rw[rN E,h.kids,e,tN]⟩ (λk Z=>I k (rj _ Z)) (by simp at A ⊢;omega)
  refine⟨st',?_,by rw[sg] at T;exact T⟩
  show(Kt Pq (j.map (·.Item)) (λa w=>HW (DA attrs) a.1 a.2.1 a.2.2 w) l x.Item).bind _=some st'
  have hs:Kt Pq (j.map (·.Item)) (λa w=>HW (DA attrs) a.1 a.2.1 a.2.2 w) l x.Item=some (l.1++[wa attrs x],An l.2.1 x.Item (wa attrs x),An l.2.2 x.Parent (Dg l.2.2 x.Parent++[wa attrs x])):=by
   unfold Kt
   simp only
   rw[V,sJ,rO (by exact m)]
  rw[hs,sJ]
  exact X
def Bq(A:List AE)(j:List AE):List AE:=(srt E6 A).filter λz=>!Bn j z.Item
theorem gw l m(A:∀i,Db l i=Bn m i)(j:List AE)(C:j.length≤1048576)(o:List AE)(E:o.length≤1048576) :
  iter (λ(a:Int × (List AE))=>Hv l j a.1 a.2) (0,o)=some (o++j.filter λz=>!Bn m z.Item):=
 Eo (f:=λ(a:Int × (List AE))=>Hv l j a.1 a.2) j (λc k=>((k:Int),c)) (λr c=>c++r.filter λz=>!Bn m z.Item) (λk c=>c.length≤1048576+k)
  (λk c w B=>by
   left
   show ∃F,Hv l j (k:Int) c=_∧_
   unfold Hv
   rw[rO (by simpa using w),Ae w,AD,Ap (by omega),show(AU l j[k]!.Item).getD false=Bn m j[k]!.Item from A _]
   by_cases q:Bn m j[k]!.Item=true
   ·refine⟨c,by rw[q];rfl,by omega,?_⟩
    rw[tW,q];rfl
   ·rw[sO] at q
    refine⟨c++[j[k]!],by rw[q,rO (by decide),I4 (by simp;omega)];rfl,by simp;omega,?_⟩
    rw[tW,q];simp)
  (λc B=>by
   show Hv l j (j.length:Int) c=_
   unfold Hv
   rw[rN (by simp)];simp) o (by omega) _ rfl
theorem gF{l:List Ax}{j attrs:List AE}(hm:l.length≤1048576)(h:DI l.length j attrs)(hp:Lu l=some (Bd j,DA attrs)){d}{M}(hF:Fo (j.map (wa attrs)) d M) :
  OI l=some (BL (j.map (wa attrs)) (M+1) 0++Bq (j.map (wa attrs)) (BL (j.map (wa attrs)) (M+1) 0)):=by
 unfold OI
 rw[hp,BW]
 have A:Pq ([],Bd j,[])=j.map (·.Item):=by
  show(Bd j).map (·.1)=_
  unfold Bd;rw[vK];rfl
 refine pQ (key:=Pq) (F:=λa T=>HW (DA attrs) a.1 a.2.1 a.2.2 T) ⟨by rw[A];exact h.uq,λks w=>?_⟩
 rw[A] at w ⊢
 have U:=h.li
 have V:ks.length=j.length:=by rw[w.length_eq,rt]
 obtain⟨E,X,C⟩:=ko (attrs:=attrs) h.uq (by omega) ks [] ([],Bd j,[]) ⟨rfl,A,λx F=>⟨x.Attrs,UM h.uq F⟩,λq=>rfl⟩ (λk Z=>w.subset Z) (by simp;omega)
 rw[X,sJ]
 rw[se] at C
 have m:E.1.Perm (j.map (wa attrs)):=by
  rw[C.all]
  have I:=w.map (Kb j attrs)
  rw[vK] at I
  refine I.trans (List.Perm.of_eq (List.map_congr_left λx F=>?_))
  show Kb j attrs x.Item=_
  unfold Kb;rw[UM h.uq F];rfl
 have hK:JC (j.map (wa attrs)) E.2.2:=λq=>by
  rw[C.kids,← C.all];exact m.filter _
 obtain⟨k',s',J,w2⟩:=aJ hF hK
 obtain⟨O,m3,m4⟩:=E
 simp only at m J ⊢
 rw[Gi,J,Gi,ZM LH jc gL (hF.uq.perm m) (by rw[m.length_eq];exact hF.len),AD,XA LH hF.uq m]
 have B:(srt E6 (j.map (wa attrs))).length≤1048576:=by rw[(GB _ _).length_eq];exact hF.len
 rw[gw s' _ w2 _ B _ (rh (My hF _ _) hF.len),AD]
 rfl
def KA(c:List AE)(k:Nat):Int:=match k with | 0=>0 | k+1=>c[k]!.Item
theorem pZ l i:decide (Ij l i<0)=!Bn l i:=by
 unfold Ij
 cases h:Ah (Bd l) i with
 | none=>
  have m:=Kl h
  have:Bn l i=false:=by
   unfold Bn
   rw[vC]
   intro x q;simpa using m x q
  rw[this];rfl
 | some j=>
  obtain⟨w,e⟩:=Hq h
  have:Bn l i=true:=by
   unfold Bn
   rw[sw]
   exact⟨_,sG w,by simpa using e⟩
  rw[this];simp
def Ka(j:List AE)(last:Int)(z:AE):Bool:=(last<z.Item)&&!Bn j z.Item
theorem Xo(A l out:List AE)(J:A.length≤1048576)(hw:l.length≤1048576)(m:out.take l.length=l)(E:l.length≤out.length) last:∃next,iter (λ(a:Int × Int)=>Iy A l last out a.1 a.2) ((-1),0)=some (nx next) ∧
  (match next with | none=>∀z∈A,Ka l last z=false | some j=>∃w:j<A.length,Ka l last A[j]=true∧∀z∈A,Ka l last z=true→E6 z A[j]=false):=by
 have q:CB out 0 (l.length:Int)=some l:=by
  unfold CB
  rw[rO ⟨by omega,by omega,by omega⟩]
  simp[m]
 refine Ys LH (λk next B F=>?_) (λnext=>?_)
 ·show Iy A l last out (nx next) (k:Int)=_
  unfold Iy
  rw[rO (by simpa using B),Ae B,AD,Ap (by omega),q]
  unfold Oz Ka
  generalize A[k]! = x
  by_cases C:last<x.Item
  ·rw[rR C,show((true==true)=true) from rfl,Ak,AD,Ak,Lt _ _ (by omega),AD,pZ]
   cases M:Bn l x.Item
   ·cases next with
    | none=>simp[nx,Bp]
    | some j=>
     have w:=F j rfl
     have I:decide (nx (some j)<0)=false:=by unfold nx;simp
     rw[I,show nx (some j)=(j:Int) from rfl,Ae w]
     simp only[tJ,uY,sE,sc,Ak,AD,sb,uu]
     generalize A[j]! = y
     rw[show E6 x y=decide (x.Item<y.Item) from rfl]
     split<;>rfl
   ·cases next<;>simp[Bp]
  ·rw[rQ C]
   cases next<;>simp[Bp]
 ·show Iy A l last out (nx next) (A.length:Int)=_
  unfold Iy
  rw[rN (by simp)]
theorem RG{A}(j:Uq A)(l:List AE):(Bq A l).Pairwise λa b=>E6 a b=true:=(Vt LH j).filter _
theorem Jk{A j}{z:AE} : z∈Bq A j↔z∈A∧Bn j z.Item=false:=by
 unfold Bq
 rw[tS,(GB _ _).mem_iff]
 simp
theorem VU{A}(E:Uq A)(BT:∀x∈A,1≤x.Item)(j:List AE){k}(F:k≤(Bq A j).length){z:AE}(q:z∈A):Ka j (KA (Bq A j) k) z=true↔z∈(Bq A j).drop k:=by
 have B:∀i:Int,Ka j i z=true↔i<z.Item∧Bn j z.Item=false:=λi=>by unfold Ka;simp
 cases k with
 | zero=>
  rw[tY,Jk,B]
  show(0<z.Item∧_)↔_
  constructor
  ·rintro⟨_,h⟩;exact⟨q,h⟩
  ·rintro⟨_,h⟩;exact⟨by have:=BT z q;omega,h⟩
 | succ k=>
  rw[B]
  show((Bq A j)[k]!.Item<z.Item∧_)↔_
  rw[ri (Bq A j) k (by omega)]
  have hd:=λw=>UD LH (RG E j) (show k<(Bq A j).length by omega) (z:=z) w
  constructor
  ·rintro⟨l,m⟩
   exact(hd (Jk.2 ⟨q,m⟩)).1 (by unfold E6;simpa using l)
  ·intro l
   have m:=uH l
   have C:=(hd m).2 l
   unfold E6 at C
   exact⟨by simpa using C,(Jk.1 m).2⟩
theorem fD{A:List AE}(w:Uq A)(BT:∀x∈A,1≤x.Item)(C:A.length≤1048576)(l:List AE)(I:l.length≤1048576):∀m k,k+m=(Bq A l).length →
  iter (λ(a:Int × (List AE))=>H9 A l a.1 a.2) (KA (Bq A l) k,l++(Bq A l).take k)=some (.ext (l++Bq A l,(l.length:Int))):=by
 intro m
 have hA:∀z∈Bq A l,z∈A:=λz B=>(Jk.1 B).1
 have M:(Bq A l).length≤1048576:=by
  unfold Bq
  refine rh (sn ..) ?_
  rw[(GB _ _).length_eq];exact C
 induction m with
 | zero=>
  intro k O
  refine BN ?_
  show H9 A l (KA (Bq A l) k) (l++(Bq A l).take k)=_
  unfold H9
  obtain⟨next,E,F⟩:=Xo A l (l++(Bq A l).take k) C I (by simp) (by simp) (KA (Bq A l) k)
  have:=(Q6 LH w hA (RG w l) (λz B=>VU w BT l (by omega) B) F).2 (by omega)
  subst this
  rw[E,AD,rO (by decide),tf (by omega)]
 | succ m T=>
  intro k O
  have q:k<(Bq A l).length:=by omega
  obtain⟨next,E,F⟩:=Xo A l (l++(Bq A l).take k) C I (by simp) (by simp) (KA (Bq A l) k)
  obtain⟨j,U,rfl,J⟩:=(Q6 LH w hA (RG w l) (λz B=>VU w BT l (by omega) B) F).1 q
  rw[rU q] at J
  have V:A[j]=(Bq A l)[k]:=rx J
  rw[Bg (s':=(KA (Bq A l) (k+1),l++(Bq A l).take (k+1))) (by
   show H9 A l (KA (Bq A l) k) (l++(Bq A l).take k)=_
   unfold H9
   rw[E,AD,show nx (some j)=(j:Int) from rfl,rN (by simp),EG U,AD,I4 (by simp;omega),AD,V]
   show some (Sum.inl ((Bq A l)[k].Item,_))=some (Sum.inl ((Bq A l)[k]!.Item,_))
   rw[ri (Bq A l) k q,MW q,ri (Bq A l) k q,sg])]
  exact T (k+1) (by omega)
theorem Wv{l}{j attrs:List AE}(hp:LU l=some (j.map (wa attrs),attrs)){d}{M}(hF:Fo (j.map (wa attrs)) d M) :
  Iz l=some (BL (j.map (wa attrs)) (M+1) 0++Bq (j.map (wa attrs)) (BL (j.map (wa attrs)) (M+1) 0),((BL (j.map (wa attrs)) (M+1) 0).length:Int)):=by
 unfold Iz
 rw[hp,BW,gT hF,AD]
 have h:=fD hF.uq hF.id hF.len (BL (j.map (wa attrs)) (M+1) 0) (rh (My hF _ _) hF.len) _ 0 (by rw[sF])
 rw[List.take_zero,tN] at h
 have m:iter (λ(a:Int × (List AE))=>H9 (j.map (wa attrs)) (BL (j.map (wa attrs)) (M+1) 0) a.1 a.2) (0,BL (j.map (wa attrs)) (M+1) 0)=_:=h
 rw[m,Io]
end Go.Proofs.YtifgmfoihehlbaaGreatDoor.Al

set_option linter.unusedVariables false
set_option linter.unusedSimpArgs false
namespace Go.Proofs.YtifgmfoihehlbaaGreatDoor.Al
open Go.Sort
def E3:(Int→Bool)→List AE→Prop
 | _,[]=>True
 | S,z::r=>S z.Parent=true∧E3 (λi=>S i||(z.Item=i)) r
theorem E3.mono:∀ {l:List AE} {S T:Int→Bool},E3 S l→(∀i,S i=true→T i=true)→E3 T l
 | [],_,_,_,_=>trivial
 | z::r,S,T,h,j=>⟨j _ h.1,E3.mono h.2 λi m=>by
   simp only[re] at m ⊢
   exact m.imp (j i) _root_.id⟩
theorem ZV:∀ {l m:List AE} {S:Int→Bool},E3 S l→E3 (λi=>S i||Bn l i) m→E3 S (l++m)
 | [],m,S,_,q=>q.mono λi j=>by simpa[Bn] using j
 | z::r,m,S,w,q=>⟨w.1,ZV w.2 (q.mono λi j=>by
   simp only[Bn,tm,re,rT] at j ⊢
   rcases j with h | h | h
   ·exact .inl (.inl h)
   ·exact .inl (.inr h)
   ·exact .inr h)⟩
theorem gX{A} : ∀(n:Nat) (q:Int) (S:Int→Bool),S q=true→E3 S (BL A n q):=by
 intro n
 induction n with
 | zero=>intro q S _;trivial
 | succ n w=>
  intro q S j
  show E3 S ((A7 A q).flatMap λx=>x::BL A n x.Item)
  have l:∀x∈A7 A q,x.Parent=q:=λx B=>(HD.1 B).2
  revert l j
  generalize A7 A q=c
  induction c generalizing S with
  | nil=>intro _ _;trivial
  | cons x r m=>
   intro j l
   rw[ss]
   refine ZV ⟨by rw[l x (rn ..)];exact j,w _ _ (by simp)⟩ (m _ (by simp[j]) λy C=>l y (rj _ C))
theorem E3.at:∀ {l:List AE} {S:Int→Bool},E3 S l→∀k (j:k<l.length),(S l[k].Parent||Bn (l.take k) l[k].Parent)=true
 | z::r,S,h,0,_=>by rw[List.getElem_cons_zero,h.1];rfl
 | z::r,S,h,k+1,j=>by
  have:=E3.at h.2 k (by simpa using j)
  rw[List.getElem_cons_succ,List.take_succ_cons]
  simp only[Bn,tm,re,rT] at this ⊢
  rcases this with (h | h) | h
  ·exact .inl h
  ·exact .inr (.inl h)
  ·exact .inr (.inr h)
theorem lh{A}{d}{M}(h:Fo A d M):∀(n:Nat) (q:Int),M-d q<n→∀z∈A,(z.Parent=q∨Bn (BL A n q) z.Parent=true)→z∈BL A n q:=by
 intro n
 induction n with
 | zero=>intro q E;omega
 | succ n F=>
  intro q E z B hp
  unfold BL
  rw[vJ]
  rcases hp with hp | hp
  ·exact⟨z,HD.2 ⟨B,hp⟩,rn ..⟩
  ·unfold Bn BL at hp
   rw[sw] at hp
   obtain⟨y,I,m⟩:=hp
   obtain⟨x,C,j⟩:=vJ.1 I
   obtain⟨l,w⟩:=HD.1 C
   have hd:=h.rk x l
   rw[w] at hd
   have J:=h.top x l
   refine⟨x,C,rj _ (F x.Item (by omega) z B ?_)⟩
   rcases sB.1 j with rfl | j
   ·exact .inl (by simp at m;exact m.symm)
   ·refine .inr ?_
    unfold Bn
    rw[sw]
    exact⟨y,j,m⟩
theorem iq{A:List AE}{d:Int→Nat}{M:Nat}(h:Fo A d M):Ni (BL A (M+1) 0++Bq A (BL A (M+1) 0))=some ((BL A (M+1) 0).length:Int):=by
 have hlo:(Bq A (BL A (M+1) 0)).length≤1048576:=by
  unfold Bq
  refine rh (sn ..) ?_
  rw[(GB _ _).length_eq];exact h.len
 have hlp:=rh (My h (M+1) 0) h.len
 have hok:=gX (A:=A) (M+1) 0 (λi=>decide (i=0)) (by simp)
 have hout:∀z∈Bq A (BL A (M+1) 0),((z.Parent=0)||Bn (BL A (M+1) 0) z.Parent)=false:=λz hz=>by
  obtain⟨hzA,hzn⟩:=Jk.1 hz
  cases hb:((z.Parent=0)||Bn (BL A (M+1) 0) z.Parent)
  ·rfl
  ·have:=lh h (M+1) 0 (by omega) z hzA (by simpa using hb)
   have h2:Bn (BL A (M+1) 0) z.Item=true:=by
    unfold Bn;rw[sw];exact⟨z,this,by simp⟩
   rw[hzn] at h2;cases h2
 generalize BL A (M+1) 0=p at *
 generalize Bq A p=o at *
 have key:=Kf (f:=λ(a:Int × (List (Int × Bool)))=>JI (p++o) a.1 a.2) (p++o).length (λk s=>s.1=(k:Int)∧k≤p.length∧∀i,Db s.2 i=((i=0)||Bn (p.take k) i))
  (λb=>Az (some b) (λ(_:Unit)=>some ((p++o).length:Int))=some (p.length:Int))
  (λk s hk hs=>by
   obtain⟨x,m⟩:=s
   obtain⟨rfl,hkp,hsn⟩:=hs
   have hkl:k<(p++o).length:=hk
   have hlen:(p++o).length≤2097152:=by simp;omega
   have hstep:JI (p++o) (k:Int) m=if(!(((p++o)[k].Parent=0)||Bn (p.take k) (p++o)[k].Parent))=true then some (.inr (.ext (k:Int))) else some (.inl (((k+1:Nat):Int),An m (p++o)[k].Item true)):=by
    unfold JI
    rw[rO (by rw[rT];exact_mod_cast hkl),EG hkl,AD,show(AU m (p++o)[k].Parent).getD false=_ from hsn _,Ap (by omega),AD]
   by_cases hkp2:k<p.length
   ·left
    have hget:(p++o)[k]=p[k]:=List.getElem_append_left hkp2
    have h1:=hok.at k hkp2
    rw[hget] at hstep
    rw[h1] at hstep
    refine⟨(((k+1:Nat):Int),An m p[k].Item true),by exact hstep,rfl,by omega,λi=>?_⟩
    show Db (An m p[k].Item true) i=_
    rw[SQ,show Db m i=_ from hsn i,MW hkp2,ri p k hkp2,Xy]
    have:Bn [p[k]] i=decide (i=p[k].Item):=by
     unfold Bn;simp only[tm,List.any_nil,u6]
     rw[ts];exact⟨λe=>e.symm,λe=>e.symm⟩
    rw[this]
    cases decide (i=p[k].Item)<;>cases decide (i=0)<;>simp
   ·right
    obtain rfl:k=p.length:=by omega
    have hget:(p++o)[p.length]∈o:=by
     rw[List.getElem_append_right (rV _)];exact sG _
    have h1:=hout _ hget
    rw[vE,h1] at hstep
    exact⟨_,hstep,rfl⟩)
  (λs hs=>by
   obtain⟨x,m⟩:=s
   obtain⟨rfl,hkp,hsn⟩:=hs
   refine⟨.nrm (),?_,?_⟩
   ·show JI (p++o) ((p++o).length:Int) m=_
    unfold JI
    rw[rN (by simp)]
   ·rw[Jg]
    have:(p++o).length=p.length:=by rw[sI] at hkp ⊢;omega
    rw[this])
  (s:=(0,An ([]:List (Int × Bool)) 0 true)) ⟨rfl,s6 _,λi=>by rw[SQ];simp[Db,AU,Bn]⟩
 obtain⟨b,h1,h2⟩:=key
 unfold Ni
 rw[h1];exact h2
theorem ni{l:List Ax}(h:Rw l=0):∀x∈l,FQ x=0:=by
 intro x A
 obtain⟨k,w,rfl⟩:=sN.1 A
 unfold Rw at h
 cases q:(List.range l.length).findSome? (MG l) with
 | none=>
  rw[sh] at q
  have:=q k (sA.2 w)
  unfold MG at this
  rw[ri l k w] at this
  by_cases e:FQ l[k]=0
  ·exact e
  ·rw[rO e] at this;cases this
 | some r=>
  rw[q] at h
  simp only[sf] at h
  obtain⟨j,_,m⟩:=sP q
  unfold MG at m
  split at m
  ·rename_i e;cases m;exact absurd h e
  ·split at m
   ·cases m;exact absurd h (by decide)
   ·cases m
theorem gP{μ}(h:∀x,x.Place.length+x.Name.length+x.Value.length+1≤μ x):∀(l:List Ax),(l.map μ).sum≤1048576→JY l∧l.length≤1048576:=by
 have key:∀l:List Ax,l.length≤(l.map μ).sum∧∀x∈l,μ x≤(l.map μ).sum:=by
  intro l
  induction l with
  | nil=>exact⟨rV _,λx j=>by simp at j⟩
  | cons y l m=>
   have w:=h y
   rw[ru,su,sL]
   refine⟨by omega,λx j=>?_⟩
   rcases sB.1 j with rfl | j
   ·omega
   ·have:=m.2 x j;omega
 intro l A
 obtain⟨B,q⟩:=key l
 refine⟨λx j=>?_,by omega⟩
 have C:=q x j
 have E:=h x
 exact⟨by omega,by omega,by omega⟩
end Go.Proofs.YtifgmfoihehlbaaGreatDoor.Al

set_option linter.unusedVariables false
set_option linter.unusedSimpArgs false
namespace Go.Proofs.YtifgmfoihehlbaaGreatDoor.Al
def CX(f:List AL):List Int:=(f.filter λx=>!(x.Ref=0)).map (·.Ref)
def Eu(l:List Aj):List Int:=(l.filter λx=>!(x.Ref=0)).map (·.Ref)
theorem Qv(x:AL) r:CX (x::r)=(if x.Ref=0 then [] else [x.Ref])++CX r:=by
 unfold CX
 rw[tW]
 by_cases h:x.Ref=0<;>simp[h]
theorem Wj(x:Aj) r:Eu (x::r)=(if x.Ref=0 then [] else [x.Ref])++Eu r:=by
 unfold Eu
 rw[tW]
 by_cases h:x.Ref=0<;>simp[h]
theorem W8(f:List AL)(q:f.length≤1073741824):iter (λ(a:Int × (List Int))=>Fc f a.1 a.2) (0,[])=some (CX f):=by
 have h:=Eo (f:=λ(a:Int × (List Int))=>Fc f a.1 a.2) f (λ(c:List Int) i=>((i:Int),c)) (λr c=>c++CX r) (λi c=>c.length≤i)
  (λi c l m=>by
   left
   show ∃w,Fc f (i:Int) c=_∧_
   unfold Fc
   rw[rO (by simpa using l),Ae l,AD,Ap (by omega)]
   by_cases j:f[i]!.Ref=0
   ·refine⟨c,by rw[rR j];rfl,by omega,?_⟩
    rw[Qv,rO j,se]
   ·refine⟨c++[f[i]!.Ref],by rw[rQ j,rO (by decide),NM (by omega)];rfl,by simp;omega,?_⟩
    rw[Qv,rN j,sg])
  (λc m=>by
   show Fc f (f.length:Int) c=_
   unfold Fc
   rw[rN (by simp)]
   simp[CX]) [] (by simp) ((0:Int),[]) rfl
 simpa using h
theorem ge(f:List AL)(j:f.length≤1073741824):K0 f=some (CX f):=by
 unfold K0
 rw[W8 f j,AD]
theorem Vd(n:AI)(l:n.Flow.length≤1073741824)(hc:n.Grid.Cells.length≤1073741824):GM n=some (CX n.Flow++Eu n.Grid.Cells):=by
 have w:(CX n.Flow).length≤1073741824:=by
  unfold CX;rw[rt];exact rh (sn ..) l
 unfold GM Ke
 rw[ZR,W8 _ l,AD,AD]
 have h:=Eo (f:=λ(a:Int × (List Int))=>EB n a.1 a.2) n.Grid.Cells (λ(c:List Int) i=>((i:Int),c)) (λr c=>c++Eu r) (λi c=>c.length≤1073741824+i)
  (λi c m hc=>by
   left
   show ∃A,EB n (i:Int) c=_∧_
   unfold EB
   rw[rO (by simpa using m),Ae m,AD,Ap (by omega)]
   by_cases j:n.Grid.Cells[i]!.Ref=0
   ·refine⟨c,by rw[rR j];rfl,by omega,?_⟩
    rw[Wj,rO j,se]
   ·refine⟨c++[n.Grid.Cells[i]!.Ref],by rw[rQ j,rO (by decide),NM (by omega)];rfl,by simp;omega,?_⟩
    rw[Wj,rN j,sg])
  (λc hc=>by
   show EB n (n.Grid.Cells.length:Int) c=_
   unfold EB
   rw[rN (by simp)]
   simp[Eu]) (CX n.Flow) (by omega) ((0:Int),CX n.Flow) rfl
 have q:iter (λ(a:Int × (List Int))=>EB n a.1 a.2) (0,CX n.Flow)=_:=h
 rw[q]
 rfl
theorem TE{n:Nat}{f:Int→Option (Int ⊕ As Unit Int)}{g:Nat→Option Int}(h:iter f 0=some (DY ((List.range n).findSome? g)))(hg:∀k,k<n→g k≠some 0){rest:Option Int}(j:(Az (iter f 0) λ(_:Unit)=>rest)=some 0):(∀k,k<n→g k=none)∧rest=some 0:=by
 rw[h] at j
 cases l:(List.range n).findSome? g with
 | some e=>
  rw[l] at j
  have j:(some e:Option Int)=some 0:=j
  injection j with j
  obtain⟨k,q,m⟩:=sP l
  rw[j] at m
  exact absurd m (hg k (sA.1 q))
 | none=>
  rw[l] at j
  refine⟨λk q=>?_,j⟩
  rw[sh] at l
  exact l k (sA.2 q)
theorem aH{d:AP}{kind:Int}{l:List Int}(B:d.Nodes.length≤1048576)(C:HF d.Nodes)(J:l.length≤2097152)(A:Ej d kind l=some 0):∀id∈l,∃k,CQ d.Nodes id=some k:=by
 let g:Nat→Option Int:=λk=>match CQ d.Nodes l[k]! with | none=>some 7 | some j=>if KS kind d.Nodes[j]!.Kind=true then none else some 8
 have hit:iter (λ(a:Int)=>Ci d kind l a) 0=some (DY ((List.range l.length).findSome? g)):=by
  refine By g (λk m=>?_) (by unfold Ci;rw[rN (by simp)])
  unfold Ci
  obtain⟨i,E,w⟩:=MY d l[k]! B C
  rw[rO (by simpa using m),Ae m,AD,E,BW]
  simp only[g]
  cases q:CQ d.Nodes l[k]! with
  | none=>rfl
  | some j=>
   obtain rfl:=w j q
   obtain⟨F,_⟩:=FF q
   simp only[Option.isSome_some,tQ,tE,ti]
   rw[Ae F,AD,Rb,AD]
   cases KS kind d.Nodes[i]!.Kind with
   | false=>rfl
   | true=>rw[rN (by decide),Ap (by omega)];rfl
 unfold Ej at A
 obtain⟨I,_⟩:=TE hit (λk m e=>by
  simp only[g] at e
  split at e
  ·cases e
  ·split at e<;>cases e) A
 intro id BT
 obtain⟨k,m,rfl⟩:=sN.1 BT
 have:=I k m
 simp only[g] at this
 rw[ri l k m] at this
 cases q:CQ d.Nodes l[k] with
 | none=>rw[q] at this;cases this
 | some j=>exact⟨j,rfl⟩
theorem Tw(n:AI)(h:GO n):(CX n.Flow++Eu n.Grid.Cells).length≤2097152:=by
 have j:=h.ok.fl
 have l:=h.ok.gr.1
 have m:(CX n.Flow).length≤n.Flow.length:=by unfold CX;rw[rt];exact sn ..
 have q:(Eu n.Grid.Cells).length≤n.Grid.Cells.length:=by unfold Eu;rw[rt];exact sn ..
 rw[sI];omega
theorem bH{d:AP}(h:Is d)(w:D2 d=some 0):∀k,k<d.Nodes.length→∀id∈CX d.Nodes[k]!.Flow++Eu d.Nodes[k]!.Grid.Cells,∃j,CQ d.Nodes id=some j:=by
 obtain⟨I,_⟩:=N7 h w
 obtain⟨J,M⟩:=h
 unfold D2 at w
 split at w
 ·cases w
 let C:Nat→Option Int:=λk=>if(Ch d.Nodes[k]!).getD 0≠0 then some ((Ch d.Nodes[k]!).getD 0) else if(k=0∧d.Nodes[k]!.ID≠1)∨(0<k∧d.Nodes[k]!.ID≤d.Nodes[k-1]!.ID) then some 5 else none
 have E:iter (λ(a:Int)=>CJ d a) 0=some (DY ((List.range d.Nodes.length).findSome? C)):=by
  refine By C (λk q=>?_) (by unfold CJ;rw[rN (by simp)])
  unfold CJ
  obtain⟨e,A,_⟩:=SY _ (M _ (Bk q))
  show _=CI k (C k)
  simp only[C]
  rw[rO (by simpa using q),Ae q,AD,A,AD]
  show _=CI k (if e≠0 then some e else _)
  by_cases l:e=0
  ·rw[rN (DZ l),rN (by simpa using l)]
   by_cases T:k=0
   ·subst T
    rw[rR (show((0:Nat):Int)=0 from rfl),rQ (show ¬ (0:Int)<((0:Nat):Int) by omega)]
    by_cases BT:d.Nodes[0]!.ID=1
    ·rw[rR BT,rN (show ¬ ((0=0∧d.Nodes[0]!.ID≠1)∨(0<0∧d.Nodes[0]!.ID≤d.Nodes[0-1]!.ID)) by rintro(⟨_,b⟩ | ⟨a,_⟩);exact b BT;omega)]
     rfl
    ·rw[rQ BT,rO (show((0=0∧d.Nodes[0]!.ID≠1)∨(0<0∧d.Nodes[0]!.ID≤d.Nodes[0-1]!.ID)) from .inl ⟨rfl,BT⟩)]
     rfl
   ·have U:0<k:=by omega
    rw[rQ (show ¬ ((k:Int)=0) by omega),rR (show(0:Int)<(k:Int) by omega)]
    show(AB (gd true (AS .i64 ((k:Int)-1))) λ(O:Int)=>AB (gd true (AM d.Nodes O)) λ(V:AI)=>_)=_
    rw[Ak,FC U (by omega),AD,Ak,Ae (show k-1<d.Nodes.length by omega),AD,Ap (by omega)]
    by_cases BT:d.Nodes[k]!.ID≤d.Nodes[k-1]!.ID
    ·rw[rR BT,rO (show((k=0∧d.Nodes[k]!.ID≠1)∨(0<k∧d.Nodes[k]!.ID≤d.Nodes[k-1]!.ID)) from .inr ⟨U,BT⟩)]
     rfl
    ·rw[rQ BT,rN (show ¬ ((k=0∧d.Nodes[k]!.ID≠1)∨(0<k∧d.Nodes[k]!.ID≤d.Nodes[k-1]!.ID)) by rintro(⟨a,_⟩ | ⟨_,b⟩);exact T a;exact BT b)]
     rfl
  ·rw[rO (CY l),rO l]
   rfl
 obtain⟨_,w⟩:=TE E (λk q e=>by
  simp only[C] at e
  split at e
  ·rename_i B;injection e with e;exact B e
  ·split at e
   ·injection e with e;omega
   ·cases e) w
 let g:Nat→Option Int:=λk=>if(Ej d d.Nodes[k]!.Kind (CX d.Nodes[k]!.Flow++Eu d.Nodes[k]!.Grid.Cells)).getD 0≠0 then some ((Ej d d.Nodes[k]!.Kind (CX d.Nodes[k]!.Flow++Eu d.Nodes[k]!.Grid.Cells)).getD 0) else none
 have hit:iter (λ(a:Int)=>Cc d a) 0=some (DY ((List.range d.Nodes.length).findSome? g)):=by
  refine By g (λk q=>?_) (by unfold Cc;rw[rN (by simp)])
  unfold Cc
  have m:=M _ (Bk q)
  have X:=m.ok.fl
  have Z:=m.ok.gr.1
  obtain⟨e,A,_⟩:=Um d d.Nodes[k]!.Kind _ J I (Tw _ m)
  rw[rO (by simpa using q),Ae q,AD,Vd _ (by omega) (by omega),AD,A,AD]
  simp only[g]
  rw[A]
  simp only[sf]
  by_cases l:e=0
  ·rw[rN (DZ l),Ap (by omega),rN (by simpa using l)];rfl
  ·rw[rO (CY l),rO l];rfl
 obtain⟨h1,_⟩:=TE hit (λk q e=>by
  simp only[g] at e
  split at e
  ·rename_i B;injection e with e;exact B e
  ·cases e) w
 intro k q id BT
 have m:=M _ (Bk q)
 obtain⟨e,A,_⟩:=Um d d.Nodes[k]!.Kind _ J I (Tw _ m)
 have F:=h1 k q
 simp only[g] at F
 rw[A] at F
 simp only[sf] at F
 split at F
 ·cases F
 ·rename_i l
  have l:e=0:=by simpa using l
  subst l
  exact aH J I (Tw _ m) A id BT
end Go.Proofs.YtifgmfoihehlbaaGreatDoor.Al

set_option linter.unusedVariables false
set_option linter.unusedSimpArgs false
namespace Go.Proofs.YtifgmfoihehlbaaGreatDoor.Al
open Go.Sort
end Go.Proofs.YtifgmfoihehlbaaGreatDoor.Al

set_option linter.unusedVariables false
set_option linter.unusedSimpArgs false
namespace Go.Proofs.YtifgmfoihehlbaaGreatDoor.Al
open Go.Sort
end Go.Proofs.YtifgmfoihehlbaaGreatDoor.Al

set_option linter.unusedVariables false
set_option linter.unusedSimpArgs false
namespace Go.Proofs.YtifgmfoihehlbaaGreatDoor.Al
open Go.Sort
end Go.Proofs.YtifgmfoihehlbaaGreatDoor.Al

set_option linter.unusedVariables false
set_option linter.unusedSimpArgs false
namespace Go.Proofs.YtifgmfoihehlbaaGreatDoor.Al
open Go.Sort
end Go.Proofs.YtifgmfoihehlbaaGreatDoor.Al

set_option linter.unusedVariables false
set_option linter.unusedSimpArgs false
namespace Go.Proofs.YtifgmfoihehlbaaGreatDoor.Al
open Go.Sort
end Go.Proofs.YtifgmfoihehlbaaGreatDoor.Al

set_option linter.unusedVariables false
set_option linter.unusedSimpArgs false
namespace Go.Proofs.YtifgmfoihehlbaaGreatDoor.Al
open Go.Sort
end Go.Proofs.YtifgmfoihehlbaaGreatDoor.Al

set_option linter.unusedVariables false
set_option linter.unusedSimpArgs false
namespace Go.Proofs.YtifgmfoihehlbaaGreatDoor.Al
open Go.Sort
end Go.Proofs.YtifgmfoihehlbaaGreatDoor.Al

set_option linter.unusedVariables false
set_option linter.unusedSimpArgs false
namespace Go.Proofs.YtifgmfoihehlbaaGreatDoor.Al
open Go.Sort
end Go.Proofs.YtifgmfoihehlbaaGreatDoor.Al

set_option linter.unusedVariables false
set_option linter.unusedSimpArgs false
namespace Go.Proofs.YtifgmfoihehlbaaGreatDoor.Al
open Go.Sort
end Go.Proofs.YtifgmfoihehlbaaGreatDoor.Al

set_option linter.unusedVariables false
set_option linter.unusedSimpArgs false
namespace Go.Proofs.YtifgmfoihehlbaaGreatDoor.Al
open Go.Sort
end Go.Proofs.YtifgmfoihehlbaaGreatDoor.Al

set_option linter.unusedVariables false
set_option linter.unusedSimpArgs false
namespace Go.Proofs.YtifgmfoihehlbaaGreatDoor.Al
open Go.Sort
end Go.Proofs.YtifgmfoihehlbaaGreatDoor.Al

set_option linter.unusedVariables false
set_option linter.unusedSimpArgs false
namespace Go.Proofs.YtifgmfoihehlbaaGreatDoor.Al
open Go.Sort
end Go.Proofs.YtifgmfoihehlbaaGreatDoor.Al

set_option linter.unusedVariables false
set_option linter.unusedSimpArgs false
namespace Go.Proofs.YtifgmfoihehlbaaGreatDoor.Al
open Go.Sort
end Go.Proofs.YtifgmfoihehlbaaGreatDoor.Al

namespace Go.Proofs.YtifgmfoihehlbaaGreatDoor.Al
end Go.Proofs.YtifgmfoihehlbaaGreatDoor.Al

set_option linter.unusedVariables false
set_option linter.unusedSimpArgs false
namespace Go.Proofs.YtifgmfoihehlbaaGreatDoor.Al
open Go.Sort
end Go.Proofs.YtifgmfoihehlbaaGreatDoor.Al

set_option linter.unusedVariables false
set_option linter.unusedSimpArgs false
namespace Go.Proofs.YtifgmfoihehlbaaGreatDoor.Al
open Go.Sort
end Go.Proofs.YtifgmfoihehlbaaGreatDoor.Al

set_option linter.unusedVariables false
set_option linter.unusedSimpArgs false
namespace Go.Proofs.YtifgmfoihehlbaaGreatDoor.Al
open Go.Sort
end Go.Proofs.YtifgmfoihehlbaaGreatDoor.Al

set_option linter.unusedVariables false
set_option linter.unusedSimpArgs false
namespace Go.Proofs.YtifgmfoihehlbaaGreatDoor.Al
open Go.Sort
end Go.Proofs.YtifgmfoihehlbaaGreatDoor.Al

set_option linter.unusedVariables false
set_option linter.unusedSimpArgs false
namespace Go.Proofs.YtifgmfoihehlbaaGreatDoor.Al
open Go.Sort
end Go.Proofs.YtifgmfoihehlbaaGreatDoor.Al

set_option linter.unusedVariables false
set_option linter.unusedSimpArgs false
namespace Go.Proofs.YtifgmfoihehlbaaGreatDoor.Al
open Go.Sort
theorem YY{l}{i} : Bn l i=true↔∃x∈l,x.Item=i:=by
 unfold Bn
 rw[sw]
 simp
end Go.Proofs.YtifgmfoihehlbaaGreatDoor.Al

set_option linter.unusedVariables false
set_option linter.unusedSimpArgs false
namespace Go.Proofs.YtifgmfoihehlbaaGreatDoor.Al
open Go.Sort
end Go.Proofs.YtifgmfoihehlbaaGreatDoor.Al

set_option linter.unusedVariables false
set_option linter.unusedSimpArgs false
namespace Go.Proofs.YtifgmfoihehlbaaGreatDoor.Al
open Go.Sort
theorem d8{A}{d}{M}(h:Fo A d M):(∀z,z∈BL A (M+1) 0++Bq A (BL A (M+1) 0)↔z∈A)∧Uq (BL A (M+1) 0++Bq A (BL A (M+1) 0)):=by
 have q:∀z,z∈BL A (M+1) 0++Bq A (BL A (M+1) 0)→z∈A:=λz j=>by
  rcases sk.1 j with j | j
  ·exact(ME _ _ _ j).1
  ·exact(Jk.1 j).1
 refine⟨λz=>⟨q z,λj=>?_⟩,?_⟩
 ·rw[sk,Jk]
  by_cases l:Bn (BL A (M+1) 0) z.Item=true
  ·obtain⟨y,m,e⟩:=YY.1 l
   left
   rw[← h.uq.eq (ME _ _ _ m).1 j e];exact m
  ·exact .inr ⟨j,by simpa using l⟩
 ·unfold Uq
  rw[tl,tq,ut]
  refine⟨W2 h.uq h.rk _ _,(RG h.uq _).imp λh=>by unfold E6 at h;simp at h;omega,λa w b B e=>?_⟩
  have:=(Jk.1 B).2
  have C:Bn (BL A (M+1) 0) b.Item=true:=YY.2 ⟨a,w,e⟩
  rw[C] at this;cases this
theorem XP{A:List AE}{d}{M}(h:Fo A d M):(BL A (M+1) 0++Bq A (BL A (M+1) 0)).length≤A.length:=by
 obtain⟨l,j⟩:=d8 h
 refine Xs _ _ ?_ λz m=>(l z).1 m
 unfold Uq at j
 rwa [tl,tq] at j
end Go.Proofs.YtifgmfoihehlbaaGreatDoor.Al

set_option linter.unusedVariables false
set_option linter.unusedSimpArgs false
namespace Go.Proofs.YtifgmfoihehlbaaGreatDoor.Al
theorem Nd{c r}(h:gd c (some false)=some r):r=false:=by
 cases c
 ·rw[Bp] at h;cases h;rfl
 ·rw[Ak] at h;cases h;rfl
theorem ox{n:AI}(h:GO n)(M:JY n.Draw)(j:Ch n=some 0):Rw n.Draw=0:=by
 have O:=h.ok.dr
 unfold Ch at j
 split at j
 ·cases j
 split at j
 ·cases j
 obtain⟨e,_,j⟩:=Bl j
 split at j
 ·rename_i c;injection j with j;rw[j] at c;simp at c
 by_cases m:n.Kind=8∨n.Kind=9∨n.Kind=10
 ·have T:Fp n.Kind=some false:=by unfold Fp;rcases m with e | e | e<;>rw[e]<;>rfl
  have U:F6 n.Kind=some false:=by unfold F6;rcases m with e | e | e<;>rw[e]<;>rfl
  have hg:FD n.Kind=some false:=by unfold FD;rcases m with e | e | e<;>rw[e]<;>rfl
  obtain⟨V,A,j⟩:=Bl j
  rw[T] at A;cases A
  obtain⟨X,B,j⟩:=Bl j
  rw[U] at B
  obtain rfl:=Nd B
  obtain⟨g,C,j⟩:=Bl j
  rw[hg] at C;cases C
  obtain⟨F,_,j⟩:=Bl j
  split at j
  ·cases j
  rw[rN (show ¬ (false||false)=true by decide),rN (by decide)] at j
  obtain⟨Z,I,j⟩:=Bl j
  injection j with j
  rw[XN _ M (by omega),j] at I
  injection I
 ·have hd:F1 n.Kind=some false:=by
   unfold F1
   rw[rQ (λe=>m (.inl e)),rQ (λe=>m (.inr (.inl e))),rQ (λe=>m (.inr (.inr e)))]
   rfl
  obtain⟨V,A,j⟩:=Bl j
  obtain⟨X,B,j⟩:=Bl j
  obtain⟨g,C,j⟩:=Bl j
  obtain⟨F,l,j⟩:=Bl j
  rw[hd] at l
  split at j
  ·cases j
  rename_i E
  have E:F=false:=by simpa using E
  subst E
  have q:decide (0<(n.Draw.length:Int))=false:=by
   split at l
   ·split at l
    ·obtain⟨r7,_,l⟩:=Bl l
     obtain⟨J,w,l⟩:=Bl l
     obtain rfl:=Nd w
     simp only[rY,tI,tJ,sE] at l
     exact l.2
    ·obtain⟨J,w,l⟩:=Bl l
     obtain rfl:=Nd w
     simp only[rY,tI,tJ,sE] at l
     exact l.2
   ·obtain⟨J,w,l⟩:=Bl l
    obtain rfl:=Nd w
    simp only[rY,tI,tJ,sE] at l
    exact l.2
  have:n.Draw=[]:=by
   rw[sd] at q
   exact tF.1 (by omega)
  rw[this];rfl
theorem cP{n:AI}(h:GO n)(j:Ch n=some 0):n.Grid.Cells=[]∨HY n.Grid=0:=by
 unfold Ch at j
 split at j
 ·cases j
 split at j
 ·cases j
 obtain⟨e,_,j⟩:=Bl j
 split at j
 ·rename_i c;injection j with j;rw[j] at c;simp at c
 by_cases m:n.Kind=2∨n.Kind=6
 ·right
  have F:Fp n.Kind=some false:=by unfold Fp;rcases m with e | e<;>rw[e]<;>rfl
  have I:F6 n.Kind=some false:=by unfold F6;rcases m with e | e<;>rw[e]<;>rfl
  have hg:FD n.Kind=some true:=by unfold FD;rcases m with e | e<;>rw[e]<;>rfl
  obtain⟨J,w,j⟩:=Bl j
  rw[F] at w;cases w
  obtain⟨M,A,j⟩:=Bl j
  rw[I] at A
  obtain rfl:=Nd A
  obtain⟨g,q,j⟩:=Bl j
  rw[hg] at q;cases q
  obtain⟨C,_,j⟩:=Bl j
  split at j
  ·cases j
  rw[rN (show ¬ (false||false)=true by decide),rO rfl] at j
  obtain⟨O,E,j⟩:=Bl j
  split at j
  ·rename_i c;injection j with j;rw[j] at c;simp at c
  ·rename_i c
   have T:O=0:=by simpa using c
   rw[Wm _ h.gd,T] at E
   injection E
 ·left
  have hg:FD n.Kind=some false:=by
   unfold FD
   rw[rQ (λe=>m (.inl e)),rQ (λe=>m (.inr e))]
   rfl
  obtain⟨J,w,j⟩:=Bl j
  obtain⟨M,A,j⟩:=Bl j
  obtain⟨g,q,j⟩:=Bl j
  rw[hg] at q;cases q
  obtain⟨C,l,j⟩:=Bl j
  split at j
  ·cases j
  rename_i B
  have B:C=false:=by simpa using B
  subst B
  split at l
  ·rw[rO (by decide),SK _ _ h.ok.gr] at l
   obtain⟨r7,U,l⟩:=Bl l
   obtain⟨V,X,l⟩:=Bl l
   cases U
   simp only[rY,tI,tJ,sE,Bool.not_eq_false',rT] at l
   rw[l.1.2]
  ·rename_i Z
   obtain⟨V,X,l⟩:=Bl l
   simp only[rY,tI,u6] at l
   exfalso
   apply Z
   rw[l.1]
   rfl
theorem jJ{g:Ar}(h:HY g=0):∀c∈g.Cells,c.Row≤9223372036854775807∧c.Col≤9223372036854775807:=by
 obtain⟨A,_,_⟩:=XT h
 unfold HY at h
 rw[rN (by simpa using A)] at h
 have E:I1 g.Rows g.Cols false g.Cells=0:=by
  apply rp
  intro B
  rw[rO B] at h
  exact B h
 intro c F
 obtain⟨k,C,rfl⟩:=sN.1 F
 have m:=Ua E (λk _ j=>by
  unfold Ie at j
  split at j
  ·rename_i q
   injection j with j
   exact q j
  ·split at j
   ·cases j
   ·cases j) k C
 unfold Ie at m
 split at m
 ·cases m
 ·rename_i l
  have l:Mo g.Rows g.Cols false g.Cells[k]! = 0:=by simpa using l
  rw[ri g.Cells k C] at l
  unfold Mo at l
  split at l
  ·cases l
  ·rename_i w
   have w:=sC.1 w
   unfold Ha at w
   unfold E4 at A
   omega
theorem Ue{n:AI}(h:GO n)(q:Ch n=some 0):∀c∈n.Grid.Cells,∃r,He n.Grid c.Row c.Col=some r∧OG n.Grid c.Row c.Col=some r:=by
 intro c l
 rcases cP h q with j | j
 ·rw[j] at l;cases l
 ·obtain⟨w,_,g3⟩:=XT j
  have m:c.Row≤9223372036854775807∧c.Col≤9223372036854775807:=jJ j c l
  obtain⟨o,A,o2⟩:=pz n.Grid c.Row c.Col w g3 h.ok.gr.2.1 m.1 m.2
  unfold He OG
  rw[A,o2]
  cases o with
  | none=>exact⟨_,rfl,rfl⟩
  | some r=>exact⟨_,rfl,rfl⟩
end Go.Proofs.YtifgmfoihehlbaaGreatDoor.Al

set_option linter.unusedVariables false
set_option linter.unusedSimpArgs false
namespace Go.Proofs.YtifgmfoihehlbaaGreatDoor.Al
open Go
def IX:List UInt8:=[110,111,100,101]
def JP(d:AP)(s:List UInt8):Option Int:=match CQ d.Nodes (EO s) with | some k=>if d.Nodes[k]!.Kind=1 then some (EO s) else none | none=>none
def EP(d:AP)(x:AE):Option Int:=JP d (BF x.Attrs IX)
def O9(d:AP):Prop:=∀k,k<d.Nodes.length→1≤d.Nodes[k]!.ID∧d.Nodes[k]!.ID≤1073741824
theorem Q7{d:AP}(h:O9 d){id}{k}(j:CQ d.Nodes id=some k):1≤id∧id≤1073741824:=by
 obtain⟨l,m⟩:=FF j
 rw[← m];exact h k l
theorem pY{l}(h:BE l false=0) n:(BF l n).length≤1073741824:=by
 rw[kb]
 cases m:Ao l n with
 | none=>simp
 | some x=>
  have:=((O2 l false).1 h).2 x (LC m).2
  rcases this.2 with j | j
  ·unfold DP at j
   simp only[rZ,rT] at j
   show x.Value.length≤_
   omega
  ·exact absurd j.1 (by decide)
theorem pF{d:AP}(BT:O9 d)(hm:d.Nodes.length≤1048576)(hs:HF d.Nodes){l:List AE}{k:Nat}(hk:k<l.length)(hl:l.length≤1048576)(ha:BE l[k]!.Attrs false=0∧l[k]!.Attrs.length≤1048576)(out:List Int)(ho:out.length≤1048576) :
  IL d l (k:Int) out=some (.inl (((k+1:Nat):Int),out++(EP d l[k]!).toList)):=by
 unfold IL
 rw[rO (by simpa using hk),Ae hk,AD,Ap (by omega),JU _ _ (by omega),AD]
 unfold EP
 rw[show([110,111,100,101]:List UInt8)=IX from rfl]
 have hlen:=pY ha.1 IX
 generalize BF l[k]!.Attrs IX=s at *
 have hd:∀n,EO s=n→∀j,CQ d.Nodes n=some j→Lib.atoiAll s=.ok n∧Lib.itoa n=s:=λn hn j hj=>by
  obtain⟨h1,h2⟩:=Q7 BT hj
  exact(Y2 s n h1 h2).2 hn
 have hnone:(∀j,CQ d.Nodes (EO s)=some j→False)→JP d s=none:=λh=>by
  unfold JP
  cases hf:CQ d.Nodes (EO s) with
  | none=>rfl
  | some j=>exact(h j hf).elim
 unfold Rl atoiS
 rw[rO (by omega)]
 rcases hA:Lib.atoiAll s with v | _ | _
 ·have hb:=Lib.atoiAll_bounds hA
  simp only[BW]
  unfold strconv_Itoa itoaS
  rw[rO hb]
  simp only[tQ,show((false==false)=true) from rfl,Ak,AD,sb]
  by_cases hi:Lib.itoa v=s
  ·rw[rR hi,rN (by decide)]
   obtain⟨i,f1,f2⟩:=MY d v hm hs
   rw[f1,BW]
   cases hf:CQ d.Nodes v with
   | none=>
    have e:=hnone λj hj=>by
     have h1:=(hd _ rfl j hj).1
     rw[hA] at h1
     injection h1 with h1
     rw[← h1,hf] at hj;cases hj
    rw[e]
    simp[Bp,AD]
   | some j=>
    obtain rfl:=f2 j hf
    obtain⟨hj,_⟩:=FF hf
    obtain⟨r1,r2⟩:=Q7 BT hf
    have hn:=(Y2 s v r1 r2).1 ⟨hA,hi⟩
    unfold JP
    rw[hn,hf]
    simp only[Option.isSome_some,sc,Ak,sE]
    rw[Ae hj,AD]
    by_cases hk1:d.Nodes[i]!.Kind=1
    ·rw[rO (by simpa using hk1),rO hk1,NM (by omega)]
     rfl
    ·rw[rN (by simpa using hk1),rN hk1]
     simp[AD]
  ·rw[rQ hi,rO (by decide)]
   have e:=hnone λj hj=>by
    obtain⟨h1,h2⟩:=hd _ rfl j hj
    rw[hA] at h1
    injection h1 with h1
    rw[← h1] at h2
    exact hi h2
   rw[e]
   simp[AD]
 ·have e:=hnone λj hj=>by have:=(hd _ rfl j hj).1;rw[hA] at this;cases this
  rw[e]
  simp[BW,AD,Bp]
 ·have e:=hnone λj hj=>by have:=(hd _ rfl j hj).1;rw[hA] at this;cases this
  rw[e]
  simp[BW,AD,Bp]
theorem dk{d:AP}(BT:O9 d)(m:d.Nodes.length≤1048576)(q:HF d.Nodes)(l:List AE)(w:l.length≤1048576)(A:∀x∈l,BE x.Attrs false=0∧x.Attrs.length≤1048576) :
  iter (λ(a:Int × (List Int))=>IL d l a.1 a.2) (0,[])=some (l.filterMap (EP d)):=by
 have h:=Eo (f:=λ(a:Int × (List Int))=>IL d l a.1 a.2) l (λ(c:List Int) i=>((i:Int),c)) (λr c=>c++r.filterMap (EP d)) (λi c=>c.length≤i)
  (λi c j B=>by
   left
   refine⟨c++(EP d l[i]!).toList,pF BT m q j w (A _ (Bk j)) c (by omega),?_,?_⟩
   ·rw[sI]
    have:(EP d l[i]!).toList.length≤1:=by cases EP d l[i]!<;>simp
    omega
   ·rw[tu]
    cases EP d l[i]!<;>simp)
  (λc B=>by
   show IL d l (l.length:Int) c=_
   unfold IL
   rw[rN (by simp)]
   simp) [] (by simp) ((0:Int),[]) rfl
 simpa using h
theorem Qe{d:AP}(BT:O9 d)(V:d.Nodes.length≤1048576)(Z:HF d.Nodes){n:AI}(h:GO n)(hD:JY n.Draw)(h0:Ch n=some 0) :
  ∃L X:List AE,GF d n=some (L.filterMap (EP d))∧Iz n.Draw=some (L++X,(L.length:Int))∧(L++X).length≤1048576∧∀x∈L,BE x.Attrs false=0∧x.Attrs.length≤1048576:=by
 have A:=h.ok.dr
 have ho:=ni (ox h hD h0)
 obtain⟨m,l,E,F,I⟩:=We A ho
 obtain⟨e,M,B⟩:=E.fo A
 have C:=gF A E F B
 have J:=iq B
 have hit:=Wv I B
 have a0:=rh (My B (M+1) 0) B.len
 have q:∀x∈BL (m.map (wa l)) (M+1) 0,BE x.Attrs false=0∧x.Attrs.length≤1048576:=λx hx=>by
  obtain⟨y,hy,rfl⟩:=sK.1 (ME _ _ _ hx).1
  have h1:(wa l y).Attrs=(AU (DA l) y.Item).getD []:=rfl
  rw[h1]
  cases T:Ah (DA l) y.Item with
  | none=>rw[(Ew T).1];exact⟨Sc,by simp⟩
  | some j=>
   obtain⟨v,v1,v2,_⟩:=Df T
   rw[v2,sf]
   unfold DA at v1
   rw[rc,rg] at v1
   obtain⟨z,z1,U⟩:=v1
   simp only[rf] at U
   rw[← U.2]
   have:=E.ok z (rq z1)
   exact⟨this.1,by omega⟩
 have w:(BL (m.map (wa l)) (M+1) 0++Bq (m.map (wa l)) (BL (m.map (wa l)) (M+1) 0)).length≤1048576:=by
  refine rh (XP B) ?_
  exact B.len
 generalize BL (m.map (wa l)) (M+1) 0=L at *
 generalize Bq (m.map (wa l)) L=X at *
 refine⟨L,X,?_,hit,w,q⟩
 unfold GF
 rw[C,AD,J,AD]
 have O:CB (L++X) 0 (L.length:Int)=some L:=by
  unfold CB
  rw[rO ⟨by omega,by omega,by simp;omega⟩]
  simp
 rw[O,AD,dk BT V Z L (by simp at w;omega) q,AD]
end Go.Proofs.YtifgmfoihehlbaaGreatDoor.Al

set_option linter.unusedVariables false
set_option linter.unusedSimpArgs false
namespace Go.Proofs.YtifgmfoihehlbaaGreatDoor.Al
open Go
def Bi(d:AP)(id:Int):AI:=match CQ d.Nodes id with | some k=>d.Nodes[k]! | none=>default
noncomputable def HR(v:Aw)(g:Ar)(c:Aj):Aw:=
 match He g c.Row c.Col with
 | some r=>⟨c.Ref,v.id,((v.visible&&(r.Row=c.Row))&&(r.Col=c.Col))⟩
 | none=>default
noncomputable def MX(v:Aw)(n:AI):List Aw:=(CX n.Flow).map λid=>⟨id,v.id,v.visible⟩
noncomputable def LG(v:Aw)(n:AI):List Aw:=(n.Grid.Cells.filter λc=>!(c.Ref=0)).map (HR v n.Grid)
noncomputable def GQ(d:AP)(n:AI):List Int:=(GF d n).getD []
noncomputable def HK(d:AP)(v:Aw)(n:AI):List Aw:=(GQ d n).map λid=>⟨id,v.id,v.visible⟩
noncomputable def kids(d:AP)(v:Aw)(n:AI):List Aw:=MX v n++(LG v n++HK d v n)
def CM(l:List Aw)(i:Int):Bool:=l.any λv=>decide (v.id=i)
noncomputable def CL(d:AP):Nat→List Aw→Aw→List Aw
 | 0,j,_=>j
 | n+1,j,v=>if CM j v.id=true then j else(kids d v (Bi d v.id)).foldl (λa w=>CL d n a w) (j++[v])
def DT(d:AP)(i:Int):Prop:=∃k,CQ d.Nodes i=some k
structure B4(d:AP):Prop where
 ok:Is d
 dr:∀n∈d.Nodes,JY n.Draw
 ch:D2 d=some 0
theorem ou{n:AI}(j:Ch n=some 0):1≤n.ID∧n.ID≤1073741824:=by
 unfold Ch at j
 split at j
 ·cases j
 ·rename_i c
  simp only[re,rT] at c
  omega
theorem B4.ids{d}(h:B4 d):O9 d:=λk j=>ou ((N7 h.ok h.ch).2 k j)
theorem B4.srt{d:AP}(h:B4 d):HF d.Nodes:=(N7 h.ok h.ch).1
theorem QP{d:AP}{i}{k}(h:CQ d.Nodes i=some k):Bi d i=d.Nodes[k]!:=by unfold Bi;rw[h]
theorem B4.node{d:AP}(h:B4 d){i}(w:DT d i):GO (Bi d i)∧JY (Bi d i).Draw∧Ch (Bi d i)=some 0∧(∀j∈CX (Bi d i).Flow++Eu (Bi d i).Grid.Cells,DT d j) ∧
  FX d i=some ((((CQ d.Nodes i).getD 0:Nat):Int),true)∧AM d.Nodes (((CQ d.Nodes i).getD 0:Nat):Int)=some (Bi d i):=by
 obtain⟨k,l⟩:=w
 obtain⟨m,C⟩:=FF l
 rw[QP l]
 have q:=Bk m
 obtain⟨j,A,B⟩:=MY d i h.ok.1 h.srt
 obtain rfl:=B k l
 refine⟨h.ok.2 _ q,h.dr _ q,(N7 h.ok h.ch).2 _ m,bH h.ok h.ch _ m,?_,?_⟩
 ·rw[A,l];rfl
 ·rw[l];exact Ae m
theorem Ts{d:AP}(h:B4 d){v:Aw}(J:DT d v.id):∀w∈kids d v (Bi d v.id),DT d w.id:=by
 obtain⟨C,M,E,F,_,_⟩:=h.node J
 intro w l
 unfold kids at l
 rcases sk.1 l with l | l
 ·unfold MX at l
  obtain⟨j,q,rfl⟩:=sK.1 l
  exact F j (ta _ q)
 ·rcases sk.1 l with l | l
  ·unfold LG at l
   obtain⟨c,I,rfl⟩:=sK.1 l
   have A:=(tS.1 I).1
   obtain⟨r,O,_⟩:=Ue C E c A
   unfold HR
   rw[O]
   refine F c.Ref (tg _ ?_)
   unfold Eu
   exact sK.2 ⟨c,I,rfl⟩
  ·unfold HK GQ at l
   obtain⟨L,X,T,_⟩:=Qe h.ids h.ok.1 h.srt C M E
   rw[T] at l
   obtain⟨j,q,rfl⟩:=sK.1 l
   obtain⟨x,_,m⟩:=List.mem_filterMap.1 q
   unfold EP JP at m
   cases B:CQ d.Nodes (EO (BF x.Attrs IX)) with
   | none=>rw[B] at m;cases m
   | some k=>
    rw[B] at m
    simp only at m
    split at m
    ·cases m;exact⟨k,B⟩
    ·cases m
def D8(d:AP)(j:List Aw):Nat:=d.Nodes.countP λn=>!CM j n.ID
theorem SZ a b i:CM (a++b) i=(CM a i||CM b i):=by unfold CM;rw[List.any_append]
theorem YO d a b:D8 d (a++b)≤D8 d a:=
 uk λn _ h=>by
  rw[SZ] at h
  cases j:CM a n.ID
  ·rfl
  ·rw[j] at h;simp at h
theorem WP{d:AP}{a}{v:Aw}(B:DT d v.id)(C:CM a v.id=false):D8 d (a++[v])<D8 d a:=by
 obtain⟨k,E⟩:=B
 obtain⟨w,j⟩:=FF E
 have key:∀(l:List AI) (z:AI) (p q:AI→Bool),(∀x∈l,p x=true→q x=true)→z∈l→q z=true→p z=false→l.countP p<l.countP q:=by
  intro l
  induction l with
  | nil=>intro z p q _ m;cases m
  | cons a r F=>
   intro z p q h m w j
   have M:r.countP p≤r.countP q:=uk λx A=>h x (rj _ A)
   rw[ug,ug]
   rcases sB.1 m with rfl | m
   ·rw[w,j];simp;omega
   ·have:=F z p q (λx A=>h x (rj _ A)) m w j
    have I:=h a (rn ..)
    cases hp:p a
    ·simp;split<;>omega
    ·rw[I hp];simp;omega
 refine key d.Nodes d.Nodes[k]! _ _ (λx _ h=>?_) (Bk w) ?_ ?_
 ·rw[SZ] at h
  cases J:CM a x.ID
  ·rfl
  ·rw[J] at h;simp at h
 ·simp only[j,C];rfl
 ·simp only[j,SZ]
  simp[CM]
section
variable{σ:Type}(Y:σ→Aw→Option (Bool × σ))
def Du:List Aw→σ→Option (Bool × σ)
 | [],s=>some (true,s)
 | v::r,s=>match Y s v with
  | none=>none
  | some (false,j)=>some (false,j)
  | some (true,j)=>Du r j
theorem jT a b(s:σ):Du Y (a++b) s=match Du Y a s with
  | none=>none
  | some (false,j)=>some (false,j)
  | some (true,j)=>Du Y b j:=by
 induction a generalizing s with
 | nil=>rfl
 | cons v r m=>
  rw[sv]
  cases l:Y s v with
  | none=>simp only[Du,l]
  | some p=>
   obtain⟨c,j⟩:=p
   cases c
   ·simp only[Du,l]
   ·simp only[Du,l]
    exact m j
abbrev Kq(σ:Type):=List (Int × Bool)→σ→Aw→Option (Bool × List (Int × Bool) × σ)
def EJ(self:Kq σ):List Aw→List (Int × Bool)→σ→Option (Bool × List (Int × Bool) × σ)
 | [],m,s=>some (true,m,s)
 | v::r,m,s=>match self m s v with
  | none=>none
  | some (false,j,l)=>some (false,j,l)
  | some (true,j,l)=>EJ self r j l
theorem WC self a b m(s:σ):EJ self (a++b) m s=match EJ self a m s with
  | none=>none
  | some (false,j,l)=>some (false,j,l)
  | some (true,j,l)=>EJ self b j l:=by
 induction a generalizing m s with
 | nil=>rfl
 | cons v r w=>
  rw[sv]
  cases q:self m s v with
  | none=>simp only[EJ,q]
  | some p=>
   obtain⟨c,j,l⟩:=p
   cases c
   ·simp only[EJ,q]
   ·simp only[EJ,q]
    exact w j l
noncomputable def ES(v1:Aw)(self:Kq σ)(w:List Int)(l:Int)(A:List (Int × Bool))(j:σ):Option ((Int × (List (Int × Bool)) × σ) ⊕ (As ((List (Int × Bool)) × σ) (Bool × (List (Int × Bool)) × σ))):=
 if(decide (l<(w.length:Int))) then(
  AB (AM w l) λ(m:Int)=>
  EC (self A j (Aw.mk m v1.id v1.visible)) λ(E:Bool) (B:List (Int × Bool)) (C:σ)=>
  if(!E) then(
   some (.inr (.ext (false,B,C)))
  ) else(
   AB (AS .i64 (l+1)) λ(q:Int)=>
   some (.inl (q,B,C))
  )
 ) else(
  some (.inr (.nrm (A,j)))
 )
noncomputable def ED(v1:Aw)(self:Kq σ)(w:AI)(A:Int)(B:List (Int × Bool))(m:σ):Option ((Int × (List (Int × Bool)) × σ) ⊕ (As ((List (Int × Bool)) × σ) (Bool × (List (Int × Bool)) × σ))):=
 if(decide (A<(w.Grid.Cells.length:Int))) then(
  AB (AM w.Grid.Cells A) λ(j:Aj)=>
  AB (He w.Grid j.Row j.Col) λ(F:Ai)=>
  EC (
   if((!(j.Ref=0))==true) then(
    EC (self B m (Aw.mk j.Ref v1.id ((v1.visible&&(F.Row=j.Row))&&(F.Col=j.Col)))) λ(I:Bool) (J:List (Int × Bool)) (M:σ)=>
    some (((!(j.Ref=0))&&(!I)),J,M)
   ) else(
    some (((!(j.Ref=0))&&false),B,m)
   )
  ) λ(C:Bool) (q:List (Int × Bool)) (l:σ)=>
  if C then(
   some (.inr (.ext (false,q,l)))
  ) else(
   AB (AS .i64 (A+1)) λ(E:Int)=>
   some (.inl (E,q,l))
  )
 ) else(
  some (.inr (.nrm (B,m)))
 )
noncomputable def gB(d:AP)(self:Kq σ)(m:List (Int × Bool))(j:σ)(v1:Aw):Option (Bool × (List (Int × Bool)) × σ):=
 if((AU m v1.id).getD false) then(
  some (true,m,j)
 ) else(
  CT (Y j v1) λ(E:Bool) (C:σ)=>
  if(!E) then(
   some (false,(An m v1.id true),C)
  ) else(
   CT (FX d v1.id) λ(F:Int) (T:Bool)=>
   AB (AM d.Nodes F) λ(q:AI)=>
   AB (K0 q.Flow) λ(I:List Int)=>
   F8 (iter (λ(a:Int × (List (Int × Bool)) × σ)=>ES v1 self I a.1 a.2.1 a.2.2) (0,(An m v1.id true),C)) λ(J:List (Int × Bool)) (w:σ)=>
   F8 (iter (λ(a:Int × (List (Int × Bool)) × σ)=>ED v1 self q a.1 a.2.1 a.2.2) (0,J,w)) λ(M:List (Int × Bool)) (A:σ)=>
   AB (GF d q) λ(O:List Int)=>
   F8 (iter (λ(a:Int × (List (Int × Bool)) × σ)=>ES v1 self O a.1 a.2.1 a.2.2) (0,M,A)) λ(B:List (Int × Bool)) (l:σ)=>
   some (true,B,l)
  )
 )
noncomputable def gN(d:AP):Nat→Kq σ
 | 0=>λ_ _ _=>none
 | n+1=>λm s v=>gB Y d (gN d n) m s v
def OC(r:Bool × List (Int × Bool) × σ):As ((List (Int × Bool)) × σ) (Bool × (List (Int × Bool)) × σ):=if r.1=true then .nrm (r.2.1,r.2.2) else .ext (false,r.2.1,r.2.2)
theorem Y9(v:Aw) self(l:List Int)(E:l.length≤4194304):∀(j k:Nat) (m:List (Int × Bool)) (s:σ) (r:Bool × List (Int × Bool) × σ),k+j=l.length→EJ self ((l.drop k).map λid=>⟨id,v.id,v.visible⟩) m s=some r →
  iter (λ(a:Int × (List (Int × Bool)) × σ)=>ES v self l a.1 a.2.1 a.2.2) ((k:Int),m,s)=some (OC r):=by
 intro j
 induction j with
 | zero=>
  intro k m s r B h
  rw[s9 (by omega)] at h
  cases h
  refine BN ?_
  show ES v self l (k:Int) m s=_
  unfold ES
  rw[rN (by simp;omega)]
  rfl
 | succ j C=>
  intro k m s r B h
  have q:k<l.length:=by omega
  rw[sH q,ru] at h
  unfold EJ at h
  cases w:self m s ⟨l[k],v.id,v.visible⟩ with
  | none=>rw[w] at h;cases h
  | some p=>
   obtain⟨c,A,s'⟩:=p
   rw[w] at h
   cases c with
   | false=>
    cases h
    refine BN ?_
    show ES v self l (k:Int) m s=_
    unfold ES
    rw[rO (by simpa using q),EG q,AD,w,Gi]
    rfl
   | true=>
    rw[Bg (s':=(((k+1:Nat):Int),A,s')) (by
     show ES v self l (k:Int) m s=_
     unfold ES
     rw[rO (by simpa using q),EG q,AD,w,Gi,rN (by decide),Ap (by omega),AD])]
    exact C (k+1) A s' r (by omega) h
theorem eP(v:Aw) self(n:AI)(O:n.Grid.Cells.length≤4194304)(hc:∀c∈n.Grid.Cells,∃r,He n.Grid c.Row c.Col=some r):∀(j k:Nat) (m:List (Int × Bool)) (s:σ) (r:Bool × List (Int × Bool) × σ),k+j=n.Grid.Cells.length →
  EJ self (((n.Grid.Cells.drop k).filter λc=>!(c.Ref=0)).map (HR v n.Grid)) m s=some r →
  iter (λ(a:Int × (List (Int × Bool)) × σ)=>ED v self n a.1 a.2.1 a.2.2) ((k:Int),m,s)=some (OC r):=by
 intro j
 induction j with
 | zero=>
  intro k m s r J h
  rw[s9 (by omega)] at h
  cases h
  refine BN ?_
  show ED v self n (k:Int) m s=_
  unfold ED
  rw[rN (by simp;omega)]
  rfl
 | succ j E=>
  intro k m s r J h
  have l:k<n.Grid.Cells.length:=by omega
  obtain⟨q,B⟩:=hc _ (sG l)
  rw[sH l,tW] at h
  by_cases A:n.Grid.Cells[k].Ref=0
  ·rw[rN (by simp[A])] at h
   rw[Bg (s':=(((k+1:Nat):Int),m,s)) (by
    show ED v self n (k:Int) m s=_
    unfold ED
    rw[rO (by simpa using l),EG l,AD,B,AD,rR A,rN (by decide),Gi,rN (by decide),Ap (by omega),AD])]
   exact E (k+1) m s r (by omega) h
  ·rw[rO (by simp[A]),ru] at h
   have M:HR v n.Grid n.Grid.Cells[k]=⟨n.Grid.Cells[k].Ref,v.id,((v.visible&&(q.Row=n.Grid.Cells[k].Row))&&(q.Col=n.Grid.Cells[k].Col))⟩:=by unfold HR;rw[B]
   rw[M] at h
   unfold EJ at h
   generalize F:(⟨n.Grid.Cells[k].Ref,v.id,((v.visible&&(q.Row=n.Grid.Cells[k].Row))&&(q.Col=n.Grid.Cells[k].Col))⟩:Aw)=w at h
   cases C:self m s w with
   | none=>rw[C] at h;cases h
   | some p=>
    obtain⟨c,I,s'⟩:=p
    rw[C] at h
    cases c with
    | false=>
     cases h
     refine BN ?_
     show ED v self n (k:Int) m s=_
     unfold ED
     rw[rO (by simpa using l),EG l,AD,B,AD,rQ A,rO (by decide),F,C,Gi,Gi]
     rfl
    | true=>
     rw[Bg (s':=(((k+1:Nat):Int),I,s')) (by
      show ED v self n (k:Int) m s=_
      unfold ED
      rw[rO (by simpa using l),EG l,AD,B,AD,rQ A,rO (by decide),F,C,Gi,Gi,rN (by decide),Ap (by omega),AD])]
     exact E (k+1) I s' r (by omega) h
end
end Go.Proofs.YtifgmfoihehlbaaGreatDoor.Al

set_option linter.unusedVariables false
set_option linter.unusedSimpArgs false
namespace Go.Proofs.YtifgmfoihehlbaaGreatDoor.Al
open Go
section
variable{σ:Type}(Y:σ→Aw→Option (Bool × σ)){d:AP}
def XU(d:AP)(n:Nat):Prop:=∀(j:List Aw) (v:Aw) (m:List (Int × Bool)) (s:σ),DT d v.id→D8 d j<n→(∀i,Db m i=CM j i) →
 ∃new,CL d n j v=j++new∧(∀w∈new,DT d w.id)∧∀b l,Du Y new s=some (b,l)→∃q,gN Y d n m s v=some (b,q,l)∧(b=true→∀i,Db q i=CM (j++new) i)
theorem iC{n}(IH:XU Y d n):∀(ks j:List Aw) (m:List (Int × Bool)) (s:σ),(∀w∈ks,DT d w.id)→D8 d j<n→(∀i,Db m i=CM j i) →
  ∃new,ks.foldl (λa w=>CL d n a w) j=j++new∧(∀w∈new,DT d w.id)∧∀b s',Du Y new s=some (b,s')→∃A,EJ (gN Y d n) ks m s=some (b,A,s')∧(b=true→∀i,Db A i=CM (j++new) i):=by
 intro ks
 induction ks with
 | nil=>
  intro j m s _ _ I
  refine⟨[],by simp,by simp,λb s' B=>?_⟩
  simp only[Du,rY,rf] at B
  obtain⟨rfl,rfl⟩:=B
  exact⟨m,rfl,λ_ i=>by rw[tN];exact I i⟩
 | cons v r ih=>
  intro j m s U V I
  obtain⟨q,e1,i1,w1⟩:=IH j v m s (U v (rn ..)) V I
  have J:D8 d (j++q)<n:=Nat.lt_of_le_of_lt (YO d j q) V
  have E:∀m2 (F:σ),(∀i,Db m2 i=CM (j++q) i)→∃new,r.foldl (λa w=>CL d n a w) (j++q)=(j++q)++new∧(∀w∈new,DT d w.id)∧∀b s',Du Y new F=some (b,s')→∃A,EJ (gN Y d n) r m2 F=some (b,A,s')∧(b=true→∀i,Db A i=CM ((j++q)++new) i):=
   λm2 F h2=>ih (j++q) m2 F (λw M=>U w (rj _ M)) J h2
  have O:∃m2:List (Int × Bool),∀i,Db m2 i=CM (j++q) i:=by
   refine⟨(j++q).map λv=>(v.id,true),λi=>?_⟩
   generalize j++q=l
   induction l with
   | nil=>rfl
   | cons a r T=>
    show(if i=a.id then some true else AU _ i).getD false=_
    unfold CM
    rw[tm]
    by_cases h:i=a.id
    ·rw[rO h,rR h.symm];rfl
    ·rw[rN h,rQ (uR h),sb];exact T
  obtain⟨m0,h0⟩:=O
  obtain⟨X,Z,i2,_⟩:=E m0 s h0
  refine⟨q++X,by rw[sm,e1,Z,sg],λw M=>(sk.1 M).elim (i1 w) (i2 w),λb s' B=>?_⟩
  rw[jT] at B
  cases C:Du Y q s with
  | none=>rw[C] at B;cases B
  | some p=>
   obtain⟨c,s1⟩:=p
   rw[C] at B
   obtain⟨m1,g1,g2⟩:=w1 c s1 C
   cases c with
   | false=>
    cases B
    refine⟨m1,?_,λe=>by cases e⟩
    unfold EJ
    rw[g1]
   | true=>
    obtain⟨n3,e3,_,w3⟩:=E m1 s1 (g2 rfl)
    have:n3=X:=by
     rw[Z] at e3
     exact(List.append_cancel_left e3).symm
    subst this
    obtain⟨m2,k1,k2⟩:=w3 b s' B
    refine⟨m2,?_,λe i=>by rw[k2 e i,sg]⟩
    show(match gN Y d n m s v with | none=>none | some (false,A,s')=>some (false,A,s') | some (true,A,s')=>EJ (gN Y d n) r A s')=_
    rw[g1]
    exact k1
theorem kl(h:B4 d):∀n,XU Y d n:=by
 intro n
 induction n with
 | zero=>intro l v m s _ hu;omega
 | succ n IH=>
  intro l v m s hv hu hm
  by_cases F:CM l v.id=true
  ·refine⟨[],by unfold CL;rw[rO F,tN],by simp,λb I A=>?_⟩
   simp only[Du,rY,rf] at A
   obtain⟨rfl,rfl⟩:=A
   refine⟨m,?_,λ_ i=>by rw[tN];exact hm i⟩
   show gB Y d (gN Y d n) m s v=_
   unfold gB
   have:(AU m v.id).getD false=true:=(hm v.id).trans F
   rw[rO this]
  ·rw[sO] at F
   have ac:=WP hv F
   have C:∀i,Db (An m v.id true) i=CM (l++[v]) i:=λi=>by
    rw[SQ,hm i,SZ]
    have:CM [v] i=decide (i=v.id):=by
     unfold CM;simp only[tm,List.any_nil,u6]
     rw[ts];exact⟨λe=>e.symm,λe=>e.symm⟩
    rw[this]
    cases CM l i<;>cases decide (i=v.id)<;>rfl
   obtain⟨q,a0,J,ad,a1,a2⟩:=h.node hv
   have M:=Ts h hv
   have B:=λE=>iC Y IH (kids d v (Bi d v.id)) (l++[v]) (An m v.id true) E M (by omega) C
   obtain⟨new,e1,i1,_⟩:=B s
   refine⟨v::new,by unfold CL;rw[rN (by rw[F];decide),e1,sg];rfl,λw hw=>?_,λb I A=>?_⟩
   ·rcases sB.1 hw with rfl | hw
    ·exact hv
    ·exact i1 w hw
   ·show ∃O,gB Y d (gN Y d n) m s v=_∧_
    have h0:¬ ((AU m v.id).getD false)=true:=by
     have:(AU m v.id).getD false=false:=(hm v.id).trans F
     rw[this];decide
    unfold gB
    rw[rN h0]
    cases hY:Y s v with
    | none=>simp only[Du,hY] at A;cases A
    | some p=>
     obtain⟨c,s1⟩:=p
     rw[BW]
     cases c with
     | false=>
      simp only[Du,hY,rY,rf] at A
      obtain⟨rfl,rfl⟩:=A
      exact⟨_,by rw[rO (by decide)],λe=>by cases e⟩
     | true=>
      simp only[Du,hY] at A
      rw[rN (by decide),a1,BW,a2,AD,ge _ (by have:=q.ok.fl;omega),AD]
      obtain⟨T,e2,_,w2⟩:=B s1
      have:T=new:=by
       rw[e1] at e2
       exact(List.append_cancel_left e2).symm
      subst this
      obtain⟨O,j,g2⟩:=w2 b I A
      refine⟨O,?_,λe i=>by rw[g2 e i,sg];rfl⟩
      have ae:=q.ok.fl
      have af:=q.ok.gr.1
      have U:∀c∈(Bi d v.id).Grid.Cells,∃r,He (Bi d v.id).Grid c.Row c.Col=some r:=λc hc=>by
       obtain⟨r,r1,_⟩:=Ue q J c hc;exact⟨r,r1⟩
      have a6:(CX (Bi d v.id).Flow).length≤4194304:=by
       unfold CX;rw[rt];exact rh (sn ..) (by omega)
      obtain⟨L,X,t1,_,t3,_⟩:=Qe h.ids h.ok.1 h.srt q a0 J
      have V:GQ d (Bi d v.id)=L.filterMap (EP d):=by unfold GQ;rw[t1];rfl
      have Z:(GQ d (Bi d v.id)).length≤4194304:=by
       rw[V]
       refine rh (List.length_filterMap_le ..) ?_
       simp at t3;omega
      have a7:GF d (Bi d v.id)=some (GQ d (Bi d v.id)):=by rw[V];exact t1
      unfold kids at j
      rw[WC] at j
      cases q1:EJ (gN Y d n) (MX v (Bi d v.id)) (An m v.id true) s1 with
      | none=>rw[q1] at j;cases j
      | some p1=>
       have l1:=Y9 v (gN Y d n) (CX (Bi d v.id).Flow) a6 _ 0 (An m v.id true) s1 p1 (by rw[sF]) q1
       have a8:iter (λ(a:Int × (List (Int × Bool)) × σ)=>ES v (gN Y d n) (CX (Bi d v.id).Flow) a.1 a.2.1 a.2.2) (0,(An m v.id true),s1)=some (OC p1):=l1
       rw[a8]
       obtain⟨c1,m1,E⟩:=p1
       rw[q1] at j
       cases c1 with
       | false=>cases j;rfl
       | true=>
        show F8 (iter (λ(a:Int × (List (Int × Bool)) × σ)=>ED v (gN Y d n) (Bi d v.id) a.1 a.2.1 a.2.2) (0,m1,E)) _=_
        have j:EJ (gN Y d n) (LG v (Bi d v.id)++HK d v (Bi d v.id)) m1 E=some (b,O,I):=j
        rw[WC] at j
        cases q2:EJ (gN Y d n) (LG v (Bi d v.id)) m1 E with
        | none=>rw[q2] at j;cases j
        | some p2=>
         have l2:=eP v (gN Y d n) (Bi d v.id) (by omega) U _ 0 m1 E p2 (by rw[sF]) q2
         have aa:iter (λ(a:Int × (List (Int × Bool)) × σ)=>ED v (gN Y d n) (Bi d v.id) a.1 a.2.1 a.2.2) (0,m1,E)=some (OC p2):=l2
         rw[aa]
         obtain⟨c2,m2,s3⟩:=p2
         rw[q2] at j
         cases c2 with
         | false=>cases j;rfl
         | true=>
          show AB (GF d (Bi d v.id)) _=_
          rw[a7,AD]
          have j:EJ (gN Y d n) (HK d v (Bi d v.id)) m2 s3=some (b,O,I):=j
          have l3:=Y9 v (gN Y d n) (GQ d (Bi d v.id)) Z _ 0 m2 s3 _ (by rw[sF]) j
          have ab:iter (λ(a:Int × (List (Int × Bool)) × σ)=>ES v (gN Y d n) (GQ d (Bi d v.id)) a.1 a.2.1 a.2.2) (0,m2,s3)=some (OC (b,O,I)):=l3
          rw[ab]
          cases b<;>rfl
end
end Go.Proofs.YtifgmfoihehlbaaGreatDoor.Al
