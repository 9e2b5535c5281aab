/- Plain laws over the models, a part of them. -/
import Derived.Test.YtmogkkigacadpaaGreatDoorMod1
import Derived.Lib.AtoiAllCases
import Derived.Lib.DecodeNEq
import Derived.Lib.ItoaMem
import Derived.Lib.TrimUEq
import Derived.Lib.ValidLaws
set_option linter.all false
namespace Go.Proofs.YtmogkkigacadpaaGreatDoor.Al
@[simp] theorem AD{a α:Type}(x:a)(f:a→Option α):AB (some x) f=f x:=rfl
@[simp] theorem BZ{a b α:Type}(x:a)(y:b)(f:a→b→Option α):Bw (some (x,y)) f=f x y:=rfl
@[simp] theorem GP{a b c α:Type}(x:a)(y:b)(z:c)(f:a→b→c→Option α):CN (some (x,y,z)) f=f x y z:=rfl
@[simp] theorem mw{a b c d α:Type}(x:a)(y:b)(z:c)(u:d)(f:a→b→c→d→Option α):ls (some (x,y,z,u)) f=f x y z u:=rfl
@[simp] theorem R2{a α:Type}(x:a)(f:a→Option α):Aw (some (.nrm x)) f=f x:=rfl
@[simp] theorem Hb{a α:Type}(t:α)(f:a→Option α):Aw (some (.ext t)) f=some t:=rfl
@[simp] theorem ms{a b α:Type}(x:a)(y:b)(f:a→b→Option α):Dm (some (.nrm (x,y))) f=f x y:=rfl
@[simp] theorem nB{a b α:Type}(t:α)(f:a→b→Option α):Dm (some (.ext t)) f=some t:=rfl
@[simp] theorem mt{a b c α:Type}(x:a)(y:b)(z:c)(f:a→b→c→Option α):Vj (some (.nrm (x,y,z))) f=f x y z:=rfl
@[simp] theorem nA{a b c α:Type}(t:α)(f:a→b→c→Option α):Vj (some (.ext t)) f=some t:=rfl
@[simp] theorem Aq{α:Type}[Inhabited α](m:Option α):gd true m=m:=rfl
@[simp] theorem Ci{α:Type}[Inhabited α](m:Option α):gd false m=some default:=rfl
theorem Ac{α:Type}[Inhabited α]{l:List α}{k}(h:k<l.length):AL l (k:Int)=some l[k]!:=by
 unfold AL
 rw[nH (po k),oP,nM h,nW l k h]
theorem EH{α:Type}{l:List α}{k}(h:k<l.length):AL l (k:Int)=some l[k]:=by
 unfold AL
 rw[nH (po k),oP,nM h]
theorem An{k:Nat}(h:k<9223372036854775807):AR .i64 ((k:Int)+1)=some (((k+1:Nat)):Int):=by
 rw[CH (by omega) (by omega)];rfl
theorem Ej{k:Nat}(h:0<k)(j:k≤9223372036854775807):AR .i64 ((k:Int)-1)=some ((k-1:Nat):Int):=by
 rw[CH (by omega) (by omega)];congr 1;omega
def B2{ρ:Type}(k:Nat):Option ρ→Option (Int ⊕ Ar Unit ρ)
 | none=>some (.inl ((k+1:Nat):Int))
 | some r=>some (.inr (.ext r))
def DD{ρ:Type} : Option ρ→Ar Unit ρ
 | none=>.nrm ()
 | some r=>.ext r
theorem Bo{ρ:Type}{f}{n}(g:Nat→Option ρ)(j:∀k:Nat, k<n→f k=B2 k (g k))
 (l:f n=some (.inr (.nrm ()))):iter f 0=some (DD ((List.range n).findSome? g)) := by
  have key:∀m k:Nat, k+m=n→iter f (k:Int)=some (DD ((List.range' k m).findSome? g)) := by
    intro m
    induction m with
    | zero =>
      intro k q
      obtain rfl:k=n := by omega
      rw[BL l];rfl
    | succ m w =>
      intro k q
      rw[List.range'_succ, ol]
      have := j k (by omega)
      cases hg:g k with
      | none => rw[hg] at this;rw[Bm this, w (k+1) (by omega)]
      | some r => rw[hg] at this;rw[BL this];rfl
  rw[qU]
  exact key n 0 (by omega)
theorem TZ{α ρ:Type}{l:List α}{g h:α→Option ρ}(e:∀x∈l,g x=h x):l.findSome? g=l.findSome? h:=by
 induction l with
 | nil=>rfl
 | cons a l j=>rw[ol,ol,e a (nc ..),j λx m=>e x (nY _ m)]
theorem P6{α ρ:Type}[Inhabited α](l:List α)(p:α→Bool)(r:ρ):(List.range l.length).findSome? (λk=>if p l[k]! then none else some r)=if l.all p then none else some r:=by
 induction l with
 | nil=>rfl
 | cons a l j=>
  rw[oG,List.range_succ_eq_map,ol,List.findSome?_map]
  have m:(List.range l.length).findSome? ((λk=>if p (a::l)[k]! = true then none else some r) ∘ Nat.succ)=if l.all p=true then none else some r:=by
   rw[← j];exact TZ λk _=>by simp
  rw[m]
  by_cases hp:p a=true
  ·simp[hp]
  ·simp[hp]
theorem Eh{ρ:Type}(o:Option ρ)(f:Unit→Option ρ):Aw (some (DD o)) f=match o with | none=>f () | some r=>some r:=by cases o<;>rfl
def Fr(c:UInt8):Bool:=((97≤c.toNat)&&(c.toNat≤122))||((48≤c.toNat)&&(c.toNat≤57))||(c.toNat=46)||(c.toNat=45)
def D9(s:List UInt8):Bool:=(1≤s.length)&&(s.length≤24)&&((97≤s[0]!.toNat)&&(s[0]!.toNat≤122))&&s.all Fr
def GI(c:UInt8):Bool:=(32≤c.toNat)&&(c.toNat≤126)
def DO(s:List UInt8):Bool:=(1≤s.length)&&(s.length≤200)&&s.all GI
theorem bZ(s:List UInt8) k(j:k<s.length)(l:s.length≤9223372036854775807):Lb s k=B2 k (if Fr s[k]! then none else some false):=by
 unfold Lb
 rw[nH (by simpa using j),Ac j,AD,An (by omega)]
 generalize s[k]! = c
 have e:((((((c.toNat:Int)<97)||(122<(c.toNat:Int)))&&(((c.toNat:Int)<48)||(57<(c.toNat:Int))))&&(!((c.toNat:Int)=46)))&&(!((c.toNat:Int)=45)))=!Fr c:=by
  unfold Fr
  rw[ns]
  simp only[nT,nR,nK,oF,oQ,o9,pN]
  omega
 rw[e]
 cases Fr c<;>rfl
theorem R1(s:List UInt8)(B:s.length≤9223372036854775807):LZ s=some (D9 s):=by
 unfold LZ
 rw[Bo (n:=s.length) (λk=>if Fr s[k]! then none else some false) (λk C=>bZ s k C B) (by unfold Lb;rw[nG (by simp)]),P6]
 unfold D9
 cases s with
 | nil=>simp
 | cons c t=>
  have E:AL (c::t) 0=some c:=rfl
  rw[E]
  simp only[List.getElem!_cons_zero,nI (pw c t),oS]
  generalize (c::t).all Fr=F
  generalize I:(c::t).length=L
  have M:1≤L:=by rw[← I];simp
  by_cases q:24<(L:Int)
  ·have j:decide (L≤24)=false:=by simp;omega
   simp[q,j]
  ·rw[nI q]
   simp only[oS,oN,Aq,AD]
   have j:decide (L≤24)=true:=by simp;omega
   have J:decide (1≤L)=true:=by simp;omega
   rw[j,J]
   by_cases w:(c.toNat:Int)<97
   ·have l:decide (97≤c.toNat)=false:=by simp;omega
    simp[w,l]
   ·rw[nI w]
    have l:decide (97≤c.toNat)=true:=by simp;omega
    simp only[oN,Aq,AD,oS]
    by_cases A:122<(c.toNat:Int)
    ·have m:decide (c.toNat≤122)=false:=by simp;omega
     simp[A,m]
    ·have m:decide (c.toNat≤122)=true:=by simp;omega
     rw[nG (by simpa using A),Eh,l,m]
     cases F<;>rfl
def Gr(k:Nat)(c:UInt8):Bool:=((97≤c.toNat)&&(c.toNat≤122))||((k≠0)&&Fr c)
theorem eG(s:List UInt8) k(j:k<s.length)(l:s.length≤9223372036854775807) :
  Ky s k=B2 k (if Gr k s[k]! then none else some false):=by
 unfold Ky
 rw[nH (by simpa using j),Ac j,AD,An (by omega)]
 generalize s[k]! = c
 have e:((!((97≤(c.toNat:Int))&&((c.toNat:Int)≤122)))&&(((k:Int)=0)||(((!((c.toNat:Int)=46))&&(!((c.toNat:Int)=45)))&&(((c.toNat:Int)<48)||(57<(c.toNat:Int))))))=!Gr k c:=by
  unfold Gr Fr
  rw[ns]
  simp only[nT,nR,nK,oF,oQ,o9,pN]
  omega
 rw[e]
 cases Gr k c<;>rfl
theorem UW{ρ:Type}(n:Nat)(g:Nat→Option ρ):(List.range n).findSome? g=none↔∀k,k<n→g k=none:=by
 rw[oq];simp
theorem jH{α:Type}[Inhabited α](l:List α)(p:α→Bool):l.all p=true↔∀k,k<l.length→p l[k]! = true:=by
 rw[nj]
 constructor
 ·intro h k j;rw[nW l k j];exact h _ (nq j)
 ·intro h x m
  obtain⟨k,j,rfl⟩:=oL.1 m
  rw[← nW l k j];exact h k j
theorem JU{ρ:Type} n p(r:ρ):(List.range n).findSome? (λk=>if p k then none else some r)=if(List.range n).all p then none else some r:=by
 generalize List.range n=l
 induction l with
 | nil=>rfl
 | cons a l j=>rw[ol,qG,];by_cases h:p a=true<;>simp[h,j]
theorem Tg(s:List UInt8)(q:s.length≤9223372036854775807):LP s=some (D9 s):=by
 unfold LP
 rw[Bo (n:=s.length) (λk=>if Gr k s[k]! then none else some false) (λk j=>eG s k j q) (by unfold Ky;rw[nG (by simp)]),JU,Eh]
 have key:((List.range s.length).all λk=>Gr k s[k]!)=((s=[])||(((97≤s[0]!.toNat)&&(s[0]!.toNat≤122))&&s.all Fr)):=by
  rw[ns,nj]
  simp only[nm,nT,nK,nR,jH]
  constructor
  ·intro h
   cases m:s with
   | nil=>exact .inl rfl
   | cons c t=>
    rw[← m]
    have w:0<s.length:=by rw[m];simp
    have A:=h 0 w
    simp only[Gr,nT,nR,nK] at A
    refine .inr ⟨by omega,λk j=>?_⟩
    have:=h k j
    simp only[Gr,Fr,nT,nR,nK] at this ⊢
    omega
  ·rintro(rfl | ⟨J,B⟩) k j
   ·cases j
   ·have:=B k j
    by_cases l:k=0
    ·subst l;simp only[Gr,nT,nR,nK];omega
    ·simp only[Gr,nT,nR,nK];exact .inr ⟨l,this⟩
 rw[key]
 unfold D9
 cases s with
 | nil=>rfl
 | cons c t=>
  rw[nI (pw c t),oS]
  generalize (c::t).all Fr=C
  generalize ((97≤(c::t)[0]!.toNat)&&((c::t)[0]!.toNat≤122))=E
  have F:decide (1≤((c::t).length:Int))=decide (1≤(c::t).length):=by simp;omega
  have I:decide (((c::t).length:Int)≤24)=decide ((c::t).length≤24):=by simp;omega
  rw[F,I]
  cases E<;>cases C<;>simp
theorem Q7(s:List UInt8)(B:s.length≤9223372036854775807):LC s=some (DO s):=by
 unfold LC DO
 rw[Bo (n:=s.length) (λk=>if GI s[k]! then none else some false) (λk l=>by
  unfold My
  rw[nH (by simpa using l),Ac l,AD,An (by omega)]
  generalize s[k]! = c
  have e:(((c.toNat:Int)<32)||(126<(c.toNat:Int)))=!GI c:=by
   unfold GI
   rw[ns]
   simp only[nT,nR,nK,oF,oQ,pN]
   omega
  rw[e]
  cases GI c<;>rfl) (by unfold My;rw[nG (by simp)]),P6,Eh]
 generalize s.all GI=q
 cases s with
 | nil=>simp
 | cons c t=>
  rw[nI (pw c t),oS]
  generalize w:(c::t).length=L
  have C:1≤L:=by rw[← w];simp
  by_cases m:200<(L:Int)
  ·have j:decide (L≤200)=false:=by simp;omega
   simp[m,j]
  ·have j:decide (L≤200)=true:=by simp;omega
   have A:decide (1≤L)=true:=by simp;omega
   rw[nG (by simpa using m),j,A]
   cases q<;>rfl
theorem TV(s:List UInt8)(w:s.length≤9223372036854775807):Kl s=some (DO s):=by
 unfold Kl DO
 rw[Bo (n:=s.length) (λk=>if GI s[k]! then none else some false) (λk j=>by
  unfold M2
  rw[nH (by simpa using j),Ac j,AD,An (by omega)]
  generalize s[k]! = c
  have e:(((c.toNat:Int)<32)||(126<(c.toNat:Int)))=!GI c:=by
   unfold GI
   rw[ns]
   simp only[nT,nR,nK,oF,oQ,pN]
   omega
  rw[e]
  cases GI c<;>rfl) (by unfold M2;rw[nG (by simp)]),P6,Eh]
 generalize s.all GI=l
 have m:decide (1≤(s.length:Int))=decide (1≤s.length):=by simp;omega
 have q:decide ((s.length:Int)≤200)=decide (s.length≤200):=by simp;omega
 rw[m,q]
 cases l<;>simp
theorem SD a b x y:Au (a::x) (b::y)=((a<b)||(a==b&&Au x y)):=rfl
theorem Iv:∀(a b:List UInt8),(Au a b||(a=b))=!Au b a
 | [],[]=>rfl
 | [],_::_=>rfl
 | _::_,[]=>rfl
 | a::x,b::y=>by
  rw[SD,SD]
  have l:=Iv x y
  by_cases h:a=b
  ·subst h
   have m:¬ a<a:=λh=>by simp[pu] at h
   simp only[nI m,oN,nt,oS,qB,qJ]
   exact l
  ·have q:(a==b)=false:=by simpa using h
   have w:(b==a)=false:=by simpa using λe:b=a=>h e.symm
   have A:¬ (a::x=b::y):=λe=>h (List.cons.inj e).1
   rw[q,w,nI A]
   simp only[pW,qn]
   have B:a.toNat≠b.toNat:=λe=>h (UInt8.toNat_inj.1 e)
   by_cases j:a<b
   ·have:¬ b<a:=by rw[pu] at j ⊢;omega
    simp[j,this]
   ·have:b<a:=by rw[pu] at j ⊢;omega
    simp[j,this]
theorem IR a:Au a a=false:=by
 have:=Iv a a
 cases h:Au a a
 ·rfl
 ·rw[h] at this;simp at this
theorem V3{a b}(h:Au a b=true):Au b a=false:=by
 have:=Iv a b
 rw[h] at this;simpa using this.symm
def HQ(l:List AG):Prop:=∀a∈l,a.Name.length≤9223372036854775807∧a.Value.length≤9223372036854775807
def EM(l:List AG)(j:Bool)(k:Nat):Option Int:=
 if D9 l[k]!.Name=false then some 9 else if DO l[k]!.Value=false∧¬ (j=true∧l[k]!.Value=[]) then some 23 else if 0<k∧Au l[k-1]!.Name l[k]!.Name=false then some 5 else none
def Bz(l:List AG)(j:Bool):Int:=((List.range l.length).findSome? (EM l j)).getD 0
theorem HQ.at{l:List AG}(h:HQ l){k}(j:k<l.length):l[k]!.Name.length≤9223372036854775807∧l[k]!.Value.length≤9223372036854775807:=by
 rw[nW l k j];exact h _ (nq j)
theorem Yg(l:List AG) q(h:HQ l)(E:l.length≤9223372036854775807) k(A:k<l.length):LE l q k=B2 k (EM l q k):=by
 unfold LE EM
 obtain⟨j,m⟩:=h.at A
 rw[nH (by simpa using A),Ac A,AD]
 generalize l[k]! = x at j m ⊢
 rw[R1 _ j,AD]
 cases D9 x.Name
 ·rfl
 rw[nG (by decide),nG (by decide),Q7 _ m,AD,An (by omega)]
 by_cases w:DO x.Value=false∧¬ (q=true∧x.Value=[])
 ·rw[nH w,nH (by simp[w.1];cases q<;>simp_all)];rfl
 rw[nG w,nG (by intro e;simp at e;exact w ⟨e.1,by rintro⟨a,b⟩;simp[a,b] at e⟩)]
 by_cases B:k=0
 ·subst B;rfl
 ·have C:decide ((0:Int)<(k:Int))=true:=by simp;omega
  rw[C,Ej (by omega) (by omega)]
  simp only[oN,Aq,AD,nt]
  rw[Ac (by omega),AD,Iv]
  have:(0<k∧Au l[k-1]!.Name x.Name=false)↔Au l[k-1]!.Name x.Name=false:=by constructor;exact λh=>h.2;exact λh=>⟨by omega,h⟩
  simp only[this]
  cases Au l[k-1]!.Name x.Name<;>rfl
theorem ib(l:List AG) q(h:HQ l)(E:l.length≤9223372036854775807) k(A:k<l.length):LM l q k=B2 k (EM l q k):=by
 unfold LM EM
 obtain⟨j,m⟩:=h.at A
 rw[nH (by simpa using A),Ac A,AD]
 generalize l[k]! = x at j m ⊢
 rw[Tg _ j,AD]
 cases D9 x.Name
 ·rfl
 rw[nG (by decide),nG (by decide),TV _ m,AD,An (by omega)]
 by_cases w:DO x.Value=false∧¬ (q=true∧x.Value=[])
 ·rw[nH w,nH (by simp[w.1];cases q<;>simp_all)];rfl
 rw[nG w,nG (by intro e;simp at e;exact w ⟨e.1,by rintro⟨a,b⟩;simp[a,b] at e⟩)]
 by_cases B:k=0
 ·subst B;rfl
 ·have C:decide ((0:Int)<(k:Int))=true:=by simp;omega
  rw[C,Ej (by omega) (by omega)]
  simp only[oN,Aq,AD,nt]
  rw[Ac (by omega),AD]
  have:(0<k∧Au l[k-1]!.Name x.Name=false)↔Au l[k-1]!.Name x.Name=false:=by constructor;exact λh=>h.2;exact λh=>⟨by omega,h⟩
  simp only[this]
  cases Au l[k-1]!.Name x.Name<;>rfl
theorem Ep{o:Option Int} : (Aw (some (DD o)) λ_:Unit=>some 0)=some (o.getD 0):=by cases o<;>rfl
theorem cJ(l:List AG) j(h:HQ l)(m:l.length≤9223372036854775807):L6 l j=some (Bz l j):=by
 unfold L6
 rw[Bo (n:=l.length) (EM l j) (λk q=>Yg l j h m k q) (by unfold LE;rw[nG (by simp)]),Ep];rfl
theorem Qh(l:List AG) j(h:HQ l)(m:l.length≤9223372036854775807):JR l j=some (Bz l j):=by
 unfold JR
 rw[Bo (n:=l.length) (EM l j) (λk q=>ib l j h m k q) (by unfold LM;rw[nG (by simp)]),Ep];rfl
theorem PS(l:List AG)(h:HQ l)(j:l.length≤9223372036854775807):IK l=some (Bz l false):=by unfold IK;rw[cJ l _ h j];rfl
def E8(l:List AG)(name:List UInt8):List UInt8:=((List.range l.length).findSome? λk=>if l[k]!.Name=name then some l[k]!.Value else none).getD []
theorem VE{o:Option (List UInt8)} : (Aw (some (DD o)) λ_:Unit=>some [])=some (o.getD []):=by cases o<;>rfl
theorem Z1(l:List AG) name(m:l.length≤9223372036854775807):Mb l name=some (E8 l name):=by
 unfold Mb
 rw[Bo (n:=l.length) (λk=>if l[k]!.Name=name then some l[k]!.Value else none) (λk j=>by
  unfold NQ
  rw[nH (by simpa using j),Ac j,AD,An (by omega)]
  generalize l[k]! = x
  by_cases h:x.Name=name<;>simp[h,B2]) (by unfold NQ;rw[nG (by simp)]),VE];rfl
theorem Zq(l:List AG) name(m:l.length≤9223372036854775807):Ny l name=some (E8 l name):=by
 unfold Ny
 rw[Bo (n:=l.length) (λk=>if l[k]!.Name=name then some l[k]!.Value else none) (λk j=>by
  unfold Nr
  rw[nH (by simpa using j),Ac j,AD,An (by omega)]
  generalize l[k]! = x
  by_cases h:x.Name=name<;>simp[h,B2]) (by unfold Nr;rw[nG (by simp)]),VE];rfl
def Ch:AG:=⟨[],[]⟩
def CE(j:AG→AG→List AG→List AG):List AG→List AG→List AG→List AG
 | [],[],c=>c
 | x::a,[],c=>CE j a [] (j x Ch c)
 | [],y::b,c=>CE j [] b (j Ch y c)
 | x::a,y::b,c=>if Au x.Name y.Name then CE j a (y::b) (j x Ch c) else if Au y.Name x.Name then CE j (x::a) b (j Ch y c) else CE j a b (j x y c)
  termination_by a b=>a.length+b.length
def Pj(l:AG→AG→List AG→List AG)(a b:List AG)(i j:Nat)(o:List AG):Option ((Int × Int × List AG) ⊕ Ar Unit (List AG)):=
 if i<a.length∨j<b.length then
  if j=b.length∨(i<a.length∧Au a[i]!.Name b[j]!.Name=true) then some (.inl (((i+1:Nat):Int),(j:Int),l a[i]! Ch o))
  else if i=a.length∨Au b[j]!.Name a[i]!.Name=true then some (.inl ((i:Int),((j+1:Nat):Int),l Ch b[j]! o))
  else some (.inl (((i+1:Nat):Int),((j+1:Nat):Int),l a[i]! b[j]! o))
 else some (.inr (.ext o))
theorem MG{l:List AG}{i}(h:i<l.length):l.drop i=l[i]!::l.drop (i+1):=by
 rw[nu h,nW l i h]
theorem am{f} C(a b c:List AG) B(l:∀x y o, (C x y o).length≤o.length+1)
 (V:∀(i j:Nat) (o:List AG), i≤a.length→j≤b.length→o.length+(a.length - i)+(b.length - j)≤B→f (i, j, o)=Pj C a b i j o) (hB:c.length+a.length+b.length≤B):iter f (0, 0, c)=some (.ext (CE C a b c)) := by
  have key:∀(m i j:Nat) (o:List AG), i≤a.length→j≤b.length→(a.length - i)+(b.length - j)=m→o.length+m≤B→iter f ((i:Int), (j:Int), o)=some (.ext (CE C (a.drop i) (b.drop j) o)) := by
    intro m
    induction m using Nat.strongRecOn with
    | _ m F =>
      intro i j o O T X Z
      have q := V i j o O T (by omega)
      unfold Pj at q
      by_cases w:i<a.length
      · rw[MG w]
        by_cases A:j<b.length
        · rw[MG A]
          rw[nH (.inl w)] at q
          by_cases I:Au a[i]!.Name b[j]!.Name=true
          · rw[nH (.inr ⟨w, I⟩)] at q
            rw[Bm q, CE, nH I, ← MG A]
            exact F (m - 1) (by omega) (i+1) j _ (by omega) T (by omega) (by have := l a[i]! Ch o;omega)
          · rw[nG (by rintro(h | h);omega;exact I h.2)] at q
            by_cases M:Au b[j]!.Name a[i]!.Name=true
            · rw[nH (.inr M)] at q
              rw[Bm q, CE, nG I, nH M, ← MG w]
              exact F (m - 1) (by omega) i (j+1) _ O (by omega) (by omega) (by have := l Ch b[j]! o;omega)
            · rw[nG (by rintro(h | h);omega;exact M h)] at q
              rw[Bm q, CE, nG I, nG M]
              exact F (m - 2) (by omega) (i+1) (j+1) _ (by omega) (by omega) (by omega) (by have := l a[i]! b[j]! o;omega)
        · have E:j=b.length := by omega
          rw[nH (.inl w), nH (.inl E)] at q
          have hd:b.drop j=[] := by rw[E];simp
          rw[Bm q, hd, CE, ← hd]
          exact F (m - 1) (by omega) (i+1) j _ (by omega) T (by omega) (by have := l a[i]! Ch o;omega)
      · have J:i=a.length := by omega
        have hd:a.drop i=[] := by rw[J];simp
        by_cases A:j<b.length
        · rw[nH (.inr A), nG (by rintro(h | h);omega;omega), nH (.inl J)] at q
          rw[MG A, Bm q, hd, CE, ← hd]
          exact F (m - 1) (by omega) i (j+1) _ O (by omega) (by omega) (by have := l Ch b[j]! o;omega)
        · have E:j=b.length := by omega
          rw[nG (by omega)] at q
          have U:b.drop j=[] := by rw[E];simp
          rw[BL q, hd, U, CE]
  exact key _ 0 0 c (oo _) (oo _) rfl (by omega)
theorem Jx{o:List AG}{x}(h:o.length+1≤4398046511104):app 32 o [x]=some (o++[x]):=by
 unfold app;rw[nH (by simp;omega)]
def FB(x y:AG)(o:List AG):List AG:=if y.Name=[] then o++[x] else if y.Value=[] then o else o++[y]
theorem Vy(x y o):(FB x y o).length≤o.length+1:=by unfold FB;split;simp;split<;>simp
theorem NM(c:List AG)(x y:AG)(h:c.length+1≤4398046511104):Jr c x y=some (FB x y c):=by
 unfold Jr FB
 rw[Jx h,Jx h]
 by_cases j:y.Name=[]<;>by_cases l:y.Value=[]<;>simp[j,l]
theorem Uw(x y:AG):x=y↔x.Name=y.Name∧x.Value=y.Value:=by cases x;cases y;simp
theorem gu(a b:List AG) i j(o:List AG)(M:a.length+b.length≤4398046511104)(U:i≤a.length)(V:j≤b.length)(X:o.length+(a.length-i)+(b.length-j)≤4398046511104):Mu a b i j o=Pj FB a b i j o:=by
 unfold Mu Pj
 by_cases l:i<a.length
 ·rw[nH (by simp;omega),nH (.inl l),Ac l]
  have A:decide ((i:Int)<(a.length:Int))=true:=by simp;omega
  have B:decide ((i:Int)=(a.length:Int))=false:=by simp;omega
  rw[A,B]
  by_cases m:j<b.length
  ·have w:decide ((j:Int)=(b.length:Int))=false:=by simp;omega
   rw[w,Ac m]
   simp only[oN,nt,qH,Aq,AD,oS]
   rw[NM _ _ _ (by omega),NM _ _ _ (by omega),NM _ _ _ (by omega)]
   simp only[AD]
   rw[An (by omega),An (by omega)]
   simp only[AD]
   have q:¬ j=b.length:=by omega
   have C:¬ i=a.length:=by omega
   simp only[q,C,l,qJ,false_or];rfl
  ·have E:j=b.length:=by omega
   have w:decide ((j:Int)=(b.length:Int))=true:=by simp;omega
   rw[w]
   have F:((true==false)&&(true==true))=false:=rfl
   rw[F]
   simp only[Ci,AD,qV]
   rw[nH trivial,nH (.inl E),NM _ _ _ (by omega),AD,An (by omega),AD];rfl
 ·have I:i=a.length:=by omega
  have A:decide ((i:Int)<(a.length:Int))=false:=by simp;omega
  have B:decide ((i:Int)=(a.length:Int))=true:=by simp;omega
  rw[A,B]
  by_cases m:j<b.length
  ·have w:decide ((j:Int)=(b.length:Int))=false:=by simp;omega
   have J:decide ((j:Int)<(b.length:Int))=true:=by simp;omega
   have q:¬ j=b.length:=by omega
   rw[w,J,nH (by rfl),nH (.inr m),Ac m]
   have F:((false==false)&&(false==true))=false:=rfl
   have O:((true==false))=false:=rfl
   rw[F,O]
   simp only[Ci,AD,oS,pW,qV,qD,o6,pj]
   have T:¬ (j=b.length∨i<a.length∧Au a[i]!.Name b[j]!.Name=true):=by
    intro h;rcases h with h | h
    ·exact q h
    ·exact l h.1
   rw[nG T,nH (.inl I),NM _ _ _ (by omega),AD,An (by omega),AD];rfl
  ·have J:decide ((j:Int)<(b.length:Int))=false:=by simp;omega
   rw[J,nG (by decide),nG (by omega)]
theorem iD(c a b:List AG)(h:c.length+a.length+b.length≤4398046511104):MA c a b=some (CE FB a b c):=by
 unfold MA
 rw[am FB a b c 4398046511104 Vy (λi j o l m q=>gu a b i j o (by omega) l m q) h];rfl
theorem ZU(a b:List AG)(h:a.length+b.length≤4398046511104):KG a b=some (CE FB a b []):=by
 unfold KG;rw[iD [] a b (by simpa using h)];rfl
theorem Qo(a b:List AG)(B:a.length≤9223372036854775807):Jb a b=some (decide (a=b)):=by
 unfold Jb
 by_cases m:a.length=b.length
 ·rw[nG (by simp[m]),Bo (n:=a.length) (λk=>if decide (a[k]! = b[k]!) then none else some false) (λk w=>by
   unfold M7
   rw[nH (by simpa using w),Ac w,Ac (by omega),AD,AD,An (by omega)]
   generalize a[k]! = x
   generalize b[k]! = y
   by_cases h:x=y
   ·subst h;simp[B2]
   ·have A:=h;rw[Uw] at A
    simp only[nI h,Bool.and_true]
    by_cases j:x.Name=y.Name
    ·have q:¬ x.Value=y.Value:=λe=>A ⟨j,e⟩
     simp[j,q,B2]
    ·simp[j,B2]) (by unfold M7;rw[nG (by simp)]),JU,Eh]
  by_cases h:a=b
  ·subst h;simp
  ·rw[nI h]
   have:((List.range a.length).all λk=>decide (a[k]! = b[k]!))=false:=by
    rw[← ny,nj]
    intro l
    apply h
    apply qs m
    intro k j q
    have:=l k (nm.2 j)
    simp only[nK] at this
    rwa [nW a k j,nW b k q] at this
   rw[this];rfl
 ·rw[nH (by simp;omega),nI (by rintro rfl;exact m rfl)]
theorem Q4(a b:List AG)(B:a.length≤9223372036854775807):Jm a b=some (decide (a=b)):=by
 unfold Jm
 by_cases m:a.length=b.length
 ·rw[nG (by simp[m]),Bo (n:=a.length) (λk=>if decide (a[k]! = b[k]!) then none else some false) (λk w=>by
   unfold N5
   rw[nH (by simpa using w),Ac w,Ac (by omega),AD,AD,An (by omega)]
   generalize a[k]! = x
   generalize b[k]! = y
   by_cases h:x=y
   ·subst h;simp[B2]
   ·have A:=h;rw[Uw] at A
    simp only[nI h,Bool.and_true]
    by_cases j:x.Name=y.Name
    ·have q:¬ x.Value=y.Value:=λe=>A ⟨j,e⟩
     simp[j,q,B2]
    ·simp[j,B2]) (by unfold N5;rw[nG (by simp)]),JU,Eh]
  by_cases h:a=b
  ·subst h;simp
  ·rw[nI h]
   have:((List.range a.length).all λk=>decide (a[k]! = b[k]!))=false:=by
    rw[← ny,nj]
    intro l
    apply h
    apply qs m
    intro k j q
    have:=l k (nm.2 j)
    simp only[nK] at this
    rwa [nW a k j,nW b k q] at this
   rw[this];rfl
 ·rw[nH (by simp;omega),nI (by rintro rfl;exact m rfl)]
theorem jn{α β:Type}[Inhabited α]{f}(l:List α)(j:β→α→β)(I:β→Nat→Prop)(B:∀b k, k<l.length→I b k→I (j b l[k]!) (k+1))
 (C:∀b (k:Nat), k<l.length→I b k→f (b, (k:Int))=some (.inl (j b l[k]!, ((k+1:Nat):Int)))) (E:∀b, f (b, (l.length:Int))=some (.inr b)) (w:β) (F:I w 0):iter f (w, 0)=some (l.foldl j w) := by
  have key:∀(m k:Nat) (b:β), k+m=l.length→I b k→iter f (b, (k:Int))=some ((l.drop k).foldl j b) := by
    intro m
    induction m with
    | zero =>
      intro k b J _
      have:k=l.length := by omega
      subst this
      rw[BL (E b)];simp
    | succ m M =>
      intro k b J A
      have q:k<l.length := by omega
      rw[Bm (C b k q A), M (k+1) _ (by omega) (B b k q A), nu q, oK, nW l k q]
  have := key l.length 0 w (by omega) F
  simpa using this
theorem Yf{α β:Type}[Inhabited α]{f}(l:List α)(j:β→α→β)(I:β→Nat→Prop)(B:∀b k, k<l.length→I b k→I (j b l[k]!) (k+1))
 (C:∀b (k:Nat), k<l.length→I b k→f ((k:Int), b)=some (.inl (((k+1:Nat):Int), j b l[k]!))) (E:∀b, f ((l.length:Int), b)=some (.inr b)) (w:β) (F:I w 0):iter f (0, w)=some (l.foldl j w) := by
  have key:∀(m k:Nat) (b:β), k+m=l.length→I b k→iter f ((k:Int), b)=some ((l.drop k).foldl j b) := by
    intro m
    induction m with
    | zero =>
      intro k b J _
      have:k=l.length := by omega
      subst this
      rw[BL (E b)];simp
    | succ m M =>
      intro k b J A
      have q:k<l.length := by omega
      rw[Bm (C b k q A), M (k+1) _ (by omega) (B b k q A), nu q, oK, nW l k q]
  have := key l.length 0 w (by omega) F
  simpa using this
theorem Xs{α γ β:Type}[Inhabited α]{f}(l:List α)(j:γ × β→α→γ × β)(I:γ × β→Nat→Prop)(B:∀b k, k<l.length→I b k→I (j b l[k]!) (k+1))
 (C:∀c b (k:Nat), k<l.length→I (c, b) k→f (c, (k:Int), b)=some (.inl ((j (c, b) l[k]!).1, ((k+1:Nat):Int), (j (c, b) l[k]!).2))) (E:∀c b, f (c, (l.length:Int), b)=some (.inr (c, b))) (c0:γ) (w:β) (F:I (c0, w) 0) :
    iter f (c0, 0, w)=some (l.foldl j (c0, w)) := by
  have key:∀(m k:Nat) (b:γ × β), k+m=l.length→I b k→iter f (b.1, (k:Int), b.2)=some ((l.drop k).foldl j b) := by
    intro m
    induction m with
    | zero =>
      intro k b J _
      have:k=l.length := by omega
      subst this
      rw[BL (E _ _)];simp
    | succ m M =>
      intro k b J A
      have q:k<l.length := by omega
      rw[Bm (C b.1 b.2 k q A), M (k+1) _ (by omega) (B b k q A), nu q, oK, nW l k q]
  have := key l.length 0 (c0, w) (by omega) F
  simpa using this
theorem Tm a:Au a []=false:=by cases a<;>rfl
theorem FE:∀ {a b c:List UInt8},Au a b=true→Au b c=true→Au a c=true
 | _,[],_,h,_=>by rw[Tm] at h;cases h
 | _,_::_,[],_,h=>by cases h
 | [],_::_,_::_,_,_=>rfl
 | a::x,b::y,c::z,h,k=>by
  rw[SD] at h k ⊢
  simp only[nT,nK,nR,beq_iff_eq,pu] at h k ⊢
  rcases h with h | ⟨rfl,h⟩<;>rcases k with k | ⟨rfl,k⟩
  ·left;omega
  ·left;exact h
  ·left;exact k
  ·right;exact⟨rfl,FE h k⟩
def Bj(l:List AG):Prop:=l.Pairwise λx y=>Au x.Name y.Name=true
def Ay:List AG→List UInt8→Option AG
 | [],_=>none
 | x::l,n=>if x.Name=n then some x else Ay l n
theorem HE{l}{n}(h:∀e∈l,e.Name≠n):Ay l n=none:=by
 induction l with
 | nil=>rfl
 | cons x l j=>rw[Ay,nG (h x (nc ..)),j λe m=>h e (nY _ m)]
theorem Om{l}{n}{e:AG}(h:Ay l n=some e):e.Name=n∧e∈l:=by
 induction l with
 | nil=>cases h
 | cons x l j=>
  rw[Ay] at h
  split at h
  ·cases h;exact⟨‹_›,nc ..⟩
  ·exact⟨(j h).1,nY _ (j h).2⟩
theorem EZ{a b}(h:Au a b=true):b≠a:=by rintro rfl;rw[IR] at h;cases h
theorem EQ{x:AG}{l} : Bj (x::l)↔(∀e∈l,Au x.Name e.Name=true)∧Bj l:=pY
theorem UG:∀ {l m:List AG},Bj l→Bj m→(∀n,Ay l n=Ay m n)→l=m
 | [],[],_,_,_=>rfl
 | [],y::m,_,_,h=>by have:=h y.Name;simp[Ay] at this
 | x::l,[],_,_,h=>by have:=h x.Name;simp[Ay] at this
 | x::l,y::m,F,I,h=>by
  have A:=EQ.1 F
  have B:=EQ.1 I
  have C:x.Name=y.Name:=by
   rcases j:Au x.Name y.Name with _ | _
   ·rcases q:Au y.Name x.Name with _ | _
    ·have:=Iv x.Name y.Name
     rw[j,q] at this
     simpa using this
    ·have:=h y.Name
     rw[Ay,nG (EZ q),HE λe w=>EZ (FE q (A.1 e w)),Ay,nH rfl] at this
     cases this
   ·have:=h x.Name
    rw[Ay,nH rfl,Ay,nG (EZ j),HE λe w=>EZ (FE j (B.1 e w))] at this
    cases this
  have J:x=y:=by
   have:=h x.Name
   rw[Ay,nH rfl,Ay,nH C.symm] at this
   exact nh this
  subst J
  rw[UG A.2 B.2 λn=>?_]
  by_cases E:x.Name=n
  ·subst E
   rw[HE λe w=>EZ (A.1 e w),HE λe w=>EZ (B.1 e w)]
  ·have:=h n
   rwa [Ay,nG E,Ay,nG E] at this
def Ck:List AG→AG→List AG
 | [],a=>[a]
 | x::l,a=>if x.Name=a.Name then a::l else if Au x.Name a.Name=true then x::Ck l a else a::x::l
theorem XA{l}{a e}(h:e∈Ck l a):e=a∨e∈l:=by
 induction l with
 | nil=>simpa[Ck] using h
 | cons x l j=>
  rw[Ck] at h
  split at h
  ·rcases nn.1 h with h | h
   ·exact .inl h
   ·exact .inr (nY _ h)
  ·split at h
   ·rcases nn.1 h with h | h
    ·exact .inr (h ▸ nc ..)
    ·rcases j h with h | h
     ·exact .inl h
     ·exact .inr (nY _ h)
   ·rcases nn.1 h with h | h
    ·exact .inl h
    ·exact .inr h
theorem Rb{a b}(j:a≠b)(l:¬ Au a b=true):Au b a=true:=by
 have:=Iv a b
 rw[pg.2 l,nI j] at this
 simpa using this
theorem TK{l}(a:AG)(h:Bj l):Bj (Ck l a):=by
 induction l with
 | nil=>simp[Ck,Bj]
 | cons x l B=>
  have q:=EQ.1 h
  rw[Ck]
  split
  ·rename_i A;exact EQ.2 ⟨λe j=>by rw[← A];exact q.1 e j,q.2⟩
  ·rename_i A
   split
   ·rename_i m
    exact EQ.2 ⟨λe j=>by rcases XA j with rfl | j;exact m;exact q.1 e j,B q.2⟩
   ·rename_i m
    have w:=Rb A m
    exact EQ.2 ⟨λe j=>by rcases nn.1 j with rfl | j;exact w;exact FE w (q.1 e j),h⟩
theorem SK l(a:AG) n:Ay (Ck l a) n=if a.Name=n then some a else Ay l n:=by
 induction l with
 | nil=>simp[Ck,Ay]
 | cons x l m=>
  rw[Ck]
  split
  ·rename_i j
   rw[Ay,Ay]
   by_cases h:a.Name=n
   ·rw[nH h,nH h]
   ·rw[nG h,nG h,nG (by rw[j];exact h)]
  ·rename_i j
   split
   ·rw[Ay,Ay,m]
    by_cases h:a.Name=n
    ·rw[nH h,nG (by rw[← h];exact j),nH h]
    ·rw[nG h,nG h]
   ·rw[Ay]
theorem Ud(l:List AG) a:(Ck l a).length≤l.length+1:=by
 induction l with
 | nil=>simp[Ck]
 | cons x l j=>rw[Ck];split;simp;split;simp;omega;simp
def DZ(a:AG)(s:Bool × List AG)(x:AG):Bool × List AG:=
 let j:=if s.1=false∧Au x.Name a.Name=false then(true,s.2++[a]) else s
 if x.Name=a.Name then j else(j.1,j.2++[x])
theorem Sj(a:AG):∀(l:List AG) (o:List AG),(∀e∈l,Au a.Name e.Name=true)→l.foldl (DZ a) (true,o)=(true,o++l)
 | [],o,_=>by simp
 | x::l,o,h=>by
  have j:=h x (nc ..)
  have:DZ a (true,o) x=(true,o++[x]):=by simp[DZ,EZ j]
  rw[oK,this,Sj a l _ λe m=>h e (nY _ m)]
  simp
theorem WC(a:AG):∀(l:List AG) (o:List AG),Bj l→(let s:=l.foldl (DZ a) (false,o);if s.1 then s.2 else s.2++[a])=o++Ck l a
 | [],o,_=>by simp[Ck]
 | x::l,o,h=>by
  have q:=EQ.1 h
  rw[oK,Ck]
  by_cases m:x.Name=a.Name
  ·have B:Au x.Name a.Name=false:=by rw[m];exact IR _
   have:DZ a (false,o) x=(true,o++[a]):=by simp[DZ,m,IR]
   rw[this,Sj a l _ λe w=>by rw[← m];exact q.1 e w,nH m]
   simp
  ·by_cases j:Au x.Name a.Name=true
   ·have:DZ a (false,o) x=(false,o++[x]):=by simp[DZ,m,j]
    rw[this,WC a l _ q.2,nG m,nH j]
    simp
   ·have A:=Rb m j
    have:DZ a (false,o) x=(true,o++[a]++[x]):=by simp[DZ,m,pg.2 j]
    rw[this,Sj a l _ λe w=>FE A (q.1 e w),nG m,nG j]
    simp
theorem Uk(a:AG) s(x:AG):(DZ a s x).2.length≤s.2.length+2:=by
 unfold DZ
 have:(if s.1=false∧Au x.Name a.Name=false then(true,s.2++[a]) else s).2.length≤s.2.length+1:=by split<;>simp
 generalize (if s.1=false∧Au x.Name a.Name=false then(true,s.2++[a]) else s)=t at this
 by_cases j:x.Name=a.Name
 ·simp only[j,qD];omega
 ·simp only[j,pj,n8,pa];omega
theorem Yr(l:List AG)(a:AG)(C:Bj l)(h:l.length≤1099511627776):JV l a=some (Ck l a):=by
 unfold JV
 rw[Xs l (DZ a) (λs k=>s.2.length≤2 * k) (λb k _ w=>by have:=Uk a b l[k]!;show(DZ a b l[k]!).2.length≤_;omega) (λc b k A w=>by
  have E:b.length≤2 * k:=w
  unfold NB
  rw[nH (by simpa using A),Ac A,An (by omega)]
  simp only[AD]
  generalize l[k]! = x
  have F:app 32 b [a]=some (b++[a]):=Jx (by omega)
  have B:app 32 b [x]=some (b++[x]):=Jx (by omega)
  have I:app 32 (b++[a]) [x]=some (b++[a]++[x]):=Jx (by simp;omega)
  cases c
  ·simp only[pP,oN,Aq,AD,nt]
   unfold DZ
   cases M:Au x.Name a.Name
   ·by_cases q:x.Name=a.Name<;>simp[F,I,q]
   ·by_cases q:x.Name=a.Name<;>simp[B,q]
  ·have:((!true)==true)=false:=rfl
   rw[this,Ci]
   simp only[AD,pd,pW,o6,pj,BZ]
   unfold DZ
   by_cases q:x.Name=a.Name<;>simp[B,q]) (λc b=>by unfold NB;rw[nG (by simp)]) false [] (by simp)]
 have hp:=WC a l [] C
 have j:(l.foldl (DZ a) (false,([]:List AG))).2.length≤2 * l.length:=by
  have:∀(m:List AG) (s:Bool × List AG),(m.foldl (DZ a) s).2.length≤s.2.length+2 * m.length:=by
   intro m
   induction m with
   | nil=>intro s;simp
   | cons x m J=>intro s;rw[oK];have:=J (DZ a s x);have:=Uk a s x;simp only[oG];omega
  have:=this l (false,[])
  simpa using this
 generalize l.foldl (DZ a) (false,([]:List AG))=s at hp j
 obtain⟨c,o⟩:=s
 simp only[BZ]
 cases c
 ·simp only[pP,qD]
  rw[Jx (by simp at j;omega)]
  simpa using hp
 ·simpa using hp
def DH(g:AG→AG→List AG):List AG→List AG→List AG
 | [],[]=>[]
 | x::a,[]=>g x Ch++DH g a []
 | [],y::b=>g Ch y++DH g [] b
 | x::a,y::b=>if Au x.Name y.Name then g x Ch++DH g a (y::b) else if Au y.Name x.Name then g Ch y++DH g (x::a) b else g x y++DH g a b
  termination_by a b=>a.length+b.length
theorem Xh l g(h:∀x y o,l x y o=o++g x y):∀(m:Nat) (a b c:List AG),a.length+b.length=m→CE l a b c=c++DH g a b:=by
 intro m
 induction m using Nat.strongRecOn with
 | _ m q=>
  intro a b c j
  cases a with
  | nil=>
   cases b with
   | nil=>simp[CE,DH]
   | cons y b=>rw[CE,DH,q (m-1) (by simp at j;omega) [] b _ (by simp at j ⊢;omega),h];simp
  | cons x a=>
   cases b with
   | nil=>rw[CE,DH,q (m-1) (by simp at j;omega) a [] _ (by simp at j ⊢;omega),h];simp
   | cons y b=>
    rw[CE,DH]
    split
    ·rw[q (m-1) (by simp at j;omega) a (y::b) _ (by simp at j ⊢;omega),h];simp
    ·split
     ·rw[q (m-1) (by simp at j;omega) (x::a) b _ (by simp at j ⊢;omega),h];simp
     ·rw[q (m-2) (by simp at j;omega) a b _ (by simp at j ⊢;omega),h];simp
def ON(l:List AG)(n:List UInt8)(o:Option AG):Prop:=l=o.toList∧∀e,o=some e→e.Name=n
structure O8(g:AG→AG→List AG)(G:Option AG→Option AG→Option AG):Prop where
 l:∀x:AG,x.Name≠[]→ON (g x Ch) x.Name (G (some x) none)
 r:∀y:AG,y.Name≠[]→ON (g Ch y) y.Name (G none (some y))
 b:∀x y:AG,x.Name=y.Name→x.Name≠[]→ON (g x y) x.Name (G (some x) (some y))
 n:G none none=none
theorem gO{o:Option AG}{j}{rest}(A:∀e,o=some e→e.Name=j)(m:∀e∈rest,Au j e.Name=true)(q:Bj rest):Bj (o.toList++rest)∧∀n,Ay (o.toList++rest) n=if j=n then o else Ay rest n:=by
 cases o with
 | none=>
  refine⟨q,λn=>?_⟩
  split
  ·rename_i h;subst h;exact HE λe l=>EZ (m e l)
  ·rfl
 | some x=>
  have w:=A x rfl
  refine⟨EQ.2 ⟨λe l=>by rw[w];exact m e l,q⟩,λn=>?_⟩
  show Ay (x::rest) n=_
  rw[Ay,w]
def Nm(l:List AG):Prop:=∀e∈l,e.Name≠[]
theorem XD{g}{G}(hg:O8 g G):∀(m:Nat) (a b:List AG),a.length+b.length=m→Bj a→Bj b→Nm a→Nm b →
  (∀n,(∀e∈a,Au n e.Name=true)→(∀e∈b,Au n e.Name=true)→∀e∈DH g a b,Au n e.Name=true)∧Bj (DH g a b)∧∀n,Ay (DH g a b) n=G (Ay a n) (Ay b n):=by
 intro m
 induction m using Nat.strongRecOn with
 | _ m ih=>
  intro a b U X V T M
  have tail:∀ {l:List AG} {J:List UInt8} {o:Option AG} {a' b':List AG},ON l J o→a'.length+b'.length<m→Bj a'→Bj b'→Nm a'→Nm b'→(∀e∈a',Au J e.Name=true)→(∀e∈b',Au J e.Name=true) →
    (∀n,Au n J=true→∀e∈l++DH g a' b',Au n e.Name=true)∧Bj (l++DH g a' b')∧∀n,Ay (l++DH g a' b') n=if J=n then o else G (Ay a' n) (Ay b' n):=by
   rintro l J o a' b' ⟨rfl,ho⟩ q Z a0 a1 a2 w C
   obtain⟨i1,i2,i3⟩:=ih _ q a' b' rfl Z a0 a1 a2
   obtain⟨j1,j2⟩:=gO ho (i1 J w C) i2
   refine⟨λn B e j=>?_,j1,λn=>by rw[j2 n,i3 n]⟩
   rcases oe.1 j with j | j
   ·rw[Option.mem_toList] at j;rw[ho e j];exact B
   ·exact FE B (i1 J w C e j)
  cases a with
  | nil=>
   cases b with
   | nil=>exact⟨λn _ _ e j=>by simp[DH] at j,by simp[DH,Bj],λn=>by simp[DH,Ay,hg.n]⟩
   | cons y b=>
    have w:=EQ.1 V
    have hy:=M y (nc ..)
    rw[DH]
    obtain⟨E,F,I⟩:=tail (a':=[]) (b':=b) (hg.r y hy) (by simp at U ⊢;omega) X w.2 T (λe j=>M e (nY _ j)) (λe j=>by cases j) w.1
    refine⟨λn _ h e j=>E n (h y (nc ..)) e j,F,λn=>?_⟩
    rw[I n]
    conv=>rhs;rw[Ay,Ay]
    split
    ·rfl
    ·rfl
  | cons x a=>
   have w:=EQ.1 X
   have hx:=T x (nc ..)
   cases b with
   | nil=>
    rw[DH]
    obtain⟨E,F,I⟩:=tail (a':=a) (b':=[]) (hg.l x hx) (by simp at U ⊢;omega) w.2 V (λe j=>T e (nY _ j)) M w.1 (λe j=>by cases j)
    refine⟨λn h _ e j=>E n (h x (nc ..)) e j,F,λn=>?_⟩
    rw[I n]
    conv=>rhs;rw[Ay,Ay]
    split
    ·rfl
    ·rfl
   | cons y b=>
    have C:=EQ.1 V
    have hy:=M y (nc ..)
    rw[DH]
    split
    ·rename_i q
     obtain⟨E,F,I⟩:=tail (a':=a) (b':=y::b) (hg.l x hx) (by simp at U ⊢;omega) w.2 V (λe j=>T e (nY _ j)) M w.1 (λe j=>by
      rcases nn.1 j with rfl | j
      ·exact q
      ·exact FE q (C.1 e j))
     refine⟨λn h _ e j=>E n (h x (nc ..)) e j,F,λn=>?_⟩
     rw[I n]
     by_cases B:x.Name=n
     ·subst B
      rw[nH rfl,Ay,nH rfl,HE λe j=>by
       rcases nn.1 j with rfl | j
       ·exact EZ q
       ·exact EZ (FE q (C.1 e j))]
     ·rw[nG B];conv=>rhs;rw[Ay,nG B]
    ·rename_i q
     split
     ·rename_i A
      obtain⟨E,F,I⟩:=tail (a':=x::a) (b':=b) (hg.r y hy) (by simp at U ⊢;omega) X C.2 T (λe j=>M e (nY _ j)) (λe j=>by
       rcases nn.1 j with rfl | j
       ·exact A
       ·exact FE A (w.1 e j)) C.1
      refine⟨λn _ h e j=>E n (h y (nc ..)) e j,F,λn=>?_⟩
      rw[I n]
      by_cases B:y.Name=n
      ·subst B
       rw[nH rfl]
       conv=>rhs;rw[HE (l:=x::a) (λe j=>by
        rcases nn.1 j with rfl | j
        ·exact EZ A
        ·exact EZ (FE A (w.1 e j))),Ay,nH rfl]
      ·rw[nG B];conv=>rhs;arg 2;rw[Ay,nG B]
     ·rename_i A
      have O:x.Name=y.Name:=by
       have:=Iv x.Name y.Name
       rw[pg.2 q,pg.2 A] at this
       simpa using this
      obtain⟨E,F,I⟩:=tail (a':=a) (b':=b) (hg.b x y O hx) (by simp at U ⊢;omega) w.2 C.2 (λe j=>T e (nY _ j)) (λe j=>M e (nY _ j)) w.1 (λe j=>by rw[O];exact C.1 e j)
      refine⟨λn h _ e j=>E n (h x (nc ..)) e j,F,λn=>?_⟩
      rw[I n]
      conv=>rhs;rw[Ay,Ay,← O]
      split<;>rfl
def GX:Option AG→Option AG→Option AG
 | o,none=>o
 | _,some y=>if y.Value=[] then none else some y
theorem UR{j}{g}{G}(h:∀x y o,j x y o=o++g x y)(hg:O8 g G){a b}(l:Bj a)(m:Bj b)(q:Nm a)(w:Nm b) :
  Bj (CE j a b [])∧∀n,Ay (CE j a b []) n=G (Ay a n) (Ay b n):=by
 rw[Xh j g h _ a b [] rfl,oV]
 exact(XD hg _ a b rfl l m q w).2
def KK(x y:AG):List AG:=if y.Name=[] then [x] else if y.Value=[] then [] else [y]
theorem Wj:O8 KK GX:=by
 refine⟨λx m=>⟨by simp[KK,GX,Ch],by rintro e ⟨⟩;rfl⟩,λy q=>⟨?_,?_⟩,λx y l m=>⟨?_,?_⟩,rfl⟩
 ·simp only[KK,GX,nG q];split<;>rfl
 ·intro e j;simp only[GX] at j;split at j<;>cases j;rfl
 ·rw[l] at m;simp only[KK,GX,nG m];split<;>rfl
 ·intro e j;simp only[GX] at j;split at j<;>cases j;exact l.symm
theorem Tn(x y o):FB x y o=o++KK x y:=by unfold FB KK;split;rfl;split;simp;rfl
theorem ix{l:List AG}(h:∀k,k+1<l.length→Au l[k]!.Name l[k+1]!.Name=true):Bj l:=by
 induction l with
 | nil=>exact List.Pairwise.nil
 | cons x l w=>
  have m:=w λk A=>by have:=h (k+1) (by simp;omega);simpa using this
  refine EQ.2 ⟨λe j=>?_,m⟩
  cases l with
  | nil=>cases j
  | cons y l=>
   have q:Au x.Name y.Name=true:=by have:=h 0 (by simp);simpa using this
   rcases nn.1 j with rfl | j
   ·exact q
   ·exact FE q ((EQ.1 m).1 e j)
theorem JI{l:List AG}{ch:Bool}(h:Bz l ch=0):Bj l∧Nm l∧(ch=false→∀e∈l,e.Value≠[]):=by
 have hn:∀k,k<l.length→EM l ch k=none:=by
  intro k hk
  unfold Bz at h
  cases hf:(List.range l.length).findSome? (EM l ch) with
  | none=>exact(UW _ _).1 hf k hk
  | some r=>
   rw[hf] at h
   obtain⟨j,_,hj⟩:=oO hf
   exfalso
   unfold EM at hj
   simp only[oX] at h
   subst h
   repeat' split at hj
   all_goals simp at hj
 have hname:∀k,k<l.length→D9 l[k]!.Name=true∧¬ (DO l[k]!.Value=false∧¬ (ch=true∧l[k]!.Value=[]))∧¬ (0<k∧Au l[k-1]!.Name l[k]!.Name=false):=by
  intro k hk
  have:=hn k hk
  unfold EM at this
  split at this
  ·cases this
  ·split at this
   ·cases this
   ·split at this
    ·cases this
    ·exact⟨by rcases hx:D9 l[k]!.Name with _ | _;exact absurd hx (by assumption);rfl,‹_›,‹_›⟩
 refine⟨ix λk hk=>?_,λe he=>?_,λhc e he=>?_⟩
 ·have:=(hname (k+1) hk).2.2
  rw[qk] at this
  simpa using this
 ·obtain⟨k,hk,rfl⟩:=oL.1 he
  have:=(hname k hk).1
  rw[nW l k hk] at this
  intro e0
  rw[e0] at this
  simp[D9] at this
 ·obtain⟨k,hk,rfl⟩:=oL.1 he
  have:=(hname k hk).2.1
  rw[nW l k hk,hc] at this
  intro e0
  apply this
  rw[e0]
  exact⟨rfl,by simp⟩
theorem UM(p:AG→Bool)(h:AG→AG)(j:∀x,(h x).Name=x.Name):∀(l o:List AG),Bj l→Bj o →
  Bj (l.foldl (λo x=>if p x then Ck o (h x) else o) o)∧∀n,Ay (l.foldl (λo x=>if p x then Ck o (h x) else o) o) n=match Ay l n with | some x=>if p x then some (h x) else Ay o n | none=>Ay o n
 | [],o,_,m=>⟨m,λn=>rfl⟩
 | x::l,o,B,m=>by
  have A:=EQ.1 B
  have w:Bj (if p x then Ck o (h x) else o):=by split;exact TK _ m;exact m
  obtain⟨C,E⟩:=UM p h j l _ A.2 w
  refine⟨C,λn=>?_⟩
  rw[oK,E n,Ay]
  by_cases q:x.Name=n
  ·subst q
   rw[nH rfl,HE λe F=>EZ (A.1 e F)]
   cases hp:p x
   ·simp[hp]
   ·simp[hp,SK,j]
  ·rw[nG q]
   cases I:Ay l n with
   | some z => 
    cases hp:p x
    ·simp[hp]
    ·simp[hp,SK,j,q]
   | none=>
    cases hp:p x
    ·simp[hp]
    ·simp[hp,SK,j,q]
theorem fV(p:AG→Bool)(h:AG→AG)(l o:List AG):(l.foldl (λo x=>if p x then Ck o (h x) else o) o).length≤o.length+l.length:=by
 induction l generalizing o with
 | nil=>simp
 | cons x l j=>
  rw[oK]
  have m:=j (if p x then Ck o (h x) else o)
  have q:(if p x then Ck o (h x) else o).length≤o.length+1:=by split;exact Ud _ _;omega
  simp only[oG]
  omega
def FL(l o:List AG):List AG:=l.foldl (λo x=>if(λ_=>true) x then Ck o (id x) else o) o
theorem Rg{l o}(j:Bj l)(m:Bj o):Bj (FL l o)∧∀n,Ay (FL l o) n=match Ay l n with | some x=>some x | none=>Ay o n:=by
 obtain⟨q,w⟩:=UM (λ_=>true) id (λ_=>rfl) l o j m
 refine⟨q,λn=>?_⟩
 unfold FL
 rw[w n]
 cases Ay l n<;>simp
theorem VQ(l o:List AG):(FL l o).length≤o.length+l.length:=fV _ _ _ _
theorem WQ{f}(l o:List AG)(q:Bj o)(C:o.length+l.length≤1099511627776)
 (w:∀b (k:Nat), k<l.length→f (b, (k:Int))=(AB (JV b l[k]!) λo2 => AB (AR .i64 ((k:Int)+1)) λx => some (.inl (o2, x)))) (A:∀b, f (b, (l.length:Int))=some (.inr b)):iter f (o, 0)=some (FL l o) := by
  unfold FL
  refine jn l _ (λb k => Bj b∧b.length≤o.length+k) (λb k m ⟨j, B⟩ => ?_) (λb k m ⟨j, B⟩ => ?_) A o ⟨q, by omega⟩
  · have := Ud b l[k]!
    exact⟨TK _ j, by show(Ck b l[k]!).length≤_;omega⟩
  · rw[w b k m, Yr b _ j (by omega), AD, An (by omega)];rfl
def Eo(l:List AG):List AG:=l.filter λa=>!(a.Value=[])
theorem YF{l}(h:Bj l):Bj (Eo l)∧∀n,Ay (Eo l) n=(Ay l n).filter λa=>!(a.Value=[]):=by
 induction l with
 | nil=>exact⟨List.Pairwise.nil,λn=>rfl⟩
 | cons x l C=>
  have w:=EQ.1 h
  obtain⟨A,B⟩:=C w.2
  have j:∀e∈Eo l,Au x.Name e.Name=true:=λe q=>w.1 e (o5.1 q).1
  by_cases m:x.Value=[]
  ·have:Eo (x::l)=Eo l:=by simp[Eo,m]
   rw[this]
   refine⟨A,λn=>?_⟩
   rw[Ay]
   split
   ·rename_i E;subst E
    rw[HE λe q=>EZ (j e q)]
    simp[Option.filter,m]
   ·exact B n
  ·have:Eo (x::l)=x::Eo l:=by simp[Eo,m]
   rw[this]
   refine⟨EQ.2 ⟨j,A⟩,λn=>?_⟩
   rw[Ay,Ay]
   split
   ·simp[Option.filter,m]
   ·exact B n
theorem cE(l q:List AG)(C:Bj l)(hc:Bj q)(h:l.length+q.length≤1099511627776):Kd l q=some (Eo (FL q (FL l []))):=by
 unfold Kd
 have B:Bj ([]:List AG):=List.Pairwise.nil
 have E:=(Rg C B).1
 have A:=VQ l []
 have F:=VQ q (FL l [])
 rw[WQ l [] B (by simp;omega) (λb k j=>by unfold Lp;rw[nH (by simpa using j),Ac j];rfl) (λb=>by unfold Lp;rw[nG (by simp)]),AD,
  WQ q _ E (by simp at A;omega) (λb k j=>by unfold MM;rw[nH (by simpa using j),Ac j];rfl) (λb=>by unfold MM;rw[nG (by simp)]),AD]
 generalize FL q (FL l [])=r at F
 rw[Yf r (λo x=>if x.Value=[] then o else o++[x]) (λb k=>b.length≤k) (λb k j I=>by split;omega;simp;omega) (λb k j I=>by
  unfold N9
  rw[nH (by simpa using j),Ac j,AD,An (by simp at A;omega)]
  generalize r[k]! = x
  by_cases w:x.Value=[]
  ·simp[w]
  ·have:=Jx (o:=b) (x:=x) (by simp at A;omega)
   simp[w,this]) (λb=>by unfold N9;rw[nG (by simp)]) [] (by simp),AD]
 have:∀(m o:List AG),m.foldl (λo x=>if x.Value=[] then o else o++[x]) o=o++Eo m:=by
  intro m
  induction m with
  | nil=>intro o;simp[Eo]
  | cons x m J=>
   intro o
   rw[oK,J]
   by_cases w:x.Value=[]
   ·simp[w,Eo]
   ·simp[w,Eo]
 rw[this];rfl
theorem gL{l j}(w:Bz l false=0)(A:Bz j true=0):CE FB l j []=Eo (FL j (FL l [])):=by
 obtain⟨m,B,v1⟩:=JI w
 obtain⟨q,C,_⟩:=JI A
 have E:Bj ([]:List AG):=List.Pairwise.nil
 obtain⟨F,I⟩:=Rg m E
 obtain⟨J,M⟩:=Rg q F
 obtain⟨O,T⟩:=YF J
 obtain⟨U,m2⟩:=UR Tn Wj m q B C
 refine UG U O λn=>?_
 rw[m2,T,M,I]
 cases Z:Ay j n with
 | some y=>
  simp only[GX,Option.filter]
  by_cases V:y.Value=[]<;>simp[V]
 | none=>
  cases X:Ay l n with
  | some x=>simp[GX,Option.filter,v1 rfl x (Om X).2]
  | none=>simp[GX,Ay,Option.filter]
theorem lq{ρ:Type}(g:AG→Option ρ)(l:List AG):(List.range l.length).findSome? (λk=>g l[k]!)=l.findSome? g:=by
 induction l with
 | nil=>rfl
 | cons a l j=>
  rw[oG,List.range_succ_eq_map,ol,List.findSome?_map,ol]
  have:(List.range l.length).findSome? ((λk=>g (a::l)[k]!) ∘ Nat.succ)=l.findSome? g:=by
   rw[← j];exact TZ λk _=>by simp
  rw[this]
  simp
theorem Zv{ρ:Type}(l:List AG)(n:List UInt8)(v:AG→ρ):(l.findSome? λx=>if x.Name=n then some (v x) else none)=(Ay l n).map v:=by
 induction l with
 | nil=>rfl
 | cons x l j=>
  rw[ol,Ay]
  by_cases h:x.Name=n
  ·simp[h]
  ·simp[h,j]
theorem gF(l:List AG)(n:List UInt8):E8 l n=match Ay l n with | some x=>x.Value | none=>[]:=by
 unfold E8
 rw[lq (λx=>if x.Name=n then some x.Value else none) l,Zv l n (·.Value)]
 cases Ay l n<;>rfl
theorem jA j(h:∀x y o,(j x y o).length≤o.length+1):∀(m:Nat) (a b c:List AG),a.length+b.length=m→(CE j a b c).length≤c.length+m:=by
 intro m
 induction m using Nat.strongRecOn with
 | _ m q=>
  intro a b c l
  cases a with
  | nil=>
   cases b with
   | nil=>simp[CE]
   | cons y b=>rw[CE];have:=q (m-1) (by simp at l;omega) [] b (j Ch y c) (by simp at l ⊢;omega);have:=h Ch y c;simp at l;omega
  | cons x a=>
   cases b with
   | nil=>rw[CE];have:=q (m-1) (by simp at l;omega) a [] (j x Ch c) (by simp at l ⊢;omega);have:=h x Ch c;simp at l;omega
   | cons y b=>
    rw[CE]
    split
    ·have:=q (m-1) (by simp at l;omega) a (y::b) (j x Ch c) (by simp at l ⊢;omega);have:=h x Ch c;simp at l;omega
    ·split
     ·have:=q (m-1) (by simp at l;omega) (x::a) b (j Ch y c) (by simp at l ⊢;omega);have:=h Ch y c;simp at l;omega
     ·have:=q (m-2) (by simp at l;omega) a b (j x y c) (by simp at l ⊢;omega);have:=h x y c;simp at l;omega
theorem Ht{σ β:Type}{f}(n:Nat)(R:Nat→σ→Prop)(Q:β→Prop)
 (A:∀k s, k<n→R k s→(∃j, f s=some (.inl j)∧R (k+1) j)∨(∃b, f s=some (.inr b)∧Q b))
 (B:∀s, R n s→∃b, f s=some (.inr b)∧Q b) {s} (C:R 0 s):∃b, iter f s=some b∧Q b := by
  have key:∀m k s, k+m=n→R k s→∃b, iter f s=some b∧Q b := by
    intro m
    induction m with
    | zero =>
      intro k s E l
      obtain rfl:k=n := by omega
      obtain⟨b, F, I⟩ := B s l
      exact⟨b, BL F, I⟩
    | succ m J =>
      intro k s E l
      rcases A k s (by omega) l with ⟨j, q, w⟩ | ⟨b, q, w⟩
      · obtain⟨b, M, O⟩ := J (k+1) j (by omega) w
        exact⟨b, by rw[Bm q, M], O⟩
      · exact⟨b, BL q, w⟩
  exact key n 0 s (by omega) C
theorem iq{α:Type}[Inhabited α]{l:List α}{k}(h:k<l.length):l.drop k=l[k]!::l.drop (k+1):=by
 rw[nu h,nW l k h]
theorem Ha{α:Type}[Inhabited α]{l:List α}{k}(h:k<l.length):l.take (k+1)=l.take k++[l[k]!]:=by
 rw[List.take_add_one,nM h,nW l k h];rfl
theorem Bv{α:Type}[Inhabited α]{l:List α}{k}(h:k<l.length):l[k]! ∈ l:=by
 rw[nW l k h];exact nq h
theorem KS{x}(j : -9223372036854775808≤x)(l:x≤9223372036854775807):AR .i64 x=some x:=CH j l
theorem Nj x j l:CW x j l=some ((j≤x)&&(x≤l)):=by
 unfold CW
 rfl
theorem FH{α σ β γ:Type}[Inhabited α]{f}(l:List α)(mk:γ→Nat→σ)(j:List α→γ→β)(I:Nat→γ→Prop)
 (B:∀k c, k<l.length→I k c→(∃q, f (mk c k)=some (.inl (mk q (k+1)))∧I (k+1) q∧j (l[k]!::l.drop (k+1)) c=j (l.drop (k+1)) q)∨f (mk c k)=some (.inr (j (l[k]!::l.drop (k+1)) c)))
 (C:∀c, I l.length c→f (mk c l.length)=some (.inr (j [] c))) (c:γ) (E:I 0 c) (s:σ) (F:s=mk c 0):iter f s=some (j l c) := by
  subst F
  have key:∀m k c, k+m=l.length→I k c→iter f (mk c k)=some (j (l.drop k) c) := by
    intro m
    induction m with
    | zero =>
      intro k c J w
      obtain rfl:k=l.length := by omega
      rw[List.drop_length]
      exact BL (C c w)
    | succ m M =>
      intro k c J w
      rw[iq (by omega)]
      rcases B k c (by omega) w with ⟨q, A, O, T⟩ | A
      · rw[Bm A, M (k+1) q (by omega) O, T]
      · exact BL A
  have := key l.length 0 c (by omega) E
  rwa [pQ] at this
theorem LY{o:List Int}{x}(h:o.length+1≤1099511627776):app 8 o [x]=some (o++[x]):=by
 unfold app;rw[nH (by simp;omega)]
def GN(c:Int):Bool:=(c=9)||(c=10)||((32≤c)&&(c≤126))||((160≤c)&&(c≤55295))||((57344≤c)&&(c≤1114111))
def Ez(x:AS):Int:=
 if(x.Char=0∧x.Ref=0)∨(x.Char≠0∧x.Ref≠0) then 4 else if(x.Char≠0∧GN x.Char=false)∨(x.Ref≠0∧¬ (1≤x.Ref∧x.Ref≤1073741824)) then 2 else Bz x.Attrs false
def Gp(x:AS):Prop:=x.Attrs.length≤9223372036854775807∧HQ x.Attrs
theorem TI c:J7 c=some (GN c):=by
 unfold J7 GN
 congr 1
 rw[ns]
 simp only[nT,nR,nK]
 omega
theorem Ui c:KC c=some (GN c):=by
 unfold KC GN
 rw[Nj,Nj,Nj]
 generalize decide (c=9)=j
 generalize decide (c=10)=l
 generalize ((32≤c)&&(c≤126))=a3
 generalize ((160≤c)&&(c≤55295))=a4
 generalize ((57344≤c)&&(c≤1114111))=a5
 cases j<;>cases l<;>cases a3<;>cases a4<;>cases a5<;>rfl
theorem Vo(x:AS)(h:Gp x):Nq x=some (Ez x):=by
 unfold Nq Ez
 rw[TI,PS _ h.2 h.1]
 by_cases c:x.Char=0
 ·by_cases r:x.Ref=0
  ·simp[c,r]
  ·by_cases q:1≤x.Ref∧x.Ref≤1073741824
   ·have j:¬ x.Ref<1:=by omega
    have l:¬ 1073741824<x.Ref:=by omega
    simp[c,r,q,j,l]
   ·have j:x.Ref<1∨1073741824<x.Ref:=by omega
    simp[c,r,q,j]
 ·by_cases r:x.Ref=0
  ·cases m:GN x.Char<;>simp[c,r,m]
  ·simp[c,r]
theorem Wl(x:AS)(h:Gp x):N8 x=some (Ez x):=by
 unfold N8 Ez
 rw[Ui,Qh _ _ h.2 h.1,Nj]
 by_cases c:x.Char=0
 ·by_cases r:x.Ref=0
  ·simp[c,r]
  ·by_cases q:1≤x.Ref∧x.Ref≤1073741824
   ·simp[c,r,q]
   ·have j:((1≤x.Ref)&&(x.Ref≤1073741824))=false:=by rw[← ny];simpa using q
    simp[c,r,q,j]
 ·by_cases r:x.Ref=0
  ·cases l:GN x.Char<;>simp[c,r,l]
  ·simp[c,r]
def He(f:List AS)(k:Nat):Option Int:=if Ez f[k]! = 0 then none else some (Ez f[k]!)
def SS(f:List AS):Int:=((List.range f.length).findSome? (He f)).getD 0
def ip:List UInt8:=[104,105,100,100,101,110]
def XG:List UInt8:=[111,110]
def iw:List UInt8:=[99,117,116]
def cO:List UInt8:=[97,100,100]
def BG(x:AS)(mode:Int):Bool:=(E8 x.Attrs ip=XG)||((mode=0)&&!(E8 x.Attrs iw=[]))||((mode=1)&&!(E8 x.Attrs cO=[]))
def seen(f:List AS)(mode:Int)(k:Nat):Bool:=!BG f[k]! mode||((k+1=f.length)&&(f[k]!.Char=10))
def shown(f:List AS)(mode:Int)(k:Nat):List Int:=((List.range k).filter (seen f mode)).map λ(i:Nat)=>(i:Int)
theorem B8{p}[Decidable p](h:¬ p):(!decide p)=true:=by simp[h]
theorem Cw{p}[Decidable p](h:p):¬ ((!decide p)=true):=by simp[h]
def HL(l:List AG):Prop:=l.length≤1073741824∧HQ l
inductive Un where
 | a (e:AS)
 | r (cut:Bool) (at_:List AG)
theorem Wz{α:Type}{l:List α}{k:Nat}{x:α} : l.set ((k:Int).toNat) x=l.set k x:=by simp
theorem kn{α β:Type}[Inhabited α]{f}(l:List α)(g:α→β)(z:β)
 (h:∀(k:Nat) (out:List β), k<l.length→out.length=l.length→f ((k:Int), out)=some (.inl (((k+1:Nat):Int), out.set k (g l[k]!)))) (j:∀out, f ((l.length:Int), out)=some (.inr out)) :
    iter f (0, List.replicate l.length z)=some (l.map g) := by
  have key:∃r, iter f (0, List.replicate l.length z)=some r∧r=l.map g := by
    refine Ht l.length (λk q => q=((k:Int), (l.take k).map g++List.replicate (l.length - k) z)) _ ?_ ?_ (by simp)
    · rintro k q w rfl
      refine .inl ⟨_, h k _ w (by simp;omega), ?_⟩
      congr 1
      obtain⟨m, A⟩:∃m, l.length - k=m+1 := ⟨l.length - k - 1, by omega⟩
      rw[A, List.replicate_succ, Ha w, oz, qR _ _ (by rw[ni, oW];omega), show l.length - (k+1)=m by omega]
      have:k - ((l.take k).map g).length=0 := by simp;omega
      rw[this, List.set_cons_zero, oR];rfl
    · rintro q rfl
      refine⟨_, j _, by simp⟩
  obtain⟨r, B, C⟩ := key
  rw[B, C]
theorem Qe{l:List AG}(h:l.length≤1073741824):app 32 [] l=some l:=by
 unfold app;rw[nH];rfl;simp;omega
theorem X4{α:Type}{n:Nat}(z:α)(h:n≤4294967296):mk 40 (n:Int) z=some (List.replicate n z):=by
 unfold mk;rw[nH (by omega)];simp
theorem aQ(f:List AS)(l:f.length≤4294967296)(h:∀e∈f,HL e.Attrs):NS f=some f:=by
 unfold NS
 rw[X4 _ l,AD]
 have:=kn (f:=λ(a:Int × (List AS))=>IU f a.1 a.2) f id (AS.mk 0 0 []) (λk out j q=>by
  have m:=(h _ (Bv j)).1
  show IU f (k:Int) out=_
  unfold IU
  rw[nH (by simpa using j),Ac j,AD,Qe m,AD,Ac (by omega),AD,An (by omega),AD,Wz]
  rfl) (λout=>by
  show IU f (f.length:Int) out=_
  unfold IU
  rw[nG (by simp)])
 rw[this,List.map_id];rfl
theorem gG{α:Type}(l:List α)(n:Int)(j:0≤n)(h:n≤l.length):C0 l 0 n=some (l.take n.toNat):=by
 unfold C0;rw[nH (by omega)];simp
theorem kG(x y:AS)(h:x.Attrs.length≤1073741824):L0 x y=some (decide (x=y)):=by
 unfold L0
 rw[Q4 _ _ (by omega)]
 obtain⟨j,l,m⟩:=x
 obtain⟨q,w,A⟩:=y
 by_cases B:j=q<;>by_cases C:l=w<;>by_cases E:m=A<;>simp[B,C,E,default]
theorem Qs{α:Type}[Inhabited α][DecidableEq α]{a b:List α}(l:a.length=b.length)(h:((List.range a.length).all λk=>decide (a[k]! = b[k]!))=true):a=b:=by
 apply qs l
 intro k j m
 have:=nj.1 h k (nm.2 j)
 simp only[nK] at this
 rwa [nW a k j,nW b k m] at this
theorem Qz{α:Type}[Inhabited α][DecidableEq α](a:List α):((List.range a.length).all λk=>decide (a[k]! = a[k]!))=true:=by
 rw[nj];intro k _;rw[nJ rfl]
theorem XR(a b:List AS)(q:a.length≤9223372036854775806)(h:∀e∈a,e.Attrs.length≤1073741824):Nd a b=some (decide (a=b)):=by
 unfold Nd
 by_cases j:a.length=b.length
 ·rw[nG (by simp[j]),Bo (n:=a.length) (λk=>if decide (a[k]! = b[k]!) then none else some false) (λk l=>by
   unfold MQ
   rw[nH (by simpa using l),Ac l,Ac (by omega),AD,AD,kG _ _ (h _ (Bv l)),AD,An (by omega)]
   generalize a[k]! = x
   generalize b[k]! = y
   by_cases h:x=y<;>simp[h,B2]) (by unfold MQ;rw[nG (by simp)]),JU,Eh]
  by_cases h:a=b
  ·subst h;rw[Qz,nJ rfl];rfl
  ·rw[nI h]
   have:((List.range a.length).all λk=>decide (a[k]! = b[k]!))=false:=by
    rw[← ny];exact λm=>h (Qs j m)
   rw[this];rfl
 ·rw[nH (by simp;omega),nI (by rintro rfl;exact j rfl)]
theorem Rn{κ}(j:∀a,a.Name.length+a.Value.length+1≤κ a){l:List AG}(q:(l.map κ).sum≤1048576):HL l:=by
 have w:=KB (μ:=κ) (λa=>by have:=j a;omega) l
 refine⟨by omega,λa m=>?_⟩
 have A:=G6 (μ:=κ) m
 have:=j a
 omega
theorem jK{ν}{κ}(j:∀e,(e.Attrs.map κ).sum+1≤ν e)(l:∀a,a.Name.length+a.Value.length+1≤κ a){f:List AS}(q:(f.map ν).sum≤1048576):f.length≤1048576∧∀e∈f,HL e.Attrs:=by
 have w:=KB (μ:=ν) (λe=>by have:=j e;omega) f
 refine⟨by omega,λe m=>Rn l ?_⟩
 have A:=G6 (μ:=ν) m
 have:=j e
 omega
def W0:Wx:=⟨[],0,0⟩
def Pp(f:List AS):Int:=if SS f≠0 then SS f else if f=[]∨f[f.length-1]!.Char≠10 then 11 else 0
theorem YH{f}{k}{r}(h:He f k=some r):r≠0:=by
 unfold He at h
 split at h
 ·cases h
 ·rename_i j;cases h;exact j
theorem Ty(f:List AS)(C:f.length≤1073741824):(Aw (some (DD ((List.range f.length).findSome? (He f)))) λ(_:Unit)=>
  AB (gd ((true==true)&&((decide ((f.length:Int)=0))==false)) (AR .i64 ((f.length:Int)-1))) λ(q:Int)=>
  AB (gd ((true==true)&&((decide ((f.length:Int)=0))==false)) (AL f q)) λ(w:AS)=>
  if(true&&(((f.length:Int)=0)||(!(w.Char=10)))) then some (11:Int) else some 0)=some (Pp f):=by
 rw[Eh]
 unfold Pp SS
 cases A:(List.range f.length).findSome? (He f) with
 | some r=>
  have l:r≠0:=by
   obtain⟨k,B⟩:=oO A
   exact YH B.2
  dsimp only [Option.getD]
  rw[nH l]
 | none=>
  dsimp only [Option.getD]
  rw[nG (by decide)]
  by_cases m:f=[]
  ·subst m;rfl
  ·have E:0<f.length:=pH.2 m
   have hd:decide ((f.length:Int)=0)=false:=nI (by omega)
   rw[hd,show((true==true)&&(false==false))=true from rfl,Aq,show((f.length:Int)-1)=((f.length-1:Nat):Int) by omega,CH (by omega) (by omega),AD,Aq,Ac (by omega),AD]
   by_cases j:f[f.length-1]!.Char=10
   ·rw[nG (by rw[nJ j];decide),nG (λh=>h.elim m λh=>h j)]
   ·rw[nH (by rw[nI j];decide),nH (.inr j)]
theorem TO(f:List AS)(h:∀x∈f,Gp x)(l:f.length≤1073741824):Ft f true=some (Pp f):=by
 unfold Ft
 rw[Bo (n:=f.length) (He f) (λk j=>by
  unfold Jy He
  rw[nH (by simpa using j),Ac j,AD,An (by omega),Vo _ (h _ (Bv j)),AD]
  by_cases e:Ez f[k]! = 0
  ·rw[nG (Cw e),nH e];rfl
  ·rw[nH (B8 e),nG e];rfl) (by unfold Jy;rw[nG (by simp)])]
 exact Ty f l
theorem lI(f:List AS)(h:∀x∈f,Gp x)(l:f.length≤1073741824):Ib f true=some (Pp f):=by
 unfold Ib
 rw[Bo (n:=f.length) (He f) (λk j=>by
  unfold JS He
  rw[nH (by simpa using j),Ac j,AD,An (by omega),Wl _ (h _ (Bv j)),AD]
  by_cases e:Ez f[k]! = 0
  ·rw[nG (Cw e),nH e];rfl
  ·rw[nH (B8 e),nG e];rfl) (by unfold JS;rw[nG (by simp)])]
 exact Ty f l
instance:Inhabited Un:=⟨.r false []⟩
def off(n:List UInt8):AG:=⟨n,[]⟩
theorem lA:Fl.length=256:=by decide +kernel
theorem gS(s:List UInt8) k(j:k≤s.length):C0 s (k:Int) (s.length:Int)=some (s.drop k):=by
 unfold C0
 rw[nH (by omega)]
 congr 1
 rw[pL (by simp),oP]
def H2(t:Bool)(f:List AS)(k:Nat):Option Int:=if Ez f[k]! = 0 then(if t=false∧f[k]!.Ref=0 then some 8 else none) else some (Ez f[k]!)
theorem fS{x:AS}(h:Ez x=0):(x.Ref=0↔x.Char≠0):=by
 unfold Ez at h
 by_cases c:x.Char=0<;>by_cases r:x.Ref=0<;>simp[c,r] at h ⊢
theorem Up(f:List AS)(h:∀x∈f,Gp x)(l:f.length≤1073741824):Ft f false=some (((List.range f.length).findSome? (H2 false f)).getD 0):=by
 unfold Ft
 rw[Bo (n:=f.length) (H2 false f) (λk j=>by
  unfold Jy H2
  rw[nH (by simpa using j),Ac j,AD,An (by omega),Vo _ (h _ (Bv j)),AD]
  generalize f[k]! = x
  by_cases e:Ez x=0
  ·rw[nG (Cw e),nH e]
   by_cases r:x.Ref=0
   ·rw[nH (show(!false&&(x.Ref=0))=true by rw[nJ r];rfl),nH ⟨rfl,r⟩];rfl
   ·rw[nG (show ¬ (!false&&(x.Ref=0))=true by rw[nI r];decide),nG (λh=>r h.2)];rfl
  ·rw[nH (B8 e),nG e];rfl) (by unfold Jy;rw[nG (by simp)])]
 cases (List.range f.length).findSome? (H2 false f)<;>rfl
theorem fF(f:List AS)(h:∀x∈f,Gp x)(q:f.length≤1073741824):Ib f false=some (((List.range f.length).findSome? (H2 false f)).getD 0):=by
 unfold Ib
 rw[Bo (n:=f.length) (H2 false f) (λk j=>by
  unfold JS H2
  rw[nH (by simpa using j),Ac j,AD,An (by omega),Wl _ (h _ (Bv j)),AD]
  generalize f[k]! = x
  by_cases e:Ez x=0
  ·rw[nG (Cw e),nH e]
   have m:=fS e
   by_cases r:x.Ref=0
   ·rw[nH (show(!false&&!(x.Char=0))=true by rw[nI (m.1 r)];rfl),nH ⟨rfl,r⟩];rfl
   ·have l:x.Char=0:=ne λl=>r (m.2 l)
    rw[nG (show ¬ (!false&&!(x.Char=0))=true by rw[nJ l];decide),nG (λh=>r h.2)];rfl
  ·rw[nH (B8 e),nG e];rfl) (by unfold JS;rw[nG (by simp)])]
 cases (List.range f.length).findSome? (H2 false f)<;>rfl
theorem iQ(f:List AS) t(h:∀x∈f,Gp x)(j:f.length≤1073741824):∃r,Ft f t=some r∧Ib f t=some r:=by
 cases t
 ·exact⟨_,Up f h j,fF f h j⟩
 ·exact⟨_,TO f h j,lI f h j⟩
theorem kZ(a b:List AS)(M:a.length≤9223372036854775806)(h:∀e∈a,e.Attrs.length≤1073741824):RT a b=some (decide (a=b)):=by
 unfold RT
 by_cases j:a.length=b.length
 ·rw[nG (by simp[j]),Bo (n:=a.length) (λk=>if decide (a[k]! = b[k]!) then none else some false) (λk l=>by
   unfold Sh
   have O:=h _ (Bv l)
   rw[nH (by simpa using l),Ac l,Ac (by omega),AD,AD,Qo _ _ (by omega),An (by omega)]
   generalize a[k]! = x
   generalize b[k]! = y
   obtain⟨m,q,w⟩:=x
   obtain⟨A,B,C⟩:=y
   by_cases E:m=A<;>by_cases F:q=B<;>by_cases I:w=C<;>simp[E,F,I,B2,default]) (by unfold Sh;rw[nG (by simp)]),JU,Eh]
  by_cases h:a=b
  ·subst h;rw[Qz,nJ rfl];rfl
  ·rw[nI h]
   have:((List.range a.length).all λk=>decide (a[k]! = b[k]!))=false:=by
    rw[← ny];exact λJ=>h (Qs j J)
   rw[this];rfl
 ·rw[nH (by simp;omega),nI (by rintro rfl;exact j rfl)]
theorem X5(f:List AS)(q:f.length≤1073741824):∃r,iter (λ(a:Int × (List Int))=>E4 f a.1 a.2) (0,[])=some r∧r.length≤f.length:=by
 refine Ht f.length (λk l=>l.1=(k:Int)∧l.2.length≤k) _ ?_ ?_ ⟨rfl,by simp⟩
 ·rintro k ⟨x,out⟩ m ⟨rfl,j⟩
  dsimp only at j ⊢
  left
  unfold E4
  rw[nH (by simpa using m),Ac m,AD]
  by_cases r:f[k]!.Ref=0
  ·rw[nG (Cw r),AD,An (by omega),AD]
   exact⟨_,rfl,rfl,by dsimp only;omega⟩
  ·rw[nH (B8 r),LY (by omega),AD,AD,An (by omega),AD]
   exact⟨_,rfl,rfl,by dsimp only;rw[List.length_append,List.length_singleton];omega⟩
 ·rintro⟨x,out⟩ ⟨rfl,j⟩
  dsimp only at j ⊢
  unfold E4
  rw[nG (by simp)]
  exact⟨_,rfl,j⟩
theorem Io{α:Type}[Inhabited α][DecidableEq α]{f}(a b:List α)(j:a.length=b.length)
 (l:∀k:Nat, k<a.length→f k=B2 k (if decide (a[k]! = b[k]!) then none else some false)) (m:f a.length=some (.inr (.nrm ()))) :
    (Aw (iter f 0) λ(_:Unit) => some true)=some (decide (a=b)) := by
  rw[Bo (n := a.length) (λk => if decide (a[k]! = b[k]!) then none else some false) l m, JU, Eh]
  by_cases h:a=b
  · subst h;rw[Qz, nJ rfl];rfl
  · rw[nI h]
    have:((List.range a.length).all λk => decide (a[k]! = b[k]!))=false := by
      rw[← ny];exact λq => h (Qs j q)
    rw[this];rfl
theorem Vm(x y:Aj):((x.Row=y.Row)&&((x.Col=y.Col)&&((x.H=y.H)&&((x.W=y.W)&&true))))=decide (x=y):=by
 obtain⟨j,l,m,q⟩:=x
 obtain⟨w,A,B,C⟩:=y
 rw[ns];simp
theorem Tr(x y:At):((x.Clock=y.Clock)&&((x.Site=y.Site)&&((x.Kind=y.Kind)&&((x.Item=y.Item)&&((x.Parent=y.Parent)&&((x.Place=y.Place)&&((x.Name=y.Name)&&((x.Value=y.Value)&&true))))))))=decide (x=y):=by
 obtain⟨j,l,m,q,w,A,B,C⟩:=x
 obtain⟨E,F,I,J,M,O,T,U⟩:=y
 rw[ns];simp
theorem bT(a b:List Aj)(m:a.length≤9223372036854775806):Lq a b=some (decide (a=b)):=by
 unfold Lq
 by_cases j:a.length=b.length
 ·rw[nG (by simp[j])]
  exact Io a b j (λk l=>by
   unfold Nk
   rw[nH (by simpa using l),Ac l,Ac (by omega),AD,AD,Vm,An (by omega)]
   generalize a[k]! = x
   generalize b[k]! = y
   by_cases h:x=y<;>simp[h,B2]) (by unfold Nk;rw[nG (by simp)])
 ·rw[nH (by simp;omega),nI (by rintro rfl;exact j rfl)]
theorem cM(a b:List Aj)(m:a.length≤9223372036854775806):Mi a b=some (decide (a=b)):=by
 unfold Mi
 by_cases j:a.length=b.length
 ·rw[nG (by simp[j])]
  exact Io a b j (λk l=>by
   unfold Mx
   rw[nH (by simpa using l),Ac l,Ac (by omega),AD,AD,Vm,An (by omega)]
   generalize a[k]! = x
   generalize b[k]! = y
   by_cases h:x=y<;>simp[h,B2]) (by unfold Mx;rw[nG (by simp)])
 ·rw[nH (by simp;omega),nI (by rintro rfl;exact j rfl)]
theorem cV(a b:List At)(m:a.length≤9223372036854775806):SV a b=some (decide (a=b)):=by
 unfold SV
 by_cases j:a.length=b.length
 ·rw[nG (by simp[j])]
  exact Io a b j (λk l=>by
   unfold Rs
   rw[nH (by simpa using l),Ac l,Ac (by omega),AD,AD,Tr,An (by omega)]
   generalize a[k]! = x
   generalize b[k]! = y
   by_cases h:x=y<;>simp[h,B2]) (by unfold Rs;rw[nG (by simp)])
 ·rw[nH (by simp;omega),nI (by rintro rfl;exact j rfl)]
theorem fm(a b:List At)(m:a.length≤9223372036854775806):Nz a b=some (decide (a=b)):=by
 unfold Nz
 by_cases j:a.length=b.length
 ·rw[nG (by simp[j])]
  exact Io a b j (λk l=>by
   unfold Nu
   rw[nH (by simpa using l),Ac l,Ac (by omega),AD,AD,Tr,An (by omega)]
   generalize a[k]! = x
   generalize b[k]! = y
   by_cases h:x=y<;>simp[h,B2]) (by unfold Nu;rw[nG (by simp)])
 ·rw[nH (by simp;omega),nI (by rintro rfl;exact j rfl)]
theorem ge(x y:Ak)(U:x.Attrs.length≤1073741824):Md x y=some (decide (x=y)):=by
 unfold Md
 rw[Qo _ _ (by omega)]
 obtain⟨j,l,m,q,w⟩:=x
 obtain⟨A,B,C,E,F⟩:=y
 by_cases I:j=A<;>by_cases J:l=B<;>by_cases M:m=C<;>by_cases O:q=E<;>by_cases T:w=F<;>simp[I,J,M,O,T,gd,AD]
theorem X3(x y:Ak)(U:x.Attrs.length≤1073741824):MZ x y=some (decide (x=y)):=by
 unfold MZ
 rw[Q4 _ _ (by omega)]
 obtain⟨j,l,m,q,w⟩:=x
 obtain⟨A,B,C,E,F⟩:=y
 by_cases I:j=A<;>by_cases J:l=B<;>by_cases M:m=C<;>by_cases O:q=E<;>by_cases T:w=F<;>simp[I,J,M,O,T,gd,AD]
theorem eE(a b:List Ak)(m:a.length≤9223372036854775806)(h:∀x∈a,x.Attrs.length≤1073741824):Mc a b=some (decide (a=b)):=by
 unfold Mc
 by_cases j:a.length=b.length
 ·rw[nG (by simp[j])]
  exact Io a b j (λk l=>by
   unfold Nv
   rw[nH (by simpa using l),Ac l,Ac (by omega),AD,AD,ge _ _ (h _ (Bv l)),AD,An (by omega)]
   generalize a[k]! = x
   generalize b[k]! = y
   by_cases h:x=y<;>simp[h,B2]) (by unfold Nv;rw[nG (by simp)])
 ·rw[nH (by simp;omega),nI (by rintro rfl;exact j rfl)]
theorem XL(a b:List Ak)(m:a.length≤9223372036854775806)(h:∀x∈a,x.Attrs.length≤1073741824):Mq a b=some (decide (a=b)):=by
 unfold Mq
 by_cases j:a.length=b.length
 ·rw[nG (by simp[j])]
  exact Io a b j (λk l=>by
   unfold M6
   rw[nH (by simpa using l),Ac l,Ac (by omega),AD,AD,X3 _ _ (h _ (Bv l)),AD,An (by omega)]
   generalize a[k]! = x
   generalize b[k]! = y
   by_cases h:x=y<;>simp[h,B2]) (by unfold M6;rw[nG (by simp)])
 ·rw[nH (by simp;omega),nI (by rintro rfl;exact j rfl)]
def PD(g:Av):Prop:=g.Cells.length≤1048576∧g.Merges.length≤1048576∧∀x∈g.Cells,HL x.Attrs
structure Lz(n:AK):Prop where
 at_:HL n.Attrs
 fl:n.Flow.length≤1048576
 fa:∀e∈n.Flow,HL e.Attrs
 gr:PD n.Grid
 dr:n.Draw.length≤1048576
def Po(d:AM):Prop:=d.Nodes.length≤1048576∧∀n∈d.Nodes,Lz n
theorem P5 x y(h:PD x):Jh x y=some (decide (x=y)):=by
 obtain⟨l,m,j⟩:=h
 unfold Jh
 rw[bT _ _ (by omega),eE _ _ (by omega) (λe q=>(j e q).1)]
 obtain⟨w,A,B,C⟩:=x
 obtain⟨E,F,I,J⟩:=y
 by_cases l:w=E<;>by_cases m:A=F<;>by_cases j:B=I<;>by_cases M:C=J<;>simp[l,m,j,M,gd,AD]
theorem hX x y(h:PD x):Mt x y=some (decide (x=y)):=by
 obtain⟨l,m,j⟩:=h
 unfold Mt
 rw[cM _ _ (by omega),XL _ _ (by omega) (λe q=>(j e q).1)]
 obtain⟨w,A,B,C⟩:=x
 obtain⟨E,F,I,J⟩:=y
 by_cases l:w=E<;>by_cases m:A=F<;>by_cases j:B=I<;>by_cases M:C=J<;>simp[l,m,j,M,gd,AD]
theorem ZV x y(h:Lz x):SU x y=some (decide (x=y)):=by
 have ha:=h.at_.1
 have hf:=h.fl
 have hd:=h.dr
 unfold SU
 rw[Qo _ _ (by omega),kZ _ _ (by omega) (λe j=>(h.fa e j).1),P5 _ _ h.gr,cV _ _ (by omega)]
 obtain⟨l,m,q,w,A,B⟩:=x
 obtain⟨C,E,F,I,J,M⟩:=y
 by_cases O:l=C<;>by_cases T:m=E<;>by_cases U:q=F<;>by_cases V:w=I<;>by_cases X:A=J<;>by_cases Z:B=M<;>simp[O,T,U,V,X,Z,gd,AD]
theorem Yk x y(h:Lz x):NY x y=some (decide (x=y)):=by
 have ha:=h.at_.1
 have hf:=h.fl
 have hd:=h.dr
 unfold NY
 rw[Q4 _ _ (by omega),XR _ _ (by omega) (λe j=>(h.fa e j).1),hX _ _ h.gr,fm _ _ (by omega)]
 obtain⟨l,m,q,w,A,B⟩:=x
 obtain⟨C,E,F,I,J,M⟩:=y
 by_cases O:l=C<;>by_cases T:m=E<;>by_cases U:q=F<;>by_cases V:w=I<;>by_cases X:A=J<;>by_cases Z:B=M<;>simp[O,T,U,V,X,Z,gd,AD]
theorem mz(a b:AM)(h:Po a):WJ a b=some (decide (a.Nodes=b.Nodes)):=by
 unfold WJ WL
 have m:=h.1
 by_cases j:a.Nodes.length=b.Nodes.length
 ·rw[nG (by simp[j]),Io a.Nodes b.Nodes j (λk l=>by
   unfold Rl
   rw[nH (by simpa using l),Ac l,Ac (by omega),AD,AD,ZV _ _ (h.2 _ (Bv l)),AD,An (by omega)]
   generalize a.Nodes[k]! = x
   generalize b.Nodes[k]! = y
   by_cases h:x=y<;>simp[h,B2]) (by unfold Rl;rw[nG (by simp)])]
  rfl
 ·rw[nH (by simp;omega),nI (λe=>j (by rw[e]))];rfl
theorem VA(a b:AM)(h:Po a):JD a b=some (decide (a.Nodes=b.Nodes)):=by
 unfold JD
 have m:=h.1
 by_cases j:a.Nodes.length=b.Nodes.length
 ·rw[nG (by simp[j]),Io a.Nodes b.Nodes j (λk l=>by
   unfold Ma
   rw[nH (by simpa using l),Ac l,Ac (by omega),AD,AD,Yk _ _ (h.2 _ (Bv l)),AD,An (by omega)]
   generalize a.Nodes[k]! = x
   generalize b.Nodes[k]! = y
   by_cases h:x=y<;>simp[h,B2]) (by unfold Ma;rw[nG (by simp)])]
 ·rw[nH (by simp;omega),nI (λe=>j (by rw[e]))]
theorem dV(g:Av)(A:g.Cells.length≤1048576)(h:∀x∈g.Cells,HL x.Attrs):iter (λ(a:Int × Av)=>Jz g.Cells a.1 a.2) (0,g)=some g:=by
 have key:∃r,iter (λ(a:Int × Av)=>Jz g.Cells a.1 a.2) (0,g)=some r∧r=g:=by
  refine Ht g.Cells.length (λk l=>l=((k:Int),g)) _ ?_ ?_ rfl
  ·rintro k l j rfl
   left
   refine⟨_,?_,rfl⟩
   dsimp only
   unfold Jz
   have m:=(h _ (Bv j)).1
   rw[nH (by simpa using j),Ac j,AD,Qe m,AD,An (by omega),AD,Wz]
   have q:g.Cells.set k (Ak.mk g.Cells[k]!.Row g.Cells[k]!.Col g.Cells[k]!.Text g.Cells[k]!.Ref g.Cells[k]!.Attrs)=g.Cells:=by
    rw[show(Ak.mk g.Cells[k]!.Row g.Cells[k]!.Col g.Cells[k]!.Text g.Cells[k]!.Ref g.Cells[k]!.Attrs)=g.Cells[k]! from rfl,nW g.Cells k j]
    exact List.set_getElem_self j
   rw[q]
  ·rintro l rfl
   refine⟨g,?_,rfl⟩
   dsimp only
   unfold Jz
   rw[nG (by simp)]
 obtain⟨r,w,rfl⟩:=key
 exact w
theorem SQ{α:Type} b(l:List α)(j:b≤128)(h:l.length≤1048576):app b ([]:List α) l=some l:=by
 unfold app
 rw[nH];rfl
 simp only[p9,np]
 refine⟨?_,by omega⟩
 calc l.length * b≤1048576 * 128:=Nat.mul_le_mul h j
  _≤_:=by decide
theorem ap(n:AK)(h:Lz n):LV n=some n:=by
 unfold LV
 have hg:=h.gr
 have j:=h.fl
 rw[Qe h.at_.1,AD,aQ _ (by omega) h.fa,AD,SQ _ _ (by decide) h.dr,AD,SQ _ _ (by decide) hg.2.1,AD,SQ _ _ (by decide) hg.1,AD]
 have:=dV n.Grid hg.1 hg.2.2
 rw[show(Av.mk n.Grid.Rows n.Grid.Cols n.Grid.Cells n.Grid.Merges)=n.Grid from rfl,this];rfl
theorem Pt{β:Type}(p:Nat→Bool)(F:Nat→β)(l:List Nat):(l.findSome? λk=>if p k then some (F k) else none)=(l.find? p).map F:=by
 induction l with
 | nil=>rfl
 | cons a l j=>rw[ol,List.find?_cons];by_cases h:p a=true<;>simp[h,j]
def CF(l:List AK)(id:Int):Option Nat:=(List.range l.length).find? λk=>decide (l[k]!.ID=id)
theorem FV{l:List AK}{id}{k}(h:CF l id=some k):k<l.length∧l[k]!.ID=id:=by
 have j:=List.mem_of_find?_eq_some h
 have m:=List.find?_some h
 exact⟨nm.1 j,ph m⟩
theorem Ro(d:AM)(id:Int)(l:d.Nodes.length≤1048576):H8 d id=some (match CF d.Nodes id with | some k=>(k:Int) | none=>-1):=by
 unfold H8
 rw[Bo (n:=d.Nodes.length) (λk=>if decide (d.Nodes[k]!.ID=id) then some (k:Int) else none) (λk j=>by
  unfold Lw
  rw[nH (by simpa using j),Ac j,AD,An (by omega)]
  by_cases h:d.Nodes[k]!.ID=id
  ·rw[nH (nJ h),nH (nJ h)];rfl
  ·rw[nG (by simpa using h),nG (by simpa using h)];rfl) (by unfold Lw;rw[nG (by simp)]),Pt,Eh]
 unfold CF
 cases (List.range d.Nodes.length).find? λk=>decide (d.Nodes[k]!.ID=id)<;>rfl
def FK:AK:=AK.mk 1 0 [] [(AS.mk 0 2 [])] (Av.mk 0 0 [] []) []
def Ei:AK:=AK.mk 2 1 [] [(AS.mk 10 0 [])] (Av.mk 0 0 [] []) []
def Bp:AM:=AM.mk [FK,Ei]
theorem fu:Gp (AS.mk 0 2 []):=⟨by decide,λa j=>by cases j⟩
theorem lE:Gp (AS.mk 10 0 []):=⟨by decide,λa j=>by cases j⟩
theorem SR:PD (Av.mk 0 0 [] []):=⟨by decide,by decide,λa j=>by cases j⟩
theorem PV:HL []:=⟨by decide,λa j=>by cases j⟩
theorem dX:Po Bp:=by
 refine⟨by decide,λn l=>?_⟩
 have:n=FK∨n=Ei:=by simpa[Bp] using l
 rcases this with rfl | rfl
 ·exact⟨PV,by decide,λe j=>by
   have:e=AS.mk 0 2 []:=by simpa[FK] using j
   subst this;exact PV,SR,by decide⟩
 ·exact⟨PV,by decide,λe j=>by
   have:e=AS.mk 10 0 []:=by simpa[Ei] using j
   subst this;exact PV,SR,by decide⟩
theorem UU:IK []=some 0:=by rw[PS _ (λa j=>by cases j) (by decide)];rfl
theorem de:Ft [AS.mk 0 2 []] false=some 0:=by
 rw[Up _ (λx j=>by
  have:x=AS.mk 0 2 []:=by simpa using j
  subst this;exact fu) (by decide)]
 rfl
theorem dB:Ft [AS.mk 10 0 []] true=some 0:=by
 rw[TO _ (λx j=>by
  have:x=AS.mk 10 0 []:=by simpa using j
  subst this;exact lE) (by decide)]
 rfl
theorem U4:Jh (Av.mk 0 0 [] []) (Av.mk 0 0 [] [])=some true:=by rw[P5 _ _ SR,nJ rfl]
theorem eh:Cr FK=some 0:=by
 unfold Cr FK
 dsimp only
 rw[nG (by decide),nG (by decide),UU,AD,nG (by decide)]
 have t:Fv 0=some false:=rfl
 have l:GH 0=some true:=rfl
 have g:FG 0=some false:=rfl
 have d:Fx 0=some false:=rfl
 rw[t,l,g,d,U4]
 show(AB (Ft [AS.mk 0 2 []] false) λ(j:Int)=>some j)=some 0
 rw[de];rfl
theorem Z8:Cr Ei=some 0:=by
 unfold Cr Ei
 dsimp only
 rw[nG (by decide),nG (by decide),UU,AD,nG (by decide)]
 have t:Fv 1=some true:=rfl
 have l:GH 1=some false:=rfl
 have g:FG 1=some false:=rfl
 have d:Fx 1=some false:=rfl
 rw[t,l,g,d,U4]
 show(AB (Ft [AS.mk 10 0 []] true) λ(j:Int)=>some j)=some 0
 rw[dB];rfl
theorem F1:GT FK=some [2]:=by
 unfold GT JA
 have j:(λ(a:Int × (List Int))=>EX FK.Flow a.1 a.2) (0,[])=some (.inl (1,[2])):=by
  show EX [AS.mk 0 2 []] 0 []=_
  unfold EX;rfl
 have l:(λ(a:Int × (List Int))=>EX FK.Flow a.1 a.2) (1,[2])=some (.inr [2]):=by
  show EX [AS.mk 0 2 []] 1 [2]=_
  unfold EX;rfl
 have m:(λ(a:Int × (List Int))=>Dn FK a.1 a.2) (0,[2])=some (.inr [2]):=by
  show Dn FK 0 [2]=_
  unfold Dn;rfl
 rw[Bm j,BL l,AD,AD,BL m];rfl
theorem bR:GT Ei=some []:=by
 unfold GT JA
 have j:(λ(a:Int × (List Int))=>EX Ei.Flow a.1 a.2) (0,[])=some (.inl (1,[])):=by
  show EX [AS.mk 10 0 []] 0 []=_
  unfold EX;rfl
 have l:(λ(a:Int × (List Int))=>EX Ei.Flow a.1 a.2) (1,[])=some (.inr []):=by
  show EX [AS.mk 10 0 []] 1 []=_
  unfold EX;rfl
 have m:(λ(a:Int × (List Int))=>Dn Ei a.1 a.2) (0,[])=some (.inr []):=by
  show Dn Ei 0 []=_
  unfold Dn;rfl
 rw[Bm j,BL l,AD,AD,BL m];rfl
theorem ky:E1 Bp 2=some (1,true):=by
 unfold E1 M8
 have h1:(λ(a:Int × Int)=>Em Bp.Nodes 2 a.1 a.2) (0,(Bp.Nodes.length:Int))=some (.inl (0,1)):=by
  show Em Bp.Nodes 2 0 2=_
  unfold Em;decide +kernel
 have h2:(λ(a:Int × Int)=>Em Bp.Nodes 2 a.1 a.2) (0,1)=some (.inl (1,1)):=by
  show Em Bp.Nodes 2 0 1=_
  unfold Em;decide +kernel
 have h3:(λ(a:Int × Int)=>Em Bp.Nodes 2 a.1 a.2) (1,1)=some (.inr 1):=by
  show Em Bp.Nodes 2 1 1=_
  unfold Em;rfl
 rw[Bm h1,Bm h2,BL h3,AD];rfl
theorem eR:JB 0 1=some true:=by
 unfold JB
 rw[nH (by decide),AD]
 unfold IT NG
 have j:(λ(a:Int)=>H7 [1,6,7,10,11,12] 1 a) 0=some (.inr (.ext 0)):=by
  show H7 [1,6,7,10,11,12] 1 0=_
  unfold H7;rfl
 rw[BL j];rfl
theorem dT:FN Bp 0 [2]=some 0:=by
 unfold FN
 have j:(λ(a:Int)=>Du Bp 0 [2] a) 0=some (.inl 1):=by
  show Du Bp 0 [2] 0=_
  unfold Du
  rw[nH (by decide),show AL ([2]:List Int) 0=some 2 from rfl,AD,ky,BZ,nG (by decide),show AL Bp.Nodes 1=some Ei from rfl,AD,show Ei.Kind=1 from rfl,eR]
  rfl
 have l:(λ(a:Int)=>Du Bp 0 [2] a) 1=some (.inr (.nrm ())):=by
  show Du Bp 0 [2] 1=_
  unfold Du;rfl
 rw[Bm j,BL l];rfl
theorem jg:FN Bp 1 []=some 0:=by
 unfold FN
 have j:(λ(a:Int)=>Du Bp 1 [] a) 0=some (.inr (.nrm ())):=by
  show Du Bp 1 [] 0=_
  unfold Du;rfl
 rw[BL j];rfl
theorem lH:DX Bp=some 0:=by
 unfold DX
 have j:(λ(a:Int)=>Cq Bp a) 0=some (.inl 1):=by
  show Cq Bp 0=_
  unfold Cq
  rw[nH (by decide),show AL Bp.Nodes 0=some FK from rfl,AD,eh];rfl
 have l:(λ(a:Int)=>Cq Bp a) 1=some (.inl 2):=by
  show Cq Bp 1=_
  unfold Cq
  rw[nH (by decide),show AL Bp.Nodes 1=some Ei from rfl,AD,Z8];rfl
 have a3:(λ(a:Int)=>Cq Bp a) 2=some (.inr (.nrm ())):=by
  show Cq Bp 2=_
  unfold Cq;rfl
 have m:(λ(a:Int)=>Dq Bp a) 0=some (.inl 1):=by
  show Dq Bp 0=_
  unfold Dq
  rw[nH (by decide),show AL Bp.Nodes 0=some FK from rfl,AD,F1,AD,show FK.Kind=0 from rfl,dT];rfl
 have q:(λ(a:Int)=>Dq Bp a) 1=some (.inl 2):=by
  show Dq Bp 1=_
  unfold Dq
  rw[nH (by decide),show AL Bp.Nodes 1=some Ei from rfl,AD,bR,AD,show Ei.Kind=1 from rfl,jg];rfl
 have w:(λ(a:Int)=>Dq Bp a) 2=some (.inr (.nrm ())):=by
  show Dq Bp 2=_
  unfold Dq;rfl
 rw[nG (by decide),Bm j,Bm l,BL a3,Bm m,Bm q,BL w];rfl
theorem Z7:KF=some true:=by
 unfold KF
 have j:PQ=some Bp:=rfl
 have l:P2 [AS.mk 10 0 []]=some Bp:=rfl
 have m:Pr=some (AS.mk 10 0 []):=rfl
 rw[j,AD,lH,AD,nH (by decide),m,AD,l,AD,VA _ _ dX,AD,AD,nJ rfl]
 rfl
theorem f9{μ:AK→Nat}{γ:Av→Nat}{ψ:Ak→Nat}{ρ:Aj→Nat}{δ:At→Nat}{ν:AS→Nat}{κ:AG→Nat}
  (m:∀n,(n.Attrs.map κ).sum+(n.Flow.map ν).sum+γ n.Grid+(n.Draw.map δ).sum+1≤μ n) (hg:∀g,(g.Cells.map ψ).sum+(g.Merges.map ρ).sum+1≤γ g)
  (hc:∀c,(c.Attrs.map κ).sum+1≤ψ c) (w:∀r,1≤ρ r) (hd:∀o,1≤δ o) (A:∀e,(e.Attrs.map κ).sum+1≤ν e) (j:∀a,a.Name.length+a.Value.length+1≤κ a)
  {d:AM} (C:(d.Nodes.map μ).sum≤1048576):Po d:=by
 have E:=KB (μ:=μ) (λn=>by have:=m n;omega) d.Nodes
 refine⟨by omega,λn B=>?_⟩
 have F:=G6 (μ:=μ) B
 have I:=m n
 have J:=hg n.Grid
 have q:=jK (ν:=ν) (κ:=κ) A j (f:=n.Flow) (by omega)
 have M:=KB (μ:=ψ) (λc=>by have:=hc c;omega) n.Grid.Cells
 have O:=KB (μ:=ρ) w n.Grid.Merges
 have T:=KB (μ:=δ) hd n.Draw
 refine⟨Rn j (by omega),q.1,q.2,⟨by omega,by omega,λc l=>Rn j ?_⟩,by omega⟩
 have U:=G6 (μ:=ψ) l
 have:=hc c
 omega
theorem FW{n:Nat}(h:n<2147483648):IntKind.i32.wrap (n:Int)=(n:Int):=by
 have e:(n:Int) % (2 ^ (32:Nat):Int)=(n:Int):=qp (by omega) (by omega)
 show(if(true&&((n:Int) % (2 ^ (32:Nat):Int) ≥ (2 ^ (31:Nat):Int)))=true then(n:Int) % (2 ^ (32:Nat):Int)-(2 ^ (32:Nat):Int) else(n:Int) % (2 ^ (32:Nat):Int))=_
 rw[e,nG]
 simp only[nt,nK]
 omega
theorem Ua{n:Nat}(h:n<9223372036854775808):IntKind.i64.wrap (n:Int)=(n:Int):=by
 have e:(n:Int) % (2 ^ (64:Nat):Int)=(n:Int):=qp (by omega) (by omega)
 show(if(true&&((n:Int) % (2 ^ (64:Nat):Int) ≥ (2 ^ (63:Nat):Int)))=true then(n:Int) % (2 ^ (64:Nat):Int)-(2 ^ (64:Nat):Int) else(n:Int) % (2 ^ (64:Nat):Int))=_
 rw[e,nG]
 simp only[nt,nK]
 omega
theorem LI(i a b:Nat)(j:b<2 ^ i)(l:a * 2 ^ i+b<2147483648):D8 .i32 ((a * 2 ^ i:Nat):Int) (b:Int)=((a * 2 ^ i+b:Nat):Int):=by
 unfold D8
 have m:(BitVec.ofInt 32 ((a * 2 ^ i:Nat):Int) ||| BitVec.ofInt 32 (b:Int)).toNat=a * 2 ^ i+b:=by
  rw[BitVec.toNat_or,BitVec.ofInt_natCast,BitVec.ofInt_natCast,BitVec.toNat_ofNat,BitVec.toNat_ofNat,py (by omega),py (by omega)]
  rw[← Nat.shiftLeft_eq,Nat.shiftLeft_add_eq_or_of_lt j]
 show IntKind.i32.wrap ((BitVec.ofInt 32 ((a * 2 ^ i:Nat):Int) ||| BitVec.ofInt 32 (b:Int)).toNat:Int)=_
 rw[m];exact FW l
theorem Yz:∀b:Fin 256,B5 .u8 ((b.val:Nat):Int) 31=((b.val % 32:Nat):Int):=by decide +kernel
theorem jw:∀b:Fin 256,B5 .u8 ((b.val:Nat):Int) 15=((b.val % 16:Nat):Int):=by decide +kernel
theorem jX:∀b:Fin 256,B5 .u8 ((b.val:Nat):Int) 7=((b.val % 8:Nat):Int):=by decide +kernel
theorem LG:∀b:Fin 256,B5 .u8 ((b.val:Nat):Int) 63=((b.val % 64:Nat):Int):=by decide +kernel
theorem KJ(i a:Nat)(j:i≤32)(l:a * 2 ^ i<2147483648):Ct .i32 (a:Int) i=((a * 2 ^ i:Nat):Int):=by
 unfold Ct
 show IntKind.i32.wrap ((a:Int) * 2 ^ (min i 32))=_
 rw[Nat.min_eq_left j,show(a:Int) * 2 ^ i=((a * 2 ^ i:Nat):Int) by push_cast;rfl,FW l]
theorem fg:∀c:Fin 256,Fl[c.val]! = (Lib.firstT c.val:Int):=by decide +kernel
theorem lb:∀c:Fin 256,D8 .i32 (Pg .i32 (IntKind.i32.wrap (c.val:Int)) (E6 .i32 (Ct .i32 (IntKind.i32.wrap 241) 31) 31)) (B5 .i32 65533 (E6 .i32 (Ct .i32 (IntKind.i32.wrap 241) 31) 31))=65533:=by decide +kernel
theorem kg:∀c:Fin 256,IntKind.i64.wrap (B5 .u8 (Lib.firstT c.val:Int) 7)=((Lib.firstT c.val % 8:Nat):Int):=by decide +kernel
theorem lv:∀c:Fin 256,AL Od (E6 .u8 (Lib.firstT c.val:Int) 4)=some (Hi.mk (Lib.accLo (Lib.firstT c.val / 16)) (Lib.accHi (Lib.firstT c.val / 16))):=by decide +kernel
theorem gJ:∀c:Fin 256,128≤c.val→Lib.firstT c.val=241∨(2≤Lib.firstT c.val % 8∧Lib.firstT c.val % 8≤4∧Lib.firstT c.val<240):=by decide +kernel
theorem dk(c d:Fin 256):D8 .i32 (Ct .i32 (IntKind.i32.wrap (B5 .u8 ((c.val:Nat):Int) 31)) 6) (IntKind.i32.wrap (B5 .u8 ((d.val:Nat):Int) 63))=((c.val % 32 * 64+d.val % 64:Nat):Int):=by
 rw[Yz,LG,FW (by omega),FW (by omega),KJ 6 _ (by omega) (by omega),LI 6 _ _ (by omega) (by omega)]
theorem Xu(c d e:Fin 256):D8 .i32 (D8 .i32 (Ct .i32 (IntKind.i32.wrap (B5 .u8 ((c.val:Nat):Int) 15)) 12) (Ct .i32 (IntKind.i32.wrap (B5 .u8 ((d.val:Nat):Int) 63)) 6)) (IntKind.i32.wrap (B5 .u8 ((e.val:Nat):Int) 63)) =
  ((c.val % 16 * 4096+d.val % 64 * 64+e.val % 64:Nat):Int):=by
 rw[jw,LG,LG,FW (by omega),FW (by omega),FW (by omega),KJ 12 _ (by omega) (by omega),KJ 6 _ (by omega) (by omega),LI 12 _ _ (by omega) (by omega),
  show c.val % 16 * 2 ^ 12+d.val % 64 * 2 ^ 6=(c.val % 16 * 64+d.val % 64) * 2 ^ 6 by omega,LI 6 _ _ (by omega) (by omega)]
theorem XH(c d e f:Fin 256):D8 .i32 (D8 .i32 (D8 .i32 (Ct .i32 (IntKind.i32.wrap (B5 .u8 ((c.val:Nat):Int) 7)) 18) (Ct .i32 (IntKind.i32.wrap (B5 .u8 ((d.val:Nat):Int) 63)) 12)) (Ct .i32 (IntKind.i32.wrap (B5 .u8 ((e.val:Nat):Int) 63)) 6)) (IntKind.i32.wrap (B5 .u8 ((f.val:Nat):Int) 63)) =
  ((c.val % 8 * 262144+d.val % 64 * 4096+e.val % 64 * 64+f.val % 64:Nat):Int):=by
 rw[jX,LG,LG,LG,FW (by omega),FW (by omega),FW (by omega),FW (by omega),KJ 18 _ (by omega) (by omega),KJ 12 _ (by omega) (by omega),KJ 6 _ (by omega) (by omega),LI 18 _ _ (by omega) (by omega),
  show c.val % 8 * 2 ^ 18+d.val % 64 * 2 ^ 12=(c.val % 8 * 64+d.val % 64) * 2 ^ 12 by omega,LI 12 _ _ (by omega) (by omega),
  show(c.val % 8 * 64+d.val % 64) * 2 ^ 12+e.val % 64 * 2 ^ 6=((c.val % 8 * 64+d.val % 64) * 64+e.val % 64) * 2 ^ 6 by omega,LI 6 _ _ (by omega) (by omega)]
theorem Lt(s:List UInt8) k(h:k<s.length):s.getD k 0=s[k]!:=by
 rw[nW s k h,List.getD_eq_getElem?_getD,nM h];rfl
theorem YJ(s:List UInt8)(h:s≠[])(j:128≤(s.getD 0 0).toNat):NW s=some (((Lib.decodeL s).1:Int),((Lib.decodeL s).2:Int)):=by
 have l:0<s.length:=pH.2 h
 rw[Lib.decodeL_N]
 unfold NW
 rw[nG (by rw[nK];omega),show(0:Int)=((0:Nat):Int) from rfl,Ac l,AD]
 rw[Lt s 0 l] at j ⊢
 generalize s[0]! = c at j ⊢
 obtain⟨C,hC⟩:∃C:Fin 256,C.val=c.toNat:=⟨⟨c.toNat,c.toNat_lt⟩,rfl⟩
 rw[← hC] at j ⊢
 rw[Ac (l:=Fl) (by rw[lA];exact C.isLt),AD,fg,lv,kg]
 rcases gJ C j with B | ⟨m,q,w⟩
 ·rw[nH (by rw[nK];omega),Lib.bad_eq _ _ _ _ _ C.isLt B,B]
  show some (_,(1:Int))=_
  rw[show((241:Nat):Int)=241 from rfl,lb C];rfl
 ·rw[nG (by rw[nK];omega),AD]
  have A:=Lib.slow_eq s.length C.val (s.getD 1 0).toNat (s.getD 2 0).toNat (s.getD 3 0).toNat l (UInt8.toNat_lt _) (UInt8.toNat_lt _) (UInt8.toNat_lt _) w
  rw[← A]
  generalize hsz:Lib.firstT C.val % 8=sz at m q ⊢
  generalize Lib.accLo (Lib.firstT C.val / 16)=V
  generalize Lib.accHi (Lib.firstT C.val / 16)=X
  unfold Lib.slowN
  by_cases I:s.length<sz
  ·rw[nH (by rw[nK];omega),nH I];rfl
  rw[nG (by rw[nK];omega),nG I,show(1:Int)=((1:Nat):Int) from rfl,Ac (by omega),AD,Lt s 1 (by omega)]
  generalize s[1]! = d
  obtain⟨D,Z⟩:∃D:Fin 256,D.val=d.toNat:=⟨⟨d.toNat,d.toNat_lt⟩,rfl⟩
  rw[← Z]
  by_cases J:D.val<V∨X<D.val
  ·rw[nH (by simp only[nT,nK];omega),nH J];rfl
  rw[nG (by simp only[nT,nK];omega),nG J]
  by_cases M:sz≤2
  ·rw[nH (by rw[nK];omega),nH M,dk];rfl
  rw[nG (by rw[nK];omega),nG M,show(2:Int)=((2:Nat):Int) from rfl,Ac (by omega),AD,Lt s 2 (by omega)]
  generalize s[2]! = e
  obtain⟨E,hE⟩:∃E:Fin 256,E.val=e.toNat:=⟨⟨e.toNat,e.toNat_lt⟩,rfl⟩
  rw[← hE]
  by_cases O:E.val<128∨191<E.val
  ·rw[nH (by simp only[nT,nK];omega),nH O];rfl
  rw[nG (by simp only[nT,nK];omega),nG O]
  by_cases T:sz≤3
  ·rw[nH (by rw[nK];omega),nH T,Xu];rfl
  rw[nG (by rw[nK];omega),nG T,show(3:Int)=((3:Nat):Int) from rfl,Ac (by omega),AD,Lt s 3 (by omega)]
  generalize s[3]! = f
  obtain⟨F,hF⟩:∃F:Fin 256,F.val=f.toNat:=⟨⟨f.toNat,f.toNat_lt⟩,rfl⟩
  rw[← hF]
  by_cases U:F.val<128∨191<F.val
  ·rw[nH (by simp only[nT,nK];omega),nH U];rfl
  rw[nG (by simp only[nT,nK];omega),nG U,XH];rfl
theorem Yh(s:List UInt8)(h:s≠[]):L9 s=some (((Lib.decodeL s).1:Int),((Lib.decodeL s).2:Int)):=by
 have l:0<s.length:=pH.2 h
 unfold L9
 rw[nI h,show((!false)==true)=true from rfl,Aq,show(0:Int)=((0:Nat):Int) from rfl,Ac l,AD,pP,nt]
 by_cases m:(s[0]!).toNat<128
 ·rw[nH (by rw[nK];omega),AD,FW (by omega)]
  obtain⟨c,t,rfl⟩:=List.exists_cons_of_ne_nil h
  have j:c.toNat<128:=m
  rw[Lib.decodeL_ascii c t j];rfl
 ·rw[nG (by rw[nK];omega),YJ s h (by rw[Lt s 0 l];omega),BZ]
def FZ(r:Nat):Bool:=(r=10)||!GN (r:Int)
def Gm:Nat→List UInt8→Bool
 | 0,_=>true
 | n+1,s=>if s=[] then true else if((Lib.decodeL s).1=65533∧(Lib.decodeL s).2=1)∨FZ (Lib.decodeL s).1=true then false else Gm n (s.drop (Lib.decodeL s).2)
theorem U2 n(s:List UInt8):Gm (n+1) s=if s=[] then true else if((Lib.decodeL s).1=65533∧(Lib.decodeL s).2=1)∨FZ (Lib.decodeL s).1=true then false else Gm n (s.drop (Lib.decodeL s).2):=rfl
def N7:Nat→List UInt8→Bool
 | 0,_=>true
 | n+1,s=>if s=[] then true else if FZ (Lib.decodeL s).1=true then false else N7 n (s.drop (Lib.decodeL s).2)
theorem V2 n(s:List UInt8):N7 (n+1) s=if s=[] then true else if FZ (Lib.decodeL s).1=true then false else N7 n (s.drop (Lib.decodeL s).2):=rfl
theorem ZZ:∀(n:Nat) (s:List UInt8),s.length≤n→(Lib.validD s&&N7 n s)=Gm n s:=by
 intro n
 induction n with
 | zero=>intro s q;obtain rfl:=pD (Nat.le_zero.1 q);rfl
 | succ n w=>
  intro s q
  rw[U2,V2]
  by_cases j:s=[]
  ·subst j;rfl
  ·have A:=Lib.decodeL_width s
   have B:=pH.2 j
   rw[nG j,nG j,Lib.validD_step s j]
   by_cases l:(Lib.decodeL s).1=65533∧(Lib.decodeL s).2=1
   ·rw[nH l,nH (show((Lib.decodeL s).1=65533∧(Lib.decodeL s).2=1)∨FZ (Lib.decodeL s).1=true from .inl l)];rfl
   ·rw[nG l]
    by_cases m:FZ (Lib.decodeL s).1=true
    ·rw[nH m,nH (.inr m),Bool.and_false]
    ·rw[nG m,nG (by rintro(h | h);exact l h;exact m h)]
     exact w _ (by rw[qK];omega)
theorem Us(r:Nat)(h:r≤1114111):IntKind.i64.wrap (r:Int)=(r:Int):=Ua (by omega)
theorem im(s:List UInt8):Ls s=some (Gm s.length s):=by
 unfold Ls
 have key:∀(n:Nat) (s:List UInt8),s.length≤n→(Aw (iter (λ(a:(List UInt8))=>Es a) s) λ(_:Unit)=>some true)=some (Gm n s):=by
  intro n
  induction n with
  | zero=>
   intro s hs
   obtain rfl:=pD (Nat.le_zero.1 hs)
   have h1:(λ(a:(List UInt8))=>Es a) []=some (.inr (.nrm ())):=by
    show Es []=_
    unfold Es;rfl
   rw[BL h1];rfl
  | succ n ih=>
   intro s hs
   rw[U2]
   by_cases hn:s=[]
   ·subst hn
    have h1:(λ(a:(List UInt8))=>Es a) []=some (.inr (.nrm ())):=by
     show Es []=_
     unfold Es;rfl
    rw[BL h1];rfl
   ·have hw:=Lib.decodeL_width s
    have hle:=Lib.decodeL_le s hn
    have hr:=Lib.decodeL_rune s
    have hstep:Es s=if((Lib.decodeL s).1=65533∧(Lib.decodeL s).2=1)∨FZ (Lib.decodeL s).1=true then some (.inr (.ext false)) else some (.inl (s.drop (Lib.decodeL s).2)):=by
     unfold Es FZ
     rw[nH (B8 hn),Yh s hn,BZ,Us _ hr,TI]
     generalize (Lib.decodeL s).1=r at *
     generalize (Lib.decodeL s).2=w at *
     by_cases h1:r=65533∧w=1
     ·obtain⟨rfl,rfl⟩:=h1
      rw[nH (.inl ⟨rfl,rfl⟩)];rfl
     ·have e1:(((r:Int)=65533)&&((w:Int)=1))=false:=by
       rw[← ny,nR,nK,nK];omega
      by_cases h2:r=10
      ·subst h2
       rw[nH (.inr (by rfl)),e1];rfl
      ·have e2:(decide ((r:Int)=10))=false:=nI (by omega)
       rw[e1,e2,nI h2]
       show(AB (gd true (some (GN (r:Int)))) λ(r3:Bool)=>_)=_
       rw[Aq,AD,gS s w hle,AD]
       cases GN (r:Int)
       ·rw[nH (show(r=65533∧w=1)∨(false||!false)=true from .inr rfl)];rfl
       ·rw[nG (show ¬ ((r=65533∧w=1)∨(false||!true)=true) by rintro(h | h);exact h1 h;exact absurd h (by decide))];rfl
    by_cases hb:((Lib.decodeL s).1=65533∧(Lib.decodeL s).2=1)∨FZ (Lib.decodeL s).1=true
    ·rw[nH hb] at hstep
     rw[BL (f:=λ(a:(List UInt8))=>Es a) hstep,nG hn,nH hb];rfl
    ·rw[nG hb] at hstep
     rw[Bm (f:=λ(a:(List UInt8))=>Es a) hstep,nG hn,nG hb]
     exact ih _ (by rw[qK];omega)
 exact key s.length s (nO _)
theorem dh(s:List UInt8) p:Fk s p=Lib.decodeL (s.drop p):=(Lib.decodeL_drop ⟨s.toArray⟩ p).symm
theorem bQ(s:List UInt8)(hs:s.length≤9223372036854775807):OD s=some (Gm s.length s):=by
 unfold OD Px Ok
 rw[nH hs,AD,← ZZ s.length s (nO _)]
 cases Lib.validD s with
 | false=>rfl
 | true=>
  rw[nG (by decide),nt]
  have key:∀(n p:Nat),s.length-p≤n→(Aw (iter (λ(a:(Nat))=>E2 s a) p) λ(_:Unit)=>some true)=some (N7 n (s.drop p)):=by
   intro n
   induction n with
   | zero=>
    intro p hp
    have h1:(λ(a:(Nat))=>E2 s a) p=some (.inr (.nrm ())):=by
     show E2 s p=_
     unfold E2;rw[nG (by rw[nK];omega)]
    rw[BL h1];rfl
   | succ n ih=>
    intro p hp
    rw[V2]
    by_cases hn:s.length≤p
    ·have h1:(λ(a:(Nat))=>E2 s a) p=some (.inr (.nrm ())):=by
      show E2 s p=_
      unfold E2;rw[nG (by rw[nK];omega)]
     rw[BL h1,nH (ov hn)];rfl
    ·have hne:s.drop p≠[]:=by
      intro e
      have:=nb List.length e
      rw[qK,p9] at this
      omega
     have hw:=Lib.decodeL_width (s.drop p)
     have hr:=Lib.decodeL_rune (s.drop p)
     have hstep:E2 s p=if FZ (Lib.decodeL (s.drop p)).1=true then some (.inr (.ext false)) else some (.inl (p+(Lib.decodeL (s.drop p)).2)):=by
      unfold E2 FZ
      rw[nH (by rw[nK];omega),dh,Us _ hr,Ui]
      generalize (Lib.decodeL (s.drop p)).1=r at *
      generalize (Lib.decodeL (s.drop p)).2=w at *
      by_cases h2:r=10
      ·subst h2;rfl
      ·rw[nI h2,nI (show ¬ ((r:Int)=10) by omega)]
       show(AB (gd true (some (GN (r:Int)))) λ(r3:Bool)=>_)=_
       rw[Aq,AD]
     rw[nG hne]
     by_cases hb:FZ (Lib.decodeL (s.drop p)).1=true
     ·rw[nH hb] at hstep
      rw[BL (f:=λ(a:(Nat))=>E2 s a) hstep,nH hb];rfl
     ·rw[nG hb] at hstep
      rw[Bm (f:=λ(a:(Nat))=>E2 s a) hstep,nG hb,List.drop_drop]
      exact ih _ (by omega)
  have:=key s.length 0 (by omega)
  rw[pQ] at this
  exact this
theorem Sl{ρ:Type}{f g}{n}(I:Nat→Prop)(w:I 0)(h:∀k:Nat, k<n→I k→∃o:Option ρ, f k=B2 k o∧g k=B2 k o∧(o=none→I (k+1)))
 (A:f n=some (.inr (.nrm ()))) (hg:g n=some (.inr (.nrm ()))):∃o:Option ρ, iter f 0=some (DD o)∧iter g 0=some (DD o)∧(o=none→I n) := by
  have key:∀m k:Nat, k+m=n→I k→∃o:Option ρ, iter f (k:Int)=some (DD o)∧iter g (k:Int)=some (DD o)∧(o=none→I n) := by
    intro m
    induction m with
    | zero =>
      intro k B j
      obtain rfl:k=n := by omega
      exact⟨none, BL A, BL hg, λ_ => j⟩
    | succ m C =>
      intro k B j
      obtain⟨o, l, q, E⟩ := h k (by omega) j
      cases o with
      | some r => exact⟨some r, BL l, BL q, λe => by cases e⟩
      | none =>
        obtain⟨o, F, J, M⟩ := C (k+1) (by omega) (E rfl)
        exact⟨o, (Bm l).trans F, (Bm q).trans J, M⟩
  exact key n 0 (by omega) w
theorem OX x y:Fm x y=some (if x<y then -1 else if y<x then 1 else 0):=by
 unfold Fm Kx
 rw[nJ (rfl:x=x),nJ (rfl:y=y),AD,AD,nG (by decide),nG (by decide)]
 by_cases j:x<y
 ·rw[nH (nJ j),nH j]
 ·rw[nG (by simpa using j),nG j]
  by_cases l:y<x
  ·rw[nH (nJ l),nH l]
  ·rw[nG (by simpa using l),nG l]
theorem Tq a b:G4 [a,b]=some (if a≠0 then a else b):=by
 unfold G4
 by_cases j:a≠0
 ·have m:(λ(x:Int)=>De [a,b] x) 0=some (.inr (.ext a)):=by
   show De [a,b] 0=_
   unfold De
   rw[nH (by simp),show AL [a,b] 0=some a from rfl,AD,nH (B8 j)]
  rw[BL m,nH j];rfl
 ·have q:a=0:=nl.1 j
  have m:(λ(x:Int)=>De [a,b] x) 0=some (.inl 1):=by
   show De [a,b] 0=_
   unfold De
   rw[nH (by simp),show AL [a,b] 0=some a from rfl,AD,nG (Cw q)];rfl
  by_cases A:b≠0
  ·have w:(λ(x:Int)=>De [a,b] x) 1=some (.inr (.ext b)):=by
    show De [a,b] 1=_
    unfold De
    rw[nH (by simp),show AL [a,b] 1=some b from rfl,AD,nH (B8 A)]
   rw[Bm m,BL w,nG j];rfl
  ·have l:b=0:=nl.1 A
   have w:(λ(x:Int)=>De [a,b] x) 1=some (.inl 2):=by
    show De [a,b] 1=_
    unfold De
    rw[nH (by simp),show AL [a,b] 1=some b from rfl,AD,nG (Cw l)];rfl
   have B:(λ(x:Int)=>De [a,b] x) 2=some (.inr (.nrm ())):=by
    show De [a,b] 2=_
    unfold De
    rw[nG (by simp)]
   rw[Bm m,Bm w,BL B,nG j,l];rfl
def Bh(a b c d:Int):Int:=if a<b then -1 else if b<a then 1 else if c<d then -1 else if d<c then 1 else 0
theorem Tb a b c d:(if(if a<b then -1 else if b<a then 1 else 0)≠(0:Int) then(if a<b then -1 else if b<a then 1 else 0) else if c<d then -1 else if d<c then 1 else(0:Int))=Bh a b c d:=by
 unfold Bh
 by_cases j:a<b
 ·simp[j]
 ·by_cases l:b<a
  ·simp[j,l]
  ·simp[j,l]
theorem OR a b c d:0≤Bh a b c d↔(b<a∨(b=a∧d≤c)):=by
 unfold Bh
 split
 ·constructor<;>intro h<;>omega
 ·split
  ·constructor<;>intro h<;>omega
  ·split
   ·constructor<;>intro h<;>omega
   ·split
    ·constructor<;>intro h<;>omega
    ·constructor<;>intro h<;>omega
theorem kh(a b:Ak):KY a b=some (Bh a.Row b.Row a.Col b.Col):=by
 unfold KY
 rw[OX,OX,AD,AD,Tq,AD,Tb]
theorem Dl x a b:CW x a b=some (decide (a≤x∧x≤b)):=by
 rw[Nj]
 congr 1
 rw[ns];simp
def Gv(j l:Int)(c:Ak):Prop:=0≤c.Row∧c.Row<j∧0≤c.Col∧c.Col<l∧0≤c.Ref∧c.Ref≤1073741824
instance (rows cols:Int) (c:Ak):Decidable (Gv rows cols c):=by unfold Gv;infer_instance
def IL(c:Ak):Bool:=(c.Text=[])&&(c.Ref=0)&&(c.Attrs=[])
def Kh(l m:Int)(j:Bool)(c:Ak):Int:=
 if ¬ Gv l m c then 2 else if Gm c.Text.length c.Text=false then 23 else if Bz c.Attrs false≠0 then Bz c.Attrs false else if(!j&&IL c)=true then 4 else 0
def HB(m q:Int)(j:Bool)(l:List Ak)(k:Nat):Option Int:=
 if Kh m q j l[k]!≠0 then some (Kh m q j l[k]!) else if 0<k∧0≤Bh l[k-1]!.Row l[k]!.Row l[k-1]!.Col l[k]!.Col then some 5 else none
def Im(m q:Int)(j:Bool)(l:List Ak):Int:=((List.range l.length).findSome? (HB m q j l)).getD 0
theorem Wv(l:List AG):decide ((l.length:Int)=0)=decide (l=[]):=by
 rw[ns,nK,nK,← pF];omega
def PA(c:Ak):Prop:=HL c.Attrs∧c.Text.length≤1073741824
theorem hM(l:List Ak) k(C:k<l.length)(E:l.length≤9223372036854775806) :
  (AB (gd ((decide (0<(k:Int)))==true) (AR .i64 ((k:Int)-1))) λ(q:Int)=>
   AB (gd ((decide (0<(k:Int)))==true) (AL l q)) λ(w:Ak)=>
   AB (gd ((decide (0<(k:Int)))==true) (KY w l[k]!)) λ(A:Int)=>
   if((0<(k:Int))&&(0≤A)) then(some (.inr (.ext 5)):Option (Int ⊕ (Ar Unit Int))) else(
    AB (AR .i64 ((k:Int)+1)) λ(B:Int)=>some (.inl B)))=B2 k (if 0<k∧0≤Bh l[k-1]!.Row l[k]!.Row l[k-1]!.Col l[k]!.Col then some 5 else none):=by
 by_cases m:0<k
 ·rw[nJ (show(0:Int)<k by omega),show((true==true):Bool)=true from rfl,Aq,Ej m (by omega),AD,Aq,Ac (by omega),AD,Aq,kh,AD]
  by_cases j:0≤Bh l[k-1]!.Row l[k]!.Row l[k-1]!.Col l[k]!.Col
  ·rw[nH (show(true&&(0≤Bh l[k-1]!.Row l[k]!.Row l[k-1]!.Col l[k]!.Col))=true by rw[nJ j];rfl),nH ⟨m,j⟩];rfl
  ·rw[nG (show ¬ (true&&(0≤Bh l[k-1]!.Row l[k]!.Row l[k-1]!.Col l[k]!.Col))=true by rw[nI j];decide),nG (λh=>j h.2),An (by omega)];rfl
 ·obtain rfl:k=0:=by omega
  rw[nG (show ¬ (0<0∧_) from λh=>absurd h.1 (by decide))];rfl
theorem fc j m w (l:List Ak) (U:l.length≤1073741824) (M:∀c∈l,PA c):Nx l j m w=some (Im j m w l):=by
 unfold Nx
 rw[Bo (n:=l.length) (HB j m w l) (λk A=>by
  obtain⟨J,V⟩:=M _ (Bv A)
  have E:=hM l k A (by omega)
  unfold N4 HB Kh
  rw[nH (by simpa using A),Ac A,AD]
  by_cases B:Gv j m l[k]!
  ·have F:=B
   unfold Gv at F
   rw[nG (by simp only[nT,nK];omega),nG (by simp only[nT,nK];omega),im,AD,PS _ J.2 (by have:=J.1;omega),AD,E]
   rw[nG (nl.2 B)]
   cases O:Gm l[k]!.Text.length l[k]!.Text with
   | false=>rfl
   | true=>
    rw[nG (show ¬ ((!true)=true) by decide),nG (show ¬ (true=false) by decide)]
    by_cases q:Bz l[k]!.Attrs false=0
    ·rw[nG (Cw q),nG (nl.2 q)]
     have T:NX l[k]! = some (IL l[k]!):=by unfold NX IL;rw[Wv]
     rw[T,AD]
     by_cases C:(!w&&IL l[k]!)=true
     ·rw[nH (by rw[Bool.and_comm];exact C),nH C];rfl
     ·rw[nG (by rw[Bool.and_comm];exact C),nG C,nG (show ¬ ((0:Int)≠0) from λh=>h rfl)]
    ·rw[nH (B8 q),nH q,nH q];rfl
  ·rw[nH B]
   unfold Gv at B
   by_cases I:((((l[k]!.Row<0)||(j≤l[k]!.Row))||(l[k]!.Col<0))||(m≤l[k]!.Col))=true
   ·rw[nH I];rfl
   ·rw[nG I,nH (by simp only[nT,nK] at I ⊢;omega)];rfl) (by unfold N4;rw[nG (by simp)]),Ep]
 rfl
theorem Xw(l:List Ak) k(J:k<l.length)(M:l.length≤9223372036854775806) :
  (AB (gd ((decide (0<(k:Int)))==true) (AR .i64 ((k:Int)-1))) λ(F:Int)=>
      AB (gd ((decide (0<(k:Int)))==true) (AL l F)) λ(j:Ak)=>
      AB (gd ((((decide (0<(k:Int)))==true)&&((decide (l[k]!.Row<j.Row))==false))&&((decide (l[k]!.Row=j.Row))==true)) (AR .i64 ((k:Int)-1))) λ(I:Int)=>
      AB (gd ((((decide (0<(k:Int)))==true)&&((decide (l[k]!.Row<j.Row))==false))&&((decide (l[k]!.Row=j.Row))==true)) (AL l I)) λ(w:Ak)=>
      if((0<(k:Int))&&((l[k]!.Row<j.Row)||((l[k]!.Row=j.Row)&&(l[k]!.Col≤w.Col)))) then(some (.inr (.ext 5)):Option (Int ⊕ (Ar Unit Int))) else(
       AB (AR .i64 ((k:Int)+1)) λ(A:Int)=>some (.inl A)))=B2 k (if 0<k∧0≤Bh l[k-1]!.Row l[k]!.Row l[k-1]!.Col l[k]!.Col then some 5 else none):=by
 have m:=OR l[k-1]!.Row l[k]!.Row l[k-1]!.Col l[k]!.Col
 by_cases B:0<k
 ·rw[nJ (show(0:Int)<k by omega),show((true==true):Bool)=true from rfl,Aq,Ej B (by omega),AD,Aq,Ac (show k-1<l.length by omega),AD]
  by_cases q:l[k]!.Row<l[k-1]!.Row
  ·rw[nJ q,nH (show 0<k∧0≤Bh l[k-1]!.Row l[k]!.Row l[k-1]!.Col l[k]!.Col from⟨B,m.2 (.inl q)⟩)];rfl
  ·by_cases C:l[k]!.Row=l[k-1]!.Row
   ·rw[nI q,nJ C,show(((true&&(false==false))&&(true==true)):Bool)=true from rfl,Aq,AD,Aq,Ac (show k-1<l.length by omega),AD]
    by_cases E:l[k]!.Col≤l[k-1]!.Col
    ·rw[nJ E,nH (show 0<k∧0≤Bh l[k-1]!.Row l[k]!.Row l[k-1]!.Col l[k]!.Col from⟨B,m.2 (.inr ⟨C,E⟩)⟩)];rfl
    ·rw[nI E,nG (show ¬ (0<k∧0≤Bh l[k-1]!.Row l[k]!.Row l[k-1]!.Col l[k]!.Col) from λh=>by have:=m.1 h.2;omega),An (by omega)];rfl
   ·rw[nI q,nI C,nG (show ¬ (0<k∧0≤Bh l[k-1]!.Row l[k]!.Row l[k-1]!.Col l[k]!.Col) from λh=>by have:=m.1 h.2;omega),An (by omega)];rfl
 ·obtain rfl:k=0:=by omega
  rw[nG (show ¬ (0<0∧_) from λh=>absurd h.1 (by decide))];rfl
theorem gI j m w (l:List Ak) (V:l.length≤1073741824) (M:∀c∈l,PA c) (X:0≤j∧j≤2147483647) (O:0≤m∧m≤2147483647):M5 l j m w=some (Im j m w l):=by
 unfold M5
 rw[Bo (n:=l.length) (HB j m w l) (λk A=>by
  obtain⟨F,Z⟩:=M _ (Bv A)
  have C:=Xw l k A (by omega)
  unfold Mj HB Kh
  rw[nH (by simpa using A),Ac A,AD,CH (by omega) (by omega),AD,Dl,AD,Dl,C]
  by_cases B:Gv j m l[k]!
  ·have E:=B
   unfold Gv at E
   rw[nG (nl.2 B),nJ (show 0≤l[k]!.Row∧l[k]!.Row≤j-1 by omega),show((!true)==false)=true from rfl,Aq,CH (by omega) (by omega),AD,Aq,Dl,AD,nJ (show 0≤l[k]!.Col∧l[k]!.Col≤m-1 by omega),
    show(((!true)||(!true))==false)=true from rfl,Aq,AD,nJ (show 0≤l[k]!.Ref∧l[k]!.Ref≤1073741824 by omega),nG (by decide),bQ _ (by omega),AD,Qh _ _ F.2 (by have:=F.1;omega),AD]
   cases T:Gm l[k]!.Text.length l[k]!.Text with
   | false=>rfl
   | true=>
    rw[nG (show ¬ ((!true)=true) by decide),nG (show ¬ (true=false) by decide)]
    by_cases q:Bz l[k]!.Attrs false=0
    ·rw[nG (Cw q),nG (nl.2 q)]
     have U:NF l[k]! = some (IL l[k]!):=by unfold NF IL;rw[Wv]
     rw[U]
     cases w with
     | true=>rfl
     | false=>
      show(AB (gd true (some (IL l[k]!))) λ(r5:Bool)=>_)=_
      rw[Aq,AD]
      cases IL l[k]!<;>rfl
    ·rw[nH (B8 q),nH q,nH q];rfl
  ·rw[nH B]
   unfold Gv at B
   by_cases I:0≤l[k]!.Row∧l[k]!.Row≤j-1
   ·rw[nJ I,show((!true)==false)=true from rfl,Aq,CH (by omega) (by omega),AD,Aq,Dl,AD]
    by_cases J:0≤l[k]!.Col∧l[k]!.Col≤m-1
    ·rw[nJ J,show(((!true)||(!true))==false)=true from rfl,Aq,AD,nI (show ¬ (0≤l[k]!.Ref∧l[k]!.Ref≤1073741824) by omega)];rfl
    ·rw[nI J];rfl
   ·rw[nI I];rfl) (by unfold Mj;rw[nG (by simp)]),Ep]
 rfl
theorem W2{ρ:Type}{f}{n}(g:Nat→Option ρ)(w:∀k:Nat, k<n→(∀j, j<k→g j=none)→f k=B2 k (g k))
 (A:f n=some (.inr (.nrm ()))):iter f 0=some (DD ((List.range n).findSome? g)) := by
  have key:∀m k:Nat, k+m=n→(∀j, j<k→g j=none)→iter f (k:Int)=some (DD ((List.range' k m).findSome? g)) := by
    intro m
    induction m with
    | zero =>
      intro k B _
      obtain rfl:k=n := by omega
      rw[BL A];rfl
    | succ m C =>
      intro k B l
      have q := w k (by omega) l
      rw[List.range'_succ, ol]
      cases hg:g k with
      | some r => rw[hg] at q;rw[BL q];rfl
      | none =>
        rw[hg] at q
        rw[Bm q]
        exact C (k+1) (by omega) (λj E => by
          by_cases e:j=k
          · rw[e];exact hg
          · exact l j (by omega))
  have := key n 0 (by omega) (λj l => absurd l (Nat.not_lt_zero _))
  rw[qU]
  exact this
def Ce(j l:Int)(r:Aj):Prop:=0≤r.Row∧r.Row<j∧0≤r.Col∧r.Col<l∧1≤r.H∧r.H≤j-r.Row∧1≤r.W∧r.W≤l-r.Col
instance (rows cols:Int) (r:Aj):Decidable (Ce rows cols r):=by unfold Ce;infer_instance
def F2(a b:Aj):Bool:=decide (a.Row<b.Row+b.H∧b.Row<a.Row+a.H∧a.Col<b.Col+b.W∧b.Col<a.Col+a.W)
def ER(j l:Int):Prop:=0≤j∧j≤2147483647∧0≤l∧l≤2147483647
instance (rows cols:Int):Decidable (ER rows cols):=by unfold ER;infer_instance
theorem gP(r:Aj) j l(h:ER j l):M4 r j l=some (decide (Ce j l r)):=by
 obtain⟨F,I,J,M⟩:=h
 unfold M4
 by_cases w:0≤r.Row∧0≤r.Col∧1≤r.H∧1≤r.W∧r.Row<j∧r.Col<l
 ·obtain⟨A,B,a3,a4,a5,C⟩:=w
  rw[nJ A,nJ B,nJ a3,nJ a4,nJ a5,nJ C,show((((((true&&true)&&true)&&true)&&true)&&true)==true)=true from rfl,Aq,CH (by omega) (by omega),AD]
  by_cases m:r.H≤j-r.Row
  ·rw[nJ m,show(((((((true&&true)&&true)&&true)&&true)&&true)&&true)==true)=true from rfl,Aq,CH (by omega) (by omega),AD]
   by_cases q:r.W≤l-r.Col
   ·rw[nJ q,nJ (show Ce j l r from⟨A,a5,B,C,a3,m,a4,q⟩)];rfl
   ·rw[nI q,nI (show ¬ Ce j l r from λh=>q h.2.2.2.2.2.2.2)];rfl
  ·rw[nI m,nI (show ¬ Ce j l r from λh=>m h.2.2.2.2.2.1)];rfl
 ·have E:((((((0≤r.Row)&&(0≤r.Col))&&(1≤r.H))&&(1≤r.W))&&(r.Row<j))&&(r.Col<l))=false:=by
   rw[← ny]
   simp only[nR,nK]
   intro h;exact w (by omega)
  rw[E,nI (show ¬ Ce j l r from λh=>w ⟨h.1,h.2.2.1,h.2.2.2.2.1,h.2.2.2.2.2.2.1,h.2.1,h.2.2.2.1⟩)];rfl
theorem bA(r:Aj) j l(h:ER j l):Mm r j l=some (decide (Ce j l r)):=by
 obtain⟨w,A,B,C⟩:=h
 unfold Mm
 rw[CH (by omega) (by omega),AD,Dl,AD]
 by_cases m:0≤r.Row∧r.Row≤j-1
 ·rw[nJ m,show((true==true):Bool)=true from rfl,Aq,CH (by omega) (by omega),AD,Aq,Dl,AD]
  by_cases q:0≤r.Col∧r.Col≤l-1
  ·rw[nJ q,show((true&&true)==true)=true from rfl,Aq,CH (by omega) (by omega),AD,Aq,Dl,AD]
   by_cases a3:1≤r.H∧r.H≤j-r.Row
   ·rw[nJ a3,show(((true&&true)&&true)==true)=true from rfl,Aq,CH (by omega) (by omega),AD,Aq,Dl,AD]
    by_cases a4:1≤r.W∧r.W≤l-r.Col
    ·rw[nJ a4,nJ (show Ce j l r from⟨m.1,by omega,q.1,by omega,a3.1,a3.2,a4.1,a4.2⟩)];rfl
    ·rw[nI a4,nI (show ¬ Ce j l r from λh=>a4 ⟨h.2.2.2.2.2.2.1,h.2.2.2.2.2.2.2⟩)];rfl
   ·rw[nI a3,nI (show ¬ Ce j l r from λh=>a3 ⟨h.2.2.2.2.1,h.2.2.2.2.2.1⟩)];rfl
  ·rw[nI q,nI (show ¬ Ce j l r from λh=>q ⟨h.2.2.1,by have:=h.2.2.2.1;omega⟩)];rfl
 ·rw[nI m,nI (show ¬ Ce j l r from λh=>m ⟨h.1,by have:=h.2.1;omega⟩)];rfl
theorem aV{j l}(h:ER j l){a b:Aj}(B:Ce j l a)(C:Ce j l b):OC a b=some (F2 a b):=by
 obtain⟨E,F,I,J⟩:=h
 obtain⟨M,O,a3,a4,a5,T,U,V⟩:=B
 obtain⟨X,Z,b3,b4,b5,b6,b7,b8⟩:=C
 unfold OC F2
 rw[CH (by omega) (by omega),AD]
 by_cases m:a.Row<b.Row+b.H
 ·rw[nJ m,show((true==true):Bool)=true from rfl,Aq,CH (by omega) (by omega),AD]
  by_cases q:b.Row<a.Row+a.H
  ·rw[nJ q,show((true&&true)==true)=true from rfl,Aq,CH (by omega) (by omega),AD]
   by_cases w:a.Col<b.Col+b.W
   ·rw[nJ w,show(((true&&true)&&true)==true)=true from rfl,Aq,CH (by omega) (by omega),AD]
    by_cases A:b.Col<a.Col+a.W
    ·rw[nJ A,nJ (show _∧_∧_∧_ from⟨m,q,w,A⟩)];rfl
    ·rw[nI A,nI (show ¬ (a.Row<b.Row+b.H∧b.Row<a.Row+a.H∧a.Col<b.Col+b.W∧b.Col<a.Col+a.W) from λh=>A h.2.2.2)];rfl
   ·rw[nI w,nI (show ¬ (a.Row<b.Row+b.H∧b.Row<a.Row+a.H∧a.Col<b.Col+b.W∧b.Col<a.Col+a.W) from λh=>w h.2.2.1)];rfl
  ·rw[nI q,nI (show ¬ (a.Row<b.Row+b.H∧b.Row<a.Row+a.H∧a.Col<b.Col+b.W∧b.Col<a.Col+a.W) from λh=>q h.2.1)];rfl
 ·rw[nI m,nI (show ¬ (a.Row<b.Row+b.H∧b.Row<a.Row+a.H∧a.Col<b.Col+b.W∧b.Col<a.Col+a.W) from λh=>m h.1)];rfl
theorem bX{j l}(h:ER j l){a b:Aj}(w:Ce j l a)(A:Ce j l b):Nl a b=some (F2 b a):=by
 obtain⟨B,C,E,F⟩:=h
 obtain⟨I,J,a3,a4,a5,M,O,T⟩:=w
 obtain⟨U,V,X,Z,b5,b6,b7,b8⟩:=A
 unfold Nl F2
 rw[CH (by omega) (by omega),AD,CH (by omega) (by omega),AD]
 by_cases m:max a.Row b.Row<min (a.Row+a.H) (b.Row+b.H)
 ·rw[nJ m,show((true==true):Bool)=true from rfl,Aq,CH (by omega) (by omega),AD,Aq,CH (by omega) (by omega),AD]
  by_cases q:max a.Col b.Col<min (a.Col+a.W) (b.Col+b.W)
  ·rw[nJ q,nJ (show b.Row<a.Row+a.H∧a.Row<b.Row+b.H∧b.Col<a.Col+a.W∧a.Col<b.Col+b.W by omega)];rfl
  ·rw[nI q,nI (show ¬ (b.Row<a.Row+a.H∧a.Row<b.Row+b.H∧b.Col<a.Col+a.W∧a.Col<b.Col+b.W) by omega)];rfl
 ·rw[nI m,nI (show ¬ (b.Row<a.Row+a.H∧a.Row<b.Row+b.H∧b.Col<a.Col+a.W∧a.Col<b.Col+b.W) by omega)];rfl
theorem df{α:Type}[Inhabited α]{l:List α}{k j}(m:j<k)(q:k≤l.length):(l.take k)[j]! = l[j]!:=by
 rw[nW (l.take k) j (by rw[oW];omega),nW l j (by omega),List.getElem_take]
def KO(l:List Aj)(k:Nat)(w:Aj):Option Nat:=(List.range k).find? λj=>F2 l[j]! w
theorem YI{m q}(h:ER m q)(l:List Aj) k(C:k≤l.length)(I:l.length≤1073741824)(E:∀j,j<k→Ce m q l[j]!){w}(hw:Ce m q w) :
  KW w (l.take k)=some (KO l k w).isSome:=by
 unfold KW QJ
 have A:(l.take k).length=k:=by rw[oW];omega
 rw[Bo (n:=k) (λj=>if F2 l[j]! w then some (j:Int) else none) (λj B=>by
  unfold N2 OM
  rw[nH (by rw[A,nK];omega),Ac (by rw[A];exact B),AD,df B C,aV h (E j B) hw,AD,AD,An (by omega)]
  cases F2 l[j]! w<;>rfl) (by unfold N2;rw[nG (by rw[A];simp)]),Pt,Eh]
 unfold KO
 cases (List.range k).find? λj=>F2 l[j]! w with
 | none=>rfl
 | some j=>
  show(AB (some (j:Int)) λ(F:Int)=>some (decide (0≤F)))=_
  rw[AD,nJ (po j)];rfl
def H3(j m:Int)(l:List Aj)(k:Nat):Option Int:=
 if ¬ Ce j m l[k]! then some 2 else if l[k]!.H=1∧l[k]!.W=1 then some 4 else if 0<k∧0≤Bh l[k-1]!.Row l[k]!.Row l[k-1]!.Col l[k]!.Col then some 5 else if(KO l k l[k]!).isSome=true then some 21 else none
theorem SX{j m}{l}{k}(h:H3 j m l k=none):Ce j m l[k]!:=by
 unfold H3 at h
 by_cases q:Ce j m l[k]!
 ·exact q
 ·rw[nH q] at h;cases h
def Ge(g:Av):Int:=
 if ¬ ER g.Rows g.Cols then 2 else if Im g.Rows g.Cols false g.Cells≠0 then Im g.Rows g.Cols false g.Cells else((List.range g.Merges.length).findSome? (H3 g.Rows g.Cols g.Merges)).getD 0
def Q0(g:Av):Prop:=g.Cells.length≤1048576∧g.Merges.length≤1048576∧∀c∈g.Cells,PA c
theorem Y4(a b:Aj):M9 a b=some (!(0≤Bh a.Row b.Row a.Col b.Col)):=by
 unfold M9
 congr 1
 rw[ns]
 have:=OR a.Row b.Row a.Col b.Col
 simp only[nT,nR,nK,oF,oQ,this]
 omega
theorem UE(g:Av)(h:Q0 g):Lx g=some (Ge g):=by
 obtain⟨Z,hm,E⟩:=h
 unfold Lx Ge
 by_cases q:ER g.Rows g.Cols
 ·have F:=q
  obtain⟨r1,r2,M,r4⟩:=F
  rw[nG (by simp only[nT,nK];omega),fc _ _ _ _ (by omega) E,AD,nG (nl.2 q)]
  by_cases B:Im g.Rows g.Cols false g.Cells=0
  ·rw[nG (Cw B),nG (nl.2 B),W2 (n:=g.Merges.length) (H3 g.Rows g.Cols g.Merges) (λk O T=>by
    unfold NL
    rw[nH (by simpa using O),Ac O,AD,gP _ _ _ q,AD]
    unfold H3
    by_cases w:Ce g.Rows g.Cols g.Merges[k]!
    ·rw[nJ w,nG (show ¬ ((!true)=true) by decide),nG (nl.2 w)]
     by_cases A:g.Merges[k]!.H=1∧g.Merges[k]!.W=1
     ·rw[nH (by rw[nJ A.1,nJ A.2];rfl),nH A];rfl
     ·rw[nG (by simp only[nR,nK];exact A),nG A]
      have m:=YI q g.Merges k (by omega) (by omega) (λj I=>SX (T j I)) w
      have U:C0 g.Merges 0 (k:Int)=some (g.Merges.take k):=by
       rw[gG g.Merges k (by omega) (by omega)];simp
      have l:(AB (C0 g.Merges 0 (k:Int)) λ(V:List Aj)=>
        AB (KW g.Merges[k]! V) λ(M:Bool)=>
        if M then(some (.inr (.ext 21)):Option (Int ⊕ (Ar Unit Int))) else(
         AB (AR .i64 ((k:Int)+1)) λ(X:Int)=>some (.inl X)))=B2 k (if(KO g.Merges k g.Merges[k]!).isSome=true then some 21 else none):=by
       rw[U,AD,m,AD,An (by omega)]
       cases (KO g.Merges k g.Merges[k]!).isSome<;>rfl
      by_cases J:0<k
      ·rw[nJ (show(0:Int)<k by omega),show((true==true):Bool)=true from rfl,Aq,Ej J (by omega),AD,Aq,Ac (show k-1<g.Merges.length by omega),AD,Aq,Y4,AD]
       by_cases C:0≤Bh g.Merges[k-1]!.Row g.Merges[k]!.Row g.Merges[k-1]!.Col g.Merges[k]!.Col
       ·rw[nJ C,nH (show 0<k∧0≤Bh g.Merges[k-1]!.Row g.Merges[k]!.Row g.Merges[k-1]!.Col g.Merges[k]!.Col from⟨J,C⟩)];rfl
       ·rw[nI C,nG (show ¬ (0<k∧0≤Bh g.Merges[k-1]!.Row g.Merges[k]!.Row g.Merges[k-1]!.Col g.Merges[k]!.Col) from λh=>C h.2)]
        exact l
      ·have e0:k=0:=by omega
       rw[nG (show ¬ (0<k∧0≤Bh g.Merges[k-1]!.Row g.Merges[k]!.Row g.Merges[k-1]!.Col g.Merges[k]!.Col) from λh=>J h.1),nI (show ¬ (0:Int)<k by omega)]
       exact l
    ·rw[nI w,nH w];rfl) (by unfold NL;rw[nG (by simp)]),Ep]
  ·rw[nH (B8 B),nH B]
 ·rw[nH q,nH (by unfold ER at q;simp only[nT,nK];omega)]
theorem kl{X:Type}(l:List Aj)(k:Nat)(I:k<l.length)(J:l.length≤9223372036854775806)(a b:Option X) :
  (AB (gd ((decide (0<(k:Int)))==true) (AR .i64 ((k:Int)-1))) λ(C:Int)=>
    AB (gd ((decide (0<(k:Int)))==true) (AL l C)) λ(j:Aj)=>
    AB (gd ((((decide (0<(k:Int)))==true)&&((decide (l[k]!.Row<j.Row))==false))&&((decide (l[k]!.Row=j.Row))==true)) (AR .i64 ((k:Int)-1))) λ(E:Int)=>
    AB (gd ((((decide (0<(k:Int)))==true)&&((decide (l[k]!.Row<j.Row))==false))&&((decide (l[k]!.Row=j.Row))==true)) (AL l E)) λ(F:Aj)=>
    if((0<(k:Int))&&((l[k]!.Row<j.Row)||((l[k]!.Row=j.Row)&&(l[k]!.Col≤F.Col)))) then a else b) =
   if 0<k∧0≤Bh l[k-1]!.Row l[k]!.Row l[k-1]!.Col l[k]!.Col then a else b:=by
 have m:=OR l[k-1]!.Row l[k]!.Row l[k-1]!.Col l[k]!.Col
 by_cases q:0<k
 ·rw[nJ (show(0:Int)<k by omega),show((true==true):Bool)=true from rfl,Aq,Ej q (by omega),AD,Aq,Ac (show k-1<l.length by omega),AD]
  by_cases w:l[k]!.Row<l[k-1]!.Row
  ·rw[nJ w,nH (show 0<k∧0≤Bh l[k-1]!.Row l[k]!.Row l[k-1]!.Col l[k]!.Col from⟨q,m.2 (.inl w)⟩)];rfl
  ·by_cases A:l[k]!.Row=l[k-1]!.Row
   ·rw[nI w,nJ A,show(((true&&(false==false))&&(true==true)):Bool)=true from rfl,Aq,AD,Aq,Ac (show k-1<l.length by omega),AD]
    by_cases B:l[k]!.Col≤l[k-1]!.Col
    ·rw[nJ B,nH (show 0<k∧0≤Bh l[k-1]!.Row l[k]!.Row l[k-1]!.Col l[k]!.Col from⟨q,m.2 (.inr ⟨A,B⟩)⟩)];rfl
    ·rw[nI B,nG (show ¬ (0<k∧0≤Bh l[k-1]!.Row l[k]!.Row l[k-1]!.Col l[k]!.Col) from λh=>by have:=m.1 h.2;omega)];rfl
   ·rw[nI w,nI A,nG (show ¬ (0<k∧0≤Bh l[k-1]!.Row l[k]!.Row l[k-1]!.Col l[k]!.Col) from λh=>by have:=m.1 h.2;omega)];rfl
 ·rw[nG (show ¬ (0<k∧0≤Bh l[k-1]!.Row l[k]!.Row l[k-1]!.Col l[k]!.Col) from λh=>q h.1),nI (show ¬ (0:Int)<k by omega)];rfl
theorem cC(g:Av)(h:Q0 g):Nh g=some (Ge g):=by
 obtain⟨U,V,B⟩:=h
 unfold Nh Ge
 rw[Dl,AD]
 by_cases l:ER g.Rows g.Cols
 ·have C:=l
  obtain⟨I,J,M,O⟩:=C
  rw[nJ (show 0≤g.Rows∧g.Rows≤2147483647 from⟨I,J⟩),show((!true)==false)=true from rfl,Aq,Dl,AD,nJ (show 0≤g.Cols∧g.Cols≤2147483647 from⟨M,O⟩),nG (by decide),
   gI _ _ _ _ (by omega) B ⟨I,J⟩ ⟨M,O⟩,AD,nG (nl.2 l)]
  by_cases w:Im g.Rows g.Cols false g.Cells=0
  ·rw[nG (Cw w),nG (nl.2 w),W2 (n:=g.Merges.length) (H3 g.Rows g.Cols g.Merges) (λk E T=>by
    unfold Mv
    rw[nH (by simpa using E),Ac E,AD,bA _ _ _ l,AD]
    unfold H3
    by_cases m:Ce g.Rows g.Cols g.Merges[k]!
    ·rw[nJ m,nG (show ¬ ((!true)=true) by decide),nG (nl.2 m)]
     by_cases q:g.Merges[k]!.H=1∧g.Merges[k]!.W=1
     ·rw[nH (by rw[nJ q.1,nJ q.2];rfl),nH q];rfl
     ·rw[nG (by simp only[nR,nK];exact q),nG q,kl _ k E (by omega)]
      by_cases A:0<k∧0≤Bh g.Merges[k-1]!.Row g.Merges[k]!.Row g.Merges[k-1]!.Col g.Merges[k]!.Col
      ·rw[nH A,nH A];rfl
      ·rw[nG A,nG A,Bo (n:=k) (λj=>if F2 g.Merges[j]! g.Merges[k]! then some (.inr (.ext 21)) else none) (λj F=>by
        unfold MD
        rw[nH (by rw[nK];omega),Ac (by omega),AD,bX l m (SX (T j F)),AD,An (by omega)]
        cases F2 g.Merges[j]! g.Merges[k]!<;>rfl) (by unfold MD;rw[nG (by rw[nK];omega)]),Pt,Eh]
       unfold KO
       cases (List.range k).find? λj=>F2 g.Merges[j]! g.Merges[k]! with
       | none=>rw[An (by omega)];rfl
       | some j=>rfl
    ·rw[nI m,nH m];rfl) (by unfold Mv;rw[nG (by simp)]),Ep]
  ·rw[nH (B8 w),nH w]
 ·rw[nH l]
  unfold ER at l
  by_cases a:0≤g.Rows∧g.Rows≤2147483647
  ·rw[nJ a,show((!true)==false)=true from rfl,Aq,Dl,AD,nI (show ¬ (0≤g.Cols∧g.Cols≤2147483647) by omega)];rfl
  ·rw[nI a];rfl
def Q1(c:UInt8):Bool:=(97≤c.toNat)&&(c.toNat≤122)
def OP(s:List UInt8):Bool:=(List.range s.length).all λk=>Q1 s[k]!
def Ix(s:List UInt8):Bool:=(1≤s.length)&&(s.length≤200)&&!(s[s.length-1]!.toNat=97)&&OP s
theorem UO(s:List UInt8)(l:s.length≤9223372036854775806):iter (λ(a:Int)=>Ja s a) 0=some (DD (if OP s then none else some false)):=by
 rw[Bo (n:=s.length) (λk=>if Q1 s[k]! then none else some false) (λk j=>by
  unfold Ja
  rw[nH (by simpa using j),Ac j,AD,An (by omega)]
  unfold Q1
  generalize s[k]! = c
  by_cases h:97≤c.toNat∧c.toNat≤122
  ·rw[nG (by simp only[nT,nK];omega),nH (by simp only[nR,nK];exact h)];rfl
  ·rw[nH (by simp only[nT,nK];omega),nG (by simp only[nR,nK];exact h)];rfl) (by unfold Ja;rw[nG (by simp)]),JU]
 rfl
theorem kq:I6=Ja:=by funext s x;rfl
theorem ev(s:List UInt8)(m:s.length≤9223372036854775806):Je s=some (Ix s):=by
 unfold Je Ix
 rw[kq,UO s m]
 by_cases h:1≤s.length∧s.length≤200
 ·have j:s≠[]:=pH.1 h.1
  rw[nI j,nI (show ¬ (200:Int)<(s.length:Int) by omega),show((false||false)==false)=true from rfl,Aq,Ej h.1 (by omega),AD,Aq,Ac (by omega),AD,nJ h.1,nJ h.2]
  by_cases l:s[s.length-1]!.toNat=97
  ·rw[nJ l,nH (by rw[nJ (show((s[s.length-1]!.toNat:Int)=97) by omega)];rfl)];rfl
  ·rw[nI l,nG (by rw[nI (show ¬ ((s[s.length-1]!.toNat:Int)=97) by omega)];decide)]
   cases OP s<;>rfl
 ·have q:((s=[])||(200<(s.length:Int)))=true:=by
   rw[nT,nK,nK,← pF];omega
  have hd:((1≤s.length)&&(s.length≤200))=false:=by
   rw[← ny,nR,nK,nK];exact h
  rw[q,hd];rfl
theorem lc(s:List UInt8)(l:s.length≤9223372036854775806):OE s=some (Ix s):=by
 unfold OE Ix
 rw[UO s l,Eh]
 cases OP s with
 | false=>rw[Bool.and_false];rfl
 | true=>
  rw[nH rfl,Bool.and_true]
  dsimp only
  by_cases h:1≤s.length∧s.length≤200
  ·rw[nJ (show(1:Int)≤(s.length:Int) by omega),nJ (show(s.length:Int)≤200 by omega),show((true&&true)==true)=true from rfl,Aq,Ej h.1 (by omega),AD,Aq,Ac (by omega),AD,nJ h.1,nJ h.2]
   by_cases j:s[s.length-1]!.toNat=97
   ·rw[nJ j,nJ (show((s[s.length-1]!.toNat:Int)=97) by omega)]
   ·rw[nI j,nI (show ¬ ((s[s.length-1]!.toNat:Int)=97) by omega)]
  ·have m:((1≤(s.length:Int))&&((s.length:Int)≤200))=false:=by
    rw[← ny,nR,nK,nK];omega
   have hd:((1≤s.length)&&(s.length≤200))=false:=by
    rw[← ny,nR,nK,nK];exact h
   rw[m,hd];rfl
def Fw(o:At):Prop:=(1≤o.Clock∧o.Clock≤1073741824)∧(0≤o.Site∧o.Site≤1000)∧(1≤o.Item∧o.Item≤1073741824)
instance (o:At):Decidable (Fw o):=by unfold Fw;infer_instance
def Kr(o:At):Int:=
 if ¬ (o.Kind=0∨o.Kind=1) then 8 else if ¬ Fw o then 2
 else if o.Kind=0 then(if o.Name≠[]∨o.Value≠[] then 4 else if ¬ (-1≤o.Parent∧o.Parent≤1073741824) then 2 else if Ix o.Place=false then 9 else 0)
 else(if o.Parent≠0∨o.Place≠[] then 4 else if D9 o.Name=false then 9 else if o.Value≠[]∧DO o.Value=false then 23 else 0)
def ME(l:List At)(k:Nat):Option Int:=
 if Kr l[k]!≠0 then some (Kr l[k]!) else if 0<k∧0≤Bh l[k-1]!.Clock l[k]!.Clock l[k-1]!.Site l[k]!.Site then some 5 else none
def UA(l:List At):Int:=((List.range l.length).findSome? (ME l)).getD 0
def O9(o:At):Prop:=o.Place.length≤1073741824∧o.Name.length≤1073741824∧o.Value.length≤1073741824
theorem aK(o:At)(h:O9 o):Iu o=some (Kr o):=by
 obtain⟨hp,I,J⟩:=h
 unfold Iu Kr
 rw[ev _ (by omega),R1 _ (by omega),Q7 _ (by omega)]
 by_cases l:o.Kind=0
 ·have q:¬ o.Kind=1:=by omega
  rw[nG (show ¬ ((!(o.Kind=0))&&(!(o.Kind=1)))=true by rw[nJ l];simp),nG (show ¬ ¬ (o.Kind=0∨o.Kind=1) from λh=>h (.inl l))]
  by_cases m:Fw o
  ·have w:=m
   unfold Fw at w
   rw[nG (by simp only[nT,nK];omega),nG (nl.2 m),nH l,nJ l,nI q]
   by_cases j:o.Name≠[]∨o.Value≠[]
   ·have A:(true&&((!(o.Name=[]))||(!(o.Value=[]))))=true:=by
     rw[nt,nT]
     rcases j with c | c
     ·exact .inl (B8 c)
     ·exact .inr (B8 c)
    rw[nH j,A];rfl
   ·have C:o.Name=[]∧o.Value=[]:=⟨ne λh=>j (.inl h),ne λh=>j (.inr h)⟩
    have A:(true&&((!(o.Name=[]))||(!(o.Value=[]))))=false:=by rw[nJ C.1,nJ C.2];rfl
    rw[nG j,A]
    by_cases B : -1≤o.Parent∧o.Parent≤1073741824
    ·rw[nG (nl.2 B)]
     have E:((o.Parent<(-1))||(1073741824<o.Parent))=false:=by
      rw[← ny,nT,nK,nK];omega
     rw[E]
     cases Ix o.Place with
     | false=>rfl
     | true=>rw[nJ C.2];rfl
    ·rw[nH B]
     have E:((o.Parent<(-1))||(1073741824<o.Parent))=true:=by
      rw[nT,nK,nK];omega
     rw[E];rfl
  ·rw[nH (by unfold Fw at m;simp only[nT,nK];omega),nH m]
 ·by_cases q:o.Kind=1
  ·rw[nG (show ¬ ((!(o.Kind=0))&&(!(o.Kind=1)))=true by rw[nJ q,nI l];decide),nG (show ¬ ¬ (o.Kind=0∨o.Kind=1) from λh=>h (.inr q))]
   by_cases m:Fw o
   ·have w:=m
    unfold Fw at w
    rw[nG (by simp only[nT,nK];omega),nG (nl.2 m),nG l,nI l,nJ q]
    by_cases j:o.Parent≠0∨o.Place≠[]
    ·have A:(true&&((!(o.Parent=0))||(!(o.Place=[]))))=true:=by
      rw[nt,nT]
      rcases j with c | c
      ·exact .inl (B8 c)
      ·exact .inr (B8 c)
     rw[nH j,A];rfl
    ·have C:o.Parent=0∧o.Place=[]:=⟨ne λh=>j (.inl h),ne λh=>j (.inr h)⟩
     have A:(true&&((!(o.Parent=0))||(!(o.Place=[]))))=false:=by rw[nJ C.1,nJ C.2];rfl
     rw[nG j,A]
     cases D9 o.Name with
     | false=>rfl
     | true=>
      by_cases B:o.Value=[]
      ·rw[nJ B,nG (show ¬ (true=false) by decide),nG (show ¬ (o.Value≠[]∧DO o.Value=false) from λh=>h.1 B)];rfl
      ·rw[nI B,nG (show ¬ (true=false) by decide)]
       cases F:DO o.Value with
       | false=>rw[nH (show o.Value≠[]∧false=false from⟨B,rfl⟩)];rfl
       | true=>rw[nG (show ¬ (o.Value≠[]∧true=false) from λh=>by cases h.2)];rfl
   ·rw[nH (by unfold Fw at m;simp only[nT,nK];omega),nH m]
  ·rw[nH (show((!(o.Kind=0))&&(!(o.Kind=1)))=true by rw[nI q,nI l];rfl),nH (show ¬ (o.Kind=0∨o.Kind=1) from λh=>h.elim l q)]
theorem YU(a b:At):JJ a b=some (Bh a.Clock b.Clock a.Site b.Site):=by
 unfold JJ
 rw[OX,OX,AD,AD,Tq,AD,Tb]
theorem ez(a b:At):LS a b=some (!(0≤Bh a.Clock b.Clock a.Site b.Site)):=by
 unfold LS
 congr 1
 rw[ns]
 have:=OR a.Clock b.Clock a.Site b.Site
 simp only[nT,nR,nK,oF,oQ,this]
 omega
theorem e9(l:List At)(A:l.length≤1073741824)(w:∀o∈l,O9 o):JZ l=some (UA l):=by
 unfold JZ
 rw[Bo (n:=l.length) (ME l) (λk m=>by
  unfold Iw ME
  rw[nH (by simpa using m),Ac m,AD,aK _ (w _ (Bv m)),AD]
  by_cases e:Kr l[k]! = 0
  ·rw[nG (Cw e),nG (nl.2 e)]
   by_cases q:0<k
   ·rw[nJ (show(0:Int)<k by omega),show((true==true):Bool)=true from rfl,Aq,Ej q (by omega),AD,Aq,Ac (show k-1<l.length by omega),AD,Aq,YU,AD]
    by_cases j:0≤Bh l[k-1]!.Clock l[k]!.Clock l[k-1]!.Site l[k]!.Site
    ·rw[nJ j,nH (show 0<k∧0≤Bh l[k-1]!.Clock l[k]!.Clock l[k-1]!.Site l[k]!.Site from⟨q,j⟩)];rfl
    ·rw[nI j,nG (show ¬ (0<k∧0≤Bh l[k-1]!.Clock l[k]!.Clock l[k-1]!.Site l[k]!.Site) from λh=>j h.2),An (by omega)];rfl
   ·rw[nG (show ¬ (0<k∧0≤Bh l[k-1]!.Clock l[k]!.Clock l[k-1]!.Site l[k]!.Site) from λh=>q h.1),nI (show ¬ (0:Int)<k by omega),An (by omega)];rfl
  ·rw[nH (B8 e),nH e];rfl) (by unfold Iw;rw[nG (by simp)]),Ep]
 rfl
theorem jb(l:List At)(hm:l.length≤1073741824)(U:∀o∈l,O9 o):N3 l=some (UA l):=by
 unfold N3
 rw[Bo (n:=l.length) (ME l) (λk F=>by
  obtain⟨hp,V,X⟩:=U _ (Bv F)
  have q:(AB (gd ((decide (0<(k:Int)))==true) (AR .i64 ((k:Int)-1))) λ(Z:Int)=>
    AB (gd ((decide (0<(k:Int)))==true) (AL l Z)) λ(x6:At)=>
    AB (gd ((decide (0<(k:Int)))==true) (LS x6 l[k]!)) λ(r4:Bool)=>
    if((0<(k:Int))&&(!r4)) then(some (.inr (.ext 5)):Option (Int ⊕ (Ar Unit Int))) else(
     AB (AR .i64 ((k:Int)+1)) λ(x7:Int)=>some (.inl x7)))=B2 k (if 0<k∧0≤Bh l[k-1]!.Clock l[k]!.Clock l[k-1]!.Site l[k]!.Site then some 5 else none):=by
   by_cases I:0<k
   ·rw[nJ (show(0:Int)<k by omega),show((true==true):Bool)=true from rfl,Aq,Ej I (by omega),AD,Aq,Ac (show k-1<l.length by omega),AD,Aq,ez,AD]
    by_cases C:0≤Bh l[k-1]!.Clock l[k]!.Clock l[k-1]!.Site l[k]!.Site
    ·rw[nJ C,nH (show 0<k∧0≤Bh l[k-1]!.Clock l[k]!.Clock l[k-1]!.Site l[k]!.Site from⟨I,C⟩)];rfl
    ·rw[nI C,nG (show ¬ (0<k∧0≤Bh l[k-1]!.Clock l[k]!.Clock l[k-1]!.Site l[k]!.Site) from λh=>C h.2),An (by omega)];rfl
   ·rw[nG (show ¬ (0<k∧0≤Bh l[k-1]!.Clock l[k]!.Clock l[k-1]!.Site l[k]!.Site) from λh=>I h.1),nI (show ¬ (0:Int)<k by omega),An (by omega)];rfl
  unfold L3 ME Kr
  rw[nH (by simpa using F),Ac F,AD,q,Dl,AD,Dl,Dl,Dl,lc _ (by omega),Tg _ (by omega),TV _ (by omega)]
  generalize l[k]! = o at hp V X ⊢
  by_cases A:o.Kind=0∨o.Kind=1
  ·rw[nG (show ¬ ((!(o.Kind=0))&&(!(o.Kind=1)))=true by rcases A with h | h<;>rw[nJ h]<;>simp),nG (nl.2 A)]
   by_cases w:Fw o
   ·rw[nG (nl.2 w),nJ w.1,show((!true)==false)=true from rfl,Aq,AD,nJ w.2.1,show(((!true)||(!true))==false)=true from rfl,Aq,AD,nJ w.2.2,nG (show ¬ (((!true)||(!true))||(!true))=true by decide)]
    by_cases E:o.Kind=0
    ·rw[nH (nJ E),nH E]
     by_cases j:o.Name≠[]∨o.Value≠[]
     ·have J:((!(o.Name=[]))||(!(o.Value=[])))=true:=by
       rw[nT]
       rcases j with c | c
       ·exact .inl (B8 c)
       ·exact .inr (B8 c)
      rw[nH j,nH J];rfl
     ·have B:o.Name=[]∧o.Value=[]:=⟨ne λh=>j (.inl h),ne λh=>j (.inr h)⟩
      rw[nG j,nG (show ¬ ((!(o.Name=[]))||(!(o.Value=[])))=true by rw[nJ B.1,nJ B.2];decide),AD]
      by_cases m : -1≤o.Parent∧o.Parent≤1073741824
      ·rw[nG (nl.2 m),nJ m,nG (show ¬ ((!true)=true) by decide),AD]
       cases Ix o.Place<;>rfl
      ·rw[nH m,nI m];rfl
    ·rw[nG (show ¬ decide (o.Kind=0)=true by simpa using E),nG E]
     by_cases j:o.Parent≠0∨o.Place≠[]
     ·have J:((!(o.Parent=0))||(!(o.Place=[])))=true:=by
       rw[nT]
       rcases j with c | c
       ·exact .inl (B8 c)
       ·exact .inr (B8 c)
      rw[nH j,nH J];rfl
     ·have B:o.Parent=0∧o.Place=[]:=⟨ne λh=>j (.inl h),ne λh=>j (.inr h)⟩
      rw[nG j,nG (show ¬ ((!(o.Parent=0))||(!(o.Place=[])))=true by rw[nJ B.1,nJ B.2];decide),AD]
      cases D9 o.Name with
      | false=>rfl
      | true=>
       by_cases m:o.Value=[]
       ·rw[nJ m,nG (show ¬ (true=false) by decide),nG (show ¬ (o.Value≠[]∧DO o.Value=false) from λh=>h.1 m)];rfl
       ·rw[nI m,nG (show ¬ (true=false) by decide)]
        cases a0:DO o.Value with
        | false=>rw[nH (show o.Value≠[]∧false=false from⟨m,rfl⟩)];rfl
        | true=>rw[nG (show ¬ (o.Value≠[]∧true=false) from λh=>by cases h.2)];rfl
   ·rw[nH w]
    unfold Fw at w
    by_cases O:1≤o.Clock∧o.Clock≤1073741824
    ·rw[nJ O,show((!true)==false)=true from rfl,Aq,AD]
     by_cases T:0≤o.Site∧o.Site≤1000
     ·rw[nJ T,show(((!true)||(!true))==false)=true from rfl,Aq,AD,nI (show ¬ (1≤o.Item∧o.Item≤1073741824) by omega)];rfl
     ·rw[nI T];rfl
    ·rw[nI O];rfl
  ·have M:((!(o.Kind=0))&&(!(o.Kind=1)))=true:=by
    rw[nI (λh=>A (.inl h)),nI (λh=>A (.inr h))];rfl
   rw[nH M,nH A];rfl) (by unfold L3;rw[nG (by simp)]),Ep]
 rfl
theorem XJ:Kc=Fv:=by funext k;rfl
theorem Xe:O4=GH:=by funext k;rfl
theorem gC:MC=FG:=by funext k;rfl
theorem jk:Pq=Fx:=by funext k;rfl
structure GV(n:AK):Prop where
 ok:Lz n
 ce:∀c∈n.Grid.Cells,PA c
 dr:∀o∈n.Draw,O9 o
theorem GV.gd{n:AK}(h:GV n):Q0 n.Grid:=⟨h.ok.gr.1,h.ok.gr.2.1,h.ce⟩
def LN(kind:Int)(c:Ak):Bool:=((kind=2)&&((!(c.Text=[]))||(0<(c.Attrs.length:Int))))||((kind=6)&&(!(c.Ref=0)))
def Tz(kind:Int)(l:List Ak):Int:=((List.range l.length).findSome? λk=>if LN kind l[k]! then some (4:Int) else none).getD 0
theorem cX kind(l:List Ak)(m:l.length≤1073741824):Lo kind l=some (Tz kind l):=by
 unfold Lo
 rw[Bo (n:=l.length) (λk=>if LN kind l[k]! then some (4:Int) else none) (λk j=>by
  unfold L7
  rw[nH (by simpa using j),Ac j,AD,An (by omega)]
  show(if LN kind l[k]! = true then _ else _)=_
  cases LN kind l[k]!<;>rfl) (by unfold L7;rw[nG (by simp)]),Ep]
 rfl
theorem hO kind(l:List Ak)(A:l.length≤1073741824):OG kind l=some (Tz kind l):=by
 unfold OG
 rw[Bo (n:=l.length) (λk=>if LN kind l[k]! then some (4:Int) else none) (λk w=>by
  unfold Nw LN
  rw[nH (by simpa using w),Ac w,An (by omega)]
  generalize l[k]! = c
  by_cases m:kind=2
  ·have j:¬ kind=6:=by omega
   rw[nJ m,nI j]
   rw[show((true==true):Bool)=true from rfl,Aq,AD]
   generalize ((!(c.Text=[]))||(0<(c.Attrs.length:Int)))=q
   cases q<;>rfl
  ·by_cases j:kind=6
   ·rw[nI m,nJ j]
    rw[show((false==true):Bool)=false from rfl,Ci,AD]
    show(AB (gd true (some c)) λ(B:Ak)=>_)=_
    rw[Aq,AD]
    generalize (!(c.Ref=0))=q
    cases q<;>rfl
   ·rw[nI m,nI j];rfl) (by unfold Nw;rw[nG (by simp)]),Ep]
 rfl
def RQ(t l g z d j m:Bool):Bool:=((!(t||l)&&j)||(!g&&!z))||(!d&&m)
theorem ir t l g z d j m :
  (if(((!(t||l))&&j)==false) then(
   if((!g)==true) then(
    AB (gd ((((!(t||l))&&j)||((!g)&&(!z)))==false) (some d)) λ(w:Bool)=>
    some ((((!(t||l))&&j)||((!g)&&(!z)))||((!w)&&m))
   ) else(
    AB (gd ((((!(t||l))&&j)||((!g)&&false))==false) (some d)) λ(A:Bool)=>
    some ((((!(t||l))&&j)||((!g)&&false))||((!A)&&m))
   )
  ) else(
   AB (gd ((((!(t||l))&&j)||false)==false) (some d)) λ(q:Bool)=>
   some ((((!(t||l))&&j)||false)||((!q)&&m))
  ))=some (RQ t l g z d j m):=by
 cases t<;>cases l<;>cases g<;>cases z<;>cases d<;>cases j<;>cases m<;>rfl
theorem Y0{X:Type}(t l g z d j m:Bool)(A B:Option X) :
  (AB (gd ((j&&(!(t||l)))==false) (some z)) λ(q:Bool)=>
   AB (gd (((j&&(!(t||l)))==false)&&((!q)==true)) (some g)) λ(w:Bool)=>
   AB (gd ((((j&&(!(t||l)))||((!q)&&(!w)))==false)&&(m==true)) (some d)) λ(C:Bool)=>
   if(((j&&(!(t||l)))||((!q)&&(!w)))||(m&&(!C))) then A else B)=if RQ t l g z d j m=true then A else B:=by
 cases t<;>cases l<;>cases g<;>cases z<;>cases d<;>cases j<;>cases m<;>rfl
theorem TT{α:Type}(l:List α):decide ((l.length:Int)=0)=l.isEmpty:=by
 cases l with
 | nil=>rfl
 | cons a l=>exact nI (by simp only[oG];omega)
theorem lW g:Mn g=some (decide (g=Av.mk 0 0 [] [])):=by
 unfold Mn
 congr 1
 obtain⟨a,b,c,d⟩:=g
 rw[TT,TT,ns]
 simp[and_assoc]
theorem P9(n:AK)(h:GV n):∃e,Cr n=some e∧Mk n=some e:=by
 have A:=h.ok.at_
 have hf:=h.ok.fl
 have hg:=h.ok.gr
 have hd:=h.ok.dr
 have M:∀x∈n.Flow,Gp x:=λx hx=>⟨by have:=(h.ok.fa x hx).1;omega,(h.ok.fa x hx).2⟩
 unfold Cr Mk
 rw[XJ,Xe,gC,jk,Dl,AD]
 by_cases c1:1≤n.ID∧n.ID≤1073741824
 ·rw[nG (show ¬ ((n.ID<1)||(1073741824<n.ID))=true by simp only[nT,nK];omega),nJ c1,nG (show ¬ ((!true)=true) by decide),Dl,AD]
  by_cases j:(0≤n.Kind∧n.Kind≤12)∧(n.ID=1↔n.Kind=0)
  ·obtain⟨j,B⟩:=j
   have O:(((n.Kind<0)||(13≤n.Kind))||(!((decide (n.ID=1))==(decide (n.Kind=0)))))=false:=by
    rw[nI (show ¬ n.Kind<0 by omega),nI (show ¬ 13≤n.Kind by omega)]
    by_cases q:n.ID=1
    ·rw[nJ q,nJ (B.1 q)];rfl
    ·rw[nI q,nI (λe=>q (B.2 e))];rfl
   have T:(((!(0≤n.Kind∧n.Kind≤12))||((n.ID=1)&&(!(n.Kind=0))))||((!(n.ID=1))&&(n.Kind=0)))=false:=by
    rw[nJ j]
    by_cases q:n.ID=1
    ·rw[nJ q,nJ (B.1 q)];rfl
    ·rw[nI q,nI (λe=>q (B.2 e))];rfl
   rw[O,T,nG (show ¬ (false=true) by decide),nG (show ¬ (false=true) by decide),PS _ A.2 (by have:=A.1;omega),AD,Qh _ _ A.2 (by have:=A.1;omega),AD]
   by_cases C:Bz n.Attrs false=0
   ·rw[nG (Cw C),nG (Cw C)]
    obtain⟨t,ht⟩:∃t,Fv n.Kind=some t:=⟨_,rfl⟩
    obtain⟨l,hl⟩:∃t,GH n.Kind=some t:=⟨_,rfl⟩
    obtain⟨g,U⟩:∃t,FG n.Kind=some t:=⟨_,rfl⟩
    obtain⟨d,V⟩:∃t,Fx n.Kind=some t:=⟨_,rfl⟩
    rw[ht,hl,U,V,AD,AD,P5 _ _ hg,lW]
    have X:∃E,gd (t==false) (some l)=some E:=by cases t<;>exact⟨_,rfl⟩
    obtain⟨E,Z⟩:=X
    rw[Z,AD,AD,AD,ir,AD,AD,Y0]
    by_cases F:RQ t E g (decide (n.Grid=Av.mk 0 0 [] [])) d (decide (0<(n.Flow.length:Int))) (decide (0<(n.Draw.length:Int)))=true
    ·rw[nH F,nH F];exact⟨_,rfl,rfl⟩
    ·rw[nG F,nG F]
     by_cases I:(t||E)=true
     ·obtain⟨r,h1,h2⟩:=iQ n.Flow t M (by omega)
      rw[nH I,nH I,h1,h2];exact⟨_,rfl,rfl⟩
     ·rw[nG I,nG I]
      cases g with
      | true=>
       rw[nH rfl,UE _ h.gd,AD,AD,nH rfl,cC _ h.gd,AD]
       by_cases J:Ge n.Grid=0
       ·rw[nG (Cw J),nG (Cw J),cX _ _ (by have:=hg.1;omega),hO _ _ (by have:=hg.1;omega)];exact⟨_,rfl,rfl⟩
       ·rw[nH (B8 J),nH (B8 J)];exact⟨_,rfl,rfl⟩
      | false=>
       rw[nG (show ¬ (false=true) by decide),AD,nG (show ¬ (false=true) by decide),e9 _ (by omega) h.dr,jb _ (by omega) h.dr];exact⟨_,rfl,rfl⟩
   ·rw[nH (B8 C),nH (B8 C)];exact⟨_,rfl,rfl⟩
  ·have O:(((n.Kind<0)||(13≤n.Kind))||(!((decide (n.ID=1))==(decide (n.Kind=0)))))=true:=by
    by_cases m:0≤n.Kind∧n.Kind≤12
    ·have w:¬ (n.ID=1↔n.Kind=0):=λe=>j ⟨m,e⟩
     by_cases q:n.ID=1
     ·rw[nJ q,nI (λe=>w ⟨λ_=>e,λ_=>q⟩),nT];exact .inr rfl
     ·rw[nI q,nJ (ne λe=>w ⟨λx=>absurd x q,λx=>absurd x e⟩),nT];exact .inr rfl
    ·simp only[nT,nK];exact .inl (by omega)
   have T:(((!(0≤n.Kind∧n.Kind≤12))||((n.ID=1)&&(!(n.Kind=0))))||((!(n.ID=1))&&(n.Kind=0)))=true:=by
    by_cases m:0≤n.Kind∧n.Kind≤12
    ·have w:¬ (n.ID=1↔n.Kind=0):=λe=>j ⟨m,e⟩
     rw[nJ m]
     by_cases q:n.ID=1
     ·rw[nJ q,nI (λe=>w ⟨λ_=>e,λ_=>q⟩)];rfl
     ·rw[nI q,nJ (ne λe=>w ⟨λx=>absurd x q,λx=>absurd x e⟩)];rfl
    ·rw[nI m];rfl
   rw[O,T];exact⟨_,rfl,rfl⟩
 ·rw[nH (show((n.ID<1)||(1073741824<n.ID))=true by simp only[nT,nK];omega),nI c1];exact⟨_,rfl,rfl⟩
theorem aB(s:List Int) v(q:s.length≤1048576):IT s v=some ((List.range s.length).find? λj=>decide (v=s[j]!)).isSome:=by
 unfold IT NG
 rw[Bo (n:=s.length) (λj=>if decide (v=s[j]!) then some (j:Int) else none) (λj l=>by
  unfold H7
  rw[nH (by simpa using l),Ac l,AD,An (by omega)]
  cases decide (v=s[j]!)<;>rfl) (by unfold H7;rw[nG (by simp)]),Pt,Eh]
 cases (List.range s.length).find? λj=>decide (v=s[j]!) with
 | none=>rfl
 | some j=>
  show(AB (some (j:Int)) λ(m:Int)=>some (decide (0≤m)))=_
  rw[AD,nJ (po j)];rfl
theorem H4(s:List Int) v(m:s.length≤1048576):IT s v=some (decide (v∈s)):=by
 rw[aB s v m]
 congr 1
 rw[ns,nK,List.find?_isSome]
 constructor
 ·rintro⟨j,q,w⟩
  have l:=nm.1 q
  rw[ph w];exact Bv l
 ·intro h
  obtain⟨j,l,e⟩:=p6 h
  exact⟨j,nm.2 l,nJ (by rw[nW s j l,e])⟩
def JW(p k:Int):Bool:=
 if p=0 then decide (k∈[1,6,7,10,11,12]) else if p=1 then decide (k∈[2,4,5,10]) else if p=3 then decide (k∈[4,5,10]) else if p=4∨p=12 then decide (k=5) else if p=2 then decide (k=3) else if p=7 then decide (k=8∨k=9) else false
theorem Ve p k:JB p k=some (JW p k):=by
 unfold JB JW
 by_cases l:p=0
 ·rw[nH (nJ l),nH l,AD,H4 _ _ (by decide)];rfl
 ·rw[nG (show ¬ decide (p=0)=true by simpa using l),nG l]
  by_cases m:p=1
  ·rw[nH (nJ m),nH m,AD,H4 _ _ (by decide)];rfl
  ·rw[nG (show ¬ decide (p=1)=true by simpa using m),nG m]
   by_cases q:p=3
   ·rw[nH (nJ q),nH q,AD,H4 _ _ (by decide)];rfl
   ·rw[nG (show ¬ decide (p=3)=true by simpa using q),nG q]
    have B:(if decide (p=4)=true then some (decide (p=4)) else some (decide (p=12)))=some (decide (p=4∨p=12)):=by
     by_cases j:p=4
     ·rw[nH (nJ j),nJ j,nJ (Or.inl j:p=4∨p=12)]
     ·rw[nG (show ¬ decide (p=4)=true by simpa using j)]
      congr 1
      rw[ns,nK,nK]
      exact⟨.inr,λh=>h.elim (λh=>absurd h j) id⟩
    rw[B,AD]
    by_cases j:p=4∨p=12
    ·rw[nH (nJ j),nH j,AD,H4 _ _ (by decide),AD]
     congr 1;rw[ns];simp
    ·rw[nG (show ¬ decide (p=4∨p=12)=true by simpa using j),nG j]
     by_cases w:p=2
     ·rw[nH (nJ w),nH w,AD,H4 _ _ (by decide),AD]
      congr 1;rw[ns];simp
     ·rw[nG (show ¬ decide (p=2)=true by simpa using w),nG w]
      by_cases A:p=7
      ·rw[nH (nJ A),nH A,AD,H4 _ _ (by decide),AD]
       congr 1;rw[ns];simp
      ·rw[nG (show ¬ decide (p=7)=true by simpa using A),nG A,AD,H4 _ _ (by decide),AD];simp
theorem ey p k:NI p k=some (JW p k) := by
  have hk:k=1∨k=2∨k=3∨k=4∨k=5∨k=6∨k=7∨k=8∨k=9∨k=10∨k=11∨k=12∨(k≠1∧k≠2∧k≠3∧k≠4∧k≠5∧k≠6∧k≠7∧k≠8∧k≠9∧k≠10∧k≠11∧k≠12) := by omega
  have hp:p=0∨p=1∨p=2∨p=3∨p=4∨p=7∨p=12∨(p≠0∧p≠1∧p≠2∧p≠3∧p≠4∧p≠7∧p≠12) := by omega
  unfold NI JW Kc
  rcases hk with rfl | rfl | rfl | rfl | rfl | rfl | rfl | rfl | rfl | rfl | rfl | rfl | ⟨I, J, M, O, T, U, V, X, Z, l, m, q⟩
  all_goals first
    | (rcases hp with rfl | rfl | rfl | rfl | rfl | rfl | rfl | ⟨w, A, B, C, E, F, j⟩
       all_goals first | rfl | (simp[w, A, B, C, E, F, j];done))
    | (rcases hp with rfl | rfl | rfl | rfl | rfl | rfl | rfl | ⟨w, A, B, C, E, F, j⟩
       all_goals first
         | (simp[I, J, M, O, T, U, V, X, Z, l, m, q];done)
         | (simp[I, J, M, O, T, U, V, X, Z, l, m, q, w, A, B, C, E, F, j];done))
theorem X8{n:Nat}(h:n<9223372036854775808):IntKind.u64.wrap (n:Int)=(n:Int):=by
 have e:(n:Int) % (2 ^ (64:Nat):Int)=(n:Int):=qp (by omega) (by omega)
 show(if(false&&((n:Int) % (2 ^ (64:Nat):Int) ≥ (2 ^ (63:Nat):Int)))=true then(n:Int) % (2 ^ (64:Nat):Int)-(2 ^ (64:Nat):Int) else(n:Int) % (2 ^ (64:Nat):Int))=_
 rw[e,nG (by simp)]
theorem lm(m:Nat)(h:m<4294967296):IntKind.i64.wrap (E6 .u64 (IntKind.u64.wrap (m:Int)) 1)=((m / 2:Nat):Int):=by
 rw[X8 (by omega)]
 show IntKind.i64.wrap ((m:Int).fdiv (2 ^ (min 1 64)))=_
 rw[show((2:Int) ^ (min 1 64))=2 from rfl,Int.fdiv_eq_ediv_of_nonneg _ (by omega),show(m:Int) / 2=((m / 2:Nat):Int) by omega,Ua (by omega)]
def Gw(l:List AK):Prop:=∀a b:Nat,a<b→b<l.length→l[a]!.ID<l[b]!.ID
theorem VX(n:AK) id:Kw n id=some (if n.ID<id then -1 else if id<n.ID then 1 else 0):=by
 unfold Kw
 by_cases j:n.ID<id
 ·rw[nH (nJ j),nH j]
 ·rw[nG (show ¬ decide (n.ID<id)=true by simpa using j),nG j]
  by_cases l:id<n.ID
  ·rw[nH (nJ l),nH l]
  ·rw[nG (show ¬ decide (id<n.ID)=true by simpa using l),nG l]
theorem PI(d:AM) id(V:d.Nodes.length≤1048576)(F:Gw d.Nodes):∃i:Nat,E1 d id=some ((i:Int),(CF d.Nodes id).isSome)∧(∀k,CF d.Nodes id=some k→i=k):=by
 obtain⟨l⟩:=d
 dsimp only at V F ⊢
 have key:∃r,iter (λ(a:Int × Int)=>Em l id a.1 a.2) (0,(l.length:Int))=some r ∧
   ∃I:Nat,r=(I:Int)∧I≤l.length∧(∀m,m<I→l[m]!.ID<id)∧∀m,I≤m→m<l.length→¬ l[m]!.ID<id:=by
  refine Ht l.length (λk T=>∃I J:Nat,T=((I:Int),(J:Int))∧I≤J∧J≤l.length∧J-I≤l.length-k∧(∀m,m<I→l[m]!.ID<id)∧∀m,J≤m→m<l.length→¬ l[m]!.ID<id) _ ?_ ?_ ⟨0,l.length,rfl,by omega,by omega,by omega,λm h=>absurd h (Nat.not_lt_zero _),λm U M=>absurd M (by omega)⟩
  ·rintro k T hk ⟨I,J,rfl,U,M,X,C,w⟩
   dsimp only
   unfold Em
   by_cases Z:I<J
   ·left
    rw[nH (by rw[nK];omega),show(I:Int)+(J:Int)=((I+J:Nat):Int) by omega,CH (by omega) (by omega),AD,lm _ (by omega),Ac (by omega),AD,VX,AD]
    by_cases O:l[(I+J) / 2]!.ID<id
    ·rw[nH O,nH (by decide),An (by omega)]
     refine⟨_,rfl,(I+J) / 2+1,J,rfl,by omega,M,by omega,λm a0=>?_,w⟩
     by_cases e:m=(I+J) / 2
     ·rw[e];exact O
     ·have:=F m ((I+J) / 2) (by omega) (by omega);omega
    ·rw[nG O,nG (show ¬ decide ((if id<l[(I+J) / 2]!.ID then(1:Int) else 0)<0)=true by split<;>decide)]
     refine⟨_,rfl,I,(I+J) / 2,rfl,by omega,by omega,by omega,C,λm E j=>?_⟩
     by_cases e:m=(I+J) / 2
     ·rw[e];exact O
     ·have:=F ((I+J) / 2) m (by omega) j;omega
   ·right
    rw[nG (by rw[nK];omega)]
    exact⟨_,rfl,I,rfl,by omega,C,λm E j=>w m (by omega) j⟩
  ·rintro T ⟨I,J,rfl,U,M,X,C,w⟩
   dsimp only
   unfold Em
   rw[nG (by rw[nK];omega)]
   exact⟨_,rfl,I,rfl,by omega,C,λm E j=>w m (by omega) j⟩
 obtain⟨r,hr,I,rfl,hI,C,w⟩:=key
 unfold E1 M8
 rw[hr,AD]
 have A:∀k,CF l id=some k→I=k:=by
  intro k q
  obtain⟨E,j⟩:=FV q
  have a1:¬ k<I:=λh=>by have:=C k h;omega
  by_cases e:I=k
  ·exact e
  ·have:=F I k (by omega) E
   have:=w I (nO _) (by omega)
   omega
 refine⟨I,?_,A⟩
 by_cases B:I<l.length
 ·rw[nJ (show(I:Int)<(l.length:Int) by omega),show((true==true):Bool)=true from rfl,Aq,Ac B,AD,Aq,VX,AD,BZ]
  congr 2
  have h6:=w I (nO _) B
  rw[nG h6]
  cases q:CF l id with
  | some k=>
   obtain⟨E,j⟩:=FV q
   have:=A k q
   subst this
   rw[nG (by omega)];rfl
  | none=>
   have a2:l[I]!.ID≠id:=by
    intro e
    have:=List.find?_eq_none.1 q I (nm.2 B)
    exact this (nJ e)
   rw[nH (by omega)];rfl
 ·rw[nI (show ¬ (I:Int)<(l.length:Int) by omega)]
  show some ((I:Int),false)=_
  cases q:CF l id with
  | some k=>
   obtain⟨E,j⟩:=FV q
   have:=A k q
   omega
  | none=>rfl
def Fa(d:AM):Prop:=d.Nodes.length≤1048576∧∀n∈d.Nodes,GV n
theorem V9:EX=E4:=by funext f x o;rfl
theorem bD(n:AK):OW n=E4 n.Flow:=by funext x o;rfl
theorem jC:PX=Dn:=by funext n x o;rfl
theorem dG(n:AK)(w:List Int)(q:n.Grid.Cells.length≤1048576)(hw:w.length≤1048576):∃r,iter (λ(a:Int × (List Int))=>Dn n a.1 a.2) (0,w)=some r∧r.length≤2097152:=by
 refine Ht n.Grid.Cells.length (λk l=>l.1=(k:Int)∧l.2.length≤1048576+k) _ ?_ ?_ ⟨rfl,by simpa using hw⟩
 ·rintro k ⟨x,out⟩ m ⟨rfl,j⟩
  dsimp only at j ⊢
  left
  unfold Dn
  rw[nH (by simpa using m),Ac m,AD]
  by_cases r:n.Grid.Cells[k]!.Ref=0
  ·rw[nG (Cw r),AD,An (by omega),AD]
   exact⟨_,rfl,rfl,by dsimp only;omega⟩
  ·rw[nH (B8 r),LY (by omega),AD,AD,An (by omega),AD]
   exact⟨_,rfl,rfl,by dsimp only;rw[List.length_append,List.length_singleton];omega⟩
 ·rintro⟨x,out⟩ ⟨rfl,j⟩
  dsimp only at j ⊢
  unfold Dn
  rw[nG (by simp)]
  exact⟨_,rfl,by omega⟩
theorem X0(n:AK)(h:GV n):∃r,GT n=some r∧M0 n=some r∧r.length≤2097152:=by
 have q:=h.ok.fl
 obtain⟨w,j,A⟩:=X5 n.Flow (by omega)
 obtain⟨r,l,m⟩:=dG n w h.ok.gr.1 (by omega)
 refine⟨r,?_,?_,m⟩
 ·unfold GT JA
  rw[V9,j,AD,AD,l];rfl
 ·unfold M0
  rw[bD,jC,j,AD,l];rfl
theorem Qp(d:AM) kind(l:List Int)(w:d.Nodes.length≤1048576)(B:Gw d.Nodes)(J:l.length≤2097152):∃e,FN d kind l=some e∧L1 d kind l=some e:=by
 obtain⟨o,C,E,_⟩:=Sl (ρ:=Int) (f:=λ(a:Int)=>Du d kind l a) (g:=λ(a:Int)=>Ki d kind l a) (n:=l.length) (λ_=>True) trivial (λk m _=>by
  unfold Du Ki
  obtain⟨i,F,q⟩:=PI d l[k]! w B
  rw[nH (by simpa using m),nH (by simpa using m),Ac m,AD,AD,F,BZ,Ro _ _ w,AD]
  cases A:CF d.Nodes l[k]! with
  | none=>exact⟨some 7,rfl,rfl,λe=>by cases e⟩
  | some j=>
   obtain⟨I,M⟩:=FV A
   have:=q j A
   subst this
   dsimp only
   rw[nG (show ¬ ((!Option.isSome (some i))=true) by simp),Ac I,AD,Ve,AD,nG (show ¬ decide ((i:Int)<0)=true by simp),AD,ey,AD]
   cases JW kind d.Nodes[i]!.Kind with
   | false=>exact⟨some 8,rfl,rfl,λe=>by cases e⟩
   | true=>
    rw[An (by omega)]
    exact⟨none,rfl,rfl,λ_=>trivial⟩) (by unfold Du;rw[nG (by simp)]) (by unfold Ki;rw[nG (by simp)])
 refine⟨o.getD 0,?_,?_⟩
 ·unfold FN;rw[C,Ep]
 ·unfold L1;rw[E,Ep]
theorem U8{l:List AK}(h:∀k,0<k→k<l.length→l[k-1]!.ID<l[k]!.ID):Gw l:=by
 intro a b m q
 induction b with
 | zero=>omega
 | succ b w=>
  have j:=h (b+1) (by omega) q
  rw[qk] at j
  by_cases e:a=b
  ·rw[e];exact j
  ·have:=w (by omega) (by omega);omega
theorem mC(d:AM)(h:Fa d):∃e,DX d=some e∧Lc d=some e:=by
 obtain⟨F,C⟩:=h
 unfold DX Lc
 by_cases h0:d.Nodes.length=0
 ·rw[nH (by rw[nK];omega),nH (by rw[nK];omega)];exact⟨_,rfl,rfl⟩
 ·rw[nG (by rw[nK];omega),nG (by rw[nK];omega)]
  obtain⟨o,I,J,M⟩:=Sl (ρ:=Int) (f:=λ(a:Int)=>Cq d a) (g:=λ(a:Int)=>KX d a) (n:=d.Nodes.length) (λk=>∀j,0<j→j<k→d.Nodes[j-1]!.ID<d.Nodes[j]!.ID) (λj _ O=>absurd O (Nat.not_lt_zero _)) (λk l T=>by
   unfold Cq KX
   obtain⟨e,w,A⟩:=P9 _ (C _ (Bv l))
   rw[nH (by simpa using l),nH (by simpa using l),Ac l,AD,AD,w,A,AD,AD]
   by_cases m:e=0
   ·rw[nG (Cw m),nG (Cw m)]
    by_cases U:k=0
    ·subst U
     rw[nJ (show((0:Nat):Int)=0 from rfl),show((true==true):Bool)=true from rfl,Aq,show(0:Int)=((0:Nat):Int) from rfl,Ac l,AD,nI (show ¬ ((0:Nat):Int)<((0:Nat):Int) by omega)]
     by_cases BG:d.Nodes[0]!.ID=1
     ·refine⟨none,?_,?_,λ_ j E V=>by omega⟩
      ·rw[nJ BG];rfl
      ·rw[nJ BG];rfl
     ·refine⟨some 5,?_,?_,λe=>by cases e⟩
      ·rw[nI BG];rfl
      ·rw[nI BG];rfl
    ·have X:0<k:=by omega
     rw[nI (show ¬ ((k:Int)=0) by omega),nJ (show(0:Int)<(k:Int) by omega),show((false==true):Bool)=false from rfl,Ci,AD]
     show ∃o:Option Int,(AB (gd true (AR .i64 ((k:Int)-1))) λ(B:Int)=>AB (gd true (AL d.Nodes B)) λ(q:AK)=>_)=_∧(AB (gd true (AR .i64 ((k:Int)-1))) λ(q:Int)=>AB (gd true (AL d.Nodes q)) λ(Z:AK)=>_)=_∧_
     rw[Aq,Ej X (by omega),AD,AD,Aq,Ac (show k-1<d.Nodes.length by omega),AD,AD,An (by omega)]
     by_cases BG:d.Nodes[k]!.ID≤d.Nodes[k-1]!.ID
     ·rw[nJ BG]
      exact⟨some 5,rfl,rfl,λe=>by cases e⟩
     ·rw[nI BG]
      refine⟨none,rfl,rfl,λ_ j E V=>?_⟩
      by_cases e:j=k
      ·rw[e];omega
      ·exact T j E (by omega)
   ·rw[nH (B8 m),nH (B8 m)]
    exact⟨some e,rfl,rfl,λe=>by cases e⟩) (by unfold Cq;rw[nG (by simp)]) (by unfold KX;rw[nG (by simp)])
  rw[I,J]
  cases o with
  | some e=>exact⟨e,rfl,rfl⟩
  | none=>
   have hs:=U8 (M rfl)
   show ∃e,(Aw (iter (λ(a:Int)=>Dq d a) 0) λ(u4:Unit)=>some 0)=some e∧(Aw (iter (λ(a:Int)=>JQ d a) 0) λ(u4:Unit)=>some 0)=some e
   obtain⟨o,w,A,_⟩:=Sl (ρ:=Int) (f:=λ(a:Int)=>Dq d a) (g:=λ(a:Int)=>JQ d a) (n:=d.Nodes.length) (λ_=>True) trivial (λk l _=>by
    unfold Dq JQ
    obtain⟨r,r1,r2,r3⟩:=X0 _ (C _ (Bv l))
    obtain⟨e,c1,c2⟩:=Qp d d.Nodes[k]!.Kind r F hs r3
    rw[nH (by simpa using l),nH (by simpa using l),Ac l,AD,AD,r1,r2,AD,AD,c1,c2,AD]
    by_cases m:e=0
    ·rw[nG (Cw m),An (by omega)]
     exact⟨none,rfl,rfl,λ_=>trivial⟩
    ·rw[nH (B8 m)]
     exact⟨some e,rfl,rfl,λ_=>trivial⟩) (by unfold Dq;rw[nG (by simp)]) (by unfold JQ;rw[nG (by simp)])
   exact⟨o.getD 0,by rw[w,Ep],by rw[A,Ep]⟩
theorem fy{μ:AK→Nat}{γ:Av→Nat}{ψ:Ak→Nat}{ρ:Aj→Nat}{δ:At→Nat}{ν:AS→Nat}{κ:AG→Nat}
  (m:∀n,(n.Attrs.map κ).sum+(n.Flow.map ν).sum+γ n.Grid+(n.Draw.map δ).sum+1≤μ n) (hg:∀g,(g.Cells.map ψ).sum+(g.Merges.map ρ).sum+1≤γ g)
  (hc:∀c,c.Text.length+(c.Attrs.map κ).sum+1≤ψ c) (A:∀r,1≤ρ r) (hd:∀o,o.Place.length+o.Name.length+o.Value.length+1≤δ o) (B:∀e,(e.Attrs.map κ).sum+1≤ν e) (C:∀a,a.Name.length+a.Value.length+1≤κ a)
  {d:AM} (E:(d.Nodes.map μ).sum≤1048576):Fa d:=by
 have q:=f9 m hg (λc=>by have:=hc c;omega) A (λo=>by have:=hd o;omega) B C E
 refine⟨q.1,λn l=>⟨q.2 n l,λc j=>⟨(q.2 n l).gr.2.2 c j,?_⟩,λo w=>?_⟩⟩
 ·have F:=G6 (μ:=μ) l
  have I:=m n
  have M:=hg n.Grid
  have J:=G6 (μ:=ψ) j
  have:=hc c
  omega
 ·have F:=G6 (μ:=μ) l
  have I:=m n
  have J:=G6 (μ:=δ) w
  have:=hd o
  exact⟨by omega,by omega,by omega⟩
end Go.Proofs.YtmogkkigacadpaaGreatDoor.Al

set_option linter.unusedVariables false
set_option linter.unusedSimpArgs false
namespace Go.Proofs.YtmogkkigacadpaaGreatDoor.Al
open Go
def Cc:Nat→List UInt8→Option Nat
 | j,[]=>some j
 | j,c::r=>if 48≤c.toNat∧c.toNat≤57 then Cc (j * 10+(c.toNat-48)) r else none
theorem WU(c:UInt8):∀(l:List UInt8) (j:Nat),Cc j (l++[c])=(Cc j l).bind λa=>if 48≤c.toNat∧c.toNat≤57 then some (a * 10+(c.toNat-48)) else none:=by
 intro l
 induction l with
 | nil=>intro j;simp only[oV,Cc,oH]
 | cons x r m=>
  intro j
  rw[ou,Cc,Cc]
  split
  ·rw[m]
  ·rfl
theorem Tc:∀(l:List UInt8) (j v:Nat),Cc j l=some v→j≤v:=by
 intro l
 induction l with
 | nil=>intro j v h;simp only[Cc,nQ] at h;omega
 | cons x r m=>
  intro j v h
  rw[Cc] at h
  split at h
  ·have:=m _ _ h;omega
  ·cases h
theorem XY:∀(l:List UInt8) (j v:Nat),Cc j l=some v→v<1152921504606846976→Lib.parseUint10 j l=.ok v:=by
 intro l
 induction l with
 | nil=>intro j v h _;simp only[Cc,nQ] at h;rw[h];rfl
 | cons x r m=>
  intro j v h q
  rw[Cc] at h
  simp only[Lib.parseUint10]
  split at h
  ·rename_i hd
   have:=Tc _ _ _ h
   rw[nH hd,nG (by omega),nG (by omega)]
   exact m _ _ h q
  ·cases h
theorem dK u:Cc 0 (Lib.decDigits u)=some u:=by
 induction u using Nat.strongRecOn with
 | _ u j=>
  rw[Lib.decDigits]
  split
  ·rename_i h
   have:(UInt8.ofNat (48+u)).toNat=48+u:=by simp;omega
   simp only[Cc,this]
   rw[nH (by omega)]
   congr 1;omega
  ·rename_i h
   rw[WU,j (u / 10) (by omega),oH]
   have:(UInt8.ofNat (48+u % 10)).toNat=48+u % 10:=by simp;omega
   rw[this,nH (by omega)]
   congr 1;omega
theorem V8 u(h:1≤u):∃c r,Lib.decDigits u=c::r∧49≤c.toNat∧c.toNat≤57:=by
 induction u using Nat.strongRecOn with
 | _ u j=>
  rw[Lib.decDigits]
  split
  ·exact⟨_,[],rfl,by simp;omega,by simp;omega⟩
  ·obtain⟨c,r,e,l,m⟩:=j (u / 10) (by omega) (by omega)
   exact⟨c,r++[UInt8.ofNat (48+u % 10)],by rw[e];rfl,l,m⟩
theorem dt:∀(k u:Nat),u<10 ^ (k+1)→(Lib.decDigits u).length≤k+1:=by
 intro k
 induction k with
 | zero=>
  intro u h
  rw[Lib.decDigits,pr (by simpa using h)];simp
 | succ k j=>
  intro u h
  rw[Lib.decDigits]
  split
  ·simp
  ·have:=j (u / 10) (by rw[Nat.pow_succ] at h;omega)
   simp;omega
theorem kB:∀(n:Nat) (l:List UInt8) (u:Nat),l.length=n→Cc 0 l=some u→(∃c r,l=c::r∧(c.toNat≠48∨r=[]))→l=Lib.decDigits u:=by
 intro n
 induction n with
 | zero=>rintro l u w _ ⟨c,r,rfl,_⟩;simp at w
 | succ n C=>
  rintro l u w j ⟨c,r,rfl,E⟩
  rcases List.eq_nil_or_concat r with rfl | ⟨A,d,rfl⟩
  ·simp only[Cc] at j
   split at j
   ·rename_i hd
    simp only[nQ] at j
    rw[Lib.decDigits,pr (by omega)]
    congr 1
    apply UInt8.toNat_inj.1
    simp;omega
   ·cases j
  ·rw[List.concat_eq_append,← ou,WU] at j
   cases m:Cc 0 (c::A) with
   | none=>rw[m] at j;cases j
   | some a=>
    rw[m,oH] at j
    split at j
    ·rename_i hd
     simp only[nQ] at j
     have B:c.toNat≠48:=by
      rcases E with h | h
      ·exact h
      ·simp at h
     have F:1≤a:=by
      have q:=m
      rw[Cc] at q
      split at q
      ·have:=Tc _ _ _ q;omega
      ·cases q
     have e:=C (c::A) a (by simp at w ⊢;omega) m ⟨c,A,rfl,.inl B⟩
     rw[List.concat_eq_append,← ou,e,Lib.decDigits.eq_def u,dif_neg (by omega)]
     congr 1
     ·congr 1;omega
     ·congr 1
      apply UInt8.toNat_inj.1
      simp;omega
    ·cases j
def Dv(s:List UInt8):Int:=
 match s with
 | []=>-1
 | c::r=>if 10<(c::r).length∨(c.toNat=48∧r≠[]) then -1 else match Cc 0 (c::r) with | some v=>(v:Int) | none=>-1
theorem Zz(c:UInt8)(j:48≤c.toNat):IntKind.i64.wrap (IntKind.u8.wrap ((c.toNat:Int)-48))=((c.toNat-48:Nat):Int):=by
 have:=c.toNat_lt
 rw[show IntKind.u8.wrap ((c.toNat:Int)-48)=((c.toNat-48:Nat):Int) by unfold IntKind.wrap;simp[IntKind.signed,IntKind.bits];omega]
 unfold IntKind.wrap
 simp[IntKind.signed,IntKind.bits]
 omega
theorem iT(s:List UInt8):MH s=some (Dv s):=by
 unfold MH
 cases s with
 | nil=>simp[Ci,Dv]
 | cons c r=>
  rw[nI (by simp:¬ (c::r)=[]),oS]
  have hN:Dv (c::r)=if 10<(c::r).length∨(c.toNat=48∧r≠[]) then -1 else match Cc 0 (c::r) with | some v=>(v:Int) | none=>-1:=rfl
  by_cases h10:10<(c::r).length
  ·have hN1:Dv (c::r) = -1:=by rw[hN,nH (.inl h10)]
   rw[hN1,nJ (by exact_mod_cast h10)]
   simp[Ci]
  ·rw[nI (by exact_mod_cast h10)]
   simp only[show((false==false)=true) from rfl,Aq,oS]
   rw[show AL (c::r) 0=some c from rfl,AD]
   by_cases h0:c.toNat=48∧r≠[]
   ·have hN1:Dv (c::r) = -1:=by rw[hN,nH (.inr h0)]
    have h3:0<r.length:=pH.2 h0.2
    rw[hN1,nH (by simp[h0.1];omega)]
   ·have hN1:Dv (c::r)=match Cc 0 (c::r) with | some v=>(v:Int) | none=>-1:=by
     rw[hN,nG (by rintro(h | h);exact h10 h;exact h0 h)]
    rw[hN1,nG]
    ·have h:=FH (f:=λ(a:Int × Int)=>Gg (c::r) a.1 a.2) (c::r) (λ(n:Nat) i=>((n:Int),(i:Int))) (λl n=>match Cc n l with | some v=>(.nrm (v:Int):Ar Int Int) | none=>.ext (-1)) (λi n=>n<10 ^ i)
      (λi n hi hn=>by
       show(∃c',Gg (c::r) (n:Int) (i:Int)=_∧_)∨Gg (c::r) (n:Int) (i:Int)=_
       unfold Gg
       rw[nH (by rw[nK];exact_mod_cast hi),Ac hi,AD]
       generalize (c::r)[i]! = x
       have hi10:i≤9:=by omega
       have hp:10 ^ i≤10 ^ 9:=Nat.pow_le_pow_right (by omega) hi10
       by_cases hd:48≤x.toNat∧x.toNat≤57
       ·left
        refine⟨n * 10+(x.toNat-48),?_,by rw[Nat.pow_succ];omega,?_⟩
        ·rw[nG (by simp;omega),CH (by omega) (by omega),AD,Zz x hd.1,CH (by omega) (by omega),AD,An (by omega),AD]
         congr 3;omega
        ·rw[Cc,nH hd]
       ·right
        rw[nH (by simp;omega),Cc,nG hd])
      (λn hn=>by
       show Gg (c::r) (n:Int) ((c::r).length:Int)=_
       unfold Gg
       rw[nG (by simp)]
       rfl) (0:Nat) (by simp) ((0:Int),(0:Int)) rfl
     have h':iter (λ(a:Int × Int)=>Gg (c::r) a.1 a.2) ((0:Int),(0:Int))=_:=h
     rw[h']
     cases Cc 0 (c::r) with
     | none=>rfl
     | some v=>rfl
    ·intro h
     apply h0
     rw[nR,nK,nK] at h
     exact⟨by omega,λe=>by rw[e] at h;simp at h⟩
theorem Wg s(n:Int)(F:1≤n)(I:n≤1073741824):(Lib.atoiAll s=.ok n∧Lib.itoa n=s)↔Dv s=n:=by
 obtain⟨u,rfl⟩:∃u:Nat,n=(u:Int):=⟨n.toNat,by omega⟩
 have l:1≤u:=by omega
 rw[Lib.itoa_nonneg]
 constructor
 ·rintro⟨_,rfl⟩
  obtain⟨c,r,e,q,w⟩:=V8 u l
  have A:=dt 9 u (by omega)
  have j:=dK u
  rw[e] at A j ⊢
  unfold Dv
  simp only
  rw[nG (by rintro(h | ⟨h,_⟩)<;>omega),j]
 ·intro h
  unfold Dv at h
  split at h
  ·omega
  ·rename_i c r
   split at h
   ·omega
   ·rename_i B
    cases j:Cc 0 (c::r) with
    | none=>rw[j] at h;simp only at h;omega
    | some v=>
     rw[j] at h
     simp only at h
     have:v=u:=by omega
     subst this
     have e:=kB _ (c::r) v rfl j ⟨c,r,rfl,by
      by_cases m:c.toNat=48
      ·right
       apply ne
       intro C
       exact B (.inr ⟨m,C⟩)
      ·exact .inl m⟩
     refine⟨?_,e.symm⟩
     obtain⟨J,M,E,q,w⟩:=V8 v l
     rw[E] at e
     simp only[qB] at e
     rw[Lib.atoiAll_plain c r (by rw[e.1];omega) (by rw[e.1];omega)]
     unfold Lib.parseMag
     rw[nG (by simp),XY _ _ _ j (by omega)]
     simp only[Lib.signless]
     rw[nG (by omega)]
end Go.Proofs.YtmogkkigacadpaaGreatDoor.Al

namespace Go.Proofs.YtmogkkigacadpaaGreatDoor.Al
theorem BT{α β:Type}{o:Option α}{f:α→Option β}{r:β}(h:AB o f=some r):∃a,o=some a∧f a=some r:=by
 cases o with
 | none=>cases h
 | some a=>exact⟨a,rfl,h⟩
theorem Jw{d:AM}(h:Fa d)(l:DX d=some 0):Gw d.Nodes∧∀k,k<d.Nodes.length→Cr d.Nodes[k]! = some 0:=by
 obtain⟨T,F⟩:=h
 unfold DX at l
 split at l
 ·cases l
 let g:Nat→Option Int:=λk=>if(Cr d.Nodes[k]!).getD 0≠0 then some ((Cr d.Nodes[k]!).getD 0) else if(k=0∧d.Nodes[k]!.ID≠1)∨(0<k∧d.Nodes[k]!.ID≤d.Nodes[k-1]!.ID) then some 5 else none
 have hit:iter (λ(a:Int)=>Cq d a) 0=some (DD ((List.range d.Nodes.length).findSome? g)):=by
  refine Bo g (λk j=>?_) (by unfold Cq;rw[nG (by simp)])
  unfold Cq
  obtain⟨e,A,_⟩:=P9 _ (F _ (Bv j))
  show _=B2 k (g k)
  simp only[g]
  rw[nH (by simpa using j),Ac j,AD,A,AD]
  show _=B2 k (if e≠0 then some e else _)
  by_cases q:e=0
  ·rw[nG (Cw q),nG (by simpa using q)]
   by_cases B:k=0
   ·subst B
    rw[nJ (show((0:Nat):Int)=0 from rfl),nI (show ¬ (0:Int)<((0:Nat):Int) by omega)]
    by_cases BG:d.Nodes[0]!.ID=1
    ·rw[nJ BG,nG (show ¬ ((0=0∧d.Nodes[0]!.ID≠1)∨(0<0∧d.Nodes[0]!.ID≤d.Nodes[0-1]!.ID)) by rintro(⟨_,b⟩ | ⟨a,_⟩);exact b BG;omega)]
     rfl
    ·rw[nI BG,nH (show((0=0∧d.Nodes[0]!.ID≠1)∨(0<0∧d.Nodes[0]!.ID≤d.Nodes[0-1]!.ID)) from .inl ⟨rfl,BG⟩)]
     rfl
   ·have I:0<k:=by omega
    rw[nI (show ¬ ((k:Int)=0) by omega),nJ (show(0:Int)<(k:Int) by omega)]
    show(AB (gd true (AR .i64 ((k:Int)-1))) λ(C:Int)=>AB (gd true (AL d.Nodes C)) λ(J:AK)=>_)=_
    rw[Aq,Ej I (by omega),AD,Aq,Ac (show k-1<d.Nodes.length by omega),AD,An (by omega)]
    by_cases BG:d.Nodes[k]!.ID≤d.Nodes[k-1]!.ID
    ·rw[nJ BG,nH (show((k=0∧d.Nodes[k]!.ID≠1)∨(0<k∧d.Nodes[k]!.ID≤d.Nodes[k-1]!.ID)) from .inr ⟨I,BG⟩)]
     rfl
    ·rw[nI BG,nG (show ¬ ((k=0∧d.Nodes[k]!.ID≠1)∨(0<k∧d.Nodes[k]!.ID≤d.Nodes[k-1]!.ID)) by rintro(⟨a,_⟩ | ⟨_,b⟩);exact B a;exact BG b)]
     rfl
  ·rw[nH (B8 q),nH q]
   rfl
 rw[hit] at l
 cases w:(List.range d.Nodes.length).findSome? g with
 | some e=>
  rw[w] at l
  have l:(some e:Option Int)=some 0:=l
  injection l with l
  obtain⟨k,_,j⟩:=oO w
  simp only[g] at j
  split at j
  ·rename_i E;injection j with j;exact absurd (j.trans l) E
  ·split at j
   ·injection j with j;omega
   ·cases j
 | none=>
  rw[oq] at w
  have j:∀k,k<d.Nodes.length→(Cr d.Nodes[k]!).getD 0=0∧¬ ((k=0∧d.Nodes[k]!.ID≠1)∨(0<k∧d.Nodes[k]!.ID≤d.Nodes[k-1]!.ID)):=by
   intro k j
   have:=w k (nm.2 j)
   simp only[g] at this
   split at this
   ·cases this
   ·rename_i M
    split at this
    ·cases this
    ·rename_i O;exact⟨by simpa using M,O⟩
  refine⟨U8 λk B m=>?_,λk m=>?_⟩
  ·have:=(j k m).2
   have U:¬ (0<k∧d.Nodes[k]!.ID≤d.Nodes[k-1]!.ID):=λe=>this (.inr e)
   omega
  ·obtain⟨e,A,_⟩:=P9 _ (F _ (Bv m))
   have:=(j k m).1
   rw[A] at this ⊢
   exact nb some this
def g0:Av:=Av.mk 2 1 [(Ak.mk 1 0 [120] 0 [])] []
def e0:Mp:=Mp.mk [(Js.mk 1 1),(Js.mk 0 2)] [] [] [] []
def gE(c t:Ak):Int:=Bh c.Row t.Row c.Col t.Col
def Zd(l:List Ak):Prop:=∀k,k+1<l.length→gE l[k]! l[k+1]!<0
def RF(r:Aj)(row j:Int):Bool:=decide (r.Row≤row∧row<r.Row+r.H∧r.Col≤j∧j<r.Col+r.W)
def Ml(l:List Aj)(row j:Int)(k:Nat):Option Aj:=if RF l[k]! row j=true then some l[k]! else none
theorem jV(g:Av) row j (J:ER g.Rows g.Cols) (M:∀k,k<g.Merges.length→Ce g.Rows g.Cols g.Merges[k]!) (Z:g.Merges.length≤1048576) (hr:row≤9223372036854775807) (hc:j≤9223372036854775807) :
  ∃o:Option Aj,iter (λ(a:Int)=>IJ g row j a) 0=some (DD o)∧iter (λ(a:Int)=>IN g row j a) 0=some (DD o):=by
 refine⟨(List.range g.Merges.length).findSome? (Ml g.Merges row j),?_,?_⟩
 ·refine Bo (f:=λ(a:Int)=>IJ g row j a) (n:=g.Merges.length) (Ml g.Merges row j) (λk l=>?_) ?_
  ·obtain⟨w,A,B,C,E,F,I,i8⟩:=M k l
   unfold IJ Ml RF
   rw[nH (by simpa using l),Ac l,AD]
   generalize g.Merges[k]! = r at w A B C E F I i8
   obtain⟨T,U,V,X⟩:=J
   by_cases q:r.Row≤row
   ·rw[nJ q]
    simp only[oN,Aq,nt]
    rw[CH (by omega) (by omega),AD]
    by_cases m:row-r.Row<r.H∧r.Col≤j
    ·rw[nJ m.1,nJ m.2]
     simp only[qH,oN,Aq,nt]
     rw[CH (by omega) (by omega),AD]
     by_cases O:j-r.Col<r.W
     ·rw[nH (nJ O),nH (by rw[nK];omega)];rfl
     ·rw[nG (by rw[nK];exact O),nG (by rw[nK];omega),An (by omega),AD];rfl
    ·have e:((row-r.Row<r.H)&&(r.Col≤j))=false:=by
      rw[← ny,nR,nK,nK];exact m
     rw[e]
     simp only[show(false==true)=false from rfl,Ci,AD,pW]
     rw[nG (by decide),nG (by rw[nK];omega),An (by omega),AD];rfl
   ·rw[nI q]
    simp only[show(false==true)=false from rfl,Ci,AD,pW]
    rw[nG (by decide),nG (by rw[nK];omega),An (by omega),AD];rfl
  ·show IJ g row j (g.Merges.length:Int)=_
   unfold IJ
   rw[nG (by simp)]
 ·refine Bo (f:=λ(a:Int)=>IN g row j a) (n:=g.Merges.length) (Ml g.Merges row j) (λk l=>?_) ?_
  ·obtain⟨w,A,B,C,E,F,I,i8⟩:=M k l
   unfold IN Ml RF
   rw[nH (by simpa using l),Ac l,AD]
   generalize g.Merges[k]! = r at w A B C E F I i8
   obtain⟨T,U,V,X⟩:=J
   rw[CH (by omega) (by omega),AD,CH (by omega) (by omega),AD,Dl,AD]
   by_cases q:r.Row≤row∧row≤r.Row+r.H-1
   ·rw[nJ q]
    simp only[oN,Aq,nt]
    rw[CH (by omega) (by omega),AD,CH (by omega) (by omega),AD,Dl,AD]
    by_cases m:r.Col≤j∧j≤r.Col+r.W-1
    ·rw[nH (nJ m),nH (by rw[nK];omega)];rfl
    ·rw[nG (by rw[nK];exact m),nG (by rw[nK];omega),An (by omega),AD];rfl
   ·rw[nI q]
    simp only[show(false==true)=false from rfl,Ci,AD,pW]
    rw[nG (by decide),nG (by rw[nK];omega),An (by omega),AD];rfl
  ·show IN g row j (g.Merges.length:Int)=_
   unfold IN
   rw[nG (by simp)]
theorem Sw{l:Nat}{G:Nat→Option Int}(h:((List.range l).findSome? G).getD 0=0)(hn:∀k,k<l→G k≠some 0):∀k,k<l→G k=none:=by
 intro k hk
 cases hf:(List.range l).findSome? G with
 | none=>
  rw[oq] at hf
  exact hf k (nm.2 hk)
 | some v=>
  rw[hf] at h
  obtain⟨j,hj,hjv⟩:=oO hf
  have h0:v=0:=h
  rw[h0] at hjv
  exact absurd hjv (hn j (nm.1 hj))
theorem Vg{g:Av}(h:Ge g=0):ER g.Rows g.Cols∧Zd g.Cells∧∀k,k<g.Merges.length→Ce g.Rows g.Cols g.Merges[k]!:=by
 unfold Ge at h
 by_cases h1:ER g.Rows g.Cols
 ·rw[nG (by simpa using h1)] at h
  by_cases h2:Im g.Rows g.Cols false g.Cells=0
  ·rw[nG (by simpa using h2)] at h
   refine⟨h1,λk hk=>?_,λk hk=>?_⟩
   ·have:=Sw h2 (λk _ he=>by
     unfold HB at he
     split at he
     ·rename_i hne
      injection he with he
      exact hne he
     ·split at he
      ·cases he
      ·cases he) (k+1) (by omega)
    unfold HB at this
    split at this
    ·cases this
    ·split at this
     ·cases this
     ·rename_i hq
      rw[qk] at hq
      show Bh _ _ _ _<0
      have:=λh=>hq ⟨by omega,h⟩
      omega
   ·have:=Sw h (λk _ he=>by
     unfold H3 at he
     split at he
     ·cases he
     ·split at he
      ·cases he
      ·split at he
       ·cases he
       ·split at he
        ·cases he
        ·cases he) k hk
    exact SX this
  ·rw[nH h2] at h;exact absurd h h2
 ·rw[nH h1] at h;cases h
def I4(c:UInt8):Bool:=(97≤c.toNat)&&(c.toNat≤122)
def KD(s:List UInt8):Bool:=s.all I4&&(1≤s.length)&&(s.length≤200)&&!(s[s.length-1]!.toNat=97)
theorem ZS(c:UInt8):(((c.toNat:Int)<97)||(122<(c.toNat:Int)))=!I4 c:=by
 unfold I4
 rw[ns]
 simp only[nT,nK,oF,pN,oQ]
 omega
theorem lC(s:List UInt8)(l:s.length≤1048576):iter (λ(a:Int)=>I6 s a) 0=some (DD (if s.all I4 then none else some false)):=by
 rw[Bo (n:=s.length) (λk=>if I4 s[k]! then none else some false) (λk j=>by
  unfold I6
  rw[nH (by simpa using j),Ac j,AD,An (by omega),ZS]
  cases I4 s[k]!<;>rfl) (by unfold I6;rw[nG (by simp)]),P6]
theorem fp(c:UInt8):decide ((c.toNat:Int)=97)=decide (c.toNat=97):=by
 rw[ns];simp only[nK];omega
theorem X6(s:List UInt8)(w:s.length≤1048576):Je s=some (KD s):=by
 unfold Je
 rw[lC s w]
 unfold KD
 by_cases j:s=[]
 ·subst j;rfl
 ·have m:1≤s.length:=pH.2 j
  rw[nI j,oS]
  by_cases q:s.length≤200
  ·have l:decide (200<(s.length:Int))=false:=by simp;omega
   rw[l,show((false==false)=true) from rfl,Aq,Ej m (by omega),AD,Aq,Ac (by omega),AD,oS,fp]
   rw[nJ m,nJ q]
   generalize s.all I4=A
   cases decide (s[s.length-1]!.toNat=97)<;>cases A<;>rfl
  ·have l:decide (200<(s.length:Int))=true:=by simp;omega
   rw[l,show((true==false)=false) from rfl,Ci,AD,Ci,AD,qV,nH rfl,nI q]
   simp
def E7(x:At):Int:=
 if x.Kind≠0∧x.Kind≠1 then 8
 else if ¬ (((1≤x.Clock∧x.Clock≤1073741824)∧(0≤x.Site∧x.Site≤1000))∧(1≤x.Item∧x.Item≤1073741824)) then 2
 else if x.Kind=0 then(if x.Name≠[]∨x.Value≠[] then 4 else if ¬ (-1≤x.Parent∧x.Parent≤1073741824) then 2 else if KD x.Place then 0 else 9)
 else(if x.Parent≠0∨x.Place≠[] then 4 else if D9 x.Name then(if x.Value≠[]∧DO x.Value=false then 23 else 0) else 9)
structure TU(x:At):Prop where
 place:x.Place.length≤1048576
 name:x.Name.length≤1048576
 value:x.Value.length≤1048576
theorem ik x(h:TU x):Iu x=some (E7 x):=by
 unfold Iu E7
 rw[X6 _ h.place,R1 _ (by have:=h.name;omega),Q7 _ (by have:=h.value;omega)]
 obtain⟨Clock,Site,Kind,Item,j,Place,Name,Value⟩:=x
 dsimp only
 by_cases w:Kind≠0∧Kind≠1
 ·rw[nH w,nH (by simp[w.1,w.2])]
 rw[nG w,nG (by simpa using w)]
 by_cases B:((1≤Clock∧Clock≤1073741824)∧(0≤Site∧Site≤1000))∧(1≤Item∧Item≤1073741824)
 ·rw[nG (nl.2 B),nG (by simp only[nT,nK];omega)]
  by_cases A:Kind=0
  ·subst A
   rw[nH rfl]
   by_cases l:Name≠[]∨Value≠[]
   ·rw[nH l,nH (by rcases l with h | h<;>simp[h])]
    rcases l with h | h<;>simp[h]
   ·have m:Name=[]:=ne λh=>l (.inl h)
    have q:Value=[]:=ne λh=>l (.inr h)
    subst m;subst q
    rw[nG l]
    simp only[qj,pd,Bool.or_self,Bool.and_false,o6,pj,AD,show(decide ((0:Int)=1))=false from rfl,pW,nt,oN,Aq]
    by_cases hp : -1≤j∧j≤1073741824
    ·rw[nG (nl.2 hp),nG (by simp only[nT,nK];omega)]
     cases KD Place<;>simp[Ci]
    ·rw[nH hp,nH (by simp only[nT,nK];omega)]
  ·have E:Kind=1:=ne λh=>w ⟨A,h⟩
   subst E
   rw[nG A]
   simp only[show(decide ((1:Int)=0))=false from rfl,pW,o6,pj,AD,qj,nt,show(false==true)=false from rfl,Ci,oN,Aq]
   by_cases l:j≠0∨Place≠[]
   ·rw[nH l,nH (by rcases l with h | h<;>simp[h])]
   ·have m:j=0:=ne λh=>l (.inl h)
    have q:Place=[]:=ne λh=>l (.inr h)
    subst m;subst q
    rw[nG l,nG (by simp)]
    cases D9 Name
    ·simp
    ·by_cases C:Value=[]
     ·subst C;simp[Ci]
     ·simp[C]
      cases DO Value<;>rfl
 ·rw[nH B,nH (by simp only[nT,nK];omega)]
def LR(a b:At):Bool:=(a.Clock<b.Clock)||((a.Clock=b.Clock)&&(a.Site<b.Site))
def GO(x y:Int):Int:=if x<y then -1 else if y<x then 1 else 0
theorem Oa x y:Fm x y=some (GO x y):=by
 unfold Fm GO Kx
 simp only[qj,pd,AD,o6,pj,nK]
 split
 ·rfl
 ·split<;>rfl
theorem T8 x y:G4 [x,y]=some (if x≠0 then x else y):=by
 unfold G4
 rw[Bo (n:=2) (λk=>if [x,y][k]!≠0 then some [x,y][k]! else none) (λk m=>by
  unfold De
  rw[nH (by simp;omega),Ac (by simpa using m),AD,An (by omega)]
  by_cases h:[x,y][k]! = 0
  ·rw[nG (by rw[h];decide),nG (nl.2 h)];rfl
  ·rw[nH (by rw[nI h];rfl),nH h];rfl) (by unfold De;rw[nG (by simp)])]
 by_cases j:x=0
 ·by_cases l:y=0
  ·subst j;subst l;rfl
  ·subst j;simp[List.range_succ,l,DD]
 ·simp[List.range_succ,j,DD]
theorem fq(a b:At):∃r,JJ a b=some r∧decide (r<0)=LR a b∧decide (0≤r)=!LR a b:=by
 unfold JJ
 rw[Oa,Oa,AD,AD,T8,AD]
 refine⟨_,rfl,?_⟩
 have key:(if GO a.Clock b.Clock≠0 then GO a.Clock b.Clock else GO a.Site b.Site)<0↔LR a b=true:=by
  unfold LR GO
  simp only[nT,nR,nK]
  by_cases j:a.Clock<b.Clock
  ·simp[j]
  ·by_cases l:b.Clock<a.Clock
   ·simp[j,l];omega
   ·by_cases m:a.Site<b.Site
    ·simp[j,l,m];omega
    ·by_cases q:b.Site<a.Site
     ·simp[j,l,m,q]
     ·simp[j,l,m,q]
 constructor
 ·rw[ns,nK];exact key
 ·rw[ns,nK,oF,← ny,← key];omega
def Il(l:List At):Prop:=∀x∈l,TU x
def LA(l:List At)(k:Nat):Option Int:=if E7 l[k]!≠0 then some (E7 l[k]!) else if 0<k∧LR l[k-1]! l[k]! = false then some 5 else none
def Pd(l:List At):Int:=((List.range l.length).findSome? (LA l)).getD 0
theorem lQ(l:List At)(h:Il l)(C:l.length≤1048576):JZ l=some (Pd l):=by
 unfold JZ
 rw[Bo (n:=l.length) (LA l) (λk m=>by
  unfold Iw LA
  rw[nH (by simpa using m),Ac m,AD,ik _ (h _ (Bv m)),AD,An (by omega)]
  by_cases j:E7 l[k]! = 0
  ·rw[nG (by rw[j];decide),nG (nl.2 j)]
   by_cases q:k=0
   ·subst q;rfl
   ·have w:decide ((0:Int)<(k:Int))=true:=by simp;omega
    obtain⟨r,A,_,B⟩:=fq l[k-1]! l[k]!
    rw[w,show((true==true)=true) from rfl,Aq,Ej (by omega) (by omega),AD,Aq,Ac (by omega),AD,Aq,A,AD,B,nt]
    cases j:LR l[k-1]! l[k]!
    ·rw[nH (by decide),nH ⟨by omega,rfl⟩];rfl
    ·rw[nG (by simp),nG (by simp)];rfl
  ·rw[nH (by rw[nI j];rfl),nH j];rfl) (by unfold Iw;rw[nG (by simp)]),Ep]
 rfl
def KE(j:Bool)(e:AG):Prop:=D9 e.Name=true∧(DO e.Value=true∨(j=true∧e.Value=[]))
theorem NH(l:List AG)(ch:Bool):Bz l ch=0↔Bj l∧∀e∈l,KE ch e:=by
 constructor
 ·intro h
  refine⟨(JI h).1,λe he=>?_⟩
  obtain⟨k,hk,rfl⟩:=oL.1 he
  have hn:EM l ch k=none:=by
   unfold Bz at h
   cases hf:(List.range l.length).findSome? (EM l ch) with
   | none=>exact(UW _ _).1 hf k hk
   | some r=>
    rw[hf] at h
    obtain⟨j,_,hj⟩:=oO hf
    exfalso
    unfold EM at hj
    simp only[oX] at h
    subst h
    repeat' split at hj
    all_goals simp at hj
  unfold EM at hn
  rw[nW l k hk] at hn
  generalize l[k]=x at hn ⊢
  unfold KE
  by_cases c1:D9 x.Name=false
  ·rw[nH c1] at hn;cases hn
  ·rw[nG c1] at hn
   by_cases c2:DO x.Value=false∧¬ (ch=true∧x.Value=[])
   ·rw[nH c2] at hn;cases hn
   ·refine⟨by simpa using c1,?_⟩
    by_cases c3:DO x.Value=true
    ·exact .inl c3
    ·exact .inr (ne λh3=>c2 ⟨by simpa using c3,h3⟩)
 ·rintro⟨hs,hv⟩
  unfold Bz
  have:(List.range l.length).findSome? (EM l ch)=none:=by
   rw[oq]
   intro k hk
   have hk:=nm.1 hk
   have h1:=hv _ (Bv hk)
   unfold EM
   unfold KE at h1
   rw[nG (by rw[h1.1];simp),nG (by rintro⟨a1,a2⟩;rcases h1.2 with h2 | h2;rw[a1] at h2;cases h2;exact a2 h2),nG]
   rintro⟨h0,h2⟩
   have:=pC.1 hs (k-1) k (by omega) hk (by omega)
   rw[nW l k hk,nW l (k-1) (by omega)] at h2
   rw[this] at h2;cases h2
  rw[this];rfl
theorem UT:∀ {l:List AG},Bj l→∀e∈l,Ay l e.Name=some e
 | [],_,e,h=>by simp at h
 | x::l,j,e,h=>by
  obtain⟨m,q⟩:=EQ.1 j
  rcases nn.1 h with rfl | h
  ·unfold Ay;rw[nH rfl]
  ·have:=EZ (m e h)
   unfold Ay;rw[nG (qQ this)]
   exact UT q e h
theorem fe{j}{g}{G}(h:∀x y o, j x y o=o++g x y)(hg:O8 g G){a b}{l m w}
 (A:Bz a l=0) (B:Bz b m=0) (F:∀x y e, (∀z, x=some z→KE l z)→(∀z, y=some z→KE m z)→G x y=some e→KE w e):Bz (CE j a b []) w=0 := by
  obtain⟨I, v1⟩ := (NH a l).1 A
  obtain⟨J, M⟩ := (NH b m).1 B
  obtain⟨C, O⟩ := UR h hg I J (JI A).2.1 (JI B).2.1
  refine(NH _ _).2 ⟨C, λe T => ?_⟩
  have E := UT C e T
  rw[O] at E
  exact F _ _ e (λz q => v1 z (Om q).2) (λz q => M z (Om q).2) E
theorem lX{a b}(l:Bz a false=0)(m:Bz b true=0):Bz (CE FB a b []) false=0:=
 fe Tn Wj l m λx y e q w h=>by
  unfold GX at h
  split at h
  ·exact q e h
  ·split at h
   ·cases h
   ·rename_i A
    cases h
    have:=w e rfl
    exact⟨this.1,.inl (by rcases this.2 with j | j;exact j;exact absurd j.2 A)⟩
theorem ZW{a:AG}(j:D9 a.Name=true)(l:a.Value=[]∨DO a.Value=true):Bz [a] true=0:=by
 refine(NH _ _).2 ⟨by unfold Bj;simp,λe m=>?_⟩
 obtain rfl:=pR.1 m
 exact⟨j,l.elim (λh=>.inr ⟨rfl,h⟩) .inl⟩
def FA(l:List AG)(a:AG):List AG:=CE FB l [a] []
theorem QS(l:List AG) a:(FA l a).length≤l.length+1:=by
 have:=jA FB Vy _ l [a] [] rfl
 simpa[FA] using this
theorem TX{l}{a}(j:Bz l false=0)(m:Bz [a] true=0):Bz (FA l a) false=0:=lX j m
theorem UI{l:List AG}{a}(h:l.length≤1048576):KG l [a]=some (FA l a):=ZU _ _ (by simp;omega)
theorem V0{l:List AG}{a}(j:Bz l false=0)(m:Bz [a] true=0)(h:l.length≤1048576):Kd l [a]=some (FA l a):=by
 rw[cE l [a] (JI j).1 (JI m).1 (by simp;omega),← gL j m];rfl
theorem RW:Bz [] false=0:=by decide
def BQ(l:List AC):List (Int × AC):=l.map λx=>(x.Item,x)
def Cg(l:List AC):List (Int × List AG):=l.map λx=>(x.Item,x.Attrs)
theorem Sq l k:Ah (Cg l) k=Ah (BQ l) k:=by
 induction l with
 | nil=>rfl
 | cons x r j=>show(if k=x.Item then some 0 else(Ah (Cg r) k).map (· + 1))=(if k=x.Item then some 0 else(Ah (BQ r) k).map (· + 1));rw[j]
theorem GY{l:List AC}{k}{j}(h:Ah (BQ l) k=some j):∃q:j<l.length,l[j].Item=k:=by
 obtain⟨v,m,_⟩:=DE h
 unfold BQ at m
 rw[nS,nV] at m
 obtain⟨x,A,w⟩:=m
 obtain⟨q,rfl⟩:=nN.1 A
 simp only[nU] at w
 exact⟨q,w.1⟩
theorem JX{l}{k}(h:Ah (BQ l) k=none):∀x∈l,x.Item≠k:=by
 induction l with
 | nil=>intro x m;cases m
 | cons y r w=>
  unfold BQ at h
  rw[nk] at h
  unfold Ah at h
  split at h
  ·cases h
  ·rename_i A
   have B:Ah (BQ r) k=none:=by
    cases q:Ah (BQ r) k with
    | none=>rfl
    | some j=>unfold BQ at q;rw[q] at h;cases h
   intro x m
   rcases nn.1 m with rfl | m
   ·exact λe=>A e.symm
   ·exact w B x m
theorem UY{l}{k} : AU (BQ l) k=(Ah (BQ l) k).bind λj=>l[j]?:=by
 cases h:Ah (BQ l) k with
 | none=>exact(ES h).1
 | some j=>
  obtain⟨v,m,w,_⟩:=DE h
  unfold BQ at m
  rw[nS,nV] at m
  obtain⟨x,A,q⟩:=m
  simp only[nU] at q
  rw[w,oH,A,q.2]
def Py(key:Int)(l:List AC)(c:Nat):Ar Unit Int:=match Ah (BQ l) key with | some j=>.ext ((c+j:Nat):Int) | none=>.nrm ()
def Hk(l:List AC)(k:Int):Int:=match Ah (BQ l) k with | some j=>(j:Int) | none=>-1
theorem LX(l:List AC) k(A:l.length≤1048577):Hu l k=some (Hk l k):=by
 unfold Hu
 have h:=FH (f:=λ(a:Int)=>G5 l k a) l (λ(_:Nat) i=>(i:Int)) (λr c=>Py k r c) (λi c=>c=i)
  (λi c w q=>by
   subst q
   show(∃B,G5 l k (c:Int)=_∧_)∨G5 l k (c:Int)=_
   unfold G5
   rw[nH (by simpa using w),Ac w,AD,An (by omega)]
   by_cases m:l[c]!.Item=k
   ·right
    rw[nH (by simpa using m)]
    unfold Py BQ
    rw[nk]
    unfold Ah
    rw[nH m.symm];rfl
   ·left
    refine⟨c+1,by rw[nG (by simpa using m)];rfl,rfl,?_⟩
    unfold Py BQ
    rw[nk]
    conv=>lhs;unfold Ah
    rw[nG (λe=>m e.symm)]
    cases Ah ((l.drop (c+1)).map λx=>(x.Item,x)) k with
    | none=>rfl
    | some j=>simp only[oJ];congr 2;omega)
  (λc q=>by
   subst q
   show G5 l k (l.length:Int)=_
   unfold G5
   rw[nG (by simp)];rfl) 0 rfl 0 rfl
 rw[h]
 unfold Py Hk
 cases Ah (BQ l) k with
 | none=>rfl
 | some j=>simp
inductive BS(items:List AC)(top:Int):Int→Prop
 | self:BS items top top
 | step {x:AC} (hx:x∈items) (h:BS items top x.Parent):BS items top x.Item
theorem BS.inv{j}{top y}(h:BS j top y):y=top∨∃x∈j,x.Item=y∧BS j top x.Parent:=by
 cases h with
 | self=>exact .inl rfl
 | step l h=>exact .inr ⟨_,l,rfl,h⟩
def Rk(j:List AC)(d:Int→Nat):Prop:=∀x∈j,d x.Parent<d x.Item
def Uq(j:List AC):Prop:=(j.map (·.Item)).Nodup
theorem Uq.eq{j}(h:Uq j){x y:AC}(w:x∈j)(A:y∈j)(e:x.Item=y.Item):x=y:=by
 unfold Uq at h
 induction j with
 | nil=>cases w
 | cons a r C=>
  rw[nk,List.nodup_cons] at h
  rcases nn.1 w with B | m
  ·rcases nn.1 A with q | l
   ·rw[B,q]
   ·exact(h.1 (oA.2 ⟨y,l,by rw[← B];exact e.symm⟩)).elim
  ·rcases nn.1 A with q | l
   ·exact(h.1 (oA.2 ⟨x,m,by rw[← q];exact e⟩)).elim
   ·exact C h.2 m l
theorem OJ{j}(q:Uq j){top}{x:AC}(m:x∈j)(l:x.Item≠top):BS j top x.Item↔BS j top x.Parent:=by
 constructor
 ·intro h
  rcases h.inv with e | ⟨z,w,e,A⟩
  ·exact absurd e l
  ·rw[q.eq m w e.symm];exact A
 ·exact BS.step m
open Classical in
theorem lf{m}{d}(BG:∀x∈m,1≤x.Item)(T:Uq m)(O:Rk m d){top}(X:1≤top)(m2:List (Int × List AG)) :
  ∀l:Int,NO (BQ m) m2 l top=some (decide (BS m top l)):=by
 have key:∀(n:Nat) (l:Int),d l≤n→∃c,iter (λ(a:Int)=>GF (BQ m) top a) l=some c∧Aw (some c) (λ(_:Unit)=>some false)=some (decide (BS m top l)):=by
  intro n
  induction n with
  | zero=>
   intro l hd
   by_cases w:0<l
   ·by_cases q:l=top
    ·subst q
     refine⟨.ext true,BL (by unfold GF;rw[nH (by simpa using w),nH (by simp)]),?_⟩
     rw[Hb,nJ (BS.self)]
    ·cases A:Ah (BQ m) l with
     | none=>
      have I:=JX A
      refine⟨.ext false,BL (by unfold GF;rw[nH (by simpa using w),nG (by simpa using q),(ES A).1];rfl),?_⟩
      rw[Hb,nI]
      intro C
      rcases C.inv with e | ⟨x,E,e,_⟩
      ·exact q e
      ·exact I x E e
     | some j=>
      obtain⟨F,e⟩:=GY A
      have:=O _ (nq F)
      rw[e] at this
      omega
   ·refine⟨.nrm (),BL (by unfold GF;rw[nG (by simpa using w)]),?_⟩
    rw[R2,nI]
    intro C
    rcases C.inv with e | ⟨x,E,e,_⟩
    ·omega
    ·have:=BG x E;omega
  | succ n U=>
   intro l hd
   by_cases w:0<l
   ·by_cases q:l=top
    ·subst q
     refine⟨.ext true,BL (by unfold GF;rw[nH (by simpa using w),nH (by simp)]),?_⟩
     rw[Hb,nJ (BS.self)]
    ·cases A:Ah (BQ m) l with
     | none=>
      have I:=JX A
      refine⟨.ext false,BL (by unfold GF;rw[nH (by simpa using w),nG (by simpa using q),(ES A).1];rfl),?_⟩
      rw[Hb,nI]
      intro C
      rcases C.inv with e | ⟨x,E,e,_⟩
      ·exact q e
      ·exact I x E e
     | some j=>
      obtain⟨F,e⟩:=GY A
      have B:=nq F
      have J:=O _ B
      rw[e] at J
      obtain⟨c,M,V⟩:=U m[j].Parent (by omega)
      refine⟨c,?_,?_⟩
      ·rw[Bm (s':=m[j].Parent) (by
        unfold GF
        rw[nH (by simpa using w),nG (by simpa using q),UY,A,oH,nM F]
        rfl)]
       exact M
      ·rw[V]
       congr 1
       rw[pX,← OJ T B (by rw[e];exact q),e]
   ·refine⟨.nrm (),BL (by unfold GF;rw[nG (by simpa using w)]),?_⟩
    rw[R2,nI]
    intro C
    rcases C.inv with e | ⟨x,E,e,_⟩
    ·omega
    ·have:=BG x E;omega
 intro l
 obtain⟨c,q,M⟩:=key _ l (nO _)
 unfold NO
 rw[q];exact M
theorem WH{α:Type}{p q}{l:List α}(h:∀x∈l,p x=true→q x=true){z}(j:z∈l)(w:q z=true)(A:p z=false):l.countP p<l.countP q:=by
 induction l with
 | nil=>cases j
 | cons a r B=>
  have E:r.countP p≤r.countP q:=qS λx m=>h x (nY _ m)
  rw[qM,qM]
  rcases nn.1 j with rfl | j
  ·rw[w,A];simp;omega
  ·have:=B (λx m=>h x (nY _ m)) j
   have C:=h a (nc ..)
   cases hp:p a
   ·simp;split<;>omega
   ·rw[C hp];simp;omega
open Classical in
theorem du{l:List AC}{d}(X:Uq l)(Z:Rk l d)(hm:l.length≤1048576)(top q:Int):Ks l q top=some (decide (BS l top q)):=by
 let r:Int→Nat:=λy=>l.countP λz=>decide (d z.Item<d y)
 have F:∀x∈l,r x.Item+1≤l.length:=λx A=>by
  have:=WH (p:=λz=>decide (d z.Item<d x.Item)) (q:=λ_=>true) (l:=l) (λ_ _ _=>rfl) A rfl (by simp)
  rw[List.countP_true] at this
  exact this
 have C:∀x∈l,∀y∈l,y.Item=x.Parent→r y.Item+1≤r x.Item:=λx A y hy e=>by
  have B:=Z x A
  exact WH (p:=λz=>decide (d z.Item<d y.Item)) (q:=λz=>decide (d z.Item<d x.Item)) (λz _ T=>by simp at T ⊢;rw[e] at T;omega) hy (by simp;rw[e];exact B) (by simp)
 have key:∀(m:Nat) (q:Int) (i:Nat),i+m=l.length+1→1≤m→(∀x∈l,x.Item=q→r q+2≤m) →
   ∃c,iter (λ(a:Int × Int)=>F7 l top ((l.length+1:Nat):Int) a.1 a.2) (q,(i:Int))=some c∧Aw (some c) (λ(_:Unit)=>some false)=some (decide (BS l top q)):=by
  intro m
  induction m with
  | zero=>intro q i _ h;omega
  | succ m ih=>
   intro q i hi _ hn
   have E:decide ((i:Int)<((l.length+1:Nat):Int))=true:=by simp;omega
   by_cases B:q=top
   ·subst B
    refine⟨.ext true,BL (by show F7 l q _ q (i:Int)=_;unfold F7;rw[nH E,nH (by simp)]),?_⟩
    rw[Hb,nJ (BS.self)]
   ·cases I:Ah (BQ l) q with
    | none=>
     have J:=JX I
     refine⟨.ext false,BL (by
      show F7 l top _ q (i:Int)=_
      unfold F7
      rw[nH E,nG (by simpa using B),LX _ _ (by omega),AD]
      unfold Hk
      rw[I];rfl),?_⟩
     rw[Hb,nI]
     intro hb
     rcases hb.inv with e | ⟨x,A,e,_⟩
     ·exact B e
     ·exact J x A e
    | some j=>
     obtain⟨U,e⟩:=GY I
     have w:=nq U
     have a0:=hn _ w e
     obtain⟨c,M,h3⟩:=ih l[j].Parent (i+1) (by omega) (by omega) (λx A V=>by
      have:=C _ w x A V
      rw[e] at this
      rw[← V];omega)
     refine⟨c,?_,?_⟩
     ·rw[Bm (s':=(l[j].Parent,((i+1:Nat):Int))) (by
       show F7 l top _ q (i:Int)=_
       unfold F7
       rw[nH E,nG (by simpa using B),LX _ _ (by omega),AD]
       unfold Hk
       rw[I]
       simp only
       rw[nG (by simp),EH U,AD,An (by omega),AD])]
      exact M
     ·rw[h3]
      congr 1
      rw[pX,← OJ X w (by rw[e];exact B),e]
 unfold Ks
 rw[An (by omega),AD]
 obtain⟨c,B,M⟩:=key (l.length+1) q 0 (by omega) (by omega) (λx A e=>by have:=F x A;rw[e] at this;omega)
 have O:iter (λ(a:Int × Int)=>F7 l top ((l.length+1:Nat):Int) a.1 a.2) (q,0)=some c:=B
 rw[O];exact M
def upd(l:List AC)(n:AC):List AC:=match Ah (BQ l) n.Item with | some j=>l.set j n | none=>l++[n]
theorem il l(n:AC):Ai (BQ l) n.Item n=BQ (upd l n):=by
 unfold upd
 cases h:Ah (BQ l) n.Item with
 | none=>rw[(ES h).2];simp[BQ]
 | some j=>
  obtain⟨v,_,_,m⟩:=DE h
  rw[m];simp[BQ,pt]
theorem V7 l(n:AC):Ai (Cg l) n.Item n.Attrs=Cg (upd l n):=by
 unfold upd
 have m:=Sq l n.Item
 cases h:Ah (BQ l) n.Item with
 | none=>rw[h] at m;rw[(ES m).2];simp[Cg]
 | some j=>
  rw[h] at m
  obtain⟨v,_,_,q⟩:=DE m
  rw[q];simp[Cg,pt]
theorem Qk(l:List AC) n:(upd l n).length≤l.length+1:=by
 unfold upd
 split<;>simp
theorem QY{l:List AC}(h:Uq l)(n:AC):Uq (upd l n):=by
 unfold upd
 split
 ·rename_i j m
  obtain⟨A,e⟩:=GY m
  unfold Uq at h ⊢
  rw[pt,← e]
  have:(l.map (·.Item)).set j l[j].Item=l.map (·.Item):=by
   apply pB
   intro i
   rw[od]
   split
   ·rename_i q;subst q;simp[A]
   ·rfl
  rw[this];exact h
 ·rename_i m
  have B:=JX m
  unfold Uq at h ⊢
  rw[oz,qm,qr]
  refine⟨h,by simp,λa C b w=>?_⟩
  rw[pR] at w
  obtain⟨x,E,rfl⟩:=oA.1 C
  rw[w];exact B x E
theorem IV{l}(h:Uq l){n z:AC}(w:z∈upd l n):z=n∨(z∈l∧z.Item≠n.Item):=by
 unfold upd at w
 split at w
 ·rename_i j C
  obtain⟨F,e⟩:=GY C
  obtain⟨i,A⟩:=oa.1 w
  rw[od] at A
  split at A
  ·cases A;exact .inl rfl
  ·rename_i E
   obtain⟨m,rfl⟩:=nN.1 A
   refine .inr ⟨nq m,λI=>E ?_⟩
   unfold Uq at h
   rw[pf,pC] at h
   rcases Nat.lt_trichotomy i j with q | heq | q
   ·exact(h i j (by simpa using m) (by simpa using F) q (by simp[I,e])).elim
   ·exact heq.symm
   ·exact(h j i (by simpa using F) (by simpa using m) q (by simp[I,e])).elim
 ·rename_i C
  have J:=JX C
  rcases oe.1 w with B | B
  ·exact .inr ⟨B,J z B⟩
  ·exact .inl (pR.1 B)
open Classical in
theorem Yp{l}{d}(B:Rk l d)(w:Uq l){n:AC}(C:¬ BS l n.Item n.Parent):∃E,Rk (upd l n) E:=by
 refine⟨λy=>if BS l n.Item y then d y+d n.Parent+1 else d y,λz F=>?_⟩
 simp only
 rcases IV w F with rfl | ⟨j,q⟩
 ·rw[nG C,nH BS.self];omega
 ·have I:=B z j
  have A:=OJ w j q
  by_cases m:BS l n.Item z.Item
  ·rw[nH m,nH (A.1 m)];omega
  ·rw[nG m,nG (λh=>m (A.2 h))];exact I
structure DI(k:Nat)(items attrs:List AC):Prop where
 uq:Uq items
 id:∀x∈items,1≤x.Item
 no:∀x∈items,x.Attrs=[]
 rk:∃d,Rk items d
 li:items.length≤k
 ua:Uq attrs
 la:attrs.length≤k
 ok:∀x∈attrs,Bz x.Attrs false=0∧x.Attrs.length≤k
 ia:∀x∈attrs,1≤x.Item∧x.Item≤1073741824
 mv:∀x∈items,x.Item≤1073741824∧(-1≤x.Parent∧x.Parent≤1073741824)∧KD x.Place=true
 sa:(attrs.map (·.Attrs.length)).sum≤k
theorem iA{l:List AC}{n:AC}(h:Ah (BQ l) n.Item=none):((upd l n).map (·.Attrs.length)).sum=(l.map (·.Attrs.length)).sum+n.Attrs.length:=by
 unfold upd
 rw[h]
 simp
theorem cW:∀(l:List Nat) (j:Nat) (m:j<l.length) (v:Nat),(l.set j v).sum+l[j]=l.sum+v:=by
 intro l
 induction l with
 | nil=>intro j m;simp at m
 | cons a r q=>
  intro j m v
  cases j with
  | zero=>simp;omega
  | succ j=>
   have:=q j (by simpa using m) v
   simp
   omega
theorem ZT{l:List AC}{n:AC}{j}(h:Ah (BQ l) n.Item=some j)(m:j<l.length):((upd l n).map (·.Attrs.length)).sum+l[j].Attrs.length=(l.map (·.Attrs.length)).sum+n.Attrs.length:=by
 have:=cW (l.map (·.Attrs.length)) j (by simpa using m) n.Attrs.length
 unfold upd
 rw[h]
 simp only[pt,List.getElem_map] at *
 exact this
theorem XK{o:At}(h:E7 o=0)(j:o.Kind=0):(-1≤o.Parent∧o.Parent≤1073741824)∧KD o.Place=true:=by
 unfold E7 at h
 split at h
 ·exact absurd h (by decide)
 split at h
 ·exact absurd h (by decide)
 try rw[nH j] at h
 split at h
 ·exact absurd h (by decide)
 split at h
 ·exact absurd h (by decide)
 ·rename_i hp
  split at h
  ·rename_i l;exact⟨nl.1 hp,l⟩
  ·exact absurd h (by decide)
theorem Yo{o:At}(h:E7 o=0):(1≤o.Item∧o.Item≤1073741824)∧((o.Kind=0)∨(o.Kind=1∧Bz [⟨o.Name,o.Value⟩] true=0)):=by
 unfold E7 at h
 split at h
 ·exact absurd h (by decide)
 rename_i m
 split at h
 ·exact absurd h (by decide)
 rename_i q
 refine⟨(nl.1 q).2,?_⟩
 split at h
 ·rename_i j;exact .inl j
 ·rename_i j
  have w:o.Kind=1:=ne λh=>m ⟨j,h⟩
  refine .inr ⟨w,?_⟩
  split at h
  ·exact absurd h (by decide)
  ·split at h
   ·rename_i A
    split at h
    ·exact absurd h (by decide)
    ·rename_i B
     refine ZW A ?_
     by_cases e:o.Value=[]
     ·exact .inl e
     ·right
      cases l:DO o.Value
      ·exact absurd ⟨e,l⟩ B
      ·rfl
   ·exact absurd h (by decide)
theorem Ie{α:Type}{l m:List α}(h:l.length+m.length≤2097152):app 56 l m=some (l++m):=by
 unfold app
 rw[nH ⟨by omega,by omega⟩]
open Classical in
theorem bM{l:List At}{k}{m attrs:List AC}(h:DI k m attrs)(hk:k<l.length)(hm:l.length≤1048576)(ho:E7 l[k]! = 0) :
  ∃A B,DI (k+1) A B∧Hr l (k:Int) (BQ m) (Cg attrs)=some (.inl (((k+1:Nat):Int),BQ A,Cg B)) ∧
   HT l (k:Int) m attrs=some (.inl (((k+1:Nat):Int),A,B)):=by
 obtain⟨hI,O⟩:=Yo ho
 have a1:=h.li
 have a2:=h.la
 unfold Hr HT
 rw[nH (by simpa using hk),nH (by simpa using hk),Ac hk,AD,AD,An (by omega)]
 generalize l[k]! = o at *
 rcases O with h0 | ⟨h1,ha⟩
 ·
  obtain⟨d,hd⟩:=h.rk
  rw[nG (by rw[h0];decide),nG (by rw[h0];decide),lf h.id h.uq hd hI.1,AD]
  have T:∃r2:Bool,gd (((decide (o.Parent=o.Item))==false)&&((decide (0<o.Parent))==true)) (Ks m o.Parent o.Item)=some r2∧(((o.Parent=o.Item)||((0<o.Parent)&&r2))=decide (BS m o.Item o.Parent)):=by
   rw[du h.uq hd (by omega)]
   by_cases E:o.Parent=o.Item
   ·refine⟨default,by rw[nJ E];rfl,?_⟩
    rw[nJ E,E,nJ BS.self];rfl
   ·by_cases V:0<o.Parent
    ·refine⟨decide (BS m o.Item o.Parent),by rw[nI E,nJ V];rfl,?_⟩
     rw[nI E,nJ V];simp
    ·refine⟨default,by rw[nI E,nI V];rfl,?_⟩
     rw[nI E,nI V,nI]
     ·rfl
     ·intro U
      rcases U.inv with e | ⟨x,w,e,_⟩
      ·exact E e
      ·have:=h.id x w;omega
  obtain⟨r2,E,V⟩:=T
  rw[E,AD,V]
  by_cases U:BS m o.Item o.Parent
  ·refine⟨m,attrs,⟨h.uq,h.id,h.no,h.rk,by omega,h.ua,by omega,λx w=>⟨(h.ok x w).1,by have:=(h.ok x w).2;omega⟩,h.ia,h.mv,by have:=h.sa;omega⟩,?_,?_⟩
   ·rw[nJ U,nG (by decide),BZ];rfl
   ·rw[nJ U,nH rfl,BZ];rfl
  ·have hn:(⟨o.Item,o.Parent,o.Place,[]⟩:AC)=⟨o.Item,o.Parent,o.Place,[]⟩:=rfl
   generalize F:(⟨o.Item,o.Parent,o.Place,[]⟩:AC)=n at hn
   have I:n.Item=o.Item:=by rw[← F]
   have a0:n.Parent=o.Parent:=by rw[← F]
   refine⟨upd m n,attrs,⟨QY h.uq n,λx w=>?_,λx w=>?_,Yp hd h.uq (by rw[I,a0];exact U),by have:=Qk m n;omega,h.ua,by omega,λx w=>⟨(h.ok x w).1,by have:=(h.ok x w).2;omega⟩,h.ia,λx w=>?_,by have:=h.sa;omega⟩,?_,?_⟩
   ·rcases IV h.uq w with rfl | ⟨q,_⟩
    ·rw[I];exact hI.1
    ·exact h.id x q
   ·rcases IV h.uq w with rfl | ⟨q,_⟩
    ·rw[← F]
    ·exact h.no x q
   ·rcases IV h.uq w with rfl | ⟨q,_⟩
    ·rw[← F];exact⟨hI.2,XK ho h0⟩
    ·exact h.mv x q
   ·rw[nI U,nH (by decide),BZ,AD,← I,il]
   ·rw[nI U,nG (by decide),LX _ _ (by omega),AD]
    unfold upd Hk
    rw[I]
    cases C:Ah (BQ m) o.Item with
    | none=>
     simp only
     rw[nH (by decide),Ie (by simp;omega),AD,BZ,EH (by simp),AD,BZ,AD,oP]
     simp
    | some j=>
     obtain⟨X,_⟩:=GY C
     simp only
     rw[nG (by simp),BZ,EH X,AD,BZ,AD,oP]
 ·
  rw[nH (by rw[h1];decide),nH (by rw[h1];decide),LX _ _ (by omega),AD]
  unfold Hk
  have J:=Sq attrs o.Item
  cases C:Ah (BQ attrs) o.Item with
  | none=>
   rw[C] at J
   simp only
   rw[(ES J).1,qt,UI (by simp),AD,nH (by decide),Ie (by simp;omega)]
   simp only[AD,BZ]
   rw[EH (by simp)]
   simp only[AD,List.getElem_append_right (nO _),qu,List.getElem_cons_zero]
   rw[V0 RW ha (by simp)]
   simp only[AD,BZ,oP]
   have E:(attrs++[(⟨o.Item,0,[],[]⟩:AC)]).set attrs.length ⟨o.Item,0,[],FA [] ⟨o.Name,o.Value⟩⟩=upd attrs ⟨o.Item,0,[],FA [] ⟨o.Name,o.Value⟩⟩:=by
    unfold upd;rw[C];simp
   rw[E]
   refine⟨m,upd attrs ⟨o.Item,0,[],FA [] ⟨o.Name,o.Value⟩⟩,⟨h.uq,h.id,h.no,h.rk,by omega,QY h.ua _,by have:=Qk attrs ⟨o.Item,0,[],FA [] ⟨o.Name,o.Value⟩⟩;omega,λx w=>?_,λx w=>?_,h.mv,?_⟩,?_,rfl⟩
   ·rcases IV h.ua w with rfl | ⟨q,_⟩
    ·exact⟨TX RW ha,by have:=QS [] ⟨o.Name,o.Value⟩;simp at this;simp only;omega⟩
    ·exact⟨(h.ok x q).1,by have:=(h.ok x q).2;omega⟩
   ·rcases IV h.ua w with rfl | ⟨q,_⟩
    ·exact hI
    ·exact h.ia x q
   ·rw[iA (by simpa using C)]
    have:=QS [] ⟨o.Name,o.Value⟩
    have:=h.sa
    simp at *
    omega
   ·rw[← V7]
  | some j=>
   rw[C] at J
   obtain⟨X,ej⟩:=GY C
   have M:=nq X
   have Z:=h.ok _ M
   obtain⟨v,v1,v2,v3⟩:=DE J
   have hv:v=attrs[j].Attrs:=by
    unfold Cg at v1
    rw[nS,nM X] at v1
    simp at v1
    exact v1.2.symm
   subst hv
   simp only
   rw[v2,oX,UI (by omega),AD,nG (by simp)]
   simp only[AD,BZ]
   rw[EH X]
   simp only[AD]
   rw[V0 Z.1 ha (by omega)]
   simp only[AD,BZ,oP]
   have E:attrs.set j ⟨attrs[j].Item,attrs[j].Parent,attrs[j].Place,FA attrs[j].Attrs ⟨o.Name,o.Value⟩⟩=upd attrs ⟨attrs[j].Item,attrs[j].Parent,attrs[j].Place,FA attrs[j].Attrs ⟨o.Name,o.Value⟩⟩:=by
    unfold upd;simp only;rw[ej,C]
   rw[E]
   refine⟨m,upd attrs ⟨attrs[j].Item,attrs[j].Parent,attrs[j].Place,FA attrs[j].Attrs ⟨o.Name,o.Value⟩⟩,⟨h.uq,h.id,h.no,h.rk,by omega,QY h.ua _,by have:=Qk attrs ⟨attrs[j].Item,attrs[j].Parent,attrs[j].Place,FA attrs[j].Attrs ⟨o.Name,o.Value⟩⟩;rw[← E] at this ⊢;simpa using(by omega:attrs.length≤k+1),λx w=>?_,λx w=>?_,h.mv,?_⟩,?_,rfl⟩
   ·rcases IV h.ua w with rfl | ⟨q,_⟩
    ·exact⟨TX Z.1 ha,by have:=QS attrs[j].Attrs ⟨o.Name,o.Value⟩;simp only;omega⟩
    ·exact⟨(h.ok x q).1,by have:=(h.ok x q).2;omega⟩
   ·rcases IV h.ua w with rfl | ⟨q,_⟩
    ·exact(h.ia attrs[j] M)
    ·exact h.ia x q
   ·have h2:=ZT (l:=attrs) (n:=⟨attrs[j].Item,attrs[j].Parent,attrs[j].Place,FA attrs[j].Attrs ⟨o.Name,o.Value⟩⟩) (j:=j) (by simp only;rw[ej,C]) X
    have:=QS attrs[j].Attrs ⟨o.Name,o.Value⟩
    have:=h.sa
    simp only at h2
    omega
   ·rw[← V7];simp only;rw[ej]
end Go.Proofs.YtmogkkigacadpaaGreatDoor.Al

set_option linter.unusedVariables false
namespace Go.Proofs.YtmogkkigacadpaaGreatDoor.Al
open Go.Sort
structure GK(lt:AC→AC→Bool):Prop where
 swo:SWO lt
 tot:∀a b,lt a b=false→lt b a=false→a.Item=b.Item
theorem GK.asymm{lt}(h:GK lt){a b}(j:lt a b=true):lt b a=false:=by
 cases l:lt b a
 ·rfl
 ·have:=h.swo.trans a b a j l
  rw[h.swo.irrefl] at this;cases this
def GB(a b:AC):Bool:=Au a.Place b.Place||((a.Place=b.Place)&&(a.Item<b.Item))
def Ee(a b:AC):Bool:=decide (a.Item<b.Item)
theorem SY(a b:AC):GB a b=true↔Au a.Place b.Place=true∨(a.Place=b.Place∧a.Item<b.Item):=by
 unfold GB;simp
theorem Mw(a b:AC):GB a b=false↔Au b.Place a.Place=true∨(b.Place=a.Place∧b.Item≤a.Item):=by
 rw[← ny,SY]
 constructor
 ·intro h
  by_cases e:b.Place=a.Place
  ·exact .inr ⟨e,by
    have:¬ a.Item<b.Item:=λj=>h (.inr ⟨e.symm,j⟩)
    omega⟩
  ·exact .inl (Rb (λl=>e l.symm) λj=>h (.inl j))
 ·rintro(h | ⟨m,j⟩) (g | ⟨q,g2⟩)
  ·rw[V3 h] at g;cases g
  ·rw[q,IR] at h;cases h
  ·rw[m,IR] at g;cases g
  ·omega
theorem HD:GK GB where
 swo:={
  irrefl:=λx=>by rw[Mw];exact .inr ⟨rfl,Int.le_refl _⟩
  trans:=λx y z l j=>by
   rw[SY] at *
   rcases l with l | ⟨l,m⟩<;>rcases j with j | ⟨j,g2⟩
   ·exact .inl (FE l j)
   ·exact .inl (by rw[← j];exact l)
   ·exact .inl (by rw[l];exact j)
   ·exact .inr ⟨l.trans j,by omega⟩
  ntrans:=λx y z l j=>by
   rw[Mw] at *
   rcases l with l | ⟨l,m⟩<;>rcases j with j | ⟨j,g2⟩
   ·exact .inl (FE j l)
   ·exact .inl (by rw[j];exact l)
   ·exact .inl (by rw[← l];exact j)
   ·exact .inr ⟨j.trans l,by omega⟩ }
 tot:=λa b l j=>by
  rw[Mw] at *
  rcases l with l | ⟨l,m⟩<;>rcases j with j | ⟨j,g2⟩
  ·rw[V3 l] at j;cases j
  ·rw[j,IR] at l;cases l
  ·rw[l,IR] at j;cases j
  ·omega
theorem Jj:GK Ee where
 swo:={ irrefl:=λx=>by unfold Ee;simp,trans:=λx y z j l=>by unfold Ee at *;simp at *;omega,ntrans:=λx y z j l=>by unfold Ee at *;simp at *;omega }
 tot:=λa b j l=>by unfold Ee at *;simp at *;omega
def srt(lt:AC→AC→Bool)(xs:List AC):List AC:=xs.mergeSort λa b=>!lt b a
theorem Fb lt xs:(srt lt xs).Perm xs:=List.mergeSort_perm ..
theorem Oz{lt}(h:GK lt) xs:(srt lt xs).Pairwise λa b=>lt b a=false:=by
 have:=List.pairwise_mergeSort (le:=λa b=>!lt b a) (λa b c j l=>by
  simp only[oF] at *
  exact h.swo.ntrans c b a l j) (λa b=>by
  cases j:lt b a
  ·rfl
  ·simp[h.asymm j]) xs
 exact this.imp λh=>by simpa using h
theorem Uq.perm{A B:List AC}(h:Uq A)(p:B.Perm A):Uq B:=(p.map λx:AC=>x.Item).nodup_iff.2 h
theorem Uq.filter{A:List AC}(h:Uq A)(p:AC→Bool):Uq (A.filter p):=by
 unfold Uq at *
 exact(List.filter_sublist.map _).nodup h
theorem WA{lt}(h:GK lt){xs}(l:Uq xs):(srt lt xs).Pairwise λa b=>lt a b=true:=by
 have m:=Oz h xs
 have j:Uq (srt lt xs):=l.perm (Fb lt xs)
 unfold Uq at j
 rw[pf,pq] at j
 refine(m.and j).imp λ{a b} ⟨q,g2⟩=>?_
 cases g3:lt a b
 ·exact absurd (h.tot a b g3 q) g2
 ·rfl
theorem Ql{lt}(h:GK lt){c:List AC}(hc:c.Pairwise λa b=>lt a b=true){k}(q:k<c.length){z}(w:z∈c):lt c[k] z=true↔z∈c.drop (k+1):=by
 rw[pC] at hc
 constructor
 ·intro l
  obtain⟨i,j,rfl⟩:=oL.1 w
  have:k<i:=by
   rcases Nat.lt_trichotomy k i with g | g | g
   ·exact g
   ·subst g;rw[h.swo.irrefl] at l;cases l
   ·rw[h.asymm (hc i k j q g)] at l;cases l
  rw[oa]
  exact⟨i-(k+1),by rw[nz,show k+1+(i-(k+1))=i by omega,nM j]⟩
 ·intro A
  obtain⟨i,j⟩:=oa.1 A
  rw[nz] at j
  obtain⟨m,rfl⟩:=nN.1 j
  exact hc k (k+1+i) q m (by omega)
def Me(l:AC→Bool)(lt:AC→AC→Bool)(A:List AC)(next:Option Nat)(k:Nat):Option Nat:=
 match next with
 | none=>if l A[k]! = true then some k else none
 | some j=>if l A[k]! = true∧lt A[k]! A[j]! = true then some k else some j
def nx:Option Nat→Int
 | none=>-1
 | some j=>(j:Int)
theorem Wf{l}{lt}(U:GK lt){A:List AC}{f}
 (h1:∀k next, k<A.length→(∀j, next=some j→j<A.length)→f (nx next, (k:Int))=some (.inl (nx (Me l lt A next k), ((k+1:Nat):Int)))) (h2:∀next, f (nx next, (A.length:Int))=some (.inr (nx next))) :
    ∃next, iter f (-1, 0)=some (nx next)∧(match next with | none => ∀z ∈ A, l z=false | some j => ∃I:j<A.length, l A[j]=true∧∀z ∈ A, l z=true→lt z A[j]=false) := by
  have key := Ht (f := f) A.length (λk s => ∃next, s=(nx next, (k:Int))∧(match next with | none => ∀i, i<k→∀C:i<A.length, l A[i]=false | some j => ∃I:j<A.length, l A[j]=true∧∀i, i<k→∀C:i<A.length, l A[i]=true→lt A[i] A[j]=false))
    (λb => ∃next, b=nx next∧(match next with | none => ∀z ∈ A, l z=false | some j => ∃I:j<A.length, l A[j]=true∧∀z ∈ A, l z=true→lt z A[j]=false))
    (λk s M V => by
      obtain⟨next, rfl, F⟩ := V
      left
      have X:∀j, next=some j→j<A.length := λj e => by subst e;exact F.1
      refine⟨_, h1 k next M X, Me l lt A next k, rfl, ?_⟩
      unfold Me
      cases next with
      | none =>
        simp only at F ⊢
        rw[nW A k M]
        by_cases E:l A[k]=true
        · rw[nH E]
          refine⟨M, E, λi C m q => ?_⟩
          by_cases w:i<k
          · rw[F i w m] at q;cases q
          · obtain rfl:i=k := by omega
            exact U.swo.irrefl _
        · rw[nG E]
          intro i C m
          by_cases w:i<k
          · exact F i w m
          · obtain rfl:i=k := by omega
            simpa using E
      | some j =>
        obtain⟨I, J, B⟩ := F
        simp only
        rw[nW A k M, nW A j I]
        by_cases E:l A[k]=true∧lt A[k] A[j]=true
        · rw[nH E]
          refine⟨M, E.1, λi C m q => ?_⟩
          by_cases w:i<k
          · have T := B i w m q
            cases O:lt A[i] A[k]
            · rfl
            · rw[U.swo.trans _ _ _ O E.2] at T;cases T
          · obtain rfl:i=k := by omega
            exact U.swo.irrefl _
        · rw[nG E]
          refine⟨I, J, λi C m q => ?_⟩
          by_cases w:i<k
          · exact B i w m q
          · obtain rfl:i=k := by omega
            cases O:lt A[i] A[j]
            · rfl
            · exact absurd ⟨q, O⟩ E)
    (λs V => by
      obtain⟨next, rfl, F⟩ := V
      refine⟨_, h2 next, next, rfl, ?_⟩
      cases next with
      | none =>
        intro z Z
        obtain⟨i, C, rfl⟩ := oL.1 Z
        exact F i C C
      | some j =>
        obtain⟨I, J, B⟩ := F
        refine⟨I, J, λz Z E => ?_⟩
        obtain⟨i, C, rfl⟩ := oL.1 Z
        exact B i C C E)
    (s := (-1, 0)) ⟨none, rfl, λi C => absurd C (by omega)⟩
  obtain⟨b, T, next, rfl, O⟩ := key
  exact⟨next, T, O⟩
theorem PW{m:AC→Bool}{lt:AC→AC→Bool}(X:GK lt){A c:List AC}(Z:Uq A)(I:∀z∈c,z∈A)(hc:c.Pairwise λa b=>lt a b=true){k:Nat}
  (l:∀z∈A,m z=true↔z∈c.drop k) {next:Option Nat} (J:match next with | none=>∀z∈A,m z=false | some j=>∃w:j<A.length,m A[j]=true∧∀z∈A,m z=true→lt z A[j]=false) :
  (k<c.length→∃j,∃w:j<A.length,next=some j∧some A[j]=c[k]?)∧(c.length≤k→next=none):=by
 constructor
 ·intro B
  have C:c[k]∈c.drop k:=oa.2 ⟨0,by rw[nz,oU,nM B]⟩
  have hA:=I _ (nq B)
  have q:=(l _ hA).2 C
  cases next with
  | none=>rw[J _ hA] at q;cases q
  | some j=>
   obtain⟨w,M,U⟩:=J
   refine⟨j,w,rfl,?_⟩
   rw[nM B]
   congr 1
   have V:=U _ hA q
   have F:A[j]∈c.drop k:=(l _ (nq w)).1 M
   obtain⟨i,T⟩:=oa.1 F
   rw[nz] at T
   obtain⟨O,E⟩:=nN.1 T
   rw[pC] at hc
   rcases ql i with g | g
   ·subst g;rw[← E];rfl
   ·have:=hc k (k+i) B O (by omega)
    rw[E,V] at this;cases this
 ·intro B
  cases next with
  | none=>rfl
  | some j=>
   obtain⟨w,M,_⟩:=J
   have F:A[j]∈c.drop k:=(l _ (nq w)).1 M
   rw[ov B] at F;cases F
structure Fo(A:List AC)(d:Int→Nat)(M:Nat):Prop where
 uq:Uq A
 id:∀x∈A,1≤x.Item
 rk:Rk A d
 top:∀x∈A,d x.Item≤M
 len:A.length≤1048576
def Az(A:List AC)(q:Int):List AC:=srt GB (A.filter λz=>decide (z.Parent=q))
theorem F9{A}{q}{z:AC} : z∈Az A q↔z∈A∧z.Parent=q:=by
 unfold Az
 rw[(Fb _ _).mem_iff,o5,nK]
theorem MX{A}(j:Uq A)(q:Int):(Az A q).Pairwise λa b=>GB a b=true:=WA HD (j.filter _)
def BC(A:List AC):Nat→Int→List AC
 | 0,_=>[]
 | n+1,q=>(Az A q).flatMap λx=>x::BC A n x.Item
def JO(q:Int)(place:List UInt8)(j:Int)(z:AC):Bool:=!(((!(z.Parent=q))||(Au z.Place place))||((z.Place=place)&&(z.Item≤j)))
theorem Um(A:List AC)(F:A.length≤1048576) q place l:∃next,iter (λ(a:Int × Int)=>G9 A q place l a.1 a.2) ((-1),0)=some (nx next) ∧
  (match next with | none=>∀z∈A,JO q place l z=false | some j=>∃w:j<A.length,JO q place l A[j]=true∧∀z∈A,JO q place l z=true→GB z A[j]=false):=by
 refine Wf HD (λk next B C=>?_) (λnext=>?_)
 ·show G9 A q place l (nx next) (k:Int)=_
  unfold G9
  rw[nH (by simpa using B),Ac B,AD,An (by omega)]
  unfold Me JO
  generalize A[k]! = x
  by_cases m:(((!(x.Parent=q))||(Au x.Place place))||((x.Place=place)&&(x.Item≤l)))=true
  ·rw[nH m,m]
   cases next<;>simp
  ·rw[nG m]
   rw[ny] at m
   rw[m]
   cases next with
   | none=>simp[nx,Ci]
   | some j=>
    have w:=C j rfl
    have E:decide (nx (some j)<0)=false:=by unfold nx;simp
    rw[E,show((false==false)=true) from rfl,Aq,show nx (some j)=(j:Int) from rfl,Ac w,AD]
    simp only[pP,qJ]
    generalize A[j]! = y
    have e:GB x y=(Au x.Place y.Place||((x.Place=y.Place)&&(x.Item<y.Item))):=rfl
    rw[e]
    cases Au x.Place y.Place
    ·simp only[oS,show((false==false)=true) from rfl,Aq,AD]
     split<;>rfl
    ·simp only[oS,qV,show((true==false)=false) from rfl,Ci,AD,qD]
     rfl
 ·show G9 A q place l (nx next) (A.length:Int)=_
  unfold G9
  rw[nG (by simp)]
def EL(c:List AC)(k:Nat):List UInt8 × Int:=match k with | 0=>([],0) | k+1=>(c[k]!.Place,c[k]!.Item)
theorem bW{c:List AC}{k}(h:k<c.length):EL c (k+1)=(c[k].Place,c[k].Item):=by
 show(c[k]!.Place,c[k]!.Item)=_
 rw[nW c k h]
theorem VF{A}(B:Uq A)(BG:∀x∈A,1≤x.Item)(q:Int){k}(F:k≤(Az A q).length){z:AC}(w:z∈A):JO q (EL (Az A q) k).1 (EL (Az A q) k).2 z=true↔z∈(Az A q).drop k:=by
 have C:∀(p:List UInt8) (i:Int),JO q p i z=true↔z.Parent=q∧¬ (Au z.Place p=true∨(z.Place=p∧z.Item≤i)):=λp i=>by
  unfold JO
  simp only[oF,o9,Bool.not_eq_false',nK,pN,oQ,not_or,not_and,ny]
  constructor
  ·rintro⟨⟨j,m⟩,l⟩;exact⟨j,m,l⟩
  ·rintro⟨j,m,l⟩;exact⟨⟨j,m⟩,l⟩
 cases k with
 | zero=>
  rw[pQ,F9,C]
  unfold EL
  simp only
  constructor
  ·rintro⟨j,_⟩;exact⟨w,j⟩
  ·rintro⟨_,j⟩
   refine⟨j,?_⟩
   rintro(h | ⟨_,h⟩)
   ·rw[Tm] at h;cases h
   ·have:=BG z w;omega
 | succ k=>
  unfold EL
  simp only
  rw[nW (Az A q) k (by omega),C]
  constructor
  ·rintro⟨j,m⟩
   refine(Ql HD (MX B q) (by omega) (F9.2 ⟨w,j⟩)).1 ?_
   cases l:GB (Az A q)[k] z
   ·rw[Mw] at l;exact absurd l m
   ·rfl
  ·intro j
   have m:=qX j
   refine⟨(F9.1 m).2,λl=>?_⟩
   have E:=(Ql HD (MX B q) (by omega) m).2 j
   rw[← Mw] at l
   rw[l] at E;cases E
theorem lS{A:List AC}{d:Int→Nat}{M:Nat}(h:Fo A d M):∀(n:Nat) (q:Int) (out:List AC),M-d q<n→out.length+(BC A n q).length≤2097151→DR n out A q=some (out++BC A n q):=by
 intro n
 induction n with
 | zero=>intro q out hn;omega
 | succ n ih=>
  intro q out hn hl
  show IE (λw E l=>DR n w E l) out A q=_
  unfold IE
  have hA:∀z∈Az A q,z∈A:=λz F=>(F9.1 F).1
  have loop:∀m k o,k+m=(Az A q).length→o.length+(((Az A q).drop k).flatMap λx=>x::BC A n x.Item).length≤2097151 →
    iter (λ(a:(List UInt8) × Int × (List AC))=>Fg A q (λw E l=>DR n w E l) a.1 a.2.1 a.2.2) ((EL (Az A q) k).1,(EL (Az A q) k).2,o) =
     some (.ext (o++((Az A q).drop k).flatMap λx=>x::BC A n x.Item)):=by
   intro m
   induction m with
   | zero=>
    intro k o hk V
    refine BL ?_
    show Fg A q _ (EL (Az A q) k).1 (EL (Az A q) k).2 o=_
    unfold Fg
    obtain⟨next,J,O⟩:=Um A h.len q (EL (Az A q) k).1 (EL (Az A q) k).2
    have:=(PW HD h.uq hA (MX h.uq q) (λz F=>VF h.uq h.id q (by omega) F) O).2 (by omega)
    subst this
    rw[J,AD,nH (by decide),ov (by omega)]
    simp
   | succ m T=>
    intro k o hk V
    have B:k<(Az A q).length:=by omega
    obtain⟨next,J,O⟩:=Um A h.len q (EL (Az A q) k).1 (EL (Az A q) k).2
    obtain⟨j,hj,rfl,X⟩:=(PW HD h.uq hA (MX h.uq q) (λz F=>VF h.uq h.id q (by omega) F) O).1 B
    rw[nM B] at X
    have e4:A[j]=(Az A q)[k]:=nh X
    have I:=nq B
    have C:=F9.1 I
    have hd:=h.rk _ C.1
    rw[C.2] at hd
    have Z:=h.top _ C.1
    rw[nu B,ow,n8,oG] at V
    rw[Bm (s':=((EL (Az A q) (k+1)).1,(EL (Az A q) (k+1)).2,(o++[(Az A q)[k]])++BC A n (Az A q)[k].Item)) (by
     show Fg A q _ (EL (Az A q) k).1 (EL (Az A q) k).2 o=_
     unfold Fg
     rw[J,AD,show nx (some j)=(j:Int) from rfl,nG (by simp),EH hj,AD,Ie (by simp;omega),AD,e4]
     show AB (DR n (o++[(Az A q)[k]]) A (Az A q)[k].Item) _=_
     rw[ih _ _ (by omega) (by rw[n8];simp;omega),AD]
     rw[bW B]),T (k+1) _ (by omega) (by simp only[n8,oG,p9];omega)]
    conv=>rhs;rw[nu B,ow]
    simp
  have h0:=loop (Az A q).length 0 out (by omega) (by rw[pQ];exact hl)
  rw[pQ] at h0
  have U:iter (λ(a:(List UInt8) × Int × (List AC))=>Fg A q (λw E l=>DR n w E l) a.1 a.2.1 a.2.2) ([],0,out)=some (.ext (out++(Az A q).flatMap λx=>x::BC A n x.Item)):=h0
  rw[U,Hb];rfl
end Go.Proofs.YtmogkkigacadpaaGreatDoor.Al

set_option linter.unusedVariables false
namespace Go.Proofs.YtmogkkigacadpaaGreatDoor.Al
open Go.Sort
theorem BS.trans{A}{a b y}(h:BS A b y)(g:BS A a b):BS A a y:=by
 induction h with
 | self=>exact g
 | step j _ l=>exact BS.step j l
theorem BS.rank{A}{d}(j:Rk A d){top y}(h:BS A top y):d top≤d y:=by
 induction h with
 | self=>exact nO _
 | step l _ m=>have:=j _ l;omega
theorem mh{A}(l:Uq A){a b y}(h:BS A a y)(g:BS A b y):BS A a b∨BS A b a:=by
 induction h with
 | self=>exact .inr g
 | @step x j m q=>
  rcases g.inv with e | ⟨z,w,e,g2⟩
  ·exact .inl (by rw[← e];exact BS.step j m)
  ·rw[l.eq w j e] at g2;exact q g2
theorem LT{A} : ∀(n:Nat) (q:Int) (z:AC),z∈BC A n q→z∈A∧BS A q z.Parent:=by
 intro n
 induction n with
 | zero=>intro q z h;cases h
 | succ n l=>
  intro q z h
  unfold BC at h
  obtain⟨x,m,j⟩:=qv.1 h
  obtain⟨hA,hp⟩:=F9.1 m
  rcases nn.1 j with rfl | j
  ·exact⟨hA,by rw[hp];exact BS.self⟩
  ·obtain⟨w,B⟩:=l _ _ j
   exact⟨w,B.trans (BS.step hA (by rw[hp];exact BS.self))⟩
theorem Te{A}{d}(C:Uq A)(m:Rk A d):∀(n:Nat) (q:Int),(BC A n q).Pairwise λa b=>a.Item≠b.Item:=by
 intro n
 induction n with
 | zero=>intro q;exact List.Pairwise.nil
 | succ n O=>
  intro q
  unfold BC
  rw[List.pairwise_flatMap]
  have hB:∀a∈Az A q,∀x∈a::BC A n a.Item,BS A a.Item x.Item:=λa j x E=>by
   rcases nn.1 E with rfl | E
   ·exact BS.self
   ·obtain⟨F,w⟩:=LT n _ _ E
    exact BS.step F w
  refine⟨λa j=>pY.2 ⟨λz T e=>?_,O _⟩,?_⟩
  ·obtain⟨F,w⟩:=LT n _ _ T
   have:=w.rank m
   have:=m z F
   rw[e] at *;omega
  ·have U:=MX C q
   have l:∀a∈Az A q,a∈A∧a.Parent=q:=λa j=>F9.1 j
   refine List.Pairwise.imp_of_mem (λ{a b} j B I x E y V e=>?_) U
   have F:=hB a j x E
   have w:=hB b B y V
   rw[← e] at w
   have J:a.Item≠b.Item:=λM=>by
    rw[C.eq (l a j).1 (l b B).1 M,HD.swo.irrefl] at I;cases I
   rcases mh C F w with g | g
   ·have g2:=(OJ C (l b B).1 (λM=>J M.symm)).1 g
    rw[(l b B).2] at g2
    have:=g2.rank m
    have:=m a (l a j).1
    rw[(l a j).2] at this
    omega
   ·have g2:=(OJ C (l a j).1 J).1 g
    rw[(l a j).2] at g2
    have:=g2.rank m
    have:=m b (l b B).1
    rw[(l b B).2] at this
    omega
theorem WN:∀(l A:List AC),(l.Pairwise λa b=>a.Item≠b.Item)→(∀z∈l,z∈A)→l.length≤A.length:=by
 intro l
 induction l with
 | nil=>intro A _ _;exact oo _
 | cons a r w=>
  intro A hp j
  rw[pY] at hp
  have m:=j a (nc ..)
  have:=w (A.erase a) hp.2 λz q=>(List.mem_erase_of_ne (λe=>hp.1 z q (by rw[e]))).2 (j z (nY _ q))
  rw[List.length_erase_of_mem m] at this
  have:0<A.length:=List.length_pos_of_mem m
  simp;omega
theorem Lf{A:List AC}{d}{M}(h:Fo A d M) n q:(BC A n q).length≤A.length:=
 WN _ _ (Te h.uq h.rk n q) λz j=>(LT n q z j).1
theorem SH{α:Type} m k(v:α) q:AU (Ai m k v) q=if q=k then some v else AU m q:=by
 induction m with
 | nil=>unfold Ai AU;rfl
 | cons p r w=>
  unfold Ai
  by_cases l:k=p.1
  ·rw[nH l]
   conv=>lhs;unfold AU
   conv=>rhs;unfold AU
   rw[← l]
   split<;>rfl
  ·rw[nG l]
   conv=>lhs;unfold AU
   conv=>rhs;unfold AU
   rw[w]
   by_cases j:q=p.1
   ·rw[nH j,nH j,nG (by rw[j];exact λe=>l e.symm)]
   ·rw[nG j,nG j]
def cS(p q:List UInt8):Int:=if Au p q then -1 else if !(Au p q||(p=q)) then 1 else 0
def Ov(a b:AC):Int:=if cS a.Place b.Place≠0 then cS a.Place b.Place else GO a.Item b.Item
theorem fN p q:Lu p q=some (cS p q):=by
 unfold Lu MO cS
 simp only[qj,pd,AD,o6,pj]
 split
 ·rfl
 ·split<;>rfl
theorem dc a b:JM a b=some (Ov a b):=by
 unfold JM Ov
 rw[fN,Oa,AD,AD,T8,AD]
theorem lK(a b:AC):Ms a b=some (GO a.Item b.Item):=by
 unfold Ms
 rw[Oa,AD]
theorem kv:ltOf Ov=GB:=by
 funext a b
 unfold ltOf
 rw[ns,nK,SY]
 unfold Ov cS GO
 by_cases j:Au a.Place b.Place=true
 ·simp[j]
 ·rw[ny] at j
  by_cases l:a.Place=b.Place
  ·simp only[j,l,IR,o6,pj,qj,Bool.or_true,pd,ne_eq,not_true_eq_false,false_or,qJ]
   split
   ·simp[*]
   ·split<;>omega
  ·simp[j,l]
theorem Y7:ltOf (λa b:AC=>GO a.Item b.Item)=Ee:=by
 funext a b
 unfold ltOf Ee GO
 rw[pX]
 show(if a.Item<b.Item then(-1:Int) else if b.Item<a.Item then 1 else 0)<0↔_
 split
 ·simp[*]
 ·split<;>omega
theorem Tv{lt}(j:GK lt){cmp}{l}(w:∀a b,cmp a b=some (l a b))(m:ltOf l=lt){xs:List AC}(A:Uq xs)(E:xs.length≤1048576) :
  Gn cmp xs=some (srt lt xs):=by
 refine YR ⟨by omega,l,w,by rw[m];exact j.swo,λa B b C q g2=>?_,Fb _ _,by rw[m];exact Oz j xs⟩
 rw[m] at q g2
 exact A.eq B C (j.tot a b q g2)
theorem WD{lt}(j:GK lt){xs ys:List AC}(m:Uq ys)(hp:xs.Perm ys):srt lt xs=srt lt ys:=by
 refine Rf j.swo _ _ (((Fb lt xs).trans hp).trans (Fb lt ys).symm) (λa q b w A g2=>?_) (Oz j xs) (Oz j ys)
 have l:∀z∈srt lt xs,z∈ys:=λz B=>hp.subset ((Fb lt xs).subset B)
 exact m.eq (l a q) (l b w) (j.tot a b A g2)
def DM(kids:List (Int × List AC))(q:Int):List AC:=(AU kids q).getD []
def IB(A:List AC)(kids:List (Int × List AC)):Prop:=∀q,(DM kids q).Perm (A.filter λz=>decide (z.Parent=q))
theorem PJ kids q v p:DM (Ai kids q v) p=if p=q then v else DM kids p:=by
 unfold DM
 rw[SH]
 split<;>rfl
theorem aA{A:List AC}(I:Uq A)(J:A.length≤1048576){kids}(m:IB A kids)(q:Int):∃w,I8 JM kids q=some w∧DM w q=Az A q∧IB A w∧∀p,DM kids p=Az A p→DM w p=Az A p:=by
 unfold I8
 cases B:AU kids q with
 | none=>
  have j:=m q
  unfold DM at j
  rw[B,qt] at j
  refine⟨kids,rfl,?_,m,λp h=>h⟩
  unfold DM Az
  rw[B,List.nil_perm.1 j]
  simp[srt]
 | some C=>
  have j:=m q
  unfold DM at j
  rw[B,oX] at j
  have E:Uq C:=(I.filter _).perm j
  have F:C.length≤1048576:=by rw[j.length_eq];exact nX (oT ..) J
  have l:srt GB C=Az A q:=WD HD (I.filter _) j
  simp only
  rw[Tv HD dc kv E F,oJ]
  refine⟨_,rfl,?_,λp=>?_,λp hp=>?_⟩
  ·rw[PJ,nH rfl,l]
  ·rw[PJ]
   split
   ·rename_i e;subst e
    exact(Fb _ _).trans j
   ·exact m p
  ·rw[PJ]
   split
   ·rename_i e;subst e;exact l
   ·exact hp
def Ca(m:List (Int × Bool))(i:Int):Bool:=(AU m i).getD false
theorem Mh m k i:Ca (Ai m k true) i=((i=k)||Ca m i):=by
 unfold Ca
 rw[SH]
 by_cases h:i=k<;>simp[h]
def Ba(l:List AC)(i:Int):Bool:=l.any λz=>decide (z.Item=i)
theorem TE l m i:Ba (l++m) i=(Ba l i||Ba m i):=by unfold Ba;rw[List.any_append]
theorem gj{A}{d}{M}(h:Fo A d M):∀(n:Nat) (q:Int) (kids:List (Int × List AC)) (out:List AC) (seen:List (Int × Bool)),M-d q<n→IB A kids→out.length+(BC A n q).length≤2097151 →
  ∃l F,DW n kids out seen q=some (l,out++BC A n q,F)∧IB A l∧(∀p,DM kids p=Az A p→DM l p=Az A p)∧∀i,Ca F i=(Ca seen i||Ba (BC A n q) i):=by
 intro n
 induction n with
 | zero=>intro q kids out seen hn;omega
 | succ n ih=>
  intro q kids out seen hn hK hl
  obtain⟨w,e1,e2,e3,e4⟩:=aA h.uq h.len hK q
  have a6:(Az A q).length≤1048576:=by
   unfold Az
   rw[(Fb _ _).length_eq];exact nX (oT ..) h.len
  have loop:∀m k o E O,k+m=(Az A q).length→IB A E→DM E q=Az A q→o.length+(((Az A q).drop k).flatMap λx=>x::BC A n x.Item).length≤2097151 →
    ∃B C,iter (λ(a:Int × (List AC) × (List (Int × (List AC))) × (List (Int × Bool)))=>Fj q (λU V m2 j=>DW n U V m2 j) w a.1 a.2.1 a.2.2.1 a.2.2.2) ((k:Int),o,E,O) =
     some (.ext (B,o++((Az A q).drop k).flatMap λx=>x::BC A n x.Item,C))∧IB A B∧(∀p,DM E p=Az A p→DM B p=Az A p)∧∀i,Ca C i=(Ca O i||Ba (((Az A q).drop k).flatMap λx=>x::BC A n x.Item) i):=by
   intro m
   induction m with
   | zero=>
    intro k o E O hk T hr ho
    refine⟨E,O,BL ?_,T,λp hp=>hp,λi=>?_⟩
    ·show Fj q _ w (k:Int) o E O=_
     unfold Fj
     rw[nG (by rw[show(AU w q).getD []=Az A q from e2];simp;omega),ov (by omega)]
     simp
    ·rw[ov (by omega)];simp[Ba]
   | succ m a0=>
    intro k o E O hk T hr ho
    have I:k<(Az A q).length:=by omega
    have X:=nq I
    have J:=F9.1 X
    have hd:=h.rk _ J.1
    rw[J.2] at hd
    have a2:=h.top _ J.1
    rw[nu I,ow,n8,oG] at ho
    obtain⟨k1,s1,f1,f2,f3,f4⟩:=ih (Az A q)[k].Item E (o++[(Az A q)[k]]) (Ai O (Az A q)[k].Item true) (by omega) T (by rw[n8];simp;omega)
    obtain⟨B,C,Z,g2,g3,g4⟩:=a0 (k+1) ((o++[(Az A q)[k]])++BC A n (Az A q)[k].Item) k1 s1 (by omega) f2 (f3 q hr) (by simp only[n8,oG,p9];omega)
    refine⟨B,C,?_,g2,λp hp=>g3 p (f3 p hp),λi=>?_⟩
    ·rw[Bm (s':=(((k+1:Nat):Int),(o++[(Az A q)[k]])++BC A n (Az A q)[k].Item,k1,s1)) (by
      show Fj q _ w (k:Int) o E O=_
      unfold Fj
      rw[nH (by rw[show(AU w q).getD []=Az A q from e2];simp;omega),show(AU E q).getD []=Az A q from hr,EH I,AD,Ie (by simp;omega),AD]
      show CN (DW n E (o++[(Az A q)[k]]) (Ai O (Az A q)[k].Item true) (Az A q)[k].Item) _=_
      rw[f1,GP,An (by omega),AD]),Z]
     conv=>rhs;rw[nu I,ow]
     simp
    ·rw[g4,f4,Mh,nu I,ow,TE]
     have:Ba ((Az A q)[k]::BC A n (Az A q)[k].Item) i=((i=(Az A q)[k].Item)||Ba (BC A n (Az A q)[k].Item) i):=by
      unfold Ba
      rw[pn]
      congr 1
      rw[pX];exact⟨λe=>e.symm,λe=>e.symm⟩
     rw[this]
     cases Ca O i<;>cases decide (i=(Az A q)[k].Item)<;>simp
  obtain⟨B,C,Z,g2,g3,g4⟩:=loop (Az A q).length 0 out w seen (by omega) e3 e2 (by rw[pQ];exact hl)
  rw[pQ] at Z g4
  refine⟨B,C,?_,g2,λp hp=>g3 p (e4 p hp),g4⟩
  show IM (λU V m2 j=>DW n U V m2 j) kids out seen q=_
  unfold IM
  rw[e1,AD]
  have a1:iter (λ(a:Int × (List AC) × (List (Int × (List AC))) × (List (Int × Bool)))=>Fj q (λU V m2 j=>DW n U V m2 j) w a.1 a.2.1 a.2.2.1 a.2.2.2) (0,out,w,seen)=_:=Z
  rw[a1,Hb];rfl
end Go.Proofs.YtmogkkigacadpaaGreatDoor.Al

set_option linter.unusedVariables false
set_option linter.unusedSimpArgs false
namespace Go.Proofs.YtmogkkigacadpaaGreatDoor.Al
open Go.Sort
def wa(attrs:List AC)(x:AC):AC:=⟨x.Item,x.Parent,x.Place,(AU (Cg attrs) x.Item).getD []⟩
theorem Yi{l:List At}(E:l.length≤1048576)(F:∀x∈l,E7 x=0):∀(m k:Nat) (j attrs:List AC),k+m=l.length→DI k j attrs→∃q w,DI l.length q w ∧
  iter (λ(a:Int × (List (Int × AC)) × (List (Int × (List AG))))=>Hr l a.1 a.2.1 a.2.2) ((k:Int),BQ j,Cg attrs)=some (BQ q,Cg w) ∧
  iter (λ(a:Int × (List AC) × (List AC))=>HT l a.1 a.2.1 a.2.2) ((k:Int),j,attrs)=some (q,w):=by
 intro m
 induction m with
 | zero=>
  intro k j attrs I h
  obtain rfl:k=l.length:=by omega
  refine⟨j,attrs,h,BL ?_,BL ?_⟩
  ·show Hr l (l.length:Int) _ _=_
   unfold Hr;rw[nG (by simp)]
  ·show HT l (l.length:Int) _ _=_
   unfold HT;rw[nG (by simp)]
 | succ m J=>
  intro k j attrs I h
  have A:k<l.length:=by omega
  obtain⟨B,C,M,O,T⟩:=bM h A E (F _ (Bv A))
  obtain⟨U,V,X,Z,h6⟩:=J (k+1) B C (by omega) M
  refine⟨U,V,X,?_,?_⟩
  ·rw[Bm (s':=(((k+1:Nat):Int),BQ B,Cg C)) O];exact Z
  ·rw[Bm (s':=(((k+1:Nat):Int),B,C)) T];exact h6
theorem YK{l attrs:List AC}(Z:l.length≤1048576)(h2:attrs.length≤1048576)(J:∀x∈l,x.Attrs=[]) :
  iter (λ(a:Int × (List AC))=>G8 l attrs a.1 a.2) (0,l)=some (l.map (wa attrs)):=by
 have key:∀m k,k+m=l.length→iter (λ(a:Int × (List AC))=>G8 l attrs a.1 a.2) ((k:Int),(l.take k).map (wa attrs)++l.drop k)=some (l.map (wa attrs)):=by
  intro m
  induction m with
  | zero=>
   intro k O
   refine BL ?_
   show G8 l attrs (k:Int) _=_
   unfold G8
   rw[nG (by simp;omega),ov (by omega),pL (by omega),ot]
  | succ m T=>
   intro k O
   have q:k<l.length:=by omega
   have B:((l.take k).map (wa attrs)).length=k:=by simp;omega
   have U:((l.take k).map (wa attrs)++l.drop k)[k]?=some l[k]:=by
    rw[nZ (by omega),B,qu,nz,oU,nM q]
   have F:∀y,((l.take k).map (wa attrs)++l.drop k).set k y=(l.take k).map (wa attrs)++(y::l.drop (k+1)):=λy=>by
    rw[qR _ _ (by omega),B,qu,nu q];rfl
   have w:(l.take (k+1)).map (wa attrs)++l.drop (k+1)=(l.take k).map (wa attrs)++(wa attrs l[k]::l.drop (k+1)):=by
    rw[Ha q,nW l k q,oz,oR];rfl
   have C:G8 l attrs (k:Int) ((l.take k).map (wa attrs)++l.drop k)=some (.inl (((k+1:Nat):Int),(l.take (k+1)).map (wa attrs)++l.drop (k+1))):=by
    unfold G8
    have I:AL ((l.take k).map (wa attrs)++l.drop k) (k:Int)=some l[k]:=by
     unfold AL;rw[nH (po k),oP,U]
    rw[nH (by simpa using q),I,AD,LX _ _ (by omega),AD,An (by omega)]
    unfold Hk
    have A:=Sq attrs l[k].Item
    cases E:Ah (BQ attrs) l[k].Item with
    | none=>
     rw[E] at A
     simp only
     rw[nG (by decide),AD,AD,w]
     have:wa attrs l[k]=l[k]:=by
      unfold wa
      rw[(ES A).1,qt,← J _ (nq q)]
     rw[this,nu q]
    | some j=>
     rw[E] at A
     obtain⟨M,ej⟩:=GY E
     obtain⟨v,v1,V,_⟩:=DE A
     have X:v=attrs[j].Attrs:=by
      unfold Cg at v1
      rw[nS,nM M] at v1
      simp at v1
      exact v1.2.symm
     simp only
     rw[nH (by simp),EH M]
     simp only[AD,oP]
     rw[F,w]
     unfold wa
     rw[V,oX,X]
   rw[Bm (s':=(((k+1:Nat):Int),(l.take (k+1)).map (wa attrs)++l.drop (k+1))) C]
   exact T (k+1) (by omega)
 have:=key l.length 0 (by omega)
 simpa using this
theorem Xq{l:List At}(w:l.length≤1048576)(A:∀x∈l,E7 x=0):∃j attrs,DI l.length j attrs∧KR l=some (BQ j,Cg attrs)∧KQ l=some (j.map (wa attrs),attrs):=by
 obtain⟨j,attrs,h,B,C⟩:=Yi w A l.length 0 [] [] (by omega) ⟨by unfold Uq;simp,by simp,by simp,⟨λ_=>0,λx E=>by cases E⟩,by simp,by unfold Uq;simp,by simp,by simp,by simp,by simp,by simp⟩
 refine⟨j,attrs,h,?_,?_⟩
 ·unfold KR
  have m:iter (λ(a:Int × (List (Int × AC)) × (List (Int × (List AG))))=>Hr l a.1 a.2.1 a.2.2) (0,[],[])=some (BQ j,Cg attrs):=B
  rw[m,BZ]
 ·unfold KQ
  have q:iter (λ(a:Int × (List AC) × (List AC))=>HT l a.1 a.2.1 a.2.2) (0,[],[])=some (j,attrs):=C
  rw[q,BZ,YK (by have:=h.li;omega) (by have:=h.la;omega) h.no,AD]
theorem jR(d:Int→Nat):∀A:List AC,∃M,∀x∈A,d x.Item≤M:=by
 intro A
 induction A with
 | nil=>exact⟨0,λx j=>by cases j⟩
 | cons a r l=>
  obtain⟨M,h⟩:=l
  refine⟨max M (d a.Item),λx j=>?_⟩
  rcases nn.1 j with rfl | j
  ·exact Nat.le_max_right ..
  ·exact nX (h x j) (Nat.le_max_left ..)
theorem DI.fo{n}{j attrs:List AC}(h:DI n j attrs)(w:n≤1048576):∃d M,Fo (j.map (wa attrs)) d M:=by
 obtain⟨d,hd⟩:=h.rk
 obtain⟨M,q⟩:=jR d (j.map (wa attrs))
 refine⟨d,M,?_,λx l=>?_,λx l=>?_,q,by have:=h.li;simp;omega⟩
 ·have:=h.uq
  unfold Uq at *
  rw[List.map_map];exact this
 ·obtain⟨y,m,rfl⟩:=oA.1 l;exact h.id y m
 ·obtain⟨y,m,rfl⟩:=oA.1 l;exact hd y m
theorem QF{α:Type}{N:Nat→Option α}(mono:∀n r,N n=some r→N (n+1)=some r){j:Nat}{l:α}(h:N j=some l) :
  @dite _ (∃n r,N n=some r) (Classical.propDecidable _) (λh=>N h.choose) (λ_=>none)=some l:=by
 have m:∃n r,N n=some r:=⟨j,l,h⟩
 rw[pr m]
 obtain⟨C,w⟩:=m.choose_spec
 have up:∀k n r,N n=some r→N (n+k)=some r:=by
  intro k
  induction k with
  | zero=>intro n r h;exact h
  | succ k A=>intro n r h;exact mono _ _ (A n r h)
 have B:=up j _ _ w
 have q:=up m.choose _ _ h
 rw[Nat.add_comm] at q
 rw[B] at q
 rw[w];exact q
theorem Ir{σ β:Type}{f g:σ→Option (σ ⊕ β)}(h:∀s v,f s=some v→g s=some v){s:σ}{r:β}(m:iter f s=some r):iter g s=some r:=by
 obtain⟨n,j⟩:=KN.1 m
 refine KN.2 ⟨n,?_⟩
 clear m
 induction n generalizing s with
 | zero=>exact j
 | succ n q=>
  unfold EC at j ⊢
  cases l:f s with
  | none=>rw[l] at j;cases j
  | some v=>
   rw[l] at j
   rw[h s v l]
   cases v with
   | inl w=>exact q j
   | inr b=>exact j
theorem XV n:∀(m:List (Int × List AC)) (A:List AC) (m2:List (Int × Bool)) (q:Int) r,DW n m A m2 q=some r→DW (n+1) m A m2 q=some r:=by
 induction n with
 | zero=>intro m A m2 q r h;cases h
 | succ n O=>
  intro m A m2 q r h
  change IM (λm A m2 j=>DW n m A m2 j) m A m2 q=some r at h
  show IM (λm A m2 j=>DW (n+1) m A m2 j) m A m2 q=some r
  unfold IM at h ⊢
  cases I:I8 JM m q with
  | none=>rw[I] at h;cases h
  | some w=>
   rw[I,AD] at h
   rw[AD]
   cases C:iter (λ(a:Int × (List AC) × (List (Int × (List AC))) × (List (Int × Bool)))=>Fj q (λm A m2 j=>DW n m A m2 j) w a.1 a.2.1 a.2.2.1 a.2.2.2) (0,A,w,m2) with
   | none=>rw[C] at h;cases h
   | some v=>
    rw[C] at h
    rw[Ir (g:=λ(a:Int × (List AC) × (List (Int × (List AC))) × (List (Int × Bool)))=>Fj q (λm A m2 j=>DW (n+1) m A m2 j) w a.1 a.2.1 a.2.2.1 a.2.2.2) (λs v B=>?_) C]
    ·exact h
    ·unfold Fj at B ⊢
     split at B
     ·rename_i E
      rw[nH E]
      cases J:AL ((AU s.2.2.1 q).getD []) s.1 with
      | none=>rw[J] at B;cases B
      | some x=>
       rw[J,AD] at B
       rw[AD]
       cases M:app 56 s.2.1 [x] with
       | none=>rw[M] at B;cases B
       | some l=>
        rw[M,AD] at B
        rw[AD]
        change CN (DW n s.2.2.1 l (Ai s.2.2.2 x.Item true) x.Item) _=_ at B
        show CN (DW (n+1) s.2.2.1 l (Ai s.2.2.2 x.Item true) x.Item) _=_
        cases F:DW n s.2.2.1 l (Ai s.2.2.2 x.Item true) x.Item with
        | none=>rw[F] at B;cases B
        | some t=>rw[F] at B;rw[O _ _ _ _ _ F];exact B
     ·rename_i E
      rw[nG E];exact B
theorem lw n:∀(o l:List AC) (q:Int) r,DR n o l q=some r→DR (n+1) o l q=some r:=by
 induction n with
 | zero=>intro o l q r h;cases h
 | succ n T=>
  intro o l q r h
  change IE (λm A j=>DR n m A j) o l q=some r at h
  show IE (λm A j=>DR (n+1) m A j) o l q=some r
  unfold IE at h ⊢
  cases B:iter (λ(a:(List UInt8) × Int × (List AC))=>Fg l q (λm A j=>DR n m A j) a.1 a.2.1 a.2.2) ([],0,o) with
  | none=>rw[B] at h;cases h
  | some v=>
   rw[B] at h
   rw[Ir (g:=λ(a:(List UInt8) × Int × (List AC))=>Fg l q (λm A j=>DR (n+1) m A j) a.1 a.2.1 a.2.2) (λs v w=>?_) B]
   ·exact h
   ·unfold Fg at w ⊢
    cases J:iter (λ(a:Int × Int)=>G9 l q s.1 s.2.1 a.1 a.2) ((-1),0) with
    | none=>rw[J] at w;cases w
    | some C=>
     rw[J,AD] at w
     rw[AD]
     split at w
     ·rename_i E;rw[nH E];exact w
     ·rename_i E
      rw[nG E]
      cases M:AL l C with
      | none=>rw[M] at w;cases w
      | some x=>
       rw[M,AD] at w
       rw[AD]
       cases O:app 56 s.2.2 [x] with
       | none=>rw[O] at w;cases w
       | some F=>
        rw[O,AD] at w
        rw[AD]
        change AB (DR n F l x.Item) _=_ at w
        show AB (DR (n+1) F l x.Item) _=_
        cases I:DR n F l x.Item with
        | none=>rw[I] at w;cases w
        | some t=>rw[I] at w;rw[T _ _ _ _ I];exact w
theorem dI{A}{d}{M}(h:Fo A d M):MS [] A 0=some (BC A (M+1) 0):=by
 have j:=lS h (M+1) 0 [] (by omega) (by have:=Lf h (M+1) 0;have:=h.len;simp;omega)
 rw[oV] at j
 unfold MS
 exact QF (N:=λn=>DR n [] A 0) (λn r=>lw n [] A 0 r) j
theorem kH{A}{d}{M}(h:Fo A d M){kids}(m:IB A kids):∃j s',MW kids [] [] 0=some (j,BC A (M+1) 0,s')∧∀i,Ca s' i=Ba (BC A (M+1) 0) i:=by
 obtain⟨j,s',l,_,_,q⟩:=gj h (M+1) 0 kids [] [] (by omega) m (by have:=Lf h (M+1) 0;have:=h.len;simp;omega)
 rw[oV] at l
 refine⟨j,s',?_,λi=>by rw[q];simp[Ca,AU]⟩
 unfold MW
 exact QF (N:=λn=>DW n kids [] [] 0) (λn r=>XV n kids [] [] 0 r) l
end Go.Proofs.YtmogkkigacadpaaGreatDoor.Al

set_option linter.unusedVariables false
set_option linter.unusedSimpArgs false
namespace Go.Proofs.YtmogkkigacadpaaGreatDoor.Al
open Go.Sort
theorem d9{α:Type}{m:List (Int × α)}{k}{v0}(h:AU m k=some v0)(v:α):(Ai m k v).map (·.1)=m.map (·.1):=by
 induction m with
 | nil=>cases h
 | cons p r l=>
  unfold Ai
  by_cases j:k=p.1
  ·rw[nH j];simp[j]
  ·rw[nG j]
   unfold AU at h
   rw[nG j] at h
   rw[nk,nk,l h]
theorem Rj{l}(w:Uq l){x:AC}(m:x∈l):AU (BQ l) x.Item=some x:=by
 rw[UY]
 cases h:Ah (BQ l) x.Item with
 | none=>exact absurd rfl (JX h x m)
 | some j=>
  obtain⟨q,e⟩:=GY h
  rw[oH,nM q,w.eq (nq q) m e]
def Jk(j attrs:List AC)(k:Int):AC:=((AU (BQ j) k).map (wa attrs)).getD default
structure RJ(items attrs:List AC)(p:List Int)(st:(List AC) × (List (Int × AC)) × (List (Int × (List AC)))):Prop where
 all:st.1=p.map (Jk items attrs)
 keys:st.2.1.map (·.1)=items.map (·.Item)
 here:∀x∈items,∃a,AU st.2.1 x.Item=some ⟨x.Item,x.Parent,x.Place,a⟩
 kids:∀q,DM st.2.2 q=(p.map (Jk items attrs)).filter λz=>decide (z.Parent=q)
abbrev N0:(List AC) × (List (Int × AC)) × (List (Int × (List AC)))→List Int:=λa=>a.2.1.map (·.1)
theorem g8{j attrs:List AC}(F:Uq j)(hl:j.length≤1048576):∀(r p:List Int) l,RJ j attrs p l→(∀k∈r,k∈j.map (·.Item))→p.length+r.length≤1048576 →
  ∃st',Eb (I3 N0 (j.map (·.Item)) (λa w=>Ga (Cg attrs) a.1 a.2.1 a.2.2 w)) r l=some st'∧RJ j attrs (p++r) st':=by
 intro r
 induction r with
 | nil=>intro p l h _ _;exact⟨l,rfl,by rw[ot];exact h⟩
 | cons k r U=>
  intro p l h I A
  obtain⟨x,B,rfl⟩:=oA.1 (I k (nc ..))
  obtain⟨a,J⟩:=h.here x B
  have C:(⟨x.Item,x.Parent,x.Place,(AU (Cg attrs) x.Item).getD []⟩:AC)=wa attrs x:=rfl
  have M:Jk j attrs x.Item=wa attrs x:=by unfold Jk;rw[Rj F B];rfl
  have O:(DM l.2.2 x.Parent).length≤1048576:=by
   rw[h.kids];refine nX (oT ..) ?_;rw[ni];simp at A;omega
  have V:Ga (Cg attrs) l.1 l.2.1 l.2.2 x.Item=some (l.1++[wa attrs x],Ai l.2.1 x.Item (wa attrs x),Ai l.2.2 x.Parent (DM l.2.2 x.Parent++[wa attrs x])):=by
   unfold Ga
   rw[J,AD]
   show AB (app 56 (DM l.2.2 x.Parent) [wa attrs x]) _=_
   rw[Ie (by simp;omega),AD]
   show AB (app 56 l.1 [wa attrs x]) _=_
   rw[Ie (by rw[h.all];simp at A ⊢;omega),AD]
   rfl
  have m:(Ai l.2.1 x.Item (wa attrs x)).map (·.1)=j.map (·.Item):=by rw[d9 J];exact h.keys
  obtain⟨st',X,T⟩:=U (p++[x.Item]) (l.1++[wa attrs x],Ai l.2.1 x.Item (wa attrs x),Ai l.2.2 x.Parent (DM l.2.2 x.Parent++[wa attrs x])) ⟨by rw[oz,qm,M,← h.all],m,λy C=>by
    show ∃a,AU (Ai l.2.1 x.Item (wa attrs x)) y.Item=_
    rw[SH]
    split
    ·rename_i e
     rw[F.eq C B e];exact⟨_,rfl⟩
    ·exact h.here y C,λq=>by
    show DM (Ai l.2.2 x.Parent _) q=_
    rw[PJ,oz,List.filter_append,qm,M]
    by_cases E:q=x.Parent
    ·subst E
     have e:[wa attrs x].filter (λz=>decide (z.Parent=x.Parent))=[wa attrs x]:=by simp[wa]
     rw[nH rfl,h.kids,e]
    ·have e:[wa attrs x].filter (λz=>decide (z.Parent=q))=[]:=by simp[wa];exact λe=>E e.symm
     rw[nG E,h.kids,e,ot]⟩ (λk Z=>I k (nY _ Z)) (by simp at A ⊢;omega)
  refine⟨st',?_,by rw[oR] at T;exact T⟩
  show(I3 N0 (j.map (·.Item)) (λa w=>Ga (Cg attrs) a.1 a.2.1 a.2.2 w) l x.Item).bind _=some st'
  have hs:I3 N0 (j.map (·.Item)) (λa w=>Ga (Cg attrs) a.1 a.2.1 a.2.2 w) l x.Item=some (l.1++[wa attrs x],Ai l.2.1 x.Item (wa attrs x),Ai l.2.2 x.Parent (DM l.2.2 x.Parent++[wa attrs x])):=by
   unfold I3
   simp only
   rw[V,oH,nH (by exact m)]
  rw[hs,oH]
  exact X
def Bc(A:List AC)(j:List AC):List AC:=(srt Ee A).filter λz=>!Ba j z.Item
theorem Zg l m(A:∀i,Ca l i=Ba m i)(j:List AC)(C:j.length≤1048576)(o:List AC)(E:o.length≤1048576) :
  iter (λ(a:Int × (List AC))=>HW l j a.1 a.2) (0,o)=some (o++j.filter λz=>!Ba m z.Item):=
 FH (f:=λ(a:Int × (List AC))=>HW l j a.1 a.2) j (λc k=>((k:Int),c)) (λr c=>c++r.filter λz=>!Ba m z.Item) (λk c=>c.length≤1048576+k)
  (λk c w B=>by
   left
   show ∃F,HW l j (k:Int) c=_∧_
   unfold HW
   rw[nH (by simpa using w),Ac w,AD,An (by omega),show(AU l j[k]!.Item).getD false=Ba m j[k]!.Item from A _]
   by_cases q:Ba m j[k]!.Item=true
   ·refine⟨c,by rw[q];rfl,by omega,?_⟩
    rw[oh,q];rfl
   ·rw[ny] at q
    refine⟨c++[j[k]!],by rw[q,nH (by decide),Ie (by simp;omega)];rfl,by simp;omega,?_⟩
    rw[oh,q];simp)
  (λc B=>by
   show HW l j (j.length:Int) c=_
   unfold HW
   rw[nG (by simp)];simp) o (by omega) _ rfl
theorem hZ{l:List At}{j attrs:List AC}(hm:l.length≤1048576)(h:DI l.length j attrs)(hp:KR l=some (BQ j,Cg attrs)){d}{M}(hF:Fo (j.map (wa attrs)) d M) :
  MR l=some (BC (j.map (wa attrs)) (M+1) 0++Bc (j.map (wa attrs)) (BC (j.map (wa attrs)) (M+1) 0)):=by
 unfold MR
 rw[hp,BZ]
 have A:N0 ([],BQ j,[])=j.map (·.Item):=by
  show(BQ j).map (·.1)=_
  unfold BQ;rw[List.map_map];rfl
 refine cH (key:=N0) (F:=λa T=>Ga (Cg attrs) a.1 a.2.1 a.2.2 T) ⟨by rw[A];exact h.uq,λks w=>?_⟩
 rw[A] at w ⊢
 have U:=h.li
 have V:ks.length=j.length:=by rw[w.length_eq,ni]
 obtain⟨E,X,C⟩:=g8 (attrs:=attrs) h.uq (by omega) ks [] ([],BQ j,[]) ⟨rfl,A,λx F=>⟨x.Attrs,Rj h.uq F⟩,λq=>rfl⟩ (λk Z=>w.subset Z) (by simp;omega)
 rw[X,oH]
 rw[oV] at C
 have m:E.1.Perm (j.map (wa attrs)):=by
  rw[C.all]
  have I:=w.map (Jk j attrs)
  rw[List.map_map] at I
  refine I.trans (List.Perm.of_eq (List.map_congr_left λx F=>?_))
  show Jk j attrs x.Item=_
  unfold Jk;rw[Rj h.uq F];rfl
 have hK:IB (j.map (wa attrs)) E.2.2:=λq=>by
  rw[C.kids,← C.all];exact m.filter _
 obtain⟨k',s',J,w2⟩:=kH hF hK
 obtain⟨O,m3,m4⟩:=E
 simp only at m J ⊢
 rw[GP,J,GP,Tv Jj lK Y7 (hF.uq.perm m) (by rw[m.length_eq];exact hF.len),AD,WD Jj hF.uq m]
 have B:(srt Ee (j.map (wa attrs))).length≤1048576:=by rw[(Fb _ _).length_eq];exact hF.len
 rw[Zg s' _ w2 _ B _ (nX (Lf hF _ _) hF.len),AD]
 rfl
def J0(c:List AC)(k:Nat):Int:=match k with | 0=>0 | k+1=>c[k]!.Item
theorem ZC l i:decide (Hk l i<0)=!Ba l i:=by
 unfold Hk
 cases h:Ah (BQ l) i with
 | none=>
  have m:=JX h
  have:Ba l i=false:=by
   unfold Ba
   rw[List.any_eq_false]
   intro x q;simpa using m x q
  rw[this];rfl
 | some j=>
  obtain⟨w,e⟩:=GY h
  have:Ba l i=true:=by
   unfold Ba
   rw[pA]
   exact⟨_,nq w,by simpa using e⟩
  rw[this];simp
def JN(j:List AC)(last:Int)(z:AC):Bool:=(last<z.Item)&&!Ba j z.Item
theorem Uj(A l out:List AC)(J:A.length≤1048576)(hw:l.length≤1048576)(m:out.take l.length=l)(E:l.length≤out.length) last:∃next,iter (λ(a:Int × Int)=>Ig A l last out a.1 a.2) ((-1),0)=some (nx next) ∧
  (match next with | none=>∀z∈A,JN l last z=false | some j=>∃w:j<A.length,JN l last A[j]=true∧∀z∈A,JN l last z=true→Ee z A[j]=false):=by
 have q:C0 out 0 (l.length:Int)=some l:=by
  unfold C0
  rw[nH ⟨by omega,by omega,by omega⟩]
  simp[m]
 refine Wf Jj (λk next B F=>?_) (λnext=>?_)
 ·show Ig A l last out (nx next) (k:Int)=_
  unfold Ig
  rw[nH (by simpa using B),Ac B,AD,An (by omega),q]
  unfold Me JN
  generalize A[k]! = x
  by_cases C:last<x.Item
  ·rw[nJ C,show((true==true)=true) from rfl,Aq,AD,Aq,LX _ _ (by omega),AD,ZC]
   cases M:Ba l x.Item
   ·cases next with
    | none=>simp[nx,Ci]
    | some j=>
     have w:=F j rfl
     have I:decide (nx (some j)<0)=false:=by unfold nx;simp
     rw[I,show nx (some j)=(j:Int) from rfl,Ac w]
     simp only[pP,qH,nt,oN,Aq,AD,oS,qJ]
     generalize A[j]! = y
     rw[show Ee x y=decide (x.Item<y.Item) from rfl]
     split<;>rfl
   ·cases next<;>simp[Ci]
  ·rw[nI C]
   cases next<;>simp[Ci]
 ·show Ig A l last out (nx next) (A.length:Int)=_
  unfold Ig
  rw[nG (by simp)]
theorem QK{A}(j:Uq A)(l:List AC):(Bc A l).Pairwise λa b=>Ee a b=true:=(WA Jj j).filter _
theorem Is{A j}{z:AC} : z∈Bc A j↔z∈A∧Ba j z.Item=false:=by
 unfold Bc
 rw[o5,(Fb _ _).mem_iff]
 simp
theorem Vu{A}(E:Uq A)(BG:∀x∈A,1≤x.Item)(j:List AC){k}(F:k≤(Bc A j).length){z:AC}(q:z∈A):JN j (J0 (Bc A j) k) z=true↔z∈(Bc A j).drop k:=by
 have B:∀i:Int,JN j i z=true↔i<z.Item∧Ba j z.Item=false:=λi=>by unfold JN;simp
 cases k with
 | zero=>
  rw[pQ,Is,B]
  show(0<z.Item∧_)↔_
  constructor
  ·rintro⟨_,h⟩;exact⟨q,h⟩
  ·rintro⟨_,h⟩;exact⟨by have:=BG z q;omega,h⟩
 | succ k=>
  rw[B]
  show((Bc A j)[k]!.Item<z.Item∧_)↔_
  rw[nW (Bc A j) k (by omega)]
  have hd:=λw=>Ql Jj (QK E j) (show k<(Bc A j).length by omega) (z:=z) w
  constructor
  ·rintro⟨l,m⟩
   exact(hd (Is.2 ⟨q,m⟩)).1 (by unfold Ee;simpa using l)
  ·intro l
   have m:=qX l
   have C:=(hd m).2 l
   unfold Ee at C
   exact⟨by simpa using C,(Is.1 m).2⟩
theorem iV{A:List AC}(w:Uq A)(BG:∀x∈A,1≤x.Item)(C:A.length≤1048576)(l:List AC)(I:l.length≤1048576):∀m k,k+m=(Bc A l).length →
  iter (λ(a:Int × (List AC))=>Hm A l a.1 a.2) (J0 (Bc A l) k,l++(Bc A l).take k)=some (.ext (l++Bc A l,(l.length:Int))):=by
 intro m
 have hA:∀z∈Bc A l,z∈A:=λz B=>(Is.1 B).1
 have M:(Bc A l).length≤1048576:=by
  unfold Bc
  refine nX (oT ..) ?_
  rw[(Fb _ _).length_eq];exact C
 induction m with
 | zero=>
  intro k O
  refine BL ?_
  show Hm A l (J0 (Bc A l) k) (l++(Bc A l).take k)=_
  unfold Hm
  obtain⟨next,E,F⟩:=Uj A l (l++(Bc A l).take k) C I (by simp) (by simp) (J0 (Bc A l) k)
  have:=(PW Jj w hA (QK w l) (λz B=>Vu w BG l (by omega) B) F).2 (by omega)
  subst this
  rw[E,AD,nH (by decide),pL (by omega)]
 | succ m T=>
  intro k O
  have q:k<(Bc A l).length:=by omega
  obtain⟨next,E,F⟩:=Uj A l (l++(Bc A l).take k) C I (by simp) (by simp) (J0 (Bc A l) k)
  obtain⟨j,U,rfl,J⟩:=(PW Jj w hA (QK w l) (λz B=>Vu w BG l (by omega) B) F).1 q
  rw[nM q] at J
  have V:A[j]=(Bc A l)[k]:=nh J
  rw[Bm (s':=(J0 (Bc A l) (k+1),l++(Bc A l).take (k+1))) (by
   show Hm A l (J0 (Bc A l) k) (l++(Bc A l).take k)=_
   unfold Hm
   rw[E,AD,show nx (some j)=(j:Int) from rfl,nG (by simp),EH U,AD,Ie (by simp;omega),AD,V]
   show some (Sum.inl ((Bc A l)[k].Item,_))=some (Sum.inl ((Bc A l)[k]!.Item,_))
   rw[nW (Bc A l) k q,Ha q,nW (Bc A l) k q,oR])]
  exact T (k+1) (by omega)
theorem dq{l}{j attrs:List AC}(hp:KQ l=some (j.map (wa attrs),attrs)){d}{M}(hF:Fo (j.map (wa attrs)) d M) :
  JF l=some (BC (j.map (wa attrs)) (M+1) 0++Bc (j.map (wa attrs)) (BC (j.map (wa attrs)) (M+1) 0),((BC (j.map (wa attrs)) (M+1) 0).length:Int)):=by
 unfold JF
 rw[hp,BZ,dI hF,AD]
 have h:=iV hF.uq hF.id hF.len (BC (j.map (wa attrs)) (M+1) 0) (nX (Lf hF _ _) hF.len) _ 0 (by rw[np])
 rw[List.take_zero,ot] at h
 have m:iter (λ(a:Int × (List AC))=>Hm (j.map (wa attrs)) (BC (j.map (wa attrs)) (M+1) 0) a.1 a.2) (0,BC (j.map (wa attrs)) (M+1) 0)=_:=h
 rw[m,Hb]
end Go.Proofs.YtmogkkigacadpaaGreatDoor.Al

set_option linter.unusedVariables false
set_option linter.unusedSimpArgs false
namespace Go.Proofs.YtmogkkigacadpaaGreatDoor.Al
open Go.Sort
def EU:(Int→Bool)→List AC→Prop
 | _,[]=>True
 | S,z::r=>S z.Parent=true∧EU (λi=>S i||(z.Item=i)) r
theorem EU.mono:∀ {l:List AC} {S T:Int→Bool},EU S l→(∀i,S i=true→T i=true)→EU T l
 | [],_,_,_,_=>trivial
 | z::r,S,T,h,j=>⟨j _ h.1,EU.mono h.2 λi m=>by
   simp only[nT] at m ⊢
   exact m.imp (j i) _root_.id⟩
theorem W4:∀ {l m:List AC} {S:Int→Bool},EU S l→EU (λi=>S i||Ba l i) m→EU S (l++m)
 | [],m,S,_,q=>q.mono λi j=>by simpa[Ba] using j
 | z::r,m,S,w,q=>⟨w.1,W4 w.2 (q.mono λi j=>by
   simp only[Ba,pn,nT,nK] at j ⊢
   rcases j with h | h | h
   ·exact .inl (.inl h)
   ·exact .inl (.inr h)
   ·exact .inr h)⟩
theorem Y3{A} : ∀(n:Nat) (q:Int) (S:Int→Bool),S q=true→EU S (BC A n q):=by
 intro n
 induction n with
 | zero=>intro q S _;trivial
 | succ n w=>
  intro q S j
  show EU S ((Az A q).flatMap λx=>x::BC A n x.Item)
  have l:∀x∈Az A q,x.Parent=q:=λx B=>(F9.1 B).2
  revert l j
  generalize Az A q=c
  induction c generalizing S with
  | nil=>intro _ _;trivial
  | cons x r m=>
   intro j l
   rw[ow]
   refine W4 ⟨by rw[l x (nc ..)];exact j,w _ _ (by simp)⟩ (m _ (by simp[j]) λy C=>l y (nY _ C))
theorem EU.at:∀ {l:List AC} {S:Int→Bool},EU S l→∀k (j:k<l.length),(S l[k].Parent||Ba (l.take k) l[k].Parent)=true
 | z::r,S,h,0,_=>by rw[List.getElem_cons_zero,h.1];rfl
 | z::r,S,h,k+1,j=>by
  have:=EU.at h.2 k (by simpa using j)
  rw[List.getElem_cons_succ,List.take_succ_cons]
  simp only[Ba,pn,nT,nK] at this ⊢
  rcases this with (h | h) | h
  ·exact .inl h
  ·exact .inr (.inl h)
  ·exact .inr (.inr h)
theorem Yy{A}{d}{M}(h:Fo A d M):∀(n:Nat) (q:Int),M-d q<n→∀z∈A,(z.Parent=q∨Ba (BC A n q) z.Parent=true)→z∈BC A n q:=by
 intro n
 induction n with
 | zero=>intro q E;omega
 | succ n F=>
  intro q E z B hp
  unfold BC
  rw[qv]
  rcases hp with hp | hp
  ·exact⟨z,F9.2 ⟨B,hp⟩,nc ..⟩
  ·unfold Ba BC at hp
   rw[pA] at hp
   obtain⟨y,I,m⟩:=hp
   obtain⟨x,C,j⟩:=qv.1 I
   obtain⟨l,w⟩:=F9.1 C
   have hd:=h.rk x l
   rw[w] at hd
   have J:=h.top x l
   refine⟨x,C,nY _ (F x.Item (by omega) z B ?_)⟩
   rcases nn.1 j with rfl | j
   ·exact .inl (by simp at m;exact m.symm)
   ·refine .inr ?_
    unfold Ba
    rw[pA]
    exact⟨y,j,m⟩
theorem Yw{A:List AC}{d:Int→Nat}{M:Nat}(h:Fo A d M):Lv (BC A (M+1) 0++Bc A (BC A (M+1) 0))=some ((BC A (M+1) 0).length:Int):=by
 have hlo:(Bc A (BC A (M+1) 0)).length≤1048576:=by
  unfold Bc
  refine nX (oT ..) ?_
  rw[(Fb _ _).length_eq];exact h.len
 have hlp:=nX (Lf h (M+1) 0) h.len
 have hok:=Y3 (A:=A) (M+1) 0 (λi=>decide (i=0)) (by simp)
 have hout:∀z∈Bc A (BC A (M+1) 0),((z.Parent=0)||Ba (BC A (M+1) 0) z.Parent)=false:=λz hz=>by
  obtain⟨hzA,hzn⟩:=Is.1 hz
  cases hb:((z.Parent=0)||Ba (BC A (M+1) 0) z.Parent)
  ·rfl
  ·have:=Yy h (M+1) 0 (by omega) z hzA (by simpa using hb)
   have h2:Ba (BC A (M+1) 0) z.Item=true:=by
    unfold Ba;rw[pA];exact⟨z,this,by simp⟩
   rw[hzn] at h2;cases h2
 generalize BC A (M+1) 0=p at *
 generalize Bc A p=o at *
 have key:=Ht (f:=λ(a:Int × (List (Int × Bool)))=>IG (p++o) a.1 a.2) (p++o).length (λk s=>s.1=(k:Int)∧k≤p.length∧∀i,Ca s.2 i=((i=0)||Ba (p.take k) i))
  (λb=>Aw (some b) (λ(_:Unit)=>some ((p++o).length:Int))=some (p.length:Int))
  (λk s hk hs=>by
   obtain⟨x,m⟩:=s
   obtain⟨rfl,hkp,hsn⟩:=hs
   have hkl:k<(p++o).length:=hk
   have hlen:(p++o).length≤2097152:=by simp;omega
   have hstep:IG (p++o) (k:Int) m=if(!(((p++o)[k].Parent=0)||Ba (p.take k) (p++o)[k].Parent))=true then some (.inr (.ext (k:Int))) else some (.inl (((k+1:Nat):Int),Ai m (p++o)[k].Item true)):=by
    unfold IG
    rw[nH (by rw[nK];exact_mod_cast hkl),EH hkl,AD,show(AU m (p++o)[k].Parent).getD false=_ from hsn _,An (by omega),AD]
   by_cases hkp2:k<p.length
   ·left
    have hget:(p++o)[k]=p[k]:=List.getElem_append_left hkp2
    have h1:=hok.at k hkp2
    rw[hget] at hstep
    rw[h1] at hstep
    refine⟨(((k+1:Nat):Int),Ai m p[k].Item true),by exact hstep,rfl,by omega,λi=>?_⟩
    show Ca (Ai m p[k].Item true) i=_
    rw[Mh,show Ca m i=_ from hsn i,Ha hkp2,nW p k hkp2,TE]
    have:Ba [p[k]] i=decide (i=p[k].Item):=by
     unfold Ba;simp only[pn,List.any_nil,qn]
     rw[pX];exact⟨λe=>e.symm,λe=>e.symm⟩
    rw[this]
    cases decide (i=p[k].Item)<;>cases decide (i=0)<;>simp
   ·right
    obtain rfl:k=p.length:=by omega
    have hget:(p++o)[p.length]∈o:=by
     rw[List.getElem_append_right (nO _)];exact nq _
    have h1:=hout _ hget
    rw[List.take_length,h1] at hstep
    exact⟨_,hstep,rfl⟩)
  (λs hs=>by
   obtain⟨x,m⟩:=s
   obtain⟨rfl,hkp,hsn⟩:=hs
   refine⟨.nrm (),?_,?_⟩
   ·show IG (p++o) ((p++o).length:Int) m=_
    unfold IG
    rw[nG (by simp)]
   ·rw[R2]
    have:(p++o).length=p.length:=by rw[n8] at hkp ⊢;omega
    rw[this])
  (s:=(0,Ai ([]:List (Int × Bool)) 0 true)) ⟨rfl,oo _,λi=>by rw[Mh];simp[Ca,AU,Ba]⟩
 obtain⟨b,h1,h2⟩:=key
 unfold Lv
 rw[h1];exact h2
theorem gK{l:List At}(h:Pd l=0):∀x∈l,E7 x=0:=by
 intro x A
 obtain⟨k,w,rfl⟩:=oL.1 A
 unfold Pd at h
 cases q:(List.range l.length).findSome? (LA l) with
 | none=>
  rw[oq] at q
  have:=q k (nm.2 w)
  unfold LA at this
  rw[nW l k w] at this
  by_cases e:E7 l[k]=0
  ·exact e
  ·rw[nH e] at this;cases this
 | some r=>
  rw[q] at h
  simp only[oX] at h
  obtain⟨j,_,m⟩:=oO q
  unfold LA at m
  split at m
  ·rename_i e;cases m;exact absurd h e
  ·split at m
   ·cases m;exact absurd h (by decide)
   ·cases m
theorem jY{μ}(h:∀x,x.Place.length+x.Name.length+x.Value.length+1≤μ x):∀(l:List At),(l.map μ).sum≤1048576→Il l∧l.length≤1048576:=by
 have key:∀l:List At,l.length≤(l.map μ).sum∧∀x∈l,μ x≤(l.map μ).sum:=by
  intro l
  induction l with
  | nil=>exact⟨nO _,λx j=>by simp at j⟩
  | cons y l m=>
   have w:=h y
   rw[nk,ox,oG]
   refine⟨by omega,λx j=>?_⟩
   rcases nn.1 j with rfl | j
   ·omega
   ·have:=m.2 x j;omega
 intro l A
 obtain⟨B,q⟩:=key l
 refine⟨λx j=>?_,by omega⟩
 have C:=q x j
 have E:=h x
 exact⟨by omega,by omega,by omega⟩
end Go.Proofs.YtmogkkigacadpaaGreatDoor.Al

set_option linter.unusedVariables false
set_option linter.unusedSimpArgs false
namespace Go.Proofs.YtmogkkigacadpaaGreatDoor.Al
def CS(f:List AS):List Int:=(f.filter λx=>!(x.Ref=0)).map (·.Ref)
def Eg(l:List Ak):List Int:=(l.filter λx=>!(x.Ref=0)).map (·.Ref)
theorem Ot(x:AS) r:CS (x::r)=(if x.Ref=0 then [] else [x.Ref])++CS r:=by
 unfold CS
 rw[oh]
 by_cases h:x.Ref=0<;>simp[h]
theorem WV(x:Ak) r:Eg (x::r)=(if x.Ref=0 then [] else [x.Ref])++Eg r:=by
 unfold Eg
 rw[oh]
 by_cases h:x.Ref=0<;>simp[h]
theorem Td(f:List AS)(q:f.length≤1073741824):iter (λ(a:Int × (List Int))=>E4 f a.1 a.2) (0,[])=some (CS f):=by
 have h:=FH (f:=λ(a:Int × (List Int))=>E4 f a.1 a.2) f (λ(c:List Int) i=>((i:Int),c)) (λr c=>c++CS r) (λi c=>c.length≤i)
  (λi c l m=>by
   left
   show ∃w,E4 f (i:Int) c=_∧_
   unfold E4
   rw[nH (by simpa using l),Ac l,AD,An (by omega)]
   by_cases j:f[i]!.Ref=0
   ·refine⟨c,by rw[nJ j];rfl,by omega,?_⟩
    rw[Ot,nH j,oV]
   ·refine⟨c++[f[i]!.Ref],by rw[nI j,nH (by decide),LY (by omega)];rfl,by simp;omega,?_⟩
    rw[Ot,nG j,oR])
  (λc m=>by
   show E4 f (f.length:Int) c=_
   unfold E4
   rw[nG (by simp)]
   simp[CS]) [] (by simp) ((0:Int),[]) rfl
 simpa using h
theorem iH(f:List AS)(j:f.length≤1073741824):HH f=some (CS f):=by
 unfold HH
 rw[Td f j,AD]
theorem Z4(n:AK)(l:n.Flow.length≤1073741824)(hc:n.Grid.Cells.length≤1073741824):GT n=some (CS n.Flow++Eg n.Grid.Cells):=by
 have w:(CS n.Flow).length≤1073741824:=by
  unfold CS;rw[ni];exact nX (oT ..) l
 unfold GT JA
 rw[V9,Td _ l,AD,AD]
 have h:=FH (f:=λ(a:Int × (List Int))=>Dn n a.1 a.2) n.Grid.Cells (λ(c:List Int) i=>((i:Int),c)) (λr c=>c++Eg r) (λi c=>c.length≤1073741824+i)
  (λi c m hc=>by
   left
   show ∃A,Dn n (i:Int) c=_∧_
   unfold Dn
   rw[nH (by simpa using m),Ac m,AD,An (by omega)]
   by_cases j:n.Grid.Cells[i]!.Ref=0
   ·refine⟨c,by rw[nJ j];rfl,by omega,?_⟩
    rw[WV,nH j,oV]
   ·refine⟨c++[n.Grid.Cells[i]!.Ref],by rw[nI j,nH (by decide),LY (by omega)];rfl,by simp;omega,?_⟩
    rw[WV,nG j,oR])
  (λc hc=>by
   show Dn n (n.Grid.Cells.length:Int) c=_
   unfold Dn
   rw[nG (by simp)]
   simp[Eg]) (CS n.Flow) (by omega) ((0:Int),CS n.Flow) rfl
 have q:iter (λ(a:Int × (List Int))=>Dn n a.1 a.2) (0,CS n.Flow)=_:=h
 rw[q]
 rfl
theorem Q8{n:Nat}{f:Int→Option (Int ⊕ Ar Unit Int)}{g:Nat→Option Int}(h:iter f 0=some (DD ((List.range n).findSome? g)))(hg:∀k,k<n→g k≠some 0){rest:Option Int}(j:(Aw (iter f 0) λ(_:Unit)=>rest)=some 0):(∀k,k<n→g k=none)∧rest=some 0:=by
 rw[h] at j
 cases l:(List.range n).findSome? g with
 | some e=>
  rw[l] at j
  have j:(some e:Option Int)=some 0:=j
  injection j with j
  obtain⟨k,q,m⟩:=oO l
  rw[j] at m
  exact absurd m (hg k (nm.1 q))
 | none=>
  rw[l] at j
  refine⟨λk q=>?_,j⟩
  rw[oq] at l
  exact l k (nm.2 q)
theorem ku{d:AM}{kind:Int}{l:List Int}(B:d.Nodes.length≤1048576)(C:Gw d.Nodes)(J:l.length≤2097152)(A:FN d kind l=some 0):∀id∈l,∃k,CF d.Nodes id=some k:=by
 let g:Nat→Option Int:=λk=>match CF d.Nodes l[k]! with | none=>some 7 | some j=>if JW kind d.Nodes[j]!.Kind=true then none else some 8
 have hit:iter (λ(a:Int)=>Du d kind l a) 0=some (DD ((List.range l.length).findSome? g)):=by
  refine Bo g (λk m=>?_) (by unfold Du;rw[nG (by simp)])
  unfold Du
  obtain⟨i,E,w⟩:=PI d l[k]! B C
  rw[nH (by simpa using m),Ac m,AD,E,BZ]
  simp only[g]
  cases q:CF d.Nodes l[k]! with
  | none=>rfl
  | some j=>
   obtain rfl:=w j q
   obtain⟨F,_⟩:=FV q
   simp only[Option.isSome_some,pd,o6,pj]
   rw[Ac F,AD,Ve,AD]
   cases JW kind d.Nodes[i]!.Kind with
   | false=>rfl
   | true=>rw[nG (by decide),An (by omega)];rfl
 unfold FN at A
 obtain⟨I,_⟩:=Q8 hit (λk m e=>by
  simp only[g] at e
  split at e
  ·cases e
  ·split at e<;>cases e) A
 intro id BG
 obtain⟨k,m,rfl⟩:=oL.1 BG
 have:=I k m
 simp only[g] at this
 rw[nW l k m] at this
 cases q:CF d.Nodes l[k] with
 | none=>rw[q] at this;cases this
 | some j=>exact⟨j,rfl⟩
theorem Q9(n:AK)(h:GV n):(CS n.Flow++Eg n.Grid.Cells).length≤2097152:=by
 have j:=h.ok.fl
 have l:=h.ok.gr.1
 have m:(CS n.Flow).length≤n.Flow.length:=by unfold CS;rw[ni];exact oT ..
 have q:(Eg n.Grid.Cells).length≤n.Grid.Cells.length:=by unfold Eg;rw[ni];exact oT ..
 rw[n8];omega
theorem XP{d:AM}(h:Fa d)(w:DX d=some 0):∀k,k<d.Nodes.length→∀id∈CS d.Nodes[k]!.Flow++Eg d.Nodes[k]!.Grid.Cells,∃j,CF d.Nodes id=some j:=by
 obtain⟨I,_⟩:=Jw h w
 obtain⟨J,M⟩:=h
 unfold DX at w
 split at w
 ·cases w
 let C:Nat→Option Int:=λk=>if(Cr d.Nodes[k]!).getD 0≠0 then some ((Cr d.Nodes[k]!).getD 0) else if(k=0∧d.Nodes[k]!.ID≠1)∨(0<k∧d.Nodes[k]!.ID≤d.Nodes[k-1]!.ID) then some 5 else none
 have E:iter (λ(a:Int)=>Cq d a) 0=some (DD ((List.range d.Nodes.length).findSome? C)):=by
  refine Bo C (λk q=>?_) (by unfold Cq;rw[nG (by simp)])
  unfold Cq
  obtain⟨e,A,_⟩:=P9 _ (M _ (Bv q))
  show _=B2 k (C k)
  simp only[C]
  rw[nH (by simpa using q),Ac q,AD,A,AD]
  show _=B2 k (if e≠0 then some e else _)
  by_cases l:e=0
  ·rw[nG (Cw l),nG (by simpa using l)]
   by_cases T:k=0
   ·subst T
    rw[nJ (show((0:Nat):Int)=0 from rfl),nI (show ¬ (0:Int)<((0:Nat):Int) by omega)]
    by_cases BG:d.Nodes[0]!.ID=1
    ·rw[nJ BG,nG (show ¬ ((0=0∧d.Nodes[0]!.ID≠1)∨(0<0∧d.Nodes[0]!.ID≤d.Nodes[0-1]!.ID)) by rintro(⟨_,b⟩ | ⟨a,_⟩);exact b BG;omega)]
     rfl
    ·rw[nI BG,nH (show((0=0∧d.Nodes[0]!.ID≠1)∨(0<0∧d.Nodes[0]!.ID≤d.Nodes[0-1]!.ID)) from .inl ⟨rfl,BG⟩)]
     rfl
   ·have U:0<k:=by omega
    rw[nI (show ¬ ((k:Int)=0) by omega),nJ (show(0:Int)<(k:Int) by omega)]
    show(AB (gd true (AR .i64 ((k:Int)-1))) λ(O:Int)=>AB (gd true (AL d.Nodes O)) λ(V:AK)=>_)=_
    rw[Aq,Ej U (by omega),AD,Aq,Ac (show k-1<d.Nodes.length by omega),AD,An (by omega)]
    by_cases BG:d.Nodes[k]!.ID≤d.Nodes[k-1]!.ID
    ·rw[nJ BG,nH (show((k=0∧d.Nodes[k]!.ID≠1)∨(0<k∧d.Nodes[k]!.ID≤d.Nodes[k-1]!.ID)) from .inr ⟨U,BG⟩)]
     rfl
    ·rw[nI BG,nG (show ¬ ((k=0∧d.Nodes[k]!.ID≠1)∨(0<k∧d.Nodes[k]!.ID≤d.Nodes[k-1]!.ID)) by rintro(⟨a,_⟩ | ⟨_,b⟩);exact T a;exact BG b)]
     rfl
  ·rw[nH (B8 l),nH l]
   rfl
 obtain⟨_,w⟩:=Q8 E (λk q e=>by
  simp only[C] at e
  split at e
  ·rename_i B;injection e with e;exact B e
  ·split at e
   ·injection e with e;omega
   ·cases e) w
 let g:Nat→Option Int:=λk=>if(FN d d.Nodes[k]!.Kind (CS d.Nodes[k]!.Flow++Eg d.Nodes[k]!.Grid.Cells)).getD 0≠0 then some ((FN d d.Nodes[k]!.Kind (CS d.Nodes[k]!.Flow++Eg d.Nodes[k]!.Grid.Cells)).getD 0) else none
 have hit:iter (λ(a:Int)=>Dq d a) 0=some (DD ((List.range d.Nodes.length).findSome? g)):=by
  refine Bo g (λk q=>?_) (by unfold Dq;rw[nG (by simp)])
  unfold Dq
  have m:=M _ (Bv q)
  have X:=m.ok.fl
  have Z:=m.ok.gr.1
  obtain⟨e,A,_⟩:=Qp d d.Nodes[k]!.Kind _ J I (Q9 _ m)
  rw[nH (by simpa using q),Ac q,AD,Z4 _ (by omega) (by omega),AD,A,AD]
  simp only[g]
  rw[A]
  simp only[oX]
  by_cases l:e=0
  ·rw[nG (Cw l),An (by omega),nG (by simpa using l)];rfl
  ·rw[nH (B8 l),nH l];rfl
 obtain⟨h1,_⟩:=Q8 hit (λk q e=>by
  simp only[g] at e
  split at e
  ·rename_i B;injection e with e;exact B e
  ·cases e) w
 intro k q id BG
 have m:=M _ (Bv q)
 obtain⟨e,A,_⟩:=Qp d d.Nodes[k]!.Kind _ J I (Q9 _ m)
 have F:=h1 k q
 simp only[g] at F
 rw[A] at F
 simp only[oX] at F
 split at F
 ·cases F
 ·rename_i l
  have l:e=0:=by simpa using l
  subst l
  exact ku J I (Q9 _ m) A id BG
end Go.Proofs.YtmogkkigacadpaaGreatDoor.Al

set_option linter.unusedVariables false
set_option linter.unusedSimpArgs false
namespace Go.Proofs.YtmogkkigacadpaaGreatDoor.Al
open Go.Sort
end Go.Proofs.YtmogkkigacadpaaGreatDoor.Al

set_option linter.unusedVariables false
set_option linter.unusedSimpArgs false
namespace Go.Proofs.YtmogkkigacadpaaGreatDoor.Al
open Go.Sort
end Go.Proofs.YtmogkkigacadpaaGreatDoor.Al

set_option linter.unusedVariables false
set_option linter.unusedSimpArgs false
namespace Go.Proofs.YtmogkkigacadpaaGreatDoor.Al
open Go.Sort
end Go.Proofs.YtmogkkigacadpaaGreatDoor.Al

set_option linter.unusedVariables false
set_option linter.unusedSimpArgs false
namespace Go.Proofs.YtmogkkigacadpaaGreatDoor.Al
open Go.Sort
end Go.Proofs.YtmogkkigacadpaaGreatDoor.Al

set_option linter.unusedVariables false
set_option linter.unusedSimpArgs false
namespace Go.Proofs.YtmogkkigacadpaaGreatDoor.Al
open Go.Sort
end Go.Proofs.YtmogkkigacadpaaGreatDoor.Al

set_option linter.unusedVariables false
set_option linter.unusedSimpArgs false
namespace Go.Proofs.YtmogkkigacadpaaGreatDoor.Al
open Go.Sort
end Go.Proofs.YtmogkkigacadpaaGreatDoor.Al

set_option linter.unusedVariables false
set_option linter.unusedSimpArgs false
namespace Go.Proofs.YtmogkkigacadpaaGreatDoor.Al
open Go.Sort
end Go.Proofs.YtmogkkigacadpaaGreatDoor.Al

set_option linter.unusedVariables false
set_option linter.unusedSimpArgs false
namespace Go.Proofs.YtmogkkigacadpaaGreatDoor.Al
open Go.Sort
end Go.Proofs.YtmogkkigacadpaaGreatDoor.Al

set_option linter.unusedVariables false
set_option linter.unusedSimpArgs false
namespace Go.Proofs.YtmogkkigacadpaaGreatDoor.Al
open Go.Sort
end Go.Proofs.YtmogkkigacadpaaGreatDoor.Al

set_option linter.unusedVariables false
set_option linter.unusedSimpArgs false
namespace Go.Proofs.YtmogkkigacadpaaGreatDoor.Al
open Go.Sort
end Go.Proofs.YtmogkkigacadpaaGreatDoor.Al

set_option linter.unusedVariables false
set_option linter.unusedSimpArgs false
namespace Go.Proofs.YtmogkkigacadpaaGreatDoor.Al
open Go.Sort
end Go.Proofs.YtmogkkigacadpaaGreatDoor.Al

set_option linter.unusedVariables false
set_option linter.unusedSimpArgs false
namespace Go.Proofs.YtmogkkigacadpaaGreatDoor.Al
open Go.Sort
end Go.Proofs.YtmogkkigacadpaaGreatDoor.Al

set_option linter.unusedVariables false
set_option linter.unusedSimpArgs false
namespace Go.Proofs.YtmogkkigacadpaaGreatDoor.Al
open Go.Sort
end Go.Proofs.YtmogkkigacadpaaGreatDoor.Al

namespace Go.Proofs.YtmogkkigacadpaaGreatDoor.Al
end Go.Proofs.YtmogkkigacadpaaGreatDoor.Al

set_option linter.unusedVariables false
set_option linter.unusedSimpArgs false
namespace Go.Proofs.YtmogkkigacadpaaGreatDoor.Al
open Go.Sort
end Go.Proofs.YtmogkkigacadpaaGreatDoor.Al

set_option linter.unusedVariables false
set_option linter.unusedSimpArgs false
namespace Go.Proofs.YtmogkkigacadpaaGreatDoor.Al
open Go.Sort
end Go.Proofs.YtmogkkigacadpaaGreatDoor.Al

set_option linter.unusedVariables false
set_option linter.unusedSimpArgs false
namespace Go.Proofs.YtmogkkigacadpaaGreatDoor.Al
open Go.Sort
end Go.Proofs.YtmogkkigacadpaaGreatDoor.Al

set_option linter.unusedVariables false
set_option linter.unusedSimpArgs false
namespace Go.Proofs.YtmogkkigacadpaaGreatDoor.Al
open Go.Sort
end Go.Proofs.YtmogkkigacadpaaGreatDoor.Al

set_option linter.unusedVariables false
set_option linter.unusedSimpArgs false
namespace Go.Proofs.YtmogkkigacadpaaGreatDoor.Al
open Go.Sort
end Go.Proofs.YtmogkkigacadpaaGreatDoor.Al

set_option linter.unusedVariables false
set_option linter.unusedSimpArgs false
namespace Go.Proofs.YtmogkkigacadpaaGreatDoor.Al
open Go.Sort
theorem WM{l}{i} : Ba l i=true↔∃x∈l,x.Item=i:=by
 unfold Ba
 rw[pA]
 simp
end Go.Proofs.YtmogkkigacadpaaGreatDoor.Al

set_option linter.unusedVariables false
set_option linter.unusedSimpArgs false
namespace Go.Proofs.YtmogkkigacadpaaGreatDoor.Al
open Go.Sort
end Go.Proofs.YtmogkkigacadpaaGreatDoor.Al

set_option linter.unusedVariables false
set_option linter.unusedSimpArgs false
namespace Go.Proofs.YtmogkkigacadpaaGreatDoor.Al
open Go.Sort
theorem iJ{A}{d}{M}(h:Fo A d M):(∀z,z∈BC A (M+1) 0++Bc A (BC A (M+1) 0)↔z∈A)∧Uq (BC A (M+1) 0++Bc A (BC A (M+1) 0)):=by
 have q:∀z,z∈BC A (M+1) 0++Bc A (BC A (M+1) 0)→z∈A:=λz j=>by
  rcases oe.1 j with j | j
  ·exact(LT _ _ _ j).1
  ·exact(Is.1 j).1
 refine⟨λz=>⟨q z,λj=>?_⟩,?_⟩
 ·rw[oe,Is]
  by_cases l:Ba (BC A (M+1) 0) z.Item=true
  ·obtain⟨y,m,e⟩:=WM.1 l
   left
   rw[← h.uq.eq (LT _ _ _ m).1 j e];exact m
  ·exact .inr ⟨j,by simpa using l⟩
 ·unfold Uq
  rw[pf,pq,List.pairwise_append]
  refine⟨Te h.uq h.rk _ _,(QK h.uq _).imp λh=>by unfold Ee at h;simp at h;omega,λa w b B e=>?_⟩
  have:=(Is.1 B).2
  have C:Ba (BC A (M+1) 0) b.Item=true:=WM.2 ⟨a,w,e⟩
  rw[C] at this;cases this
theorem km{A:List AC}{d}{M}(h:Fo A d M):(BC A (M+1) 0++Bc A (BC A (M+1) 0)).length≤A.length:=by
 obtain⟨l,j⟩:=iJ h
 refine WN _ _ ?_ λz m=>(l z).1 m
 unfold Uq at j
 rwa [pf,pq] at j
end Go.Proofs.YtmogkkigacadpaaGreatDoor.Al

set_option linter.unusedVariables false
set_option linter.unusedSimpArgs false
namespace Go.Proofs.YtmogkkigacadpaaGreatDoor.Al
theorem MJ{c r}(h:gd c (some false)=some r):r=false:=by
 cases c
 ·rw[Ci] at h;cases h;rfl
 ·rw[Aq] at h;cases h;rfl
theorem lP{n:AK}(h:GV n)(M:Il n.Draw)(j:Cr n=some 0):Pd n.Draw=0:=by
 have O:=h.ok.dr
 unfold Cr at j
 split at j
 ·cases j
 split at j
 ·cases j
 obtain⟨e,_,j⟩:=BT j
 split at j
 ·rename_i c;injection j with j;rw[j] at c;simp at c
 by_cases m:n.Kind=8∨n.Kind=9∨n.Kind=10
 ·have T:Fv n.Kind=some false:=by unfold Fv;rcases m with e | e | e<;>rw[e]<;>rfl
  have U:GH n.Kind=some false:=by unfold GH;rcases m with e | e | e<;>rw[e]<;>rfl
  have hg:FG n.Kind=some false:=by unfold FG;rcases m with e | e | e<;>rw[e]<;>rfl
  obtain⟨V,A,j⟩:=BT j
  rw[T] at A;cases A
  obtain⟨X,B,j⟩:=BT j
  rw[U] at B
  obtain rfl:=MJ B
  obtain⟨g,C,j⟩:=BT j
  rw[hg] at C;cases C
  obtain⟨F,_,j⟩:=BT j
  split at j
  ·cases j
  rw[nG (show ¬ (false||false)=true by decide),nG (by decide)] at j
  obtain⟨Z,I,j⟩:=BT j
  injection j with j
  rw[lQ _ M (by omega),j] at I
  injection I
 ·have hd:Fx n.Kind=some false:=by
   unfold Fx
   rw[nI (λe=>m (.inl e)),nI (λe=>m (.inr (.inl e))),nI (λe=>m (.inr (.inr e)))]
   rfl
  obtain⟨V,A,j⟩:=BT j
  obtain⟨X,B,j⟩:=BT j
  obtain⟨g,C,j⟩:=BT j
  obtain⟨F,l,j⟩:=BT j
  rw[hd] at l
  split at j
  ·cases j
  rename_i E
  have E:F=false:=by simpa using E
  subst E
  have q:decide (0<(n.Draw.length:Int))=false:=by
   split at l
   ·split at l
    ·obtain⟨r7,_,l⟩:=BT l
     obtain⟨J,w,l⟩:=BT l
     obtain rfl:=MJ w
     simp only[nQ,o9,pP,nt] at l
     exact l.2
    ·obtain⟨J,w,l⟩:=BT l
     obtain rfl:=MJ w
     simp only[nQ,o9,pP,nt] at l
     exact l.2
   ·obtain⟨J,w,l⟩:=BT l
    obtain rfl:=MJ w
    simp only[nQ,o9,pP,nt] at l
    exact l.2
  have:n.Draw=[]:=by
   rw[oQ] at q
   exact pF.1 (by omega)
  rw[this];rfl
theorem gk{n:AK}(h:GV n)(j:Cr n=some 0):n.Grid.Cells=[]∨Ge n.Grid=0:=by
 unfold Cr at j
 split at j
 ·cases j
 split at j
 ·cases j
 obtain⟨e,_,j⟩:=BT j
 split at j
 ·rename_i c;injection j with j;rw[j] at c;simp at c
 by_cases m:n.Kind=2∨n.Kind=6
 ·right
  have F:Fv n.Kind=some false:=by unfold Fv;rcases m with e | e<;>rw[e]<;>rfl
  have I:GH n.Kind=some false:=by unfold GH;rcases m with e | e<;>rw[e]<;>rfl
  have hg:FG n.Kind=some true:=by unfold FG;rcases m with e | e<;>rw[e]<;>rfl
  obtain⟨J,w,j⟩:=BT j
  rw[F] at w;cases w
  obtain⟨M,A,j⟩:=BT j
  rw[I] at A
  obtain rfl:=MJ A
  obtain⟨g,q,j⟩:=BT j
  rw[hg] at q;cases q
  obtain⟨C,_,j⟩:=BT j
  split at j
  ·cases j
  rw[nG (show ¬ (false||false)=true by decide),nH rfl] at j
  obtain⟨O,E,j⟩:=BT j
  split at j
  ·rename_i c;injection j with j;rw[j] at c;simp at c
  ·rename_i c
   have T:O=0:=by simpa using c
   rw[UE _ h.gd,T] at E
   injection E
 ·left
  have hg:FG n.Kind=some false:=by
   unfold FG
   rw[nI (λe=>m (.inl e)),nI (λe=>m (.inr e))]
   rfl
  obtain⟨J,w,j⟩:=BT j
  obtain⟨M,A,j⟩:=BT j
  obtain⟨g,q,j⟩:=BT j
  rw[hg] at q;cases q
  obtain⟨C,l,j⟩:=BT j
  split at j
  ·cases j
  rename_i B
  have B:C=false:=by simpa using B
  subst B
  split at l
  ·rw[nH (by decide),P5 _ _ h.ok.gr] at l
   obtain⟨r7,U,l⟩:=BT l
   obtain⟨V,X,l⟩:=BT l
   cases U
   simp only[nQ,o9,pP,nt,Bool.not_eq_false',nK] at l
   rw[l.1.2]
  ·rename_i Z
   obtain⟨V,X,l⟩:=BT l
   simp only[nQ,o9,qn] at l
   exfalso
   apply Z
   rw[l.1]
   rfl
theorem jm{g:Av}(h:Ge g=0):∀c∈g.Cells,c.Row≤9223372036854775807∧c.Col≤9223372036854775807:=by
 obtain⟨A,_,_⟩:=Vg h
 unfold Ge at h
 rw[nG (by simpa using A)] at h
 have E:Im g.Rows g.Cols false g.Cells=0:=by
  apply ne
  intro B
  rw[nH B] at h
  exact B h
 intro c F
 obtain⟨k,C,rfl⟩:=oL.1 F
 have m:=Sw E (λk _ j=>by
  unfold HB at j
  split at j
  ·rename_i q
   injection j with j
   exact q j
  ·split at j
   ·cases j
   ·cases j) k C
 unfold HB at m
 split at m
 ·cases m
 ·rename_i l
  have l:Kh g.Rows g.Cols false g.Cells[k]! = 0:=by simpa using l
  rw[nW g.Cells k C] at l
  unfold Kh at l
  split at l
  ·cases l
  ·rename_i w
   have w:=nl.1 w
   unfold Gv at w
   unfold ER at A
   omega
theorem RI{n:AK}(h:GV n)(q:Cr n=some 0):∀c∈n.Grid.Cells,∃r,Fd n.Grid c.Row c.Col=some r∧MP n.Grid c.Row c.Col=some r:=by
 intro c l
 rcases gk h q with j | j
 ·rw[j] at l;cases l
 ·obtain⟨w,_,g3⟩:=Vg j
  have m:c.Row≤9223372036854775807∧c.Col≤9223372036854775807:=jm j c l
  obtain⟨o,A,o2⟩:=jV n.Grid c.Row c.Col w g3 h.ok.gr.2.1 m.1 m.2
  unfold Fd MP
  rw[A,o2]
  cases o with
  | none=>exact⟨_,rfl,rfl⟩
  | some r=>exact⟨_,rfl,rfl⟩
end Go.Proofs.YtmogkkigacadpaaGreatDoor.Al

set_option linter.unusedVariables false
set_option linter.unusedSimpArgs false
namespace Go.Proofs.YtmogkkigacadpaaGreatDoor.Al
open Go
def Hn:List UInt8:=[110,111,100,101]
def If(d:AM)(s:List UInt8):Option Int:=match CF d.Nodes (Dv s) with | some k=>if d.Nodes[k]!.Kind=1 then some (Dv s) else none | none=>none
def D7(d:AM)(x:AC):Option Int:=If d (E8 x.Attrs Hn)
def N6(d:AM):Prop:=∀k,k<d.Nodes.length→1≤d.Nodes[k]!.ID∧d.Nodes[k]!.ID≤1073741824
theorem O5{d:AM}(h:N6 d){id}{k}(j:CF d.Nodes id=some k):1≤id∧id≤1073741824:=by
 obtain⟨l,m⟩:=FV j
 rw[← m];exact h k l
theorem ll{l}(h:Bz l false=0) n:(E8 l n).length≤1073741824:=by
 rw[gF]
 cases m:Ay l n with
 | none=>simp
 | some x=>
  have:=((NH l false).1 h).2 x (Om m).2
  rcases this.2 with j | j
  ·unfold DO at j
   simp only[nR,nK] at j
   show x.Value.length≤_
   omega
  ·exact absurd j.1 (by decide)
theorem Yn{d:AM}(BG:N6 d)(hm:d.Nodes.length≤1048576)(hs:Gw d.Nodes){l:List AC}{k:Nat}(hk:k<l.length)(hl:l.length≤1048576)(ha:Bz l[k]!.Attrs false=0∧l[k]!.Attrs.length≤1048576)(out:List Int)(ho:out.length≤1048576) :
  HP d l (k:Int) out=some (.inl (((k+1:Nat):Int),out++(D7 d l[k]!).toList)):=by
 unfold HP
 rw[nH (by simpa using hk),Ac hk,AD,An (by omega),Z1 _ _ (by omega),AD]
 unfold D7
 rw[show([110,111,100,101]:List UInt8)=Hn from rfl]
 have hlen:=ll ha.1 Hn
 generalize E8 l[k]!.Attrs Hn=s at *
 have hd:∀n,Dv s=n→∀j,CF d.Nodes n=some j→Lib.atoiAll s=.ok n∧Lib.itoa n=s:=λn hn j hj=>by
  obtain⟨h1,h2⟩:=O5 BG hj
  exact(Wg s n h1 h2).2 hn
 have hnone:(∀j,CF d.Nodes (Dv s)=some j→False)→If d s=none:=λh=>by
  unfold If
  cases hf:CF d.Nodes (Dv s) with
  | none=>rfl
  | some j=>exact(h j hf).elim
 unfold Ps atoiS
 rw[nH (by omega)]
 rcases hA:Lib.atoiAll s with v | _ | _
 ·have hb:=Lib.atoiAll_bounds hA
  simp only[BZ]
  unfold strconv_Itoa itoaS
  rw[nH hb]
  simp only[pd,show((false==false)=true) from rfl,Aq,AD,oS]
  by_cases hi:Lib.itoa v=s
  ·rw[nJ hi,nG (by decide)]
   obtain⟨i,f1,f2⟩:=PI d v hm hs
   rw[f1,BZ]
   cases hf:CF d.Nodes v with
   | none=>
    have e:=hnone λj hj=>by
     have h1:=(hd _ rfl j hj).1
     rw[hA] at h1
     injection h1 with h1
     rw[← h1,hf] at hj;cases hj
    rw[e]
    simp[Ci,AD]
   | some j=>
    obtain rfl:=f2 j hf
    obtain⟨hj,_⟩:=FV hf
    obtain⟨r1,r2⟩:=O5 BG hf
    have hn:=(Wg s v r1 r2).1 ⟨hA,hi⟩
    unfold If
    rw[hn,hf]
    simp only[Option.isSome_some,oN,Aq,nt]
    rw[Ac hj,AD]
    by_cases hk1:d.Nodes[i]!.Kind=1
    ·rw[nH (by simpa using hk1),nH hk1,LY (by omega)]
     rfl
    ·rw[nG (by simpa using hk1),nG hk1]
     simp[AD]
  ·rw[nI hi,nH (by decide)]
   have e:=hnone λj hj=>by
    obtain⟨h1,h2⟩:=hd _ rfl j hj
    rw[hA] at h1
    injection h1 with h1
    rw[← h1] at h2
    exact hi h2
   rw[e]
   simp[AD]
 ·have e:=hnone λj hj=>by have:=(hd _ rfl j hj).1;rw[hA] at this;cases this
  rw[e]
  simp[BZ,AD,Ci]
 ·have e:=hnone λj hj=>by have:=(hd _ rfl j hj).1;rw[hA] at this;cases this
  rw[e]
  simp[BZ,AD,Ci]
theorem Y2{d:AM}(BG:N6 d)(m:d.Nodes.length≤1048576)(q:Gw d.Nodes)(l:List AC)(w:l.length≤1048576)(A:∀x∈l,Bz x.Attrs false=0∧x.Attrs.length≤1048576) :
  iter (λ(a:Int × (List Int))=>HP d l a.1 a.2) (0,[])=some (l.filterMap (D7 d)):=by
 have h:=FH (f:=λ(a:Int × (List Int))=>HP d l a.1 a.2) l (λ(c:List Int) i=>((i:Int),c)) (λr c=>c++r.filterMap (D7 d)) (λi c=>c.length≤i)
  (λi c j B=>by
   left
   refine⟨c++(D7 d l[i]!).toList,Yn BG m q j w (A _ (Bv j)) c (by omega),?_,?_⟩
   ·rw[n8]
    have:(D7 d l[i]!).toList.length≤1:=by cases D7 d l[i]!<;>simp
    omega
   ·rw[qi]
    cases D7 d l[i]!<;>simp)
  (λc B=>by
   show HP d l (l.length:Int) c=_
   unfold HP
   rw[nG (by simp)]
   simp) [] (by simp) ((0:Int),[]) rfl
 simpa using h
theorem SN{d:AM}(BG:N6 d)(V:d.Nodes.length≤1048576)(Z:Gw d.Nodes){n:AK}(h:GV n)(hD:Il n.Draw)(h0:Cr n=some 0) :
  ∃L X:List AC,Ey d n=some (L.filterMap (D7 d))∧JF n.Draw=some (L++X,(L.length:Int))∧(L++X).length≤1048576∧∀x∈L,Bz x.Attrs false=0∧x.Attrs.length≤1048576:=by
 have A:=h.ok.dr
 have ho:=gK (lP h hD h0)
 obtain⟨m,l,E,F,I⟩:=Xq A ho
 obtain⟨e,M,B⟩:=E.fo A
 have C:=hZ A E F B
 have J:=Yw B
 have hit:=dq I B
 have a0:=nX (Lf B (M+1) 0) B.len
 have q:∀x∈BC (m.map (wa l)) (M+1) 0,Bz x.Attrs false=0∧x.Attrs.length≤1048576:=λx hx=>by
  obtain⟨y,hy,rfl⟩:=oA.1 (LT _ _ _ hx).1
  have h1:(wa l y).Attrs=(AU (Cg l) y.Item).getD []:=rfl
  rw[h1]
  cases T:Ah (Cg l) y.Item with
  | none=>rw[(ES T).1];exact⟨RW,by simp⟩
  | some j=>
   obtain⟨v,v1,v2,_⟩:=DE T
   rw[v2,oX]
   unfold Cg at v1
   rw[nS,nV] at v1
   obtain⟨z,z1,U⟩:=v1
   simp only[nU] at U
   rw[← U.2]
   have:=E.ok z (nd z1)
   exact⟨this.1,by omega⟩
 have w:(BC (m.map (wa l)) (M+1) 0++Bc (m.map (wa l)) (BC (m.map (wa l)) (M+1) 0)).length≤1048576:=by
  refine nX (km B) ?_
  exact B.len
 generalize BC (m.map (wa l)) (M+1) 0=L at *
 generalize Bc (m.map (wa l)) L=X at *
 refine⟨L,X,?_,hit,w,q⟩
 unfold Ey
 rw[C,AD,J,AD]
 have O:C0 (L++X) 0 (L.length:Int)=some L:=by
  unfold C0
  rw[nH ⟨by omega,by omega,by simp;omega⟩]
  simp
 rw[O,AD,Y2 BG V Z L (by simp at w;omega) q,AD]
end Go.Proofs.YtmogkkigacadpaaGreatDoor.Al

set_option linter.unusedVariables false
set_option linter.unusedSimpArgs false
namespace Go.Proofs.YtmogkkigacadpaaGreatDoor.Al
open Go
def B4(d:AM)(id:Int):AK:=match CF d.Nodes id with | some k=>d.Nodes[k]! | none=>default
noncomputable def Gf(v:Af)(g:Av)(c:Ak):Af:=
 match Fd g c.Row c.Col with
 | some r=>⟨c.Ref,v.id,((v.visible&&(r.Row=c.Row))&&(r.Col=c.Col))⟩
 | none=>default
noncomputable def LU(v:Af)(n:AK):List Af:=(CS n.Flow).map λid=>⟨id,v.id,v.visible⟩
noncomputable def JL(v:Af)(n:AK):List Af:=(n.Grid.Cells.filter λc=>!(c.Ref=0)).map (Gf v n.Grid)
noncomputable def Gu(d:AM)(n:AK):List Int:=(Ey d n).getD []
noncomputable def NP(d:AM)(v:Af)(n:AK):List Af:=(Gu d n).map λid=>⟨id,v.id,v.visible⟩
noncomputable def kids(d:AM)(v:Af)(n:AK):List Af:=LU v n++(JL v n++NP d v n)
def BV(l:List Af)(i:Int):Bool:=l.any λv=>decide (v.id=i)
noncomputable def CR(d:AM):Nat→List Af→Af→List Af
 | 0,j,_=>j
 | n+1,j,v=>if BV j v.id=true then j else(kids d v (B4 d v.id)).foldl (λa w=>CR d n a w) (j++[v])
def DG(d:AM)(i:Int):Prop:=∃k,CF d.Nodes i=some k
structure Do(d:AM):Prop where
 ok:Fa d
 dr:∀n∈d.Nodes,Il n.Draw
 ch:DX d=some 0
theorem V4{n:AK}(j:Cr n=some 0):1≤n.ID∧n.ID≤1073741824:=by
 unfold Cr at j
 split at j
 ·cases j
 ·rename_i c
  simp only[nT,nK] at c
  omega
theorem Do.ids{d}(h:Do d):N6 d:=λk j=>V4 ((Jw h.ok h.ch).2 k j)
theorem Do.srt{d:AM}(h:Do d):Gw d.Nodes:=(Jw h.ok h.ch).1
theorem ka{d:AM}{i}{k}(h:CF d.Nodes i=some k):B4 d i=d.Nodes[k]!:=by unfold B4;rw[h]
theorem Do.node{d:AM}(h:Do d){i}(w:DG d i):GV (B4 d i)∧Il (B4 d i).Draw∧Cr (B4 d i)=some 0∧(∀j∈CS (B4 d i).Flow++Eg (B4 d i).Grid.Cells,DG d j) ∧
  E1 d i=some ((((CF d.Nodes i).getD 0:Nat):Int),true)∧AL d.Nodes (((CF d.Nodes i).getD 0:Nat):Int)=some (B4 d i):=by
 obtain⟨k,l⟩:=w
 obtain⟨m,C⟩:=FV l
 rw[ka l]
 have q:=Bv m
 obtain⟨j,A,B⟩:=PI d i h.ok.1 h.srt
 obtain rfl:=B k l
 refine⟨h.ok.2 _ q,h.dr _ q,(Jw h.ok h.ch).2 _ m,XP h.ok h.ch _ m,?_,?_⟩
 ·rw[A,l];rfl
 ·rw[l];exact Ac m
theorem QZ{d:AM}(h:Do d){v:Af}(J:DG d v.id):∀w∈kids d v (B4 d v.id),DG d w.id:=by
 obtain⟨C,M,E,F,_,_⟩:=h.node J
 intro w l
 unfold kids at l
 rcases oe.1 l with l | l
 ·unfold LU at l
  obtain⟨j,q,rfl⟩:=oA.1 l
  exact F j (pS _ q)
 ·rcases oe.1 l with l | l
  ·unfold JL at l
   obtain⟨c,I,rfl⟩:=oA.1 l
   have A:=(o5.1 I).1
   obtain⟨r,O,_⟩:=RI C E c A
   unfold Gf
   rw[O]
   refine F c.Ref (pb _ ?_)
   unfold Eg
   exact oA.2 ⟨c,I,rfl⟩
  ·unfold NP Gu at l
   obtain⟨L,X,T,_⟩:=SN h.ids h.ok.1 h.srt C M E
   rw[T] at l
   obtain⟨j,q,rfl⟩:=oA.1 l
   obtain⟨x,_,m⟩:=List.mem_filterMap.1 q
   unfold D7 If at m
   cases B:CF d.Nodes (Dv (E8 x.Attrs Hn)) with
   | none=>rw[B] at m;cases m
   | some k=>
    rw[B] at m
    simp only at m
    split at m
    ·cases m;exact⟨k,B⟩
    ·cases m
def Dg(d:AM)(j:List Af):Nat:=d.Nodes.countP λn=>!BV j n.ID
theorem Pw a b i:BV (a++b) i=(BV a i||BV b i):=by unfold BV;rw[List.any_append]
theorem Uz d a b:Dg d (a++b)≤Dg d a:=
 qS λn _ h=>by
  rw[Pw] at h
  cases j:BV a n.ID
  ·rfl
  ·rw[j] at h;simp at h
theorem TD{d:AM}{a}{v:Af}(B:DG d v.id)(C:BV a v.id=false):Dg d (a++[v])<Dg d a:=by
 obtain⟨k,E⟩:=B
 obtain⟨w,j⟩:=FV E
 have key:∀(l:List AK) (z:AK) (p q:AK→Bool),(∀x∈l,p x=true→q x=true)→z∈l→q z=true→p z=false→l.countP p<l.countP q:=by
  intro l
  induction l with
  | nil=>intro z p q _ m;cases m
  | cons a r F=>
   intro z p q h m w j
   have M:r.countP p≤r.countP q:=qS λx A=>h x (nY _ A)
   rw[qM,qM]
   rcases nn.1 m with rfl | m
   ·rw[w,j];simp;omega
   ·have:=F z p q (λx A=>h x (nY _ A)) m w j
    have I:=h a (nc ..)
    cases hp:p a
    ·simp;split<;>omega
    ·rw[I hp];simp;omega
 refine key d.Nodes d.Nodes[k]! _ _ (λx _ h=>?_) (Bv w) ?_ ?_
 ·rw[Pw] at h
  cases J:BV a x.ID
  ·rfl
  ·rw[J] at h;simp at h
 ·simp only[j,C];rfl
 ·simp only[j,Pw]
  simp[BV]
section
variable{σ:Type}(Y:σ→Af→Option (Bool × σ))
def Db:List Af→σ→Option (Bool × σ)
 | [],s=>some (true,s)
 | v::r,s=>match Y s v with
  | none=>none
  | some (false,j)=>some (false,j)
  | some (true,j)=>Db r j
theorem hU a b(s:σ):Db Y (a++b) s=match Db Y a s with
  | none=>none
  | some (false,j)=>some (false,j)
  | some (true,j)=>Db Y b j:=by
 induction a generalizing s with
 | nil=>rfl
 | cons v r m=>
  rw[ou]
  cases l:Y s v with
  | none=>simp only[Db,l]
  | some p=>
   obtain⟨c,j⟩:=p
   cases c
   ·simp only[Db,l]
   ·simp only[Db,l]
    exact m j
abbrev Iz(σ:Type):=List (Int × Bool)→σ→Af→Option (Bool × List (Int × Bool) × σ)
def Dp(self:Iz σ):List Af→List (Int × Bool)→σ→Option (Bool × List (Int × Bool) × σ)
 | [],m,s=>some (true,m,s)
 | v::r,m,s=>match self m s v with
  | none=>none
  | some (false,j,l)=>some (false,j,l)
  | some (true,j,l)=>Dp self r j l
theorem Vs self a b m(s:σ):Dp self (a++b) m s=match Dp self a m s with
  | none=>none
  | some (false,j,l)=>some (false,j,l)
  | some (true,j,l)=>Dp self b j l:=by
 induction a generalizing m s with
 | nil=>rfl
 | cons v r w=>
  rw[ou]
  cases q:self m s v with
  | none=>simp only[Dp,q]
  | some p=>
   obtain⟨c,j,l⟩:=p
   cases c
   ·simp only[Dp,q]
   ·simp only[Dp,q]
    exact w j l
noncomputable def D0(v1:Af)(self:Iz σ)(w:List Int)(l:Int)(A:List (Int × Bool))(j:σ):Option ((Int × (List (Int × Bool)) × σ) ⊕ (Ar ((List (Int × Bool)) × σ) (Bool × (List (Int × Bool)) × σ))):=
 if(decide (l<(w.length:Int))) then(
  AB (AL w l) λ(m:Int)=>
  CN (self A j (Af.mk m v1.id v1.visible)) λ(E:Bool) (B:List (Int × Bool)) (C:σ)=>
  if(!E) then(
   some (.inr (.ext (false,B,C)))
  ) else(
   AB (AR .i64 (l+1)) λ(q:Int)=>
   some (.inl (q,B,C))
  )
 ) else(
  some (.inr (.nrm (A,j)))
 )
noncomputable def Dt(v1:Af)(self:Iz σ)(w:AK)(A:Int)(B:List (Int × Bool))(m:σ):Option ((Int × (List (Int × Bool)) × σ) ⊕ (Ar ((List (Int × Bool)) × σ) (Bool × (List (Int × Bool)) × σ))):=
 if(decide (A<(w.Grid.Cells.length:Int))) then(
  AB (AL w.Grid.Cells A) λ(j:Ak)=>
  AB (Fd w.Grid j.Row j.Col) λ(F:Aj)=>
  CN (
   if((!(j.Ref=0))==true) then(
    CN (self B m (Af.mk j.Ref v1.id ((v1.visible&&(F.Row=j.Row))&&(F.Col=j.Col)))) λ(I:Bool) (J:List (Int × Bool)) (M:σ)=>
    some (((!(j.Ref=0))&&(!I)),J,M)
   ) else(
    some (((!(j.Ref=0))&&false),B,m)
   )
  ) λ(C:Bool) (q:List (Int × Bool)) (l:σ)=>
  if C then(
   some (.inr (.ext (false,q,l)))
  ) else(
   AB (AR .i64 (A+1)) λ(E:Int)=>
   some (.inl (E,q,l))
  )
 ) else(
  some (.inr (.nrm (B,m)))
 )
noncomputable def gB(d:AM)(self:Iz σ)(m:List (Int × Bool))(j:σ)(v1:Af):Option (Bool × (List (Int × Bool)) × σ):=
 if((AU m v1.id).getD false) then(
  some (true,m,j)
 ) else(
  Bw (Y j v1) λ(E:Bool) (C:σ)=>
  if(!E) then(
   some (false,(Ai m v1.id true),C)
  ) else(
   Bw (E1 d v1.id) λ(F:Int) (T:Bool)=>
   AB (AL d.Nodes F) λ(q:AK)=>
   AB (HH q.Flow) λ(I:List Int)=>
   Dm (iter (λ(a:Int × (List (Int × Bool)) × σ)=>D0 v1 self I a.1 a.2.1 a.2.2) (0,(Ai m v1.id true),C)) λ(J:List (Int × Bool)) (w:σ)=>
   Dm (iter (λ(a:Int × (List (Int × Bool)) × σ)=>Dt v1 self q a.1 a.2.1 a.2.2) (0,J,w)) λ(M:List (Int × Bool)) (A:σ)=>
   AB (Ey d q) λ(O:List Int)=>
   Dm (iter (λ(a:Int × (List (Int × Bool)) × σ)=>D0 v1 self O a.1 a.2.1 a.2.2) (0,M,A)) λ(B:List (Int × Bool)) (l:σ)=>
   some (true,B,l)
  )
 )
noncomputable def gN(d:AM):Nat→Iz σ
 | 0=>λ_ _ _=>none
 | n+1=>λm s v=>gB Y d (gN d n) m s v
def No(r:Bool × List (Int × Bool) × σ):Ar ((List (Int × Bool)) × σ) (Bool × (List (Int × Bool)) × σ):=if r.1=true then .nrm (r.2.1,r.2.2) else .ext (false,r.2.1,r.2.2)
theorem VD(v:Af) self(l:List Int)(E:l.length≤4194304):∀(j k:Nat) (m:List (Int × Bool)) (s:σ) (r:Bool × List (Int × Bool) × σ),k+j=l.length→Dp self ((l.drop k).map λid=>⟨id,v.id,v.visible⟩) m s=some r →
  iter (λ(a:Int × (List (Int × Bool)) × σ)=>D0 v self l a.1 a.2.1 a.2.2) ((k:Int),m,s)=some (No r):=by
 intro j
 induction j with
 | zero=>
  intro k m s r B h
  rw[ov (by omega)] at h
  cases h
  refine BL ?_
  show D0 v self l (k:Int) m s=_
  unfold D0
  rw[nG (by simp;omega)]
  rfl
 | succ j C=>
  intro k m s r B h
  have q:k<l.length:=by omega
  rw[nu q,nk] at h
  unfold Dp at h
  cases w:self m s ⟨l[k],v.id,v.visible⟩ with
  | none=>rw[w] at h;cases h
  | some p=>
   obtain⟨c,A,s'⟩:=p
   rw[w] at h
   cases c with
   | false=>
    cases h
    refine BL ?_
    show D0 v self l (k:Int) m s=_
    unfold D0
    rw[nH (by simpa using q),EH q,AD,w,GP]
    rfl
   | true=>
    rw[Bm (s':=(((k+1:Nat):Int),A,s')) (by
     show D0 v self l (k:Int) m s=_
     unfold D0
     rw[nH (by simpa using q),EH q,AD,w,GP,nG (by decide),An (by omega),AD])]
    exact C (k+1) A s' r (by omega) h
theorem mD(v:Af) self(n:AK)(O:n.Grid.Cells.length≤4194304)(hc:∀c∈n.Grid.Cells,∃r,Fd n.Grid c.Row c.Col=some r):∀(j k:Nat) (m:List (Int × Bool)) (s:σ) (r:Bool × List (Int × Bool) × σ),k+j=n.Grid.Cells.length →
  Dp self (((n.Grid.Cells.drop k).filter λc=>!(c.Ref=0)).map (Gf v n.Grid)) m s=some r →
  iter (λ(a:Int × (List (Int × Bool)) × σ)=>Dt v self n a.1 a.2.1 a.2.2) ((k:Int),m,s)=some (No r):=by
 intro j
 induction j with
 | zero=>
  intro k m s r J h
  rw[ov (by omega)] at h
  cases h
  refine BL ?_
  show Dt v self n (k:Int) m s=_
  unfold Dt
  rw[nG (by simp;omega)]
  rfl
 | succ j E=>
  intro k m s r J h
  have l:k<n.Grid.Cells.length:=by omega
  obtain⟨q,B⟩:=hc _ (nq l)
  rw[nu l,oh] at h
  by_cases A:n.Grid.Cells[k].Ref=0
  ·rw[nG (by simp[A])] at h
   rw[Bm (s':=(((k+1:Nat):Int),m,s)) (by
    show Dt v self n (k:Int) m s=_
    unfold Dt
    rw[nH (by simpa using l),EH l,AD,B,AD,nJ A,nG (by decide),GP,nG (by decide),An (by omega),AD])]
   exact E (k+1) m s r (by omega) h
  ·rw[nH (by simp[A]),nk] at h
   have M:Gf v n.Grid n.Grid.Cells[k]=⟨n.Grid.Cells[k].Ref,v.id,((v.visible&&(q.Row=n.Grid.Cells[k].Row))&&(q.Col=n.Grid.Cells[k].Col))⟩:=by unfold Gf;rw[B]
   rw[M] at h
   unfold Dp at h
   generalize F:(⟨n.Grid.Cells[k].Ref,v.id,((v.visible&&(q.Row=n.Grid.Cells[k].Row))&&(q.Col=n.Grid.Cells[k].Col))⟩:Af)=w at h
   cases C:self m s w with
   | none=>rw[C] at h;cases h
   | some p=>
    obtain⟨c,I,s'⟩:=p
    rw[C] at h
    cases c with
    | false=>
     cases h
     refine BL ?_
     show Dt v self n (k:Int) m s=_
     unfold Dt
     rw[nH (by simpa using l),EH l,AD,B,AD,nI A,nH (by decide),F,C,GP,GP]
     rfl
    | true=>
     rw[Bm (s':=(((k+1:Nat):Int),I,s')) (by
      show Dt v self n (k:Int) m s=_
      unfold Dt
      rw[nH (by simpa using l),EH l,AD,B,AD,nI A,nH (by decide),F,C,GP,GP,nG (by decide),An (by omega),AD])]
     exact E (k+1) I s' r (by omega) h
end
end Go.Proofs.YtmogkkigacadpaaGreatDoor.Al

set_option linter.unusedVariables false
set_option linter.unusedSimpArgs false
namespace Go.Proofs.YtmogkkigacadpaaGreatDoor.Al
open Go
section
variable{σ:Type}(Y:σ→Af→Option (Bool × σ)){d:AM}
def Wb(d:AM)(n:Nat):Prop:=∀(j:List Af) (v:Af) (m:List (Int × Bool)) (s:σ),DG d v.id→Dg d j<n→(∀i,Ca m i=BV j i) →
 ∃new,CR d n j v=j++new∧(∀w∈new,DG d w.id)∧∀b l,Db Y new s=some (b,l)→∃q,gN Y d n m s v=some (b,q,l)∧(b=true→∀i,Ca q i=BV (j++new) i)
theorem eY{n}(IH:Wb Y d n):∀(ks j:List Af) (m:List (Int × Bool)) (s:σ),(∀w∈ks,DG d w.id)→Dg d j<n→(∀i,Ca m i=BV j i) →
  ∃new,ks.foldl (λa w=>CR d n a w) j=j++new∧(∀w∈new,DG d w.id)∧∀b s',Db Y new s=some (b,s')→∃A,Dp (gN Y d n) ks m s=some (b,A,s')∧(b=true→∀i,Ca A i=BV (j++new) i):=by
 intro ks
 induction ks with
 | nil=>
  intro j m s _ _ I
  refine⟨[],by simp,by simp,λb s' B=>?_⟩
  simp only[Db,nQ,nU] at B
  obtain⟨rfl,rfl⟩:=B
  exact⟨m,rfl,λ_ i=>by rw[ot];exact I i⟩
 | cons v r ih=>
  intro j m s U V I
  obtain⟨q,e1,i1,w1⟩:=IH j v m s (U v (nc ..)) V I
  have J:Dg d (j++q)<n:=Nat.lt_of_le_of_lt (Uz d j q) V
  have E:∀m2 (F:σ),(∀i,Ca m2 i=BV (j++q) i)→∃new,r.foldl (λa w=>CR d n a w) (j++q)=(j++q)++new∧(∀w∈new,DG d w.id)∧∀b s',Db Y new F=some (b,s')→∃A,Dp (gN Y d n) r m2 F=some (b,A,s')∧(b=true→∀i,Ca A i=BV ((j++q)++new) i):=
   λm2 F h2=>ih (j++q) m2 F (λw M=>U w (nY _ M)) J h2
  have O:∃m2:List (Int × Bool),∀i,Ca m2 i=BV (j++q) i:=by
   refine⟨(j++q).map λv=>(v.id,true),λi=>?_⟩
   generalize j++q=l
   induction l with
   | nil=>rfl
   | cons a r T=>
    show(if i=a.id then some true else AU _ i).getD false=_
    unfold BV
    rw[pn]
    by_cases h:i=a.id
    ·rw[nH h,nJ h.symm];rfl
    ·rw[nG h,nI (qQ h),oS];exact T
  obtain⟨m0,h0⟩:=O
  obtain⟨X,Z,i2,_⟩:=E m0 s h0
  refine⟨q++X,by rw[oK,e1,Z,oR],λw M=>(oe.1 M).elim (i1 w) (i2 w),λb s' B=>?_⟩
  rw[hU] at B
  cases C:Db Y q s with
  | none=>rw[C] at B;cases B
  | some p=>
   obtain⟨c,s1⟩:=p
   rw[C] at B
   obtain⟨m1,g1,g2⟩:=w1 c s1 C
   cases c with
   | false=>
    cases B
    refine⟨m1,?_,λe=>by cases e⟩
    unfold Dp
    rw[g1]
   | true=>
    obtain⟨n3,e3,_,w3⟩:=E m1 s1 (g2 rfl)
    have:n3=X:=by
     rw[Z] at e3
     exact(List.append_cancel_left e3).symm
    subst this
    obtain⟨m2,k1,k2⟩:=w3 b s' B
    refine⟨m2,?_,λe i=>by rw[k2 e i,oR]⟩
    show(match gN Y d n m s v with | none=>none | some (false,A,s')=>some (false,A,s') | some (true,A,s')=>Dp (gN Y d n) r A s')=_
    rw[g1]
    exact k1
theorem kX(h:Do d):∀n,Wb Y d n:=by
 intro n
 induction n with
 | zero=>intro l v m s _ hu;omega
 | succ n IH=>
  intro l v m s hv hu hm
  by_cases F:BV l v.id=true
  ·refine⟨[],by unfold CR;rw[nH F,ot],by simp,λb I A=>?_⟩
   simp only[Db,nQ,nU] at A
   obtain⟨rfl,rfl⟩:=A
   refine⟨m,?_,λ_ i=>by rw[ot];exact hm i⟩
   show gB Y d (gN Y d n) m s v=_
   unfold gB
   have:(AU m v.id).getD false=true:=(hm v.id).trans F
   rw[nH this]
  ·rw[ny] at F
   have ac:=TD hv F
   have C:∀i,Ca (Ai m v.id true) i=BV (l++[v]) i:=λi=>by
    rw[Mh,hm i,Pw]
    have:BV [v] i=decide (i=v.id):=by
     unfold BV;simp only[pn,List.any_nil,qn]
     rw[pX];exact⟨λe=>e.symm,λe=>e.symm⟩
    rw[this]
    cases BV l i<;>cases decide (i=v.id)<;>rfl
   obtain⟨q,a0,J,ad,a1,a2⟩:=h.node hv
   have M:=QZ h hv
   have B:=λE=>eY Y IH (kids d v (B4 d v.id)) (l++[v]) (Ai m v.id true) E M (by omega) C
   obtain⟨new,e1,i1,_⟩:=B s
   refine⟨v::new,by unfold CR;rw[nG (by rw[F];decide),e1,oR];rfl,λw hw=>?_,λb I A=>?_⟩
   ·rcases nn.1 hw with rfl | hw
    ·exact hv
    ·exact i1 w hw
   ·show ∃O,gB Y d (gN Y d n) m s v=_∧_
    have h0:¬ ((AU m v.id).getD false)=true:=by
     have:(AU m v.id).getD false=false:=(hm v.id).trans F
     rw[this];decide
    unfold gB
    rw[nG h0]
    cases hY:Y s v with
    | none=>simp only[Db,hY] at A;cases A
    | some p=>
     obtain⟨c,s1⟩:=p
     rw[BZ]
     cases c with
     | false=>
      simp only[Db,hY,nQ,nU] at A
      obtain⟨rfl,rfl⟩:=A
      exact⟨_,by rw[nH (by decide)],λe=>by cases e⟩
     | true=>
      simp only[Db,hY] at A
      rw[nG (by decide),a1,BZ,a2,AD,iH _ (by have:=q.ok.fl;omega),AD]
      obtain⟨T,e2,_,w2⟩:=B s1
      have:T=new:=by
       rw[e1] at e2
       exact(List.append_cancel_left e2).symm
      subst this
      obtain⟨O,j,g2⟩:=w2 b I A
      refine⟨O,?_,λe i=>by rw[g2 e i,oR];rfl⟩
      have ae:=q.ok.fl
      have af:=q.ok.gr.1
      have U:∀c∈(B4 d v.id).Grid.Cells,∃r,Fd (B4 d v.id).Grid c.Row c.Col=some r:=λc hc=>by
       obtain⟨r,r1,_⟩:=RI q J c hc;exact⟨r,r1⟩
      have a6:(CS (B4 d v.id).Flow).length≤4194304:=by
       unfold CS;rw[ni];exact nX (oT ..) (by omega)
      obtain⟨L,X,t1,_,t3,_⟩:=SN h.ids h.ok.1 h.srt q a0 J
      have V:Gu d (B4 d v.id)=L.filterMap (D7 d):=by unfold Gu;rw[t1];rfl
      have Z:(Gu d (B4 d v.id)).length≤4194304:=by
       rw[V]
       refine nX (List.length_filterMap_le ..) ?_
       simp at t3;omega
      have a7:Ey d (B4 d v.id)=some (Gu d (B4 d v.id)):=by rw[V];exact t1
      unfold kids at j
      rw[Vs] at j
      cases q1:Dp (gN Y d n) (LU v (B4 d v.id)) (Ai m v.id true) s1 with
      | none=>rw[q1] at j;cases j
      | some p1=>
       have l1:=VD v (gN Y d n) (CS (B4 d v.id).Flow) a6 _ 0 (Ai m v.id true) s1 p1 (by rw[np]) q1
       have a8:iter (λ(a:Int × (List (Int × Bool)) × σ)=>D0 v (gN Y d n) (CS (B4 d v.id).Flow) a.1 a.2.1 a.2.2) (0,(Ai m v.id true),s1)=some (No p1):=l1
       rw[a8]
       obtain⟨c1,m1,E⟩:=p1
       rw[q1] at j
       cases c1 with
       | false=>cases j;rfl
       | true=>
        show Dm (iter (λ(a:Int × (List (Int × Bool)) × σ)=>Dt v (gN Y d n) (B4 d v.id) a.1 a.2.1 a.2.2) (0,m1,E)) _=_
        have j:Dp (gN Y d n) (JL v (B4 d v.id)++NP d v (B4 d v.id)) m1 E=some (b,O,I):=j
        rw[Vs] at j
        cases q2:Dp (gN Y d n) (JL v (B4 d v.id)) m1 E with
        | none=>rw[q2] at j;cases j
        | some p2=>
         have l2:=mD v (gN Y d n) (B4 d v.id) (by omega) U _ 0 m1 E p2 (by rw[np]) q2
         have aa:iter (λ(a:Int × (List (Int × Bool)) × σ)=>Dt v (gN Y d n) (B4 d v.id) a.1 a.2.1 a.2.2) (0,m1,E)=some (No p2):=l2
         rw[aa]
         obtain⟨c2,m2,s3⟩:=p2
         rw[q2] at j
         cases c2 with
         | false=>cases j;rfl
         | true=>
          show AB (Ey d (B4 d v.id)) _=_
          rw[a7,AD]
          have j:Dp (gN Y d n) (NP d v (B4 d v.id)) m2 s3=some (b,O,I):=j
          have l3:=VD v (gN Y d n) (Gu d (B4 d v.id)) Z _ 0 m2 s3 _ (by rw[np]) j
          have ab:iter (λ(a:Int × (List (Int × Bool)) × σ)=>D0 v (gN Y d n) (Gu d (B4 d v.id)) a.1 a.2.1 a.2.2) (0,m2,s3)=some (No (b,O,I)):=l3
          rw[ab]
          cases b<;>rfl
end
end Go.Proofs.YtmogkkigacadpaaGreatDoor.Al

set_option linter.unusedVariables false
set_option linter.unusedSimpArgs false
namespace Go.Proofs.YtmogkkigacadpaaGreatDoor.Al
open Go
theorem Yc{d:AM}(h:Fa d)(l:DX d=some 0):0<d.Nodes.length∧d.Nodes[0]!.ID=1:=by
 obtain⟨-,m⟩:=Jw h l
 unfold DX at l
 split at l
 ·cases l
 rename_i w
 have j:0<d.Nodes.length:=by
  rcases ql d.Nodes.length with h | h
  ·exact absurd (nJ (show((d.Nodes.length:Int))=0 by omega)) w
  ·exact h
 refine⟨j,?_⟩
 by_cases BG:d.Nodes[0]!.ID=1
 ·exact BG
 exfalso
 have q:iter (λ(a:Int)=>Cq d a) 0=some (.ext 5):=by
  refine BL ?_
  have e0:=m 0 j
  show Cq d ((0:Nat):Int)=_
  unfold Cq
  rw[nH (by simpa using j),Ac j,AD,e0,AD,nG (by decide),nJ (show((0:Nat):Int)=0 from rfl),nI (show ¬ (0:Int)<((0:Nat):Int) by omega),nI BG]
  rfl
 rw[q] at l
 cases l
theorem SA{d:AM}(h:Do d):DG d 1:=by
 obtain⟨l,m⟩:=Yc h.ok h.ch
 unfold DG
 cases j:CF d.Nodes 1 with
 | some k=>exact⟨k,rfl⟩
 | none=>
  exfalso
  unfold CF at j
  rw[List.find?_eq_none] at j
  exact j 0 (nm.2 l) (by simpa using m)
noncomputable def Cj(d:AM):List Af:=CR d (d.Nodes.length+1) [] ⟨1,0,true⟩
theorem UV(d:AM):Dg d []<d.Nodes.length+1:=Nat.lt_succ_of_le (List.countP_le_length ..)
theorem dp{σ:Type}(Y:σ→Af→Option (Bool × σ)){d:AM}(h:Do d){s s'}{b}(l:Db Y (Cj d) s=some (b,s')):∃j,gN Y d (d.Nodes.length+1) [] s ⟨1,0,true⟩=some (b,j,s'):=by
 obtain⟨new,m,_,w⟩:=kX Y h (d.Nodes.length+1) [] ⟨1,0,true⟩ [] s (SA h) (UV d) (λi=>rfl)
 have:Cj d=new:=by unfold Cj;rw[m,oV]
 rw[this] at l
 obtain⟨j,q,_⟩:=w b s' l
 exact⟨j,q⟩
section
variable{σ:Type}(Y:σ→Af→Option (Bool × σ)){d:AM}
theorem VK{v:Af}{self j:Iz σ}(C:∀m s w r,self m s w=some r→j m s w=some r){l:List Int}{x:Int}{m:List (Int × Bool)}{s:σ}{r}(h:D0 v self l x m s=some r):D0 v j l x m s=some r:=by
 unfold D0 at h ⊢
 split at h
 ·rename_i q
  rw[nH q]
  cases B:AL l x with
  | none=>rw[B] at h;cases h
  | some y=>
   rw[B,AD] at h
   rw[AD]
   cases A:self m s ⟨y,v.id,v.visible⟩ with
   | none=>rw[A] at h;cases h
   | some p=>rw[A] at h;rw[C _ _ _ _ A];exact h
 ·rename_i q
  rw[nG q];exact h
theorem Z6{v:Af}{self j:Iz σ}(E:∀m s w r,self m s w=some r→j m s w=some r){n:AK}{x:Int}{m:List (Int × Bool)}{s:σ}{r}(h:Dt v self n x m s=some r):Dt v j n x m s=some r:=by
 unfold Dt at h ⊢
 split at h
 ·rename_i l
  rw[nH l]
  cases C:AL n.Grid.Cells x with
  | none=>rw[C] at h;cases h
  | some c=>
   rw[C,AD] at h
   rw[AD]
   cases hg:Fd n.Grid c.Row c.Col with
   | none=>rw[hg] at h;cases h
   | some q=>
    rw[hg,AD] at h
    rw[AD]
    split at h
    ·rename_i A
     rw[nH A]
     cases B:self m s ⟨c.Ref,v.id,((v.visible&&(q.Row=c.Row))&&(q.Col=c.Col))⟩ with
     | none=>rw[B] at h;cases h
     | some p=>rw[B] at h;rw[E _ _ _ _ B];exact h
    ·rename_i A
     rw[nG A];exact h
 ·rename_i l
  rw[nG l];exact h
theorem X7{self j}(B:∀m s w r,self m s w=some r→j m s w=some r){m}{s}{v:Af}{r}(h:gB Y d self m s v=some r):gB Y d j m s v=some r:=by
 unfold gB at h ⊢
 split at h
 ·rename_i C
  rw[nH C];exact h
 ·rename_i C
  rw[nG C]
  cases M:Y s v with
  | none=>rw[M] at h;cases h
  | some p=>
   rw[M,BZ] at h
   rw[BZ]
   split at h
   ·rename_i E
    rw[nH E];exact h
   ·rename_i E
    rw[nG E]
    cases O:E1 d v.id with
    | none=>rw[O] at h;cases h
    | some q=>
     rw[O,BZ] at h
     rw[BZ]
     cases T:AL d.Nodes q.1 with
     | none=>rw[T] at h;cases h
     | some n=>
      rw[T,AD] at h
      rw[AD]
      cases U:HH n.Flow with
      | none=>rw[U] at h;cases h
      | some l=>
       rw[U,AD] at h
       rw[AD]
       cases F:iter (λ(a:Int × (List (Int × Bool)) × σ)=>D0 v self l a.1 a.2.1 a.2.2) (0,(Ai m v.id true),p.2) with
       | none=>rw[F] at h;cases h
       | some c1=>
        rw[F] at h
        rw[Ir (g:=λ(a:Int × (List (Int × Bool)) × σ)=>D0 v j l a.1 a.2.1 a.2.2) (λs v A=>VK B A) F]
        cases c1 with
        | ext e=>exact h
        | nrm t=>
         change Dm (iter (λ(a:Int × (List (Int × Bool)) × σ)=>Dt v self n a.1 a.2.1 a.2.2) (0,t.1,t.2)) _=_ at h
         show Dm (iter (λ(a:Int × (List (Int × Bool)) × σ)=>Dt v j n a.1 a.2.1 a.2.2) (0,t.1,t.2)) _=_
         cases I:iter (λ(a:Int × (List (Int × Bool)) × σ)=>Dt v self n a.1 a.2.1 a.2.2) (0,t.1,t.2) with
         | none=>rw[I] at h;cases h
         | some c2=>
          rw[I] at h
          rw[Ir (g:=λ(a:Int × (List (Int × Bool)) × σ)=>Dt v j n a.1 a.2.1 a.2.2) (λs v A=>Z6 B A) I]
          cases c2 with
          | ext e=>exact h
          | nrm V=>
           change AB (Ey d n) _=_ at h
           show AB (Ey d n) _=_
           cases X:Ey d n with
           | none=>rw[X] at h;cases h
           | some Z=>
            rw[X,AD] at h
            rw[AD]
            cases J:iter (λ(a:Int × (List (Int × Bool)) × σ)=>D0 v self Z a.1 a.2.1 a.2.2) (0,V.1,V.2) with
            | none=>rw[J] at h;cases h
            | some c3=>
             rw[J] at h
             rw[Ir (g:=λ(a:Int × (List (Int × Bool)) × σ)=>D0 v j Z a.1 a.2.1 a.2.2) (λs v A=>VK B A) J]
             exact h
theorem jx:∀(n:Nat) (m:List (Int × Bool)) (s:σ) (v:Af) r,gN Y d n m s v=some r→gN Y d (n+1) m s v=some r:=by
 intro n
 induction n with
 | zero=>intro m s v r h;cases h
 | succ n j=>intro m s v r h;exact X7 Y j h
end
theorem WZ d:∀(n:Nat) m ys v,Gt n m ys d v=gN (λys v=>Hh ys v) d n m ys v:=by
 intro n
 induction n with
 | zero=>intro m ys v;rfl
 | succ n l=>
  intro m ys v
  have e:gN (λys v=>Hh ys v) d n=λm ys v=>Gt n m ys d v:=by
   funext m ys v;exact(l m ys v).symm
  show PR (λq j w v1=>Gt n q j w v1) m ys d v=gB (λys v=>Hh ys v) d (gN (λys v=>Hh ys v) d n) m ys v
  rw[e]
  rfl
theorem Z3{d}(h:Do d){ys j}{b}(m:Db (λys v=>Hh ys v) (Cj d) ys=some (b,j)):MI ys d=some j:=by
 obtain⟨w,q⟩:=dp _ h m
 unfold MI Pi
 rw[QF (N:=λn=>Gt n [] ys d ⟨1,0,true⟩) (λn r l=>by rw[WZ] at l ⊢;exact jx _ n _ _ _ r l) (by rw[WZ];exact q),GP]
theorem kj l:∀m:List (Int × Bool),∃j,Db (λys v=>Hh ys v) l m=some (true,j)∧∀i,Ca j i=(Ca m i||BV l i):=by
 induction l with
 | nil=>intro m;exact⟨m,rfl,λi=>by simp[BV]⟩
 | cons v r q=>
  intro m
  obtain⟨j,w,A⟩:=q (Ai m v.id true)
  refine⟨j,?_,λi=>?_⟩
  ·simp only[Db]
   exact w
  ·rw[A,Mh]
   unfold BV
   rw[pn]
   have:decide (v.id=i)=decide (i=v.id):=by rw[pX];exact⟨λe=>e.symm,λe=>e.symm⟩
   rw[this]
   cases decide (i=v.id)<;>cases Ca m i<;>rfl
noncomputable def Kt(d:AM):List Int:=(d.Nodes.filter λn=>!BV (Cj d) n.ID).map (·.ID)
theorem mB{d:AM}(h:Do d):IO d=some (Kt d,0):=by
 obtain⟨j,w,A⟩:=kj (Cj d) []
 have E:=h.ok.1
 unfold IO
 rw[h.ch,AD,nG (by decide),Z3 h w,AD]
 have hit:=FH (f:=λ(a:Int × (List Int))=>HK d j a.1 a.2) d.Nodes (λ(c:List Int) i=>((i:Int),c)) (λr c=>c++(r.filter λn=>!BV (Cj d) n.ID).map (·.ID)) (λi c=>c.length≤i)
  (λi c m B=>by
   left
   show ∃F,HK d j (i:Int) c=_∧_
   unfold HK
   have C:(AU j d.Nodes[i]!.ID).getD false=BV (Cj d) d.Nodes[i]!.ID:=by
    have:=A d.Nodes[i]!.ID
    unfold Ca at this
    rw[this];rfl
   rw[nH (by simpa using m),Ac m,AD,An (by omega),C]
   cases q:BV (Cj d) d.Nodes[i]!.ID with
   | true=>
    refine⟨c,rfl,by omega,?_⟩
    rw[oh,q];rfl
   | false=>
    refine⟨c++[d.Nodes[i]!.ID],by rw[nH (by decide),LY (by omega)];rfl,by simp;omega,?_⟩
    rw[oh,q];simp)
  (λc B=>by
   show HK d j (d.Nodes.length:Int) c=_
   unfold HK
   rw[nG (by simp)]
   simp) [] (by simp) ((0:Int),[]) rfl
 have l:iter (λ(a:Int × (List Int))=>HK d j a.1 a.2) (0,[])=_:=hit
 rw[l,AD]
 rfl
end Go.Proofs.YtmogkkigacadpaaGreatDoor.Al
