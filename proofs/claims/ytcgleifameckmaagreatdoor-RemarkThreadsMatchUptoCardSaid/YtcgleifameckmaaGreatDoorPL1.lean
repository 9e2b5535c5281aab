/- Plain laws over the models, a part of them. -/
import Derived.Test.YtcgleifameckmaaGreatDoorMod1
import Derived.Lib.AtoiAllCases
import Derived.Lib.DecodeNEq
import Derived.Lib.ItoaMem
import Derived.Lib.TrimUEq
import Derived.Lib.ValidLaws
set_option linter.all false
namespace Go.Proofs.YtcgleifameckmaaGreatDoor.Al
@[simp] theorem AD{a α:Type}(x:a)(f:a->Option α):AB (some x) f=f x:=rfl
@[simp] theorem By{a b α:Type}(x:a)(y:b)(f:a->b->Option α):B3 (some (x,y)) f=f x y:=rfl
@[simp] theorem Gg{a b c α:Type}(x:a)(y:b)(z:c)(f:a->b->c->Option α):EQ (some (x,y,z)) f=f x y z:=rfl
@[simp] theorem wj{a b c d α:Type}(x:a)(y:b)(z:c)(u:d)(f:a->b->c->d->Option α):jk (some (x,y,z,u)) f=f x y z u:=rfl
@[simp] theorem Mx{a α:Type}(x:a)(f:a->Option α):A7 (some (.nrm x)) f=f x:=rfl
@[simp] theorem G6{a α:Type}(t:α)(f:a->Option α):A7 (some (.ext t)) f=some t:=rfl
@[simp] theorem wm{a b α:Type}(x:a)(y:b)(f:a->b->Option α):F9 (some (.nrm (x,y))) f=f x y:=rfl
@[simp] theorem wn{a b α:Type}(t:α)(f:a->b->Option α):F9 (some (.ext t)) f=some t:=rfl
@[simp] theorem wi{a b c α:Type}(x:a)(y:b)(z:c)(f:a->b->c->Option α):YT (some (.nrm (x,y,z))) f=f x y z:=rfl
@[simp] theorem wl{a b c α:Type}(t:α)(f:a->b->c->Option α):YT (some (.ext t)) f=some t:=rfl
@[simp] theorem Av{α:Type}[Inhabited α](m:Option α):gd true m=m:=rfl
@[simp] theorem DO{α:Type}[Inhabited α](m:Option α):gd false m=some default:=rfl
theorem Ak{α:Type}[Inhabited α]{l:List α}{k}(h:k<l.length):AO l (k:Int)=some l[k]!:=by grind [AO]
theorem Ei{α:Type}{l:List α}{k}(h:k<l.length):AO l (k:Int)=some l[k]:=by grind [AO]
theorem Au{k:Nat}(h:k<9223372036854775807):AX .i64 ((k:Int)+1)=some (((k+1:Nat)):Int):=by grind [CX]
theorem FP{k:Nat}(h:0<k)(j:k<=9223372036854775807):AX .i64 ((k:Int)-1)=some ((k-1:Nat):Int):=by grind [CX]
def DD{ρ:Type}(k:Nat):Option ρ->Option (Int ⊕ A3 Unit ρ)
 | none=>some (.inl ((k+1:Nat):Int))
 | some r=>some (.inr (.ext r))
def Dd{ρ:Type} : Option ρ->A3 Unit ρ
 | none=>.nrm ()
 | some r=>.ext r
theorem B5{ρ:Type}{f}{n}(g:Nat->Option ρ)(j:∀k:Nat, k<n->f k=DD k (g k))
 (l:f n=some (.inr (.nrm ()))):iter f 0=some (Dd ((List.range n).findSome? g)) := by
  have key:∀m k:Nat, k+m=n->iter f (k:Int)=some (Dd ((List.range' k m).findSome? g)) := by
    intro m
    induction m with
    | zero =>
      intro k q
      obtain rfl:k=n := by omega
      rw[Bj l];rfl
    | succ m w =>
      intro k q
      rw[List.range'_succ, zK]
      have := j k (by omega)
      cases hg:g k with
      | none => rw[hg] at this;rw[CF this, w (k+1) (by omega)]
      | some r => rw[hg] at this;rw[Bj this];rfl
  rw[WAP]
  grind
theorem bV{α ρ:Type}{l:List α}{g h:α->Option ρ}(e:∀x∈l,g x=h x):l.findSome? g=l.findSome? h:=by
 induction l with
 | nil=>rfl
 | cons a l j=>grind
theorem RU{α ρ:Type}[Inhabited α](l:List α)(p:α->Bool)(r:ρ):(List.range l.length).findSome? (λk=>if p l[k]! then none else some r)=if l.all p then none else some r:=by
 induction l with
 | nil=>rfl
 | cons a l j=>
  rw[xz,List.range_succ_eq_map,zK,List.findSome?_map]
  grind [bV]
theorem F1{ρ:Type}(o:Option ρ)(f:Unit->Option ρ):A7 (some (Dd o)) f=match o with | none=>f () | some r=>some r:=by cases o<;>rfl
def Hr(c:UInt8):Bool:=((97<=c.toNat)&&(c.toNat<=122))||((48<=c.toNat)&&(c.toNat<=57))||(c.toNat=46)||(c.toNat=45)
def EX(s:List UInt8):Bool:=(1<=s.length)&&(s.length<=24)&&((97<=s[0]!.toNat)&&(s[0]!.toNat<=122))&&s.all Hr
def Ga(c:UInt8):Bool:=(32<=c.toNat)&&(c.toNat<=126)
def En(s:List UInt8):Bool:=(1<=s.length)&&(s.length<=200)&&s.all Ga
theorem ug(s:List UInt8) k(j:k<s.length)(l:s.length<=9223372036854775807):NY s k=DD k (if Hr s[k]! then none else some false):=by
 unfold NY
 rw[ww (by simpa using j),Ak j,AD,Au (by omega)]
 generalize s[k]! = c
 have e:((((((c.toNat:Int)<97)||(122<(c.toNat:Int)))&&(((c.toNat:Int)<48)||(57<(c.toNat:Int))))&&(!((c.toNat:Int)=46)))&&(!((c.toNat:Int)=45)))=!Hr c:=by
  grind [Hr]
 rw[e]
 cases Hr c<;>rfl
theorem XX(s:List UInt8)(m:s.length<=9223372036854775807):NF s=some (EX s):=by
 unfold NF
 rw[B5 (n:=s.length) (λk=>if Hr s[k]! then none else some false) (λk q=>ug s k q m) (by unfold NY;rw[wv (by simp)]),RU]
 unfold EX
 cases s with
 | nil=>simp
 | cons c t=>
  have w:AO (c::t) 0=some c:=rfl
  rw[w]
  simp only[List.getElem!_cons_zero,w0 (WAC c t),yW]
  generalize (c::t).all Hr=C
  generalize E:(c::t).length=L
  have F:1<=L:=by grind
  by_cases l:24<(L:Int)
  .have j:decide (L<=24)=false:=by simp;omega
   simp[l,j]
  .rw[w0 l]
   simp only[yW,yS,Av,AD]
   have j:decide (L<=24)=true:=by simp;omega
   have e2:decide (1<=L)=true:=by simp;omega
   rw[j,e2]
   by_cases A:(c.toNat:Int)<97
   .have B:decide (97<=c.toNat)=false:=by simp;omega
    simp[A,B]
   .grind [Av,AD,F1]
def Me(k:Nat)(c:UInt8):Bool:=((97<=c.toNat)&&(c.toNat<=122))||((k≠0)&&Hr c)
theorem l6(s:List UInt8) k(j:k<s.length)(l:s.length<=9223372036854775807) :
  NI s k=DD k (if Me k s[k]! then none else some false):=by
 unfold NI
 rw[ww (by simpa using j),Ak j,AD,Au (by omega)]
 generalize s[k]! = c
 have e:((!((97<=(c.toNat:Int))&&((c.toNat:Int)<=122)))&&(((k:Int)=0)||(((!((c.toNat:Int)=46))&&(!((c.toNat:Int)=45)))&&(((c.toNat:Int)<48)||(57<(c.toNat:Int))))))=!Me k c:=by
  grind [Me,Hr]
 rw[e]
 cases Me k c<;>rfl
theorem jM{α:Type}[Inhabited α](l:List α)(p:α->Bool):l.all p=true↔∀k,k<l.length->p l[k]! = true:=by
 rw[xf]
 constructor
 .grind
 .intro h x j
  obtain⟨k,m,rfl⟩:=yH.1 j
  grind
theorem N2{ρ:Type} n p(r:ρ):(List.range n).findSome? (λk=>if p k then none else some r)=if(List.range n).all p then none else some r:=by
 generalize List.range n=l
 induction l with
 | nil=>rfl
 | cons a l j=>grind
theorem bS(s:List UInt8)(j:s.length<=9223372036854775807):ME s=some (EX s):=by
 unfold ME
 rw[B5 (n:=s.length) (λk=>if Me k s[k]! then none else some false) (λk l=>l6 s k l j) (by unfold NI;rw[wv (by simp)]),N2,F1]
 grind [Me,Hr,jM,EX]
theorem Ui(s:List UInt8)(l:s.length<=9223372036854775807):MY s=some (En s):=by
 unfold MY En
 rw[B5 (n:=s.length) (λk=>if Ga s[k]! then none else some false) (λk j=>by
  unfold QF
  rw[ww (by simpa using j),Ak j,AD,Au (by omega)]
  generalize s[k]! = c
  have e:(((c.toNat:Int)<32)||(126<(c.toNat:Int)))=!Ga c:=by
   grind [Ga]
  rw[e]
  cases Ga c<;>rfl) (by unfold QF;rw[wv (by simp)]),RU,F1]
 generalize s.all Ga=m
 cases s with
 | nil=>simp
 | cons c t=>
  rw[w0 (WAC c t),yW]
  generalize q:(c::t).length=L
  have w:1<=L:=by grind
  grind
theorem Xu(s:List UInt8)(l:s.length<=9223372036854775807):Nd s=some (En s):=by
 unfold Nd En
 rw[B5 (n:=s.length) (λk=>if Ga s[k]! then none else some false) (λk j=>by
  unfold OZ
  rw[ww (by simpa using j),Ak j,AD,Au (by omega)]
  generalize s[k]! = c
  have e:(((c.toNat:Int)<32)||(126<(c.toNat:Int)))=!Ga c:=by
   grind [Ga]
  rw[e]
  cases Ga c<;>rfl) (by unfold OZ;rw[wv (by simp)]),RU,F1]
 generalize s.all Ga=m
 have q:decide (1<=(s.length:Int))=decide (1<=s.length):=by simp;omega
 have e2:decide ((s.length:Int)<=200)=decide (s.length<=200):=by simp;omega
 grind
theorem VD a b x y:Ay (a::x) (b::y)=((a<b)||(a==b&&Ay x y)):=rfl
theorem Lf:∀(a b:List UInt8),(Ay a b||(a=b))=!Ay b a
 | [],[]=>rfl
 | [],_::_=>rfl
 | _::_,[]=>rfl
 | a::x,b::y=>by
  rw[VD,VD]
  have l:=Lf x y
  by_cases h:a=b
  .subst h
   have m:¬ a<a:=λh=>by simp[zh] at h
   simp only[w0 m,yS,yO,yW,zZ,true_and]
   exact l
  .have q:(a==b)=false:=by simpa using h
   have w:(b==a)=false:=by simpa using λe:b=a=>h e.symm
   have A:¬ (a::x=b::y):=λe=>h (List.cons.inj e).1
   rw[q,w,w0 A]
   simp only[zC,Bool.or_false]
   have B:a.toNat≠b.toNat:=λe=>h (UInt8.toNat_inj.1 e)
   by_cases j:a<b
   .have:¬ b<a:=by rw[zh] at j ⊢;omega
    simp[j,this]
   .have:b<a:=by rw[zh] at j ⊢;omega
    simp[j,this]
theorem LI a:Ay a a=false:=by grind [Lf,Ay]
theorem Xl{a b}(h:Ay a b=true):Ay b a=false:=by grind [Lf]
def IX(l:List AH):Prop:=∀a∈l,a.Name.length<=9223372036854775807/\a.Value.length<=9223372036854775807
def Et(l:List AH)(j:Bool)(k:Nat):Option Int:=
 if EX l[k]!.Name=false then some 9 else if En l[k]!.Value=false/\¬ (j=true/\l[k]!.Value=[]) then some 23 else if 0<k/\Ay l[k-1]!.Name l[k]!.Name=false then some 5 else none
def B1(l:List AH)(j:Bool):Int:=((List.range l.length).findSome? (Et l j)).getD 0
theorem IX.at{l:List AH}(h:IX l){k}(j:k<l.length):l[k]!.Name.length<=9223372036854775807/\l[k]!.Value.length<=9223372036854775807:=by
 rw[xg l k j];exact h _ (xw j)
theorem sm(l:List AH) q(h:IX l)(E:l.length<=9223372036854775807) k(A:k<l.length):Mq l q k=DD k (Et l q k):=by
 unfold Mq Et
 obtain⟨j,m⟩:=h.at A
 rw[ww (by simpa using A),Ak A,AD]
 generalize l[k]! = x at j m ⊢
 rw[XX _ j,AD]
 cases EX x.Name
 .rfl
 rw[wv (by decide),wv (by decide),Ui _ m,AD,Au (by omega)]
 by_cases w:En x.Value=false/\¬ (q=true/\x.Value=[])
 .rw[ww w,ww (by simp[w.1];cases q<;>simp_all)];rfl
 rw[wv w,wv (by intro e;simp at e;exact w ⟨e.1,by rintro⟨a,b⟩;simp[a,b] at e⟩)]
 by_cases B:k=0
 .subst B;rfl
 .have C:decide ((0:Int)<(k:Int))=true:=by simp;omega
  rw[C,FP (by omega) (by omega)]
  simp only[yS,Av,AD,yO]
  rw[Ak (by omega),AD,Lf]
  have:(0<k/\Ay l[k-1]!.Name x.Name=false)↔Ay l[k-1]!.Name x.Name=false:=by grind
  simp only[this]
  cases Ay l[k-1]!.Name x.Name<;>rfl
theorem jq(l:List AH) q(h:IX l)(E:l.length<=9223372036854775807) k(A:k<l.length):M7 l q k=DD k (Et l q k):=by
 unfold M7 Et
 obtain⟨j,m⟩:=h.at A
 rw[ww (by simpa using A),Ak A,AD]
 generalize l[k]! = x at j m ⊢
 rw[bS _ j,AD]
 cases EX x.Name
 .rfl
 rw[wv (by decide),wv (by decide),Xu _ m,AD,Au (by omega)]
 by_cases w:En x.Value=false/\¬ (q=true/\x.Value=[])
 .rw[ww w,ww (by simp[w.1];cases q<;>simp_all)];rfl
 rw[wv w,wv (by intro e;simp at e;exact w ⟨e.1,by rintro⟨a,b⟩;simp[a,b] at e⟩)]
 by_cases B:k=0
 .subst B;rfl
 .have C:decide ((0:Int)<(k:Int))=true:=by simp;omega
  rw[C,FP (by omega) (by omega)]
  simp only[yS,Av,AD,yO]
  rw[Ak (by omega),AD]
  have:(0<k/\Ay l[k-1]!.Name x.Name=false)↔Ay l[k-1]!.Name x.Name=false:=by grind
  simp only[this]
  cases Ay l[k-1]!.Name x.Name<;>rfl
theorem Fq{o:Option Int} : (A7 (some (Dd o)) λ_:Unit=>some 0)=some (o.getD 0):=by cases o<;>rfl
theorem tJ(l:List AH) j(h:IX l)(m:l.length<=9223372036854775807):OJ l j=some (B1 l j):=by
 unfold OJ
 rw[B5 (n:=l.length) (Et l j) (λk q=>sm l j h m k q) (by unfold Mq;rw[wv (by simp)]),Fq];rfl
theorem XA(l:List AH) j(h:IX l)(m:l.length<=9223372036854775807):LH l j=some (B1 l j):=by
 unfold LH
 rw[B5 (n:=l.length) (Et l j) (λk q=>jq l j h m k q) (by unfold M7;rw[wv (by simp)]),Fq];rfl
theorem Oc(l:List AH)(h:IX l)(j:l.length<=9223372036854775807):JN l=some (B1 l false):=by simp_all [JN,tJ]
def Bw(l:List AH)(name:List UInt8):List UInt8:=((List.range l.length).findSome? λk=>if l[k]!.Name=name then some l[k]!.Value else none).getD []
theorem dC{o:Option (List UInt8)} : (A7 (some (Dd o)) λ_:Unit=>some [])=some (o.getD []):=by cases o<;>rfl
theorem Rx(l:List AH) name(m:l.length<=9223372036854775807):IS l name=some (Bw l name):=by
 unfold IS
 rw[B5 (n:=l.length) (λk=>if l[k]!.Name=name then some l[k]!.Value else none) (λk j=>by
  unfold OG
  rw[ww (by simpa using j),Ak j,AD,Au (by omega)]
  generalize l[k]! = x
  by_cases h:x.Name=name<;>simp[h,DD]) (by unfold OG;rw[wv (by simp)]),dC];rfl
theorem Ri(l:List AH) name(m:l.length<=9223372036854775807):JS l name=some (Bw l name):=by
 unfold JS
 rw[B5 (n:=l.length) (λk=>if l[k]!.Name=name then some l[k]!.Value else none) (λk j=>by
  unfold N7
  rw[ww (by simpa using j),Ak j,AD,Au (by omega)]
  generalize l[k]! = x
  by_cases h:x.Name=name<;>simp[h,DD]) (by unfold N7;rw[wv (by simp)]),dC];rfl
def Dg:AH:=⟨[],[]⟩
def CT(j:AH->AH->List AH->List AH):List AH->List AH->List AH->List AH
 | [],[],c=>c
 | x::a,[],c=>CT j a [] (j x Dg c)
 | [],y::b,c=>CT j [] b (j Dg y c)
 | x::a,y::b,c=>if Ay x.Name y.Name then CT j a (y::b) (j x Dg c) else if Ay y.Name x.Name then CT j (x::a) b (j Dg y c) else CT j a b (j x y c)
  termination_by a b=>a.length+b.length
def TP(l:AH->AH->List AH->List AH)(a b:List AH)(i j:Nat)(o:List AH):Option ((Int × Int × List AH) ⊕ A3 Unit (List AH)):=
 if i<a.length\/j<b.length then
  if j=b.length\/(i<a.length/\Ay a[i]!.Name b[j]!.Name=true) then some (.inl (((i+1:Nat):Int),(j:Int),l a[i]! Dg o))
  else if i=a.length\/Ay b[j]!.Name a[i]!.Name=true then some (.inl ((i:Int),((j+1:Nat):Int),l Dg b[j]! o))
  else some (.inl (((i+1:Nat):Int),((j+1:Nat):Int),l a[i]! b[j]! o))
 else some (.inr (.ext o))
theorem Nv{l:List AH}{i}(h:i<l.length):l.drop i=l[i]!::l.drop (i+1):=by
 rw[xx h,xg l i h]
theorem uN{f} q(a b c:List AH) B(F:∀x y o, (q x y o).length<=o.length+1)
 (J:∀(i j:Nat) (o:List AH), i<=a.length->j<=b.length->o.length+(a.length - i)+(b.length - j)<=B->f (i, j, o)=TP q a b i j o) (hB:c.length+a.length+b.length<=B):iter f (0, 0, c)=some (.ext (CT q a b c)) := by
  have key:∀(m i j:Nat) (o:List AH), i<=a.length->j<=b.length->(a.length - i)+(b.length - j)=m->o.length+m<=B->iter f ((i:Int), (j:Int), o)=some (.ext (CT q (a.drop i) (b.drop j) o)) := by
    intro m
    induction m using Nat.strongRecOn with
    | _ m T =>
      intro i j o M O U V
      have w := J i j o M O (by omega)
      unfold TP at w
      by_cases A:i<a.length
      · rw[Nv A]
        by_cases l:j<b.length
        · rw[Nv l]
          rw[ww (.inl A)] at w
          by_cases C:Ay a[i]!.Name b[j]!.Name=true
          · rw[ww (.inr ⟨A, C⟩)] at w
            rw[CF w, CT, ww C, <- Nv l]
            grind
          · rw[wv (by rintro(h | h);omega;exact C h.2)] at w
            by_cases I:Ay b[j]!.Name a[i]!.Name=true
            · rw[ww (.inr I)] at w
              rw[CF w, CT, wv C, ww I, <- Nv A]
              grind
            · grind [CF, CT]
        · grind [CF, CT, Dg]
      · have E:i=a.length := by omega
        have hd:a.drop i=[] := by grind
        by_cases l:j<b.length
        · rw[ww (.inr l), wv (by rintro(h | h);omega;omega), ww (.inl E)] at w
          rw[Nv l, CF w, hd, CT, <- hd]
          grind
        · grind [Bj, CT]
  exact key _ 0 0 c (yL _) (yL _) rfl (by omega)
theorem Lx{o:List AH}{x}(h:o.length+1<=4398046511104):app 32 o [x]=some (o++[x]):=by grind [app]
def Fc(x y:AH)(o:List AH):List AH:=if y.Name=[] then o++[x] else if y.Value=[] then o else o++[y]
theorem X3(x y o):(Fc x y o).length<=o.length+1:=by grind [Fc]
theorem PT(c:List AH)(x y:AH)(h:c.length+1<=4398046511104):Le c x y=some (Fc x y c):=by
 unfold Le Fc
 rw[Lx h,Lx h]
 by_cases j:y.Name=[]<;>by_cases l:y.Value=[]<;>simp[j,l]
theorem ji(x y:AH):x=y↔x.Name=y.Name/\x.Value=y.Value:=by cases x;cases y;simp
theorem s6(a b:List AH) i j(o:List AH)(I:a.length+b.length<=4398046511104)(T:i<=a.length)(U:j<=b.length)(V:o.length+(a.length-i)+(b.length-j)<=4398046511104):Oi a b i j o=TP Fc a b i j o:=by
 unfold Oi TP
 by_cases m:i<a.length
 .rw[ww (by simp;omega),ww (.inl m),Ak m]
  have A:decide ((i:Int)<(a.length:Int))=true:=by simp;omega
  have e2:decide ((i:Int)=(a.length:Int))=false:=by simp;omega
  rw[A,e2]
  by_cases l:j<b.length
  .have q:decide ((j:Int)=(b.length:Int))=false:=by simp;omega
   rw[q,Ak l]
   simp only[yS,yO,zk,Av,AD,yW]
   rw[PT _ _ _ (by omega),PT _ _ _ (by omega),PT _ _ _ (by omega)]
   simp only[AD]
   rw[Au (by omega),Au (by omega)]
   simp only[AD]
   have w:¬ j=b.length:=by omega
   have B:¬ i=a.length:=by omega
   simp only[w,B,m,true_and,false_or];rfl
  .have C:j=b.length:=by omega
   have q:decide ((j:Int)=(b.length:Int))=true:=by simp;omega
   rw[q]
   have E:((true==false)&&(true==true))=false:=rfl
   rw[E]
   simp only[DO,AD,WAQ]
   rw[ww trivial,ww (.inl C),PT _ _ _ (by omega),AD,Au (by omega),AD];rfl
 .have F:i=a.length:=by omega
  have A:decide ((i:Int)<(a.length:Int))=false:=by simp;omega
  have e2:decide ((i:Int)=(a.length:Int))=true:=by simp;omega
  rw[A,e2]
  by_cases l:j<b.length
  .have q:decide ((j:Int)=(b.length:Int))=false:=by simp;omega
   have J:decide ((j:Int)<(b.length:Int))=true:=by simp;omega
   have w:¬ j=b.length:=by omega
   rw[q,J,ww (by rfl),ww (.inr l),Ak l]
   have E:((false==false)&&(false==true))=false:=rfl
   have M:((true==false))=false:=rfl
   rw[E,M]
   simp only[DO,AD,yW,zC,WAQ,zm,zb,WAF]
   have O:¬ (j=b.length\/i<a.length/\Ay a[i]!.Name b[j]!.Name=true):=by
    grind
   rw[wv O,ww (.inl F),PT _ _ _ (by omega),AD,Au (by omega),AD];rfl
  .grind
theorem nE(c a b:List AH)(h:c.length+a.length+b.length<=4398046511104):N8 c a b=some (CT Fc a b c):=by
 unfold N8
 rw[uN Fc a b c 4398046511104 X3 (λi j o l m q=>s6 a b i j o (by omega) l m q) h];rfl
theorem sf(a b:List AH)(h:a.length+b.length<=4398046511104):Mo a b=some (CT Fc a b []):=by simp_all [Mo,nE]
theorem rq(a b:List AH)(B:a.length<=9223372036854775807):PJ a b=some (decide (a=b)):=by
 unfold PJ
 by_cases m:a.length=b.length
 .rw[wv (by simp[m]),B5 (n:=a.length) (λk=>if decide (a[k]! = b[k]!) then none else some false) (λk w=>by
   unfold PK
   rw[ww (by simpa using w),Ak w,Ak (by omega),AD,AD,Au (by omega)]
   generalize a[k]! = x
   generalize b[k]! = y
   by_cases h:x=y
   .subst h;simp[DD]
   .have A:=h;rw[ji] at A
    simp only[w0 h,Bool.and_true]
    by_cases j:x.Name=y.Name
    .have q:¬ x.Value=y.Value:=λe=>A ⟨j,e⟩
     simp[j,q,DD]
    .simp[j,DD]) (by unfold PK;rw[wv (by simp)]),N2,F1]
  by_cases h:a=b
  .subst h;simp
  .rw[w0 h]
   have:((List.range a.length).all λk=>decide (a[k]! = b[k]!))=false:=by
    rw[<- zj,xf]
    intro l
    apply h
    apply WAd m
    intro k j q
    have:=l k (yA.2 j)
    simp only[xG] at this
    rwa [xg a k j,xg b k q] at this
   rw[this];rfl
 .rw[ww (by simp;omega),w0 (by rintro rfl;exact m rfl)]
theorem ub{α β:Type}[Inhabited α]{f}(l:List α)(j:β->α->β)(I:β->Nat->Prop)(B:∀b k, k<l.length->I b k->I (j b l[k]!) (k+1))
 (C:∀b (k:Nat), k<l.length->I b k->f (b, (k:Int))=some (.inl (j b l[k]!, ((k+1:Nat):Int)))) (J:∀b, f (b, (l.length:Int))=some (.inr b)) (w:β) (E:I w 0):iter f (w, 0)=some (l.foldl j w) := by
  have key:∀(m k:Nat) (b:β), k+m=l.length->I b k->iter f (b, (k:Int))=some ((l.drop k).foldl j b) := by
    intro m
    induction m with
    | zero =>
      grind [Bj]
    | succ m F =>
      intro k b M A
      have q:k<l.length := by omega
      rw[CF (C b k q A), F (k+1) _ (by omega) (B b k q A), xx q, yK, xg l k q]
  have := key l.length 0 w (by omega) E
  grind
theorem jR{α β:Type}[Inhabited α]{f}(l:List α)(j:β->α->β)(I:β->Nat->Prop)(B:∀b k, k<l.length->I b k->I (j b l[k]!) (k+1))
 (C:∀b (k:Nat), k<l.length->I b k->f ((k:Int), b)=some (.inl (((k+1:Nat):Int), j b l[k]!))) (J:∀b, f ((l.length:Int), b)=some (.inr b)) (w:β) (E:I w 0):iter f (0, w)=some (l.foldl j w) := by
  have key:∀(m k:Nat) (b:β), k+m=l.length->I b k->iter f ((k:Int), b)=some ((l.drop k).foldl j b) := by
    intro m
    induction m with
    | zero =>
      grind [Bj]
    | succ m F =>
      intro k b M A
      have q:k<l.length := by omega
      rw[CF (C b k q A), F (k+1) _ (by omega) (B b k q A), xx q, yK, xg l k q]
  have := key l.length 0 w (by omega) E
  grind
theorem pH{α γ β:Type}[Inhabited α]{f}(l:List α)(j:γ × β->α->γ × β)(I:γ × β->Nat->Prop)(B:∀b k, k<l.length->I b k->I (j b l[k]!) (k+1))
 (C:∀c b (k:Nat), k<l.length->I (c, b) k->f (c, (k:Int), b)=some (.inl ((j (c, b) l[k]!).1, ((k+1:Nat):Int), (j (c, b) l[k]!).2))) (J:∀c b, f (c, (l.length:Int), b)=some (.inr (c, b))) (c0:γ) (w:β) (E:I (c0, w) 0) :
    iter f (c0, 0, w)=some (l.foldl j (c0, w)) := by
  have key:∀(m k:Nat) (b:γ × β), k+m=l.length->I b k->iter f (b.1, (k:Int), b.2)=some ((l.drop k).foldl j b) := by
    intro m
    induction m with
    | zero =>
      grind [Bj]
    | succ m F =>
      intro k b M A
      have q:k<l.length := by omega
      rw[CF (C b.1 b.2 k q A), F (k+1) _ (by omega) (B b k q A), xx q, yK, xg l k q]
  have := key l.length 0 (c0, w) (by omega) E
  grind
theorem Ye a:Ay a []=false:=by cases a<;>rfl
theorem F8:∀ {a b c:List UInt8},Ay a b=true->Ay b c=true->Ay a c=true
 | _,[],_,h,_=>by rw[Ye] at h;cases h
 | _,_::_,[],_,h=>by cases h
 | [],_::_,_::_,_,_=>rfl
 | a::x,b::y,c::z,h,k=>by
  rw[VD] at h k ⊢
  simp only[xl,xG,xE,beq_iff_eq,zh] at h k ⊢
  rcases h with h | ⟨rfl,h⟩<;>rcases k with k | ⟨rfl,k⟩
  .left;omega
  .left;exact h
  .left;exact k
  .right;exact⟨rfl,F8 h k⟩
def Bt(l:List AH):Prop:=l.Pairwise λx y=>Ay x.Name y.Name=true
def A9:List AH->List UInt8->Option AH
 | [],_=>none
 | x::l,n=>if x.Name=n then some x else A9 l n
theorem IG{l}{n}(h:∀e∈l,e.Name≠n):A9 l n=none:=by
 induction l with
 | nil=>rfl
 | cons x l j=>grind [A9]
theorem Rw{l}{n}{e:AH}(h:A9 l n=some e):e.Name=n/\e∈l:=by
 induction l with
 | nil=>cases h
 | cons x l j=>
  grind [A9]
theorem FI{a b}(h:Ay a b=true):b≠a:=by grind [LI]
theorem Em{x:AH}{l} : Bt (x::l)↔(∀e∈l,Ay x.Name e.Name=true)/\Bt l:=zO
theorem cA:∀ {l m:List AH},Bt l->Bt m->(∀n,A9 l n=A9 m n)->l=m
 | [],[],_,_,_=>rfl
 | [],y::m,_,_,h=>by have:=h y.Name;simp[A9] at this
 | x::l,[],_,_,h=>by have:=h x.Name;simp[A9] at this
 | x::l,y::m,F,I,h=>by
  have A:=Em.1 F
  have B:=Em.1 I
  have C:x.Name=y.Name:=by
   rcases j:Ay x.Name y.Name with _ | _
   .rcases q:Ay y.Name x.Name with _ | _
    .have:=Lf x.Name y.Name
     rw[j,q] at this
     simpa using this
    .have:=h y.Name
     rw[A9,wv (FI q),IG λe w=>FI (F8 q (A.1 e w)),A9,ww rfl] at this
     cases this
   .have:=h x.Name
    rw[A9,ww rfl,A9,wv (FI j),IG λe w=>FI (F8 j (B.1 e w))] at this
    cases this
  have J:x=y:=by
   have:=h x.Name
   rw[A9,ww rfl,A9,ww C.symm] at this
   exact xh this
  subst J
  rw[cA A.2 B.2 λn=>?_]
  by_cases E:x.Name=n
  .subst E
   rw[IG λe w=>FI (A.1 e w),IG λe w=>FI (B.1 e w)]
  .have:=h n
   rwa [A9,wv E,A9,wv E] at this
def DP:List AH->AH->List AH
 | [],a=>[a]
 | x::l,a=>if x.Name=a.Name then a::l else if Ay x.Name a.Name=true then x::DP l a else a::x::l
theorem iF{l}{a e}(h:e∈DP l a):e=a\/e∈l:=by
 induction l with
 | nil=>grind [DP]
 | cons x l j=>
  grind [DP]
theorem WM{a b}(j:a≠b)(l:¬ Ay a b=true):Ay b a=true:=by grind [Lf]
theorem Z2{l}(a:AH)(h:Bt l):Bt (DP l a):=by
 induction l with
 | nil=>simp[DP,Bt]
 | cons x l B=>
  have q:=Em.1 h
  rw[DP]
  split
  .rename_i A;exact Em.2 ⟨λe j=>by rw[<- A];exact q.1 e j,q.2⟩
  .rename_i A
   split
   .rename_i m
    exact Em.2 ⟨λe j=>by rcases iF j with rfl | j;exact m;exact q.1 e j,B q.2⟩
   .rename_i m
    have w:=WM A m
    exact Em.2 ⟨λe j=>by rcases yD.1 j with rfl | j;exact w;exact F8 w (q.1 e j),h⟩
theorem UR l(a:AH) n:A9 (DP l a) n=if a.Name=n then some a else A9 l n:=by
 induction l with
 | nil=>simp[DP,A9]
 | cons x l j=>
  grind [DP,A9]
theorem Z5(l:List AH) a:(DP l a).length<=l.length+1:=by
 induction l with
 | nil=>simp[DP]
 | cons x l j=>grind [DP]
def Dx(a:AH)(s:Bool × List AH)(x:AH):Bool × List AH:=
 let j:=if s.1=false/\Ay x.Name a.Name=false then(true,s.2++[a]) else s
 if x.Name=a.Name then j else(j.1,j.2++[x])
theorem Vb(a:AH):∀(l:List AH) (o:List AH),(∀e∈l,Ay a.Name e.Name=true)->l.foldl (Dx a) (true,o)=(true,o++l)
 | [],o,_=>by simp
 | x::l,o,h=>by
  have j:=h x (xY ..)
  have:Dx a (true,o) x=(true,o++[x]):=by simp[Dx,FI j]
  rw[yK,this,Vb a l _ λe m=>h e (xZ _ m)]
  simp
theorem ZF(a:AH):∀(l:List AH) (o:List AH),Bt l->(let s:=l.foldl (Dx a) (false,o);if s.1 then s.2 else s.2++[a])=o++DP l a
 | [],o,_=>by simp[DP]
 | x::l,o,h=>by
  have q:=Em.1 h
  rw[yK,DP]
  by_cases m:x.Name=a.Name
  .have B:Ay x.Name a.Name=false:=by rw[m];exact LI _
   have:Dx a (false,o) x=(true,o++[a]):=by simp[Dx,m,LI]
   rw[this,Vb a l _ λe w=>by rw[<- m];exact q.1 e w,ww m]
   simp
  .by_cases j:Ay x.Name a.Name=true
   .have:Dx a (false,o) x=(false,o++[x]):=by simp[Dx,m,j]
    rw[this,ZF a l _ q.2,wv m,ww j]
    simp
   .have A:=WM m j
    have:Dx a (false,o) x=(true,o++[a]++[x]):=by simp[Dx,m,ze.2 j]
    rw[this,Vb a l _ λe w=>F8 A (q.1 e w),wv m,wv j]
    simp
theorem bA a s x:(Dx a s x).2.length<=s.2.length+2:=by grind [Dx,Ay]
theorem uG(l:List AH)(a:AH)(B:Bt l)(h:l.length<=1099511627776):Ln l a=some (DP l a):=by
 unfold Ln
 rw[pH l (Dx a) (λs k=>s.2.length<=2 * k) (λb k _ w=>by have:=bA a b l[k]!;show(Dx a b l[k]!).2.length<=_;omega) (λc b k A w=>by
  have C:b.length<=2 * k:=w
  unfold Qk
  rw[ww (by simpa using A),Ak A,Au (by omega)]
  simp only[AD]
  generalize l[k]! = x
  have E:app 32 b [a]=some (b++[a]):=Lx (by omega)
  have e2:app 32 b [x]=some (b++[x]):=Lx (by omega)
  have F:app 32 (b++[a]) [x]=some (b++[a]++[x]):=Lx (by simp;omega)
  cases c
  .simp only[WAW,yS,Av,AD,yO]
   unfold Dx
   cases J:Ay x.Name a.Name
   .by_cases q:x.Name=a.Name<;>simp[E,F,q]
   .by_cases q:x.Name=a.Name<;>simp[e2,q]
  .have:((!true)==true)=false:=rfl
   rw[this,DO]
   simp only[AD,WAA,zC,zb,WAF,By]
   unfold Dx
   by_cases q:x.Name=a.Name<;>simp[e2,q]) (λc b=>by unfold Qk;rw[wv (by simp)]) false [] (by simp)]
 have hp:=ZF a l [] B
 have j:(l.foldl (Dx a) (false,([]:List AH))).2.length<=2 * l.length:=by
  have:∀(m:List AH) (s:Bool × List AH),(m.foldl (Dx a) s).2.length<=s.2.length+2 * m.length:=by
   intro m
   induction m with
   | nil=>intro s;simp
   | cons x m I=>intro s;rw[yK];have:=I (Dx a s x);have:=bA a s x;simp only[xz];omega
  have:=this l (false,[])
  simpa using this
 generalize l.foldl (Dx a) (false,([]:List AH))=s at hp j
 obtain⟨c,o⟩:=s
 simp only[By]
 cases c
 .simp only[WAW,zm]
  rw[Lx (by simp at j;omega)]
  simpa using hp
 .simpa using hp
def Dk(g:AH->AH->List AH):List AH->List AH->List AH
 | [],[]=>[]
 | x::a,[]=>g x Dg++Dk g a []
 | [],y::b=>g Dg y++Dk g [] b
 | x::a,y::b=>if Ay x.Name y.Name then g x Dg++Dk g a (y::b) else if Ay y.Name x.Name then g Dg y++Dk g (x::a) b else g x y++Dk g a b
  termination_by a b=>a.length+b.length
theorem my j g(h:∀x y o,j x y o=o++g x y):∀(m:Nat) (a b c:List AH),a.length+b.length=m->CT j a b c=c++Dk g a b:=by
 intro m
 induction m using Nat.strongRecOn with
 | _ m l=>
  intro a b c q
  cases a with
  | nil=>
   cases b with
   | nil=>simp[CT,Dk]
   | cons y b=>grind [CT,Dk]
  | cons x a=>
   cases b with
   | nil=>grind [CT,Dk]
   | cons y b=>
    grind [CT,Dk]
def SH(l:List AH)(n:List UInt8)(o:Option AH):Prop:=l=o.toList/\∀e,o=some e->e.Name=n
structure SJ(g:AH->AH->List AH)(G:Option AH->Option AH->Option AH):Prop where
 l:∀x:AH,x.Name≠[]->SH (g x Dg) x.Name (G (some x) none)
 r:∀y:AH,y.Name≠[]->SH (g Dg y) y.Name (G none (some y))
 b:∀x y:AH,x.Name=y.Name->x.Name≠[]->SH (g x y) x.Name (G (some x) (some y))
 n:G none none=none
theorem ot{o:Option AH}{j}{rest}(l:∀e,o=some e->e.Name=j)(m:∀e∈rest,Ay j e.Name=true)(q:Bt rest):Bt (o.toList++rest)/\∀n,A9 (o.toList++rest) n=if j=n then o else A9 rest n:=by
 cases o with
 | none=>
  grind [IG,FI]
 | some x=>
  have w:=l x rfl
  refine⟨Em.2 ⟨λe A=>by rw[w];exact m e A,q⟩,λn=>?_⟩
  grind [A9]
def Nm(l:List AH):Prop:=∀e∈l,e.Name≠[]
theorem rg{g}{G}(hg:SJ g G):∀(m:Nat) (a b:List AH),a.length+b.length=m->Bt a->Bt b->Nm a->Nm b ->
  (∀n,(∀e∈a,Ay n e.Name=true)->(∀e∈b,Ay n e.Name=true)->∀e∈Dk g a b,Ay n e.Name=true)/\Bt (Dk g a b)/\∀n,A9 (Dk g a b) n=G (A9 a n) (A9 b n):=by
 intro m
 induction m using Nat.strongRecOn with
 | _ m ih=>
  intro a b U X V T M
  have tail:∀ {l:List AH} {J:List UInt8} {o:Option AH} {a' b':List AH},SH l J o->a'.length+b'.length<m->Bt a'->Bt b'->Nm a'->Nm b'->(∀e∈a',Ay J e.Name=true)->(∀e∈b',Ay J e.Name=true) ->
    (∀n,Ay n J=true->∀e∈l++Dk g a' b',Ay n e.Name=true)/\Bt (l++Dk g a' b')/\∀n,A9 (l++Dk g a' b') n=if J=n then o else G (A9 a' n) (A9 b' n):=by
   rintro l J o a' b' ⟨rfl,ho⟩ q Z a0 a1 a2 w C
   obtain⟨i1,i2,i3⟩:=ih _ q a' b' rfl Z a0 a1 a2
   obtain⟨j1,j2⟩:=ot ho (i1 J w C) i2
   refine⟨λn B e j=>?_,j1,λn=>by rw[j2 n,i3 n]⟩
   rcases yY.1 j with j | j
   .rw[Option.mem_toList] at j;rw[ho e j];exact B
   .exact F8 B (i1 J w C e j)
  cases a with
  | nil=>
   cases b with
   | nil=>exact⟨λn _ _ e j=>by simp[Dk] at j,by simp[Dk,Bt],λn=>by simp[Dk,A9,hg.n]⟩
   | cons y b=>
    have w:=Em.1 V
    have hy:=M y (xY ..)
    rw[Dk]
    obtain⟨E,F,I⟩:=tail (a':=[]) (b':=b) (hg.r y hy) (by simp at U ⊢;omega) X w.2 T (λe j=>M e (xZ _ j)) (λe j=>by cases j) w.1
    refine⟨λn _ h e j=>E n (h y (xY ..)) e j,F,λn=>?_⟩
    rw[I n]
    conv=>rhs;rw[A9,A9]
    split
    .rfl
    .rfl
  | cons x a=>
   have w:=Em.1 X
   have hx:=T x (xY ..)
   cases b with
   | nil=>
    rw[Dk]
    obtain⟨E,F,I⟩:=tail (a':=a) (b':=[]) (hg.l x hx) (by simp at U ⊢;omega) w.2 V (λe j=>T e (xZ _ j)) M w.1 (λe j=>by cases j)
    refine⟨λn h _ e j=>E n (h x (xY ..)) e j,F,λn=>?_⟩
    rw[I n]
    conv=>rhs;rw[A9,A9]
    split
    .rfl
    .rfl
   | cons y b=>
    have C:=Em.1 V
    have hy:=M y (xY ..)
    rw[Dk]
    split
    .rename_i q
     obtain⟨E,F,I⟩:=tail (a':=a) (b':=y::b) (hg.l x hx) (by simp at U ⊢;omega) w.2 V (λe j=>T e (xZ _ j)) M w.1 (λe j=>by
      rcases yD.1 j with rfl | j
      .exact q
      .exact F8 q (C.1 e j))
     refine⟨λn h _ e j=>E n (h x (xY ..)) e j,F,λn=>?_⟩
     rw[I n]
     by_cases B:x.Name=n
     .subst B
      rw[ww rfl,A9,ww rfl,IG λe j=>by
       rcases yD.1 j with rfl | j
       .exact FI q
       .exact FI (F8 q (C.1 e j))]
     .rw[wv B];conv=>rhs;rw[A9,wv B]
    .rename_i q
     split
     .rename_i A
      obtain⟨E,F,I⟩:=tail (a':=x::a) (b':=b) (hg.r y hy) (by simp at U ⊢;omega) X C.2 T (λe j=>M e (xZ _ j)) (λe j=>by
       rcases yD.1 j with rfl | j
       .exact A
       .exact F8 A (w.1 e j)) C.1
      refine⟨λn _ h e j=>E n (h y (xY ..)) e j,F,λn=>?_⟩
      rw[I n]
      by_cases B:y.Name=n
      .subst B
       rw[ww rfl]
       conv=>rhs;rw[IG (l:=x::a) (λe j=>by
        rcases yD.1 j with rfl | j
        .exact FI A
        .exact FI (F8 A (w.1 e j))),A9,ww rfl]
      .rw[wv B];conv=>rhs;arg 2;rw[A9,wv B]
     .rename_i A
      have O:x.Name=y.Name:=by
       have:=Lf x.Name y.Name
       rw[ze.2 q,ze.2 A] at this
       simpa using this
      obtain⟨E,F,I⟩:=tail (a':=a) (b':=b) (hg.b x y O hx) (by simp at U ⊢;omega) w.2 C.2 (λe j=>T e (xZ _ j)) (λe j=>M e (xZ _ j)) w.1 (λe j=>by rw[O];exact C.1 e j)
      refine⟨λn h _ e j=>E n (h x (xY ..)) e j,F,λn=>?_⟩
      rw[I n]
      conv=>rhs;rw[A9,A9,<- O]
      split<;>rfl
def Hy:Option AH->Option AH->Option AH
 | o,none=>o
 | _,some y=>if y.Value=[] then none else some y
theorem YV{j}{g}{G}(h:∀x y o,j x y o=o++g x y)(hg:SJ g G){a b}(l:Bt a)(m:Bt b)(q:Nm a)(w:Nm b) :
  Bt (CT j a b [])/\∀n,A9 (CT j a b []) n=G (A9 a n) (A9 b n):=by
 rw[my j g h _ a b [] rfl,yR]
 exact(rg hg _ a b rfl l m q w).2
def M0(x y:AH):List AH:=if y.Name=[] then [x] else if y.Value=[] then [] else [y]
theorem gt:SJ M0 Hy:=by
 refine⟨λx j=>⟨by simp[M0,Hy,Dg],by rintro e ⟨⟩;rfl⟩,λy m=>⟨?_,?_⟩,λx y l j=>⟨?_,?_⟩,rfl⟩
 .grind [M0,Hy]
 .grind [Hy]
 .grind [M0,Hy]
 .grind [Hy]
theorem bM(x y o):Fc x y o=o++M0 x y:=by grind [Fc,M0]
theorem tQ{l:List AH}(h:∀k,k+1<l.length->Ay l[k]!.Name l[k+1]!.Name=true):Bt l:=by
 induction l with
 | nil=>exact List.Pairwise.nil
 | cons x l w=>
  have m:=w λk A=>by have:=h (k+1) (by simp;omega);simpa using this
  refine Em.2 ⟨λe j=>?_,m⟩
  cases l with
  | nil=>cases j
  | cons y l=>
   have q:Ay x.Name y.Name=true:=by have:=h 0 (by simp);simpa using this
   rcases yD.1 j with rfl | j
   .exact q
   .exact F8 q ((Em.1 m).1 e j)
theorem Ke{l:List AH}{ch:Bool}(h:B1 l ch=0):Bt l/\Nm l/\(ch=false->∀e∈l,e.Value≠[]):=by
 have hn:∀k,k<l.length->Et l ch k=none:=by
  intro k hk
  unfold B1 at h
  cases hf:(List.range l.length).findSome? (Et l ch) with
  | none=>grind
  | some r=>
   rw[hf] at h
   obtain⟨j,_,hj⟩:=yE hf
   grind [Et]
 have hname:∀k,k<l.length->EX l[k]!.Name=true/\¬ (En l[k]!.Value=false/\¬ (ch=true/\l[k]!.Value=[]))/\¬ (0<k/\Ay l[k-1]!.Name l[k]!.Name=false):=by
  grind [Et,EX]
 refine⟨tQ λk hk=>?_,λe he=>?_,λhc e he=>?_⟩
 .grind
 .obtain⟨k,hk,rfl⟩:=yH.1 he
  have:=(hname k hk).1
  rw[xg l k hk] at this
  intro e0
  simp_all [e0,EX]
 .obtain⟨k,hk,rfl⟩:=yH.1 he
  have:=(hname k hk).2.1
  rw[xg l k hk,hc] at this
  intro e0
  apply this
  rw[e0]
  exact⟨rfl,by simp⟩
theorem Yk(p:AH->Bool)(h:AH->AH)(j:∀x,(h x).Name=x.Name):∀(l o:List AH),Bt l->Bt o ->
  Bt (l.foldl (λo x=>if p x then DP o (h x) else o) o)/\∀n,A9 (l.foldl (λo x=>if p x then DP o (h x) else o) o) n=match A9 l n with | some x=>if p x then some (h x) else A9 o n | none=>A9 o n
 | [],o,_,m=>⟨m,λn=>rfl⟩
 | x::l,o,B,m=>by
  have A:=Em.1 B
  have w:Bt (if p x then DP o (h x) else o):=by split;exact Z2 _ m;exact m
  obtain⟨C,E⟩:=Yk p h j l _ A.2 w
  refine⟨C,λn=>?_⟩
  rw[yK,E n,A9]
  by_cases q:x.Name=n
  .subst q
   rw[ww rfl,IG λe F=>FI (A.1 e F)]
   cases hp:p x
   .simp[hp]
   .simp[hp,UR,j]
  .rw[wv q]
   cases I:A9 l n with
   | some z => 
    cases hp:p x
    .simp[hp]
    .simp[hp,UR,j,q]
   | none=>
    cases hp:p x
    .simp[hp]
    .simp[hp,UR,j,q]
theorem sq(p:AH->Bool)(h:AH->AH)(l o:List AH):(l.foldl (λo x=>if p x then DP o (h x) else o) o).length<=o.length+l.length:=by
 induction l generalizing o with
 | nil=>simp
 | cons x l j=>
  grind [DP,Z5]
def F3(l o:List AH):List AH:=l.foldl (λo x=>if(λ_=>true) x then DP o (id x) else o) o
theorem VC{l o}(j:Bt l)(m:Bt o):Bt (F3 l o)/\∀n,A9 (F3 l o) n=match A9 l n with | some x=>some x | none=>A9 o n:=by
 obtain⟨q,w⟩:=Yk (λ_=>true) id (λ_=>rfl) l o j m
 grind [F3,A9]
theorem gE(l o:List AH):(F3 l o).length<=o.length+l.length:=sq _ _ _ _
theorem fv{f}(l o:List AH)(j:Bt o)(B:o.length+l.length<=1099511627776)
 (C:∀b (k:Nat), k<l.length->f (b, (k:Int))=(AB (Ln b l[k]!) λo2 => AB (AX .i64 ((k:Int)+1)) λx => some (.inl (o2, x)))) (m:∀b, f (b, (l.length:Int))=some (.inr b)):iter f (o, 0)=some (F3 l o) := by
  unfold F3
  refine ub l _ (λb k => Bt b/\b.length<=o.length+k) (λb k q ⟨w, A⟩ => ?_) (λb k q ⟨w, A⟩ => ?_) m o ⟨j, by omega⟩
  · grind [Z5, Z2, DP]
  · grind [uG, AD, Au]
def GA(l:List AH):List AH:=l.filter λa=>!(a.Value=[])
theorem te{l}(h:Bt l):Bt (GA l)/\∀n,A9 (GA l) n=(A9 l n).filter λa=>!(a.Value=[]):=by
 induction l with
 | nil=>exact⟨List.Pairwise.nil,λn=>rfl⟩
 | cons x l q=>
  have m:=Em.1 h
  obtain⟨w,C⟩:=q m.2
  have j:∀e∈GA l,Ay x.Name e.Name=true:=λe A=>m.1 e (za.1 A).1
  by_cases B:x.Value=[]
  .grind [GA,A9,IG,FI]
  .have:GA (x::l)=x::GA l:=by simp[GA,B]
   rw[this]
   refine⟨Em.2 ⟨j,w⟩,λn=>?_⟩
   grind [A9]
theorem oV(l q:List AH)(C:Bt l)(hc:Bt q)(h:l.length+q.length<=1099511627776):NQ l q=some (GA (F3 q (F3 l []))):=by
 unfold NQ
 have B:Bt ([]:List AH):=List.Pairwise.nil
 have E:=(VC C B).1
 have A:=gE l []
 have F:=gE q (F3 l [])
 rw[fv l [] B (by simp;omega) (λb k j=>by unfold Pr;rw[ww (by simpa using j),Ak j];rfl) (λb=>by unfold Pr;rw[wv (by simp)]),AD,
  fv q _ E (by simp at A;omega) (λb k j=>by unfold QI;rw[ww (by simpa using j),Ak j];rfl) (λb=>by unfold QI;rw[wv (by simp)]),AD]
 generalize F3 q (F3 l [])=r at F
 rw[jR r (λo x=>if x.Value=[] then o else o++[x]) (λb k=>b.length<=k) (λb k j I=>by split;omega;simp;omega) (λb k j I=>by
  unfold Of
  rw[ww (by simpa using j),Ak j,AD,Au (by simp at A;omega)]
  generalize r[k]! = x
  by_cases w:x.Value=[]
  .simp[w]
  .have:=Lx (o:=b) (x:=x) (by simp at A;omega)
   simp[w,this]) (λb=>by unfold Of;rw[wv (by simp)]) [] (by simp),AD]
 have:∀(m o:List AH),m.foldl (λo x=>if x.Value=[] then o else o++[x]) o=o++GA m:=by
  intro m
  induction m with
  | nil=>intro o;simp[GA]
  | cons x m J=>
   intro o
   rw[yK,J]
   by_cases w:x.Value=[]
   .simp[w,GA]
   .simp[w,GA]
 rw[this];rfl
theorem jx{l j}(w:B1 l false=0)(A:B1 j true=0):CT Fc l j []=GA (F3 j (F3 l [])):=by
 obtain⟨m,B,v1⟩:=Ke w
 obtain⟨q,C,_⟩:=Ke A
 have E:Bt ([]:List AH):=List.Pairwise.nil
 obtain⟨F,I⟩:=VC m E
 obtain⟨J,M⟩:=VC q F
 obtain⟨O,T⟩:=te J
 obtain⟨U,m2⟩:=YV bM gt m q B C
 refine cA U O λn=>?_
 rw[m2,T,M,I]
 cases X:A9 j n with
 | some y=>
  grind [Hy]
 | none=>
  cases V:A9 l n with
  | some x=>simp[Hy,Option.filter,v1 rfl x (Rw V).2]
  | none=>simp[Hy,A9,Option.filter]
theorem sp{ρ:Type}(g:AH->Option ρ)(l:List AH):(List.range l.length).findSome? (λk=>g l[k]!)=l.findSome? g:=by
 induction l with
 | nil=>rfl
 | cons a l j=>
  rw[xz,List.range_succ_eq_map,zK,List.findSome?_map,zK]
  have:(List.range l.length).findSome? ((λk=>g (a::l)[k]!) ∘ Nat.succ)=l.findSome? g:=by
   rw[<- j];exact bV λk _=>by simp
  rw[this]
  simp
theorem q9{ρ:Type}(l:List AH)(n:List UInt8)(v:AH->ρ):(l.findSome? λx=>if x.Name=n then some (v x) else none)=(A9 l n).map v:=by
 induction l with
 | nil=>rfl
 | cons x l j=>
  rw[zK,A9]
  by_cases h:x.Name=n
  .simp[h]
  .simp[h,j]
theorem qI(l:List AH)(n:List UInt8):Bw l n=match A9 l n with | some x=>x.Value | none=>[]:=by
 unfold Bw
 rw[sp (λx=>if x.Name=n then some x.Value else none) l,q9 l n (·.Value)]
 cases A9 l n<;>rfl
theorem iZ j(h:∀x y o,(j x y o).length<=o.length+1):∀(m:Nat) (a b c:List AH),a.length+b.length=m->(CT j a b c).length<=c.length+m:=by
 intro m
 induction m using Nat.strongRecOn with
 | _ m q=>
  intro a b c l
  cases a with
  | nil=>
   cases b with
   | nil=>simp[CT]
   | cons y b=>rw[CT];have:=q (m-1) (by simp at l;omega) [] b (j Dg y c) (by simp at l ⊢;omega);have:=h Dg y c;simp at l;omega
  | cons x a=>
   cases b with
   | nil=>rw[CT];have:=q (m-1) (by simp at l;omega) a [] (j x Dg c) (by simp at l ⊢;omega);have:=h x Dg c;simp at l;omega
   | cons y b=>
    rw[CT]
    split
    .have:=q (m-1) (by simp at l;omega) a (y::b) (j x Dg c) (by simp at l ⊢;omega);have:=h x Dg c;simp at l;omega
    .split
     .have:=q (m-1) (by simp at l;omega) (x::a) b (j Dg y c) (by simp at l ⊢;omega);have:=h Dg y c;simp at l;omega
     .have:=q (m-2) (by simp at l;omega) a b (j x y c) (by simp at l ⊢;omega);have:=h x y c;simp at l;omega
theorem Jo{σ β:Type}{f}(n:Nat)(R:Nat->σ->Prop)(Q:β->Prop)
 (A:∀k s, k<n->R k s->(∃j, f s=some (.inl j)/\R (k+1) j)\/(∃b, f s=some (.inr b)/\Q b))
 (B:∀s, R n s->∃b, f s=some (.inr b)/\Q b) {s} (C:R 0 s):∃b, iter f s=some b/\Q b := by
  have key:∀m k s, k+m=n->R k s->∃b, iter f s=some b/\Q b := by
    intro m
    induction m with
    | zero =>
      intro k s E l
      obtain rfl:k=n := by omega
      obtain⟨b, F, I⟩ := B s l
      exact⟨b, Bj F, I⟩
    | succ m J =>
      intro k s E l
      rcases A k s (by omega) l with ⟨j, q, w⟩ | ⟨b, q, w⟩
      · obtain⟨b, M, O⟩ := J (k+1) j (by omega) w
        exact⟨b, by rw[CF q, M], O⟩
      · exact⟨b, Bj q, w⟩
  exact key n 0 s (by omega) C
theorem ft{α:Type}[Inhabited α]{l:List α}{k}(h:k<l.length):l.drop k=l[k]!::l.drop (k+1):=by
 rw[xx h,xg l k h]
theorem Oo{α:Type}[Inhabited α]{l:List α}{k}(h:k<l.length):l.take (k+1)=l.take k++[l[k]!]:=by
 rw[List.take_add_one,wz h,xg l k h];rfl
theorem Bs{α:Type}[Inhabited α]{l:List α}{k}(h:k<l.length):l[k]! ∈ l:=by
 rw[xg l k h];exact xw h
theorem Lq{x}(j : -9223372036854775808<=x)(l:x<=9223372036854775807):AX .i64 x=some x:=CX j l
theorem O4 x j l:DB x j l=some ((j<=x)&&(x<=l)):=by
 unfold DB
 rfl
theorem Ex{α σ β γ:Type}[Inhabited α]{f}(l:List α)(mk:γ->Nat->σ)(j:List α->γ->β)(I:Nat->γ->Prop)
 (B:∀k c, k<l.length->I k c->(∃q, f (mk c k)=some (.inl (mk q (k+1)))/\I (k+1) q/\j (l[k]!::l.drop (k+1)) c=j (l.drop (k+1)) q)\/f (mk c k)=some (.inr (j (l[k]!::l.drop (k+1)) c)))
 (C:∀c, I l.length c->f (mk c l.length)=some (.inr (j [] c))) (c:γ) (E:I 0 c) (s:σ) (F:s=mk c 0):iter f s=some (j l c) := by
  subst F
  have key:∀m k c, k+m=l.length->I k c->iter f (mk c k)=some (j (l.drop k) c) := by
    intro m
    induction m with
    | zero =>
      intro k c J w
      obtain rfl:k=l.length := by omega
      rw[List.drop_length]
      exact Bj (C c w)
    | succ m M =>
      intro k c J w
      rw[ft (by omega)]
      rcases B k c (by omega) w with ⟨q, A, O, T⟩ | A
      · rw[CF A, M (k+1) q (by omega) O, T]
      · exact Bj A
  have := key l.length 0 c (by omega) E
  rwa [zL] at this
theorem sY(a b:List Int)(A:a.length<=9223372036854775807):Qf a b=some (decide (a=b)):=by
 unfold Qf
 by_cases l:a.length=b.length
 .rw[wv (by simp[l]),B5 (n:=a.length) (λk=>if decide (a[k]! = b[k]!) then none else some false) (λk m=>by
   unfold QJ
   rw[ww (by simpa using m),Ak m,Ak (by omega),AD,AD,Au (by omega)]
   generalize a[k]! = x
   generalize b[k]! = y
   by_cases h:x=y
   .subst h;simp[DD]
   .simp[h,DD]) (by unfold QJ;rw[wv (by simp)]),N2,F1]
  by_cases h:a=b
  .subst h;simp
  .rw[w0 h]
   have:((List.range a.length).all λk=>decide (a[k]! = b[k]!))=false:=by
    rw[<- zj,xf]
    intro j
    apply h
    apply WAd l
    intro k q w
    have:=j k (yA.2 q)
    simp only[xG] at this
    rwa [xg a k q,xg b k w] at this
   rw[this];rfl
 .rw[ww (by simp;omega),w0 (by rintro rfl;exact l rfl)]
theorem Ky{o:List Int}{x}(h:o.length+1<=1099511627776):app 8 o [x]=some (o++[x]):=by
 unfold app;rw[ww (by simp;omega)]
def H0(c:Int):Bool:=(c=9)||(c=10)||((32<=c)&&(c<=126))||((160<=c)&&(c<=55295))||((57344<=c)&&(c<=1114111))
def Fd(x:Aq):Int:=
 if(x.Char=0/\x.Ref=0)\/(x.Char≠0/\x.Ref≠0) then 4 else if(x.Char≠0/\H0 x.Char=false)\/(x.Ref≠0/\¬ (1<=x.Ref/\x.Ref<=1073741824)) then 2 else B1 x.Attrs false
def II(x:Aq):Prop:=x.Attrs.length<=9223372036854775807/\IX x.Attrs
theorem YD c:Mi c=some (H0 c):=by grind [Mi,H0]
theorem fN c:Mz c=some (H0 c):=by
 unfold Mz H0
 rw[O4,O4,O4]
 generalize decide (c=9)=j
 generalize decide (c=10)=l
 generalize ((32<=c)&&(c<=126))=a3
 generalize ((160<=c)&&(c<=55295))=a4
 generalize ((57344<=c)&&(c<=1114111))=a5
 cases j<;>cases l<;>cases a3<;>cases a4<;>cases a5<;>rfl
theorem fA(x:Aq)(h:II x):O5 x=some (Fd x):=by
 unfold O5 Fd
 rw[YD,Oc _ h.2 h.1]
 by_cases c:x.Char=0
 .by_cases r:x.Ref=0
  .simp[c,r]
  .by_cases q:1<=x.Ref/\x.Ref<=1073741824
   .have j:¬ x.Ref<1:=by omega
    have l:¬ 1073741824<x.Ref:=by omega
    simp[c,r,q,j,l]
   .have j:x.Ref<1\/1073741824<x.Ref:=by omega
    simp_all
 .by_cases r:x.Ref=0
  .cases m:H0 x.Char<;>simp[c,r,m]
  .simp[c,r]
theorem bE(x:Aq)(h:II x):Ot x=some (Fd x):=by
 unfold Ot Fd
 rw[fN,XA _ _ h.2 h.1,O4]
 by_cases c:x.Char=0
 .by_cases r:x.Ref=0
  .simp[c,r]
  .by_cases q:1<=x.Ref/\x.Ref<=1073741824
   .simp[c,r,q]
   .simp_all
 .by_cases r:x.Ref=0
  .cases j:H0 x.Char<;>simp[c,r,j]
  .simp[c,r]
def I2(f:List Aq)(k:Nat):Option Int:=if Fd f[k]! = 0 then none else some (Fd f[k]!)
def Vt(f:List Aq):Int:=((List.range f.length).findSome? (I2 f)).getD 0
def pD:List UInt8:=[104,105,100,100,101,110]
def jw:List UInt8:=[111,110]
def mU:List UInt8:=[99,117,116]
def qo:List UInt8:=[97,100,100]
def BR(x:Aq)(mode:Int):Bool:=(Bw x.Attrs pD=jw)||((mode=0)&&!(Bw x.Attrs mU=[]))||((mode=1)&&!(Bw x.Attrs qo=[]))
def seen(f:List Aq)(mode:Int)(k:Nat):Bool:=!BR f[k]! mode||((k+1=f.length)&&(f[k]!.Char=10))
def shown(f:List Aq)(mode:Int)(k:Nat):List Int:=((List.range k).filter (seen f mode)).map λ(i:Nat)=>(i:Int)
theorem DJ{p}[Decidable p](h:¬ p):(!decide p)=true:=by simp[h]
theorem Cv{p}[Decidable p](h:p):¬ ((!decide p)=true):=by simp[h]
def JY(l:List AH):Prop:=l.length<=1073741824/\IX l
inductive Un where
 | a (e:Aq)
 | r (cut:Bool) (at_:List AH)
theorem Yt{α:Type}{o:List α}{x}(h:o.length+1<=1099511627776):app 24 o [x]=some (o++[x]):=by
 unfold app;rw[ww];simp only[y9];omega
theorem YZ{α:Type}{o xs:List α}(h:o.length+xs.length<=1099511627776):app 40 o xs=some (o++xs):=by
 unfold app;rw[ww];omega
theorem Yz{α:Type}{l:List α}{k:Nat}{x:α} : l.set ((k:Int).toNat) x=l.set k x:=by simp
theorem ld{α β:Type}[Inhabited α]{f}(l:List α)(g:α->β)(z:β)
 (h:∀(k:Nat) (out:List β), k<l.length->out.length=l.length->f ((k:Int), out)=some (.inl (((k+1:Nat):Int), out.set k (g l[k]!)))) (j:∀out, f ((l.length:Int), out)=some (.inr out)) :
    iter f (0, List.replicate l.length z)=some (l.map g) := by
  have key:∃r, iter f (0, List.replicate l.length z)=some r/\r=l.map g := by
    refine Jo l.length (λk q => q=((k:Int), (l.take k).map g++List.replicate (l.length - k) z)) _ ?_ ?_ (by simp)
    · rintro k q w rfl
      refine .inl ⟨_, h k _ w (by simp;omega), ?_⟩
      congr 1
      obtain⟨m, A⟩:∃m, l.length - k=m+1 := ⟨l.length - k - 1, by omega⟩
      rw[A, List.replicate_succ, Oo w, yq, WAN _ _ (by rw[xk, yZ];omega), show l.length - (k+1)=m by omega]
      have:k - ((l.take k).map g).length=0 := by simp;omega
      rw[this, List.set_cons_zero, yQ];rfl
    · rintro q rfl
      refine⟨_, j _, by simp⟩
  obtain⟨r, B, C⟩ := key
  rw[B, C]
theorem UE{l:List AH}(h:l.length<=1073741824):app 32 [] l=some l:=by
 unfold app;rw[ww];rfl;simp;omega
theorem lW{α:Type}{n:Nat}(z:α)(h:n<=4294967296):mk 40 (n:Int) z=some (List.replicate n z):=by
 unfold mk;rw[ww (by omega)];simp
theorem ox(f:List Aq)(l:f.length<=4294967296)(h:∀e∈f,JY e.Attrs):P5 f=some f:=by
 unfold P5
 rw[lW _ l,AD]
 have:=ld (f:=λ(a:Int × (List Aq))=>JL f a.1 a.2) f id (Aq.mk 0 0 []) (λk out j q=>by
  have m:=(h _ (Bs j)).1
  show JL f (k:Int) out=_
  unfold JL
  rw[ww (by simpa using j),Ak j,AD,UE m,AD,Ak (by omega),AD,Au (by omega),AD,Yz]
  rfl) (λout=>by
  show JL f (f.length:Int) out=_
  unfold JL
  rw[wv (by simp)])
 rw[this,List.map_id];rfl
theorem kq{α:Type}(l:List α)(n:Int)(j:0<=n)(h:n<=l.length):Dl l 0 n=some (l.take n.toNat):=by
 unfold Dl;rw[ww (by omega)];simp
theorem iy{α:Type}[Inhabited α][DecidableEq α]{a b:List α}(l:a.length=b.length)(h:((List.range a.length).all λk=>decide (a[k]! = b[k]!))=true):a=b:=by
 apply WAd l
 intro k j m
 have:=xf.1 h k (yA.2 j)
 simp only[xG] at this
 rwa [xg a k j,xg b k m] at this
theorem V9{κ}(j:∀a,a.Name.length+a.Value.length+1<=κ a){l:List AH}(q:(l.map κ).sum<=1048576):JY l:=by
 have w:=Nf (μ:=κ) (λa=>by have:=j a;omega) l
 refine⟨by omega,λa m=>?_⟩
 have A:=Jf (μ:=κ) m
 have:=j a
 omega
theorem tC{ν}{κ}(j:∀e,(e.Attrs.map κ).sum+1<=ν e)(l:∀a,a.Name.length+a.Value.length+1<=κ a){f:List Aq}(q:(f.map ν).sum<=1048576):f.length<=1048576/\∀e∈f,JY e.Attrs:=by
 have w:=Nf (μ:=ν) (λe=>by have:=j e;omega) f
 refine⟨by omega,λe m=>V9 l ?_⟩
 have A:=Jf (μ:=ν) m
 have:=j e
 omega
def W0:Xn:=⟨[],0,0⟩
def RD(f:List Aq):Int:=if Vt f≠0 then Vt f else if f=[]\/f[f.length-1]!.Char≠10 then 11 else 0
theorem sM{f}{k}{r}(h:I2 f k=some r):r≠0:=by grind [I2]
theorem dG(f:List Aq)(B:f.length<=1073741824):(A7 (some (Dd ((List.range f.length).findSome? (I2 f)))) λ(_:Unit)=>
  AB (gd ((true==true)&&((decide ((f.length:Int)=0))==false)) (AX .i64 ((f.length:Int)-1))) λ(m:Int)=>
  AB (gd ((true==true)&&((decide ((f.length:Int)=0))==false)) (AO f m)) λ(q:Aq)=>
  if(true&&(((f.length:Int)=0)||(!(q.Char=10)))) then some (11:Int) else some 0)=some (RD f):=by
 rw[F1]
 unfold RD Vt
 cases w:(List.range f.length).findSome? (I2 f) with
 | some r=>
  have j:r≠0:=by
   obtain⟨k,A⟩:=yE w
   exact sM A.2
  dsimp only [Option.getD]
  rw[ww j]
 | none=>
  dsimp only [Option.getD]
  rw[wv (by decide)]
  by_cases l:f=[]
  .subst l;rfl
  .have C:0<f.length:=ya.2 l
   have hd:decide ((f.length:Int)=0)=false:=w0 (by omega)
   grind [Av,CX,AD,Ak]
theorem pV(f:List Aq)(h:∀x∈f,II x)(l:f.length<=1073741824):H4 f true=some (RD f):=by
 unfold H4
 rw[B5 (n:=f.length) (I2 f) (λk j=>by
  unfold La I2
  rw[ww (by simpa using j),Ak j,AD,Au (by omega),fA _ (h _ (Bs j)),AD]
  by_cases e:Fd f[k]! = 0
  .rw[wv (Cv e),ww e];rfl
  .rw[ww (DJ e),wv e];rfl) (by unfold La;rw[wv (by simp)])]
 exact dG f l
theorem nm(f:List Aq)(h:∀x∈f,II x)(l:f.length<=1073741824):KL f true=some (RD f):=by
 unfold KL
 rw[B5 (n:=f.length) (I2 f) (λk j=>by
  unfold Kn I2
  rw[ww (by simpa using j),Ak j,AD,Au (by omega),bE _ (h _ (Bs j)),AD]
  by_cases e:Fd f[k]! = 0
  .rw[wv (Cv e),ww e];rfl
  .rw[ww (DJ e),wv e];rfl) (by unfold Kn;rw[wv (by simp)])]
 exact dG f l
instance:Inhabited Un:=⟨.r false []⟩
def off(n:List UInt8):AH:=⟨n,[]⟩
theorem mN:GH.length=256:=by decide +kernel
theorem vI(s:List UInt8) k(j:k<=s.length):Dl s (k:Int) (s.length:Int)=some (s.drop k):=by
 unfold Dl
 rw[ww (by omega)]
 congr 1
 rw[z8 (by simp),yo]
def J9(t:Bool)(f:List Aq)(k:Nat):Option Int:=if Fd f[k]! = 0 then(if t=false/\f[k]!.Ref=0 then some 8 else none) else some (Fd f[k]!)
theorem ti{x:Aq}(h:Fd x=0):(x.Ref=0↔x.Char≠0):=by grind [Fd]
theorem Yy(f:List Aq)(h:∀x∈f,II x)(l:f.length<=1073741824):H4 f false=some (((List.range f.length).findSome? (J9 false f)).getD 0):=by
 unfold H4
 rw[B5 (n:=f.length) (J9 false f) (λk j=>by
  unfold La J9
  rw[ww (by simpa using j),Ak j,AD,Au (by omega),fA _ (h _ (Bs j)),AD]
  generalize f[k]! = x
  by_cases e:Fd x=0
  .rw[wv (Cv e),ww e]
   by_cases r:x.Ref=0
   .rw[ww (show(!false&&(x.Ref=0))=true by rw[w9 r];rfl),ww ⟨rfl,r⟩];rfl
   .rw[wv (show ¬ (!false&&(x.Ref=0))=true by rw[w0 r];decide),wv (λh=>r h.2)];rfl
  .rw[ww (DJ e),wv e];rfl) (by unfold La;rw[wv (by simp)])]
 cases (List.range f.length).findSome? (J9 false f)<;>rfl
theorem nW(f:List Aq)(h:∀x∈f,II x)(q:f.length<=1073741824):KL f false=some (((List.range f.length).findSome? (J9 false f)).getD 0):=by
 unfold KL
 rw[B5 (n:=f.length) (J9 false f) (λk j=>by
  unfold Kn J9
  rw[ww (by simpa using j),Ak j,AD,Au (by omega),bE _ (h _ (Bs j)),AD]
  generalize f[k]! = x
  by_cases e:Fd x=0
  .rw[wv (Cv e),ww e]
   have m:=ti e
   by_cases r:x.Ref=0
   .rw[ww (show(!false&&!(x.Char=0))=true by rw[w0 (m.1 r)];rfl),ww ⟨rfl,r⟩];rfl
   .have l:x.Char=0:=xp λl=>r (m.2 l)
    rw[wv (show ¬ (!false&&!(x.Char=0))=true by rw[w9 l];decide),wv (λh=>r h.2)];rfl
  .rw[ww (DJ e),wv e];rfl) (by unfold Kn;rw[wv (by simp)])]
 cases (List.range f.length).findSome? (J9 false f)<;>rfl
theorem ms(f:List Aq) t(h:∀x∈f,II x)(j:f.length<=1073741824):∃r,H4 f t=some r/\KL f t=some r:=by
 cases t
 .exact⟨_,Yy f h j,nW f h j⟩
 .exact⟨_,pV f h j,nm f h j⟩
theorem uJ(f:List Aq)(q:f.length<=1073741824):∃r,iter (λ(a:Int × (List Int))=>FY f a.1 a.2) (0,[])=some r/\r.length<=f.length:=by
 refine Jo f.length (λk j=>j.1=(k:Int)/\j.2.length<=k) _ ?_ ?_ ⟨rfl,by simp⟩
 .rintro k ⟨x,out⟩ l ⟨rfl,m⟩
  dsimp only at m ⊢
  left
  unfold FY
  rw[ww (by simpa using l),Ak l,AD]
  by_cases r:f[k]!.Ref=0
  .rw[wv (Cv r),AD,Au (by omega),AD]
   grind
  .rw[ww (DJ r),Ky (by omega),AD,AD,Au (by omega),AD]
   grind
 .grind [FY]
theorem eA{α:Type}[Inhabited α][DecidableEq α]{f}(a b:List α)(m:a.length=b.length)
 (j:∀k:Nat, k<a.length->f k=DD k (if decide (a[k]! = b[k]!) then none else some false)) (l:f a.length=some (.inr (.nrm ()))) :
    (A7 (iter f 0) λ(_:Unit) => some true)=some (decide (a=b)) := by
  rw[B5 (n := a.length) (λk => if decide (a[k]! = b[k]!) then none else some false) j l, N2, F1]
  by_cases h:a=b
  · grind
  · grind [iy]
theorem ud(x y:At):((x.Row=y.Row)&&((x.Col=y.Col)&&((x.H=y.H)&&((x.W=y.W)&&true))))=decide (x=y):=by
 obtain⟨j,l,m,q⟩:=x
 obtain⟨w,A,B,C⟩:=y
 grind
theorem jW(a b:List At)(l:a.length<=9223372036854775806):OS a b=some (decide (a=b)):=by
 unfold OS
 by_cases j:a.length=b.length
 .grind [eA,SK,Ak,AD,ud,Au,DD]
 .rw[ww (by simp;omega),w0 (by rintro rfl;exact j rfl)]
theorem vc(x y:Aw)(U:x.Attrs.length<=1073741824):O0 x y=some (decide (x=y)):=by
 unfold O0
 rw[rq _ _ (by omega)]
 obtain⟨j,l,m,q,w⟩:=x
 obtain⟨A,B,C,E,F⟩:=y
 by_cases I:j=A<;>by_cases J:l=B<;>by_cases M:m=C<;>by_cases O:q=E<;>by_cases T:w=F<;>simp[I,J,M,O,T,gd,AD]
theorem lC(a b:List Aw)(l:a.length<=9223372036854775806)(h:∀x∈a,x.Attrs.length<=1073741824):QB a b=some (decide (a=b)):=by
 unfold QB
 by_cases j:a.length=b.length
 .grind [eA,So,Ak,AD,vc,Bs,Au,DD]
 .rw[ww (by simp;omega),w0 (by rintro rfl;exact j rfl)]
def V0(g:BJ):Prop:=g.Cells.length<=1048576/\g.Merges.length<=1048576/\∀x∈g.Cells,JY x.Attrs
structure UU(n:Ad):Prop where
 at_:JY n.Attrs
 fl:n.Flow.length<=1048576
 fa:∀e∈n.Flow,JY e.Attrs
 gr:V0 n.Grid
 dr:n.Draw.length<=1048576
def vf(d:Ac):Prop:=d.Nodes.length<=1048576/\∀n∈d.Nodes,UU n
theorem WS x y(h:V0 x):MS x y=some (decide (x=y)):=by
 obtain⟨l,m,j⟩:=h
 unfold MS
 rw[jW _ _ (by omega),lC _ _ (by omega) (λe q=>(j e q).1)]
 obtain⟨w,A,B,C⟩:=x
 obtain⟨E,F,I,J⟩:=y
 by_cases l:w=E<;>by_cases m:A=F<;>by_cases j:B=I<;>by_cases M:C=J<;>simp[l,m,j,M,gd,AD]
theorem qL(g:BJ)(w:g.Cells.length<=1048576)(h:∀x∈g.Cells,JY x.Attrs):iter (λ(a:Int × BJ)=>Kh g.Cells a.1 a.2) (0,g)=some g:=by
 have key:∃r,iter (λ(a:Int × BJ)=>Kh g.Cells a.1 a.2) (0,g)=some r/\r=g:=by
  refine Jo g.Cells.length (λk l=>l=((k:Int),g)) _ ?_ ?_ rfl
  .rintro k l j rfl
   left
   refine⟨_,?_,rfl⟩
   dsimp only
   unfold Kh
   have m:=(h _ (Bs j)).1
   rw[ww (by simpa using j),Ak j,AD,UE m,AD,Au (by omega),AD,Yz]
   have q:g.Cells.set k (Aw.mk g.Cells[k]!.Row g.Cells[k]!.Col g.Cells[k]!.Text g.Cells[k]!.Ref g.Cells[k]!.Attrs)=g.Cells:=by
    rw[show(Aw.mk g.Cells[k]!.Row g.Cells[k]!.Col g.Cells[k]!.Text g.Cells[k]!.Ref g.Cells[k]!.Attrs)=g.Cells[k]! from rfl,xg g.Cells k j]
    exact List.set_getElem_self j
   rw[q]
  .grind [Kh]
 grind
theorem XI{α:Type} b(l:List α)(j:b<=128)(h:l.length<=1048576):app b ([]:List α) l=some l:=by
 unfold app
 rw[ww];rfl
 simp only[zq,xd]
 refine⟨?_,by omega⟩
 calc l.length * b<=1048576 * 128:=Nat.mul_le_mul h j
  _<=_:=by decide
theorem jb(n:Ad)(h:UU n):Qn n=some n:=by
 unfold Qn
 have hg:=h.gr
 have j:=h.fl
 rw[UE h.at_.1,AD,ox _ (by omega) h.fa,AD,XI _ _ (by decide) h.dr,AD,XI _ _ (by decide) hg.2.1,AD,XI _ _ (by decide) hg.1,AD]
 have:=qL n.Grid hg.1 hg.2.2
 simp_all
theorem TX{β:Type}(p:Nat->Bool)(F:Nat->β)(l:List Nat):(l.findSome? λk=>if p k then some (F k) else none)=(l.find? p).map F:=by
 induction l with
 | nil=>rfl
 | cons a l j=>grind
def B4(l:List Ad)(id:Int):Option Nat:=(List.range l.length).find? λk=>decide (l[k]!.ID=id)
theorem FC{l:List Ad}{id}{k}(h:B4 l id=some k):k<l.length/\l[k]!.ID=id:=by
 have j:=List.mem_of_find?_eq_some h
 have m:=List.find?_some h
 grind
theorem PZ(d:Ac)(id:Int)(l:d.Nodes.length<=1048576):Gs d id=some (match B4 d.Nodes id with | some k=>(k:Int) | none=>-1):=by
 unfold Gs
 rw[B5 (n:=d.Nodes.length) (λk=>if decide (d.Nodes[k]!.ID=id) then some (k:Int) else none) (λk j=>by
  unfold QV
  rw[ww (by simpa using j),Ak j,AD,Au (by omega)]
  by_cases h:d.Nodes[k]!.ID=id
  .rw[ww (w9 h),ww (w9 h)];rfl
  .rw[wv (by simpa using h),wv (by simpa using h)];rfl) (by unfold QV;rw[wv (by simp)]),TX,F1]
 grind [B4]
def LG:Ad:=Ad.mk 1 0 [] [(Aq.mk 0 2 [])] (BJ.mk 0 0 [] []) []
theorem ql:II (Aq.mk 0 2 []):=⟨by decide,λa j=>by cases j⟩
theorem iK:V0 (BJ.mk 0 0 [] []):=⟨by decide,by decide,λa j=>by cases j⟩
theorem qv:JN []=some 0:=by rw[Oc _ (λa j=>by cases j) (by decide)];rfl
theorem mR:H4 [Aq.mk 0 2 []] false=some 0:=by
 rw[Yy _ (λx j=>by
  have:x=Aq.mk 0 2 []:=by simpa using j
  subst this;exact ql) (by decide)]
 rfl
theorem lb:MS (BJ.mk 0 0 [] []) (BJ.mk 0 0 [] [])=some true:=by rw[WS _ _ iK,w9 rfl]
theorem EV:DM LG=some 0:=by
 unfold DM LG
 dsimp only
 rw[wv (by decide),wv (by decide),qv,AD,wv (by decide)]
 have t:FJ 0=some false:=rfl
 have l:HW 0=some true:=rfl
 have g:GM 0=some false:=rfl
 have d:Hk 0=some false:=rfl
 rw[t,l,g,d,lb]
 show(AB (H4 [Aq.mk 0 2 []] false) λ(j:Int)=>some j)=some 0
 rw[mR];rfl
theorem Ht:It LG=some [2]:=by
 unfold It MW
 have j:(λ(a:Int × (List Int))=>Hw LG.Flow a.1 a.2) (0,[])=some (.inl (1,[2])):=by
  show Hw [Aq.mk 0 2 []] 0 []=_
  unfold Hw;rfl
 have l:(λ(a:Int × (List Int))=>Hw LG.Flow a.1 a.2) (1,[2])=some (.inr [2]):=by
  show Hw [Aq.mk 0 2 []] 1 [2]=_
  unfold Hw;rfl
 have m:(λ(a:Int × (List Int))=>E8 LG a.1 a.2) (0,[2])=some (.inr [2]):=by
  show E8 LG 0 [2]=_
  unfold E8;rfl
 rw[CF j,Bj l,AD,AD,Bj m];rfl
theorem ml{μ:Ad->Nat}{γ:BJ->Nat}{ψ:Aw->Nat}{ρ:At->Nat}{δ:BA->Nat}{ν:Aq->Nat}{κ:AH->Nat}
  (m:∀n,(n.Attrs.map κ).sum+(n.Flow.map ν).sum+γ n.Grid+(n.Draw.map δ).sum+1<=μ n) (hg:∀g,(g.Cells.map ψ).sum+(g.Merges.map ρ).sum+1<=γ g)
  (hc:∀c,(c.Attrs.map κ).sum+1<=ψ c) (w:∀r,1<=ρ r) (hd:∀o,1<=δ o) (A:∀e,(e.Attrs.map κ).sum+1<=ν e) (j:∀a,a.Name.length+a.Value.length+1<=κ a)
  {d:Ac} (C:(d.Nodes.map μ).sum<=1048576):vf d:=by
 have E:=Nf (μ:=μ) (λn=>by have:=m n;omega) d.Nodes
 refine⟨by omega,λn B=>?_⟩
 have F:=Jf (μ:=μ) B
 have I:=m n
 have J:=hg n.Grid
 have q:=tC (ν:=ν) (κ:=κ) A j (f:=n.Flow) (by omega)
 have M:=Nf (μ:=ψ) (λc=>by have:=hc c;omega) n.Grid.Cells
 have O:=Nf (μ:=ρ) w n.Grid.Merges
 have T:=Nf (μ:=δ) hd n.Draw
 refine⟨V9 j (by omega),q.1,q.2,⟨by omega,by omega,λc l=>V9 j ?_⟩,by omega⟩
 have U:=Jf (μ:=ψ) l
 have:=hc c
 omega
theorem GS{n:Nat}(h:n<2147483648):IntKind.i32.wrap (n:Int)=(n:Int):=by
 have e:(n:Int) % (2 ^ (32:Nat):Int)=(n:Int):=WAa (by omega) (by omega)
 show(if(true&&((n:Int) % (2 ^ (32:Nat):Int) >= (2 ^ (31:Nat):Int)))=true then(n:Int) % (2 ^ (32:Nat):Int)-(2 ^ (32:Nat):Int) else(n:Int) % (2 ^ (32:Nat):Int))=_
 grind
theorem X1{n:Nat}(h:n<9223372036854775808):IntKind.i64.wrap (n:Int)=(n:Int):=by
 have e:(n:Int) % (2 ^ (64:Nat):Int)=(n:Int):=WAa (by omega) (by omega)
 show(if(true&&((n:Int) % (2 ^ (64:Nat):Int) >= (2 ^ (63:Nat):Int)))=true then(n:Int) % (2 ^ (64:Nat):Int)-(2 ^ (64:Nat):Int) else(n:Int) % (2 ^ (64:Nat):Int))=_
 grind
theorem M1(i a b:Nat)(j:b<2 ^ i)(l:a * 2 ^ i+b<2147483648):EJ .i32 ((a * 2 ^ i:Nat):Int) (b:Int)=((a * 2 ^ i+b:Nat):Int):=by
 unfold EJ
 have m:(BitVec.ofInt 32 ((a * 2 ^ i:Nat):Int) ||| BitVec.ofInt 32 (b:Int)).toNat=a * 2 ^ i+b:=by
  rw[BitVec.toNat_or,BitVec.ofInt_natCast,BitVec.ofInt_natCast,BitVec.toNat_ofNat,BitVec.toNat_ofNat,WAD (by omega),WAD (by omega)]
  rw[<- Nat.shiftLeft_eq,Nat.shiftLeft_add_eq_or_of_lt j]
 show IntKind.i32.wrap ((BitVec.ofInt 32 ((a * 2 ^ i:Nat):Int) ||| BitVec.ofInt 32 (b:Int)).toNat:Int)=_
 rw[m];exact GS l
theorem me:∀b:Fin 256,CR .u8 ((b.val:Nat):Int) 31=((b.val % 32:Nat):Int):=by decide +kernel
theorem nD:∀b:Fin 256,CR .u8 ((b.val:Nat):Int) 15=((b.val % 16:Nat):Int):=by decide +kernel
theorem kN:∀b:Fin 256,CR .u8 ((b.val:Nat):Int) 7=((b.val % 8:Nat):Int):=by decide +kernel
theorem Md:∀b:Fin 256,CR .u8 ((b.val:Nat):Int) 63=((b.val % 64:Nat):Int):=by decide +kernel
theorem MO(i a:Nat)(j:i<=32)(l:a * 2 ^ i<2147483648):Di .i32 (a:Int) i=((a * 2 ^ i:Nat):Int):=by
 unfold Di
 show IntKind.i32.wrap ((a:Int) * 2 ^ (min i 32))=_
 rw[Nat.min_eq_left j,show(a:Int) * 2 ^ i=((a * 2 ^ i:Nat):Int) by push_cast;rfl,GS l]
theorem jJ:∀c:Fin 256,GH[c.val]! = (Lib.firstT c.val:Int):=by decide +kernel
theorem kg:∀c:Fin 256,EJ .i32 (Pa .i32 (IntKind.i32.wrap (c.val:Int)) (Fh .i32 (Di .i32 (IntKind.i32.wrap 241) 31) 31)) (CR .i32 65533 (Fh .i32 (Di .i32 (IntKind.i32.wrap 241) 31) 31))=65533:=by decide +kernel
theorem s8:∀c:Fin 256,IntKind.i64.wrap (CR .u8 (Lib.firstT c.val:Int) 7)=((Lib.firstT c.val % 8:Nat):Int):=by decide +kernel
theorem sn:∀c:Fin 256,AO Sz (Fh .u8 (Lib.firstT c.val:Int) 4)=some (Il.mk (Lib.accLo (Lib.firstT c.val / 16)) (Lib.accHi (Lib.firstT c.val / 16))):=by decide +kernel
theorem pt:∀c:Fin 256,128<=c.val->Lib.firstT c.val=241\/(2<=Lib.firstT c.val % 8/\Lib.firstT c.val % 8<=4/\Lib.firstT c.val<240):=by decide +kernel
theorem uX(c d:Fin 256):EJ .i32 (Di .i32 (IntKind.i32.wrap (CR .u8 ((c.val:Nat):Int) 31)) 6) (IntKind.i32.wrap (CR .u8 ((d.val:Nat):Int) 63))=((c.val % 32 * 64+d.val % 64:Nat):Int):=by
 rw[me,Md,GS (by omega),GS (by omega),MO 6 _ (by omega) (by omega),M1 6 _ _ (by omega) (by omega)]
theorem uB(c d e:Fin 256):EJ .i32 (EJ .i32 (Di .i32 (IntKind.i32.wrap (CR .u8 ((c.val:Nat):Int) 15)) 12) (Di .i32 (IntKind.i32.wrap (CR .u8 ((d.val:Nat):Int) 63)) 6)) (IntKind.i32.wrap (CR .u8 ((e.val:Nat):Int) 63)) =
  ((c.val % 16 * 4096+d.val % 64 * 64+e.val % 64:Nat):Int):=by
 rw[nD,Md,Md,GS (by omega),GS (by omega),GS (by omega),MO 12 _ (by omega) (by omega),MO 6 _ (by omega) (by omega),M1 12 _ _ (by omega) (by omega),
  show c.val % 16 * 2 ^ 12+d.val % 64 * 2 ^ 6=(c.val % 16 * 64+d.val % 64) * 2 ^ 6 by omega,M1 6 _ _ (by omega) (by omega)]
theorem pn(c d e f:Fin 256):EJ .i32 (EJ .i32 (EJ .i32 (Di .i32 (IntKind.i32.wrap (CR .u8 ((c.val:Nat):Int) 7)) 18) (Di .i32 (IntKind.i32.wrap (CR .u8 ((d.val:Nat):Int) 63)) 12)) (Di .i32 (IntKind.i32.wrap (CR .u8 ((e.val:Nat):Int) 63)) 6)) (IntKind.i32.wrap (CR .u8 ((f.val:Nat):Int) 63)) =
  ((c.val % 8 * 262144+d.val % 64 * 4096+e.val % 64 * 64+f.val % 64:Nat):Int):=by
 rw[kN,Md,Md,Md,GS (by omega),GS (by omega),GS (by omega),GS (by omega),MO 18 _ (by omega) (by omega),MO 12 _ (by omega) (by omega),MO 6 _ (by omega) (by omega),M1 18 _ _ (by omega) (by omega),
  show c.val % 8 * 2 ^ 18+d.val % 64 * 2 ^ 12=(c.val % 8 * 64+d.val % 64) * 2 ^ 12 by omega,M1 12 _ _ (by omega) (by omega),
  show(c.val % 8 * 64+d.val % 64) * 2 ^ 12+e.val % 64 * 2 ^ 6=((c.val % 8 * 64+d.val % 64) * 64+e.val % 64) * 2 ^ 6 by omega,M1 6 _ _ (by omega) (by omega)]
theorem PH(s:List UInt8) k(h:k<s.length):s.getD k 0=s[k]!:=by grind
theorem jr(s:List UInt8)(h:s≠[])(j:128<=(s.getD 0 0).toNat):Qp s=some (((Lib.decodeL s).1:Int),((Lib.decodeL s).2:Int)):=by
 have l:0<s.length:=ya.2 h
 rw[Lib.decodeL_N]
 unfold Qp
 rw[wv (by rw[xG];omega),show(0:Int)=((0:Nat):Int) from rfl,Ak l,AD]
 rw[PH s 0 l] at j ⊢
 generalize s[0]! = c at j ⊢
 obtain⟨C,hC⟩:∃C:Fin 256,C.val=c.toNat:=⟨⟨c.toNat,c.toNat_lt⟩,rfl⟩
 rw[<- hC] at j ⊢
 rw[Ak (l:=GH) (by rw[mN];exact C.isLt),AD,jJ,sn,s8]
 rcases pt C j with B | ⟨m,q,w⟩
 .rw[ww (by rw[xG];omega),Lib.bad_eq _ _ _ _ _ C.isLt B,B]
  grind [kg]
 .rw[wv (by rw[xG];omega),AD]
  have A:=Lib.slow_eq s.length C.val (s.getD 1 0).toNat (s.getD 2 0).toNat (s.getD 3 0).toNat l (UInt8.toNat_lt _) (UInt8.toNat_lt _) (UInt8.toNat_lt _) w
  rw[<- A]
  generalize hsz:Lib.firstT C.val % 8=sz at m q ⊢
  generalize Lib.accLo (Lib.firstT C.val / 16)=I
  generalize Lib.accHi (Lib.firstT C.val / 16)=J
  unfold Lib.slowN
  by_cases M:s.length<sz
  .grind
  rw[wv (by rw[xG];omega),wv M,show(1:Int)=((1:Nat):Int) from rfl,Ak (by omega),AD,PH s 1 (by omega)]
  generalize s[1]! = d
  obtain⟨D,O⟩:∃D:Fin 256,D.val=d.toNat:=⟨⟨d.toNat,d.toNat_lt⟩,rfl⟩
  rw[<- O]
  by_cases T:D.val<I\/J<D.val
  .grind
  rw[wv (by simp only[xl,xG];omega),wv T]
  by_cases e2:sz<=2
  .grind [uX]
  rw[wv (by rw[xG];omega),wv e2,show(2:Int)=((2:Nat):Int) from rfl,Ak (by omega),AD,PH s 2 (by omega)]
  generalize s[2]! = e
  obtain⟨E,U⟩:∃E:Fin 256,E.val=e.toNat:=⟨⟨e.toNat,e.toNat_lt⟩,rfl⟩
  rw[<- U]
  by_cases V:E.val<128\/191<E.val
  .grind
  rw[wv (by simp only[xl,xG];omega),wv V]
  by_cases X:sz<=3
  .grind [uB]
  rw[wv (by rw[xG];omega),wv X,show(3:Int)=((3:Nat):Int) from rfl,Ak (by omega),AD,PH s 3 (by omega)]
  generalize s[3]! = f
  obtain⟨F,Z⟩:∃F:Fin 256,F.val=f.toNat:=⟨⟨f.toNat,f.toNat_lt⟩,rfl⟩
  grind [pn]
theorem iG(s:List UInt8)(h:s≠[]):Px s=some (((Lib.decodeL s).1:Int),((Lib.decodeL s).2:Int)):=by
 have l:0<s.length:=ya.2 h
 unfold Px
 rw[w0 h,show((!false)==true)=true from rfl,Av,show(0:Int)=((0:Nat):Int) from rfl,Ak l,AD,WAW,yO]
 by_cases m:(s[0]!).toNat<128
 .rw[ww (by rw[xG];omega),AD,GS (by omega)]
  obtain⟨c,t,rfl⟩:=List.exists_cons_of_ne_nil h
  have j:c.toNat<128:=m
  rw[Lib.decodeL_ascii c t j];rfl
 .grind [jr,PH,By]
def Hd(r:Nat):Bool:=(r=10)||!H0 (r:Int)
def HO:Nat->List UInt8->Bool
 | 0,_=>true
 | n+1,s=>if s=[] then true else if((Lib.decodeL s).1=65533/\(Lib.decodeL s).2=1)\/Hd (Lib.decodeL s).1=true then false else HO n (s.drop (Lib.decodeL s).2)
theorem gf n(s:List UInt8):HO (n+1) s=if s=[] then true else if((Lib.decodeL s).1=65533/\(Lib.decodeL s).2=1)\/Hd (Lib.decodeL s).1=true then false else HO n (s.drop (Lib.decodeL s).2):=rfl
def QP:Nat->List UInt8->Bool
 | 0,_=>true
 | n+1,s=>if s=[] then true else if Hd (Lib.decodeL s).1=true then false else QP n (s.drop (Lib.decodeL s).2)
theorem fZ n(s:List UInt8):QP (n+1) s=if s=[] then true else if Hd (Lib.decodeL s).1=true then false else QP n (s.drop (Lib.decodeL s).2):=rfl
theorem kD:∀(n:Nat) (s:List UInt8),s.length<=n->(Lib.validD s&&QP n s)=HO n s:=by
 intro n
 induction n with
 | zero=>intro s l;obtain rfl:=yX (Nat.le_zero.1 l);rfl
 | succ n m=>
  intro s l
  rw[gf,fZ]
  by_cases j:s=[]
  .subst j;rfl
  .have q:=Lib.decodeL_width s
   have w:=ya.2 j
   rw[wv j,wv j,Lib.validD_step s j]
   grind
theorem cU(r:Nat)(h:r<=1114111):IntKind.i64.wrap (r:Int)=(r:Int):=X1 (by omega)
theorem nu(s:List UInt8):Oz s=some (HO s.length s):=by
 unfold Oz
 have key:∀(n:Nat) (s:List UInt8),s.length<=n->(A7 (iter (λ(a:(List UInt8))=>G5 a) s) λ(_:Unit)=>some true)=some (HO n s):=by
  intro n
  induction n with
  | zero=>
   intro s hs
   obtain rfl:=yX (Nat.le_zero.1 hs)
   have h1:(λ(a:(List UInt8))=>G5 a) []=some (.inr (.nrm ())):=by
    grind [G5]
   rw[Bj h1];rfl
  | succ n ih=>
   intro s hs
   rw[gf]
   by_cases hn:s=[]
   .simp_all [G5,Bj]
   .have hw:=Lib.decodeL_width s
    have hle:=Lib.decodeL_le s hn
    have hr:=Lib.decodeL_rune s
    have hstep:G5 s=if((Lib.decodeL s).1=65533/\(Lib.decodeL s).2=1)\/Hd (Lib.decodeL s).1=true then some (.inr (.ext false)) else some (.inl (s.drop (Lib.decodeL s).2)):=by
     unfold G5 Hd
     rw[ww (DJ hn),iG s hn,By,cU _ hr,YD]
     generalize (Lib.decodeL s).1=r at *
     generalize (Lib.decodeL s).2=w at *
     by_cases h1:r=65533/\w=1
     .simp_all
     .have e1:(((r:Int)=65533)&&((w:Int)=1))=false:=by
       grind
      grind [AB,gd,H0,Av,AD,vI]
    by_cases hb:((Lib.decodeL s).1=65533/\(Lib.decodeL s).2=1)\/Hd (Lib.decodeL s).1=true
    .simp_all [Bj,G5]
    .grind [CF,G5]
 grind
theorem ry(s:List UInt8) p:GE s p=Lib.decodeL (s.drop p):=(Lib.decodeL_drop ⟨s.toArray⟩ p).symm
theorem tZ(s:List UInt8)(hs:s.length<=9223372036854775807):OH s=some (HO s.length s):=by
 unfold OH S9 TG
 rw[ww hs,AD,<- kD s.length s (wy _)]
 cases Lib.validD s with
 | false=>rfl
 | true=>
  rw[wv (by decide),yO]
  have key:∀(n p:Nat),s.length-p<=n->(A7 (iter (λ(a:(Nat))=>GY s a) p) λ(_:Unit)=>some true)=some (QP n (s.drop p)):=by
   intro n
   induction n with
   | zero=>
    intro p hp
    have h1:(λ(a:(Nat))=>GY s a) p=some (.inr (.nrm ())):=by
     grind [GY]
    rw[Bj h1];rfl
   | succ n ih=>
    intro p hp
    rw[fZ]
    by_cases hn:s.length<=p
    .have h1:(λ(a:(Nat))=>GY s a) p=some (.inr (.nrm ())):=by
      grind [GY]
     simp_all [Bj]
    .have hne:s.drop p≠[]:=by
      simp_all
     have hw:=Lib.decodeL_width (s.drop p)
     have hr:=Lib.decodeL_rune (s.drop p)
     have hstep:GY s p=if Hd (Lib.decodeL (s.drop p)).1=true then some (.inr (.ext false)) else some (.inl (p+(Lib.decodeL (s.drop p)).2)):=by
      grind [GY,Hd,ry,cU,fN,AB,gd,H0]
     rw[wv hne]
     by_cases hb:Hd (Lib.decodeL (s.drop p)).1=true
     .simp_all [Bj,GY]
     .rw[wv hb] at hstep
      rw[CF (f:=λ(a:(Nat))=>GY s a) hstep,wv hb,List.drop_drop]
      grind
  have:=key s.length 0 (by omega)
  grind
theorem Wf{ρ:Type}{f g}{n}(I:Nat->Prop)(w:I 0)(h:∀k:Nat, k<n->I k->∃o:Option ρ, f k=DD k o/\g k=DD k o/\(o=none->I (k+1)))
 (A:f n=some (.inr (.nrm ()))) (hg:g n=some (.inr (.nrm ()))):∃o:Option ρ, iter f 0=some (Dd o)/\iter g 0=some (Dd o)/\(o=none->I n) := by
  have key:∀m k:Nat, k+m=n->I k->∃o:Option ρ, iter f (k:Int)=some (Dd o)/\iter g (k:Int)=some (Dd o)/\(o=none->I n) := by
    intro m
    induction m with
    | zero =>
      intro k B j
      obtain rfl:k=n := by omega
      exact⟨none, Bj A, Bj hg, λ_ => j⟩
    | succ m C =>
      intro k B j
      obtain⟨o, l, q, E⟩ := h k (by omega) j
      cases o with
      | some r => exact⟨some r, Bj l, Bj q, λe => by cases e⟩
      | none =>
        obtain⟨o, F, e2, J⟩ := C (k+1) (by omega) (E rfl)
        exact⟨o, (CF l).trans F, (CF q).trans e2, J⟩
  exact key n 0 (by omega) w
theorem ZK x y:GK x y=some (if x<y then -1 else if y<x then 1 else 0):=by grind [GK,Mc,AD]
theorem gp a b:IY [a,b]=some (if a≠0 then a else b):=by
 unfold IY
 by_cases l:a≠0
 .simp_all [FF,AO,AD,DJ,Bj]
 .have m:a=0:=xm.1 l
  have w:(λ(x:Int)=>FF [a,b] x) 0=some (.inl 1):=by
   show FF [a,b] 0=_
   unfold FF
   rw[ww (by simp),show AO [a,b] 0=some a from rfl,AD,wv (Cv m)];rfl
  by_cases A:b≠0
  .have q:(λ(x:Int)=>FF [a,b] x) 1=some (.inr (.ext b)):=by
    grind [FF,AO,AD,DJ]
   rw[CF w,Bj q,wv l];rfl
  .have j:b=0:=xm.1 A
   have q:(λ(x:Int)=>FF [a,b] x) 1=some (.inl 2):=by
    show FF [a,b] 1=_
    unfold FF
    rw[ww (by simp),show AO [a,b] 1=some b from rfl,AD,wv (Cv j)];rfl
   have B:(λ(x:Int)=>FF [a,b] x) 2=some (.inr (.nrm ())):=by
    grind [FF]
   rw[CF w,CF q,Bj B,wv l,j];rfl
def B9(a b c d:Int):Int:=if a<b then -1 else if b<a then 1 else if c<d then -1 else if d<c then 1 else 0
theorem Xy a b c d:(if(if a<b then -1 else if b<a then 1 else 0)≠(0:Int) then(if a<b then -1 else if b<a then 1 else 0) else if c<d then -1 else if d<c then 1 else(0:Int))=B9 a b c d:=by grind [B9]
theorem SA a b c d:0<=B9 a b c d↔(b<a\/(b=a/\d<=c)):=by grind [B9]
theorem iS(a b:Aw):Mw a b=some (B9 a.Row b.Row a.Col b.Col):=by grind [Mw,ZK,AD,gp,Xy]
theorem EA x a b:DB x a b=some (decide (a<=x/\x<=b)):=by simp_all [O4]
def Hl(j l:Int)(c:Aw):Prop:=0<=c.Row/\c.Row<j/\0<=c.Col/\c.Col<l/\0<=c.Ref/\c.Ref<=1073741824
instance (rows cols:Int) (c:Aw):Decidable (Hl rows cols c):=by unfold Hl;infer_instance
def JW(c:Aw):Bool:=(c.Text=[])&&(c.Ref=0)&&(c.Attrs=[])
def NL(l m:Int)(j:Bool)(c:Aw):Int:=
 if ¬ Hl l m c then 2 else if HO c.Text.length c.Text=false then 23 else if B1 c.Attrs false≠0 then B1 c.Attrs false else if(!j&&JW c)=true then 4 else 0
def IN(m q:Int)(j:Bool)(l:List Aw)(k:Nat):Option Int:=
 if NL m q j l[k]!≠0 then some (NL m q j l[k]!) else if 0<k/\0<=B9 l[k-1]!.Row l[k]!.Row l[k-1]!.Col l[k]!.Col then some 5 else none
def JK(m q:Int)(j:Bool)(l:List Aw):Int:=((List.range l.length).findSome? (IN m q j l)).getD 0
theorem Ya(l:List AH):decide ((l.length:Int)=0)=decide (l=[]):=by simp_all
def Sr(c:Aw):Prop:=JY c.Attrs/\c.Text.length<=1073741824
theorem kv(l:List Aw) k(C:k<l.length)(E:l.length<=9223372036854775806) :
  (AB (gd ((decide (0<(k:Int)))==true) (AX .i64 ((k:Int)-1))) λ(q:Int)=>
   AB (gd ((decide (0<(k:Int)))==true) (AO l q)) λ(w:Aw)=>
   AB (gd ((decide (0<(k:Int)))==true) (Mw w l[k]!)) λ(A:Int)=>
   if((0<(k:Int))&&(0<=A)) then(some (.inr (.ext 5)):Option (Int ⊕ (A3 Unit Int))) else(
    AB (AX .i64 ((k:Int)+1)) λ(B:Int)=>some (.inl B)))=DD k (if 0<k/\0<=B9 l[k-1]!.Row l[k]!.Row l[k-1]!.Col l[k]!.Col then some 5 else none):=by
 by_cases m:0<k
 .rw[w9 (show(0:Int)<k by omega),show((true==true):Bool)=true from rfl,Av,FP m (by omega),AD,Av,Ak (by omega),AD,Av,iS,AD]
  by_cases j:0<=B9 l[k-1]!.Row l[k]!.Row l[k-1]!.Col l[k]!.Col
  .rw[ww (show(true&&(0<=B9 l[k-1]!.Row l[k]!.Row l[k-1]!.Col l[k]!.Col))=true by rw[w9 j];rfl),ww ⟨m,j⟩];rfl
  .rw[wv (show ¬ (true&&(0<=B9 l[k-1]!.Row l[k]!.Row l[k-1]!.Col l[k]!.Col))=true by rw[w0 j];decide),wv (λh=>j h.2),Au (by omega)];rfl
 .obtain rfl:k=0:=by omega
  rw[wv (show ¬ (0<0/\_) from λh=>absurd h.1 (by decide))];rfl
theorem jf j m w (l:List Aw) (U:l.length<=1073741824) (M:∀c∈l,Sr c):Oq l j m w=some (JK j m w l):=by
 unfold Oq
 rw[B5 (n:=l.length) (IN j m w l) (λk A=>by
  obtain⟨I,V⟩:=M _ (Bs A)
  have C:=kv l k A (by omega)
  unfold Od IN NL
  rw[ww (by simpa using A),Ak A,AD]
  by_cases B:Hl j m l[k]!
  .have E:=B
   unfold Hl at E
   rw[wv (by simp only[xl,xG];omega),wv (by simp only[xl,xG];omega),nu,AD,Oc _ I.2 (by have:=I.1;omega),AD,C]
   rw[wv (xm.2 B)]
   cases O:HO l[k]!.Text.length l[k]!.Text with
   | false=>rfl
   | true=>
    rw[wv (show ¬ ((!true)=true) by decide),wv (show ¬ (true=false) by decide)]
    by_cases q:B1 l[k]!.Attrs false=0
    .rw[wv (Cv q),wv (xm.2 q)]
     have T:Qq l[k]! = some (JW l[k]!):=by unfold Qq JW;rw[Ya]
     rw[T,AD]
     by_cases J:(!w&&JW l[k]!)=true
     .rw[ww (by rw[Bool.and_comm];exact J),ww J];rfl
     .grind
    .rw[ww (DJ q),ww q,ww q];rfl
  .rw[ww B]
   unfold Hl at B
   by_cases F:((((l[k]!.Row<0)||(j<=l[k]!.Row))||(l[k]!.Col<0))||(m<=l[k]!.Col))=true
   .rw[ww F];rfl
   .rw[wv F,ww (by simp only[xl,xG] at F ⊢;omega)];rfl) (by unfold Od;rw[wv (by simp)]),Fq]
 rfl
theorem p9(l:List Aw) k(J:k<l.length)(M:l.length<=9223372036854775806) :
  (AB (gd ((decide (0<(k:Int)))==true) (AX .i64 ((k:Int)-1))) λ(F:Int)=>
      AB (gd ((decide (0<(k:Int)))==true) (AO l F)) λ(j:Aw)=>
      AB (gd ((((decide (0<(k:Int)))==true)&&((decide (l[k]!.Row<j.Row))==false))&&((decide (l[k]!.Row=j.Row))==true)) (AX .i64 ((k:Int)-1))) λ(I:Int)=>
      AB (gd ((((decide (0<(k:Int)))==true)&&((decide (l[k]!.Row<j.Row))==false))&&((decide (l[k]!.Row=j.Row))==true)) (AO l I)) λ(w:Aw)=>
      if((0<(k:Int))&&((l[k]!.Row<j.Row)||((l[k]!.Row=j.Row)&&(l[k]!.Col<=w.Col)))) then(some (.inr (.ext 5)):Option (Int ⊕ (A3 Unit Int))) else(
       AB (AX .i64 ((k:Int)+1)) λ(A:Int)=>some (.inl A)))=DD k (if 0<k/\0<=B9 l[k-1]!.Row l[k]!.Row l[k-1]!.Col l[k]!.Col then some 5 else none):=by
 have m:=SA l[k-1]!.Row l[k]!.Row l[k-1]!.Col l[k]!.Col
 by_cases B:0<k
 .rw[w9 (show(0:Int)<k by omega),show((true==true):Bool)=true from rfl,Av,FP B (by omega),AD,Av,Ak (show k-1<l.length by omega),AD]
  by_cases q:l[k]!.Row<l[k-1]!.Row
  .rw[w9 q,ww (show 0<k/\0<=B9 l[k-1]!.Row l[k]!.Row l[k-1]!.Col l[k]!.Col from⟨B,m.2 (.inl q)⟩)];rfl
  .by_cases C:l[k]!.Row=l[k-1]!.Row
   .rw[w0 q,w9 C,show(((true&&(false==false))&&(true==true)):Bool)=true from rfl,Av,AD,Av,Ak (show k-1<l.length by omega),AD]
    by_cases E:l[k]!.Col<=l[k-1]!.Col
    .rw[w9 E,ww (show 0<k/\0<=B9 l[k-1]!.Row l[k]!.Row l[k-1]!.Col l[k]!.Col from⟨B,m.2 (.inr ⟨C,E⟩)⟩)];rfl
    .rw[w0 E,wv (show ¬ (0<k/\0<=B9 l[k-1]!.Row l[k]!.Row l[k-1]!.Col l[k]!.Col) from λh=>by have:=m.1 h.2;omega),Au (by omega)];rfl
   .rw[w0 q,w0 C,wv (show ¬ (0<k/\0<=B9 l[k-1]!.Row l[k]!.Row l[k-1]!.Col l[k]!.Col) from λh=>by have:=m.1 h.2;omega),Au (by omega)];rfl
 .obtain rfl:k=0:=by omega
  rw[wv (show ¬ (0<0/\_) from λh=>absurd h.1 (by decide))];rfl
theorem vh j m w (l:List Aw) (U:l.length<=1073741824) (J:∀c∈l,Sr c) (V:0<=j/\j<=2147483647) (M:0<=m/\m<=2147483647):Pt l j m w=some (JK j m w l):=by
 unfold Pt
 rw[B5 (n:=l.length) (IN j m w l) (λk A=>by
  obtain⟨F,X⟩:=J _ (Bs A)
  have C:=p9 l k A (by omega)
  unfold Pp IN NL
  rw[ww (by simpa using A),Ak A,AD,CX (by omega) (by omega),AD,EA,AD,EA,C]
  by_cases B:Hl j m l[k]!
  .have E:=B
   unfold Hl at E
   rw[wv (xm.2 B),w9 (show 0<=l[k]!.Row/\l[k]!.Row<=j-1 by omega),show((!true)==false)=true from rfl,Av,CX (by omega) (by omega),AD,Av,EA,AD,w9 (show 0<=l[k]!.Col/\l[k]!.Col<=m-1 by omega),
    show(((!true)||(!true))==false)=true from rfl,Av,AD,w9 (show 0<=l[k]!.Ref/\l[k]!.Ref<=1073741824 by omega),wv (by decide),tZ _ (by omega),AD,XA _ _ F.2 (by have:=F.1;omega),AD]
   cases O:HO l[k]!.Text.length l[k]!.Text with
   | false=>rfl
   | true=>
    rw[wv (show ¬ ((!true)=true) by decide),wv (show ¬ (true=false) by decide)]
    by_cases q:B1 l[k]!.Attrs false=0
    .rw[wv (Cv q),wv (xm.2 q)]
     have T:O8 l[k]! = some (JW l[k]!):=by unfold O8 JW;rw[Ya]
     rw[T]
     cases w with
     | true=>rfl
     | false=>
      show(AB (gd true (some (JW l[k]!))) λ(Z:Bool)=>_)=_
      rw[Av,AD]
      cases JW l[k]!<;>rfl
    .rw[ww (DJ q),ww q,ww q];rfl
  .rw[ww B]
   unfold Hl at B
   by_cases I:0<=l[k]!.Row/\l[k]!.Row<=j-1
   .rw[w9 I,show((!true)==false)=true from rfl,Av,CX (by omega) (by omega),AD,Av,EA,AD]
    by_cases e2:0<=l[k]!.Col/\l[k]!.Col<=m-1
    .rw[w9 e2,show(((!true)||(!true))==false)=true from rfl,Av,AD,w0 (show ¬ (0<=l[k]!.Ref/\l[k]!.Ref<=1073741824) by omega)];rfl
    .rw[w0 e2];rfl
   .rw[w0 I];rfl) (by unfold Pp;rw[wv (by simp)]),Fq]
 rfl
theorem dO{ρ:Type}{f}{n}(g:Nat->Option ρ)(w:∀k:Nat, k<n->(∀j, j<k->g j=none)->f k=DD k (g k))
 (A:f n=some (.inr (.nrm ()))):iter f 0=some (Dd ((List.range n).findSome? g)) := by
  have key:∀m k:Nat, k+m=n->(∀j, j<k->g j=none)->iter f (k:Int)=some (Dd ((List.range' k m).findSome? g)) := by
    intro m
    induction m with
    | zero =>
      intro k B _
      obtain rfl:k=n := by omega
      rw[Bj A];rfl
    | succ m C =>
      intro k B q
      have l := w k (by omega) q
      rw[List.range'_succ, zK]
      cases hg:g k with
      | some r => rw[hg] at l;rw[Bj l];rfl
      | none =>
        rw[hg] at l
        rw[CF l]
        grind
  have := key n 0 (by omega) (λj q => absurd q (Nat.not_lt_zero _))
  rw[WAP]
  exact this
def DQ(j l:Int)(r:At):Prop:=0<=r.Row/\r.Row<j/\0<=r.Col/\r.Col<l/\1<=r.H/\r.H<=j-r.Row/\1<=r.W/\r.W<=l-r.Col
instance (rows cols:Int) (r:At):Decidable (DQ rows cols r):=by unfold DQ;infer_instance
def Gn(a b:At):Bool:=decide (a.Row<b.Row+b.H/\b.Row<a.Row+a.H/\a.Col<b.Col+b.W/\b.Col<a.Col+a.W)
def E9(j l:Int):Prop:=0<=j/\j<=2147483647/\0<=l/\l<=2147483647
instance (rows cols:Int):Decidable (E9 rows cols):=by unfold E9;infer_instance
theorem oX(r:At) j l(h:E9 j l):Ol r j l=some (decide (DQ j l r)):=by
 obtain⟨E,F,I,J⟩:=h
 unfold Ol
 by_cases m:0<=r.Row/\0<=r.Col/\1<=r.H/\1<=r.W/\r.Row<j/\r.Col<l
 .obtain⟨w,A,a3,a4,a5,B⟩:=m
  rw[w9 w,w9 A,w9 a3,w9 a4,w9 a5,w9 B,show((((((true&&true)&&true)&&true)&&true)&&true)==true)=true from rfl,Av,CX (by omega) (by omega),AD]
  by_cases q:r.H<=j-r.Row
  .grind [Av,CX,AD,DQ]
  .rw[w0 q,w0 (show ¬ DQ j l r from λh=>q h.2.2.2.2.2.1)];rfl
 .have C:((((((0<=r.Row)&&(0<=r.Col))&&(1<=r.H))&&(1<=r.W))&&(r.Row<j))&&(r.Col<l))=false:=by
   grind
  rw[C,w0 (show ¬ DQ j l r from λh=>m ⟨h.1,h.2.2.1,h.2.2.2.2.1,h.2.2.2.2.2.2.1,h.2.1,h.2.2.2.1⟩)];rfl
theorem oN(r:At) j l(h:E9 j l):Nt r j l=some (decide (DQ j l r)):=by
 obtain⟨w,A,B,C⟩:=h
 unfold Nt
 rw[CX (by omega) (by omega),AD,EA,AD]
 by_cases m:0<=r.Row/\r.Row<=j-1
 .rw[w9 m,show((true==true):Bool)=true from rfl,Av,CX (by omega) (by omega),AD,Av,EA,AD]
  by_cases q:0<=r.Col/\r.Col<=l-1
  .rw[w9 q,show((true&&true)==true)=true from rfl,Av,CX (by omega) (by omega),AD,Av,EA,AD]
   by_cases a3:1<=r.H/\r.H<=j-r.Row
   .grind [Av,CX,AD,EA,DQ]
   .rw[w0 a3,w0 (show ¬ DQ j l r from λh=>a3 ⟨h.2.2.2.2.1,h.2.2.2.2.2.1⟩)];rfl
  .rw[w0 q,w0 (show ¬ DQ j l r from λh=>q ⟨h.2.2.1,by have:=h.2.2.2.1;omega⟩)];rfl
 .rw[w0 m,w0 (show ¬ DQ j l r from λh=>m ⟨h.1,by have:=h.2.1;omega⟩)];rfl
theorem kw{j l}(h:E9 j l){a b:At}(A:DQ j l a)(B:DQ j l b):Ox a b=some (Gn a b):=by
 obtain⟨C,E,F,I⟩:=h
 obtain⟨J,M,a3,a4,a5,O,T,U⟩:=A
 obtain⟨V,X,Z,b4,b5,b6,b7,b8⟩:=B
 unfold Ox Gn
 rw[CX (by omega) (by omega),AD]
 by_cases m:a.Row<b.Row+b.H
 .rw[w9 m,show((true==true):Bool)=true from rfl,Av,CX (by omega) (by omega),AD]
  by_cases q:b.Row<a.Row+a.H
  .rw[w9 q,show((true&&true)==true)=true from rfl,Av,CX (by omega) (by omega),AD]
   by_cases w:a.Col<b.Col+b.W
   .grind [Av,CX,AD]
   .rw[w0 w,w0 (show ¬ (a.Row<b.Row+b.H/\b.Row<a.Row+a.H/\a.Col<b.Col+b.W/\b.Col<a.Col+a.W) from λh=>w h.2.2.1)];rfl
  .rw[w0 q,w0 (show ¬ (a.Row<b.Row+b.H/\b.Row<a.Row+a.H/\a.Col<b.Col+b.W/\b.Col<a.Col+a.W) from λh=>q h.2.1)];rfl
 .rw[w0 m,w0 (show ¬ (a.Row<b.Row+b.H/\b.Row<a.Row+a.H/\a.Col<b.Col+b.W/\b.Col<a.Col+a.W) from λh=>m h.1)];rfl
theorem sO{j l}(h:E9 j l){a b:At}(w:DQ j l a)(A:DQ j l b):PW a b=some (Gn b a):=by
 obtain⟨B,C,E,F⟩:=h
 obtain⟨I,J,a3,a4,a5,M,O,T⟩:=w
 obtain⟨U,V,X,Z,b5,b6,b7,b8⟩:=A
 unfold PW Gn
 rw[CX (by omega) (by omega),AD,CX (by omega) (by omega),AD]
 by_cases m:max a.Row b.Row<min (a.Row+a.H) (b.Row+b.H)
 .rw[w9 m,show((true==true):Bool)=true from rfl,Av,CX (by omega) (by omega),AD,Av,CX (by omega) (by omega),AD]
  by_cases q:max a.Col b.Col<min (a.Col+a.W) (b.Col+b.W)
  .rw[w9 q,w9 (show b.Row<a.Row+a.H/\a.Row<b.Row+b.H/\b.Col<a.Col+a.W/\a.Col<b.Col+b.W by omega)];rfl
  .rw[w0 q,w0 (show ¬ (b.Row<a.Row+a.H/\a.Row<b.Row+b.H/\b.Col<a.Col+a.W/\a.Col<b.Col+b.W) by omega)];rfl
 .rw[w0 m,w0 (show ¬ (b.Row<a.Row+a.H/\a.Row<b.Row+b.H/\b.Col<a.Col+a.W/\a.Col<b.Col+b.W) by omega)];rfl
theorem lv{α:Type}[Inhabited α]{l:List α}{k j}(m:j<k)(q:k<=l.length):(l.take k)[j]! = l[j]!:=by grind
def ML(l:List At)(k:Nat)(w:At):Option Nat:=(List.range k).find? λj=>Gn l[j]! w
theorem ut{m q}(h:E9 m q)(l:List At) k(C:k<=l.length)(F:l.length<=1073741824)(E:∀j,j<k->DQ m q l[j]!){w}(hw:DQ m q w) :
  My w (l.take k)=some (ML l k w).isSome:=by
 unfold My SP
 have A:(l.take k).length=k:=by grind
 rw[B5 (n:=k) (λj=>if Gn l[j]! w then some (j:Int) else none) (λj B=>by
  unfold P1 Th
  rw[ww (by rw[A,xG];omega),Ak (by rw[A];exact B),AD,lv B C,kw h (E j B) hw,AD,AD,Au (by omega)]
  cases Gn l[j]! w<;>rfl) (by unfold P1;rw[wv (by rw[A];simp)]),TX,F1]
 unfold ML
 cases (List.range k).find? λj=>Gn l[j]! w with
 | none=>rfl
 | some j=>
  simp_all
def Jt(j m:Int)(l:List At)(k:Nat):Option Int:=
 if ¬ DQ j m l[k]! then some 2 else if l[k]!.H=1/\l[k]!.W=1 then some 4 else if 0<k/\0<=B9 l[k-1]!.Row l[k]!.Row l[k-1]!.Col l[k]!.Col then some 5 else if(ML l k l[k]!).isSome=true then some 21 else none
theorem Va{j m}{l}{k}(h:Jt j m l k=none):DQ j m l[k]!:=by grind [Jt,DQ]
def HE(g:BJ):Int:=
 if ¬ E9 g.Rows g.Cols then 2 else if JK g.Rows g.Cols false g.Cells≠0 then JK g.Rows g.Cols false g.Cells else((List.range g.Merges.length).findSome? (Jt g.Rows g.Cols g.Merges)).getD 0
def XT(g:BJ):Prop:=g.Cells.length<=1048576/\g.Merges.length<=1048576/\∀c∈g.Cells,Sr c
theorem si(a b:At):Pb a b=some (!(0<=B9 a.Row b.Row a.Col b.Col)):=by
 unfold Pb
 congr 1
 grind [SA]
theorem aI(g:BJ)(h:XT g):O2 g=some (HE g):=by
 obtain⟨Z,hm,A⟩:=h
 unfold O2 HE
 by_cases w:E9 g.Rows g.Cols
 .have B:=w
  obtain⟨r1,r2,E,r4⟩:=B
  rw[wv (by simp only[xl,xG];omega),jf _ _ _ _ (by omega) A,AD,wv (xm.2 w)]
  by_cases F:JK g.Rows g.Cols false g.Cells=0
  .rw[wv (Cv F),wv (xm.2 F),dO (n:=g.Merges.length) (Jt g.Rows g.Cols g.Merges) (λk I T=>by
    unfold Oe
    rw[ww (by simpa using I),Ak I,AD,oX _ _ _ w,AD]
    unfold Jt
    by_cases m:DQ g.Rows g.Cols g.Merges[k]!
    .rw[w9 m,wv (show ¬ ((!true)=true) by decide),wv (xm.2 m)]
     by_cases q:g.Merges[k]!.H=1/\g.Merges[k]!.W=1
     .rw[ww (by rw[w9 q.1,w9 q.2];rfl),ww q];rfl
     .rw[wv (by simp only[xE,xG];exact q),wv q]
      have l:=ut w g.Merges k (by omega) (by omega) (λj C=>Va (T j C)) m
      have U:Dl g.Merges 0 (k:Int)=some (g.Merges.take k):=by
       grind [kq]
      have J:(AB (Dl g.Merges 0 (k:Int)) λ(V:List At)=>
        AB (My g.Merges[k]! V) λ(E:Bool)=>
        if E then(some (.inr (.ext 21)):Option (Int ⊕ (A3 Unit Int))) else(
         AB (AX .i64 ((k:Int)+1)) λ(X:Int)=>some (.inl X)))=DD k (if(ML g.Merges k g.Merges[k]!).isSome=true then some 21 else none):=by
       rw[U,AD,l,AD,Au (by omega)]
       cases (ML g.Merges k g.Merges[k]!).isSome<;>rfl
      by_cases M:0<k
      .rw[w9 (show(0:Int)<k by omega),show((true==true):Bool)=true from rfl,Av,FP M (by omega),AD,Av,Ak (show k-1<g.Merges.length by omega),AD,Av,si,AD]
       by_cases O:0<=B9 g.Merges[k-1]!.Row g.Merges[k]!.Row g.Merges[k-1]!.Col g.Merges[k]!.Col
       .rw[w9 O,ww (show 0<k/\0<=B9 g.Merges[k-1]!.Row g.Merges[k]!.Row g.Merges[k-1]!.Col g.Merges[k]!.Col from⟨M,O⟩)];rfl
       .grind
      .simp_all
    .rw[w0 m,ww m];rfl) (by unfold Oe;rw[wv (by simp)]),Fq]
  .grind
 .grind [E9]
theorem mo{X:Type}(l:List At)(k:Nat)(B:k<l.length)(C:l.length<=9223372036854775806)(a b:Option X) :
  (AB (gd ((decide (0<(k:Int)))==true) (AX .i64 ((k:Int)-1))) λ(m:Int)=>
    AB (gd ((decide (0<(k:Int)))==true) (AO l m)) λ(j:At)=>
    AB (gd ((((decide (0<(k:Int)))==true)&&((decide (l[k]!.Row<j.Row))==false))&&((decide (l[k]!.Row=j.Row))==true)) (AX .i64 ((k:Int)-1))) λ(q:Int)=>
    AB (gd ((((decide (0<(k:Int)))==true)&&((decide (l[k]!.Row<j.Row))==false))&&((decide (l[k]!.Row=j.Row))==true)) (AO l q)) λ(w:At)=>
    if((0<(k:Int))&&((l[k]!.Row<j.Row)||((l[k]!.Row=j.Row)&&(l[k]!.Col<=w.Col)))) then a else b) =
   if 0<k/\0<=B9 l[k-1]!.Row l[k]!.Row l[k-1]!.Col l[k]!.Col then a else b:=by
 have E:=SA l[k-1]!.Row l[k]!.Row l[k-1]!.Col l[k]!.Col
 by_cases A:0<k
 .rw[w9 (show(0:Int)<k by omega),show((true==true):Bool)=true from rfl,Av,FP A (by omega),AD,Av,Ak (show k-1<l.length by omega),AD]
  by_cases F:l[k]!.Row<l[k-1]!.Row
  .simp_all
  .by_cases I:l[k]!.Row=l[k-1]!.Row
   .grind [Av,AD,Ak,B9]
   .simp_all
 .simp_all
theorem oG(g:BJ)(h:XT g):P3 g=some (HE g):=by
 obtain⟨U,V,A⟩:=h
 unfold P3 HE
 rw[EA,AD]
 by_cases l:E9 g.Rows g.Cols
 .have B:=l
  obtain⟨F,I,J,M⟩:=B
  rw[w9 (show 0<=g.Rows/\g.Rows<=2147483647 from⟨F,I⟩),show((!true)==false)=true from rfl,Av,EA,AD,w9 (show 0<=g.Cols/\g.Cols<=2147483647 from⟨J,M⟩),wv (by decide),
   vh _ _ _ _ (by omega) A ⟨F,I⟩ ⟨J,M⟩,AD,wv (xm.2 l)]
  by_cases O:JK g.Rows g.Cols false g.Cells=0
  .rw[wv (Cv O),wv (xm.2 O),dO (n:=g.Merges.length) (Jt g.Rows g.Cols g.Merges) (λk C T=>by
    unfold QH
    rw[ww (by simpa using C),Ak C,AD,oN _ _ _ l,AD]
    unfold Jt
    by_cases m:DQ g.Rows g.Cols g.Merges[k]!
    .rw[w9 m,wv (show ¬ ((!true)=true) by decide),wv (xm.2 m)]
     by_cases q:g.Merges[k]!.H=1/\g.Merges[k]!.W=1
     .rw[ww (by rw[w9 q.1,w9 q.2];rfl),ww q];rfl
     .rw[wv (by simp only[xE,xG];exact q),wv q,mo _ k C (by omega)]
      by_cases w:0<k/\0<=B9 g.Merges[k-1]!.Row g.Merges[k]!.Row g.Merges[k-1]!.Col g.Merges[k]!.Col
      .rw[ww w,ww w];rfl
      .rw[wv w,wv w,B5 (n:=k) (λj=>if Gn g.Merges[j]! g.Merges[k]! then some (.inr (.ext 21)) else none) (λj E=>by
        unfold Pn
        rw[ww (by rw[xG];omega),Ak (by omega),AD,sO l m (Va (T j E)),AD,Au (by omega)]
        cases Gn g.Merges[j]! g.Merges[k]!<;>rfl) (by unfold Pn;rw[wv (by rw[xG];omega)]),TX,F1]
       unfold ML
       cases (List.range k).find? λj=>Gn g.Merges[j]! g.Merges[k]! with
       | none=>rw[Au (by omega)];rfl
       | some j=>rfl
    .rw[w0 m,ww m];rfl) (by unfold QH;rw[wv (by simp)]),Fq]
  .grind
 .rw[ww l]
  unfold E9 at l
  by_cases a:0<=g.Rows/\g.Rows<=2147483647
  .grind [Av,EA,AD]
  .rw[w0 a];rfl
def VL(c:UInt8):Bool:=(97<=c.toNat)&&(c.toNat<=122)
def Tj(s:List UInt8):Bool:=(List.range s.length).all λk=>VL s[k]!
def Kr(s:List UInt8):Bool:=(1<=s.length)&&(s.length<=200)&&!(s[s.length-1]!.toNat=97)&&Tj s
theorem cW(s:List UInt8)(l:s.length<=9223372036854775806):iter (λ(a:Int)=>Lu s a) 0=some (Dd (if Tj s then none else some false)):=by
 rw[B5 (n:=s.length) (λk=>if VL s[k]! then none else some false) (λk j=>by
  unfold Lu
  rw[ww (by simpa using j),Ak j,AD,Au (by omega)]
  unfold VL
  generalize s[k]! = c
  by_cases h:97<=c.toNat/\c.toNat<=122
  .rw[wv (by simp only[xl,xG];omega),ww (by simp only[xE,xG];exact h)];rfl
  .rw[ww (by simp only[xl,xG];omega),wv (by simp only[xE,xG];exact h)];rfl) (by unfold Lu;rw[wv (by simp)]),N2]
 rfl
theorem sF:LD=Lu:=by funext s x;rfl
theorem rW(s:List UInt8)(l:s.length<=9223372036854775806):Kg s=some (Kr s):=by
 unfold Kg Kr
 rw[sF,cW s l]
 by_cases h:1<=s.length/\s.length<=200
 .have j:s≠[]:=ya.1 h.1
  rw[w0 j,w0 (show ¬ (200:Int)<(s.length:Int) by omega),show((false||false)==false)=true from rfl,Av,FP h.1 (by omega),AD,Av,Ak (by omega),AD,w9 h.1,w9 h.2]
  by_cases m:s[s.length-1]!.toNat=97
  .grind
  .rw[w0 m,wv (by rw[w0 (show ¬ ((s[s.length-1]!.toNat:Int)=97) by omega)];decide)]
   cases Tj s<;>rfl
 .have q:((s=[])||(200<(s.length:Int)))=true:=by
   grind
  have hd:((1<=s.length)&&(s.length<=200))=false:=by
   grind
  rw[q,hd];rfl
theorem kS(s:List UInt8)(j:s.length<=9223372036854775806):N4 s=some (Kr s):=by
 unfold N4 Kr
 rw[cW s j,F1]
 cases Tj s with
 | false=>rw[Bool.and_false];rfl
 | true=>
  rw[ww rfl,Bool.and_true]
  dsimp only
  by_cases h:1<=s.length/\s.length<=200
  .rw[w9 (show(1:Int)<=(s.length:Int) by omega),w9 (show(s.length:Int)<=200 by omega),show((true&&true)==true)=true from rfl,Av,FP h.1 (by omega),AD,Av,Ak (by omega),AD,w9 h.1,w9 h.2]
   by_cases l:s[s.length-1]!.toNat=97
   .grind
   .rw[w0 l,w0 (show ¬ ((s[s.length-1]!.toNat:Int)=97) by omega)]
  .have m:((1<=(s.length:Int))&&((s.length:Int)<=200))=false:=by
    grind
   have hd:((1<=s.length)&&(s.length<=200))=false:=by
    grind
   rw[m,hd];rfl
def Gl(o:BA):Prop:=(1<=o.Clock/\o.Clock<=1073741824)/\(0<=o.Site/\o.Site<=1000)/\(1<=o.Item/\o.Item<=1073741824)
instance (o:BA):Decidable (Gl o):=by unfold Gl;infer_instance
def NK(o:BA):Int:=
 if ¬ (o.Kind=0\/o.Kind=1) then 8 else if ¬ Gl o then 2
 else if o.Kind=0 then(if o.Name≠[]\/o.Value≠[] then 4 else if ¬ (-1<=o.Parent/\o.Parent<=1073741824) then 2 else if Kr o.Place=false then 9 else 0)
 else(if o.Parent≠0\/o.Place≠[] then 4 else if EX o.Name=false then 9 else if o.Value≠[]/\En o.Value=false then 23 else 0)
def PQ(l:List BA)(k:Nat):Option Int:=
 if NK l[k]!≠0 then some (NK l[k]!) else if 0<k/\0<=B9 l[k-1]!.Clock l[k]!.Clock l[k-1]!.Site l[k]!.Site then some 5 else none
def Yb(l:List BA):Int:=((List.range l.length).findSome? (PQ l)).getD 0
def SI(o:BA):Prop:=o.Place.length<=1073741824/\o.Name.length<=1073741824/\o.Value.length<=1073741824
theorem im(o:BA)(h:SI o):LE o=some (NK o):=by
 obtain⟨hp,I,J⟩:=h
 unfold LE NK
 rw[rW _ (by omega),XX _ (by omega),Ui _ (by omega)]
 by_cases j:o.Kind=0
 .have q:¬ o.Kind=1:=by omega
  rw[wv (show ¬ ((!(o.Kind=0))&&(!(o.Kind=1)))=true by rw[w9 j];simp),wv (show ¬ ¬ (o.Kind=0\/o.Kind=1) from λh=>h (.inl j))]
  by_cases w:Gl o
  .have l:=w
   unfold Gl at l
   rw[wv (by simp only[xl,xG];omega),wv (xm.2 w),ww j,w9 j,w0 q]
   by_cases m:o.Name≠[]\/o.Value≠[]
   .simp_all
   .have E:o.Name=[]/\o.Value=[]:=⟨xp λh=>m (.inl h),xp λh=>m (.inr h)⟩
    have B:(true&&((!(o.Name=[]))||(!(o.Value=[]))))=false:=by grind
    rw[wv m,B]
    by_cases A : -1<=o.Parent/\o.Parent<=1073741824
    .rw[wv (xm.2 A)]
     have C:((o.Parent<(-1))||(1073741824<o.Parent))=false:=by
      grind
     rw[C]
     cases Kr o.Place with
     | false=>rfl
     | true=>rw[w9 E.2];rfl
    .rw[ww A]
     have C:((o.Parent<(-1))||(1073741824<o.Parent))=true:=by
      grind
     rw[C];rfl
  .grind [Gl]
 .by_cases q:o.Kind=1
  .rw[wv (show ¬ ((!(o.Kind=0))&&(!(o.Kind=1)))=true by rw[w9 q,w0 j];decide),wv (show ¬ ¬ (o.Kind=0\/o.Kind=1) from λh=>h (.inr q))]
   by_cases w:Gl o
   .have l:=w
    unfold Gl at l
    rw[wv (by simp only[xl,xG];omega),wv (xm.2 w),wv j,w0 j,w9 q]
    by_cases m:o.Parent≠0\/o.Place≠[]
    .simp_all
    .have E:o.Parent=0/\o.Place=[]:=⟨xp λh=>m (.inl h),xp λh=>m (.inr h)⟩
     have B:(true&&((!(o.Parent=0))||(!(o.Place=[]))))=false:=by grind
     rw[wv m,B]
     cases EX o.Name with
     | false=>rfl
     | true=>
      by_cases A:o.Value=[]
      .simp_all
      .rw[w0 A,wv (show ¬ (true=false) by decide)]
       cases F:En o.Value with
       | false=>simp_all
       | true=>simp_all
   .grind [Gl]
  .grind
theorem qV(a b:BA):Lh a b=some (B9 a.Clock b.Clock a.Site b.Site):=by grind [Lh,ZK,AD,gp,Xy]
theorem sw(a b:BA):MF a b=some (!(0<=B9 a.Clock b.Clock a.Site b.Site)):=by
 unfold MF
 congr 1
 grind [SA]
theorem rU(l:List BA)(A:l.length<=1073741824)(w:∀o∈l,SI o):Ld l=some (Yb l):=by
 unfold Ld
 rw[B5 (n:=l.length) (PQ l) (λk m=>by
  unfold Kv PQ
  rw[ww (by simpa using m),Ak m,AD,im _ (w _ (Bs m)),AD]
  by_cases e:NK l[k]! = 0
  .rw[wv (Cv e),wv (xm.2 e)]
   by_cases q:0<k
   .rw[w9 (show(0:Int)<k by omega),show((true==true):Bool)=true from rfl,Av,FP q (by omega),AD,Av,Ak (show k-1<l.length by omega),AD,Av,qV,AD]
    by_cases j:0<=B9 l[k-1]!.Clock l[k]!.Clock l[k-1]!.Site l[k]!.Site
    .rw[w9 j,ww (show 0<k/\0<=B9 l[k-1]!.Clock l[k]!.Clock l[k-1]!.Site l[k]!.Site from⟨q,j⟩)];rfl
    .rw[w0 j,wv (show ¬ (0<k/\0<=B9 l[k-1]!.Clock l[k]!.Clock l[k-1]!.Site l[k]!.Site) from λh=>j h.2),Au (by omega)];rfl
   .rw[wv (show ¬ (0<k/\0<=B9 l[k-1]!.Clock l[k]!.Clock l[k-1]!.Site l[k]!.Site) from λh=>q h.1),w0 (show ¬ (0:Int)<k by omega),Au (by omega)];rfl
  .rw[ww (DJ e),ww e];rfl) (by unfold Kv;rw[wv (by simp)]),Fq]
 rfl
theorem uP(l:List BA)(hm:l.length<=1073741824)(U:∀o∈l,SI o):OU l=some (Yb l):=by
 unfold OU
 rw[B5 (n:=l.length) (PQ l) (λk E=>by
  obtain⟨hp,V,X⟩:=U _ (Bs E)
  have m:(AB (gd ((decide (0<(k:Int)))==true) (AX .i64 ((k:Int)-1))) λ(Z:Int)=>
    AB (gd ((decide (0<(k:Int)))==true) (AO l Z)) λ(x6:BA)=>
    AB (gd ((decide (0<(k:Int)))==true) (MF x6 l[k]!)) λ(r4:Bool)=>
    if((0<(k:Int))&&(!r4)) then(some (.inr (.ext 5)):Option (Int ⊕ (A3 Unit Int))) else(
     AB (AX .i64 ((k:Int)+1)) λ(x7:Int)=>some (.inl x7)))=DD k (if 0<k/\0<=B9 l[k-1]!.Clock l[k]!.Clock l[k-1]!.Site l[k]!.Site then some 5 else none):=by
   by_cases F:0<k
   .rw[w9 (show(0:Int)<k by omega),show((true==true):Bool)=true from rfl,Av,FP F (by omega),AD,Av,Ak (show k-1<l.length by omega),AD,Av,sw,AD]
    by_cases B:0<=B9 l[k-1]!.Clock l[k]!.Clock l[k-1]!.Site l[k]!.Site
    .rw[w9 B,ww (show 0<k/\0<=B9 l[k-1]!.Clock l[k]!.Clock l[k-1]!.Site l[k]!.Site from⟨F,B⟩)];rfl
    .rw[w0 B,wv (show ¬ (0<k/\0<=B9 l[k-1]!.Clock l[k]!.Clock l[k-1]!.Site l[k]!.Site) from λh=>B h.2),Au (by omega)];rfl
   .rw[wv (show ¬ (0<k/\0<=B9 l[k-1]!.Clock l[k]!.Clock l[k-1]!.Site l[k]!.Site) from λh=>F h.1),w0 (show ¬ (0:Int)<k by omega),Au (by omega)];rfl
  unfold Oj PQ NK
  rw[ww (by simpa using E),Ak E,AD,m,EA,AD,EA,EA,EA,kS _ (by omega),bS _ (by omega),Xu _ (by omega)]
  generalize l[k]! = o at hp V X ⊢
  by_cases I:o.Kind=0\/o.Kind=1
  .rw[wv (show ¬ ((!(o.Kind=0))&&(!(o.Kind=1)))=true by rcases I with h | h<;>rw[w9 h]<;>simp),wv (xm.2 I)]
   by_cases w:Gl o
   .rw[wv (xm.2 w),w9 w.1,show((!true)==false)=true from rfl,Av,AD,w9 w.2.1,show(((!true)||(!true))==false)=true from rfl,Av,AD,w9 w.2.2,wv (show ¬ (((!true)||(!true))||(!true))=true by decide)]
    by_cases C:o.Kind=0
    .rw[ww (w9 C),ww C]
     by_cases j:o.Name≠[]\/o.Value≠[]
     .have J:((!(o.Name=[]))||(!(o.Value=[])))=true:=by
       grind
      rw[ww j,ww J];rfl
     .have A:o.Name=[]/\o.Value=[]:=⟨xp λh=>j (.inl h),xp λh=>j (.inr h)⟩
      rw[wv j,wv (show ¬ ((!(o.Name=[]))||(!(o.Value=[])))=true by rw[w9 A.1,w9 A.2];decide),AD]
      by_cases q : -1<=o.Parent/\o.Parent<=1073741824
      .rw[wv (xm.2 q),w9 q,wv (show ¬ ((!true)=true) by decide),AD]
       cases Kr o.Place<;>rfl
      .rw[ww q,w0 q];rfl
    .rw[wv (show ¬ decide (o.Kind=0)=true by simpa using C),wv C]
     by_cases j:o.Parent≠0\/o.Place≠[]
     .have J:((!(o.Parent=0))||(!(o.Place=[])))=true:=by
       grind
      rw[ww j,ww J];rfl
     .have A:o.Parent=0/\o.Place=[]:=⟨xp λh=>j (.inl h),xp λh=>j (.inr h)⟩
      rw[wv j,wv (show ¬ ((!(o.Parent=0))||(!(o.Place=[])))=true by rw[w9 A.1,w9 A.2];decide),AD]
      cases EX o.Name with
      | false=>rfl
      | true=>
       by_cases q:o.Value=[]
       .simp_all
       .rw[w0 q,wv (show ¬ (true=false) by decide)]
        cases a0:En o.Value with
        | false=>rw[ww (show o.Value≠[]/\false=false from⟨q,rfl⟩)];rfl
        | true=>simp_all
   .rw[ww w]
    unfold Gl at w
    by_cases O:1<=o.Clock/\o.Clock<=1073741824
    .rw[w9 O,show((!true)==false)=true from rfl,Av,AD]
     by_cases T:0<=o.Site/\o.Site<=1000
     .rw[w9 T,show(((!true)||(!true))==false)=true from rfl,Av,AD,w0 (show ¬ (1<=o.Item/\o.Item<=1073741824) by omega)];rfl
     .rw[w0 T];rfl
    .rw[w0 O];rfl
  .have M:((!(o.Kind=0))&&(!(o.Kind=1)))=true:=by
    grind
   rw[ww M,ww I];rfl) (by unfold Oj;rw[wv (by simp)]),Fq]
 rfl
theorem tN:I9=FJ:=by funext k;rfl
theorem nt:R9=HW:=by funext k;rfl
theorem jV:PB=GM:=by funext k;rfl
theorem kh:Td=Hk:=by funext k;rfl
structure GW(n:Ad):Prop where
 ok:UU n
 ce:∀c∈n.Grid.Cells,Sr c
 dr:∀o∈n.Draw,SI o
theorem GW.gd{n:Ad}(h:GW n):XT n.Grid:=⟨h.ok.gr.1,h.ok.gr.2.1,h.ce⟩
def MG(kind:Int)(c:Aw):Bool:=((kind=2)&&((!(c.Text=[]))||(0<(c.Attrs.length:Int))))||((kind=6)&&(!(c.Ref=0)))
def cE(kind:Int)(l:List Aw):Int:=((List.range l.length).findSome? λk=>if MG kind l[k]! then some (4:Int) else none).getD 0
theorem lI kind(l:List Aw)(m:l.length<=1073741824):Qc kind l=some (cE kind l):=by
 unfold Qc
 rw[B5 (n:=l.length) (λk=>if MG kind l[k]! then some (4:Int) else none) (λk j=>by
  unfold N3
  rw[ww (by simpa using j),Ak j,AD,Au (by omega)]
  show(if MG kind l[k]! = true then _ else _)=_
  cases MG kind l[k]!<;>rfl) (by unfold N3;rw[wv (by simp)]),Fq]
 rfl
theorem tu kind(l:List Aw)(A:l.length<=1073741824):Oy kind l=some (cE kind l):=by
 unfold Oy
 rw[B5 (n:=l.length) (λk=>if MG kind l[k]! then some (4:Int) else none) (λk w=>by
  unfold Nx MG
  rw[ww (by simpa using w),Ak w,Au (by omega)]
  generalize l[k]! = c
  by_cases m:kind=2
  .have j:¬ kind=6:=by omega
   rw[w9 m,w0 j]
   rw[show((true==true):Bool)=true from rfl,Av,AD]
   generalize ((!(c.Text=[]))||(0<(c.Attrs.length:Int)))=q
   cases q<;>rfl
  .by_cases j:kind=6
   .rw[w0 m,w9 j]
    rw[show((false==true):Bool)=false from rfl,DO,AD]
    show(AB (gd true (some c)) λ(B:Aw)=>_)=_
    rw[Av,AD]
    generalize (!(c.Ref=0))=q
    cases q<;>rfl
   .rw[w0 m,w0 j];rfl) (by unfold Nx;rw[wv (by simp)]),Fq]
 rfl
def Uu(t l g z d j m:Bool):Bool:=((!(t||l)&&j)||(!g&&!z))||(!d&&m)
theorem sx t l g z d j m :
  (if(((!(t||l))&&j)==false) then(
   if((!g)==true) then(
    AB (gd ((((!(t||l))&&j)||((!g)&&(!z)))==false) (some d)) λ(w:Bool)=>
    some ((((!(t||l))&&j)||((!g)&&(!z)))||((!w)&&m))
   ) else(
    AB (gd ((((!(t||l))&&j)||((!g)&&false))==false) (some d)) λ(A:Bool)=>
    some ((((!(t||l))&&j)||((!g)&&false))||((!A)&&m))
   )
  ) else(
   AB (gd ((((!(t||l))&&j)||false)==false) (some d)) λ(q:Bool)=>
   some ((((!(t||l))&&j)||false)||((!q)&&m))
  ))=some (Uu t l g z d j m):=by
 cases t<;>cases l<;>cases g<;>cases z<;>cases d<;>cases j<;>cases m<;>rfl
theorem l9{X:Type}(t l g z d j m:Bool)(A B:Option X) :
  (AB (gd ((j&&(!(t||l)))==false) (some z)) λ(q:Bool)=>
   AB (gd (((j&&(!(t||l)))==false)&&((!q)==true)) (some g)) λ(w:Bool)=>
   AB (gd ((((j&&(!(t||l)))||((!q)&&(!w)))==false)&&(m==true)) (some d)) λ(C:Bool)=>
   if(((j&&(!(t||l)))||((!q)&&(!w)))||(m&&(!C))) then A else B)=if Uu t l g z d j m=true then A else B:=by
 cases t<;>cases l<;>cases g<;>cases z<;>cases d<;>cases j<;>cases m<;>rfl
theorem nV{α:Type}(l:List α):decide ((l.length:Int)=0)=l.isEmpty:=by
 cases l with
 | nil=>rfl
 | cons a l=>grind
theorem rZ g:P0 g=some (decide (g=BJ.mk 0 0 [] [])):=by
 unfold P0
 congr 1
 obtain⟨a,b,c,d⟩:=g
 grind [nV]
theorem Rj(n:Ad)(h:GW n):∃e,DM n=some e/\OA n=some e:=by
 have j:=h.ok.at_
 have Z:=h.ok.fl
 have hg:=h.ok.gr
 have hd:=h.ok.dr
 have q:∀x∈n.Flow,II x:=λx E=>⟨by have:=(h.ok.fa x E).1;omega,(h.ok.fa x E).2⟩
 unfold DM OA
 rw[tN,nt,jV,kh,EA,AD]
 by_cases F:1<=n.ID/\n.ID<=1073741824
 .rw[wv (show ¬ ((n.ID<1)||(1073741824<n.ID))=true by simp only[xl,xG];omega),w9 F,wv (show ¬ ((!true)=true) by decide),EA,AD]
  by_cases I:(0<=n.Kind/\n.Kind<=12)/\(n.ID=1↔n.Kind=0)
  .obtain⟨I,c3⟩:=I
   have J:(((n.Kind<0)||(13<=n.Kind))||(!((decide (n.ID=1))==(decide (n.Kind=0)))))=false:=by
    grind
   have e2:(((!(0<=n.Kind/\n.Kind<=12))||((n.ID=1)&&(!(n.Kind=0))))||((!(n.ID=1))&&(n.Kind=0)))=false:=by
    grind
   rw[J,e2,wv (show ¬ (false=true) by decide),wv (show ¬ (false=true) by decide),Oc _ j.2 (by have:=j.1;omega),AD,XA _ _ j.2 (by have:=j.1;omega),AD]
   by_cases M:B1 n.Attrs false=0
   .rw[wv (Cv M),wv (Cv M)]
    obtain⟨t,V⟩:∃t,FJ n.Kind=some t:=⟨_,rfl⟩
    obtain⟨l,X⟩:∃t,HW n.Kind=some t:=⟨_,rfl⟩
    obtain⟨g,w⟩:∃t,GM n.Kind=some t:=⟨_,rfl⟩
    obtain⟨d,A⟩:∃t,Hk n.Kind=some t:=⟨_,rfl⟩
    rw[V,X,w,A,AD,AD,WS _ _ hg,rZ]
    have B:∃m,gd (t==false) (some l)=some m:=by cases t<;>exact⟨_,rfl⟩
    obtain⟨m,C⟩:=B
    rw[C,AD,AD,AD,sx,AD,AD,l9]
    by_cases O:Uu t m g (decide (n.Grid=BJ.mk 0 0 [] [])) d (decide (0<(n.Flow.length:Int))) (decide (0<(n.Draw.length:Int)))=true
    .simp_all
    .rw[wv O,wv O]
     by_cases T:(t||m)=true
     .obtain⟨r,h1,h2⟩:=ms n.Flow t q (by omega)
      simp_all
     .rw[wv T,wv T]
      cases g with
      | true=>
       rw[ww rfl,aI _ h.gd,AD,AD,ww rfl,oG _ h.gd,AD]
       by_cases U:HE n.Grid=0
       .rw[wv (Cv U),wv (Cv U),lI _ _ (by have:=hg.1;omega),tu _ _ (by have:=hg.1;omega)];exact⟨_,rfl,rfl⟩
       .simp_all
      | false=>
       rw[wv (show ¬ (false=true) by decide),AD,wv (show ¬ (false=true) by decide),rU _ (by omega) h.dr,uP _ (by omega) h.dr];exact⟨_,rfl,rfl⟩
   .simp_all
  .have J:(((n.Kind<0)||(13<=n.Kind))||(!((decide (n.ID=1))==(decide (n.Kind=0)))))=true:=by
    grind
   have e2:(((!(0<=n.Kind/\n.Kind<=12))||((n.ID=1)&&(!(n.Kind=0))))||((!(n.ID=1))&&(n.Kind=0)))=true:=by
    grind
   simp_all
 .rw[ww (show((n.ID<1)||(1073741824<n.ID))=true by simp only[xl,xG];omega),w0 F];exact⟨_,rfl,rfl⟩
theorem iY(s:List Int) v(m:s.length<=1048576):NP s v=some ((List.range s.length).find? λj=>decide (v=s[j]!)).isSome:=by
 unfold NP Rh
 rw[B5 (n:=s.length) (λj=>if decide (v=s[j]!) then some (j:Int) else none) (λj l=>by
  unfold P6
  rw[ww (by simpa using l),Ak l,AD,Au (by omega)]
  cases decide (v=s[j]!)<;>rfl) (by unfold P6;rw[wv (by simp)]),TX,F1]
 cases (List.range s.length).find? λj=>decide (v=s[j]!) with
 | none=>rfl
 | some j=>
  simp_all
theorem bG(s:List Int) v(m:s.length<=1048576):NP s v=some (decide (v∈s)):=by
 rw[iY s v m]
 congr 1
 rw[Bool.eq_iff_iff,xG,List.find?_isSome]
 constructor
 .grind
 .intro h
  obtain⟨j,l,e⟩:=List.getElem_of_mem h
  exact⟨j,yA.2 l,w9 (by rw[xg s j l,e])⟩
def Lt(p k:Int):Bool:=
 if p=0 then decide (k∈[1,6,7,10,11,12]) else if p=1 then decide (k∈[2,4,5,10]) else if p=3 then decide (k∈[4,5,10]) else if p=4\/p=12 then decide (k=5) else if p=2 then decide (k=3) else if p=7 then decide (k=8\/k=9) else false
theorem eL p k:QE p k=some (Lt p k):=by
 unfold QE Lt
 by_cases j:p=0
 .simp_all [AD,bG]
 .grind [AD,bG]
theorem vx p k:Qm p k=some (Lt p k) := by
  have hk:k=1\/k=2\/k=3\/k=4\/k=5\/k=6\/k=7\/k=8\/k=9\/k=10\/k=11\/k=12\/(k≠1/\k≠2/\k≠3/\k≠4/\k≠5/\k≠6/\k≠7/\k≠8/\k≠9/\k≠10/\k≠11/\k≠12) := by omega
  have hp:p=0\/p=1\/p=2\/p=3\/p=4\/p=7\/p=12\/(p≠0/\p≠1/\p≠2/\p≠3/\p≠4/\p≠7/\p≠12) := by omega
  unfold Qm Lt I9
  rcases hk with rfl | rfl | rfl | rfl | rfl | rfl | rfl | rfl | rfl | rfl | rfl | rfl | ⟨I, J, M, O, T, U, V, X, Z, l, m, q⟩
  all_goals first
    | (rcases hp with rfl | rfl | rfl | rfl | rfl | rfl | rfl | ⟨w, A, B, C, E, F, j⟩
       all_goals first | rfl | (simp[w, A, B, C, E, F, j];done))
    | (rcases hp with rfl | rfl | rfl | rfl | rfl | rfl | rfl | ⟨w, A, B, C, E, F, j⟩
       all_goals first
         | (simp[I, J, M, O, T, U, V, X, Z, l, m, q];done)
         | (simp[I, J, M, O, T, U, V, X, Z, l, m, q, w, A, B, C, E, F, j];done))
theorem lm{n:Nat}(h:n<9223372036854775808):IntKind.u64.wrap (n:Int)=(n:Int):=by
 have e:(n:Int) % (2 ^ (64:Nat):Int)=(n:Int):=WAa (by omega) (by omega)
 show(if(false&&((n:Int) % (2 ^ (64:Nat):Int) >= (2 ^ (63:Nat):Int)))=true then(n:Int) % (2 ^ (64:Nat):Int)-(2 ^ (64:Nat):Int) else(n:Int) % (2 ^ (64:Nat):Int))=_
 grind
theorem sZ(m:Nat)(h:m<4294967296):IntKind.i64.wrap (Fh .u64 (IntKind.u64.wrap (m:Int)) 1)=((m / 2:Nat):Int):=by
 rw[lm (by omega)]
 show IntKind.i64.wrap ((m:Int).fdiv (2 ^ (min 1 64)))=_
 rw[show((2:Int) ^ (min 1 64))=2 from rfl,Int.fdiv_eq_ediv_of_nonneg _ (by omega),show(m:Int) / 2=((m / 2:Nat):Int) by omega,X1 (by omega)]
def HQ(l:List Ad):Prop:=∀a b:Nat,a<b->b<l.length->l[a]!.ID<l[b]!.ID
theorem cO(n:Ad) id:NG n id=some (if n.ID<id then -1 else if id<n.ID then 1 else 0):=by grind [NG]
theorem O3(d:Ac) id(T:d.Nodes.length<=1048576)(q:HQ d.Nodes):∃i:Nat,Gb d id=some ((i:Int),(B4 d.Nodes id).isSome)/\(∀k,B4 d.Nodes id=some k->i=k):=by
 obtain⟨l⟩:=d
 dsimp only at T q ⊢
 have key:∃r,iter (λ(a:Int × Int)=>MC l id a.1 a.2) (0,(l.length:Int))=some r /\
   ∃I:Nat,r=(I:Int)/\I<=l.length/\(∀m,m<I->l[m]!.ID<id)/\∀m,I<=m->m<l.length->¬ l[m]!.ID<id:=by
  refine Jo l.length (λk F=>∃I J:Nat,F=((I:Int),(J:Int))/\I<=J/\J<=l.length/\J-I<=l.length-k/\(∀m,m<I->l[m]!.ID<id)/\∀m,J<=m->m<l.length->¬ l[m]!.ID<id) _ ?_ ?_ ⟨0,l.length,rfl,by omega,by omega,by omega,λm h=>absurd h (Nat.not_lt_zero _),λm U w=>absurd w (by omega)⟩
  .rintro k F hk ⟨I,J,rfl,U,w,h3,A,B⟩
   dsimp only
   unfold MC
   by_cases V:I<J
   .left
    rw[ww (by rw[xG];omega),show(I:Int)+(J:Int)=((I+J:Nat):Int) by omega,CX (by omega) (by omega),AD,sZ _ (by omega),Ak (by omega),AD,cO,AD]
    by_cases M:l[(I+J) / 2]!.ID<id
    .rw[ww M,ww (by decide),Au (by omega)]
     refine⟨_,rfl,(I+J) / 2+1,J,rfl,by omega,w,by omega,λm X=>?_,B⟩
     by_cases e:m=(I+J) / 2
     .grind
     .have:=q m ((I+J) / 2) (by omega) (by omega);omega
    .rw[wv M,wv (show ¬ decide ((if id<l[(I+J) / 2]!.ID then(1:Int) else 0)<0)=true by split<;>decide)]
     refine⟨_,rfl,I,(I+J) / 2,rfl,by omega,by omega,by omega,A,λm O e2=>?_⟩
     by_cases e:m=(I+J) / 2
     .grind
     .have:=q ((I+J) / 2) m (by omega) e2;omega
   .grind
  .grind [MC]
 obtain⟨r,Z,I,rfl,hI,A,B⟩:=key
 unfold Gb S4
 rw[Z,AD]
 have C:∀k,B4 l id=some k->I=k:=by
  intro k E
  obtain⟨O,e2⟩:=FC E
  have a1:¬ k<I:=λh=>by have:=A k h;omega
  by_cases e:I=k
  .exact e
  .have:=q I k (by omega) O
   grind
 refine⟨I,?_,C⟩
 by_cases j:I<l.length
 .rw[w9 (show(I:Int)<(l.length:Int) by omega),show((true==true):Bool)=true from rfl,Av,Ak j,AD,Av,cO,AD,By]
  congr 2
  have h6:=B I (wy _) j
  rw[wv h6]
  cases E:B4 l id with
  | some k=>
   grind [FC]
  | none=>
   have a0:l[I]!.ID≠id:=by
    intro e
    have:=List.find?_eq_none.1 E I (yA.2 j)
    grind
   grind
 .rw[w0 (show ¬ (I:Int)<(l.length:Int) by omega)]
  show some ((I:Int),false)=_
  grind [B4,FC]
def JR(d:Ac):Prop:=d.Nodes.length<=1048576/\∀n∈d.Nodes,GW n
theorem X7:Hw=FY:=by funext f x o;rfl
theorem oS(n:Ad):R7 n=FY n.Flow:=by funext x o;rfl
theorem lA:Tz=E8:=by funext n x o;rfl
theorem tj(n:Ad)(w:List Int)(q:n.Grid.Cells.length<=1048576)(hw:w.length<=1048576):∃r,iter (λ(a:Int × (List Int))=>E8 n a.1 a.2) (0,w)=some r/\r.length<=2097152:=by
 refine Jo n.Grid.Cells.length (λk j=>j.1=(k:Int)/\j.2.length<=1048576+k) _ ?_ ?_ ⟨rfl,by simpa using hw⟩
 .rintro k ⟨x,out⟩ l ⟨rfl,m⟩
  dsimp only at m ⊢
  left
  unfold E8
  rw[ww (by simpa using l),Ak l,AD]
  by_cases r:n.Grid.Cells[k]!.Ref=0
  .rw[wv (Cv r),AD,Au (by omega),AD]
   grind
  .rw[ww (DJ r),Ky (by omega),AD,AD,Au (by omega),AD]
   grind
 .grind [E8]
theorem ow(n:Ad)(h:GW n):∃r,It n=some r/\PL n=some r/\r.length<=2097152:=by
 have j:=h.ok.fl
 obtain⟨w,l,m⟩:=uJ n.Flow (by omega)
 obtain⟨r,q,A⟩:=tj n w h.ok.gr.1 (by omega)
 simp_all [It,MW,X7,AD,PL,oS,lA]
theorem Ws(d:Ac) kind(l:List Int)(w:d.Nodes.length<=1048576)(B:HQ d.Nodes)(F:l.length<=2097152):∃e,Iv d kind l=some e/\PU d kind l=some e:=by
 obtain⟨o,I,J,_⟩:=Wf (ρ:=Int) (f:=λ(a:Int)=>Ib d kind l a) (g:=λ(a:Int)=>Mv d kind l a) (n:=l.length) (λ_=>True) trivial (λk m _=>by
  unfold Ib Mv
  obtain⟨i,C,q⟩:=O3 d l[k]! w B
  rw[ww (by simpa using m),ww (by simpa using m),Ak m,AD,AD,C,By,PZ _ _ w,AD]
  cases A:B4 d.Nodes l[k]! with
  | none=>exact⟨some 7,rfl,rfl,λe=>by cases e⟩
  | some j=>
   obtain⟨E,e2⟩:=FC A
   have:=q j A
   subst this
   dsimp only
   rw[wv (show ¬ ((!Option.isSome (some i))=true) by simp),Ak E,AD,eL,AD,wv (show ¬ decide ((i:Int)<0)=true by simp),AD,vx,AD]
   cases Lt kind d.Nodes[i]!.Kind with
   | false=>exact⟨some 8,rfl,rfl,λe=>by cases e⟩
   | true=>
    rw[Au (by omega)]
    exact⟨none,rfl,rfl,λ_=>trivial⟩) (by unfold Ib;rw[wv (by simp)]) (by unfold Mv;rw[wv (by simp)])
 grind [Iv,Fq,PU]
theorem Yq{l:List Ad}(h:∀k,0<k->k<l.length->l[k-1]!.ID<l[k]!.ID):HQ l:=by
 intro a b j m
 induction b with
 | zero=>omega
 | succ b q=>
  grind
theorem tX(d:Ac)(h:JR d):∃e,Fa d=some e/\Pg d=some e:=by
 obtain⟨C,A⟩:=h
 unfold Fa Pg
 by_cases h0:d.Nodes.length=0
 .simp_all
 .rw[wv (by rw[xG];omega),wv (by rw[xG];omega)]
  obtain⟨o,E,F,I⟩:=Wf (ρ:=Int) (f:=λ(a:Int)=>FK d a) (g:=λ(a:Int)=>NV d a) (n:=d.Nodes.length) (λk=>∀j,0<j->j<k->d.Nodes[j-1]!.ID<d.Nodes[j]!.ID) (λj _ J=>absurd J (Nat.not_lt_zero _)) (λk l hI=>by
   unfold FK NV
   obtain⟨e,B,e2⟩:=Rj _ (A _ (Bs l))
   rw[ww (by simpa using l),ww (by simpa using l),Ak l,AD,AD,B,e2,AD,AD]
   by_cases m:e=0
   .rw[wv (Cv m),wv (Cv m)]
    by_cases M:k=0
    .subst M
     rw[w9 (show((0:Nat):Int)=0 from rfl),show((true==true):Bool)=true from rfl,Av,show(0:Int)=((0:Nat):Int) from rfl,Ak l,AD,w0 (show ¬ ((0:Nat):Int)<((0:Nat):Int) by omega)]
     by_cases BR:d.Nodes[0]!.ID=1
     .refine⟨none,?_,?_,λ_ j O T=>by omega⟩
      .rw[w9 BR];rfl
      .rw[w9 BR];rfl
     .refine⟨some 5,?_,?_,λe=>by cases e⟩
      .rw[w0 BR];rfl
      .rw[w0 BR];rfl
    .have U:0<k:=by omega
     rw[w0 (show ¬ ((k:Int)=0) by omega),w9 (show(0:Int)<(k:Int) by omega),show((false==true):Bool)=false from rfl,DO,AD]
     show ∃o:Option Int,(AB (gd true (AX .i64 ((k:Int)-1))) λ(w:Int)=>AB (gd true (AO d.Nodes w)) λ(q:Ad)=>_)=_/\(AB (gd true (AX .i64 ((k:Int)-1))) λ(q:Int)=>AB (gd true (AO d.Nodes q)) λ(V:Ad)=>_)=_/\_
     rw[Av,FP U (by omega),AD,AD,Av,Ak (show k-1<d.Nodes.length by omega),AD,AD,Au (by omega)]
     by_cases BR:d.Nodes[k]!.ID<=d.Nodes[k-1]!.ID
     .rw[w9 BR]
      exact⟨some 5,rfl,rfl,λe=>by cases e⟩
     .rw[w0 BR]
      refine⟨none,rfl,rfl,λ_ j O T=>?_⟩
      grind
   .rw[ww (DJ m),ww (DJ m)]
    exact⟨some e,rfl,rfl,λe=>by cases e⟩) (by unfold FK;rw[wv (by simp)]) (by unfold NV;rw[wv (by simp)])
  rw[E,F]
  cases o with
  | some e=>exact⟨e,rfl,rfl⟩
  | none=>
   have X:=Yq (I rfl)
   show ∃e,(A7 (iter (λ(a:Int)=>Ho d a) 0) λ(Z:Unit)=>some 0)=some e/\(A7 (iter (λ(a:Int)=>Kq d a) 0) λ(Z:Unit)=>some 0)=some e
   obtain⟨o,B,e2,_⟩:=Wf (ρ:=Int) (f:=λ(a:Int)=>Ho d a) (g:=λ(a:Int)=>Kq d a) (n:=d.Nodes.length) (λ_=>True) trivial (λk l _=>by
    unfold Ho Kq
    obtain⟨r,r1,r2,r3⟩:=ow _ (A _ (Bs l))
    obtain⟨e,c1,c2⟩:=Ws d d.Nodes[k]!.Kind r C X r3
    rw[ww (by simpa using l),ww (by simpa using l),Ak l,AD,AD,r1,r2,AD,AD,c1,c2,AD]
    by_cases m:e=0
    .rw[wv (Cv m),Au (by omega)]
     exact⟨none,rfl,rfl,λ_=>trivial⟩
    .rw[ww (DJ m)]
     exact⟨some e,rfl,rfl,λ_=>trivial⟩) (by unfold Ho;rw[wv (by simp)]) (by unfold Kq;rw[wv (by simp)])
   grind [Fq]
theorem uu{μ:Ad->Nat}{γ:BJ->Nat}{ψ:Aw->Nat}{ρ:At->Nat}{δ:BA->Nat}{ν:Aq->Nat}{κ:AH->Nat}
  (w:∀n,(n.Attrs.map κ).sum+(n.Flow.map ν).sum+γ n.Grid+(n.Draw.map δ).sum+1<=μ n) (hg:∀g,(g.Cells.map ψ).sum+(g.Merges.map ρ).sum+1<=γ g)
  (hc:∀c,c.Text.length+(c.Attrs.map κ).sum+1<=ψ c) (A:∀r,1<=ρ r) (hd:∀o,o.Place.length+o.Name.length+o.Value.length+1<=δ o) (B:∀e,(e.Attrs.map κ).sum+1<=ν e) (C:∀a,a.Name.length+a.Value.length+1<=κ a)
  {d:Ac} (E:(d.Nodes.map μ).sum<=1048576):JR d:=by
 have j:=ml w hg (λc=>by have:=hc c;omega) A (λo=>by have:=hd o;omega) B C E
 refine⟨j.1,λn l=>⟨j.2 n l,λc m=>⟨(j.2 n l).gr.2.2 c m,?_⟩,λo q=>?_⟩⟩
 .grind [Jf]
 .have F:=Jf (μ:=μ) l
  have I:=w n
  have J:=Jf (μ:=δ) q
  have:=hd o
  exact⟨by omega,by omega,by omega⟩
theorem Be{α β:Type}{o:Option α}{f:α->Option β}{r:β}(h:AB o f=some r):∃a,o=some a/\f a=some r:=by
 cases o with
 | none=>cases h
 | some a=>exact⟨a,rfl,h⟩
theorem NA{d:Ac}(h:JR d)(j:Fa d=some 0):HQ d.Nodes/\∀k,k<d.Nodes.length->DM d.Nodes[k]! = some 0:=by
 obtain⟨I,C⟩:=h
 unfold Fa at j
 split at j
 .cases j
 let g:Nat->Option Int:=λk=>if(DM d.Nodes[k]!).getD 0≠0 then some ((DM d.Nodes[k]!).getD 0) else if(k=0/\d.Nodes[k]!.ID≠1)\/(0<k/\d.Nodes[k]!.ID<=d.Nodes[k-1]!.ID) then some 5 else none
 have hit:iter (λ(a:Int)=>FK d a) 0=some (Dd ((List.range d.Nodes.length).findSome? g)):=by
  refine B5 g (λk l=>?_) (by unfold FK;rw[wv (by simp)])
  unfold FK
  obtain⟨e,E,_⟩:=Rj _ (C _ (Bs l))
  show _=DD k (g k)
  simp only[g]
  rw[ww (by simpa using l),Ak l,AD,E,AD]
  show _=DD k (if e≠0 then some e else _)
  by_cases m:e=0
  .rw[wv (Cv m),wv (by simpa using m)]
   by_cases w:k=0
   .subst w
    rw[w9 (show((0:Nat):Int)=0 from rfl),w0 (show ¬ (0:Int)<((0:Nat):Int) by omega)]
    by_cases BR:d.Nodes[0]!.ID=1
    .rw[w9 BR,wv (show ¬ ((0=0/\d.Nodes[0]!.ID≠1)\/(0<0/\d.Nodes[0]!.ID<=d.Nodes[0-1]!.ID)) by rintro(⟨_,b⟩ | ⟨a,_⟩);exact b BR;omega)]
     rfl
    .rw[w0 BR,ww (show((0=0/\d.Nodes[0]!.ID≠1)\/(0<0/\d.Nodes[0]!.ID<=d.Nodes[0-1]!.ID)) from .inl ⟨rfl,BR⟩)]
     rfl
   .have A:0<k:=by omega
    rw[w0 (show ¬ ((k:Int)=0) by omega),w9 (show(0:Int)<(k:Int) by omega)]
    show(AB (gd true (AX .i64 ((k:Int)-1))) λ(q:Int)=>AB (gd true (AO d.Nodes q)) λ(F:Ad)=>_)=_
    rw[Av,FP A (by omega),AD,Av,Ak (show k-1<d.Nodes.length by omega),AD,Au (by omega)]
    by_cases BR:d.Nodes[k]!.ID<=d.Nodes[k-1]!.ID
    .rw[w9 BR,ww (show((k=0/\d.Nodes[k]!.ID≠1)\/(0<k/\d.Nodes[k]!.ID<=d.Nodes[k-1]!.ID)) from .inr ⟨A,BR⟩)]
     rfl
    .rw[w0 BR,wv (show ¬ ((k=0/\d.Nodes[k]!.ID≠1)\/(0<k/\d.Nodes[k]!.ID<=d.Nodes[k-1]!.ID)) by rintro(⟨a,_⟩ | ⟨_,b⟩);exact w a;exact BR b)]
     rfl
  .rw[ww (DJ m),ww m]
   rfl
 rw[hit] at j
 cases B:(List.range d.Nodes.length).findSome? g with
 | some e=>
  rw[B] at j
  have j:(some e:Option Int)=some 0:=j
  injection j with j
  obtain⟨k,_,l⟩:=yE B
  grind
 | none=>
  grind [DM,Yq,Rj,Bs]
theorem XJ{d:Ac} id(j:d.Nodes.length<=1048576)(l:HQ d.Nodes):L0 d id=some (match B4 d.Nodes id with | some k=>(k:Int) | none=>-1):=by
 unfold L0
 obtain⟨i,m,q⟩:=O3 d id j l
 grind [By,B4]
def sg(neg:Bool)(v:Nat):Int:=if neg then -(v:Int) else(v:Int)
theorem tf neg v:max ((sg neg v).tmod 10) (-((sg neg v).tmod 10))=((v % 10:Nat):Int) /\ -10<(sg neg v).tmod 10/\(sg neg v).tmod 10<10:=by grind [sg]
theorem oI neg v:(sg neg v).tdiv 10=sg neg (v / 10):=by
 cases neg
 .show((v:Int)).tdiv 10=((v / 10:Nat):Int)
  grind
 .show(-(v:Int)).tdiv 10 = -((v / 10:Nat):Int)
  grind
theorem Yr neg{v}{out:List UInt8}(C:v<=9223372036854775808)(E:out.length<=1000)(l:out=[]\/v≠0) :
  GI (sg neg v) out=some (.inl (sg neg (v / 10),UInt8.ofNat (48+v % 10)::out)):=by
 unfold GI
 obtain⟨m,F,I⟩:=tf neg v
 have q:((out=[])||(!(sg neg v=0)))=true:=by
  grind [sg]
 have w:QT (sg neg v) 10=some ((sg neg v).tmod 10):=by grind [QT]
 have A:Py .i64 (sg neg v) 10=some (sg neg (v / 10)):=by
  grind [Py,oI,Lq,sg]
 have B:IntKind.u8.wrap (48+((v % 10:Nat):Int))=((48+v % 10:Nat):Int):=by
  have j:v % 10<10:=Nat.mod_lt _ (by decide)
  generalize v % 10=r at j
  have:r=0\/r=1\/r=2\/r=3\/r=4\/r=5\/r=6\/r=7\/r=8\/r=9:=by omega
  rcases this with rfl | rfl | rfl | rfl | rfl | rfl | rfl | rfl | rfl | rfl<;>rfl
 rw[ww q,w,AD,Lq (by omega) (by omega),AD,m,Lq (by omega) (by omega),AD,B,A]
 unfold Gf FZ
 rw[ww (by simp;omega)]
 rfl
theorem vk neg:∀(k v:Nat) (out:List UInt8),v<10 ^ k->v<=9223372036854775808->out.length+k<=1000->out≠[] ->
  iter (λ(a:Int × (List UInt8))=>GI a.1 a.2) (sg neg v,out)=some ((if v=0 then [] else Lib.decDigits v)++out):=by
 have stop:∀out:List UInt8,out≠[]->iter (λ(a:Int × (List UInt8))=>GI a.1 a.2) (sg neg 0,out)=some out:=by
  intro out j
  refine Bj ?_
  show GI (sg neg 0) out=_
  unfold GI
  have e:sg neg 0=0:=by cases neg<;>rfl
  rw[e,wv (by simp[j])]
 intro k
 induction k with
 | zero=>
  intro v out m _ _ j
  have:v=0:=by simpa using m
  subst this
  rw[stop out j,ww rfl];rfl
 | succ k w=>
  intro v out m A B j
  by_cases q:v=0
  .subst q;rw[stop out j,ww rfl];rfl
  .rw[CF (f:=λ(a:Int × (List UInt8))=>GI a.1 a.2) (s:=(sg neg v,out)) (Yr neg (out:=out) A (by omega) (.inr q)),
    w (v / 10) _ (by rw[Nat.pow_succ] at m;omega) (by omega) (by simp;omega) (by simp),wv q]
   congr 1
   conv=>rhs;rw[Lib.decDigits]
   by_cases l:v<10
   .rw[zU l,ww (by omega),show v % 10=v by omega];rfl
   .rw[WAM l,wv (by omega)];simp
theorem fw(n:Int)(w : -9223372036854775808<=n)(A:n<=9223372036854775807):Om n=some (Lib.itoa n)/\(Lib.itoa n).length<=22:=by
 have j:∀k u,u<10 ^ k->0<k->(Lib.decDigits u).length<=k:=by
  intro k
  induction k with
  | zero=>grind
  | succ k B=>
   intro u C _
   rw[Lib.decDigits]
   grind
 have l:∀(neg:Bool) (v:Nat),v<=9223372036854775808->iter (λ(a:Int × (List UInt8))=>GI a.1 a.2) (sg neg v,[])=some (Lib.decDigits v):=by
  intro neg v m
  rw[CF (f:=λ(a:Int × (List UInt8))=>GI a.1 a.2) (s:=(sg neg v,[])) (Yr neg m (by simp) (.inl rfl)),
   vk neg 20 (v / 10) _ (by omega) (by omega) (by simp) (by simp)]
  congr 1
  conv=>rhs;rw[Lib.decDigits]
  grind
 unfold Om Lib.itoa
 by_cases E:n<0
 .have e:n=sg true n.natAbs:=by unfold sg;rw[ww rfl];omega
  have q:=j 20 n.natAbs (by omega) (by decide)
  grind [AD,Gf]
 .have e:n=sg false n.toNat:=by unfold sg;rw[wv (by decide)];omega
  have q:=j 20 n.toNat (by omega) (by decide)
  grind [AD,Gf]
end Go.Proofs.YtcgleifameckmaaGreatDoor.Al

set_option linter.unusedVariables false
set_option linter.unusedSimpArgs false
namespace Go.Proofs.YtcgleifameckmaaGreatDoor.Al
open Go
def DK:Nat->List UInt8->Option Nat
 | j,[]=>some j
 | j,c::r=>if 48<=c.toNat/\c.toNat<=57 then DK (j * 10+(c.toNat-48)) r else none
theorem gh(c:UInt8):∀(l:List UInt8) (j:Nat),DK j (l++[c])=(DK j l).bind λa=>if 48<=c.toNat/\c.toNat<=57 then some (a * 10+(c.toNat-48)) else none:=by
 intro l
 induction l with
 | nil=>grind [DK]
 | cons x r m=>
  grind [DK]
theorem fQ:∀(l:List UInt8) (j v:Nat),DK j l=some v->j<=v:=by
 intro l
 induction l with
 | nil=>grind [DK]
 | cons x r m=>
  grind [DK]
theorem so:∀(l:List UInt8) (j v:Nat),DK j l=some v->v<1152921504606846976->Lib.parseUint10 j l=.ok v:=by
 intro l
 induction l with
 | nil=>intro j v h _;simp only[DK,xF] at h;rw[h];rfl
 | cons x r m=>
  intro j v h q
  rw[DK] at h
  simp only[Lib.parseUint10]
  split at h
  .rename_i hd
   have:=fQ _ _ _ h
   grind
  .cases h
theorem sj u:DK 0 (Lib.decDigits u)=some u:=by
 induction u using Nat.strongRecOn with
 | _ u j=>
  rw[Lib.decDigits]
  split
  .rename_i h
   have:(UInt8.ofNat (48+u)).toNat=48+u:=by simp;omega
   grind [DK]
  .rename_i h
   rw[gh,j (u / 10) (by omega),yJ]
   have:(UInt8.ofNat (48+u % 10)).toNat=48+u % 10:=by simp;omega
   grind
theorem aD u(h:1<=u):∃c r,Lib.decDigits u=c::r/\49<=c.toNat/\c.toNat<=57:=by
 induction u using Nat.strongRecOn with
 | _ u j=>
  rw[Lib.decDigits]
  split
  .exact⟨_,[],rfl,by simp;omega,by simp;omega⟩
  .obtain⟨c,r,e,l,m⟩:=j (u / 10) (by omega) (by omega)
   grind
theorem lg:∀(k u:Nat),u<10 ^ (k+1)->(Lib.decDigits u).length<=k+1:=by
 intro k
 induction k with
 | zero=>
  intro u h
  rw[Lib.decDigits,zU (by simpa using h)];simp
 | succ k j=>
  intro u h
  rw[Lib.decDigits]
  grind
theorem tA:∀(n:Nat) (l:List UInt8) (u:Nat),l.length=n->DK 0 l=some u->(∃c r,l=c::r/\(c.toNat≠48\/r=[]))->l=Lib.decDigits u:=by
 intro n
 induction n with
 | zero=>grind
 | succ n B=>
  rintro l u C j ⟨c,r,rfl,E⟩
  rcases List.eq_nil_or_concat r with rfl | ⟨w,d,rfl⟩
  .simp only[DK] at j
   split at j
   .rename_i hd
    simp only[xF] at j
    rw[Lib.decDigits,zU (by omega)]
    congr 1
    apply UInt8.toNat_inj.1
    simp;omega
   .cases j
  .rw[List.concat_eq_append,<- yV,gh] at j
   cases m:DK 0 (c::w) with
   | none=>grind
   | some a=>
    rw[m,yJ] at j
    split at j
    .rename_i hd
     simp only[xF] at j
     have A:c.toNat≠48:=by
      grind
     have F:1<=a:=by
      have q:=m
      rw[DK] at q
      split at q
      .have:=fQ _ _ _ q;omega
      .cases q
     have e:=B (c::w) a (by simp at C ⊢;omega) m ⟨c,w,rfl,.inl A⟩
     rw[List.concat_eq_append,<- yV,e,Lib.decDigits.eq_def u,WAM (by omega)]
     congr 1
     .congr 1;omega
     .congr 1
      apply UInt8.toNat_inj.1
      simp;omega
    .cases j
def CU(s:List UInt8):Int:=
 match s with
 | []=>-1
 | c::r=>if 10<(c::r).length\/(c.toNat=48/\r≠[]) then -1 else match DK 0 (c::r) with | some v=>(v:Int) | none=>-1
theorem nR(c:UInt8)(j:48<=c.toNat):IntKind.i64.wrap (IntKind.u8.wrap ((c.toNat:Int)-48))=((c.toNat-48:Nat):Int):=by
 have:=c.toNat_lt
 rw[show IntKind.u8.wrap ((c.toNat:Int)-48)=((c.toNat-48:Nat):Int) by unfold IntKind.wrap;simp[IntKind.signed,IntKind.bits];omega]
 unfold IntKind.wrap
 simp[IntKind.signed,IntKind.bits]
 omega
theorem Yg(s:List UInt8):Mm s=some (CU s):=by
 unfold Mm
 cases s with
 | nil=>simp[DO,CU]
 | cons c r=>
  rw[w0 (by simp:¬ (c::r)=[]),yW]
  have hN:CU (c::r)=if 10<(c::r).length\/(c.toNat=48/\r≠[]) then -1 else match DK 0 (c::r) with | some v=>(v:Int) | none=>-1:=rfl
  by_cases h10:10<(c::r).length
  .have hN1:CU (c::r) = -1:=by rw[hN,ww (.inl h10)]
   rw[hN1,w9 (by exact_mod_cast h10)]
   simp[DO]
  .rw[w0 (by exact_mod_cast h10)]
   simp only[show((false==false)=true) from rfl,Av,yW]
   rw[show AO (c::r) 0=some c from rfl,AD]
   by_cases h0:c.toNat=48/\r≠[]
   .have hN1:CU (c::r) = -1:=by rw[hN,ww (.inr h0)]
    have h3:0<r.length:=ya.2 h0.2
    rw[hN1,ww (by simp[h0.1];omega)]
   .have hN1:CU (c::r)=match DK 0 (c::r) with | some v=>(v:Int) | none=>-1:=by
     rw[hN,wv (by rintro(h | h);exact h10 h;exact h0 h)]
    rw[hN1,wv]
    .have h:=Ex (f:=λ(a:Int × Int)=>HX (c::r) a.1 a.2) (c::r) (λ(n:Nat) i=>((n:Int),(i:Int))) (λl n=>match DK n l with | some v=>(.nrm (v:Int):A3 Int Int) | none=>.ext (-1)) (λi n=>n<10 ^ i)
      (λi n hi hn=>by
       show(∃c',HX (c::r) (n:Int) (i:Int)=_/\_)\/HX (c::r) (n:Int) (i:Int)=_
       unfold HX
       rw[ww (by rw[xG];exact_mod_cast hi),Ak hi,AD]
       generalize (c::r)[i]! = x
       have hi10:i<=9:=by omega
       have hp:10 ^ i<=10 ^ 9:=Nat.pow_le_pow_right (by omega) hi10
       by_cases hd:48<=x.toNat/\x.toNat<=57
       .left
        refine⟨n * 10+(x.toNat-48),?_,by rw[Nat.pow_succ];omega,?_⟩
        .rw[wv (by simp;omega),CX (by omega) (by omega),AD,nR x hd.1,CX (by omega) (by omega),AD,Au (by omega),AD]
         congr 3;omega
        .rw[DK,ww hd]
       .right
        rw[ww (by simp;omega),DK,wv hd])
      (λn hn=>by
       show HX (c::r) (n:Int) ((c::r).length:Int)=_
       unfold HX
       rw[wv (by simp)]
       rfl) (0:Nat) (by simp) ((0:Int),(0:Int)) rfl
     have h':iter (λ(a:Int × Int)=>HX (c::r) a.1 a.2) ((0:Int),(0:Int))=_:=h
     rw[h']
     cases DK 0 (c::r) with
     | none=>rfl
     | some v=>rfl
    .intro h
     apply h0
     rw[xE,xG,xG] at h
     exact⟨by omega,λe=>by rw[e] at h;simp at h⟩
theorem OO s(n:Int)(E:1<=n)(F:n<=1073741824):(Lib.atoiAll s=.ok n/\Lib.itoa n=s)↔CU s=n:=by
 obtain⟨u,rfl⟩:∃u:Nat,n=(u:Int):=⟨n.toNat,by omega⟩
 have l:1<=u:=by omega
 rw[Lib.itoa_nonneg]
 constructor
 .rintro⟨_,rfl⟩
  obtain⟨c,r,e,q,w⟩:=aD u l
  have A:=lg 9 u (by omega)
  have j:=sj u
  rw[e] at A j ⊢
  unfold CU
  simp only
  rw[wv (by rintro(h | ⟨h,_⟩)<;>omega),j]
 .intro h
  unfold CU at h
  split at h
  .omega
  .rename_i c r
   split at h
   .omega
   .rename_i B
    cases j:DK 0 (c::r) with
    | none=>rw[j] at h;simp only at h;omega
    | some v=>
     rw[j] at h
     simp only at h
     have:v=u:=by omega
     subst this
     have e:=tA _ (c::r) v rfl j ⟨c,r,rfl,by
      by_cases m:c.toNat=48
      .right
       apply xp
       intro C
       exact B (.inr ⟨m,C⟩)
      .exact .inl m⟩
     refine⟨?_,e.symm⟩
     obtain⟨I,J,e2,q,w⟩:=aD v l
     rw[e2] at e
     simp only[zZ] at e
     rw[Lib.atoiAll_plain c r (by rw[e.1];omega) (by rw[e.1];omega)]
     unfold Lib.parseMag
     rw[wv (by simp),so _ _ _ j (by omega)]
     simp only[Lib.signless]
     rw[wv (by omega)]
end Go.Proofs.YtcgleifameckmaaGreatDoor.Al

namespace Go.Proofs.YtcgleifameckmaaGreatDoor.Al
def g0:BJ:=BJ.mk 2 1 [(Aw.mk 1 0 [120] 0 [])] []
def e0:QG:=QG.mk [(KZ.mk 1 1),(KZ.mk 0 2)] [] [] [] []
def uV(c t:Aw):Int:=B9 c.Row t.Row c.Col t.Col
def ij(l:List Aw):Prop:=∀k,k+1<l.length->uV l[k]! l[k+1]!<0
def Ue(r:At)(row col:Int):Bool:=decide (r.Row<=row/\row<r.Row+r.H/\r.Col<=col/\col<r.Col+r.W)
def QU(l:List At)(row col:Int)(k:Nat):Option At:=if Ue l[k]! row col=true then some l[k]! else none
theorem iW(g:BJ) row col (I:E9 g.Rows g.Cols) (J:∀k,k<g.Merges.length->DQ g.Rows g.Cols g.Merges[k]!) (X:g.Merges.length<=1048576) (Z:row<=9223372036854775807) (hc:col<=9223372036854775807) :
  ∃o:Option At,iter (λ(a:Int)=>LM g row col a) 0=some (Dd o)/\iter (λ(a:Int)=>Lr g row col a) 0=some (Dd o):=by
 refine⟨(List.range g.Merges.length).findSome? (QU g.Merges row col),?_,?_⟩
 .refine B5 (f:=λ(a:Int)=>LM g row col a) (n:=g.Merges.length) (QU g.Merges row col) (λk j=>?_) ?_
  .obtain⟨q,w,A,B,C,E,F,i8⟩:=J k j
   unfold LM QU Ue
   rw[ww (by simpa using j),Ak j,AD]
   generalize g.Merges[k]! = r at q w A B C E F i8
   obtain⟨O,T,U,V⟩:=I
   by_cases l:r.Row<=row
   .rw[w9 l]
    simp only[yS,Av,yO]
    rw[CX (by omega) (by omega),AD]
    by_cases m:row-r.Row<r.H/\r.Col<=col
    .rw[w9 m.1,w9 m.2]
     simp only[zk,yS,Av,yO]
     rw[CX (by omega) (by omega),AD]
     by_cases M:col-r.Col<r.W
     .rw[ww (w9 M),ww (by rw[xG];omega)];rfl
     .rw[wv (by rw[xG];exact M),wv (by rw[xG];omega),Au (by omega),AD];rfl
    .have e:((row-r.Row<r.H)&&(r.Col<=col))=false:=by
      grind
     rw[e]
     simp only[show(false==true)=false from rfl,DO,AD,zC]
     rw[wv (by decide),wv (by rw[xG];omega),Au (by omega),AD];rfl
   .rw[w0 l]
    simp only[show(false==true)=false from rfl,DO,AD,zC]
    rw[wv (by decide),wv (by rw[xG];omega),Au (by omega),AD];rfl
  .grind [LM]
 .refine B5 (f:=λ(a:Int)=>Lr g row col a) (n:=g.Merges.length) (QU g.Merges row col) (λk j=>?_) ?_
  .obtain⟨q,w,A,B,C,E,F,i8⟩:=J k j
   unfold Lr QU Ue
   rw[ww (by simpa using j),Ak j,AD]
   generalize g.Merges[k]! = r at q w A B C E F i8
   obtain⟨O,T,U,V⟩:=I
   rw[CX (by omega) (by omega),AD,CX (by omega) (by omega),AD,EA,AD]
   by_cases l:r.Row<=row/\row<=r.Row+r.H-1
   .rw[w9 l]
    simp only[yS,Av,yO]
    rw[CX (by omega) (by omega),AD,CX (by omega) (by omega),AD,EA,AD]
    by_cases m:r.Col<=col/\col<=r.Col+r.W-1
    .rw[ww (w9 m),ww (by rw[xG];omega)];rfl
    .rw[wv (by rw[xG];exact m),wv (by rw[xG];omega),Au (by omega),AD];rfl
   .rw[w0 l]
    simp only[show(false==true)=false from rfl,DO,AD,zC]
    rw[wv (by decide),wv (by rw[xG];omega),Au (by omega),AD];rfl
  .grind [Lr]
theorem WJ{l:Nat}{G:Nat->Option Int}(h:((List.range l).findSome? G).getD 0=0)(hn:∀k,k<l->G k≠some 0):∀k,k<l->G k=none:=by
 intro k hk
 cases hf:(List.range l).findSome? G with
 | none=>
  grind
 | some v=>
  rw[hf] at h
  obtain⟨j,hj,hjv⟩:=yE hf
  grind
theorem bQ{g:BJ}(h:HE g=0):E9 g.Rows g.Cols/\ij g.Cells/\∀k,k<g.Merges.length->DQ g.Rows g.Cols g.Merges[k]!:=by
 unfold HE at h
 by_cases h1:E9 g.Rows g.Cols
 .rw[wv (by simpa using h1)] at h
  by_cases h2:JK g.Rows g.Cols false g.Cells=0
  .rw[wv (by simpa using h2)] at h
   refine⟨h1,λk hk=>?_,λk hk=>?_⟩
   .have:=WJ h2 (λk _ he=>by
     unfold IN at he
     split at he
     .rename_i hne
      injection he with he
      exact hne he
     .split at he
      .cases he
      .cases he) (k+1) (by omega)
    unfold IN at this
    split at this
    .cases this
    .split at this
     .cases this
     .rename_i hq
      rw[Nat.add_sub_cancel] at hq
      show B9 _ _ _ _<0
      have:=λh=>hq ⟨by omega,h⟩
      omega
   .have:=WJ h (λk _ he=>by
     unfold Jt at he
     split at he
     .cases he
     .split at he
      .cases he
      .split at he
       .cases he
       .split at he
        .cases he
        .cases he) k hk
    exact Va this
  .rw[ww h2] at h;exact absurd h h2
 .rw[ww h1] at h;cases h
def Ly(c:UInt8):Bool:=(97<=c.toNat)&&(c.toNat<=122)
def Nc(s:List UInt8):Bool:=s.all Ly&&(1<=s.length)&&(s.length<=200)&&!(s[s.length-1]!.toNat=97)
theorem mH(c:UInt8):(((c.toNat:Int)<97)||(122<(c.toNat:Int)))=!Ly c:=by grind [Ly]
theorem tg(s:List UInt8)(l:s.length<=1048576):iter (λ(a:Int)=>LD s a) 0=some (Dd (if s.all Ly then none else some false)):=by
 rw[B5 (n:=s.length) (λk=>if Ly s[k]! then none else some false) (λk j=>by
  unfold LD
  rw[ww (by simpa using j),Ak j,AD,Au (by omega),mH]
  cases Ly s[k]!<;>rfl) (by unfold LD;rw[wv (by simp)]),RU]
theorem kG(c:UInt8):decide ((c.toNat:Int)=97)=decide (c.toNat=97):=by grind
theorem uE(s:List UInt8)(m:s.length<=1048576):Kg s=some (Nc s):=by
 unfold Kg
 rw[tg s m]
 unfold Nc
 by_cases j:s=[]
 .subst j;rfl
 .have l:1<=s.length:=ya.2 j
  rw[w0 j,yW]
  by_cases q:s.length<=200
  .have w:decide (200<(s.length:Int))=false:=by simp;omega
   rw[w,show((false==false)=true) from rfl,Av,FP l (by omega),AD,Av,Ak (by omega),AD,yW,kG]
   rw[w9 l,w9 q]
   generalize s.all Ly=A
   cases decide (s[s.length-1]!.toNat=97)<;>cases A<;>rfl
  .grind [DO,AD]
def Fg(x:BA):Int:=
 if x.Kind≠0/\x.Kind≠1 then 8
 else if ¬ (((1<=x.Clock/\x.Clock<=1073741824)/\(0<=x.Site/\x.Site<=1000))/\(1<=x.Item/\x.Item<=1073741824)) then 2
 else if x.Kind=0 then(if x.Name≠[]\/x.Value≠[] then 4 else if ¬ (-1<=x.Parent/\x.Parent<=1073741824) then 2 else if Nc x.Place then 0 else 9)
 else(if x.Parent≠0\/x.Place≠[] then 4 else if EX x.Name then(if x.Value≠[]/\En x.Value=false then 23 else 0) else 9)
structure bN(x:BA):Prop where
 place:x.Place.length<=1048576
 name:x.Name.length<=1048576
 value:x.Value.length<=1048576
theorem n8 x(h:bN x):LE x=some (Fg x):=by
 unfold LE Fg
 rw[uE _ h.place,XX _ (by have:=h.name;omega),Ui _ (by have:=h.value;omega)]
 obtain⟨Clock,Site,Kind,Item,j,Place,Name,Value⟩:=x
 dsimp only
 by_cases l:Kind≠0/\Kind≠1
 .grind
 rw[wv l,wv (by simpa using l)]
 by_cases B:((1<=Clock/\Clock<=1073741824)/\(0<=Site/\Site<=1000))/\(1<=Item/\Item<=1073741824)
 .rw[wv (xm.2 B),wv (by simp only[xl,xG];omega)]
  by_cases A:Kind=0
  .grind [AD,Av,Nc,DO]
  .have C:Kind=1:=xp λh=>l ⟨A,h⟩
   subst C
   rw[wv A]
   simp only[show(decide ((1:Int)=0))=false from rfl,zC,zb,WAF,AD,decide_true,yO,show(false==true)=false from rfl,DO,yS,Av]
   by_cases m:j≠0\/Place≠[]
   .grind
   .have q:j=0:=xp λh=>m (.inl h)
    have w:Place=[]:=xp λh=>m (.inr h)
    subst q;subst w
    rw[wv m,wv (by simp)]
    cases EX Name
    .simp
    .by_cases E:Value=[]
     .simp_all
     .simp[E]
      grind
 .grind
def Pm(a b:BA):Bool:=(a.Clock<b.Clock)||((a.Clock=b.Clock)&&(a.Site<b.Site))
def Jv(x y:Int):Int:=if x<y then -1 else if y<x then 1 else 0
theorem Sg x y:GK x y=some (Jv x y):=by grind [GK,Jv,Mc,AD]
theorem Z3 x y:IY [x,y]=some (if x≠0 then x else y):=by
 unfold IY
 rw[B5 (n:=2) (λk=>if [x,y][k]!≠0 then some [x,y][k]! else none) (λk m=>by
  unfold FF
  rw[ww (by simp;omega),Ak (by simpa using m),AD,Au (by omega)]
  by_cases h:[x,y][k]! = 0
  .rw[wv (by rw[h];decide),wv (xm.2 h)];rfl
  .rw[ww (by rw[w0 h];rfl),ww h];rfl) (by unfold FF;rw[wv (by simp)])]
 by_cases j:x=0
 .by_cases l:y=0
  .subst j;subst l;rfl
  .subst j;simp[List.range_succ,l,Dd]
 .simp[List.range_succ,j,Dd]
theorem td a b:∃r,Lh a b=some r/\decide (r<0)=Pm a b/\decide (0<=r)=!Pm a b:=by
 unfold Lh
 rw[Sg,Sg,AD,AD,Z3,AD]
 grind [Jv,Pm]
def Jp(l:List BA):Prop:=∀x∈l,bN x
def MX(l:List BA)(k:Nat):Option Int:=if Fg l[k]!≠0 then some (Fg l[k]!) else if 0<k/\Pm l[k-1]! l[k]! = false then some 5 else none
def TZ(l:List BA):Int:=((List.range l.length).findSome? (MX l)).getD 0
theorem vZ(l:List BA)(h:Jp l)(B:l.length<=1048576):Ld l=some (TZ l):=by
 unfold Ld
 rw[B5 (n:=l.length) (MX l) (λk m=>by
  unfold Kv MX
  rw[ww (by simpa using m),Ak m,AD,n8 _ (h _ (Bs m)),AD,Au (by omega)]
  by_cases j:Fg l[k]! = 0
  .rw[wv (by rw[j];decide),wv (xm.2 j)]
   by_cases q:k=0
   .subst q;rfl
   .have w:decide ((0:Int)<(k:Int))=true:=by simp;omega
    obtain⟨r,A,_,e2⟩:=td l[k-1]! l[k]!
    rw[w,show((true==true)=true) from rfl,Av,FP (by omega) (by omega),AD,Av,Ak (by omega),AD,Av,A,AD,e2,yO]
    cases j:Pm l[k-1]! l[k]!
    .rw[ww (by decide),ww ⟨by omega,rfl⟩];rfl
    .rw[wv (by simp),wv (by simp)];rfl
  .rw[ww (by rw[w0 j];rfl),ww j];rfl) (by unfold Kv;rw[wv (by simp)]),Fq]
 rfl
def L9(j:Bool)(e:AH):Prop:=EX e.Name=true/\(En e.Value=true\/(j=true/\e.Value=[]))
theorem PX(l:List AH)(ch:Bool):B1 l ch=0↔Bt l/\∀e∈l,L9 ch e:=by
 constructor
 .intro h
  refine⟨(Ke h).1,λe he=>?_⟩
  obtain⟨k,hk,rfl⟩:=yH.1 he
  have hn:Et l ch k=none:=by
   unfold B1 at h
   cases hf:(List.range l.length).findSome? (Et l ch) with
   | none=>grind
   | some r=>
    rw[hf] at h
    obtain⟨j,_,hj⟩:=yE hf
    grind [Et]
  grind [Et,L9,EX,En]
 .rintro⟨hs,hv⟩
  unfold B1
  have:(List.range l.length).findSome? (Et l ch)=none:=by
   rw[zl]
   intro k hk
   have hk:=yA.1 hk
   have h1:=hv _ (Bs hk)
   unfold Et
   unfold L9 at h1
   rw[wv (by rw[h1.1];simp),wv (by rintro⟨a1,a2⟩;rcases h1.2 with h2 | h2;rw[a1] at h2;cases h2;exact a2 h2),wv]
   rintro⟨h0,h2⟩
   have:=zG.1 hs (k-1) k (by omega) hk (by omega)
   grind
  grind
theorem Xr:∀ {l:List AH},Bt l->∀e∈l,A9 l e.Name=some e
 | [],_,e,h=>by simp at h
 | x::l,j,e,h=>by
  obtain⟨m,q⟩:=Em.1 j
  rcases yD.1 h with rfl | h
  .unfold A9;rw[ww rfl]
  .have:=FI (m e h)
   unfold A9;rw[wv (zu this)]
   exact Xr q e h
theorem sK{j}{g}{G}(h:∀x y o, j x y o=o++g x y)(hg:SJ g G){a b}{l m w}
 (A:B1 a l=0) (B:B1 b m=0) (F:∀x y e, (∀z, x=some z->L9 l z)->(∀z, y=some z->L9 m z)->G x y=some e->L9 w e):B1 (CT j a b []) w=0 := by
  obtain⟨I, v1⟩ := (PX a l).1 A
  obtain⟨J, M⟩ := (PX b m).1 B
  obtain⟨C, O⟩ := YV h hg I J (Ke A).2.1 (Ke B).2.1
  refine(PX _ _).2 ⟨C, λe T => ?_⟩
  have E := Xr C e T
  rw[O] at E
  exact F _ _ e (λz q => v1 z (Rw q).2) (λz q => M z (Rw q).2) E
theorem lU{a b}(l:B1 a false=0)(m:B1 b true=0):B1 (CT Fc a b []) false=0:=
 sK bM gt l m λx y e q w h=>by
  unfold Hy at h
  split at h
  .exact q e h
  .split at h
   .cases h
   .rename_i A
    cases h
    have:=w e rfl
    exact⟨this.1,.inl (by rcases this.2 with j | j;exact j;exact absurd j.2 A)⟩
theorem nc{a:AH}(j:EX a.Name=true)(l:a.Value=[]\/En a.Value=true):B1 [a] true=0:=by
 refine(PX _ _).2 ⟨by unfold Bt;simp,λe m=>?_⟩
 obtain rfl:=zA.1 m
 exact⟨j,l.elim (λh=>.inr ⟨rfl,h⟩) .inl⟩
def Fi(l:List AH)(a:AH):List AH:=CT Fc l [a] []
theorem Sh(l:List AH) a:(Fi l a).length<=l.length+1:=by
 have:=iZ Fc X3 _ l [a] [] rfl
 grind [Fi]
theorem aK{l}{a}(j:B1 l false=0)(m:B1 [a] true=0):B1 (Fi l a) false=0:=lU j m
theorem fG{l:List AH}{a}(h:l.length<=1048576):Mo l [a]=some (Fi l a):=sf _ _ (by simp;omega)
theorem dZ{l:List AH}{a}(j:B1 l false=0)(m:B1 [a] true=0)(h:l.length<=1048576):NQ l [a]=some (Fi l a):=by
 rw[oV l [a] (Ke j).1 (Ke m).1 (by simp;omega),<- jx j m];rfl
theorem Wh:B1 [] false=0:=by decide
def BX(l:List AC):List (Int × AC):=l.map λx=>(x.Item,x)
def DF(l:List AC):List (Int × List AH):=l.map λx=>(x.Item,x.Attrs)
theorem XR l k:Ao (DF l) k=Ao (BX l) k:=by
 induction l with
 | nil=>rfl
 | cons x r j=>grind [Ao,DF,BX]
theorem HG{l:List AC}{k}{j}(h:Ao (BX l) k=some j):∃m:j<l.length,l[j].Item=k:=by
 obtain⟨v,q,_⟩:=DT h
 grind [BX]
theorem KT{l}{k}(h:Ao (BX l) k=none):∀x∈l,x.Item≠k:=by
 induction l with
 | nil=>grind
 | cons y r j=>
  unfold BX at h
  rw[xj] at h
  unfold Ao at h
  split at h
  .cases h
  .rename_i m
   have q:Ao (BX r) k=none:=by
    simp_all [Ao,BX]
   grind
theorem ZY{l}{k} : AR (BX l) k=(Ao (BX l) k).bind λj=>l[j]?:=by
 cases h:Ao (BX l) k with
 | none=>exact(E2 h).1
 | some j=>
  obtain⟨v,m,q,_⟩:=DT h
  grind [BX]
def SR(key:Int)(l:List AC)(c:Nat):A3 Unit Int:=match Ao (BX l) key with | some j=>.ext ((c+j:Nat):Int) | none=>.nrm ()
def Iy(l:List AC)(k:Int):Int:=match Ao (BX l) k with | some j=>(j:Int) | none=>-1
theorem NC(l:List AC) k(A:l.length<=1048577):I6 l k=some (Iy l k):=by
 unfold I6
 have h:=Ex (f:=λ(a:Int)=>Im l k a) l (λ(_:Nat) i=>(i:Int)) (λr c=>SR k r c) (λi c=>c=i)
  (λi c w q=>by
   subst q
   show(∃B,Im l k (c:Int)=_/\_)\/Im l k (c:Int)=_
   unfold Im
   rw[ww (by simpa using w),Ak w,AD,Au (by omega)]
   by_cases m:l[c]!.Item=k
   .right
    rw[ww (by simpa using m)]
    unfold SR BX
    rw[xj]
    unfold Ao
    rw[ww m.symm];rfl
   .left
    refine⟨c+1,by rw[wv (by simpa using m)];rfl,rfl,?_⟩
    unfold SR BX
    rw[xj]
    conv=>lhs;unfold Ao
    rw[wv (λe=>m e.symm)]
    cases Ao ((l.drop (c+1)).map λx=>(x.Item,x)) k with
    | none=>rfl
    | some j=>simp only[yF];congr 2;omega)
  (λc q=>by
   subst q
   show Im l k (l.length:Int)=_
   unfold Im
   rw[wv (by simp)];rfl) 0 rfl 0 rfl
 rw[h]
 unfold SR Iy
 cases Ao (BX l) k with
 | none=>rfl
 | some j=>simp
inductive Bc(items:List AC)(top:Int):Int->Prop
 | self:Bc items top top
 | step {x:AC} (hx:x∈items) (h:Bc items top x.Parent):Bc items top x.Item
theorem Bc.inv{j}{top y}(h:Bc j top y):y=top\/∃x∈j,x.Item=y/\Bc j top x.Parent:=by
 cases h with
 | self=>grind
 | step l h=>grind
def Rk(j:List AC)(d:Int->Nat):Prop:=∀x∈j,d x.Parent<d x.Item
def Uq(j:List AC):Prop:=(j.map (·.Item)).Nodup
theorem Uq.eq{j}(h:Uq j){x y:AC}(l:x∈j)(m:y∈j)(e:x.Item=y.Item):x=y:=by
 unfold Uq at h
 induction j with
 | nil=>cases l
 | cons a r q=>
  grind
theorem Qv{j}(m:Uq j){top}{x:AC}(l:x∈j)(q:x.Item≠top):Bc j top x.Item↔Bc j top x.Parent:=by
 constructor
 .intro h
  rcases h.inv with e | ⟨z,w,e,A⟩
  .grind
  .rw[m.eq l w e.symm];exact A
 .exact Bc.step l
open Classical in
theorem jB{m}{d}(BR:∀x∈m,1<=x.Item)(T:Uq m)(O:Rk m d){top}(X:1<=top)(m2:List (Int × List AH)) :
  ∀l:Int,OX (BX m) m2 l top=some (decide (Bc m top l)):=by
 have key:∀(n:Nat) (l:Int),d l<=n->∃c,iter (λ(a:Int)=>Gq (BX m) top a) l=some c/\A7 (some c) (λ(_:Unit)=>some false)=some (decide (Bc m top l)):=by
  intro n
  induction n with
  | zero=>
   intro l hd
   by_cases w:0<l
   .by_cases q:l=top
    .subst q
     refine⟨.ext true,Bj (by unfold Gq;rw[ww (by simpa using w),ww (by simp)]),?_⟩
     rw[G6,w9 (Bc.self)]
    .cases A:Ao (BX m) l with
     | none=>
      have I:=KT A
      refine⟨.ext false,Bj (by unfold Gq;rw[ww (by simpa using w),wv (by simpa using q),(E2 A).1];rfl),?_⟩
      rw[G6,w0]
      intro C
      rcases C.inv with e | ⟨x,E,e,_⟩
      .exact q e
      .exact I x E e
     | some j=>
      obtain⟨F,e⟩:=HG A
      have:=O _ (xw F)
      rw[e] at this
      omega
   .refine⟨.nrm (),Bj (by unfold Gq;rw[wv (by simpa using w)]),?_⟩
    rw[Mx,w0]
    intro C
    rcases C.inv with e | ⟨x,E,e,_⟩
    .omega
    .have:=BR x E;omega
  | succ n U=>
   intro l hd
   by_cases w:0<l
   .by_cases q:l=top
    .subst q
     refine⟨.ext true,Bj (by unfold Gq;rw[ww (by simpa using w),ww (by simp)]),?_⟩
     rw[G6,w9 (Bc.self)]
    .cases A:Ao (BX m) l with
     | none=>
      have I:=KT A
      refine⟨.ext false,Bj (by unfold Gq;rw[ww (by simpa using w),wv (by simpa using q),(E2 A).1];rfl),?_⟩
      rw[G6,w0]
      intro C
      rcases C.inv with e | ⟨x,E,e,_⟩
      .exact q e
      .exact I x E e
     | some j=>
      obtain⟨F,e⟩:=HG A
      have B:=xw F
      have J:=O _ B
      rw[e] at J
      obtain⟨c,M,V⟩:=U m[j].Parent (by omega)
      refine⟨c,?_,?_⟩
      .rw[CF (s':=m[j].Parent) (by
        unfold Gq
        rw[ww (by simpa using w),wv (by simpa using q),ZY,A,yJ,wz F]
        rfl)]
       exact M
      .rw[V]
       congr 1
       rw[WAK,<- Qv T B (by rw[e];exact q),e]
   .refine⟨.nrm (),Bj (by unfold Gq;rw[wv (by simpa using w)]),?_⟩
    rw[Mx,w0]
    intro C
    rcases C.inv with e | ⟨x,E,e,_⟩
    .omega
    .have:=BR x E;omega
 intro l
 obtain⟨c,q,M⟩:=key _ l (wy _)
 unfold OX
 rw[q];exact M
theorem Zt{α:Type}{p q}{l:List α}(h:∀x∈l,p x=true->q x=true){z}(j:z∈l)(w:q z=true)(A:p z=false):l.countP p<l.countP q:=by
 induction l with
 | nil=>cases j
 | cons a r B=>
  have C:r.countP p<=r.countP q:=WAO λx m=>h x (xZ _ m)
  grind
open Classical in
theorem nI{l:List AC}{d}(X:Uq l)(Z:Rk l d)(hm:l.length<=1048576)(top q:Int):MV l q top=some (decide (Bc l top q)):=by
 let r:Int->Nat:=λy=>l.countP λz=>decide (d z.Item<d y)
 have F:∀x∈l,r x.Item+1<=l.length:=λx A=>by
  have:=Zt (p:=λz=>decide (d z.Item<d x.Item)) (q:=λ_=>true) (l:=l) (λ_ _ _=>rfl) A rfl (by simp)
  rw[List.countP_true] at this
  exact this
 have C:∀x∈l,∀y∈l,y.Item=x.Parent->r y.Item+1<=r x.Item:=λx A y hy e=>by
  have B:=Z x A
  exact Zt (p:=λz=>decide (d z.Item<d y.Item)) (q:=λz=>decide (d z.Item<d x.Item)) (λz _ T=>by simp at T ⊢;rw[e] at T;omega) hy (by simp;rw[e];exact B) (by simp)
 have key:∀(m:Nat) (q:Int) (i:Nat),i+m=l.length+1->1<=m->(∀x∈l,x.Item=q->r q+2<=m) ->
   ∃c,iter (λ(a:Int × Int)=>Gw l top ((l.length+1:Nat):Int) a.1 a.2) (q,(i:Int))=some c/\A7 (some c) (λ(_:Unit)=>some false)=some (decide (Bc l top q)):=by
  intro m
  induction m with
  | zero=>intro q i _ h;omega
  | succ m ih=>
   intro q i hi _ hn
   have E:decide ((i:Int)<((l.length+1:Nat):Int))=true:=by simp;omega
   by_cases B:q=top
   .subst B
    refine⟨.ext true,Bj (by show Gw l q _ q (i:Int)=_;unfold Gw;rw[ww E,ww (by simp)]),?_⟩
    rw[G6,w9 (Bc.self)]
   .cases I:Ao (BX l) q with
    | none=>
     have J:=KT I
     refine⟨.ext false,Bj (by
      show Gw l top _ q (i:Int)=_
      unfold Gw
      rw[ww E,wv (by simpa using B),NC _ _ (by omega),AD]
      unfold Iy
      rw[I];rfl),?_⟩
     rw[G6,w0]
     intro hb
     rcases hb.inv with e | ⟨x,A,e,_⟩
     .exact B e
     .exact J x A e
    | some j=>
     obtain⟨U,e⟩:=HG I
     have w:=xw U
     have a0:=hn _ w e
     obtain⟨c,M,h3⟩:=ih l[j].Parent (i+1) (by omega) (by omega) (λx A V=>by
      have:=C _ w x A V
      rw[e] at this
      rw[<- V];omega)
     refine⟨c,?_,?_⟩
     .rw[CF (s':=(l[j].Parent,((i+1:Nat):Int))) (by
       show Gw l top _ q (i:Int)=_
       unfold Gw
       rw[ww E,wv (by simpa using B),NC _ _ (by omega),AD]
       unfold Iy
       rw[I]
       simp only
       rw[wv (by simp),Ei U,AD,Au (by omega),AD])]
      exact M
     .rw[h3]
      congr 1
      rw[WAK,<- Qv X w (by rw[e];exact B),e]
 unfold MV
 rw[Au (by omega),AD]
 obtain⟨c,B,M⟩:=key (l.length+1) q 0 (by omega) (by omega) (λx A e=>by have:=F x A;rw[e] at this;omega)
 have O:iter (λ(a:Int × Int)=>Gw l top ((l.length+1:Nat):Int) a.1 a.2) (q,0)=some c:=B
 rw[O];exact M
def upd(l:List AC)(n:AC):List AC:=match Ao (BX l) n.Item with | some j=>l.set j n | none=>l++[n]
theorem lz l(n:AC):Am (BX l) n.Item n=BX (upd l n):=by
 unfold upd
 cases h:Ao (BX l) n.Item with
 | none=>rw[(E2 h).2];simp[BX]
 | some j=>
  obtain⟨v,_,_,m⟩:=DT h
  simp_all [BX]
theorem aO l(n:AC):Am (DF l) n.Item n.Attrs=DF (upd l n):=by
 unfold upd
 have m:=XR l n.Item
 cases h:Ao (BX l) n.Item with
 | none=>simp_all [E2,DF]
 | some j=>
  rw[h] at m
  obtain⟨v,_,_,q⟩:=DT m
  simp_all [DF]
theorem UV(l:List AC) n:(upd l n).length<=l.length+1:=by
 unfold upd
 split<;>simp
theorem UB{l}(h:Uq l)(n:AC):Uq (upd l n):=by
 unfold upd
 split
 .rename_i j m
  obtain⟨q,e⟩:=HG m
  unfold Uq at h ⊢
  rw[WAS,<- e]
  grind
 .grind [KT,Uq]
theorem JB{l}(h:Uq l){n z:AC}(m:z∈upd l n):z=n\/(z∈l/\z.Item≠n.Item):=by
 unfold upd at m
 split at m
 .rename_i j B
  obtain⟨C,e⟩:=HG B
  obtain⟨i,q⟩:=yM.1 m
  rw[yC] at q
  split at q
  .grind
  .rename_i w
   obtain⟨A,rfl⟩:=wx.1 q
   refine .inr ⟨xw A,λe2=>w ?_⟩
   unfold Uq at h
   rw[zQ,zG] at h
   grind
 .grind [KT]
open Classical in
theorem va{l}{d}(m:Rk l d)(q:Uq l){n:AC}(w:¬ Bc l n.Item n.Parent):∃A,Rk (upd l n) A:=by
 refine⟨λy=>if Bc l n.Item y then d y+d n.Parent+1 else d y,λz B=>?_⟩
 simp only
 rcases JB q B with rfl | ⟨j,C⟩
 .rw[wv w,ww Bc.self];omega
 .have E:=m z j
  grind [Qv]
structure DI(k:Nat)(items attrs:List AC):Prop where
 uq:Uq items
 id:∀x∈items,1<=x.Item
 no:∀x∈items,x.Attrs=[]
 rk:∃d,Rk items d
 li:items.length<=k
 ua:Uq attrs
 la:attrs.length<=k
 ok:∀x∈attrs,B1 x.Attrs false=0/\x.Attrs.length<=k
 ia:∀x∈attrs,1<=x.Item/\x.Item<=1073741824
 mv:∀x∈items,x.Item<=1073741824/\(-1<=x.Parent/\x.Parent<=1073741824)/\Nc x.Place=true
 sa:(attrs.map (·.Attrs.length)).sum<=k
theorem jT{l:List AC}{n:AC}(h:Ao (BX l) n.Item=none):((upd l n).map (·.Attrs.length)).sum=(l.map (·.Attrs.length)).sum+n.Attrs.length:=by
 unfold upd
 rw[h]
 simp
theorem iU:∀(l:List Nat) (j:Nat) (m:j<l.length) (v:Nat),(l.set j v).sum+l[j]=l.sum+v:=by
 intro l
 induction l with
 | nil=>grind
 | cons a r q=>
  intro j m v
  cases j with
  | zero=>simp;omega
  | succ j=>
   grind
theorem qk{l:List AC}{n:AC}{j}(h:Ao (BX l) n.Item=some j)(m:j<l.length):((upd l n).map (·.Attrs.length)).sum+l[j].Attrs.length=(l.map (·.Attrs.length)).sum+n.Attrs.length:=by
 have:=iU (l.map (·.Attrs.length)) j (by simpa using m) n.Attrs.length
 simp_all [upd]
theorem ni{o:BA}(h:Fg o=0)(j:o.Kind=0):(-1<=o.Parent/\o.Parent<=1073741824)/\Nc o.Place=true:=by grind [Fg]
theorem jd{o:BA}(h:Fg o=0):(1<=o.Item/\o.Item<=1073741824)/\((o.Kind=0)\/(o.Kind=1/\B1 [⟨o.Name,o.Value⟩] true=0)):=by grind [Fg,nc,En]
theorem Jx{α:Type}{l m:List α}(h:l.length+m.length<=2097152):app 56 l m=some (l++m):=by grind [app]
open Classical in
theorem sB{l:List BA}{k}{m attrs:List AC}(h:DI k m attrs)(U:k<l.length)(hm:l.length<=1048576)(ho:Fg l[k]! = 0) :
  ∃A B,DI (k+1) A B/\Jr l (k:Int) (BX m) (DF attrs)=some (.inl (((k+1:Nat):Int),BX A,DF B)) /\
   Jc l (k:Int) m attrs=some (.inl (((k+1:Nat):Int),A,B)):=by
 obtain⟨V,J⟩:=jd ho
 have a6:=h.li
 have a7:=h.la
 unfold Jr Jc
 rw[ww (by simpa using U),ww (by simpa using U),Ak U,AD,AD,Au (by omega)]
 generalize l[k]! = o at *
 rcases J with X | ⟨h1,ha⟩
 ·
  obtain⟨d,hd⟩:=h.rk
  rw[wv (by rw[X];decide),wv (by rw[X];decide),jB h.id h.uq hd V.1,AD]
  have M:∃Z:Bool,gd (((decide (o.Parent=o.Item))==false)&&((decide (0<o.Parent))==true)) (MV m o.Parent o.Item)=some Z/\(((o.Parent=o.Item)||((0<o.Parent)&&Z))=decide (Bc m o.Item o.Parent)):=by
   rw[nI h.uq hd (by omega)]
   by_cases C:o.Parent=o.Item
   .refine⟨default,by rw[w9 C];rfl,?_⟩
    rw[w9 C,C,w9 Bc.self];rfl
   .by_cases e2:0<o.Parent
    .simp_all
    .refine⟨default,by rw[w0 C,w0 e2];rfl,?_⟩
     rw[w0 C,w0 e2,w0]
     .rfl
     .intro T
      rcases T.inv with e | ⟨x,w,e,_⟩
      .exact C e
      .have:=h.id x w;omega
  obtain⟨Z,C,e2⟩:=M
  rw[C,AD,e2]
  by_cases T:Bc m o.Item o.Parent
  .refine⟨m,attrs,⟨h.uq,h.id,h.no,h.rk,by omega,h.ua,by omega,λx w=>⟨(h.ok x w).1,by have:=(h.ok x w).2;omega⟩,h.ia,h.mv,by have:=h.sa;omega⟩,?_,?_⟩
   .simp_all
   .simp_all
  .have hn:(⟨o.Item,o.Parent,o.Place,[]⟩:AC)=⟨o.Item,o.Parent,o.Place,[]⟩:=rfl
   generalize F:(⟨o.Item,o.Parent,o.Place,[]⟩:AC)=n at hn
   have a0:n.Item=o.Item:=by rw[<- F]
   have a1:n.Parent=o.Parent:=by rw[<- F]
   refine⟨upd m n,attrs,⟨UB h.uq n,λx w=>?_,λx w=>?_,va hd h.uq (by rw[a0,a1];exact T),by have:=UV m n;omega,h.ua,by omega,λx w=>⟨(h.ok x w).1,by have:=(h.ok x w).2;omega⟩,h.ia,λx w=>?_,by have:=h.sa;omega⟩,?_,?_⟩
   .rcases JB h.uq w with rfl | ⟨q,_⟩
    .grind
    .exact h.id x q
   .rcases JB h.uq w with rfl | ⟨q,_⟩
    .rw[<- F]
    .exact h.no x q
   .rcases JB h.uq w with rfl | ⟨q,_⟩
    .rw[<- F];exact⟨V.2,ni ho X⟩
    .exact h.mv x q
   .grind [By,AD,lz]
   .rw[w0 T,wv (by decide),NC _ _ (by omega),AD]
    unfold upd Iy
    grind [Ao,BX,Jx,AD,By,Ei,HG]
 ·
  rw[ww (by rw[h1];decide),ww (by rw[h1];decide),NC _ _ (by omega),AD]
  unfold Iy
  have I:=XR attrs o.Item
  cases E:Ao (BX attrs) o.Item with
  | none=>
   rw[E] at I
   simp only
   rw[(E2 I).1,WAe,fG (by simp),AD,ww (by decide),Jx (by simp;omega)]
   simp only[AD,By]
   rw[Ei (by simp)]
   simp only[AD,List.getElem_append_right (wy _),zW,List.getElem_cons_zero]
   rw[dZ Wh ha (by simp)]
   simp only[AD,By,yo]
   have C:(attrs++[(⟨o.Item,0,[],[]⟩:AC)]).set attrs.length ⟨o.Item,0,[],Fi [] ⟨o.Name,o.Value⟩⟩=upd attrs ⟨o.Item,0,[],Fi [] ⟨o.Name,o.Value⟩⟩:=by
    grind [upd]
   rw[C]
   refine⟨m,upd attrs ⟨o.Item,0,[],Fi [] ⟨o.Name,o.Value⟩⟩,⟨h.uq,h.id,h.no,h.rk,by omega,UB h.ua _,by have:=UV attrs ⟨o.Item,0,[],Fi [] ⟨o.Name,o.Value⟩⟩;omega,λx w=>?_,λx w=>?_,h.mv,?_⟩,?_,rfl⟩
   .rcases JB h.ua w with rfl | ⟨q,_⟩
    .grind [aK,Wh,Sh]
    .exact⟨(h.ok x q).1,by have:=(h.ok x q).2;omega⟩
   .rcases JB h.ua w with rfl | ⟨q,_⟩
    .exact V
    .exact h.ia x q
   .rw[jT (by simpa using E)]
    have:=Sh [] ⟨o.Name,o.Value⟩
    have:=h.sa
    grind
   .rw[<- aO]
  | some j=>
   rw[E] at I
   obtain⟨hj,ej⟩:=HG E
   have O:=xw hj
   have a2:=h.ok _ O
   obtain⟨v,v1,v2,v3⟩:=DT I
   have hv:v=attrs[j].Attrs:=by
    grind [DF]
   subst hv
   simp only
   rw[v2,yP,fG (by omega),AD,wv (by simp)]
   simp only[AD,By]
   rw[Ei hj]
   simp only[AD]
   rw[dZ a2.1 ha (by omega)]
   simp only[AD,By,yo]
   have C:attrs.set j ⟨attrs[j].Item,attrs[j].Parent,attrs[j].Place,Fi attrs[j].Attrs ⟨o.Name,o.Value⟩⟩=upd attrs ⟨attrs[j].Item,attrs[j].Parent,attrs[j].Place,Fi attrs[j].Attrs ⟨o.Name,o.Value⟩⟩:=by
    grind [upd]
   rw[C]
   refine⟨m,upd attrs ⟨attrs[j].Item,attrs[j].Parent,attrs[j].Place,Fi attrs[j].Attrs ⟨o.Name,o.Value⟩⟩,⟨h.uq,h.id,h.no,h.rk,by omega,UB h.ua _,by have:=UV attrs ⟨attrs[j].Item,attrs[j].Parent,attrs[j].Place,Fi attrs[j].Attrs ⟨o.Name,o.Value⟩⟩;rw[<- C] at this ⊢;simpa using(by omega:attrs.length<=k+1),λx w=>?_,λx w=>?_,h.mv,?_⟩,?_,rfl⟩
   .rcases JB h.ua w with rfl | ⟨q,_⟩
    .grind [aK,Sh]
    .exact⟨(h.ok x q).1,by have:=(h.ok x q).2;omega⟩
   .rcases JB h.ua w with rfl | ⟨q,_⟩
    .grind
    .exact h.ia x q
   .have h2:=qk (l:=attrs) (n:=⟨attrs[j].Item,attrs[j].Parent,attrs[j].Place,Fi attrs[j].Attrs ⟨o.Name,o.Value⟩⟩) (j:=j) (by simp only;rw[ej,E]) hj
    have:=Sh attrs[j].Attrs ⟨o.Name,o.Value⟩
    have:=h.sa
    grind
   .rw[<- aO];simp only;rw[ej]
end Go.Proofs.YtcgleifameckmaaGreatDoor.Al

set_option linter.unusedVariables false
namespace Go.Proofs.YtcgleifameckmaaGreatDoor.Al
open Go.Sort
structure G7(lt:AC->AC->Bool):Prop where
 swo:SWO lt
 tot:∀a b,lt a b=false->lt b a=false->a.Item=b.Item
theorem G7.asymm{lt}(h:G7 lt){a b}(j:lt a b=true):lt b a=false:=by
 cases l:lt b a
 .rfl
 .have:=h.swo.trans a b a j l
  rw[h.swo.irrefl] at this;cases this
def G9(a b:AC):Bool:=Ay a.Place b.Place||((a.Place=b.Place)&&(a.Item<b.Item))
def FV(a b:AC):Bool:=decide (a.Item<b.Item)
theorem XG(a b:AC):G9 a b=true↔Ay a.Place b.Place=true\/(a.Place=b.Place/\a.Item<b.Item):=by
 unfold G9;simp
theorem Pf(a b:AC):G9 a b=false↔Ay b.Place a.Place=true\/(b.Place=a.Place/\b.Item<=a.Item):=by grind [XG,WM,Xl,LI]
theorem Id:G7 G9 where
 swo:={
  irrefl:=λx=>by rw[Pf];exact .inr ⟨rfl,Int.le_refl _⟩
  trans:=λx y z l j=>by
   rw[XG] at *
   rcases l with l | ⟨l,m⟩<;>rcases j with j | ⟨j,g2⟩
   .exact .inl (F8 l j)
   .exact .inl (by rw[<- j];exact l)
   .exact .inl (by rw[l];exact j)
   .exact .inr ⟨l.trans j,by omega⟩
  ntrans:=λx y z l j=>by
   rw[Pf] at *
   rcases l with l | ⟨l,m⟩<;>rcases j with j | ⟨j,g2⟩
   .exact .inl (F8 j l)
   .exact .inl (by rw[j];exact l)
   .exact .inl (by rw[<- l];exact j)
   .exact .inr ⟨j.trans l,by omega⟩ }
 tot:=λa b l j=>by
  rw[Pf] at *
  rcases l with l | ⟨l,m⟩<;>rcases j with j | ⟨j,g2⟩
  .rw[Xl l] at j;cases j
  .rw[j,LI] at l;cases l
  .rw[l,LI] at j;cases j
  .omega
theorem LO:G7 FV where
 swo:={ irrefl:=λx=>by unfold FV;simp,trans:=λx y z j l=>by unfold FV at *;simp at *;omega,ntrans:=λx y z j l=>by unfold FV at *;simp at *;omega }
 tot:=λa b j l=>by unfold FV at *;simp at *;omega
def srt(lt:AC->AC->Bool)(xs:List AC):List AC:=xs.mergeSort λa b=>!lt b a
theorem GP lt xs:(srt lt xs).Perm xs:=List.mergeSort_perm ..
theorem RC{lt}(h:G7 lt) xs:(srt lt xs).Pairwise λa b=>lt b a=false:=by
 have:=List.pairwise_mergeSort (le:=λa b=>!lt b a) (λa b c j l=>by
  simp only[yc] at *
  exact h.swo.ntrans c b a l j) (λa b=>by
  cases j:lt b a
  .rfl
  .simp[h.asymm j]) xs
 exact this.imp λh=>by simpa using h
theorem Uq.perm{A B:List AC}(h:Uq A)(p:B.Perm A):Uq B:=(p.map λx:AC=>x.Item).nodup_iff.2 h
theorem Uq.filter{A:List AC}(h:Uq A)(p:AC->Bool):Uq (A.filter p):=by grind [Uq]
theorem Zo{lt}(h:G7 lt){xs}(l:Uq xs):(srt lt xs).Pairwise λa b=>lt a b=true:=by
 have m:=RC h xs
 have j:Uq (srt lt xs):=l.perm (GP lt xs)
 unfold Uq at j
 rw[zQ,zd] at j
 refine(m.and j).imp λ{a b} ⟨q,g2⟩=>?_
 cases g3:lt a b
 .exact absurd (h.tot a b g3 q) g2
 .rfl
theorem Uw{lt}(h:G7 lt){c:List AC}(hc:c.Pairwise λa b=>lt a b=true){k}(m:k<c.length){z}(q:z∈c):lt c[k] z=true↔z∈c.drop (k+1):=by
 rw[zG] at hc
 constructor
 .intro j
  obtain⟨i,l,rfl⟩:=yH.1 q
  have:k<i:=by
   rcases Nat.lt_trichotomy k i with g | g | g
   .exact g
   .subst g;rw[h.swo.irrefl] at j;cases j
   .rw[h.asymm (hc i k l m g)] at j;cases j
  rw[yM]
  exact⟨i-(k+1),by rw[xr,show k+1+(i-(k+1))=i by omega,wz l]⟩
 .intro w
  obtain⟨i,l⟩:=yM.1 w
  grind
def OI(l:AC->Bool)(lt:AC->AC->Bool)(A:List AC)(next:Option Nat)(k:Nat):Option Nat:=
 match next with
 | none=>if l A[k]! = true then some k else none
 | some j=>if l A[k]! = true/\lt A[k]! A[j]! = true then some k else some j
def nx:Option Nat->Int
 | none=>-1
 | some j=>(j:Int)
theorem bI{l}{lt}(U:G7 lt){A:List AC}{f}
 (h1:∀k next, k<A.length->(∀j, next=some j->j<A.length)->f (nx next, (k:Int))=some (.inl (nx (OI l lt A next k), ((k+1:Nat):Int)))) (h2:∀next, f (nx next, (A.length:Int))=some (.inr (nx next))) :
    ∃next, iter f (-1, 0)=some (nx next)/\(match next with | none => ∀z ∈ A, l z=false | some j => ∃I:j<A.length, l A[j]=true/\∀z ∈ A, l z=true->lt z A[j]=false) := by
  have key := Jo (f := f) A.length (λk s => ∃next, s=(nx next, (k:Int))/\(match next with | none => ∀i, i<k->∀C:i<A.length, l A[i]=false | some j => ∃I:j<A.length, l A[j]=true/\∀i, i<k->∀C:i<A.length, l A[i]=true->lt A[i] A[j]=false))
    (λb => ∃next, b=nx next/\(match next with | none => ∀z ∈ A, l z=false | some j => ∃I:j<A.length, l A[j]=true/\∀z ∈ A, l z=true->lt z A[j]=false))
    (λk s M V => by
      obtain⟨next, rfl, F⟩ := V
      left
      have X:∀j, next=some j->j<A.length := λj e => by subst e;exact F.1
      refine⟨_, h1 k next M X, OI l lt A next k, rfl, ?_⟩
      unfold OI
      cases next with
      | none =>
        simp only at F ⊢
        rw[xg A k M]
        by_cases E:l A[k]=true
        · rw[ww E]
          refine⟨M, E, λi C m q => ?_⟩
          by_cases w:i<k
          · rw[F i w m] at q;cases q
          · obtain rfl:i=k := by omega
            exact U.swo.irrefl _
        · rw[wv E]
          intro i C m
          by_cases w:i<k
          · exact F i w m
          · obtain rfl:i=k := by omega
            simpa using E
      | some j =>
        obtain⟨I, J, B⟩ := F
        simp only
        rw[xg A k M, xg A j I]
        by_cases E:l A[k]=true/\lt A[k] A[j]=true
        · rw[ww E]
          refine⟨M, E.1, λi C m q => ?_⟩
          by_cases w:i<k
          · have T := B i w m q
            cases O:lt A[i] A[k]
            · rfl
            · rw[U.swo.trans _ _ _ O E.2] at T;cases T
          · obtain rfl:i=k := by omega
            exact U.swo.irrefl _
        · rw[wv E]
          refine⟨I, J, λi C m q => ?_⟩
          by_cases w:i<k
          · exact B i w m q
          · obtain rfl:i=k := by omega
            cases O:lt A[i] A[j]
            · rfl
            · exact absurd ⟨q, O⟩ E)
    (λs V => by
      obtain⟨next, rfl, F⟩ := V
      refine⟨_, h2 next, next, rfl, ?_⟩
      cases next with
      | none =>
        intro z Z
        obtain⟨i, C, rfl⟩ := yH.1 Z
        exact F i C C
      | some j =>
        obtain⟨I, J, B⟩ := F
        refine⟨I, J, λz Z E => ?_⟩
        obtain⟨i, C, rfl⟩ := yH.1 Z
        exact B i C C E)
    (s := (-1, 0)) ⟨none, rfl, λi C => absurd C (by omega)⟩
  obtain⟨b, T, next, rfl, O⟩ := key
  exact⟨next, T, O⟩
theorem Sn{m:AC->Bool}{lt:AC->AC->Bool}(V:G7 lt){A c:List AC}(X:Uq A)(E:∀z∈c,z∈A)(hc:c.Pairwise λa b=>lt a b=true){k:Nat}
  (l:∀z∈A,m z=true↔z∈c.drop k) {next:Option Nat} (J:match next with | none=>∀z∈A,m z=false | some j=>∃q:j<A.length,m A[j]=true/\∀z∈A,m z=true->lt z A[j]=false) :
  (k<c.length->∃j,∃q:j<A.length,next=some j/\some A[j]=c[k]?)/\(c.length<=k->next=none):=by
 constructor
 .intro w
  have B:c[k]∈c.drop k:=yM.2 ⟨0,by rw[xr,yG,wz w]⟩
  have hA:=E _ (xw w)
  have F:=(l _ hA).2 B
  cases next with
  | none=>grind
  | some j=>
   obtain⟨q,I,O⟩:=J
   refine⟨j,q,rfl,?_⟩
   rw[wz w]
   congr 1
   have Z:=O _ hA F
   have C:A[j]∈c.drop k:=(l _ (xw q)).1 I
   obtain⟨i,M⟩:=yM.1 C
   rw[xr] at M
   obtain⟨T,U⟩:=wx.1 M
   rw[zG] at hc
   grind
 .intro w
  cases next with
  | none=>rfl
  | some j=>
   obtain⟨q,I,_⟩:=J
   have C:A[j]∈c.drop k:=(l _ (xw q)).1 I
   rw[yy w] at C;cases C
structure Fo(A:List AC)(d:Int->Nat)(M:Nat):Prop where
 uq:Uq A
 id:∀x∈A,1<=x.Item
 rk:Rk A d
 top:∀x∈A,d x.Item<=M
 len:A.length<=1048576
def A6(A:List AC)(q:Int):List AC:=srt G9 (A.filter λz=>decide (z.Parent=q))
theorem Gp{A}{q}{z:AC} : z∈A6 A q↔z∈A/\z.Parent=q:=by grind [A6,GP]
theorem OK{A}(j:Uq A)(q:Int):(A6 A q).Pairwise λa b=>G9 a b=true:=Zo Id (j.filter _)
def BM(A:List AC):Nat->Int->List AC
 | 0,_=>[]
 | n+1,q=>(A6 A q).flatMap λx=>x::BM A n x.Item
def Kt(q:Int)(place:List UInt8)(j:Int)(z:AC):Bool:=!(((!(z.Parent=q))||(Ay z.Place place))||((z.Place=place)&&(z.Item<=j)))
theorem YU(A:List AC)(F:A.length<=1048576) q place l:∃next,iter (λ(a:Int × Int)=>JH A q place l a.1 a.2) ((-1),0)=some (nx next) /\
  (match next with | none=>∀z∈A,Kt q place l z=false | some j=>∃w:j<A.length,Kt q place l A[j]=true/\∀z∈A,Kt q place l z=true->G9 z A[j]=false):=by
 refine bI Id (λk next B C=>?_) (λnext=>?_)
 .show JH A q place l (nx next) (k:Int)=_
  unfold JH
  rw[ww (by simpa using B),Ak B,AD,Au (by omega)]
  unfold OI Kt
  generalize A[k]! = x
  by_cases m:(((!(x.Parent=q))||(Ay x.Place place))||((x.Place=place)&&(x.Item<=l)))=true
  .rw[ww m,m]
   cases next<;>simp
  .rw[wv m]
   rw[zj] at m
   rw[m]
   cases next with
   | none=>simp[nx,DO]
   | some j=>
    have w:=C j rfl
    have E:decide (nx (some j)<0)=false:=by unfold nx;simp
    rw[E,show((false==false)=true) from rfl,Av,show nx (some j)=(j:Int) from rfl,Ak w,AD]
    simp only[WAW,true_and]
    generalize A[j]! = y
    have e:G9 x y=(Ay x.Place y.Place||((x.Place=y.Place)&&(x.Item<y.Item))):=rfl
    rw[e]
    cases Ay x.Place y.Place
    .simp only[yW,show((false==false)=true) from rfl,Av,AD]
     split<;>rfl
    .simp only[yW,WAQ,show((true==false)=false) from rfl,DO,AD,zm]
     rfl
 .grind [JH,nx]
def Ee(c:List AC)(k:Nat):List UInt8 × Int:=match k with | 0=>([],0) | k+1=>(c[k]!.Place,c[k]!.Item)
theorem ib{c:List AC}{k}(h:k<c.length):Ee c (k+1)=(c[k].Place,c[k].Item):=by
 show(c[k]!.Place,c[k]!.Item)=_
 grind
theorem fj{A}(w:Uq A)(BR:∀x∈A,1<=x.Item)(q:Int){k}(C:k<=(A6 A q).length){z:AC}(B:z∈A):Kt q (Ee (A6 A q) k).1 (Ee (A6 A q) k).2 z=true↔z∈(A6 A q).drop k:=by
 have l:∀(p:List UInt8) (i:Int),Kt q p i z=true↔z.Parent=q/\¬ (Ay z.Place p=true\/(z.Place=p/\z.Item<=i)):=λp i=>by
  grind [Kt]
 cases k with
 | zero=>
  rw[zL,Gp,l]
  unfold Ee
  simp only
  constructor
  .grind
  .rintro⟨_,j⟩
   refine⟨j,?_⟩
   rintro(h | ⟨_,h⟩)
   .grind [Ye]
   .grind
 | succ k=>
  unfold Ee
  simp only
  rw[xg (A6 A q) k (by omega),l]
  constructor
  .rintro⟨j,m⟩
   refine(Uw Id (OK w q) (by omega) (Gp.2 ⟨B,j⟩)).1 ?_
   grind [G9,A6,Pf]
  .intro j
   have m:=WAR j
   refine⟨(Gp.1 m).2,λE=>?_⟩
   grind [Uw,Id,OK,Pf]
theorem uj{A:List AC}{d:Int->Nat}{M:Nat}(h:Fo A d M):∀(n:Nat) (q:Int) (out:List AC),M-d q<n->out.length+(BM A n q).length<=2097151->Dq n out A q=some (out++BM A n q):=by
 intro n
 induction n with
 | zero=>intro q out hn;omega
 | succ n ih=>
  intro q out hn hl
  show Ju (λw E l=>Dq n w E l) out A q=_
  unfold Ju
  have hA:∀z∈A6 A q,z∈A:=λz F=>(Gp.1 F).1
  have loop:∀m k o,k+m=(A6 A q).length->o.length+(((A6 A q).drop k).flatMap λx=>x::BM A n x.Item).length<=2097151 ->
    iter (λ(a:(List UInt8) × Int × (List AC))=>GC A q (λw E l=>Dq n w E l) a.1 a.2.1 a.2.2) ((Ee (A6 A q) k).1,(Ee (A6 A q) k).2,o) =
     some (.ext (o++((A6 A q).drop k).flatMap λx=>x::BM A n x.Item)):=by
   intro m
   induction m with
   | zero=>
    intro k o hk U
    refine Bj ?_
    show GC A q _ (Ee (A6 A q) k).1 (Ee (A6 A q) k).2 o=_
    unfold GC
    obtain⟨next,J,e2⟩:=YU A h.len q (Ee (A6 A q) k).1 (Ee (A6 A q) k).2
    have:=(Sn Id h.uq hA (OK h.uq q) (λz F=>fj h.uq h.id q (by omega) F) e2).2 (by omega)
    subst this
    rw[J,AD,ww (by decide),yy (by omega)]
    simp
   | succ m O=>
    intro k o hk U
    have B:k<(A6 A q).length:=by omega
    obtain⟨next,J,e2⟩:=YU A h.len q (Ee (A6 A q) k).1 (Ee (A6 A q) k).2
    obtain⟨j,hj,rfl,V⟩:=(Sn Id h.uq hA (OK h.uq q) (λz F=>fj h.uq h.id q (by omega) F) e2).1 B
    rw[wz B] at V
    have e4:A[j]=(A6 A q)[k]:=xh V
    have I:=xw B
    have C:=Gp.1 I
    have hd:=h.rk _ C.1
    rw[C.2] at hd
    have X:=h.top _ C.1
    rw[xx B,yf,xy,xz] at U
    rw[CF (s':=((Ee (A6 A q) (k+1)).1,(Ee (A6 A q) (k+1)).2,(o++[(A6 A q)[k]])++BM A n (A6 A q)[k].Item)) (by
     show GC A q _ (Ee (A6 A q) k).1 (Ee (A6 A q) k).2 o=_
     unfold GC
     rw[J,AD,show nx (some j)=(j:Int) from rfl,wv (by simp),Ei hj,AD,Jx (by simp;omega),AD,e4]
     show AB (Dq n (o++[(A6 A q)[k]]) A (A6 A q)[k].Item) _=_
     rw[ih _ _ (by omega) (by rw[xy];simp;omega),AD]
     rw[ib B]),O (k+1) _ (by omega) (by simp only[xy,xz,zq];omega)]
    conv=>rhs;rw[xx B,yf]
    simp
  have Z:=loop (A6 A q).length 0 out (by omega) (by rw[zL];exact hl)
  rw[zL] at Z
  have T:iter (λ(a:(List UInt8) × Int × (List AC))=>GC A q (λw E l=>Dq n w E l) a.1 a.2.1 a.2.2) ([],0,out)=some (.ext (out++(A6 A q).flatMap λx=>x::BM A n x.Item)):=Z
  rw[T,G6];rfl
end Go.Proofs.YtcgleifameckmaaGreatDoor.Al

set_option linter.unusedVariables false
namespace Go.Proofs.YtcgleifameckmaaGreatDoor.Al
open Go.Sort
theorem Bc.trans{A}{a b y}(h:Bc A b y)(g:Bc A a b):Bc A a y:=by
 induction h with
 | self=>exact g
 | step j _ l=>exact Bc.step j l
theorem Bc.rank{A}{d}(j:Rk A d){top y}(h:Bc A top y):d top<=d y:=by
 induction h with
 | self=>exact wy _
 | step l _ m=>have:=j _ l;omega
theorem wW{A}(l:Uq A){a b y}(h:Bc A a y)(g:Bc A b y):Bc A a b\/Bc A b a:=by
 induction h with
 | self=>exact .inr g
 | @step x j m q=>
  rcases g.inv with e | ⟨z,w,e,g2⟩
  .exact .inl (by rw[<- e];exact Bc.step j m)
  .rw[l.eq w j e] at g2;exact q g2
theorem NO{A} : ∀(n:Nat) (q:Int) (z:AC),z∈BM A n q->z∈A/\Bc A q z.Parent:=by
 intro n
 induction n with
 | zero=>intro q z h;cases h
 | succ n l=>
  intro q z h
  unfold BM at h
  obtain⟨x,m,j⟩:=WAf.1 h
  obtain⟨hA,hp⟩:=Gp.1 m
  rcases yD.1 j with rfl | j
  .exact⟨hA,by rw[hp];exact Bc.self⟩
  .obtain⟨w,B⟩:=l _ _ j
   exact⟨w,B.trans (Bc.step hA (by rw[hp];exact Bc.self))⟩
theorem fT{A}{d}(B:Uq A)(m:Rk A d):∀(n:Nat) (q:Int),(BM A n q).Pairwise λa b=>a.Item≠b.Item:=by
 intro n
 induction n with
 | zero=>intro q;exact List.Pairwise.nil
 | succ n M=>
  intro q
  unfold BM
  rw[List.pairwise_flatMap]
  have hB:∀a∈A6 A q,∀x∈a::BM A n a.Item,Bc A a.Item x.Item:=λa j x C=>by
   rcases yD.1 C with rfl | C
   .exact Bc.self
   .obtain⟨E,w⟩:=NO n _ _ C
    exact Bc.step E w
  refine⟨λa j=>zO.2 ⟨λz O e=>?_,M _⟩,?_⟩
  .obtain⟨E,w⟩:=NO n _ _ O
   have:=w.rank m
   have:=m z E
   grind
  .have T:=OK B q
   have l:∀a∈A6 A q,a∈A/\a.Parent=q:=λa j=>Gp.1 j
   refine List.Pairwise.imp_of_mem (λ{a b} j F I x C y U e=>?_) T
   have E:=hB a j x C
   have w:=hB b F y U
   rw[<- e] at w
   have J:a.Item≠b.Item:=λe2=>by
    rw[B.eq (l a j).1 (l b F).1 e2,Id.swo.irrefl] at I;cases I
   rcases wW B E w with g | g
   .have g2:=(Qv B (l b F).1 (λe2=>J e2.symm)).1 g
    rw[(l b F).2] at g2
    have:=g2.rank m
    have:=m a (l a j).1
    grind
   .have g2:=(Qv B (l a j).1 J).1 g
    rw[(l a j).2] at g2
    have:=g2.rank m
    have:=m b (l b F).1
    grind
theorem aQ:∀(l A:List AC),(l.Pairwise λa b=>a.Item≠b.Item)->(∀z∈l,z∈A)->l.length<=A.length:=by
 intro l
 induction l with
 | nil=>grind
 | cons a r q=>
  intro A hp j
  rw[zO] at hp
  have w:=j a (xY ..)
  have:=q (A.erase a) hp.2 λz m=>(List.mem_erase_of_ne (λe=>hp.1 z m (by rw[e]))).2 (j z (xZ _ m))
  grind
theorem MJ{A:List AC}{d}{M}(h:Fo A d M) n q:(BM A n q).length<=A.length:=
 aQ _ _ (fT h.uq h.rk n q) λz j=>(NO n q z j).1
theorem PD{α:Type} m k(v:α) q:AR (Am m k v) q=if q=k then some v else AR m q:=by
 induction m with
 | nil=>unfold Am AR;rfl
 | cons p r j=>
  grind [Am,AR]
def cS(p q:List UInt8):Int:=if Ay p q then -1 else if !(Ay p q||(p=q)) then 1 else 0
def ST(a b:AC):Int:=if cS a.Place b.Place≠0 then cS a.Place b.Place else Jv a.Item b.Item
theorem sH p q:Qe p q=some (cS p q):=by grind [Qe,PM,cS,AD]
theorem jE a b:Li a b=some (ST a b):=by grind [Li,ST,sH,Sg,AD,Z3]
theorem tD(a b:AC):Oa a b=some (Jv a.Item b.Item):=by
 unfold Oa
 rw[Sg,AD]
theorem iz:ltOf ST=G9:=by
 funext a b
 unfold ltOf
 grind [XG,ST,cS,Jv,Ay,LI]
theorem tV:ltOf (λa b:AC=>Jv a.Item b.Item)=FV:=by
 funext a b
 unfold ltOf FV Jv
 grind
theorem bT{lt}(j:G7 lt){cmp}{l}(w:∀a b,cmp a b=some (l a b))(m:ltOf l=lt){xs:List AC}(A:Uq xs)(E:xs.length<=1048576) :
  IA cmp xs=some (srt lt xs):=by
 refine qE ⟨by omega,l,w,by rw[m];exact j.swo,λa B b C q g2=>?_,GP _ _,by rw[m];exact RC j xs⟩
 rw[m] at q g2
 exact A.eq B C (j.tot a b q g2)
theorem eQ{lt}(j:G7 lt){xs ys:List AC}(m:Uq ys)(hp:xs.Perm ys):srt lt xs=srt lt ys:=by
 refine Vo j.swo _ _ (((GP lt xs).trans hp).trans (GP lt ys).symm) (λa q b w A g2=>?_) (RC j xs) (RC j ys)
 have l:∀z∈srt lt xs,z∈ys:=λz B=>hp.subset ((GP lt xs).subset B)
 exact m.eq (l a q) (l b w) (j.tot a b A g2)
def Dj(kids:List (Int × List AC))(q:Int):List AC:=(AR kids q).getD []
def Jw(A:List AC)(kids:List (Int × List AC)):Prop:=∀q,(Dj kids q).Perm (A.filter λz=>decide (z.Parent=q))
theorem RQ kids q v p:Dj (Am kids q v) p=if p=q then v else Dj kids p:=by grind [Dj,PD]
theorem lL{A:List AC}(E:Uq A)(F:A.length<=1048576){kids}(l:Jw A kids)(q:Int):∃w,Lg Li kids q=some w/\Dj w q=A6 A q/\Jw A w/\∀p,Dj kids p=A6 A p->Dj w p=A6 A p:=by
 unfold Lg
 cases m:AR kids q with
 | none=>
  have j:=l q
  unfold Dj at j
  rw[m,WAe] at j
  refine⟨kids,rfl,?_,l,λp h=>h⟩
  unfold Dj A6
  rw[m,List.nil_perm.1 j]
  simp[srt]
 | some xs=>
  have j:=l q
  unfold Dj at j
  rw[m,yP] at j
  have B:Uq xs:=(E.filter _).perm j
  have C:xs.length<=1048576:=by rw[j.length_eq];exact xW (zD ..) F
  have I:srt G9 xs=A6 A q:=eQ Id (E.filter _) j
  simp only
  rw[bT Id jE iz B C,yF]
  refine⟨_,rfl,?_,λp=>?_,λp hp=>?_⟩
  .grind [RQ]
  .rw[RQ]
   split
   .grind [GP]
   .exact l p
  .grind [RQ]
def DX(m:List (Int × Bool))(i:Int):Bool:=(AR m i).getD false
theorem Rc m k i:DX (Am m k true) i=((i=k)||DX m i):=by grind [DX,PD]
def Bk(l:List AC)(i:Int):Bool:=l.any λz=>decide (z.Item=i)
theorem fm l m i:Bk (l++m) i=(Bk l i||Bk m i):=by unfold Bk;rw[List.any_append]
theorem lK{A}{d}{M}(h:Fo A d M):∀(n:Nat) (q:Int) (kids:List (Int × List AC)) (out:List AC) (seen:List (Int × Bool)),M-d q<n->Jw A kids->out.length+(BM A n q).length<=2097151 ->
  ∃l F,Dv n kids out seen q=some (l,out++BM A n q,F)/\Jw A l/\(∀p,Dj kids p=A6 A p->Dj l p=A6 A p)/\∀i,DX F i=(DX seen i||Bk (BM A n q) i):=by
 intro n
 induction n with
 | zero=>intro q kids out seen hn;omega
 | succ n ih=>
  intro q kids out seen hn hK hl
  obtain⟨w,e1,e2,e3,e4⟩:=lL h.uq h.len hK q
  have a6:(A6 A q).length<=1048576:=by
   unfold A6
   rw[(GP _ _).length_eq];exact xW (zD ..) h.len
  have loop:∀m k o E O,k+m=(A6 A q).length->Jw A E->Dj E q=A6 A q->o.length+(((A6 A q).drop k).flatMap λx=>x::BM A n x.Item).length<=2097151 ->
    ∃B C,iter (λ(a:Int × (List AC) × (List (Int × (List AC))) × (List (Int × Bool)))=>GJ q (λU V m2 j=>Dv n U V m2 j) w a.1 a.2.1 a.2.2.1 a.2.2.2) ((k:Int),o,E,O) =
     some (.ext (B,o++((A6 A q).drop k).flatMap λx=>x::BM A n x.Item,C))/\Jw A B/\(∀p,Dj E p=A6 A p->Dj B p=A6 A p)/\∀i,DX C i=(DX O i||Bk (((A6 A q).drop k).flatMap λx=>x::BM A n x.Item) i):=by
   intro m
   induction m with
   | zero=>
    intro k o E O hk T hr ho
    refine⟨E,O,Bj ?_,T,λp hp=>hp,λi=>?_⟩
    .show GJ q _ w (k:Int) o E O=_
     unfold GJ
     rw[wv (by rw[show(AR w q).getD []=A6 A q from e2];simp;omega),yy (by omega)]
     simp
    .rw[yy (by omega)];simp[Bk]
   | succ m a0=>
    intro k o E O hk T hr ho
    have I:k<(A6 A q).length:=by omega
    have X:=xw I
    have J:=Gp.1 X
    have hd:=h.rk _ J.1
    rw[J.2] at hd
    have a2:=h.top _ J.1
    rw[xx I,yf,xy,xz] at ho
    obtain⟨k1,s1,f1,f2,f3,f4⟩:=ih (A6 A q)[k].Item E (o++[(A6 A q)[k]]) (Am O (A6 A q)[k].Item true) (by omega) T (by rw[xy];simp;omega)
    obtain⟨B,C,Z,g2,g3,g4⟩:=a0 (k+1) ((o++[(A6 A q)[k]])++BM A n (A6 A q)[k].Item) k1 s1 (by omega) f2 (f3 q hr) (by simp only[xy,xz,zq];omega)
    refine⟨B,C,?_,g2,λp hp=>g3 p (f3 p hp),λi=>?_⟩
    .rw[CF (s':=(((k+1:Nat):Int),(o++[(A6 A q)[k]])++BM A n (A6 A q)[k].Item,k1,s1)) (by
      show GJ q _ w (k:Int) o E O=_
      unfold GJ
      rw[ww (by rw[show(AR w q).getD []=A6 A q from e2];simp;omega),show(AR E q).getD []=A6 A q from hr,Ei I,AD,Jx (by simp;omega),AD]
      show EQ (Dv n E (o++[(A6 A q)[k]]) (Am O (A6 A q)[k].Item true) (A6 A q)[k].Item) _=_
      rw[f1,Gg,Au (by omega),AD]),Z]
     conv=>rhs;rw[xx I,yf]
     simp
    .rw[g4,f4,Rc,xx I,yf,fm]
     have:Bk ((A6 A q)[k]::BM A n (A6 A q)[k].Item) i=((i=(A6 A q)[k].Item)||Bk (BM A n (A6 A q)[k].Item) i):=by
      unfold Bk
      rw[WAB]
      congr 1
      rw[WAK];exact⟨λe=>e.symm,λe=>e.symm⟩
     rw[this]
     cases DX O i<;>cases decide (i=(A6 A q)[k].Item)<;>simp
  obtain⟨B,C,Z,g2,g3,g4⟩:=loop (A6 A q).length 0 out w seen (by omega) e3 e2 (by rw[zL];exact hl)
  rw[zL] at Z g4
  refine⟨B,C,?_,g2,λp hp=>g3 p (e4 p hp),g4⟩
  show KC (λU V m2 j=>Dv n U V m2 j) kids out seen q=_
  unfold KC
  rw[e1,AD]
  have a1:iter (λ(a:Int × (List AC) × (List (Int × (List AC))) × (List (Int × Bool)))=>GJ q (λU V m2 j=>Dv n U V m2 j) w a.1 a.2.1 a.2.2.1 a.2.2.2) (0,out,w,seen)=_:=Z
  rw[a1,G6];rfl
end Go.Proofs.YtcgleifameckmaaGreatDoor.Al

set_option linter.unusedVariables false
set_option linter.unusedSimpArgs false
namespace Go.Proofs.YtcgleifameckmaaGreatDoor.Al
open Go.Sort
def wa(attrs:List AC)(x:AC):AC:=⟨x.Item,x.Parent,x.Place,(AR (DF attrs) x.Item).getD []⟩
theorem uT{l:List BA}(A:l.length<=1048576)(B:∀x∈l,Fg x=0):∀(m k:Nat) (w attrs:List AC),k+m=l.length->DI k w attrs->∃j q,DI l.length j q /\
  iter (λ(a:Int × (List (Int × AC)) × (List (Int × (List AH))))=>Jr l a.1 a.2.1 a.2.2) ((k:Int),BX w,DF attrs)=some (BX j,DF q) /\
  iter (λ(a:Int × (List AC) × (List AC))=>Jc l a.1 a.2.1 a.2.2) ((k:Int),w,attrs)=some (j,q):=by
 intro m
 induction m with
 | zero=>
  grind [Bj,Jr,Jc]
 | succ m C=>
  grind [sB,Bs,CF,BX,DF]
theorem pB{l attrs:List AC}(M:l.length<=1048576)(O:attrs.length<=1048576)(F:∀x∈l,x.Attrs=[]) :
  iter (λ(a:Int × (List AC))=>J8 l attrs a.1 a.2) (0,l)=some (l.map (wa attrs)):=by
 have key:∀m k,k+m=l.length->iter (λ(a:Int × (List AC))=>J8 l attrs a.1 a.2) ((k:Int),(l.take k).map (wa attrs)++l.drop k)=some (l.map (wa attrs)):=by
  intro m
  induction m with
  | zero=>
   grind [Bj,J8]
  | succ m T=>
   intro k U
   have q:k<l.length:=by omega
   have A:((l.take k).map (wa attrs)).length=k:=by simp;omega
   have V:((l.take k).map (wa attrs)++l.drop k)[k]?=some l[k]:=by
    rw[xP (by omega),A,zW,xr,yG,wz q]
   have J:∀y,((l.take k).map (wa attrs)++l.drop k).set k y=(l.take k).map (wa attrs)++(y::l.drop (k+1)):=λy=>by
    rw[WAN _ _ (by omega),A,zW,xx q];rfl
   have B:(l.take (k+1)).map (wa attrs)++l.drop (k+1)=(l.take k).map (wa attrs)++(wa attrs l[k]::l.drop (k+1)):=by
    rw[Oo q,xg l k q,yq,yQ];rfl
   have I:J8 l attrs (k:Int) ((l.take k).map (wa attrs)++l.drop k)=some (.inl (((k+1:Nat):Int),(l.take (k+1)).map (wa attrs)++l.drop (k+1))):=by
    unfold J8
    have E:AO ((l.take k).map (wa attrs)++l.drop k) (k:Int)=some l[k]:=by
     simp_all [AO]
    rw[ww (by simpa using q),E,AD,NC _ _ (by omega),AD,Au (by omega)]
    unfold Iy
    have w:=XR attrs l[k].Item
    cases C:Ao (BX attrs) l[k].Item with
    | none=>
     rw[C] at w
     simp only
     rw[wv (by decide),AD,AD,B]
     have:wa attrs l[k]=l[k]:=by
      unfold wa
      rw[(E2 w).1,WAe,<- F _ (xw q)]
     simp_all
    | some j=>
     rw[C] at w
     obtain⟨X,Z⟩:=HG C
     obtain⟨v,v1,v2,_⟩:=DT w
     simp_all [DF,Ei,AD,wa]
   grind [CF,wa]
 have:=key l.length 0 (by omega)
 grind
theorem jv{l:List BA}(q:l.length<=1048576)(w:∀x∈l,Fg x=0):∃j attrs,DI l.length j attrs/\NZ l=some (BX j,DF attrs)/\NM l=some (j.map (wa attrs),attrs):=by
 obtain⟨j,attrs,h,C,A⟩:=uT q w l.length 0 [] [] (by omega) ⟨by unfold Uq;simp,by simp,by simp,⟨λ_=>0,λx B=>by cases B⟩,by simp,by unfold Uq;simp,by simp,by simp,by simp,by simp,by simp⟩
 refine⟨j,attrs,h,?_,?_⟩
 .grind [NZ,iter,Jr,BX,DF,By]
 .unfold NM
  have m:iter (λ(a:Int × (List AC) × (List AC))=>Jc l a.1 a.2.1 a.2.2) (0,[],[])=some (j,attrs):=A
  rw[m,By,pB (by have:=h.li;omega) (by have:=h.la;omega) h.no,AD]
theorem sU(d:Int->Nat):∀A:List AC,∃M,∀x∈A,d x.Item<=M:=by
 intro A
 induction A with
 | nil=>exact⟨0,λx j=>by cases j⟩
 | cons a r l=>
  obtain⟨M,h⟩:=l
  refine⟨max M (d a.Item),λx j=>?_⟩
  grind
theorem DI.fo{n}{j attrs:List AC}(h:DI n j attrs)(w:n<=1048576):∃d M,Fo (j.map (wa attrs)) d M:=by
 obtain⟨d,hd⟩:=h.rk
 obtain⟨M,q⟩:=sU d (j.map (wa attrs))
 refine⟨d,M,?_,λx l=>?_,λx l=>?_,q,by have:=h.li;simp;omega⟩
 .have:=h.uq
  unfold Uq at *
  rw[List.map_map];exact this
 .obtain⟨y,m,rfl⟩:=yT.1 l;exact h.id y m
 .obtain⟨y,m,rfl⟩:=yT.1 l;exact hd y m
theorem RE{α:Type}{N:Nat->Option α}(mono:∀n r,N n=some r->N (n+1)=some r){j:Nat}{l:α}(h:N j=some l) :
  @dite _ (∃n r,N n=some r) (Classical.propDecidable _) (λh=>N h.choose) (λ_=>none)=some l:=by
 have m:∃n r,N n=some r:=⟨j,l,h⟩
 rw[zU m]
 obtain⟨w,q⟩:=m.choose_spec
 have up:∀k n r,N n=some r->N (n+k)=some r:=by
  intro k
  induction k with
  | zero=>grind
  | succ k A=>grind
 have B:=up j _ _ q
 have e2:=up m.choose _ _ h
 grind
theorem KG{σ β:Type}{f g:σ->Option (σ ⊕ β)}(h:∀s v,f s=some v->g s=some v){s:σ}{r:β}(j:iter f s=some r):iter g s=some r:=by
 obtain⟨n,l⟩:=M5.1 j
 refine M5.2 ⟨n,?_⟩
 clear j
 induction n generalizing s with
 | zero=>exact l
 | succ n m=>
  grind [Er]
theorem ke n:∀(m:List (Int × List AC)) (A:List AC) (m2:List (Int × Bool)) (q:Int) r,Dv n m A m2 q=some r->Dv (n+1) m A m2 q=some r:=by
 induction n with
 | zero=>intro m A m2 q r h;cases h
 | succ n O=>
  intro m A m2 q r h
  change KC (λm A m2 j=>Dv n m A m2 j) m A m2 q=some r at h
  show KC (λm A m2 j=>Dv (n+1) m A m2 j) m A m2 q=some r
  unfold KC at h ⊢
  cases E:Lg Li m q with
  | none=>rw[E] at h;cases h
  | some w=>
   rw[E,AD] at h
   rw[AD]
   cases C:iter (λ(a:Int × (List AC) × (List (Int × (List AC))) × (List (Int × Bool)))=>GJ q (λm A m2 j=>Dv n m A m2 j) w a.1 a.2.1 a.2.2.1 a.2.2.2) (0,A,w,m2) with
   | none=>rw[C] at h;cases h
   | some v=>
    rw[C] at h
    rw[KG (g:=λ(a:Int × (List AC) × (List (Int × (List AC))) × (List (Int × Bool)))=>GJ q (λm A m2 j=>Dv (n+1) m A m2 j) w a.1 a.2.1 a.2.2.1 a.2.2.2) (λs v B=>?_) C]
    .exact h
    .unfold GJ at B ⊢
     split at B
     .rename_i J
      rw[ww J]
      cases F:AO ((AR s.2.2.1 q).getD []) s.1 with
      | none=>rw[F] at B;cases B
      | some x=>
       rw[F,AD] at B
       rw[AD]
       cases I:app 56 s.2.1 [x] with
       | none=>rw[I] at B;cases B
       | some l=>
        rw[I,AD] at B
        rw[AD]
        change EQ (Dv n s.2.2.1 l (Am s.2.2.2 x.Item true) x.Item) _=_ at B
        show EQ (Dv (n+1) s.2.2.1 l (Am s.2.2.2 x.Item true) x.Item) _=_
        cases M:Dv n s.2.2.1 l (Am s.2.2.2 x.Item true) x.Item with
        | none=>rw[M] at B;cases B
        | some t=>grind
     .grind
theorem o8 n:∀(o l:List AC) (q:Int) r,Dq n o l q=some r->Dq (n+1) o l q=some r:=by
 induction n with
 | zero=>intro o l q r h;cases h
 | succ n T=>
  intro o l q r h
  change Ju (λm A j=>Dq n m A j) o l q=some r at h
  show Ju (λm A j=>Dq (n+1) m A j) o l q=some r
  unfold Ju at h ⊢
  cases B:iter (λ(a:(List UInt8) × Int × (List AC))=>GC l q (λm A j=>Dq n m A j) a.1 a.2.1 a.2.2) ([],0,o) with
  | none=>rw[B] at h;cases h
  | some v=>
   rw[B] at h
   rw[KG (g:=λ(a:(List UInt8) × Int × (List AC))=>GC l q (λm A j=>Dq (n+1) m A j) a.1 a.2.1 a.2.2) (λs v w=>?_) B]
   .exact h
   .unfold GC at w ⊢
    cases F:iter (λ(a:Int × Int)=>JH l q s.1 s.2.1 a.1 a.2) ((-1),0) with
    | none=>rw[F] at w;cases w
    | some C=>
     rw[F,AD] at w
     rw[AD]
     split at w
     .grind
     .rename_i M
      rw[wv M]
      cases I:AO l C with
      | none=>rw[I] at w;cases w
      | some x=>
       rw[I,AD] at w
       rw[AD]
       cases J:app 56 s.2.2 [x] with
       | none=>rw[J] at w;cases w
       | some E=>
        rw[J,AD] at w
        rw[AD]
        change AB (Dq n E l x.Item) _=_ at w
        show AB (Dq (n+1) E l x.Item) _=_
        cases O:Dq n E l x.Item with
        | none=>rw[O] at w;cases w
        | some t=>grind
theorem pb{A}{d}{M}(h:Fo A d M):QX [] A 0=some (BM A (M+1) 0):=by
 have j:=uj h (M+1) 0 [] (by omega) (by have:=MJ h (M+1) 0;have:=h.len;simp;omega)
 rw[yR] at j
 unfold QX
 exact RE (N:=λn=>Dq n [] A 0) (λn r=>o8 n [] A 0 r) j
theorem oF{A}{d}{M}(h:Fo A d M){kids}(m:Jw A kids):∃j s',QQ kids [] [] 0=some (j,BM A (M+1) 0,s')/\∀i,DX s' i=Bk (BM A (M+1) 0) i:=by
 obtain⟨j,s',l,_,_,q⟩:=lK h (M+1) 0 kids [] [] (by omega) m (by have:=MJ h (M+1) 0;have:=h.len;simp;omega)
 rw[yR] at l
 refine⟨j,s',?_,λi=>by rw[q];simp[DX,AR]⟩
 unfold QQ
 exact RE (N:=λn=>Dv n kids [] [] 0) (λn r=>ke n kids [] [] 0 r) l
end Go.Proofs.YtcgleifameckmaaGreatDoor.Al

set_option linter.unusedVariables false
set_option linter.unusedSimpArgs false
namespace Go.Proofs.YtcgleifameckmaaGreatDoor.Al
open Go.Sort
theorem nX{α:Type}{m:List (Int × α)}{k}{v0}(h:AR m k=some v0)(v:α):(Am m k v).map (·.1)=m.map (·.1):=by
 induction m with
 | nil=>cases h
 | cons p r j=>
  grind [Am,AR]
theorem VH{l}(q:Uq l){x:AC}(w:x∈l):AR (BX l) x.Item=some x:=by
 rw[ZY]
 cases h:Ao (BX l) x.Item with
 | none=>grind [KT]
 | some j=>
  obtain⟨m,e⟩:=HG h
  rw[yJ,wz m,q.eq (xw m) w e]
def LJ(j attrs:List AC)(k:Int):AC:=((AR (BX j) k).map (wa attrs)).getD default
structure RJ(items attrs:List AC)(p:List Int)(st:(List AC) × (List (Int × AC)) × (List (Int × (List AC)))):Prop where
 all:st.1=p.map (LJ items attrs)
 keys:st.2.1.map (·.1)=items.map (·.Item)
 here:∀x∈items,∃a,AR st.2.1 x.Item=some ⟨x.Item,x.Parent,x.Place,a⟩
 kids:∀q,Dj st.2.2 q=(p.map (LJ items attrs)).filter λz=>decide (z.Parent=q)
abbrev N6:(List AC) × (List (Int × AC)) × (List (Int × (List AC)))->List Int:=λa=>a.2.1.map (·.1)
theorem mD{j attrs:List AC}(O:Uq j)(V:j.length<=1048576):∀(r p:List Int) l,RJ j attrs p l->(∀k∈r,k∈j.map (·.Item))->p.length+r.length<=1048576 ->
  ∃st',FH (NU N6 (j.map (·.Item)) (λa w=>Hi (DF attrs) a.1 a.2.1 a.2.2 w)) r l=some st'/\RJ j attrs (p++r) st':=by
 intro r
 induction r with
 | nil=>intro p l h _ _;exact⟨l,rfl,by rw[yv];exact h⟩
 | cons k r T=>
  intro p l h E A
  obtain⟨x,F,rfl⟩:=yT.1 (E k (xY ..))
  obtain⟨a,I⟩:=h.here x F
  have B:(⟨x.Item,x.Parent,x.Place,(AR (DF attrs) x.Item).getD []⟩:AC)=wa attrs x:=rfl
  have J:LJ j attrs x.Item=wa attrs x:=by grind [LJ,VH]
  have M:(Dj l.2.2 x.Parent).length<=1048576:=by
   rw[h.kids];refine xW (zD ..) ?_;rw[xk];simp at A;omega
  have X:Hi (DF attrs) l.1 l.2.1 l.2.2 x.Item=some (l.1++[wa attrs x],Am l.2.1 x.Item (wa attrs x),Am l.2.2 x.Parent (Dj l.2.2 x.Parent++[wa attrs x])):=by
   unfold Hi
   rw[I,AD]
   show AB (app 56 (Dj l.2.2 x.Parent) [wa attrs x]) _=_
   rw[Jx (by simp;omega),AD]
   show AB (app 56 l.1 [wa attrs x]) _=_
   rw[Jx (by rw[h.all];simp at A ⊢;omega),AD]
   rfl
  have m:(Am l.2.1 x.Item (wa attrs x)).map (·.1)=j.map (·.Item):=by rw[nX I];exact h.keys
  obtain⟨st',Z,e2⟩:=T (p++[x.Item]) (l.1++[wa attrs x],Am l.2.1 x.Item (wa attrs x),Am l.2.2 x.Parent (Dj l.2.2 x.Parent++[wa attrs x])) ⟨by rw[yq,List.map_singleton,J,<- h.all],m,λy B=>by
    show ∃a,AR (Am l.2.1 x.Item (wa attrs x)) y.Item=_
    rw[PD]
    split
    .rename_i e
     rw[O.eq B F e];exact⟨_,rfl⟩
    .exact h.here y B,λq=>by
    show Dj (Am l.2.2 x.Parent _) q=_
    rw[RQ,yq,List.filter_append,List.map_singleton,J]
    by_cases C:q=x.Parent
    .subst C
     have e:[wa attrs x].filter (λz=>decide (z.Parent=x.Parent))=[wa attrs x]:=by simp[wa]
     rw[ww rfl,h.kids,e]
    .have e:[wa attrs x].filter (λz=>decide (z.Parent=q))=[]:=by simp[wa];exact λe=>C e.symm
     rw[wv C,h.kids,e,yv]⟩ (λk U=>E k (xZ _ U)) (by simp at A ⊢;omega)
  refine⟨st',?_,by rw[yQ] at e2;exact e2⟩
  show(NU N6 (j.map (·.Item)) (λa w=>Hi (DF attrs) a.1 a.2.1 a.2.2 w) l x.Item).bind _=some st'
  simp_all [NU,N6,Hi,DF,wa,Am,Dj]
def Bl(A:List AC)(j:List AC):List AC:=(srt FV A).filter λz=>!Bk j z.Item
theorem iV l m(A:∀i,DX l i=Bk m i)(j:List AC)(C:j.length<=1048576)(o:List AC)(E:o.length<=1048576) :
  iter (λ(a:Int × (List AC))=>I4 l j a.1 a.2) (0,o)=some (o++j.filter λz=>!Bk m z.Item):=
 Ex (f:=λ(a:Int × (List AC))=>I4 l j a.1 a.2) j (λc k=>((k:Int),c)) (λr c=>c++r.filter λz=>!Bk m z.Item) (λk c=>c.length<=1048576+k)
  (λk c w B=>by
   left
   show ∃F,I4 l j (k:Int) c=_/\_
   unfold I4
   rw[ww (by simpa using w),Ak w,AD,Au (by omega),show(AR l j[k]!.Item).getD false=Bk m j[k]!.Item from A _]
   by_cases q:Bk m j[k]!.Item=true
   .refine⟨c,by rw[q];rfl,by omega,?_⟩
    rw[WAg,q];rfl
   .rw[zj] at q
    refine⟨c++[j[k]!],by rw[q,ww (by decide),Jx (by simp;omega)];rfl,by simp;omega,?_⟩
    rw[WAg,q];simp)
  (λc B=>by
   show I4 l j (j.length:Int) c=_
   unfold I4
   rw[wv (by simp)];simp) o (by omega) _ rfl
theorem qX{l:List BA}{j attrs:List AC}(hm:l.length<=1048576)(h:DI l.length j attrs)(hp:NZ l=some (BX j,DF attrs)){d}{M}(hF:Fo (j.map (wa attrs)) d M) :
  OV l=some (BM (j.map (wa attrs)) (M+1) 0++Bl (j.map (wa attrs)) (BM (j.map (wa attrs)) (M+1) 0)):=by
 unfold OV
 rw[hp,By]
 have A:N6 ([],BX j,[])=j.map (·.Item):=by
  show(BX j).map (·.1)=_
  simp_all [BX]
 refine l4 (key:=N6) (F:=λa O=>Hi (DF attrs) a.1 a.2.1 a.2.2 O) ⟨by rw[A];exact h.uq,λks w=>?_⟩
 rw[A] at w ⊢
 have T:=h.li
 have U:ks.length=j.length:=by rw[w.length_eq,xk]
 obtain⟨C,V,e2⟩:=mD (attrs:=attrs) h.uq (by omega) ks [] ([],BX j,[]) ⟨rfl,A,λx E=>⟨x.Attrs,VH h.uq E⟩,λq=>rfl⟩ (λk X=>w.subset X) (by simp;omega)
 rw[V,yJ]
 rw[yR] at e2
 have m:C.1.Perm (j.map (wa attrs)):=by
  rw[e2.all]
  have F:=w.map (LJ j attrs)
  rw[List.map_map] at F
  refine F.trans (List.Perm.of_eq (List.map_congr_left λx E=>?_))
  show LJ j attrs x.Item=_
  unfold LJ;rw[VH h.uq E];rfl
 have Z:Jw (j.map (wa attrs)) C.2.2:=λq=>by
  rw[e2.kids,<- e2.all];exact m.filter _
 obtain⟨k',s',I,w2⟩:=oF hF Z
 obtain⟨J,m3,m4⟩:=C
 simp only at m I ⊢
 rw[Gg,I,Gg,bT LO tD tV (hF.uq.perm m) (by rw[m.length_eq];exact hF.len),AD,eQ LO hF.uq m]
 have B:(srt FV (j.map (wa attrs))).length<=1048576:=by rw[(GP _ _).length_eq];exact hF.len
 rw[iV s' _ w2 _ B _ (xW (MJ hF _ _) hF.len),AD]
 rfl
def Kc(c:List AC)(k:Nat):Int:=match k with | 0=>0 | k+1=>c[k]!.Item
theorem nj l i:decide (Iy l i<0)=!Bk l i:=by
 unfold Iy
 cases h:Ao (BX l) i with
 | none=>
  grind [KT,Bk]
 | some j=>
  obtain⟨m,e⟩:=HG h
  grind [Bk]
def Lk(j:List AC)(last:Int)(z:AC):Bool:=(last<z.Item)&&!Bk j z.Item
theorem Zx(A l out:List AC)(I:A.length<=1048576)(hw:l.length<=1048576)(q:out.take l.length=l)(C:l.length<=out.length) last:∃next,iter (λ(a:Int × Int)=>LC A l last out a.1 a.2) ((-1),0)=some (nx next) /\
  (match next with | none=>∀z∈A,Lk l last z=false | some j=>∃E:j<A.length,Lk l last A[j]=true/\∀z∈A,Lk l last z=true->FV z A[j]=false):=by
 have m:Dl out 0 (l.length:Int)=some l:=by
  grind [Dl]
 refine bI LO (λk next w F=>?_) (λnext=>?_)
 .show LC A l last out (nx next) (k:Int)=_
  unfold LC
  rw[ww (by simpa using w),Ak w,AD,Au (by omega),m]
  unfold OI Lk
  generalize A[k]! = x
  by_cases B:last<x.Item
  .rw[w9 B,show((true==true)=true) from rfl,Av,AD,Av,NC _ _ (by omega),AD,nj]
   cases J:Bk l x.Item
   .cases next with
    | none=>simp[nx,DO]
    | some j=>
     have E:=F j rfl
     have M:decide (nx (some j)<0)=false:=by unfold nx;simp
     grind [nx,Ak,Av,AD,FV]
   .cases next<;>simp[DO]
  .rw[w0 B]
   cases next<;>simp[DO]
 .grind [LC,nx]
theorem S8{A}(j:Uq A)(l:List AC):(Bl A l).Pairwise λa b=>FV a b=true:=(Zo LO j).filter _
theorem KF{A j}{z:AC} : z∈Bl A j↔z∈A/\Bk j z.Item=false:=by grind [Bl,GP]
theorem dg{A}(C:Uq A)(BR:∀x∈A,1<=x.Item)(j:List AC){k}(F:k<=(Bl A j).length){z:AC}(E:z∈A):Lk j (Kc (Bl A j) k) z=true↔z∈(Bl A j).drop k:=by
 have w:∀i:Int,Lk j i z=true↔i<z.Item/\Bk j z.Item=false:=λi=>by unfold Lk;simp
 cases k with
 | zero=>
  rw[zL,KF,w]
  show(0<z.Item/\_)↔_
  grind
 | succ k=>
  rw[w]
  show((Bl A j)[k]!.Item<z.Item/\_)↔_
  rw[xg (Bl A j) k (by omega)]
  have hd:=λq=>Uw LO (S8 C j) (show k<(Bl A j).length by omega) (z:=z) q
  constructor
  .rintro⟨l,m⟩
   exact(hd (KF.2 ⟨E,m⟩)).1 (by unfold FV;simpa using l)
  .intro l
   have m:=WAR l
   have B:=(hd m).2 l
   unfold FV at B
   exact⟨by simpa using B,(KF.1 m).2⟩
theorem lf{A:List AC}(w:Uq A)(BR:∀x∈A,1<=x.Item)(C:A.length<=1048576)(l:List AC)(F:l.length<=1048576):∀m k,k+m=(Bl A l).length ->
  iter (λ(a:Int × (List AC))=>IZ A l a.1 a.2) (Kc (Bl A l) k,l++(Bl A l).take k)=some (.ext (l++Bl A l,(l.length:Int))):=by
 intro m
 have hA:∀z∈Bl A l,z∈A:=λz B=>(KF.1 B).1
 have J:(Bl A l).length<=1048576:=by
  unfold Bl
  refine xW (zD ..) ?_
  rw[(GP _ _).length_eq];exact C
 induction m with
 | zero=>
  intro k M
  refine Bj ?_
  show IZ A l (Kc (Bl A l) k) (l++(Bl A l).take k)=_
  unfold IZ
  obtain⟨next,E,e2⟩:=Zx A l (l++(Bl A l).take k) C F (by simp) (by simp) (Kc (Bl A l) k)
  have:=(Sn LO w hA (S8 w l) (λz B=>dg w BR l (by omega) B) e2).2 (by omega)
  subst this
  rw[E,AD,ww (by decide),z8 (by omega)]
 | succ m O=>
  intro k M
  have q:k<(Bl A l).length:=by omega
  obtain⟨next,E,e2⟩:=Zx A l (l++(Bl A l).take k) C F (by simp) (by simp) (Kc (Bl A l) k)
  obtain⟨j,T,rfl,I⟩:=(Sn LO w hA (S8 w l) (λz B=>dg w BR l (by omega) B) e2).1 q
  rw[wz q] at I
  have U:A[j]=(Bl A l)[k]:=xh I
  rw[CF (s':=(Kc (Bl A l) (k+1),l++(Bl A l).take (k+1))) (by
   show IZ A l (Kc (Bl A l) k) (l++(Bl A l).take k)=_
   unfold IZ
   rw[E,AD,show nx (some j)=(j:Int) from rfl,wv (by simp),Ei T,AD,Jx (by simp;omega),AD,U]
   show some (Sum.inl ((Bl A l)[k].Item,_))=some (Sum.inl ((Bl A l)[k]!.Item,_))
   rw[xg (Bl A l) k q,Oo q,xg (Bl A l) k q,yQ])]
  exact O (k+1) (by omega)
theorem lJ{l}{j attrs:List AC}(hp:NM l=some (j.map (wa attrs),attrs)){d}{M}(hF:Fo (j.map (wa attrs)) d M) :
  LZ l=some (BM (j.map (wa attrs)) (M+1) 0++Bl (j.map (wa attrs)) (BM (j.map (wa attrs)) (M+1) 0),((BM (j.map (wa attrs)) (M+1) 0).length:Int)):=by
 unfold LZ
 rw[hp,By,pb hF,AD]
 have h:=lf hF.uq hF.id hF.len (BM (j.map (wa attrs)) (M+1) 0) (xW (MJ hF _ _) hF.len) _ 0 (by rw[xd])
 rw[List.take_zero,yv] at h
 have m:iter (λ(a:Int × (List AC))=>IZ (j.map (wa attrs)) (BM (j.map (wa attrs)) (M+1) 0) a.1 a.2) (0,BM (j.map (wa attrs)) (M+1) 0)=_:=h
 rw[m,G6]
end Go.Proofs.YtcgleifameckmaaGreatDoor.Al

set_option linter.unusedVariables false
set_option linter.unusedSimpArgs false
namespace Go.Proofs.YtcgleifameckmaaGreatDoor.Al
open Go.Sort
def FB:(Int->Bool)->List AC->Prop
 | _,[]=>True
 | S,z::r=>S z.Parent=true/\FB (λi=>S i||(z.Item=i)) r
theorem FB.mono:∀ {l:List AC} {S T:Int->Bool},FB S l->(∀i,S i=true->T i=true)->FB T l
 | [],_,_,_,_=>trivial
 | z::r,S,T,h,j=>⟨j _ h.1,FB.mono h.2 λi m=>by
   simp only[xl] at m ⊢
   exact m.imp (j i) _root_.id⟩
theorem hU:∀ {l m:List AC} {S:Int->Bool},FB S l->FB (λi=>S i||Bk l i) m->FB S (l++m)
 | [],m,S,_,q=>q.mono λi j=>by simpa[Bk] using j
 | z::r,m,S,w,q=>⟨w.1,hU w.2 (q.mono λi j=>by
   simp only[Bk,WAB,xl,xG] at j ⊢
   rcases j with h | h | h
   .exact .inl (.inl h)
   .exact .inl (.inr h)
   .exact .inr h)⟩
theorem nM{A} : ∀(n:Nat) (q:Int) (S:Int->Bool),S q=true->FB S (BM A n q):=by
 intro n
 induction n with
 | zero=>intro q S _;trivial
 | succ n w=>
  intro q S j
  show FB S ((A6 A q).flatMap λx=>x::BM A n x.Item)
  have l:∀x∈A6 A q,x.Parent=q:=λx B=>(Gp.1 B).2
  revert l j
  generalize A6 A q=c
  induction c generalizing S with
  | nil=>intro _ _;trivial
  | cons x r m=>
   intro j l
   rw[yf]
   refine hU ⟨by rw[l x (xY ..)];exact j,w _ _ (by simp)⟩ (m _ (by simp[j]) λy C=>l y (xZ _ C))
theorem FB.at:∀ {l:List AC} {S:Int->Bool},FB S l->∀k (j:k<l.length),(S l[k].Parent||Bk (l.take k) l[k].Parent)=true
 | z::r,S,h,0,_=>by rw[List.getElem_cons_zero,h.1];rfl
 | z::r,S,h,k+1,j=>by
  have:=FB.at h.2 k (by simpa using j)
  rw[List.getElem_cons_succ,WAU]
  simp only[Bk,WAB,xl,xG] at this ⊢
  rcases this with (h | h) | h
  .exact .inl h
  .exact .inr (.inl h)
  .exact .inr (.inr h)
theorem tO{A}{d}{M}(h:Fo A d M):∀(n:Nat) (q:Int),M-d q<n->∀z∈A,(z.Parent=q\/Bk (BM A n q) z.Parent=true)->z∈BM A n q:=by
 intro n
 induction n with
 | zero=>grind
 | succ n E=>
  intro q F z m hp
  unfold BM
  rw[WAf]
  rcases hp with hp | hp
  .exact⟨z,Gp.2 ⟨m,hp⟩,xY ..⟩
  .unfold Bk BM at hp
   rw[y8] at hp
   obtain⟨y,w,I⟩:=hp
   obtain⟨x,B,C⟩:=WAf.1 w
   obtain⟨j,l⟩:=Gp.1 B
   have hd:=h.rk x j
   rw[l] at hd
   have J:=h.top x j
   grind [Bk]
theorem ul{A:List AC}{d:Int->Nat}{M:Nat}(h:Fo A d M):N0 (BM A (M+1) 0++Bl A (BM A (M+1) 0))=some ((BM A (M+1) 0).length:Int):=by
 have hlo:(Bl A (BM A (M+1) 0)).length<=1048576:=by
  unfold Bl
  refine xW (zD ..) ?_
  rw[(GP _ _).length_eq];exact h.len
 have hlp:=xW (MJ h (M+1) 0) h.len
 have hok:=nM (A:=A) (M+1) 0 (λi=>decide (i=0)) (by simp)
 have hout:∀z∈Bl A (BM A (M+1) 0),((z.Parent=0)||Bk (BM A (M+1) 0) z.Parent)=false:=λz hz=>by
  obtain⟨hzA,hzn⟩:=KF.1 hz
  cases hb:((z.Parent=0)||Bk (BM A (M+1) 0) z.Parent)
  .rfl
  .have:=tO h (M+1) 0 (by omega) z hzA (by simpa using hb)
   have h2:Bk (BM A (M+1) 0) z.Item=true:=by
    unfold Bk;rw[y8];exact⟨z,this,by simp⟩
   rw[hzn] at h2;cases h2
 generalize BM A (M+1) 0=p at *
 generalize Bl A p=o at *
 have key:=Jo (f:=λ(a:Int × (List (Int × Bool)))=>KA (p++o) a.1 a.2) (p++o).length (λk s=>s.1=(k:Int)/\k<=p.length/\∀i,DX s.2 i=((i=0)||Bk (p.take k) i))
  (λb=>A7 (some b) (λ(_:Unit)=>some ((p++o).length:Int))=some (p.length:Int))
  (λk s hk hs=>by
   obtain⟨x,m⟩:=s
   obtain⟨rfl,hkp,hsn⟩:=hs
   have hkl:k<(p++o).length:=hk
   have hlen:(p++o).length<=2097152:=by simp;omega
   have hstep:KA (p++o) (k:Int) m=if(!(((p++o)[k].Parent=0)||Bk (p.take k) (p++o)[k].Parent))=true then some (.inr (.ext (k:Int))) else some (.inl (((k+1:Nat):Int),Am m (p++o)[k].Item true)):=by
    unfold KA
    rw[ww (by rw[xG];exact_mod_cast hkl),Ei hkl,AD,show(AR m (p++o)[k].Parent).getD false=_ from hsn _,Au (by omega),AD]
   by_cases hkp2:k<p.length
   .left
    have hget:(p++o)[k]=p[k]:=List.getElem_append_left hkp2
    have h1:=hok.at k hkp2
    rw[hget] at hstep
    rw[h1] at hstep
    refine⟨(((k+1:Nat):Int),Am m p[k].Item true),by exact hstep,rfl,by omega,λi=>?_⟩
    show DX (Am m p[k].Item true) i=_
    rw[Rc,show DX m i=_ from hsn i,Oo hkp2,xg p k hkp2,fm]
    have:Bk [p[k]] i=decide (i=p[k].Item):=by
     unfold Bk;simp only[WAB,List.any_nil,Bool.or_false]
     rw[WAK];exact⟨λe=>e.symm,λe=>e.symm⟩
    rw[this]
    cases decide (i=p[k].Item)<;>cases decide (i=0)<;>simp
   .right
    obtain rfl:k=p.length:=by omega
    have hget:(p++o)[p.length]∈o:=by
     rw[List.getElem_append_right (wy _)];exact xw _
    have h1:=hout _ hget
    rw[WAb,h1] at hstep
    exact⟨_,hstep,rfl⟩)
  (λs hs=>by
   obtain⟨x,m⟩:=s
   obtain⟨rfl,hkp,hsn⟩:=hs
   refine⟨.nrm (),?_,?_⟩
   .show KA (p++o) ((p++o).length:Int) m=_
    unfold KA
    rw[wv (by simp)]
   .rw[Mx]
    have:(p++o).length=p.length:=by rw[xy] at hkp ⊢;omega
    rw[this])
  (s:=(0,Am ([]:List (Int × Bool)) 0 true)) ⟨rfl,yL _,λi=>by rw[Rc];simp[DX,AR,Bk]⟩
 obtain⟨b,h1,h2⟩:=key
 unfold N0
 rw[h1];exact h2
theorem ru{l:List BA}(h:TZ l=0):∀x∈l,Fg x=0:=by
 intro x q
 obtain⟨k,w,rfl⟩:=yH.1 q
 unfold TZ at h
 cases m:(List.range l.length).findSome? (MX l) with
 | none=>
  rw[zl] at m
  have:=m k (yA.2 w)
  grind [MX,Fg]
 | some r=>
  rw[m] at h
  simp only[yP] at h
  obtain⟨j,_,A⟩:=yE m
  grind [MX]
theorem oP{μ}(h:∀x,x.Place.length+x.Name.length+x.Value.length+1<=μ x):∀(l:List BA),(l.map μ).sum<=1048576->Jp l/\l.length<=1048576:=by
 have key:∀l:List BA,l.length<=(l.map μ).sum/\∀x∈l,μ x<=(l.map μ).sum:=by
  intro l
  induction l with
  | nil=>grind
  | cons y l q=>
   grind
 intro l w
 obtain⟨A,j⟩:=key l
 refine⟨λx m=>?_,by omega⟩
 have B:=j x m
 have C:=h x
 exact⟨by omega,by omega,by omega⟩
end Go.Proofs.YtcgleifameckmaaGreatDoor.Al

set_option linter.unusedVariables false
set_option linter.unusedSimpArgs false
namespace Go.Proofs.YtcgleifameckmaaGreatDoor.Al
def Ct(f:List Aq):List Int:=(f.filter λx=>!(x.Ref=0)).map (·.Ref)
def Fl(l:List Aw):List Int:=(l.filter λx=>!(x.Ref=0)).map (·.Ref)
theorem SW(x:Aq) r:Ct (x::r)=(if x.Ref=0 then [] else [x.Ref])++Ct r:=by grind [Ct]
theorem cP(x:Aw) r:Fl (x::r)=(if x.Ref=0 then [] else [x.Ref])++Fl r:=by grind [Fl]
theorem ZG(f:List Aq)(q:f.length<=1073741824):iter (λ(a:Int × (List Int))=>FY f a.1 a.2) (0,[])=some (Ct f):=by
 have h:=Ex (f:=λ(a:Int × (List Int))=>FY f a.1 a.2) f (λ(c:List Int) i=>((i:Int),c)) (λr c=>c++Ct r) (λi c=>c.length<=i)
  (λi c l m=>by
   left
   show ∃w,FY f (i:Int) c=_/\_
   unfold FY
   rw[ww (by simpa using l),Ak l,AD,Au (by omega)]
   by_cases j:f[i]!.Ref=0
   .refine⟨c,by rw[w9 j];rfl,by omega,?_⟩
    rw[SW,ww j,yR]
   .refine⟨c++[f[i]!.Ref],by rw[w0 j,ww (by decide),Ky (by omega)];rfl,by simp;omega,?_⟩
    rw[SW,wv j,yQ])
  (λc m=>by
   show FY f (f.length:Int) c=_
   unfold FY
   rw[wv (by simp)]
   simp[Ct]) [] (by simp) ((0:Int),[]) rfl
 simpa using h
theorem mu(f:List Aq)(j:f.length<=1073741824):Lj f=some (Ct f):=by grind [Lj,ZG,AD]
theorem vG(n:Ad)(l:n.Flow.length<=1073741824)(hc:n.Grid.Cells.length<=1073741824):It n=some (Ct n.Flow++Fl n.Grid.Cells):=by
 have w:(Ct n.Flow).length<=1073741824:=by
  unfold Ct;rw[xk];exact xW (zD ..) l
 unfold It MW
 rw[X7,ZG _ l,AD,AD]
 have h:=Ex (f:=λ(a:Int × (List Int))=>E8 n a.1 a.2) n.Grid.Cells (λ(c:List Int) i=>((i:Int),c)) (λr c=>c++Fl r) (λi c=>c.length<=1073741824+i)
  (λi c m hc=>by
   left
   show ∃A,E8 n (i:Int) c=_/\_
   unfold E8
   rw[ww (by simpa using m),Ak m,AD,Au (by omega)]
   by_cases j:n.Grid.Cells[i]!.Ref=0
   .refine⟨c,by rw[w9 j];rfl,by omega,?_⟩
    rw[cP,ww j,yR]
   .refine⟨c++[n.Grid.Cells[i]!.Ref],by rw[w0 j,ww (by decide),Ky (by omega)];rfl,by simp;omega,?_⟩
    rw[cP,wv j,yQ])
  (λc hc=>by
   show E8 n (n.Grid.Cells.length:Int) c=_
   unfold E8
   rw[wv (by simp)]
   simp[Fl]) (Ct n.Flow) (by omega) ((0:Int),Ct n.Flow) rfl
 have q:iter (λ(a:Int × (List Int))=>E8 n a.1 a.2) (0,Ct n.Flow)=_:=h
 rw[q]
 rfl
theorem UX{n:Nat}{f:Int->Option (Int ⊕ A3 Unit Int)}{g:Nat->Option Int}(h:iter f 0=some (Dd ((List.range n).findSome? g)))(hg:∀k,k<n->g k≠some 0){rest:Option Int}(j:(A7 (iter f 0) λ(_:Unit)=>rest)=some 0):(∀k,k<n->g k=none)/\rest=some 0:=by
 rw[h] at j
 cases l:(List.range n).findSome? g with
 | some e=>
  rw[l] at j
  have j:(some e:Option Int)=some 0:=j
  injection j with j
  obtain⟨k,m,q⟩:=yE l
  grind
 | none=>
  rw[l] at j
  refine⟨λk m=>?_,j⟩
  grind
theorem tM{d:Ac}{kind:Int}{l:List Int}(B:d.Nodes.length<=1048576)(C:HQ d.Nodes)(J:l.length<=2097152)(A:Iv d kind l=some 0):∀id∈l,∃k,B4 d.Nodes id=some k:=by
 let g:Nat->Option Int:=λk=>match B4 d.Nodes l[k]! with | none=>some 7 | some j=>if Lt kind d.Nodes[j]!.Kind=true then none else some 8
 have hit:iter (λ(a:Int)=>Ib d kind l a) 0=some (Dd ((List.range l.length).findSome? g)):=by
  refine B5 g (λk m=>?_) (by unfold Ib;rw[wv (by simp)])
  unfold Ib
  obtain⟨i,E,w⟩:=O3 d l[k]! B C
  rw[ww (by simpa using m),Ak m,AD,E,By]
  simp only[g]
  cases q:B4 d.Nodes l[k]! with
  | none=>rfl
  | some j=>
   obtain rfl:=w j q
   obtain⟨F,_⟩:=FC q
   simp only[Option.isSome_some,WAA,zb,WAF]
   rw[Ak F,AD,eL,AD]
   cases Lt kind d.Nodes[i]!.Kind with
   | false=>rfl
   | true=>rw[wv (by decide),Au (by omega)];rfl
 unfold Iv at A
 obtain⟨I,_⟩:=UX hit (λk m e=>by
  simp only[g] at e
  split at e
  .cases e
  .split at e<;>cases e) A
 intro id BR
 obtain⟨k,m,rfl⟩:=yH.1 BR
 have:=I k m
 simp only[g] at this
 rw[xg l k m] at this
 cases q:B4 d.Nodes l[k] with
 | none=>rw[q] at this;cases this
 | some j=>exact⟨j,rfl⟩
theorem WK(n:Ad)(h:GW n):(Ct n.Flow++Fl n.Grid.Cells).length<=2097152:=by
 have j:=h.ok.fl
 have l:=h.ok.gr.1
 grind [Ct,Fl]
theorem pg{d:Ac}(h:JR d)(w:Fa d=some 0):∀k,k<d.Nodes.length->∀id∈Ct d.Nodes[k]!.Flow++Fl d.Nodes[k]!.Grid.Cells,∃j,B4 d.Nodes id=some j:=by
 obtain⟨I,_⟩:=NA h w
 obtain⟨J,M⟩:=h
 unfold Fa at w
 split at w
 .cases w
 let C:Nat->Option Int:=λk=>if(DM d.Nodes[k]!).getD 0≠0 then some ((DM d.Nodes[k]!).getD 0) else if(k=0/\d.Nodes[k]!.ID≠1)\/(0<k/\d.Nodes[k]!.ID<=d.Nodes[k-1]!.ID) then some 5 else none
 have E:iter (λ(a:Int)=>FK d a) 0=some (Dd ((List.range d.Nodes.length).findSome? C)):=by
  refine B5 C (λk q=>?_) (by unfold FK;rw[wv (by simp)])
  unfold FK
  obtain⟨e,A,_⟩:=Rj _ (M _ (Bs q))
  show _=DD k (C k)
  simp only[C]
  rw[ww (by simpa using q),Ak q,AD,A,AD]
  show _=DD k (if e≠0 then some e else _)
  by_cases l:e=0
  .rw[wv (Cv l),wv (by simpa using l)]
   by_cases T:k=0
   .subst T
    rw[w9 (show((0:Nat):Int)=0 from rfl),w0 (show ¬ (0:Int)<((0:Nat):Int) by omega)]
    by_cases BR:d.Nodes[0]!.ID=1
    .rw[w9 BR,wv (show ¬ ((0=0/\d.Nodes[0]!.ID≠1)\/(0<0/\d.Nodes[0]!.ID<=d.Nodes[0-1]!.ID)) by rintro(⟨_,b⟩ | ⟨a,_⟩);exact b BR;omega)]
     rfl
    .rw[w0 BR,ww (show((0=0/\d.Nodes[0]!.ID≠1)\/(0<0/\d.Nodes[0]!.ID<=d.Nodes[0-1]!.ID)) from .inl ⟨rfl,BR⟩)]
     rfl
   .have U:0<k:=by omega
    rw[w0 (show ¬ ((k:Int)=0) by omega),w9 (show(0:Int)<(k:Int) by omega)]
    show(AB (gd true (AX .i64 ((k:Int)-1))) λ(O:Int)=>AB (gd true (AO d.Nodes O)) λ(V:Ad)=>_)=_
    rw[Av,FP U (by omega),AD,Av,Ak (show k-1<d.Nodes.length by omega),AD,Au (by omega)]
    by_cases BR:d.Nodes[k]!.ID<=d.Nodes[k-1]!.ID
    .rw[w9 BR,ww (show((k=0/\d.Nodes[k]!.ID≠1)\/(0<k/\d.Nodes[k]!.ID<=d.Nodes[k-1]!.ID)) from .inr ⟨U,BR⟩)]
     rfl
    .rw[w0 BR,wv (show ¬ ((k=0/\d.Nodes[k]!.ID≠1)\/(0<k/\d.Nodes[k]!.ID<=d.Nodes[k-1]!.ID)) by rintro(⟨a,_⟩ | ⟨_,b⟩);exact T a;exact BR b)]
     rfl
  .rw[ww (DJ l),ww l]
   rfl
 obtain⟨_,w⟩:=UX E (λk q e=>by
  simp only[C] at e
  split at e
  .rename_i B;injection e with e;exact B e
  .split at e
   .injection e with e;omega
   .cases e) w
 let g:Nat->Option Int:=λk=>if(Iv d d.Nodes[k]!.Kind (Ct d.Nodes[k]!.Flow++Fl d.Nodes[k]!.Grid.Cells)).getD 0≠0 then some ((Iv d d.Nodes[k]!.Kind (Ct d.Nodes[k]!.Flow++Fl d.Nodes[k]!.Grid.Cells)).getD 0) else none
 have hit:iter (λ(a:Int)=>Ho d a) 0=some (Dd ((List.range d.Nodes.length).findSome? g)):=by
  refine B5 g (λk q=>?_) (by unfold Ho;rw[wv (by simp)])
  unfold Ho
  have m:=M _ (Bs q)
  have X:=m.ok.fl
  have Z:=m.ok.gr.1
  obtain⟨e,A,_⟩:=Ws d d.Nodes[k]!.Kind _ J I (WK _ m)
  rw[ww (by simpa using q),Ak q,AD,vG _ (by omega) (by omega),AD,A,AD]
  simp only[g]
  rw[A]
  simp only[yP]
  by_cases l:e=0
  .rw[wv (Cv l),Au (by omega),wv (by simpa using l)];rfl
  .rw[ww (DJ l),ww l];rfl
 obtain⟨h1,_⟩:=UX hit (λk q e=>by
  simp only[g] at e
  split at e
  .rename_i B;injection e with e;exact B e
  .cases e) w
 intro k q id BR
 have m:=M _ (Bs q)
 obtain⟨e,A,_⟩:=Ws d d.Nodes[k]!.Kind _ J I (WK _ m)
 have F:=h1 k q
 simp only[g] at F
 rw[A] at F
 simp only[yP] at F
 split at F
 .cases F
 .rename_i l
  have l:e=0:=by simpa using l
  subst l
  exact tM J I (WK _ m) A id BR
end Go.Proofs.YtcgleifameckmaaGreatDoor.Al

set_option linter.unusedVariables false
set_option linter.unusedSimpArgs false
namespace Go.Proofs.YtcgleifameckmaaGreatDoor.Al
open Go.Sort
end Go.Proofs.YtcgleifameckmaaGreatDoor.Al

set_option linter.unusedVariables false
set_option linter.unusedSimpArgs false
namespace Go.Proofs.YtcgleifameckmaaGreatDoor.Al
open Go.Sort
end Go.Proofs.YtcgleifameckmaaGreatDoor.Al

set_option linter.unusedVariables false
set_option linter.unusedSimpArgs false
namespace Go.Proofs.YtcgleifameckmaaGreatDoor.Al
open Go.Sort
end Go.Proofs.YtcgleifameckmaaGreatDoor.Al

set_option linter.unusedVariables false
set_option linter.unusedSimpArgs false
namespace Go.Proofs.YtcgleifameckmaaGreatDoor.Al
open Go.Sort
end Go.Proofs.YtcgleifameckmaaGreatDoor.Al

set_option linter.unusedVariables false
set_option linter.unusedSimpArgs false
namespace Go.Proofs.YtcgleifameckmaaGreatDoor.Al
open Go.Sort
end Go.Proofs.YtcgleifameckmaaGreatDoor.Al

set_option linter.unusedVariables false
set_option linter.unusedSimpArgs false
namespace Go.Proofs.YtcgleifameckmaaGreatDoor.Al
open Go.Sort
end Go.Proofs.YtcgleifameckmaaGreatDoor.Al

set_option linter.unusedVariables false
set_option linter.unusedSimpArgs false
namespace Go.Proofs.YtcgleifameckmaaGreatDoor.Al
open Go.Sort
end Go.Proofs.YtcgleifameckmaaGreatDoor.Al

set_option linter.unusedVariables false
set_option linter.unusedSimpArgs false
namespace Go.Proofs.YtcgleifameckmaaGreatDoor.Al
open Go.Sort
end Go.Proofs.YtcgleifameckmaaGreatDoor.Al

set_option linter.unusedVariables false
set_option linter.unusedSimpArgs false
namespace Go.Proofs.YtcgleifameckmaaGreatDoor.Al
open Go.Sort
end Go.Proofs.YtcgleifameckmaaGreatDoor.Al

set_option linter.unusedVariables false
set_option linter.unusedSimpArgs false
namespace Go.Proofs.YtcgleifameckmaaGreatDoor.Al
open Go.Sort
end Go.Proofs.YtcgleifameckmaaGreatDoor.Al

set_option linter.unusedVariables false
set_option linter.unusedSimpArgs false
namespace Go.Proofs.YtcgleifameckmaaGreatDoor.Al
open Go.Sort
end Go.Proofs.YtcgleifameckmaaGreatDoor.Al

set_option linter.unusedVariables false
set_option linter.unusedSimpArgs false
namespace Go.Proofs.YtcgleifameckmaaGreatDoor.Al
open Go.Sort
end Go.Proofs.YtcgleifameckmaaGreatDoor.Al

set_option linter.unusedVariables false
set_option linter.unusedSimpArgs false
namespace Go.Proofs.YtcgleifameckmaaGreatDoor.Al
open Go.Sort
end Go.Proofs.YtcgleifameckmaaGreatDoor.Al

namespace Go.Proofs.YtcgleifameckmaaGreatDoor.Al
end Go.Proofs.YtcgleifameckmaaGreatDoor.Al

set_option linter.unusedVariables false
set_option linter.unusedSimpArgs false
namespace Go.Proofs.YtcgleifameckmaaGreatDoor.Al
open Go.Sort
end Go.Proofs.YtcgleifameckmaaGreatDoor.Al

set_option linter.unusedVariables false
set_option linter.unusedSimpArgs false
namespace Go.Proofs.YtcgleifameckmaaGreatDoor.Al
open Go.Sort
end Go.Proofs.YtcgleifameckmaaGreatDoor.Al

set_option linter.unusedVariables false
set_option linter.unusedSimpArgs false
namespace Go.Proofs.YtcgleifameckmaaGreatDoor.Al
open Go.Sort
end Go.Proofs.YtcgleifameckmaaGreatDoor.Al

set_option linter.unusedVariables false
set_option linter.unusedSimpArgs false
namespace Go.Proofs.YtcgleifameckmaaGreatDoor.Al
open Go.Sort
end Go.Proofs.YtcgleifameckmaaGreatDoor.Al

set_option linter.unusedVariables false
set_option linter.unusedSimpArgs false
namespace Go.Proofs.YtcgleifameckmaaGreatDoor.Al
open Go.Sort
end Go.Proofs.YtcgleifameckmaaGreatDoor.Al

set_option linter.unusedVariables false
set_option linter.unusedSimpArgs false
namespace Go.Proofs.YtcgleifameckmaaGreatDoor.Al
open Go.Sort
theorem ZN{l}{i} : Bk l i=true↔∃x∈l,x.Item=i:=by
 unfold Bk
 rw[y8]
 simp
end Go.Proofs.YtcgleifameckmaaGreatDoor.Al

set_option linter.unusedVariables false
set_option linter.unusedSimpArgs false
namespace Go.Proofs.YtcgleifameckmaaGreatDoor.Al
open Go.Sort
end Go.Proofs.YtcgleifameckmaaGreatDoor.Al

set_option linter.unusedVariables false
set_option linter.unusedSimpArgs false
namespace Go.Proofs.YtcgleifameckmaaGreatDoor.Al
open Go.Sort
theorem mc{A}{d}{M}(h:Fo A d M):(∀z,z∈BM A (M+1) 0++Bl A (BM A (M+1) 0)↔z∈A)/\Uq (BM A (M+1) 0++Bl A (BM A (M+1) 0)):=by
 have q:∀z,z∈BM A (M+1) 0++Bl A (BM A (M+1) 0)->z∈A:=λz j=>by
  rcases yY.1 j with j | j
  .exact(NO _ _ _ j).1
  .exact(KF.1 j).1
 refine⟨λz=>⟨q z,λj=>?_⟩,?_⟩
 .rw[yY,KF]
  by_cases l:Bk (BM A (M+1) 0) z.Item=true
  .obtain⟨y,m,e⟩:=ZN.1 l
   left
   rw[<- h.uq.eq (NO _ _ _ m).1 j e];exact m
  .exact .inr ⟨j,by simpa using l⟩
 .unfold Uq
  rw[zQ,zd,List.pairwise_append]
  refine⟨fT h.uq h.rk _ _,(S8 h.uq _).imp λh=>by unfold FV at h;simp at h;omega,λa w b B e=>?_⟩
  have:=(KF.1 B).2
  have C:Bk (BM A (M+1) 0) b.Item=true:=ZN.2 ⟨a,w,e⟩
  rw[C] at this;cases this
theorem mO{A:List AC}{d}{M}(h:Fo A d M):(BM A (M+1) 0++Bl A (BM A (M+1) 0)).length<=A.length:=by
 obtain⟨l,j⟩:=mc h
 refine aQ _ _ ?_ λz m=>(l z).1 m
 unfold Uq at j
 rwa [zQ,zd] at j
end Go.Proofs.YtcgleifameckmaaGreatDoor.Al

set_option linter.unusedVariables false
set_option linter.unusedSimpArgs false
namespace Go.Proofs.YtcgleifameckmaaGreatDoor.Al
theorem RW{c r}(h:gd c (some false)=some r):r=false:=by
 cases c
 .simp_all
 .simp_all
theorem uH{n:Ad}(h:GW n)(U:Jp n.Draw)(j:DM n=some 0):TZ n.Draw=0:=by
 have I:=h.ok.dr
 unfold DM at j
 split at j
 .cases j
 split at j
 .cases j
 obtain⟨e,_,j⟩:=Be j
 split at j
 .grind
 by_cases q:n.Kind=8\/n.Kind=9\/n.Kind=10
 .have J:FJ n.Kind=some false:=by unfold FJ;rcases q with e | e | e<;>rw[e]<;>rfl
  have M:HW n.Kind=some false:=by unfold HW;rcases q with e | e | e<;>rw[e]<;>rfl
  have hg:GM n.Kind=some false:=by unfold GM;rcases q with e | e | e<;>rw[e]<;>rfl
  obtain⟨O,w,j⟩:=Be j
  rw[J] at w;cases w
  obtain⟨T,e2,j⟩:=Be j
  rw[M] at e2
  obtain rfl:=RW e2
  obtain⟨g,A,j⟩:=Be j
  rw[hg] at A;cases A
  obtain⟨B,_,j⟩:=Be j
  split at j
  .cases j
  simp_all [Be,vZ]
 .have hd:Hk n.Kind=some false:=by
   grind [Hk]
  obtain⟨O,w,j⟩:=Be j
  obtain⟨T,e2,j⟩:=Be j
  obtain⟨g,A,j⟩:=Be j
  obtain⟨B,l,j⟩:=Be j
  rw[hd] at l
  split at j
  .cases j
  rename_i C
  have C:B=false:=by grind
  subst C
  have m:decide (0<(n.Draw.length:Int))=false:=by
   split at l
   .split at l
    .obtain⟨V,_,l⟩:=Be l
     obtain⟨E,F,l⟩:=Be l
     grind [RW]
    .obtain⟨E,F,l⟩:=Be l
     grind [RW]
   .obtain⟨E,F,l⟩:=Be l
    grind
  have:n.Draw=[]:=by
   rw[zx] at m
   exact zy.1 (by omega)
  rw[this];rfl
theorem pA{n:Ad}(h:GW n)(j:DM n=some 0):n.Grid.Cells=[]\/HE n.Grid=0:=by
 unfold DM at j
 split at j
 .cases j
 split at j
 .cases j
 obtain⟨e,_,j⟩:=Be j
 split at j
 .grind
 by_cases w:n.Kind=2\/n.Kind=6
 .right
  have E:FJ n.Kind=some false:=by unfold FJ;rcases w with e | e<;>rw[e]<;>rfl
  have F:HW n.Kind=some false:=by unfold HW;rcases w with e | e<;>rw[e]<;>rfl
  have hg:GM n.Kind=some true:=by grind [GM]
  obtain⟨I,q,j⟩:=Be j
  rw[E] at q;cases q
  obtain⟨J,e2,j⟩:=Be j
  rw[F] at e2
  obtain rfl:=RW e2
  obtain⟨g,m,j⟩:=Be j
  rw[hg] at m;cases m
  obtain⟨A,_,j⟩:=Be j
  split at j
  .cases j
  rw[wv (show ¬ (false||false)=true by decide),ww rfl] at j
  obtain⟨M,B,j⟩:=Be j
  split at j
  .grind
  .rename_i c
   have O:M=0:=by grind
   rw[aI _ h.gd,O] at B
   injection B
 .left
  have hg:GM n.Kind=some false:=by
   grind [GM]
  obtain⟨I,q,j⟩:=Be j
  obtain⟨J,e2,j⟩:=Be j
  obtain⟨g,m,j⟩:=Be j
  rw[hg] at m;cases m
  obtain⟨A,l,j⟩:=Be j
  split at j
  .cases j
  rename_i C
  have C:A=false:=by grind
  subst C
  split at l
  .rw[ww (by decide),WS _ _ h.ok.gr] at l
   obtain⟨V,X,l⟩:=Be l
   obtain⟨T,U,l⟩:=Be l
   grind
  .rename_i Z
   obtain⟨T,U,l⟩:=Be l
   grind
theorem tI{g:BJ}(h:HE g=0):∀c∈g.Cells,c.Row<=9223372036854775807/\c.Col<=9223372036854775807:=by
 obtain⟨A,_,_⟩:=bQ h
 unfold HE at h
 rw[wv (by simpa using A)] at h
 have E:JK g.Rows g.Cols false g.Cells=0:=by
  apply xp
  intro B
  rw[ww B] at h
  exact B h
 intro c F
 obtain⟨k,C,rfl⟩:=yH.1 F
 have m:=WJ E (λk _ j=>by
  unfold IN at j
  split at j
  .rename_i q
   injection j with j
   exact q j
  .split at j
   .cases j
   .cases j) k C
 unfold IN at m
 split at m
 .cases m
 .rename_i l
  have l:NL g.Rows g.Cols false g.Cells[k]! = 0:=by simpa using l
  rw[xg g.Cells k C] at l
  unfold NL at l
  split at l
  .cases l
  .rename_i w
   have w:=xm.1 w
   unfold Hl at w
   unfold E9 at A
   omega
theorem WN{n:Ad}(h:GW n)(m:DM n=some 0):∀c∈n.Grid.Cells,∃r,Hm n.Grid c.Row c.Col=some r/\Pe n.Grid c.Row c.Col=some r:=by
 intro c q
 rcases pA h m with j | j
 .grind
 .obtain⟨w,_,g3⟩:=bQ j
  have l:c.Row<=9223372036854775807/\c.Col<=9223372036854775807:=tI j c q
  obtain⟨o,A,o2⟩:=iW n.Grid c.Row c.Col w g3 h.ok.gr.2.1 l.1 l.2
  unfold Hm Pe
  rw[A,o2]
  cases o with
  | none=>exact⟨_,rfl,rfl⟩
  | some r=>exact⟨_,rfl,rfl⟩
end Go.Proofs.YtcgleifameckmaaGreatDoor.Al

set_option linter.unusedVariables false
set_option linter.unusedSimpArgs false
namespace Go.Proofs.YtcgleifameckmaaGreatDoor.Al
open Go
def IJ:List UInt8:=[110,111,100,101]
def JJ(d:Ac)(s:List UInt8):Option Int:=match B4 d.Nodes (CU s) with | some k=>if d.Nodes[k]!.Kind=1 then some (CU s) else none | none=>none
def ET(d:Ac)(x:AC):Option Int:=JJ d (Bw x.Attrs IJ)
def Oh(d:Ac):Prop:=∀k,k<d.Nodes.length->1<=d.Nodes[k]!.ID/\d.Nodes[k]!.ID<=1073741824
theorem OQ{d:Ac}(h:Oh d){id}{k}(j:B4 d.Nodes id=some k):1<=id/\id<=1073741824:=by
 obtain⟨l,m⟩:=FC j
 rw[<- m];exact h k l
theorem bJ{l}(h:B1 l false=0) n:(Bw l n).length<=1073741824:=by
 rw[qI]
 cases j:A9 l n with
 | none=>simp
 | some x=>
  have:=((PX l false).1 h).2 x (Rw j).2
  rcases this.2 with m | m
  .grind [En]
  .grind
theorem qs{d:Ac}(BR:Oh d)(hm:d.Nodes.length<=1048576)(hs:HQ d.Nodes){l:List AC}{k:Nat}(hk:k<l.length)(hl:l.length<=1048576)(ha:B1 l[k]!.Attrs false=0/\l[k]!.Attrs.length<=1048576)(out:List Int)(ho:out.length<=1048576) :
  IO d l (k:Int) out=some (.inl (((k+1:Nat):Int),out++(ET d l[k]!).toList)):=by
 unfold IO
 rw[ww (by simpa using hk),Ak hk,AD,Au (by omega),Rx _ _ (by omega),AD]
 unfold ET
 rw[show([110,111,100,101]:List UInt8)=IJ from rfl]
 have hlen:=bJ ha.1 IJ
 generalize Bw l[k]!.Attrs IJ=s at *
 have hd:∀n,CU s=n->∀j,B4 d.Nodes n=some j->Lib.atoiAll s=.ok n/\Lib.itoa n=s:=λn hn j hj=>by
  grind [OQ,BR,OO]
 have hnone:(∀j,B4 d.Nodes (CU s)=some j->False)->JJ d s=none:=λh=>by
  unfold JJ
  grind
 unfold Jb atoiS
 rw[ww (by omega)]
 rcases hA:Lib.atoiAll s with v | _ | _
 .have hb:=Lib.atoiAll_bounds hA
  simp only[By]
  unfold strconv_Itoa itoaS
  rw[ww hb]
  simp only[WAA,show((false==false)=true) from rfl,Av,AD,yW]
  by_cases hi:Lib.itoa v=s
  .rw[w9 hi,wv (by decide)]
   obtain⟨i,f1,f2⟩:=O3 d v hm hs
   rw[f1,By]
   cases hf:B4 d.Nodes v with
   | none=>
    have e:=hnone λj hj=>by
     grind
    simp_all
   | some j=>
    obtain rfl:=f2 j hf
    obtain⟨hj,_⟩:=FC hf
    obtain⟨r1,r2⟩:=OQ BR hf
    have hn:=(OO s v r1 r2).1 ⟨hA,hi⟩
    grind [JJ,Av,Ak,AD,Ky]
  .rw[w0 hi,ww (by decide)]
   have e:=hnone λj hj=>by
    grind
   simp_all
 .simp_all
 .simp_all
theorem lY{d:Ac}(BR:Oh d)(m:d.Nodes.length<=1048576)(q:HQ d.Nodes)(l:List AC)(w:l.length<=1048576)(A:∀x∈l,B1 x.Attrs false=0/\x.Attrs.length<=1048576) :
  iter (λ(a:Int × (List Int))=>IO d l a.1 a.2) (0,[])=some (l.filterMap (ET d)):=by
 have h:=Ex (f:=λ(a:Int × (List Int))=>IO d l a.1 a.2) l (λ(c:List Int) i=>((i:Int),c)) (λr c=>c++r.filterMap (ET d)) (λi c=>c.length<=i)
  (λi c j B=>by
   left
   refine⟨c++(ET d l[i]!).toList,qs BR m q j w (A _ (Bs j)) c (by omega),?_,?_⟩
   .rw[xy]
    have:(ET d l[i]!).toList.length<=1:=by cases ET d l[i]!<;>simp
    omega
   .rw[WAV]
    cases ET d l[i]!<;>simp)
  (λc B=>by
   show IO d l (l.length:Int) c=_
   unfold IO
   rw[wv (by simp)]
   simp) [] (by simp) ((0:Int),[]) rfl
 simpa using h
theorem W5{d:Ac}(BR:Oh d)(hm:d.Nodes.length<=1048576)(hs:HQ d.Nodes){n:Ad}(h:GW n)(T:Jp n.Draw)(U:DM n=some 0) :
  ∃L X:List AC,GT d n=some (L.filterMap (ET d))/\LZ n.Draw=some (L++X,(L.length:Int))/\(L++X).length<=1048576/\∀x∈L,B1 x.Attrs false=0/\x.Attrs.length<=1048576:=by
 have q:=h.ok.dr
 have V:=ru (uH h T U)
 obtain⟨m,l,E,F,I⟩:=jv q V
 obtain⟨e,M,w⟩:=E.fo q
 have B:=qX q E F w
 have J:=ul w
 have hit:=lJ I w
 have Z:=xW (MJ w (M+1) 0) w.len
 have A:∀x∈BM (m.map (wa l)) (M+1) 0,B1 x.Attrs false=0/\x.Attrs.length<=1048576:=λx hx=>by
  obtain⟨y,hy,rfl⟩:=yT.1 (NO _ _ _ hx).1
  have h1:(wa l y).Attrs=(AR (DF l) y.Item).getD []:=rfl
  rw[h1]
  cases hk:Ao (DF l) y.Item with
  | none=>grind [E2,Wh]
  | some j=>
   obtain⟨v,v1,v2,_⟩:=DT hk
   rw[v2,yP]
   unfold DF at v1
   rw[xJ,xK] at v1
   obtain⟨z,z1,O⟩:=v1
   simp only[xM] at O
   rw[<- O.2]
   have:=E.ok z (xa z1)
   grind
 have C:(BM (m.map (wa l)) (M+1) 0++Bl (m.map (wa l)) (BM (m.map (wa l)) (M+1) 0)).length<=1048576:=by
  refine xW (mO w) ?_
  exact w.len
 generalize BM (m.map (wa l)) (M+1) 0=L at *
 generalize Bl (m.map (wa l)) L=X at *
 refine⟨L,X,?_,hit,C,A⟩
 unfold GT
 rw[B,AD,J,AD]
 have a0:Dl (L++X) 0 (L.length:Int)=some L:=by
  unfold Dl
  rw[ww ⟨by omega,by omega,by simp;omega⟩]
  simp
 grind [AD,lY,BR]
end Go.Proofs.YtcgleifameckmaaGreatDoor.Al

set_option linter.unusedVariables false
set_option linter.unusedSimpArgs false
namespace Go.Proofs.YtcgleifameckmaaGreatDoor.Al
open Go
def Bu(d:Ac)(id:Int):Ad:=match B4 d.Nodes id with | some k=>d.Nodes[k]! | none=>default
noncomputable def Hj(v:As)(g:BJ)(c:Aw):As:=
 match Hm g c.Row c.Col with
 | some r=>⟨c.Ref,v.id,((v.visible&&(r.Row=c.Row))&&(r.Col=c.Col))⟩
 | none=>default
noncomputable def M3(v:As)(n:Ad):List As:=(Ct n.Flow).map λid=>⟨id,v.id,v.visible⟩
noncomputable def LT(v:As)(n:Ad):List As:=(n.Grid.Cells.filter λc=>!(c.Ref=0)).map (Hj v n.Grid)
noncomputable def HJ(d:Ac)(n:Ad):List Int:=(GT d n).getD []
noncomputable def QC(d:Ac)(v:As)(n:Ad):List As:=(HJ d n).map λid=>⟨id,v.id,v.visible⟩
noncomputable def kids(d:Ac)(v:As)(n:Ad):List As:=M3 v n++(LT v n++QC d v n)
def Cb(l:List As)(i:Int):Bool:=l.any λv=>decide (v.id=i)
noncomputable def Cs(d:Ac):Nat->List As->As->List As
 | 0,j,_=>j
 | n+1,j,v=>if Cb j v.id=true then j else(kids d v (Bu d v.id)).foldl (λa w=>Cs d n a w) (j++[v])
def Cr(d:Ac)(i:Int):Prop:=∃k,B4 d.Nodes i=some k
structure Cy(d:Ac):Prop where
 ok:JR d
 dr:∀n∈d.Nodes,Jp n.Draw
 ch:Fa d=some 0
theorem vH{n:Ad}(j:DM n=some 0):1<=n.ID/\n.ID<=1073741824:=by grind [DM]
theorem Cy.ids{d}(h:Cy d):Oh d:=λk j=>vH ((NA h.ok h.ch).2 k j)
theorem Cy.srt{d:Ac}(h:Cy d):HQ d.Nodes:=(NA h.ok h.ch).1
theorem UJ{d:Ac}{i}{k}(h:B4 d.Nodes i=some k):Bu d i=d.Nodes[k]!:=by unfold Bu;rw[h]
theorem Cy.node{d:Ac}(h:Cy d){i}(w:Cr d i):GW (Bu d i)/\Jp (Bu d i).Draw/\DM (Bu d i)=some 0/\(∀j∈Ct (Bu d i).Flow++Fl (Bu d i).Grid.Cells,Cr d j) /\
  Gb d i=some ((((B4 d.Nodes i).getD 0:Nat):Int),true)/\AO d.Nodes (((B4 d.Nodes i).getD 0:Nat):Int)=some (Bu d i):=by
 obtain⟨k,l⟩:=w
 obtain⟨m,A⟩:=FC l
 rw[UJ l]
 have q:=Bs m
 obtain⟨j,B,f2⟩:=O3 d i h.ok.1 h.srt
 obtain rfl:=f2 k l
 refine⟨h.ok.2 _ q,h.dr _ q,(NA h.ok h.ch).2 _ m,pg h.ok h.ch _ m,?_,?_⟩
 .grind
 .grind [Ak]
theorem UD{d:Ac}(h:Cy d){v:As}(A:Cr d v.id):∀w∈kids d v (Bu d v.id),Cr d w.id:=by
 obtain⟨B,C,E,J,_,_⟩:=h.node A
 intro w l
 unfold kids at l
 rcases yY.1 l with l | l
 .grind [M3]
 .rcases yY.1 l with l | l
  .grind [LT,WN,Hj,Fl]
  .unfold QC HJ at l
   obtain⟨L,X,F,_⟩:=W5 h.ids h.ok.1 h.srt B C E
   rw[F] at l
   obtain⟨j,I,rfl⟩:=yT.1 l
   obtain⟨x,_,m⟩:=List.mem_filterMap.1 I
   unfold ET JJ at m
   cases q:B4 d.Nodes (CU (Bw x.Attrs IJ)) with
   | none=>grind
   | some k=>
    rw[q] at m
    simp only at m
    split at m
    .cases m;exact⟨k,q⟩
    .cases m
def Dy(d:Ac)(j:List As):Nat:=d.Nodes.countP λn=>!Cb j n.ID
theorem Sd a b i:Cb (a++b) i=(Cb a i||Cb b i):=by unfold Cb;rw[List.any_append]
theorem X4 d a b:Dy d (a++b)<=Dy d a:=
 WAO λn _ h=>by
  grind [Sd,Cb]
theorem cR{d:Ac}{a}{v:As}(B:Cr d v.id)(F:Cb a v.id=false):Dy d (a++[v])<Dy d a:=by
 obtain⟨k,C⟩:=B
 obtain⟨j,A⟩:=FC C
 have key:∀(l:List Ad) (z:Ad) (p q:Ad->Bool),(∀x∈l,p x=true->q x=true)->z∈l->q z=true->p z=false->l.countP p<l.countP q:=by
  intro l
  induction l with
  | nil=>grind
  | cons a r E=>
   intro z p q h m j A
   have I:r.countP p<=r.countP q:=WAO λx w=>h x (xZ _ w)
   rw[List.countP_cons,List.countP_cons]
   rcases yD.1 m with rfl | m
   .grind
   .have:=E z p q (λx w=>h x (xZ _ w)) m j A
    grind
 refine key d.Nodes d.Nodes[k]! _ _ (λx _ h=>?_) (Bs j) ?_ ?_
 .grind [Sd,Cb]
 .grind
 .grind [Sd,Cb]
section
variable{σ:Type}(Y:σ->As->Option (Bool × σ))
def Do:List As->σ->Option (Bool × σ)
 | [],s=>some (true,s)
 | v::r,s=>match Y s v with
  | none=>none
  | some (false,j)=>some (false,j)
  | some (true,j)=>Do r j
theorem nF a b(s:σ):Do Y (a++b) s=match Do Y a s with
  | none=>none
  | some (false,j)=>some (false,j)
  | some (true,j)=>Do Y b j:=by
 induction a generalizing s with
 | nil=>rfl
 | cons v r m=>
  rw[yV]
  cases l:Y s v with
  | none=>simp only[Do,l]
  | some p=>
   obtain⟨c,j⟩:=p
   cases c
   .simp only[Do,l]
   .simp only[Do,l]
    exact m j
abbrev LV(σ:Type):=List (Int × Bool)->σ->As->Option (Bool × List (Int × Bool) × σ)
def EN(self:LV σ):List As->List (Int × Bool)->σ->Option (Bool × List (Int × Bool) × σ)
 | [],m,s=>some (true,m,s)
 | v::r,m,s=>match self m s v with
  | none=>none
  | some (false,j,l)=>some (false,j,l)
  | some (true,j,l)=>EN self r j l
theorem Zp self a b m(s:σ):EN self (a++b) m s=match EN self a m s with
  | none=>none
  | some (false,j,l)=>some (false,j,l)
  | some (true,j,l)=>EN self b j l:=by
 induction a generalizing m s with
 | nil=>rfl
 | cons v r w=>
  rw[yV]
  cases q:self m s v with
  | none=>simp only[EN,q]
  | some p=>
   obtain⟨c,j,l⟩:=p
   cases c
   .simp only[EN,q]
   .simp only[EN,q]
    exact w j l
noncomputable def Ec(v1:As)(self:LV σ)(w:List Int)(l:Int)(A:List (Int × Bool))(j:σ):Option ((Int × (List (Int × Bool)) × σ) ⊕ (A3 ((List (Int × Bool)) × σ) (Bool × (List (Int × Bool)) × σ))):=
 if(decide (l<(w.length:Int))) then(
  AB (AO w l) λ(m:Int)=>
  EQ (self A j (As.mk m v1.id v1.visible)) λ(E:Bool) (B:List (Int × Bool)) (C:σ)=>
  if(!E) then(
   some (.inr (.ext (false,B,C)))
  ) else(
   AB (AX .i64 (l+1)) λ(q:Int)=>
   some (.inl (q,B,C))
  )
 ) else(
  some (.inr (.nrm (A,j)))
 )
noncomputable def ED(v1:As)(self:LV σ)(w:Ad)(A:Int)(B:List (Int × Bool))(m:σ):Option ((Int × (List (Int × Bool)) × σ) ⊕ (A3 ((List (Int × Bool)) × σ) (Bool × (List (Int × Bool)) × σ))):=
 if(decide (A<(w.Grid.Cells.length:Int))) then(
  AB (AO w.Grid.Cells A) λ(j:Aw)=>
  AB (Hm w.Grid j.Row j.Col) λ(F:At)=>
  EQ (
   if((!(j.Ref=0))==true) then(
    EQ (self B m (As.mk j.Ref v1.id ((v1.visible&&(F.Row=j.Row))&&(F.Col=j.Col)))) λ(I:Bool) (J:List (Int × Bool)) (M:σ)=>
    some (((!(j.Ref=0))&&(!I)),J,M)
   ) else(
    some (((!(j.Ref=0))&&false),B,m)
   )
  ) λ(C:Bool) (q:List (Int × Bool)) (l:σ)=>
  if C then(
   some (.inr (.ext (false,q,l)))
  ) else(
   AB (AX .i64 (A+1)) λ(E:Int)=>
   some (.inl (E,q,l))
  )
 ) else(
  some (.inr (.nrm (B,m)))
 )
noncomputable def gB(d:Ac)(self:LV σ)(m:List (Int × Bool))(j:σ)(v1:As):Option (Bool × (List (Int × Bool)) × σ):=
 if((AR m v1.id).getD false) then(
  some (true,m,j)
 ) else(
  B3 (Y j v1) λ(E:Bool) (C:σ)=>
  if(!E) then(
   some (false,(Am m v1.id true),C)
  ) else(
   B3 (Gb d v1.id) λ(F:Int) (T:Bool)=>
   AB (AO d.Nodes F) λ(q:Ad)=>
   AB (Lj q.Flow) λ(I:List Int)=>
   F9 (iter (λ(a:Int × (List (Int × Bool)) × σ)=>Ec v1 self I a.1 a.2.1 a.2.2) (0,(Am m v1.id true),C)) λ(J:List (Int × Bool)) (w:σ)=>
   F9 (iter (λ(a:Int × (List (Int × Bool)) × σ)=>ED v1 self q a.1 a.2.1 a.2.2) (0,J,w)) λ(M:List (Int × Bool)) (A:σ)=>
   AB (GT d q) λ(O:List Int)=>
   F9 (iter (λ(a:Int × (List (Int × Bool)) × σ)=>Ec v1 self O a.1 a.2.1 a.2.2) (0,M,A)) λ(B:List (Int × Bool)) (l:σ)=>
   some (true,B,l)
  )
 )
noncomputable def gN(d:Ac):Nat->LV σ
 | 0=>λ_ _ _=>none
 | n+1=>λm s v=>gB Y d (gN d n) m s v
def PR(r:Bool × List (Int × Bool) × σ):A3 ((List (Int × Bool)) × σ) (Bool × (List (Int × Bool)) × σ):=if r.1=true then .nrm (r.2.1,r.2.2) else .ext (false,r.2.1,r.2.2)
theorem Yv(v:As) self(l:List Int)(B:l.length<=4194304):∀(j k:Nat) (m:List (Int × Bool)) (s:σ) (r:Bool × List (Int × Bool) × σ),k+j=l.length->EN self ((l.drop k).map λid=>⟨id,v.id,v.visible⟩) m s=some r ->
  iter (λ(a:Int × (List (Int × Bool)) × σ)=>Ec v self l a.1 a.2.1 a.2.2) ((k:Int),m,s)=some (PR r):=by
 intro j
 induction j with
 | zero=>
  intro k m s r A h
  rw[yy (by omega)] at h
  cases h
  refine Bj ?_
  show Ec v self l (k:Int) m s=_
  unfold Ec
  rw[wv (by simp;omega)]
  rfl
 | succ j C=>
  intro k m s r A h
  have q:k<l.length:=by omega
  rw[xx q,xj] at h
  unfold EN at h
  cases w:self m s ⟨l[k],v.id,v.visible⟩ with
  | none=>grind
  | some p=>
   obtain⟨c,E,F⟩:=p
   rw[w] at h
   cases c with
   | false=>
    cases h
    refine Bj ?_
    show Ec v self l (k:Int) m s=_
    unfold Ec
    rw[ww (by simpa using q),Ei q,AD,w,Gg]
    rfl
   | true=>
    grind [CF,Ec,Ei,AD,Gg,Au]
theorem tT(v:As) self(n:Ad)(O:n.Grid.Cells.length<=4194304)(hc:∀c∈n.Grid.Cells,∃r,Hm n.Grid c.Row c.Col=some r):∀(j k:Nat) (m:List (Int × Bool)) (s:σ) (r:Bool × List (Int × Bool) × σ),k+j=n.Grid.Cells.length ->
  EN self (((n.Grid.Cells.drop k).filter λc=>!(c.Ref=0)).map (Hj v n.Grid)) m s=some r ->
  iter (λ(a:Int × (List (Int × Bool)) × σ)=>ED v self n a.1 a.2.1 a.2.2) ((k:Int),m,s)=some (PR r):=by
 intro j
 induction j with
 | zero=>
  intro k m s r J h
  rw[yy (by omega)] at h
  cases h
  refine Bj ?_
  show ED v self n (k:Int) m s=_
  unfold ED
  rw[wv (by simp;omega)]
  rfl
 | succ j E=>
  intro k m s r J h
  have l:k<n.Grid.Cells.length:=by omega
  obtain⟨q,B⟩:=hc _ (xw l)
  rw[xx l,WAg] at h
  by_cases A:n.Grid.Cells[k].Ref=0
  .rw[wv (by simp[A])] at h
   rw[CF (s':=(((k+1:Nat):Int),m,s)) (by
    show ED v self n (k:Int) m s=_
    unfold ED
    rw[ww (by simpa using l),Ei l,AD,B,AD,w9 A,wv (by decide),Gg,wv (by decide),Au (by omega),AD])]
   exact E (k+1) m s r (by omega) h
  .rw[ww (by simp[A]),xj] at h
   have M:Hj v n.Grid n.Grid.Cells[k]=⟨n.Grid.Cells[k].Ref,v.id,((v.visible&&(q.Row=n.Grid.Cells[k].Row))&&(q.Col=n.Grid.Cells[k].Col))⟩:=by unfold Hj;rw[B]
   rw[M] at h
   unfold EN at h
   generalize F:(⟨n.Grid.Cells[k].Ref,v.id,((v.visible&&(q.Row=n.Grid.Cells[k].Row))&&(q.Col=n.Grid.Cells[k].Col))⟩:As)=w at h
   cases C:self m s w with
   | none=>rw[C] at h;cases h
   | some p=>
    obtain⟨c,I,s'⟩:=p
    rw[C] at h
    cases c with
    | false=>
     cases h
     refine Bj ?_
     show ED v self n (k:Int) m s=_
     unfold ED
     rw[ww (by simpa using l),Ei l,AD,B,AD,w0 A,ww (by decide),F,C,Gg,Gg]
     rfl
    | true=>
     rw[CF (s':=(((k+1:Nat):Int),I,s')) (by
      show ED v self n (k:Int) m s=_
      unfold ED
      rw[ww (by simpa using l),Ei l,AD,B,AD,w0 A,ww (by decide),F,C,Gg,Gg,wv (by decide),Au (by omega),AD])]
     exact E (k+1) I s' r (by omega) h
end
end Go.Proofs.YtcgleifameckmaaGreatDoor.Al

set_option linter.unusedVariables false
set_option linter.unusedSimpArgs false
namespace Go.Proofs.YtcgleifameckmaaGreatDoor.Al
open Go
section
variable{σ:Type}(Y:σ->As->Option (Bool × σ)){d:Ac}
def Zq(d:Ac)(n:Nat):Prop:=∀(j:List As) (v:As) (m:List (Int × Bool)) (s:σ),Cr d v.id->Dy d j<n->(∀i,DX m i=Cb j i) ->
 ∃new,Cs d n j v=j++new/\(∀w∈new,Cr d w.id)/\∀b l,Do Y new s=some (b,l)->∃q,gN Y d n m s v=some (b,q,l)/\(b=true->∀i,DX q i=Cb (j++new) i)
theorem tv{n}(Z:Zq Y d n):∀(ks j:List As) (m:List (Int × Bool)) (s:σ),(∀w∈ks,Cr d w.id)->Dy d j<n->(∀i,DX m i=Cb j i) ->
  ∃new,ks.foldl (λa w=>Cs d n a w) j=j++new/\(∀w∈new,Cr d w.id)/\∀b s',Do Y new s=some (b,s')->∃A,EN (gN Y d n) ks m s=some (b,A,s')/\(b=true->∀i,DX A i=Cb (j++new) i):=by
 intro ks
 induction ks with
 | nil=>
  intro j m s _ _ I
  refine⟨[],by simp,by simp,λb s' B=>?_⟩
  simp only[Do,xF,xM] at B
  obtain⟨rfl,rfl⟩:=B
  exact⟨m,rfl,λ_ i=>by rw[yv];exact I i⟩
 | cons v r ih=>
  intro j m s U V I
  obtain⟨q,e1,i1,w1⟩:=Z j v m s (U v (xY ..)) V I
  have J:Dy d (j++q)<n:=Nat.lt_of_le_of_lt (X4 d j q) V
  have C:∀m2 (F:σ),(∀i,DX m2 i=Cb (j++q) i)->∃new,r.foldl (λa w=>Cs d n a w) (j++q)=(j++q)++new/\(∀w∈new,Cr d w.id)/\∀b s',Do Y new F=some (b,s')->∃A,EN (gN Y d n) r m2 F=some (b,A,s')/\(b=true->∀i,DX A i=Cb ((j++q)++new) i):=
   λm2 F h2=>ih (j++q) m2 F (λw M=>U w (xZ _ M)) J h2
  have O:∃m2:List (Int × Bool),∀i,DX m2 i=Cb (j++q) i:=by
   refine⟨(j++q).map λv=>(v.id,true),λi=>?_⟩
   generalize j++q=l
   induction l with
   | nil=>rfl
   | cons a r T=>
    show(if i=a.id then some true else AR _ i).getD false=_
    unfold Cb
    rw[WAB]
    by_cases h:i=a.id
    .grind
    .rw[wv h,w0 (zu h),yW];exact T
  obtain⟨m0,h0⟩:=O
  obtain⟨n2,e2,i2,_⟩:=C m0 s h0
  refine⟨q++n2,by rw[yK,e1,e2,yQ],λw M=>(yY.1 M).elim (i1 w) (i2 w),λb s' B=>?_⟩
  rw[nF] at B
  cases E:Do Y q s with
  | none=>grind
  | some p=>
   obtain⟨c,X⟩:=p
   rw[E] at B
   obtain⟨m1,g1,g2⟩:=w1 c X E
   cases c with
   | false=>
    grind [EN]
   | true=>
    obtain⟨n3,e3,_,w3⟩:=C m1 X (g2 rfl)
    simp_all [m2,gN,EN]
theorem kH(h:Cy d):∀n,Zq Y d n:=by
 intro n
 induction n with
 | zero=>intro l v m s _ hu;omega
 | succ n IH=>
  intro l v m s hv hu hm
  by_cases E:Cb l v.id=true
  .refine⟨[],by unfold Cs;rw[ww E,yv],by simp,λb F I=>?_⟩
   simp only[Do,xF,xM] at I
   obtain⟨rfl,rfl⟩:=I
   refine⟨m,?_,λ_ i=>by rw[yv];exact hm i⟩
   show gB Y d (gN Y d n) m s v=_
   unfold gB
   have:(AR m v.id).getD false=true:=(hm v.id).trans E
   rw[ww this]
  .rw[zj] at E
   have ad:=cR hv E
   have B:∀i,DX (Am m v.id true) i=Cb (l++[v]) i:=λi=>by
    grind [Rc,Sd,Cb]
   obtain⟨q,a0,a1,ae,a2,a6⟩:=h.node hv
   have J:=UD h hv
   have A:=λC=>tv Y IH (kids d v (Bu d v.id)) (l++[v]) (Am m v.id true) C J (by omega) B
   obtain⟨new,e1,i1,_⟩:=A s
   refine⟨v::new,by unfold Cs;rw[wv (by rw[E];decide),e1,yQ];rfl,λw hw=>?_,λb F I=>?_⟩
   .grind
   .show ∃M,gB Y d (gN Y d n) m s v=_/\_
    have h0:¬ ((AR m v.id).getD false)=true:=by
     have:(AR m v.id).getD false=false:=(hm v.id).trans E
     grind
    unfold gB
    rw[wv h0]
    cases hY:Y s v with
    | none=>grind [Do]
    | some p=>
     obtain⟨c,Z⟩:=p
     rw[By]
     cases c with
     | false=>
      simp_all [Do]
     | true=>
      simp only[Do,hY] at I
      rw[wv (by decide),a2,By,a6,AD,mu _ (by have:=q.ok.fl;omega),AD]
      obtain⟨O,e2,_,w2⟩:=A Z
      have:O=new:=by
       simp_all
      subst this
      obtain⟨M,j,g2⟩:=w2 b F I
      refine⟨M,?_,λe i=>by rw[g2 e i,yQ];rfl⟩
      have af:=q.ok.fl
      have ag:=q.ok.gr.1
      have T:∀c∈(Bu d v.id).Grid.Cells,∃r,Hm (Bu d v.id).Grid c.Row c.Col=some r:=λc hc=>by
       grind [WN]
      have a7:(Ct (Bu d v.id).Flow).length<=4194304:=by
       grind [Ct]
      obtain⟨L,X,t1,_,t3,_⟩:=W5 h.ids h.ok.1 h.srt q a0 a1
      have ah:HJ d (Bu d v.id)=L.filterMap (ET d):=by grind [HJ]
      have U:(HJ d (Bu d v.id)).length<=4194304:=by
       grind
      have a8:GT d (Bu d v.id)=some (HJ d (Bu d v.id)):=by grind
      unfold kids at j
      rw[Zp] at j
      cases q1:EN (gN Y d n) (M3 v (Bu d v.id)) (Am m v.id true) Z with
      | none=>grind
      | some p1=>
       have l1:=Yv v (gN Y d n) (Ct (Bu d v.id).Flow) a7 _ 0 (Am m v.id true) Z p1 (by rw[xd]) q1
       have aa:iter (λ(a:Int × (List (Int × Bool)) × σ)=>Ec v (gN Y d n) (Ct (Bu d v.id).Flow) a.1 a.2.1 a.2.2) (0,(Am m v.id true),Z)=some (PR p1):=l1
       rw[aa]
       obtain⟨c1,V,C⟩:=p1
       rw[q1] at j
       cases c1 with
       | false=>cases j;rfl
       | true=>
        show F9 (iter (λ(a:Int × (List (Int × Bool)) × σ)=>ED v (gN Y d n) (Bu d v.id) a.1 a.2.1 a.2.2) (0,V,C)) _=_
        have j:EN (gN Y d n) (LT v (Bu d v.id)++QC d v (Bu d v.id)) V C=some (b,M,F):=j
        rw[Zp] at j
        cases q2:EN (gN Y d n) (LT v (Bu d v.id)) V C with
        | none=>grind
        | some p2=>
         have l2:=tT v (gN Y d n) (Bu d v.id) (by omega) T _ 0 V C p2 (by rw[xd]) q2
         have ab:iter (λ(a:Int × (List (Int × Bool)) × σ)=>ED v (gN Y d n) (Bu d v.id) a.1 a.2.1 a.2.2) (0,V,C)=some (PR p2):=l2
         rw[ab]
         obtain⟨c2,m2,s3⟩:=p2
         rw[q2] at j
         cases c2 with
         | false=>cases j;rfl
         | true=>
          show AB (GT d (Bu d v.id)) _=_
          rw[a8,AD]
          have j:EN (gN Y d n) (QC d v (Bu d v.id)) m2 s3=some (b,M,F):=j
          have l3:=Yv v (gN Y d n) (HJ d (Bu d v.id)) U _ 0 m2 s3 _ (by rw[xd]) j
          have ac:iter (λ(a:Int × (List (Int × Bool)) × σ)=>Ec v (gN Y d n) (HJ d (Bu d v.id)) a.1 a.2.1 a.2.2) (0,m2,s3)=some (PR (b,M,F)):=l3
          rw[ac]
          cases b<;>rfl
end
end Go.Proofs.YtcgleifameckmaaGreatDoor.Al

set_option linter.unusedVariables false
set_option linter.unusedSimpArgs false
namespace Go.Proofs.YtcgleifameckmaaGreatDoor.Al
open Go
theorem rc{d:Ac}(h:JR d)(m:Fa d=some 0):0<d.Nodes.length/\d.Nodes[0]!.ID=1:=by
 obtain⟨-,l⟩:=NA h m
 unfold Fa at m
 split at m
 .cases m
 rename_i w
 have j:0<d.Nodes.length:=by
  grind
 refine⟨j,?_⟩
 by_cases BR:d.Nodes[0]!.ID=1
 .exact BR
 exfalso
 have q:iter (λ(a:Int)=>FK d a) 0=some (.ext 5):=by
  refine Bj ?_
  have e0:=l 0 j
  show FK d ((0:Nat):Int)=_
  unfold FK
  rw[ww (by simpa using j),Ak j,AD,e0,AD,wv (by decide),w9 (show((0:Nat):Int)=0 from rfl),w0 (show ¬ (0:Int)<((0:Nat):Int) by omega),w0 BR]
  rfl
 simp_all
theorem Vm{d:Ac}(h:Cy d):Cr d 1:=by
 obtain⟨j,l⟩:=rc h.ok h.ch
 unfold Cr
 cases m:B4 d.Nodes 1 with
 | some k=>grind
 | none=>
  grind [B4]
noncomputable def DH(d:Ac):List As:=Cs d (d.Nodes.length+1) [] ⟨1,0,true⟩
theorem YL(d:Ac):Dy d []<d.Nodes.length+1:=Nat.lt_succ_of_le (List.countP_le_length ..)
theorem sD{σ:Type}(Y:σ->As->Option (Bool × σ)){d:Ac}(h:Cy d){s s'}{b}(l:Do Y (DH d) s=some (b,s')):∃j,gN Y d (d.Nodes.length+1) [] s ⟨1,0,true⟩=some (b,j,s'):=by
 obtain⟨new,m,_,w⟩:=kH Y h (d.Nodes.length+1) [] ⟨1,0,true⟩ [] s (Vm h) (YL d) (λi=>rfl)
 grind [DH]
section
variable{σ:Type}(Y:σ->As->Option (Bool × σ)){d:Ac}
theorem Xq{v:As}{self j:LV σ}(C:∀m s w r,self m s w=some r->j m s w=some r){l:List Int}{x:Int}{m:List (Int × Bool)}{s:σ}{r}(h:Ec v self l x m s=some r):Ec v j l x m s=some r:=by
 unfold Ec at h ⊢
 split at h
 .rename_i A
  rw[ww A]
  cases q:AO l x with
  | none=>rw[q] at h;cases h
  | some y=>
   rw[q,AD] at h
   rw[AD]
   cases B:self m s ⟨y,v.id,v.visible⟩ with
   | none=>rw[B] at h;cases h
   | some p=>grind
 .grind
theorem sr{v:As}{self j:LV σ}(E:∀m s w r,self m s w=some r->j m s w=some r){n:Ad}{x:Int}{m:List (Int × Bool)}{s:σ}{r}(h:ED v self n x m s=some r):ED v j n x m s=some r:=by
 unfold ED at h ⊢
 split at h
 .rename_i A
  rw[ww A]
  cases l:AO n.Grid.Cells x with
  | none=>rw[l] at h;cases h
  | some c=>
   rw[l,AD] at h
   rw[AD]
   cases hg:Hm n.Grid c.Row c.Col with
   | none=>rw[hg] at h;cases h
   | some q=>
    rw[hg,AD] at h
    rw[AD]
    split at h
    .rename_i B
     rw[ww B]
     cases C:self m s ⟨c.Ref,v.id,((v.visible&&(q.Row=c.Row))&&(q.Col=c.Col))⟩ with
     | none=>rw[C] at h;cases h
     | some p=>grind
    .grind
 .grind
theorem qR{self j}(E:∀m s w r,self m s w=some r->j m s w=some r){m}{s}{v:As}{r}(h:gB Y d self m s v=some r):gB Y d j m s v=some r:=by
 unfold gB at h ⊢
 split at h
 .grind
 .rename_i U
  rw[wv U]
  cases F:Y s v with
  | none=>rw[F] at h;cases h
  | some p=>
   rw[F,By] at h
   rw[By]
   split at h
   .grind
   .rename_i V
    rw[wv V]
    cases I:Gb d v.id with
    | none=>rw[I] at h;cases h
    | some q=>
     rw[I,By] at h
     rw[By]
     cases J:AO d.Nodes q.1 with
     | none=>rw[J] at h;cases h
     | some n=>
      rw[J,AD] at h
      rw[AD]
      cases M:Lj n.Flow with
      | none=>rw[M] at h;cases h
      | some l=>
       rw[M,AD] at h
       rw[AD]
       cases A:iter (λ(a:Int × (List (Int × Bool)) × σ)=>Ec v self l a.1 a.2.1 a.2.2) (0,(Am m v.id true),p.2) with
       | none=>rw[A] at h;cases h
       | some X=>
        rw[A] at h
        rw[KG (g:=λ(a:Int × (List (Int × Bool)) × σ)=>Ec v j l a.1 a.2.1 a.2.2) (λs v B=>Xq E B) A]
        cases X with
        | ext e=>exact h
        | nrm t=>
         change F9 (iter (λ(a:Int × (List (Int × Bool)) × σ)=>ED v self n a.1 a.2.1 a.2.2) (0,t.1,t.2)) _=_ at h
         show F9 (iter (λ(a:Int × (List (Int × Bool)) × σ)=>ED v j n a.1 a.2.1 a.2.2) (0,t.1,t.2)) _=_
         cases C:iter (λ(a:Int × (List (Int × Bool)) × σ)=>ED v self n a.1 a.2.1 a.2.2) (0,t.1,t.2) with
         | none=>rw[C] at h;cases h
         | some Z=>
          rw[C] at h
          rw[KG (g:=λ(a:Int × (List (Int × Bool)) × σ)=>ED v j n a.1 a.2.1 a.2.2) (λs v B=>sr E B) C]
          cases Z with
          | ext e=>exact h
          | nrm O=>
           change AB (GT d n) _=_ at h
           show AB (GT d n) _=_
           cases T:GT d n with
           | none=>rw[T] at h;cases h
           | some l5=>
            rw[T,AD] at h
            rw[AD]
            cases h3:iter (λ(a:Int × (List (Int × Bool)) × σ)=>Ec v self l5 a.1 a.2.1 a.2.2) (0,O.1,O.2) with
            | none=>rw[h3] at h;cases h
            | some c3=>
             grind [KG,Ec,Xq]
theorem oY:∀(n:Nat) (m:List (Int × Bool)) (s:σ) (v:As) r,gN Y d n m s v=some r->gN Y d (n+1) m s v=some r:=by
 intro n
 induction n with
 | zero=>intro m s v r h;cases h
 | succ n j=>intro m s v r h;exact qR Y j h
end
theorem fI j d:∀(n:Nat) m ys v,HK n j m ys d v=gN (λys v=>HL j ys v) d n m ys v:=by
 intro n
 induction n with
 | zero=>intro m ys v;rfl
 | succ n q=>
  intro m ys v
  have e:gN (λys v=>HL j ys v) d n=λm ys v=>HK n j m ys d v:=by
   funext m ys v;exact(q m ys v).symm
  show Tl (λj w l A v1=>HK n j w l A v1) j m ys d v=gB (λys v=>HL j ys v) d (gN (λys v=>HL j ys v) d n) m ys v
  rw[e]
  rfl
theorem oe{l}{d}(h:Cy d){ys j}{b}(q:Do (λys v=>HL l ys v) (DH d) ys=some (b,j)):P7 l ys d=some j:=by
 obtain⟨A,w⟩:=sD _ h q
 unfold P7 Sk
 rw[RE (N:=λn=>HK n l [] ys d ⟨1,0,true⟩) (λn r m=>by rw[fI] at m ⊢;exact oY _ n _ _ _ r m) (by rw[fI];exact w),Gg]
def Fv(v:As):List RV:=[.int .i64 v.id,.int .i64 v.parent]
theorem mz{σ:Type}(F:σ->List RV->Option σ) a b(j:σ){r}(h:EC F (a++b) j=some r):∃l,EC F a j=some l:=by
 induction a generalizing j with
 | nil=>exact⟨j,rfl⟩
 | cons y a m=>
  rw[yV] at h
  simp only[EC] at h ⊢
  cases q:F j y with
  | none=>grind
  | some s=>grind
theorem jN{σ:Type}(F:σ->List RV->Option σ)(j:σ):∀(l:List As) (ys:List (List RV)) {r:σ},EC F (ys++l.map Fv) j=some r->Do (λys v=>HL (LR F j) ys v) l ys=some (true,ys++l.map Fv):=by
 intro l
 induction l with
 | nil=>grind [Do]
 | cons v l q=>
  intro ys r h
  have e:ys++(v::l).map Fv=(ys++[Fv v])++l.map Fv:=by simp
  rw[e] at h ⊢
  obtain⟨w,m⟩:=mz F (ys++[Fv v]) _ j h
  grind [HL,LR,Fv,AB,Do]
theorem cT{σ:Type}{d}(h:Cy d)(F:σ->Int->Int->Option σ)(j:σ){r}(m:EC (λs=>m2 (F s)) ((DH d).map Fv) j=some r):rng2 (λA=>GO A [] d) F j=some r:=by
 have l:=jN (λs=>m2 (F s)) j (DH d) [] (r:=r) (by rw[yR];exact m)
 rw[yR] at l
 have q:GO (LR (λs=>m2 (F s)) j) [] d=some ((DH d).map Fv):=by
  unfold GO
  rw[h.ch,AD,wv (by decide),oe h l,AD]
 show(GO (LR (λs=>m2 (F s)) j) [] d).bind _=_
 grind
end Go.Proofs.YtcgleifameckmaaGreatDoor.Al

set_option linter.unusedVariables false
set_option linter.unusedSimpArgs false
namespace Go.Proofs.YtcgleifameckmaaGreatDoor.Al
open Go
def BS(v:As):Aj:=⟨v.id,v.parent,v.visible⟩
def Gd(d:Ac)(j:List As):Prop:=(j.Pairwise λa b=>a.id≠b.id)/\∀w∈j,Cr d w.id
theorem nS:∀(l A:List Int),l.Pairwise (· ≠ ·)->(∀z∈l,z∈A)->l.length<=A.length:=by
 intro l
 induction l with
 | nil=>grind
 | cons a r q=>
  intro A hp j
  rw[zO] at hp
  have w:=j a (xY ..)
  have:=q (A.erase a) hp.2 λz m=>(List.mem_erase_of_ne (λe=>hp.1 z m e.symm)).2 (j z (xZ _ m))
  grind
theorem Gd.len{d:Ac}{j:List As}(h:Gd d j):j.length<=d.Nodes.length:=by
 have:=nS (j.map (·.id)) (d.Nodes.map (·.ID)) (by rw[zd];exact h.1) (λz l=>by
  obtain⟨w,m,rfl⟩:=yT.1 l
  obtain⟨k,q⟩:=h.2 w m
  obtain⟨A,B⟩:=FC q
  exact yT.2 ⟨d.Nodes[k]!,Bs A,B⟩)
 simpa using this
theorem Gd.snoc{d}{j}(h:Gd d j){v:As}(m:Cr d v.id)(q:Cb j v.id=false):Gd d (j++[v]):=by
 refine⟨List.pairwise_append.2 ⟨h.1,by simp,λa A b B e=>?_⟩,λw l=>?_⟩
 .grind [Cb]
 .rcases yY.1 l with l | l
  .exact h.2 w l
  .grind
theorem Z0{d}(h:Cy d):∀(n:Nat) (j:List As) (v:As),Cr d v.id->Gd d j->Gd d (Cs d n j v)/\Dy d (Cs d n j v)<=Dy d j:=by
 intro n
 induction n with
 | zero=>intro j v _ hg;exact⟨hg,wy _⟩
 | succ n C=>
  intro j v m hg
  unfold Cs
  split
  .grind
  .rename_i q
   have q:Cb j v.id=false:=by grind
   have E:=UD h m
   have key:∀(ks:List As) (a:List As),(∀w∈ks,Cr d w.id)->Gd d a->Gd d (ks.foldl (λa w=>Cs d n a w) a)/\Dy d (ks.foldl (λa w=>Cs d n a w) a)<=Dy d a:=by
    intro ks
    induction ks with
    | nil=>grind
    | cons w r l=>
     intro a A F
     obtain⟨B,g2⟩:=C a w (A w (xY ..)) F
     obtain⟨g3,g4⟩:=l (Cs d n a w) (λz I=>A z (xZ _ I)) B
     grind
   obtain⟨B,g2⟩:=key _ (j++[v]) E (hg.snoc m q)
   grind [X4]
theorem pz(l:List As) id(B:l.length<=1048576):∃r,Qg (l.map BS) id=some r/\decide (0<=r)=Cb l id:=by
 unfold Qg
 have h:=B5 (f:=λ(a:Int)=>Nh (l.map BS) id a) (n:=l.length) (λk=>if l[k]!.id=id then some (k:Int) else none) (λk m=>by
  have q:k<(l.map BS).length:=by grind
  unfold Nh
  rw[ww (by simpa using m),Ei q,AD,List.getElem_map]
  show(if decide ((BS l[k]).ID=id)=true then _ else _)=_
  rw[xg l k m]
  by_cases h:l[k].id=id
  .rw[ww (by rw[xG];exact h),ww h];rfl
  .rw[wv (by rw[xG];exact h),wv h,Au (by omega)];rfl) (by unfold Nh;rw[wv (by simp)])
 rw[h]
 cases w:(List.range l.length).findSome? λ(k:Nat)=>if l[k]!.id=id then some (k:Int) else none with
 | none=>
  refine⟨-1,rfl,?_⟩
  rw[zl] at w
  have:Cb l id=false:=by
   unfold Cb
   rw[List.any_eq_false]
   intro v A
   obtain⟨k,m,rfl⟩:=yH.1 A
   grind
  grind
 | some r=>
  obtain⟨k,m,j⟩:=yE w
  have m:=yA.1 m
  rw[xg l k m] at j
  split at j
  .rename_i h
   cases j
   refine⟨(k:Int),rfl,?_⟩
   grind [Cb]
  .cases j
noncomputable def P2(v:As)(g:BJ)(r:List Aw):List As:=(r.filter λc=>!(c.Ref=0)).map (Hj v g)
theorem eF v g(x:Aw) r:P2 v g (x::r)=(if x.Ref=0 then [] else [Hj v g x])++P2 v g r:=by grind [P2]
def ky(d:Ac)(n:Nat):Prop:=∀(j:List As) (v:As),Cr d v.id->Dy d j<n->Gd d j->CM n (j.map BS) d (BS v)=some ((Cs d n j v).map BS)
theorem ta{d:Ac}(h:Cy d):∀n,ky d n:=by
 intro n
 induction n with
 | zero=>intro A v _ hu;omega
 | succ n IH=>
  intro A v hv hu hg
  have hm:=h.ok.1
  have av:=hg.len
  show JU (λm F B=>CM n m F B) (A.map BS) d (BS v)=_
  unfold JU
  obtain⟨r,r1,r2⟩:=pz A v.id (by omega)
  rw[show(BS v).ID=v.id from rfl,r1,AD,r2]
  by_cases hs:Cb A v.id=true
  .rw[ww hs]
   unfold Cs
   rw[ww hs]
  .rw[wv hs]
   have a7:Cb A v.id=false:=by simpa using hs
   have aw:=cR hv a7
   have a8:=hg.snoc hv a7
   obtain⟨U,ai,aa,ab,ax,ac⟩:=h.node hv
   obtain⟨kk,a0⟩:=hv
   have a1:Gs d v.id=some (kk:Int):=by rw[PZ d v.id hm,a0]
   have ad:AO d.Nodes (kk:Int)=some (Bu d v.id):=by rw[a0] at ac;exact ac
   have ae:app 24 (A.map BS) [BS v]=some ((A++[v]).map BS):=by
    unfold app
    rw[ww ⟨by simp;omega,by simp;omega⟩]
    simp
   rw[ae,AD,a1,AD,ad,AD]
   have hR:Cs d (n+1) A v=(kids d v (Bu d v.id)).foldl (λa w=>Cs d n a w) (A++[v]):=by
    conv=>lhs;unfold Cs
    rw[wv hs]
   rw[hR]
   unfold kids
   rw[List.foldl_append,List.foldl_append]
   have O:=UD h ⟨kk,a0⟩
   unfold kids at O
   generalize hN:Bu d v.id=N at *
   have C:∀(a:List As) (w:As),Cr d w.id->Dy d a<n->Gd d a->CM n (a.map BS) d (BS w)=some ((Cs d n a w).map BS)/\Dy d (Cs d n a w)<n/\Gd d (Cs d n a w):=λa w V ha af=>by
    obtain⟨g1,g2⟩:=Z0 h n a w V af
    exact⟨IH a w V ha af,by omega,g1⟩
   have ay:=U.ok.fl
   have az:=U.ok.gr.1
   have w1:=Ex (f:=λ(a:Int × (List Aj))=>Fw d (BS v) (λm F B=>CM n m F B) N a.1 a.2) N.Flow (λ(c:List As) i=>((i:Int),c.map BS))
    (λr c=>(((Ct r).map λid=>(⟨id,v.id,v.visible⟩:As)).foldl (λa w=>Cs d n a w) c).map BS) (λi c=>(Dy d c<n/\Gd d c)/\∀x∈N.Flow,x.Ref≠0->Cr d x.Ref)
    (λi c I ⟨⟨Z,c2⟩,c3⟩=>by
     left
     show ∃c',Fw d (BS v) _ N (i:Int) (c.map BS)=_/\_
     unfold Fw
     rw[ww (by simpa using I),Ak I,AD,Au (by omega)]
     by_cases E:N.Flow[i]!.Ref=0
     .refine⟨c,by rw[w9 E];rfl,⟨⟨Z,c2⟩,c3⟩,?_⟩
      rw[SW,ww E,yR]
     .obtain⟨B,s2,s3⟩:=C c ⟨N.Flow[i]!.Ref,v.id,v.visible⟩ (c3 _ (Bs I) E) Z c2
      refine⟨_,?_,⟨⟨s2,s3⟩,c3⟩,?_⟩
      .rw[w0 E,ww (by decide)]
       show AB (AB (CM n (c.map BS) d (BS ⟨N.Flow[i]!.Ref,v.id,v.visible⟩)) _) _=_
       rw[B];rfl
      .rw[SW,wv E];rfl)
    (λc _=>by
     show Fw d (BS v) _ N (N.Flow.length:Int) (c.map BS)=_
     unfold Fw
     rw[wv (by simp)]
     rfl) (A++[v]) ⟨⟨by omega,a8⟩,λx J E=>ab x.Ref (zT _ (by unfold Ct;exact yT.2 ⟨x,za.2 ⟨J,by simpa using E⟩,rfl⟩))⟩ ((0:Int),(A++[v]).map BS) rfl
   have aj:iter (λ(a:Int × (List Aj))=>Fw d (BS v) (λm F B=>CM n m F B) N a.1 a.2) (0,(A++[v]).map BS)=_:=w1
   rw[aj,AD]
   have T:∀(ks:List As) (a:List As),(∀w∈ks,Cr d w.id)->Dy d a<n->Gd d a->Dy d (ks.foldl (λa w=>Cs d n a w) a)<n/\Gd d (ks.foldl (λa w=>Cs d n a w) a):=by
    intro ks
    induction ks with
    | nil=>intro a _ h1 h2;exact⟨h1,h2⟩
    | cons w r ak=>
     intro a V h1 h2
     obtain⟨_,s2,s3⟩:=C a w (V w (xY ..)) h1 h2
     exact ak _ (λz hz=>V z (xZ _ hz)) s2 s3
   have al:(Ct N.Flow).map (λid=>(⟨id,v.id,v.visible⟩:As))=M3 v N:=rfl
   rw[al]
   obtain⟨b1,b2⟩:=T (M3 v N) (A++[v]) (λw V=>O w (zT _ V)) (by omega) a8
   generalize (M3 v N).foldl (λa w=>Cs d n a w) (A++[v])=A1 at *
   have ag:=WN U aa
   have w2:=Ex (f:=λ(a:Int × (List Aj))=>F4 d (BS v) (λm F B=>CM n m F B) N a.1 a.2) N.Grid.Cells (λ(c:List As) i=>((i:Int),c.map BS))
    (λ(r:List Aw) (c:List As)=>((P2 v N.Grid r).foldl (λa w=>Cs d n a w) c).map BS) (λi c=>(Dy d c<n/\Gd d c)/\∀x∈N.Grid.Cells,x.Ref≠0->Cr d x.Ref)
    (λi c I ⟨⟨Z,c2⟩,c3⟩=>by
     left
     show ∃c',F4 d (BS v) _ N (i:Int) (c.map BS)=_/\_
     unfold F4
     rw[ww (by simpa using I),Ak I,AD,Au (by omega)]
     obtain⟨q,q1,q2⟩:=ag _ (Bs I)
     by_cases E:N.Grid.Cells[i]!.Ref=0
     .refine⟨c,by rw[w9 E];rfl,⟨⟨Z,c2⟩,c3⟩,?_⟩
      rw[eF,ww E,yR]
     .have a2:Hj v N.Grid N.Grid.Cells[i]! = ⟨N.Grid.Cells[i]!.Ref,v.id,((v.visible&&(q.Row=N.Grid.Cells[i]!.Row))&&(q.Col=N.Grid.Cells[i]!.Col))⟩:=by unfold Hj;rw[q1]
      obtain⟨B,s2,s3⟩:=C c (Hj v N.Grid N.Grid.Cells[i]!) (by rw[a2];exact c3 _ (Bs I) E) Z c2
      refine⟨_,?_,⟨⟨s2,s3⟩,c3⟩,?_⟩
      .rw[w0 E,ww (by decide),q2,AD]
       rw[a2] at B
       show AB (AB (CM n (c.map BS) d (BS ⟨N.Grid.Cells[i]!.Ref,v.id,((v.visible&&(q.Row=N.Grid.Cells[i]!.Row))&&(q.Col=N.Grid.Cells[i]!.Col))⟩)) _) _=_
       rw[B,a2];rfl
      .rw[eF,wv E];rfl)
    (λc _=>by
     show F4 d (BS v) _ N (N.Grid.Cells.length:Int) (c.map BS)=_
     unfold F4
     rw[wv (by simp)]
     rfl) A1 ⟨⟨b1,b2⟩,λx J E=>ab x.Ref (zf _ (by unfold Fl;exact yT.2 ⟨x,za.2 ⟨J,by simpa using E⟩,rfl⟩))⟩ ((0:Int),A1.map BS) rfl
   have an:iter (λ(a:Int × (List Aj))=>F4 d (BS v) (λm F B=>CM n m F B) N a.1 a.2) (0,A1.map BS)=_:=w2
   rw[an,AD]
   have ao:P2 v N.Grid N.Grid.Cells=LT v N:=rfl
   rw[ao]
   obtain⟨b3,b4⟩:=T (LT v N) A1 (λw V=>O w (zf _ (zT _ V))) b1 b2
   generalize (LT v N).foldl (λa w=>Cs d n a w) A1=A2 at *
   obtain⟨L,X,t1,t2,t3,t4⟩:=W5 h.ids h.ok.1 h.srt U ai aa
   have aq:HJ d N=L.filterMap (ET d):=by unfold HJ;rw[t1];rfl
   rw[t2,By]
   have a6:∀x id,ET d x=some id->Cr d id:=λx id J=>by
    unfold ET JJ at J
    cases M:B4 d.Nodes (CU (Bw x.Attrs IJ)) with
    | none=>rw[M] at J;cases J
    | some j=>
     rw[M] at J
     simp only at J
     split at J
     .cases J;exact⟨j,M⟩
     .cases J
   have w3:=Ex (f:=λ(a:Int × (List Aj))=>Fx d (BS v) (λm F B=>CM n m F B) (L++X) (L.length:Int) a.1 a.2) L (λ(c:List As) i=>((i:Int),c.map BS))
    (λr c=>(((r.filterMap (ET d)).map λid=>(⟨id,v.id,v.visible⟩:As)).foldl (λa w=>Cs d n a w) c).map BS) (λi c=>Dy d c<n/\Gd d c)
    (λi c I ⟨Z,c2⟩=>by
     left
     have ar:i<(L++X).length:=by simp;omega
     have hget:(L++X)[i]=L[i]!:=by rw[List.getElem_append_left I,xg L i I]
     show ∃c',Fx d (BS v) _ (L++X) (L.length:Int) (i:Int) (c.map BS)=_/\_
     unfold Fx
     have b0:=t4 _ (Bs I)
     rw[ww (by simpa using I),Ei ar,AD,hget,Au (by simp at t3;omega),Ri _ _ (by omega),AD,Yg,AD,PZ _ _ hm,AD]
     rw[show([110,111,100,101]:List UInt8)=IJ from rfl]
     cases l:ET d L[i]! with
     | none=>
      refine⟨c,?_,⟨Z,c2⟩,by rw[WAV,l]⟩
      unfold ET JJ at l
      generalize CU (Bw L[i]!.Attrs IJ)=id at *
      cases M:B4 d.Nodes id with
      | none=>simp[DO,AD]
      | some j=>
       rw[M] at l
       obtain⟨hj,_⟩:=FC M
       obtain⟨f1,f2⟩:=OQ h.ids M
       simp only at l ⊢
       rw[w9 (show 0<id by omega),w9 (show(0:Int)<=(j:Int) by omega)]
       simp only[zk,yS,Av,yO]
       rw[Ak hj,AD]
       split at l
       .cases l
       .rename_i hk
        rw[wv (by simpa using hk)]
        rfl
     | some id=>
      obtain⟨B,s2,s3⟩:=C c ⟨id,v.id,v.visible⟩ (a6 _ _ l) Z c2
      refine⟨_,?_,⟨s2,s3⟩,by rw[WAV,l];rfl⟩
      unfold ET JJ at l
      generalize CU (Bw L[i]!.Attrs IJ)=ah at *
      cases M:B4 d.Nodes ah with
      | none=>rw[M] at l;cases l
      | some j=>
       rw[M] at l
       obtain⟨hj,_⟩:=FC M
       obtain⟨f1,f2⟩:=OQ h.ids M
       simp only at l ⊢
       rw[w9 (show 0<ah by omega),w9 (show(0:Int)<=(j:Int) by omega)]
       simp only[zk,yS,Av,yO]
       rw[Ak hj,AD]
       split at l
       .rename_i hk
        cases l
        rw[ww (by simpa using hk)]
        show AB (AB (CM n (c.map BS) d (BS ⟨id,v.id,v.visible⟩)) _) _=_
        rw[B];rfl
       .cases l)
    (λc _=>by
     show Fx d (BS v) _ (L++X) (L.length:Int) (L.length:Int) (c.map BS)=_
     unfold Fx
     rw[wv (by simp)]
     rfl) A2 ⟨b3,b4⟩ ((0:Int),A2.map BS) rfl
   have au:iter (λ(a:Int × (List Aj))=>Fx d (BS v) (λm F B=>CM n m F B) (L++X) (L.length:Int) a.1 a.2) (0,A2.map BS)=_:=w3
   rw[au,AD]
   unfold QC
   rw[aq]
theorem vw:∀(n:Nat) (o:List Aj) (d:Ac) (s:Aj) r,CM n o d s=some r->CM (n+1) o d s=some r:=by
 intro n
 induction n with
 | zero=>intro o d s r h;cases h
 | succ n ih=>
  intro o d s r h
  change JU (λj l m=>CM n j l m) o d s=some r at h
  show JU (λj l m=>CM (n+1) j l m) o d s=some r
  have m1:∀(N:Ad) (A:Int × List Aj) v,Fw d s (λj l m=>CM n j l m) N A.1 A.2=some v->Fw d s (λj l m=>CM (n+1) j l m) N A.1 A.2=some v:=λN A v h=>by
   unfold Fw at h ⊢
   split at h
   .rename_i C
    rw[ww C]
    obtain⟨y,B,X⟩:=Be h
    obtain⟨x,M,E⟩:=Be B
    rw[M,AD]
    split at E
    .rename_i F
     rw[ww F]
     obtain⟨w,Z,h6⟩:=Be E
     dsimp only
     grind
    .grind
   .grind
  have m2:∀(N:Ad) (A:Int × List Aj) v,F4 d s (λj l m=>CM n j l m) N A.1 A.2=some v->F4 d s (λj l m=>CM (n+1) j l m) N A.1 A.2=some v:=λN A v h=>by
   unfold F4 at h ⊢
   split at h
   .rename_i C
    rw[ww C]
    obtain⟨y,B,X⟩:=Be h
    obtain⟨x,M,E⟩:=Be B
    rw[M,AD]
    split at E
    .rename_i F
     rw[ww F]
     obtain⟨q,h7,h8⟩:=Be E
     obtain⟨w,Z,h6⟩:=Be h8
     simp_all
    .grind
   .grind
  have m3:∀(O:List AC) (T:Int) (A:Int × List Aj) v,Fx d s (λj l m=>CM n j l m) O T A.1 A.2=some v->Fx d s (λj l m=>CM (n+1) j l m) O T A.1 A.2=some v:=λO T A v h=>by
   unfold Fx at h ⊢
   split at h
   .rename_i C
    rw[ww C]
    obtain⟨y,B,X⟩:=Be h
    obtain⟨x1,U,B⟩:=Be B
    obtain⟨x2,V,B⟩:=Be B
    obtain⟨x3,a3,B⟩:=Be B
    obtain⟨J,a4,B⟩:=Be B
    obtain⟨x5,a5,B⟩:=Be B
    rw[U,AD,V,AD,a3,AD,a4,AD,a5,AD]
    split at B
    .rename_i F
     rw[ww F]
     obtain⟨w,Z,h6⟩:=Be B
     dsimp only
     grind
    .grind
   .grind
  unfold JU at h ⊢
  obtain⟨x1,U,h⟩:=Be h
  rw[U,AD]
  split at h
  .grind
  .rename_i C
   rw[wv C]
   obtain⟨x2,V,h⟩:=Be h
   obtain⟨x3,a3,h⟩:=Be h
   obtain⟨J,a4,h⟩:=Be h
   obtain⟨x5,a5,h⟩:=Be h
   obtain⟨x6,a6,h⟩:=Be h
   rw[V,AD,a3,AD,a4,AD,KG (g:=λ(a:Int × (List Aj))=>Fw d s (λj l m=>CM (n+1) j l m) J a.1 a.2) (λs v I=>m1 _ s v I) a5,AD,
    KG (g:=λ(a:Int × (List Aj))=>F4 d s (λj l m=>CM (n+1) j l m) J a.1 a.2) (λs v I=>m2 _ s v I) a6,AD]
   cases hI:LZ J.Draw with
   | none=>rw[hI] at h;cases h
   | some p=>
    rw[hI,By] at h
    rw[By]
    obtain⟨x7,a7,h⟩:=Be h
    rw[KG (g:=λ(a:Int × (List Aj))=>Fx d s (λj l m=>CM (n+1) j l m) p.1 p.2 a.1 a.2) (λs v I=>m3 _ _ s v I) a7,AD]
    exact h
theorem rx{d:Ac}(h:Cy d):QL d=some ((DH d).map BS):=by
 have j:=ta h (d.Nodes.length+1) [] ⟨1,0,true⟩ (Vm h) (YL d) ⟨List.Pairwise.nil,λw l=>by cases l⟩
 unfold QL TI
 rw[RE (N:=λn=>CM n [] d ⟨1,0,true⟩) (λn r m=>vw n _ _ _ r m) j,AD]
 rfl
theorem Ng{d}(h:Cy d):Gd d (DH d):=(Z0 h _ [] _ (Vm h) ⟨List.Pairwise.nil,λw j=>by cases j⟩).1
end Go.Proofs.YtcgleifameckmaaGreatDoor.Al

set_option linter.unusedVariables false
set_option linter.unusedSimpArgs false
namespace Go.Proofs.YtcgleifameckmaaGreatDoor.Al
open Go
end Go.Proofs.YtcgleifameckmaaGreatDoor.Al

set_option linter.unusedVariables false
set_option linter.unusedSimpArgs false
namespace Go.Proofs.YtcgleifameckmaaGreatDoor.Al
open Go
def P9(n:Int):List UInt8:=[114,101,109,97,114,107,46]++Lib.itoa n
def Jz(n:Int):Prop:=-9223372036854775808<=n/\n<=9223372036854775807
theorem cN{n}(h:Jz n):Gf [114,101,109,97,114,107,46] (Lib.itoa n)=some (P9 n):=by
 have:=(fw n h.1 h.2).2
 unfold Gf;rw[ww (by simp;omega)];rfl
theorem iX{n}(h:Jz n):QM n=some (P9 n):=by
 unfold QM strconv_Itoa itoaS
 rw[ww (show _/\_ from h),AD,cN h,AD]
def Jl(n:Int)(e:Aq):Bool:=decide (Bw e.Attrs (P9 n)=[111,110])
def CP(o:List Ag):Ag:=o[o.length-1]!
def GN(o:List Ag):List Ag:=o.set (o.length-1) ⟨(CP o).Node,⟨(CP o).Span.From,(CP o).Span.To+1⟩⟩
def FO(n node:Int):List Aq->Nat->Bool->List Ag->List Ag
 | [],_,_,o=>o
 | e::r,i,j,o=>if Jl n e=true then(if j=true then FO n node r (i+1) true (GN o) else FO n node r (i+1) true (o++[⟨node,⟨i,(i+1:Nat)⟩⟩])) else FO n node r (i+1) false o
theorem eB o c:CP (o++[c])=c:=by grind [CP]
theorem X9{o:List Ag}(h:o≠[]):CP (GN o)=⟨(CP o).Node,⟨(CP o).Span.From,(CP o).Span.To+1⟩⟩:=by
 have j:0<o.length:=ya.2 h
 grind [CP,GN]
theorem Up(o:List Ag):(GN o).length=o.length:=by unfold GN;rw[yh]
theorem dX{o:List Ag}(h:o≠[]):CP o∈o:=by
 have j:0<o.length:=ya.2 h
 exact Bs (by omega)
theorem ko(P:Int->Prop)(n node:Int)(hp:P node):∀(r:List Aq) (i:Nat) (j:Bool) (o:List Ag),(∀c∈o,P c.Node)->∀c∈FO n node r i j o,P c.Node:=by
 intro r
 induction r with
 | nil=>intro i j o h;exact h
 | cons e r l=>
  grind [FO,GN,CP,dX]
theorem lc n node:∀(r:List Aq) (i:Nat) (j:Bool) (o:List Ag),(FO n node r i j o).length<=o.length+r.length:=by
 intro r
 induction r with
 | nil=>intro i j o;exact wy _
 | cons e r l=>
  grind [FO,GN,Up]
theorem Ta{o:List Ag}(h:o≠[]):0<o.length:=ya.2 h
theorem gn{o:List Ag}(h:o≠[]):AO o ((o.length:Int)-1)=some (CP o):=by
 have j:=Ta h
 rw[show((o.length:Int)-1)=((o.length-1:Nat):Int) by omega,Ak (by omega)];rfl
theorem u5{node i}(o:List Ag)(I:o.length<=1099511627775)(J:0<=i/\i<=1048576)(E:o≠[]->(CP o).Node=node->(CP o).Span.To=i->(CP o).Span.To<=1048576) :
  (AB (AX .i64 ((o.length:Int)-1)) λ(j:Int)=>
   AB (gd ((decide (0<=j))==true) (AO o j)) λ(A:Ag)=>
   AB (gd (((0<=j)&&(A.Node=node))==true) (AO o j)) λ(F:Ag)=>
   if(((0<=j)&&(A.Node=node))&&(F.Span.To=i)) then(
    AB (AO o j) λ(m:Ag)=>
    AB (AX .i64 (m.Span.To+1)) λ(q:Int)=>
    some (o.set j.toNat (Ag.mk m.Node (FX.mk m.Span.From q)))
   ) else(
    AB (AX .i64 (i+1)) λ(l:Int)=>
    AB (app 24 o [(Ag.mk node (FX.mk i l))]) λ(w:List Ag)=>
    some w
   ))=some (if o≠[]/\(CP o).Node=node/\(CP o).Span.To=i then GN o else o++[⟨node,⟨i,i+1⟩⟩]):=by
 have B:(AB (AX .i64 (i+1)) λ(l:Int)=>AB (app 24 o [(Ag.mk node (FX.mk i l))]) λ(w:List Ag)=>some w)=some (o++[⟨node,⟨i,i+1⟩⟩]):=by
  grind [Lq,AD,Yt]
 rw[Lq (by omega) (by omega),AD]
 by_cases C:o=[]
 .simp_all
 .have M:=Ta C
  rw[w9 (show(0:Int)<=(o.length:Int)-1 by omega),show(true==true)=true from rfl,Av,gn C,AD,yO]
  by_cases O:(CP o).Node=node
  .grind [Av,AD,CP,Lq,GN]
  .simp_all
def HH(node:Int)(B k:Nat)(c:Bool × Nat × List Ag):Prop:=
 c.2.1=k/\c.2.2.length<=B+k/\(c.1=true->c.2.2≠[]/\(CP c.2.2).Node=node/\(CP c.2.2).Span.To=(k:Int))/\(c.1=false->c.2.2≠[]->(CP c.2.2).Node=node->(CP c.2.2).Span.To<(k:Int))
def Fs(n node:Int)(e:Aq)(c:Bool × Nat × List Ag):Bool × Nat × List Ag:=
 if Jl n e=true then(true,c.2.1+1,if c.1=true then GN c.2.2 else c.2.2++[⟨node,⟨(c.2.1:Int),(c.2.1:Int)+1⟩⟩]) else(false,c.2.1+1,c.2.2)
theorem fF n node e r c:FO n node (e::r) c.2.1 c.1 c.2.2=FO n node r (Fs n node e c).2.1 (Fs n node e c).1 (Fs n node e c).2.2:=by grind [Jl,Fs,FO]
theorem HH.step{n node}{B k}{c}(h:HH node B k c)(e:Aq):HH node B (k+1) (Fs n node e c):=by
 obtain⟨w,i,o⟩:=c
 obtain⟨m,A,q,C⟩:=h
 dsimp only at m A q C
 subst m
 unfold Fs
 split
 .cases w with
  | true=>
   obtain⟨j,E,a3⟩:=q rfl
   refine⟨rfl,?_,λ_=>⟨?_,?_,?_⟩,(λh=>by cases h)⟩
   .dsimp only;rw[if_pos rfl,Up];omega
   .dsimp only;rw[if_pos rfl];intro h;have l:=xc List.length h;rw[Up] at l;have:=Ta j;simp at l;exact j l
   .dsimp only;rw[if_pos rfl,X9 j];exact E
   .dsimp only;rw[if_pos rfl,X9 j];show(CP o).Span.To+1=_;omega
  | false=>
   refine⟨rfl,?_,λ_=>⟨?_,?_,?_⟩,(λh=>by cases h)⟩
   .dsimp only;rw[if_neg (by decide),List.length_append];simp;omega
   .dsimp only;rw[if_neg (by decide)];simp
   .dsimp only;rw[if_neg (by decide),eB]
   .dsimp only;rw[if_neg (by decide),eB];show(i:Int)+1=_;omega
 .refine⟨rfl,by dsimp only;omega,(λh=>by cases h),λ_ F I=>?_⟩
  dsimp only at F I ⊢
  grind
theorem lM{n node}{B k}{c}(h:HH node B k c)(e:Aq)(A:Jl n e=true):(Fs n node e c).2.2=if c.2.2≠[]/\(CP c.2.2).Node=node/\(CP c.2.2).Span.To=(k:Int) then GN c.2.2 else c.2.2++[⟨node,⟨(k:Int),(k:Int)+1⟩⟩]:=by
 obtain⟨w,i,o⟩:=c
 obtain⟨j,l,m,q⟩:=h
 dsimp only at j l m q
 grind [Fs]
theorem HH.start{node}{o:List Ag}(j:o≠[]->(CP o).Node≠node):HH node o.length 0 (false,0,o):=⟨rfl,wy _,(λh=>by cases h),λ_ l m=>absurd m (j l)⟩
theorem sT{n node}(q:Jz n)(x:Ad)(w:∀e∈x.Flow,e.Attrs.length<=9223372036854775807)(C:x.Flow.length<=1048576)(o:List Ag)(E:o.length<=1099510579200)(A:o≠[]->(CP o).Node≠node) :
  iter (λ(a:Int × (List Ag))=>L7 n node x a.1 a.2) (0,o)=some (.ext (FO n node x.Flow 0 false o)):=by
 refine Ex (f:=λ(a:Int × (List Ag))=>L7 n node x a.1 a.2) x.Flow (λ(c:Bool × Nat × List Ag) k=>((k:Int),c.2.2)) (λr c=>(.ext (FO n node r c.2.1 c.1 c.2.2):A3 Unit (List Ag)))
  (HH node o.length) (λk c m l=>.inl ⟨Fs n node x.Flow[k]! c,?_,l.step _,xc A3.ext (fF ..)⟩) (λc l=>?_) (false,0,o) (HH.start A) _ rfl
 .dsimp only
  unfold L7
  rw[ww (by simpa using m),Ak m,AD,iX q,AD,Rx _ _ (w _ (Bs m)),AD]
  by_cases j:Bw x.Flow[k]!.Attrs (P9 n)=[111,110]
  .have B:Jl n x.Flow[k]! = true:=w9 j
   rw[wv (Cv j),u5 c.2.2 (by have:=l.2.1;omega) (by omega) (λ_ _ h=>by omega),AD,Au (by omega),AD,lM l _ B]
  .grind [Jl,DJ,AD,Au,Fs]
 .dsimp only
  unfold L7
  rw[wv (by simp)]
  rfl
theorem jH{n}(q:Jz n)(x:Ad)(A:∀e∈x.Flow,e.Attrs.length<=9223372036854775807)(O:x.Flow.length<=1048576)(o:List Ag)(T:o.length<=1099510579200)(B:o≠[]->(CP o).Node≠x.ID) :
  iter (λ(a:Bool × Int × (List Ag))=>HU n x a.1 a.2.1 a.2.2) (false,0,o)=some (if FJ x.Kind=some true then FO n x.ID x.Flow 0 false o else o):=by
 have C:∃b,FJ x.Kind=some b/\I9 x.Kind=some b:=⟨_,rfl,rfl⟩
 obtain⟨b,E,w⟩:=C
 rw[E]
 cases b with
 | true=>
  rw[ww rfl]
  refine Ex (f:=λ(a:Bool × Int × (List Ag))=>HU n x a.1 a.2.1 a.2.2) x.Flow (λ(c:Bool × Nat × List Ag) k=>(c.1,(k:Int),c.2.2)) (λr c=>FO n x.ID r c.2.1 c.1 c.2.2)
   (HH x.ID o.length) (λk c l j=>.inl ⟨Fs n x.ID x.Flow[k]! c,?_,j.step _,fF ..⟩) (λc j=>?_) (false,0,o) (HH.start B) _ rfl
  .dsimp only
   unfold HU
   rw[ww (by simpa using l),w,AD]
   simp only[yS,Av]
   rw[Ak l,AD,(fw n q.1 q.2).1,AD,cN q,AD,Ri _ _ (A _ (Bs l)),AD,yO]
   by_cases m:Bw x.Flow[k]!.Attrs (P9 n)=[111,110]
   .have F:Jl n x.Flow[k]! = true:=w9 m
    have I:=j.2.1
    have J:=j.1
    unfold Fs
    rw[ww F,w9 m,yO]
    cases M:c.1 with
    | true=>
     obtain⟨U,V,a3⟩:=j.2.2.1 M
     grind [Ta,Lq,AD,gn,Au,GN]
    | false=>
     grind [Au,AD,Yt]
   .grind [Jl,Fs,AD,Au]
  .dsimp only
   unfold HU
   rw[wv (by simp)]
   rfl
 | false=>
  rw[wv (by simp)]
  refine Ex (f:=λ(a:Bool × Int × (List Ag))=>HU n x a.1 a.2.1 a.2.2) x.Flow (λ(c:Unit) k=>(false,(k:Int),o)) (λr c=>o) (λ_ _=>True) (λk c l j=>.inl ⟨(),?_,trivial,rfl⟩) (λc j=>?_) () trivial _ rfl
  .dsimp only
   unfold HU
   rw[ww (by simpa using l),w,AD,show(false==true)=false from rfl,DO,AD,DO,AD,DO,AD,DO,AD,zC,zC,wv (by decide),wv (by decide),AD,Au (by omega),AD]
  .dsimp only
   grind [HU]
end Go.Proofs.YtcgleifameckmaaGreatDoor.Al

set_option linter.unusedVariables false
set_option linter.unusedSimpArgs false
namespace Go.Proofs.YtcgleifameckmaaGreatDoor.Al
open Go
def Ed(t:Ae)(q:Int):Bool:=(t.Remark=q)||(q∈t.Replies)
def Br:List Ae->Int->Option Nat
 | [],_=>none
 | t::r,q=>if Ed t q=true then some 0 else(Br r q).map (· + 1)
def Hc(t:Ae)(q:Int):Ae:=⟨t.Remark,t.Replies++[q],t.Done⟩
theorem SL:∀ {l:List Ae} {q:Int} {k:Nat},Br l q=some k->k<l.length/\Ed l[k]! q=true/\∀j,j<k->Ed l[j]! q=false
 | [],q,k,h=>by cases h
 | t::r,q,k,h=>by
  unfold Br at h
  split at h
  .rename_i m
   cases h
   exact⟨by simp,m,λj w=>by omega⟩
  .rename_i m
   obtain⟨C,A,rfl⟩:=xK.1 h
   obtain⟨E,e2,B⟩:=SL A
   refine⟨by simp;omega,by simpa using e2,λj w=>?_⟩
   cases j with
   | zero=>simpa using m
   | succ j=>simpa using B j (by omega)
theorem YP:∀ {l:List Ae} {q:Int},Br l q=none->∀j,j<l.length->Ed l[j]! q=false
 | [],q,h=>λj m=>by simp at m
 | t::r,q,h=>λj m=>by
  unfold Br at h
  split at h
  .cases h
  .rename_i w
   cases j with
   | zero=>simpa using w
   | succ j=>
    have A:Br r q=none:=by
     cases B:Br r q with
     | none=>rfl
     | some k=>rw[B] at h;cases h
    simpa using YP A j (by simpa using m)
theorem eN:∀(l:List Ae) (t:Ae) (q:Int),Br (l++[t]) q=match Br l q with | some k=>some k | none=>if Ed t q=true then some l.length else none
 | [],t,q=>by simp[Br]
 | a::r,t,q=>by
  rw[yV]
  unfold Br
  split
  .rfl
  .rw[eN r t q]
   cases Br r q with
   | some k=>rfl
   | none=>
    simp only[zY]
    split<;>simp
theorem U3:∀(l:List Ae) {k:Nat} {id:Int} (q:Int),k<l.length->Br l id=none->Br (l.set k (Hc l[k]! id)) q=if q=id then some k else Br l q
 | [],k,id,q,A,_=>by simp at A
 | a::r,k,id,q,A,j=>by
  have w:¬ Ed a id=true:=by
   intro h;unfold Br at j;rw[ww h] at j;cases j
  have B:Br r id=none:=by
   unfold Br at j
   rw[wv w] at j
   cases E:Br r id with
   | none=>rfl
   | some k=>rw[E] at j;cases j
  cases k with
  | zero=>
   show Br (Hc a id::r) q=_
   by_cases m:q=id
   .subst m
    rw[ww rfl]
    unfold Br
    rw[ww]
    simp[Ed,Hc]
   .rw[wv m]
    have:Ed (Hc a id) q=Ed a q:=by
     unfold Ed Hc
     simp[m]
    unfold Br
    rw[this]
  | succ k=>
   have C:k<r.length:=by simpa using A
   have e:(a::r)[k+1]! = r[k]!:=by simp
   rw[e]
   show Br (a::r.set k (Hc r[k]! id)) q=_
   have F:=U3 r q C B
   unfold Br
   rw[F]
   by_cases m:q=id
   .subst m
    rw[wv w,ww rfl,ww rfl];rfl
   .rw[wv m,wv m]
def D4:List UInt8:=[114,101,112,108,121]
def mZ:List UInt8:=[100,111,110,101]
def Kd(n:Ad)(id:Int):Ae:=⟨id,[],decide (Bw n.Attrs mZ=[111,110])⟩
def SY(l:List Ae)(n:Ad)(id:Int):List Ae:=
 match Br l (CU (Bw n.Attrs D4)) with
 | some k=>l.set k (Hc l[k]! id)
 | none=>l++[Kd n id]
theorem eS:∀(l:List Int) (b:Bool) (q:Int),l.foldl (λb x=>b||(x=q)) b=(b||(q∈l))
 | [],b,q=>by simp
 | x::l,b,q=>by
  rw[yK,eS l,Bool.or_assoc]
  congr 1
  by_cases h:x=q
  .subst h;simp
  .have:¬ q=x:=λe=>h e.symm
   simp[h,this]
theorem ix q(t:Ae)(m:t.Replies.length<=1048576):iter (λ(a:Bool × Int)=>JC q t a.1 a.2) ((decide (t.Remark=q)),0)=some (Ed t q):=by
 have:=Ex (f:=λ(a:Bool × Int)=>JC q t a.1 a.2) t.Replies (λ(c:Bool) k=>(c,(k:Int))) (λr c=>r.foldl (λb x=>b||(x=q)) c) (λ_ _=>True)
  (λk c l _=>.inl ⟨c||(t.Replies[k]! = q),by
   dsimp only
   unfold JC
   rw[ww (by simpa using l)]
   cases c with
   | true=>rw[show((true:Bool)==false)=false from rfl,DO,AD,Au (by omega),AD];rfl
   | false=>rw[show((false:Bool)==false)=true from rfl,Av,Ak l,AD,Au (by omega),AD],trivial,by rw[yK]⟩)
  (λc _=>by
   dsimp only
   unfold JC
   rw[wv (by simp)]
   rfl) (decide (t.Remark=q)) trivial _ rfl
 have j:iter (λ(a:Bool × Int)=>JC q t a.1 a.2) ((decide (t.Remark=q)),0)=_:=this
 rw[j,eS]
 rfl
theorem oH(l:List Ae)(n:Ad)(I:n.Attrs.length<=9223372036854775807)(V:l.length<=1048576)(m:∀t∈l,t.Replies.length<=1048576):Ov l n=some (SY l n n.ID):=by
 unfold Ov
 rw[Ri _ _ I,AD,Yg,AD]
 obtain⟨b,O,T⟩:=Jo (f:=λ(a:Int)=>Kx l n (CU (Bw n.Attrs D4)) a) l.length (λk s=>s=(k:Int)/\∀j,j<k->Ed l[j]! (CU (Bw n.Attrs D4))=false)
  (λb=>(∃k,k<l.length/\Ed l[k]! (CU (Bw n.Attrs D4))=true/\(∀j,j<k->Ed l[j]! (CU (Bw n.Attrs D4))=false)/\b=(.ext (l.set k (Hc l[k]! n.ID)):A3 Unit (List Ae)))\/(b=.nrm ()/\∀j,j<l.length->Ed l[j]! (CU (Bw n.Attrs D4))=false))
  (λk s q C=>by
   obtain⟨rfl,w⟩:=C
   unfold Kx
   rw[ww (by simpa using q),Ak q,AD,ix _ _ (m _ (Bs q)),AD]
   by_cases A:Ed l[k]! (CU (Bw n.Attrs D4))=true
   .right
    rw[ww A,Ky (by have:=m _ (Bs q);omega),AD]
    exact⟨_,rfl,.inl ⟨k,q,A,w,by rw[yo];rfl⟩⟩
   .left
    rw[wv A,Au (by omega),AD]
    refine⟨_,rfl,rfl,λj E=>?_⟩
    rcases Nat.lt_succ_iff_lt_or_eq.1 E with h | h
    .exact w j h
    .rw[h];simpa using A)
  (λs C=>by
   obtain⟨rfl,w⟩:=C
   unfold Kx
   rw[wv (by simp)]
   exact⟨_,rfl,.inr ⟨rfl,w⟩⟩)
  (s:=0) ⟨rfl,λj w=>by omega⟩
 show A7 (iter (λ(a:Int)=>Kx l n (CU (Bw n.Attrs D4)) a) 0) _=_
 rw[O]
 unfold SY
 rcases T with ⟨k,q,J,F,rfl⟩ | ⟨rfl,F⟩
 .rw[G6]
  have:Br l (CU (Bw n.Attrs D4))=some k:=by
   cases m:Br l (CU (Bw n.Attrs D4)) with
   | none=>have:=YP m k q;rw[J] at this;cases this
   | some B=>
    obtain⟨M,e2,U⟩:=SL m
    rcases Nat.lt_trichotomy k B with h | h | h
    .have:=U k h;rw[J] at this;cases this
    .rw[h]
    .have:=F B h;rw[e2] at this;cases this
  rw[this]
 .rw[Mx,Ri _ _ I,AD]
  have:Br l (CU (Bw n.Attrs D4))=none:=by
   cases m:Br l (CU (Bw n.Attrs D4)) with
   | none=>rfl
   | some B=>
    obtain⟨M,e2,_⟩:=SL m
    have:=F B M;rw[e2] at this;cases this
  rw[this]
  show AB (app 40 l [Kd n n.ID]) _=_
  rw[YZ (by simp;omega),AD]
theorem pQ{n:Ad}(h:GW n)(j:DM n=some 0):B1 n.Attrs false=0:=by
 have l:=h.ok.at_
 unfold DM at j
 split at j
 .cases j
 split at j
 .cases j
 obtain⟨e,m,j⟩:=Be j
 rw[Oc _ l.2 (by have:=l.1;omega)] at m
 grind
structure I8(d:Ac)(done:Int->Prop)(N:Nat)(s:List Ae × List (Int × Int)):Prop where
 map:∀q,AR s.2 q=(Br s.1 q).map λ(k:Nat)=>(k:Int)
 ids:∀q k,Br s.1 q=some k->done q
 dn:∀q,done q->Cr d q
 len:s.1.length<=N
 rep:∀t∈s.1,t.Replies.length<=N
def G0(d:Ac)(v:As)(l:List Ae):List Ae:=if(Bu d v.id).Kind=12 then SY l (Bu d v.id) v.id else l
theorem I8.step{d:Ac}(hg:Cy d){done}{N}{s}(h:I8 d done N s)(hN:N<=1048576)(v:As)(hv:Cr d v.id)(X:¬ done v.id) :
  ∃m,Ij d s.1 s.2 v.id v.parent=some (G0 d v s.1,m)/\I8 d (λq=>done q\/q=v.id) (N+1) (G0 d v s.1,m):=by
 obtain⟨k,hk⟩:=hv
 obtain⟨E,aa⟩:=FC hk
 have a7:=UJ hk
 have Z:d.Nodes[k]!.Attrs.length<=9223372036854775807:=by
  have:=(hg.ok.2 _ (Bs E)).ok.at_.1
  omega
 have J:Br s.1 v.id=none:=by
  cases l:Br s.1 v.id with
  | none=>rfl
  | some k=>exact(X (h.ids _ _ l)).elim
 have M:∀q,(done q\/q=v.id)->Cr d q:=λq A=>A.elim (h.dn q) λe=>e ▸ ⟨k,hk⟩
 unfold Ij G0
 rw[XJ _ hg.ok.1 hg.srt,hk,AD]
 dsimp only
 rw[Ak E,AD,a7]
 by_cases F:d.Nodes[k]!.Kind=12
 .rw[wv (Cv F),ww F,Rx _ _ Z,AD]
  have ab:=bJ (pQ (hg.ok.2 _ (Bs E)) ((NA hg.ok hg.ch).2 k E)) D4
  show ∃m,(B3 (Jb (Bw d.Nodes[k]!.Attrs D4)) _)=_/\_
  have key:∃C V,Jb (Bw d.Nodes[k]!.Attrs D4)=some (C,V)/\(V=true -> -9223372036854775808<=C/\C<=9223372036854775807)/\∀n,1<=n->n<=1073741824->((V=true/\C=n/\Lib.itoa C=Bw d.Nodes[k]!.Attrs D4)↔CU (Bw d.Nodes[k]!.Attrs D4)=n):=by
   generalize Bw d.Nodes[k]!.Attrs D4=s at *
   unfold Jb atoiS
   rw[ww (by omega)]
   rcases hA:Lib.atoiAll s with w | _ | _
   .refine⟨w,true,rfl,λ_=>Lib.atoiAll_bounds hA,λn n1 n2=>?_⟩
    rw[<- OO s n n1 n2,hA]
    grind
   .refine⟨_,false,rfl,(λh=>by cases h),λn n1 n2=>?_⟩
    rw[<- OO s n n1 n2,hA]
    grind
   .refine⟨_,false,rfl,(λh=>by cases h),λn n1 n2=>?_⟩
    rw[<- OO s n n1 n2,hA]
    grind
  obtain⟨C,V,e1,e2,e3⟩:=key
  rw[e1,By]
  unfold SY
  have I:∀q B,Br s.1 q=some B->1<=q/\q<=1073741824:=λq B A=>by
   obtain⟨j,hj⟩:=h.dn q (h.ids q B A)
   exact OQ hg.ids hj
  have a0:∀q,(AR s.2 q).isSome=(Br s.1 q).isSome:=λq=>by rw[h.map];cases Br s.1 q<;>rfl
  have O:∀m,(∀q,AR m q=if q=v.id then some (s.1.length:Int) else AR s.2 q)->I8 d (λq=>done q\/q=v.id) (N+1) (s.1++[Kd d.Nodes[k]! v.id],m):=by
   intro m hm
   have a6:∀q,Br (s.1++[Kd d.Nodes[k]! v.id]) q=if q=v.id then some s.1.length else Br s.1 q:=by
    grind [eN,Ed,Kd,Br]
   refine⟨λq=>?_,λq B A=>?_,M,by dsimp only;rw[List.length_append];have:=h.len;simp;omega,λt l=>?_⟩
   .dsimp only
    rw[hm,a6]
    split
    .rfl
    .exact h.map q
   .dsimp only at A
    rw[a6] at A
    split at A
    .grind
    .exact .inl (h.ids q B A)
   .rcases yY.1 l with l | l
    .exact xW (h.rep t l) (zH _)
    .rw[zA.1 l];exact yL _
  cases l:Br s.1 (CU (Bw d.Nodes[k]!.Attrs D4)) with
  | some B=>
   obtain⟨q1,q2⟩:=I _ _ l
   obtain⟨b1,b2,b3⟩:=(e3 _ q1 q2).2 rfl
   obtain⟨c1,_,_⟩:=SL l
   subst b1
   rw[<- b2] at l
   have hb:=e2 rfl
   rw[a0,l]
   unfold strconv_Itoa itoaS
   rw[ww hb,show(((some B).isSome&&true)==true)=true from rfl,Av,AD,w9 (show Lib.itoa C=Bw d.Nodes[k]!.Attrs [114,101,112,108,121] from b3),ww (show(((some B).isSome&&true)&&true)=true from rfl),h.map,l]
   dsimp only [Option.map_some,Option.getD_some]
   rw[Ak c1,AD,Ky (by have:=h.rep _ (Bs c1);omega),AD,yo]
   refine⟨_,rfl,λq=>?_,λq j A=>?_,M,by dsimp only;rw[List.length_set];have:=h.len;omega,λt l=>?_⟩
   .dsimp only
    show AR (Am s.2 v.id (B:Int)) q=(Br (s.1.set B (Hc s.1[B]! v.id)) q).map _
    rw[PD,U3 _ _ c1 J]
    split
    .rfl
    .exact h.map q
   .dsimp only at A
    have A:Br (s.1.set B (Hc s.1[B]! v.id)) q=some j:=A
    rw[U3 _ _ c1 J] at A
    split at A
    .grind
    .exact .inl (h.ids q j A)
   .rcases yp l with l | rfl
    .exact xW (h.rep t l) (zH _)
    .show(s.1[B]!.Replies++[v.id]).length<=N+1
     have:=h.rep _ (Bs c1)
     grind
  | none=>
   have a8:¬ ((AR s.2 C).isSome=true/\V=true/\Lib.itoa C=Bw d.Nodes[k]!.Attrs D4):=by
    rintro⟨a1,a2,a3⟩
    rw[a0] at a1
    obtain⟨j,hj⟩:=Option.isSome_iff_exists.1 a1
    grind
   have T:(AB (IS d.Nodes[k]!.Attrs [100,111,110,101]) λ(r5:List UInt8)=>AB (app 40 s.1 [(Ae.mk v.id [] (decide (r5=[111,110])))]) λ(l2:List Ae)=>some (l2,(Am s.2 v.id (s.1.length:Int))))=some (s.1++[Kd d.Nodes[k]! v.id],Am s.2 v.id (s.1.length:Int)):=by
    rw[Rx _ _ Z,AD]
    show(AB (app 40 s.1 [Kd d.Nodes[k]! v.id]) _)=_
    rw[YZ (by have:=h.len;simp;omega),AD]
   refine⟨Am s.2 v.id (s.1.length:Int),?_,O _ λq=>PD _ _ _ _⟩
   cases hc:((AR s.2 C).isSome&&V) with
   | true=>
    have U:=yt.1 hc
    unfold strconv_Itoa itoaS
    rw[ww (e2 U.2),show(true==true)=true from rfl,Av,AD,w0 (show ¬ Lib.itoa C=Bw d.Nodes[k]!.Attrs [114,101,112,108,121] from λe=>a8 ⟨U.1,U.2,e⟩),wv (by decide)]
    exact T
   | false=>
    simp_all
 .rw[ww (DJ F),wv F]
  exact⟨s.2,rfl,h.map,λq B A=>.inl (h.ids q B A),M,xW h.len (zH _),λt l=>xW (h.rep t l) (zH _)⟩
end Go.Proofs.YtcgleifameckmaaGreatDoor.Al

set_option linter.unusedVariables false
set_option linter.unusedSimpArgs false
namespace Go.Proofs.YtcgleifameckmaaGreatDoor.Al
open Go
theorem fV{d}(h:JR d):QK d=some d:=by
 obtain⟨l⟩:=d
 obtain⟨C,A⟩:=h
 dsimp only at C A
 unfold QK
 have w:mk 152 (l.length:Int) (Ad.mk 0 0 [] [] (BJ.mk 0 0 [] []) [])=some (List.replicate l.length (Ad.mk 0 0 [] [] (BJ.mk 0 0 [] []) [])):=by
  unfold mk
  rw[ww ⟨by omega,by omega,by omega⟩,yo]
 dsimp only
 rw[w,AD]
 have key:∀j k,k+j=l.length->iter (λ(a:Int × Ac)=>Ix ⟨l⟩ a.1 a.2) ((k:Int),⟨l.take k++List.replicate j (Ad.mk 0 0 [] [] (BJ.mk 0 0 [] []) [])⟩)=some ⟨l⟩:=by
  intro j
  induction j with
  | zero=>
   intro k E
   refine Bj ?_
   show Ix ⟨l⟩ (k:Int) _=_
   unfold Ix
   rw[wv (by simp;omega),z8 (by omega)]
   simp
  | succ j F=>
   intro k E
   have m:k<l.length:=by omega
   rw[CF (s':=(((k+1:Nat):Int),⟨l.take (k+1)++List.replicate j (Ad.mk 0 0 [] [] (BJ.mk 0 0 [] []) [])⟩)) (by
    show Ix ⟨l⟩ (k:Int) _=_
    unfold Ix
    have B:(l.take k++List.replicate (j+1) (Ad.mk 0 0 [] [] (BJ.mk 0 0 [] []) [])).length=l.length:=by simp;omega
    dsimp only
    rw[ww (by simpa using m),Ak m,AD,jb _ (A _ (Bs m)).ok,AD,Ak (by omega),AD,Au (by omega),AD,yo]
    congr 4
    rw[Oo m,yQ,WAN _ _ (by simp;omega),yZ,Nat.min_eq_left (by omega),zW]
    rfl)]
   exact F (k+1) (by omega)
 have:=key l.length 0 (by omega)
 rw[List.take_zero,yR] at this
 have q:iter (λ(a:Int × Ac)=>Ix ⟨l⟩ a.1 a.2) (0,⟨List.replicate l.length (Ad.mk 0 0 [] [] (BJ.mk 0 0 [] []) [])⟩)=_:=this
 rw[q,AD]
end Go.Proofs.YtcgleifameckmaaGreatDoor.Al
