/- Plain laws over the models, a part of them. -/
import Derived.Test.YtioekebmplhlmaaGreatDoorMod1
import Derived.Lib.DecodeNEq
import Derived.Lib.TrimUEq
import Derived.Lib.ValidLaws
set_option linter.all false
namespace Go.Proofs.YtioekebmplhlmaaGreatDoor.Al
@[simp] theorem AC {a α:Type} (x:a) (f:a→Option α):AB (some x) f=f x:=rfl
@[simp] theorem D3 {a b α:Type} (x:a) (y:b) (f:a→b→Option α):CZ (some (x,y)) f=f x y:=rfl
@[simp] theorem Ye {a b c α:Type} (x:a) (y:b) (z:c) (f:a→b→c→Option α):WJ (some (x,y,z)) f=f x y z:=rfl
@[simp] theorem RJ {a b c d α:Type} (x:a) (y:b) (z:c) (u:d) (f:a→b→c→d→Option α):L7 (some (x,y,z,u)) f=f x y z u:=rfl
@[simp] theorem H8 {a α:Type} (x:a) (f:a→Option α):Ap (some (.nrm x)) f=f x:=rfl
@[simp] theorem JR {a α:Type} (t:α) (f:a→Option α):Ap (some (.ext t)) f=some t:=rfl
@[simp] theorem Yf {a b α:Type} (x:a) (y:b) (f:a→b→Option α):QU (some (.nrm (x,y))) f=f x y:=rfl
@[simp] theorem Yl {a b α:Type} (t:α) (f:a→b→Option α):QU (some (.ext t)) f=some t:=rfl
@[simp] theorem Yi {a b c α:Type} (x:a) (y:b) (z:c) (f:a→b→c→Option α):Oh (some (.nrm (x,y,z))) f=f x y z:=rfl
@[simp] theorem Yj {a b c α:Type} (t:α) (f:a→b→c→Option α):Oh (some (.ext t)) f=some t:=rfl
@[simp] theorem Am {α:Type} [Inhabited α] (m:Option α):gd true m=m:=rfl
@[simp] theorem G5 {α:Type} [Inhabited α] (m:Option α):gd false m=some default:=rfl
theorem Aa {α:Type} [Inhabited α] {l:List α} {k:Nat} (h:k<l.length):AM l (k:Int)=some l[k]!:=by grind [AM]
theorem An {k:Nat} (h:k<9223372036854775807):AS .i64 ((k:Int)+1)=some (((k+1:Nat)):Int):=by grind [Bi]
theorem EA {k:Nat} (h:0<k) (h2:k≤9223372036854775807):AS .i64 ((k:Int)-1)=some ((k-1:Nat):Int):=by grind [Bi]
def BZ {ρ:Type} (k:Nat):Option ρ→Option (Int ⊕ Aj Unit ρ)
 | none=>some (.inl ((k+1:Nat):Int))
 | some r=>some (.inr (.ext r))
def Cr {ρ:Type} : Option ρ→Aj Unit ρ
 | none=>.nrm ()
 | some r=>.ext r
theorem BY {ρ:Type} {f:Int→Option (Int ⊕ Aj Unit ρ)} {n:Nat} (g:Nat→Option ρ) (h1 : ∀ k:Nat,k<n→f k=BZ k (g k))
  (h2:f n=some (.inr (.nrm ()))):iter f 0=some (Cr ((List.range n).findSome? g)):=by
 have key : ∀ m k:Nat,k+m=n→iter f (k:Int)=some (Cr ((List.range' k m).findSome? g)):=by
  intro m
  induction m with
  | zero=>
   intro k hk
   obtain rfl:k=n:=by omega
   rw [Bc h2]; rfl
  | succ m ih=>
   intro k hk
   rw [List.range'_succ,List.findSome?_cons]
   have:=h1 k (by omega)
   cases hg:g k with
   | none=>rw [hg] at this; rw [B1 this,ih (k+1) (by omega)]
   | some r=>rw [hg] at this; rw [Bc this]; rfl
 rw [List.range_eq_range']
 grind
theorem Xs {α ρ:Type} {l:List α} {g h:α→Option ρ} (e : ∀ x∈l,g x=h x):l.findSome? g=l.findSome? h:=by
 induction l with
 | nil=>rfl
 | cons a l ih=>grind
theorem M8 {α ρ:Type} [Inhabited α] (l:List α) (p:α→Bool) (r:ρ):(List.range l.length).findSome? (fun k=>if p l[k]! then none else some r)=if l.all p then none else some r:=by
 induction l with
 | nil=>rfl
 | cons a l ih=>
  rw [List.length_cons,List.range_succ_eq_map,List.findSome?_cons,List.findSome?_map]
  grind [Xs]
theorem Ce {ρ:Type} (o:Option ρ) (f:Unit→Option ρ):Ap (some (Cr o)) f=match o with | none=>f () | some r=>some r:=by cases o <;> rfl
def Es (c:UInt8):Bool:=(decide (97≤c.toNat) && decide (c.toNat≤122)) || (decide (48≤c.toNat) && decide (c.toNat≤57)) || decide (c.toNat=46) || decide (c.toNat=45)
def De (s:List UInt8):Bool:=decide (1≤s.length) && decide (s.length≤24) && (decide (97≤s[0]!.toNat) && decide (s[0]!.toNat≤122)) && s.all Es
def EU (c:UInt8):Bool:=decide (32≤c.toNat) && decide (c.toNat≤126)
def Er (s:List UInt8):Bool:=decide (1≤s.length) && decide (s.length≤200) && s.all EU
theorem Xa (s:List UInt8) (k:Nat) (hk:k<s.length) (hm:s.length≤9223372036854775807):Hs s k=BZ k (if Es s[k]! then none else some false):=by
 unfold Hs
 rw [if_pos (by simpa using hk),Aa hk,AC,An (by omega)]
 generalize s[k]! = c
 have e:(((((decide ((c.toNat:Int)<97)) || (decide (122<(c.toNat:Int)))) && ((decide ((c.toNat:Int)<48)) || (decide (57<(c.toNat:Int))))) && (!decide ((c.toNat:Int)=46))) && (!decide ((c.toNat:Int)=45))) = !Es c:=by
  grind [Es]
 rw [e]
 cases Es c <;> rfl
theorem Ls (s:List UInt8) (hm:s.length≤9223372036854775807):HD s=some (De s):=by
 unfold HD
 rw [BY (n:=s.length) (fun k=>if Es s[k]! then none else some false) (fun k hk=>Xa s k hk hm) (by unfold Hs; rw [if_neg (by simp)]),M8]
 unfold De
 cases s with
 | nil=>simp
 | cons c t=>
  have h0:AM (c :: t) 0=some c:=rfl
  rw [h0]
  simp only [List.getElem!_cons_zero,decide_eq_false (List.cons_ne_nil c t),Bool.false_or]
  generalize (c :: t).all Es=al
  generalize hl:(c :: t).length=L
  have hL:1≤L:=by grind
  by_cases h1:24<(L:Int)
  ·have e1:decide (L≤24)=false:=by simp; omega
   simp [h1,e1]
  ·rw [decide_eq_false h1]
   simp only [Bool.false_or,beq_self_eq_true,Am,AC]
   have e1:decide (L≤24)=true:=by simp; omega
   have e2:decide (1≤L)=true:=by simp; omega
   rw [e1,e2]
   by_cases h2:(c.toNat:Int)<97
   ·have e3:decide (97≤c.toNat)=false:=by simp; omega
    simp [h2,e3]
   ·grind [Am,AC,Ce]
def HV (k:Nat) (c:UInt8):Bool:=(decide (97≤c.toNat) && decide (c.toNat≤122)) || (decide (k≠0) && Es c)
theorem Sg (s:List UInt8) (k:Nat) (hk:k<s.length) (hm:s.length≤9223372036854775807) :
  Ho s k=BZ k (if HV k s[k]! then none else some false):=by
 unfold Ho
 rw [if_pos (by simpa using hk),Aa hk,AC,An (by omega)]
 generalize s[k]! = c
 have e:((!((decide (97≤(c.toNat:Int))) && (decide ((c.toNat:Int)≤122)))) && ((decide ((k:Int)=0)) || (((!decide ((c.toNat:Int)=46)) && (!decide ((c.toNat:Int)=45))) && ((decide ((c.toNat:Int)<48)) || (decide (57<(c.toNat:Int))))))) = !HV k c:=by
  grind [HV,Es]
 rw [e]
 cases HV k c <;> rfl
theorem W6 {α:Type} [Inhabited α] (l:List α) (p:α→Bool):l.all p=true ↔ ∀ k,k<l.length→p l[k]! = true:=by
 rw [List.all_eq_true]
 constructor
 ·grind
 ·intro h x hx
  obtain ⟨k,hk,rfl⟩:=List.mem_iff_getElem.1 hx
  grind
theorem FD {ρ:Type} (n:Nat) (p:Nat→Bool) (r:ρ):(List.range n).findSome? (fun k=>if p k then none else some r)=if (List.range n).all p then none else some r:=by
 generalize List.range n=l
 induction l with
 | nil=>rfl
 | cons a l ih=>grind
theorem Nh (s:List UInt8) (hm:s.length≤9223372036854775807):Gj s=some (De s):=by
 unfold Gj
 rw [BY (n:=s.length) (fun k=>if HV k s[k]! then none else some false) (fun k hk=>Sg s k hk hm) (by unfold Ho; rw [if_neg (by simp)]),FD,Ce]
 grind [HV,Es,W6,De]
theorem PZ (s:List UInt8) (hm:s.length≤9223372036854775807):Ii s=some (Er s):=by
 unfold Ii Er
 rw [BY (n:=s.length) (fun k=>if EU s[k]! then none else some false) (fun k hk=>by
  unfold KM
  rw [if_pos (by simpa using hk),Aa hk,AC,An (by omega)]
  generalize s[k]! = c
  have e:((decide ((c.toNat:Int)<32)) || (decide (126<(c.toNat:Int)))) = !EU c:=by
   grind [EU]
  rw [e]
  cases EU c <;> rfl) (by unfold KM; rw [if_neg (by simp)]),M8,Ce]
 generalize s.all EU=al
 cases s with
 | nil=>simp
 | cons c t=>
  rw [decide_eq_false (List.cons_ne_nil c t),Bool.false_or]
  generalize hl:(c :: t).length=L
  have hL:1≤L:=by grind
  grind
theorem Q2 (s:List UInt8) (hm:s.length≤9223372036854775807):H9 s=some (Er s):=by
 unfold H9 Er
 rw [BY (n:=s.length) (fun k=>if EU s[k]! then none else some false) (fun k hk=>by
  unfold Ji
  rw [if_pos (by simpa using hk),Aa hk,AC,An (by omega)]
  generalize s[k]! = c
  have e:((decide ((c.toNat:Int)<32)) || (decide (126<(c.toNat:Int)))) = !EU c:=by
   grind [EU]
  rw [e]
  cases EU c <;> rfl) (by unfold Ji; rw [if_neg (by simp)]),M8,Ce]
 generalize s.all EU=al
 have e1:decide (1≤(s.length:Int))=decide (1≤s.length):=by simp; omega
 have e2:decide ((s.length:Int)≤200)=decide (s.length≤200):=by simp; omega
 grind
theorem Pz (a b:UInt8) (x y:List UInt8):Bt (a :: x) (b :: y)=(decide (a<b) || (a == b && Bt x y)):=rfl
theorem QL : ∀ (a b:List UInt8),(Bt a b || decide (a=b)) = !Bt b a
 | [],[]=>rfl
 | [],_ :: _=>rfl
 | _ :: _,[]=>rfl
 | a :: x,b :: y=>by
  rw [Pz,Pz]
  have ih:=QL x y
  by_cases h:a=b
  ·subst h
   have h1 : ¬ a<a:=fun h=>by simp [UInt8.lt_iff_toNat_lt] at h
   simp only [decide_eq_false h1,beq_self_eq_true,Bool.true_and,Bool.false_or,List.cons.injEq,true_and]
   exact ih
  ·have h2:(a == b)=false:=by simpa using h
   have h3:(b == a)=false:=by simpa using fun e:b=a=>h e.symm
   have h4 : ¬ (a :: x=b :: y):=fun e=>h (List.cons.inj e).1
   rw [h2,h3,decide_eq_false h4]
   simp only [Bool.false_and,Bool.or_false]
   have h5:a.toNat≠b.toNat:=fun e=>h (UInt8.toNat_inj.1 e)
   by_cases hlt:a<b
   ·have : ¬ b<a:=by rw [UInt8.lt_iff_toNat_lt] at hlt ⊢; omega
    simp [hlt,this]
   ·have:b<a:=by rw [UInt8.lt_iff_toNat_lt] at hlt ⊢; omega
    simp [hlt,this]
def Fa (l:List Ab):Prop:=∀ a∈l,a.Name.length≤9223372036854775807∧a.Value.length≤9223372036854775807
def HA (l:List Ab) (ch:Bool) (k:Nat):Option Int:=
 if De l[k]!.Name=false then some 9 else if Er l[k]!.Value=false ∧ ¬ (ch=true∧l[k]!.Value=[]) then some 23 else if 0<k∧Bt l[k-1]!.Name l[k]!.Name=false then some 5 else none
def FE (l:List Ab) (ch:Bool):Int:=((List.range l.length).findSome? (HA l ch)).getD 0
theorem Fa.at {l:List Ab} (h:Fa l) {k:Nat} (hk:k<l.length):l[k]!.Name.length≤9223372036854775807∧l[k]!.Value.length≤9223372036854775807:=by
 rw [getElem!_pos l k hk]; exact h _ (List.getElem_mem hk)
theorem WH (l:List Ab) (ch:Bool) (h:Fa l) (hm:l.length≤9223372036854775807) (k:Nat) (hk:k<l.length):Hj l ch k=BZ k (HA l ch k):=by
 unfold Hj HA
 obtain ⟨hn1,hn2⟩:=h.at hk
 rw [if_pos (by simpa using hk),Aa hk,AC]
 generalize l[k]! = x at hn1 hn2 ⊢
 rw [Ls _ hn1,AC]
 cases De x.Name
 ·rfl
 rw [if_neg (by decide),if_neg (by decide),PZ _ hn2,AC,An (by omega)]
 by_cases hv:Er x.Value=false ∧ ¬ (ch=true∧x.Value=[])
 ·rw [if_pos hv,if_pos (by simp [hv.1]; cases ch <;> simp_all)]; rfl
 rw [if_neg hv,if_neg (by intro e; simp at e; exact hv ⟨e.1,by rintro ⟨a,b⟩; simp [a,b] at e⟩)]
 by_cases hk0:k=0
 ·subst hk0; rfl
 ·have h0:decide ((0:Int)<(k:Int))=true:=by simp; omega
  rw [h0,EA (by omega) (by omega)]
  simp only [beq_self_eq_true,Am,AC,Bool.true_and]
  rw [Aa (by omega),AC,QL]
  have:(0<k∧Bt l[k-1]!.Name x.Name=false)↔Bt l[k-1]!.Name x.Name=false:=by grind
  simp only [this]
  cases Bt l[k-1]!.Name x.Name <;> rfl
theorem U1 (l:List Ab) (ch:Bool) (h:Fa l) (hm:l.length≤9223372036854775807) (k:Nat) (hk:k<l.length):Im l ch k=BZ k (HA l ch k):=by
 unfold Im HA
 obtain ⟨hn1,hn2⟩:=h.at hk
 rw [if_pos (by simpa using hk),Aa hk,AC]
 generalize l[k]! = x at hn1 hn2 ⊢
 rw [Nh _ hn1,AC]
 cases De x.Name
 ·rfl
 rw [if_neg (by decide),if_neg (by decide),Q2 _ hn2,AC,An (by omega)]
 by_cases hv:Er x.Value=false ∧ ¬ (ch=true∧x.Value=[])
 ·rw [if_pos hv,if_pos (by simp [hv.1]; cases ch <;> simp_all)]; rfl
 rw [if_neg hv,if_neg (by intro e; simp at e; exact hv ⟨e.1,by rintro ⟨a,b⟩; simp [a,b] at e⟩)]
 by_cases hk0:k=0
 ·subst hk0; rfl
 ·have h0:decide ((0:Int)<(k:Int))=true:=by simp; omega
  rw [h0,EA (by omega) (by omega)]
  simp only [beq_self_eq_true,Am,AC,Bool.true_and]
  rw [Aa (by omega),AC]
  have:(0<k∧Bt l[k-1]!.Name x.Name=false)↔Bt l[k-1]!.Name x.Name=false:=by grind
  simp only [this]
  cases Bt l[k-1]!.Name x.Name <;> rfl
theorem EG {o:Option Int} : (Ap (some (Cr o)) fun _:Unit=>some 0)=some (o.getD 0):=by cases o <;> rfl
theorem Rg (l:List Ab) (ch:Bool) (h:Fa l) (hm:l.length≤9223372036854775807):Is l ch=some (FE l ch):=by
 unfold Is
 rw [BY (n:=l.length) (HA l ch) (fun k hk=>WH l ch h hm k hk) (by unfold Hj; rw [if_neg (by simp)]),EG]; rfl
theorem NV (l:List Ab) (ch:Bool) (h:Fa l) (hm:l.length≤9223372036854775807):GT l ch=some (FE l ch):=by
 unfold GT
 rw [BY (n:=l.length) (HA l ch) (fun k hk=>U1 l ch h hm k hk) (by unfold Im; rw [if_neg (by simp)]),EG]; rfl
theorem MS (l:List Ab) (h:Fa l) (hm:l.length≤9223372036854775807):Fl l=some (FE l false):=by simp_all [Fl,Rg]
def No (l:List Ab) (name:List UInt8):List UInt8:=((List.range l.length).findSome? fun k=>if l[k]!.Name=name then some l[k]!.Value else none).getD []
def G6:Ab:=⟨[],[]⟩
def Dy (stp:Ab→Ab→List Ab→List Ab):List Ab→List Ab→List Ab→List Ab
 | [],[],c=>c
 | x :: a,[],c=>Dy stp a [] (stp x G6 c)
 | [],y :: b,c=>Dy stp [] b (stp G6 y c)
 | x :: a,y :: b,c=>if Bt x.Name y.Name then Dy stp a (y :: b) (stp x G6 c) else if Bt y.Name x.Name then Dy stp (x :: a) b (stp G6 y c) else Dy stp a b (stp x y c)
  termination_by a b=>a.length+b.length
def P7 (stp:Ab→Ab→List Ab→List Ab) (a b:List Ab) (i j:Nat) (o:List Ab):Option ((Int × Int × List Ab) ⊕ Aj Unit (List Ab)):=
 if i<a.length∨j<b.length then
  if j=b.length∨(i<a.length∧Bt a[i]!.Name b[j]!.Name=true) then some (.inl (((i+1:Nat):Int),(j:Int),stp a[i]! G6 o))
  else if i=a.length∨Bt b[j]!.Name a[i]!.Name=true then some (.inl ((i:Int),((j+1:Nat):Int),stp G6 b[j]! o))
  else some (.inl (((i+1:Nat):Int),((j+1:Nat):Int),stp a[i]! b[j]! o))
 else some (.inr (.ext o))
theorem Js {l:List Ab} {i:Nat} (h:i<l.length):l.drop i=l[i]! :: l.drop (i+1):=by
 rw [List.drop_eq_getElem_cons h,getElem!_pos l i h]
theorem Yh {f:(Int × Int × List Ab)→Option ((Int × Int × List Ab) ⊕ Aj Unit (List Ab))} (stp:Ab→Ab→List Ab→List Ab) (a b c:List Ab) (B:Nat) (hstp : ∀ x y o,(stp x y o).length≤o.length+1)
  (hf : ∀ (i j:Nat) (o:List Ab),i≤a.length→j≤b.length→o.length+(a.length-i)+(b.length-j)≤B→f (i,j,o)=P7 stp a b i j o) (hB:c.length+a.length+b.length≤B):iter f (0,0,c)=some (.ext (Dy stp a b c)):=by
 have key : ∀ (m i j:Nat) (o:List Ab),i≤a.length→j≤b.length→(a.length-i)+(b.length-j)=m→o.length+m≤B→iter f ((i:Int),(j:Int),o)=some (.ext (Dy stp (a.drop i) (b.drop j) o)):=by
  intro m
  induction m using Nat.strongRecOn with
  | _ m ih=>
   intro i j o hi hj hm ho
   have hs:=hf i j o hi hj (by omega)
   unfold P7 at hs
   by_cases hia:i<a.length
   ·rw [Js hia]
    by_cases hjb:j<b.length
    ·rw [Js hjb]
     rw [if_pos (.inl hia)] at hs
     by_cases h1:Bt a[i]!.Name b[j]!.Name=true
     ·rw [if_pos (.inr ⟨hia,h1⟩)] at hs
      rw [B1 hs,Dy,if_pos h1,← Js hjb]
      grind
     ·rw [if_neg (by rintro (h | h); omega; exact h1 h.2)] at hs
      by_cases h2:Bt b[j]!.Name a[i]!.Name=true
      ·rw [if_pos (.inr h2)] at hs
       rw [B1 hs,Dy,if_neg h1,if_pos h2,← Js hia]
       grind
      ·grind [B1,Dy]
    ·grind [B1,Dy,G6]
   ·have hil:i=a.length:=by omega
    have hd:a.drop i=[]:=by grind
    by_cases hjb:j<b.length
    ·rw [if_pos (.inr hjb),if_neg (by rintro (h | h); omega; omega),if_pos (.inl hil)] at hs
     rw [Js hjb,B1 hs,hd,Dy,← hd]
     grind
    ·grind [Bc,Dy]
 exact key _ 0 0 c (Nat.zero_le _) (Nat.zero_le _) rfl (by omega)
theorem QD (x y:Ab):x=y↔x.Name=y.Name∧x.Value=y.Value:=by cases x; cases y; simp
theorem NT (a b:List Ab) (hm:a.length≤9223372036854775807):G9 a b=some (decide (a=b)):=by
 unfold G9
 by_cases hl:a.length=b.length
 ·rw [if_neg (by simp [hl]),BY (n:=a.length) (fun k=>if decide (a[k]! = b[k]!) then none else some false) (fun k hk=>by
   grind [JA,Aa,AC,An,BZ,QD,FD,Ce]) (by unfold JA; rw [if_neg (by simp)]),FD,Ce]
  by_cases h:a=b
  ·subst h; simp
  ·rw [decide_eq_false h]
   have:((List.range a.length).all fun k=>decide (a[k]! = b[k]!))=false:=by
    rw [← Bool.not_eq_true,List.all_eq_true]
    intro hall
    apply h
    apply List.ext_getElem hl
    simp_all
   grind
 ·rw [if_pos (by simp; omega),decide_eq_false (by rintro rfl; exact hl rfl)]
theorem NP (a b:List Ab) (hm:a.length≤9223372036854775807):Gw a b=some (decide (a=b)):=by
 unfold Gw
 by_cases hl:a.length=b.length
 ·rw [if_neg (by simp [hl]),BY (n:=a.length) (fun k=>if decide (a[k]! = b[k]!) then none else some false) (fun k hk=>by
   unfold Kc
   rw [if_pos (by simpa using hk),Aa hk,Aa (by omega),AC,AC,An (by omega)]
   generalize a[k]! = x
   generalize b[k]! = y
   by_cases h:x=y
   ·subst h; simp [BZ]
   ·have h':=h; rw [QD] at h'
    simp only [decide_eq_false h,Bool.and_true]
    by_cases h1:x.Name=y.Name
    ·have h2 : ¬ x.Value=y.Value:=fun e=>h' ⟨h1,e⟩
     simp [h1,h2,BZ]
    ·simp [h1,BZ]) (by unfold Kc; rw [if_neg (by simp)]),FD,Ce]
  by_cases h:a=b
  ·subst h; simp
  ·rw [decide_eq_false h]
   have:((List.range a.length).all fun k=>decide (a[k]! = b[k]!))=false:=by
    rw [← Bool.not_eq_true,List.all_eq_true]
    intro hall
    apply h
    apply List.ext_getElem hl
    intro k h1 h2
    have:=hall k (List.mem_range.2 h1)
    simp only [decide_eq_true_eq] at this
    rwa [getElem!_pos a k h1,getElem!_pos b k h2] at this
   rw [this]; rfl
 ·rw [if_pos (by simp; omega),decide_eq_false (by rintro rfl; exact hl rfl)]
theorem CL {σ β:Type} {f:σ→Option (σ ⊕ β)} (n:Nat) (R:Nat→σ→Prop) (Q:β→Prop)
  (h1 : ∀ k s,k<n→R k s→(∃ s',f s=some (.inl s')∧R (k+1) s')∨(∃ b,f s=some (.inr b)∧Q b))
  (h2 : ∀ s,R n s → ∃ b,f s=some (.inr b)∧Q b) {s:σ} (h0:R 0 s) : ∃ b,iter f s=some b∧Q b:=by
 have key : ∀ m k s,k+m=n→R k s → ∃ b,iter f s=some b∧Q b:=by
  intro m
  induction m with
  | zero=>
   intro k s hk hR
   obtain rfl:k=n:=by omega
   obtain ⟨b,hb,hq⟩:=h2 s hR
   exact ⟨b,Bc hb,hq⟩
  | succ m ih=>
   intro k s hk hR
   rcases h1 k s (by omega) hR with ⟨s',h3,h4⟩ | ⟨b,h3,h4⟩
   ·obtain ⟨b,h5,h6⟩:=ih (k+1) s' (by omega) h4
    exact ⟨b,by rw [B1 h3,h5],h6⟩
   ·exact ⟨b,Bc h3,h4⟩
 exact key n 0 s (by omega) h0
theorem Fd {α:Type} [Inhabited α] {l:List α} {k:Nat} (h:k<l.length):l.take (k+1)=l.take k++[l[k]!]:=by
 rw [List.take_add_one,List.getElem?_eq_getElem h,getElem!_pos l k h]; rfl
theorem Ay {α:Type} [Inhabited α] {l:List α} {k:Nat} (h:k<l.length):l[k]! ∈ l:=by
 rw [getElem!_pos l k h]; exact List.getElem_mem h
theorem Eo (x lo hi:Int):Be x lo hi=some (decide (lo≤x) && decide (x≤hi)):=by
 unfold Be
 rfl
theorem Uh (a b:List Int) (hm:a.length≤9223372036854775807):Ia a b=some (decide (a=b)):=by
 unfold Ia
 by_cases hl:a.length=b.length
 ·rw [if_neg (by simp [hl]),BY (n:=a.length) (fun k=>if decide (a[k]! = b[k]!) then none else some false) (fun k hk=>by
   unfold Kv
   rw [if_pos (by simpa using hk),Aa hk,Aa (by omega),AC,AC,An (by omega)]
   generalize a[k]! = x
   generalize b[k]! = y
   by_cases h:x=y
   ·subst h; simp [BZ]
   ·simp [h,BZ]) (by unfold Kv; rw [if_neg (by simp)]),FD,Ce]
  by_cases h:a=b
  ·subst h; simp
  ·rw [decide_eq_false h]
   have:((List.range a.length).all fun k=>decide (a[k]! = b[k]!))=false:=by
    rw [← Bool.not_eq_true,List.all_eq_true]
    intro hall
    apply h
    apply List.ext_getElem hl
    intro k h1 h2
    have:=hall k (List.mem_range.2 h1)
    simp only [decide_eq_true_eq] at this
    rwa [getElem!_pos a k h1,getElem!_pos b k h2] at this
   rw [this]; rfl
 ·rw [if_pos (by simp; omega),decide_eq_false (by rintro rfl; exact hl rfl)]
theorem Mq {o:List Int} {x:Int} (h:o.length+1≤1099511627776):BS 8 o [x]=some (o++[x]):=by
 unfold BS; rw [if_pos (by simp; omega)]
def E3 (c:Int):Bool:=decide (c=9) || decide (c=10) || (decide (32≤c) && decide (c≤126)) || (decide (160≤c) && decide (c≤55295)) || (decide (57344≤c) && decide (c≤1114111))
def DX (x:AO):Int:=
 if (x.Char=0∧x.Ref=0)∨(x.Char≠0∧x.Ref≠0) then 4 else if (x.Char≠0∧E3 x.Char=false)∨(x.Ref≠0 ∧ ¬ (1≤x.Ref∧x.Ref≤1073741824)) then 2 else FE x.Attrs false
def En (x:AO):Prop:=x.Attrs.length≤9223372036854775807∧Fa x.Attrs
theorem OX (c:Int):Hd c=some (E3 c):=by grind [Hd,E3]
theorem PG (c:Int):Hh c=some (E3 c):=by
 unfold Hh E3
 rw [Eo,Eo,Eo]
 generalize decide (c=9)=a1
 generalize decide (c=10)=a2
 generalize (decide (32≤c) && decide (c≤126))=a3
 generalize (decide (160≤c) && decide (c≤55295))=a4
 generalize (decide (57344≤c) && decide (c≤1114111))=a5
 cases a1 <;> cases a2 <;> cases a3 <;> cases a4 <;> cases a5 <;> rfl
theorem Oa (x:AO) (h:En x):Jv x=some (DX x):=by
 unfold Jv DX
 rw [OX,MS _ h.2 h.1]
 by_cases c:x.Char=0
 ·by_cases r:x.Ref=0
  ·simp [c,r]
  ·by_cases q:1≤x.Ref∧x.Ref≤1073741824
   ·have q1 : ¬ x.Ref<1:=by omega
    have q2 : ¬ 1073741824<x.Ref:=by omega
    simp [c,r,q,q1,q2]
   ·have q1:x.Ref<1∨1073741824<x.Ref:=by omega
    simp_all
 ·by_cases r:x.Ref=0
  ·cases hc:E3 x.Char <;> simp [c,r,hc]
  ·simp [c,r]
theorem Om (x:AO) (h:En x):Iy x=some (DX x):=by
 unfold Iy DX
 rw [PG,NV _ _ h.2 h.1,Eo]
 by_cases c:x.Char=0
 ·by_cases r:x.Ref=0
  ·simp [c,r]
  ·by_cases q:1≤x.Ref∧x.Ref≤1073741824
   ·simp [c,r,q]
   ·simp_all
 ·by_cases r:x.Ref=0
  ·cases hc:E3 x.Char <;> simp [c,r,hc]
  ·simp [c,r]
def FB (f:List AO) (k:Nat):Option Int:=if DX f[k]! = 0 then none else some (DX f[k]!)
def NB (f:List AO):Int:=((List.range f.length).findSome? (FB f)).getD 0
def T5:List UInt8:=[104,105,100,100,101,110]
def Wt:List UInt8:=[111,110]
def VC:List UInt8:=[99,117,116]
def XQ:List UInt8:=[97,100,100]
def By (x:AO) (mode:Int):Bool:=decide (No x.Attrs T5=Wt) || (decide (mode=0) && !decide (No x.Attrs VC=[])) || (decide (mode=1) && !decide (No x.Attrs XQ=[]))
def seen (f:List AO) (mode:Int) (k:Nat):Bool:=!By f[k]! mode || (decide (k+1=f.length) && decide (f[k]!.Char=10))
theorem CO {p:Prop} [Decidable p] (h : ¬ p):(!decide p)=true:=by simp [h]
theorem Bv {p:Prop} [Decidable p] (h:p) : ¬ ((!decide p)=true):=by simp [h]
def FF (l:List Ab):Prop:=l.length≤1073741824∧Fa l
inductive Un where
 | a (e:AO)
 | r (cut:Bool) (at_:List Ab)
theorem QG {α:Type} {l:List α} {k:Nat} {x:α} : l.set ((k:Int).toNat) x=l.set k x:=by simp
theorem TJ {α β:Type} [Inhabited α] {f:Int × List β→Option ((Int × List β) ⊕ List β)} (l:List α) (g:α→β) (z:β)
  (h : ∀ (k:Nat) (out:List β),k<l.length→out.length=l.length→f ((k:Int),out)=some (.inl (((k+1:Nat):Int),out.set k (g l[k]!)))) (hend : ∀ out,f ((l.length:Int),out)=some (.inr out)) :
  iter f (0,List.replicate l.length z)=some (l.map g):=by
 have key : ∃ r,iter f (0,List.replicate l.length z)=some r∧r=l.map g:=by
  refine CL l.length (fun k st=>st=((k:Int),(l.take k).map g++List.replicate (l.length-k) z)) _ ?_ ?_ (by simp)
  ·rintro k st hk rfl
   refine .inl ⟨_,h k _ hk (by simp; omega),?_⟩
   congr 1
   obtain ⟨m,hm⟩ : ∃ m,l.length-k=m+1:=⟨l.length-k-1,by omega⟩
   rw [hm,List.replicate_succ,Fd hk,List.map_append,List.set_append_right _ _ (by rw [List.length_map,List.length_take]; omega),show l.length-(k+1)=m by omega]
   have:k-((l.take k).map g).length=0:=by simp; omega
   rw [this,List.set_cons_zero,List.append_assoc]; rfl
  ·rintro st rfl
   refine ⟨_,hend _,by simp⟩
 obtain ⟨r,h1,h2⟩:=key
 rw [h1,h2]
theorem NK {l:List Ab} (h:l.length≤1073741824):BS 32 [] l=some l:=by
 unfold BS; rw [if_pos]; rfl; simp; omega
theorem Rn {α:Type} {n:Nat} (z:α) (h:n≤4294967296):mk 40 (n:Int) z=some (List.replicate n z):=by
 unfold mk; rw [if_pos (by omega)]; simp
theorem Sm (f:List AO) (hm:f.length≤4294967296) (h : ∀ e∈f,FF e.Attrs):JQ f=some f:=by
 unfold JQ
 rw [Rn _ hm,AC]
 have:=TJ (f:=fun (a:Int × (List AO))=>GK f a.1 a.2) f id (AO.mk 0 0 []) (fun k out hk hl=>by
  have ha:=(h _ (Ay hk)).1
  show GK f (k:Int) out=_
  unfold GK
  rw [if_pos (by simpa using hk),Aa hk,AC,NK ha,AC,Aa (by omega),AC,An (by omega),AC,QG]
  rfl) (fun out=>by
  show GK f (f.length:Int) out=_
  unfold GK
  rw [if_neg (by simp)])
 rw [this,List.map_id]; rfl
theorem UM {α:Type} (l:List α) (n:Int) (h0:0≤n) (h:n≤l.length):DH l 0 n=some (l.take n.toNat):=by
 unfold DH; rw [if_pos (by omega)]; simp
theorem XF (x y:AO) (h:x.Attrs.length≤1073741824):JV x y=some (decide (x=y)):=by
 unfold JV
 rw [NP _ _ (by omega)]
 obtain ⟨x1,x2,x3⟩:=x
 obtain ⟨y1,y2,y3⟩:=y
 by_cases h1:x1=y1 <;> by_cases h2:x2=y2 <;> by_cases h3:x3=y3 <;> simp [h1,h2,h3,default]
theorem Ms {α:Type} [Inhabited α] [DecidableEq α] {a b:List α} (hl:a.length=b.length) (h:((List.range a.length).all fun k=>decide (a[k]! = b[k]!))=true):a=b:=by
 apply List.ext_getElem hl
 intro k h1 h2
 have:=List.all_eq_true.1 h k (List.mem_range.2 h1)
 simp only [decide_eq_true_eq] at this
 rwa [getElem!_pos a k h1,getElem!_pos b k h2] at this
theorem RO {α:Type} [Inhabited α] [DecidableEq α] (a:List α):((List.range a.length).all fun k=>decide (a[k]! = a[k]!))=true:=by
 rw [List.all_eq_true]; intro k _; rw [decide_eq_true rfl]
theorem Up (a b:List AO) (hm:a.length≤9223372036854775806) (h : ∀ e∈a,e.Attrs.length≤1073741824):KY a b=some (decide (a=b)):=by
 unfold KY
 by_cases hl:a.length=b.length
 ·rw [if_neg (by simp [hl]),BY (n:=a.length) (fun k=>if decide (a[k]! = b[k]!) then none else some false) (fun k hk=>by
   unfold KQ
   rw [if_pos (by simpa using hk),Aa hk,Aa (by omega),AC,AC,XF _ _ (h _ (Ay hk)),AC,An (by omega)]
   generalize a[k]! = x
   generalize b[k]! = y
   by_cases h:x=y <;> simp [h,BZ]) (by unfold KQ; rw [if_neg (by simp)]),FD,Ce]
  by_cases h:a=b
  ·subst h; rw [RO,decide_eq_true rfl]; rfl
  ·rw [decide_eq_false h]
   have:((List.range a.length).all fun k=>decide (a[k]! = b[k]!))=false:=by
    rw [← Bool.not_eq_true]; exact fun hh=>h (Ms hl hh)
   rw [this]; rfl
 ·rw [if_pos (by simp; omega),decide_eq_false (by rintro rfl; exact hl rfl)]
theorem NZ {κ:Ab→Nat} (h3 : ∀ a,a.Name.length+a.Value.length+1≤κ a) {l:List Ab} (hb:(l.map κ).sum≤1048576):FF l:=by
 have h1:=IT (μ:=κ) (fun a=>by have:=h3 a; omega) l
 refine ⟨by omega,fun a ha=>?_⟩
 have h2:=Eu (μ:=κ) ha
 have:=h3 a
 omega
theorem XI {ν:AO→Nat} {κ:Ab→Nat} (h2 : ∀ e,(e.Attrs.map κ).sum+1≤ν e) (h3 : ∀ a,a.Name.length+a.Value.length+1≤κ a) {f:List AO} (hb:(f.map ν).sum≤1048576):f.length≤1048576 ∧ ∀ e∈f,FF e.Attrs:=by
 have h1:=IT (μ:=ν) (fun e=>by have:=h2 e; omega) f
 refine ⟨by omega,fun e he=>NZ h3 ?_⟩
 have h4:=Eu (μ:=ν) he
 have:=h2 e
 omega
def W0:QN:=⟨[],0,0⟩
def L3 (f:List AO):Int:=if NB f≠0 then NB f else if f=[]∨f[f.length-1]!.Char≠10 then 11 else 0
theorem Rl {f:List AO} {k:Nat} {r:Int} (h:FB f k=some r):r≠0:=by grind [FB]
theorem Pe (f:List AO) (hm:f.length≤1073741824):(Ap (some (Cr ((List.range f.length).findSome? (FB f)))) fun (_:Unit)=>
  AB (gd ((true == true) && ((decide ((f.length:Int)=0)) == false)) (AS .i64 ((f.length:Int)-1))) fun (x4:Int)=>
  AB (gd ((true == true) && ((decide ((f.length:Int)=0)) == false)) (AM f x4)) fun (x5:AO)=>
  if (true && ((decide ((f.length:Int)=0)) || (!decide (x5.Char=10)))) then some (11:Int) else some 0)=some (L3 f):=by
 rw [Ce]
 unfold L3 NB
 cases hr:(List.range f.length).findSome? (FB f) with
 | some r=>
  have hne:r≠0:=by
   obtain ⟨k,hk⟩:=List.exists_of_findSome?_eq_some hr
   exact Rl hk.2
  dsimp only [Option.getD]
  rw [if_pos hne]
 | none=>
  dsimp only [Option.getD]
  rw [if_neg (by decide)]
  by_cases hl:f=[]
  ·subst hl; rfl
  ·have h0:0<f.length:=List.length_pos_iff.2 hl
   have hd:decide ((f.length:Int)=0)=false:=decide_eq_false (by omega)
   grind [Am,Bi,AC,Aa]
theorem Qx (f:List AO) (h : ∀ x∈f,En x) (hm:f.length≤1073741824):EH f true=some (L3 f):=by
 unfold EH
 rw [BY (n:=f.length) (FB f) (fun k hk=>by
  unfold Gt FB
  rw [if_pos (by simpa using hk),Aa hk,AC,An (by omega),Oa _ (h _ (Ay hk)),AC]
  by_cases e:DX f[k]! = 0
  ·rw [if_neg (Bv e),if_pos e]; rfl
  ·rw [if_pos (CO e),if_neg e]; rfl) (by unfold Gt; rw [if_neg (by simp)])]
 exact Pe f hm
theorem WM (f:List AO) (h : ∀ x∈f,En x) (hm:f.length≤1073741824):Fk f true=some (L3 f):=by
 unfold Fk
 rw [BY (n:=f.length) (FB f) (fun k hk=>by
  unfold GS FB
  rw [if_pos (by simpa using hk),Aa hk,AC,An (by omega),Om _ (h _ (Ay hk)),AC]
  by_cases e:DX f[k]! = 0
  ·rw [if_neg (Bv e),if_pos e]; rfl
  ·rw [if_pos (CO e),if_neg e]; rfl) (by unfold GS; rw [if_neg (by simp)])]
 exact Pe f hm
instance:Inhabited Un:=⟨.r false []⟩
def off (n:List UInt8):Ab:=⟨n,[]⟩
theorem US:D7.length=256:=by decide +kernel
theorem Rk (s:List UInt8) (k:Nat) (hk:k≤s.length):DH s (k:Int) (s.length:Int)=some (s.drop k):=by
 unfold DH
 rw [if_pos (by omega)]
 congr 1
 rw [List.take_of_length_le (by simp),Int.toNat_natCast]
def GF (t:Bool) (f:List AO) (k:Nat):Option Int:=if DX f[k]! = 0 then (if t=false∧f[k]!.Ref=0 then some 8 else none) else some (DX f[k]!)
theorem WB {x:AO} (h:DX x=0):(x.Ref=0↔x.Char≠0):=by grind [DX]
theorem QV (f:List AO) (h : ∀ x∈f,En x) (hm:f.length≤1073741824):EH f false=some (((List.range f.length).findSome? (GF false f)).getD 0):=by
 unfold EH
 rw [BY (n:=f.length) (GF false f) (fun k hk=>by
  unfold Gt GF
  rw [if_pos (by simpa using hk),Aa hk,AC,An (by omega),Oa _ (h _ (Ay hk)),AC]
  generalize f[k]! = x
  by_cases e:DX x=0
  ·rw [if_neg (Bv e),if_pos e]
   by_cases r:x.Ref=0
   ·rw [if_pos (show (!false && decide (x.Ref=0))=true by rw [decide_eq_true r]; rfl),if_pos ⟨rfl,r⟩]; rfl
   ·rw [if_neg (show ¬ (!false && decide (x.Ref=0))=true by rw [decide_eq_false r]; decide),if_neg (fun h=>r h.2)]; rfl
  ·rw [if_pos (CO e),if_neg e]; rfl) (by unfold Gt; rw [if_neg (by simp)])]
 cases (List.range f.length).findSome? (GF false f) <;> rfl
theorem T1 (f:List AO) (h : ∀ x∈f,En x) (hm:f.length≤1073741824):Fk f false=some (((List.range f.length).findSome? (GF false f)).getD 0):=by
 unfold Fk
 rw [BY (n:=f.length) (GF false f) (fun k hk=>by
  unfold GS GF
  rw [if_pos (by simpa using hk),Aa hk,AC,An (by omega),Om _ (h _ (Ay hk)),AC]
  generalize f[k]! = x
  by_cases e:DX x=0
  ·rw [if_neg (Bv e),if_pos e]
   have hr:=WB e
   by_cases r:x.Ref=0
   ·rw [if_pos (show (!false && !decide (x.Char=0))=true by rw [decide_eq_false (hr.1 r)]; rfl),if_pos ⟨rfl,r⟩]; rfl
   ·have hc:x.Char=0:=Classical.byContradiction fun hc=>r (hr.2 hc)
    rw [if_neg (show ¬ (!false && !decide (x.Char=0))=true by rw [decide_eq_true hc]; decide),if_neg (fun h=>r h.2)]; rfl
  ·rw [if_pos (CO e),if_neg e]; rfl) (by unfold GS; rw [if_neg (by simp)])]
 cases (List.range f.length).findSome? (GF false f) <;> rfl
theorem TM (f:List AO) (t:Bool) (h : ∀ x∈f,En x) (hm:f.length≤1073741824) : ∃ r,EH f t=some r∧Fk f t=some r:=by
 cases t
 ·exact ⟨_,QV f h hm,T1 f h hm⟩
 ·exact ⟨_,Qx f h hm,WM f h hm⟩
theorem Sr (a b:List AO) (hm:a.length≤9223372036854775806) (h : ∀ e∈a,e.Attrs.length≤1073741824):I7 a b=some (decide (a=b)):=by
 unfold I7
 by_cases hl:a.length=b.length
 ·rw [if_neg (by simp [hl]),BY (n:=a.length) (fun k=>if decide (a[k]! = b[k]!) then none else some false) (fun k hk=>by
   unfold Iz
   have ha:=h _ (Ay hk)
   rw [if_pos (by simpa using hk),Aa hk,Aa (by omega),AC,AC,NT _ _ (by omega),An (by omega)]
   generalize a[k]! = x
   generalize b[k]! = y
   obtain ⟨x1,x2,x3⟩:=x
   obtain ⟨y1,y2,y3⟩:=y
   by_cases h1:x1=y1 <;> by_cases h2:x2=y2 <;> by_cases h3:x3=y3 <;> simp [h1,h2,h3,BZ,default]) (by unfold Iz; rw [if_neg (by simp)]),FD,Ce]
  by_cases h:a=b
  ·subst h; rw [RO,decide_eq_true rfl]; rfl
  ·rw [decide_eq_false h]
   have:((List.range a.length).all fun k=>decide (a[k]! = b[k]!))=false:=by
    rw [← Bool.not_eq_true]; exact fun hh=>h (Ms hl hh)
   rw [this]; rfl
 ·rw [if_pos (by simp; omega),decide_eq_false (by rintro rfl; exact hl rfl)]
theorem S5 (f:List AO) (hm:f.length≤1073741824) : ∃ r,iter (fun (a:Int × (List Int))=>F4 f a.1 a.2) (0,[])=some r∧r.length≤f.length:=by
 refine CL f.length (fun k st=>st.1=(k:Int)∧st.2.length≤k) _ ?_ ?_ ⟨rfl,by simp⟩
 ·rintro k ⟨x,out⟩ hk ⟨rfl,ho⟩
  dsimp only at ho ⊢
  left
  unfold F4
  rw [if_pos (by simpa using hk),Aa hk,AC]
  by_cases r:f[k]!.Ref=0
  ·rw [if_neg (Bv r),AC,An (by omega),AC]
   grind
  ·rw [if_pos (CO r),Mq (by omega),AC,AC,An (by omega),AC]
   grind
 ·grind [F4]
theorem Fh {α:Type} [Inhabited α] [DecidableEq α] {f:Int→Option (Int ⊕ Aj Unit Bool)} (a b:List α) (hl:a.length=b.length)
  (h1 : ∀ k:Nat,k<a.length→f k=BZ k (if decide (a[k]! = b[k]!) then none else some false)) (h2:f a.length=some (.inr (.nrm ()))) :
  (Ap (iter f 0) fun (_:Unit)=>some true)=some (decide (a=b)):=by
 rw [BY (n:=a.length) (fun k=>if decide (a[k]! = b[k]!) then none else some false) h1 h2,FD,Ce]
 by_cases h:a=b
 ·grind
 ·grind [Ms]
theorem P0 (x y:Ag):(decide (x.Row=y.Row) && (decide (x.Col=y.Col) && (decide (x.H=y.H) && (decide (x.W=y.W) && true))))=decide (x=y):=by
 obtain ⟨x1,x2,x3,x4⟩:=x
 obtain ⟨y1,y2,y3,y4⟩:=y
 grind
theorem RD (x y:Aq):(decide (x.Clock=y.Clock) && (decide (x.Site=y.Site) && (decide (x.Kind=y.Kind) && (decide (x.Item=y.Item) && (decide (x.Parent=y.Parent) && (decide (x.Place=y.Place) && (decide (x.Name=y.Name) && (decide (x.Value=y.Value) && true))))))))=decide (x=y):=by
 obtain ⟨x1,x2,x3,x4,x5,x6,x7,x8⟩:=x
 obtain ⟨y1,y2,y3,y4,y5,y6,y7,y8⟩:=y
 rw [Bool.eq_iff_iff]; simp
theorem X9 (a b:List Ag) (hm:a.length≤9223372036854775806):KT a b=some (decide (a=b)):=by
 unfold KT
 by_cases hl:a.length=b.length
 ·grind [Fh,LA,Aa,AC,P0,An,BZ]
 ·rw [if_pos (by simp; omega),decide_eq_false (by rintro rfl; exact hl rfl)]
theorem SH (a b:List Ag) (hm:a.length≤9223372036854775806):Ke a b=some (decide (a=b)):=by
 unfold Ke
 by_cases hl:a.length=b.length
 ·rw [if_neg (by simp [hl])]
  exact Fh a b hl (fun k hk=>by
   unfold Ki
   rw [if_pos (by simpa using hk),Aa hk,Aa (by omega),AC,AC,P0,An (by omega)]
   generalize a[k]! = x
   generalize b[k]! = y
   by_cases h:x=y <;> simp [h,BZ]) (by unfold Ki; rw [if_neg (by simp)])
 ·rw [if_pos (by simp; omega),decide_eq_false (by rintro rfl; exact hl rfl)]
theorem Uy (a b:List Aq) (hm:a.length≤9223372036854775806):JE a b=some (decide (a=b)):=by
 unfold JE
 by_cases hl:a.length=b.length
 ·rw [if_neg (by simp [hl])]
  exact Fh a b hl (fun k hk=>by
   unfold Ja
   rw [if_pos (by simpa using hk),Aa hk,Aa (by omega),AC,AC,RD,An (by omega)]
   generalize a[k]! = x
   generalize b[k]! = y
   by_cases h:x=y <;> simp [h,BZ]) (by unfold Ja; rw [if_neg (by simp)])
 ·rw [if_pos (by simp; omega),decide_eq_false (by rintro rfl; exact hl rfl)]
theorem Tp (a b:List Aq) (hm:a.length≤9223372036854775806):Jd a b=some (decide (a=b)):=by
 unfold Jd
 by_cases hl:a.length=b.length
 ·rw [if_neg (by simp [hl])]
  exact Fh a b hl (fun k hk=>by
   unfold Jf
   rw [if_pos (by simpa using hk),Aa hk,Aa (by omega),AC,AC,RD,An (by omega)]
   generalize a[k]! = x
   generalize b[k]! = y
   by_cases h:x=y <;> simp [h,BZ]) (by unfold Jf; rw [if_neg (by simp)])
 ·rw [if_pos (by simp; omega),decide_eq_false (by rintro rfl; exact hl rfl)]
theorem W1 (x y:Ae) (hm:x.Attrs.length≤1073741824):KP x y=some (decide (x=y)):=by
 unfold KP
 rw [NT _ _ (by omega)]
 obtain ⟨x1,x2,x3,x4,x5⟩:=x
 obtain ⟨y1,y2,y3,y4,y5⟩:=y
 by_cases h1:x1=y1 <;> by_cases h2:x2=y2 <;> by_cases h3:x3=y3 <;> by_cases h4:x4=y4 <;> by_cases h5:x5=y5 <;> simp [h1,h2,h3,h4,h5,gd,AC]
theorem TB (x y:Ae) (hm:x.Attrs.length≤1073741824):Jx x y=some (decide (x=y)):=by
 unfold Jx
 rw [NP _ _ (by omega)]
 obtain ⟨x1,x2,x3,x4,x5⟩:=x
 obtain ⟨y1,y2,y3,y4,y5⟩:=y
 by_cases h1:x1=y1 <;> by_cases h2:x2=y2 <;> by_cases h3:x3=y3 <;> by_cases h4:x4=y4 <;> by_cases h5:x5=y5 <;> simp [h1,h2,h3,h4,h5,gd,AC]
theorem Ry (a b:List Ae) (hm:a.length≤9223372036854775806) (h : ∀ x∈a,x.Attrs.length≤1073741824):Kx a b=some (decide (a=b)):=by
 unfold Kx
 by_cases hl:a.length=b.length
 ·grind [Fh,Lk,Aa,AC,W1,Ay,An,BZ]
 ·rw [if_pos (by simp; omega),decide_eq_false (by rintro rfl; exact hl rfl)]
theorem U4 (a b:List Ae) (hm:a.length≤9223372036854775806) (h : ∀ x∈a,x.Attrs.length≤1073741824):Iv a b=some (decide (a=b)):=by
 unfold Iv
 by_cases hl:a.length=b.length
 ·rw [if_neg (by simp [hl])]
  exact Fh a b hl (fun k hk=>by
   unfold KI
   rw [if_pos (by simpa using hk),Aa hk,Aa (by omega),AC,AC,TB _ _ (h _ (Ay hk)),AC,An (by omega)]
   generalize a[k]! = x
   generalize b[k]! = y
   by_cases h:x=y <;> simp [h,BZ]) (by unfold KI; rw [if_neg (by simp)])
 ·rw [if_pos (by simp; omega),decide_eq_false (by rintro rfl; exact hl rfl)]
def LP (g:Au):Prop:=g.Cells.length≤1048576∧g.Merges.length≤1048576 ∧ ∀ x∈g.Cells,FF x.Attrs
structure DB (n:AE):Prop where
 at_:FF n.Attrs
 fl:n.Flow.length≤1048576
 fa : ∀ e∈n.Flow,FF e.Attrs
 gr:LP n.Grid
 dr:n.Draw.length≤1048576
def LD (d:AP):Prop:=d.Nodes.length≤1048576 ∧ ∀ n∈d.Nodes,DB n
theorem M0 (x y:Au) (h:LP x):GU x y=some (decide (x=y)):=by
 obtain ⟨h1,h2,h3⟩:=h
 unfold GU
 rw [X9 _ _ (by omega),Ry _ _ (by omega) (fun e he=>(h3 e he).1)]
 obtain ⟨x1,x2,x3,x4⟩:=x
 obtain ⟨y1,y2,y3,y4⟩:=y
 by_cases h1:x1=y1 <;> by_cases h2:x2=y2 <;> by_cases h3:x3=y3 <;> by_cases h4:x4=y4 <;> simp [h1,h2,h3,h4,gd,AC]
theorem Xf (x y:Au) (h:LP x):It x y=some (decide (x=y)):=by
 obtain ⟨h1,h2,h3⟩:=h
 unfold It
 rw [SH _ _ (by omega),U4 _ _ (by omega) (fun e he=>(h3 e he).1)]
 obtain ⟨x1,x2,x3,x4⟩:=x
 obtain ⟨y1,y2,y3,y4⟩:=y
 by_cases h1:x1=y1 <;> by_cases h2:x2=y2 <;> by_cases h3:x3=y3 <;> by_cases h4:x4=y4 <;> simp [h1,h2,h3,h4,gd,AC]
theorem Qw (x y:AE) (h:DB x):If x y=some (decide (x=y)):=by
 have ha:=h.at_.1
 have hf:=h.fl
 have hd:=h.dr
 unfold If
 rw [NT _ _ (by omega),Sr _ _ (by omega) (fun e he=>(h.fa e he).1),M0 _ _ h.gr,Uy _ _ (by omega)]
 obtain ⟨x1,x2,x3,x4,x5,x6⟩:=x
 obtain ⟨y1,y2,y3,y4,y5,y6⟩:=y
 by_cases h1:x1=y1 <;> by_cases h2:x2=y2 <;> by_cases h3:x3=y3 <;> by_cases h4:x4=y4 <;> by_cases h5:x5=y5 <;> by_cases h6:x6=y6 <;> simp [h1,h2,h3,h4,h5,h6,gd,AC]
theorem Oo (x y:AE) (h:DB x):HU x y=some (decide (x=y)):=by
 have ha:=h.at_.1
 have hf:=h.fl
 have hd:=h.dr
 unfold HU
 rw [NP _ _ (by omega),Up _ _ (by omega) (fun e he=>(h.fa e he).1),Xf _ _ h.gr,Tp _ _ (by omega)]
 obtain ⟨x1,x2,x3,x4,x5,x6⟩:=x
 obtain ⟨y1,y2,y3,y4,y5,y6⟩:=y
 by_cases h1:x1=y1 <;> by_cases h2:x2=y2 <;> by_cases h3:x3=y3 <;> by_cases h4:x4=y4 <;> by_cases h5:x5=y5 <;> by_cases h6:x6=y6 <;> simp [h1,h2,h3,h4,h5,h6,gd,AC]
theorem Yd (a b:AP) (h:LD a):Oc a b=some (decide (a.Nodes=b.Nodes)):=by
 unfold Oc Oz
 have hm:=h.1
 by_cases hl:a.Nodes.length=b.Nodes.length
 ·rw [if_neg (by simp [hl]),Fh a.Nodes b.Nodes hl (fun k hk=>by
   unfold Nc
   rw [if_pos (by simpa using hk),Aa hk,Aa (by omega),AC,AC,Qw _ _ (h.2 _ (Ay hk)),AC,An (by omega)]
   generalize a.Nodes[k]! = x
   generalize b.Nodes[k]! = y
   by_cases h:x=y <;> simp [h,BZ]) (by unfold Nc; rw [if_neg (by simp)])]
  rfl
 ·rw [if_pos (by simp; omega),decide_eq_false (fun e=>hl (by rw [e]))]; rfl
theorem Mo (a b:AP) (h:LD a):FP a b=some (decide (a.Nodes=b.Nodes)):=by
 unfold FP
 have hm:=h.1
 by_cases hl:a.Nodes.length=b.Nodes.length
 ·rw [if_neg (by simp [hl]),Fh a.Nodes b.Nodes hl (fun k hk=>by
   unfold Jo
   rw [if_pos (by simpa using hk),Aa hk,Aa (by omega),AC,AC,Oo _ _ (h.2 _ (Ay hk)),AC,An (by omega)]
   generalize a.Nodes[k]! = x
   generalize b.Nodes[k]! = y
   by_cases h:x=y <;> simp [h,BZ]) (by unfold Jo; rw [if_neg (by simp)])]
 ·rw [if_pos (by simp; omega),decide_eq_false (fun e=>hl (by rw [e]))]
theorem V0 (g:Au) (hm:g.Cells.length≤1048576) (h : ∀ x∈g.Cells,FF x.Attrs):iter (fun (a:Int × Au)=>Gr g.Cells a.1 a.2) (0,g)=some g:=by
 have key : ∃ r,iter (fun (a:Int × Au)=>Gr g.Cells a.1 a.2) (0,g)=some r∧r=g:=by
  refine CL g.Cells.length (fun k st=>st=((k:Int),g)) _ ?_ ?_ rfl
  ·rintro k st hk rfl
   left
   refine ⟨_,?_,rfl⟩
   dsimp only
   unfold Gr
   have ha:=(h _ (Ay hk)).1
   rw [if_pos (by simpa using hk),Aa hk,AC,NK ha,AC,An (by omega),AC,QG]
   have hs:g.Cells.set k (Ae.mk g.Cells[k]!.Row g.Cells[k]!.Col g.Cells[k]!.Text g.Cells[k]!.Ref g.Cells[k]!.Attrs)=g.Cells:=by
    rw [show (Ae.mk g.Cells[k]!.Row g.Cells[k]!.Col g.Cells[k]!.Text g.Cells[k]!.Ref g.Cells[k]!.Attrs)=g.Cells[k]! from rfl,getElem!_pos g.Cells k hk]
    exact List.set_getElem_self hk
   rw [hs]
  ·grind [Gr]
 grind
theorem LR {α:Type} (b:Nat) (l:List α) (hb:b≤128) (h:l.length≤1048576):BS b ([]:List α) l=some l:=by
 unfold BS
 rw [if_pos]; rfl
 simp only [List.length_nil,Nat.zero_add]
 refine ⟨?_,by omega⟩
 calc l.length * b≤1048576 * 128:=Nat.mul_le_mul h hb
  _≤_:=by decide
theorem O6 (n:AE) (h:DB n):HB n=some n:=by
 unfold HB
 have hg:=h.gr
 have hf:=h.fl
 rw [NK h.at_.1,AC,Sm _ (by omega) h.fa,AC,LR _ _ (by decide) h.dr,AC,LR _ _ (by decide) hg.2.1,AC,LR _ _ (by decide) hg.1,AC]
 have:=V0 n.Grid hg.1 hg.2.2
 simp_all
theorem Mb {β:Type} (p:Nat→Bool) (F:Nat→β) (l:List Nat):(l.findSome? fun k=>if p k then some (F k) else none)=(l.find? p).map F:=by
 induction l with
 | nil=>rfl
 | cons a l ih=>grind
def DU (l:List AE) (id:Int):Option Nat:=(List.range l.length).find? fun k=>decide (l[k]!.ID=id)
theorem Hm {l:List AE} {id:Int} {k:Nat} (h:DU l id=some k):k<l.length∧l[k]!.ID=id:=by
 have h1:=List.mem_of_find?_eq_some h
 have h2:=List.find?_some h
 grind
theorem Q4 (d:AP) (id:Int) (hm:d.Nodes.length≤1048576):Hg d id=some (match DU d.Nodes id with | some k=>(k:Int) | none=>-1):=by
 unfold Hg
 rw [BY (n:=d.Nodes.length) (fun k=>if decide (d.Nodes[k]!.ID=id) then some (k:Int) else none) (fun k hk=>by
  unfold Kp
  rw [if_pos (by simpa using hk),Aa hk,AC,An (by omega)]
  by_cases h:d.Nodes[k]!.ID=id
  ·rw [if_pos (decide_eq_true h),if_pos (decide_eq_true h)]; rfl
  ·rw [if_neg (by simpa using h),if_neg (by simpa using h)]; rfl) (by unfold Kp; rw [if_neg (by simp)]),Mb,Ce]
 grind [DU]
def DT:AE:=AE.mk 1 0 [] [(AO.mk 0 2 [])] (Au.mk 0 0 [] []) []
def Cp:AE:=AE.mk 2 1 [] [(AO.mk 10 0 [])] (Au.mk 0 0 [] []) []
def A4:AP:=AP.mk [DT,Cp]
theorem Xm:En (AO.mk 0 2 []):=⟨by decide,fun a ha=>by cases ha⟩
theorem TV:En (AO.mk 10 0 []):=⟨by decide,fun a ha=>by cases ha⟩
theorem Nu:LP (Au.mk 0 0 [] []):=⟨by decide,by decide,fun a ha=>by cases ha⟩
theorem Md:FF []:=⟨by decide,fun a ha=>by cases ha⟩
theorem LK:LD A4:=by
 refine ⟨by decide,fun n hn=>?_⟩
 have:n=DT∨n=Cp:=by simpa [A4] using hn
 rcases this with rfl | rfl
 ·exact ⟨Md,by decide,fun e he=>by
   have:e=AO.mk 0 2 []:=by simpa [DT] using he
   subst this; exact Md,Nu,by decide⟩
 ·exact ⟨Md,by decide,fun e he=>by
   have:e=AO.mk 10 0 []:=by simpa [Cp] using he
   subst this; exact Md,Nu,by decide⟩
theorem RL:Fl []=some 0:=by rw [MS _ (fun a ha=>by cases ha) (by decide)]; rfl
theorem XW:EH [AO.mk 0 2 []] false=some 0:=by
 rw [QV _ (fun x hx=>by
  have:x=AO.mk 0 2 []:=by simpa using hx
  subst this; exact Xm) (by decide)]
 rfl
theorem Wy:EH [AO.mk 10 0 []] true=some 0:=by
 rw [Qx _ (fun x hx=>by
  have:x=AO.mk 10 0 []:=by simpa using hx
  subst this; exact TV) (by decide)]
 rfl
theorem P2:GU (Au.mk 0 0 [] []) (Au.mk 0 0 [] [])=some true:=by rw [M0 _ _ Nu,decide_eq_true rfl]
theorem Xw:Dk DT=some 0:=by
 unfold Dk DT
 dsimp only
 rw [if_neg (by decide),if_neg (by decide),RL,AC,if_neg (by decide)]
 have t:HH 0=some false:=rfl
 have l:Gc 0=some true:=rfl
 have g:Gf 0=some false:=rfl
 have d:FN 0=some false:=rfl
 rw [t,l,g,d,P2]
 show (AB (EH [AO.mk 0 2 []] false) fun (r4:Int)=>some r4)=some 0
 rw [XW]; rfl
theorem VW:Dk Cp=some 0:=by
 unfold Dk Cp
 dsimp only
 rw [if_neg (by decide),if_neg (by decide),RL,AC,if_neg (by decide)]
 have t:HH 1=some true:=rfl
 have l:Gc 1=some false:=rfl
 have g:Gf 1=some false:=rfl
 have d:FN 1=some false:=rfl
 rw [t,l,g,d,P2]
 show (AB (EH [AO.mk 10 0 []] true) fun (r4:Int)=>some r4)=some 0
 rw [Wy]; rfl
theorem EN:FQ DT=some [2]:=by
 unfold FQ IY
 have h1:(fun (a:Int × (List Int))=>C1 DT.Flow a.1 a.2) (0,[])=some (.inl (1,[2])):=by
  show C1 [AO.mk 0 2 []] 0 []=_
  unfold C1; rfl
 have h2:(fun (a:Int × (List Int))=>C1 DT.Flow a.1 a.2) (1,[2])=some (.inr [2]):=by
  show C1 [AO.mk 0 2 []] 1 [2]=_
  unfold C1; rfl
 have h3:(fun (a:Int × (List Int))=>Dr DT a.1 a.2) (0,[2])=some (.inr [2]):=by
  show Dr DT 0 [2]=_
  unfold Dr; rfl
 rw [B1 h1,Bc h2,AC,AC,Bc h3]; rfl
theorem Vt:FQ Cp=some []:=by
 unfold FQ IY
 have h1:(fun (a:Int × (List Int))=>C1 Cp.Flow a.1 a.2) (0,[])=some (.inl (1,[])):=by
  show C1 [AO.mk 10 0 []] 0 []=_
  unfold C1; rfl
 have h2:(fun (a:Int × (List Int))=>C1 Cp.Flow a.1 a.2) (1,[])=some (.inr []):=by
  show C1 [AO.mk 10 0 []] 1 []=_
  unfold C1; rfl
 have h3:(fun (a:Int × (List Int))=>Dr Cp a.1 a.2) (0,[])=some (.inr []):=by
  show Dr Cp 0 []=_
  unfold Dr; rfl
 rw [B1 h1,Bc h2,AC,AC,Bc h3]; rfl
theorem UW:Gl A4 2=some (1,true):=by
 unfold Gl JB
 have h1:(fun (a:Int × Int)=>DP A4.Nodes 2 a.1 a.2) (0,(A4.Nodes.length:Int))=some (.inl (0,1)):=by
  show DP A4.Nodes 2 0 2=_
  unfold DP; decide +kernel
 have h2:(fun (a:Int × Int)=>DP A4.Nodes 2 a.1 a.2) (0,1)=some (.inl (1,1)):=by
  show DP A4.Nodes 2 0 1=_
  unfold DP; decide +kernel
 have h3:(fun (a:Int × Int)=>DP A4.Nodes 2 a.1 a.2) (1,1)=some (.inr 1):=by
  show DP A4.Nodes 2 1 1=_
  unfold DP; rfl
 rw [B1 h1,B1 h2,Bc h3,AC]; rfl
theorem Rv:GY 0 1=some true:=by
 unfold GY
 rw [if_pos (by decide),AC]
 unfold E1 IO
 have h1:(fun (a:Int)=>Eb [1,6,7,10,11,12] 1 a) 0=some (.inr (.ext 0)):=by
  show Eb [1,6,7,10,11,12] 1 0=_
  unfold Eb; rfl
 rw [Bc h1]; rfl
theorem XC:FU A4 0 [2]=some 0:=by
 unfold FU
 have h1:(fun (a:Int)=>DF A4 0 [2] a) 0=some (.inl 1):=by
  show DF A4 0 [2] 0=_
  unfold DF
  rw [if_pos (by decide),show AM ([2]:List Int) 0=some 2 from rfl,AC,UW,D3,if_neg (by decide),show AM A4.Nodes 1=some Cp from rfl,AC,show Cp.Kind=1 from rfl,Rv]
  rfl
 have h2:(fun (a:Int)=>DF A4 0 [2] a) 1=some (.inr (.nrm ())):=by
  show DF A4 0 [2] 1=_
  unfold DF; rfl
 rw [B1 h1,Bc h2]; rfl
theorem UP:FU A4 1 []=some 0:=by
 unfold FU
 have h2:(fun (a:Int)=>DF A4 1 [] a) 0=some (.inr (.nrm ())):=by
  show DF A4 1 [] 0=_
  unfold DF; rfl
 rw [Bc h2]; rfl
theorem N9:Dl A4=some 0:=by
 unfold Dl
 have a1:(fun (a:Int)=>CT A4 a) 0=some (.inl 1):=by
  show CT A4 0=_
  unfold CT
  rw [if_pos (by decide),show AM A4.Nodes 0=some DT from rfl,AC,Xw]; rfl
 have a2:(fun (a:Int)=>CT A4 a) 1=some (.inl 2):=by
  show CT A4 1=_
  unfold CT
  rw [if_pos (by decide),show AM A4.Nodes 1=some Cp from rfl,AC,VW]; rfl
 have a3:(fun (a:Int)=>CT A4 a) 2=some (.inr (.nrm ())):=by
  show CT A4 2=_
  unfold CT; rfl
 have b1:(fun (a:Int)=>DD A4 a) 0=some (.inl 1):=by
  show DD A4 0=_
  unfold DD
  rw [if_pos (by decide),show AM A4.Nodes 0=some DT from rfl,AC,EN,AC,show DT.Kind=0 from rfl,XC]; rfl
 have b2:(fun (a:Int)=>DD A4 a) 1=some (.inl 2):=by
  show DD A4 1=_
  unfold DD
  rw [if_pos (by decide),show AM A4.Nodes 1=some Cp from rfl,AC,Vt,AC,show Cp.Kind=1 from rfl,UP]; rfl
 have b3:(fun (a:Int)=>DD A4 a) 2=some (.inr (.nrm ())):=by
  show DD A4 2=_
  unfold DD; rfl
 rw [if_neg (by decide),B1 a1,B1 a2,Bc a3,B1 b1,B1 b2,Bc b3]; rfl
theorem SV:JT=some true:=by
 unfold JT
 have h1:IF=some A4:=rfl
 have h2:MD [AO.mk 10 0 []]=some A4:=rfl
 have h3:Mc=some (AO.mk 10 0 []):=rfl
 rw [h1,AC,N9,AC,if_pos (by decide),h3,AC,h2,AC,Mo _ _ LK,AC,AC,decide_eq_true rfl]
 rfl
theorem Ud {μ:AE→Nat} {γ:Au→Nat} {ψ:Ae→Nat} {ρ:Ag→Nat} {δ:Aq→Nat} {ν:AO→Nat} {κ:Ab→Nat}
  (hn : ∀ n,(n.Attrs.map κ).sum+(n.Flow.map ν).sum+γ n.Grid+(n.Draw.map δ).sum+1≤μ n) (hg : ∀ g,(g.Cells.map ψ).sum+(g.Merges.map ρ).sum+1≤γ g)
  (hc : ∀ c,(c.Attrs.map κ).sum+1≤ψ c) (hr : ∀ r,1≤ρ r) (hd : ∀ o,1≤δ o) (he : ∀ e,(e.Attrs.map κ).sum+1≤ν e) (ha : ∀ a,a.Name.length+a.Value.length+1≤κ a)
  {d:AP} (hb:(d.Nodes.map μ).sum≤1048576):LD d:=by
 have h1:=IT (μ:=μ) (fun n=>by have:=hn n; omega) d.Nodes
 refine ⟨by omega,fun n hm=>?_⟩
 have h2:=Eu (μ:=μ) hm
 have h3:=hn n
 have h4:=hg n.Grid
 have h5:=XI (ν:=ν) (κ:=κ) he ha (f:=n.Flow) (by omega)
 have h6:=IT (μ:=ψ) (fun c=>by have:=hc c; omega) n.Grid.Cells
 have h7:=IT (μ:=ρ) hr n.Grid.Merges
 have h8:=IT (μ:=δ) hd n.Draw
 refine ⟨NZ ha (by omega),h5.1,h5.2,⟨by omega,by omega,fun c hcm=>NZ ha ?_⟩,by omega⟩
 have h9:=Eu (μ:=ψ) hcm
 have:=hc c
 omega
theorem D1 {n:Nat} (h:n<2147483648):IntKind.i32.wrap (n:Int)=(n:Int):=by
 have e:(n:Int) % (2 ^ (32:Nat):Int)=(n:Int):=Int.emod_eq_of_lt (by omega) (by omega)
 show (if (true && decide ((n:Int) % (2 ^ (32:Nat):Int) ≥ (2 ^ (31:Nat):Int)))=true then (n:Int) % (2 ^ (32:Nat):Int)-(2 ^ (32:Nat):Int) else (n:Int) % (2 ^ (32:Nat):Int))=_
 grind
theorem Qg {n:Nat} (h:n<9223372036854775808):IntKind.i64.wrap (n:Int)=(n:Int):=by
 have e:(n:Int) % (2 ^ (64:Nat):Int)=(n:Int):=Int.emod_eq_of_lt (by omega) (by omega)
 show (if (true && decide ((n:Int) % (2 ^ (64:Nat):Int) ≥ (2 ^ (63:Nat):Int)))=true then (n:Int) % (2 ^ (64:Nat):Int)-(2 ^ (64:Nat):Int) else (n:Int) % (2 ^ (64:Nat):Int))=_
 grind
theorem Hw (i a b:Nat) (hb:b<2 ^ i) (hs:a * 2 ^ i+b<2147483648):CX .i32 ((a * 2 ^ i:Nat):Int) (b:Int)=((a * 2 ^ i+b:Nat):Int):=by
 unfold CX
 have h1:(BitVec.ofInt 32 ((a * 2 ^ i:Nat):Int) ||| BitVec.ofInt 32 (b:Int)).toNat=a * 2 ^ i+b:=by
  rw [BitVec.toNat_or,BitVec.ofInt_natCast,BitVec.ofInt_natCast,BitVec.toNat_ofNat,BitVec.toNat_ofNat,Nat.mod_eq_of_lt (by omega),Nat.mod_eq_of_lt (by omega)]
  rw [← Nat.shiftLeft_eq,Nat.shiftLeft_add_eq_or_of_lt hb]
 show IntKind.i32.wrap ((BitVec.ofInt 32 ((a * 2 ^ i:Nat):Int) ||| BitVec.ofInt 32 (b:Int)).toNat:Int)=_
 rw [h1]; exact D1 hs
theorem VO : ∀ b:Fin 256,Bd .u8 ((b.val:Nat):Int) 31=((b.val % 32:Nat):Int):=by decide +kernel
theorem Xo : ∀ b:Fin 256,Bd .u8 ((b.val:Nat):Int) 15=((b.val % 16:Nat):Int):=by decide +kernel
theorem Tj : ∀ b:Fin 256,Bd .u8 ((b.val:Nat):Int) 7=((b.val % 8:Nat):Int):=by decide +kernel
theorem HM : ∀ b:Fin 256,Bd .u8 ((b.val:Nat):Int) 63=((b.val % 64:Nat):Int):=by decide +kernel
theorem Hq (i a:Nat) (hi:i≤32) (hs:a * 2 ^ i<2147483648):CE .i32 (a:Int) i=((a * 2 ^ i:Nat):Int):=by
 unfold CE
 show IntKind.i32.wrap ((a:Int) * 2 ^ (min i 32))=_
 rw [Nat.min_eq_left hi,show (a:Int) * 2 ^ i=((a * 2 ^ i:Nat):Int) by push_cast; rfl,D1 hs]
theorem SS : ∀ c:Fin 256,D7[c.val]! = (Lib.firstT c.val:Int):=by decide +kernel
theorem UU : ∀ c:Fin 256,CX .i32 (MN .i32 (IntKind.i32.wrap (c.val:Int)) (Dv .i32 (CE .i32 (IntKind.i32.wrap 241) 31) 31)) (Bd .i32 65533 (Dv .i32 (CE .i32 (IntKind.i32.wrap 241) 31) 31))=65533:=by decide +kernel
theorem Vn : ∀ c:Fin 256,IntKind.i64.wrap (Bd .u8 (Lib.firstT c.val:Int) 7)=((Lib.firstT c.val % 8:Nat):Int):=by decide +kernel
theorem Xd : ∀ c:Fin 256,AM Lf (Dv .u8 (Lib.firstT c.val:Int) 4)=some (FH.mk (Lib.accLo (Lib.firstT c.val / 16)) (Lib.accHi (Lib.firstT c.val / 16))):=by decide +kernel
theorem Wf : ∀ c:Fin 256,128≤c.val→Lib.firstT c.val=241∨(2≤Lib.firstT c.val % 8∧Lib.firstT c.val % 8≤4∧Lib.firstT c.val<240):=by decide +kernel
theorem Vm (c d:Fin 256):CX .i32 (CE .i32 (IntKind.i32.wrap (Bd .u8 ((c.val:Nat):Int) 31)) 6) (IntKind.i32.wrap (Bd .u8 ((d.val:Nat):Int) 63))=((c.val % 32 * 64+d.val % 64:Nat):Int):=by
 rw [VO,HM,D1 (by omega),D1 (by omega),Hq 6 _ (by omega) (by omega),Hw 6 _ _ (by omega) (by omega)]
theorem VU (c d e:Fin 256):CX .i32 (CX .i32 (CE .i32 (IntKind.i32.wrap (Bd .u8 ((c.val:Nat):Int) 15)) 12) (CE .i32 (IntKind.i32.wrap (Bd .u8 ((d.val:Nat):Int) 63)) 6)) (IntKind.i32.wrap (Bd .u8 ((e.val:Nat):Int) 63)) =
  ((c.val % 16 * 4096+d.val % 64 * 64+e.val % 64:Nat):Int):=by
 rw [Xo,HM,HM,D1 (by omega),D1 (by omega),D1 (by omega),Hq 12 _ (by omega) (by omega),Hq 6 _ (by omega) (by omega),Hw 12 _ _ (by omega) (by omega),
  show c.val % 16 * 2 ^ 12+d.val % 64 * 2 ^ 6=(c.val % 16 * 64+d.val % 64) * 2 ^ 6 by omega,Hw 6 _ _ (by omega) (by omega)]
theorem WP (c d e f:Fin 256):CX .i32 (CX .i32 (CX .i32 (CE .i32 (IntKind.i32.wrap (Bd .u8 ((c.val:Nat):Int) 7)) 18) (CE .i32 (IntKind.i32.wrap (Bd .u8 ((d.val:Nat):Int) 63)) 12)) (CE .i32 (IntKind.i32.wrap (Bd .u8 ((e.val:Nat):Int) 63)) 6)) (IntKind.i32.wrap (Bd .u8 ((f.val:Nat):Int) 63)) =
  ((c.val % 8 * 262144+d.val % 64 * 4096+e.val % 64 * 64+f.val % 64:Nat):Int):=by
 rw [Tj,HM,HM,HM,D1 (by omega),D1 (by omega),D1 (by omega),D1 (by omega),Hq 18 _ (by omega) (by omega),Hq 12 _ (by omega) (by omega),Hq 6 _ (by omega) (by omega),Hw 18 _ _ (by omega) (by omega),
  show c.val % 8 * 2 ^ 18+d.val % 64 * 2 ^ 12=(c.val % 8 * 64+d.val % 64) * 2 ^ 12 by omega,Hw 12 _ _ (by omega) (by omega),
  show (c.val % 8 * 64+d.val % 64) * 2 ^ 12+e.val % 64 * 2 ^ 6=((c.val % 8 * 64+d.val % 64) * 64+e.val % 64) * 2 ^ 6 by omega,Hw 6 _ _ (by omega) (by omega)]
theorem Kk (s:List UInt8) (k:Nat) (h:k<s.length):s.getD k 0=s[k]!:=by grind
theorem XN (s:List UInt8) (h:s≠[]) (h128:128≤(s.getD 0 0).toNat):KO s=some (((Lib.decodeL s).1:Int),((Lib.decodeL s).2:Int)):=by
 have h0:0<s.length:=List.length_pos_iff.2 h
 rw [Lib.decodeL_N]
 unfold KO
 rw [if_neg (by rw [decide_eq_true_eq]; omega),show (0:Int)=((0:Nat):Int) from rfl,Aa h0,AC]
 rw [Kk s 0 h0] at h128 ⊢
 generalize s[0]! = c at h128 ⊢
 obtain ⟨C,hC⟩ : ∃ C:Fin 256,C.val=c.toNat:=⟨⟨c.toNat,c.toNat_lt⟩,rfl⟩
 rw [← hC] at h128 ⊢
 rw [Aa (l:=D7) (by rw [US]; exact C.isLt),AC,SS,Xd,Vn]
 rcases Wf C h128 with hf | ⟨hf1,hf2,hf3⟩
 ·rw [if_pos (by rw [decide_eq_true_eq]; omega),Lib.bad_eq _ _ _ _ _ C.isLt hf,hf]
  grind [UU]
 ·rw [if_neg (by rw [decide_eq_true_eq]; omega),AC]
  have hsl:=Lib.slow_eq s.length C.val (s.getD 1 0).toNat (s.getD 2 0).toNat (s.getD 3 0).toNat h0 (UInt8.toNat_lt _) (UInt8.toNat_lt _) (UInt8.toNat_lt _) hf3
  rw [← hsl]
  generalize hsz:Lib.firstT C.val % 8=sz at hf1 hf2 ⊢
  generalize Lib.accLo (Lib.firstT C.val / 16)=lo
  generalize Lib.accHi (Lib.firstT C.val / 16)=hi
  unfold Lib.slowN
  by_cases hl:s.length<sz
  ·grind
  rw [if_neg (by rw [decide_eq_true_eq]; omega),if_neg hl,show (1:Int)=((1:Nat):Int) from rfl,Aa (by omega),AC,Kk s 1 (by omega)]
  generalize s[1]! = d
  obtain ⟨D,hD⟩ : ∃ D:Fin 256,D.val=d.toNat:=⟨⟨d.toNat,d.toNat_lt⟩,rfl⟩
  rw [← hD]
  by_cases c1:D.val<lo∨hi<D.val
  ·grind
  rw [if_neg (by simp only [Bool.or_eq_true,decide_eq_true_eq]; omega),if_neg c1]
  by_cases e2:sz≤2
  ·grind [Vm]
  rw [if_neg (by rw [decide_eq_true_eq]; omega),if_neg e2,show (2:Int)=((2:Nat):Int) from rfl,Aa (by omega),AC,Kk s 2 (by omega)]
  generalize s[2]! = e
  obtain ⟨E,hE⟩ : ∃ E:Fin 256,E.val=e.toNat:=⟨⟨e.toNat,e.toNat_lt⟩,rfl⟩
  rw [← hE]
  by_cases c2:E.val<128∨191<E.val
  ·grind
  rw [if_neg (by simp only [Bool.or_eq_true,decide_eq_true_eq]; omega),if_neg c2]
  by_cases e3:sz≤3
  ·grind [VU]
  rw [if_neg (by rw [decide_eq_true_eq]; omega),if_neg e3,show (3:Int)=((3:Nat):Int) from rfl,Aa (by omega),AC,Kk s 3 (by omega)]
  generalize s[3]! = f
  obtain ⟨F,hF⟩ : ∃ F:Fin 256,F.val=f.toNat:=⟨⟨f.toNat,f.toNat_lt⟩,rfl⟩
  grind [WP]
theorem SW (s:List UInt8) (h:s≠[]):JL s=some (((Lib.decodeL s).1:Int),((Lib.decodeL s).2:Int)):=by
 have h0:0<s.length:=List.length_pos_iff.2 h
 unfold JL
 rw [decide_eq_false h,show ((!false) == true)=true from rfl,Am,show (0:Int)=((0:Nat):Int) from rfl,Aa h0,AC,Bool.not_false,Bool.true_and]
 by_cases hc:(s[0]!).toNat<128
 ·rw [if_pos (by rw [decide_eq_true_eq]; omega),AC,D1 (by omega)]
  obtain ⟨c,t,rfl⟩:=List.exists_cons_of_ne_nil h
  have hc':c.toNat<128:=hc
  rw [Lib.decodeL_ascii c t hc']; rfl
 ·grind [XN,Kk,D3]
def Ey (r:Nat):Bool:=decide (r=10) || !E3 (r:Int)
def Ew:Nat→List UInt8→Bool
 | 0,_=>true
 | n+1,s=>if s=[] then true else if ((Lib.decodeL s).1=65533∧(Lib.decodeL s).2=1)∨Ey (Lib.decodeL s).1=true then false else Ew n (s.drop (Lib.decodeL s).2)
theorem QO (n:Nat) (s:List UInt8):Ew (n+1) s=if s=[] then true else if ((Lib.decodeL s).1=65533∧(Lib.decodeL s).2=1)∨Ey (Lib.decodeL s).1=true then false else Ew n (s.drop (Lib.decodeL s).2):=rfl
def I3:Nat→List UInt8→Bool
 | 0,_=>true
 | n+1,s=>if s=[] then true else if Ey (Lib.decodeL s).1=true then false else I3 n (s.drop (Lib.decodeL s).2)
theorem P4 (n:Nat) (s:List UInt8):I3 (n+1) s=if s=[] then true else if Ey (Lib.decodeL s).1=true then false else I3 n (s.drop (Lib.decodeL s).2):=rfl
theorem WU : ∀ (n:Nat) (s:List UInt8),s.length≤n→(Lib.validD s && I3 n s)=Ew n s:=by
 intro n
 induction n with
 | zero=>intro s hs; obtain rfl:=List.eq_nil_of_length_eq_zero (Nat.le_zero.1 hs); rfl
 | succ n ih=>
  intro s hs
  rw [QO,P4]
  by_cases hn:s=[]
  ·subst hn; rfl
  ·have hw:=Lib.decodeL_width s
   have hl:=List.length_pos_iff.2 hn
   rw [if_neg hn,if_neg hn,Lib.validD_step s hn]
   grind
theorem O7 (r:Nat) (h:r≤1114111):IntKind.i64.wrap (r:Int)=(r:Int):=Qg (by omega)
theorem Xy (s:List UInt8):I2 s=some (Ew s.length s):=by
 unfold I2
 have key : ∀ (n:Nat) (s:List UInt8),s.length≤n→(Ap (iter (fun (a:(List UInt8))=>EO a) s) fun (_:Unit)=>some true)=some (Ew n s):=by
  intro n
  induction n with
  | zero=>
   intro s hs
   obtain rfl:=List.eq_nil_of_length_eq_zero (Nat.le_zero.1 hs)
   have h1:(fun (a:(List UInt8))=>EO a) []=some (.inr (.nrm ())):=by
    grind [EO]
   rw [Bc h1]; rfl
  | succ n ih=>
   intro s hs
   rw [QO]
   by_cases hn:s=[]
   ·simp_all [EO,Bc]
   ·have hw:=Lib.decodeL_width s
    have hle:=Lib.decodeL_le s hn
    have hr:=Lib.decodeL_rune s
    have hstep:EO s=if ((Lib.decodeL s).1=65533∧(Lib.decodeL s).2=1)∨Ey (Lib.decodeL s).1=true then some (.inr (.ext false)) else some (.inl (s.drop (Lib.decodeL s).2)):=by
     unfold EO Ey
     rw [if_pos (CO hn),SW s hn,D3,O7 _ hr,OX]
     generalize (Lib.decodeL s).1=r at *
     generalize (Lib.decodeL s).2=w at *
     by_cases h1:r=65533∧w=1
     ·simp_all
     ·have e1:((decide ((r:Int)=65533)) && (decide ((w:Int)=1)))=false:=by
       grind
      grind [AB,gd,E3,Am,AC,Rk]
    by_cases hb:((Lib.decodeL s).1=65533∧(Lib.decodeL s).2=1)∨Ey (Lib.decodeL s).1=true
    ·simp_all [Bc,EO]
    ·grind [B1,EO]
 grind
theorem Uo (s:List UInt8) (p:Nat):D4 s p=Lib.decodeL (s.drop p):=(Lib.decodeL_drop ⟨s.toArray⟩ p).symm
theorem UG (s:List UInt8) (hs:s.length≤9223372036854775807):KR s=some (Ew s.length s):=by
 unfold KR L6 MK
 rw [if_pos hs,AC,← WU s.length s (Nat.le_refl _)]
 cases Lib.validD s with
 | false=>rfl
 | true=>
  rw [if_neg (by decide),Bool.true_and]
  have key : ∀ (n p:Nat),s.length-p≤n→(Ap (iter (fun (a:(Nat))=>EC s a) p) fun (_:Unit)=>some true)=some (I3 n (s.drop p)):=by
   intro n
   induction n with
   | zero=>
    intro p hp
    have h1:(fun (a:(Nat))=>EC s a) p=some (.inr (.nrm ())):=by
     grind [EC]
    rw [Bc h1]; rfl
   | succ n ih=>
    intro p hp
    rw [P4]
    by_cases hn:s.length≤p
    ·have h1:(fun (a:(Nat))=>EC s a) p=some (.inr (.nrm ())):=by
      grind [EC]
     simp_all [Bc]
    ·have hne:s.drop p≠[]:=by
      simp_all
     have hw:=Lib.decodeL_width (s.drop p)
     have hr:=Lib.decodeL_rune (s.drop p)
     have hstep:EC s p=if Ey (Lib.decodeL (s.drop p)).1=true then some (.inr (.ext false)) else some (.inl (p+(Lib.decodeL (s.drop p)).2)):=by
      grind [EC,Ey,Uo,O7,PG,AB,gd,E3]
     rw [if_neg hne]
     by_cases hb:Ey (Lib.decodeL (s.drop p)).1=true
     ·simp_all [Bc,EC]
     ·rw [if_neg hb] at hstep
      rw [B1 (f:=fun (a:(Nat))=>EC s a) hstep,if_neg hb,List.drop_drop]
      grind
  have:=key s.length 0 (by omega)
  grind
theorem NY {ρ:Type} {f g:Int→Option (Int ⊕ Aj Unit ρ)} {n:Nat} (I:Nat→Prop) (h0:I 0) (h : ∀ k:Nat,k<n→I k → ∃ o:Option ρ,f k=BZ k o∧g k=BZ k o∧(o=none→I (k+1)))
  (hf:f n=some (.inr (.nrm ()))) (hg:g n=some (.inr (.nrm ()))) : ∃ o:Option ρ,iter f 0=some (Cr o)∧iter g 0=some (Cr o)∧(o=none→I n):=by
 have key : ∀ m k:Nat,k+m=n→I k → ∃ o:Option ρ,iter f (k:Int)=some (Cr o)∧iter g (k:Int)=some (Cr o)∧(o=none→I n):=by
  intro m
  induction m with
  | zero=>
   intro k hk hi
   obtain rfl:k=n:=by omega
   exact ⟨none,Bc hf,Bc hg,fun _=>hi⟩
  | succ m ih=>
   intro k hk hi
   obtain ⟨o,h1,h2,h3⟩:=h k (by omega) hi
   cases o with
   | some r=>exact ⟨some r,Bc h1,Bc h2,fun e=>by cases e⟩
   | none=>
    obtain ⟨o,e1,e2,e3⟩:=ih (k+1) (by omega) (h3 rfl)
    exact ⟨o,(B1 h1).trans e1,(B1 h2).trans e2,e3⟩
 exact key n 0 (by omega) h0
theorem QE (x y:Int):Fi x y=some (if x<y then -1 else if y<x then 1 else 0):=by grind [Fi,Kb,AC]
theorem Pc (a b:Int):IJ [a,b]=some (if a≠0 then a else b):=by
 unfold IJ
 by_cases ha:a≠0
 ·simp_all [Dg,AM,AC,CO,Bc]
 ·have ha':a=0:=Classical.not_not.1 ha
  have h1:(fun (x:Int)=>Dg [a,b] x) 0=some (.inl 1):=by
   show Dg [a,b] 0=_
   unfold Dg
   rw [if_pos (by simp),show AM [a,b] 0=some a from rfl,AC,if_neg (Bv ha')]; rfl
  by_cases hb:b≠0
  ·have h2:(fun (x:Int)=>Dg [a,b] x) 1=some (.inr (.ext b)):=by
    grind [Dg,AM,AC,CO]
   rw [B1 h1,Bc h2,if_neg ha]; rfl
  ·have hb':b=0:=Classical.not_not.1 hb
   have h2:(fun (x:Int)=>Dg [a,b] x) 1=some (.inl 2):=by
    show Dg [a,b] 1=_
    unfold Dg
    rw [if_pos (by simp),show AM [a,b] 1=some b from rfl,AC,if_neg (Bv hb')]; rfl
   have h3:(fun (x:Int)=>Dg [a,b] x) 2=some (.inr (.nrm ())):=by
    grind [Dg]
   rw [B1 h1,B1 h2,Bc h3,if_neg ha,hb']; rfl
def BQ (a b c d:Int):Int:=if a<b then -1 else if b<a then 1 else if c<d then -1 else if d<c then 1 else 0
theorem Oi (a b c d:Int):(if (if a<b then -1 else if b<a then 1 else 0)≠(0:Int) then (if a<b then -1 else if b<a then 1 else 0) else if c<d then -1 else if d<c then 1 else (0:Int))=BQ a b c d:=by grind [BQ]
theorem LC (a b c d:Int):0≤BQ a b c d↔(b<a∨(b=a∧d≤c)):=by grind [BQ]
theorem Vl (a b:Ae):HP a b=some (BQ a.Row b.Row a.Col b.Col):=by grind [HP,QE,AC,Pc,Oi]
theorem Ck (x a b:Int):Be x a b=some (decide (a≤x∧x≤b)):=by simp_all [Eo]
def FW (rows cols:Int) (c:Ae):Prop:=0≤c.Row∧c.Row<rows∧0≤c.Col∧c.Col<cols∧0≤c.Ref∧c.Ref≤1073741824
instance (rows cols:Int) (c:Ae):Decidable (FW rows cols c):=by unfold FW; infer_instance
def F7 (c:Ae):Bool:=decide (c.Text=[]) && decide (c.Ref=0) && decide (c.Attrs=[])
def Ll (rows cols:Int) (none_:Bool) (c:Ae):Int:=
 if ¬ FW rows cols c then 2 else if Ew c.Text.length c.Text=false then 23 else if FE c.Attrs false≠0 then FE c.Attrs false else if (!none_ && F7 c)=true then 4 else 0
def Kw (rows cols:Int) (none_:Bool) (l:List Ae) (k:Nat):Option Int:=
 if Ll rows cols none_ l[k]! ≠ 0 then some (Ll rows cols none_ l[k]!) else if 0<k∧0≤BQ l[k-1]!.Row l[k]!.Row l[k-1]!.Col l[k]!.Col then some 5 else none
def Id (rows cols:Int) (none_:Bool) (l:List Ae):Int:=((List.range l.length).findSome? (Kw rows cols none_ l)).getD 0
theorem PW (l:List Ab):decide ((l.length:Int)=0)=decide (l=[]):=by simp_all
def MC (c:Ae):Prop:=FF c.Attrs∧c.Text.length≤1073741824
theorem T9 (l:List Ae) (k:Nat) (hk:k<l.length) (hm:l.length≤9223372036854775806) :
  (AB (gd ((decide (0<(k:Int))) == true) (AS .i64 ((k:Int)-1))) fun (x5:Int)=>
   AB (gd ((decide (0<(k:Int))) == true) (AM l x5)) fun (x6:Ae)=>
   AB (gd ((decide (0<(k:Int))) == true) (HP x6 l[k]!)) fun (r3:Int)=>
   if ((decide (0<(k:Int))) && (decide (0≤r3))) then (some (.inr (.ext 5)):Option (Int ⊕ (Aj Unit Int))) else (
    AB (AS .i64 ((k:Int)+1)) fun (x7:Int)=>some (.inl x7)))=BZ k (if 0<k∧0≤BQ l[k-1]!.Row l[k]!.Row l[k-1]!.Col l[k]!.Col then some 5 else none):=by
 by_cases h0:0<k
 ·rw [decide_eq_true (show (0:Int)<k by omega),show ((true == true):Bool)=true from rfl,Am,EA h0 (by omega),AC,Am,Aa (by omega),AC,Am,Vl,AC]
  by_cases h1:0≤BQ l[k-1]!.Row l[k]!.Row l[k-1]!.Col l[k]!.Col
  ·rw [if_pos (show (true && decide (0≤BQ l[k-1]!.Row l[k]!.Row l[k-1]!.Col l[k]!.Col))=true by rw [decide_eq_true h1]; rfl),if_pos ⟨h0,h1⟩]; rfl
  ·rw [if_neg (show ¬ (true && decide (0≤BQ l[k-1]!.Row l[k]!.Row l[k-1]!.Col l[k]!.Col))=true by rw [decide_eq_false h1]; decide),if_neg (fun h=>h1 h.2),An (by omega)]; rfl
 ·obtain rfl:k=0:=by omega
  rw [if_neg (show ¬ (0<0∧_) from fun h=>absurd h.1 (by decide))]; rfl
theorem V3 (rows cols:Int) (nn:Bool) (l:List Ae) (hm:l.length≤1073741824) (hl : ∀ c∈l,MC c):Jm l rows cols nn=some (Id rows cols nn l):=by
 unfold Jm
 rw [BY (n:=l.length) (Kw rows cols nn l) (fun k hk=>by
  obtain ⟨ha,ht⟩:=hl _ (Ay hk)
  have hto:=T9 l k hk (by omega)
  unfold JX Kw Ll
  rw [if_pos (by simpa using hk),Aa hk,AC]
  by_cases h1:FW rows cols l[k]!
  ·have h1':=h1
   unfold FW at h1'
   rw [if_neg (by simp only [Bool.or_eq_true,decide_eq_true_eq]; omega),if_neg (by simp only [Bool.or_eq_true,decide_eq_true_eq]; omega),Xy,AC,MS _ ha.2 (by have:=ha.1; omega),AC,hto]
   rw [if_neg (Classical.not_not.2 h1)]
   cases htx:Ew l[k]!.Text.length l[k]!.Text with
   | false=>rfl
   | true=>
    rw [if_neg (show ¬ ((!true)=true) by decide),if_neg (show ¬ (true=false) by decide)]
    by_cases h3:FE l[k]!.Attrs false=0
    ·rw [if_neg (Bv h3),if_neg (Classical.not_not.2 h3)]
     have he:JS l[k]! = some (F7 l[k]!):=by unfold JS F7; rw [PW]
     rw [he,AC]
     by_cases h4:(!nn && F7 l[k]!)=true
     ·rw [if_pos (by rw [Bool.and_comm]; exact h4),if_pos h4]; rfl
     ·grind
    ·rw [if_pos (CO h3),if_pos h3,if_pos h3]; rfl
  ·rw [if_pos h1]
   unfold FW at h1
   by_cases h2:((((decide (l[k]!.Row<0)) || (decide (rows≤l[k]!.Row))) || (decide (l[k]!.Col<0))) || (decide (cols≤l[k]!.Col)))=true
   ·rw [if_pos h2]; rfl
   ·rw [if_neg h2,if_pos (by simp only [Bool.or_eq_true,decide_eq_true_eq] at h2 ⊢; omega)]; rfl) (by unfold JX; rw [if_neg (by simp)]),EG]
 rfl
theorem TW (l:List Ae) (k:Nat) (hk:k<l.length) (hm:l.length≤9223372036854775806) :
  (AB (gd ((decide (0<(k:Int))) == true) (AS .i64 ((k:Int)-1))) fun (x7:Int)=>
      AB (gd ((decide (0<(k:Int))) == true) (AM l x7)) fun (x8:Ae)=>
      AB (gd ((((decide (0<(k:Int))) == true) && ((decide (l[k]!.Row<x8.Row)) == false)) && ((decide (l[k]!.Row=x8.Row)) == true)) (AS .i64 ((k:Int)-1))) fun (x9:Int)=>
      AB (gd ((((decide (0<(k:Int))) == true) && ((decide (l[k]!.Row<x8.Row)) == false)) && ((decide (l[k]!.Row=x8.Row)) == true)) (AM l x9)) fun (x10:Ae)=>
      if ((decide (0<(k:Int))) && ((decide (l[k]!.Row<x8.Row)) || ((decide (l[k]!.Row=x8.Row)) && (decide (l[k]!.Col≤x10.Col))))) then (some (.inr (.ext 5)):Option (Int ⊕ (Aj Unit Int))) else (
       AB (AS .i64 ((k:Int)+1)) fun (x11:Int)=>some (.inl x11)))=BZ k (if 0<k∧0≤BQ l[k-1]!.Row l[k]!.Row l[k-1]!.Col l[k]!.Col then some 5 else none):=by
 have ho:=LC l[k-1]!.Row l[k]!.Row l[k-1]!.Col l[k]!.Col
 by_cases h0:0<k
 ·rw [decide_eq_true (show (0:Int)<k by omega),show ((true == true):Bool)=true from rfl,Am,EA h0 (by omega),AC,Am,Aa (show k-1<l.length by omega),AC]
  by_cases h1:l[k]!.Row<l[k-1]!.Row
  ·rw [decide_eq_true h1,if_pos (show 0<k∧0≤BQ l[k-1]!.Row l[k]!.Row l[k-1]!.Col l[k]!.Col from ⟨h0,ho.2 (.inl h1)⟩)]; rfl
  ·by_cases h2:l[k]!.Row=l[k-1]!.Row
   ·rw [decide_eq_false h1,decide_eq_true h2,show (((true && (false == false)) && (true == true)):Bool)=true from rfl,Am,AC,Am,Aa (show k-1<l.length by omega),AC]
    by_cases h3:l[k]!.Col≤l[k-1]!.Col
    ·rw [decide_eq_true h3,if_pos (show 0<k∧0≤BQ l[k-1]!.Row l[k]!.Row l[k-1]!.Col l[k]!.Col from ⟨h0,ho.2 (.inr ⟨h2,h3⟩)⟩)]; rfl
    ·rw [decide_eq_false h3,if_neg (show ¬ (0<k∧0≤BQ l[k-1]!.Row l[k]!.Row l[k-1]!.Col l[k]!.Col) from fun h=>by have:=ho.1 h.2; omega),An (by omega)]; rfl
   ·rw [decide_eq_false h1,decide_eq_false h2,if_neg (show ¬ (0<k∧0≤BQ l[k-1]!.Row l[k]!.Row l[k-1]!.Col l[k]!.Col) from fun h=>by have:=ho.1 h.2; omega),An (by omega)]; rfl
 ·obtain rfl:k=0:=by omega
  rw [if_neg (show ¬ (0<0∧_) from fun h=>absurd h.1 (by decide))]; rfl
theorem Uc (rows cols:Int) (nn:Bool) (l:List Ae) (hm:l.length≤1073741824) (hl : ∀ c∈l,MC c) (hr:0≤rows∧rows≤2147483647) (hcc:0≤cols∧cols≤2147483647):JM l rows cols nn=some (Id rows cols nn l):=by
 unfold JM
 rw [BY (n:=l.length) (Kw rows cols nn l) (fun k hk=>by
  obtain ⟨ha,ht⟩:=hl _ (Ay hk)
  have hto:=TW l k hk (by omega)
  unfold KA Kw Ll
  rw [if_pos (by simpa using hk),Aa hk,AC,Bi (by omega) (by omega),AC,Ck,AC,Ck,hto]
  by_cases h1:FW rows cols l[k]!
  ·have h1':=h1
   unfold FW at h1'
   rw [if_neg (Classical.not_not.2 h1),decide_eq_true (show 0≤l[k]!.Row∧l[k]!.Row≤rows-1 by omega),show ((!true) == false)=true from rfl,Am,Bi (by omega) (by omega),AC,Am,Ck,AC,decide_eq_true (show 0≤l[k]!.Col∧l[k]!.Col≤cols-1 by omega),
    show (((!true) || (!true)) == false)=true from rfl,Am,AC,decide_eq_true (show 0≤l[k]!.Ref∧l[k]!.Ref≤1073741824 by omega),if_neg (by decide),UG _ (by omega),AC,NV _ _ ha.2 (by have:=ha.1; omega),AC]
   cases htx:Ew l[k]!.Text.length l[k]!.Text with
   | false=>rfl
   | true=>
    rw [if_neg (show ¬ ((!true)=true) by decide),if_neg (show ¬ (true=false) by decide)]
    by_cases h3:FE l[k]!.Attrs false=0
    ·rw [if_neg (Bv h3),if_neg (Classical.not_not.2 h3)]
     have he:Jr l[k]! = some (F7 l[k]!):=by unfold Jr F7; rw [PW]
     rw [he]
     cases nn with
     | true=>rfl
     | false=>
      show (AB (gd true (some (F7 l[k]!))) fun (r5:Bool)=>_)=_
      rw [Am,AC]
      cases F7 l[k]! <;> rfl
    ·rw [if_pos (CO h3),if_pos h3,if_pos h3]; rfl
  ·rw [if_pos h1]
   unfold FW at h1
   by_cases e1:0≤l[k]!.Row∧l[k]!.Row≤rows-1
   ·rw [decide_eq_true e1,show ((!true) == false)=true from rfl,Am,Bi (by omega) (by omega),AC,Am,Ck,AC]
    by_cases e2:0≤l[k]!.Col∧l[k]!.Col≤cols-1
    ·rw [decide_eq_true e2,show (((!true) || (!true)) == false)=true from rfl,Am,AC,decide_eq_false (show ¬ (0≤l[k]!.Ref∧l[k]!.Ref≤1073741824) by omega)]; rfl
    ·rw [decide_eq_false e2]; rfl
   ·rw [decide_eq_false e1]; rfl) (by unfold KA; rw [if_neg (by simp)]),EG]
 rfl
theorem Q3 {ρ:Type} {f:Int→Option (Int ⊕ Aj Unit ρ)} {n:Nat} (g:Nat→Option ρ) (h1 : ∀ k:Nat,k<n→(∀ j,j<k→g j=none)→f k=BZ k (g k))
  (h2:f n=some (.inr (.nrm ()))):iter f 0=some (Cr ((List.range n).findSome? g)):=by
 have key : ∀ m k:Nat,k+m=n→(∀ j,j<k→g j=none)→iter f (k:Int)=some (Cr ((List.range' k m).findSome? g)):=by
  intro m
  induction m with
  | zero=>
   intro k hk _
   obtain rfl:k=n:=by omega
   rw [Bc h2]; rfl
  | succ m ih=>
   intro k hk hj
   have hs:=h1 k (by omega) hj
   rw [List.range'_succ,List.findSome?_cons]
   cases hg:g k with
   | some r=>rw [hg] at hs; rw [Bc hs]; rfl
   | none=>
    rw [hg] at hs
    rw [B1 hs]
    grind
 have:=key n 0 (by omega) (fun j hj=>absurd hj (Nat.not_lt_zero _))
 rw [List.range_eq_range']
 exact this
def B8 (rows cols:Int) (r:Ag):Prop:=0≤r.Row∧r.Row<rows∧0≤r.Col∧r.Col<cols∧1≤r.H∧r.H≤rows-r.Row∧1≤r.W∧r.W≤cols-r.Col
instance (rows cols:Int) (r:Ag):Decidable (B8 rows cols r):=by unfold B8; infer_instance
def EQ (a b:Ag):Bool:=decide (a.Row<b.Row+b.H∧b.Row<a.Row+a.H∧a.Col<b.Col+b.W∧b.Col<a.Col+a.W)
def D8 (rows cols:Int):Prop:=0≤rows∧rows≤2147483647∧0≤cols∧cols≤2147483647
instance (rows cols:Int):Decidable (D8 rows cols):=by unfold D8; infer_instance
theorem Rz (r:Ag) (rows cols:Int) (h:D8 rows cols):Kg r rows cols=some (decide (B8 rows cols r)):=by
 obtain ⟨h1,h2,h3,h4⟩:=h
 unfold Kg
 by_cases c1:0≤r.Row∧0≤r.Col∧1≤r.H∧1≤r.W∧r.Row<rows∧r.Col<cols
 ·obtain ⟨a1,a2,a3,a4,a5,a6⟩:=c1
  rw [decide_eq_true a1,decide_eq_true a2,decide_eq_true a3,decide_eq_true a4,decide_eq_true a5,decide_eq_true a6,show ((((((true && true) && true) && true) && true) && true) == true)=true from rfl,Am,Bi (by omega) (by omega),AC]
  by_cases c2:r.H≤rows-r.Row
  ·grind [Am,Bi,AC,B8]
  ·rw [decide_eq_false c2,decide_eq_false (show ¬ B8 rows cols r from fun h=>c2 h.2.2.2.2.2.1)]; rfl
 ·have hf:((((((decide (0≤r.Row)) && (decide (0≤r.Col))) && (decide (1≤r.H))) && (decide (1≤r.W))) && (decide (r.Row<rows))) && (decide (r.Col<cols)))=false:=by
   grind
  rw [hf,decide_eq_false (show ¬ B8 rows cols r from fun h=>c1 ⟨h.1,h.2.2.1,h.2.2.2.2.1,h.2.2.2.2.2.2.1,h.2.1,h.2.2.2.1⟩)]; rfl
theorem S1 (r:Ag) (rows cols:Int) (h:D8 rows cols):Jj r rows cols=some (decide (B8 rows cols r)):=by
 obtain ⟨h1,h2,h3,h4⟩:=h
 unfold Jj
 rw [Bi (by omega) (by omega),AC,Ck,AC]
 by_cases a1:0≤r.Row∧r.Row≤rows-1
 ·rw [decide_eq_true a1,show ((true == true):Bool)=true from rfl,Am,Bi (by omega) (by omega),AC,Am,Ck,AC]
  by_cases a2:0≤r.Col∧r.Col≤cols-1
  ·rw [decide_eq_true a2,show ((true && true) == true)=true from rfl,Am,Bi (by omega) (by omega),AC,Am,Ck,AC]
   by_cases a3:1≤r.H∧r.H≤rows-r.Row
   ·grind [Am,Bi,AC,Ck,B8]
   ·rw [decide_eq_false a3,decide_eq_false (show ¬ B8 rows cols r from fun h=>a3 ⟨h.2.2.2.2.1,h.2.2.2.2.2.1⟩)]; rfl
  ·rw [decide_eq_false a2,decide_eq_false (show ¬ B8 rows cols r from fun h=>a2 ⟨h.2.2.1,by have:=h.2.2.2.1; omega⟩)]; rfl
 ·rw [decide_eq_false a1,decide_eq_false (show ¬ B8 rows cols r from fun h=>a1 ⟨h.1,by have:=h.2.1; omega⟩)]; rfl
theorem Td {rows cols:Int} (h:D8 rows cols) {a b:Ag} (ha:B8 rows cols a) (hb:B8 rows cols b):JC a b=some (EQ a b):=by
 obtain ⟨h1,h2,h3,h4⟩:=h
 obtain ⟨a1,a2,a3,a4,a5,a6,a7,a8⟩:=ha
 obtain ⟨b1,b2,b3,b4,b5,b6,b7,b8⟩:=hb
 unfold JC EQ
 rw [Bi (by omega) (by omega),AC]
 by_cases c1:a.Row<b.Row+b.H
 ·rw [decide_eq_true c1,show ((true == true):Bool)=true from rfl,Am,Bi (by omega) (by omega),AC]
  by_cases c2:b.Row<a.Row+a.H
  ·rw [decide_eq_true c2,show ((true && true) == true)=true from rfl,Am,Bi (by omega) (by omega),AC]
   by_cases c3:a.Col<b.Col+b.W
   ·grind [Am,Bi,AC]
   ·rw [decide_eq_false c3,decide_eq_false (show ¬ (a.Row<b.Row+b.H∧b.Row<a.Row+a.H∧a.Col<b.Col+b.W∧b.Col<a.Col+a.W) from fun h=>c3 h.2.2.1)]; rfl
  ·rw [decide_eq_false c2,decide_eq_false (show ¬ (a.Row<b.Row+b.H∧b.Row<a.Row+a.H∧a.Col<b.Col+b.W∧b.Col<a.Col+a.W) from fun h=>c2 h.2.1)]; rfl
 ·rw [decide_eq_false c1,decide_eq_false (show ¬ (a.Row<b.Row+b.H∧b.Row<a.Row+a.H∧a.Col<b.Col+b.W∧b.Col<a.Col+a.W) from fun h=>c1 h.1)]; rfl
theorem X7 {rows cols:Int} (h:D8 rows cols) {a b:Ag} (ha:B8 rows cols a) (hb:B8 rows cols b):Jt a b=some (EQ b a):=by
 obtain ⟨h1,h2,h3,h4⟩:=h
 obtain ⟨a1,a2,a3,a4,a5,a6,a7,a8⟩:=ha
 obtain ⟨b1,b2,b3,b4,b5,b6,b7,b8⟩:=hb
 unfold Jt EQ
 rw [Bi (by omega) (by omega),AC,Bi (by omega) (by omega),AC]
 by_cases c1:max a.Row b.Row<min (a.Row+a.H) (b.Row+b.H)
 ·rw [decide_eq_true c1,show ((true == true):Bool)=true from rfl,Am,Bi (by omega) (by omega),AC,Am,Bi (by omega) (by omega),AC]
  by_cases c2:max a.Col b.Col<min (a.Col+a.W) (b.Col+b.W)
  ·rw [decide_eq_true c2,decide_eq_true (show b.Row<a.Row+a.H∧a.Row<b.Row+b.H∧b.Col<a.Col+a.W∧a.Col<b.Col+b.W by omega)]; rfl
  ·rw [decide_eq_false c2,decide_eq_false (show ¬ (b.Row<a.Row+a.H∧a.Row<b.Row+b.H∧b.Col<a.Col+a.W∧a.Col<b.Col+b.W) by omega)]; rfl
 ·rw [decide_eq_false c1,decide_eq_false (show ¬ (b.Row<a.Row+a.H∧a.Row<b.Row+b.H∧b.Col<a.Col+a.W∧a.Col<b.Col+b.W) by omega)]; rfl
theorem Vh {α:Type} [Inhabited α] {l:List α} {k j:Nat} (hj:j<k) (hk:k≤l.length):(l.take k)[j]! = l[j]!:=by grind
def Ic (l:List Ag) (k:Nat) (w:Ag):Option Nat:=(List.range k).find? fun j=>EQ l[j]! w
theorem WC {rows cols:Int} (h:D8 rows cols) (l:List Ag) (k:Nat) (hk:k≤l.length) (hm:l.length≤1073741824) (hl : ∀ j,j<k→B8 rows cols l[j]!) {w:Ag} (hw:B8 rows cols w) :
  Hu w (l.take k)=some (Ic l k w).isSome:=by
 unfold Hu MI
 have hlen:(l.take k).length=k:=by grind
 rw [BY (n:=k) (fun j=>if EQ l[j]! w then some (j:Int) else none) (fun j hj=>by
  unfold Iw Lr
  rw [if_pos (by rw [hlen,decide_eq_true_eq]; omega),Aa (by rw [hlen]; exact hj),AC,Vh hj hk,Td h (hl j hj) hw,AC,AC,An (by omega)]
  cases EQ l[j]! w <;> rfl) (by unfold Iw; rw [if_neg (by rw [hlen]; simp)]),Mb,Ce]
 unfold Ic
 cases (List.range k).find? fun j=>EQ l[j]! w with
 | none=>rfl
 | some j=>
  simp_all
def Gx (rows cols:Int) (l:List Ag) (k:Nat):Option Int:=
 if ¬ B8 rows cols l[k]! then some 2 else if l[k]!.H=1∧l[k]!.W=1 then some 4 else if 0<k∧0≤BQ l[k-1]!.Row l[k]!.Row l[k-1]!.Col l[k]!.Col then some 5 else if (Ic l k l[k]!).isSome=true then some 21 else none
theorem PS {rows cols:Int} {l:List Ag} {k:Nat} (h:Gx rows cols l k=none):B8 rows cols l[k]!:=by grind [Gx,B8]
def I9 (g:Au):Int:=
 if ¬ D8 g.Rows g.Cols then 2 else if Id g.Rows g.Cols false g.Cells≠0 then Id g.Rows g.Cols false g.Cells else ((List.range g.Merges.length).findSome? (Gx g.Rows g.Cols g.Merges)).getD 0
def NX (g:Au):Prop:=g.Cells.length≤1048576∧g.Merges.length≤1048576 ∧ ∀ c∈g.Cells,MC c
theorem UA (a b:Ag):Jg a b=some (!decide (0≤BQ a.Row b.Row a.Col b.Col)):=by
 unfold Jg
 congr 1
 grind [LC]
theorem U2 (g:Au) (h:NX g):Iu g=some (I9 g):=by
 obtain ⟨hc,hm,hcs⟩:=h
 unfold Iu I9
 by_cases hr:D8 g.Rows g.Cols
 ·have hr':=hr
  obtain ⟨r1,r2,r3,r4⟩:=hr'
  rw [if_neg (by simp only [Bool.or_eq_true,decide_eq_true_eq]; omega),V3 _ _ _ _ (by omega) hcs,AC,if_neg (Classical.not_not.2 hr)]
  by_cases he:Id g.Rows g.Cols false g.Cells=0
  ·rw [if_neg (Bv he),if_neg (Classical.not_not.2 he),Q3 (n:=g.Merges.length) (Gx g.Rows g.Cols g.Merges) (fun k hk hj=>by
    unfold Jn
    rw [if_pos (by simpa using hk),Aa hk,AC,Rz _ _ _ hr,AC]
    unfold Gx
    by_cases h1:B8 g.Rows g.Cols g.Merges[k]!
    ·rw [decide_eq_true h1,if_neg (show ¬ ((!true)=true) by decide),if_neg (Classical.not_not.2 h1)]
     by_cases h2:g.Merges[k]!.H=1∧g.Merges[k]!.W=1
     ·rw [if_pos (by rw [decide_eq_true h2.1,decide_eq_true h2.2]; rfl),if_pos h2]; rfl
     ·rw [if_neg (by simp only [Bool.and_eq_true,decide_eq_true_eq]; exact h2),if_neg h2]
      have hcont:=WC hr g.Merges k (by omega) (by omega) (fun j hj'=>PS (hj j hj')) h1
      have hs:DH g.Merges 0 (k:Int)=some (g.Merges.take k):=by
       grind [UM]
      have hfin:(AB (DH g.Merges 0 (k:Int)) fun (l1:List Ag)=>
        AB (Hu g.Merges[k]! l1) fun (r3:Bool)=>
        if r3 then (some (.inr (.ext 21)):Option (Int ⊕ (Aj Unit Int))) else (
         AB (AS .i64 ((k:Int)+1)) fun (x7:Int)=>some (.inl x7)))=BZ k (if (Ic g.Merges k g.Merges[k]!).isSome=true then some 21 else none):=by
       rw [hs,AC,hcont,AC,An (by omega)]
       cases (Ic g.Merges k g.Merges[k]!).isSome <;> rfl
      by_cases h0:0<k
      ·rw [decide_eq_true (show (0:Int)<k by omega),show ((true == true):Bool)=true from rfl,Am,EA h0 (by omega),AC,Am,Aa (show k-1<g.Merges.length by omega),AC,Am,UA,AC]
       by_cases h3:0≤BQ g.Merges[k-1]!.Row g.Merges[k]!.Row g.Merges[k-1]!.Col g.Merges[k]!.Col
       ·rw [decide_eq_true h3,if_pos (show 0<k∧0≤BQ g.Merges[k-1]!.Row g.Merges[k]!.Row g.Merges[k-1]!.Col g.Merges[k]!.Col from ⟨h0,h3⟩)]; rfl
       ·grind
      ·simp_all
    ·rw [decide_eq_false h1,if_pos h1]; rfl) (by unfold Jn; rw [if_neg (by simp)]),EG]
  ·grind
 ·grind [D8]
theorem Sz {X:Type} (l:List Ag) (k:Nat) (hk:k<l.length) (hm:l.length≤9223372036854775806) (a b:Option X) :
  (AB (gd ((decide (0<(k:Int))) == true) (AS .i64 ((k:Int)-1))) fun (x5:Int)=>
    AB (gd ((decide (0<(k:Int))) == true) (AM l x5)) fun (x6:Ag)=>
    AB (gd ((((decide (0<(k:Int))) == true) && ((decide (l[k]!.Row<x6.Row)) == false)) && ((decide (l[k]!.Row=x6.Row)) == true)) (AS .i64 ((k:Int)-1))) fun (x7:Int)=>
    AB (gd ((((decide (0<(k:Int))) == true) && ((decide (l[k]!.Row<x6.Row)) == false)) && ((decide (l[k]!.Row=x6.Row)) == true)) (AM l x7)) fun (x8:Ag)=>
    if ((decide (0<(k:Int))) && ((decide (l[k]!.Row<x6.Row)) || ((decide (l[k]!.Row=x6.Row)) && (decide (l[k]!.Col≤x8.Col))))) then a else b) =
   if 0<k∧0≤BQ l[k-1]!.Row l[k]!.Row l[k-1]!.Col l[k]!.Col then a else b:=by
 have ho:=LC l[k-1]!.Row l[k]!.Row l[k-1]!.Col l[k]!.Col
 by_cases h0:0<k
 ·rw [decide_eq_true (show (0:Int)<k by omega),show ((true == true):Bool)=true from rfl,Am,EA h0 (by omega),AC,Am,Aa (show k-1<l.length by omega),AC]
  by_cases h1:l[k]!.Row<l[k-1]!.Row
  ·simp_all
  ·by_cases h2:l[k]!.Row=l[k-1]!.Row
   ·grind [Am,AC,Aa,BQ]
   ·simp_all
 ·simp_all
theorem S4 (g:Au) (h:NX g):Ix g=some (I9 g):=by
 obtain ⟨hc,hm,hcs⟩:=h
 unfold Ix I9
 rw [Ck,AC]
 by_cases hr:D8 g.Rows g.Cols
 ·have hr':=hr
  obtain ⟨r1,r2,r3,r4⟩:=hr'
  rw [decide_eq_true (show 0≤g.Rows∧g.Rows≤2147483647 from ⟨r1,r2⟩),show ((!true) == false)=true from rfl,Am,Ck,AC,decide_eq_true (show 0≤g.Cols∧g.Cols≤2147483647 from ⟨r3,r4⟩),if_neg (by decide),
   Uc _ _ _ _ (by omega) hcs ⟨r1,r2⟩ ⟨r3,r4⟩,AC,if_neg (Classical.not_not.2 hr)]
  by_cases he:Id g.Rows g.Cols false g.Cells=0
  ·rw [if_neg (Bv he),if_neg (Classical.not_not.2 he),Q3 (n:=g.Merges.length) (Gx g.Rows g.Cols g.Merges) (fun k hk hj=>by
    unfold KK
    rw [if_pos (by simpa using hk),Aa hk,AC,S1 _ _ _ hr,AC]
    unfold Gx
    by_cases h1:B8 g.Rows g.Cols g.Merges[k]!
    ·rw [decide_eq_true h1,if_neg (show ¬ ((!true)=true) by decide),if_neg (Classical.not_not.2 h1)]
     by_cases h2:g.Merges[k]!.H=1∧g.Merges[k]!.W=1
     ·rw [if_pos (by rw [decide_eq_true h2.1,decide_eq_true h2.2]; rfl),if_pos h2]; rfl
     ·rw [if_neg (by simp only [Bool.and_eq_true,decide_eq_true_eq]; exact h2),if_neg h2,Sz _ k hk (by omega)]
      by_cases h3:0<k∧0≤BQ g.Merges[k-1]!.Row g.Merges[k]!.Row g.Merges[k-1]!.Col g.Merges[k]!.Col
      ·rw [if_pos h3,if_pos h3]; rfl
      ·rw [if_neg h3,if_neg h3,BY (n:=k) (fun j=>if EQ g.Merges[j]! g.Merges[k]! then some (.inr (.ext 21)) else none) (fun j hjk=>by
        unfold JF
        rw [if_pos (by rw [decide_eq_true_eq]; omega),Aa (by omega),AC,X7 hr h1 (PS (hj j hjk)),AC,An (by omega)]
        cases EQ g.Merges[j]! g.Merges[k]! <;> rfl) (by unfold JF; rw [if_neg (by rw [decide_eq_true_eq]; omega)]),Mb,Ce]
       unfold Ic
       cases (List.range k).find? fun j=>EQ g.Merges[j]! g.Merges[k]! with
       | none=>rw [An (by omega)]; rfl
       | some j=>rfl
    ·rw [decide_eq_false h1,if_pos h1]; rfl) (by unfold KK; rw [if_neg (by simp)]),EG]
  ·grind
 ·rw [if_pos hr]
  unfold D8 at hr
  by_cases a:0≤g.Rows∧g.Rows≤2147483647
  ·grind [Am,Ck,AC]
  ·rw [decide_eq_false a]; rfl
def N0 (c:UInt8):Bool:=decide (97≤c.toNat) && decide (c.toNat≤122)
def MQ (s:List UInt8):Bool:=(List.range s.length).all fun k=>N0 s[k]!
def HE (s:List UInt8):Bool:=decide (1≤s.length) && decide (s.length≤200) && !decide (s[s.length-1]!.toNat=97) && MQ s
theorem Qb (s:List UInt8) (hm:s.length≤9223372036854775806):iter (fun (a:Int)=>HG s a) 0=some (Cr (if MQ s then none else some false)):=by
 rw [BY (n:=s.length) (fun k=>if N0 s[k]! then none else some false) (fun k hk=>by
  unfold HG
  rw [if_pos (by simpa using hk),Aa hk,AC,An (by omega)]
  unfold N0
  generalize s[k]! = c
  by_cases h:97≤c.toNat∧c.toNat≤122
  ·rw [if_neg (by simp only [Bool.or_eq_true,decide_eq_true_eq]; omega),if_pos (by simp only [Bool.and_eq_true,decide_eq_true_eq]; exact h)]; rfl
  ·rw [if_pos (by simp only [Bool.or_eq_true,decide_eq_true_eq]; omega),if_neg (by simp only [Bool.and_eq_true,decide_eq_true_eq]; exact h)]; rfl) (by unfold HG; rw [if_neg (by simp)]),FD]
 rfl
theorem R6:Mg=HG:=by funext s x; rfl
theorem SR (s:List UInt8) (hm:s.length≤9223372036854775806):Jl s=some (HE s):=by
 unfold Jl HE
 rw [R6,Qb s hm]
 by_cases h:1≤s.length∧s.length≤200
 ·have hne:s≠[]:=List.length_pos_iff.1 h.1
  rw [decide_eq_false hne,decide_eq_false (show ¬ (200:Int)<(s.length:Int) by omega),show ((false || false) == false)=true from rfl,Am,EA h.1 (by omega),AC,Am,Aa (by omega),AC,decide_eq_true h.1,decide_eq_true h.2]
  by_cases h2:s[s.length-1]!.toNat=97
  ·grind
  ·rw [decide_eq_false h2,if_neg (by rw [decide_eq_false (show ¬ ((s[s.length-1]!.toNat:Int)=97) by omega)]; decide)]
   cases MQ s <;> rfl
 ·have hc:((decide (s=[])) || (decide (200<(s.length:Int))))=true:=by
   grind
  have hd:(decide (1≤s.length) && decide (s.length≤200))=false:=by
   grind
  rw [hc,hd]; rfl
theorem Uj (s:List UInt8) (hm:s.length≤9223372036854775806):Jq s=some (HE s):=by
 unfold Jq HE
 rw [Qb s hm,Ce]
 cases MQ s with
 | false=>rw [Bool.and_false]; rfl
 | true=>
  rw [if_pos rfl,Bool.and_true]
  dsimp only
  by_cases h:1≤s.length∧s.length≤200
  ·rw [decide_eq_true (show (1:Int)≤(s.length:Int) by omega),decide_eq_true (show (s.length:Int)≤200 by omega),show ((true && true) == true)=true from rfl,Am,EA h.1 (by omega),AC,Am,Aa (by omega),AC,decide_eq_true h.1,decide_eq_true h.2]
   by_cases h2:s[s.length-1]!.toNat=97
   ·grind
   ·rw [decide_eq_false h2,decide_eq_false (show ¬ ((s[s.length-1]!.toNat:Int)=97) by omega)]
  ·have hc:((decide (1≤(s.length:Int))) && (decide ((s.length:Int)≤200)))=false:=by
    grind
   have hd:(decide (1≤s.length) && decide (s.length≤200))=false:=by
    grind
   rw [hc,hd]; rfl
def Ed (o:Aq):Prop:=(1≤o.Clock∧o.Clock≤1073741824)∧(0≤o.Site∧o.Site≤1000)∧(1≤o.Item∧o.Item≤1073741824)
instance (o:Aq):Decidable (Ed o):=by unfold Ed; infer_instance
def H0 (o:Aq):Int:=
 if ¬ (o.Kind=0∨o.Kind=1) then 8 else if ¬ Ed o then 2
 else if o.Kind=0 then (if o.Name≠[]∨o.Value≠[] then 4 else if ¬ (-1≤o.Parent∧o.Parent≤1073741824) then 2 else if HE o.Place=false then 9 else 0)
 else (if o.Parent≠0∨o.Place≠[] then 4 else if De o.Name=false then 9 else if o.Value≠[]∧Er o.Value=false then 23 else 0)
def Kj (l:List Aq) (k:Nat):Option Int:=
 if H0 l[k]! ≠ 0 then some (H0 l[k]!) else if 0<k∧0≤BQ l[k-1]!.Clock l[k]!.Clock l[k-1]!.Site l[k]!.Site then some 5 else none
def Qy (l:List Aq):Int:=((List.range l.length).findSome? (Kj l)).getD 0
def LF (o:Aq):Prop:=o.Place.length≤1073741824∧o.Name.length≤1073741824∧o.Value.length≤1073741824
theorem Xi (o:Aq) (h:LF o):Je o=some (H0 o):=by
 obtain ⟨hp,hn,hv⟩:=h
 unfold Je H0
 rw [SR _ (by omega),Ls _ (by omega),PZ _ (by omega)]
 by_cases k0:o.Kind=0
 ·have k1 : ¬ o.Kind=1:=by omega
  rw [if_neg (show ¬ ((!decide (o.Kind=0)) && (!decide (o.Kind=1)))=true by rw [decide_eq_true k0]; simp),if_neg (show ¬ ¬ (o.Kind=0∨o.Kind=1) from fun h=>h (.inl k0))]
  by_cases hr:Ed o
  ·have hr':=hr
   unfold Ed at hr'
   rw [if_neg (by simp only [Bool.or_eq_true,decide_eq_true_eq]; omega),if_neg (Classical.not_not.2 hr),if_pos k0,decide_eq_true k0,decide_eq_false k1]
   by_cases c1:o.Name≠[]∨o.Value≠[]
   ·simp_all
   ·have c2:o.Name=[]∧o.Value=[]:=⟨Classical.byContradiction fun h=>c1 (.inl h),Classical.byContradiction fun h=>c1 (.inr h)⟩
    have hc:(true && ((!decide (o.Name=[])) || (!decide (o.Value=[]))))=false:=by grind
    rw [if_neg c1,hc]
    by_cases c3 : -1≤o.Parent∧o.Parent≤1073741824
    ·rw [if_neg (Classical.not_not.2 c3)]
     have c4:((decide (o.Parent<(-1))) || (decide (1073741824<o.Parent)))=false:=by
      grind
     rw [c4]
     cases HE o.Place with
     | false=>rfl
     | true=>rw [decide_eq_true c2.2]; rfl
    ·rw [if_pos c3]
     have c4:((decide (o.Parent<(-1))) || (decide (1073741824<o.Parent)))=true:=by
      grind
     rw [c4]; rfl
  ·grind [Ed]
 ·by_cases k1:o.Kind=1
  ·rw [if_neg (show ¬ ((!decide (o.Kind=0)) && (!decide (o.Kind=1)))=true by rw [decide_eq_true k1,decide_eq_false k0]; decide),if_neg (show ¬ ¬ (o.Kind=0∨o.Kind=1) from fun h=>h (.inr k1))]
   by_cases hr:Ed o
   ·have hr':=hr
    unfold Ed at hr'
    rw [if_neg (by simp only [Bool.or_eq_true,decide_eq_true_eq]; omega),if_neg (Classical.not_not.2 hr),if_neg k0,decide_eq_false k0,decide_eq_true k1]
    by_cases c1:o.Parent≠0∨o.Place≠[]
    ·simp_all
    ·have c2:o.Parent=0∧o.Place=[]:=⟨Classical.byContradiction fun h=>c1 (.inl h),Classical.byContradiction fun h=>c1 (.inr h)⟩
     have hc:(true && ((!decide (o.Parent=0)) || (!decide (o.Place=[]))))=false:=by grind
     rw [if_neg c1,hc]
     cases De o.Name with
     | false=>rfl
     | true=>
      by_cases c3:o.Value=[]
      ·simp_all
      ·rw [decide_eq_false c3,if_neg (show ¬ (true=false) by decide)]
       cases hvv:Er o.Value with
       | false=>simp_all
       | true=>simp_all
   ·grind [Ed]
  ·grind
theorem Tn (a b:Aq):Kn a b=some (BQ a.Clock b.Clock a.Site b.Site):=by grind [Kn,QE,AC,Pc,Oi]
theorem VL (a b:Aq):HW a b=some (!decide (0≤BQ a.Clock b.Clock a.Site b.Site)):=by
 unfold HW
 congr 1
 grind [LC]
theorem WL (l:List Aq) (hm:l.length≤1073741824) (hl : ∀ o∈l,LF o):Jz l=some (Qy l):=by
 unfold Jz
 rw [BY (n:=l.length) (Kj l) (fun k hk=>by
  unfold JO Kj
  rw [if_pos (by simpa using hk),Aa hk,AC,Xi _ (hl _ (Ay hk)),AC]
  by_cases e:H0 l[k]! = 0
  ·rw [if_neg (Bv e),if_neg (Classical.not_not.2 e)]
   by_cases h0:0<k
   ·rw [decide_eq_true (show (0:Int)<k by omega),show ((true == true):Bool)=true from rfl,Am,EA h0 (by omega),AC,Am,Aa (show k-1<l.length by omega),AC,Am,Tn,AC]
    by_cases h3:0≤BQ l[k-1]!.Clock l[k]!.Clock l[k-1]!.Site l[k]!.Site
    ·rw [decide_eq_true h3,if_pos (show 0<k∧0≤BQ l[k-1]!.Clock l[k]!.Clock l[k-1]!.Site l[k]!.Site from ⟨h0,h3⟩)]; rfl
    ·rw [decide_eq_false h3,if_neg (show ¬ (0<k∧0≤BQ l[k-1]!.Clock l[k]!.Clock l[k-1]!.Site l[k]!.Site) from fun h=>h3 h.2),An (by omega)]; rfl
   ·rw [if_neg (show ¬ (0<k∧0≤BQ l[k-1]!.Clock l[k]!.Clock l[k-1]!.Site l[k]!.Site) from fun h=>h0 h.1),decide_eq_false (show ¬ (0:Int)<k by omega),An (by omega)]; rfl
  ·rw [if_pos (CO e),if_pos e]; rfl) (by unfold JO; rw [if_neg (by simp)]),EG]
 rfl
theorem XJ (l:List Aq) (hm:l.length≤1073741824) (hl : ∀ o∈l,LF o):KG l=some (Qy l):=by
 unfold KG
 rw [BY (n:=l.length) (Kj l) (fun k hk=>by
  obtain ⟨hp,hn,hv⟩:=hl _ (Ay hk)
  have htail:(AB (gd ((decide (0<(k:Int))) == true) (AS .i64 ((k:Int)-1))) fun (x5:Int)=>
    AB (gd ((decide (0<(k:Int))) == true) (AM l x5)) fun (x6:Aq)=>
    AB (gd ((decide (0<(k:Int))) == true) (HW x6 l[k]!)) fun (r4:Bool)=>
    if ((decide (0<(k:Int))) && (!r4)) then (some (.inr (.ext 5)):Option (Int ⊕ (Aj Unit Int))) else (
     AB (AS .i64 ((k:Int)+1)) fun (x7:Int)=>some (.inl x7)))=BZ k (if 0<k∧0≤BQ l[k-1]!.Clock l[k]!.Clock l[k-1]!.Site l[k]!.Site then some 5 else none):=by
   by_cases h0:0<k
   ·rw [decide_eq_true (show (0:Int)<k by omega),show ((true == true):Bool)=true from rfl,Am,EA h0 (by omega),AC,Am,Aa (show k-1<l.length by omega),AC,Am,VL,AC]
    by_cases h3:0≤BQ l[k-1]!.Clock l[k]!.Clock l[k-1]!.Site l[k]!.Site
    ·rw [decide_eq_true h3,if_pos (show 0<k∧0≤BQ l[k-1]!.Clock l[k]!.Clock l[k-1]!.Site l[k]!.Site from ⟨h0,h3⟩)]; rfl
    ·rw [decide_eq_false h3,if_neg (show ¬ (0<k∧0≤BQ l[k-1]!.Clock l[k]!.Clock l[k-1]!.Site l[k]!.Site) from fun h=>h3 h.2),An (by omega)]; rfl
   ·rw [if_neg (show ¬ (0<k∧0≤BQ l[k-1]!.Clock l[k]!.Clock l[k-1]!.Site l[k]!.Site) from fun h=>h0 h.1),decide_eq_false (show ¬ (0:Int)<k by omega),An (by omega)]; rfl
  unfold Jy Kj H0
  rw [if_pos (by simpa using hk),Aa hk,AC,htail,Ck,AC,Ck,Ck,Ck,Uj _ (by omega),Nh _ (by omega),Q2 _ (by omega)]
  generalize l[k]! = o at hp hn hv ⊢
  by_cases kk:o.Kind=0∨o.Kind=1
  ·rw [if_neg (show ¬ ((!decide (o.Kind=0)) && (!decide (o.Kind=1)))=true by rcases kk with h | h <;> rw [decide_eq_true h] <;> simp),if_neg (Classical.not_not.2 kk)]
   by_cases hr:Ed o
   ·rw [if_neg (Classical.not_not.2 hr),decide_eq_true hr.1,show ((!true) == false)=true from rfl,Am,AC,decide_eq_true hr.2.1,show (((!true) || (!true)) == false)=true from rfl,Am,AC,decide_eq_true hr.2.2,if_neg (show ¬ (((!true) || (!true)) || (!true))=true by decide)]
    by_cases k0:o.Kind=0
    ·rw [if_pos (decide_eq_true k0),if_pos k0]
     by_cases c1:o.Name≠[]∨o.Value≠[]
     ·have hc:((!decide (o.Name=[])) || (!decide (o.Value=[])))=true:=by
       grind
      rw [if_pos c1,if_pos hc]; rfl
     ·have c2:o.Name=[]∧o.Value=[]:=⟨Classical.byContradiction fun h=>c1 (.inl h),Classical.byContradiction fun h=>c1 (.inr h)⟩
      rw [if_neg c1,if_neg (show ¬ ((!decide (o.Name=[])) || (!decide (o.Value=[])))=true by rw [decide_eq_true c2.1,decide_eq_true c2.2]; decide),AC]
      by_cases c3 : -1≤o.Parent∧o.Parent≤1073741824
      ·rw [if_neg (Classical.not_not.2 c3),decide_eq_true c3,if_neg (show ¬ ((!true)=true) by decide),AC]
       cases HE o.Place <;> rfl
      ·rw [if_pos c3,decide_eq_false c3]; rfl
    ·rw [if_neg (show ¬ decide (o.Kind=0)=true by simpa using k0),if_neg k0]
     by_cases c1:o.Parent≠0∨o.Place≠[]
     ·have hc:((!decide (o.Parent=0)) || (!decide (o.Place=[])))=true:=by
       grind
      rw [if_pos c1,if_pos hc]; rfl
     ·have c2:o.Parent=0∧o.Place=[]:=⟨Classical.byContradiction fun h=>c1 (.inl h),Classical.byContradiction fun h=>c1 (.inr h)⟩
      rw [if_neg c1,if_neg (show ¬ ((!decide (o.Parent=0)) || (!decide (o.Place=[])))=true by rw [decide_eq_true c2.1,decide_eq_true c2.2]; decide),AC]
      cases De o.Name with
      | false=>rfl
      | true=>
       by_cases c3:o.Value=[]
       ·simp_all
       ·rw [decide_eq_false c3,if_neg (show ¬ (true=false) by decide)]
        cases hvv:Er o.Value with
        | false=>rw [if_pos (show o.Value≠[]∧false=false from ⟨c3,rfl⟩)]; rfl
        | true=>simp_all
   ·rw [if_pos hr]
    unfold Ed at hr
    by_cases a1:1≤o.Clock∧o.Clock≤1073741824
    ·rw [decide_eq_true a1,show ((!true) == false)=true from rfl,Am,AC]
     by_cases a2:0≤o.Site∧o.Site≤1000
     ·rw [decide_eq_true a2,show (((!true) || (!true)) == false)=true from rfl,Am,AC,decide_eq_false (show ¬ (1≤o.Item∧o.Item≤1073741824) by omega)]; rfl
     ·rw [decide_eq_false a2]; rfl
    ·rw [decide_eq_false a1]; rfl
  ·have hk2:((!decide (o.Kind=0)) && (!decide (o.Kind=1)))=true:=by
    grind
   rw [if_pos hk2,if_pos kk]; rfl) (by unfold Jy; rw [if_neg (by simp)]),EG]
 rfl
theorem W2:H3=HH:=by funext k; rfl
theorem W5:LX=Gc:=by funext k; rfl
theorem XT:Jh=Gf:=by funext k; rfl
theorem Xe:L5=FN:=by funext k; rfl
structure KU (n:AE):Prop where
 ok:DB n
 ce : ∀ c∈n.Grid.Cells,MC c
 dr : ∀ o∈n.Draw,LF o
theorem KU.gd {n:AE} (h:KU n):NX n.Grid:=⟨h.ok.gr.1,h.ok.gr.2.1,h.ce⟩
def Ie (kind:Int) (c:Ae):Bool:=((decide (kind=2)) && ((!decide (c.Text=[])) || (decide (0<(c.Attrs.length:Int))))) || ((decide (kind=6)) && (!decide (c.Ref=0)))
def PQ (kind:Int) (l:List Ae):Int:=((List.range l.length).findSome? fun k=>if Ie kind l[k]! then some (4:Int) else none).getD 0
theorem VM (kind:Int) (l:List Ae) (hm:l.length≤1073741824):J8 kind l=some (PQ kind l):=by
 unfold J8
 rw [BY (n:=l.length) (fun k=>if Ie kind l[k]! then some (4:Int) else none) (fun k hk=>by
  unfold KZ
  rw [if_pos (by simpa using hk),Aa hk,AC,An (by omega)]
  show (if Ie kind l[k]! = true then _ else _)=_
  cases Ie kind l[k]! <;> rfl) (by unfold KZ; rw [if_neg (by simp)]),EG]
 rfl
theorem Uu (kind:Int) (l:List Ae) (hm:l.length≤1073741824):I1 kind l=some (PQ kind l):=by
 unfold I1
 rw [BY (n:=l.length) (fun k=>if Ie kind l[k]! then some (4:Int) else none) (fun k hk=>by
  unfold Ky Ie
  rw [if_pos (by simpa using hk),Aa hk,An (by omega)]
  generalize l[k]! = c
  by_cases h2:kind=2
  ·have h6 : ¬ kind=6:=by omega
   rw [decide_eq_true h2,decide_eq_false h6]
   rw [show ((true == true):Bool)=true from rfl,Am,AC]
   generalize ((!decide (c.Text=[])) || (decide (0<(c.Attrs.length:Int))))=q
   cases q <;> rfl
  ·by_cases h6:kind=6
   ·rw [decide_eq_false h2,decide_eq_true h6]
    rw [show ((false == true):Bool)=false from rfl,G5,AC]
    show (AB (gd true (some c)) fun (x5:Ae)=>_)=_
    rw [Am,AC]
    generalize (!decide (c.Ref=0))=q
    cases q <;> rfl
   ·rw [decide_eq_false h2,decide_eq_false h6]; rfl) (by unfold Ky; rw [if_neg (by simp)]),EG]
 rfl
def Nz (t l g z d fl dr:Bool):Bool:=((!(t || l) && fl) || (!g && !z)) || (!d && dr)
theorem TI (t l g z d fl dr:Bool) :
  (if (((!(t || l)) && fl) == false) then (
   if ((!g) == true) then (
    AB (gd ((((!(t || l)) && fl) || ((!g) && (!z))) == false) (some d)) fun (r8:Bool)=>
    some ((((!(t || l)) && fl) || ((!g) && (!z))) || ((!r8) && dr))
   ) else (
    AB (gd ((((!(t || l)) && fl) || ((!g) && false)) == false) (some d)) fun (r9:Bool)=>
    some ((((!(t || l)) && fl) || ((!g) && false)) || ((!r9) && dr))
   )
  ) else (
   AB (gd ((((!(t || l)) && fl) || false) == false) (some d)) fun (r10:Bool)=>
   some ((((!(t || l)) && fl) || false) || ((!r10) && dr))
  ))=some (Nz t l g z d fl dr):=by
 cases t <;> cases l <;> cases g <;> cases z <;> cases d <;> cases fl <;> cases dr <;> rfl
theorem WY {X:Type} (t l g z d fl dr:Bool) (A B:Option X) :
  (AB (gd ((fl && (!(t || l))) == false) (some z)) fun (r5:Bool)=>
   AB (gd (((fl && (!(t || l))) == false) && ((!r5) == true)) (some g)) fun (r6:Bool)=>
   AB (gd ((((fl && (!(t || l))) || ((!r5) && (!r6))) == false) && (dr == true)) (some d)) fun (r7:Bool)=>
   if (((fl && (!(t || l))) || ((!r5) && (!r6))) || (dr && (!r7))) then A else B)=if Nz t l g z d fl dr=true then A else B:=by
 cases t <;> cases l <;> cases g <;> cases z <;> cases d <;> cases fl <;> cases dr <;> rfl
theorem Vc {α:Type} (l:List α):decide ((l.length:Int)=0)=l.isEmpty:=by
 cases l with
 | nil=>rfl
 | cons a l=>grind
theorem Vr (g:Au):Kt g=some (decide (g=Au.mk 0 0 [] [])):=by
 unfold Kt
 congr 1
 obtain ⟨a,b,c,d⟩:=g
 grind [Vc]
theorem NM (n:AE) (h:KU n) : ∃ e,Dk n=some e∧Ju n=some e:=by
 have ha:=h.ok.at_
 have hf:=h.ok.fl
 have hg:=h.ok.gr
 have hd:=h.ok.dr
 have hfe : ∀ x∈n.Flow,En x:=fun x hx=>⟨by have:=(h.ok.fa x hx).1; omega,(h.ok.fa x hx).2⟩
 unfold Dk Ju
 rw [W2,W5,XT,Xe,Ck,AC]
 by_cases c1:1≤n.ID∧n.ID≤1073741824
 ·rw [if_neg (show ¬ ((decide (n.ID<1)) || (decide (1073741824<n.ID)))=true by simp only [Bool.or_eq_true,decide_eq_true_eq]; omega),decide_eq_true c1,if_neg (show ¬ ((!true)=true) by decide),Ck,AC]
  by_cases c2:(0≤n.Kind∧n.Kind≤12)∧(n.ID=1↔n.Kind=0)
  ·obtain ⟨c2,c3⟩:=c2
   have e1:(((decide (n.Kind<0)) || (decide (13≤n.Kind))) || (!((decide (n.ID=1)) == (decide (n.Kind=0)))))=false:=by
    grind
   have e2:(((!decide (0≤n.Kind∧n.Kind≤12)) || ((decide (n.ID=1)) && (!decide (n.Kind=0)))) || ((!decide (n.ID=1)) && (decide (n.Kind=0))))=false:=by
    grind
   rw [e1,e2,if_neg (show ¬ (false=true) by decide),if_neg (show ¬ (false=true) by decide),MS _ ha.2 (by have:=ha.1; omega),AC,NV _ _ ha.2 (by have:=ha.1; omega),AC]
   by_cases c4:FE n.Attrs false=0
   ·rw [if_neg (Bv c4),if_neg (Bv c4)]
    obtain ⟨t,ht⟩ : ∃ t,HH n.Kind=some t:=⟨_,rfl⟩
    obtain ⟨l,hl⟩ : ∃ t,Gc n.Kind=some t:=⟨_,rfl⟩
    obtain ⟨g,hgk⟩ : ∃ t,Gf n.Kind=some t:=⟨_,rfl⟩
    obtain ⟨d,hdk⟩ : ∃ t,FN n.Kind=some t:=⟨_,rfl⟩
    rw [ht,hl,hgk,hdk,AC,AC,M0 _ _ hg,Vr]
    have hll : ∃ l',gd (t == false) (some l)=some l':=by cases t <;> exact ⟨_,rfl⟩
    obtain ⟨l',hl'⟩:=hll
    rw [hl',AC,AC,AC,TI,AC,AC,WY]
    by_cases c5:Nz t l' g (decide (n.Grid=Au.mk 0 0 [] [])) d (decide (0<(n.Flow.length:Int))) (decide (0<(n.Draw.length:Int)))=true
    ·simp_all
    ·rw [if_neg c5,if_neg c5]
     by_cases c6:(t || l')=true
     ·obtain ⟨r,h1,h2⟩:=TM n.Flow t hfe (by omega)
      simp_all
     ·rw [if_neg c6,if_neg c6]
      cases g with
      | true=>
       rw [if_pos rfl,U2 _ h.gd,AC,AC,if_pos rfl,S4 _ h.gd,AC]
       by_cases c7:I9 n.Grid=0
       ·rw [if_neg (Bv c7),if_neg (Bv c7),VM _ _ (by have:=hg.1; omega),Uu _ _ (by have:=hg.1; omega)]; exact ⟨_,rfl,rfl⟩
       ·simp_all
      | false=>
       rw [if_neg (show ¬ (false=true) by decide),AC,if_neg (show ¬ (false=true) by decide),WL _ (by omega) h.dr,XJ _ (by omega) h.dr]; exact ⟨_,rfl,rfl⟩
   ·simp_all
  ·have e1:(((decide (n.Kind<0)) || (decide (13≤n.Kind))) || (!((decide (n.ID=1)) == (decide (n.Kind=0)))))=true:=by
    grind
   have e2:(((!decide (0≤n.Kind∧n.Kind≤12)) || ((decide (n.ID=1)) && (!decide (n.Kind=0)))) || ((!decide (n.ID=1)) && (decide (n.Kind=0))))=true:=by
    grind
   simp_all
 ·rw [if_pos (show ((decide (n.ID<1)) || (decide (1073741824<n.ID)))=true by simp only [Bool.or_eq_true,decide_eq_true_eq]; omega),decide_eq_false c1]; exact ⟨_,rfl,rfl⟩
theorem Th (s:List Int) (v:Int) (hm:s.length≤1048576):E1 s v=some ((List.range s.length).find? fun j=>decide (v=s[j]!)).isSome:=by
 unfold E1 IO
 rw [BY (n:=s.length) (fun j=>if decide (v=s[j]!) then some (j:Int) else none) (fun j hj=>by
  unfold Eb
  rw [if_pos (by simpa using hj),Aa hj,AC,An (by omega)]
  cases decide (v=s[j]!) <;> rfl) (by unfold Eb; rw [if_neg (by simp)]),Mb,Ce]
 cases (List.range s.length).find? fun j=>decide (v=s[j]!) with
 | none=>rfl
 | some j=>
  simp_all
theorem Qh (s:List Int) (v:Int) (hm:s.length≤1048576):E1 s v=some (decide (v∈s)):=by
 rw [Th s v hm]
 congr 1
 rw [Bool.eq_iff_iff,decide_eq_true_eq,List.find?_isSome]
 constructor
 ·grind
 ·intro h
  obtain ⟨j,hj,e⟩:=List.getElem_of_mem h
  exact ⟨j,List.mem_range.2 hj,decide_eq_true (by rw [getElem!_pos s j hj,e])⟩
def Jw (p k:Int):Bool:=
 if p=0 then decide (k∈[1,6,7,10,11,12]) else if p=1 then decide (k∈[2,4,5,10]) else if p=3 then decide (k∈[4,5,10]) else if p=4∨p=12 then decide (k=5) else if p=2 then decide (k=3) else if p=7 then decide (k=8∨k=9) else false
theorem V8 (p k:Int):GY p k=some (Jw p k):=by
 unfold GY Jw
 by_cases h0:p=0
 ·simp_all [AC,Qh]
 ·grind [AC,Qh]
theorem VG (p k : Int) : Kh p k = some (Jw p k) := by
  have hk : k = 1 ∨ k = 2 ∨ k = 3 ∨ k = 4 ∨ k = 5 ∨ k = 6 ∨ k = 7 ∨ k = 8 ∨ k = 9 ∨ k = 10 ∨ k = 11 ∨ k = 12 ∨ (k ≠ 1 ∧ k ≠ 2 ∧ k ≠ 3 ∧ k ≠ 4 ∧ k ≠ 5 ∧ k ≠ 6 ∧ k ≠ 7 ∧ k ≠ 8 ∧ k ≠ 9 ∧ k ≠ 10 ∧ k ≠ 11 ∧ k ≠ 12) := by omega
  have hp : p = 0 ∨ p = 1 ∨ p = 2 ∨ p = 3 ∨ p = 4 ∨ p = 7 ∨ p = 12 ∨ (p ≠ 0 ∧ p ≠ 1 ∧ p ≠ 2 ∧ p ≠ 3 ∧ p ≠ 4 ∧ p ≠ 7 ∧ p ≠ 12) := by omega
  unfold Kh Jw H3
  rcases hk with rfl | rfl | rfl | rfl | rfl | rfl | rfl | rfl | rfl | rfl | rfl | rfl | ⟨k1, k2, k3, k4, k5, k6, k7, k8, k9, k10, k11, k12⟩
  all_goals first
    | (rcases hp with rfl | rfl | rfl | rfl | rfl | rfl | rfl | ⟨p0, p1, p2, p3, p4, p7, p12⟩
       all_goals first | rfl | (simp [p0, p1, p2, p3, p4, p7, p12]; done))
    | (rcases hp with rfl | rfl | rfl | rfl | rfl | rfl | rfl | ⟨p0, p1, p2, p3, p4, p7, p12⟩
       all_goals first
         | (simp [k1, k2, k3, k4, k5, k6, k7, k8, k9, k10, k11, k12]; done)
         | (simp [k1, k2, k3, k4, k5, k6, k7, k8, k9, k10, k11, k12, p0, p1, p2, p3, p4, p7, p12]; done))
theorem Rp {n:Nat} (h:n<9223372036854775808):IntKind.u64.wrap (n:Int)=(n:Int):=by
 have e:(n:Int) % (2 ^ (64:Nat):Int)=(n:Int):=Int.emod_eq_of_lt (by omega) (by omega)
 show (if (false && decide ((n:Int) % (2 ^ (64:Nat):Int) ≥ (2 ^ (63:Nat):Int)))=true then (n:Int) % (2 ^ (64:Nat):Int)-(2 ^ (64:Nat):Int) else (n:Int) % (2 ^ (64:Nat):Int))=_
 grind
theorem X5 (m:Nat) (h:m<4294967296):IntKind.i64.wrap (Dv .u64 (IntKind.u64.wrap (m:Int)) 1)=((m / 2:Nat):Int):=by
 rw [Rp (by omega)]
 show IntKind.i64.wrap ((m:Int).fdiv (2 ^ (min 1 64)))=_
 rw [show ((2:Int) ^ (min 1 64))=2 from rfl,Int.fdiv_eq_ediv_of_nonneg _ (by omega),show (m:Int) / 2=((m / 2:Nat):Int) by omega,Qg (by omega)]
def Fp (l:List AE):Prop:=∀ a b:Nat,a<b→b<l.length→l[a]!.ID<l[b]!.ID
theorem O3 (n:AE) (id:Int):Hn n id=some (if n.ID<id then -1 else if id<n.ID then 1 else 0):=by grind [Hn]
theorem SJ (d:AP) (id:Int) (hm:d.Nodes.length≤1048576) (hs:Fp d.Nodes) : ∃ i:Nat,Gl d id=some ((i:Int),(DU d.Nodes id).isSome)∧(∀ k,DU d.Nodes id=some k→i=k):=by
 obtain ⟨l⟩:=d
 dsimp only at hm hs ⊢
 have key : ∃ r,iter (fun (a:Int × Int)=>DP l id a.1 a.2) (0,(l.length:Int))=some r ∧
   ∃ I:Nat,r=(I:Int)∧I≤l.length∧(∀ m,m<I→l[m]!.ID<id) ∧ ∀ m,I≤m→m<l.length → ¬ l[m]!.ID<id:=by
  refine CL l.length (fun k st=>∃ I J:Nat,st=((I:Int),(J:Int))∧I≤J∧J≤l.length∧J-I≤l.length-k∧(∀ m,m<I→l[m]!.ID<id) ∧ ∀ m,J≤m→m<l.length → ¬ l[m]!.ID<id) _ ?_ ?_ ⟨0,l.length,rfl,by omega,by omega,by omega,fun m h=>absurd h (Nat.not_lt_zero _),fun m h1 h2=>absurd h2 (by omega)⟩
  ·rintro k st hk ⟨I,J,rfl,h1,h2,h3,h4,h5⟩
   dsimp only
   unfold DP
   by_cases hIJ:I<J
   ·left
    rw [if_pos (by rw [decide_eq_true_eq]; omega),show (I:Int)+(J:Int)=((I+J:Nat):Int) by omega,Bi (by omega) (by omega),AC,X5 _ (by omega),Aa (by omega),AC,O3,AC]
    by_cases hc:l[(I+J) / 2]!.ID<id
    ·rw [if_pos hc,if_pos (by decide),An (by omega)]
     refine ⟨_,rfl,(I+J) / 2+1,J,rfl,by omega,h2,by omega,fun m hmm=>?_,h5⟩
     by_cases e:m=(I+J) / 2
     ·grind
     ·have:=hs m ((I+J) / 2) (by omega) (by omega); omega
    ·rw [if_neg hc,if_neg (show ¬ decide ((if id<l[(I+J) / 2]!.ID then (1:Int) else 0)<0)=true by split <;> decide)]
     refine ⟨_,rfl,I,(I+J) / 2,rfl,by omega,by omega,by omega,h4,fun m e1 e2=>?_⟩
     by_cases e:m=(I+J) / 2
     ·grind
     ·have:=hs ((I+J) / 2) m (by omega) e2; omega
   ·grind
  ·grind [DP]
 obtain ⟨r,hr,I,rfl,hI,h4,h5⟩:=key
 unfold Gl JB
 rw [hr,AC]
 have hat : ∀ k,DU l id=some k→I=k:=by
  intro k hf
  obtain ⟨e1,e2⟩:=Hm hf
  have a1 : ¬ k<I:=fun h=>by have:=h4 k h; omega
  by_cases e:I=k
  ·exact e
  ·have:=hs I k (by omega) e1
   grind
 refine ⟨I,?_,hat⟩
 by_cases hlt:I<l.length
 ·rw [decide_eq_true (show (I:Int)<(l.length:Int) by omega),show ((true == true):Bool)=true from rfl,Am,Aa hlt,AC,Am,O3,AC,D3]
  congr 2
  have h6:=h5 I (Nat.le_refl _) hlt
  rw [if_neg h6]
  cases hf:DU l id with
  | some k=>
   grind [Hm]
  | none=>
   have hne:l[I]!.ID≠id:=by
    intro e
    have:=List.find?_eq_none.1 hf I (List.mem_range.2 hlt)
    grind
   grind
 ·rw [decide_eq_false (show ¬ (I:Int)<(l.length:Int) by omega)]
  show some ((I:Int),false)=_
  grind [DU,Hm]
def D9 (d:AP):Prop:=d.Nodes.length≤1048576 ∧ ∀ n∈d.Nodes,KU n
theorem T3:C1=F4:=by funext f x o; rfl
theorem Tx (n:AE):Lu n=F4 n.Flow:=by funext x o; rfl
theorem TT:MZ=Dr:=by funext n x o; rfl
theorem Ss (n:AE) (w:List Int) (hm:n.Grid.Cells.length≤1048576) (hw:w.length≤1048576) : ∃ r,iter (fun (a:Int × (List Int))=>Dr n a.1 a.2) (0,w)=some r∧r.length≤2097152:=by
 refine CL n.Grid.Cells.length (fun k st=>st.1=(k:Int)∧st.2.length≤1048576+k) _ ?_ ?_ ⟨rfl,by simpa using hw⟩
 ·rintro k ⟨x,out⟩ hk ⟨rfl,ho⟩
  dsimp only at ho ⊢
  left
  unfold Dr
  rw [if_pos (by simpa using hk),Aa hk,AC]
  by_cases r:n.Grid.Cells[k]!.Ref=0
  ·rw [if_neg (Bv r),AC,An (by omega),AC]
   grind
  ·rw [if_pos (CO r),Mq (by omega),AC,AC,An (by omega),AC]
   grind
 ·grind [Dr]
theorem R5 (n:AE) (h:KU n) : ∃ r,FQ n=some r∧J9 n=some r∧r.length≤2097152:=by
 have hf:=h.ok.fl
 obtain ⟨w,h1,h2⟩:=S5 n.Flow (by omega)
 obtain ⟨r,h3,h4⟩:=Ss n w h.ok.gr.1 (by omega)
 simp_all [FQ,IY,T3,AC,J9,Tx,TT]
theorem Xk (d:AP) (kind:Int) (refs:List Int) (hm:d.Nodes.length≤1048576) (hs:Fp d.Nodes) (hr:refs.length≤2097152) : ∃ e,FU d kind refs=some e∧Ku d kind refs=some e:=by
 obtain ⟨o,h1,h2,_⟩:=NY (ρ:=Int) (f:=fun (a:Int)=>DF d kind refs a) (g:=fun (a:Int)=>He d kind refs a) (n:=refs.length) (fun _=>True) trivial (fun k hk _=>by
  unfold DF He
  obtain ⟨i,hi,hik⟩:=SJ d refs[k]! hm hs
  rw [if_pos (by simpa using hk),if_pos (by simpa using hk),Aa hk,AC,AC,hi,D3,Q4 _ _ hm,AC]
  cases hf:DU d.Nodes refs[k]! with
  | none=>exact ⟨some 7,rfl,rfl,fun e=>by cases e⟩
  | some j=>
   obtain ⟨e1,e2⟩:=Hm hf
   have:=hik j hf
   subst this
   dsimp only
   rw [if_neg (show ¬ ((!Option.isSome (some i))=true) by simp),Aa e1,AC,V8,AC,if_neg (show ¬ decide ((i:Int)<0)=true by simp),AC,VG,AC]
   cases Jw kind d.Nodes[i]!.Kind with
   | false=>exact ⟨some 8,rfl,rfl,fun e=>by cases e⟩
   | true=>
    rw [An (by omega)]
    exact ⟨none,rfl,rfl,fun _=>trivial⟩) (by unfold DF; rw [if_neg (by simp)]) (by unfold He; rw [if_neg (by simp)])
 grind [FU,EG,Ku]
theorem PM {l:List AE} (h : ∀ k,0<k→k<l.length→l[k-1]!.ID<l[k]!.ID):Fp l:=by
 intro a b hab hb
 induction b with
 | zero=>omega
 | succ b ih=>
  grind
theorem R8 (d:AP) (h:D9 d) : ∃ e,Dl d=some e∧IV d=some e:=by
 obtain ⟨hm,hn⟩:=h
 unfold Dl IV
 by_cases h0:d.Nodes.length=0
 ·simp_all
 ·rw [if_neg (by rw [decide_eq_true_eq]; omega),if_neg (by rw [decide_eq_true_eq]; omega)]
  obtain ⟨o,h1,h2,h3⟩:=NY (ρ:=Int) (f:=fun (a:Int)=>CT d a) (g:=fun (a:Int)=>Hb d a) (n:=d.Nodes.length) (fun k=>∀ j,0<j→j<k→d.Nodes[j-1]!.ID<d.Nodes[j]!.ID) (fun j _ hj=>absurd hj (Nat.not_lt_zero _)) (fun k hk hI=>by
   unfold CT Hb
   obtain ⟨e,e1,e2⟩:=NM _ (hn _ (Ay hk))
   rw [if_pos (by simpa using hk),if_pos (by simpa using hk),Aa hk,AC,AC,e1,e2,AC,AC]
   by_cases he:e=0
   ·rw [if_neg (Bv he),if_neg (Bv he)]
    by_cases k0:k=0
    ·subst k0
     rw [decide_eq_true (show ((0:Nat):Int)=0 from rfl),show ((true == true):Bool)=true from rfl,Am,show (0:Int)=((0:Nat):Int) from rfl,Aa hk,AC,decide_eq_false (show ¬ ((0:Nat):Int)<((0:Nat):Int) by omega)]
     by_cases By:d.Nodes[0]!.ID=1
     ·refine ⟨none,?_,?_,fun _ j j1 j2=>by omega⟩
      ·rw [decide_eq_true By]; rfl
      ·rw [decide_eq_true By]; rfl
     ·refine ⟨some 5,?_,?_,fun e=>by cases e⟩
      ·rw [decide_eq_false By]; rfl
      ·rw [decide_eq_false By]; rfl
    ·have k1:0<k:=by omega
     rw [decide_eq_false (show ¬ ((k:Int)=0) by omega),decide_eq_true (show (0:Int)<(k:Int) by omega),show ((false == true):Bool)=false from rfl,G5,AC]
     show ∃ o:Option Int,(AB (gd true (AS .i64 ((k:Int)-1))) fun (x10:Int)=>AB (gd true (AM d.Nodes x10)) fun (x11:AE)=>_)=_∧(AB (gd true (AS .i64 ((k:Int)-1))) fun (x11:Int)=>AB (gd true (AM d.Nodes x11)) fun (x12:AE)=>_)=_∧_
     rw [Am,EA k1 (by omega),AC,AC,Am,Aa (show k-1<d.Nodes.length by omega),AC,AC,An (by omega)]
     by_cases By:d.Nodes[k]!.ID≤d.Nodes[k-1]!.ID
     ·rw [decide_eq_true By]
      exact ⟨some 5,rfl,rfl,fun e=>by cases e⟩
     ·rw [decide_eq_false By]
      refine ⟨none,rfl,rfl,fun _ j j1 j2=>?_⟩
      grind
   ·rw [if_pos (CO he),if_pos (CO he)]
    exact ⟨some e,rfl,rfl,fun e=>by cases e⟩) (by unfold CT; rw [if_neg (by simp)]) (by unfold Hb; rw [if_neg (by simp)])
  rw [h1,h2]
  cases o with
  | some e=>exact ⟨e,rfl,rfl⟩
  | none=>
   have hs:=PM (h3 rfl)
   show ∃ e,(Ap (iter (fun (a:Int)=>DD d a) 0) fun (u4:Unit)=>some 0)=some e∧(Ap (iter (fun (a:Int)=>GR d a) 0) fun (u4:Unit)=>some 0)=some e
   obtain ⟨o,e1,e2,_⟩:=NY (ρ:=Int) (f:=fun (a:Int)=>DD d a) (g:=fun (a:Int)=>GR d a) (n:=d.Nodes.length) (fun _=>True) trivial (fun k hk _=>by
    unfold DD GR
    obtain ⟨r,r1,r2,r3⟩:=R5 _ (hn _ (Ay hk))
    obtain ⟨e,c1,c2⟩:=Xk d d.Nodes[k]!.Kind r hm hs r3
    rw [if_pos (by simpa using hk),if_pos (by simpa using hk),Aa hk,AC,AC,r1,r2,AC,AC,c1,c2,AC]
    by_cases he:e=0
    ·rw [if_neg (Bv he),An (by omega)]
     exact ⟨none,rfl,rfl,fun _=>trivial⟩
    ·rw [if_pos (CO he)]
     exact ⟨some e,rfl,rfl,fun _=>trivial⟩) (by unfold DD; rw [if_neg (by simp)]) (by unfold GR; rw [if_neg (by simp)])
   grind [EG]
theorem Sy {μ:AE→Nat} {γ:Au→Nat} {ψ:Ae→Nat} {ρ:Ag→Nat} {δ:Aq→Nat} {ν:AO→Nat} {κ:Ab→Nat}
  (hn : ∀ n,(n.Attrs.map κ).sum+(n.Flow.map ν).sum+γ n.Grid+(n.Draw.map δ).sum+1≤μ n) (hg : ∀ g,(g.Cells.map ψ).sum+(g.Merges.map ρ).sum+1≤γ g)
  (hc : ∀ c,c.Text.length+(c.Attrs.map κ).sum+1≤ψ c) (hr : ∀ r,1≤ρ r) (hd : ∀ o,o.Place.length+o.Name.length+o.Value.length+1≤δ o) (he : ∀ e,(e.Attrs.map κ).sum+1≤ν e) (ha : ∀ a,a.Name.length+a.Value.length+1≤κ a)
  {d:AP} (hb:(d.Nodes.map μ).sum≤1048576):D9 d:=by
 have h1:=Ud hn hg (fun c=>by have:=hc c; omega) hr (fun o=>by have:=hd o; omega) he ha hb
 refine ⟨h1.1,fun n hm=>⟨h1.2 n hm,fun c hcm=>⟨(h1.2 n hm).gr.2.2 c hcm,?_⟩,fun o hom=>?_⟩⟩
 ·grind [Eu]
 ·have h2:=Eu (μ:=μ) hm
  have h3:=hn n
  have h5:=Eu (μ:=δ) hom
  have:=hd o
  exact ⟨by omega,by omega,by omega⟩
theorem TX {d:AP} (h:D9 d) (h0:Dl d=some 0):Fp d.Nodes ∧ ∀ k,k<d.Nodes.length→Dk d.Nodes[k]! = some 0:=by
 obtain ⟨hm,hn⟩:=h
 unfold Dl at h0
 split at h0
 ·cases h0
 let g:Nat→Option Int:=fun k=>if (Dk d.Nodes[k]!).getD 0≠0 then some ((Dk d.Nodes[k]!).getD 0) else if (k=0∧d.Nodes[k]!.ID≠1)∨(0<k∧d.Nodes[k]!.ID≤d.Nodes[k-1]!.ID) then some 5 else none
 have hit:iter (fun (a:Int)=>CT d a) 0=some (Cr ((List.range d.Nodes.length).findSome? g)):=by
  refine BY g (fun k hk=>?_) (by unfold CT; rw [if_neg (by simp)])
  unfold CT
  obtain ⟨e,e1,_⟩:=NM _ (hn _ (Ay hk))
  show _=BZ k (g k)
  simp only [g]
  rw [if_pos (by simpa using hk),Aa hk,AC,e1,AC]
  show _=BZ k (if e≠0 then some e else _)
  by_cases he:e=0
  ·rw [if_neg (Bv he),if_neg (by simpa using he)]
   by_cases k0:k=0
   ·subst k0
    rw [decide_eq_true (show ((0:Nat):Int)=0 from rfl),decide_eq_false (show ¬ (0:Int)<((0:Nat):Int) by omega)]
    by_cases By:d.Nodes[0]!.ID=1
    ·rw [decide_eq_true By,if_neg (show ¬ ((0=0∧d.Nodes[0]!.ID≠1)∨(0<0∧d.Nodes[0]!.ID≤d.Nodes[0-1]!.ID)) by rintro (⟨_,b⟩ | ⟨a,_⟩); exact b By; omega)]
     rfl
    ·rw [decide_eq_false By,if_pos (show ((0=0∧d.Nodes[0]!.ID≠1)∨(0<0∧d.Nodes[0]!.ID≤d.Nodes[0-1]!.ID)) from .inl ⟨rfl,By⟩)]
     rfl
   ·have k1:0<k:=by omega
    rw [decide_eq_false (show ¬ ((k:Int)=0) by omega),decide_eq_true (show (0:Int)<(k:Int) by omega)]
    show (AB (gd true (AS .i64 ((k:Int)-1))) fun (x10:Int)=>AB (gd true (AM d.Nodes x10)) fun (x11:AE)=>_)=_
    rw [Am,EA k1 (by omega),AC,Am,Aa (show k-1<d.Nodes.length by omega),AC,An (by omega)]
    by_cases By:d.Nodes[k]!.ID≤d.Nodes[k-1]!.ID
    ·rw [decide_eq_true By,if_pos (show ((k=0∧d.Nodes[k]!.ID≠1)∨(0<k∧d.Nodes[k]!.ID≤d.Nodes[k-1]!.ID)) from .inr ⟨k1,By⟩)]
     rfl
    ·rw [decide_eq_false By,if_neg (show ¬ ((k=0∧d.Nodes[k]!.ID≠1)∨(0<k∧d.Nodes[k]!.ID≤d.Nodes[k-1]!.ID)) by rintro (⟨a,_⟩ | ⟨_,b⟩); exact k0 a; exact By b)]
     rfl
  ·rw [if_pos (CO he),if_pos he]
   rfl
 rw [hit] at h0
 cases hf:(List.range d.Nodes.length).findSome? g with
 | some e=>
  rw [hf] at h0
  have h0:(some e:Option Int)=some 0:=h0
  injection h0 with h0
  obtain ⟨k,_,hk⟩:=List.exists_of_findSome?_eq_some hf
  grind
 | none=>
  grind [Dk,PM,NM,Ay]
theorem Ta {l:List AE} (hs:Fp l) {k:Nat} (hk:k<l.length):DU l l[k]!.ID=some k:=by
 unfold DU
 rw [List.find?_range_eq_some]
 refine ⟨by simp,by simpa using hk,fun j hj=>?_⟩
 have:=hs j k hj hk
 rw [decide_eq_false (by omega)]; rfl
theorem Vp {l:List AE} (hs:Fp l) (x:AE):(match DU l x.ID with | some k=>decide (l[k]! = x) | none=>false)=decide (x∈l):=by
 by_cases hx:x∈l
 ·obtain ⟨k,hk,rfl⟩:=List.mem_iff_getElem.1 hx
  have h1:=Ta hs hk
  rw [getElem!_pos l k hk] at h1
  rw [h1]
  simp [hk]
 ·rw [decide_eq_false hx]
  cases h:DU l x.ID with
  | none=>rfl
  | some k=>
   obtain ⟨h1,_⟩:=Hm h
   exact decide_eq_false fun e=>hx (e ▸ Ay h1)
theorem UX {α β:Type} (g:Nat→Option α) (F:α→β) (l:List Nat):(l.findSome? fun k=>(g k).map F)=(l.findSome? g).map F:=by
 induction l with
 | nil=>rfl
 | cons a l ih=>
  rw [List.findSome?_cons,List.findSome?_cons,ih]
  cases g a <;> rfl
theorem J7 {α:Type} [Inhabited α] {l:List α} {j:Int} (h0:0≤j) (h1:j<l.length):AM l j=some l[j.toNat]!:=by
 have h2:j.toNat<l.length:=by omega
 have:=Aa h2
 rwa [Int.toNat_of_nonneg h0] at this
theorem M4 {n:Nat} {js:List Int} (h : ∀ j∈js,0≤j∧j<n):Em n js=some ():=by
 unfold Em
 rw [if_pos (by simpa using h)]
def HO (fl:List AE) (n:AE) (V:List AJ) (ps:List Int):Prop:=∃ p∈ps,∃ j∈(V[p.toNat]!).nodes,fl[j.toNat]! = n
theorem UK (fl:List AE) (n:AE) (v:AJ) (hv : ∀ j∈v.nodes,0≤j∧j<fl.length) (hl:v.nodes.length≤1048576) (hfl : ∀ m∈fl,DB m) :
  ∃ b,iter (fun (a:Int)=>HX fl n v a) 0=some b∧((∃ j∈v.nodes,fl[j.toNat]! = n∧b = .ext (.inr (.ext (j,fl))))∨((∀ j∈v.nodes,fl[j.toNat]! ≠ n)∧b = .nrm ())):=by
 refine CL v.nodes.length (fun k s=>s=(k:Int) ∧ ∀ q,q<k→fl[(v.nodes[q]!).toNat]! ≠ n) _ ?_ ?_ ⟨rfl,fun q h=>absurd h (Nat.not_lt_zero _)⟩
 ·rintro k _ hk ⟨rfl,hI⟩
  obtain ⟨j0,j1⟩:=hv _ (Ay hk)
  have hm:fl[(v.nodes[k]!).toNat]! ∈ fl:=Ay (by omega)
  unfold HX
  rw [if_pos (by simpa using hk),Aa hk,AC,J7 j0 j1,AC,Qw _ _ (hfl _ hm)]
  by_cases he:fl[(v.nodes[k]!).toNat]! = n
  ·right
   rw [decide_eq_true (show fl[(v.nodes[k]!).toNat]!.ID=n.ID by rw [he]),show ((true == true):Bool)=true from rfl,Am,AC,decide_eq_true he,if_pos (show (true && true)=true from rfl),M4 (fun q hq=>by rw [List.mem_singleton] at hq; rw [hq]; exact ⟨j0,j1⟩),AC]
   exact ⟨_,rfl,.inl ⟨_,Ay hk,he,rfl⟩⟩
  ·left
   have h2 : ∃ b,gd (decide (fl[(v.nodes[k]!).toNat]!.ID=n.ID) == true) (some (decide (fl[(v.nodes[k]!).toNat]! = n)))=some b∧(decide (fl[(v.nodes[k]!).toNat]!.ID=n.ID) && b)=false:=by
    rw [decide_eq_false he]
    by_cases By:fl[(v.nodes[k]!).toNat]!.ID=n.ID
    ·rw [decide_eq_true By]; exact ⟨false,rfl,rfl⟩
    ·rw [decide_eq_false By]; exact ⟨_,rfl,rfl⟩
   obtain ⟨b,hb1,hb2⟩:=h2
   rw [hb1,AC,hb2,if_neg (by simp),An (by omega),AC]
   refine ⟨_,rfl,rfl,fun q hq=>?_⟩
   by_cases hqk:q=k
   ·subst hqk; exact he
   ·exact hI q (by omega)
 ·rintro _ ⟨rfl,hI⟩
  unfold HX
  rw [if_neg (by simp)]
  refine ⟨_,rfl,.inr ⟨fun j hj=>?_,rfl⟩⟩
  obtain ⟨q,hq,rfl⟩:=List.mem_iff_getElem.1 hj
  have:=hI q hq
  rwa [getElem!_pos v.nodes q hq] at this
theorem Wz (V:List AJ) (fl:List AE) (ps:List Int) (n:AE) (hV : ∀ p∈ps,0≤p∧p<V.length) (hn : ∀ v∈V,v.nodes.length≤1048576 ∧ ∀ j∈v.nodes,0≤j∧j<fl.length) (hl:ps.length≤1048576) (hfl : ∀ m∈fl,DB m) (hok:DB n) :
  ∃ j fl',JU (Ah.mk V) fl ps n=some (j,fl')∧((HO fl n V ps∧fl'=fl∧0≤j∧j<fl.length∧fl[j.toNat]! = n)∨(¬ HO fl n V ps∧fl'=fl++[n]∧j=fl.length)):=by
 have hloop : ∃ b,iter (fun (a:Int)=>IQ (Ah.mk V) fl ps n a) 0=some b∧((∃ j,HO fl n V ps∧0≤j∧j<(fl.length:Int)∧fl[j.toNat]! = n∧b = .ext (j,fl))∨(¬ HO fl n V ps∧b = .nrm ())):=by
  refine CL ps.length (fun k s=>s=(k:Int) ∧ ∀ q,q<k → ∀ j∈(V[(ps[q]!).toNat]!).nodes,fl[j.toNat]! ≠ n) _ ?_ ?_ ⟨rfl,fun q h=>absurd h (Nat.not_lt_zero _)⟩
  ·rintro k _ hk ⟨rfl,hI⟩
   obtain ⟨p0,p1⟩:=hV _ (Ay hk)
   have hv:V[(ps[k]!).toNat]! ∈ V:=Ay (by omega)
   obtain ⟨b,hb1,hb2⟩:=UK fl n _ (hn _ hv).2 (hn _ hv).1 hfl
   unfold IQ
   rw [if_pos (by simpa using hk),Aa hk,AC]
   dsimp only
   rw [J7 p0 p1,AC,hb1]
   rcases hb2 with ⟨j,hj,he,rfl⟩ | ⟨hno,rfl⟩
   ·right
    refine ⟨_,rfl,.inl ⟨j,⟨_,Ay hk,j,hj,he⟩,((hn _ hv).2 j hj).1,((hn _ hv).2 j hj).2,he,rfl⟩⟩
   ·left
    rw [H8,An (by omega),AC]
    refine ⟨_,rfl,rfl,fun q hq=>?_⟩
    by_cases hqk:q=k
    ·subst hqk; exact hno
    ·exact hI q (by omega)
  ·rintro _ ⟨rfl,hI⟩
   unfold IQ
   rw [if_neg (by simp)]
   refine ⟨_,rfl,.inr ⟨?_,rfl⟩⟩
   rintro ⟨p,hp,j,hj,he⟩
   obtain ⟨q,hq,rfl⟩:=List.mem_iff_getElem.1 hp
   refine hI q hq j ?_ he
   rwa [getElem!_pos ps q hq]
 obtain ⟨b,hb1,hb2⟩:=hloop
 unfold JU
 rw [hb1]
 rcases hb2 with ⟨j,h1,h2,h3,h4,rfl⟩ | ⟨h1,rfl⟩
 ·exact ⟨j,fl,rfl,.inl ⟨h1,rfl,h2,h3,h4⟩⟩
 ·refine ⟨_,_,?_,.inr ⟨h1,rfl,rfl⟩⟩
  show (AB (HB n) fun (r1:AE)=>some ((fl.length:Int),(fl++[r1])))=_
  rw [O6 _ hok,AC]
def tk (fl:List AE) (ns:List Int):List AE:=ns.map fun j=>fl[j.toNat]!
theorem Rs {fl t:List AE} {j:Int} (h0:0≤j) (h:j<fl.length):(fl++t)[j.toNat]! = fl[j.toNat]!:=by
 have h1:j.toNat<fl.length:=by omega
 have h2:j.toNat<(fl++t).length:=by rw [List.length_append]; omega
 rw [getElem!_pos (fl++t) j.toNat h2,getElem!_pos fl j.toNat h1,List.getElem_append_left h1]
theorem Pi {fl t:List AE} {ns:List Int} (h : ∀ j∈ns,0≤j∧j<fl.length):tk (fl++t) ns=tk fl ns:=
 List.map_congr_left fun j hj=>Rs (h j hj).1 (h j hj).2
structure VI (V:List AJ) (fl:List AE) (kept:List AP):Prop where
 len:V.length=kept.length
 nd : ∀ i,i<V.length→tk fl V[i]!.nodes=kept[i]!.Nodes
 rg : ∀ v∈V,∀ j∈v.nodes,0≤j∧j<fl.length
 ok : ∀ d∈kept,D9 d
theorem VI.sz {V:List AJ} {fl:List AE} {kept:List AP} (h:VI V fl kept) : ∀ v∈V,v.nodes.length≤1048576:=by
 intro v hv
 obtain ⟨i,hi,rfl⟩:=List.mem_iff_getElem.1 hv
 have h1:=congrArg List.length (h.nd i hi)
 rw [getElem!_pos V i hi] at h1
 have h2:=(h.ok _ (Ay (show i<kept.length by rw [← h.len]; exact hi))).1
 simp only [tk,List.length_map] at h1
 omega
theorem VI.grow {V:List AJ} {fl t:List AE} {kept:List AP} (h:VI V fl kept):VI V (fl++t) kept:=
 ⟨h.len,fun i hi=>by rw [Pi (h.rg _ (Ay hi))]; exact h.nd i hi,fun v hv j hj=>by have:=h.rg v hv j hj; rw [List.length_append]; omega,h.ok⟩
def CM (kept:List AP) (ps:List Int) (n:AE):Bool:=!(ps.any fun p=>decide (n∈(kept[p.toNat]!).Nodes))
theorem PV {V:List AJ} {fl:List AE} {kept:List AP} {ps:List Int} (h:VI V fl kept) (hp : ∀ p∈ps,0≤p∧p<V.length) (n:AE):HO fl n V ps↔CM kept ps n=false:=by
 have key : ∀ p∈ps,(∃ j∈(V[p.toNat]!).nodes,fl[j.toNat]! = n)↔n∈(kept[p.toNat]!).Nodes:=fun p hp2=>by
  rw [← h.nd p.toNat (by have:=hp p hp2; omega)]
  unfold tk
  rw [List.mem_map]
 unfold HO CM
 rw [Bool.not_eq_false',List.any_eq_true]
 constructor
 ·rintro ⟨p,h1,h2⟩; exact ⟨p,h1,decide_eq_true ((key p h1).1 h2)⟩
 ·rintro ⟨p,h1,h2⟩; exact ⟨p,h1,(key p h1).2 (of_decide_eq_true h2)⟩
theorem Sx (V:List AJ) (fl:List AE) (kept:List AP) (name:List UInt8) (d:AP) (ps:List Int) (h:VI V fl kept) (hp : ∀ p∈ps,0≤p∧p<V.length) (hl:ps.length≤1048576) (hd:D9 d) (hfl : ∀ m∈fl,DB m) :
  ∃ q,iter (fun (a:Int × AJ × (List AE))=>IA (Ah.mk V) d ps a.1 a.2.1 a.2.2) (0,(AJ.mk name ps []),fl)=some q∧q.1.name=name∧q.1.parents=ps∧tk q.2 q.1.nodes=d.Nodes∧(∀ j∈q.1.nodes,0≤j∧j<q.2.length) ∧
   (∃ t,q.2=fl++t)∧(∀ m∈q.2,DB m)∧q.2.length=fl.length+d.Nodes.countP (CM kept ps) ∧ ∀ j:Nat,fl.length≤j→j<q.2.length→(j:Int)∈q.1.nodes:=by
 refine CL d.Nodes.length (fun k s=>s.1=(k:Int)∧s.2.1.name=name∧s.2.1.parents=ps∧tk s.2.2 s.2.1.nodes=d.Nodes.take k∧(∀ j∈s.2.1.nodes,0≤j∧j<s.2.2.length) ∧
   (∃ t,s.2.2=fl++t)∧(∀ m∈s.2.2,DB m)∧s.2.2.length=fl.length+(d.Nodes.take k).countP (CM kept ps) ∧ ∀ j:Nat,fl.length≤j→j<s.2.2.length→(j:Int)∈s.2.1.nodes) _ ?_ ?_ ?_
 ·rintro k ⟨x,v,f⟩ hk ⟨rfl,h1,h2,h3,h4,⟨t,rfl⟩,h6,h7,h8⟩
  dsimp only at h1 h2 h3 h4 h6 h7 h8
  left
  have hg:VI V (fl++t) kept:=h.grow
  have hlen:v.nodes.length=k:=by have:=congrArg List.length h3; simp only [tk,List.length_map,List.length_take] at this; omega
  have hdl:=hd.1
  have hok:DB d.Nodes[k]!:=(hd.2 _ (Ay hk)).ok
  obtain ⟨j,f',e1,e2⟩:=Wz V (fl++t) ps d.Nodes[k]! hp (fun v hv=>⟨hg.sz v hv,hg.rg v hv⟩) hl h6 hok
  unfold IA
  dsimp only
  rw [if_pos (by simpa using hk),Aa hk,AC,e1,D3,M4 h4,AC,Mq (by omega),AC,An (by omega),AC,M4 (fun j hj=>by
   obtain ⟨v',hv',hj'⟩:=List.mem_flatMap.1 hj
   exact hg.rg v' hv' j hj'),AC]
  refine ⟨_,rfl,rfl,h1,h2,?_⟩
  dsimp only
  rw [Fd hk]
  rcases e2 with ⟨e3,rfl,j0,j1,e4⟩ | ⟨e3,rfl,rfl⟩
  ·refine ⟨?_,?_,⟨t,rfl⟩,h6,?_,fun q q1 q2=>List.mem_append_left _ (h8 q q1 q2)⟩
   ·unfold tk at h3 ⊢
    rw [List.map_append,h3]
    show _++[(fl++t)[j.toNat]!]=_
    rw [e4]
   ·intro q hq
    rw [List.mem_append,List.mem_singleton] at hq
    rcases hq with hq | rfl
    ·exact h4 q hq
    ·exact ⟨j0,j1⟩
   ·rw [List.countP_append,List.countP_cons,List.countP_nil,(PV hg hp _).1 e3,h7]; simp
  ·have hnew:CM kept ps d.Nodes[k]! = true:=by
    cases hb:CM kept ps d.Nodes[k]! with
    | true=>rfl
    | false=>exact absurd ((PV hg hp _).2 hb) e3
   have hlast:((fl++t)++[d.Nodes[k]!])[((fl++t).length:Int).toNat]! = d.Nodes[k]!:=by
    rw [Int.toNat_natCast,getElem!_pos _ _ (by simp),List.getElem_append_right (Nat.le_refl _)]; simp
   refine ⟨?_,?_,⟨t++[d.Nodes[k]!],by rw [List.append_assoc]⟩,?_,?_,fun q q1 q2=>?_⟩
   ·have h9:=Pi (t:=[d.Nodes[k]!]) h4
    unfold tk at h3 h9 ⊢
    rw [List.map_append,h9,h3]
    show _++[((fl++t)++[d.Nodes[k]!])[((fl++t).length:Int).toNat]!]=_
    rw [hlast]
   ·intro q hq
    rw [List.mem_append,List.mem_singleton] at hq
    rw [@List.length_append _ (fl++t),List.length_singleton]
    rcases hq with hq | rfl
    ·have:=h4 q hq; omega
    ·omega
   ·intro m hm
    rw [List.mem_append,List.mem_singleton] at hm
    rcases hm with hm | rfl
    ·exact h6 m hm
    ·exact hok
   ·rw [List.length_append,h7,List.countP_append,List.countP_cons,List.countP_nil,hnew]; simp; omega
   ·rw [List.length_append,List.length_singleton] at q2
    by_cases hq:q<(fl++t).length
    ·exact List.mem_append_left _ (h8 q q1 hq)
    ·exact List.mem_append_right _ (by rw [List.mem_singleton]; omega)
 ·rintro ⟨x,v,f⟩ ⟨rfl,h1,h2,h3,h4,h5,h6,h7,h8⟩
  dsimp only at h1 h2 h3 h4 h5 h6 h7 h8
  unfold IA
  dsimp only
  rw [if_neg (by simp)]
  rw [List.take_length] at h3 h7
  exact ⟨_,rfl,h1,h2,h3,h4,h5,h6,h7,h8⟩
 ·refine ⟨rfl,rfl,rfl,rfl,?_,⟨[],by simp⟩,hfl,by simp,?_⟩
  ·intro j hj; exact absurd hj List.not_mem_nil
  ·intro j h1 h2; dsimp only at h2; omega
theorem H4 {ρ:Type} {f:Int→Option (Int ⊕ Aj Unit ρ)} (n:Nat) (p:Nat→Prop) [DecidablePred p] (F:Nat→ρ) (h1 : ∀ k:Nat,k<n→f k=if p k then some (.inr (.ext (F k))) else some (.inl ((k+1:Nat):Int))) (h2:f n=some (.inr (.nrm ()))) :
  ∃ b,iter f 0=some b∧((∃ k,k<n∧p k∧(∀ j,j<k → ¬ p j)∧b = .ext (F k))∨((∀ k,k<n → ¬ p k)∧b = .nrm ())):=by
 refine CL n (fun k s=>s=(k:Int) ∧ ∀ j,j<k → ¬ p j) _ ?_ ?_ ⟨rfl,fun j h=>absurd h (Nat.not_lt_zero _)⟩
 ·rintro k _ hk ⟨rfl,hI⟩
  by_cases hp:p k
  ·exact .inr ⟨_,by rw [h1 k hk,if_pos hp],.inl ⟨k,hk,hp,hI,rfl⟩⟩
  ·refine .inl ⟨_,by rw [h1 k hk,if_neg hp],rfl,fun j hj=>?_⟩
   by_cases hjk:j=k
   ·subst hjk; exact hp
   ·exact hI j (by omega)
 ·rintro _ ⟨rfl,hI⟩
  exact ⟨_,h2,.inr ⟨hI,rfl⟩⟩
theorem Ur (l:List Int) (x:Int) (hl:l.length≤1048576):E1 l x=some (decide (x∈l)):=by
 obtain ⟨b,hb,h⟩:=H4 (f:=fun (a:Int)=>Eb l x a) l.length (fun k=>x=l[k]!) (fun k=>(k:Int)) (fun k hk=>by
  unfold Eb
  rw [if_pos (by simpa using hk),Aa hk,AC,An (by omega),AC]
  by_cases h:x=l[k]!
  ·rw [if_pos h,if_pos (decide_eq_true h)]
  ·rw [if_neg h,if_neg (by rw [decide_eq_false h]; simp)]) (by unfold Eb; rw [if_neg (by simp)])
 unfold E1 IO
 rw [hb]
 rcases h with ⟨k,hk,he,_,rfl⟩ | ⟨hno,rfl⟩
 ·rw [JR,AC,decide_eq_true (show (0:Int)≤(k:Int) by omega),decide_eq_true (he ▸ Ay hk)]
 ·rw [H8,AC,decide_eq_false (show ¬ (0:Int) ≤ -1 by omega),decide_eq_false]
  intro hx
  obtain ⟨k,hk,he⟩:=List.mem_iff_getElem.1 hx
  exact hno k hk (by rw [getElem!_pos l k hk]; exact he.symm)
theorem XA {α:Type} (l:List α) {k:Nat} (h:k≤l.length):DH l 0 (k:Int)=some (l.take k):=by
 unfold DH
 rw [if_pos ⟨by omega,by omega,by omega⟩]
 simp
def JN (N:Nat) (ps:List Int) (k:Nat):Option Int:=if ps[k]! < 0∨(N:Int)≤ps[k]! then some 2 else if ps[k]! ∈ ps.take k then some 6 else none
def EX (N:Nat) (ps:List Int):Option Int:=(List.range ps.length).findSome? (JN N ps)
theorem Qr {N:Nat} {ps:List Int} (h:EX N ps=none) : ∀ p∈ps,0≤p∧p<N:=by
 intro p hp
 obtain ⟨k,hk,rfl⟩:=List.mem_iff_getElem.1 hp
 have:=List.findSome?_eq_none_iff.1 h k (List.mem_range.2 hk)
 unfold JN at this
 rw [getElem!_pos ps k hk] at this
 split at this
 ·cases this
 ·omega
theorem T0 {N:Nat} {ps:List Int} {e:Int} (h:EX N ps=some e):e≠0:=by
 obtain ⟨k,_,hk⟩:=List.exists_of_findSome?_eq_some h
 unfold JN at hk
 grind
theorem Q0 (V:List AJ) (fl:List AE) (ps:List Int) (hl:ps.length≤1048576):iter (fun (a:Int)=>IP (Ah.mk V) fl ps a) 0=some (Cr ((EX V.length ps).map fun e=>(0,e,Ah.mk V,fl))):=by
 unfold EX
 rw [← UX]
 refine BY _ (fun k hk=>?_) (by unfold IP; rw [if_neg (by simp)])
 unfold IP
 rw [if_pos (by simpa using hk),Aa hk,AC]
 unfold JN
 dsimp only
 by_cases h1:ps[k]! < 0∨(V.length:Int)≤ps[k]!
 ·rw [if_pos h1,if_pos (by rw [Bool.or_eq_true,decide_eq_true_eq,decide_eq_true_eq]; exact h1)]; rfl
 ·rw [if_neg h1,if_neg (by rw [Bool.or_eq_true,decide_eq_true_eq,decide_eq_true_eq]; exact h1),XA _ (by omega),AC,Ur _ _ (by rw [List.length_take]; omega),AC]
  by_cases h2:ps[k]! ∈ ps.take k
  ·rw [if_pos h2,if_pos (decide_eq_true h2)]; rfl
  ·rw [if_neg h2,if_neg (by rw [decide_eq_false h2]; simp),An (by omega)]; rfl
theorem TZ (called:List (List UInt8)) (ps:List Int) (hl:ps.length≤1048576) (hc:called.length≤1048576):iter (fun (a:Int)=>Io called ps a) 0=some (Cr (EX called.length ps)):=by
 unfold EX
 refine BY _ (fun k hk=>?_) (by unfold Io; rw [if_neg (by simp)])
 unfold Io
 rw [if_pos (by simpa using hk),Aa hk,AC,Bi (by omega) (by omega),AC,Eo,AC]
 unfold JN
 by_cases h1:ps[k]! < 0∨(called.length:Int)≤ps[k]!
 ·rw [if_pos h1,if_pos (by
   rw [Bool.not_eq_true',Bool.and_eq_false_iff]
   rcases h1 with h1 | h1
   ·exact .inl (decide_eq_false (by omega))
   ·exact .inr (decide_eq_false (by omega)))]; rfl
 ·rw [if_neg h1,if_neg (by
   rw [decide_eq_true (show (0:Int)≤ps[k]! by omega),decide_eq_true (show ps[k]! ≤ (called.length:Int)-1 by omega)]; simp)]
  obtain ⟨b,hb,h⟩:=H4 (f:=fun (a:Int)=>HT ps (k:Int) ps[k]! a) k (fun q=>ps[q]! = ps[k]!) (fun _=>.inr (.ext 6)) (fun q hq=>by
   unfold HT
   rw [if_pos (by simpa using hq),Aa (by omega),AC,An (by omega),AC]
   by_cases h:ps[q]! = ps[k]!
   ·rw [if_pos h,if_pos (decide_eq_true h)]
   ·rw [if_neg h,if_neg (by rw [decide_eq_false h]; simp)]) (by unfold HT; rw [if_neg (by simp)])
  rw [hb]
  rcases h with ⟨q,hq,he,_,rfl⟩ | ⟨hno,rfl⟩
  ·rw [if_pos]
   ·rfl
   ·rw [List.mem_iff_getElem]
    exact ⟨q,by rw [List.length_take]; omega,by rw [List.getElem_take,← getElem!_pos ps q (by omega)]; exact he⟩
  ·rw [if_neg,H8,An (by omega)]
   ·rfl
   ·intro hm
    obtain ⟨q,hq,he⟩:=List.mem_iff_getElem.1 hm
    rw [List.length_take] at hq
    rw [List.getElem_take,← getElem!_pos ps q (by omega)] at he
    exact hno q (by omega) he
def Ek (called:List (List UInt8)) (name:List UInt8) (e:Int) (ps:List Int):Int:=
 if De name=false then 9 else if e≠0 then e else match EX called.length ps with
  | some q=>q
  | none=>if name∈called then 6 else 0
theorem OI {called:List (List UInt8)} {name:List UInt8} {e:Int} {ps:List Int} (h:Ek called name e ps=0):De name=true∧e=0∧EX called.length ps=none∧name ∉ called:=by
 unfold Ek at h
 cases hq:EX called.length ps with
 | some q=>have:=T0 hq; grind
 | none=>grind
theorem PY (called:List (List UInt8)) (name:List UInt8) (d:AP) (ps:List Int) (hl:ps.length≤1048576) (hc:called.length≤1048576) (hn:name.length≤1048576) {e:Int} (he:IV d=some e) :
  KV called name d ps=some (Ek called name e ps):=by
 unfold KV Ek
 rw [Nh _ (by omega),AC,he]
 cases hN:De name with
 | false=>rfl
 | true=>
  rw [if_neg (by simp),if_neg (by simp),AC]
  by_cases h0:e=0
  ·rw [if_neg (Bv h0),if_neg (by simpa using h0),TZ _ _ hl hc]
   cases hq:EX called.length ps with
   | some q=>rfl
   | none=>
    obtain ⟨b,hb,h⟩:=H4 (f:=fun (a:Int)=>GP called name a) called.length (fun q=>called[q]! = name) (fun _=>6) (fun q hq=>by
     unfold GP
     rw [if_pos (by simpa using hq),Aa hq,AC,An (by omega),AC]
     by_cases h:called[q]! = name
     ·rw [if_pos h,if_pos (decide_eq_true h)]
     ·rw [if_neg h,if_neg (by rw [decide_eq_false h]; simp)]) (by unfold GP; rw [if_neg (by simp)])
    show (Ap (iter (fun (a:Int)=>GP called name a) 0) fun (u4:Unit)=>some 0)=_
    rw [hb]
    rcases h with ⟨q,hq,he,_,rfl⟩ | ⟨hno,rfl⟩
    ·dsimp only
     rw [if_pos (he ▸ Ay hq)]; rfl
    ·dsimp only
     rw [if_neg]
     ·rfl
     ·intro hm
      obtain ⟨q,hq,he⟩:=List.mem_iff_getElem.1 hm
      exact hno q hq (by rw [getElem!_pos called q hq]; exact he)
  ·rw [if_pos (CO h0),if_pos h0]
theorem Ip {α:Type} (b:Nat) (l:List α) (x:α) (h:l.length≤16777216) (hb:b≤1024):BS b l [x]=some (l++[x]):=by
 unfold BS
 rw [if_pos]
 have:(l.length+1) * b≤16777217 * 1024:=Nat.mul_le_mul (by omega) hb
 simp only [List.length_singleton]
 omega
theorem Qc (l:List Int) (h:l.length≤1048576):Hp l=some l:=by
 unfold Hp
 rw [LR 8 l (by decide) h,AC]
theorem Pa (V:List AJ) (called:List (List UInt8)) (name:List UInt8) (hl:V.length=called.length) (hv:V.length≤1048576) (h : ∀ i,i<V.length→V[i]!.name=called[i]!) :
  G8 V name=some (decide (name∈called)):=by
 obtain ⟨b,hb,hq⟩:=H4 (f:=fun (a:Int)=>IH V name a) V.length (fun q=>V[q]!.name=name) (fun q=>(q:Int)) (fun q hq=>by
  unfold IH J0
  rw [if_pos (by simpa using hq),Aa hq,AC,AC,An (by omega),AC]
  by_cases h:V[q]!.name=name
  ·rw [if_pos h,if_pos (decide_eq_true h)]
  ·rw [if_neg h,if_neg (by rw [decide_eq_false h]; simp)]) (by unfold IH; rw [if_neg (by simp)])
 unfold G8 LM
 rw [hb]
 rcases hq with ⟨q,hq,he,_,rfl⟩ | ⟨hno,rfl⟩
 ·rw [JR,AC,decide_eq_true (show (0:Int)≤(q:Int) by omega),decide_eq_true]
  rw [h q hq] at he
  exact he ▸ Ay (by omega)
 ·rw [H8,AC,decide_eq_false (show ¬ (0:Int) ≤ -1 by omega),decide_eq_false]
  intro hm
  obtain ⟨q,hq,he⟩:=List.mem_iff_getElem.1 hm
  refine hno q (by omega) ?_
  rw [h q (by omega),getElem!_pos called q hq]; exact he
theorem Sd (V:List AJ) (fl:List AE) (called:List (List UInt8)) (name:List UInt8) (d:AP) (ps:List Int) (hc:V.length=called.length) (hv:V.length≤1048576) (hnm : ∀ i,i<V.length→V[i]!.name=called[i]!) (hl:ps.length≤1048576)
  (hn:name.length≤1048576) {e:Int} (he:Dl d=some e) (hE:Ek called name e ps≠0):GC (Ah.mk V) fl name d ps=some (0,Ek called name e ps,Ah.mk V,fl):=by
 unfold GC
 unfold Ek at hE ⊢
 rw [Ls _ (by omega),AC,he]
 cases hN:De name with
 | false=>rfl
 | true=>
  rw [hN] at hE
  rw [if_neg (by simp)] at hE
  rw [if_neg (by simp),if_neg (by simp),AC]
  by_cases h0:e=0
  ·rw [if_neg (by simpa using h0)] at hE
   rw [if_neg (Bv h0),if_neg (by simpa using h0),Q0 _ _ _ hl,hc]
   cases hq:EX called.length ps with
   | some q=>rfl
   | none=>
    rw [hq] at hE
    dsimp only at hE ⊢
    rw [Option.map_none]
    show (AB (G8 V name) fun (r2:Bool)=>_)=_
    rw [Pa V called name hc hv hnm,AC]
    by_cases hm:name∈called
    ·rw [if_pos (decide_eq_true hm),if_pos hm]
    ·rw [if_neg hm] at hE; exact absurd rfl hE
  ·rw [if_pos (CO h0),if_pos h0]
theorem Po (V:List AJ) (fl:List AE) (kept:List AP) (called:List (List UInt8)) (name:List UInt8) (d:AP) (ps:List Int) (h:VI V fl kept) (hc:V.length=called.length) (hv:V.length≤1048576) (hnm : ∀ i,i<V.length→V[i]!.name=called[i]!) (hl:ps.length≤1048576)
  (hn:name.length≤1048576) (hd:D9 d) (hfl : ∀ m∈fl,DB m) {e:Int} (he:Dl d=some e) (hE:Ek called name e ps=0) : ∃ v fl',GC (Ah.mk V) fl name d ps=some ((V.length:Int),0,Ah.mk (V++[v]),fl')∧v.name=name∧v.parents=ps ∧
   tk fl' v.nodes=d.Nodes∧(∀ j:Int,j∈v.nodes→0≤j∧j<fl'.length)∧(∃ t,fl'=fl++t)∧(∀ m∈fl',DB m)∧fl'.length=fl.length+d.Nodes.countP (CM kept ps) ∧ ∀ j:Nat,fl.length≤j→j<fl'.length→(j:Int)∈v.nodes:=by
 obtain ⟨h1,h2,h3,h4⟩:=OI hE
 subst h2
 rw [← hc] at h3
 obtain ⟨⟨v,fl'⟩,q1,q2⟩:=Sx V fl kept name d ps h (Qr h3) hl hd hfl
 refine ⟨v,fl',?_,q2⟩
 unfold GC
 rw [Ls _ (by omega),AC,he,h1,if_neg (by simp),AC,if_neg (Bv rfl),Q0 _ _ _ hl,h3]
 show (AB (G8 V name) fun (r2:Bool)=>_)=_
 rw [Pa V called name hc hv hnm,AC,if_neg (by rw [decide_eq_false h4]; simp),Qc _ hl,AC,q1]
 show (AB (BS 64 V [v]) fun (l1:List AJ)=>_)=_
 rw [Ip 64 _ _ (by omega) (by decide),AC,List.length_append,List.length_singleton,Bi (by omega) (by omega),AC]
 rw [show (((V.length+1:Nat):Int)-1)=(V.length:Int) by omega]
def Ea (kept:List AP) (from_:List (List Int)) (i:Nat):Nat:=(kept[i]!).Nodes.countP (CM kept from_[i]!)
structure CN (V:List AJ) (fl:List AE) (kept:List AP) (called:List (List UInt8)) (from_:List (List Int)):Prop where
 vi:VI V fl kept
 lc:V.length=called.length
 lf:V.length=from_.length
 six:V.length≤6
 nm : ∀ i,i<V.length→V[i]!.name=called[i]!
 pa : ∀ i,i<V.length→V[i]!.parents=from_[i]!
 up : ∀ i,i<V.length → ∀ p∈from_[i]!,0≤p∧p<i
 ps : ∀ l∈from_,l.length≤1048576
 ok : ∀ m∈fl,DB m
 nd:called.Nodup
 srt : ∀ d∈kept,Fp d.Nodes
 all : ∀ j:Nat,j<fl.length → ∃ v∈V,(j:Int)∈v.nodes
 cnt:fl.length=((List.range V.length).map (Ea kept from_)).sum
 sz:fl.length≤1048576 * V.length
theorem CN.nil:CN [] [] [] [] []:=by
 refine ⟨⟨rfl,?_,?_,?_⟩,rfl,rfl,by decide,?_,?_,?_,?_,?_,List.nodup_nil,?_,?_,rfl,by decide⟩ <;> simp
theorem CP {α:Type} [Inhabited α] {l:List α} {x:α} {i:Nat} : (i<l.length→(l++[x])[i]! = l[i]!)∧(i=l.length→(l++[x])[i]! = x):=by
 refine ⟨fun h=>?_,fun h=>?_⟩
 ·rw [getElem!_pos l i h,getElem!_pos (l++[x]) i (by rw [List.length_append]; omega),List.getElem_append_left h]
 ·subst h
  rw [getElem!_pos (l++[x]) l.length (by simp),List.getElem_append_right (Nat.le_refl _)]; simp
theorem QJ {kept:List AP} {d:AP} {ps:List Int} {N:Nat} (hN:N≤kept.length) (h : ∀ p∈ps,0≤p∧p<N):CM (kept++[d]) ps=CM kept ps:=by
 funext n
 unfold CM
 congr 1
 rw [Bool.eq_iff_iff,List.any_eq_true,List.any_eq_true]
 refine exists_congr fun p=>and_congr_right fun hp=>?_
 rw [(CP (l:=kept) (x:=d) (i:=p.toNat)).1 (by have:=h p hp; omega)]
theorem CN.step {V:List AJ} {fl:List AE} {kept:List AP} {called:List (List UInt8)} {from_:List (List Int)} (h:CN V fl kept called from_) {v:AJ} {fl':List AE} {name:List UInt8} {d:AP} {ps:List Int} (h5:V.length<6)
  (hd:D9 d) (h0:Dl d=some 0) (hl:ps.length≤1048576) (hE:Ek called name 0 ps=0) (e1:v.name=name) (e2:v.parents=ps) (e3:tk fl' v.nodes=d.Nodes) (e4 : ∀ j:Int,j∈v.nodes→0≤j∧j<fl'.length) (e5 : ∃ t,fl'=fl++t) (e6 : ∀ m∈fl',DB m)
  (e7:fl'.length=fl.length+d.Nodes.countP (CM kept ps)) (e8 : ∀ j:Nat,fl.length≤j→j<fl'.length→(j:Int)∈v.nodes):CN (V++[v]) fl' (kept++[d]) (called++[name]) (from_++[ps]):=by
 obtain ⟨t,rfl⟩:=e5
 obtain ⟨_,_,q3,q4⟩:=OI hE
 rw [← h.lc] at q3
 have hps:=Qr q3
 have hg:=h.vi.grow (t:=t)
 have lk:=h.vi.len
 have cs : ∀ i,i<(V++[v]).length→i<V.length∨i=V.length:=fun i hi=>by rw [List.length_append,List.length_singleton] at hi; omega
 refine ⟨⟨by simp [lk],fun i hi=>?_,fun w hw j hj=>?_,fun d' hd'=>?_⟩,by simp [h.lc],by simp [h.lf],by simp; omega,fun i hi=>?_,fun i hi=>?_,fun i hi=>?_,fun l hl'=>?_,e6,?_,fun d' hd'=>?_,fun j hj=>?_,?_,?_⟩
 ·rcases cs i hi with hi | hi
  ·rw [CP.1 hi,CP.1 (by omega)]; exact hg.nd i hi
  ·rw [CP.2 hi,CP.2 (by omega)]; exact e3
 ·rw [List.mem_append,List.mem_singleton] at hw
  rcases hw with hw | rfl
  ·exact hg.rg w hw j hj
  ·exact e4 j hj
 ·rw [List.mem_append,List.mem_singleton] at hd'
  rcases hd' with hd' | rfl
  ·exact h.vi.ok d' hd'
  ·exact hd
 ·rcases cs i hi with hi | hi
  ·rw [CP.1 hi,CP.1 (by rw [← h.lc]; exact hi)]; exact h.nm i hi
  ·rw [CP.2 hi,CP.2 (by rw [← h.lc]; exact hi)]; exact e1
 ·rcases cs i hi with hi | hi
  ·rw [CP.1 hi,CP.1 (by rw [← h.lf]; exact hi)]; exact h.pa i hi
  ·rw [CP.2 hi,CP.2 (by rw [← h.lf]; exact hi)]; exact e2
 ·rcases cs i hi with hi | hi
  ·rw [CP.1 (by rw [← h.lf]; exact hi)]; exact h.up i hi
  ·rw [CP.2 (by rw [← h.lf]; exact hi),hi]; exact hps
 ·rw [List.mem_append,List.mem_singleton] at hl'
  rcases hl' with hl' | rfl
  ·exact h.ps l hl'
  ·exact hl
 ·rw [List.nodup_append]
  refine ⟨h.nd,by simp,fun a ha b hb=>?_⟩
  rw [List.mem_singleton] at hb
  subst hb
  exact fun e=>q4 (e ▸ ha)
 ·rw [List.mem_append,List.mem_singleton] at hd'
  rcases hd' with hd' | rfl
  ·exact h.srt d' hd'
  ·exact (TX hd h0).1
 ·by_cases hj2:j<fl.length
  ·obtain ⟨w,hw,hjw⟩:=h.all j hj2
   exact ⟨w,List.mem_append_left _ hw,hjw⟩
  ·exact ⟨v,by simp,e8 j (by omega) hj⟩
 ·rw [e7,List.length_append,List.length_singleton,List.range_succ,List.map_append,List.sum_append,List.map_singleton,List.sum_singleton]
  congr 1
  ·rw [h.cnt]
   congr 1
   refine List.map_congr_left fun i hi=>?_
   have hi:=List.mem_range.1 hi
   unfold Ea
   rw [(CP (l:=kept) (x:=d)).1 (by omega),(CP (l:=from_) (x:=ps)).1 (by rw [← h.lf]; exact hi),QJ (N:=i) (by omega) (h.up i hi)]
  ·unfold Ea
   rw [(CP (l:=kept) (x:=d)).2 lk,(CP (l:=from_) (x:=ps)).2 h.lf,QJ (N:=V.length) (by omega) hps]
 ·have:=List.countP_le_length (p:=CM kept ps) (l:=d.Nodes)
  have:=hd.1
  have:=h.sz
  rw [e7,List.length_append,List.length_singleton]
  omega
section
variable {V:List AJ} {fl:List AE} {kept:List AP} {called:List (List UInt8)} {from_:List (List Int)}
theorem We (h:CN V fl kept called from_):H6 (Ah.mk V) fl=some called:=by
 have h6:=h.six
 obtain ⟨b,hb,rfl⟩ : ∃ b,iter (fun (a:Int × (List (List UInt8)))=>In (Ah.mk V) a.1 a.2) (0,[])=some b∧b=called:=by
  refine CL V.length (fun k s=>s.1=(k:Int)∧s.2=called.take k) _ ?_ ?_ ⟨rfl,rfl⟩
  ·rintro k ⟨x,o⟩ hk ⟨rfl,rfl⟩
   left
   unfold In
   dsimp only
   rw [if_pos (by simpa using hk),Aa hk,AC,Ip 16 _ _ (by rw [List.length_take]; omega) (by decide),AC,An (by omega),AC]
   exact ⟨_,rfl,rfl,by dsimp only; rw [h.nm k hk,← Fd (by rw [← h.lc]; exact hk)]⟩
  ·rintro ⟨x,o⟩ ⟨rfl,rfl⟩
   unfold In
   dsimp only
   rw [if_neg (by simp)]
   exact ⟨_,rfl,by rw [h.lc,List.take_length]⟩
 unfold H6
 rw [hb,AC]
theorem W9 {n:Nat} {js:List Int} {j:Int} (h : ∀ a∈js,0≤a∧a<n) (hj:0≤j∧j<n):HN n js j=some (if j∈js then js else js++[j]):=by
 unfold HN
 rw [if_pos (by simp only [List.all_cons,Bool.and_eq_true,List.all_eq_true,decide_eq_true_eq]; exact ⟨hj,h⟩)]
theorem W8 (v:AJ) (js0:List Int) (hv : ∀ j∈v.nodes,0≤j∧j<fl.length) (hl:v.nodes.length≤1048576) (h0:js0.Nodup) (h1 : ∀ a∈js0,0≤a∧a<fl.length) :
  ∃ js,iter (fun (a:Int × (List Int))=>IC fl v a.1 a.2) (0,js0)=some js∧js.Nodup∧(∀ a,a∈js↔a∈js0∨a∈v.nodes):=by
 refine CL v.nodes.length (fun k s=>s.1=(k:Int)∧s.2.Nodup ∧ ∀ a,a∈s.2↔a∈js0∨a∈v.nodes.take k) _ ?_ ?_ ⟨rfl,h0,fun a=>by simp⟩
 ·rintro k ⟨x,js⟩ hk ⟨rfl,h2,h3⟩
  dsimp only at h2 h3
  left
  have hr : ∀ a∈js,0≤a∧a<fl.length:=fun a ha=>by
   rcases (h3 a).1 ha with h | h
   ·exact h1 a h
   ·exact hv a (List.mem_of_mem_take h)
  unfold IC
  dsimp only
  rw [if_pos (by simpa using hk),Aa hk,AC,W9 hr (hv _ (Ay hk)),AC,An (by omega),AC]
  refine ⟨_,rfl,rfl,?_,fun a=>?_⟩
  ·dsimp only
   split
   ·exact h2
   ·rename_i hn
    rw [List.nodup_append]
    refine ⟨h2,by simp,fun a ha b hb=>?_⟩
    rw [List.mem_singleton] at hb
    subst hb
    exact fun e=>hn (e ▸ ha)
  ·dsimp only
   rw [Fd hk,List.mem_append,List.mem_singleton]
   split
   ·rename_i hm
    have:=h3 a
    have:=h3 v.nodes[k]!
    constructor
    ·intro ha; rcases (h3 a).1 ha with h | h
     ·exact .inl h
     ·exact .inr (.inl h)
    ·rintro (h | h | h)
     ·exact (h3 a).2 (.inl h)
     ·exact (h3 a).2 (.inr h)
     ·rw [h]; exact hm
   ·rw [List.mem_append,List.mem_singleton,h3 a,or_assoc]
 ·rintro ⟨x,js⟩ ⟨rfl,h2,h3⟩
  unfold IC
  dsimp only
  rw [if_neg (by simp)]
  rw [List.take_length] at h3
  exact ⟨_,rfl,h2,h3⟩
theorem QP (h:CN V fl kept called from_):Fq (Ah.mk V) fl=some (fl.length:Int):=by
 have h6:=h.six
 obtain ⟨js,hb,h1,h2⟩ : ∃ js,iter (fun (a:Int × (List Int))=>II (Ah.mk V) fl a.1 a.2) (0,[])=some js∧js.Nodup ∧ ∀ a,a∈js ↔ ∃ v∈V,a∈v.nodes:=by
  refine CL V.length (fun k s=>s.1=(k:Int)∧s.2.Nodup ∧ ∀ a,a∈s.2 ↔ ∃ v∈V.take k,a∈v.nodes) _ ?_ ?_ ⟨rfl,List.nodup_nil,fun a=>by simp⟩
  ·rintro k ⟨x,js⟩ hk ⟨rfl,h2,h3⟩
   dsimp only at h2 h3
   left
   have hv:=Ay hk
   obtain ⟨js',e1,e2,e3⟩:=W8 (fl:=fl) V[k]! js (h.vi.rg _ hv) (h.vi.sz _ hv) h2 (fun a ha=>by
    obtain ⟨v,hv,hav⟩:=(h3 a).1 ha
    exact h.vi.rg v (List.mem_of_mem_take hv) a hav)
   unfold II
   dsimp only
   rw [if_pos (by simpa using hk),Aa hk,AC,e1,AC,An (by omega),AC]
   refine ⟨_,rfl,rfl,e2,fun a=>?_⟩
   dsimp only
   rw [e3,h3,Fd hk]
   constructor
   ·rintro (⟨v,hv,ha⟩ | ha)
    ·exact ⟨v,List.mem_append_left _ hv,ha⟩
    ·exact ⟨_,List.mem_append_right _ (List.mem_singleton.2 rfl),ha⟩
   ·rintro ⟨v,hv,ha⟩
    rw [List.mem_append,List.mem_singleton] at hv
    rcases hv with hv | rfl
    ·exact .inl ⟨v,hv,ha⟩
    ·exact .inr ha
  ·rintro ⟨x,js⟩ ⟨rfl,h2,h3⟩
   unfold II
   dsimp only
   rw [if_neg (by simp)]
   rw [List.take_length] at h3
   exact ⟨_,rfl,h2,h3⟩
 unfold Fq
 rw [hb,AC]
 have hp:js.Perm ((List.range fl.length).map fun (j:Nat)=>(j:Int)):=by
  rw [List.perm_ext_iff_of_nodup h1]
  ·intro a
   rw [h2,List.mem_map]
   constructor
   ·rintro ⟨v,hv,ha⟩
    have:=h.vi.rg v hv a ha
    exact ⟨a.toNat,List.mem_range.2 (by omega),by omega⟩
   ·rintro ⟨j,hj,rfl⟩
    exact h.all j (List.mem_range.1 hj)
  ·exact List.Pairwise.map _ (fun a b hab=>by intro e; exact hab (by omega)) List.nodup_range
 have:=hp.length_eq
 rw [List.length_map,List.length_range] at this
 rw [this]
theorem O2 (h:CN V fl kept called from_) {i:Nat} (hi:i<V.length):Et (Ah.mk V) fl (i:Int)=some (kept[i]!,0):=by
 have hv:=Ay hi
 have hsz:=h.vi.sz _ hv
 have hn:=h.vi.nd i hi
 have hlen:V[i]!.nodes.length=kept[i]!.Nodes.length:=by rw [← hn]; simp [tk]
 obtain ⟨b,hb,rfl⟩ : ∃ b,iter (fun (a:Int × AP)=>IN fl V[i]! a.1 a.2) (0,(AP.mk []))=some b∧b=kept[i]!:=by
  refine CL V[i]!.nodes.length (fun k s=>s.1=(k:Int)∧s.2=AP.mk (kept[i]!.Nodes.take k)) _ ?_ ?_ ⟨rfl,rfl⟩
  ·rintro k ⟨x,o⟩ hk ⟨rfl,rfl⟩
   left
   obtain ⟨j0,j1⟩:=h.vi.rg _ hv _ (Ay hk)
   have hm:fl[(V[i]!.nodes[k]!).toNat]! ∈ fl:=Ay (by omega)
   have hk2:k<kept[i]!.Nodes.length:=by omega
   have he:fl[(V[i]!.nodes[k]!).toNat]! = kept[i]!.Nodes[k]!:=by
    have:=congrArg (fun l=>l[k]?) hn
    simp only [tk,List.getElem?_map] at this
    rw [List.getElem?_eq_getElem hk,List.getElem?_eq_getElem hk2,Option.map_some] at this
    rw [getElem!_pos _ k hk,getElem!_pos _ k hk2]
    exact Option.some.inj this
   unfold IN
   dsimp only
   rw [if_pos (by simpa using hk),Aa hk,AC,J7 j0 j1,AC,O6 _ (h.ok _ hm),AC,Ip 152 _ _ (by rw [List.length_take]; omega) (by decide),AC,An (by omega),AC,he,← Fd hk2]
   exact ⟨_,rfl,rfl,rfl⟩
  ·rintro ⟨x,o⟩ ⟨rfl,rfl⟩
   unfold IN
   dsimp only
   rw [if_neg (by simp)]
   refine ⟨_,rfl,?_⟩
   rw [hlen,List.take_length]
 unfold Et
 dsimp only
 rw [if_neg (by rw [Bool.or_eq_true,decide_eq_true_eq,decide_eq_true_eq]; omega),Aa hi,AC,hb,AC]
theorem X8 (w:Ah) (k:Int) (hk:k<0∨(w.versions.length:Int)≤k):Et w fl k=some (AP.mk [],2):=by
 unfold Et
 rw [if_pos (by rw [Bool.or_eq_true,decide_eq_true_eq,decide_eq_true_eq]; exact hk)]
theorem Tb (h:CN V fl kept called from_) {i:Nat} (hi:i<V.length):KS (Ah.mk V) fl called[i]! = some ((i:Int),0):=by
 have h6:=h.six
 obtain ⟨b,hb,hq⟩:=H4 (f:=fun (a:Int)=>H7 (Ah.mk V) called[i]! a) V.length (fun q=>V[q]!.name=called[i]!) (fun q=>((q:Int),(0:Int))) (fun q hq=>by
  unfold H7
  dsimp only
  rw [if_pos (by simpa using hq),Aa hq,AC,An (by omega),AC]
  by_cases h:V[q]!.name=called[i]!
  ·rw [if_pos h,if_pos (decide_eq_true h)]
  ·rw [if_neg h,if_neg (by rw [decide_eq_false h]; simp)]) (by unfold H7; dsimp only; rw [if_neg (by simp)])
 unfold KS
 rw [hb]
 rcases hq with ⟨q,hq,he,_,rfl⟩ | ⟨hno,rfl⟩
 ·rw [JR]
  rw [h.nm q hq,getElem!_pos called q (by rw [← h.lc]; exact hq),getElem!_pos called i (by rw [← h.lc]; exact hi)] at he
  have hp:=List.pairwise_iff_getElem.1 h.nd
  have hc:=h.lc
  obtain rfl:q=i:=by
   rcases Nat.lt_trichotomy q i with hlt | heq | hgt
   ·exact absurd he (hp q i (by omega) (by omega) hlt)
   ·exact heq
   ·exact absurd he.symm (hp i q (by omega) (by omega) hgt)
  rfl
 ·exact absurd (h.nm i hi) (hno i hi)
theorem Wq (h:CN V fl kept called from_) {i:Nat} (hi:i<V.length):JG (Ah.mk V) fl (i:Int)=some (from_[i]!,0):=by
 unfold JG
 dsimp only
 rw [if_neg (by rw [Bool.or_eq_true,decide_eq_true_eq,decide_eq_true_eq]; omega),Aa hi,AC,h.pa i hi,Qc _ (h.ps _ (Ay (by rw [← h.lf]; exact hi))),AC]
end
section
variable {V:List AJ} {fl:List AE} {kept:List AP} {called:List (List UInt8)} {from_:List (List Int)}
theorem V1 (x:AE) (ps:List Int) (hk : ∀ d∈kept,D9 d) (hs : ∀ d∈kept,Fp d.Nodes) (hp : ∀ p∈ps,0≤p∧p<kept.length) (hl:ps.length≤1048576):iter (fun (a:Bool × Int)=>Gq kept x ps a.1 a.2) (false,0)=some (!CM kept ps x):=by
 obtain ⟨b,hb,rfl⟩ : ∃ b,iter (fun (a:Bool × Int)=>Gq kept x ps a.1 a.2) (false,0)=some b∧b = !CM kept ps x:=by
  refine CL ps.length (fun k s=>s.2=(k:Int)∧s.1=(ps.take k).any fun p=>decide (x∈(kept[p.toNat]!).Nodes)) _ ?_ ?_ ⟨rfl,rfl⟩
  ·rintro k ⟨is,y⟩ hk2 ⟨rfl,rfl⟩
   left
   obtain ⟨p0,p1⟩:=hp _ (Ay hk2)
   have hm:kept[(ps[k]!).toNat]! ∈ kept:=Ay (by omega)
   have hf:=Vp (hs _ hm) x
   have hok:=hk _ hm
   unfold Gq
   dsimp only
   rw [if_pos (by simpa using hk2),Aa hk2,AC,J7 p0 p1,AC,Q4 _ _ hok.1,AC,Fd hk2,List.any_append,List.any_cons,List.any_nil,Bool.or_false]
   cases hq:DU (kept[(ps[k]!).toNat]!).Nodes x.ID with
   | none=>
    rw [hq] at hf
    dsimp only at hf ⊢
    rw [← hf,decide_eq_false (show ¬ (0:Int) ≤ -1 by omega),show ((false == true):Bool)=false from rfl,G5,AC,G5,AC,if_neg (by simp),AC,An (by omega),AC,Bool.or_false]
    exact ⟨_,rfl,rfl,rfl⟩
   | some q=>
    rw [hq] at hf
    obtain ⟨q1,_⟩:=Hm hq
    dsimp only at hf ⊢
    rw [← hf,decide_eq_true (show (0:Int)≤(q:Int) by omega),show ((true == true):Bool)=true from rfl,Am,Aa q1,AC,Am,Oo _ _ (hok.2 _ (Ay q1)).ok,AC]
    by_cases he:(kept[(ps[k]!).toNat]!).Nodes[q]! = x
    ·rw [decide_eq_true he,if_pos (show (true && true)=true from rfl),AC,An (by omega),AC,Bool.or_true]
     exact ⟨_,rfl,rfl,rfl⟩
    ·rw [decide_eq_false he,if_neg (by simp),AC,An (by omega),AC,Bool.or_false]
     exact ⟨_,rfl,rfl,rfl⟩
  ·rintro ⟨is,y⟩ ⟨rfl,rfl⟩
   unfold Gq
   dsimp only
   rw [if_neg (by simp)]
   refine ⟨_,rfl,?_⟩
   unfold CM
   rw [List.take_length,Bool.not_not]
 exact hb
theorem XK (h:CN V fl kept called from_):H5 kept from_=some (fl.length:Int):=by
 have h6:=h.six
 have lk:=h.vi.len
 have hsz:=h.sz
 obtain ⟨b,hb,rfl⟩ : ∃ b,iter (fun (a:Int × Int)=>HZ kept from_ a.1 a.2) (0,0)=some b∧b=((((List.range V.length).map (Ea kept from_)).sum:Nat):Int):=by
  refine CL V.length (fun k s=>s.2=(k:Int)∧s.1=((((List.range k).map (Ea kept from_)).sum:Nat):Int)∧((List.range k).map (Ea kept from_)).sum≤1048576 * k) _ ?_ ?_ ⟨rfl,rfl,by simp⟩
  ·rintro k ⟨c,y⟩ hk ⟨rfl,rfl,hc⟩
   left
   have hkk:k<kept.length:=by omega
   have hd:=h.vi.ok _ (Ay hkk)
   have hdl:=hd.1
   have hup : ∀ p∈from_[k]!,0≤p∧p<kept.length:=fun p hp=>by have:=h.up k hk p hp; omega
   have hpl:=h.ps _ (Ay (show k<from_.length by rw [← h.lf]; exact hk))
   obtain ⟨b,hb,rfl⟩ : ∃ b,iter (fun (a:Int × Int)=>Hc kept from_ (k:Int) kept[k]! a.1 a.2) (((((List.range k).map (Ea kept from_)).sum:Nat):Int),0)=some b∧b=((((List.range k).map (Ea kept from_)).sum+Ea kept from_ k:Nat):Int):=by
    refine CL kept[k]!.Nodes.length (fun q s=>s.2=(q:Int)∧s.1=((((List.range k).map (Ea kept from_)).sum+(kept[k]!.Nodes.take q).countP (CM kept from_[k]!):Nat):Int)) _ ?_ ?_ ⟨rfl,rfl⟩
    ·rintro q ⟨c,y⟩ hq ⟨rfl,rfl⟩
     left
     have hcl:=List.countP_le_length (p:=CM kept from_[k]!) (l:=kept[k]!.Nodes.take q)
     rw [List.length_take] at hcl
     unfold Hc
     dsimp only
     rw [if_pos (by simpa using hq),Aa hq,AC,Aa (show k<from_.length by rw [← h.lf]; exact hk),AC,V1 _ _ h.vi.ok h.srt hup hpl,AC,Bool.not_not,Fd hq,List.countP_append,List.countP_cons,List.countP_nil]
     cases hnew:CM kept from_[k]! kept[k]!.Nodes[q]! with
     | true=>
      rw [if_pos rfl,Bi (by omega) (by omega),AC,AC,An (by omega),AC]
      exact ⟨_,rfl,rfl,by simp; omega⟩
     | false=>
      rw [if_neg (by simp),AC,An (by omega),AC]
      exact ⟨_,rfl,rfl,by simp⟩
    ·rintro ⟨c,y⟩ ⟨rfl,rfl⟩
     unfold Hc
     dsimp only
     rw [if_neg (by simp)]
     exact ⟨_,rfl,by rw [List.take_length]; rfl⟩
   unfold HZ
   dsimp only
   rw [if_pos (by simpa using hkk),Aa hkk,AC,hb,AC,An (by omega),AC,List.range_succ,List.map_append,List.sum_append,List.map_singleton,List.sum_singleton]
   refine ⟨_,rfl,rfl,rfl,?_⟩
   have:Ea kept from_ k≤kept[k]!.Nodes.length:=List.countP_le_length
   omega
  ·rintro ⟨c,y⟩ ⟨rfl,rfl,_⟩
   unfold HZ
   dsimp only
   rw [if_neg (by rw [← lk]; simp)]
   exact ⟨_,rfl,rfl⟩
 unfold H5
 rw [hb,AC,h.cnt]
end
inductive Cm (from_:List (List Int)):Nat→Nat→Prop
 | refl (k:Nat):Cm from_ k k
 | step {k n:Nat} {p:Int} (h:p∈from_[k]!) (h2:Cm from_ p.toNat n):Cm from_ k n
theorem Cm.snoc {from_:List (List Int)} {k m:Nat} {p:Int} (h:Cm from_ k m) (hp:p∈from_[m]!):Cm from_ k p.toNat:=by
 induction h with
 | refl k=>exact .step hp (.refl _)
 | step h _ ih=>exact .step h (ih hp)
theorem Cm.last {from_:List (List Int)} {k n:Nat} (h:Cm from_ k n):n=k ∨ ∃ m p,Cm from_ k m∧p∈from_[m]! ∧ n=p.toNat:=by
 induction h with
 | refl k=>exact .inl rfl
 | @step k n p h _ ih=>
  rcases ih with rfl | ⟨m,q,h1,h2,h3⟩
  ·exact .inr ⟨k,p,.refl _,h,rfl⟩
  ·exact .inr ⟨m,q,.step h h1,h2,h3⟩
theorem Se {σ β:Type} {f g:σ→Option (σ ⊕ β)} (h : ∀ s v,f s=some v→g s=some v) {s:σ} {r:β} (hi:iter f s=some r):iter g s=some r:=by
 obtain ⟨n,hn⟩:=Hl.1 hi
 refine Hl.2 ⟨n,?_⟩
 clear hi
 induction n generalizing s with
 | zero=>exact hn
 | succ n ih=>
  grind [Ch]
theorem P5 : ∀ (m:Nat) (from_:List (List Int)) (k n:Int) (r:Bool),Cq m from_ k n=some r→Cq (m+1) from_ k n=some r
 | 0,_,_,_,_,h=>by cases h
 | m+1,from_,k,n,r,h=>by
  have ih:=P5 m
  change GA (fun from1 k1 n1=>Cq m from1 k1 n1) from_ k n=some r at h
  show GA (fun from1 k1 n1=>Cq (m+1) from1 k1 n1) from_ k n=some r
  unfold GA at h ⊢
  split at h
  ·rename_i hc; rw [if_pos hc]; exact h
  ·rename_i hc
   rw [if_neg hc]
   cases hx:AM from_ k with
   | none=>rw [hx] at h; cases h
   | some x1=>
    rw [hx,AC] at h
    rw [AC]
    cases hi:iter (fun (a:Int)=>FA from_ n (fun from1 k1 n1=>Cq m from1 k1 n1) x1 a) 0 with
    | none=>rw [hi] at h; cases h
    | some b=>
     rw [hi] at h
     rw [Se (g:=fun (a:Int)=>FA from_ n (fun from1 k1 n1=>Cq (m+1) from1 k1 n1) x1 a) (fun s v hv=>by
      unfold FA at hv ⊢
      split at hv
      ·rename_i hc; rw [if_pos hc]
       cases hx5:AM x1 s with
       | none=>rw [hx5] at hv; cases hv
       | some x5=>
        rw [hx5,AC] at hv
        rw [AC]
        dsimp only at hv ⊢
        cases hr:Cq m from_ x5 n with
        | none=>rw [hr] at hv; cases hv
        | some r1=>rw [hr] at hv; rw [ih _ _ _ _ hr]; exact hv
      ·rename_i hc; rw [if_neg hc]; exact hv) hi]
     exact h
theorem WK {α:Type} {N:Nat→Option α} (mono : ∀ n r,N n=some r→N (n+1)=some r) {n0:Nat} {r0:α} (h:N n0=some r0) :
  @dite _ (∃ n r,N n=some r) (Classical.propDecidable _) (fun h=>N h.choose) (fun _=>none)=some r0:=by
 have hx : ∃ n r,N n=some r:=⟨n0,r0,h⟩
 rw [dif_pos hx]
 obtain ⟨r1,h1⟩:=hx.choose_spec
 have up : ∀ k n r,N n=some r→N (n+k)=some r:=by
  intro k
  induction k with
  | zero=>grind
  | succ k ih=>grind
 have e1:=up n0 _ _ h1
 have e2:=up hx.choose _ _ h
 grind
open Classical in
theorem Q8 {from_:List (List Int)} {N:Nat} (hN:N=from_.length) (up : ∀ i,i<N → ∀ p∈from_[i]!,0≤p∧p<i) (ps : ∀ l∈from_,l.length≤1048576) (n:Nat) : ∀ (m k:Nat),k<m→k<N→Cq m from_ (k:Int) (n:Int)=some (decide (Cm from_ k n))
 | 0,k,h,_=>by omega
 | m+1,k,h,hk=>by
  have ih:=Q8 hN up ps n m
  show GA (fun from1 k1 n1=>Cq m from1 k1 n1) from_ (k:Int) (n:Int)=_
  unfold GA
  by_cases hkn:k=n
  ·subst hkn
   rw [if_pos (by simp),decide_eq_true (Cm.refl k)]
  ·rw [if_neg (by rw [decide_eq_true_eq]; omega),Aa (show k<from_.length by omega),AC]
   have hl:=ps _ (Ay (show k<from_.length by omega))
   obtain ⟨b,hb,hq⟩:=H4 (f:=fun (a:Int)=>FA from_ (n:Int) (fun from1 k1 n1=>Cq m from1 k1 n1) from_[k]! a) from_[k]!.length (fun q=>Cm from_ (from_[k]![q]!).toNat n) (fun _=>true) (fun q hq=>by
    obtain ⟨p0,p1⟩:=up k hk _ (Ay hq)
    have he:=ih (from_[k]![q]!).toNat (by omega) (by omega)
    rw [Int.toNat_of_nonneg p0] at he
    unfold FA
    rw [if_pos (by simpa using hq),Aa hq,AC]
    dsimp only
    rw [he,AC,An (by omega),AC]
    by_cases hc:Cm from_ (from_[k]![q]!).toNat n
    ·rw [if_pos hc,if_pos (decide_eq_true hc)]
    ·rw [if_neg hc,if_neg (by rw [decide_eq_false hc]; simp)]) (by unfold FA; rw [if_neg (by simp)])
   rw [hb]
   rcases hq with ⟨q,hq,hc,_,rfl⟩ | ⟨hno,rfl⟩
   ·rw [JR,decide_eq_true (Cm.step (Ay hq) hc)]
   ·rw [H8,decide_eq_false]
    intro hc
    cases hc with
    | refl=>exact hkn rfl
    | step hp hc=>
     obtain ⟨q,hq,he⟩:=List.mem_iff_getElem.1 hp
     refine hno q hq ?_
     rw [getElem!_pos _ q hq,he]
     exact hc
open Classical in
theorem Tr {from_:List (List Int)} {N:Nat} (hN:N=from_.length) (up : ∀ i,i<N → ∀ p∈from_[i]!,0≤p∧p<i) (ps : ∀ l∈from_,l.length≤1048576) (n k:Nat) (hk:k<N):HY from_ (k:Int) (n:Int)=some (decide (Cm from_ k n)):=by
 unfold HY
 exact WK (N:=fun m=>Cq m from_ (k:Int) (n:Int)) (fun m r h=>P5 m _ _ _ _ h) (Q8 hN up ps n (k+1) k (by omega) hk)
theorem PK {l:List Bool} {p n:Nat} (hp:p<l.length):(l.set p true)[n]! = (decide (n=p) || l[n]!):=by
 by_cases hn:n<l.length
 ·rw [getElem!_pos (l.set p true) n (by simpa using hn),List.getElem_set]
  by_cases h:p=n
  ·subst h; simp
  ·rw [if_neg h,getElem!_pos l n hn,decide_eq_false (fun e=>h e.symm)]; simp
 ·have h1 : ¬ n<(l.set p true).length:=by simpa using hn
  rw [getElem!_neg (l.set p true) n h1,getElem!_neg l n hn,decide_eq_false (by omega)]; rfl
theorem XZ (v:AJ) (out:List Bool) (hp : ∀ p∈v.parents,0≤p∧p<out.length) (hl:v.parents.length≤1048576) :
  ∃ o,iter (fun (a:Int × (List Bool))=>Gh v a.1 a.2) (0,out)=some (.ext o)∧o.length=out.length ∧ ∀ n:Nat,o[n]! = (out[n]! || decide ((n:Int)∈v.parents)):=by
 obtain ⟨b,hb,o,rfl,h1,h2⟩ : ∃ b,iter (fun (a:Int × (List Bool))=>Gh v a.1 a.2) (0,out)=some b ∧ ∃ o,b = .ext o∧o.length=out.length ∧ ∀ n:Nat,o[n]! = (out[n]! || decide ((n:Int)∈v.parents)):=by
  refine CL v.parents.length (fun k s=>s.1=(k:Int)∧s.2.length=out.length ∧ ∀ n:Nat,s.2[n]! = (out[n]! || decide ((n:Int)∈v.parents.take k))) _ ?_ ?_ ⟨rfl,rfl,fun n=>by simp⟩
  ·rintro k ⟨x,o⟩ hk ⟨rfl,h1,h2⟩
   dsimp only at h1 h2
   left
   obtain ⟨p0,p1⟩:=hp _ (Ay hk)
   unfold Gh
   dsimp only
   rw [if_pos (by simpa using hk),Aa hk,AC,J7 p0 (by rw [h1]; exact p1),AC,An (by omega),AC]
   refine ⟨_,rfl,rfl,by simpa using h1,fun n=>?_⟩
   dsimp only
   rw [PK (by omega),h2,Fd hk]
   have:(n=(v.parents[k]!).toNat)↔((n:Int)=v.parents[k]!):=by omega
   rw [Bool.eq_iff_iff]
   simp only [Bool.or_eq_true,decide_eq_true_eq,List.mem_append,List.mem_singleton,this]
   grind
  ·rintro ⟨x,o⟩ ⟨rfl,h1,h2⟩
   unfold Gh
   dsimp only
   rw [if_neg (by simp)]
   rw [List.take_length] at h2
   exact ⟨_,rfl,o,rfl,h1,h2⟩
 exact ⟨o,hb,h1,h2⟩
section
variable {V:List AJ} {fl:List AE} {kept:List AP} {called:List (List UInt8)} {from_:List (List Int)}
theorem Cm.le (up : ∀ i,i<V.length → ∀ p∈from_[i]!,0≤p∧p<i) {k n:Nat} (h:Cm from_ k n) (hk:k<V.length):n≤k:=by
 induction h with
 | refl k=>exact Nat.le_refl _
 | step hp _ ih=>
  have:=up _ hk _ hp
  have:=ih (by omega)
  omega
open Classical in
theorem RG (h:CN V fl kept called from_) {k:Nat} (hk:k<V.length) : ∃ o,IL (Ah.mk V) fl (k:Int)=some o∧o.length=V.length ∧ ∀ n,n<V.length→o[n]! = decide (Cm from_ k n):=by
 have h6:=h.six
 obtain ⟨o,hb,h1,h2⟩ : ∃ o,iter (fun (a:Int × (List Bool))=>Hz (Ah.mk V) a.1 a.2) ((k:Int),((List.replicate V.length false).set k true))=some o∧o.length=V.length ∧ ∀ n,n<V.length→o[n]! = decide (Cm from_ k n):=by
  refine CL (k+1) (fun t s=>s.1=(k:Int)-t∧s.2.length=V.length ∧ ∀ n,n<V.length→s.2[n]! = decide (n=k ∨ ∃ m:Nat,(k:Int)-t<m∧Cm from_ k m∧(n:Int)∈from_[m]!)) _ ?_ ?_ ?_
  ·rintro t ⟨x,o⟩ ht ⟨rfl,h1,h2⟩
   dsimp only at h1 h2
   left
   obtain ⟨i,hi⟩ : ∃ i:Nat,(k:Int)-t=i:=⟨k-t,by omega⟩
   have hik:i<V.length:=by omega
   rw [hi] at h2 ⊢
   unfold Hz
   dsimp only
   rw [if_pos (by simp),Aa (show i<o.length by omega),AC]
   have hoi:o[i]! = decide (Cm from_ k i):=by
    rw [h2 i hik]
    congr 1
    refine propext ⟨?_,fun hc=>?_⟩
    ·rintro (rfl | ⟨m,_,h3,h4⟩)
     ·exact .refl _
     ·exact h3.snoc h4
    ·rcases hc.last with he | ⟨m,p,h3,h4,h5⟩
     ·exact .inl he
     ·have hm:=h3.le h.up hk
      have:=h.up m (by omega) p h4
      exact .inr ⟨m,by omega,h3,by rw [h5,Int.toNat_of_nonneg this.1]; exact h4⟩
   by_cases hc:Cm from_ k i
   ·rw [hoi,decide_eq_true hc,if_neg (by simp),Aa hik,AC]
    have hpi:=h.pa i hik
    obtain ⟨o',e1,e2,e3⟩:=XZ V[i]! o (fun p hp=>by rw [hpi] at hp; have:=h.up i hik p hp; omega) (by rw [hpi]; exact h.ps _ (Ay (by rw [← h.lf]; exact hik)))
    rw [e1,JR,AC,Bi (by omega) (by omega),AC]
    refine ⟨_,rfl,by dsimp only; omega,by rw [e2,h1],fun n hn=>?_⟩
    dsimp only
    rw [e3,h2 n hn,hpi,Bool.eq_iff_iff]
    simp only [Bool.or_eq_true,decide_eq_true_eq]
    constructor
    ·rintro ((rfl | ⟨m,h3,h4,h5⟩) | h3)
     ·exact .inl rfl
     ·exact .inr ⟨m,by omega,h4,h5⟩
     ·exact .inr ⟨i,by omega,hc,h3⟩
    ·rintro (rfl | ⟨m,h3,h4,h5⟩)
     ·exact .inl (.inl rfl)
     ·by_cases hmi:m=i
      ·subst hmi; exact .inr h5
      ·exact .inl (.inr ⟨m,by omega,h4,h5⟩)
   ·rw [hoi,decide_eq_false hc,if_pos (by simp),AC,Bi (by omega) (by omega),AC]
    refine ⟨_,rfl,by dsimp only; omega,h1,fun n hn=>?_⟩
    dsimp only
    rw [h2 n hn,Bool.eq_iff_iff]
    simp only [decide_eq_true_eq]
    constructor
    ·rintro (rfl | ⟨m,h3,h4,h5⟩)
     ·exact .inl rfl
     ·exact .inr ⟨m,by omega,h4,h5⟩
    ·rintro (rfl | ⟨m,h3,h4,h5⟩)
     ·exact .inl rfl
     ·by_cases hmi:m=i
      ·subst hmi; exact absurd h4 hc
      ·exact .inr ⟨m,by omega,h4,h5⟩
  ·rintro ⟨x,o⟩ ⟨rfl,h1,h2⟩
   unfold Hz
   dsimp only
   rw [if_neg (by rw [decide_eq_true_eq]; omega)]
   refine ⟨_,rfl,h1,fun n hn=>?_⟩
   dsimp only at h2
   rw [h2 n hn]
   congr 1
   refine propext ⟨?_,fun hc=>?_⟩
   ·rintro (rfl | ⟨m,_,h3,h4⟩)
    ·exact .refl _
    ·exact h3.snoc h4
   ·rcases hc.last with he | ⟨m,p,h3,h4,h5⟩
    ·exact .inl he
    ·have hm:=h3.le h.up hk
     have:=h.up m (by omega) p h4
     exact .inr ⟨m,by omega,h3,by rw [h5,Int.toNat_of_nonneg this.1]; exact h4⟩
  ·refine ⟨by simp,by simp,fun n hn=>?_⟩
   dsimp only
   rw [PK (by simpa using hk)]
   have:(List.replicate V.length false)[n]! = false:=by rw [getElem!_pos _ n (by simpa using hn)]; simp
   rw [this,Bool.or_false]
   congr 1
   refine propext ⟨.inl,?_⟩
   rintro (h | ⟨m,h3,h4,_⟩)
   ·exact h
   ·have:=h4.le h.up hk; omega
 refine ⟨o,?_,h1,h2⟩
 unfold IL
 dsimp only
 have hmk:mk 1 (V.length:Int) false=some (List.replicate V.length false):=by
  unfold mk
  rw [if_pos ⟨by omega,by omega,by omega⟩,Int.toNat_natCast]
 rw [hmk,AC,Aa (by simpa using hk),AC,Int.toNat_natCast,hb,AC]
def KW (P:Nat→Prop) (M:Nat) (r:Option Nat):Prop:=match r with
 | some n=>n≤M∧P n ∧ ∀ q,n<q→q≤M → ¬ P q
 | none=>∀ q,q≤M → ¬ P q
theorem Vs {P:Nat→Prop} {M:Nat} {r r':Option Nat} (h:KW P M r) (h':KW P M r'):r=r':=by
 cases r with
 | none=>
  cases r' with
  | none=>rfl
  | some n=>exact absurd h'.2.1 (h n h'.1)
 | some n=>
  cases r' with
  | none=>exact absurd h.2.1 (h' n h.1)
  | some m=>
   obtain ⟨h1,h2,h3⟩:=h
   obtain ⟨k1,k2,k3⟩:=h'
   rcases Nat.lt_trichotomy n m with hlt | heq | hgt
   ·exact absurd k2 (h3 m hlt k1)
   ·rw [heq]
   ·exact absurd h2 (k3 n hgt h1)
theorem Oy {ρ:Type} {f:Int→Option (Int ⊕ Aj Unit ρ)} (M:Nat) (hM:M≤1048576) (P:Nat→Prop) [DecidablePred P] (F:Nat→ρ) (h1 : ∀ k:Nat,k≤M→f k=if P k then some (.inr (.ext (F k))) else AB (AS .i64 ((k:Int)-1)) fun x=>some (.inl x)) (h2:f (-1)=some (.inr (.nrm ()))) :
  ∃ r,KW P M r∧iter f (M:Int)=some (Cr (r.map F)):=by
 obtain ⟨b,hb,r,hr,rfl⟩ : ∃ b,iter f (M:Int)=some b ∧ ∃ r,KW P M r∧b=Cr (r.map F):=by
  refine CL (M+1) (fun t s=>s=(M:Int)-t ∧ ∀ q:Nat,(M:Int)-t<q→q≤M → ¬ P q) _ ?_ ?_ ⟨by simp,fun q h1 h2=>by omega⟩
  ·rintro t _ ht ⟨rfl,hI⟩
   obtain ⟨i,hi⟩ : ∃ i:Nat,(M:Int)-t=i:=⟨M-t,by omega⟩
   rw [hi] at hI ⊢
   rw [h1 i (by omega)]
   by_cases hp:P i
   ·rw [if_pos hp]
    exact .inr ⟨_,rfl,some i,⟨by omega,hp,fun q h3 h4=>hI q (by omega) h4⟩,rfl⟩
   ·rw [if_neg hp,Bi (by omega) (by omega),AC]
    refine .inl ⟨_,rfl,by omega,fun q h3 h4=>?_⟩
    by_cases hq:q=i
    ·subst hq; exact hp
    ·exact hI q (by omega) h4
  ·rintro _ ⟨rfl,hI⟩
   rw [show (M:Int)-((M+1:Nat):Int) = -1 by omega,h2]
   exact ⟨_,rfl,none,fun q hq=>hI q (by omega) hq,rfl⟩
 exact ⟨r,hr,hb⟩
open Classical in
theorem Vk (h:CN V fl kept called from_) {i k:Nat} (hi:i<V.length) (hk:k<V.length) : ∃ r,KW (fun n=>Cm from_ i n∧Cm from_ k n) (min i k) r∧GH (Ah.mk V) fl (i:Int) (k:Int)=some (match r with | some n=>((n:Int),0) | none=>(0,7)):=by
 have h6:=h.six
 obtain ⟨a,a1,a2,a3⟩:=RG h hi
 obtain ⟨b,b1,b2,b3⟩:=RG h hk
 have hmin:min (i:Int) (k:Int)=((min i k:Nat):Int):=by omega
 obtain ⟨r,hr,hit⟩:=Oy (f:=fun (x:Int)=>Hv a b x) (min i k) (by omega) (fun n=>Cm from_ i n∧Cm from_ k n) (fun n=>((n:Int),(0:Int))) (fun n hn=>by
  unfold Hv
  rw [if_pos (by simp),Aa (by omega),AC,a3 n (by omega)]
  by_cases hc:Cm from_ i n
  ·rw [decide_eq_true hc,show ((true == true):Bool)=true from rfl,Am,Aa (by omega),AC,b3 n (by omega)]
   by_cases hc2:Cm from_ k n
   ·rw [decide_eq_true hc2,if_pos (show (true && true)=true from rfl),if_pos ⟨hc,hc2⟩]
   ·rw [decide_eq_false hc2,if_neg (by simp),if_neg (fun e=>hc2 e.2)]
  ·rw [decide_eq_false hc,show ((false == true):Bool)=false from rfl,G5,AC,if_neg (by simp),if_neg (fun e=>hc e.1)]) (by unfold Hv; rw [if_neg (by simp)])
 refine ⟨r,hr,?_⟩
 unfold GH
 dsimp only
 rw [if_neg (by rw [Bool.or_eq_true,decide_eq_true_eq,decide_eq_true_eq]; omega),a1,AC,b1,AC,hmin,hit]
 cases r <;> rfl
theorem W3 (w:Ah) (i k:Int) (h:min i k<0∨(w.versions.length:Int)≤max i k):GH w fl i k=some (0,2):=by
 unfold GH
 rw [if_pos (by rw [Bool.or_eq_true,decide_eq_true_eq,decide_eq_true_eq]; exact h)]
end
theorem RM:D9 A4:=by
 refine ⟨LK.1,fun n hn=>⟨LK.2 n hn,fun c hc=>?_,fun o ho=>?_⟩⟩
 ·have:n=DT∨n=Cp:=by simpa [A4] using hn
  rcases this with rfl | rfl <;> cases hc
 ·have:n=DT∨n=Cp:=by simpa [A4] using hn
  rcases this with rfl | rfl <;> cases ho
theorem Tt:Ir=some true:=by
 have h0:=CN.nil
 obtain ⟨v,fl',e0,e1,e2,e3,e4,e5,e6,e7,e8⟩:=Po [] [] [] [] [97] A4 [] h0.vi rfl (by decide) (fun i h=>absurd h (Nat.not_lt_zero _)) (by decide) (by decide) RM (fun m h=>absurd h List.not_mem_nil) N9 (by decide)
 have h1:=h0.step (by decide) RM N9 (by decide) (by decide) e1 e2 e3 e4 e5 e6 e7 e8
 have hlen:fl'.length=2:=by rw [e7]; rfl
 have hat:=O2 h1 (i:=0) (by simp)
 have hst:=QP h1
 unfold Ir
 rw [show Hi=some () from rfl,AC,show IF=some A4 from rfl,AC,e0]
 show (CZ (Et (Ah.mk ([]++[v])) fl' ((0:Nat):Int)) fun (r4:AP) (r5:Int)=>_)=_
 rw [hat,D3,SV,AC]
 show (AB (gd true (FP A4 A4)) fun (r8:Bool)=>_)=_
 rw [Am,Mo _ _ LK,AC,decide_eq_true rfl]
 show (AB (AB (Fq (Ah.mk ([]++[v])) fl') fun (r9:Int)=>_) fun (x1:Bool)=>some x1)=_
 rw [hst,hlen]
 rfl
section
variable (l:List AP) (names:List (List UInt8)) (parents:List (List Int))
def LQ (b:Aj (Ah × (List AP) × (List (List UInt8)) × (List (List Int)) × (List AE)) Bool):Prop:=∃ V fl kept called from_,CN V fl kept called from_∧b = .nrm (Ah.mk V,kept,called,from_,fl)
theorem Tf (hl : ∀ d∈l,D9 d) (hn : ∀ s∈names,s.length≤1048576) (hp : ∀ p∈parents,p.length≤1048576) :
  ∃ b,iter (fun (a:Int × Ah × (List AP) × (List (List UInt8)) × (List (List Int)) × (List AE))=>H1 l names parents a.1 a.2.1 a.2.2.1 a.2.2.2.1 a.2.2.2.2.1 a.2.2.2.2.2) (0,(Ah.mk []),[],[],[],[])=some b∧LQ b:=by
 refine CL 6 (fun t s=>∃ V fl kept called from_,CN V fl kept called from_∧V.length≤t∧s=((t:Int),Ah.mk V,kept,called,from_,fl)) LQ ?_ ?_ ⟨[],[],[],[],[],CN.nil,by decide,rfl⟩
 ·rintro t _ ht ⟨V,fl,kept,called,from_,h,hv,rfl⟩
  unfold H1
  dsimp only
  by_cases hc:(((decide ((t:Int)<(l.length:Int))) && (decide ((t:Int)<6))) && (decide ((t:Int)<(names.length:Int))))=true
  ·left
   rw [if_pos hc]
   simp only [Bool.and_eq_true,decide_eq_true_eq] at hc
   have t1:t<l.length:=by omega
   have t2:t<names.length:=by omega
   obtain ⟨ps,hps,hpl⟩ : ∃ ps,(if (decide ((t:Int)<(parents.length:Int)))=true then (AB (AM parents (t:Int)) fun (x13:List Int)=>some x13) else some [])=some ps∧ps.length≤1048576:=by
    by_cases h:t<parents.length
    ·rw [if_pos (by simpa using h),Aa h]
     exact ⟨_,rfl,hp _ (Ay h)⟩
    ·rw [if_neg (by simpa using h)]
     exact ⟨_,rfl,by decide⟩
   have hd:=hl _ (Ay t1)
   have hnm:=hn _ (Ay t2)
   obtain ⟨e,he1,he2⟩:=R8 _ hd
   have h6:=h.six
   have hlc:=h.lc
   have hlk:=h.vi.len
   have hlf:=h.lf
   rw [hps,AC,Aa t2,AC,Aa t1,AC]
   by_cases hE:Ek called names[t]! e ps=0
   ·obtain ⟨v,fl',e0,e1,e2,e3,e4,e5,e6,e7,e8⟩:=Po V fl kept called names[t]! l[t]! ps h.vi h.lc (by omega) h.nm hpl hnm hd h.ok he1 hE
    have he0:=(OI hE).2.1
    subst he0
    have h':=h.step (by omega) hd he1 hpl hE e1 e2 e3 e4 e5 e6 e7 e8
    rw [e0,RJ,PY _ _ _ _ hpl (by omega) hnm he2,hE,AC,if_neg (Bv rfl),hlk,if_neg (by simp),Ip 24 _ _ (by omega) (by decide),AC,Ip 16 _ _ (by omega) (by decide),AC,Ip 24 _ _ (by omega) (by decide),AC]
    show ∃ s',(AB (AS .i64 ((t:Int)+1)) fun (n16:Int)=>some (Sum.inl (n16,Ah.mk (V++[v]),kept++[l[t]!],called++[names[t]!],from_++[ps],fl')))=some (.inl s')∧_
    rw [An (by omega),AC]
    exact ⟨_,rfl,_,_,_,_,_,h',by simp; omega,rfl⟩
   ·rw [Sd V fl called names[t]! l[t]! ps h.lc (by omega) h.nm hpl hnm he1 hE,RJ,PY _ _ _ _ hpl (by omega) hnm he2,AC,if_pos (CO hE),if_neg (by simp)]
    show ∃ s',(AB (AS .i64 ((t:Int)+1)) fun (n16:Int)=>some (Sum.inl (n16,Ah.mk V,kept,called,from_,fl)))=some (.inl s')∧_
    rw [An (by omega),AC]
    exact ⟨_,rfl,_,_,_,_,_,h,by omega,rfl⟩
  ·right
   rw [if_neg hc]
   exact ⟨_,rfl,V,fl,kept,called,from_,h,rfl⟩
 ·rintro _ ⟨V,fl,kept,called,from_,h,hv,rfl⟩
  unfold H1
  dsimp only
  rw [if_neg (by simp)]
  exact ⟨_,rfl,V,fl,kept,called,from_,h,rfl⟩
end
section
variable {V:List AJ} {fl:List AE} {kept:List AP} {called:List (List UInt8)} {from_:List (List Int)}
theorem Ru (h:CN V fl kept called from_):iter (fun (a:Int)=>IG (Ah.mk V) kept called from_ fl called a) 0=some (.nrm ()):=by
 have h6:=h.six
 have hlc:=h.lc
 have hlk:=h.vi.len
 have hlf:=h.lf
 rw [BY (n:=called.length) (fun _=>(none:Option Bool)) (fun k hk=>by
  have hkV:k<V.length:=by omega
  have hd:=h.vi.ok _ (Ay (show k<kept.length by omega))
  have hps:=h.ps _ (Ay (show k<from_.length by omega))
  unfold IG
  rw [if_pos (by simpa using hk),O2 h hkV,D3,Aa hk,AC,Tb h hkV,D3,Wq h hkV,D3,AC,decide_eq_true (rfl:called[k]! = called[k]!)]
  show (AB (gd true (AM kept (k:Int))) fun (x8:AP)=>AB (gd true (FP kept[k]! x8)) fun (r16:Bool)=>_)=_
  rw [Am,Aa (show k<kept.length by omega),AC,Am,Mo _ _ ⟨hd.1,fun n hn=>(hd.2 n hn).ok⟩,AC,decide_eq_true rfl,decide_eq_true (rfl:(k:Int)=(k:Int))]
  try rw [decide_eq_true (rfl:kept[k]!.Nodes=kept[k]!.Nodes)]
  show (AB (gd true (AM from_ (k:Int))) fun (x9:List Int)=>AB (gd true (Ia from_[k]! x9)) fun (r17:Bool)=>_)=_
  rw [Am,Aa (show k<from_.length by omega),AC,Am,Uh _ _ (by omega),AC,decide_eq_true rfl,if_neg (by simp),An (by omega)]
  rfl) (by unfold IG; rw [if_neg (by simp)])]
 have:(List.range called.length).findSome? (fun _=>(none:Option Bool))=none:=List.findSome?_eq_none_iff.2 fun _ _=>rfl
 rw [this]; rfl
open Classical in
theorem Ve (h:CN V fl kept called from_) {i k:Nat} (hi:i<V.length) (hk:k<V.length) : ∃ r2 r3,GH (Ah.mk V) fl (i:Int) (k:Int)=some (r2,r3) ∧
  (Ap (iter (fun (a:Int)=>G4 (i:Int) (k:Int) from_ r2 r3 a) (min (i:Int) (k:Int))) fun (_:Unit)=>some ((decide (r3=7)) && (decide (r2=0))))=some true:=by
 have h6:=h.six
 obtain ⟨r,hr,hc⟩:=Vk h hi hk
 have hmin:min (i:Int) (k:Int)=((min i k:Nat):Int):=by omega
 refine ⟨_,_,hc,?_⟩
 generalize hr2:(match r with | some n=>((n:Int),(0:Int)) | none=>(0,7)).1=r2
 generalize hr3:(match r with | some n=>((n:Int),(0:Int)) | none=>(0,7)).2=r3
 have hcm:=fun n k hk=>Tr h.lf h.up h.ps n k hk
 obtain ⟨r',hr',hit⟩:=Oy (f:=fun (x:Int)=>G4 (i:Int) (k:Int) from_ r2 r3 x) (min i k) (by omega) (fun n=>Cm from_ i n∧Cm from_ k n) (fun n=>((decide (r3=0)) && (decide (r2=(n:Int))))) (fun n hn=>by
  unfold G4
  rw [if_pos (by simp),hcm n i hi,AC]
  by_cases hc:Cm from_ i n
  ·rw [decide_eq_true hc,show ((true == true):Bool)=true from rfl,Am,hcm n k hk,AC]
   by_cases hc2:Cm from_ k n
   ·rw [decide_eq_true hc2,if_pos (show (true && true)=true from rfl),if_pos ⟨hc,hc2⟩]
   ·rw [decide_eq_false hc2,if_neg (by simp),if_neg (fun e=>hc2 e.2)]
  ·rw [decide_eq_false hc,show ((false == true):Bool)=false from rfl,G5,AC,if_neg (by simp),if_neg (fun e=>hc e.1)]) (by unfold G4; rw [if_neg (by simp)])
 obtain rfl:=Vs hr hr'
 rw [hmin,hit]
 cases r with
 | some n=>
  dsimp only at hr2 hr3
  subst hr2; subst hr3
  show some (decide ((0:Int)=0) && decide ((n:Int)=(n:Int)))=some true
  rw [decide_eq_true rfl,decide_eq_true rfl]; rfl
 | none=>
  dsimp only at hr2 hr3
  subst hr2; subst hr3
  rfl
end
theorem Re (l:List AP) (names:List (List UInt8)) (parents:List (List Int)) (i k:Int) (hl : ∀ d∈l,D9 d) (hn : ∀ s∈names,s.length≤1048576) (hp : ∀ p∈parents,p.length≤1048576):LY l names parents i k=some true:=by
 obtain ⟨_,hb,V,fl,kept,called,from_,h,rfl⟩:=Tf l names parents hl hn hp
 have h6:=h.six
 have hlk:=h.vi.len
 unfold LY
 rw [Tt,AC,if_neg (by simp),show Hi=some () from rfl,AC,hb]
 show (AB (H6 (Ah.mk V) fl) fun (got1:List (List UInt8))=>_)=_
 rw [We h,AC,decide_eq_true rfl]
 show (AB (AB (Fq (Ah.mk V) fl) fun (r18:Int)=>AB (H5 kept from_) fun (r19:Int)=>_) fun (x1:Bool)=>_)=_
 rw [QP h,AC,XK h,AC,decide_eq_true rfl,AC,if_neg (by simp),Ru h,H8]
 by_cases hr:(0≤i∧i<V.length)∧(0≤k∧k<V.length)
 ·obtain ⟨⟨i0,i1⟩,k0,k1⟩:=hr
  obtain ⟨r2,r3,e1,e2⟩:=Ve h (i:=i.toNat) (k:=k.toNat) (by omega) (by omega)
  rw [Int.toNat_of_nonneg i0,Int.toNat_of_nonneg k0] at e1 e2
  rw [e1,D3,Bi (by omega) (by omega),AC,Eo,AC,decide_eq_true i0,decide_eq_true (show i≤(kept.length:Int)-1 by omega)]
  show (AB (gd true (Be k 0 ((kept.length:Int)-1))) fun (r5:Bool)=>_)=_
  rw [Am,Eo,AC,decide_eq_true k0,decide_eq_true (show k≤(kept.length:Int)-1 by omega),if_neg (by simp)]
  exact e2
 ·rw [W3 _ _ _ (by dsimp only; omega),D3,Bi (by omega) (by omega),AC,Eo,AC]
  have hat:=X8 (fl:=fl) (Ah.mk V) (kept.length:Int) (.inr (by dsimp only; omega))
  by_cases hi:0≤i∧i<V.length
  ·rw [decide_eq_true hi.1,decide_eq_true (show i≤(kept.length:Int)-1 by omega)]
   show (AB (gd true (Be k 0 ((kept.length:Int)-1))) fun (r5:Bool)=>_)=_
   have hk:(decide (0≤k) && decide (k≤(kept.length:Int)-1))=false:=by
    rw [Bool.and_eq_false_iff,decide_eq_false_iff_not,decide_eq_false_iff_not]; omega
   rw [Am,Eo,AC,hk,if_pos (show (!(true && true) || !false)=true from rfl),hat]
   rfl
  ·have hi2:(decide (0≤i) && decide (i≤(kept.length:Int)-1))=false:=by
    rw [Bool.and_eq_false_iff,decide_eq_false_iff_not,decide_eq_false_iff_not]; omega
   rw [hi2]
   show (AB (gd false (Be k 0 ((kept.length:Int)-1))) fun (r5:Bool)=>_)=_
   rw [G5,AC,if_pos (show (!false || !(default:Bool))=true from rfl),hat]
   rfl
end Go.Proofs.YtioekebmplhlmaaGreatDoor.Al
