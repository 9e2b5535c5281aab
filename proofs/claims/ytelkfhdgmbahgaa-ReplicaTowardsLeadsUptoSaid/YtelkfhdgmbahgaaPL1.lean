/- Plain laws over the models, a part of them. -/
import Derived.Test.YtelkfhdgmbahgaaMod1
namespace Go.Proofs.Ytelkfhdgmbahgaa.Al
@[simp] theorem AG {a α:Type} (x:a) (f:a→Option α):AH (some x) f=f x:=rfl
@[simp] theorem A4 {a b α:Type} (x:a) (y:b) (f:a→b→Option α):BU (some (x,y)) f=f x y:=rfl
@[simp] theorem Vw {a b c α:Type} (x:a) (y:b) (z:c) (f:a→b→c→Option α):Sq (some (x,y,z)) f=f x y z:=rfl
@[simp] theorem Vx {a b c d α:Type} (x:a) (y:b) (z:c) (u:d) (f:a→b→c→d→Option α):SV (some (x,y,z,u)) f=f x y z u:=rfl
@[simp] theorem GX {a α:Type} (x:a) (f:a→Option α):A0 (some (.nrm x)) f=f x:=rfl
@[simp] theorem DG {a α:Type} (t:α) (f:a→Option α):A0 (some (.ext t)) f=some t:=rfl
@[simp] theorem V1 {a b α:Type} (x:a) (y:b) (f:a→b→Option α):Ox (some (.nrm (x,y))) f=f x y:=rfl
@[simp] theorem V0 {a b α:Type} (t:α) (f:a→b→Option α):Ox (some (.ext t)) f=some t:=rfl
@[simp] theorem Vz {a b c α:Type} (x:a) (y:b) (z:c) (f:a→b→c→Option α):Pe (some (.nrm (x,y,z))) f=f x y z:=rfl
@[simp] theorem Vt {a b c α:Type} (t:α) (f:a→b→c→Option α):Pe (some (.ext t)) f=some t:=rfl
@[simp] theorem Ax {α:Type} [Inhabited α] (m:Option α):gd true m=m:=rfl
@[simp] theorem Az {α:Type} [Inhabited α] (m:Option α):gd false m=some default:=rfl
theorem A3 {α:Type} [Inhabited α] {l:List α} {k:Nat} (h:k<l.length):AN l (k:Int)=some l[k]!:=by
 unfold AN
 rw [if_pos (Int.natCast_nonneg k),Int.toNat_natCast,List.getElem?_eq_getElem h,getElem!_pos l k h]
theorem BO {α:Type} {l:List α} {k:Nat} (h:k<l.length):AN l (k:Int)=some l[k]:=by
 unfold AN
 rw [if_pos (Int.natCast_nonneg k),Int.toNat_natCast,List.getElem?_eq_getElem h]
theorem Ao {k:Nat} (h:k<9223372036854775807):Ac .i64 ((k:Int)+1)=some (((k+1:Nat)):Int):=by
 rw [En (by omega) (by omega)]; rfl
theorem F3 {k:Nat} (h:0<k) (h2:k≤9223372036854775807):Ac .i64 ((k:Int)-1)=some ((k-1:Nat):Int):=by
 rw [En (by omega) (by omega)]; congr 1; omega
def Dp {ρ:Type} (k:Nat):Option ρ→Option (Int ⊕ Ay Unit ρ)
 | none=>some (.inl ((k+1:Nat):Int))
 | some r=>some (.inr (.ext r))
def EZ {ρ:Type} : Option ρ→Ay Unit ρ
 | none=>.nrm ()
 | some r=>.ext r
theorem Dw {ρ:Type} {f:Int→Option (Int ⊕ Ay Unit ρ)} {n:Nat} (g:Nat→Option ρ) (h1 : ∀ k:Nat,k<n→f k=Dp k (g k))
  (h2:f n=some (.inr (.nrm ()))):iter f 0=some (EZ ((List.range n).findSome? g)):=by
 have key : ∀ m k:Nat,k+m=n→iter f (k:Int)=some (EZ ((List.range' k m).findSome? g)):=by
  intro m
  induction m with
  | zero=>
   intro k hk
   obtain rfl:k=n:=by omega
   rw [Au h2]; rfl
  | succ m ih=>
   intro k hk
   rw [List.range'_succ,List.findSome?_cons]
   have:=h1 k (by omega)
   cases hg:g k with
   | none=>rw [hg] at this; rw [Av this,ih (k+1) (by omega)]
   | some r=>rw [hg] at this; rw [Au this]; rfl
 rw [List.range_eq_range']
 exact key n 0 (by omega)
theorem N2 {α ρ:Type} {l:List α} {g h:α→Option ρ} (e : ∀ x∈l,g x=h x):l.findSome? g=l.findSome? h:=by
 induction l with
 | nil=>rfl
 | cons a l ih=>rw [List.findSome?_cons,List.findSome?_cons,e a (List.mem_cons_self ..),ih fun x hx=>e x (List.mem_cons_of_mem _ hx)]
theorem Jj {α ρ:Type} [Inhabited α] (l:List α) (p:α→Bool) (r:ρ):(List.range l.length).findSome? (fun k=>if p l[k]! then none else some r)=if l.all p then none else some r:=by
 induction l with
 | nil=>rfl
 | cons a l ih=>
  rw [List.length_cons,List.range_succ_eq_map,List.findSome?_cons,List.findSome?_map]
  have hr:(List.range l.length).findSome? ((fun k=>if p (a :: l)[k]! = true then none else some r) ∘ Nat.succ)=if l.all p=true then none else some r:=by
   rw [← ih]; exact N2 fun k _=>by simp
  rw [hr]
  by_cases hp:p a=true
  ·simp [hp]
  ·simp [hp]
theorem HW {ρ:Type} (o:Option ρ) (f:Unit→Option ρ):A0 (some (EZ o)) f=match o with | none=>f () | some r=>some r:=by cases o <;> rfl
def Dy (c:UInt8):Bool:=(decide (97≤c.toNat) && decide (c.toNat≤122)) || (decide (48≤c.toNat) && decide (c.toNat≤57)) || decide (c.toNat=46) || decide (c.toNat=45)
def C6 (s:List UInt8):Bool:=decide (1≤s.length) && decide (s.length≤24) && (decide (97≤s[0]!.toNat) && decide (s[0]!.toNat≤122)) && s.all Dy
def EB (c:UInt8):Bool:=decide (32≤c.toNat) && decide (c.toNat≤126)
def Ck (s:List UInt8):Bool:=decide (1≤s.length) && decide (s.length≤200) && s.all EB
theorem UL (s:List UInt8) (k:Nat) (hk:k<s.length) (hm:s.length≤9223372036854775807):Hj s k=Dp k (if Dy s[k]! then none else some false):=by
 unfold Hj
 rw [if_pos (by simpa using hk),A3 hk,AG,Ao (by omega)]
 generalize s[k]! = c
 have e:(((((decide ((c.toNat:Int)<97)) || (decide (122<(c.toNat:Int)))) && ((decide ((c.toNat:Int)<48)) || (decide (57<(c.toNat:Int))))) && (!decide ((c.toNat:Int)=46))) && (!decide ((c.toNat:Int)=45))) = !Dy c:=by
  unfold Dy
  rw [Bool.eq_iff_iff]
  simp only [Bool.or_eq_true,Bool.and_eq_true,decide_eq_true_eq,Bool.not_eq_true',decide_eq_false_iff_not,Bool.or_eq_false_iff,Bool.and_eq_false_imp]
  omega
 rw [e]
 cases Dy c <;> rfl
theorem Ug (s:List UInt8) (hm:s.length≤9223372036854775807):Hr s=some (C6 s):=by
 unfold Hr
 rw [Dw (n:=s.length) (fun k=>if Dy s[k]! then none else some false) (fun k hk=>UL s k hk hm) (by unfold Hj; rw [if_neg (by simp)]),Jj]
 unfold C6
 cases s with
 | nil=>simp
 | cons c t=>
  have h0:AN (c :: t) 0=some c:=rfl
  rw [h0]
  simp only [List.getElem!_cons_zero,decide_eq_false (List.cons_ne_nil c t),Bool.false_or]
  generalize (c :: t).all Dy=al
  generalize hl:(c :: t).length=L
  have hL:1≤L:=by rw [← hl]; simp
  by_cases h1:24<(L:Int)
  ·have e1:decide (L≤24)=false:=by simp; omega
   simp [h1,e1]
  ·rw [decide_eq_false h1]
   simp only [Bool.false_or,beq_self_eq_true,Ax,AG]
   have e1:decide (L≤24)=true:=by simp; omega
   have e2:decide (1≤L)=true:=by simp; omega
   rw [e1,e2]
   by_cases h2:(c.toNat:Int)<97
   ·have e3:decide (97≤c.toNat)=false:=by simp; omega
    simp [h2,e3]
   ·rw [decide_eq_false h2]
    have e3:decide (97≤c.toNat)=true:=by simp; omega
    simp only [beq_self_eq_true,Ax,AG,Bool.false_or]
    by_cases h3:122<(c.toNat:Int)
    ·have e4:decide (c.toNat≤122)=false:=by simp; omega
     simp [h3,e4]
    ·have e4:decide (c.toNat≤122)=true:=by simp; omega
     rw [if_neg (by simpa using h3),HW,e3,e4]
     cases al <;> rfl
def EY (k:Nat) (c:UInt8):Bool:=(decide (97≤c.toNat) && decide (c.toNat≤122)) || (decide (k≠0) && Dy c)
theorem T4 (s:List UInt8) (k:Nat) (hk:k<s.length) (hm:s.length≤9223372036854775807) :
  HT s k=Dp k (if EY k s[k]! then none else some false):=by
 unfold HT
 rw [if_pos (by simpa using hk),A3 hk,AG,Ao (by omega)]
 generalize s[k]! = c
 have e:((!((decide (97≤(c.toNat:Int))) && (decide ((c.toNat:Int)≤122)))) && ((decide ((k:Int)=0)) || (((!decide ((c.toNat:Int)=46)) && (!decide ((c.toNat:Int)=45))) && ((decide ((c.toNat:Int)<48)) || (decide (57<(c.toNat:Int))))))) = !EY k c:=by
  unfold EY Dy
  rw [Bool.eq_iff_iff]
  simp only [Bool.or_eq_true,Bool.and_eq_true,decide_eq_true_eq,Bool.not_eq_true',decide_eq_false_iff_not,Bool.or_eq_false_iff,Bool.and_eq_false_imp]
  omega
 rw [e]
 cases EY k c <;> rfl
theorem O5 {ρ:Type} (n:Nat) (g:Nat→Option ρ):(List.range n).findSome? g=none ↔ ∀ k,k<n→g k=none:=by
 rw [List.findSome?_eq_none_iff]; simp
theorem VP {α:Type} [Inhabited α] (l:List α) (p:α→Bool):l.all p=true ↔ ∀ k,k<l.length→p l[k]! = true:=by
 rw [List.all_eq_true]
 constructor
 ·intro h k hk; rw [getElem!_pos l k hk]; exact h _ (List.getElem_mem hk)
 ·intro h x hx
  obtain ⟨k,hk,rfl⟩:=List.mem_iff_getElem.1 hx
  rw [← getElem!_pos l k hk]; exact h k hk
theorem Mk {ρ:Type} (n:Nat) (p:Nat→Bool) (r:ρ):(List.range n).findSome? (fun k=>if p k then none else some r)=if (List.range n).all p then none else some r:=by
 generalize List.range n=l
 induction l with
 | nil=>rfl
 | cons a l ih=>rw [List.findSome?_cons,List.all_cons,]; by_cases h:p a=true <;> simp [h,ih]
theorem RB (s:List UInt8) (hm:s.length≤9223372036854775807):IS s=some (C6 s):=by
 unfold IS
 rw [Dw (n:=s.length) (fun k=>if EY k s[k]! then none else some false) (fun k hk=>T4 s k hk hm) (by unfold HT; rw [if_neg (by simp)]),Mk,HW]
 have key:((List.range s.length).all fun k=>EY k s[k]!)=(decide (s=[]) || ((decide (97≤s[0]!.toNat) && decide (s[0]!.toNat≤122)) && s.all Dy)):=by
  rw [Bool.eq_iff_iff,List.all_eq_true]
  simp only [List.mem_range,Bool.or_eq_true,decide_eq_true_eq,Bool.and_eq_true,VP]
  constructor
  ·intro h
   cases hs:s with
   | nil=>exact .inl rfl
   | cons c t=>
    rw [← hs]
    have hl:0<s.length:=by rw [hs]; simp
    have h0:=h 0 hl
    simp only [EY,Bool.or_eq_true,Bool.and_eq_true,decide_eq_true_eq] at h0
    refine .inr ⟨by omega,fun k hk=>?_⟩
    have:=h k hk
    simp only [EY,Dy,Bool.or_eq_true,Bool.and_eq_true,decide_eq_true_eq] at this ⊢
    omega
  ·rintro (rfl | ⟨h1,h2⟩) k hk
   ·cases hk
   ·have:=h2 k hk
    by_cases hk0:k=0
    ·subst hk0; simp only [EY,Bool.or_eq_true,Bool.and_eq_true,decide_eq_true_eq]; omega
    ·simp only [EY,Bool.or_eq_true,Bool.and_eq_true,decide_eq_true_eq]; exact .inr ⟨hk0,this⟩
 rw [key]
 unfold C6
 cases s with
 | nil=>rfl
 | cons c t=>
  rw [decide_eq_false (List.cons_ne_nil c t),Bool.false_or]
  generalize (c :: t).all Dy=al
  generalize (decide (97≤(c :: t)[0]!.toNat) && decide ((c :: t)[0]!.toNat≤122))=fc
  have e1:decide (1≤((c :: t).length:Int))=decide (1≤(c :: t).length):=by simp; omega
  have e2:decide (((c :: t).length:Int)≤24)=decide ((c :: t).length≤24):=by simp; omega
  rw [e1,e2]
  cases fc <;> cases al <;> simp
theorem RT (s:List UInt8) (hm:s.length≤9223372036854775807):Ip s=some (Ck s):=by
 unfold Ip Ck
 rw [Dw (n:=s.length) (fun k=>if EB s[k]! then none else some false) (fun k hk=>by
  unfold H4
  rw [if_pos (by simpa using hk),A3 hk,AG,Ao (by omega)]
  generalize s[k]! = c
  have e:((decide ((c.toNat:Int)<32)) || (decide (126<(c.toNat:Int)))) = !EB c:=by
   unfold EB
   rw [Bool.eq_iff_iff]
   simp only [Bool.or_eq_true,Bool.and_eq_true,decide_eq_true_eq,Bool.not_eq_true',decide_eq_false_iff_not,Bool.and_eq_false_imp]
   omega
  rw [e]
  cases EB c <;> rfl) (by unfold H4; rw [if_neg (by simp)]),Jj,HW]
 generalize s.all EB=al
 cases s with
 | nil=>simp
 | cons c t=>
  rw [decide_eq_false (List.cons_ne_nil c t),Bool.false_or]
  generalize hl:(c :: t).length=L
  have hL:1≤L:=by rw [← hl]; simp
  by_cases h1:200<(L:Int)
  ·have e1:decide (L≤200)=false:=by simp; omega
   simp [h1,e1]
  ·have e1:decide (L≤200)=true:=by simp; omega
   have e2:decide (1≤L)=true:=by simp; omega
   rw [if_neg (by simpa using h1),e1,e2]
   cases al <;> rfl
theorem QJ (s:List UInt8) (hm:s.length≤9223372036854775807):Ic s=some (Ck s):=by
 unfold Ic Ck
 rw [Dw (n:=s.length) (fun k=>if EB s[k]! then none else some false) (fun k hk=>by
  unfold Hx
  rw [if_pos (by simpa using hk),A3 hk,AG,Ao (by omega)]
  generalize s[k]! = c
  have e:((decide ((c.toNat:Int)<32)) || (decide (126<(c.toNat:Int)))) = !EB c:=by
   unfold EB
   rw [Bool.eq_iff_iff]
   simp only [Bool.or_eq_true,Bool.and_eq_true,decide_eq_true_eq,Bool.not_eq_true',decide_eq_false_iff_not,Bool.and_eq_false_imp]
   omega
  rw [e]
  cases EB c <;> rfl) (by unfold Hx; rw [if_neg (by simp)]),Jj,HW]
 generalize s.all EB=al
 have e1:decide (1≤(s.length:Int))=decide (1≤s.length):=by simp; omega
 have e2:decide ((s.length:Int)≤200)=decide (s.length≤200):=by simp; omega
 rw [e1,e2]
 cases al <;> simp
theorem Lo (a b:UInt8) (x y:List UInt8):Ae (a :: x) (b :: y)=(decide (a<b) || (a == b && Ae x y)):=rfl
theorem HZ : ∀ (a b:List UInt8),(Ae a b || decide (a=b)) = !Ae b a
 | [],[]=>rfl
 | [],_ :: _=>rfl
 | _ :: _,[]=>rfl
 | a :: x,b :: y=>by
  rw [Lo,Lo]
  have ih:=HZ x y
  by_cases h:a=b
  ·subst h
   have h1 : ¬ a<a:=fun h=>by simp [UInt8.lt_iff_toNat_lt] at h
   simp only [decide_eq_false h1,beq_self_eq_true,Bool.true_and,Bool.false_or,List.cons.injEq,true_and]
   exact ih
  ·have h2:(a == b)=false:=by simpa using h
   have h3:(b == a)=false:=by simpa using fun e:b=a=>h e.symm
   have h4 : ¬ (a :: x=b :: y):=fun e=>h (List.cons.inj e).1
   rw [h2,h3,decide_eq_false h4]
   simp only [Bool.false_and,Bool.or_false]
   have h5:a.toNat≠b.toNat:=fun e=>h (UInt8.toNat_inj.1 e)
   by_cases hlt:a<b
   ·have : ¬ b<a:=by rw [UInt8.lt_iff_toNat_lt] at hlt ⊢; omega
    simp [hlt,this]
   ·have:b<a:=by rw [UInt8.lt_iff_toNat_lt] at hlt ⊢; omega
    simp [hlt,this]
theorem Fs (a:List UInt8):Ae a a=false:=by
 have:=HZ a a
 cases h:Ae a a
 ·rfl
 ·rw [h] at this; simp at this
theorem M5 {a b:List UInt8} (h:Ae a b=true):Ae b a=false:=by
 have:=HZ a b
 rw [h] at this; simpa using this.symm
def EC (l:List AC) (ch:Bool) (k:Nat):Option Int:=
 if C6 l[k]!.Name=false then some 9 else if Ck l[k]!.Value=false ∧ ¬ (ch=true∧l[k]!.Value=[]) then some 23 else if 0<k∧Ae l[k-1]!.Name l[k]!.Name=false then some 5 else none
def A5 (l:List AC) (ch:Bool):Int:=((List.range l.length).findSome? (EC l ch)).getD 0
theorem Oq {o:Option Int} : (A0 (some (EZ o)) fun _:Unit=>some 0)=some (o.getD 0):=by cases o <;> rfl
def CQ (l:List AC) (name:List UInt8):List UInt8:=((List.range l.length).findSome? fun k=>if l[k]!.Name=name then some l[k]!.Value else none).getD []
theorem OM {o:Option (List UInt8)} : (A0 (some (EZ o)) fun _:Unit=>some [])=some (o.getD []):=by cases o <;> rfl
theorem Vv (l:List AC) (name:List UInt8) (hm:l.length≤9223372036854775807):N9 l name=some (CQ l name):=by
 unfold N9
 rw [Dw (n:=l.length) (fun k=>if l[k]!.Name=name then some l[k]!.Value else none) (fun k hk=>by
  unfold LG
  rw [if_pos (by simpa using hk),A3 hk,AG,Ao (by omega)]
  generalize l[k]! = x
  by_cases h:x.Name=name <;> simp [h,Dp]) (by unfold LG; rw [if_neg (by simp)]),OM]; rfl
theorem Mx (l:List AC) (name:List UInt8) (hm:l.length≤9223372036854775807):G8 l name=some (CQ l name):=by
 unfold G8
 rw [Dw (n:=l.length) (fun k=>if l[k]!.Name=name then some l[k]!.Value else none) (fun k hk=>by
  unfold Hw
  rw [if_pos (by simpa using hk),A3 hk,AG,Ao (by omega)]
  generalize l[k]! = x
  by_cases h:x.Name=name <;> simp [h,Dp]) (by unfold Hw; rw [if_neg (by simp)]),OM]; rfl
def Bm:AC:=⟨[],[]⟩
def A6 (stp:AC→AC→List AC→List AC):List AC→List AC→List AC→List AC
 | [],[],c=>c
 | x :: a,[],c=>A6 stp a [] (stp x Bm c)
 | [],y :: b,c=>A6 stp [] b (stp Bm y c)
 | x :: a,y :: b,c=>if Ae x.Name y.Name then A6 stp a (y :: b) (stp x Bm c) else if Ae y.Name x.Name then A6 stp (x :: a) b (stp Bm y c) else A6 stp a b (stp x y c)
  termination_by a b=>a.length+b.length
def HN (stp:AC→AC→List AC→List AC) (a b:List AC) (i j:Nat) (o:List AC):Option ((Int × Int × List AC) ⊕ Ay Unit (List AC)):=
 if i<a.length∨j<b.length then
  if j=b.length∨(i<a.length∧Ae a[i]!.Name b[j]!.Name=true) then some (.inl (((i+1:Nat):Int),(j:Int),stp a[i]! Bm o))
  else if i=a.length∨Ae b[j]!.Name a[i]!.Name=true then some (.inl ((i:Int),((j+1:Nat):Int),stp Bm b[j]! o))
  else some (.inl (((i+1:Nat):Int),((j+1:Nat):Int),stp a[i]! b[j]! o))
 else some (.inr (.ext o))
theorem JI {l:List AC} {i:Nat} (h:i<l.length):l.drop i=l[i]! :: l.drop (i+1):=by
 rw [List.drop_eq_getElem_cons h,getElem!_pos l i h]
theorem OX {f:(Int × Int × List AC)→Option ((Int × Int × List AC) ⊕ Ay Unit (List AC))} (stp:AC→AC→List AC→List AC) (a b c:List AC) (B:Nat) (hstp : ∀ x y o,(stp x y o).length≤o.length+1)
  (hf : ∀ (i j:Nat) (o:List AC),i≤a.length→j≤b.length→o.length+(a.length-i)+(b.length-j)≤B→f (i,j,o)=HN stp a b i j o) (hB:c.length+a.length+b.length≤B):iter f (0,0,c)=some (.ext (A6 stp a b c)):=by
 have key : ∀ (m i j:Nat) (o:List AC),i≤a.length→j≤b.length→(a.length-i)+(b.length-j)=m→o.length+m≤B→iter f ((i:Int),(j:Int),o)=some (.ext (A6 stp (a.drop i) (b.drop j) o)):=by
  intro m
  induction m using Nat.strongRecOn with
  | _ m ih=>
   intro i j o hi hj hm ho
   have hs:=hf i j o hi hj (by omega)
   unfold HN at hs
   by_cases hia:i<a.length
   ·rw [JI hia]
    by_cases hjb:j<b.length
    ·rw [JI hjb]
     rw [if_pos (.inl hia)] at hs
     by_cases h1:Ae a[i]!.Name b[j]!.Name=true
     ·rw [if_pos (.inr ⟨hia,h1⟩)] at hs
      rw [Av hs,A6,if_pos h1,← JI hjb]
      exact ih (m-1) (by omega) (i+1) j _ (by omega) hj (by omega) (by have:=hstp a[i]! Bm o; omega)
     ·rw [if_neg (by rintro (h | h); omega; exact h1 h.2)] at hs
      by_cases h2:Ae b[j]!.Name a[i]!.Name=true
      ·rw [if_pos (.inr h2)] at hs
       rw [Av hs,A6,if_neg h1,if_pos h2,← JI hia]
       exact ih (m-1) (by omega) i (j+1) _ hi (by omega) (by omega) (by have:=hstp Bm b[j]! o; omega)
      ·rw [if_neg (by rintro (h | h); omega; exact h2 h)] at hs
       rw [Av hs,A6,if_neg h1,if_neg h2]
       exact ih (m-2) (by omega) (i+1) (j+1) _ (by omega) (by omega) (by omega) (by have:=hstp a[i]! b[j]! o; omega)
    ·have hjl:j=b.length:=by omega
     rw [if_pos (.inl hia),if_pos (.inl hjl)] at hs
     have hd:b.drop j=[]:=by rw [hjl]; simp
     rw [Av hs,hd,A6,← hd]
     exact ih (m-1) (by omega) (i+1) j _ (by omega) hj (by omega) (by have:=hstp a[i]! Bm o; omega)
   ·have hil:i=a.length:=by omega
    have hd:a.drop i=[]:=by rw [hil]; simp
    by_cases hjb:j<b.length
    ·rw [if_pos (.inr hjb),if_neg (by rintro (h | h); omega; omega),if_pos (.inl hil)] at hs
     rw [JI hjb,Av hs,hd,A6,← hd]
     exact ih (m-1) (by omega) i (j+1) _ hi (by omega) (by omega) (by have:=hstp Bm b[j]! o; omega)
    ·have hjl:j=b.length:=by omega
     rw [if_neg (by omega)] at hs
     have hd2:b.drop j=[]:=by rw [hjl]; simp
     rw [Au hs,hd,hd2,A6]
 exact key _ 0 0 c (Nat.zero_le _) (Nat.zero_le _) rfl (by omega)
theorem FM {o:List AC} {x:AC} (h:o.length+1≤4398046511104):app 32 o [x]=some (o++[x]):=by
 unfold app; rw [if_pos (by simp; omega)]
def Cz (x y:AC) (o:List AC):List AC:=if y.Name=[] then o++[x] else if y.Value=[] then o else o++[y]
def Cm (x y:AC) (o:List AC):List AC:=if y.Name=[] then o++[⟨x.Name,[]⟩] else if x=y then o else o++[y]
theorem Pk (x y o):(Cz x y o).length≤o.length+1:=by unfold Cz; split; simp; split <;> simp
theorem PE (x y o):(Cm x y o).length≤o.length+1:=by unfold Cm; split; simp; split <;> simp
theorem H6 (c:List AC) (x y:AC) (h:c.length+1≤4398046511104):GM c x y=some (Cz x y c):=by
 unfold GM Cz
 rw [FM h,FM h]
 by_cases h1:y.Name=[] <;> by_cases h2:y.Value=[] <;> simp [h1,h2]
theorem JS (x y:AC):x=y↔x.Name=y.Name∧x.Value=y.Value:=by cases x; cases y; simp
theorem IP (c:List AC) (x y:AC) (h:c.length+1≤4398046511104):Gq c x y=some (Cm x y c):=by
 unfold Gq Cm
 rw [FM h,FM h]
 simp only [JS]
 by_cases h1:y.Name=[]
 ·simp [h1]
 ·by_cases h2:x.Name=y.Name <;> by_cases h3:x.Value=y.Value <;> simp [h1,h2,h3]
theorem R2 (a b:List AC) (i j:Nat) (o:List AC) (hab:a.length+b.length≤4398046511104) (hi:i≤a.length) (hj:j≤b.length) (ho:o.length+(a.length-i)+(b.length-j)≤4398046511104):Is a b i j o=HN Cz a b i j o:=by
 unfold Is HN
 by_cases hia:i<a.length
 ·rw [if_pos (by simp; omega),if_pos (.inl hia),A3 hia]
  have e1:decide ((i:Int)<(a.length:Int))=true:=by simp; omega
  have e2:decide ((i:Int)=(a.length:Int))=false:=by simp; omega
  rw [e1,e2]
  by_cases hjb:j<b.length
  ·have e3:decide ((j:Int)=(b.length:Int))=false:=by simp; omega
   rw [e3,A3 hjb]
   simp only [beq_self_eq_true,Bool.true_and,Bool.and_self,Ax,AG,Bool.false_or]
   rw [H6 _ _ _ (by omega),H6 _ _ _ (by omega),H6 _ _ _ (by omega)]
   simp only [AG]
   rw [Ao (by omega),Ao (by omega)]
   simp only [AG]
   have hne : ¬ j=b.length:=by omega
   have hni : ¬ i=a.length:=by omega
   simp only [hne,hni,hia,true_and,false_or]; rfl
  ·have hjl:j=b.length:=by omega
   have e3:decide ((j:Int)=(b.length:Int))=true:=by simp; omega
   rw [e3]
   have e4:((true == false) && (true == true))=false:=rfl
   rw [e4]
   simp only [Az,AG,Bool.true_or]
   rw [if_pos trivial,if_pos (.inl hjl),H6 _ _ _ (by omega),AG,Ao (by omega),AG]; rfl
 ·have hil:i=a.length:=by omega
  have e1:decide ((i:Int)<(a.length:Int))=false:=by simp; omega
  have e2:decide ((i:Int)=(a.length:Int))=true:=by simp; omega
  rw [e1,e2]
  by_cases hjb:j<b.length
  ·have e3:decide ((j:Int)=(b.length:Int))=false:=by simp; omega
   have e5:decide ((j:Int)<(b.length:Int))=true:=by simp; omega
   have hne : ¬ j=b.length:=by omega
   rw [e3,e5,if_pos (by rfl),if_pos (.inr hjb),A3 hjb]
   have e4:((false == false) && (false == true))=false:=rfl
   have e6:((true == false))=false:=rfl
   rw [e4,e6]
   simp only [Az,AG,Bool.false_or,Bool.false_and,Bool.true_or,if_true,Bool.false_eq_true,if_false]
   have hx : ¬ (j=b.length∨i<a.length∧Ae a[i]!.Name b[j]!.Name=true):=by
    intro h; rcases h with h | h
    ·exact hne h
    ·exact hia h.1
   rw [if_neg hx,if_pos (.inl hil),H6 _ _ _ (by omega),AG,Ao (by omega),AG]; rfl
  ·have e5:decide ((j:Int)<(b.length:Int))=false:=by simp; omega
   rw [e5,if_neg (by decide),if_neg (by omega)]
theorem Rq (c a b:List AC) (h:c.length+a.length+b.length≤4398046511104):Iw c a b=some (A6 Cz a b c):=by
 unfold Iw
 rw [OX Cz a b c 4398046511104 Pk (fun i j o h1 h2 h3=>R2 a b i j o (by omega) h1 h2 h3) h]; rfl
theorem VK (a b:List AC) (h:a.length+b.length≤4398046511104):HP a b=some (A6 Cz a b []):=by
 unfold HP; rw [Rq [] a b (by simpa using h)]; rfl
theorem R9 (a b:List AC) (i j:Nat) (o:List AC) (hab:a.length+b.length≤4398046511104) (hi:i≤a.length) (hj:j≤b.length) (ho:o.length+(a.length-i)+(b.length-j)≤4398046511104):Hs a b i j o=HN Cm a b i j o:=by
 unfold Hs HN
 by_cases hia:i<a.length
 ·rw [if_pos (by simp; omega),if_pos (.inl hia),A3 hia]
  have e1:decide ((i:Int)<(a.length:Int))=true:=by simp; omega
  have e2:decide ((i:Int)=(a.length:Int))=false:=by simp; omega
  rw [e1,e2]
  by_cases hjb:j<b.length
  ·have e3:decide ((j:Int)=(b.length:Int))=false:=by simp; omega
   rw [e3,A3 hjb]
   simp only [beq_self_eq_true,Bool.true_and,Bool.and_self,Ax,AG,Bool.false_or]
   rw [IP _ _ _ (by omega),IP _ _ _ (by omega),IP _ _ _ (by omega)]
   simp only [AG]
   rw [Ao (by omega),Ao (by omega)]
   simp only [AG]
   have hne : ¬ j=b.length:=by omega
   have hni : ¬ i=a.length:=by omega
   simp only [hne,hni,hia,true_and,false_or]; rfl
  ·have hjl:j=b.length:=by omega
   have e3:decide ((j:Int)=(b.length:Int))=true:=by simp; omega
   rw [e3]
   have e4:((true == false) && (true == true))=false:=rfl
   rw [e4]
   simp only [Az,AG,Bool.true_or]
   rw [if_pos trivial,if_pos (.inl hjl),IP _ _ _ (by omega),AG,Ao (by omega),AG]; rfl
 ·have hil:i=a.length:=by omega
  have e1:decide ((i:Int)<(a.length:Int))=false:=by simp; omega
  have e2:decide ((i:Int)=(a.length:Int))=true:=by simp; omega
  rw [e1,e2]
  by_cases hjb:j<b.length
  ·have e3:decide ((j:Int)=(b.length:Int))=false:=by simp; omega
   have e5:decide ((j:Int)<(b.length:Int))=true:=by simp; omega
   have hne : ¬ j=b.length:=by omega
   rw [e3,e5,if_pos (by rfl),if_pos (.inr hjb),A3 hjb]
   have e4:((false == false) && (false == true))=false:=rfl
   have e6:((true == false))=false:=rfl
   rw [e4,e6]
   simp only [Az,AG,Bool.false_or,Bool.false_and,Bool.true_or,if_true,Bool.false_eq_true,if_false]
   have hx : ¬ (j=b.length∨i<a.length∧Ae a[i]!.Name b[j]!.Name=true):=by
    intro h; rcases h with h | h
    ·exact hne h
    ·exact hia h.1
   rw [if_neg hx,if_pos (.inl hil),IP _ _ _ (by omega),AG,Ao (by omega),AG]; rfl
  ·have e5:decide ((j:Int)<(b.length:Int))=false:=by simp; omega
   rw [e5,if_neg (by decide),if_neg (by omega)]
theorem Px (c a b:List AC) (h:c.length+a.length+b.length≤4398046511104):Hz c a b=some (A6 Cm a b c):=by
 unfold Hz
 rw [OX Cm a b c 4398046511104 PE (fun i j o h1 h2 h3=>R9 a b i j o (by omega) h1 h2 h3) h]; rfl
theorem Q0 (a b:List AC) (h:a.length+b.length≤4398046511104):I9 a b=some (A6 Cm a b []):=by
 unfold I9; rw [Px [] a b (by simpa using h)]; rfl
theorem Vs (a b:List AC) (hm:a.length≤9223372036854775807):Nh a b=some (decide (a=b)):=by
 unfold Nh
 by_cases hl:a.length=b.length
 ·rw [if_neg (by simp [hl]),Dw (n:=a.length) (fun k=>if decide (a[k]! = b[k]!) then none else some false) (fun k hk=>by
   unfold Mo
   rw [if_pos (by simpa using hk),A3 hk,A3 (by omega),AG,AG,Ao (by omega)]
   generalize a[k]! = x
   generalize b[k]! = y
   by_cases h:x=y
   ·subst h; simp [Dp]
   ·have h':=h; rw [JS] at h'
    simp only [decide_eq_false h,Bool.and_true]
    by_cases h1:x.Name=y.Name
    ·have h2 : ¬ x.Value=y.Value:=fun e=>h' ⟨h1,e⟩
     simp [h1,h2,Dp]
    ·simp [h1,Dp]) (by unfold Mo; rw [if_neg (by simp)]),Mk,HW]
  by_cases h:a=b
  ·subst h; simp
  ·rw [decide_eq_false h]
   have:((List.range a.length).all fun k=>decide (a[k]! = b[k]!))=false:=by
    rw [← Bool.not_eq_true,List.all_eq_true]
    intro hall
    apply h
    apply List.ext_getElem hl
    intro k h1 h2
    have:=hall k (List.mem_range.2 h1)
    simp only [decide_eq_true_eq] at this
    rwa [getElem!_pos a k h1,getElem!_pos b k h2] at this
   rw [this]; rfl
 ·rw [if_pos (by simp; omega),decide_eq_false (by rintro rfl; exact hl rfl)]
theorem UK (a b:List AC) (hm:a.length≤9223372036854775807):IK a b=some (decide (a=b)):=by
 unfold IK
 by_cases hl:a.length=b.length
 ·rw [if_neg (by simp [hl]),Dw (n:=a.length) (fun k=>if decide (a[k]! = b[k]!) then none else some false) (fun k hk=>by
   unfold Id
   rw [if_pos (by simpa using hk),A3 hk,A3 (by omega),AG,AG,Ao (by omega)]
   generalize a[k]! = x
   generalize b[k]! = y
   by_cases h:x=y
   ·subst h; simp [Dp]
   ·have h':=h; rw [JS] at h'
    simp only [decide_eq_false h,Bool.and_true]
    by_cases h1:x.Name=y.Name
    ·have h2 : ¬ x.Value=y.Value:=fun e=>h' ⟨h1,e⟩
     simp [h1,h2,Dp]
    ·simp [h1,Dp]) (by unfold Id; rw [if_neg (by simp)]),Mk,HW]
  by_cases h:a=b
  ·subst h; simp
  ·rw [decide_eq_false h]
   have:((List.range a.length).all fun k=>decide (a[k]! = b[k]!))=false:=by
    rw [← Bool.not_eq_true,List.all_eq_true]
    intro hall
    apply h
    apply List.ext_getElem hl
    intro k h1 h2
    have:=hall k (List.mem_range.2 h1)
    simp only [decide_eq_true_eq] at this
    rwa [getElem!_pos a k h1,getElem!_pos b k h2] at this
   rw [this]; rfl
 ·rw [if_pos (by simp; omega),decide_eq_false (by rintro rfl; exact hl rfl)]
theorem PD {α β:Type} [Inhabited α] {f:(β × Int)→Option ((β × Int) ⊕ β)} (l:List α) (stp:β→α→β) (I:β→Nat→Prop) (hI : ∀ b k,k<l.length→I b k→I (stp b l[k]!) (k+1))
  (h1 : ∀ b (k:Nat),k<l.length→I b k→f (b,(k:Int))=some (.inl (stp b l[k]!,((k+1:Nat):Int)))) (h2 : ∀ b,f (b,(l.length:Int))=some (.inr b)) (b0:β) (h0:I b0 0):iter f (b0,0)=some (l.foldl stp b0):=by
 have key : ∀ (m k:Nat) (b:β),k+m=l.length→I b k→iter f (b,(k:Int))=some ((l.drop k).foldl stp b):=by
  intro m
  induction m with
  | zero=>
   intro k b hk _
   have:k=l.length:=by omega
   subst this
   rw [Au (h2 b)]; simp
  | succ m ih=>
   intro k b hk hb
   have hkl:k<l.length:=by omega
   rw [Av (h1 b k hkl hb),ih (k+1) _ (by omega) (hI b k hkl hb),List.drop_eq_getElem_cons hkl,List.foldl_cons,getElem!_pos l k hkl]
 have:=key l.length 0 b0 (by omega) h0
 simpa using this
theorem Sh {α β:Type} [Inhabited α] {f:(Int × β)→Option ((Int × β) ⊕ β)} (l:List α) (stp:β→α→β) (I:β→Nat→Prop) (hI : ∀ b k,k<l.length→I b k→I (stp b l[k]!) (k+1))
  (h1 : ∀ b (k:Nat),k<l.length→I b k→f ((k:Int),b)=some (.inl (((k+1:Nat):Int),stp b l[k]!))) (h2 : ∀ b,f ((l.length:Int),b)=some (.inr b)) (b0:β) (h0:I b0 0):iter f (0,b0)=some (l.foldl stp b0):=by
 have key : ∀ (m k:Nat) (b:β),k+m=l.length→I b k→iter f ((k:Int),b)=some ((l.drop k).foldl stp b):=by
  intro m
  induction m with
  | zero=>
   intro k b hk _
   have:k=l.length:=by omega
   subst this
   rw [Au (h2 b)]; simp
  | succ m ih=>
   intro k b hk hb
   have hkl:k<l.length:=by omega
   rw [Av (h1 b k hkl hb),ih (k+1) _ (by omega) (hI b k hkl hb),List.drop_eq_getElem_cons hkl,List.foldl_cons,getElem!_pos l k hkl]
 have:=key l.length 0 b0 (by omega) h0
 simpa using this
theorem Q2 {α γ β:Type} [Inhabited α] {f:(γ × Int × β)→Option ((γ × Int × β) ⊕ (γ × β))} (l:List α) (stp:γ × β→α→γ × β) (I:γ × β→Nat→Prop) (hI : ∀ b k,k<l.length→I b k→I (stp b l[k]!) (k+1))
  (h1 : ∀ c b (k:Nat),k<l.length→I (c,b) k→f (c,(k:Int),b)=some (.inl ((stp (c,b) l[k]!).1,((k+1:Nat):Int),(stp (c,b) l[k]!).2))) (h2 : ∀ c b,f (c,(l.length:Int),b)=some (.inr (c,b))) (c0:γ) (b0:β) (h0:I (c0,b0) 0) :
  iter f (c0,0,b0)=some (l.foldl stp (c0,b0)):=by
 have key : ∀ (m k:Nat) (b:γ × β),k+m=l.length→I b k→iter f (b.1,(k:Int),b.2)=some ((l.drop k).foldl stp b):=by
  intro m
  induction m with
  | zero=>
   intro k b hk _
   have:k=l.length:=by omega
   subst this
   rw [Au (h2 _ _)]; simp
  | succ m ih=>
   intro k b hk hb
   have hkl:k<l.length:=by omega
   rw [Av (h1 b.1 b.2 k hkl hb),ih (k+1) _ (by omega) (hI b k hkl hb),List.drop_eq_getElem_cons hkl,List.foldl_cons,getElem!_pos l k hkl]
 have:=key l.length 0 (c0,b0) (by omega) h0
 simpa using this
theorem OU (a:List UInt8):Ae a []=false:=by cases a <;> rfl
theorem DY : ∀ {a b c:List UInt8},Ae a b=true→Ae b c=true→Ae a c=true
 | _,[],_,h,_=>by rw [OU] at h; cases h
 | _,_ :: _,[],_,h=>by cases h
 | [],_ :: _,_ :: _,_,_=>rfl
 | a :: x,b :: y,c :: z,h,k=>by
  rw [Lo] at h k ⊢
  simp only [Bool.or_eq_true,decide_eq_true_eq,Bool.and_eq_true,beq_iff_eq,UInt8.lt_iff_toNat_lt] at h k ⊢
  rcases h with h | ⟨rfl,h⟩ <;> rcases k with k | ⟨rfl,k⟩
  ·left; omega
  ·left; exact h
  ·left; exact k
  ·right; exact ⟨rfl,DY h k⟩
def As (l:List AC):Prop:=l.Pairwise fun x y=>Ae x.Name y.Name=true
def AY:List AC→List UInt8→Option AC
 | [],_=>none
 | x :: l,n=>if x.Name=n then some x else AY l n
theorem Ep {l:List AC} {n:List UInt8} (h : ∀ e∈l,e.Name≠n):AY l n=none:=by
 induction l with
 | nil=>rfl
 | cons x l ih=>rw [AY,if_neg (h x (List.mem_cons_self ..)),ih fun e he=>h e (List.mem_cons_of_mem _ he)]
theorem Fj {l:List AC} {n:List UInt8} {e:AC} (h:AY l n=some e):e.Name=n∧e∈l:=by
 induction l with
 | nil=>cases h
 | cons x l ih=>
  rw [AY] at h
  split at h
  ·cases h; exact ⟨‹_›,List.mem_cons_self ..⟩
  ·exact ⟨(ih h).1,List.mem_cons_of_mem _ (ih h).2⟩
theorem C9 {a b:List UInt8} (h:Ae a b=true):b≠a:=by rintro rfl; rw [Fs] at h; cases h
theorem Ci {x:AC} {l:List AC} : As (x :: l)↔(∀ e∈l,Ae x.Name e.Name=true)∧As l:=List.pairwise_cons
theorem Kc : ∀ {l m:List AC},As l→As m→(∀ n,AY l n=AY m n)→l=m
 | [],[],_,_,_=>rfl
 | [],y :: m,_,_,h=>by have:=h y.Name; simp [AY] at this
 | x :: l,[],_,_,h=>by have:=h x.Name; simp [AY] at this
 | x :: l,y :: m,hl,hm,h=>by
  have h1:=Ci.1 hl
  have h2:=Ci.1 hm
  have hxy:x.Name=y.Name:=by
   rcases hlt:Ae x.Name y.Name with _ | _
   ·rcases hgt:Ae y.Name x.Name with _ | _
    ·have:=HZ x.Name y.Name
     rw [hlt,hgt] at this
     simpa using this
    ·have:=h y.Name
     rw [AY,if_neg (C9 hgt),Ep fun e he=>C9 (DY hgt (h1.1 e he)),AY,if_pos rfl] at this
     cases this
   ·have:=h x.Name
    rw [AY,if_pos rfl,AY,if_neg (C9 hlt),Ep fun e he=>C9 (DY hlt (h2.1 e he))] at this
    cases this
  have hx:x=y:=by
   have:=h x.Name
   rw [AY,if_pos rfl,AY,if_pos hxy.symm] at this
   exact Option.some.inj this
  subst hx
  rw [Kc h1.2 h2.2 fun n=>?_]
  by_cases hn:x.Name=n
  ·subst hn
   rw [Ep fun e he=>C9 (h1.1 e he),Ep fun e he=>C9 (h2.1 e he)]
  ·have:=h n
   rwa [AY,if_neg hn,AY,if_neg hn] at this
def BZ:List AC→AC→List AC
 | [],a=>[a]
 | x :: l,a=>if x.Name=a.Name then a :: l else if Ae x.Name a.Name=true then x :: BZ l a else a :: x :: l
theorem Rw {l:List AC} {a e:AC} (h:e∈BZ l a):e=a∨e∈l:=by
 induction l with
 | nil=>simpa [BZ] using h
 | cons x l ih=>
  rw [BZ] at h
  split at h
  ·rcases List.mem_cons.1 h with h | h
   ·exact .inl h
   ·exact .inr (List.mem_cons_of_mem _ h)
  ·split at h
   ·rcases List.mem_cons.1 h with h | h
    ·exact .inr (h ▸ List.mem_cons_self ..)
    ·rcases ih h with h | h
     ·exact .inl h
     ·exact .inr (List.mem_cons_of_mem _ h)
   ·rcases List.mem_cons.1 h with h | h
    ·exact .inl h
    ·exact .inr h
theorem MI {a b:List UInt8} (h1:a≠b) (h2 : ¬ Ae a b=true):Ae b a=true:=by
 have:=HZ a b
 rw [Bool.eq_false_iff.2 h2,decide_eq_false h1] at this
 simpa using this
theorem LB {l:List AC} (a:AC) (h:As l):As (BZ l a):=by
 induction l with
 | nil=>simp [BZ,As]
 | cons x l ih=>
  have h1:=Ci.1 h
  rw [BZ]
  split
  ·rename_i hn; exact Ci.2 ⟨fun e he=>by rw [← hn]; exact h1.1 e he,h1.2⟩
  ·rename_i hn
   split
   ·rename_i hlt
    exact Ci.2 ⟨fun e he=>by rcases Rw he with rfl | he; exact hlt; exact h1.1 e he,ih h1.2⟩
   ·rename_i hlt
    have hgt:=MI hn hlt
    exact Ci.2 ⟨fun e he=>by rcases List.mem_cons.1 he with rfl | he; exact hgt; exact DY hgt (h1.1 e he),h⟩
theorem LZ (l:List AC) (a:AC) (n:List UInt8):AY (BZ l a) n=if a.Name=n then some a else AY l n:=by
 induction l with
 | nil=>simp [BZ,AY]
 | cons x l ih=>
  rw [BZ]
  split
  ·rename_i hn
   rw [AY,AY]
   by_cases h:a.Name=n
   ·rw [if_pos h,if_pos h]
   ·rw [if_neg h,if_neg h,if_neg (by rw [hn]; exact h)]
  ·rename_i hn
   split
   ·rw [AY,AY,ih]
    by_cases h:a.Name=n
    ·rw [if_pos h,if_neg (by rw [← h]; exact hn),if_pos h]
    ·rw [if_neg h,if_neg h]
   ·rw [AY]
theorem Le (l:List AC) (a:AC):(BZ l a).length≤l.length+1:=by
 induction l with
 | nil=>simp [BZ]
 | cons x l ih=>rw [BZ]; split; simp; split; simp; omega; simp
def CO (a:AC) (s:Bool × List AC) (x:AC):Bool × List AC:=
 let s1:=if s.1=false∧Ae x.Name a.Name=false then (true,s.2++[a]) else s
 if x.Name=a.Name then s1 else (s1.1,s1.2++[x])
theorem Lq (a:AC) : ∀ (l:List AC) (o:List AC),(∀ e∈l,Ae a.Name e.Name=true)→l.foldl (CO a) (true,o)=(true,o++l)
 | [],o,_=>by simp
 | x :: l,o,h=>by
  have hx:=h x (List.mem_cons_self ..)
  have:CO a (true,o) x=(true,o++[x]):=by simp [CO,C9 hx]
  rw [List.foldl_cons,this,Lq a l _ fun e he=>h e (List.mem_cons_of_mem _ he)]
  simp
theorem NO (a:AC) : ∀ (l:List AC) (o:List AC),As l→(let s:=l.foldl (CO a) (false,o); if s.1 then s.2 else s.2++[a])=o++BZ l a
 | [],o,_=>by simp [BZ]
 | x :: l,o,h=>by
  have h1:=Ci.1 h
  rw [List.foldl_cons,BZ]
  by_cases hn:x.Name=a.Name
  ·have hs:Ae x.Name a.Name=false:=by rw [hn]; exact Fs _
   have:CO a (false,o) x=(true,o++[a]):=by simp [CO,hn,Fs]
   rw [this,Lq a l _ fun e he=>by rw [← hn]; exact h1.1 e he,if_pos hn]
   simp
  ·by_cases hlt:Ae x.Name a.Name=true
   ·have:CO a (false,o) x=(false,o++[x]):=by simp [CO,hn,hlt]
    rw [this,NO a l _ h1.2,if_neg hn,if_pos hlt]
    simp
   ·have hgt:=MI hn hlt
    have:CO a (false,o) x=(true,o++[a]++[x]):=by simp [CO,hn,Bool.eq_false_iff.2 hlt]
    rw [this,Lq a l _ fun e he=>DY hgt (h1.1 e he),if_neg hn,if_neg hlt]
    simp
theorem Oi (a:AC) (s:Bool × List AC) (x:AC):(CO a s x).2.length≤s.2.length+2:=by
 unfold CO
 have:(if s.1=false∧Ae x.Name a.Name=false then (true,s.2++[a]) else s).2.length≤s.2.length+1:=by split <;> simp
 generalize (if s.1=false∧Ae x.Name a.Name=false then (true,s.2++[a]) else s)=t at this
 by_cases h2:x.Name=a.Name
 ·simp only [h2,if_true]; omega
 ·simp only [h2,if_false,List.length_append,List.length_singleton]; omega
theorem N8 (l:List AC) (a:AC) (hs:As l) (h:l.length≤1099511627776):Dv l a=some (BZ l a):=by
 unfold Dv
 rw [Q2 l (CO a) (fun s k=>s.2.length≤2 * k) (fun b k _ hb=>by have:=Oi a b l[k]!; show (CO a b l[k]!).2.length≤_; omega) (fun c b k hk hb=>by
  have hb':b.length≤2 * k:=hb
  unfold IX
  rw [if_pos (by simpa using hk),A3 hk,Ao (by omega)]
  simp only [AG]
  generalize l[k]! = x
  have e1:app 32 b [a]=some (b++[a]):=FM (by omega)
  have e2:app 32 b [x]=some (b++[x]):=FM (by omega)
  have e3:app 32 (b++[a]) [x]=some (b++[a]++[x]):=FM (by simp; omega)
  cases c
  ·simp only [Bool.not_false,beq_self_eq_true,Ax,AG,Bool.true_and]
   unfold CO
   cases h1:Ae x.Name a.Name
   ·by_cases h2:x.Name=a.Name <;> simp [e1,e3,h2]
   ·by_cases h2:x.Name=a.Name <;> simp [e2,h2]
  ·have:((!true) == true)=false:=rfl
   rw [this,Az]
   simp only [AG,Bool.not_true,Bool.false_and,Bool.false_eq_true,if_false,A4]
   unfold CO
   by_cases h2:x.Name=a.Name <;> simp [e2,h2]) (fun c b=>by unfold IX; rw [if_neg (by simp)]) false [] (by simp)]
 have hp:=NO a l [] hs
 have hlen:(l.foldl (CO a) (false,([]:List AC))).2.length≤2 * l.length:=by
  have : ∀ (m:List AC) (s:Bool × List AC),(m.foldl (CO a) s).2.length≤s.2.length+2 * m.length:=by
   intro m
   induction m with
   | nil=>intro s; simp
   | cons x m ih=>intro s; rw [List.foldl_cons]; have:=ih (CO a s x); have:=Oi a s x; simp only [List.length_cons]; omega
  have:=this l (false,[])
  simpa using this
 generalize l.foldl (CO a) (false,([]:List AC))=s at hp hlen
 obtain ⟨c,o⟩:=s
 simp only [A4]
 cases c
 ·simp only [Bool.not_false,if_true]
  rw [FM (by simp at hlen; omega)]
  simpa using hp
 ·simpa using hp
def B5 (g:AC→AC→List AC):List AC→List AC→List AC
 | [],[]=>[]
 | x :: a,[]=>g x Bm++B5 g a []
 | [],y :: b=>g Bm y++B5 g [] b
 | x :: a,y :: b=>if Ae x.Name y.Name then g x Bm++B5 g a (y :: b) else if Ae y.Name x.Name then g Bm y++B5 g (x :: a) b else g x y++B5 g a b
  termination_by a b=>a.length+b.length
theorem Q4 (stp:AC→AC→List AC→List AC) (g:AC→AC→List AC) (h : ∀ x y o,stp x y o=o++g x y) : ∀ (m:Nat) (a b c:List AC),a.length+b.length=m→A6 stp a b c=c++B5 g a b:=by
 intro m
 induction m using Nat.strongRecOn with
 | _ m ih=>
  intro a b c hm
  cases a with
  | nil=>
   cases b with
   | nil=>simp [A6,B5]
   | cons y b=>rw [A6,B5,ih (m-1) (by simp at hm; omega) [] b _ (by simp at hm ⊢; omega),h]; simp
  | cons x a=>
   cases b with
   | nil=>rw [A6,B5,ih (m-1) (by simp at hm; omega) a [] _ (by simp at hm ⊢; omega),h]; simp
   | cons y b=>
    rw [A6,B5]
    split
    ·rw [ih (m-1) (by simp at hm; omega) a (y :: b) _ (by simp at hm ⊢; omega),h]; simp
    ·split
     ·rw [ih (m-1) (by simp at hm; omega) (x :: a) b _ (by simp at hm ⊢; omega),h]; simp
     ·rw [ih (m-2) (by simp at hm; omega) a b _ (by simp at hm ⊢; omega),h]; simp
def JW (l:List AC) (n:List UInt8) (o:Option AC):Prop:=l=o.toList ∧ ∀ e,o=some e→e.Name=n
structure Ia (g:AC→AC→List AC) (G:Option AC→Option AC→Option AC):Prop where
 l : ∀ x:AC,x.Name≠[]→JW (g x Bm) x.Name (G (some x) none)
 r : ∀ y:AC,y.Name≠[]→JW (g Bm y) y.Name (G none (some y))
 b : ∀ x y:AC,x.Name=y.Name→x.Name≠[]→JW (g x y) x.Name (G (some x) (some y))
 n:G none none=none
theorem VU {o:Option AC} {n0:List UInt8} {rest:List AC} (h1 : ∀ e,o=some e→e.Name=n0) (h2 : ∀ e∈rest,Ae n0 e.Name=true) (h3:As rest):As (o.toList++rest) ∧ ∀ n,AY (o.toList++rest) n=if n0=n then o else AY rest n:=by
 cases o with
 | none=>
  refine ⟨h3,fun n=>?_⟩
  split
  ·rename_i h; subst h; exact Ep fun e he=>C9 (h2 e he)
  ·rfl
 | some x=>
  have hx:=h1 x rfl
  refine ⟨Ci.2 ⟨fun e he=>by rw [hx]; exact h2 e he,h3⟩,fun n=>?_⟩
  show AY (x :: rest) n=_
  rw [AY,hx]
def Nm (l:List AC):Prop:=∀ e∈l,e.Name≠[]
theorem Um {g:AC→AC→List AC} {G:Option AC→Option AC→Option AC} (hg:Ia g G) : ∀ (m:Nat) (a b:List AC),a.length+b.length=m→As a→As b→Nm a→Nm b →
  (∀ n,(∀ e∈a,Ae n e.Name=true)→(∀ e∈b,Ae n e.Name=true) → ∀ e∈B5 g a b,Ae n e.Name=true)∧As (B5 g a b) ∧ ∀ n,AY (B5 g a b) n=G (AY a n) (AY b n):=by
 intro m
 induction m using Nat.strongRecOn with
 | _ m ih=>
  intro a b hm ha hb na nb
  have tail : ∀ {l:List AC} {n0:List UInt8} {o:Option AC} {a' b':List AC},JW l n0 o→a'.length+b'.length<m→As a'→As b'→Nm a'→Nm b'→(∀ e∈a',Ae n0 e.Name=true)→(∀ e∈b',Ae n0 e.Name=true) →
    (∀ n,Ae n n0=true → ∀ e∈l++B5 g a' b',Ae n e.Name=true)∧As (l++B5 g a' b') ∧ ∀ n,AY (l++B5 g a' b') n=if n0=n then o else G (AY a' n) (AY b' n):=by
   rintro l n0 o a' b' ⟨rfl,ho⟩ hlt ha' hb' na' nb' h1 h2
   obtain ⟨i1,i2,i3⟩:=ih _ hlt a' b' rfl ha' hb' na' nb'
   obtain ⟨j1,j2⟩:=VU ho (i1 n0 h1 h2) i2
   refine ⟨fun n hn e he=>?_,j1,fun n=>by rw [j2 n,i3 n]⟩
   rcases List.mem_append.1 he with he | he
   ·rw [Option.mem_toList] at he; rw [ho e he]; exact hn
   ·exact DY hn (i1 n0 h1 h2 e he)
  cases a with
  | nil=>
   cases b with
   | nil=>exact ⟨fun n _ _ e he=>by simp [B5] at he,by simp [B5,As],fun n=>by simp [B5,AY,hg.n]⟩
   | cons y b=>
    have h1:=Ci.1 hb
    have hy:=nb y (List.mem_cons_self ..)
    rw [B5]
    obtain ⟨k1,k2,k3⟩:=tail (a':=[]) (b':=b) (hg.r y hy) (by simp at hm ⊢; omega) ha h1.2 na (fun e he=>nb e (List.mem_cons_of_mem _ he)) (fun e he=>by cases he) h1.1
    refine ⟨fun n _ h e he=>k1 n (h y (List.mem_cons_self ..)) e he,k2,fun n=>?_⟩
    rw [k3 n]
    conv=>rhs; rw [AY,AY]
    split
    ·rfl
    ·rfl
  | cons x a=>
   have h1:=Ci.1 ha
   have hx:=na x (List.mem_cons_self ..)
   cases b with
   | nil=>
    rw [B5]
    obtain ⟨k1,k2,k3⟩:=tail (a':=a) (b':=[]) (hg.l x hx) (by simp at hm ⊢; omega) h1.2 hb (fun e he=>na e (List.mem_cons_of_mem _ he)) nb h1.1 (fun e he=>by cases he)
    refine ⟨fun n h _ e he=>k1 n (h x (List.mem_cons_self ..)) e he,k2,fun n=>?_⟩
    rw [k3 n]
    conv=>rhs; rw [AY,AY]
    split
    ·rfl
    ·rfl
   | cons y b=>
    have h2:=Ci.1 hb
    have hy:=nb y (List.mem_cons_self ..)
    rw [B5]
    split
    ·rename_i hlt
     obtain ⟨k1,k2,k3⟩:=tail (a':=a) (b':=y :: b) (hg.l x hx) (by simp at hm ⊢; omega) h1.2 hb (fun e he=>na e (List.mem_cons_of_mem _ he)) nb h1.1 (fun e he=>by
      rcases List.mem_cons.1 he with rfl | he
      ·exact hlt
      ·exact DY hlt (h2.1 e he))
     refine ⟨fun n h _ e he=>k1 n (h x (List.mem_cons_self ..)) e he,k2,fun n=>?_⟩
     rw [k3 n]
     by_cases hn:x.Name=n
     ·subst hn
      rw [if_pos rfl,AY,if_pos rfl,Ep fun e he=>by
       rcases List.mem_cons.1 he with rfl | he
       ·exact C9 hlt
       ·exact C9 (DY hlt (h2.1 e he))]
     ·rw [if_neg hn]; conv=>rhs; rw [AY,if_neg hn]
    ·rename_i hlt
     split
     ·rename_i hgt
      obtain ⟨k1,k2,k3⟩:=tail (a':=x :: a) (b':=b) (hg.r y hy) (by simp at hm ⊢; omega) ha h2.2 na (fun e he=>nb e (List.mem_cons_of_mem _ he)) (fun e he=>by
       rcases List.mem_cons.1 he with rfl | he
       ·exact hgt
       ·exact DY hgt (h1.1 e he)) h2.1
      refine ⟨fun n _ h e he=>k1 n (h y (List.mem_cons_self ..)) e he,k2,fun n=>?_⟩
      rw [k3 n]
      by_cases hn:y.Name=n
      ·subst hn
       rw [if_pos rfl]
       conv=>rhs; rw [Ep (l:=x :: a) (fun e he=>by
        rcases List.mem_cons.1 he with rfl | he
        ·exact C9 hgt
        ·exact C9 (DY hgt (h1.1 e he))),AY,if_pos rfl]
      ·rw [if_neg hn]; conv=>rhs; arg 2; rw [AY,if_neg hn]
     ·rename_i hgt
      have hxy:x.Name=y.Name:=by
       have:=HZ x.Name y.Name
       rw [Bool.eq_false_iff.2 hlt,Bool.eq_false_iff.2 hgt] at this
       simpa using this
      obtain ⟨k1,k2,k3⟩:=tail (a':=a) (b':=b) (hg.b x y hxy hx) (by simp at hm ⊢; omega) h1.2 h2.2 (fun e he=>na e (List.mem_cons_of_mem _ he)) (fun e he=>nb e (List.mem_cons_of_mem _ he)) h1.1 (fun e he=>by rw [hxy]; exact h2.1 e he)
      refine ⟨fun n h _ e he=>k1 n (h x (List.mem_cons_self ..)) e he,k2,fun n=>?_⟩
      rw [k3 n]
      conv=>rhs; rw [AY,AY,← hxy]
      split <;> rfl
def Cp:Option AC→Option AC→Option AC
 | o,none=>o
 | _,some y=>if y.Value=[] then none else some y
def Em:Option AC→Option AC→Option AC
 | none,none=>none
 | some x,none=>some ⟨x.Name,[]⟩
 | none,some y=>some y
 | some x,some y=>if x=y then none else some y
theorem IW {stp:AC→AC→List AC→List AC} {g:AC→AC→List AC} {G:Option AC→Option AC→Option AC} (h : ∀ x y o,stp x y o=o++g x y) (hg:Ia g G) {a b:List AC} (ha:As a) (hb:As b) (na:Nm a) (nb:Nm b) :
  As (A6 stp a b []) ∧ ∀ n,AY (A6 stp a b []) n=G (AY a n) (AY b n):=by
 rw [Q4 stp g h _ a b [] rfl,List.nil_append]
 exact (Um hg _ a b rfl ha hb na nb).2
def HB (x y:AC):List AC:=if y.Name=[] then [x] else if y.Value=[] then [] else [y]
def Hb (x y:AC):List AC:=if y.Name=[] then [⟨x.Name,[]⟩] else if x=y then [] else [y]
theorem Lg:Ia HB Cp:=by
 refine ⟨fun x hx=>⟨by simp [HB,Cp,Bm],by rintro e ⟨⟩; rfl⟩,fun y hy=>⟨?_,?_⟩,fun x y hxy hx=>⟨?_,?_⟩,rfl⟩
 ·simp only [HB,Cp,if_neg hy]; split <;> rfl
 ·intro e he; simp only [Cp] at he; split at he <;> cases he; rfl
 ·rw [hxy] at hx; simp only [HB,Cp,if_neg hx]; split <;> rfl
 ·intro e he; simp only [Cp] at he; split at he <;> cases he; exact hxy.symm
theorem Lw:Ia Hb Em:=by
 refine ⟨fun x hx=>⟨by simp [Hb,Em,Bm],by rintro e ⟨⟩; rfl⟩,fun y hy=>⟨?_,?_⟩,fun x y hxy hx=>⟨?_,?_⟩,rfl⟩
 ·have : ¬ Bm=y:=by rintro rfl; exact hy rfl
  simp [Hb,Em,if_neg hy,this]
 ·rintro e ⟨⟩; rfl
 ·rw [hxy] at hx; simp only [Hb,Em,if_neg hx]; split <;> rfl
 ·intro e he; simp only [Em] at he; split at he <;> cases he; exact hxy.symm
theorem MD (x y o):Cz x y o=o++HB x y:=by unfold Cz HB; split; rfl; split; simp; rfl
theorem LT (x y o):Cm x y o=o++Hb x y:=by unfold Cm Hb; split; rfl; split; simp; rfl
theorem Tj {l:List AC} (h : ∀ k,k+1<l.length→Ae l[k]!.Name l[k+1]!.Name=true):As l:=by
 induction l with
 | nil=>exact List.Pairwise.nil
 | cons x l ih=>
  have hl:=ih fun k hk=>by have:=h (k+1) (by simp; omega); simpa using this
  refine Ci.2 ⟨fun e he=>?_,hl⟩
  cases l with
  | nil=>cases he
  | cons y l=>
   have h0:Ae x.Name y.Name=true:=by have:=h 0 (by simp); simpa using this
   rcases List.mem_cons.1 he with rfl | he
   ·exact h0
   ·exact DY h0 ((Ci.1 hl).1 e he)
theorem Cy {l:List AC} {ch:Bool} (h:A5 l ch=0):As l∧Nm l∧(ch=false → ∀ e∈l,e.Value≠[]):=by
 have hn : ∀ k,k<l.length→EC l ch k=none:=by
  intro k hk
  unfold A5 at h
  cases hf:(List.range l.length).findSome? (EC l ch) with
  | none=>exact (O5 _ _).1 hf k hk
  | some r=>
   rw [hf] at h
   obtain ⟨j,_,hj⟩:=List.exists_of_findSome?_eq_some hf
   exfalso
   unfold EC at hj
   simp only [Option.getD_some] at h
   subst h
   repeat' split at hj
   all_goals simp at hj
 have hname : ∀ k,k<l.length→C6 l[k]!.Name=true ∧ ¬ (Ck l[k]!.Value=false ∧ ¬ (ch=true∧l[k]!.Value=[])) ∧ ¬ (0<k∧Ae l[k-1]!.Name l[k]!.Name=false):=by
  intro k hk
  have:=hn k hk
  unfold EC at this
  split at this
  ·cases this
  ·split at this
   ·cases this
   ·split at this
    ·cases this
    ·exact ⟨by rcases hx:C6 l[k]!.Name with _ | _; exact absurd hx (by assumption); rfl,‹_›,‹_›⟩
 refine ⟨Tj fun k hk=>?_,fun e he=>?_,fun hc e he=>?_⟩
 ·have:=(hname (k+1) hk).2.2
  rw [Nat.add_sub_cancel] at this
  simpa using this
 ·obtain ⟨k,hk,rfl⟩:=List.mem_iff_getElem.1 he
  have:=(hname k hk).1
  rw [getElem!_pos l k hk] at this
  intro e0
  rw [e0] at this
  simp [C6] at this
 ·obtain ⟨k,hk,rfl⟩:=List.mem_iff_getElem.1 he
  have:=(hname k hk).2.1
  rw [getElem!_pos l k hk,hc] at this
  intro e0
  apply this
  rw [e0]
  exact ⟨rfl,by simp⟩
theorem JE (p:AC→Bool) (h:AC→AC) (hh : ∀ x,(h x).Name=x.Name) : ∀ (l o:List AC),As l→As o →
  As (l.foldl (fun o x=>if p x then BZ o (h x) else o) o) ∧ ∀ n,AY (l.foldl (fun o x=>if p x then BZ o (h x) else o) o) n=match AY l n with | some x=>if p x then some (h x) else AY o n | none=>AY o n
 | [],o,_,ho=>⟨ho,fun n=>rfl⟩
 | x :: l,o,hl,ho=>by
  have h1:=Ci.1 hl
  have ho':As (if p x then BZ o (h x) else o):=by split; exact LB _ ho; exact ho
  obtain ⟨i1,i2⟩:=JE p h hh l _ h1.2 ho'
  refine ⟨i1,fun n=>?_⟩
  rw [List.foldl_cons,i2 n,AY]
  by_cases hn:x.Name=n
  ·subst hn
   rw [if_pos rfl,Ep fun e he=>C9 (h1.1 e he)]
   cases hp:p x
   ·simp [hp]
   ·simp [hp,LZ,hh]
  ·rw [if_neg hn]
   cases hf:AY l n with
   | some z => 
    cases hp:p x
    ·simp [hp]
    ·simp [hp,LZ,hh,hn]
   | none=>
    cases hp:p x
    ·simp [hp]
    ·simp [hp,LZ,hh,hn]
theorem PB (p:AC→Bool) (h:AC→AC) (l o:List AC):(l.foldl (fun o x=>if p x then BZ o (h x) else o) o).length≤o.length+l.length:=by
 induction l generalizing o with
 | nil=>simp
 | cons x l ih=>
  rw [List.foldl_cons]
  have h1:=ih (if p x then BZ o (h x) else o)
  have h2:(if p x then BZ o (h x) else o).length≤o.length+1:=by split; exact Le _ _; omega
  simp only [List.length_cons]
  omega
def De (l o:List AC):List AC:=l.foldl (fun o x=>if (fun _=>true) x then BZ o (id x) else o) o
theorem LH {l o:List AC} (hl:As l) (ho:As o):As (De l o) ∧ ∀ n,AY (De l o) n=match AY l n with | some x=>some x | none=>AY o n:=by
 obtain ⟨h1,h2⟩:=JE (fun _=>true) id (fun _=>rfl) l o hl ho
 refine ⟨h1,fun n=>?_⟩
 unfold De
 rw [h2 n]
 cases AY l n <;> simp
theorem Nc (l o:List AC):(De l o).length≤o.length+l.length:=PB _ _ _ _
theorem PZ {f:(List AC × Int)→Option ((List AC × Int) ⊕ List AC)} (l o:List AC) (ho:As o) (hb:o.length+l.length≤1099511627776)
  (h1 : ∀ b (k:Nat),k<l.length→f (b,(k:Int))=(AH (Dv b l[k]!) fun o2=>AH (Ac .i64 ((k:Int)+1)) fun x=>some (.inl (o2,x)))) (h2 : ∀ b,f (b,(l.length:Int))=some (.inr b)):iter f (o,0)=some (De l o):=by
 unfold De
 refine PD l _ (fun b k=>As b∧b.length≤o.length+k) (fun b k hk ⟨i1,i2⟩=>?_) (fun b k hk ⟨i1,i2⟩=>?_) h2 o ⟨ho,by omega⟩
 ·have:=Le b l[k]!
  exact ⟨LB _ i1,by show (BZ b l[k]!).length≤_; omega⟩
 ·rw [h1 b k hk,N8 b _ i1 (by omega),AG,Ao (by omega)]; rfl
def DB (l:List AC):List AC:=l.filter fun a=>!decide (a.Value=[])
theorem QI {l:List AC} (h:As l):As (DB l) ∧ ∀ n,AY (DB l) n=(AY l n).filter fun a=>!decide (a.Value=[]):=by
 induction l with
 | nil=>exact ⟨List.Pairwise.nil,fun n=>rfl⟩
 | cons x l ih=>
  have h1:=Ci.1 h
  obtain ⟨i1,i2⟩:=ih h1.2
  have hlow : ∀ e∈DB l,Ae x.Name e.Name=true:=fun e he=>h1.1 e (List.mem_filter.1 he).1
  by_cases hv:x.Value=[]
  ·have:DB (x :: l)=DB l:=by simp [DB,hv]
   rw [this]
   refine ⟨i1,fun n=>?_⟩
   rw [AY]
   split
   ·rename_i hn; subst hn
    rw [Ep fun e he=>C9 (hlow e he)]
    simp [Option.filter,hv]
   ·exact i2 n
  ·have:DB (x :: l)=x :: DB l:=by simp [DB,hv]
   rw [this]
   refine ⟨Ci.2 ⟨hlow,i1⟩,fun n=>?_⟩
   rw [AY,AY]
   split
   ·simp [Option.filter,hv]
   ·exact i2 n
theorem TW (l ch:List AC) (hl:As l) (hc:As ch) (h:l.length+ch.length≤1099511627776):Hp l ch=some (DB (De ch (De l []))):=by
 unfold Hp
 have s0:As ([]:List AC):=List.Pairwise.nil
 have s1:=(LH hl s0).1
 have l1:=Nc l []
 have l2:=Nc ch (De l [])
 rw [PZ l [] s0 (by simp; omega) (fun b k hk=>by unfold IA; rw [if_pos (by simpa using hk),A3 hk]; rfl) (fun b=>by unfold IA; rw [if_neg (by simp)]),AG,
  PZ ch _ s1 (by simp at l1; omega) (fun b k hk=>by unfold Ix; rw [if_pos (by simpa using hk),A3 hk]; rfl) (fun b=>by unfold Ix; rw [if_neg (by simp)]),AG]
 generalize De ch (De l [])=r at l2
 rw [Sh r (fun o x=>if x.Value=[] then o else o++[x]) (fun b k=>b.length≤k) (fun b k hk hb=>by split; omega; simp; omega) (fun b k hk hb=>by
  unfold Io
  rw [if_pos (by simpa using hk),A3 hk,AG,Ao (by simp at l1; omega)]
  generalize r[k]! = x
  by_cases hv:x.Value=[]
  ·simp [hv]
  ·have:=FM (o:=b) (x:=x) (by simp at l1; omega)
   simp [hv,this]) (fun b=>by unfold Io; rw [if_neg (by simp)]) [] (by simp),AG]
 have : ∀ (m o:List AC),m.foldl (fun o x=>if x.Value=[] then o else o++[x]) o=o++DB m:=by
  intro m
  induction m with
  | nil=>intro o; simp [DB]
  | cons x m ih=>
   intro o
   rw [List.foldl_cons,ih]
   by_cases hv:x.Value=[]
   ·simp [hv,DB]
   ·simp [hv,DB]
 rw [this]; rfl
theorem Rs {l ch:List AC} (h1:A5 l false=0) (h2:A5 ch true=0):A6 Cz l ch []=DB (De ch (De l [])):=by
 obtain ⟨s1,n1,v1⟩:=Cy h1
 obtain ⟨s2,n2,_⟩:=Cy h2
 have s0:As ([]:List AC):=List.Pairwise.nil
 obtain ⟨i1,i2⟩:=LH s1 s0
 obtain ⟨j1,j2⟩:=LH s2 i1
 obtain ⟨k1,k2⟩:=QI j1
 obtain ⟨m1,m2⟩:=IW MD Lg s1 s2 n1 n2
 refine Kc m1 k1 fun n=>?_
 rw [m2,k2,j2,i2]
 cases hc:AY ch n with
 | some y=>
  simp only [Cp,Option.filter]
  by_cases hv:y.Value=[] <;> simp [hv]
 | none=>
  cases hl:AY l n with
  | some x=>simp [Cp,Option.filter,v1 rfl x (Fj hl).2]
  | none=>simp [Cp,AY,Option.filter]
theorem SX {ρ:Type} (g:AC→Option ρ) (l:List AC):(List.range l.length).findSome? (fun k=>g l[k]!)=l.findSome? g:=by
 induction l with
 | nil=>rfl
 | cons a l ih=>
  rw [List.length_cons,List.range_succ_eq_map,List.findSome?_cons,List.findSome?_map,List.findSome?_cons]
  have:(List.range l.length).findSome? ((fun k=>g (a :: l)[k]!) ∘ Nat.succ)=l.findSome? g:=by
   rw [← ih]; exact N2 fun k _=>by simp
  rw [this]
  simp
theorem SJ {ρ:Type} (l:List AC) (n:List UInt8) (v:AC→ρ):(l.findSome? fun x=>if x.Name=n then some (v x) else none)=(AY l n).map v:=by
 induction l with
 | nil=>rfl
 | cons x l ih=>
  rw [List.findSome?_cons,AY]
  by_cases h:x.Name=n
  ·simp [h]
  ·simp [h,ih]
theorem KT (l:List AC) (n:List UInt8):CQ l n=match AY l n with | some x=>x.Value | none=>[]:=by
 unfold CQ
 rw [SX (fun x=>if x.Name=n then some x.Value else none) l,SJ l n (·.Value)]
 cases AY l n <;> rfl
theorem ND {f:(List AC × Int)→Option ((List AC × Int) ⊕ List AC)} (p:AC→Bool) (h:AC→AC) (l o:List AC) (ho:As o) (hb:o.length+l.length≤1099511627776)
  (h1 : ∀ b (k:Nat),k<l.length→f (b,(k:Int))=(AH (if p l[k]! then Dv b (h l[k]!) else some b) fun o2=>AH (Ac .i64 ((k:Int)+1)) fun x=>some (.inl (o2,x)))) (h2 : ∀ b,f (b,(l.length:Int))=some (.inr b)) :
  iter f (o,0)=some (l.foldl (fun o x=>if p x then BZ o (h x) else o) o):=by
 refine PD l _ (fun b k=>As b∧b.length≤o.length+k) (fun b k hk ⟨i1,i2⟩=>?_) (fun b k hk ⟨i1,i2⟩=>?_) h2 o ⟨ho,by omega⟩
 ·have:=Le b (h l[k]!)
  refine ⟨?_,?_⟩
  ·show As (if p l[k]! then BZ b (h l[k]!) else b)
   split
   ·exact LB _ i1
   ·exact i1
  ·show (if p l[k]! then BZ b (h l[k]!) else b).length≤_
   split <;> omega
 ·rw [h1 b k hk,N8 b _ i1 (by omega),Ao (by omega)]
  cases p l[k]! <;> rfl
def KW (a b:List AC):List AC:=
 a.foldl (fun o x=>if (fun x:AC=>decide (CQ b x.Name=[])) x then BZ o ((fun x:AC=>AC.mk x.Name []) x) else o) (b.foldl (fun o x=>if (fun x:AC=>!decide (CQ a x.Name=x.Value)) x then BZ o (id x) else o) [])
theorem Us (a b:List AC) (ha:As a) (hb:As b) (h:a.length+b.length≤1099511627776):HS a b=some (KW a b):=by
 unfold HS KW
 have s0:As ([]:List AC):=List.Pairwise.nil
 rw [ND (fun x:AC=>!decide (CQ a x.Name=x.Value)) id b [] s0 (by simp; omega) (fun o k hk=>by
  unfold Hy
  rw [if_pos (by simpa using hk),A3 hk,AG,Mx a _ (by omega),AG]
  generalize b[k]! = x
  cases hc:decide (CQ a x.Name=x.Value)
  ·simp only [hc,Bool.not_false,if_true,id]
   cases Dv o x <;> rfl
  ·simp only [hc,Bool.not_true,Bool.false_eq_true,if_false]) (fun o=>by unfold Hy; rw [if_neg (by simp)]),AG]
 have l1:=PB (fun x:AC=>!decide (CQ a x.Name=x.Value)) id b []
 have s1:=(JE (fun x:AC=>!decide (CQ a x.Name=x.Value)) id (fun _=>rfl) b [] hb s0).1
 generalize b.foldl (fun o x=>if (fun x:AC=>!decide (CQ a x.Name=x.Value)) x then BZ o (id x) else o) []=o1 at l1 s1
 rw [ND (fun x:AC=>decide (CQ b x.Name=[])) (fun x:AC=>AC.mk x.Name []) a o1 s1 (by simp at l1; omega) (fun o k hk=>by
  unfold Ih
  rw [if_pos (by simpa using hk),A3 hk,AG,Mx b _ (by omega),AG]
  generalize a[k]! = x
  cases hc:decide (CQ b x.Name=[])
  ·simp only [hc,Bool.false_eq_true,if_false]
  ·simp only [hc,if_true]
   cases Dv o (AC.mk x.Name []) <;> rfl) (fun o=>by unfold Ih; rw [if_neg (by simp)]),AG]
theorem QT {a b:List AC} (ha:As a) (hb:As b) (na:Nm a) (nb:Nm b) (va : ∀ e∈a,e.Value≠[]) (vb : ∀ e∈b,e.Value≠[]):A6 Cm a b []=KW a b:=by
 have s0:As ([]:List AC):=List.Pairwise.nil
 obtain ⟨i1,i2⟩:=JE (fun x:AC=>!decide (CQ a x.Name=x.Value)) id (fun _=>rfl) b [] hb s0
 obtain ⟨j1,j2⟩:=JE (fun x:AC=>decide (CQ b x.Name=[])) (fun x:AC=>AC.mk x.Name []) (fun _=>rfl) a _ ha i1
 obtain ⟨m1,m2⟩:=IW LT Lw ha hb na nb
 refine Kc m1 j1 fun n=>?_
 unfold KW
 rw [m2,j2,i2]
 cases hfa:AY a n with
 | some x=>
  have hx:=Fj hfa
  cases hfb:AY b n with
  | some y=>
   have hy:=Fj hfb
   have e1:CQ b x.Name=y.Value:=by rw [KT,hx.1,hfb]
   have e2:CQ a y.Name=x.Value:=by rw [KT,hy.1,hfa]
   simp only [e1,e2,Em,decide_eq_false (vb y hy.2),Bool.false_eq_true,if_false]
   by_cases hv:x=y
   ·subst hv; simp [AY]
   ·have : ¬ x.Value=y.Value:=fun e=>hv ((JS x y).2 ⟨hx.1.trans hy.1.symm,e⟩)
    simp [hv,this]
  | none=>
   have e1:CQ b x.Name=[]:=by rw [KT,hx.1,hfb]
   simp [e1,Em]
 | none=>
  cases hfb:AY b n with
  | some y=>
   have hy:=Fj hfb
   have e2:CQ a y.Name=[]:=by rw [KT,hy.1,hfa]
   have:=vb y hy.2
   simp [e2,Em,Ne.symm this]
  | none=>simp [Em,AY]
theorem OW (stp:AC→AC→List AC→List AC) (h : ∀ x y o,(stp x y o).length≤o.length+1) : ∀ (m:Nat) (a b c:List AC),a.length+b.length=m→(A6 stp a b c).length≤c.length+m:=by
 intro m
 induction m using Nat.strongRecOn with
 | _ m ih=>
  intro a b c hm
  cases a with
  | nil=>
   cases b with
   | nil=>simp [A6]
   | cons y b=>rw [A6]; have:=ih (m-1) (by simp at hm; omega) [] b (stp Bm y c) (by simp at hm ⊢; omega); have:=h Bm y c; simp at hm; omega
  | cons x a=>
   cases b with
   | nil=>rw [A6]; have:=ih (m-1) (by simp at hm; omega) a [] (stp x Bm c) (by simp at hm ⊢; omega); have:=h x Bm c; simp at hm; omega
   | cons y b=>
    rw [A6]
    split
    ·have:=ih (m-1) (by simp at hm; omega) a (y :: b) (stp x Bm c) (by simp at hm ⊢; omega); have:=h x Bm c; simp at hm; omega
    ·split
     ·have:=ih (m-1) (by simp at hm; omega) (x :: a) b (stp Bm y c) (by simp at hm ⊢; omega); have:=h Bm y c; simp at hm; omega
     ·have:=ih (m-2) (by simp at hm; omega) a b (stp x y c) (by simp at hm ⊢; omega); have:=h x y c; simp at hm; omega
theorem TU {σ β:Type} {f:σ→Option (σ ⊕ β)} (n:Nat) (R:Nat→σ→Prop) (Q:β→Prop)
  (h1 : ∀ k s,k<n→R k s→(∃ s',f s=some (.inl s')∧R (k+1) s')∨(∃ b,f s=some (.inr b)∧Q b))
  (h2 : ∀ s,R n s → ∃ b,f s=some (.inr b)∧Q b) {s:σ} (h0:R 0 s) : ∃ b,iter f s=some b∧Q b:=by
 have key : ∀ m k s,k+m=n→R k s → ∃ b,iter f s=some b∧Q b:=by
  intro m
  induction m with
  | zero=>
   intro k s hk hR
   obtain rfl:k=n:=by omega
   obtain ⟨b,hb,hq⟩:=h2 s hR
   exact ⟨b,Au hb,hq⟩
  | succ m ih=>
   intro k s hk hR
   rcases h1 k s (by omega) hR with ⟨s',h3,h4⟩ | ⟨b,h3,h4⟩
   ·obtain ⟨b,h5,h6⟩:=ih (k+1) s' (by omega) h4
    exact ⟨b,by rw [Av h3,h5],h6⟩
   ·exact ⟨b,Au h3,h4⟩
 exact key n 0 s (by omega) h0
theorem U6 {α:Type} [Inhabited α] {l:List α} {k:Nat} (h:k<l.length):l.drop k=l[k]! :: l.drop (k+1):=by
 rw [List.drop_eq_getElem_cons h,getElem!_pos l k h]
theorem NK {α:Type} [Inhabited α] {l:List α} {k:Nat} (h:k<l.length):l.take (k+1)=l.take k++[l[k]!]:=by
 rw [List.take_add_one,List.getElem?_eq_getElem h,getElem!_pos l k h]; rfl
theorem Eb {α:Type} [Inhabited α] {l:List α} {k:Nat} (h:k<l.length):l[k]! ∈ l:=by
 rw [getElem!_pos l k h]; exact List.getElem_mem h
theorem Kn (x lo hi:Int):D4 x lo hi=some (decide (lo≤x) && decide (x≤hi)):=by
 unfold D4
 rfl
theorem Ld {α σ β γ:Type} [Inhabited α] {f:σ→Option (σ ⊕ β)} (l:List α) (mk:γ→Nat→σ) (sp:List α→γ→β) (I:Nat→γ→Prop)
  (h1 : ∀ k c,k<l.length→I k c→(∃ c',f (mk c k)=some (.inl (mk c' (k+1)))∧I (k+1) c'∧sp (l[k]! :: l.drop (k+1)) c=sp (l.drop (k+1)) c')∨f (mk c k)=some (.inr (sp (l[k]! :: l.drop (k+1)) c)))
  (h2 : ∀ c,I l.length c→f (mk c l.length)=some (.inr (sp [] c))) (c:γ) (h0:I 0 c) (s:σ) (hs:s=mk c 0):iter f s=some (sp l c):=by
 subst hs
 have key : ∀ m k c,k+m=l.length→I k c→iter f (mk c k)=some (sp (l.drop k) c):=by
  intro m
  induction m with
  | zero=>
   intro k c hk hI
   obtain rfl:k=l.length:=by omega
   rw [List.drop_length]
   exact Au (h2 c hI)
  | succ m ih=>
   intro k c hk hI
   rw [U6 (by omega)]
   rcases h1 k c (by omega) hI with ⟨c',h3,h4,h5⟩ | h3
   ·rw [Av h3,ih (k+1) c' (by omega) h4,h5]
   ·exact Au h3
 have:=key l.length 0 c (by omega) h0
 rwa [List.drop_zero] at this
theorem GC {o:List Int} {x:Int} (h:o.length+1≤1099511627776):app 8 o [x]=some (o++[x]):=by
 unfold app; rw [if_pos (by simp; omega)]
def FJ (c:UInt8):Bool:=decide (97≤c.toNat) && decide (c.toNat≤122)
def EH (s:List UInt8):Bool:=s.all FJ && decide (1≤s.length) && decide (s.length≤200) && !decide (s[s.length-1]!.toNat=97)
theorem TC (c:UInt8):((decide ((c.toNat:Int)<97)) || (decide (122<(c.toNat:Int)))) = !FJ c:=by
 unfold FJ
 rw [Bool.eq_iff_iff]
 simp only [Bool.or_eq_true,decide_eq_true_eq,Bool.not_eq_true',Bool.and_eq_false_imp,decide_eq_false_iff_not]
 omega
theorem Ni (s:List UInt8) (hm:s.length≤1048576):iter (fun (a:Int)=>Hm s a) 0=some (EZ (if s.all FJ then none else some false)):=by
 rw [Dw (n:=s.length) (fun k=>if FJ s[k]! then none else some false) (fun k hk=>by
  unfold Hm
  rw [if_pos (by simpa using hk),A3 hk,AG,Ao (by omega),TC]
  cases FJ s[k]! <;> rfl) (by unfold Hm; rw [if_neg (by simp)]),Jj]
theorem U2 (s:List UInt8) (hm:s.length≤1048576):iter (fun (a:Int)=>KN s a) 0=some (EZ (if s.all FJ then none else some false)):=Ni s hm
theorem M6 (c:UInt8):decide ((c.toNat:Int)=97)=decide (c.toNat=97):=by
 rw [Bool.eq_iff_iff]; simp only [decide_eq_true_eq]; omega
theorem RM (s:List UInt8) (hm:s.length≤1048576):JF s=some (EH s):=by
 unfold JF
 rw [Ni s hm]
 unfold EH
 by_cases h0:s=[]
 ·subst h0; rfl
 ·have hl:1≤s.length:=List.length_pos_iff.2 h0
  rw [decide_eq_false h0,Bool.false_or]
  by_cases h1:s.length≤200
  ·have e1:decide (200<(s.length:Int))=false:=by simp; omega
   rw [e1,show ((false == false)=true) from rfl,Ax,F3 hl (by omega),AG,Ax,A3 (by omega),AG,Bool.false_or,M6]
   rw [decide_eq_true hl,decide_eq_true h1]
   generalize s.all FJ=al
   cases decide (s[s.length-1]!.toNat=97) <;> cases al <;> rfl
  ·have e1:decide (200<(s.length:Int))=true:=by simp; omega
   rw [e1,show ((true == false)=false) from rfl,Az,AG,Az,AG,Bool.true_or,if_pos rfl,decide_eq_false h1]
   simp
theorem SS (s:List UInt8) (hm:s.length≤1048576):I5 s=some (EH s):=by
 unfold I5
 rw [U2 s hm]
 unfold EH
 generalize hal:s.all FJ=al
 cases al
 ·rfl
 ·rw [show (if true=true then (none:Option Bool) else some false)=none from rfl,show (EZ (none:Option Bool)) = .nrm () from rfl,GX]
  by_cases hl:1≤s.length
  ·by_cases h1:s.length≤200
   ·have e1:decide (1≤(s.length:Int))=true:=by simp; omega
    have e2:decide ((s.length:Int)≤200)=true:=by simp; omega
    rw [e1,e2,show ((true && true) == true)=true from rfl,Ax,F3 hl (by omega),AG,Ax,A3 (by omega),AG,M6,decide_eq_true hl,decide_eq_true h1]
    rfl
   ·have e2:decide ((s.length:Int)≤200)=false:=by simp; omega
    rw [e2,Bool.and_false,show (false == true)=false from rfl,Az,AG,Az,AG,decide_eq_false h1]
    simp
  ·have e1:decide (1≤(s.length:Int))=false:=by simp; omega
   rw [e1,Bool.false_and,show (false == true)=false from rfl,Az,AG,Az,AG,decide_eq_false hl]
   simp
def BJ (x:AD):Int:=
 if x.Kind≠0∧x.Kind≠1 then 8
 else if ¬ (((1≤x.Clock∧x.Clock≤1073741824)∧(0≤x.Site∧x.Site≤1000))∧(1≤x.Item∧x.Item≤1073741824)) then 2
 else if x.Kind=0 then (if x.Name≠[]∨x.Value≠[] then 4 else if ¬ (-1≤x.Parent∧x.Parent≤1073741824) then 2 else if EH x.Place then 0 else 9)
 else (if x.Parent≠0∨x.Place≠[] then 4 else if C6 x.Name then (if x.Value≠[]∧Ck x.Value=false then 23 else 0) else 9)
structure Mh (x:AD):Prop where
 place:x.Place.length≤1048576
 name:x.Name.length≤1048576
 value:x.Value.length≤1048576
theorem U5 (x:AD) (h:Mh x):JJ x=some (BJ x):=by
 unfold JJ BJ
 rw [RM _ h.place,Ug _ (by have:=h.name; omega),RT _ (by have:=h.value; omega)]
 obtain ⟨Clock,Site,Kind,Item,Parent,Place,Name,Value⟩:=x
 dsimp only
 by_cases hk:Kind≠0∧Kind≠1
 ·rw [if_pos hk,if_pos (by simp [hk.1,hk.2])]
 rw [if_neg hk,if_neg (by simpa using hk)]
 by_cases hr:((1≤Clock∧Clock≤1073741824)∧(0≤Site∧Site≤1000))∧(1≤Item∧Item≤1073741824)
 ·rw [if_neg (Classical.not_not.2 hr),if_neg (by simp only [Bool.or_eq_true,decide_eq_true_eq]; omega)]
  by_cases h0:Kind=0
  ·subst h0
   rw [if_pos rfl]
   by_cases hn:Name≠[]∨Value≠[]
   ·rw [if_pos hn,if_pos (by rcases hn with h | h <;> simp [h])]
    rcases hn with h | h <;> simp [h]
   ·have hn1:Name=[]:=Classical.byContradiction fun h=>hn (.inl h)
    have hn2:Value=[]:=Classical.byContradiction fun h=>hn (.inr h)
    subst hn1; subst hn2
    rw [if_neg hn]
    simp only [decide_true,Bool.not_true,Bool.or_self,Bool.and_false,Bool.false_eq_true,if_false,AG,show (decide ((0:Int)=1))=false from rfl,Bool.false_and,Bool.true_and,beq_self_eq_true,Ax]
    by_cases hp : -1≤Parent∧Parent≤1073741824
    ·rw [if_neg (Classical.not_not.2 hp),if_neg (by simp only [Bool.or_eq_true,decide_eq_true_eq]; omega)]
     cases EH Place <;> simp [Az]
    ·rw [if_pos hp,if_pos (by simp only [Bool.or_eq_true,decide_eq_true_eq]; omega)]
  ·have h1:Kind=1:=Classical.byContradiction fun h=>hk ⟨h0,h⟩
   subst h1
   rw [if_neg h0]
   simp only [show (decide ((1:Int)=0))=false from rfl,Bool.false_and,Bool.false_eq_true,if_false,AG,decide_true,Bool.true_and,show (false == true)=false from rfl,Az,beq_self_eq_true,Ax]
   by_cases hn:Parent≠0∨Place≠[]
   ·rw [if_pos hn,if_pos (by rcases hn with h | h <;> simp [h])]
   ·have hn1:Parent=0:=Classical.byContradiction fun h=>hn (.inl h)
    have hn2:Place=[]:=Classical.byContradiction fun h=>hn (.inr h)
    subst hn1; subst hn2
    rw [if_neg hn,if_neg (by simp)]
    cases C6 Name
    ·simp
    ·by_cases hv:Value=[]
     ·subst hv; simp [Az]
     ·simp [hv]
      cases Ck Value <;> rfl
 ·rw [if_pos hr,if_pos (by simp only [Bool.or_eq_true,decide_eq_true_eq]; omega)]
def Bn (a b:AD):Bool:=(decide (a.Clock<b.Clock)) || ((decide (a.Clock=b.Clock)) && (decide (a.Site<b.Site)))
theorem Sz (a b:AD):IG a b=some (Bn a b):=rfl
def HR (x y:Int):Int:=if x<y then -1 else if y<x then 1 else 0
theorem OG (x y:Int):Hg x y=some (HR x y):=by
 unfold Hg HR Ir
 simp only [decide_true,Bool.not_true,AG,Bool.false_eq_true,if_false,decide_eq_true_eq]
 split
 ·rfl
 ·split <;> rfl
theorem Sb (x y:Int):H9 [x,y]=some (if x≠0 then x else y):=by
 unfold H9
 rw [Dw (n:=2) (fun k=>if [x,y][k]! ≠ 0 then some [x,y][k]! else none) (fun k hk=>by
  unfold Ie
  rw [if_pos (by simp; omega),A3 (by simpa using hk),AG,Ao (by omega)]
  by_cases h:[x,y][k]! = 0
  ·rw [if_neg (by rw [h]; decide),if_neg (Classical.not_not.2 h)]; rfl
  ·rw [if_pos (by rw [decide_eq_false h]; rfl),if_pos h]; rfl) (by unfold Ie; rw [if_neg (by simp)])]
 by_cases hx:x=0
 ·by_cases hy:y=0
  ·subst hx; subst hy; rfl
  ·subst hx; simp [List.range_succ,hy,EZ]
 ·simp [List.range_succ,hx,EZ]
theorem Lc (a b:AD) : ∃ r,GZ a b=some r∧decide (r<0)=Bn a b∧decide (0≤r) = !Bn a b:=by
 unfold GZ
 rw [OG,OG,AG,AG,Sb,AG]
 refine ⟨_,rfl,?_⟩
 have key:(if HR a.Clock b.Clock≠0 then HR a.Clock b.Clock else HR a.Site b.Site)<0↔Bn a b=true:=by
  unfold Bn HR
  simp only [Bool.or_eq_true,Bool.and_eq_true,decide_eq_true_eq]
  by_cases h1:a.Clock<b.Clock
  ·simp [h1]
  ·by_cases h2:b.Clock<a.Clock
   ·simp [h1,h2]; omega
   ·by_cases h3:a.Site<b.Site
    ·simp [h1,h2,h3]; omega
    ·by_cases h4:b.Site<a.Site
     ·simp [h1,h2,h3,h4]
     ·simp [h1,h2,h3,h4]
 constructor
 ·rw [Bool.eq_iff_iff,decide_eq_true_eq]; exact key
 ·rw [Bool.eq_iff_iff,decide_eq_true_eq,Bool.not_eq_true',← Bool.not_eq_true,← key]; omega
def CT (l:List AD):Prop:=∀ x∈l,Mh x
def Da (l:List AD) (k:Nat):Option Int:=if BJ l[k]! ≠ 0 then some (BJ l[k]!) else if 0<k∧Bn l[k-1]! l[k]! = false then some 5 else none
def BP (l:List AD):Int:=((List.range l.length).findSome? (Da l)).getD 0
theorem Ex (l:List AD) (h:CT l) (hm:l.length≤1048576):GP l=some (BP l):=by
 unfold GP
 rw [Dw (n:=l.length) (Da l) (fun k hk=>by
  unfold IE Da
  rw [if_pos (by simpa using hk),A3 hk,AG,U5 _ (h _ (Eb hk)),AG,Ao (by omega)]
  by_cases he:BJ l[k]! = 0
  ·rw [if_neg (by rw [he]; decide),if_neg (Classical.not_not.2 he)]
   by_cases hk0:k=0
   ·subst hk0; rfl
   ·have h0:decide ((0:Int)<(k:Int))=true:=by simp; omega
    obtain ⟨r,e1,_,e2⟩:=Lc l[k-1]! l[k]!
    rw [h0,show ((true == true)=true) from rfl,Ax,F3 (by omega) (by omega),AG,Ax,A3 (by omega),AG,Ax,e1,AG,e2,Bool.true_and]
    cases he:Bn l[k-1]! l[k]!
    ·rw [if_pos (by decide),if_pos ⟨by omega,rfl⟩]; rfl
    ·rw [if_neg (by simp),if_neg (by simp)]; rfl
  ·rw [if_pos (by rw [decide_eq_false he]; rfl),if_pos he]; rfl) (by unfold IE; rw [if_neg (by simp)]),Oq]
 rfl
theorem E6 (l:List AD) (h:CT l) (hm:l.length≤1048576):GF l=some (BP l):=by
 unfold GF
 rw [Dw (n:=l.length) (Da l) (fun k hk=>by
  unfold Hu Da
  have hok:=h _ (Eb hk)
  rw [if_pos (by simpa using hk),A3 hk,AG]
  have hlast:(AH (gd ((decide ((0:Int)<(k:Int))) == true) (Ac .i64 ((k:Int)-1))) fun (x5:Int)=>AH (gd ((decide ((0:Int)<(k:Int))) == true) (AN l x5)) fun (x6:AD)=>
    AH (gd ((decide ((0:Int)<(k:Int))) == true) (IG x6 l[k]!)) fun (r4:Bool)=>if ((decide ((0:Int)<(k:Int))) && (!r4)) then (some (.inr (.ext 5))) else (AH (Ac .i64 ((k:Int)+1)) fun (x7:Int)=>some (.inl x7))) =
    Dp (ρ:=Int) k (if 0<k∧Bn l[k-1]! l[k]! = false then some 5 else none):=by
   rw [Ao (by omega)]
   by_cases hk0:k=0
   ·subst hk0; rfl
   ·have h0:decide ((0:Int)<(k:Int))=true:=by simp; omega
    rw [h0,show ((true == true)=true) from rfl,Ax,F3 (by omega) (by omega),AG,Ax,A3 (by omega),AG,Ax,Sz,AG,Bool.true_and]
    cases he:Bn l[k-1]! l[k]!
    ·rw [if_pos (by decide),if_pos ⟨by omega,rfl⟩]; rfl
    ·rw [if_neg (by simp),if_neg (by simp)]; rfl
  rw [Kn,Kn,Kn,Kn,SS _ hok.place,RB _ (by have:=hok.name; omega),QJ _ (by have:=hok.value; omega)]
  unfold BJ
  generalize l[k]! = x at hlast ⊢
  by_cases hkd:x.Kind≠0∧x.Kind≠1
  ·rw [if_pos hkd,if_pos (by simp [hkd.1,hkd.2]),if_pos (by decide)]; rfl
  rw [if_neg hkd,if_neg (by simpa using hkd)]
  by_cases hr:((1≤x.Clock∧x.Clock≤1073741824)∧(0≤x.Site∧x.Site≤1000))∧(1≤x.Item∧x.Item≤1073741824)
  ·have e1:(decide (1≤x.Clock) && decide (x.Clock≤1073741824))=true:=by simp [hr.1.1]
   have e2:(decide (0≤x.Site) && decide (x.Site≤1000))=true:=by simp [hr.1.2]
   have e3:(decide (1≤x.Item) && decide (x.Item≤1073741824))=true:=by simp [hr.2]
   rw [e1,e2,e3,if_neg (Classical.not_not.2 hr)]
   simp only [Bool.not_true,beq_self_eq_true,Ax,AG,Bool.or_self,Bool.false_eq_true,if_false]
   by_cases h0:x.Kind=0
   ·rw [if_pos h0,if_pos (by simp [h0])]
    by_cases hn:x.Name≠[]∨x.Value≠[]
    ·rw [if_pos hn,if_pos (by rcases hn with h | h <;> simp [h]),DG,if_pos (by decide)]; rfl
    ·rw [if_neg hn,if_neg (by simpa using hn)]
     by_cases hp : -1≤x.Parent∧x.Parent≤1073741824
     ·have e4:(decide (-1≤x.Parent) && decide (x.Parent≤1073741824))=true:=by simp [hp]
      rw [if_neg (Classical.not_not.2 hp),e4,if_neg (by simp)]
      cases EH x.Place
      ·rw [if_pos (by decide),DG,if_pos (by decide)]; rfl
      ·rw [if_neg (by simp),GX,if_pos rfl,if_neg (by simp)]; exact hlast
     ·have e4:(decide (-1≤x.Parent) && decide (x.Parent≤1073741824))=false:=by rw [← Bool.not_eq_true]; simpa using hp
      rw [if_pos hp,e4,if_pos (by decide),DG,if_pos (by decide)]; rfl
   ·rw [if_neg h0,if_neg (by simp [h0])]
    by_cases hn:x.Parent≠0∨x.Place≠[]
    ·rw [if_pos hn,if_pos (by rcases hn with h | h <;> simp [h]),DG,if_pos (by decide)]; rfl
    ·rw [if_neg hn,if_neg (by simpa using hn)]
     cases C6 x.Name
     ·rw [if_pos (by decide),DG,if_pos (by simp)]; rfl
     ·rw [if_neg (by simp),if_pos rfl]
      by_cases hv:x.Value=[]
      ·rw [if_neg (c:=x.Value≠[]∧_) (by simp [hv])]
       simp only [hv,decide_true,Bool.not_true,show (false == true)=false from rfl,Az,AG,Bool.false_and,Bool.false_eq_true,if_false,GX]
       rw [if_neg (by simp)]; exact hlast
      ·simp only [decide_eq_false hv,Bool.not_false,beq_self_eq_true,Ax,AG,Bool.true_and]
       cases Ck x.Value
       ·rw [if_pos (by decide),DG,if_pos (c:=x.Value≠[]∧_) ⟨hv,rfl⟩,if_pos (by decide)]; rfl
       ·rw [if_neg (by simp),GX,if_neg (c:=x.Value≠[]∧_) (by simp),if_neg (by simp)]; exact hlast
  ·rw [if_pos hr]
   by_cases g1:1≤x.Clock∧x.Clock≤1073741824
   ·have e1:(decide (1≤x.Clock) && decide (x.Clock≤1073741824))=true:=by simp [g1]
    by_cases g2:0≤x.Site∧x.Site≤1000
    ·have e2:(decide (0≤x.Site) && decide (x.Site≤1000))=true:=by simp [g2]
     have e3:(decide (1≤x.Item) && decide (x.Item≤1073741824))=false:=by
      rw [← Bool.not_eq_true]; simp only [Bool.and_eq_true,decide_eq_true_eq]; exact fun g3=>hr ⟨⟨g1,g2⟩,g3⟩
     rw [e1,e2,e3,if_pos (show (2:Int)≠0 by decide)]; rfl
    ·have e2:(decide (0≤x.Site) && decide (x.Site≤1000))=false:=by
      rw [← Bool.not_eq_true]; simp only [Bool.and_eq_true,decide_eq_true_eq]; exact g2
     rw [e1,e2,if_pos (show (2:Int)≠0 by decide)]; rfl
   ·have e1:(decide (1≤x.Clock) && decide (x.Clock≤1073741824))=false:=by
     rw [← Bool.not_eq_true]; simp only [Bool.and_eq_true,decide_eq_true_eq]; exact g1
    rw [e1,if_pos (show (2:Int)≠0 by decide)]; rfl) (by unfold Hu; rw [if_neg (by simp)]),Oq]
 rfl
def VA (ch:Bool) (e:AC):Prop:=C6 e.Name=true∧(Ck e.Value=true∨(ch=true∧e.Value=[]))
theorem FT (l:List AC) (ch:Bool):A5 l ch=0↔As l ∧ ∀ e∈l,VA ch e:=by
 constructor
 ·intro h
  refine ⟨(Cy h).1,fun e he=>?_⟩
  obtain ⟨k,hk,rfl⟩:=List.mem_iff_getElem.1 he
  have hn:EC l ch k=none:=by
   unfold A5 at h
   cases hf:(List.range l.length).findSome? (EC l ch) with
   | none=>exact (O5 _ _).1 hf k hk
   | some r=>
    rw [hf] at h
    obtain ⟨j,_,hj⟩:=List.exists_of_findSome?_eq_some hf
    exfalso
    unfold EC at hj
    simp only [Option.getD_some] at h
    subst h
    repeat' split at hj
    all_goals simp at hj
  unfold EC at hn
  rw [getElem!_pos l k hk] at hn
  generalize l[k]=x at hn ⊢
  unfold VA
  by_cases c1:C6 x.Name=false
  ·rw [if_pos c1] at hn; cases hn
  ·rw [if_neg c1] at hn
   by_cases c2:Ck x.Value=false ∧ ¬ (ch=true∧x.Value=[])
   ·rw [if_pos c2] at hn; cases hn
   ·refine ⟨by simpa using c1,?_⟩
    by_cases c3:Ck x.Value=true
    ·exact .inl c3
    ·exact .inr (Classical.byContradiction fun h3=>c2 ⟨by simpa using c3,h3⟩)
 ·rintro ⟨hs,hv⟩
  unfold A5
  have:(List.range l.length).findSome? (EC l ch)=none:=by
   rw [List.findSome?_eq_none_iff]
   intro k hk
   have hk:=List.mem_range.1 hk
   have h1:=hv _ (Eb hk)
   unfold EC
   unfold VA at h1
   rw [if_neg (by rw [h1.1]; simp),if_neg (by rintro ⟨a1,a2⟩; rcases h1.2 with h2 | h2; rw [a1] at h2; cases h2; exact a2 h2),if_neg]
   rintro ⟨h0,h2⟩
   have:=List.pairwise_iff_getElem.1 hs (k-1) k (by omega) hk (by omega)
   rw [getElem!_pos l k hk,getElem!_pos l (k-1) (by omega)] at h2
   rw [this] at h2; cases h2
  rw [this]; rfl
theorem OK : ∀ {l:List AC},As l → ∀ e∈l,AY l e.Name=some e
 | [],_,e,h=>by simp at h
 | x :: l,hs,e,h=>by
  obtain ⟨h1,h2⟩:=Ci.1 hs
  rcases List.mem_cons.1 h with rfl | h
  ·unfold AY; rw [if_pos rfl]
  ·have:=C9 (h1 e h)
   unfold AY; rw [if_neg (Ne.symm this)]
   exact OK h2 e h
theorem O8 {stp:AC→AC→List AC→List AC} {g:AC→AC→List AC} {G:Option AC→Option AC→Option AC} (h : ∀ x y o,stp x y o=o++g x y) (hg:Ia g G) {a b:List AC} {ca cb ch:Bool}
  (ha:A5 a ca=0) (hb:A5 b cb=0) (hG : ∀ x y e,(∀ z,x=some z→VA ca z)→(∀ z,y=some z→VA cb z)→G x y=some e→VA ch e):A5 (A6 stp a b []) ch=0:=by
 obtain ⟨s1,v1⟩:=(FT a ca).1 ha
 obtain ⟨s2,v2⟩:=(FT b cb).1 hb
 obtain ⟨k1,k2⟩:=IW h hg s1 s2 (Cy ha).2.1 (Cy hb).2.1
 refine (FT _ _).2 ⟨k1,fun e he=>?_⟩
 have h1:=OK k1 e he
 rw [k2] at h1
 exact hG _ _ e (fun z hz=>v1 z (Fj hz).2) (fun z hz=>v2 z (Fj hz).2) h1
theorem VA.up {e:AC} {c:Bool} (h:VA false e):VA c e:=⟨h.1,.inl (by rcases h.2 with h | h; exact h; exact absurd h.1 (by decide))⟩
theorem VH {a b:List AC} (ha:A5 a false=0) (hb:A5 b true=0):A5 (A6 Cz a b []) false=0:=
 O8 MD Lg ha hb fun x y e hx hy h=>by
  unfold Cp at h
  split at h
  ·exact hx e h
  ·split at h
   ·cases h
   ·rename_i hv
    cases h
    have:=hy e rfl
    exact ⟨this.1,.inl (by rcases this.2 with h2 | h2; exact h2; exact absurd h2.2 hv)⟩
theorem Qz {a:AC} (hn:C6 a.Name=true) (hv:a.Value=[]∨Ck a.Value=true):A5 [a] true=0:=by
 refine (FT _ _).2 ⟨by unfold As; simp,fun e he=>?_⟩
 obtain rfl:=List.mem_singleton.1 he
 exact ⟨hn,hv.elim (fun h=>.inr ⟨rfl,h⟩) .inl⟩
def Bd (l:List AC) (a:AC):List AC:=A6 Cz l [a] []
theorem JU (l:List AC) (a:AC):(Bd l a).length≤l.length+1:=by
 have:=OW Cz Pk _ l [a] [] rfl
 simpa [Bd] using this
theorem MB {l:List AC} {a:AC} (hl:A5 l false=0) (ha:A5 [a] true=0):A5 (Bd l a) false=0:=VH hl ha
theorem Nd {l:List AC} {a:AC} (h:l.length≤1048576):HP l [a]=some (Bd l a):=VK _ _ (by simp; omega)
theorem Jb {l:List AC} {a:AC} (hl:A5 l false=0) (ha:A5 [a] true=0) (h:l.length≤1048576):Hp l [a]=some (Bd l a):=by
 rw [TW l [a] (Cy hl).1 (Cy ha).1 (by simp; omega),← Rs hl ha]; rfl
theorem IO:A5 [] false=0:=by decide
def AJ (l:List AB):List (Int × AB):=l.map fun x=>(x.Item,x)
def AO (l:List AB):List (Int × List AC):=l.map fun x=>(x.Item,x.Attrs)
theorem HU (l:List AB) (k:Int):Ab (AO l) k=Ab (AJ l) k:=by
 induction l with
 | nil=>rfl
 | cons x r ih=>show (if k=x.Item then some 0 else (Ab (AO r) k).map (· + 1))=(if k=x.Item then some 0 else (Ab (AJ r) k).map (· + 1)); rw [ih]
theorem Cu {l:List AB} {k:Int} {j:Nat} (h:Ab (AJ l) k=some j) : ∃ hj:j<l.length,l[j].Item=k:=by
 obtain ⟨v,h1,_⟩:=CW h
 unfold AJ at h1
 rw [List.getElem?_map,Option.map_eq_some_iff] at h1
 obtain ⟨x,h2,h3⟩:=h1
 obtain ⟨hj,rfl⟩:=List.getElem?_eq_some_iff.1 h2
 simp only [Prod.mk.injEq] at h3
 exact ⟨hj,h3.1⟩
theorem Fm {l:List AB} {k:Int} (h:Ab (AJ l) k=none) : ∀ x∈l,x.Item≠k:=by
 induction l with
 | nil=>intro x hx; cases hx
 | cons y r ih=>
  unfold AJ at h
  rw [List.map_cons] at h
  unfold Ab at h
  split at h
  ·cases h
  ·rename_i hk
   have h2:Ab (AJ r) k=none:=by
    cases hr:Ab (AJ r) k with
    | none=>rfl
    | some j=>unfold AJ at hr; rw [hr] at h; cases h
   intro x hx
   rcases List.mem_cons.1 hx with rfl | hx
   ·exact fun e=>hk e.symm
   ·exact ih h2 x hx
theorem HY {l:List AB} {k:Int} : AK (AJ l) k=(Ab (AJ l) k).bind fun j=>l[j]?:=by
 cases h:Ab (AJ l) k with
 | none=>exact (Cd h).1
 | some j=>
  obtain ⟨v,h1,h2,_⟩:=CW h
  unfold AJ at h1
  rw [List.getElem?_map,Option.map_eq_some_iff] at h1
  obtain ⟨x,h3,h4⟩:=h1
  simp only [Prod.mk.injEq] at h4
  rw [h2,Option.bind_some,h3,h4.2]
def JY (key:Int) (l:List AB) (c:Nat):Ay Unit Int:=match Ab (AJ l) key with | some j=>.ext ((c+j:Nat):Int) | none=>.nrm ()
def Bf (l:List AB) (k:Int):Int:=match Ab (AJ l) k with | some j=>(j:Int) | none=>-1
theorem Cv (l:List AB) (k:Int) (hm:l.length≤1048577):CN l k=some (Bf l k):=by
 unfold CN
 have h:=Ld (f:=fun (a:Int)=>FC l k a) l (fun (_:Nat) i=>(i:Int)) (fun r c=>JY k r c) (fun i c=>c=i)
  (fun i c hi hc=>by
   subst hc
   show (∃ c',FC l k (c:Int)=_∧_)∨FC l k (c:Int)=_
   unfold FC
   rw [if_pos (by simpa using hi),A3 hi,AG,Ao (by omega)]
   by_cases he:l[c]!.Item=k
   ·right
    rw [if_pos (by simpa using he)]
    unfold JY AJ
    rw [List.map_cons]
    unfold Ab
    rw [if_pos he.symm]; rfl
   ·left
    refine ⟨c+1,by rw [if_neg (by simpa using he)]; rfl,rfl,?_⟩
    unfold JY AJ
    rw [List.map_cons]
    conv=>lhs; unfold Ab
    rw [if_neg (fun e=>he e.symm)]
    cases Ab ((l.drop (c+1)).map fun x=>(x.Item,x)) k with
    | none=>rfl
    | some j=>simp only [Option.map_some]; congr 2; omega)
  (fun c hc=>by
   subst hc
   show FC l k (l.length:Int)=_
   unfold FC
   rw [if_neg (by simp)]; rfl) 0 rfl 0 rfl
 rw [h]
 unfold JY Bf
 cases Ab (AJ l) k with
 | none=>rfl
 | some j=>simp
inductive Ap (items:List AB) (top:Int):Int→Prop
 | self:Ap items top top
 | step {x:AB} (hx:x∈items) (h:Ap items top x.Parent):Ap items top x.Item
theorem Ap.inv {items:List AB} {top y:Int} (h:Ap items top y):y=top ∨ ∃ x∈items,x.Item=y∧Ap items top x.Parent:=by
 cases h with
 | self=>exact .inl rfl
 | step hx h=>exact .inr ⟨_,hx,rfl,h⟩
def Rk (items:List AB) (d:Int→Nat):Prop:=∀ x∈items,d x.Parent<d x.Item
def Uq (items:List AB):Prop:=(items.map (·.Item)).Nodup
theorem Uq.eq {items:List AB} (h:Uq items) {x y:AB} (hx:x∈items) (hy:y∈items) (e:x.Item=y.Item):x=y:=by
 unfold Uq at h
 induction items with
 | nil=>cases hx
 | cons a r ih=>
  rw [List.map_cons,List.nodup_cons] at h
  rcases List.mem_cons.1 hx with ex | hx1
  ·rcases List.mem_cons.1 hy with ey | hy1
   ·rw [ex,ey]
   ·exact (h.1 (List.mem_map.2 ⟨y,hy1,by rw [← ex]; exact e.symm⟩)).elim
  ·rcases List.mem_cons.1 hy with ey | hy1
   ·exact (h.1 (List.mem_map.2 ⟨x,hx1,by rw [← ey]; exact e⟩)).elim
   ·exact ih h.2 hx1 hy1
theorem Ap.up {items:List AB} (hu:Uq items) {top:Int} {x:AB} (hx:x∈items) (hne:x.Item≠top):Ap items top x.Item↔Ap items top x.Parent:=by
 constructor
 ·intro h
  rcases h.inv with e | ⟨z,hz,e,h2⟩
  ·exact absurd e hne
  ·rw [hu.eq hx hz e.symm]; exact h2
 ·exact Ap.step hx
open Classical in
theorem Sk {items:List AB} {d:Int→Nat} (hid : ∀ x∈items,1≤x.Item) (hu:Uq items) (hr:Rk items d) {top:Int} (ht:1≤top) (m2:List (Int × List AC)) :
  ∀ item:Int,JA (AJ items) m2 item top=some (decide (Ap items top item)):=by
 have key : ∀ (n:Nat) (item:Int),d item≤n → ∃ c,iter (fun (a:Int)=>EU (AJ items) top a) item=some c∧A0 (some c) (fun (_:Unit)=>some false)=some (decide (Ap items top item)):=by
  intro n
  induction n with
  | zero=>
   intro item hd
   by_cases h0:0<item
   ·by_cases h1:item=top
    ·subst h1
     refine ⟨.ext true,Au (by unfold EU; rw [if_pos (by simpa using h0),if_pos (by simp)]),?_⟩
     rw [DG,decide_eq_true (Ap.self)]
    ·cases hk:Ab (AJ items) item with
     | none=>
      have hn:=Fm hk
      refine ⟨.ext false,Au (by unfold EU; rw [if_pos (by simpa using h0),if_neg (by simpa using h1),(Cd hk).1]; rfl),?_⟩
      rw [DG,decide_eq_false]
      intro hb
      rcases hb.inv with e | ⟨x,hx,e,_⟩
      ·exact h1 e
      ·exact hn x hx e
     | some j=>
      obtain ⟨hj,e⟩:=Cu hk
      have:=hr _ (List.getElem_mem hj)
      rw [e] at this
      omega
   ·refine ⟨.nrm (),Au (by unfold EU; rw [if_neg (by simpa using h0)]),?_⟩
    rw [GX,decide_eq_false]
    intro hb
    rcases hb.inv with e | ⟨x,hx,e,_⟩
    ·omega
    ·have:=hid x hx; omega
  | succ n ih=>
   intro item hd
   by_cases h0:0<item
   ·by_cases h1:item=top
    ·subst h1
     refine ⟨.ext true,Au (by unfold EU; rw [if_pos (by simpa using h0),if_pos (by simp)]),?_⟩
     rw [DG,decide_eq_true (Ap.self)]
    ·cases hk:Ab (AJ items) item with
     | none=>
      have hn:=Fm hk
      refine ⟨.ext false,Au (by unfold EU; rw [if_pos (by simpa using h0),if_neg (by simpa using h1),(Cd hk).1]; rfl),?_⟩
      rw [DG,decide_eq_false]
      intro hb
      rcases hb.inv with e | ⟨x,hx,e,_⟩
      ·exact h1 e
      ·exact hn x hx e
     | some j=>
      obtain ⟨hj,e⟩:=Cu hk
      have hmem:=List.getElem_mem hj
      have hlt:=hr _ hmem
      rw [e] at hlt
      obtain ⟨c,h2,h3⟩:=ih items[j].Parent (by omega)
      refine ⟨c,?_,?_⟩
      ·rw [Av (s':=items[j].Parent) (by
        unfold EU
        rw [if_pos (by simpa using h0),if_neg (by simpa using h1),HY,hk,Option.bind_some,List.getElem?_eq_getElem hj]
        rfl)]
       exact h2
      ·rw [h3]
       congr 1
       rw [decide_eq_decide,← Ap.up hu hmem (by rw [e]; exact h1),e]
   ·refine ⟨.nrm (),Au (by unfold EU; rw [if_neg (by simpa using h0)]),?_⟩
    rw [GX,decide_eq_false]
    intro hb
    rcases hb.inv with e | ⟨x,hx,e,_⟩
    ·omega
    ·have:=hid x hx; omega
 intro item
 obtain ⟨c,h1,h2⟩:=key _ item (Nat.le_refl _)
 unfold JA
 rw [h1]; exact h2
theorem Nw {α:Type} {p q:α→Bool} {l:List α} (h : ∀ x∈l,p x=true→q x=true) {z:α} (hz:z∈l) (h1:q z=true) (h2:p z=false):l.countP p<l.countP q:=by
 induction l with
 | nil=>cases hz
 | cons a r ih=>
  have hr:r.countP p≤r.countP q:=List.countP_mono_left fun x hx=>h x (List.mem_cons_of_mem _ hx)
  rw [List.countP_cons,List.countP_cons]
  rcases List.mem_cons.1 hz with rfl | hz
  ·rw [h1,h2]; simp; omega
  ·have:=ih (fun x hx=>h x (List.mem_cons_of_mem _ hx)) hz
   have ha:=h a (List.mem_cons_self ..)
   cases hp:p a
   ·simp; split <;> omega
   ·rw [ha hp]; simp; omega
open Classical in
theorem NW {items:List AB} {d:Int→Nat} (hu:Uq items) (hr:Rk items d) (hm:items.length≤1048576) (top item:Int):GN items item top=some (decide (Ap items top item)):=by
 let r:Int→Nat:=fun y=>items.countP fun z=>decide (d z.Item<d y)
 have hlen : ∀ x∈items,r x.Item+1≤items.length:=fun x hx=>by
  have:=Nw (p:=fun z=>decide (d z.Item<d x.Item)) (q:=fun _=>true) (l:=items) (fun _ _ _=>rfl) hx rfl (by simp)
  rw [List.countP_true] at this
  exact this
 have hstep : ∀ x∈items,∀ y∈items,y.Item=x.Parent→r y.Item+1≤r x.Item:=fun x hx y hy e=>by
  have h1:=hr x hx
  exact Nw (p:=fun z=>decide (d z.Item<d y.Item)) (q:=fun z=>decide (d z.Item<d x.Item)) (fun z _ hz=>by simp at hz ⊢; rw [e] at hz; omega) hy (by simp; rw [e]; exact h1) (by simp)
 have key : ∀ (m:Nat) (item:Int) (i:Nat),i+m=items.length+1→1≤m→(∀ x∈items,x.Item=item→r item+2≤m) →
   ∃ c,iter (fun (a:Int × Int)=>EE items top ((items.length+1:Nat):Int) a.1 a.2) (item,(i:Int))=some c∧A0 (some c) (fun (_:Unit)=>some false)=some (decide (Ap items top item)):=by
  intro m
  induction m with
  | zero=>intro item i _ h; omega
  | succ m ih=>
   intro item i hi _ hn
   have hlt:decide ((i:Int)<((items.length+1:Nat):Int))=true:=by simp; omega
   by_cases h1:item=top
   ·subst h1
    refine ⟨.ext true,Au (by show EE items item _ item (i:Int)=_; unfold EE; rw [if_pos hlt,if_pos (by simp)]),?_⟩
    rw [DG,decide_eq_true (Ap.self)]
   ·cases hk:Ab (AJ items) item with
    | none=>
     have hno:=Fm hk
     refine ⟨.ext false,Au (by
      show EE items top _ item (i:Int)=_
      unfold EE
      rw [if_pos hlt,if_neg (by simpa using h1),Cv _ _ (by omega),AG]
      unfold Bf
      rw [hk]; rfl),?_⟩
     rw [DG,decide_eq_false]
     intro hb
     rcases hb.inv with e | ⟨x,hx,e,_⟩
     ·exact h1 e
     ·exact hno x hx e
    | some j=>
     obtain ⟨hj,e⟩:=Cu hk
     have hmem:=List.getElem_mem hj
     have hnd:=hn _ hmem e
     obtain ⟨c,h2,h3⟩:=ih items[j].Parent (i+1) (by omega) (by omega) (fun x hx ex=>by
      have:=hstep _ hmem x hx ex
      rw [e] at this
      rw [← ex]; omega)
     refine ⟨c,?_,?_⟩
     ·rw [Av (s':=(items[j].Parent,((i+1:Nat):Int))) (by
       show EE items top _ item (i:Int)=_
       unfold EE
       rw [if_pos hlt,if_neg (by simpa using h1),Cv _ _ (by omega),AG]
       unfold Bf
       rw [hk]
       simp only
       rw [if_neg (by simp),BO hj,AG,Ao (by omega),AG])]
      exact h2
     ·rw [h3]
      congr 1
      rw [decide_eq_decide,← Ap.up hu hmem (by rw [e]; exact h1),e]
 unfold GN
 rw [Ao (by omega),AG]
 obtain ⟨c,h1,h2⟩:=key (items.length+1) item 0 (by omega) (by omega) (fun x hx e=>by have:=hlen x hx; rw [e] at this; omega)
 have h1':iter (fun (a:Int × Int)=>EE items top ((items.length+1:Nat):Int) a.1 a.2) (item,0)=some c:=h1
 rw [h1']; exact h2
def upd (l:List AB) (n:AB):List AB:=match Ab (AJ l) n.Item with | some j=>l.set j n | none=>l++[n]
theorem PY (l:List AB) (n:AB):Aw (AJ l) n.Item n=AJ (upd l n):=by
 unfold upd
 cases h:Ab (AJ l) n.Item with
 | none=>rw [(Cd h).2]; simp [AJ]
 | some j=>
  obtain ⟨v,_,_,h3⟩:=CW h
  rw [h3]; simp [AJ,List.map_set]
theorem L4 (l:List AB) (n:AB):Aw (AO l) n.Item n.Attrs=AO (upd l n):=by
 unfold upd
 have hk:=HU l n.Item
 cases h:Ab (AJ l) n.Item with
 | none=>rw [h] at hk; rw [(Cd hk).2]; simp [AO]
 | some j=>
  rw [h] at hk
  obtain ⟨v,_,_,h3⟩:=CW hk
  rw [h3]; simp [AO,List.map_set]
theorem Lp (l:List AB) (n:AB):(upd l n).length≤l.length+1:=by
 unfold upd
 split <;> simp
theorem L1 {l:List AB} (h:Uq l) (n:AB):Uq (upd l n):=by
 unfold upd
 split
 ·rename_i j hk
  obtain ⟨hj,e⟩:=Cu hk
  unfold Uq at h ⊢
  rw [List.map_set,← e]
  have:(l.map (·.Item)).set j l[j].Item=l.map (·.Item):=by
   apply List.ext_getElem?
   intro i
   rw [List.getElem?_set]
   split
   ·rename_i hij; subst hij; simp [hj]
   ·rfl
  rw [this]; exact h
 ·rename_i hk
  have hn:=Fm hk
  unfold Uq at h ⊢
  rw [List.map_append,List.map_singleton,List.nodup_append]
  refine ⟨h,by simp,fun a ha b hb=>?_⟩
  rw [List.mem_singleton] at hb
  obtain ⟨x,hx,rfl⟩:=List.mem_map.1 ha
  rw [hb]; exact hn x hx
theorem Fc {l:List AB} (h:Uq l) {n z:AB} (hz:z∈upd l n):z=n∨(z∈l∧z.Item≠n.Item):=by
 unfold upd at hz
 split at hz
 ·rename_i j hk
  obtain ⟨hj,e⟩:=Cu hk
  obtain ⟨i,hi⟩:=List.mem_iff_getElem?.1 hz
  rw [List.getElem?_set] at hi
  split at hi
  ·cases hi; exact .inl rfl
  ·rename_i hij
   obtain ⟨hil,rfl⟩:=List.getElem?_eq_some_iff.1 hi
   refine .inr ⟨List.getElem_mem hil,fun e2=>hij ?_⟩
   unfold Uq at h
   rw [List.nodup_iff_pairwise_ne,List.pairwise_iff_getElem] at h
   rcases Nat.lt_trichotomy i j with hlt | heq | hlt
   ·exact (h i j (by simpa using hil) (by simpa using hj) hlt (by simp [e2,e])).elim
   ·exact heq.symm
   ·exact (h j i (by simpa using hj) (by simpa using hil) hlt (by simp [e2,e])).elim
 ·rename_i hk
  have hn:=Fm hk
  rcases List.mem_append.1 hz with h1 | h1
  ·exact .inr ⟨h1,hn z h1⟩
  ·exact .inl (List.mem_singleton.1 h1)
open Classical in
theorem QA {l:List AB} {d:Int→Nat} (hr:Rk l d) (hu:Uq l) {n:AB} (hb : ¬ Ap l n.Item n.Parent) : ∃ d',Rk (upd l n) d':=by
 refine ⟨fun y=>if Ap l n.Item y then d y+d n.Parent+1 else d y,fun z hz=>?_⟩
 simp only
 rcases Fc hu hz with rfl | ⟨hz1,hz2⟩
 ·rw [if_neg hb,if_pos Ap.self]; omega
 ·have h1:=hr z hz1
  have h2:=Ap.up hu hz1 hz2
  by_cases h3:Ap l n.Item z.Item
  ·rw [if_pos h3,if_pos (h2.1 h3)]; omega
  ·rw [if_neg h3,if_neg (fun h=>h3 (h2.2 h))]; exact h1
structure DI (k:Nat) (items attrs:List AB):Prop where
 uq:Uq items
 id : ∀ x∈items,1≤x.Item
 no : ∀ x∈items,x.Attrs=[]
 rk : ∃ d,Rk items d
 li:items.length≤k
 ua:Uq attrs
 la:attrs.length≤k
 ok : ∀ x∈attrs,A5 x.Attrs false=0∧x.Attrs.length≤k
 ia : ∀ x∈attrs,1≤x.Item∧x.Item≤1073741824
 mv : ∀ x∈items,x.Item≤1073741824∧(-1≤x.Parent∧x.Parent≤1073741824)∧EH x.Place=true
 sa:(attrs.map (·.Attrs.length)).sum≤k
theorem VB {l:List AB} {n:AB} (h:Ab (AJ l) n.Item=none):((upd l n).map (·.Attrs.length)).sum=(l.map (·.Attrs.length)).sum+n.Attrs.length:=by
 unfold upd
 rw [h]
 simp
theorem Tg : ∀ (l:List Nat) (j:Nat) (hj:j<l.length) (v:Nat),(l.set j v).sum+l[j]=l.sum+v:=by
 intro l
 induction l with
 | nil=>intro j hj; simp at hj
 | cons a r ih=>
  intro j hj v
  cases j with
  | zero=>simp; omega
  | succ j=>
   have:=ih j (by simpa using hj) v
   simp
   omega
theorem VJ {l:List AB} {n:AB} {j:Nat} (h:Ab (AJ l) n.Item=some j) (hj:j<l.length):((upd l n).map (·.Attrs.length)).sum+l[j].Attrs.length=(l.map (·.Attrs.length)).sum+n.Attrs.length:=by
 have:=Tg (l.map (·.Attrs.length)) j (by simpa using hj) n.Attrs.length
 unfold upd
 rw [h]
 simp only [List.map_set,List.getElem_map] at *
 exact this
theorem RH {o:AD} (h:BJ o=0) (h0:o.Kind=0):(-1≤o.Parent∧o.Parent≤1073741824)∧EH o.Place=true:=by
 unfold BJ at h
 split at h
 ·exact absurd h (by decide)
 split at h
 ·exact absurd h (by decide)
 try rw [if_pos h0] at h
 split at h
 ·exact absurd h (by decide)
 split at h
 ·exact absurd h (by decide)
 ·rename_i hp
  split at h
  ·rename_i hb; exact ⟨Classical.not_not.1 hp,hb⟩
  ·exact absurd h (by decide)
theorem LF {o:AD} (h:BJ o=0):(1≤o.Item∧o.Item≤1073741824)∧((o.Kind=0)∨(o.Kind=1∧A5 [⟨o.Name,o.Value⟩] true=0)):=by
 unfold BJ at h
 split at h
 ·exact absurd h (by decide)
 rename_i hk
 split at h
 ·exact absurd h (by decide)
 rename_i hr
 refine ⟨(Classical.not_not.1 hr).2,?_⟩
 split at h
 ·rename_i h0; exact .inl h0
 ·rename_i h0
  have h1:o.Kind=1:=Classical.byContradiction fun h=>hk ⟨h0,h⟩
  refine .inr ⟨h1,?_⟩
  split at h
  ·exact absurd h (by decide)
  ·split at h
   ·rename_i hn
    split at h
    ·exact absurd h (by decide)
    ·rename_i hv
     refine Qz hn ?_
     by_cases e:o.Value=[]
     ·exact .inl e
     ·right
      cases hv2:Ck o.Value
      ·exact absurd ⟨e,hv2⟩ hv
      ·rfl
   ·exact absurd h (by decide)
theorem Di {α:Type} {l m:List α} (h:l.length+m.length≤2097152):app 56 l m=some (l++m):=by
 unfold app
 rw [if_pos ⟨by omega,by omega⟩]
open Classical in
theorem JP {l:List AD} {k:Nat} {items attrs:List AB} (h:DI k items attrs) (hk:k<l.length) (hm:l.length≤1048576) (ho:BJ l[k]! = 0) :
  ∃ items' attrs',DI (k+1) items' attrs'∧Dd l (k:Int) (AJ items) (AO attrs)=some (.inl (((k+1:Nat):Int),AJ items',AO attrs')) ∧
   Bs l (k:Int) items attrs=some (.inl (((k+1:Nat):Int),items',attrs')):=by
 obtain ⟨hI,hkind⟩:=LF ho
 have hli:=h.li
 have hla:=h.la
 unfold Dd Bs
 rw [if_pos (by simpa using hk),if_pos (by simpa using hk),A3 hk,AG,AG,Ao (by omega)]
 generalize l[k]! = o at *
 rcases hkind with h0 | ⟨h1,ha⟩
 ·
  obtain ⟨d,hd⟩:=h.rk
  rw [if_neg (by rw [h0]; decide),if_neg (by rw [h0]; decide),Sk h.id h.uq hd hI.1,AG]
  have hcond : ∃ r2:Bool,gd (((decide (o.Parent=o.Item)) == false) && ((decide (0<o.Parent)) == true)) (GN items o.Parent o.Item)=some r2∧(((decide (o.Parent=o.Item)) || ((decide (0<o.Parent)) && r2))=decide (Ap items o.Item o.Parent)):=by
   rw [NW h.uq hd (by omega)]
   by_cases e1:o.Parent=o.Item
   ·refine ⟨default,by rw [decide_eq_true e1]; rfl,?_⟩
    rw [decide_eq_true e1,e1,decide_eq_true Ap.self]; rfl
   ·by_cases e2:0<o.Parent
    ·refine ⟨decide (Ap items o.Item o.Parent),by rw [decide_eq_false e1,decide_eq_true e2]; rfl,?_⟩
     rw [decide_eq_false e1,decide_eq_true e2]; simp
    ·refine ⟨default,by rw [decide_eq_false e1,decide_eq_false e2]; rfl,?_⟩
     rw [decide_eq_false e1,decide_eq_false e2,decide_eq_false]
     ·rfl
     ·intro hb
      rcases hb.inv with e | ⟨x,hx,e,_⟩
      ·exact e1 e
      ·have:=h.id x hx; omega
  obtain ⟨r2,e1,e2⟩:=hcond
  rw [e1,AG,e2]
  by_cases hb:Ap items o.Item o.Parent
  ·refine ⟨items,attrs,⟨h.uq,h.id,h.no,h.rk,by omega,h.ua,by omega,fun x hx=>⟨(h.ok x hx).1,by have:=(h.ok x hx).2; omega⟩,h.ia,h.mv,by have:=h.sa; omega⟩,?_,?_⟩
   ·rw [decide_eq_true hb,if_neg (by decide),A4]; rfl
   ·rw [decide_eq_true hb,if_pos rfl,A4]; rfl
  ·have hn:(⟨o.Item,o.Parent,o.Place,[]⟩:AB)=⟨o.Item,o.Parent,o.Place,[]⟩:=rfl
   generalize hnn:(⟨o.Item,o.Parent,o.Place,[]⟩:AB)=n at hn
   have hni:n.Item=o.Item:=by rw [← hnn]
   have hnp:n.Parent=o.Parent:=by rw [← hnn]
   refine ⟨upd items n,attrs,⟨L1 h.uq n,fun x hx=>?_,fun x hx=>?_,QA hd h.uq (by rw [hni,hnp]; exact hb),by have:=Lp items n; omega,h.ua,by omega,fun x hx=>⟨(h.ok x hx).1,by have:=(h.ok x hx).2; omega⟩,h.ia,fun x hx=>?_,by have:=h.sa; omega⟩,?_,?_⟩
   ·rcases Fc h.uq hx with rfl | ⟨hx1,_⟩
    ·rw [hni]; exact hI.1
    ·exact h.id x hx1
   ·rcases Fc h.uq hx with rfl | ⟨hx1,_⟩
    ·rw [← hnn]
    ·exact h.no x hx1
   ·rcases Fc h.uq hx with rfl | ⟨hx1,_⟩
    ·rw [← hnn]; exact ⟨hI.2,RH ho h0⟩
    ·exact h.mv x hx1
   ·rw [decide_eq_false hb,if_pos (by decide),A4,AG,← hni,PY]
   ·rw [decide_eq_false hb,if_neg (by decide),Cv _ _ (by omega),AG]
    unfold upd Bf
    rw [hni]
    cases hkx:Ab (AJ items) o.Item with
    | none=>
     simp only
     rw [if_pos (by decide),Di (by simp; omega),AG,A4,BO (by simp),AG,A4,AG,Int.toNat_natCast]
     simp
    | some j=>
     obtain ⟨hj,_⟩:=Cu hkx
     simp only
     rw [if_neg (by simp),A4,BO hj,AG,A4,AG,Int.toNat_natCast]
 ·
  rw [if_pos (by rw [h1]; decide),if_pos (by rw [h1]; decide),Cv _ _ (by omega),AG]
  unfold Bf
  have hkb:=HU attrs o.Item
  cases hkx:Ab (AJ attrs) o.Item with
  | none=>
   rw [hkx] at hkb
   simp only
   rw [(Cd hkb).1,Option.getD_none,Nd (by simp),AG,if_pos (by decide),Di (by simp; omega)]
   simp only [AG,A4]
   rw [BO (by simp)]
   simp only [AG,List.getElem_append_right (Nat.le_refl _),Nat.sub_self,List.getElem_cons_zero]
   rw [Jb IO ha (by simp)]
   simp only [AG,A4,Int.toNat_natCast]
   have e1:(attrs++[(⟨o.Item,0,[],[]⟩:AB)]).set attrs.length ⟨o.Item,0,[],Bd [] ⟨o.Name,o.Value⟩⟩=upd attrs ⟨o.Item,0,[],Bd [] ⟨o.Name,o.Value⟩⟩:=by
    unfold upd; rw [hkx]; simp
   rw [e1]
   refine ⟨items,upd attrs ⟨o.Item,0,[],Bd [] ⟨o.Name,o.Value⟩⟩,⟨h.uq,h.id,h.no,h.rk,by omega,L1 h.ua _,by have:=Lp attrs ⟨o.Item,0,[],Bd [] ⟨o.Name,o.Value⟩⟩; omega,fun x hx=>?_,fun x hx=>?_,h.mv,?_⟩,?_,rfl⟩
   ·rcases Fc h.ua hx with rfl | ⟨hx1,_⟩
    ·exact ⟨MB IO ha,by have:=JU [] ⟨o.Name,o.Value⟩; simp at this; simp only; omega⟩
    ·exact ⟨(h.ok x hx1).1,by have:=(h.ok x hx1).2; omega⟩
   ·rcases Fc h.ua hx with rfl | ⟨hx1,_⟩
    ·exact hI
    ·exact h.ia x hx1
   ·rw [VB (by simpa using hkx)]
    have:=JU [] ⟨o.Name,o.Value⟩
    have:=h.sa
    simp at *
    omega
   ·rw [← L4]
  | some j=>
   rw [hkx] at hkb
   obtain ⟨hj,ej⟩:=Cu hkx
   have hmem:=List.getElem_mem hj
   have hok:=h.ok _ hmem
   obtain ⟨v,v1,v2,v3⟩:=CW hkb
   have hv:v=attrs[j].Attrs:=by
    unfold AO at v1
    rw [List.getElem?_map,List.getElem?_eq_getElem hj] at v1
    simp at v1
    exact v1.2.symm
   subst hv
   simp only
   rw [v2,Option.getD_some,Nd (by omega),AG,if_neg (by simp)]
   simp only [AG,A4]
   rw [BO hj]
   simp only [AG]
   rw [Jb hok.1 ha (by omega)]
   simp only [AG,A4,Int.toNat_natCast]
   have e1:attrs.set j ⟨attrs[j].Item,attrs[j].Parent,attrs[j].Place,Bd attrs[j].Attrs ⟨o.Name,o.Value⟩⟩=upd attrs ⟨attrs[j].Item,attrs[j].Parent,attrs[j].Place,Bd attrs[j].Attrs ⟨o.Name,o.Value⟩⟩:=by
    unfold upd; simp only; rw [ej,hkx]
   rw [e1]
   refine ⟨items,upd attrs ⟨attrs[j].Item,attrs[j].Parent,attrs[j].Place,Bd attrs[j].Attrs ⟨o.Name,o.Value⟩⟩,⟨h.uq,h.id,h.no,h.rk,by omega,L1 h.ua _,by have:=Lp attrs ⟨attrs[j].Item,attrs[j].Parent,attrs[j].Place,Bd attrs[j].Attrs ⟨o.Name,o.Value⟩⟩; rw [← e1] at this ⊢; simpa using (by omega:attrs.length≤k+1),fun x hx=>?_,fun x hx=>?_,h.mv,?_⟩,?_,rfl⟩
   ·rcases Fc h.ua hx with rfl | ⟨hx1,_⟩
    ·exact ⟨MB hok.1 ha,by have:=JU attrs[j].Attrs ⟨o.Name,o.Value⟩; simp only; omega⟩
    ·exact ⟨(h.ok x hx1).1,by have:=(h.ok x hx1).2; omega⟩
   ·rcases Fc h.ua hx with rfl | ⟨hx1,_⟩
    ·exact (h.ia attrs[j] hmem)
    ·exact h.ia x hx1
   ·have h2:=VJ (l:=attrs) (n:=⟨attrs[j].Item,attrs[j].Parent,attrs[j].Place,Bd attrs[j].Attrs ⟨o.Name,o.Value⟩⟩) (j:=j) (by simp only; rw [ej,hkx]) hj
    have:=JU attrs[j].Attrs ⟨o.Name,o.Value⟩
    have:=h.sa
    simp only at h2
    omega
   ·rw [← L4]; simp only; rw [ej]
end Go.Proofs.Ytelkfhdgmbahgaa.Al

set_option linter.unusedVariables false
namespace Go.Proofs.Ytelkfhdgmbahgaa.Al
open Go.Sort
structure Ez (lt:AB→AB→Bool):Prop where
 swo:SWO lt
 tot : ∀ a b,lt a b=false→lt b a=false→a.Item=b.Item
theorem Ez.asymm {lt:AB→AB→Bool} (h:Ez lt) {a b:AB} (h1:lt a b=true):lt b a=false:=by
 cases h2:lt b a
 ·rfl
 ·have:=h.swo.trans a b a h1 h2
  rw [h.swo.irrefl] at this; cases this
def E0 (a b:AB):Bool:=Ae a.Place b.Place || (decide (a.Place=b.Place) && decide (a.Item<b.Item))
def C0 (a b:AB):Bool:=decide (a.Item<b.Item)
theorem OA (a b:AB):E0 a b=true↔Ae a.Place b.Place=true∨(a.Place=b.Place∧a.Item<b.Item):=by
 unfold E0; simp
theorem Ij (a b:AB):E0 a b=false↔Ae b.Place a.Place=true∨(b.Place=a.Place∧b.Item≤a.Item):=by
 rw [← Bool.not_eq_true,OA]
 constructor
 ·intro h
  by_cases e:b.Place=a.Place
  ·exact .inr ⟨e,by
    have : ¬ a.Item<b.Item:=fun h2=>h (.inr ⟨e.symm,h2⟩)
    omega⟩
  ·exact .inl (MI (fun e2=>e e2.symm) fun h2=>h (.inl h2))
 ·rintro (h | ⟨h1,h2⟩) (g | ⟨g1,g2⟩)
  ·rw [M5 h] at g; cases g
  ·rw [g1,Fs] at h; cases h
  ·rw [h1,Fs] at g; cases g
  ·omega
theorem GW:Ez E0 where
 swo:={
  irrefl:=fun x=>by rw [Ij]; exact .inr ⟨rfl,Int.le_refl _⟩
  trans:=fun x y z h1 h2=>by
   rw [OA] at *
   rcases h1 with h1 | ⟨h1,g1⟩ <;> rcases h2 with h2 | ⟨h2,g2⟩
   ·exact .inl (DY h1 h2)
   ·exact .inl (by rw [← h2]; exact h1)
   ·exact .inl (by rw [h1]; exact h2)
   ·exact .inr ⟨h1.trans h2,by omega⟩
  ntrans:=fun x y z h1 h2=>by
   rw [Ij] at *
   rcases h1 with h1 | ⟨h1,g1⟩ <;> rcases h2 with h2 | ⟨h2,g2⟩
   ·exact .inl (DY h2 h1)
   ·exact .inl (by rw [h2]; exact h1)
   ·exact .inl (by rw [← h1]; exact h2)
   ·exact .inr ⟨h2.trans h1,by omega⟩ }
 tot:=fun a b h1 h2=>by
  rw [Ij] at *
  rcases h1 with h1 | ⟨h1,g1⟩ <;> rcases h2 with h2 | ⟨h2,g2⟩
  ·rw [M5 h1] at h2; cases h2
  ·rw [h2,Fs] at h1; cases h1
  ·rw [h1,Fs] at h2; cases h2
  ·omega
theorem F5:Ez C0 where
 swo:={ irrefl:=fun x=>by unfold C0; simp,trans:=fun x y z h1 h2=>by unfold C0 at *; simp at *; omega,ntrans:=fun x y z h1 h2=>by unfold C0 at *; simp at *; omega }
 tot:=fun a b h1 h2=>by unfold C0 at *; simp at *; omega
def GJ (lt:AB→AB→Bool) (xs:List AB):List AB:=xs.mergeSort fun a b=>!lt b a
theorem HM (lt:AB→AB→Bool) (xs:List AB):(GJ lt xs).Perm xs:=List.mergeSort_perm ..
theorem Su {lt:AB→AB→Bool} (h:Ez lt) (xs:List AB):(GJ lt xs).Pairwise fun a b=>lt b a=false:=by
 have:=List.pairwise_mergeSort (le:=fun a b=>!lt b a) (fun a b c h1 h2=>by
  simp only [Bool.not_eq_true'] at *
  exact h.swo.ntrans c b a h2 h1) (fun a b=>by
  cases h1:lt b a
  ·rfl
  ·simp [h.asymm h1]) xs
 exact this.imp fun h=>by simpa using h
theorem Uq.perm {A B:List AB} (h:Uq A) (p:B.Perm A):Uq B:=(p.map fun x:AB=>x.Item).nodup_iff.2 h
theorem Uq.filter {A:List AB} (h:Uq A) (p:AB→Bool):Uq (A.filter p):=by
 unfold Uq at *
 exact (List.filter_sublist.map _).nodup h
theorem Om {lt:AB→AB→Bool} (h:Ez lt) {xs:List AB} (hu:Uq xs):(GJ lt xs).Pairwise fun a b=>lt a b=true:=by
 have h1:=Su h xs
 have h2:Uq (GJ lt xs):=hu.perm (HM lt xs)
 unfold Uq at h2
 rw [List.nodup_iff_pairwise_ne,List.pairwise_map] at h2
 refine (h1.and h2).imp fun {a b} ⟨g1,g2⟩=>?_
 cases g3:lt a b
 ·exact absurd (h.tot a b g3 g1) g2
 ·rfl
theorem LM {lt:AB→AB→Bool} (h:Ez lt) {c:List AB} (hc:c.Pairwise fun a b=>lt a b=true) {k:Nat} (hk:k<c.length) {z:AB} (hz:z∈c):lt c[k] z=true↔z∈c.drop (k+1):=by
 rw [List.pairwise_iff_getElem] at hc
 constructor
 ·intro hl
  obtain ⟨i,hi,rfl⟩:=List.mem_iff_getElem.1 hz
  have:k<i:=by
   rcases Nat.lt_trichotomy k i with g | g | g
   ·exact g
   ·subst g; rw [h.swo.irrefl] at hl; cases hl
   ·rw [h.asymm (hc i k hi hk g)] at hl; cases hl
  rw [List.mem_iff_getElem?]
  exact ⟨i-(k+1),by rw [List.getElem?_drop,show k+1+(i-(k+1))=i by omega,List.getElem?_eq_getElem hi]⟩
 ·intro hm
  obtain ⟨i,hi⟩:=List.mem_iff_getElem?.1 hm
  rw [List.getElem?_drop] at hi
  obtain ⟨hil,rfl⟩:=List.getElem?_eq_some_iff.1 hi
  exact hc k (k+1+i) hk hil (by omega)
def Ha (cand:AB→Bool) (lt:AB→AB→Bool) (A:List AB) (next:Option Nat) (k:Nat):Option Nat:=
 match next with
 | none=>if cand A[k]! = true then some k else none
 | some j=>if cand A[k]! = true∧lt A[k]! A[j]! = true then some k else some j
def nx:Option Nat→Int
 | none=>-1
 | some j=>(j:Int)
theorem LK {cand:AB→Bool} {lt:AB→AB→Bool} (ho:Ez lt) {A:List AB} {f:Int × Int→Option ((Int × Int) ⊕ Int)}
  (h1 : ∀ k next,k<A.length→(∀ j,next=some j→j<A.length)→f (nx next,(k:Int))=some (.inl (nx (Ha cand lt A next k),((k+1:Nat):Int)))) (h2 : ∀ next,f (nx next,(A.length:Int))=some (.inr (nx next))) :
  ∃ next,iter f (-1,0)=some (nx next)∧(match next with | none=>∀ z∈A,cand z=false | some j=>∃ hj:j<A.length,cand A[j]=true ∧ ∀ z∈A,cand z=true→lt z A[j]=false):=by
 have key:=TU (f:=f) A.length (fun k s=>∃ next,s=(nx next,(k:Int))∧(match next with | none=>∀ i,i<k → ∀ hi:i<A.length,cand A[i]=false | some j=>∃ hj:j<A.length,cand A[j]=true ∧ ∀ i,i<k → ∀ hi:i<A.length,cand A[i]=true→lt A[i] A[j]=false))
  (fun b=>∃ next,b=nx next∧(match next with | none=>∀ z∈A,cand z=false | some j=>∃ hj:j<A.length,cand A[j]=true ∧ ∀ z∈A,cand z=true→lt z A[j]=false))
  (fun k s hk hs=>by
   obtain ⟨next,rfl,hn⟩:=hs
   left
   have hlt : ∀ j,next=some j→j<A.length:=fun j e=>by subst e; exact hn.1
   refine ⟨_,h1 k next hk hlt,Ha cand lt A next k,rfl,?_⟩
   unfold Ha
   cases next with
   | none=>
    simp only at hn ⊢
    rw [getElem!_pos A k hk]
    by_cases hc:cand A[k]=true
    ·rw [if_pos hc]
     refine ⟨hk,hc,fun i hi hil hci=>?_⟩
     by_cases hik:i<k
     ·rw [hn i hik hil] at hci; cases hci
     ·obtain rfl:i=k:=by omega
      exact ho.swo.irrefl _
    ·rw [if_neg hc]
     intro i hi hil
     by_cases hik:i<k
     ·exact hn i hik hil
     ·obtain rfl:i=k:=by omega
      simpa using hc
   | some j=>
    obtain ⟨hj,hcj,hall⟩:=hn
    simp only
    rw [getElem!_pos A k hk,getElem!_pos A j hj]
    by_cases hc:cand A[k]=true∧lt A[k] A[j]=true
    ·rw [if_pos hc]
     refine ⟨hk,hc.1,fun i hi hil hci=>?_⟩
     by_cases hik:i<k
     ·have h3:=hall i hik hil hci
      cases h4:lt A[i] A[k]
      ·rfl
      ·rw [ho.swo.trans _ _ _ h4 hc.2] at h3; cases h3
     ·obtain rfl:i=k:=by omega
      exact ho.swo.irrefl _
    ·rw [if_neg hc]
     refine ⟨hj,hcj,fun i hi hil hci=>?_⟩
     by_cases hik:i<k
     ·exact hall i hik hil hci
     ·obtain rfl:i=k:=by omega
      cases h4:lt A[i] A[j]
      ·rfl
      ·exact absurd ⟨hci,h4⟩ hc)
  (fun s hs=>by
   obtain ⟨next,rfl,hn⟩:=hs
   refine ⟨_,h2 next,next,rfl,?_⟩
   cases next with
   | none=>
    intro z hz
    obtain ⟨i,hi,rfl⟩:=List.mem_iff_getElem.1 hz
    exact hn i hi hi
   | some j=>
    obtain ⟨hj,hcj,hall⟩:=hn
    refine ⟨hj,hcj,fun z hz hc=>?_⟩
    obtain ⟨i,hi,rfl⟩:=List.mem_iff_getElem.1 hz
    exact hall i hi hi hc)
  (s:=(-1,0)) ⟨none,rfl,fun i hi=>absurd hi (by omega)⟩
 obtain ⟨b,h3,next,rfl,h4⟩:=key
 exact ⟨next,h3,h4⟩
theorem HO {cand:AB→Bool} {lt:AB→AB→Bool} (ho:Ez lt) {A c:List AB} (hu:Uq A) (hcA : ∀ z∈c,z∈A) (hc:c.Pairwise fun a b=>lt a b=true) {k:Nat}
  (hcand : ∀ z∈A,cand z=true↔z∈c.drop k) {next:Option Nat} (hn:match next with | none=>∀ z∈A,cand z=false | some j=>∃ hj:j<A.length,cand A[j]=true ∧ ∀ z∈A,cand z=true→lt z A[j]=false) :
  (k<c.length → ∃ j,∃ hj:j<A.length,next=some j∧some A[j]=c[k]?)∧(c.length≤k→next=none):=by
 constructor
 ·intro hk
  have hmem:c[k]∈c.drop k:=List.mem_iff_getElem?.2 ⟨0,by rw [List.getElem?_drop,Nat.add_zero,List.getElem?_eq_getElem hk]⟩
  have hA:=hcA _ (List.getElem_mem hk)
  have hck:=(hcand _ hA).2 hmem
  cases next with
  | none=>rw [hn _ hA] at hck; cases hck
  | some j=>
   obtain ⟨hj,h1,h2⟩:=hn
   refine ⟨j,hj,rfl,?_⟩
   rw [List.getElem?_eq_getElem hk]
   congr 1
   have h3:=h2 _ hA hck
   have h4:A[j]∈c.drop k:=(hcand _ (List.getElem_mem hj)).1 h1
   obtain ⟨i,hi⟩:=List.mem_iff_getElem?.1 h4
   rw [List.getElem?_drop] at hi
   obtain ⟨hil,hie⟩:=List.getElem?_eq_some_iff.1 hi
   rw [List.pairwise_iff_getElem] at hc
   rcases Nat.eq_zero_or_pos i with g | g
   ·subst g; rw [← hie]; rfl
   ·have:=hc k (k+i) hk hil (by omega)
    rw [hie,h3] at this; cases this
 ·intro hk
  cases next with
  | none=>rfl
  | some j=>
   obtain ⟨hj,h1,_⟩:=hn
   have h4:A[j]∈c.drop k:=(hcand _ (List.getElem_mem hj)).1 h1
   rw [List.drop_eq_nil_of_le hk] at h4; cases h4
structure Fo (A:List AB) (d:Int→Nat) (M:Nat):Prop where
 uq:Uq A
 id : ∀ x∈A,1≤x.Item
 rk:Rk A d
 top : ∀ x∈A,d x.Item≤M
 len:A.length≤1048576
def BM (A:List AB) (q:Int):List AB:=GJ E0 (A.filter fun z=>decide (z.Parent=q))
theorem GG {A:List AB} {q:Int} {z:AB} : z∈BM A q↔z∈A∧z.Parent=q:=by
 unfold BM
 rw [(HM _ _).mem_iff,List.mem_filter,decide_eq_true_eq]
theorem JM {A:List AB} (hu:Uq A) (q:Int):(BM A q).Pairwise fun a b=>E0 a b=true:=Om GW (hu.filter _)
def BQ (A:List AB):Nat→Int→List AB
 | 0,_=>[]
 | n+1,q=>(BM A q).flatMap fun x=>x :: BQ A n x.Item
def GT (q:Int) (place:List UInt8) (item:Int) (z:AB):Bool:=!(((!decide (z.Parent=q)) || (Ae z.Place place)) || ((decide (z.Place=place)) && (decide (z.Item≤item))))
theorem PV (A:List AB) (hm:A.length≤1048576) (q:Int) (place:List UInt8) (item:Int) : ∃ next,iter (fun (a:Int × Int)=>FG A q place item a.1 a.2) ((-1),0)=some (nx next) ∧
  (match next with | none=>∀ z∈A,GT q place item z=false | some j=>∃ hj:j<A.length,GT q place item A[j]=true ∧ ∀ z∈A,GT q place item z=true→E0 z A[j]=false):=by
 refine LK GW (fun k next hk hn=>?_) (fun next=>?_)
 ·show FG A q place item (nx next) (k:Int)=_
  unfold FG
  rw [if_pos (by simpa using hk),A3 hk,AG,Ao (by omega)]
  unfold Ha GT
  generalize A[k]! = x
  by_cases hs:(((!decide (x.Parent=q)) || (Ae x.Place place)) || ((decide (x.Place=place)) && (decide (x.Item≤item))))=true
  ·rw [if_pos hs,hs]
   cases next <;> simp
  ·rw [if_neg hs]
   rw [Bool.not_eq_true] at hs
   rw [hs]
   cases next with
   | none=>simp [nx,Az]
   | some j=>
    have hj:=hn j rfl
    have h0:decide (nx (some j)<0)=false:=by unfold nx; simp
    rw [h0,show ((false == false)=true) from rfl,Ax,show nx (some j)=(j:Int) from rfl,A3 hj,AG]
    simp only [Bool.not_false,true_and]
    generalize A[j]! = y
    have e:E0 x y=(Ae x.Place y.Place || (decide (x.Place=y.Place) && decide (x.Item<y.Item))):=rfl
    rw [e]
    cases Ae x.Place y.Place
    ·simp only [Bool.false_or,show ((false == false)=true) from rfl,Ax,AG]
     split <;> rfl
    ·simp only [Bool.false_or,Bool.true_or,show ((true == false)=false) from rfl,Az,AG,if_true]
     rfl
 ·show FG A q place item (nx next) (A.length:Int)=_
  unfold FG
  rw [if_neg (by simp)]
def Cw (c:List AB) (k:Nat):List UInt8 × Int:=match k with | 0=>([],0) | k+1=>(c[k]!.Place,c[k]!.Item)
theorem QQ {c:List AB} {k:Nat} (h:k<c.length):Cw c (k+1)=(c[k].Place,c[k].Item):=by
 show (c[k]!.Place,c[k]!.Item)=_
 rw [getElem!_pos c k h]
theorem N3 {A:List AB} (hu:Uq A) (hid : ∀ x∈A,1≤x.Item) (q:Int) {k:Nat} (hk:k≤(BM A q).length) {z:AB} (hz:z∈A):GT q (Cw (BM A q) k).1 (Cw (BM A q) k).2 z=true↔z∈(BM A q).drop k:=by
 have hP : ∀ (p:List UInt8) (i:Int),GT q p i z=true↔z.Parent=q ∧ ¬ (Ae z.Place p=true∨(z.Place=p∧z.Item≤i)):=fun p i=>by
  unfold GT
  simp only [Bool.not_eq_true',Bool.or_eq_false_iff,Bool.not_eq_false',decide_eq_true_eq,Bool.and_eq_false_imp,decide_eq_false_iff_not,not_or,not_and,Bool.not_eq_true]
  constructor
  ·rintro ⟨⟨h1,h2⟩,h3⟩; exact ⟨h1,h2,h3⟩
  ·rintro ⟨h1,h2,h3⟩; exact ⟨⟨h1,h2⟩,h3⟩
 cases k with
 | zero=>
  rw [List.drop_zero,GG,hP]
  unfold Cw
  simp only
  constructor
  ·rintro ⟨h1,_⟩; exact ⟨hz,h1⟩
  ·rintro ⟨_,h1⟩
   refine ⟨h1,?_⟩
   rintro (h | ⟨_,h⟩)
   ·rw [OU] at h; cases h
   ·have:=hid z hz; omega
 | succ k=>
  unfold Cw
  simp only
  rw [getElem!_pos (BM A q) k (by omega),hP]
  constructor
  ·rintro ⟨h1,h2⟩
   refine (LM GW (JM hu q) (by omega) (GG.2 ⟨hz,h1⟩)).1 ?_
   cases h3:E0 (BM A q)[k] z
   ·rw [Ij] at h3; exact absurd h3 h2
   ·rfl
  ·intro h1
   have h2:=List.mem_of_mem_drop h1
   refine ⟨(GG.1 h2).2,fun h3=>?_⟩
   have h4:=(LM GW (JM hu q) (by omega) h2).2 h1
   rw [← Ij] at h3
   rw [h3] at h4; cases h4
theorem Ts {A:List AB} {d:Int→Nat} {M:Nat} (h:Fo A d M) : ∀ (n:Nat) (q:Int) (out:List AB),M-d q<n→out.length+(BQ A n q).length≤2097151→B9 n out A q=some (out++BQ A n q):=by
 intro n
 induction n with
 | zero=>intro q out hn; omega
 | succ n ih=>
  intro q out hn hl
  show FU (fun out1 l1 parent1=>B9 n out1 l1 parent1) out A q=_
  unfold FU
  have hA : ∀ z∈BM A q,z∈A:=fun z hz=>(GG.1 hz).1
  have loop : ∀ m k o,k+m=(BM A q).length→o.length+(((BM A q).drop k).flatMap fun x=>x :: BQ A n x.Item).length≤2097151 →
    iter (fun (a:(List UInt8) × Int × (List AB))=>Dt A q (fun out1 l1 parent1=>B9 n out1 l1 parent1) a.1 a.2.1 a.2.2) ((Cw (BM A q) k).1,(Cw (BM A q) k).2,o) =
     some (.ext (o++((BM A q).drop k).flatMap fun x=>x :: BQ A n x.Item)):=by
   intro m
   induction m with
   | zero=>
    intro k o hk ho
    refine Au ?_
    show Dt A q _ (Cw (BM A q) k).1 (Cw (BM A q) k).2 o=_
    unfold Dt
    obtain ⟨next,e1,e2⟩:=PV A h.len q (Cw (BM A q) k).1 (Cw (BM A q) k).2
    have:=(HO GW h.uq hA (JM h.uq q) (fun z hz=>N3 h.uq h.id q (by omega) hz) e2).2 (by omega)
    subst this
    rw [e1,AG,if_pos (by decide),List.drop_eq_nil_of_le (by omega)]
    simp
   | succ m ihm=>
    intro k o hk ho
    have hkl:k<(BM A q).length:=by omega
    obtain ⟨next,e1,e2⟩:=PV A h.len q (Cw (BM A q) k).1 (Cw (BM A q) k).2
    obtain ⟨j,hj,rfl,e3⟩:=(HO GW h.uq hA (JM h.uq q) (fun z hz=>N3 h.uq h.id q (by omega) hz) e2).1 hkl
    rw [List.getElem?_eq_getElem hkl] at e3
    have e4:A[j]=(BM A q)[k]:=Option.some.inj e3
    have hmem:=List.getElem_mem hkl
    have hpar:=GG.1 hmem
    have hd:=h.rk _ hpar.1
    rw [hpar.2] at hd
    have htop:=h.top _ hpar.1
    rw [List.drop_eq_getElem_cons hkl,List.flatMap_cons,List.length_append,List.length_cons] at ho
    rw [Av (s':=((Cw (BM A q) (k+1)).1,(Cw (BM A q) (k+1)).2,(o++[(BM A q)[k]])++BQ A n (BM A q)[k].Item)) (by
     show Dt A q _ (Cw (BM A q) k).1 (Cw (BM A q) k).2 o=_
     unfold Dt
     rw [e1,AG,show nx (some j)=(j:Int) from rfl,if_neg (by simp),BO hj,AG,Di (by simp; omega),AG,e4]
     show AH (B9 n (o++[(BM A q)[k]]) A (BM A q)[k].Item) _=_
     rw [ih _ _ (by omega) (by rw [List.length_append]; simp; omega),AG]
     rw [QQ hkl]),ihm (k+1) _ (by omega) (by simp only [List.length_append,List.length_cons,List.length_nil]; omega)]
    conv=>rhs; rw [List.drop_eq_getElem_cons hkl,List.flatMap_cons]
    simp
  have h0:=loop (BM A q).length 0 out (by omega) (by rw [List.drop_zero]; exact hl)
  rw [List.drop_zero] at h0
  have h0':iter (fun (a:(List UInt8) × Int × (List AB))=>Dt A q (fun out1 l1 parent1=>B9 n out1 l1 parent1) a.1 a.2.1 a.2.2) ([],0,out)=some (.ext (out++(BM A q).flatMap fun x=>x :: BQ A n x.Item)):=h0
  rw [h0',DG]; rfl
end Go.Proofs.Ytelkfhdgmbahgaa.Al

set_option linter.unusedVariables false
namespace Go.Proofs.Ytelkfhdgmbahgaa.Al
open Go.Sort
theorem Ap.trans {A:List AB} {a b y:Int} (h:Ap A b y) (g:Ap A a b):Ap A a y:=by
 induction h with
 | self=>exact g
 | step hx _ ih=>exact Ap.step hx ih
theorem Ap.rank {A:List AB} {d:Int→Nat} (hr:Rk A d) {top y:Int} (h:Ap A top y):d top≤d y:=by
 induction h with
 | self=>exact Nat.le_refl _
 | step hx _ ih=>have:=hr _ hx; omega
theorem Vg {A:List AB} (hu:Uq A) {a b y:Int} (h:Ap A a y) (g:Ap A b y):Ap A a b∨Ap A b a:=by
 induction h with
 | self=>exact .inr g
 | @step x hx h1 ih=>
  rcases g.inv with e | ⟨z,hz,e,g2⟩
  ·exact .inl (by rw [← e]; exact Ap.step hx h1)
  ·rw [hu.eq hz hx e] at g2; exact ih g2
theorem In {A:List AB} : ∀ (n:Nat) (q:Int) (z:AB),z∈BQ A n q→z∈A∧Ap A q z.Parent:=by
 intro n
 induction n with
 | zero=>intro q z h; cases h
 | succ n ih=>
  intro q z h
  unfold BQ at h
  obtain ⟨x,hx,hz⟩:=List.mem_flatMap.1 h
  obtain ⟨hA,hp⟩:=GG.1 hx
  rcases List.mem_cons.1 hz with rfl | hz
  ·exact ⟨hA,by rw [hp]; exact Ap.self⟩
  ·obtain ⟨h1,h2⟩:=ih _ _ hz
   exact ⟨h1,h2.trans (Ap.step hA (by rw [hp]; exact Ap.self))⟩
theorem N7 {A:List AB} {d:Int→Nat} (hu:Uq A) (hr:Rk A d) : ∀ (n:Nat) (q:Int),(BQ A n q).Pairwise fun a b=>a.Item≠b.Item:=by
 intro n
 induction n with
 | zero=>intro q; exact List.Pairwise.nil
 | succ n ih=>
  intro q
  unfold BQ
  rw [List.pairwise_flatMap]
  have hB : ∀ a∈BM A q,∀ x∈a :: BQ A n a.Item,Ap A a.Item x.Item:=fun a ha x hx=>by
   rcases List.mem_cons.1 hx with rfl | hx
   ·exact Ap.self
   ·obtain ⟨h1,h2⟩:=In n _ _ hx
    exact Ap.step h1 h2
  refine ⟨fun a ha=>List.pairwise_cons.2 ⟨fun z hz e=>?_,ih _⟩,?_⟩
  ·obtain ⟨h1,h2⟩:=In n _ _ hz
   have:=h2.rank hr
   have:=hr z h1
   rw [e] at *; omega
  ·have hs:=JM hu q
   have hm : ∀ a∈BM A q,a∈A∧a.Parent=q:=fun a ha=>GG.1 ha
   refine List.Pairwise.imp_of_mem (fun {a b} ha hb hlt x hx y hy e=>?_) hs
   have h1:=hB a ha x hx
   have h2:=hB b hb y hy
   rw [← e] at h2
   have hne:a.Item≠b.Item:=fun e2=>by
    rw [hu.eq (hm a ha).1 (hm b hb).1 e2,GW.swo.irrefl] at hlt; cases hlt
   rcases Vg hu h1 h2 with g | g
   ·have g2:=(Ap.up hu (hm b hb).1 (fun e2=>hne e2.symm)).1 g
    rw [(hm b hb).2] at g2
    have:=g2.rank hr
    have:=hr a (hm a ha).1
    rw [(hm a ha).2] at this
    omega
   ·have g2:=(Ap.up hu (hm a ha).1 hne).1 g
    rw [(hm a ha).2] at g2
    have:=g2.rank hr
    have:=hr b (hm b hb).1
    rw [(hm b hb).2] at this
    omega
theorem Ln : ∀ (l A:List AB),(l.Pairwise fun a b=>a.Item≠b.Item)→(∀ z∈l,z∈A)→l.length≤A.length:=by
 intro l
 induction l with
 | nil=>intro A _ _; exact Nat.zero_le _
 | cons a r ih=>
  intro A hp hs
  rw [List.pairwise_cons] at hp
  have ha:=hs a (List.mem_cons_self ..)
  have:=ih (A.erase a) hp.2 fun z hz=>(List.mem_erase_of_ne (fun e=>hp.1 z hz (by rw [e]))).2 (hs z (List.mem_cons_of_mem _ hz))
  rw [List.length_erase_of_mem ha] at this
  have:0<A.length:=List.length_pos_of_mem ha
  simp; omega
theorem NH {A:List AB} {d:Int→Nat} {M:Nat} (h:Fo A d M) (n:Nat) (q:Int):(BQ A n q).length≤A.length:=
 Ln _ _ (N7 h.uq h.rk n q) fun z hz=>(In n q z hz).1
theorem Lx {α:Type} (m:List (Int × α)) (k:Int) (v:α) (q:Int):AK (Aw m k v) q=if q=k then some v else AK m q:=by
 induction m with
 | nil=>unfold Aw AK; rfl
 | cons p r ih=>
  unfold Aw
  by_cases hk:k=p.1
  ·rw [if_pos hk]
   conv=>lhs; unfold AK
   conv=>rhs; unfold AK
   rw [← hk]
   split <;> rfl
  ·rw [if_neg hk]
   conv=>lhs; unfold AK
   conv=>rhs; unfold AK
   rw [ih]
   by_cases hq:q=p.1
   ·rw [if_pos hq,if_pos hq,if_neg (by rw [hq]; exact fun e=>hk e.symm)]
   ·rw [if_neg hq,if_neg hq]
def Gn (m:List (Int × Bool)) (i:Int):Bool:=(AK m i).getD false
theorem US (m:List (Int × Bool)) (k i:Int):Gn (Aw m k true) i=(decide (i=k) || Gn m i):=by
 unfold Gn
 rw [Lx]
 by_cases h:i=k <;> simp [h]
def Ag (l:List AB) (i:Int):Bool:=l.any fun z=>decide (z.Item=i)
theorem K1 (l m:List AB) (i:Int):Ag (l++m) i=(Ag l i || Ag m i):=by unfold Ag; rw [List.any_append]
end Go.Proofs.Ytelkfhdgmbahgaa.Al

set_option linter.unusedVariables false
set_option linter.unusedSimpArgs false
namespace Go.Proofs.Ytelkfhdgmbahgaa.Al
open Go.Sort
def wa (attrs:List AB) (x:AB):AB:=⟨x.Item,x.Parent,x.Place,(AK (AO attrs) x.Item).getD []⟩
theorem Tm {l:List AD} (hm:l.length≤1048576) (ho : ∀ x∈l,BJ x=0) : ∀ (m k:Nat) (items attrs:List AB),k+m=l.length→DI k items attrs → ∃ items' attrs',DI l.length items' attrs' ∧
  iter (fun (a:Int × (List (Int × AB)) × (List (Int × (List AC))))=>Dd l a.1 a.2.1 a.2.2) ((k:Int),AJ items,AO attrs)=some (AJ items',AO attrs') ∧
  iter (fun (a:Int × (List AB) × (List AB))=>Bs l a.1 a.2.1 a.2.2) ((k:Int),items,attrs)=some (items',attrs'):=by
 intro m
 induction m with
 | zero=>
  intro k items attrs hk h
  obtain rfl:k=l.length:=by omega
  refine ⟨items,attrs,h,Au ?_,Au ?_⟩
  ·show Dd l (l.length:Int) _ _=_
   unfold Dd; rw [if_neg (by simp)]
  ·show Bs l (l.length:Int) _ _=_
   unfold Bs; rw [if_neg (by simp)]
 | succ m ih=>
  intro k items attrs hk h
  have hkl:k<l.length:=by omega
  obtain ⟨i1,a1,h1,h2,h3⟩:=JP h hkl hm (ho _ (Eb hkl))
  obtain ⟨i2,a2,h4,h5,h6⟩:=ih (k+1) i1 a1 (by omega) h1
  refine ⟨i2,a2,h4,?_,?_⟩
  ·rw [Av (s':=(((k+1:Nat):Int),AJ i1,AO a1)) h2]; exact h5
  ·rw [Av (s':=(((k+1:Nat):Int),i1,a1)) h3]; exact h6
theorem Li {items attrs:List AB} (h1:items.length≤1048576) (h2:attrs.length≤1048576) (hno : ∀ x∈items,x.Attrs=[]) :
  iter (fun (a:Int × (List AB))=>Eu items attrs a.1 a.2) (0,items)=some (items.map (wa attrs)):=by
 have key : ∀ m k,k+m=items.length→iter (fun (a:Int × (List AB))=>Eu items attrs a.1 a.2) ((k:Int),(items.take k).map (wa attrs)++items.drop k)=some (items.map (wa attrs)):=by
  intro m
  induction m with
  | zero=>
   intro k hk
   refine Au ?_
   show Eu items attrs (k:Int) _=_
   unfold Eu
   rw [if_neg (by simp; omega),List.drop_eq_nil_of_le (by omega),List.take_of_length_le (by omega),List.append_nil]
  | succ m ih=>
   intro k hk
   have hkl:k<items.length:=by omega
   have hlen:((items.take k).map (wa attrs)).length=k:=by simp; omega
   have hx:((items.take k).map (wa attrs)++items.drop k)[k]? = some items[k]:=by
    rw [List.getElem?_append_right (by omega),hlen,Nat.sub_self,List.getElem?_drop,Nat.add_zero,List.getElem?_eq_getElem hkl]
   have hset : ∀ y,((items.take k).map (wa attrs)++items.drop k).set k y=(items.take k).map (wa attrs)++(y :: items.drop (k+1)):=fun y=>by
    rw [List.set_append_right _ _ (by omega),hlen,Nat.sub_self,List.drop_eq_getElem_cons hkl]; rfl
   have htake:(items.take (k+1)).map (wa attrs)++items.drop (k+1)=(items.take k).map (wa attrs)++(wa attrs items[k] :: items.drop (k+1)):=by
    rw [NK hkl,getElem!_pos items k hkl,List.map_append,List.append_assoc]; rfl
   have hstep:Eu items attrs (k:Int) ((items.take k).map (wa attrs)++items.drop k)=some (.inl (((k+1:Nat):Int),(items.take (k+1)).map (wa attrs)++items.drop (k+1))):=by
    unfold Eu
    have hidx:AN ((items.take k).map (wa attrs)++items.drop k) (k:Int)=some items[k]:=by
     unfold AN; rw [if_pos (Int.natCast_nonneg k),Int.toNat_natCast,hx]
    rw [if_pos (by simpa using hkl),hidx,AG,Cv _ _ (by omega),AG,Ao (by omega)]
    unfold Bf
    have hkb:=HU attrs items[k].Item
    cases hkx:Ab (AJ attrs) items[k].Item with
    | none=>
     rw [hkx] at hkb
     simp only
     rw [if_neg (by decide),AG,AG,htake]
     have:wa attrs items[k]=items[k]:=by
      unfold wa
      rw [(Cd hkb).1,Option.getD_none,← hno _ (List.getElem_mem hkl)]
     rw [this,List.drop_eq_getElem_cons hkl]
    | some j=>
     rw [hkx] at hkb
     obtain ⟨hj,ej⟩:=Cu hkx
     obtain ⟨v,v1,v2,_⟩:=CW hkb
     have hv:v=attrs[j].Attrs:=by
      unfold AO at v1
      rw [List.getElem?_map,List.getElem?_eq_getElem hj] at v1
      simp at v1
      exact v1.2.symm
     simp only
     rw [if_pos (by simp),BO hj]
     simp only [AG,Int.toNat_natCast]
     rw [hset,htake]
     unfold wa
     rw [v2,Option.getD_some,hv]
   rw [Av (s':=(((k+1:Nat):Int),(items.take (k+1)).map (wa attrs)++items.drop (k+1))) hstep]
   exact ih (k+1) (by omega)
 have:=key items.length 0 (by omega)
 simpa using this
theorem Nb {l:List AD} (hm:l.length≤1048576) (ho : ∀ x∈l,BJ x=0) : ∃ items attrs,DI l.length items attrs∧DR l=some (AJ items,AO attrs)∧Cn l=some (items.map (wa attrs),attrs):=by
 obtain ⟨items,attrs,h,h1,h2⟩:=Tm hm ho l.length 0 [] [] (by omega) ⟨by unfold Uq; simp,by simp,by simp,⟨fun _=>0,fun x hx=>by cases hx⟩,by simp,by unfold Uq; simp,by simp,by simp,by simp,by simp,by simp⟩
 refine ⟨items,attrs,h,?_,?_⟩
 ·unfold DR
  have h1':iter (fun (a:Int × (List (Int × AB)) × (List (Int × (List AC))))=>Dd l a.1 a.2.1 a.2.2) (0,[],[])=some (AJ items,AO attrs):=h1
  rw [h1',A4]
 ·unfold Cn
  have h2':iter (fun (a:Int × (List AB) × (List AB))=>Bs l a.1 a.2.1 a.2.2) (0,[],[])=some (items,attrs):=h2
  rw [h2',A4,Li (by have:=h.li; omega) (by have:=h.la; omega) h.no,AG]
theorem SK (d:Int→Nat) : ∀ A:List AB,∃ M,∀ x∈A,d x.Item≤M:=by
 intro A
 induction A with
 | nil=>exact ⟨0,fun x hx=>by cases hx⟩
 | cons a r ih=>
  obtain ⟨M,h⟩:=ih
  refine ⟨max M (d a.Item),fun x hx=>?_⟩
  rcases List.mem_cons.1 hx with rfl | hx
  ·exact Nat.le_max_right ..
  ·exact Nat.le_trans (h x hx) (Nat.le_max_left ..)
theorem N4 {α:Type} {N:Nat→Option α} (mono : ∀ n r,N n=some r→N (n+1)=some r) {n0:Nat} {r0:α} (h:N n0=some r0) :
  @dite _ (∃ n r,N n=some r) (Classical.propDecidable _) (fun h=>N h.choose) (fun _=>none)=some r0:=by
 have hx : ∃ n r,N n=some r:=⟨n0,r0,h⟩
 rw [dif_pos hx]
 obtain ⟨r1,h1⟩:=hx.choose_spec
 have up : ∀ k n r,N n=some r→N (n+k)=some r:=by
  intro k
  induction k with
  | zero=>intro n r h; exact h
  | succ k ih=>intro n r h; exact mono _ _ (ih n r h)
 have e1:=up n0 _ _ h1
 have e2:=up hx.choose _ _ h
 rw [Nat.add_comm] at e2
 rw [e1] at e2
 rw [h1]; exact e2
theorem UI {σ β:Type} {f g:σ→Option (σ ⊕ β)} (h : ∀ s v,f s=some v→g s=some v) {s:σ} {r:β} (hi:iter f s=some r):iter g s=some r:=by
 obtain ⟨n,hn⟩:=HC.1 hi
 refine HC.2 ⟨n,?_⟩
 clear hi
 induction n generalizing s with
 | zero=>exact hn
 | succ n ih=>
  unfold Co at hn ⊢
  cases hf:f s with
  | none=>rw [hf] at hn; cases hn
  | some v=>
   rw [hf] at hn
   rw [h s v hf]
   cases v with
   | inl s'=>exact ih hn
   | inr b=>exact hn
theorem QH (n:Nat) : ∀ (o l:List AB) (q:Int) r,B9 n o l q=some r→B9 (n+1) o l q=some r:=by
 induction n with
 | zero=>intro o l q r h; cases h
 | succ n ih=>
  intro o l q r h
  change FU (fun out1 l1 parent1=>B9 n out1 l1 parent1) o l q=some r at h
  show FU (fun out1 l1 parent1=>B9 (n+1) out1 l1 parent1) o l q=some r
  unfold FU at h ⊢
  cases hi:iter (fun (a:(List UInt8) × Int × (List AB))=>Dt l q (fun out1 l1 parent1=>B9 n out1 l1 parent1) a.1 a.2.1 a.2.2) ([],0,o) with
  | none=>rw [hi] at h; cases h
  | some v=>
   rw [hi] at h
   rw [UI (g:=fun (a:(List UInt8) × Int × (List AB))=>Dt l q (fun out1 l1 parent1=>B9 (n+1) out1 l1 parent1) a.1 a.2.1 a.2.2) (fun s v hv=>?_) hi]
   ·exact h
   ·unfold Dt at hv ⊢
    cases hb:iter (fun (a:Int × Int)=>FG l q s.1 s.2.1 a.1 a.2) ((-1),0) with
    | none=>rw [hb] at hv; cases hv
    | some nxt=>
     rw [hb,AG] at hv
     rw [AG]
     split at hv
     ·rename_i hc; rw [if_pos hc]; exact hv
     ·rename_i hc
      rw [if_neg hc]
      cases hx:AN l nxt with
      | none=>rw [hx] at hv; cases hv
      | some x=>
       rw [hx,AG] at hv
       rw [AG]
       cases ha:app 56 s.2.2 [x] with
       | none=>rw [ha] at hv; cases hv
       | some l2=>
        rw [ha,AG] at hv
        rw [AG]
        change AH (B9 n l2 l x.Item) _=_ at hv
        show AH (B9 (n+1) l2 l x.Item) _=_
        cases hn:B9 n l2 l x.Item with
        | none=>rw [hn] at hv; cases hv
        | some t=>rw [hn] at hv; rw [ih _ _ _ _ hn]; exact hv
theorem Ro {A:List AB} {d:Int→Nat} {M:Nat} (h:Fo A d M):IQ [] A 0=some (BQ A (M+1) 0):=by
 have h1:=Ts h (M+1) 0 [] (by omega) (by have:=NH h (M+1) 0; have:=h.len; simp; omega)
 rw [List.nil_append] at h1
 unfold IQ
 exact N4 (N:=fun n=>B9 n [] A 0) (fun n r=>QH n [] A 0 r) h1
end Go.Proofs.Ytelkfhdgmbahgaa.Al

set_option linter.unusedVariables false
set_option linter.unusedSimpArgs false
namespace Go.Proofs.Ytelkfhdgmbahgaa.Al
open Go.Sort
theorem Ti {α:Type} {m:List (Int × α)} {k:Int} {v0:α} (h:AK m k=some v0) (v:α):(Aw m k v).map (·.1)=m.map (·.1):=by
 induction m with
 | nil=>cases h
 | cons p r ih=>
  unfold Aw
  by_cases hk:k=p.1
  ·rw [if_pos hk]; simp [hk]
  ·rw [if_neg hk]
   unfold AK at h
   rw [if_neg hk] at h
   rw [List.map_cons,List.map_cons,ih h]
theorem Je {l:List AB} (hu:Uq l) {x:AB} (hx:x∈l):AK (AJ l) x.Item=some x:=by
 rw [HY]
 cases h:Ab (AJ l) x.Item with
 | none=>exact absurd rfl (Fm h x hx)
 | some j=>
  obtain ⟨hj,e⟩:=Cu h
  rw [Option.bind_some,List.getElem?_eq_getElem hj,hu.eq (List.getElem_mem hj) hx e]
def Am (A:List AB) (sh:List AB):List AB:=(GJ C0 A).filter fun z=>!Ag sh z.Item
def Df (c:List AB) (k:Nat):Int:=match k with | 0=>0 | k+1=>c[k]!.Item
theorem JL (l:List AB) (i:Int):decide (Bf l i<0) = !Ag l i:=by
 unfold Bf
 cases h:Ab (AJ l) i with
 | none=>
  have hn:=Fm h
  have:Ag l i=false:=by
   unfold Ag
   rw [List.any_eq_false]
   intro x hx; simpa using hn x hx
  rw [this]; rfl
 | some j=>
  obtain ⟨hj,e⟩:=Cu h
  have:Ag l i=true:=by
   unfold Ag
   rw [List.any_eq_true]
   exact ⟨_,List.getElem_mem hj,by simpa using e⟩
  rw [this]; simp
def EG (sh:List AB) (last:Int) (z:AB):Bool:=decide (last<z.Item) && !Ag sh z.Item
theorem Nr (A w1 out:List AB) (hm:A.length≤1048576) (hw:w1.length≤1048576) (hpre:out.take w1.length=w1) (hlo:w1.length≤out.length) (last:Int) : ∃ next,iter (fun (a:Int × Int)=>FW A w1 last out a.1 a.2) ((-1),0)=some (nx next) ∧
  (match next with | none=>∀ z∈A,EG w1 last z=false | some j=>∃ hj:j<A.length,EG w1 last A[j]=true ∧ ∀ z∈A,EG w1 last z=true→C0 z A[j]=false):=by
 have hsl:DV out 0 (w1.length:Int)=some w1:=by
  unfold DV
  rw [if_pos ⟨by omega,by omega,by omega⟩]
  simp [hpre]
 refine LK F5 (fun k next hk hn=>?_) (fun next=>?_)
 ·show FW A w1 last out (nx next) (k:Int)=_
  unfold FW
  rw [if_pos (by simpa using hk),A3 hk,AG,Ao (by omega),hsl]
  unfold Ha EG
  generalize A[k]! = x
  by_cases hs:last<x.Item
  ·rw [decide_eq_true hs,show ((true == true)=true) from rfl,Ax,AG,Ax,Cv _ _ (by omega),AG,JL]
   cases hh:Ag w1 x.Item
   ·cases next with
    | none=>simp [nx,Az]
    | some j=>
     have hj:=hn j rfl
     have h0:decide (nx (some j)<0)=false:=by unfold nx; simp
     rw [h0,show nx (some j)=(j:Int) from rfl,A3 hj]
     simp only [Bool.not_false,Bool.and_self,Bool.true_and,beq_self_eq_true,Ax,AG,Bool.false_or,true_and]
     generalize A[j]! = y
     rw [show C0 x y=decide (x.Item<y.Item) from rfl]
     split <;> rfl
   ·cases next <;> simp [Az]
  ·rw [decide_eq_false hs]
   cases next <;> simp [Az]
 ·show FW A w1 last out (nx next) (A.length:Int)=_
  unfold FW
  rw [if_neg (by simp)]
theorem Gs {A:List AB} (hu:Uq A) (sh:List AB):(Am A sh).Pairwise fun a b=>C0 a b=true:=(Om F5 hu).filter _
theorem F4 {A sh:List AB} {z:AB} : z∈Am A sh↔z∈A∧Ag sh z.Item=false:=by
 unfold Am
 rw [List.mem_filter,(HM _ _).mem_iff]
 simp
theorem JR {A:List AB} (hu:Uq A) (hid : ∀ x∈A,1≤x.Item) (sh:List AB) {k:Nat} (hk:k≤(Am A sh).length) {z:AB} (hz:z∈A):EG sh (Df (Am A sh) k) z=true↔z∈(Am A sh).drop k:=by
 have hP : ∀ i:Int,EG sh i z=true↔i<z.Item∧Ag sh z.Item=false:=fun i=>by unfold EG; simp
 cases k with
 | zero=>
  rw [List.drop_zero,F4,hP]
  show (0<z.Item∧_)↔_
  constructor
  ·rintro ⟨_,h⟩; exact ⟨hz,h⟩
  ·rintro ⟨_,h⟩; exact ⟨by have:=hid z hz; omega,h⟩
 | succ k=>
  rw [hP]
  show ((Am A sh)[k]!.Item<z.Item∧_)↔_
  rw [getElem!_pos (Am A sh) k (by omega)]
  have hd:=fun hz2=>LM F5 (Gs hu sh) (show k<(Am A sh).length by omega) (z:=z) hz2
  constructor
  ·rintro ⟨h1,h2⟩
   exact (hd (F4.2 ⟨hz,h2⟩)).1 (by unfold C0; simpa using h1)
  ·intro h1
   have h2:=List.mem_of_mem_drop h1
   have h3:=(hd h2).2 h1
   unfold C0 at h3
   exact ⟨by simpa using h3,(F4.1 h2).2⟩
theorem Py {A:List AB} (hu:Uq A) (hid : ∀ x∈A,1≤x.Item) (hm:A.length≤1048576) (sh:List AB) (hs:sh.length≤1048576) : ∀ m k,k+m=(Am A sh).length →
  iter (fun (a:Int × (List AB))=>E3 A sh a.1 a.2) (Df (Am A sh) k,sh++(Am A sh).take k)=some (.ext (sh++Am A sh,(sh.length:Int))):=by
 intro m
 have hA : ∀ z∈Am A sh,z∈A:=fun z hz=>(F4.1 hz).1
 have hlo:(Am A sh).length≤1048576:=by
  unfold Am
  refine Nat.le_trans (List.length_filter_le ..) ?_
  rw [(HM _ _).length_eq]; exact hm
 induction m with
 | zero=>
  intro k hk
  refine Au ?_
  show E3 A sh (Df (Am A sh) k) (sh++(Am A sh).take k)=_
  unfold E3
  obtain ⟨next,e1,e2⟩:=Nr A sh (sh++(Am A sh).take k) hm hs (by simp) (by simp) (Df (Am A sh) k)
  have:=(HO F5 hu hA (Gs hu sh) (fun z hz=>JR hu hid sh (by omega) hz) e2).2 (by omega)
  subst this
  rw [e1,AG,if_pos (by decide),List.take_of_length_le (by omega)]
 | succ m ih=>
  intro k hk
  have hkl:k<(Am A sh).length:=by omega
  obtain ⟨next,e1,e2⟩:=Nr A sh (sh++(Am A sh).take k) hm hs (by simp) (by simp) (Df (Am A sh) k)
  obtain ⟨j,hj,rfl,e3⟩:=(HO F5 hu hA (Gs hu sh) (fun z hz=>JR hu hid sh (by omega) hz) e2).1 hkl
  rw [List.getElem?_eq_getElem hkl] at e3
  have e4:A[j]=(Am A sh)[k]:=Option.some.inj e3
  rw [Av (s':=(Df (Am A sh) (k+1),sh++(Am A sh).take (k+1))) (by
   show E3 A sh (Df (Am A sh) k) (sh++(Am A sh).take k)=_
   unfold E3
   rw [e1,AG,show nx (some j)=(j:Int) from rfl,if_neg (by simp),BO hj,AG,Di (by simp; omega),AG,e4]
   show some (Sum.inl ((Am A sh)[k].Item,_))=some (Sum.inl ((Am A sh)[k]!.Item,_))
   rw [getElem!_pos (Am A sh) k hkl,NK hkl,getElem!_pos (Am A sh) k hkl,List.append_assoc])]
  exact ih (k+1) (by omega)
theorem OR {l:List AD} {items attrs:List AB} (hp:Cn l=some (items.map (wa attrs),attrs)) {d:Int→Nat} {M:Nat} (hF:Fo (items.map (wa attrs)) d M) :
  Eg l=some (BQ (items.map (wa attrs)) (M+1) 0++Am (items.map (wa attrs)) (BQ (items.map (wa attrs)) (M+1) 0),((BQ (items.map (wa attrs)) (M+1) 0).length:Int)):=by
 unfold Eg
 rw [hp,A4,Ro hF,AG]
 have h:=Py hF.uq hF.id hF.len (BQ (items.map (wa attrs)) (M+1) 0) (Nat.le_trans (NH hF _ _) hF.len) _ 0 (by rw [Nat.zero_add])
 rw [List.take_zero,List.append_nil] at h
 have h':iter (fun (a:Int × (List AB))=>E3 (items.map (wa attrs)) (BQ (items.map (wa attrs)) (M+1) 0) a.1 a.2) (0,BQ (items.map (wa attrs)) (M+1) 0)=_:=h
 rw [h',DG]
end Go.Proofs.Ytelkfhdgmbahgaa.Al

set_option linter.unusedVariables false
set_option linter.unusedSimpArgs false
namespace Go.Proofs.Ytelkfhdgmbahgaa.Al
open Go.Sort
def Ce:(Int→Bool)→List AB→Prop
 | _,[]=>True
 | S,z :: r=>S z.Parent=true∧Ce (fun i=>S i || decide (z.Item=i)) r
theorem Ce.mono : ∀ {l:List AB} {S T:Int→Bool},Ce S l→(∀ i,S i=true→T i=true)→Ce T l
 | [],_,_,_,_=>trivial
 | z :: r,S,T,h,hs=>⟨hs _ h.1,Ce.mono h.2 fun i hi=>by
   simp only [Bool.or_eq_true] at hi ⊢
   exact hi.imp (hs i) _root_.id⟩
theorem Mp : ∀ {l m:List AB} {S:Int→Bool},Ce S l→Ce (fun i=>S i || Ag l i) m→Ce S (l++m)
 | [],m,S,_,h2=>h2.mono fun i hi=>by simpa [Ag] using hi
 | z :: r,m,S,h1,h2=>⟨h1.1,Mp h1.2 (h2.mono fun i hi=>by
   simp only [Ag,List.any_cons,Bool.or_eq_true,decide_eq_true_eq] at hi ⊢
   rcases hi with h | h | h
   ·exact .inl (.inl h)
   ·exact .inl (.inr h)
   ·exact .inr h)⟩
theorem RP (x:AB) (hx:x.Attrs.length≤9223372036854775807):Hl x x=some true:=by
 unfold Hl
 simp only [decide_true,Bool.and_self,beq_self_eq_true,Ax]
 rw [UK _ _ hx]
 simp
theorem Lt {l:List AD} (h:BP l=0) : ∀ x∈l,BJ x=0:=by
 intro x hx
 obtain ⟨k,hk,rfl⟩:=List.mem_iff_getElem.1 hx
 unfold BP at h
 cases hf:(List.range l.length).findSome? (Da l) with
 | none=>
  rw [List.findSome?_eq_none_iff] at hf
  have:=hf k (List.mem_range.2 hk)
  unfold Da at this
  rw [getElem!_pos l k hk] at this
  by_cases e:BJ l[k]=0
  ·exact e
  ·rw [if_pos e] at this; cases this
 | some r=>
  rw [hf] at h
  simp only [Option.getD_some] at h
  obtain ⟨j,_,hj⟩:=List.exists_of_findSome?_eq_some hf
  unfold Da at hj
  split at hj
  ·rename_i e; cases hj; exact absurd h e
  ·split at hj
   ·cases hj; exact absurd h (by decide)
   ·cases hj
theorem TR {μ:AD→Nat} (h : ∀ x,x.Place.length+x.Name.length+x.Value.length+1≤μ x) : ∀ (l:List AD),(l.map μ).sum≤1048576→CT l∧l.length≤1048576:=by
 have key : ∀ l:List AD,l.length≤(l.map μ).sum ∧ ∀ x∈l,μ x≤(l.map μ).sum:=by
  intro l
  induction l with
  | nil=>exact ⟨Nat.le_refl _,fun x hx=>by simp at hx⟩
  | cons y l ih=>
   have h0:=h y
   rw [List.map_cons,List.sum_cons,List.length_cons]
   refine ⟨by omega,fun x hx=>?_⟩
   rcases List.mem_cons.1 hx with rfl | hx
   ·omega
   ·have:=ih.2 x hx; omega
 intro l hb
 obtain ⟨h1,h2⟩:=key l
 refine ⟨fun x hx=>?_,by omega⟩
 have h3:=h2 x hx
 have h4:=h x
 exact ⟨by omega,by omega,by omega⟩
end Go.Proofs.Ytelkfhdgmbahgaa.Al

set_option linter.unusedVariables false
set_option linter.unusedSimpArgs false
namespace Go.Proofs.Ytelkfhdgmbahgaa.Al
open Go.Sort
def BC (A:List AB) (S:Int→Bool):Nat→Int→List AB
 | 0,_=>[]
 | n+1,q=>match AK (AJ A) q with
  | none=>[]
  | some x=>if S q=true then [] else BC A S n x.Parent++[x]
theorem FN {A:List AB} {q:Int} {x:AB} (h:AK (AJ A) q=some x):x∈A∧x.Item=q:=by
 rw [HY] at h
 cases hk:Ab (AJ A) q with
 | none=>rw [hk] at h; cases h
 | some j=>
  obtain ⟨hj,e⟩:=Cu hk
  rw [hk,Option.bind_some,List.getElem?_eq_getElem hj] at h
  cases h
  exact ⟨List.getElem_mem hj,e⟩
theorem T8 {A:List AB} {d:Int→Nat} (hr:Rk A d) {S T:Int→Bool} : ∀ (n:Nat) (q:Int),(∀ y,d y≤d q→S y=T y)→BC A S n q=BC A T n q:=by
 intro n
 induction n with
 | zero=>intro q _; rfl
 | succ n ih=>
  intro q h
  unfold BC
  cases hm:AK (AJ A) q with
  | none=>rfl
  | some x=>
   obtain ⟨hx,e⟩:=FN hm
   have hd:=hr x hx
   rw [e] at hd
   simp only
   rw [h q (Nat.le_refl _),ih x.Parent fun y hy=>h y (by omega)]
theorem MM {A:List AB} {d:Int→Nat} (hr:Rk A d) {S:Int→Bool} : ∀ (n:Nat) (q:Int),∀ z∈BC A S n q,z∈A∧d z.Item≤d q∧S z.Item=false:=by
 intro n
 induction n with
 | zero=>intro q z hz; cases hz
 | succ n ih=>
  intro q z hz
  unfold BC at hz
  cases hm:AK (AJ A) q with
  | none=>rw [hm] at hz; cases hz
  | some x=>
   obtain ⟨hx,e⟩:=FN hm
   have hd:=hr x hx
   rw [e] at hd
   rw [hm] at hz
   simp only at hz
   split at hz
   ·cases hz
   ·rename_i hS
    rcases List.mem_append.1 hz with h1 | h1
    ·obtain ⟨a1,a2,a3⟩:=ih _ z h1
     exact ⟨a1,by omega,a3⟩
    ·obtain rfl:=List.mem_singleton.1 h1
     exact ⟨hx,by rw [e]; exact Nat.le_refl _,by rw [e]; simpa using hS⟩
theorem Rc {A:List AB} {d:Int→Nat} (hr:Rk A d) {S:Int→Bool} : ∀ (n:Nat) (q:Int),(BC A S n q).Pairwise fun a b=>a.Item≠b.Item:=by
 intro n
 induction n with
 | zero=>intro q; exact List.Pairwise.nil
 | succ n ih=>
  intro q
  unfold BC
  cases hm:AK (AJ A) q with
  | none=>exact List.Pairwise.nil
  | some x=>
   obtain ⟨hx,e⟩:=FN hm
   have hd:=hr x hx
   simp only
   split
   ·exact List.Pairwise.nil
   ·rw [List.pairwise_append]
    refine ⟨ih _,by simp,fun a ha b hb e2=>?_⟩
    obtain rfl:=List.mem_singleton.1 hb
    obtain ⟨_,a2,_⟩:=MM hr _ _ a ha
    rw [e2] at a2; omega
theorem Qo {A:List AB} {d:Int→Nat} (hr:Rk A d) (m2:List (Int × List AC)) : ∀ (n:Nat) (q:Int) (m3:List (Int × Bool)) (S:Int→Bool) (out:List AB),d q<n→(∀ i,Gn m3 i=S i)→out.length+(BC A S n q).length≤2097151 →
  ∃ m3',Ct n (AJ A) m2 m3 out q=some (m3',out++BC A S n q) ∧ ∀ i,Gn m3' i=(S i || Ag (BC A S n q) i):=by
 intro n
 induction n with
 | zero=>intro q m3 S out hn; omega
 | succ n ih=>
  intro q m3 S out hn hS hl
  show ∃ m3',Fw (fun m1 m2 m3 c1 id1=>Ct n m1 m2 m3 c1 id1) (AJ A) m2 m3 out q=_∧_
  unfold Fw
  cases hm:AK (AJ A) q with
  | none=>
   refine ⟨m3,?_,fun i=>?_⟩
   ·rw [if_pos (by rfl)]; unfold BC; rw [hm,List.append_nil]
   ·unfold BC; rw [hm,hS]; simp [Ag]
  | some x=>
   obtain ⟨hx,e⟩:=FN hm
   have hd:=hr x hx
   rw [e] at hd
   cases hq:S q with
   | true=>
    refine ⟨m3,?_,fun i=>?_⟩
    ·rw [if_pos (by rw [show (AK m3 q).getD false=S q from hS q,hq]; rfl)]; unfold BC; rw [hm]; simp only; rw [if_pos hq,List.append_nil]
    ·unfold BC; rw [hm]; simp only; rw [if_pos hq,hS]; simp [Ag]
   | false=>
    have hu:BC A S (n+1) q=BC A S n x.Parent++[x]:=by
     conv=>lhs; unfold BC
     rw [hm]; simp only; rw [if_neg (by rw [hq]; simp)]
    have hcg:BC A (fun i=>S i || decide (i=q)) n x.Parent=BC A S n x.Parent:=T8 hr n x.Parent fun y hy=>by
     have:y≠q:=fun e2=>by rw [e2] at hy; omega
     simp [this]
    rw [hu] at hl ⊢
    rw [List.length_append,List.length_singleton] at hl
    obtain ⟨m4,f1,f2⟩:=ih x.Parent (Aw m3 q true) (fun i=>S i || decide (i=q)) out (by omega) (fun i=>by rw [US,hS]; cases S i <;> cases decide (i=q) <;> rfl) (by rw [hcg]; omega)
    refine ⟨m4,?_,fun i=>?_⟩
    ·rw [if_neg (by rw [show (AK m3 q).getD false=S q from hS q,hq]; simp),AG]
     show BU (Ct n (AJ A) m2 (Aw m3 q true) out x.Parent) _=_
     rw [f1,A4,hcg,Di (by rw [List.length_append,List.length_singleton]; omega),AG,List.append_assoc]
    ·rw [f2,hcg,K1]
     have:Ag [x] i=decide (i=q):=by
      unfold Ag; simp only [List.any_cons,List.any_nil,Bool.or_false]
      rw [decide_eq_decide,e]; exact ⟨fun e=>e.symm,fun e=>e.symm⟩
     rw [this]
     cases S i <;> cases decide (i=q) <;> simp
theorem UN (n:Nat) : ∀ m1 m2 m3 c1 q r,Ct n m1 m2 m3 c1 q=some r→Ct (n+1) m1 m2 m3 c1 q=some r:=by
 induction n with
 | zero=>intro m1 m2 m3 c1 q r h; cases h
 | succ n ih=>
  intro m1 m2 m3 c1 q r h
  change Fw (fun m1 m2 m3 c1 id1=>Ct n m1 m2 m3 c1 id1) m1 m2 m3 c1 q=some r at h
  show Fw (fun m1 m2 m3 c1 id1=>Ct (n+1) m1 m2 m3 c1 id1) m1 m2 m3 c1 q=some r
  unfold Fw at h ⊢
  split at h
  ·rename_i hc; rw [if_pos hc]; exact h
  ·rename_i hc
   rw [if_neg hc]
   cases hx:AK m1 q with
   | none=>rw [hx] at h; cases h
   | some x=>
    rw [hx,AG] at h
    rw [AG]
    change BU (Ct n m1 m2 (Aw m3 q true) c1 x.Parent) _=_ at h
    show BU (Ct (n+1) m1 m2 (Aw m3 q true) c1 x.Parent) _=_
    cases hn:Ct n m1 m2 (Aw m3 q true) c1 x.Parent with
    | none=>rw [hn] at h; cases h
    | some t=>rw [hn] at h; rw [ih _ _ _ _ _ _ hn]; exact h
end Go.Proofs.Ytelkfhdgmbahgaa.Al

set_option linter.unusedVariables false
set_option linter.unusedSimpArgs false
namespace Go.Proofs.Ytelkfhdgmbahgaa.Al
open Go.Sort
def BA (A:List AB) (N:Nat):List Int→List AB→List AB
 | [],out=>out
 | q :: r,out=>BA A N r (out++BC A (Ag out) N q)
def D2 (A out:List AB):Prop:=(out.Pairwise fun a b=>a.Item≠b.Item) ∧ ∀ z∈out,z∈A
theorem D2.len {A out:List AB} (h:D2 A out):out.length≤A.length:=Ln _ _ h.1 h.2
theorem D2.up {A out:List AB} {d:Int→Nat} (hr:Rk A d) (h:D2 A out) (N:Nat) (q:Int):D2 A (out++BC A (Ag out) N q):=by
 refine ⟨List.pairwise_append.2 ⟨h.1,Rc hr N q,fun a ha b hb e=>?_⟩,fun z hz=>?_⟩
 ·obtain ⟨_,_,b3⟩:=MM hr N q b hb
  have:Ag out b.Item=true:=by unfold Ag; rw [List.any_eq_true]; exact ⟨a,ha,by simp [e]⟩
  rw [this] at b3; cases b3
 ·rcases List.mem_append.1 hz with h1 | h1
  ·exact h.2 z h1
  ·exact (MM hr N q z h1).1
def Ba (x y:Int):Bool:=decide (x≤y)
def Ar (A:List AB):List Int:=(A.map (·.Item)).mergeSort Ba
theorem Qi {A:List AB} {d:Int→Nat} {M:Nat} (h:Fo A d M) (m2:List (Int × List AC)) (ids:List Int) (hi : ∀ q∈ids,d q≤M) (hlen:ids.length≤1048576) :
  ∀ (m k:Nat) (out:List AB) (m4:List (Int × Bool)),k+m=ids.length→D2 A out→(∀ i,Gn m4 i=Ag out i) →
   iter (fun (a:Int × (List AB) × (List (Int × Bool)))=>Ey (AJ A) m2 ids a.1 a.2.1 a.2.2) ((k:Int),out,m4)=some (BA A (M+1) (ids.drop k) out):=by
 intro m
 induction m with
 | zero=>
  intro k out m4 hk hs hm
  refine Au ?_
  show Ey (AJ A) m2 ids (k:Int) out m4=_
  unfold Ey
  rw [if_neg (by simp; omega),List.drop_eq_nil_of_le (by omega)]; rfl
 | succ m ih=>
  intro k out m4 hk hs hm
  have hkl:k<ids.length:=by omega
  have hup:=hs.up h.rk (M+1) ids[k]
  obtain ⟨m5,e1,e2⟩:=Qo h.rk m2 (M+1) ids[k] m4 (Ag out) out (by have:=hi _ (List.getElem_mem hkl); omega) hm (by have:=hup.len; have:=h.len; rw [List.length_append] at *; omega)
  have e3:H0 (AJ A) m2 m4 out ids[k]=some (m5,out++BC A (Ag out) (M+1) ids[k]):=by
   unfold H0
   exact N4 (N:=fun n=>Ct n (AJ A) m2 m4 out ids[k]) (fun n r=>UN n _ _ _ _ _ r) e1
  rw [Av (s':=(((k+1:Nat):Int),out++BC A (Ag out) (M+1) ids[k],m5)) (by
   show Ey (AJ A) m2 ids (k:Int) out m4=_
   unfold Ey
   rw [if_pos (by simpa using hkl),BO hkl,AG,e3,A4,Ao (by omega),AG]),
   ih (k+1) _ m5 (by omega) hup (fun i=>by rw [e2,K1]),List.drop_eq_getElem_cons hkl]
  rfl
theorem Q1 (key:List Int) (hk:key.length≤1048576) : ∀ (r p:List Int),p.length+r.length≤1048576 →
  Cs (DA (fun (_:List Int)=>key) key (fun a k1=>ES a k1)) r p=some (p++r):=by
 intro r
 induction r with
 | nil=>intro p _; rw [List.append_nil]; rfl
 | cons k r ih=>
  intro p hb
  have hs:DA (fun (_:List Int)=>key) key (fun a k1=>ES a k1) p k=some (p++[k]):=by
   have hR:ES p k=some (p++[k]):=by
    unfold ES app
    simp at hb
    rw [if_pos ⟨by simp; omega,by simp; omega⟩,AG]
   unfold DA
   show (ES p k).bind _=_
   rw [hR]
   simp
  show (DA (fun (_:List Int)=>key) key (fun a k1=>ES a k1) p k).bind _=_
  rw [hs,Option.bind_some,ih (p++[k]) (by simp at hb ⊢; omega)]
  simp
theorem O0 {ks key:List Int} (hp:ks.Perm key):ks.mergeSort Ba=key.mergeSort Ba:=by
 have tr : ∀ a b c:Int,Ba a b=true→Ba b c=true→Ba a c=true:=fun a b c h1 h2=>by unfold Ba at *; simp at *; omega
 have to : ∀ a b:Int,(Ba a b || Ba b a)=true:=fun a b=>by unfold Ba; simp; omega
 refine PN (lt:=fun a b:Int=>decide (a<b)) ⟨fun x=>by simp,fun x y z h1 h2=>by simp at *; omega,fun x y z h1 h2=>by simp at *; omega⟩ _ _ (((List.mergeSort_perm ..).trans hp).trans (List.mergeSort_perm ..).symm) (fun a _ b _ h1 h2=>by simp at *; omega)
  ((List.pairwise_mergeSort tr to ks).imp fun h=>by unfold Ba at h; simp at *; omega) ((List.pairwise_mergeSort tr to key).imp fun h=>by unfold Ba at h; simp at *; omega)
theorem Ok {A:List AB} {d:Int→Nat} {M:Nat} (h:Fo A d M) (m2:List (Int × List AC)):Fx (AJ A) m2=some (BA A (M+1) (Ar A) []):=by
 unfold Fx
 have hk0:(AJ A).map (·.1)=A.map (·.Item):=by unfold AJ; rw [List.map_map]; rfl
 have hl:=h.len
 refine KO (key:=fun (_:List Int)=>(AJ A).map (·.1)) (F:=fun a k1=>ES a k1) ⟨by rw [hk0]; exact h.uq,fun ks hks=>?_⟩
 rw [hk0] at hks ⊢
 have hkl:ks.length=A.length:=by rw [hks.length_eq,List.length_map]
 rw [Q1 (A.map (·.Item)) (by simp; omega) ks [] (by simp; omega),Option.bind_some,List.nil_append]
 have hsi:D9 ks=some (Ar A):=by
  unfold D9 Ar
  rw [if_pos (by omega)]
  congr 1
  exact O0 hks
 have hsl:(Ar A).length=A.length:=by unfold Ar; rw [(List.mergeSort_perm ..).length_eq,List.length_map]
 rw [AG,hsi,AG]
 have hv:=Qi h m2 (Ar A) (fun q hq=>by
  have:=(List.mergeSort_perm ..).subset hq
  obtain ⟨x,hx,rfl⟩:=List.mem_map.1 this
  exact h.top x hx) (by omega) (Ar A).length 0 [] [] (by omega) ⟨List.Pairwise.nil,fun z hz=>by cases hz⟩ (fun i=>by simp [Gn,AK,Ag])
 rw [List.drop_zero] at hv
 have hv':iter (fun (a:Int × (List AB) × (List (Int × Bool)))=>Ey (AJ A) m2 (Ar A) a.1 a.2.1 a.2.2) (0,[],[])=_:=hv
 rw [hv',AG]
end Go.Proofs.Ytelkfhdgmbahgaa.Al

set_option linter.unusedVariables false
set_option linter.unusedSimpArgs false
namespace Go.Proofs.Ytelkfhdgmbahgaa.Al
open Go.Sort
theorem PF {A:List AB} (hu:Uq A) {j:Nat} (hj:j<A.length):Ab (AJ A) A[j].Item=some j:=by
 cases h:Ab (AJ A) A[j].Item with
 | none=>exact absurd rfl (Fm h _ (List.getElem_mem hj))
 | some i=>
  obtain ⟨hi,e⟩:=Cu h
  unfold Uq at hu
  rw [List.nodup_iff_pairwise_ne,List.pairwise_iff_getElem] at hu
  rcases Nat.lt_trichotomy i j with hlt | heq | hlt
  ·exact (hu i j (by simpa using hi) (by simpa using hj) hlt (by simp [e])).elim
  ·rw [heq]
  ·exact (hu j i (by simpa using hj) (by simpa using hi) hlt (by simp [e])).elim
theorem UY {A:List AB} {d:Int→Nat} (hr:Rk A d) (hm:A.length≤1048576) (out:List AB) (ho:out.length≤1048576) : ∀ (n:Nat) (q:Int) (chain:List AB),d q<n→(BC A (Ag out) n q).length+chain.length≤2097151 →
  iter (fun (a:Int × (List AB))=>Eo A out a.1 a.2) (Bf A q,chain)=some (BC A (Ag out) n q++chain):=by
 intro n
 induction n with
 | zero=>intro q chain hn; omega
 | succ n ih=>
  intro q chain hn hl
  have hg:=HY (l:=A) (k:=q)
  cases hk:Ab (AJ A) q with
  | none=>
   rw [hk] at hg
   have hf:Bf A q = -1:=by unfold Bf; rw [hk]
   rw [hf]
   refine Au ?_
   show Eo A out (-1) chain=_
   unfold Eo BC
   rw [hg]
   simp [Az]
  | some j=>
   obtain ⟨hj,e⟩:=Cu hk
   rw [hk,Option.bind_some,List.getElem?_eq_getElem hj] at hg
   have hf:Bf A q=(j:Int):=by unfold Bf; rw [hk]
   have hd:=hr _ (List.getElem_mem hj)
   rw [e] at hd
   rw [hf]
   have h0:decide ((0:Int)≤(j:Int))=true:=by simp
   cases hh:Ag out q with
   | true=>
    refine Au ?_
    show Eo A out (j:Int) chain=_
    unfold Eo BC
    rw [hg,h0]
    simp only [beq_self_eq_true,Ax,Bool.true_and]
    rw [BO hj,AG,Cv _ _ (by omega),AG,JL,e,hh]
    simp
   | false=>
    have hu:BC A (Ag out) (n+1) q=BC A (Ag out) n A[j].Parent++[A[j]]:=by
     conv=>lhs; unfold BC
     rw [hg]; simp only; rw [if_neg (by rw [hh]; simp)]
    rw [hu] at hl ⊢
    rw [List.length_append,List.length_singleton] at hl
    rw [Av (s':=(Bf A A[j].Parent,A[j] :: chain)) (by
     show Eo A out (j:Int) chain=_
     unfold Eo
     rw [h0]
     simp only [beq_self_eq_true,Ax,Bool.true_and]
     rw [BO hj,AG,Cv _ _ (by omega),AG,JL,e,hh,if_pos (by decide),AG,Di (by simp; omega),AG,Cv _ _ (by omega),AG]
     rfl),ih A[j].Parent (A[j] :: chain) (by omega) (by simp; omega)]
    simp
theorem OH (A:List AB) (hm:A.length≤1048576) (last:Int) : ∃ next,iter (fun (a:Int × Int)=>Fb A last a.1 a.2) ((-1),0)=some (nx next) ∧
  (match next with | none=>∀ z∈A,EG [] last z=false | some j=>∃ hj:j<A.length,EG [] last A[j]=true ∧ ∀ z∈A,EG [] last z=true→C0 z A[j]=false):=by
 refine LK F5 (fun k next hk hn=>?_) (fun next=>?_)
 ·show Fb A last (nx next) (k:Int)=_
  unfold Fb
  rw [if_pos (by simpa using hk),A3 hk,AG,Ao (by omega)]
  unfold Ha EG
  generalize A[k]! = x
  have hz:Ag [] x.Item=false:=rfl
  rw [hz]
  by_cases hs:last<x.Item
  ·rw [decide_eq_true hs]
   cases next with
   | none=>simp [nx,Az]
   | some j=>
    have hj:=hn j rfl
    have h0:decide (nx (some j)<0)=false:=by unfold nx; simp
    rw [h0,show nx (some j)=(j:Int) from rfl,A3 hj]
    simp only [Bool.not_false,Bool.and_self,Bool.true_and,beq_self_eq_true,Ax,AG,Bool.false_or,true_and]
    generalize A[j]! = y
    rw [show C0 x y=decide (x.Item<y.Item) from rfl]
    split <;> rfl
  ·rw [decide_eq_false hs]
   cases next <;> simp [Az]
 ·show Fb A last (nx next) (A.length:Int)=_
  unfold Fb
  rw [if_neg (by simp)]
theorem PP {A:List AB} {d:Int→Nat} {M:Nat} (h:Fo A d M):Gx A=some (BA A (M+1) (Ar A) []):=by
 have hA : ∀ z∈Am A [],z∈A:=fun z hz=>(F4.1 hz).1
 have hlo:(Am A []).length≤1048576:=by
  unfold Am
  refine Nat.le_trans (List.length_filter_le ..) ?_
  rw [(HM _ _).length_eq]; exact h.len
 have loop : ∀ m k out,k+m=(Am A []).length→D2 A out →
   iter (fun (a:Int × (List AB))=>FD A a.1 a.2) (Df (Am A []) k,out)=some (.ext (BA A (M+1) (((Am A []).drop k).map (·.Item)) out)):=by
  intro m
  induction m with
  | zero=>
   intro k out hk hs
   refine Au ?_
   show FD A (Df (Am A []) k) out=_
   unfold FD
   obtain ⟨next,e1,e2⟩:=OH A h.len (Df (Am A []) k)
   have:=(HO F5 h.uq hA (Gs h.uq []) (fun z hz=>JR h.uq h.id [] (by omega) hz) e2).2 (by omega)
   subst this
   rw [e1,AG,if_pos (by decide),List.drop_eq_nil_of_le (by omega)]; rfl
  | succ m ih=>
   intro k out hk hs
   have hkl:k<(Am A []).length:=by omega
   obtain ⟨next,e1,e2⟩:=OH A h.len (Df (Am A []) k)
   obtain ⟨j,hj,rfl,e3⟩:=(HO F5 h.uq hA (Gs h.uq []) (fun z hz=>JR h.uq h.id [] (by omega) hz) e2).1 hkl
   rw [List.getElem?_eq_getElem hkl] at e3
   have e4:A[j]=(Am A [])[k]:=Option.some.inj e3
   have hup:=hs.up h.rk (M+1) A[j].Item
   have hul:=hup.len
   have hsl:=hs.len
   have hl:=h.len
   rw [List.length_append] at hul
   have hf:Bf A A[j].Item=(j:Int):=by unfold Bf; rw [PF h.uq hj]
   have hc:=UY h.rk h.len out (by omega) (M+1) A[j].Item [] (by have:=h.top _ (List.getElem_mem hj); omega) (by simp; omega)
   rw [hf,List.append_nil] at hc
   rw [Av (s':=(Df (Am A []) (k+1),out++BC A (Ag out) (M+1) A[j].Item)) (by
    show FD A (Df (Am A []) k) out=_
    unfold FD
    rw [e1,AG,show nx (some j)=(j:Int) from rfl,if_neg (by simp),BO hj,AG,hc,AG,Di (by omega),AG]
    show some (Sum.inl (A[j].Item,_))=some (Sum.inl ((Am A [])[k]!.Item,_))
    rw [getElem!_pos (Am A []) k hkl,e4]),ih (k+1) _ (by omega) hup,List.drop_eq_getElem_cons hkl,List.map_cons,e4]
   rfl
 have h0:=loop (Am A []).length 0 [] (by omega) ⟨List.Pairwise.nil,fun z hz=>by cases hz⟩
 rw [List.drop_zero] at h0
 have h0':iter (fun (a:Int × (List AB))=>FD A a.1 a.2) (0,[])=_:=h0
 have hids:(Am A []).map (·.Item)=Ar A:=by
  have tr : ∀ a b c:Int,Ba a b=true→Ba b c=true→Ba a c=true:=fun a b c h1 h2=>by unfold Ba at *; simp at *; omega
  have to : ∀ a b:Int,(Ba a b || Ba b a)=true:=fun a b=>by unfold Ba; simp; omega
  have hp:(Am A []).Perm A:=by
   have:Am A []=GJ C0 A:=by unfold Am; rw [List.filter_eq_self]; intro z _; rfl
   rw [this]; exact HM _ _
  refine PN (lt:=fun a b:Int=>decide (a<b)) ⟨fun x=>by simp,fun x y z h1 h2=>by simp at *; omega,fun x y z h1 h2=>by simp at *; omega⟩ _ _ ((hp.map _).trans (List.mergeSort_perm ..).symm) (fun a _ b _ h1 h2=>by simp at *; omega) ?_ ((List.pairwise_mergeSort tr to _).imp fun h=>by unfold Ba at h; simp at *; omega)
  rw [List.pairwise_map]
  exact (Gs h.uq []).imp fun h=>by unfold C0 at h; simp at *; omega
 unfold Gx
 rw [h0',DG,hids]
end Go.Proofs.Ytelkfhdgmbahgaa.Al

set_option linter.unusedVariables false
set_option linter.unusedSimpArgs false
namespace Go.Proofs.Ytelkfhdgmbahgaa.Al
open Go.Sort
theorem TF {o:List AD} {x:AD} (h:o.length≤4194304):app 88 o [x]=some (o++[x]):=by
 unfold app; rw [if_pos (by simp <;> omega)]
def BN (c s:Int):Nat→List AD→List AD
 | _,[]=>[]
 | n,o :: r=>AD.mk (c+(n:Int)) s o.Kind o.Item o.Parent o.Place o.Name o.Value :: BN c s (n+1) r
def tw (c s:Int) (out ops:List AD):List AD:=out++BN c s out.length ops
theorem Ju (c s:Int) : ∀ (ops:List AD) (n:Nat),(BN c s n ops).length=ops.length:=by
 intro ops
 induction ops with
 | nil=>intro n; rfl
 | cons o r ih=>intro n; unfold BN; rw [List.length_cons,ih,List.length_cons]
theorem KG (c s:Int) (b:List AD) : ∀ (a:List AD) (n:Nat),BN c s n (a++b)=BN c s n a++BN c s (n+a.length) b:=by
 intro a
 induction a with
 | nil=>intro n; rfl
 | cons o r ih=>
  intro n
  show _ :: BN c s (n+1) (r++b)=_ :: (BN c s (n+1) r++BN c s (n+(r.length+1)) b)
  rw [ih,show n+1+r.length=n+(r.length+1) by omega]
theorem Dq (c s:Int) (out ops:List AD):(tw c s out ops).length=out.length+ops.length:=by
 unfold tw; rw [List.length_append,Ju]
theorem HK (c s:Int) (out:List AD):tw c s out []=out:=by
 unfold tw BN; rw [List.append_nil]
theorem HA (c s:Int) (out a b:List AD):tw c s (tw c s out a) b=tw c s out (a++b):=by
 unfold tw
 rw [List.length_append,Ju,KG,List.append_assoc]
theorem R3 {c:Int} {n:Nat} (h0:0≤c) (h1:c≤1073741824) (hn:n≤4194304):Ac .i64 (c+(n:Int))=some (c+(n:Int)):=by
 exact En (by omega) (by omega)
theorem IC {c s:Int} (h0:0≤c) (h1:c≤1073741824) {out:List AD} (hl:out.length≤4194304) (o:AD):Ge c out s o=some (tw c s out [o]):=by
 unfold Ge
 rw [R3 h0 h1 hl,AG,TF hl,AG]
 rfl
def BV (w:List (Int × AB)) (r:List AB):List AD:=
 (r.filter fun x=>!(AK w x.Item).isSome && !decide (x.Parent = -1)).map fun x=>AD.mk 0 0 0 x.Item (-1) x.Place [] []
def DN (w:List (Int × AB)) (x:AB):Bool:=
 match AK w x.Item with
 | none=>true
 | some y=>!decide (y.Parent=x.Parent) || !decide (y.Place=x.Place)
def Bi (w:List (Int × AB)) (r:List AB):List AD:=
 (r.filter (DN w)).map fun x=>AD.mk 0 0 0 x.Item x.Parent x.Place [] []
theorem If (w:List (Int × AB)) (x:AB) (r:List AB):BV w (x :: r)=(if (!(AK w x.Item).isSome && !decide (x.Parent = -1))=true then [AD.mk 0 0 0 x.Item (-1) x.Place [] []] else [])++BV w r:=by
 unfold BV
 rw [List.filter_cons]
 split <;> rfl
theorem H7 (w:List (Int × AB)) (x:AB) (r:List AB):Bi w (x :: r)=(if DN w x=true then [AD.mk 0 0 0 x.Item x.Parent x.Place [] []] else [])++Bi w r:=by
 unfold Bi
 rw [List.filter_cons]
 split <;> rfl
theorem Tr {c s:Int} (h0:0≤c) (h1:c≤1073741824) (w:List (Int × AB)) (r:List AB) (hm:r.length≤4194304) : ∀ (m k:Nat) (out:List AD),k+m=r.length→out.length+m≤4194304 →
  iter (fun (a:Int × (List AD))=>Dr c s w r a.1 a.2) ((k:Int),out)=some (tw c s out (BV w (r.drop k))):=by
 intro m
 induction m with
 | zero=>
  intro k out hk hl
  refine Au ?_
  show Dr c s w r (k:Int) out=_
  unfold Dr
  rw [if_neg (by simp; omega),List.drop_eq_nil_of_le (by omega)]
  show _=some (Sum.inr (tw c s out []))
  rw [HK]
 | succ m ih=>
  intro k out hk hl
  have hkl:k<r.length:=by omega
  rw [List.drop_eq_getElem_cons hkl,If,← HA]
  by_cases hb:(!(AK w r[k].Item).isSome && !decide (r[k].Parent = -1))=true
  ·rw [if_pos hb,Av (s':=(((k+1:Nat):Int),tw c s out [AD.mk 0 0 0 r[k].Item (-1) r[k].Place [] []])) (by
    show Dr c s w r (k:Int) out=_
    unfold Dr
    rw [if_pos (by simpa using hkl),BO hkl,AG,if_pos hb,IC h0 h1 (by omega),AG,AG,Ao (by omega),AG]),
    ih (k+1) _ (by omega) (by rw [Dq]; simp; omega)]
  ·rw [if_neg hb,HK,Av (s':=(((k+1:Nat):Int),out)) (by
    show Dr c s w r (k:Int) out=_
    unfold Dr
    rw [if_pos (by simpa using hkl),BO hkl,AG,if_neg hb,AG,Ao (by omega),AG]),
    ih (k+1) out (by omega) (by omega)]
theorem U8 {c s:Int} (h0:0≤c) (h1:c≤1073741824) (w:List (Int × AB)) (r:List AB) (hm:r.length≤4194304) : ∀ (m k:Nat) (out:List AD),k+m=r.length→out.length+m≤4194304 →
  iter (fun (a:Int × (List AD))=>Er c s w r a.1 a.2) ((k:Int),out)=some (tw c s out (Bi w (r.drop k))):=by
 intro m
 induction m with
 | zero=>
  intro k out hk hl
  refine Au ?_
  show Er c s w r (k:Int) out=_
  unfold Er
  rw [if_neg (by simp; omega),List.drop_eq_nil_of_le (by omega)]
  show _=some (Sum.inr (tw c s out []))
  rw [HK]
 | succ m ih=>
  intro k out hk hl
  have hkl:k<r.length:=by omega
  rw [List.drop_eq_getElem_cons hkl,H7,← HA]
  have key:Er c s w r (k:Int) out=some (.inl (((k+1:Nat):Int),if DN w r[k]=true then tw c s out [AD.mk 0 0 0 r[k].Item r[k].Parent r[k].Place [] []] else out)):=by
   unfold Er
   rw [if_pos (by simpa using hkl),BO hkl,AG]
   unfold DN
   cases hg:AK w r[k].Item with
   | none=>
    simp only [Option.isSome_none,Bool.not_false,Bool.true_or,Az,if_true,show ((true:Bool) == false)=false from rfl,AG]
    rw [IC h0 h1 (by omega),AG,AG,Ao (by omega),AG]
   | some y=>
    simp only [Option.isSome_some,Bool.not_true,Bool.false_or,Ax,show ((false:Bool) == false)=true from rfl,AG]
    by_cases hp:y.Parent=r[k].Parent
    ·simp only [hp,decide_true,Bool.not_true,Bool.false_or,Ax,show ((false:Bool) == false)=true from rfl,AG]
     by_cases hq:y.Place=r[k].Place
     ·rw [if_neg (by simp [hq]),if_neg (by simp [hq]),AG,Ao (by omega),AG]
     ·rw [if_pos (by simp [hq]),if_pos (by simp [hq]),IC h0 h1 (by omega),AG,AG,Ao (by omega),AG]
    ·simp only [hp,decide_false,Bool.not_false,Bool.true_or,Az,if_true,show ((true:Bool) == false)=false from rfl,AG]
     rw [IC h0 h1 (by omega),AG,AG,Ao (by omega),AG]
  rw [Av (s':=(((k+1:Nat):Int),if DN w r[k]=true then tw c s out [AD.mk 0 0 0 r[k].Item r[k].Parent r[k].Place [] []] else out)) key]
  by_cases hb:DN w r[k]=true
  ·rw [if_pos hb,if_pos hb,ih (k+1) _ (by omega) (by rw [Dq]; simp; omega)]
  ·rw [if_neg hb,if_neg hb,HK,ih (k+1) out (by omega) (by omega)]
def CK (q:Int) (r:List AC):List AD:=r.map fun x=>AD.mk 0 0 1 q 0 [] x.Name x.Value
theorem S2 {c s:Int} (h0:0≤c) (h1:c≤1073741824) (q:Int) (r:List AC) (hm:r.length≤4194304) : ∀ (m k:Nat) (out:List AD),k+m=r.length→out.length+m≤4194304 →
  iter (fun (a:Int × (List AD))=>Ed c s q r a.1 a.2) ((k:Int),out)=some (tw c s out (CK q (r.drop k))):=by
 intro m
 induction m with
 | zero=>
  intro k out hk hl
  refine Au ?_
  show Ed c s q r (k:Int) out=_
  unfold Ed
  rw [if_neg (by simp; omega),List.drop_eq_nil_of_le (by omega)]
  show _=some (Sum.inr (tw c s out []))
  rw [HK]
 | succ m ih=>
  intro k out hk hl
  have hkl:k<r.length:=by omega
  have hd:CK q (r.drop k)=[AD.mk 0 0 1 q 0 [] r[k].Name r[k].Value]++CK q (r.drop (k+1)):=by
   rw [List.drop_eq_getElem_cons hkl]; rfl
  rw [hd,← HA,Av (s':=(((k+1:Nat):Int),tw c s out [AD.mk 0 0 1 q 0 [] r[k].Name r[k].Value])) (by
    show Ed c s q r (k:Int) out=_
    unfold Ed
    rw [if_pos (by simpa using hkl),BO hkl,AG,IC h0 h1 (by omega),AG,Ao (by omega),AG]),
    ih (k+1) _ (by omega) (by rw [Dq]; simp; omega)]
end Go.Proofs.Ytelkfhdgmbahgaa.Al

set_option linter.unusedVariables false
set_option linter.unusedSimpArgs false
namespace Go.Proofs.Ytelkfhdgmbahgaa.Al
open Go.Sort
theorem TV {α:Type} (m:List (Int × α)) (k:Int) (v:α):(Aw m k v).map (·.1)=if k∈m.map (·.1) then m.map (·.1) else m.map (·.1)++[k]:=by
 cases h:Ab m k with
 | none=>
  have h1:=Cd h
  have h2:k ∉ m.map (·.1):=by
   intro hm
   have h3:=h1.1
   clear h h1
   induction m with
   | nil=>cases hm
   | cons x r ih=>
    obtain ⟨q,w⟩:=x
    unfold AK at h3
    split at h3
    ·cases h3
    ·rename_i hq
     rcases List.mem_cons.1 hm with e | e
     ·exact hq e
     ·exact ih e h3
  rw [if_neg h2,h1.2 v,List.map_append]; rfl
 | some j=>
  obtain ⟨w,h1,h2,h3⟩:=CW h
  have h4:k∈m.map (·.1):=by
   have:=List.mem_of_getElem? h1
   exact List.mem_map.2 ⟨_,this,rfl⟩
  rw [if_pos h4,Ti h2]
theorem MF {α:Type} {m:List (Int × α)} {k:Int} (h:k∈m.map (·.1)) : ∃ v,AK m k=some v:=by
 induction m with
 | nil=>cases h
 | cons x r ih=>
  obtain ⟨q,w⟩:=x
  unfold AK
  split
  ·exact ⟨_,rfl⟩
  ·rename_i hq
   rcases List.mem_cons.1 h with e | e
   ·exact absurd e hq
   ·exact ih e
def FX (m:List (Int × Bool)) (ks:List Int):List (Int × Bool):=ks.foldl (fun m k=>Aw m k true) m
theorem Oe : ∀ (ks:List Int) (m:List (Int × Bool)),ks.Nodup→(FX m ks).map (·.1)=m.map (·.1)++ks.filter (fun k=>!decide (k∈m.map (·.1))):=by
 intro ks
 induction ks with
 | nil=>intro m _; simp [FX]
 | cons k ks ih=>
  intro m hn
  obtain ⟨hk,hn⟩:=List.nodup_cons.1 hn
  show (FX (Aw m k true) ks).map (·.1)=_
  rw [ih _ hn,TV,List.filter_cons]
  by_cases hm:k∈m.map (·.1)
  ·rw [if_pos hm,if_neg (by simp [hm])]
  ·rw [if_neg hm,if_pos (by simp [hm]),List.append_assoc,List.singleton_append]
   congr 2
   refine List.filter_congr fun q hq=>?_
   have:q≠k:=fun e=>hk (e ▸ hq)
   simp [this]
theorem Ph {w:List (Int × List AC)} {key:List Int} {R:List (Int × Bool)→Int→Option (List (Int × Bool))} (hR : ∀ m k,k∈w.map (·.1)→R m k=some (Aw m k true)) : ∀ (ks:List Int) (m:List (Int × Bool)),(∀ k∈ks,k∈w.map (·.1)) →
  Cs (DA (fun (_:List (Int × Bool))=>key) key R) ks m=some (FX m ks):=by
 intro ks
 induction ks with
 | nil=>intro m _; rfl
 | cons k ks ih=>
  intro m hk
  show (DA (fun (_:List (Int × Bool))=>key) key R m k).bind _=_
  have:DA (fun (_:List (Int × Bool))=>key) key R m k=some (Aw m k true):=by
   unfold DA
   rw [hR m k (hk k (List.mem_cons_self ..))]
   simp
  rw [this,Option.bind_some,ih _ (fun q hq=>hk q (List.mem_cons_of_mem _ hq))]
  rfl
theorem VQ {m5:List (Int × Bool)} {key:List Int} : ∀ (ks p:List Int),(∀ k∈ks,k∈m5.map (·.1))→p.length+ks.length≤4194304 →
  Cs (DA (fun (_:List Int)=>key) key (fun a k=>D1 m5 a k)) ks p=some (p++ks):=by
 intro ks
 induction ks with
 | nil=>intro p _ _; rw [List.append_nil]; rfl
 | cons k ks ih=>
  intro p hk hl
  simp only [List.length_cons] at hl
  show (DA (fun (_:List Int)=>key) key (fun a k=>D1 m5 a k) p k).bind _=_
  have:DA (fun (_:List Int)=>key) key (fun a k=>D1 m5 a k) p k=some (p++[k]):=by
   unfold DA
   have e:D1 m5 p k=some (p++[k]):=by
    unfold D1
    obtain ⟨v,hv⟩:=MF (hk k (List.mem_cons_self ..))
    rw [hv,AG]
    unfold app
    rw [if_pos ⟨by simp; omega,by simp; omega⟩,AG]
   show (D1 m5 p k).bind _=_
   rw [e]; simp
  rw [this,Option.bind_some,ih _ (fun q hq=>hk q (List.mem_cons_of_mem _ hq)) (by simp; omega)]
  simp
def B6 (a b:List Int):List Int:=(a++b.filter fun k=>!decide (k∈a)).mergeSort Ba
theorem U4 {a b ks ks':List Int} (h1:ks.Perm a) (h2:ks'.Perm b):(ks++ks'.filter fun k=>!decide (k∈ks)).Perm (a++b.filter fun k=>!decide (k∈a)):=by
 refine h1.append ?_
 have e:(fun k=>!decide (k∈ks))=fun k=>!decide (k∈a):=by
  funext k
  simp [h1.mem_iff]
 rw [e]
 exact h2.filter _
theorem UT {ρ:Type} {w2 w4:List (Int × List AC)} (u2:(w2.map (·.1)).Nodup) (u4:(w4.map (·.1)).Nodup) (hl:w2.length+w4.length≤4194304) {rest:List Int→Option ρ} {r:ρ}
  (hr:rest (B6 (w2.map (·.1)) (w4.map (·.1)))=some r) :
  (DH (fun (_:(List (Int × Bool)))=>w2.map (·.1)) (fun (a:(List (Int × Bool))) (k1:Int)=>Gd w2 a k1) [] fun (a:(List (Int × Bool)))=>
  AH (some a) fun (m2:List (Int × Bool))=>
  DH (fun (_:(List (Int × Bool)))=>w4.map (·.1)) (fun (a:(List (Int × Bool))) (k2:Int)=>GA w4 a k2) m2 fun (a:(List (Int × Bool)))=>
  AH (some a) fun (m5:List (Int × Bool))=>
  DH (fun (_:(List Int))=>m5.map (·.1)) (fun (a:(List Int)) (k3:Int)=>D1 m5 a k3) [] fun (a:(List Int))=>
  AH (some a) fun (all2:List Int)=>
  AH (D9 all2) rest)=some r:=by
 refine KO ⟨u2,fun ks hks=>?_⟩
 rw [Ph (w:=w2) (fun m k hk=>by
  unfold Gd
  obtain ⟨v,hv⟩:=MF hk
  rw [hv,AG]) ks [] (fun k hk=>hks.subset hk),Option.bind_some,AG]
 have k2:=Oe ks [] (hks.nodup_iff.2 u2)
 have k2':(FX [] ks).map (·.1)=ks:=by rw [k2]; simp
 refine KO ⟨u4,fun ks' hks'=>?_⟩
 rw [Ph (w:=w4) (fun m k hk=>by
  unfold GA
  obtain ⟨v,hv⟩:=MF hk
  rw [hv,AG]) ks' _ (fun k hk=>hks'.subset hk),Option.bind_some,AG]
 have k5:=Oe ks' (FX [] ks) (hks'.nodup_iff.2 u4)
 rw [k2'] at k5
 generalize FX (FX [] ks) ks'=m5 at k5 ⊢
 have hn:(m5.map (·.1)).Nodup:=by
  rw [k5,List.nodup_append]
  refine ⟨hks.nodup_iff.2 u2,(hks'.nodup_iff.2 u4).filter _,fun a ha b hb e=>?_⟩
  subst e
  have:=(List.mem_filter.1 hb).2
  simp [ha] at this
 have hp:(m5.map (·.1)).Perm (w2.map (·.1)++(w4.map (·.1)).filter fun k=>!decide (k∈w2.map (·.1))):=by rw [k5]; exact U4 hks hks'
 have hlen:(m5.map (·.1)).length≤4194304:=by
  rw [hp.length_eq,List.length_append,List.length_map]
  have:=List.length_filter_le (fun k=>!decide (k∈w2.map (·.1))) (w4.map (·.1))
  rw [List.length_map] at this
  omega
 refine KO ⟨hn,fun l hl2=>?_⟩
 have hl2:l.Perm (m5.map (·.1)):=hl2
 rw [VQ l [] (fun k hk=>hl2.subset hk) (by rw [hl2.length_eq]; simpa using hlen),Option.bind_some,AG,List.nil_append]
 have hs:D9 l=some (B6 (w2.map (·.1)) (w4.map (·.1))):=by
  unfold D9 B6
  rw [if_pos (by rw [hl2.length_eq]; omega)]
  congr 1
  exact O0 (hl2.trans hp)
 rw [hs,AG,hr]
end Go.Proofs.Ytelkfhdgmbahgaa.Al

set_option linter.unusedVariables false
set_option linter.unusedSimpArgs false
namespace Go.Proofs.Ytelkfhdgmbahgaa.Al
open Go.Sort
theorem Nv {a b:List AC} (ha:A5 a false=0) (hb:A5 b false=0):A5 (A6 Cm a b []) true=0:=
 O8 LT Lw ha hb fun x y e hx hy h=>by
  unfold Em at h
  split at h
  ·cases h
  ·rename_i x; cases h; exact ⟨(hx x rfl).1,.inr ⟨rfl,rfl⟩⟩
  ·rename_i y; cases h; exact (hy _ rfl).up
  ·rename_i x y
   split at h
   ·cases h
   ·cases h; exact (hy _ rfl).up
theorem Q5 (a b:List AC):(A6 Cm a b []).length≤a.length+b.length:=by
 have:=OW Cm PE _ a b [] rfl
 simpa using this
def C5 (w2 w4:List (Int × List AC)) (q:Int):List AC:=A6 Cm ((AK w2 q).getD []) ((AK w4 q).getD []) []
def Bb (w2 w4:List (Int × List AC)):List Int→List AD
 | []=>[]
 | q :: r=>CK q (C5 w2 w4 q)++Bb w2 w4 r
theorem Ho (q:Int) (r:List AC):(CK q r).length=r.length:=by unfold CK; rw [List.length_map]
theorem U0 {c s:Int} (h0:0≤c) (h1:c≤1073741824) (w2 w4:List (Int × List AC)) (hb : ∀ q,((AK w2 q).getD []).length+((AK w4 q).getD []).length≤4194304) (w5:List Int) (hm:w5.length≤4194304) : ∀ (m k:Nat) (out:List AD),k+m=w5.length→out.length+(Bb w2 w4 (w5.drop k)).length≤4194304 →
  iter (fun (a:Int × (List AD))=>EJ c s w2 w4 w5 a.1 a.2) ((k:Int),out)=some (tw c s out (Bb w2 w4 (w5.drop k))):=by
 intro m
 induction m with
 | zero=>
  intro k out hk hl
  refine Au ?_
  show EJ c s w2 w4 w5 (k:Int) out=_
  unfold EJ
  rw [if_neg (by simp; omega),List.drop_eq_nil_of_le (by omega)]
  show _=some (Sum.inr (tw c s out []))
  rw [HK]
 | succ m ih=>
  intro k out hk hl
  have hkl:k<w5.length:=by omega
  have hd:Bb w2 w4 (w5.drop k)=CK w5[k] (C5 w2 w4 w5[k])++Bb w2 w4 (w5.drop (k+1)):=by
   rw [List.drop_eq_getElem_cons hkl]; rfl
  rw [hd,List.length_append,Ho] at hl
  have hq:=hb w5[k]
  have hs:=S2 (s:=s) h0 h1 w5[k] (C5 w2 w4 w5[k]) (by omega) (C5 w2 w4 w5[k]).length 0 out (by omega) (by omega)
  rw [List.drop_zero] at hs
  have hs':iter (fun (a:Int × (List AD))=>Ed c s w5[k] (C5 w2 w4 w5[k]) a.1 a.2) (0,out)=_:=hs
  rw [hd,← HA,Av (s':=(((k+1:Nat):Int),tw c s out (CK w5[k] (C5 w2 w4 w5[k])))) (by
    show EJ c s w2 w4 w5 (k:Int) out=_
    unfold EJ
    rw [if_pos (by simpa using hkl),BO hkl,AG,Q0 _ _ (by omega),AG]
    show AH (iter (fun (a:Int × (List AD))=>Ed c s w5[k] (C5 w2 w4 w5[k]) a.1 a.2) (0,out)) _=_
    rw [hs',AG,Ao (by omega),AG]),
    ih (k+1) _ (by omega) (by rw [Dq,Ho]; omega)]
def Db (w1 w3:List (Int × AB)) (w2 w4:List (Int × List AC)) (r1 r2:List AB):List AD:=
 BV w3 r1++(Bi w1 r2++Bb w2 w4 (B6 (w2.map (·.1)) (w4.map (·.1))))
theorem KX (w:List (Int × AB)) (r:List AB):(BV w r).length≤r.length:=by
 unfold BV; rw [List.length_map]; exact List.length_filter_le ..
theorem JX (w:List (Int × AB)) (r:List AB):(Bi w r).length≤r.length:=by
 unfold Bi; rw [List.length_map]; exact List.length_filter_le ..
end Go.Proofs.Ytelkfhdgmbahgaa.Al

set_option linter.unusedVariables false
set_option linter.unusedSimpArgs false
namespace Go.Proofs.Ytelkfhdgmbahgaa.Al
open Go.Sort
def Ej (w:List (Int × List AC)) (q:Int):Nat:=((AK w q).getD []).length
theorem Tt (k:Int) (n:Nat) : ∀ ids:List Int,ids.Nodup→(ids.map fun q=>if q=k then n else 0).sum≤if k∈ids then n else 0:=by
 intro ids
 induction ids with
 | nil=>intro _; simp
 | cons a r ih=>
  intro hn
  obtain ⟨h1,h2⟩:=List.nodup_cons.1 hn
  have:=ih h2
  rw [List.map_cons,List.sum_cons]
  by_cases e:a=k
  ·subst e
   rw [if_pos rfl,if_pos (List.mem_cons_self ..)]
   rw [if_neg h1] at this
   omega
  ·rw [if_neg e]
   by_cases e2:k∈r
   ·rw [if_pos e2] at this; rw [if_pos (List.mem_cons_of_mem _ e2)]; omega
   ·rw [if_neg e2] at this; omega
theorem Q7 {α:Type} (f g h:α→Nat) (hf : ∀ x,f x≤g x+h x) : ∀ l:List α,(l.map f).sum≤(l.map g).sum+(l.map h).sum:=by
 intro l
 induction l with
 | nil=>simp
 | cons a r ih=>simp only [List.map_cons,List.sum_cons]; have:=hf a; omega
theorem I3 : ∀ (w:List (Int × List AC)) (ids:List Int),ids.Nodup→(ids.map (Ej w)).sum≤(w.map (·.2.length)).sum:=by
 intro w
 induction w with
 | nil=>
  intro ids _
  induction ids with
  | nil=>simp
  | cons a r ih=>
   rename_i hn
   have:=ih (List.nodup_cons.1 hn).2
   rw [List.map_cons,List.sum_cons]
   show 0+_≤_
   omega
 | cons p r ih=>
  intro ids hn
  have h1:=Q7 (Ej (p :: r)) (fun q=>if q=p.1 then p.2.length else 0) (Ej r) (fun q=>by
   unfold Ej
   show ((if q=p.1 then some p.2 else AK r q).getD []).length≤_
   split
   ·simp
   ·omega) ids
  have h2:=Tt p.1 p.2.length ids hn
  have h3:=ih ids hn
  rw [List.map_cons,List.sum_cons]
  split at h2 <;> omega
theorem LX (A:List AB):((AO A).map (·.2.length)).sum=(A.map (·.Attrs.length)).sum:=by
 unfold AO; rw [List.map_map]; rfl
theorem D5 (A:List AB):(AO A).map (·.1)=A.map (·.Item):=by
 unfold AO; rw [List.map_map]; rfl
theorem RS (w2 w4:List (Int × List AC)) : ∀ ids:List Int,(Bb w2 w4 ids).length≤(ids.map (Ej w2)).sum+(ids.map (Ej w4)).sum:=by
 intro ids
 induction ids with
 | nil=>simp [Bb]
 | cons q r ih=>
  unfold Bb
  rw [List.length_append,Ho]
  have:=Q5 ((AK w2 q).getD []) ((AK w4 q).getD [])
  simp only [List.map_cons,List.sum_cons]
  have e:(C5 w2 w4 q).length≤Ej w2 q+Ej w4 q:=this
  omega
theorem MA {a b:List Int} (ha:a.Nodup) (hb:b.Nodup):(B6 a b).Nodup:=by
 unfold B6
 refine (List.mergeSort_perm ..).nodup_iff.2 ?_
 rw [List.nodup_append]
 refine ⟨ha,hb.filter _,fun x hx y hy e=>?_⟩
 subst e
 have:=(List.mem_filter.1 hy).2
 simp [hx] at this
theorem Th (a b:List Int):(B6 a b).length≤a.length+b.length:=by
 unfold B6
 rw [(List.mergeSort_perm ..).length_eq,List.length_append]
 have:=List.length_filter_le (fun k=>!decide (k∈a)) b
 omega
theorem Jv {k m:Nat} {I1 A1 I2 A2:List AB} (d1:DI k I1 A1) (d2:DI m I2 A2):(Bb (AO A1) (AO A2) (B6 ((AO A1).map (·.1)) ((AO A2).map (·.1)))).length≤k+m:=by
 have n1:((AO A1).map (·.1)).Nodup:=by rw [D5]; exact d1.ua
 have n2:((AO A2).map (·.1)).Nodup:=by rw [D5]; exact d2.ua
 have hn:=MA n1 n2
 have h:=RS (AO A1) (AO A2) (B6 ((AO A1).map (·.1)) ((AO A2).map (·.1)))
 have h1:=I3 (AO A1) _ hn
 have h2:=I3 (AO A2) _ hn
 rw [LX] at h1 h2
 have:=d1.sa
 have:=d2.sa
 omega
theorem DI.fo0 {n:Nat} {items attrs:List AB} (h:DI n items attrs) (hn:n≤1048576) : ∃ d M,Fo items d M∧Fo (items.map (wa attrs)) d M:=by
 obtain ⟨d,hd⟩:=h.rk
 obtain ⟨M,hM⟩:=SK d (items.map (wa attrs))
 refine ⟨d,M,⟨h.uq,h.id,hd,fun x hx=>hM (wa attrs x) (List.mem_map.2 ⟨x,hx,rfl⟩),by have:=h.li; omega⟩,?_,fun x hx=>?_,fun x hx=>?_,hM,by have:=h.li; simp; omega⟩
 ·have:=h.uq
  unfold Uq at *
  rw [List.map_map]; exact this
 ·obtain ⟨y,hy,rfl⟩:=List.mem_map.1 hx; exact h.id y hy
 ·obtain ⟨y,hy,rfl⟩:=List.mem_map.1 hx; exact hd y hy
end Go.Proofs.Ytelkfhdgmbahgaa.Al

set_option linter.unusedVariables false
set_option linter.unusedSimpArgs false
namespace Go.Proofs.Ytelkfhdgmbahgaa.Al
open Go.Sort
theorem H3 (c s:Int) : ∀ (ops:List AD) (n i:Nat) (h:i<ops.length),(BN c s n ops)[i]? = some (AD.mk (c+((n+i:Nat):Int)) s ops[i].Kind ops[i].Item ops[i].Parent ops[i].Place ops[i].Name ops[i].Value):=by
 intro ops
 induction ops with
 | nil=>intro n i h; simp at h
 | cons o r ih=>
  intro n i h
  cases i with
  | zero=>simp [BN]
  | succ i=>
   have:=ih (n+1) i (by simpa using h)
   unfold BN
   rw [List.getElem?_cons_succ,this]
   simp
   omega
theorem FI {A:List AB} {d:Int→Nat} (hr:Rk A d) (N:Nat) : ∀ (ids:List Int) (out:List AB),D2 A out→D2 A (BA A N ids out):=by
 intro ids
 induction ids with
 | nil=>intro out h; exact h
 | cons q r ih=>intro out h; exact ih _ (h.up hr N q)
theorem E7 (A:List AB):D2 A []:=⟨List.Pairwise.nil,fun z hz=>by cases hz⟩
def Dn (c:Int) (n:Nat):Bool:=decide (0<n) && decide (1073741824<c+(n:Int)-1)
theorem RW {l want:List AD} (hl:CT l) (hw:CT want) (hb:l.length+want.length≤1048576) (el:BP l=0) (ew:BP want=0) {c s:Int} (hc:1≤c∧c≤1073741824) (hs:0≤s∧s≤1000)
  (hk : ∀ h:0<l.length,l[l.length-1].Clock<c) {I1 A1 I2 A2:List AB} (d1:DI l.length I1 A1) (d2:DI want.length I2 A2) (p1:DR l=some (AJ I1,AO A1)) (p2:DR want=some (AJ I2,AO A2))
  {e1 e2:Int→Nat} {M1 M2:Nat} (f1:Fo I1 e1 M1) (f2:Fo I2 e2 M2) {ops:List AD} (hops:ops=Db (AJ I1) (AJ I2) (AO A1) (AO A2) (BA I1 (M1+1) (Ar I1) []) (BA I2 (M2+1) (Ar I2) [])) :
  Fu l want c s=if Dn c ops.length=true then some ([],18) else some (tw c s [] ops,0):=by
 have r1:=(FI f1.rk (M1+1) (Ar I1) [] (E7 _)).len
 have r2:=(FI f2.rk (M2+1) (Ar I2) [] (E7 _)).len
 have hli1:=d1.li
 have hli2:=d2.li
 have hla1:=d1.la
 have hla2:=d2.la
 have hsb:=Jv d1 d2
 unfold Fu
 have hch:iter (fun (a:Int)=>Bq l want a) 0=some (.nrm ()):=by
  rw [Av (s':=1) (by
   show Bq l want 0=_
   unfold Bq
   rw [if_pos (by decide),show AN [l,want] 0=some l from rfl,AG,Ex l hl (by omega),el,AG,if_neg (by decide)]
   rfl),Av (s':=2) (by
   show Bq l want 1=_
   unfold Bq
   rw [if_pos (by decide),show AN [l,want] 1=some want from rfl,AG,Ex want hw (by omega),ew,AG,if_neg (by decide)]
   rfl)]
  refine Au ?_
  show Bq l want 2=_
  unfold Bq
  rw [if_neg (by decide)]
 rw [hch]
 simp only [A0]
 have hcond:(((decide (c<1) || decide (1073741824<c)) || decide (s<0)) || decide (1000<s))=false:=by
  simp; omega
 rw [hcond]
 generalize hO:BA I1 (M1+1) (Ar I1) []=O1 at *
 generalize hO2:BA I2 (M2+1) (Ar I2) []=O2 at *
 have hrest : ∀ (x5:AD),((decide (0<(l.length:Int))) && (decide (c≤x5.Clock)))=false →
  (if ((false:Bool) || ((decide (0<(l.length:Int))) && (decide (c≤x5.Clock))))=true then (some (([]:List AD),(2:Int))) else (
  BU (DR l) fun (w1:List (Int × AB)) (w2:List (Int × (List AC)))=>
  BU (DR want) fun (w3:List (Int × AB)) (w4:List (Int × (List AC)))=>
  AH (Fx w1 w2) fun (r1:List AB)=>
  AH (iter (fun (a:Int × (List AD))=>Dr c s w3 r1 a.1 a.2) (0,[])) fun (out4:List AD)=>
  AH (Fx w3 w4) fun (r2:List AB)=>
  AH (iter (fun (a:Int × (List AD))=>Er c s w1 r2 a.1 a.2) (0,out4)) fun (out8:List AD)=>
  DH (fun (_:(List (Int × Bool)))=>w2.map (·.1)) (fun (a:(List (Int × Bool))) (k1:Int)=>Gd w2 a k1) [] fun (a:(List (Int × Bool)))=>
  AH (some a) fun (m2:List (Int × Bool))=>
  DH (fun (_:(List (Int × Bool)))=>w4.map (·.1)) (fun (a:(List (Int × Bool))) (k2:Int)=>GA w4 a k2) m2 fun (a:(List (Int × Bool)))=>
  AH (some a) fun (m5:List (Int × Bool))=>
  DH (fun (_:(List Int))=>m5.map (·.1)) (fun (a:(List Int)) (k3:Int)=>D1 m5 a k3) [] fun (a:(List Int))=>
  AH (some a) fun (all2:List Int)=>
  AH (D9 all2) fun (w5:List Int)=>
  AH (iter (fun (a:Int × (List AD))=>EJ c s w2 w4 w5 a.1 a.2) (0,out8)) fun (out12:List AD)=>
  AH (gd ((decide (0<(out12.length:Int))) == true) (Ac .i64 ((out12.length:Int)-1))) fun (x15:Int)=>
  AH (gd ((decide (0<(out12.length:Int))) == true) (AN out12 x15)) fun (x16:AD)=>
  if ((decide (0<(out12.length:Int))) && (decide (1073741824<x16.Clock))) then (
   some ([],18)
  ) else (
   some (out12,0)
  )))=if Dn c ops.length=true then some ([],18) else some (tw c s [] ops,0):=by
  intro x5 hx5
  rw [hx5,if_neg (by decide),p1,p2,A4,A4,Ok f1,hO,AG]
  have t1:=Tr (c:=c) (s:=s) (by omega) hc.2 (AJ I2) O1 (by omega) O1.length 0 [] (by omega) (by simp; omega)
  rw [List.drop_zero] at t1
  have t1':iter (fun (a:Int × (List AD))=>Dr c s (AJ I2) O1 a.1 a.2) (0,[])=_:=t1
  rw [t1',AG,Ok f2,hO2,AG]
  have b1:=KX (AJ I2) O1
  have b2:=JX (AJ I1) O2
  have t2:=U8 (c:=c) (s:=s) (by omega) hc.2 (AJ I1) O2 (by omega) O2.length 0 (tw c s [] (BV (AJ I2) O1)) (by omega) (by rw [Dq]; simp; omega)
  rw [List.drop_zero] at t2
  have t2':iter (fun (a:Int × (List AD))=>Er c s (AJ I1) O2 a.1 a.2) (0,tw c s [] (BV (AJ I2) O1))=_:=t2
  rw [t2',AG,HA]
  have n1:((AO A1).map (·.1)).Nodup:=by rw [D5]; exact d1.ua
  have n2:((AO A2).map (·.1)).Nodup:=by rw [D5]; exact d2.ua
  have la1:(AO A1).length=A1.length:=by unfold AO; rw [List.length_map]
  have la2:(AO A2).length=A2.length:=by unfold AO; rw [List.length_map]
  have hgoal:(if Dn c ops.length=true then some (([]:List AD),(18:Int)) else some (tw c s [] ops,0))=some (if Dn c ops.length=true then ([],18) else (tw c s [] ops,0)):=by split <;> rfl
  rw [hgoal]
  refine UT n1 n2 (by omega) ?_
  have hq : ∀ q,((AK (AO A1) q).getD []).length+((AK (AO A2) q).getD []).length≤4194304:=fun q=>by
   have g1:=I3 (AO A1) [q] (by simp)
   have g2:=I3 (AO A2) [q] (by simp)
   rw [LX] at g1 g2
   have:=d1.sa
   have:=d2.sa
   simp [Ej] at g1 g2
   omega
  have hul:=Th ((AO A1).map (·.1)) ((AO A2).map (·.1))
  simp only [List.length_map] at hul
  have t3:=U0 (c:=c) (s:=s) (by omega) hc.2 (AO A1) (AO A2) hq (B6 ((AO A1).map (·.1)) ((AO A2).map (·.1))) (by omega) (B6 ((AO A1).map (·.1)) ((AO A2).map (·.1))).length 0 (tw c s [] (BV (AJ I2) O1++Bi (AJ I1) O2)) (by omega) (by rw [List.drop_zero,Dq]; simp; omega)
  rw [List.drop_zero,HA,List.append_assoc] at t3
  have t3':iter (fun (a:Int × (List AD))=>EJ c s (AO A1) (AO A2) (B6 ((AO A1).map (·.1)) ((AO A2).map (·.1))) a.1 a.2) (0,tw c s [] (BV (AJ I2) O1++Bi (AJ I1) O2))=some (tw c s [] ops):=by rw [hops]; exact t3
  show AH (iter (fun (a:Int × (List AD))=>EJ c s (AO A1) (AO A2) (B6 ((AO A1).map (·.1)) ((AO A2).map (·.1))) a.1 a.2) (0,tw c s [] (BV (AJ I2) O1++Bi (AJ I1) O2))) _=_
  rw [t3',AG]
  have hol:ops.length≤4194304:=by
   rw [hops]; unfold Db; simp only [List.length_append]; omega
  have htl:(tw c s [] ops).length=ops.length:=by rw [Dq]; simp
  rw [htl]
  unfold Dn
  by_cases h0:0<ops.length
  ·have hlast:=H3 c s ops 0 (ops.length-1) (by omega)
   have hx:AN (tw c s [] ops) ((ops.length-1:Nat):Int)=(BN c s 0 ops)[ops.length-1]?:=by
    show AN (BN c s 0 ops) _=_
    unfold AN
    rw [if_pos (by omega),Int.toNat_natCast]
   rw [show decide (0<(ops.length:Int))=true by simpa using h0]
   simp only [beq_self_eq_true,Ax]
   rw [F3 h0 (by omega),AG,hx,hlast,AG]
   have e3:c+((0+(ops.length-1):Nat):Int)=c+(ops.length:Int)-1:=by omega
   simp only [e3,decide_eq_true h0]
   split <;> rfl
  ·rw [show decide (0<(ops.length:Int))=false by simpa using h0,decide_eq_false h0]
   simp [Az]
 by_cases h0:0<l.length
 ·have hlast:=hk h0
  rw [show decide (0<(l.length:Int))=true by simpa using h0] at hrest ⊢
  simp only [beq_self_eq_true,Bool.and_self,show ((false:Bool) == false)=true from rfl,Ax]
  rw [F3 h0 (by omega),AG,BO (by omega),AG]
  refine hrest l[l.length-1] ?_
  simp; omega
 ·rw [show decide (0<(l.length:Int))=false by simpa using h0] at hrest ⊢
  simp only [show ((false:Bool) == true)=false from rfl,Bool.and_false,Az]
  exact hrest default rfl
end Go.Proofs.Ytelkfhdgmbahgaa.Al

set_option linter.unusedVariables false
set_option linter.unusedSimpArgs false
namespace Go.Proofs.Ytelkfhdgmbahgaa.Al
open Go.Sort
structure Kp (f:AB→AB):Prop where
 i : ∀ x,(f x).Item=x.Item
 p : ∀ x,(f x).Parent=x.Parent
 l : ∀ x,(f x).Place=x.Place
theorem Fh (attrs:List AB):Kp (wa attrs):=⟨fun _=>rfl,fun _=>rfl,fun _=>rfl⟩
theorem Lu {f:AB→AB} (hf:Kp f) (A:List AB) (q:Int):AK (AJ (A.map f)) q=(AK (AJ A) q).map f:=by
 induction A with
 | nil=>rfl
 | cons a r ih=>
  show (if q=(f a).Item then some (f a) else AK (AJ (r.map f)) q)=(if q=a.Item then some a else AK (AJ r) q).map f
  rw [hf.i,ih]
  split <;> rfl
theorem Ua {f:AB→AB} (hf:Kp f) (A:List AB) (q:Int):Ag (A.map f) q=Ag A q:=by
 unfold Ag
 rw [List.any_map]
 congr 1
 funext x
 simp [hf.i]
theorem Q9 {f:AB→AB} (hf:Kp f) (A:List AB) (S:Int→Bool) : ∀ (n:Nat) (q:Int),BC (A.map f) S n q=(BC A S n q).map f:=by
 intro n
 induction n with
 | zero=>intro q; rfl
 | succ n ih=>
  intro q
  unfold BC
  rw [Lu hf]
  cases AK (AJ A) q with
  | none=>rfl
  | some x=>
   simp only [Option.map_some]
   split
   ·rfl
   ·rw [hf.p,ih,List.map_append]; rfl
theorem Og {f:AB→AB} (hf:Kp f) (A:List AB) (N:Nat) : ∀ (ids:List Int) (out:List AB),BA (A.map f) N ids (out.map f)=(BA A N ids out).map f:=by
 intro ids
 induction ids with
 | nil=>intro out; rfl
 | cons q r ih=>
  intro out
  unfold BA
  rw [show Ag (out.map f)=Ag out from funext fun q=>Ua hf out q,Q9 hf,← List.map_append,ih]
theorem O4 {f:AB→AB} (hf:Kp f) (A:List AB):Ar (A.map f)=Ar A:=by
 unfold Ar
 rw [List.map_map]
 congr 1
 refine List.map_congr_left fun x _=>?_
 exact hf.i x
theorem GH (A:List AB) (q:Int):(AK (AJ A) q).isSome=Ag A q:=by
 induction A with
 | nil=>rfl
 | cons a r ih=>
  show (if q=a.Item then some a else AK (AJ r) q).isSome=(decide (a.Item=q) || Ag r q)
  by_cases h:q=a.Item
  ·rw [if_pos h,decide_eq_true h.symm]; rfl
  ·rw [if_neg h,ih,decide_eq_false (Ne.symm h)]; rfl
theorem Sc {f g:AB→AB} (hf:Kp f) (hg:Kp g) (A r:List AB):BV (AJ (A.map f)) (r.map g)=BV (AJ A) r:=by
 induction r with
 | nil=>rfl
 | cons x r ih=>
  rw [List.map_cons,If,If,ih,hg.i,hg.p,hg.l,Lu hf]
  simp
theorem VR {f g:AB→AB} (hf:Kp f) (hg:Kp g) (A:List AB) (x:AB):DN (AJ (A.map f)) (g x)=DN (AJ A) x:=by
 unfold DN
 rw [hg.i,hg.p,hg.l,Lu hf]
 cases AK (AJ A) x.Item with
 | none=>rfl
 | some y=>simp only [Option.map_some,hf.p,hf.l]
theorem Ty {f g:AB→AB} (hf:Kp f) (hg:Kp g) (A r:List AB):Bi (AJ (A.map f)) (r.map g)=Bi (AJ A) r:=by
 induction r with
 | nil=>rfl
 | cons x r ih=>rw [List.map_cons,H7,H7,ih,VR hf hg,hg.i,hg.p,hg.l]
theorem Uu (A r:List AB) (hA:A.length≤1048576) (hm:r.length≤1048576) : ∀ (m k:Nat) (out:List Int),k+m=r.length→out.length+m≤4194304 →
  iter (fun (a:Int × (List Int))=>ED A r a.1 a.2) ((k:Int),out)=some (out++(BV (AJ A) (r.drop k)).map (·.Item)):=by
 intro m
 induction m with
 | zero=>
  intro k out hk hl
  refine Au ?_
  show ED A r (k:Int) out=_
  unfold ED
  rw [if_neg (by simp; omega),List.drop_eq_nil_of_le (by omega)]
  simp [BV]
 | succ m ih=>
  intro k out hk hl
  have hkl:k<r.length:=by omega
  rw [List.drop_eq_getElem_cons hkl,If,List.map_append,← List.append_assoc]
  have hb:(decide (Bf A r[k].Item<0) && !decide (r[k].Parent = -1))=(!(AK (AJ A) r[k].Item).isSome && !decide (r[k].Parent = -1)):=by rw [JL,GH]
  by_cases hc:(!(AK (AJ A) r[k].Item).isSome && !decide (r[k].Parent = -1))=true
  ·rw [if_pos hc,Av (s':=(((k+1:Nat):Int),out++[r[k].Item])) (by
    show ED A r (k:Int) out=_
    unfold ED
    rw [if_pos (by simpa using hkl),BO hkl,AG,Cv _ _ (by omega),AG,hb,if_pos hc,GC (by omega),AG,AG,Ao (by omega),AG]),
    ih (k+1) _ (by omega) (by simp; omega)]
   rfl
  ·rw [if_neg hc,Av (s':=(((k+1:Nat):Int),out)) (by
    show ED A r (k:Int) out=_
    unfold ED
    rw [if_pos (by simpa using hkl),BO hkl,AG,Cv _ _ (by omega),AG,hb,if_neg hc,AG,Ao (by omega),AG]),
    ih (k+1) _ (by omega) (by omega)]
   simp
theorem Rp (A r:List AB) (hA:A.length≤1048576) (hm:r.length≤1048576) : ∀ (m k:Nat) (out:List Int),k+m=r.length→out.length+m≤4194304 →
  iter (fun (a:Int × (List Int))=>FB A r a.1 a.2) ((k:Int),out)=some (out++(Bi (AJ A) (r.drop k)).map (·.Item)):=by
 intro m
 induction m with
 | zero=>
  intro k out hk hl
  refine Au ?_
  show FB A r (k:Int) out=_
  unfold FB
  rw [if_neg (by simp; omega),List.drop_eq_nil_of_le (by omega)]
  simp [Bi]
 | succ m ih=>
  intro k out hk hl
  have hkl:k<r.length:=by omega
  rw [List.drop_eq_getElem_cons hkl,H7,List.map_append,← List.append_assoc]
  have key:FB A r (k:Int) out=some (.inl (((k+1:Nat):Int),if DN (AJ A) r[k]=true then out++[r[k].Item] else out)):=by
   unfold FB
   rw [if_pos (by simpa using hkl),BO hkl,AG,Cv _ _ (by omega),AG]
   unfold DN
   cases hx:Ab (AJ A) r[k].Item with
   | none=>
    have hg:AK (AJ A) r[k].Item=none:=(Cd hx).1
    have hf:Bf A r[k].Item = -1:=by unfold Bf; rw [hx]
    rw [hg,hf]
    simp only [show decide ((-1:Int)<0)=true from rfl,Bool.true_or,Az,if_true,show ((true:Bool) == false)=false from rfl,AG]
    rw [GC (by omega),AG,AG,Ao (by omega),AG]
   | some j=>
    obtain ⟨hj,ej⟩:=Cu hx
    have hg:AK (AJ A) r[k].Item=some A[j]:=by rw [HY,hx,Option.bind_some,List.getElem?_eq_getElem hj]
    have hf:Bf A r[k].Item=(j:Int):=by unfold Bf; rw [hx]
    rw [hg,hf]
    have h0:decide ((j:Int)<0)=false:=by simp
    simp only [h0,Bool.false_or,Ax,show ((false:Bool) == false)=true from rfl]
    rw [BO hj,AG]
    by_cases hp:A[j].Parent=r[k].Parent
    ·simp only [hp,decide_true,Bool.not_true,Bool.false_or,Ax,show ((false:Bool) == false)=true from rfl,AG]
     by_cases hq:A[j].Place=r[k].Place
     ·rw [if_neg (by simp [hq]),if_neg (by simp [hq]),AG,Ao (by omega),AG]
     ·rw [if_pos (by simp [hq]),if_pos (by simp [hq]),GC (by omega),AG,AG,Ao (by omega),AG]
    ·simp only [hp,decide_false,Bool.not_false,Bool.true_or,Az,if_true,show ((true:Bool) == false)=false from rfl,AG]
     rw [GC (by omega),AG,AG,Ao (by omega),AG]
  rw [Av (s':=(((k+1:Nat):Int),if DN (AJ A) r[k]=true then out++[r[k].Item] else out)) key]
  by_cases hb:DN (AJ A) r[k]=true
  ·rw [if_pos hb,if_pos hb,ih (k+1) _ (by omega) (by simp; omega)]; rfl
  ·rw [if_neg hb,if_neg hb,ih (k+1) out (by omega) (by omega)]; simp
end Go.Proofs.Ytelkfhdgmbahgaa.Al

set_option linter.unusedVariables false
set_option linter.unusedSimpArgs false
namespace Go.Proofs.Ytelkfhdgmbahgaa.Al
open Go.Sort
def E1 (last next z:Int):Int:=if last<z∧(next=0∨z<next) then z else next
theorem Uh (last:Int) (r:List AB) (hm:r.length≤4194304) : ∀ (m k:Nat) (next:Int),k+m=r.length →
  iter (fun (a:Int × Int)=>E8 last r a.1 a.2) (next,(k:Int))=some (((r.drop k).map (·.Item)).foldl (E1 last) next):=by
 intro m
 induction m with
 | zero=>
  intro k next hk
  refine Au ?_
  show E8 last r next (k:Int)=_
  unfold E8
  rw [if_neg (by simp; omega),List.drop_eq_nil_of_le (by omega)]
  rfl
 | succ m ih=>
  intro k next hk
  have hkl:k<r.length:=by omega
  rw [List.drop_eq_getElem_cons hkl,List.map_cons,List.foldl_cons,Av (s':=(E1 last next r[k].Item,((k+1:Nat):Int))) (by
   show E8 last r next (k:Int)=_
   unfold E8
   rw [if_pos (by simpa using hkl),BO hkl,AG]
   unfold E1
   by_cases h:last<r[k].Item∧(next=0∨r[k].Item<next)
   ·rw [if_pos h,if_pos (by simpa using h),AG,Ao (by omega),AG]
   ·rw [if_neg h,if_neg (by simpa using h),AG,Ao (by omega),AG]),ih (k+1) _ (by omega)]
theorem Ui (last:Int) (h0:0≤last) : ∀ (l p:List Int) (next:Int),(∀ z∈p++l,1≤z) →
  ((next=0 ∧ ∀ z∈p,¬ last<z)∨(next∈p∧last<next ∧ ∀ z∈p,last<z→next≤z)) →
  ((l.foldl (E1 last) next=0 ∧ ∀ z∈p++l,¬ last<z)∨(l.foldl (E1 last) next∈p++l∧last<l.foldl (E1 last) next ∧ ∀ z∈p++l,last<z→l.foldl (E1 last) next≤z)):=by
 intro l
 induction l with
 | nil=>intro p next _ h; simpa using h
 | cons a r ih=>
  intro p next hz h
  have e:p++a :: r=(p++[a])++r:=by simp
  rw [List.foldl_cons,e]
  rw [e] at hz
  refine ih (p++[a]) _ hz ?_
  unfold E1
  have ha:=hz a (by simp)
  split
  ·rename_i hc
   right
   refine ⟨by simp,hc.1,fun z hzm hlt=>?_⟩
   rcases List.mem_append.1 hzm with hzm | hzm
   ·rcases h with ⟨_,h2⟩ | ⟨h1,h2,h3⟩
    ·exact absurd hlt (h2 z hzm)
    ·have:=h3 z hzm hlt
     rcases hc.2 with hc2 | hc2
     ·omega
     ·omega
   ·simp at hzm; omega
  ·rename_i hc
   rcases h with ⟨h1,h2⟩ | ⟨h1,h2,h3⟩
   ·left
    refine ⟨h1,fun z hzm hlt=>?_⟩
    rcases List.mem_append.1 hzm with hzm | hzm
    ·exact h2 z hzm hlt
    ·simp at hzm; subst hzm; exact hc ⟨hlt,.inl h1⟩
   ·right
    refine ⟨by simp [h1],h2,fun z hzm hlt=>?_⟩
    rcases List.mem_append.1 hzm with hzm | hzm
    ·exact h3 z hzm hlt
    ·simp at hzm; subst hzm
     refine Classical.byContradiction fun hn=>hc ⟨hlt,.inr (by omega)⟩
theorem MO {a b:List Int} {z:Int} : z∈B6 a b↔z∈a++b:=by
 unfold B6
 rw [(List.mergeSort_perm ..).mem_iff,List.mem_append,List.mem_append,List.mem_filter]
 constructor
 ·rintro (h | h)
  ·exact .inl h
  ·exact .inr h.1
 ·rintro (h | h)
  ·exact .inl h
  ·by_cases ha:z∈a
   ·exact .inl ha
   ·exact .inr ⟨h,by simp [ha]⟩
theorem UD {a b:List Int} (ha:a.Nodup) (hb:b.Nodup):(B6 a b).Pairwise (· < ·):=by
 have tr : ∀ a b c:Int,Ba a b=true→Ba b c=true→Ba a c=true:=fun a b c h1 h2=>by unfold Ba at *; simp at *; omega
 have to : ∀ a b:Int,(Ba a b || Ba b a)=true:=fun a b=>by unfold Ba; simp; omega
 have h1:(B6 a b).Pairwise fun x y=>Ba x y=true:=List.pairwise_mergeSort tr to _
 have h2:=MA ha hb
 rw [List.nodup_iff_pairwise_ne] at h2
 refine (h1.and h2).imp fun h=>?_
 obtain ⟨h3,h4⟩:=h
 unfold Ba at h3
 simp at h3
 omega
def ET (u:List Int):Nat→Int
 | 0=>0
 | k+1=>u[k]!
theorem Qy {u all:List Int} (hu:u.Pairwise (· < ·)) (hm : ∀ z,z∈u↔z∈all) (h1 : ∀ z∈all,1≤z) {k:Nat} (hk:k≤u.length):all.foldl (E1 (ET u k)) 0=if h:k<u.length then u[k] else 0:=by
 have hlt:=List.pairwise_iff_getElem.1 hu
 have hb:0≤ET u k:=by
  cases k with
  | zero=>exact Int.le_refl _
  | succ k=>
   show 0≤u[k]!
   rw [getElem!_pos u k (by omega)]
   have:=h1 _ ((hm _).1 (List.getElem_mem (by omega:k<u.length)))
   omega
 have hs:=Ui (ET u k) hb all [] 0 (by simpa using h1) (.inl ⟨rfl,by simp⟩)
 rw [List.nil_append] at hs
 have hbef : ∀ j (hj:j<u.length),(ET u k<u[j]↔k≤j):=fun j hj=>by
  cases k with
  | zero=>
   have:=h1 _ ((hm _).1 (List.getElem_mem hj))
   show 0<u[j]↔_
   omega
  | succ k=>
   show u[k]! < u[j]↔_
   rw [getElem!_pos u k (by omega)]
   rcases Nat.lt_trichotomy k j with h | h | h
   ·have:=hlt k j (by omega) hj h; omega
   ·subst h; omega
   ·have:=hlt j k hj (by omega) h; omega
 split
 ·rename_i h
  have hmem:u[k]∈all:=(hm _).1 (List.getElem_mem h)
  have hlk:=(hbef k h).2 (Nat.le_refl _)
  rcases hs with ⟨_,s2⟩ | ⟨s1,s2,s3⟩
  ·exact absurd hlk (s2 _ hmem)
  ·obtain ⟨j,hj,ej⟩:=List.mem_iff_getElem.1 ((hm _).2 s1)
   rw [← ej] at s2 s3 ⊢
   have hkj:=(hbef j hj).1 s2
   have:=s3 _ hmem hlk
   rcases Nat.lt_or_ge k j with h2 | h2
   ·have:=hlt k j h hj h2; omega
   ·have:j=k:=by omega
    subst this; rfl
 ·rename_i h
  rcases hs with ⟨s1,_⟩ | ⟨s1,s2,_⟩
  ·exact s1
  ·obtain ⟨j,hj,ej⟩:=List.mem_iff_getElem.1 ((hm _).2 s1)
   rw [← ej] at s2
   have:=(hbef j hj).1 s2
   omega
theorem QM (q:Int) (r:List AC) (hq:1≤q∧q≤1073741824) (hm:r.length≤4194304) : ∀ (m k:Nat) (out:List Int),k+m=r.length→out.length+m≤4194304 →
  iter (fun (a:Int × (List Int))=>Eh q r a.1 a.2) ((k:Int),out)=some (.ext (.inl (q,out++(CK q (r.drop k)).map fun o=>-o.Item))):=by
 intro m
 induction m with
 | zero=>
  intro k out hk hl
  refine Au ?_
  show Eh q r (k:Int) out=_
  unfold Eh
  rw [if_neg (by simp; omega),List.drop_eq_nil_of_le (by omega)]
  simp [CK]
 | succ m ih=>
  intro k out hk hl
  have hkl:k<r.length:=by omega
  rw [Av (s':=(((k+1:Nat):Int),out++[-q])) (by
   show Eh q r (k:Int) out=_
   unfold Eh
   rw [if_pos (by simpa using hkl),En (by omega) (by omega),AG,GC (by omega),AG,Ao (by omega),AG]),
   ih (k+1) _ (by omega) (by simp; omega)]
  have hd:CK q (r.drop k)=[AD.mk 0 0 1 q 0 [] r[k].Name r[k].Value]++CK q (r.drop (k+1)):=by
   rw [List.drop_eq_getElem_cons hkl]; rfl
  rw [hd,List.map_append,← List.append_assoc]; rfl
theorem NY (A:List AB) (hA:A.length≤1048576) (q:Int) {α:Type} (f:List AC→Option α):(AH (CN A q) fun k1=>AH (if (decide (0≤k1)) then (AH (AN A k1) fun (x17:AB)=>some x17.Attrs) else (some [])) f)=f ((AK (AO A) q).getD []):=by
 rw [Cv _ _ (by omega),AG]
 unfold Bf
 have hkb:=HU A q
 cases hx:Ab (AJ A) q with
 | none=>
  rw [hx] at hkb
  rw [(Cd hkb).1]
  simp only
  rw [if_neg (by decide),AG]; rfl
 | some j=>
  rw [hx] at hkb
  obtain ⟨hj,ej⟩:=Cu hx
  obtain ⟨v,v1,v2,v3⟩:=CW hkb
  have hv:v=A[j].Attrs:=by
   unfold AO at v1
   rw [List.getElem?_map,List.getElem?_eq_getElem hj] at v1
   simp at v1
   exact v1.2.symm
  simp only
  rw [if_pos (by simp),BO hj,AG,AG,v2,hv]; rfl
end Go.Proofs.Ytelkfhdgmbahgaa.Al

set_option linter.unusedVariables false
set_option linter.unusedSimpArgs false
namespace Go.Proofs.Ytelkfhdgmbahgaa.Al
open Go.Sort
theorem Q3 {a b:List AC} (ha:A5 a false=0) (hb:A5 b false=0) (hl:a.length+b.length≤4194304):HS a b=some (A6 Cm a b []):=by
 have g1:=Cy ha
 have g2:=Cy hb
 rw [Us _ _ g1.1 g2.1 (by omega),← QT g1.1 g2.1 g1.2.1 g2.2.1 (g1.2.2 rfl) (g2.2.2 rfl)]
theorem KP {k:Nat} {I A:List AB} (h:DI k I A) (q:Int):A5 ((AK (AO A) q).getD []) false=0:=by
 cases hk:Ab (AO A) q with
 | none=>rw [(Cd hk).1]; exact IO
 | some j=>
  obtain ⟨v,v1,v2,_⟩:=CW hk
  rw [v2,Option.getD_some]
  unfold AO at v1
  rw [List.getElem?_map,Option.map_eq_some_iff] at v1
  obtain ⟨z,z1,z2⟩:=v1
  simp only [Prod.mk.injEq] at z2
  rw [← z2.2]
  exact (h.ok z (List.mem_of_getElem? z1)).1
theorem Pn {k:Nat} {I A:List AB} (h:DI k I A) (q:Int):((AK (AO A) q).getD []).length≤k:=by
 have g1:=I3 (AO A) [q] (by simp)
 rw [LX] at g1
 have:=h.sa
 simp [Ej] at g1
 omega
theorem Se {n1 n2:Nat} {I1 A1 I2 A2:List AB} (d1:DI n1 I1 A1) (d2:DI n2 I2 A2) (hb:n1+n2≤1048576) {u:List Int} (hu:u=B6 ((AO A1).map (·.1)) ((AO A2).map (·.1))) : ∀ (m k:Nat) (out:List Int),k+m=u.length→out.length+(Bb (AO A1) (AO A2) (u.drop k)).length≤4194304 →
  iter (fun (a:Int × (List Int))=>FF A1 A2 a.1 a.2) (ET u k,out)=some (.ext (((out++(Bb (AO A1) (AO A2) (u.drop k)).map fun o=>-o.Item).length:Nat),out++(Bb (AO A1) (AO A2) (u.drop k)).map fun o=>-o.Item)):=by
 have hla1:=d1.la
 have hla2:=d2.la
 have n1':((AO A1).map (·.1)).Nodup:=by rw [D5]; exact d1.ua
 have n2':((AO A2).map (·.1)).Nodup:=by rw [D5]; exact d2.ua
 have hlt:u.Pairwise (· < ·):=by rw [hu]; exact UD n1' n2'
 have hmem : ∀ z,z∈u↔z∈(A1++A2).map (·.Item):=fun z=>by rw [hu,MO,D5,D5,List.map_append]
 have hrng : ∀ z∈(A1++A2).map (·.Item),1≤z∧z≤1073741824:=fun z hz=>by
  obtain ⟨x,hx,rfl⟩:=List.mem_map.1 hz
  rcases List.mem_append.1 hx with hx | hx
  ·exact d1.ia x hx
  ·exact d2.ia x hx
 have scan : ∀ k,k≤u.length→iter (fun (a:Int × Int)=>E8 (ET u k) (A1++A2) a.1 a.2) (0,0)=some (if h:k<u.length then u[k] else 0):=fun k hk=>by
  have h:=Uh (ET u k) (A1++A2) (by simp; omega) (A1++A2).length 0 0 (by omega)
  rw [List.drop_zero,Qy hlt hmem (fun z hz=>(hrng z hz).1) hk] at h
  exact h
 intro m
 induction m with
 | zero=>
  intro k out hk hl
  refine Au ?_
  show FF A1 A2 (ET u k) out=_
  unfold FF
  rw [Di (by simp; omega),AG,List.nil_append,Di (by omega),AG,scan k (by omega),dif_neg (by omega),AG,if_pos (by decide),List.drop_eq_nil_of_le (by omega)]
  simp [Bb]
 | succ m ih=>
  intro k out hk hl
  have hkl:k<u.length:=by omega
  have hr:=hrng _ ((hmem _).1 (List.getElem_mem hkl))
  have hd:Bb (AO A1) (AO A2) (u.drop k)=CK u[k] (C5 (AO A1) (AO A2) u[k])++Bb (AO A1) (AO A2) (u.drop (k+1)):=by
   rw [List.drop_eq_getElem_cons hkl]; rfl
  rw [hd,List.length_append,Ho] at hl
  have h5:=QM u[k] (C5 (AO A1) (AO A2) u[k]) hr (by omega) (C5 (AO A1) (AO A2) u[k]).length 0 out (by omega) (by omega)
  rw [List.drop_zero] at h5
  have h5':iter (fun (a:Int × (List Int))=>Eh u[k] (C5 (AO A1) (AO A2) u[k]) a.1 a.2) (0,out)=_:=h5
  have hbef:ET u (k+1)=u[k]:=by
   show u[k]! = _
   rw [getElem!_pos u k hkl]
  have hl1:=Pn d1 u[k]
  have hl2:=Pn d2 u[k]
  rw [hd,List.map_append,← List.append_assoc,Av (s':=(ET u (k+1),out++(CK u[k] (C5 (AO A1) (AO A2) u[k])).map fun o=>-o.Item)) (by
   show FF A1 A2 (ET u k) out=_
   unfold FF
   rw [Di (by simp; omega),AG,List.nil_append,Di (by omega),AG,scan k (by omega),dif_pos hkl,AG,if_neg (by simp; omega),NY A1 (by omega),NY A2 (by omega),Q3 (KP d1 _) (KP d2 _) (by omega),AG]
   show A0 (iter (fun (a:Int × (List Int))=>Eh u[k] (C5 (AO A1) (AO A2) u[k]) a.1 a.2) (0,out)) _=_
   rw [h5',hbef]
   rfl),ih (k+1) _ (by omega) (by simp [Ho]; omega)]
def Do (o:AD):Int:=if o.Kind=0 then o.Item else -o.Item
theorem Tw (w:List (Int × AB)) (r:List AB):(BV w r).map Do=(BV w r).map (·.Item):=by
 unfold BV; rw [List.map_map,List.map_map]; rfl
theorem Un (w:List (Int × AB)) (r:List AB):(Bi w r).map Do=(Bi w r).map (·.Item):=by
 unfold Bi; rw [List.map_map,List.map_map]; rfl
theorem SN (w2 w4:List (Int × List AC)) : ∀ ids,(Bb w2 w4 ids).map Do=(Bb w2 w4 ids).map fun o=>-o.Item:=by
 intro ids
 induction ids with
 | nil=>rfl
 | cons q r ih=>
  unfold Bb
  rw [List.map_append,List.map_append,ih]
  congr 1
  unfold CK
  rw [List.map_map,List.map_map]
  rfl
theorem Te (c s:Int) : ∀ (ops:List AD) (n:Nat),(BN c s n ops).map Do=ops.map Do:=by
 intro ops
 induction ops with
 | nil=>intro n; rfl
 | cons o r ih=>intro n; unfold BN; rw [List.map_cons,ih,List.map_cons]; rfl
end Go.Proofs.Ytelkfhdgmbahgaa.Al

set_option linter.unusedVariables false
set_option linter.unusedSimpArgs false
namespace Go.Proofs.Ytelkfhdgmbahgaa.Al
open Go.Sort
theorem Sm {l want:List AD} (hb:l.length+want.length≤1048576) {I1 A1 I2 A2:List AB} (d1:DI l.length I1 A1) (d2:DI want.length I2 A2) (p1:Cn l=some (I1.map (wa A1),A1)) (p2:Cn want=some (I2.map (wa A2),A2))
  {e1 e2:Int→Nat} {M1 M2:Nat} (f1:Fo I1 e1 M1) (f2:Fo I2 e2 M2) (g1:Fo (I1.map (wa A1)) e1 M1) (g2:Fo (I2.map (wa A2)) e2 M2) {ops:List AD} (hops:ops=Db (AJ I1) (AJ I2) (AO A1) (AO A2) (BA I1 (M1+1) (Ar I1) []) (BA I2 (M2+1) (Ar I2) [])) :
  I8 l want=some ((ops.length:Int),ops.map Do):=by
 have r1:=(FI f1.rk (M1+1) (Ar I1) [] (E7 _)).len
 have r2:=(FI f2.rk (M2+1) (Ar I2) [] (E7 _)).len
 have hli1:=d1.li
 have hli2:=d2.li
 have hsb:=Jv d1 d2
 have o1:BA (I1.map (wa A1)) (M1+1) (Ar (I1.map (wa A1))) []=(BA I1 (M1+1) (Ar I1) []).map (wa A1):=by
  rw [O4 (Fh A1)]; exact Og (Fh A1) I1 (M1+1) (Ar I1) []
 have o2:BA (I2.map (wa A2)) (M2+1) (Ar (I2.map (wa A2))) []=(BA I2 (M2+1) (Ar I2) []).map (wa A2):=by
  rw [O4 (Fh A2)]; exact Og (Fh A2) I2 (M2+1) (Ar I2) []
 generalize BA I1 (M1+1) (Ar I1) []=O1 at *
 generalize BA I2 (M2+1) (Ar I2) []=O2 at *
 unfold I8
 rw [p1,p2,A4,A4,PP g1,PP g2,o1,o2,AG,AG]
 have b1:=KX (AJ I2) O1
 have b2:=JX (AJ I1) O2
 have t1:=Uu (I2.map (wa A2)) (O1.map (wa A1)) (by simp; omega) (by simp; omega) (O1.map (wa A1)).length 0 [] (by omega) (by simp; omega)
 rw [List.drop_zero,List.nil_append,Sc (Fh A2) (Fh A1)] at t1
 have t1':iter (fun (a:Int × (List Int))=>ED (I2.map (wa A2)) (O1.map (wa A1)) a.1 a.2) (0,[])=_:=t1
 rw [t1',AG]
 have t2:=Rp (I1.map (wa A1)) (O2.map (wa A2)) (by simp; omega) (by simp; omega) (O2.map (wa A2)).length 0 ((BV (AJ I2) O1).map (·.Item)) (by omega) (by simp; omega)
 rw [List.drop_zero,Ty (Fh A1) (Fh A2)] at t2
 have t2':iter (fun (a:Int × (List Int))=>FB (I1.map (wa A1)) (O2.map (wa A2)) a.1 a.2) (0,(BV (AJ I2) O1).map (·.Item))=_:=t2
 rw [t2',AG]
 have t3:=Se d1 d2 hb rfl (B6 ((AO A1).map (·.1)) ((AO A2).map (·.1))).length 0 ((BV (AJ I2) O1).map (·.Item)++(Bi (AJ I1) O2).map (·.Item)) (by omega) (by rw [List.drop_zero]; simp; omega)
 rw [List.drop_zero] at t3
 have t3':iter (fun (a:Int × (List Int))=>FF A1 A2 a.1 a.2) (0,(BV (AJ I2) O1).map (·.Item)++(Bi (AJ I1) O2).map (·.Item))=_:=t3
 rw [t3']
 have hk:ops.map Do=(BV (AJ I2) O1).map (·.Item)++(Bi (AJ I1) O2).map (·.Item)++(Bb (AO A1) (AO A2) (B6 ((AO A1).map (·.1)) ((AO A2).map (·.1)))).map fun o=>-o.Item:=by
  rw [hops]
  unfold Db
  rw [List.map_append,List.map_append,Tw,Un,SN,List.append_assoc]
 rw [← hk,List.length_map]
 rfl
theorem Qf (l:List AD) (hm:l.length≤4194304) (hi : ∀ o∈l,0≤o.Item∧o.Item≤1073741824):He l=some (l.map Do):=by
 have loop : ∀ (m k:Nat) (out:List Int),k+m=l.length→out.length+m≤4194304 →
   iter (fun (a:Int × (List Int))=>FA l a.1 a.2) ((k:Int),out)=some (out++(l.drop k).map Do):=by
  intro m
  induction m with
  | zero=>
   intro k out hk hl
   refine Au ?_
   show FA l (k:Int) out=_
   unfold FA
   rw [if_neg (by simp; omega),List.drop_eq_nil_of_le (by omega)]
   simp
  | succ m ih=>
   intro k out hk hl
   have hkl:k<l.length:=by omega
   have hr:=hi _ (List.getElem_mem hkl)
   rw [List.drop_eq_getElem_cons hkl,List.map_cons,← List.singleton_append,← List.append_assoc,Av (s':=(((k+1:Nat):Int),out++[Do l[k]])) (by
    show FA l (k:Int) out=_
    unfold FA Do
    rw [if_pos (by simpa using hkl),BO hkl,AG]
    by_cases h0:l[k].Kind=0
    ·rw [if_pos (by simpa using h0),if_pos h0,GC (by omega),AG,AG,Ao (by omega),AG]
    ·rw [if_neg (by simpa using h0),if_neg h0,En (by omega) (by omega),AG,GC (by omega),AG,AG,Ao (by omega),AG]),
    ih (k+1) _ (by omega) (by simp; omega)]
 have h:=loop l.length 0 [] (by omega) (by simp; omega)
 unfold He
 have h':iter (fun (a:Int × (List Int))=>FA l a.1 a.2) (0,[])=_:=h
 rw [h',AG]
 simp
end Go.Proofs.Ytelkfhdgmbahgaa.Al

set_option linter.unusedVariables false
set_option linter.unusedSimpArgs false
namespace Go.Proofs.Ytelkfhdgmbahgaa.Al
open Go.Sort
theorem RL (l:List Int) (hm:l.length≤4194304):JG l l=some true:=by
 have loop : ∀ (m k:Nat),k+m=l.length→iter (fun (a:Int)=>FO l l a) (k:Int)=some (.nrm ()):=by
  intro m
  induction m with
  | zero=>
   intro k hk
   refine Au ?_
   show FO l l (k:Int)=_
   unfold FO
   rw [if_neg (by simp; omega)]
  | succ m ih=>
   intro k hk
   have hkl:k<l.length:=by omega
   rw [Av (s':=((k+1:Nat):Int)) (by
    show FO l l (k:Int)=_
    unfold FO
    rw [if_pos (by simpa using hkl),BO hkl,AG,AG,if_neg (by simp),Ao (by omega),AG]),ih (k+1) (by omega)]
 have h:=loop l.length 0 (by omega)
 have h':iter (fun (a:Int)=>FO l l a) 0=some (.nrm ()):=h
 unfold JG
 rw [if_neg (by simp),h']
 rfl
theorem VI (c s:Int) (h0:0≤c∧c≤1073741824) (ops:List AD) (hm:ops.length≤4194304):iter (fun (a:Int)=>FP c s (tw c s [] ops) a) 0=some (.nrm ()):=by
 have htl:(tw c s [] ops).length=ops.length:=by rw [Dq]; simp
 have loop : ∀ (m k:Nat),k+m=ops.length→iter (fun (a:Int)=>FP c s (tw c s [] ops) a) (k:Int)=some (.nrm ()):=by
  intro m
  induction m with
  | zero=>
   intro k hk
   refine Au ?_
   show FP c s (tw c s [] ops) (k:Int)=_
   unfold FP
   rw [if_neg (by rw [htl]; simp; omega)]
  | succ m ih=>
   intro k hk
   have hkl:k<ops.length:=by omega
   have hat:=H3 c s ops 0 k hkl
   rw [Nat.zero_add] at hat
   have hx:AN (tw c s [] ops) (k:Int)=(BN c s 0 ops)[k]?:=by
    show AN (BN c s 0 ops) _=_
    unfold AN
    rw [if_pos (by omega),Int.toNat_natCast]
   rw [Av (s':=((k+1:Nat):Int)) (by
    show FP c s (tw c s [] ops) (k:Int)=_
    unfold FP
    rw [if_pos (by rw [htl]; simpa using hkl),hx,hat,AG,En (by omega) (by omega),AG,if_neg (by simp),Ao (by omega),AG]),ih (k+1) (by omega)]
 exact loop ops.length 0 (by omega)
def Gm (o:AD):Prop:=∀ c s:Int,1≤c∧c≤1073741824→0≤s∧s≤1000→BJ (AD.mk c s o.Kind o.Item o.Parent o.Place o.Name o.Value)=0
theorem OE {i p:Int} {pl:List UInt8} (hi:1≤i∧i≤1073741824) (hp : -1≤p∧p≤1073741824) (hl:EH pl=true):Gm (AD.mk 0 0 0 i p pl [] []):=by
 intro c s hc hs
 unfold BJ
 rw [if_neg (by simp),if_neg (fun h=>h ⟨⟨hc,hs⟩,hi⟩),if_pos rfl,if_neg (by simp),if_neg (fun h=>h hp),if_pos hl]
theorem Tu {i:Int} {n v:List UInt8} (hi:1≤i∧i≤1073741824) (hn:C6 n=true) (hv:v=[]∨Ck v=true):Gm (AD.mk 0 0 1 i 0 [] n v):=by
 intro c s hc hs
 unfold BJ
 rw [if_neg (by simp),if_neg (fun h=>h ⟨⟨hc,hs⟩,hi⟩),if_neg (by simp),if_neg (by simp),if_pos hn,if_neg (by
  rintro ⟨h1,h2⟩
  rcases hv with h | h
  ·exact h1 h
  ·rw [h] at h2; cases h2)]
theorem Mz {n1 n2:Nat} {I1 A1 I2 A2:List AB} (d1:DI n1 I1 A1) (d2:DI n2 I2 A2) {O1 O2:List AB} (s1:D2 I1 O1) (s2:D2 I2 O2) : ∀ o∈Db (AJ I1) (AJ I2) (AO A1) (AO A2) O1 O2,Gm o:=by
 intro o ho
 unfold Db at ho
 rcases List.mem_append.1 ho with ho | ho
 ·unfold BV at ho
  obtain ⟨x,hx,rfl⟩:=List.mem_map.1 ho
  have hx1:=s1.2 x (List.mem_filter.1 hx).1
  have hm:=d1.mv x hx1
  exact OE ⟨d1.id x hx1,hm.1⟩ (by omega) hm.2.2
 rcases List.mem_append.1 ho with ho | ho
 ·unfold Bi at ho
  obtain ⟨x,hx,rfl⟩:=List.mem_map.1 ho
  have hx1:=s2.2 x (List.mem_filter.1 hx).1
  have hm:=d2.mv x hx1
  exact OE ⟨d2.id x hx1,hm.1⟩ hm.2.1 hm.2.2
 ·have key : ∀ ids:List Int,(∀ q∈ids,1≤q∧q≤1073741824) → ∀ o∈Bb (AO A1) (AO A2) ids,Gm o:=by
   intro ids
   induction ids with
   | nil=>intro _ o ho; cases ho
   | cons q r ih=>
    intro hq o ho
    unfold Bb at ho
    rcases List.mem_append.1 ho with ho | ho
    ·unfold CK at ho
     obtain ⟨x,hx,rfl⟩:=List.mem_map.1 ho
     have he:=((FT _ true).1 (Nv (KP d1 q) (KP d2 q))).2 x hx
     refine Tu (hq q (List.mem_cons_self ..)) he.1 ?_
     rcases he.2 with h | h
     ·exact .inr h
     ·exact .inl h.2
    ·exact ih (fun q hq2=>hq q (List.mem_cons_of_mem _ hq2)) o ho
  refine key _ (fun q hq=>?_) o ho
  rw [MO,D5,D5,← List.map_append] at hq
  obtain ⟨x,hx,rfl⟩:=List.mem_map.1 hq
  rcases List.mem_append.1 hx with hx | hx
  ·exact d1.ia x hx
  ·exact d2.ia x hx
theorem M9 (c s:Int) : ∀ (ops:List AD) (n:Nat) (o:AD),o∈BN c s n ops → ∃ k,∃ h:k<ops.length,o=AD.mk (c+((n+k:Nat):Int)) s ops[k].Kind ops[k].Item ops[k].Parent ops[k].Place ops[k].Name ops[k].Value:=by
 intro ops n o ho
 obtain ⟨k,hk,e⟩:=List.mem_iff_getElem.1 ho
 rw [Ju] at hk
 have:=H3 c s ops n k hk
 rw [List.getElem?_eq_getElem (by rw [Ju]; exact hk),e] at this
 exact ⟨k,hk,by simpa using this⟩
theorem NB {c s:Int} (hc:1≤c) (hs:0≤s∧s≤1000) {ops:List AD} (h : ∀ o∈ops,Gm o) (hl:Dn c ops.length=false) : ∀ o∈tw c s [] ops,BJ o=0:=by
 intro o ho
 obtain ⟨k,hk,rfl⟩:=M9 c s ops 0 o ho
 refine h _ (List.getElem_mem hk) _ _ ?_ hs
 unfold Dn at hl
 rw [decide_eq_true (by omega:0<ops.length),Bool.true_and] at hl
 simp at hl
 omega
end Go.Proofs.Ytelkfhdgmbahgaa.Al

namespace Go.Proofs.Ytelkfhdgmbahgaa.Al
def CY:List AD→List AD→Option (List AD)
 | [],b=>some b
 | x :: a,[]=>some (x :: a)
 | x :: a,y :: b=>if Bn x y then (CY a (y :: b)).map (x :: ·) else if Bn y x then (CY (x :: a) b).map (y :: ·) else if x=y then (CY a b).map (x :: ·) else none
  termination_by a b=>a.length+b.length
theorem S3 (x y:AD):(decide (x.Clock=y.Clock) && (decide (x.Site=y.Site) && (decide (x.Kind=y.Kind) && (decide (x.Item=y.Item) && (decide (x.Parent=y.Parent) && (decide (x.Place=y.Place) && (decide (x.Name=y.Name) && (decide (x.Value=y.Value) && true))))))))=decide (x=y):=by
 rw [Bool.eq_iff_iff]
 obtain ⟨a1,a2,a3,a4,a5,a6,a7,a8⟩:=x
 obtain ⟨b1,b2,b3,b4,b5,b6,b7,b8⟩:=y
 simp only [Bool.and_eq_true,decide_eq_true_eq,AD.mk.injEq,and_true]
def F7 (r:Option (List AD)) (out:List AD):Ay (List AD) (List AD × Int):=match r with
 | some l=>.nrm (out++l)
 | none=>.ext ([],6)
theorem Ky {o:List AD} {x:AD} (h:o.length≤4194304):app 88 o [x]=some (o++[x]):=by
 unfold app; rw [if_pos (by simp <;> omega)]
theorem KL {x:AD} {a:List AD} (h:a.length≤4194304):DV (x :: a) 1 ((x :: a).length:Int)=some a:=by
 unfold DV; rw [if_pos (by simp <;> omega)]; simp
theorem Ll (r:Option (List AD)) (x:AD) (out:List AD):F7 (r.map (x :: ·)) out=F7 r (out++[x]):=by
 cases r <;> simp [F7]
theorem Hd : ∀ (m:Nat) (a b out:List AD),a.length+b.length=m→out.length+m≤4194304→iter (fun (a:(List AD) × (List AD) × (List AD))=>EF a.1 a.2.1 a.2.2) (a,b,out)=some (F7 (CY a b) out)
 | m,[],[],out,hm,ho=>by
  refine Au ?_
  rw [CY]
  simp [EF,F7]
 | m,x :: a,[],out,hm,ho=>by
  simp only [List.length_cons,List.length_nil] at hm
  refine (Av (s':=(a,[],out++[x])) ?_).trans ?_
  ·show EF (x :: a) [] out=_
   unfold EF
   rw [if_pos (by simp)]
   have h0:decide ((([]:List AD).length:Int)=0)=true:=rfl
   rw [h0,show ((true == false)=false) from rfl,Bool.false_and,Az,AG,Az,AG,Az,AG,Bool.true_or,if_pos rfl,show AN (x :: a) 0=some x from rfl,AG,Ky (by omega),AG,KL (by omega),AG]
  ·rw [Hd (m-1) a [] (out++[x]) (by simp <;> omega) (by simp <;> omega),CY]
   cases a with
   | nil=>rw [CY]; simp [F7]
   | cons z a=>rw [CY]; simp [F7]
 | m,[],y :: b,out,hm,ho=>by
  simp only [List.length_cons,List.length_nil] at hm
  refine (Av (s':=([],b,out++[y])) ?_).trans ?_
  ·show EF [] (y :: b) out=_
   unfold EF
   rw [if_pos (by simp <;> omega)]
   have h0:decide (((y :: b).length:Int)=0)=false:=by simp <;> omega
   have h1:decide (0<(([]:List AD).length:Int))=false:=rfl
   have h2:decide ((([]:List AD).length:Int)=0)=true:=rfl
   rw [h0,h1,h2,show (false == true)=false from rfl,Bool.and_false,Az,AG,Az,AG,Az,AG,Bool.false_and,Bool.false_or,if_neg (by simp),show (true == false)=false from rfl,Az,AG,Az,AG,Az,AG,Bool.true_or,if_pos rfl,show AN (y :: b) 0=some y from rfl,AG,Ky (by omega),AG,KL (by omega),AG]
  ·rw [Hd (m-1) [] b (out++[y]) (by simp <;> omega) (by simp <;> omega),CY,CY]
   simp [F7]
 | m,x :: a,y :: b,out,hm,ho=>by
  simp only [List.length_cons] at hm
  have hL:EF (x :: a) (y :: b) out=if Bn x y then some (.inl (a,y :: b,out++[x])) else if Bn y x then some (.inl (x :: a,b,out++[y])) else if x=y then some (.inl (a,b,out++[x])) else some (.inr (.ext ([],6))):=by
   unfold EF
   rw [if_pos (by simp <;> omega)]
   have h0:decide (((y :: b).length:Int)=0)=false:=by simp <;> omega
   have h1:decide (0<((x :: a).length:Int))=true:=by simp <;> omega
   have h2:decide (((x :: a).length:Int)=0)=false:=by simp <;> omega
   obtain ⟨r,e1,e2,_⟩:=Lc x y
   obtain ⟨q,f1,f2,_⟩:=Lc y x
   have i0:AN (x :: a) 0=some x:=rfl
   have i1:AN (y :: b) 0=some y:=rfl
   have hA : ∀ z,app 88 out [z]=some (out++[z]):=fun z=>Ky (by omega)
   rw [h0,h1,h2,i0,i1,KL (by omega),KL (by omega)]
   simp only [hA,beq_self_eq_true,Bool.and_self,Ax,AG,e1,f1,e2,f2,Bool.false_or,Bool.true_and,S3]
   by_cases g1:Bn x y=true
   ·rw [if_pos g1,if_pos g1]
   ·rw [if_neg g1,if_neg g1]
    by_cases g2:Bn y x=true
    ·rw [if_pos g2,if_pos g2]
    ·rw [if_neg g2,if_neg g2]
     by_cases g3:x=y
     ·rw [if_neg (by simp [g3]),if_pos g3]
     ·rw [if_pos (by simp [g3]),if_neg g3]
  rw [CY]
  by_cases g1:Bn x y=true
  ·rw [if_pos g1] at hL ⊢
   rw [Av hL,Hd (m-1) a (y :: b) (out++[x]) (by simp <;> omega) (by simp <;> omega),Ll]
  ·rw [if_neg g1] at hL ⊢
   by_cases g2:Bn y x=true
   ·rw [if_pos g2] at hL ⊢
    rw [Av hL,Hd (m-1) (x :: a) b (out++[y]) (by simp <;> omega) (by simp <;> omega),Ll]
   ·rw [if_neg g2] at hL ⊢
    by_cases g3:x=y
    ·rw [if_pos g3] at hL ⊢
     rw [Av hL,Hd (m-2) a b (out++[x]) (by omega) (by simp <;> omega),Ll]
    ·rw [if_neg g3] at hL ⊢
     exact Au hL
  termination_by _ a b=>a.length+b.length
  decreasing_by all_goals (simp only [List.length_cons,List.length_nil]; omega)
def QU (r:Option (List AD)):List AD × Int:=match r with
 | some l=>(l,0)
 | none=>([],6)
theorem Re (a b:List AD) (h:a.length+b.length≤4194304):Im a b=some (QU (CY a b)):=by
 unfold Im
 rw [Hd _ a b [] rfl (by simpa using h)]
 cases CY a b <;> rfl
end Go.Proofs.Ytelkfhdgmbahgaa.Al

set_option linter.unusedVariables false
set_option linter.unusedSimpArgs false
namespace Go.Proofs.Ytelkfhdgmbahgaa.Al
open Go.Sort
theorem S0 (l:List AD):CY l []=some l:=by
 cases l <;> unfold CY <;> rfl
theorem SY (b:List AD) : ∀ a:List AD,(∀ x∈a,∀ y∈b,Bn x y=true)→CY a b=some (a++b):=by
 intro a
 induction a with
 | nil=>intro _; unfold CY; rfl
 | cons x a ih=>
  intro h
  cases b with
  | nil=>rw [S0,List.append_nil]
  | cons y b=>
   unfold CY
   rw [if_pos (h x (List.mem_cons_self ..) y (List.mem_cons_self ..)),ih (fun z hz w hw=>h z (List.mem_cons_of_mem _ hz) w hw)]
   rfl
theorem NC {l:List AD} (h1 : ∀ o∈l,BJ o=0) (h2 : ∀ k (h:k+1<l.length),Bn l[k] l[k+1]=true):BP l=0:=by
 unfold BP
 have:(List.range l.length).findSome? (Da l)=none:=by
  rw [List.findSome?_eq_none_iff]
  intro k hk
  have hk:=List.mem_range.1 hk
  unfold Da
  rw [getElem!_pos l k hk,if_neg (by rw [h1 _ (List.getElem_mem hk)]; simp)]
  cases k with
  | zero=>rw [if_neg (by omega)]
  | succ k=>
   rw [if_neg]
   rintro ⟨_,h3⟩
   rw [Nat.add_sub_cancel,getElem!_pos l k (by omega),h2 k hk] at h3
   cases h3
 rw [this]; rfl
theorem MC {o:AD} (h:BJ o=0):Mh o:=by
 unfold BJ at h
 split at h
 ·exact absurd h (by decide)
 split at h
 ·exact absurd h (by decide)
 split at h
 ·split at h
  ·exact absurd h (by decide)
  ·rename_i hnv
   split at h
   ·exact absurd h (by decide)
   ·split at h
    ·rename_i hp
     have hn:o.Name=[]:=Classical.byContradiction fun h=>hnv (.inl h)
     have hv:o.Value=[]:=Classical.byContradiction fun h=>hnv (.inr h)
     unfold EH at hp
     simp only [Bool.and_eq_true,decide_eq_true_eq] at hp
     exact ⟨by omega,by rw [hn]; simp,by rw [hv]; simp⟩
    ·exact absurd h (by decide)
 ·split at h
  ·exact absurd h (by decide)
  ·rename_i hnv
   have hpl:o.Place=[]:=Classical.byContradiction fun h=>hnv (.inr h)
   split at h
   ·rename_i hn
    split at h
    ·exact absurd h (by decide)
    ·rename_i hv
     unfold C6 at hn
     simp only [Bool.and_eq_true,decide_eq_true_eq] at hn
     refine ⟨by rw [hpl]; simp,by omega,?_⟩
     by_cases e:o.Value=[]
     ·rw [e]; simp
     ·cases hv2:Ck o.Value
      ·exact absurd ⟨e,hv2⟩ hv
      ·unfold Ck at hv2
       simp only [Bool.and_eq_true,decide_eq_true_eq] at hv2
       omega
   ·exact absurd h (by decide)
theorem N5 (c s:Int) (ops:List AD) : ∀ k (h:k+1<(tw c s [] ops).length),Bn (tw c s [] ops)[k] (tw c s [] ops)[k+1]=true:=by
 intro k h
 have htl:(tw c s [] ops).length=ops.length:=by rw [Dq]; simp
 have e1:=H3 c s ops 0 k (by omega)
 have e2:=H3 c s ops 0 (k+1) (by omega)
 have g1:(tw c s [] ops)[k]? = some _:=e1
 have g2:(tw c s [] ops)[k+1]? = some _:=e2
 rw [List.getElem?_eq_getElem (by omega)] at g1 g2
 rw [Option.some.inj g1,Option.some.inj g2]
 unfold Bn
 simp
 omega
theorem NQ : ∀ (l:List AD),(∀ x∈l,BJ x=0)→BP l=0 → ∀ k (h:k+1<l.length),Bn l[k] l[k+1]=true:=by
 intro l _ h k hk
 unfold BP at h
 cases hf:(List.range l.length).findSome? (Da l) with
 | none=>
  rw [List.findSome?_eq_none_iff] at hf
  have:=hf (k+1) (List.mem_range.2 hk)
  unfold Da at this
  split at this
  ·cases this
  ·split at this
   ·cases this
   ·rename_i hn
    rw [Nat.add_sub_cancel,getElem!_pos l k (by omega),getElem!_pos l (k+1) hk] at hn
    cases he:Bn l[k] l[k+1]
    ·exact absurd ⟨by omega,he⟩ hn
    ·rfl
 | some r=>
  rw [hf] at h
  simp only [Option.getD_some] at h
  obtain ⟨j,_,hj⟩:=List.exists_of_findSome?_eq_some hf
  unfold Da at hj
  split at hj
  ·rename_i e; cases hj; exact absurd h e
  ·split at hj
   ·cases hj; exact absurd h (by decide)
   ·cases hj
theorem TL {l:List AD} (h1 : ∀ x∈l,BJ x=0) (h:BP l=0) : ∀ (m k:Nat) (hk:k+m<l.length),l[k].Clock≤l[k+m].Clock:=by
 intro m
 induction m with
 | zero=>intro k hk; exact Int.le_refl _
 | succ m ih=>
  intro k hk
  have a:=ih k (by omega)
  have b:=NQ l h1 h (k+m) hk
  unfold Bn at b
  simp at b
  have e:l[k+(m+1)]=l[k+m+1]:=rfl
  rw [e]
  rcases b with b | b <;> omega
theorem TO {l ops:List AD} {c s:Int} (el:BP l=0) (hb:l.length≤262144) (ho:ops.length≤524288) (hok : ∀ o∈tw c s [] ops,BJ o=0) (hk : ∀ h:0<l.length,l[l.length-1].Clock<c) :
  IY l (tw c s [] ops)=some (l++tw c s [] ops,0)∧BP (l++tw c s [] ops)=0∧(∀ o∈l++tw c s [] ops,BJ o=0)∧CT (l++tw c s [] ops)∧(l++tw c s [] ops).length≤786432:=by
 have h1:=Lt el
 have htl:(tw c s [] ops).length=ops.length:=by rw [Dq]; simp
 have hea : ∀ x∈l,∀ y∈tw c s [] ops,Bn x y=true:=by
  intro x hx y hy
  obtain ⟨k,hkl,rfl⟩:=List.mem_iff_getElem.1 hx
  obtain ⟨j,hj,rfl⟩:=M9 c s ops 0 y hy
  have h2:=hk (by omega)
  have h3:=TL h1 el (l.length-1-k) k (by omega)
  have h4:l[k+(l.length-1-k)]'(by omega)=l[l.length-1]'(by omega):=by congr 1; omega
  rw [h4] at h3
  unfold Bn
  simp
  left
  omega
 have hall : ∀ o∈l++tw c s [] ops,BJ o=0:=fun o ho=>by
  rcases List.mem_append.1 ho with ho | ho
  ·exact h1 o ho
  ·exact hok o ho
 have hd:BP (tw c s [] ops)=0:=NC hok (N5 c s ops)
 refine ⟨?_,NC hall fun k hk2=>?_,hall,fun o ho=>MC (hall o ho),by rw [List.length_append]; omega⟩
 ·unfold IY
  rw [Ex l (fun o ho=>MC (h1 o ho)) (by omega),el,AG,if_neg (by decide),Ex _ (fun o ho=>MC (hok o ho)) (by omega),hd,AG,if_neg (by decide),Re _ _ (by omega),SY _ _ hea]
  rfl
 ·rw [List.length_append] at hk2
  rcases Nat.lt_or_ge (k+1) l.length with h | h
  ·rw [List.getElem_append_left (by omega),List.getElem_append_left h]
   exact NQ l h1 el k h
  ·rw [List.getElem_append_right h]
   rcases Nat.lt_or_ge k l.length with h2 | h2
   ·rw [List.getElem_append_left h2]
    exact hea _ (List.getElem_mem _) _ (List.getElem_mem _)
   ·rw [List.getElem_append_right h2]
    have:=N5 c s ops (k-l.length) (by omega)
    have e:k+1-l.length=k-l.length+1:=by omega
    simp only [e]
    exact this
end Go.Proofs.Ytelkfhdgmbahgaa.Al

set_option linter.unusedVariables false
set_option linter.unusedSimpArgs false
namespace Go.Proofs.Ytelkfhdgmbahgaa.Al
open Go.Sort
theorem Uw {l want:List AD} (hl:CT l) (hw:CT want) (b1:l.length≤1048576) (b2:want.length≤1048576) (c s:Int) (h:BP l≠0∨BP want≠0):Fu l want c s=some ([],if BP l≠0 then BP l else BP want):=by
 unfold Fu
 by_cases h1:BP l=0
 ·have h2:BP want≠0:=by rcases h with h | h; exact absurd h1 h; exact h
  have hch:iter (fun (a:Int)=>Bq l want a) 0=some (.ext ([],BP want)):=by
   rw [Av (s':=1) (by
    show Bq l want 0=_
    unfold Bq
    rw [if_pos (by decide),show AN [l,want] 0=some l from rfl,AG,Ex l hl (by omega),h1,AG,if_neg (by decide)]
    rfl)]
   refine Au ?_
   show Bq l want 1=_
   unfold Bq
   rw [if_pos (by decide),show AN [l,want] 1=some want from rfl,AG,Ex want hw (by omega),AG,if_pos (by simpa using h2)]
  rw [hch,if_neg (by simpa using h1)]
  rfl
 ·have hch:iter (fun (a:Int)=>Bq l want a) 0=some (.ext ([],BP l)):=by
   refine Au ?_
   show Bq l want 0=_
   unfold Bq
   rw [if_pos (by decide),show AN [l,want] 0=some l from rfl,AG,Ex l hl (by omega),AG,if_pos (by simpa using h1)]
  rw [hch,if_pos h1]
  rfl
theorem PH {l want:List AD} (hl:CT l) (hw:CT want) (b1:l.length≤1048576) (b2:want.length≤1048576) (c s:Int) (h:BP l≠0∨BP want≠0):E2 l want c s=some true:=by
 unfold E2 Hn
 rw [AG,if_neg (by decide),Uw hl hw b1 b2 c s h,A4,E6 l hl b1,AG]
 by_cases h1:BP l=0
 ·have h2:BP want≠0:=by rcases h with h | h; exact absurd h1 h; exact h
  rw [if_pos (by simpa using h1),E6 want hw b2,AG,AG,decide_eq_false h2]
  rw [if_neg (by simpa using h1)]
  simp only [show ((false:Bool) == true)=false from rfl,Bool.false_and,Az,AG]
  simp [h2]
 ·rw [if_neg (by simpa using h1),AG,decide_eq_false h1,if_pos h1]
  simp only [show ((false:Bool) == true)=false from rfl,Bool.false_and,Az,AG]
  simp [h1]
end Go.Proofs.Ytelkfhdgmbahgaa.Al

set_option linter.unusedVariables false
set_option linter.unusedSimpArgs false
namespace Go.Proofs.Ytelkfhdgmbahgaa.Al
open Go.Sort
theorem Ut {l want:List AD} (hl:CT l) (hw:CT want) (hb:l.length+want.length≤262144) (el:BP l=0) (ew:BP want=0) {c s:Int} (hc:1≤c∧c≤1073741824) (hs:0≤s∧s≤1000)
  (hk : ∀ h:0<l.length,l[l.length-1].Clock<c) {I1 A1 I2 A2:List AB} (d1:DI l.length I1 A1) (d2:DI want.length I2 A2) (p1:DR l=some (AJ I1,AO A1)) (p2:DR want=some (AJ I2,AO A2))
  (q1:Cn l=some (I1.map (wa A1),A1)) (q2:Cn want=some (I2.map (wa A2),A2))
  {e1 e2:Int→Nat} {M1 M2:Nat} (f1:Fo I1 e1 M1) (f2:Fo I2 e2 M2) (g1:Fo (I1.map (wa A1)) e1 M1) (g2:Fo (I2.map (wa A2)) e2 M2) {ops:List AD} (hops:ops=Db (AJ I1) (AJ I2) (AO A1) (AO A2) (BA I1 (M1+1) (Ar I1) []) (BA I2 (M2+1) (Ar I2) []))
  (HL:Dn c ops.length=false → ∃ r10 r11 r12 r13,Eg (l++tw c s [] ops)=some (r10,r11)∧Eg want=some (r12,r13)∧GD r10 r12=some true) :
  E2 l want c s=some true:=by
 have s1:=FI f1.rk (M1+1) (Ar I1) [] (E7 _)
 have s2:=FI f2.rk (M2+1) (Ar I2) [] (E7 _)
 have r1:=s1.len
 have r2:=s2.len
 have hli1:=d1.li
 have hli2:=d2.li
 have hol:ops.length≤524288:=by
  have hsb:=Jv d1 d2
  have b1:=KX (AJ I2) (BA I1 (M1+1) (Ar I1) [])
  have b2:=JX (AJ I1) (BA I2 (M2+1) (Ar I2) [])
  rw [hops]; unfold Db; simp only [List.length_append]; omega
 have hraw : ∀ o∈ops,Gm o:=by rw [hops]; exact Mz d1 d2 s1 s2
 have ht:=RW hl hw (by omega) el ew hc hs hk d1 d2 p1 p2 f1 f2 hops
 have hwy:=Sm (by omega) d1 d2 q1 q2 f1 f2 g1 g2 hops
 have htl:(tw c s [] ops).length=ops.length:=by rw [Dq]; simp
 unfold E2 Hn D4
 rw [AG,if_neg (by decide),ht]
 have hin1:(decide (1≤c) && decide (c≤1073741824))=true:=by simp; omega
 have hin2:(decide (0≤s) && decide (s≤1000))=true:=by simp; omega
 have hidx : ∃ x1 x2,gd ((((decide ((0:Int)=0)) == true) && (((!true) || (!true)) == false)) && ((decide (0<(l.length:Int))) == true)) (Ac .i64 ((l.length:Int)-1))=some x1∧gd ((((decide ((0:Int)=0)) == true) && (((!true) || (!true)) == false)) && ((decide (0<(l.length:Int))) == true)) (AN l x1)=some x2∧((decide (0<(l.length:Int))) && (decide (c≤x2.Clock)))=false:=by
  by_cases h0:0<l.length
  ·have hlast:=hk h0
   rw [show decide (0<(l.length:Int))=true by simpa using h0]
   refine ⟨((l.length-1:Nat):Int),l[l.length-1],?_,?_,?_⟩
   ·simp only [decide_true,Bool.not_true,Bool.or_self,beq_self_eq_true,Bool.and_self,Ax]
    exact F3 h0 (by omega)
   ·simp only [decide_true,Bool.not_true,Bool.or_self,beq_self_eq_true,Bool.and_self,Ax]
    exact BO (by omega)
   ·simp; omega
  ·rw [show decide (0<(l.length:Int))=false by simpa using h0]
   refine ⟨default,default,?_,?_,rfl⟩
   ·simp only [show ((false:Bool) == true)=false from rfl,Bool.and_false,Az]
   ·simp only [show ((false:Bool) == true)=false from rfl,Bool.and_false,Az]
 obtain ⟨x1,x2,i1,i2,i3⟩:=hidx
 by_cases hlate:Dn c ops.length=true
 ·rw [if_pos hlate,A4,E6 l hl (by omega),el,AG,if_pos (by decide),E6 want hw (by omega),ew,AG,AG,hin1,hin2]
  simp only [decide_true,beq_self_eq_true,Ax,AG,Bool.not_true,show ((false:Bool) == false)=true from rfl,Bool.and_self,Bool.true_and] at i1 i2 ⊢
  simp only [Bool.or_self,beq_self_eq_true,Bool.true_and,Ax,Bool.false_or,show ((false:Bool) == false)=true from rfl] at i1 i2 ⊢
  rw [i1,AG,i2,AG,i3,if_neg (by decide),AG,if_neg (by decide),hwy,A4,En (by omega) (by omega),AG,En (by omega) (by omega),AG]
  unfold Dn at hlate
  simp at hlate
  rw [if_pos (by simp; omega)]
  rfl
 ·rw [if_neg hlate,A4,E6 l hl (by omega),el,AG,if_pos (by decide),E6 want hw (by omega),ew,AG,AG,hin1,hin2]
  simp only [decide_true,beq_self_eq_true,Ax,AG,Bool.not_true,show ((false:Bool) == false)=true from rfl,Bool.and_self,Bool.true_and] at i1 i2 ⊢
  simp only [Bool.or_self,beq_self_eq_true,Bool.true_and,Ax,Bool.false_or,show ((false:Bool) == false)=true from rfl] at i1 i2 ⊢
  have hl2:Dn c ops.length=false:=by simpa using hlate
  have hok:=NB hc.1 hs hraw hl2
  obtain ⟨j1,j2,j3,j4,j5⟩:=TO (s:=s) el (by omega) hol hok hk
  obtain ⟨r10,r11,r12,r13,k1,k2,k3⟩:=HL hl2
  have hn : ¬ (1073741824-(ops.length:Int)+1<c):=by
   unfold Dn at hl2
   intro hx
   by_cases h0:0<ops.length
   ·rw [decide_eq_true h0,Bool.true_and] at hl2
    simp at hl2
    omega
   ·omega
  rw [i1,AG,i2,AG,i3,if_neg (by decide),AG,if_neg (by decide),hwy,A4,En (by omega) (by omega),AG,En (by omega) (by omega),AG,if_neg (by simpa using hn),htl]
  have hki:He (tw c s [] ops)=some (ops.map Do):=by
   rw [Qf _ (by omega) (fun o ho=>by have:=(LF (hok o ho)).1; omega)]
   congr 1
   exact Te c s ops 0
  simp only [decide_true,Bool.not_true,Bool.or_self,show ((false:Bool) == false)=true from rfl,if_true,Bool.false_or]
  rw [hki,AG,RL _ (by simp; omega),AG,AG]
  simp only [Bool.not_true,Bool.false_eq_true,if_false]
  rw [VI c s ⟨by omega,hc.2⟩ ops (by omega)]
  simp only [A0]
  rw [j1,A4,k1,A4,k2,A4,E6 _ j4 (by omega),j2]
  simp only [decide_true,beq_self_eq_true,Ax,AG,Bool.and_self]
  rw [k3,AG]
  rfl
end Go.Proofs.Ytelkfhdgmbahgaa.Al

set_option linter.unusedVariables false
set_option linter.unusedSimpArgs false
namespace Go.Proofs.Ytelkfhdgmbahgaa.Al
open Go.Sort
theorem Sx {l want:List AD} (hl:CT l) (hw:CT want) (b1:l.length≤1048576) (b2:want.length≤1048576) (el:BP l=0) (ew:BP want=0):iter (fun (a:Int)=>Bq l want a) 0=some (.nrm ()):=by
 rw [Av (s':=1) (by
  show Bq l want 0=_
  unfold Bq
  rw [if_pos (by decide),show AN [l,want] 0=some l from rfl,AG,Ex l hl (by omega),el,AG,if_neg (by decide)]
  rfl),Av (s':=2) (by
  show Bq l want 1=_
  unfold Bq
  rw [if_pos (by decide),show AN [l,want] 1=some want from rfl,AG,Ex want hw (by omega),ew,AG,if_neg (by decide)]
  rfl)]
 refine Au ?_
 show Bq l want 2=_
 unfold Bq
 rw [if_neg (by decide)]
theorem RR {l want:List AD} (hl:CT l) (hw:CT want) (b1:l.length≤1048576) (b2:want.length≤1048576) (el:BP l=0) (ew:BP want=0) {c s:Int}
  (h : ¬ (1≤c∧c≤1073741824) ∨ ¬ (0≤s∧s≤1000) ∨ ∃ h:0<l.length,c≤l[l.length-1].Clock):E2 l want c s=some true:=by
 unfold E2 Hn D4
 rw [AG,if_neg (by decide)]
 unfold Fu
 rw [Sx hl hw b1 b2 el ew,E6 l hl b1,E6 want hw b2,el,ew]
 simp only [A0,AG,decide_true,if_true,beq_self_eq_true,Ax,Bool.true_and]
 by_cases hc:1≤c∧c≤1073741824
 ·by_cases hs:0≤s∧s≤1000
  ·obtain ⟨h0,hx⟩ : ∃ h:0<l.length,c≤l[l.length-1].Clock:=by
    rcases h with h | h | h
    ·exact absurd hc h
    ·exact absurd hs h
    ·exact h
   have a1:(((decide (c<1) || decide (1073741824<c)) || decide (s<0)) || decide (1000<s))=false:=by simp; omega
   have a2:(decide (1≤c) && decide (c≤1073741824))=true:=by simp; omega
   have a3:(decide (0≤s) && decide (s≤1000))=true:=by simp; omega
   have a4:decide (0<(l.length:Int))=true:=by simpa using h0
   rw [a1,a2,a3,a4]
   simp only [Bool.not_true,Bool.or_self,beq_self_eq_true,Bool.and_self,show ((false:Bool) == false)=true from rfl,Ax,Bool.true_and,Bool.false_or,F3 h0 (by omega:l.length≤9223372036854775807),AG,BO (by omega:l.length-1<l.length),decide_eq_true hx,if_true,A4]
   simp
  ·have a1:(((decide (c<1) || decide (1073741824<c)) || decide (s<0)) || decide (1000<s))=true:=by
    rcases (by omega:s<0∨0≤s) with h1 | h1
    ·simp [h1]
    ·have:1000<s:=by omega
     simp [this]
   have a2:(decide (1≤c) && decide (c≤1073741824))=true:=by simp; omega
   have a3:(decide (0≤s) && decide (s≤1000))=false:=by
    rcases (by omega:s<0∨0≤s) with h1 | h1
    ·simp; omega
    ·simp; omega
   rw [a1,a2,a3]
   simp [Az]
 ·have a1:(((decide (c<1) || decide (1073741824<c)) || decide (s<0)) || decide (1000<s))=true:=by
   rcases (by omega:c<1∨1≤c) with h1 | h1
   ·simp [h1]
   ·have:1073741824<c:=by omega
    simp [this]
  have a2:(decide (1≤c) && decide (c≤1073741824))=false:=by
   simp; omega
  rw [a1,a2]
  simp [Az]
end Go.Proofs.Ytelkfhdgmbahgaa.Al

set_option linter.unusedVariables false
set_option linter.unusedSimpArgs false
namespace Go.Proofs.Ytelkfhdgmbahgaa.Al
open Go.Sort
noncomputable abbrev IZ (L:List AD) (a:Int × (List AB) × (List AB)):=Bs L a.1 a.2.1 a.2.2
def Bj (L:List AD) (s t:Int × (List AB) × (List AB)):Prop:=∀ r,iter (IZ L) t=some r→iter (IZ L) s=some r
theorem Bj.refl (L s):Bj L s s:=fun _ h=>h
theorem Bj.trans {L s t u} (h:Bj L s t) (g:Bj L t u):Bj L s u:=fun r hr=>h r (g r hr)
theorem Bj.one {L s t} (h:IZ L s=some (.inl t)):Bj L s t:=fun r hr=>by rw [Av h]; exact hr
theorem Tf {l x:List AD} {k:Nat} (hk:k<l.length) (I A:List AB):Bs (l++x) (k:Int) I A=Bs l (k:Int) I A:=by
 unfold Bs
 have e1:decide ((k:Int)<((l++x).length:Int))=true:=by simp; omega
 have e2:decide ((k:Int)<(l.length:Int))=true:=by simpa using hk
 have e3:AN (l++x) (k:Int)=AN l (k:Int):=by
  rw [BO hk,BO (by simp; omega),List.getElem_append_left hk]
 rw [e1,e2,e3]
theorem UR {l:List AD} (x:List AD) (hm:l.length≤1048576) (ho : ∀ x∈l,BJ x=0) : ∀ (m k:Nat) (items attrs:List AB),k+m=l.length→DI k items attrs → ∃ items' attrs',DI l.length items' attrs' ∧
  iter (fun (a:Int × (List (Int × AB)) × (List (Int × (List AC))))=>Dd l a.1 a.2.1 a.2.2) ((k:Int),AJ items,AO attrs)=some (AJ items',AO attrs') ∧
  iter (IZ l) ((k:Int),items,attrs)=some (items',attrs')∧Bj (l++x) ((k:Int),items,attrs) ((l.length:Int),items',attrs'):=by
 intro m
 induction m with
 | zero=>
  intro k items attrs hk h
  obtain rfl:k=l.length:=by omega
  refine ⟨items,attrs,h,Au ?_,Au ?_,Bj.refl _ _⟩
  ·show Dd l (l.length:Int) _ _=_
   unfold Dd; rw [if_neg (by simp)]
  ·show Bs l (l.length:Int) _ _=_
   unfold Bs; rw [if_neg (by simp)]
 | succ m ih=>
  intro k items attrs hk h
  have hkl:k<l.length:=by omega
  obtain ⟨i1,a1,h1,h2,h3⟩:=JP h hkl hm (ho _ (Eb hkl))
  obtain ⟨i2,a2,h4,h5,h6,h7⟩:=ih (k+1) i1 a1 (by omega) h1
  refine ⟨i2,a2,h4,?_,?_,?_⟩
  ·rw [Av (s':=(((k+1:Nat):Int),AJ i1,AO a1)) h2]; exact h5
  ·rw [Av (s':=(((k+1:Nat):Int),i1,a1)) h3]; exact h6
  ·refine Bj.trans (Bj.one ?_) h7
   show Bs (l++x) (k:Int) items attrs=_
   rw [Tf hkl]; exact h3
theorem P8:DI 0 [] []:=⟨by unfold Uq; simp,by simp,by simp,⟨fun _=>0,fun x hx=>by cases hx⟩,by simp,by unfold Uq; simp,by simp,by simp,by simp,by simp,by simp⟩
theorem Ub {l:List AD} (x:List AD) (hm:l.length≤1048576) (ho : ∀ x∈l,BJ x=0) : ∃ items attrs,DI l.length items attrs∧DR l=some (AJ items,AO attrs)∧Cn l=some (items.map (wa attrs),attrs)∧Bj (l++x) ((0:Int),[],[]) ((l.length:Int),items,attrs):=by
 obtain ⟨items,attrs,h,h1,h2,h3⟩:=UR x hm ho l.length 0 [] [] (by omega) P8
 refine ⟨items,attrs,h,?_,?_,h3⟩
 ·unfold DR
  have h1':iter (fun (a:Int × (List (Int × AB)) × (List (Int × (List AC))))=>Dd l a.1 a.2.1 a.2.2) (0,[],[])=some (AJ items,AO attrs):=h1
  rw [h1',A4]
 ·unfold Cn
  have h2':iter (fun (a:Int × (List AB) × (List AB))=>Bs l a.1 a.2.1 a.2.2) (0,[],[])=some (items,attrs):=h2
  rw [h2',A4,Li (by have:=h.li; omega) (by have:=h.la; omega) h.no,AG]
theorem QS {L:List AD} {J B:List AB} (hm:L.length≤1048576) (h:DI L.length J B) (hr:Bj L ((0:Int),[],[]) ((L.length:Int),J,B)):Cn L=some (J.map (wa B),B):=by
 have h2:iter (IZ L) ((0:Int),[],[])=some (J,B):=hr _ (Au (by
  show Bs L (L.length:Int) _ _=_
  unfold Bs; rw [if_neg (by simp)]))
 unfold Cn
 have h2':iter (fun (a:Int × (List AB) × (List AB))=>Bs L a.1 a.2.1 a.2.2) (0,[],[])=some (J,B):=h2
 rw [h2',A4,Li (by have:=h.li; omega) (by have:=h.la; omega) h.no,AG]
theorem NP {l:List AD} {k:Nat} {items attrs:List AB} (h:DI k items attrs) (hk:k<l.length) (hm:l.length≤1048576) (ho:BJ l[k]! = 0) (h0:l[k]!.Kind=0) (hb : ¬ Ap items l[k]!.Item l[k]!.Parent) :
  DI (k+1) (upd items ⟨l[k]!.Item,l[k]!.Parent,l[k]!.Place,[]⟩) attrs∧Bj l ((k:Int),items,attrs) (((k+1:Nat):Int),upd items ⟨l[k]!.Item,l[k]!.Parent,l[k]!.Place,[]⟩,attrs):=by
 classical
 have key:Bs l (k:Int) items attrs=some (.inl (((k+1:Nat):Int),upd items ⟨l[k]!.Item,l[k]!.Parent,l[k]!.Place,[]⟩,attrs)):=by
  have hli:=h.li
  have hla:=h.la
  unfold Bs
  rw [if_pos (by simpa using hk),A3 hk,AG,Ao (by omega)]
  generalize l[k]! = o at *
  obtain ⟨d,hd⟩:=h.rk
  rw [if_neg (by rw [h0]; decide)]
  have hcond : ∃ r2:Bool,gd (((decide (o.Parent=o.Item)) == false) && ((decide (0<o.Parent)) == true)) (GN items o.Parent o.Item)=some r2∧(((decide (o.Parent=o.Item)) || ((decide (0<o.Parent)) && r2))=decide (Ap items o.Item o.Parent)):=by
   rw [NW h.uq hd (by omega)]
   by_cases e1:o.Parent=o.Item
   ·refine ⟨default,by rw [decide_eq_true e1]; rfl,?_⟩
    rw [decide_eq_true e1,e1,decide_eq_true Ap.self]; rfl
   ·by_cases e2:0<o.Parent
    ·refine ⟨decide (Ap items o.Item o.Parent),by rw [decide_eq_false e1,decide_eq_true e2]; rfl,?_⟩
     rw [decide_eq_false e1,decide_eq_true e2]; simp
    ·refine ⟨default,by rw [decide_eq_false e1,decide_eq_false e2]; rfl,?_⟩
     rw [decide_eq_false e1,decide_eq_false e2,decide_eq_false hb]
     rfl
  obtain ⟨r2,e1,e2⟩:=hcond
  rw [e1,AG,e2]
  generalize hnn:(⟨o.Item,o.Parent,o.Place,[]⟩:AB)=n
  have hni:n.Item=o.Item:=by rw [← hnn]
  rw [decide_eq_false hb,if_neg (by decide),Cv _ _ (by omega),AG]
  unfold upd Bf
  rw [hni]
  cases hkx:Ab (AJ items) o.Item with
  | none=>
   simp only
   rw [if_pos (by decide),Di (by simp; omega),AG,A4,BO (by simp),AG,A4,AG,Int.toNat_natCast]
   simp [hnn]
  | some j=>
   obtain ⟨hj,_⟩:=Cu hkx
   simp only
   rw [if_neg (by simp),A4,BO hj,AG,A4,AG,Int.toNat_natCast]
   try simp [hnn]
 obtain ⟨i1,a1,h1,_,h3⟩:=JP h hk hm ho
 rw [key] at h3
 simp only [Option.some.injEq,Sum.inl.injEq,Prod.mk.injEq,true_and] at h3
 obtain ⟨rfl,rfl⟩:=h3
 exact ⟨h1,Bj.one key⟩
def BY (A:List AB) (q:Int):List AC:=(AK (AO A) q).getD []
theorem P4 (A:List AB) (n:AB) (q:Int):BY (upd A n) q=if q=n.Item then n.Attrs else BY A q:=by
 unfold BY
 rw [← L4,Lx]
 split <;> rfl
theorem RI {A:List AB} (h:Uq A) {j:Nat} (hj:j<A.length):BY A A[j].Item=A[j].Attrs:=by
 have hk:=HU A A[j].Item
 rw [PF h hj] at hk
 obtain ⟨v,v1,v2,_⟩:=CW hk
 unfold BY
 rw [v2]
 unfold AO at v1
 rw [List.getElem?_map,List.getElem?_eq_getElem hj] at v1
 simp at v1
 exact v1.symm
theorem DI.atS_ok {k:Nat} {I A:List AB} (h:DI k I A) (q:Int):A5 (BY A q) false=0∧(BY A q).length≤k:=by
 unfold BY
 cases hk:Ab (AO A) q with
 | none=>rw [(Cd hk).1]; exact ⟨IO,Nat.zero_le _⟩
 | some j=>
  obtain ⟨v,v1,v2,_⟩:=CW hk
  rw [v2]
  unfold AO at v1
  rw [List.getElem?_map,Option.map_eq_some_iff] at v1
  obtain ⟨x,x1,x2⟩:=v1
  simp only [Prod.mk.injEq] at x2
  rw [← x2.2]
  exact h.ok x (List.mem_of_getElem? x1)
theorem UM {l:List AD} {k:Nat} {items attrs:List AB} (h:DI k items attrs) (hk:k<l.length) (hm:l.length≤1048576) (ho:BJ l[k]! = 0) (h0:l[k]!.Kind=1) :
  ∃ attrs',DI (k+1) items attrs'∧Bj l ((k:Int),items,attrs) (((k+1:Nat):Int),items,attrs') ∧ ∀ q,BY attrs' q=if q=l[k]!.Item then Bd (BY attrs q) ⟨l[k]!.Name,l[k]!.Value⟩ else BY attrs q:=by
 have ha:A5 [⟨l[k]!.Name,l[k]!.Value⟩] true=0:=by
  rcases (LF ho).2 with h2 | h2
  ·rw [h0] at h2; exact absurd h2 (by decide)
  ·exact h2.2
 have key : ∃ n:AB,n.Item=l[k]!.Item∧n.Attrs=Bd (BY attrs l[k]!.Item) ⟨l[k]!.Name,l[k]!.Value⟩∧Bs l (k:Int) items attrs=some (.inl (((k+1:Nat):Int),items,upd attrs n)):=by
  have hli:=h.li
  have hla:=h.la
  unfold Bs
  rw [if_pos (by simpa using hk),A3 hk,AG,Ao (by omega)]
  generalize l[k]! = o at *
  rw [if_pos (by rw [h0]; decide),Cv _ _ (by omega),AG]
  unfold Bf
  have hkb:=HU attrs o.Item
  cases hkx:Ab (AJ attrs) o.Item with
  | none=>
   rw [hkx] at hkb
   refine ⟨⟨o.Item,0,[],Bd [] ⟨o.Name,o.Value⟩⟩,rfl,by unfold BY; rw [(Cd hkb).1]; rfl,?_⟩
   simp only
   rw [if_pos (by decide),Di (by simp; omega)]
   simp only [AG,A4]
   rw [BO (by simp)]
   simp only [AG,List.getElem_append_right (Nat.le_refl _),Nat.sub_self,List.getElem_cons_zero]
   rw [Jb IO ha (by simp)]
   simp only [AG,A4,Int.toNat_natCast]
   have e1:(attrs++[(⟨o.Item,0,[],[]⟩:AB)]).set attrs.length ⟨o.Item,0,[],Bd [] ⟨o.Name,o.Value⟩⟩=upd attrs ⟨o.Item,0,[],Bd [] ⟨o.Name,o.Value⟩⟩:=by
    unfold upd; rw [hkx]; simp
   rw [e1]
  | some j=>
   obtain ⟨hj,ej⟩:=Cu hkx
   have hmem:=List.getElem_mem hj
   have hok:=h.ok _ hmem
   have hat:=RI h.ua hj
   refine ⟨⟨attrs[j].Item,attrs[j].Parent,attrs[j].Place,Bd attrs[j].Attrs ⟨o.Name,o.Value⟩⟩,ej,by rw [← ej,hat],?_⟩
   simp only
   rw [if_neg (by simp)]
   simp only [AG,A4]
   rw [BO hj]
   simp only [AG]
   rw [Jb hok.1 ha (by omega)]
   simp only [AG,A4,Int.toNat_natCast]
   have e1:attrs.set j ⟨attrs[j].Item,attrs[j].Parent,attrs[j].Place,Bd attrs[j].Attrs ⟨o.Name,o.Value⟩⟩=upd attrs ⟨attrs[j].Item,attrs[j].Parent,attrs[j].Place,Bd attrs[j].Attrs ⟨o.Name,o.Value⟩⟩:=by
    unfold upd; simp only; rw [ej,hkx]
   rw [e1]
 obtain ⟨n,n1,n2,n3⟩:=key
 obtain ⟨i1,a1,h1,_,h3⟩:=JP h hk hm ho
 rw [n3] at h3
 simp only [Option.some.injEq,Sum.inl.injEq,Prod.mk.injEq,true_and] at h3
 obtain ⟨rfl,rfl⟩:=h3
 refine ⟨_,h1,Bj.one n3,fun q=>?_⟩
 rw [P4,n1]
 split
 ·rename_i e; rw [n2,e]
 ·rfl
end Go.Proofs.Ytelkfhdgmbahgaa.Al

set_option linter.unusedVariables false
set_option linter.unusedSimpArgs false
namespace Go.Proofs.Ytelkfhdgmbahgaa.Al
open Go.Sort
theorem DU {l:List AB} {i:Int} : Ag l i=true ↔ ∃ x∈l,x.Item=i:=by
 unfold Ag
 rw [List.any_eq_true]
 simp
theorem R0 {A:List AB} {d:Int→Nat} (hr:Rk A d) (S:Int→Bool) : ∀ (n:Nat) (q:Int),d q<n →
  Ce (fun i=>!Ag A i || S i) (BC A S n q)∧(∀ x,AK (AJ A) q=some x→S q=false→x∈BC A S n q):=by
 intro n
 induction n with
 | zero=>intro q h; omega
 | succ n ih=>
  intro q h
  unfold BC
  cases hm:AK (AJ A) q with
  | none=>exact ⟨trivial,fun x hx=>by cases hx⟩
  | some x=>
   obtain ⟨hx,e⟩:=FN hm
   have hd:=hr x hx
   rw [e] at hd
   obtain ⟨i1,i2⟩:=ih x.Parent (by omega)
   simp only
   by_cases hS:S q=true
   ·rw [if_pos hS]
    exact ⟨trivial,fun y hy h2=>by rw [hS] at h2; cases h2⟩
   ·rw [if_neg hS]
    refine ⟨Mp i1 ⟨?_,trivial⟩,fun y hy _=>by cases hy; simp⟩
    simp only [Bool.or_eq_true,Bool.not_eq_true']
    by_cases h1:Ag A x.Parent=false
    ·exact .inl (.inl h1)
    ·by_cases h2:S x.Parent=true
     ·exact .inl (.inr h2)
     ·right
      have h3:(AK (AJ A) x.Parent).isSome=true:=by rw [GH]; simpa using h1
      obtain ⟨y,hy⟩:=Option.isSome_iff_exists.1 h3
      have:=i2 y hy (by simpa using h2)
      exact DU.2 ⟨y,this,(FN hy).2⟩
theorem VF {A:List AB} {d:Int→Nat} {M:Nat} (h:Fo A d M) : ∀ (ids:List Int) (out:List AB),(∀ q∈ids,d q≤M)→Ce (fun i=>!Ag A i) out →
  Ce (fun i=>!Ag A i) (BA A (M+1) ids out)∧(∀ z∈out,z∈BA A (M+1) ids out)∧(∀ q∈ids,Ag A q=true→Ag (BA A (M+1) ids out) q=true):=by
 intro ids
 induction ids with
 | nil=>intro out _ ho; exact ⟨ho,fun z hz=>hz,fun q hq=>by cases hq⟩
 | cons q r ih=>
  intro out hi ho
  obtain ⟨u1,u2⟩:=R0 h.rk (Ag out) (M+1) q (by have:=hi q (List.mem_cons_self ..); omega)
  obtain ⟨i1,i2,i3⟩:=ih (out++BC A (Ag out) (M+1) q) (fun p hp=>hi p (List.mem_cons_of_mem _ hp)) (Mp ho u1)
  refine ⟨i1,fun z hz=>i2 z (List.mem_append_left _ hz),fun p hp hA=>?_⟩
  rcases List.mem_cons.1 hp with rfl | hp
  ·show Ag (BA A (M+1) r (out++BC A (Ag out) (M+1) p)) p=true
   have h3:(AK (AJ A) p).isSome=true:=by rw [GH]; exact hA
   obtain ⟨y,hy⟩:=Option.isSome_iff_exists.1 h3
   by_cases hS:Ag out p=true
   ·obtain ⟨z,hz,e⟩:=DU.1 hS
    exact DU.2 ⟨z,i2 z (List.mem_append_left _ hz),e⟩
   ·exact DU.2 ⟨y,i2 y (List.mem_append_right _ (u2 y hy (by simpa using hS))),(FN hy).2⟩
  ·exact i3 p hp hA
theorem Nj {A:List AB} {d:Int→Nat} {M:Nat} (h:Fo A d M):Ce (fun i=>!Ag A i) (BA A (M+1) (Ar A) [])∧(∀ z,z∈BA A (M+1) (Ar A) []↔z∈A)∧(BA A (M+1) (Ar A) []).Pairwise (fun a b=>a.Item≠b.Item):=by
 have hs:=FI h.rk (M+1) (Ar A) [] (E7 _)
 have hsid : ∀ q,q∈Ar A ↔ ∃ x∈A,x.Item=q:=fun q=>by
  unfold Ar
  rw [(List.mergeSort_perm ..).mem_iff,List.mem_map]
 obtain ⟨o1,_,o3⟩:=VF h (Ar A) [] (fun q hq=>by
  obtain ⟨x,hx,rfl⟩:=(hsid q).1 hq
  exact h.top x hx) trivial
 refine ⟨o1,fun z=>⟨hs.2 z,fun hz=>?_⟩,hs.1⟩
 obtain ⟨y,hy,e⟩:=DU.1 (o3 z.Item ((hsid _).2 ⟨z,hz,rfl⟩) (DU.2 ⟨z,hz,rfl⟩))
 rw [← h.uq.eq (hs.2 y hy) hz e]; exact hy
theorem LU {L rest:List AD} {k:Nat} {o:AD} (h:L.drop k=o :: rest):k<L.length∧L[k]! = o∧L.drop (k+1)=rest:=by
 have hk:k<L.length:=by
  apply Classical.byContradiction
  intro hn
  rw [List.drop_eq_nil_of_le (by omega)] at h
  cases h
 rw [List.drop_eq_getElem_cons hk] at h
 simp only [List.cons.injEq] at h
 exact ⟨hk,by rw [getElem!_pos L k hk]; exact h.1,h.2⟩
theorem H8 (I:List AB) (n:AB) (q:Int):AK (AJ (upd I n)) q=if q=n.Item then some n else AK (AJ I) q:=by
 rw [← PY,Lx]
theorem Pg (c s:Int) (n:Nat) (o:AD) (r:List AD):BN c s n ([o]++r)=AD.mk (c+(n:Int)) s o.Kind o.Item o.Parent o.Place o.Name o.Value :: BN c s (n+1) r:=rfl
theorem MS {I:List AB} (hid : ∀ x∈I,1≤x.Item) {t q:Int} (ht:1≤t) (hq:q<1) : ¬ Ap I t q:=by
 intro hb
 rcases hb.inv with e | ⟨z,hz,e,_⟩
 ·omega
 ·have:=hid z hz; omega
theorem UA {L:List AD} {c s:Int} {A:List AB} (w:List (Int × AB)) (hm:L.length≤1048576) (hL : ∀ o∈L,BJ o=0) : ∀ (r:List AB) (k n:Nat) (I:List AB) (rest:List AD),L.drop k=BN c s n (BV w r)++rest→DI k I A →
  (∀ x∈r,1≤x.Item)→(∀ q x,AK w q=none→AK (AJ I) q=some x→x.Parent = -1 ∨ ∃ y∈r,y.Item=q∧y.Parent ≠ -1) →
  ∃ k' I',k'=k+(BV w r).length∧DI k' I' A∧Bj L ((k:Int),I,A) ((k':Int),I',A)∧L.drop k'=rest∧(∀ q x,AK w q=none→AK (AJ I') q=some x→x.Parent = -1)∧(∀ q,(AK w q).isSome=true→AK (AJ I') q=AK (AJ I) q):=by
 intro r
 induction r with
 | nil=>
  intro k n I rest hd hI hr hq
  refine ⟨k,I,by simp [BV],hI,Bj.refl _ _,by simpa [BV,BN] using hd,fun q x h1 h2=>?_,fun q _=>rfl⟩
  rcases hq q x h1 h2 with h | ⟨y,hy,_⟩
  ·exact h
  ·cases hy
 | cons x r ih=>
  intro k n I rest hd hI hr hq
  rw [If] at hd ⊢
  by_cases hc:(!(AK w x.Item).isSome && !decide (x.Parent = -1))=true
  ·rw [if_pos hc] at hd ⊢
   rw [Pg,List.cons_append] at hd
   obtain ⟨d1,d2,d3⟩:=LU hd
   have ho:=hL _ (Eb d1)
   obtain ⟨p1,p2⟩:=NP hI d1 hm ho (by rw [d2]) (by
    rw [d2]
    exact MS hI.id (hr x (List.mem_cons_self ..)) (by show (-1:Int)<1; omega))
   rw [d2] at p1 p2
   simp only at p1 p2
   have hcw:AK w x.Item=none:=by
    simp at hc; exact hc.1
   obtain ⟨k',I',q1,q2,q3,q4,q5,q6⟩:=ih (k+1) (n+1) _ rest d3 p1 (fun y hy=>hr y (List.mem_cons_of_mem _ hy)) (fun q y h1 h2=>by
    rw [H8] at h2
    simp only at h2
    split at h2
    ·cases h2; exact .inl rfl
    ·rename_i hne
     rcases hq q y h1 h2 with h | ⟨z,hz,e1,e2⟩
     ·exact .inl h
     ·rcases List.mem_cons.1 hz with rfl | hz
      ·exact absurd e1.symm hne
      ·exact .inr ⟨z,hz,e1,e2⟩)
   refine ⟨k',I',by rw [q1]; simp; omega,q2,p2.trans q3,q4,q5,fun q h1=>?_⟩
   rw [q6 q h1,H8]
   simp only
   rw [if_neg (fun e=>by rw [e,hcw] at h1; cases h1)]
  ·rw [if_neg hc] at hd ⊢
   rw [List.nil_append] at hd ⊢
   obtain ⟨k',I',q1,q2,q3,q4,q5,q6⟩:=ih k n I rest hd hI (fun y hy=>hr y (List.mem_cons_of_mem _ hy)) (fun q y h1 h2=>by
    rcases hq q y h1 h2 with h | ⟨z,hz,e1,e2⟩
    ·exact .inl h
    ·rcases List.mem_cons.1 hz with rfl | hz
     ·exfalso
      apply hc
      rw [e1,h1]
      simp [e2]
     ·exact .inr ⟨z,hz,e1,e2⟩)
   exact ⟨k',I',q1,q2,q3,q4,q5,q6⟩
def Iv (I:List AB) (x:AB):Prop:=∃ y,AK (AJ I) x.Item=some y∧y.Parent=x.Parent∧y.Place=x.Place
theorem P2 {L:List AD} {c s:Int} {A I1 I2:List AB} {d2:Int→Nat} (hr2:Rk I2 d2) (hm:L.length≤1048576) (hL : ∀ o∈L,BJ o=0) : ∀ (r P:List AB) (k n:Nat) (I:List AB) (rest:List AD),L.drop k=BN c s n (Bi (AJ I1) r)++rest→DI k I A →
  (∀ x∈P++r,x∈I2∧1≤x.Item)→(P++r).Pairwise (fun a b=>a.Item≠b.Item) →
  Ce (fun i=>!Ag I2 i || Ag P i) r→(∀ x∈P,Ag I2 x.Parent=false∨Ag P x.Parent=true) →
  (∀ x∈P,Iv I x)→(∀ q x,Ag I2 q=false→AK (AJ I) q=some x→x.Parent = -1)→(∀ x∈r,AK (AJ I) x.Item=AK (AJ I1) x.Item) →
  ∃ k' I',k'=k+(Bi (AJ I1) r).length∧DI k' I' A∧Bj L ((k:Int),I,A) ((k':Int),I',A)∧L.drop k'=rest∧(∀ x∈P++r,Iv I' x)∧(∀ q x,Ag I2 q=false→AK (AJ I') q=some x→x.Parent = -1):=by
 intro r
 induction r with
 | nil=>
  intro P k n I rest hd hI hP hpw hok hup hst hno hsame
  exact ⟨k,I,by simp [Bi],hI,Bj.refl _ _,by simpa [Bi,BN] using hd,by simpa using hst,hno⟩
 | cons x r ih=>
  intro P k n I rest hd hI hP hpw hok hup hst hno hsame
  rw [H7] at hd ⊢
  obtain ⟨hx2,hx1⟩:=hP x (by simp)
  obtain ⟨ok1,ok2⟩:=hok
  simp only [Bool.or_eq_true,Bool.not_eq_true'] at ok1
  have hpw':((P++[x])++r).Pairwise (fun a b=>a.Item≠b.Item):=by simpa using hpw
  have hP' : ∀ y∈(P++[x])++r,y∈I2∧1≤y.Item:=by simpa using hP
  have hok':Ce (fun i=>!Ag I2 i || Ag (P++[x]) i) r:=ok2.mono fun i hi=>by
   simp only [Ag,List.any_append,List.any_cons,List.any_nil,Bool.or_false,Bool.or_eq_true] at hi ⊢
   rcases hi with (hi | hi) | hi
   ·exact .inl hi
   ·exact .inr (.inl hi)
   ·exact .inr (.inr hi)
  have hup' : ∀ y∈P++[x],Ag I2 y.Parent=false∨Ag (P++[x]) y.Parent=true:=fun y hy=>by
   rw [K1,Bool.or_eq_true]
   rcases List.mem_append.1 hy with hy | hy
   ·exact (hup y hy).imp _root_.id .inl
   ·obtain rfl:=List.mem_singleton.1 hy
    exact ok1.imp _root_.id .inl
  have hdx : ∀ y∈P,y.Item≠x.Item:=fun y hy=>(List.pairwise_append.1 hpw).2.2 y hy x (by simp)
  have hdr : ∀ y∈r,y.Item≠x.Item:=fun y hy=>((List.pairwise_cons.1 (List.pairwise_append.1 hpw).2.1).1 y hy).symm
  by_cases hc:DN (AJ I1) x=true
  ·rw [if_pos hc] at hd ⊢
   rw [Pg,List.cons_append] at hd
   obtain ⟨e1,e2,e3⟩:=LU hd
   have ho:=hL _ (Eb e1)
   have hnb : ∀ (m:Nat) (y:Int),d2 y≤m→d2 y<d2 x.Item→(Ag I2 y=true→Ag P y=true) → ¬ Ap I x.Item y:=by
    intro m
    induction m with
    | zero=>
     intro y hym hlt hyP hb
     rcases hb.inv with e | ⟨z,hz,e,hb2⟩
     ·rw [e] at hlt; omega
     ·have hg:=Je hI.uq hz
      rw [e] at hg
      by_cases h2:Ag I2 y=true
      ·obtain ⟨p,hp,ep⟩:=DU.1 (hyP h2)
       have:=hr2 p (hP p (by simp [hp])).1
       rw [ep] at this; omega
      ·rw [hno y z (by simpa using h2) hg] at hb2
       exact MS hI.id hx1 (by omega) hb2
    | succ m ihm=>
     intro y hym hlt hyP hb
     rcases hb.inv with e | ⟨z,hz,e,hb2⟩
     ·rw [e] at hlt; omega
     ·have hg:=Je hI.uq hz
      rw [e] at hg
      by_cases h2:Ag I2 y=true
      ·obtain ⟨p,hp,ep⟩:=DU.1 (hyP h2)
       have hdp:=hr2 p (hP p (by simp [hp])).1
       rw [ep] at hdp
       obtain ⟨y',g1,g2,_⟩:=hst p hp
       rw [ep,hg] at g1
       cases g1
       rw [g2] at hb2
       refine ihm p.Parent (by omega) (by omega) (fun h3=>?_) hb2
       rcases hup p hp with h4 | h4
       ·rw [h3] at h4; cases h4
       ·exact h4
      ·rw [hno y z (by simpa using h2) hg] at hb2
       exact MS hI.id hx1 (by omega) hb2
   obtain ⟨p1,p2⟩:=NP hI e1 hm ho (by rw [e2]) (by
    rw [e2]
    refine hnb _ _ (Nat.le_refl _) (hr2 x hx2) (fun h3=>?_)
    rcases ok1 with h4 | h4
    ·rw [h3] at h4; cases h4
    ·exact h4)
   rw [e2] at p1 p2
   simp only at p1 p2
   obtain ⟨k',I',q1,q2,q3,q4,q5,q6⟩:=ih (P++[x]) (k+1) (n+1) _ rest e3 p1 hP' hpw' hok' hup' (fun y hy=>by
     unfold Iv
     rw [H8]
     rcases List.mem_append.1 hy with hy | hy
     ·simp only
      rw [if_neg (hdx y hy)]
      exact hst y hy
     ·obtain rfl:=List.mem_singleton.1 hy
      exact ⟨_,if_pos rfl,rfl,rfl⟩) (fun q y h1 h2=>by
     rw [H8] at h2
     simp only at h2
     rw [if_neg (fun e=>by
      rw [e] at h1
      have:Ag I2 x.Item=true:=DU.2 ⟨x,hx2,rfl⟩
      rw [this] at h1; cases h1)] at h2
     exact hno q y h1 h2) (fun y hy=>by
     rw [H8]
     simp only
     rw [if_neg (hdr y hy)]
     exact hsame y (List.mem_cons_of_mem _ hy))
   refine ⟨k',I',by rw [q1]; simp; omega,q2,p2.trans q3,q4,by simpa using q5,q6⟩
  ·rw [if_neg hc] at hd ⊢
   rw [List.nil_append] at hd ⊢
   have hstx:Iv I x:=by
    unfold DN at hc
    have hs:=hsame x (by simp)
    unfold Iv
    rw [hs]
    cases hg:AK (AJ I1) x.Item with
    | none=>rw [hg] at hc; simp at hc
    | some y=>
     rw [hg] at hc
     simp at hc
     exact ⟨y,rfl,hc.1,hc.2⟩
   obtain ⟨k',I',q1,q2,q3,q4,q5,q6⟩:=ih (P++[x]) k n I rest hd hI hP' hpw' hok' hup' (fun y hy=>by
     rcases List.mem_append.1 hy with hy | hy
     ·exact hst y hy
     ·obtain rfl:=List.mem_singleton.1 hy
      exact hstx) hno (fun y hy=>hsame y (List.mem_cons_of_mem _ hy))
   exact ⟨k',I',q1,q2,q3,q4,by simpa using q5,q6⟩
end Go.Proofs.Ytelkfhdgmbahgaa.Al

set_option linter.unusedVariables false
set_option linter.unusedSimpArgs false
namespace Go.Proofs.Ytelkfhdgmbahgaa.Al
open Go.Sort
theorem Qj {e:AC} {c:List AC} {ch:Bool} (h:A5 (e :: c) ch=0):A5 [e] ch=0∧A5 c ch=0 ∧ ∀ x∈c,Ae e.Name x.Name=true:=by
 obtain ⟨h1,h2⟩:=(FT _ _).1 h
 obtain ⟨h3,h4⟩:=Ci.1 h1
 exact ⟨(FT _ _).2 ⟨by unfold As; simp,fun x hx=>by rw [List.mem_singleton.1 hx]; exact h2 e (List.mem_cons_self ..)⟩,(FT _ _).2 ⟨h4,fun x hx=>h2 x (List.mem_cons_of_mem _ hx)⟩,h3⟩
theorem VE {a c:List AC} (ha:A5 a false=0) (hc:A5 c true=0):As (A6 Cz a c []) ∧ ∀ n,AY (A6 Cz a c []) n=Cp (AY a n) (AY c n):=
 IW MD Lg (Cy ha).1 (Cy hc).1 (Cy ha).2.1 (Cy hc).2.1
theorem RG : ∀ (c a:List AC),A5 a false=0→A5 c true=0→A5 (c.foldl Bd a) false=0 ∧ ∀ n,AY (c.foldl Bd a) n=Cp (AY a n) (AY c n):=by
 intro c
 induction c with
 | nil=>intro a ha _; exact ⟨ha,fun n=>by show AY a n=Cp (AY a n) none; cases AY a n <;> rfl⟩
 | cons e c ih=>
  intro a ha hc
  obtain ⟨h1,h2,h3⟩:=Qj hc
  obtain ⟨k1,k2⟩:=ih (Bd a e) (MB ha h1) h2
  refine ⟨k1,fun n=>?_⟩
  rw [List.foldl_cons,k2]
  have e1:AY (Bd a e) n=Cp (AY a n) (AY [e] n):=(VE ha h1).2 n
  rw [e1]
  have e2:AY [e] n=if e.Name=n then some e else none:=rfl
  have e3:AY (e :: c) n=if e.Name=n then some e else AY c n:=rfl
  rw [e2,e3]
  by_cases hn:e.Name=n
  ·rw [if_pos hn,if_pos hn]
   have:AY c n=none:=Ep fun x hx he=>by
    have:=h3 x hx
    rw [he,hn,Fs] at this; cases this
   rw [this]
   cases Cp (AY a n) (some e) <;> rfl
  ·rw [if_neg hn,if_neg hn]
   have:Cp (AY a n) none=AY a n:=by cases AY a n <;> rfl
   rw [this]
theorem TX {a b:List AC} (ha:A5 a false=0) (hb:A5 b false=0):(A6 Cm a b []).foldl Bd a=b:=by
 obtain ⟨k1,k2⟩:=RG _ a ha (Nv ha hb)
 obtain ⟨s1,n1,v1⟩:=Cy ha
 obtain ⟨s2,n2,v2⟩:=Cy hb
 obtain ⟨_,m2⟩:=IW LT Lw s1 s2 n1 n2
 refine Kc (Cy k1).1 s2 fun n=>?_
 rw [k2,m2]
 cases ha:AY a n with
 | none=>
  cases hb:AY b n with
  | none=>rfl
  | some v=>
   have:=v2 rfl v (Fj hb).2
   show (if v.Value=[] then none else some v)=_
   rw [if_neg this]
 | some u=>
  cases hb:AY b n with
  | none=>rfl
  | some v=>
   have:=v2 rfl v (Fj hb).2
   show Cp (some u) (if u=v then none else some v)=_
   by_cases e:u=v
   ·rw [if_pos e,e]; rfl
   ·rw [if_neg e]
    show (if v.Value=[] then none else some v)=_
    rw [if_neg this]
theorem T9 {L:List AD} {c s:Int} (hm:L.length≤1048576) (hL : ∀ o∈L,BJ o=0) (q:Int) {I:List AB} : ∀ (r:List AC) (k n:Nat) (A:List AB) (rest:List AD),L.drop k=BN c s n (CK q r)++rest→DI k I A →
  ∃ k' A',k'=k+r.length∧DI k' I A'∧Bj L ((k:Int),I,A) ((k':Int),I,A')∧L.drop k'=rest ∧ ∀ p,BY A' p=if p=q then r.foldl Bd (BY A q) else BY A p:=by
 intro r
 induction r with
 | nil=>
  intro k n A rest hd hI
  refine ⟨k,A,rfl,hI,Bj.refl _ _,by simpa [CK,BN] using hd,fun p=>?_⟩
  split
  ·rename_i e; rw [e]; rfl
  ·rfl
 | cons x r ih=>
  intro k n A rest hd hI
  have hd':L.drop k=AD.mk (c+(n:Int)) s 1 q 0 [] x.Name x.Value :: (BN c s (n+1) (CK q r)++rest):=hd
  obtain ⟨e1,e2,e3⟩:=LU hd'
  obtain ⟨A1,p1,p2,p3⟩:=UM hI e1 hm (hL _ (Eb e1)) (by rw [e2])
  rw [e2] at p3
  simp only at p3
  obtain ⟨k',A',q1,q2,q3,q4,q5⟩:=ih (k+1) (n+1) A1 rest e3 p1
  refine ⟨k',A',by rw [q1]; simp; omega,q2,p2.trans q3,q4,fun p=>?_⟩
  rw [q5,p3,p3]
  by_cases e:p=q
  ·rw [if_pos e,if_pos e,if_pos rfl]; rfl
  ·rw [if_neg e,if_neg e,if_neg e]
theorem S1 {L:List AD} {c s:Int} (hm:L.length≤1048576) (hL : ∀ o∈L,BJ o=0) {I A1 A2:List AB} (h2 : ∀ q,A5 (BY A2 q) false=0) : ∀ (u:List Int) (k n:Nat) (A:List AB) (rest:List AD),L.drop k=BN c s n (Bb (AO A1) (AO A2) u)++rest→DI k I A→u.Nodup →
  (∀ q∈u,BY A q=BY A1 q)→(∀ q,q ∉ u→BY A q=BY A2 q) →
  ∃ k' A',k'=k+(Bb (AO A1) (AO A2) u).length∧DI k' I A'∧Bj L ((k:Int),I,A) ((k':Int),I,A')∧L.drop k'=rest ∧ ∀ q,BY A' q=BY A2 q:=by
 intro u
 induction u with
 | nil=>
  intro k n A rest hd hI _ _ hq
  exact ⟨k,A,by simp [Bb],hI,Bj.refl _ _,by simpa [Bb,BN] using hd,fun q=>hq q (by simp)⟩
 | cons q u ih=>
  intro k n A rest hd hI hn hs hq
  obtain ⟨n1,n2⟩:=List.nodup_cons.1 hn
  have e:Bb (AO A1) (AO A2) (q :: u)=CK q (C5 (AO A1) (AO A2) q)++Bb (AO A1) (AO A2) u:=rfl
  rw [e] at hd ⊢
  rw [KG,List.append_assoc] at hd
  obtain ⟨k1,B,p1,p2,p3,p4,p5⟩:=T9 hm hL q _ k n A _ hd hI
  have hA:BY A q=BY A1 q:=hs q (List.mem_cons_self ..)
  have e1:A5 (BY A1 q) false=0:=by rw [← hA]; exact (hI.atS_ok q).1
  have hB:(C5 (AO A1) (AO A2) q).foldl Bd (BY A q)=BY A2 q:=by
   rw [hA]
   exact TX e1 (h2 q)
  obtain ⟨k',A',q1,q2,q3,q4,q5⟩:=ih k1 _ B rest p4 p2 n2 (fun p hp=>by
    rw [p5,if_neg (fun e=>n1 (by rw [← e]; exact hp))]
    exact hs p (List.mem_cons_of_mem _ hp)) (fun p hp=>by
    rw [p5]
    split
    ·rename_i e; rw [hB,e]
    ·rename_i e
     exact hq p (fun h=>by
      rcases List.mem_cons.1 h with h | h
      ·exact e h
      ·exact hp h))
  exact ⟨k',A',by rw [q1,p1]; simp [Ho]; omega,q2,p3.trans q3,q4,q5⟩
theorem Tq (x y:AB) (h:x=y) (hx:x.Attrs.length≤9223372036854775807):Hl x y=some true:=by
 subst h; exact RP x hx
theorem QX {now want:List AB} (hn:now.length≤2097152) (hw:want.length≤2097152) (hf1 : ∀ q,CN now q=some (Bf now q)) (hf2 : ∀ q,CN want q=some (Bf want q))
  (h1 : ∀ x∈want,AK (AJ now) x.Item=some x∧x.Attrs.length≤1048576) (h2 : ∀ x∈now,(AK (AJ want) x.Item).isSome=true∨x.Parent = -1):GD now want=some true:=by
 unfold GD
 have l1:=Ld (f:=fun (a:Int)=>Fr now want a) want (fun (_:Unit) i=>(i:Int)) (fun r c=>(.nrm ():Ay Unit Bool)) (fun i c=>True)
  (fun i c hi _=>by
   left
   refine ⟨(),?_,trivial,rfl⟩
   show Fr now want (i:Int)=_
   obtain ⟨g1,g2⟩:=h1 _ (Eb hi)
   unfold Fr
   rw [if_pos (by simpa using hi),A3 hi,AG,hf1,AG,Ao (by omega)]
   rw [HY] at g1
   unfold Bf
   cases hk:Ab (AJ now) want[i]!.Item with
   | none=>rw [hk] at g1; cases g1
   | some j=>
    rw [hk,Option.bind_some] at g1
    obtain ⟨hj,e⟩:=List.getElem?_eq_some_iff.1 g1
    have h0:decide ((j:Int)<0)=false:=by simp
    simp only [h0,show ((false == false)=true) from rfl,Ax]
    rw [BO hj,AG,Tq _ _ e (by rw [e]; omega),AG,if_neg (by decide)]
    rfl)
  (fun c _=>by
   show Fr now want (want.length:Int)=_
   unfold Fr
   rw [if_neg (by simp)]) () trivial 0 rfl
 have l2:=Ld (f:=fun (a:Int)=>Fg now want a) now (fun (_:Unit) i=>(i:Int)) (fun r c=>(.nrm ():Ay Unit Bool)) (fun i c=>True)
  (fun i c hi _=>by
   left
   refine ⟨(),?_,trivial,rfl⟩
   show Fg now want (i:Int)=_
   have g:=h2 _ (Eb hi)
   unfold Fg
   rw [if_pos (by simpa using hi),A3 hi,AG,hf2,AG,Ao (by omega)]
   rw [JL,← GH]
   rw [if_neg (by
    rcases g with g | g
    ·rw [g]; simp
    ·rw [g]; simp)]
   rfl)
  (fun c _=>by
   show Fg now want (now.length:Int)=_
   unfold Fg
   rw [if_neg (by simp)]) () trivial 0 rfl
 rw [l1]
 simp only [GX]
 rw [l2]
 rfl
end Go.Proofs.Ytelkfhdgmbahgaa.Al

set_option linter.unusedVariables false
set_option linter.unusedSimpArgs false
namespace Go.Proofs.Ytelkfhdgmbahgaa.Al
open Go.Sort
theorem Lb {A:List AB} {d:Int→Nat} {M:Nat} (h:Fo A d M):(∀ z,z∈BQ A (M+1) 0++Am A (BQ A (M+1) 0)↔z∈A)∧Uq (BQ A (M+1) 0++Am A (BQ A (M+1) 0)):=by
 have hm : ∀ z,z∈BQ A (M+1) 0++Am A (BQ A (M+1) 0)→z∈A:=fun z hz=>by
  rcases List.mem_append.1 hz with hz | hz
  ·exact (In _ _ _ hz).1
  ·exact (F4.1 hz).1
 refine ⟨fun z=>⟨hm z,fun hz=>?_⟩,?_⟩
 ·rw [List.mem_append,F4]
  by_cases hh:Ag (BQ A (M+1) 0) z.Item=true
  ·obtain ⟨y,hy,e⟩:=DU.1 hh
   left
   rw [← h.uq.eq (In _ _ _ hy).1 hz e]; exact hy
  ·exact .inr ⟨hz,by simpa using hh⟩
 ·unfold Uq
  rw [List.nodup_iff_pairwise_ne,List.pairwise_map,List.pairwise_append]
  refine ⟨N7 h.uq h.rk _ _,(Gs h.uq _).imp fun h=>by unfold C0 at h; simp at h; omega,fun a ha b hb e=>?_⟩
  have:=(F4.1 hb).2
  have h2:Ag (BQ A (M+1) 0) b.Item=true:=DU.2 ⟨a,ha,e⟩
  rw [h2] at this; cases this
theorem Of {A:List AB} {d:Int→Nat} {M:Nat} (h:Fo A d M):(BQ A (M+1) 0++Am A (BQ A (M+1) 0)).length≤A.length:=by
 obtain ⟨h1,h2⟩:=Lb h
 refine Ln _ _ ?_ fun z hz=>(h1 z).1 hz
 unfold Uq at h2
 rwa [List.nodup_iff_pairwise_ne,List.pairwise_map] at h2
theorem Ru {l want:List AD} {c s:Int} (hb:l.length+want.length≤262144) (hol : ∀ o∈l,BJ o=0) {I1 A1 I2 A2:List AB} (d1:DI l.length I1 A1) (d2:DI want.length I2 A2)
  (q2:Cn want=some (I2.map (wa A2),A2)) {e1 e2:Int→Nat} {M1 M2:Nat} (f1:Fo I1 e1 M1) (f2:Fo I2 e2 M2) {ops:List AD}
  (hops:ops=Db (AJ I1) (AJ I2) (AO A1) (AO A2) (BA I1 (M1+1) (Ar I1) []) (BA I2 (M2+1) (Ar I2) [])) (hl3:ops.length≤524288)
  (hr:Bj (l++tw c s [] ops) ((0:Int),[],[]) ((l.length:Int),I1,A1)) (hok : ∀ o∈tw c s [] ops,BJ o=0) :
  ∃ r10 r11 r12 r13,Eg (l++tw c s [] ops)=some (r10,r11)∧Eg want=some (r12,r13)∧GD r10 r12=some true:=by
 have htl:(tw c s [] ops).length=ops.length:=by rw [Dq]; simp
 have hLl:(l++tw c s [] ops).length=l.length+ops.length:=by rw [List.length_append,htl]
 have hm:(l++tw c s [] ops).length≤1048576:=by rw [hLl]; omega
 have hL : ∀ o∈l++tw c s [] ops,BJ o=0:=fun o ho=>by
  rcases List.mem_append.1 ho with ho | ho
  ·exact hol o ho
  ·exact hok o ho
 obtain ⟨a1,a2,a3⟩:=Nj f1
 obtain ⟨b1,b2,b3⟩:=Nj f2
 generalize hO1:BA I1 (M1+1) (Ar I1) []=O1 at *
 generalize hO2:BA I2 (M2+1) (Ar I2) []=O2 at *
 have hst:tw c s [] ops=BN c s 0 ops:=rfl
 have hsp:(l++tw c s [] ops).drop l.length=BN c s 0 (BV (AJ I2) O1)++(BN c s (0+(BV (AJ I2) O1).length) (Bi (AJ I1) O2)++(BN c s (0+(BV (AJ I2) O1).length+(Bi (AJ I1) O2).length) (Bb (AO A1) (AO A2) (B6 ((AO A1).map (·.1)) ((AO A2).map (·.1))))++[])):=by
  rw [List.drop_left,hst,hops]
  unfold Db
  rw [KG,KG,List.append_nil]
 generalize hLL:l++tw c s [] ops=L at *
 obtain ⟨k1,J1,p1,p2,p3,p4,p5,p6⟩:=UA (AJ I2) hm hL O1 l.length 0 I1 _ hsp d1 (fun x hx=>d1.id x ((a2 x).1 hx)) (fun q x h1 h2=>by
  by_cases hp:x.Parent = -1
  ·exact .inl hp
  ·obtain ⟨g1,g2⟩:=FN h2
   exact .inr ⟨x,(a2 x).2 g1,g2,hp⟩)
 have hno : ∀ q x,Ag I2 q=false→AK (AJ J1) q=some x→x.Parent = -1:=fun q x h1 h2=>by
  refine p5 q x ?_ h2
  rw [← GH] at h1
  simpa using h1
 obtain ⟨k2,J2,q1,q2',q3,q4,q5,q6⟩:=P2 (I1:=I1) (I2:=I2) f2.rk hm hL O2 [] k1 _ J1 _ p4 p2 (fun x hx=>by
   have:=(b2 x).1 (by simpa using hx)
   exact ⟨this,d2.id x this⟩) (by simpa using b3) (b1.mono fun i hi=>by simp only [hi,Bool.true_or]) (fun x hx=>by cases hx) (fun x hx=>by cases hx) hno (fun x hx=>by
   refine p6 x.Item ?_
   rw [GH]
   exact DU.2 ⟨x,(b2 x).1 hx,rfl⟩)
 have n1:((AO A1).map (·.1)).Nodup:=by rw [D5]; exact d1.ua
 have n2:((AO A2).map (·.1)).Nodup:=by rw [D5]; exact d2.ua
 have hat0 : ∀ (A:List AB) (q:Int),q ∉ (AO A).map (·.1)→BY A q=[]:=fun A q hq=>by
  unfold BY
  cases hk:Ab (AO A) q with
  | none=>rw [(Cd hk).1]; rfl
  | some j=>
   obtain ⟨v,v1,_⟩:=CW hk
   exact absurd (List.mem_map.2 ⟨_,List.mem_of_getElem? v1,rfl⟩) hq
 obtain ⟨k3,B,r1,r2,r3,r4,r5⟩:=S1 (A1:=A1) (A2:=A2) hm hL (fun q=>(d2.atS_ok q).1) _ k2 _ A1 [] q4 q2' (MA n1 n2) (fun q _=>rfl) (fun q hq=>by
  rw [MO,List.mem_append,not_or] at hq
  rw [hat0 A1 q hq.1,hat0 A2 q hq.2])
 have hk3:k3=L.length:=by
  have h1:=List.drop_eq_nil_iff.1 r4
  have h2:k3=l.length+ops.length:=by
   rw [r1,q1,p1,hops]; unfold Db; simp only [List.length_append]; omega
  omega
 subst hk3
 have hpl:=QS hm r2 (((hr.trans p3).trans q3).trans r3)
 obtain ⟨d3,M3,f3,g3⟩:=r2.fo0 hm
 obtain ⟨d4,M4,f4,g4⟩:=d2.fo0 (by omega)
 refine ⟨_,_,_,_,OR hpl g3,OR q2 g4,?_⟩
 obtain ⟨m1,m2⟩:=Lb g3
 obtain ⟨m3,m4⟩:=Lb g4
 have l1:=Of g3
 have l2:=Of g4
 rw [List.length_map] at l1 l2
 have:=r2.li
 have:=d2.li
 have hbat : ∀ q,(AK (AO B) q).getD []=(AK (AO A2) q).getD []:=r5
 generalize BQ (J2.map (wa B)) (M3+1) 0++Am (J2.map (wa B)) (BQ (J2.map (wa B)) (M3+1) 0)=now at *
 generalize BQ (I2.map (wa A2)) (M4+1) 0++Am (I2.map (wa A2)) (BQ (I2.map (wa A2)) (M4+1) 0)=wnt at *
 refine QX (by omega) (by omega) (fun q=>Cv _ _ (by omega)) (fun q=>Cv _ _ (by omega)) (fun x hx=>?_) (fun x hx=>?_)
 ·obtain ⟨y,hy,rfl⟩:=List.mem_map.1 ((m3 x).1 hx)
  obtain ⟨z,z1,z2,z3⟩:=q5 y (by simpa using (b2 y).2 hy)
  obtain ⟨z4,z5⟩:=FN z1
  have e:wa B z=wa A2 y:=by
   unfold wa
   rw [z5,z2,z3,hbat]
  refine ⟨?_,?_⟩
  ·rw [← e]
   exact Je m2 ((m1 _).2 (List.mem_map.2 ⟨z,z4,rfl⟩))
  ·have:=(d2.atS_ok y.Item).2
   show (BY A2 y.Item).length≤_
   omega
 ·obtain ⟨z,hz,rfl⟩:=List.mem_map.1 ((m1 x).1 hx)
  by_cases h2:Ag I2 z.Item=true
  ·left
   obtain ⟨y,hy,e⟩:=DU.1 h2
   rw [GH]
   exact DU.2 ⟨wa A2 y,(m3 _).2 (List.mem_map.2 ⟨y,hy,rfl⟩),e⟩
  ·right
   exact q6 z.Item z (by simpa using h2) (Je r2.uq hz)
theorem RE (l want:List AD) (c s:Int) (hl:CT l) (hw:CT want) (hb:l.length+want.length≤262144):E2 l want c s=some true:=by
 by_cases el:BP l=0
 ·by_cases ew:BP want=0
  ·by_cases hin:(1≤c∧c≤1073741824)∧(0≤s∧s≤1000) ∧ ∀ h:0<l.length,l[l.length-1].Clock<c
   ·obtain ⟨hc,hs,hk⟩:=hin
    have o1:=Lt el
    have o2:=Lt ew
    obtain ⟨I2,A2,d2,p2,q2⟩:=Nb (by omega:want.length≤1048576) o2
    obtain ⟨I1,A1,d1,p1,q1⟩:=Nb (by omega:l.length≤1048576) o1
    obtain ⟨e1,M1,f1,g1⟩:=d1.fo0 (by omega)
    obtain ⟨e2,M2,f2,g2⟩:=d2.fo0 (by omega)
    obtain ⟨ops,hops⟩ : ∃ ops,ops=Db (AJ I1) (AJ I2) (AO A1) (AO A2) (BA I1 (M1+1) (Ar I1) []) (BA I2 (M2+1) (Ar I2) []):=⟨_,rfl⟩
    refine Ut hl hw hb el ew hc hs hk d1 d2 p1 p2 q1 q2 f1 f2 g1 g2 hops fun hlate=>?_
    obtain ⟨I1',A1',d1',p1',q1',hr⟩:=Ub (tw c s [] ops) (by omega:l.length≤1048576) o1
    rw [p1] at p1'
    rw [q1] at q1'
    simp only [Option.some.injEq,Prod.mk.injEq] at p1' q1'
    obtain ⟨-,rfl⟩:=q1'
    have hI:I1=I1':=by
     have:=congrArg (List.map (·.2)) p1'.1
     unfold AJ at this
     rw [List.map_map,List.map_map] at this
     simpa [Function.comp_def] using this
    subst hI
    have s1:=FI f1.rk (M1+1) (Ar I1) [] (E7 _)
    have s2:=FI f2.rk (M2+1) (Ar I2) [] (E7 _)
    have hol:ops.length≤524288:=by
     have r1:=s1.len
     have r2:=s2.len
     have hli1:=d1.li
     have hli2:=d2.li
     have hsb:=Jv d1 d2
     have b1:=KX (AJ I2) (BA I1 (M1+1) (Ar I1) [])
     have b2:=JX (AJ I1) (BA I2 (M2+1) (Ar I2) [])
     rw [hops]; unfold Db; simp only [List.length_append]; omega
    have hraw : ∀ o∈ops,Gm o:=by rw [hops]; exact Mz d1 d2 s1 s2
    exact Ru hb o1 d1 d2 q2 f1 f2 hops hol hr (NB hc.1 hs hraw hlate)
   ·refine RR hl hw (by omega) (by omega) el ew ?_
    by_cases hc:1≤c∧c≤1073741824
    ·by_cases hs:0≤s∧s≤1000
     ·right; right
      apply Classical.byContradiction
      intro hn
      refine hin ⟨hc,hs,fun h=>?_⟩
      apply Classical.byContradiction
      intro h2
      exact hn ⟨h,by omega⟩
     ·exact .inr (.inl hs)
    ·exact .inl hc
  ·exact PH hl hw (by omega) (by omega) c s (.inr ew)
 ·exact PH hl hw (by omega) (by omega) c s (.inl el)
theorem Pj {μ:AD→Nat} (h : ∀ x,x.Place.length+x.Name.length+x.Value.length+8≤μ x) (l:List AD) (hs:(l.map μ).sum≤1048576):CT l∧8 * l.length≤(l.map μ).sum:=by
 refine ⟨(TR (fun x=>by have:=h x; omega) l hs).1,?_⟩
 clear hs
 induction l with
 | nil=>simp
 | cons a r ih=>
  have:=h a
  simp only [List.map_cons,List.sum_cons,List.length_cons]
  omega
end Go.Proofs.Ytelkfhdgmbahgaa.Al
