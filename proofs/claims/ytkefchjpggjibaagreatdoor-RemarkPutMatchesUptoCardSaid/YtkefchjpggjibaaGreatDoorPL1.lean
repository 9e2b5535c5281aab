/- Plain laws over the models, a part of them. -/
import Derived.Test.YtkefchjpggjibaaGreatDoorMod1
import Derived.Lib.DecodeNEq
import Derived.Lib.TrimUEq
import Derived.Lib.ValidLaws
namespace Go.Proofs.YtkefchjpggjibaaGreatDoor.Al
@[simp] theorem YAA {a α:Type} (x:a) (f:a→Option α):bnd1 (some x) f=f x:=rfl
@[simp] theorem YAt {a b α:Type} (x:a) (y:b) (f:a→b→Option α):bnd2 (some (x,y)) f=f x y:=rfl
@[simp] theorem YJU {a b c α:Type} (x:a) (y:b) (z:c) (f:a→b→c→Option α):bnd3 (some (x,y,z)) f=f x y z:=rfl
@[simp] theorem bnd4_some {a b c d α:Type} (x:a) (y:b) (z:c) (u:d) (f:a→b→c→d→Option α):bnd4 (some (x,y,z,u)) f=f x y z u:=rfl
@[simp] theorem YKp {a α:Type} (x:a) (f:a→Option α):ctl1 (some (.nrm x)) f=f x:=rfl
@[simp] theorem ctl1_ext {a α:Type} (t:α) (f:a→Option α):ctl1 (some (.ext t)) f=some t:=rfl
@[simp] theorem YKo {a b α:Type} (x:a) (y:b) (f:a→b→Option α):ctl2 (some (.nrm (x,y))) f=f x y:=rfl
@[simp] theorem ctl2_ext {a b α:Type} (t:α) (f:a→b→Option α):ctl2 (some (.ext t)) f=some t:=rfl
@[simp] theorem YRz {a b c α:Type} (x:a) (y:b) (z:c) (f:a→b→c→Option α):ctl3 (some (.nrm (x,y,z))) f=f x y z:=rfl
@[simp] theorem ctl3_ext {a b c α:Type} (t:α) (f:a→b→c→Option α):ctl3 (some (.ext t)) f=some t:=rfl
@[simp] theorem YAI {α:Type} [Inhabited α] (m:Option α):gd true m=m:=rfl
@[simp] theorem YBY {α:Type} [Inhabited α] (m:Option α):gd false m=some default:=rfl
theorem YAG {α:Type} [Inhabited α] {l:List α} {k:Nat} (h:k<l.length):idx l (k:Int)=some l[k]!:=by
 unfold idx
 rw [if_pos (Int.natCast_nonneg k),Int.toNat_natCast,List.getElem?_eq_getElem h,getElem!_pos l k h]
theorem YV0 {α:Type} {l:List α} {k:Nat} (h:k<l.length):idx l (k:Int)=some l[k]:=by
 unfold idx
 rw [if_pos (Int.natCast_nonneg k),Int.toNat_natCast,List.getElem?_eq_getElem h]
theorem YAQ {k:Nat} (h:k<9223372036854775807):chk .i64 ((k:Int)+1)=some (((k+1:Nat)):Int):=by
 rw [YDC (by omega) (by omega)]; rfl
theorem YDR {k:Nat} (h:0<k) (h2:k≤9223372036854775807):chk .i64 ((k:Int)-1)=some ((k-1:Nat):Int):=by
 rw [YDC (by omega) (by omega)]; congr 1; omega
def YBW {ρ:Type} (k:Nat):Option ρ→Option (Int ⊕ Ctl Unit ρ)
 | none=>some (.inl ((k+1:Nat):Int))
 | some r=>some (.inr (.ext r))
def YI8 {ρ:Type} : Option ρ→Ctl Unit ρ
 | none=>.nrm ()
 | some r=>.ext r
theorem YAa {ρ:Type} {f:Int→Option (Int ⊕ Ctl Unit ρ)} {n:Nat} (g:Nat→Option ρ) (h1 : ∀ k:Nat,k<n→f k=YBW k (g k))
  (h2:f n=some (.inr (.nrm ()))):iter f 0=some (YI8 ((List.range n).findSome? g)):=by
 have key : ∀ m k:Nat,k+m=n→iter f (k:Int)=some (YI8 ((List.range' k m).findSome? g)):=by
  intro m
  induction m with
  | zero=>
   intro k hk
   obtain rfl:k=n:=by omega
   rw [YAX h2]; rfl
  | succ m ih=>
   intro k hk
   rw [List.range'_succ,List.findSome?_cons]
   have:=h1 k (by omega)
   cases hg:g k with
   | none=>rw [hg] at this; rw [YBM this,ih (k+1) (by omega)]
   | some r=>rw [hg] at this; rw [YAX this]; rfl
 rw [List.range_eq_range']
 exact key n 0 (by omega)
theorem YIO {α ρ:Type} {l:List α} {g h:α→Option ρ} (e : ∀ x∈l,g x=h x):l.findSome? g=l.findSome? h:=by
 induction l with
 | nil=>rfl
 | cons a l ih=>rw [List.findSome?_cons,List.findSome?_cons,e a (List.mem_cons_self ..),ih fun x hx=>e x (List.mem_cons_of_mem _ hx)]
theorem YOI {α ρ:Type} [Inhabited α] (l:List α) (p:α→Bool) (r:ρ):(List.range l.length).findSome? (fun k=>if p l[k]! then none else some r)=if l.all p then none else some r:=by
 induction l with
 | nil=>rfl
 | cons a l ih=>
  rw [List.length_cons,List.range_succ_eq_map,List.findSome?_cons,List.findSome?_map]
  have hr:(List.range l.length).findSome? ((fun k=>if p (a :: l)[k]! = true then none else some r) ∘ Nat.succ)=if l.all p=true then none else some r:=by
   rw [← ih]; exact YIO fun k _=>by simp
  rw [hr]
  by_cases hp:p a=true
  ·simp [hp]
  ·simp [hp]
theorem YBN {ρ:Type} (o:Option ρ) (f:Unit→Option ρ):ctl1 (some (YI8 o)) f=match o with | none=>f () | some r=>some r:=by cases o <;> rfl
def chOK (c:UInt8):Bool:=(decide (97≤c.toNat) && decide (c.toNat≤122)) || (decide (48≤c.toNat) && decide (c.toNat≤57)) || decide (c.toNat=46) || decide (c.toNat=45)
def YFC (s:List UInt8):Bool:=decide (1≤s.length) && decide (s.length≤24) && (decide (97≤s[0]!.toNat) && decide (s[0]!.toNat≤122)) && s.all chOK
def YLH (c:UInt8):Bool:=decide (32≤c.toNat) && decide (c.toNat≤126)
def YEW (s:List UInt8):Bool:=decide (1≤s.length) && decide (s.length≤200) && s.all YLH
theorem YMk (s:List UInt8) (k:Nat) (hk:k<s.length) (hm:s.length≤9223372036854775807):YDx s k=YBW k (if chOK s[k]! then none else some false):=by
 unfold YDx
 rw [if_pos (by simpa using hk),YAG hk,YAA,YAQ (by omega)]
 generalize s[k]! = c
 have e:(((((decide ((c.toNat:Int)<97)) || (decide (122<(c.toNat:Int)))) && ((decide ((c.toNat:Int)<48)) || (decide (57<(c.toNat:Int))))) && (!decide ((c.toNat:Int)=46))) && (!decide ((c.toNat:Int)=45))) = !chOK c:=by
  unfold chOK
  rw [Bool.eq_iff_iff]
  simp only [Bool.or_eq_true,Bool.and_eq_true,decide_eq_true_eq,Bool.not_eq_true',decide_eq_false_iff_not,Bool.or_eq_false_iff,Bool.and_eq_false_imp]
  omega
 rw [e]
 cases chOK c <;> rfl
theorem YKP (s:List UInt8) (hm:s.length≤9223372036854775807):YGh s=some (YFC s):=by
 unfold YGh
 rw [YAa (n:=s.length) (fun k=>if chOK s[k]! then none else some false) (fun k hk=>YMk s k hk hm) (by unfold YDx; rw [if_neg (by simp)]),YOI]
 unfold YFC
 cases s with
 | nil=>simp
 | cons c t=>
  have h0:idx (c :: t) 0=some c:=rfl
  rw [h0]
  simp only [List.getElem!_cons_zero,decide_eq_false (List.cons_ne_nil c t),Bool.false_or]
  generalize (c :: t).all chOK=al
  generalize hl:(c :: t).length=L
  have hL:1≤L:=by rw [← hl]; simp
  by_cases h1:24<(L:Int)
  ·have e1:decide (L≤24)=false:=by simp; omega
   simp [h1,e1]
  ·rw [decide_eq_false h1]
   simp only [Bool.false_or,beq_self_eq_true,YAI,YAA]
   have e1:decide (L≤24)=true:=by simp; omega
   have e2:decide (1≤L)=true:=by simp; omega
   rw [e1,e2]
   by_cases h2:(c.toNat:Int)<97
   ·have e3:decide (97≤c.toNat)=false:=by simp; omega
    simp [h2,e3]
   ·rw [decide_eq_false h2]
    have e3:decide (97≤c.toNat)=true:=by simp; omega
    simp only [beq_self_eq_true,YAI,YAA,Bool.false_or]
    by_cases h3:122<(c.toNat:Int)
    ·have e4:decide (c.toNat≤122)=false:=by simp; omega
     simp [h3,e4]
    ·have e4:decide (c.toNat≤122)=true:=by simp; omega
     rw [if_neg (by simpa using h3),YBN,e3,e4]
     cases al <;> rfl
def YMc (k:Nat) (c:UInt8):Bool:=(decide (97≤c.toNat) && decide (c.toNat≤122)) || (decide (k≠0) && chOK c)
theorem YNs (s:List UInt8) (k:Nat) (hk:k<s.length) (hm:s.length≤9223372036854775807) :
  YEZ s k=YBW k (if YMc k s[k]! then none else some false):=by
 unfold YEZ
 rw [if_pos (by simpa using hk),YAG hk,YAA,YAQ (by omega)]
 generalize s[k]! = c
 have e:((!((decide (97≤(c.toNat:Int))) && (decide ((c.toNat:Int)≤122)))) && ((decide ((k:Int)=0)) || (((!decide ((c.toNat:Int)=46)) && (!decide ((c.toNat:Int)=45))) && ((decide ((c.toNat:Int)<48)) || (decide (57<(c.toNat:Int))))))) = !YMc k c:=by
  unfold YMc chOK
  rw [Bool.eq_iff_iff]
  simp only [Bool.or_eq_true,Bool.and_eq_true,decide_eq_true_eq,Bool.not_eq_true',decide_eq_false_iff_not,Bool.or_eq_false_iff,Bool.and_eq_false_imp]
  omega
 rw [e]
 cases YMc k c <;> rfl
theorem YJr {ρ:Type} (n:Nat) (g:Nat→Option ρ):(List.range n).findSome? g=none ↔ ∀ k,k<n→g k=none:=by
 rw [List.findSome?_eq_none_iff]; simp
theorem YYF {α:Type} [Inhabited α] (l:List α) (p:α→Bool):l.all p=true ↔ ∀ k,k<l.length→p l[k]! = true:=by
 rw [List.all_eq_true]
 constructor
 ·intro h k hk; rw [getElem!_pos l k hk]; exact h _ (List.getElem_mem hk)
 ·intro h x hx
  obtain ⟨k,hk,rfl⟩:=List.mem_iff_getElem.1 hx
  rw [← getElem!_pos l k hk]; exact h k hk
theorem YDQ {ρ:Type} (n:Nat) (p:Nat→Bool) (r:ρ):(List.range n).findSome? (fun k=>if p k then none else some r)=if (List.range n).all p then none else some r:=by
 generalize List.range n=l
 induction l with
 | nil=>rfl
 | cons a l ih=>rw [List.findSome?_cons,List.all_cons,]; by_cases h:p a=true <;> simp [h,ih]
theorem YLh (s:List UInt8) (hm:s.length≤9223372036854775807):YH2 s=some (YFC s):=by
 unfold YH2
 rw [YAa (n:=s.length) (fun k=>if YMc k s[k]! then none else some false) (fun k hk=>YNs s k hk hm) (by unfold YEZ; rw [if_neg (by simp)]),YDQ,YBN]
 have key:((List.range s.length).all fun k=>YMc k s[k]!)=(decide (s=[]) || ((decide (97≤s[0]!.toNat) && decide (s[0]!.toNat≤122)) && s.all chOK)):=by
  rw [Bool.eq_iff_iff,List.all_eq_true]
  simp only [List.mem_range,Bool.or_eq_true,decide_eq_true_eq,Bool.and_eq_true,YYF]
  constructor
  ·intro h
   cases hs:s with
   | nil=>exact .inl rfl
   | cons c t=>
    rw [← hs]
    have hl:0<s.length:=by rw [hs]; simp
    have h0:=h 0 hl
    simp only [YMc,Bool.or_eq_true,Bool.and_eq_true,decide_eq_true_eq] at h0
    refine .inr ⟨by omega,fun k hk=>?_⟩
    have:=h k hk
    simp only [YMc,chOK,Bool.or_eq_true,Bool.and_eq_true,decide_eq_true_eq] at this ⊢
    omega
  ·rintro (rfl | ⟨h1,h2⟩) k hk
   ·cases hk
   ·have:=h2 k hk
    by_cases hk0:k=0
    ·subst hk0; simp only [YMc,Bool.or_eq_true,Bool.and_eq_true,decide_eq_true_eq]; omega
    ·simp only [YMc,Bool.or_eq_true,Bool.and_eq_true,decide_eq_true_eq]; exact .inr ⟨hk0,this⟩
 rw [key]
 unfold YFC
 cases s with
 | nil=>rfl
 | cons c t=>
  rw [decide_eq_false (List.cons_ne_nil c t),Bool.false_or]
  generalize (c :: t).all chOK=al
  generalize (decide (97≤(c :: t)[0]!.toNat) && decide ((c :: t)[0]!.toNat≤122))=fc
  have e1:decide (1≤((c :: t).length:Int))=decide (1≤(c :: t).length):=by simp; omega
  have e2:decide (((c :: t).length:Int)≤24)=decide ((c :: t).length≤24):=by simp; omega
  rw [e1,e2]
  cases fc <;> cases al <;> simp
theorem YES (s:List UInt8) (hm:s.length≤9223372036854775807):YCz s=some (YEW s):=by
 unfold YCz YEW
 rw [YAa (n:=s.length) (fun k=>if YLH s[k]! then none else some false) (fun k hk=>by
  unfold YET
  rw [if_pos (by simpa using hk),YAG hk,YAA,YAQ (by omega)]
  generalize s[k]! = c
  have e:((decide ((c.toNat:Int)<32)) || (decide (126<(c.toNat:Int)))) = !YLH c:=by
   unfold YLH
   rw [Bool.eq_iff_iff]
   simp only [Bool.or_eq_true,Bool.and_eq_true,decide_eq_true_eq,Bool.not_eq_true',decide_eq_false_iff_not,Bool.and_eq_false_imp]
   omega
  rw [e]
  cases YLH c <;> rfl) (by unfold YET; rw [if_neg (by simp)]),YOI,YBN]
 generalize s.all YLH=al
 cases s with
 | nil=>simp
 | cons c t=>
  rw [decide_eq_false (List.cons_ne_nil c t),Bool.false_or]
  generalize hl:(c :: t).length=L
  have hL:1≤L:=by rw [← hl]; simp
  by_cases h1:200<(L:Int)
  ·have e1:decide (L≤200)=false:=by simp; omega
   simp [h1,e1]
  ·have e1:decide (L≤200)=true:=by simp; omega
   have e2:decide (1≤L)=true:=by simp; omega
   rw [if_neg (by simpa using h1),e1,e2]
   cases al <;> rfl
theorem YHg (s:List UInt8) (hm:s.length≤9223372036854775807):YFi s=some (YEW s):=by
 unfold YFi YEW
 rw [YAa (n:=s.length) (fun k=>if YLH s[k]! then none else some false) (fun k hk=>by
  unfold YEs
  rw [if_pos (by simpa using hk),YAG hk,YAA,YAQ (by omega)]
  generalize s[k]! = c
  have e:((decide ((c.toNat:Int)<32)) || (decide (126<(c.toNat:Int)))) = !YLH c:=by
   unfold YLH
   rw [Bool.eq_iff_iff]
   simp only [Bool.or_eq_true,Bool.and_eq_true,decide_eq_true_eq,Bool.not_eq_true',decide_eq_false_iff_not,Bool.and_eq_false_imp]
   omega
  rw [e]
  cases YLH c <;> rfl) (by unfold YEs; rw [if_neg (by simp)]),YOI,YBN]
 generalize s.all YLH=al
 have e1:decide (1≤(s.length:Int))=decide (1≤s.length):=by simp; omega
 have e2:decide ((s.length:Int)≤200)=decide (s.length≤200):=by simp; omega
 rw [e1,e2]
 cases al <;> simp
theorem YNm (a b:UInt8) (x y:List UInt8):sLt (a :: x) (b :: y)=(decide (a<b) || (a == b && sLt x y)):=rfl
theorem YTc : ∀ (a b:List UInt8),(sLt a b || decide (a=b)) = !sLt b a
 | [],[]=>rfl
 | [],_ :: _=>rfl
 | _ :: _,[]=>rfl
 | a :: x,b :: y=>by
  rw [YNm,YNm]
  have ih:=YTc x y
  by_cases h:a=b
  ·subst h
   have h1 : ¬ a<a:=fun h=>by simp [UInt8.lt_iff_toNat_lt] at h
   simp only [decide_eq_false h1,beq_self_eq_true,Bool.true_and,Bool.false_or,List.cons.injEq,true_and]
   exact ih
  ·have h2:(a == b)=false:=by simpa using h
   have h3:(b == a)=false:=by simpa using fun e:b=a=>h e.symm
   have h4 : ¬ (a :: x=b :: y):=fun e=>h (List.cons.inj e).1
   rw [h2,h3,decide_eq_false h4]
   simp only [Bool.false_and,Bool.or_false]
   have h5:a.toNat≠b.toNat:=fun e=>h (UInt8.toNat_inj.1 e)
   by_cases hlt:a<b
   ·have : ¬ b<a:=by rw [UInt8.lt_iff_toNat_lt] at hlt ⊢; omega
    simp [hlt,this]
   ·have:b<a:=by rw [UInt8.lt_iff_toNat_lt] at hlt ⊢; omega
    simp [hlt,this]
def YLo (l:List YAD):Prop:=∀ a∈l,a.Name.length≤9223372036854775807∧a.Value.length≤9223372036854775807
def errA (l:List YAD) (ch:Bool) (k:Nat):Option Int:=
 if YFC l[k]!.Name=false then some 9 else if YEW l[k]!.Value=false ∧ ¬ (ch=true∧l[k]!.Value=[]) then some 23 else if 0<k∧sLt l[k-1]!.Name l[k]!.Name=false then some 5 else none
def YAv (l:List YAD) (ch:Bool):Int:=((List.range l.length).findSome? (errA l ch)).getD 0
theorem YLo.at {l:List YAD} (h:YLo l) {k:Nat} (hk:k<l.length):l[k]!.Name.length≤9223372036854775807∧l[k]!.Value.length≤9223372036854775807:=by
 rw [getElem!_pos l k hk]; exact h _ (List.getElem_mem hk)
theorem YL5 (l:List YAD) (ch:Bool) (h:YLo l) (hm:l.length≤9223372036854775807) (k:Nat) (hk:k<l.length):YDT l ch k=YBW k (errA l ch k):=by
 unfold YDT errA
 obtain ⟨hn1,hn2⟩:=h.at hk
 rw [if_pos (by simpa using hk),YAG hk,YAA]
 generalize l[k]! = x at hn1 hn2 ⊢
 rw [YKP _ hn1,YAA]
 cases YFC x.Name
 ·rfl
 rw [if_neg (by decide),if_neg (by decide),YES _ hn2,YAA,YAQ (by omega)]
 by_cases hv:YEW x.Value=false ∧ ¬ (ch=true∧x.Value=[])
 ·rw [if_pos hv,if_pos (by simp [hv.1]; cases ch <;> simp_all)]; rfl
 rw [if_neg hv,if_neg (by intro e; simp at e; exact hv ⟨e.1,by rintro ⟨a,b⟩; simp [a,b] at e⟩)]
 by_cases hk0:k=0
 ·subst hk0; rfl
 ·have h0:decide ((0:Int)<(k:Int))=true:=by simp; omega
  rw [h0,YDR (by omega) (by omega)]
  simp only [beq_self_eq_true,YAI,YAA,Bool.true_and]
  rw [YAG (by omega),YAA,YTc]
  have:(0<k∧sLt l[k-1]!.Name x.Name=false)↔sLt l[k-1]!.Name x.Name=false:=by constructor; exact fun h=>h.2; exact fun h=>⟨by omega,h⟩
  simp only [this]
  cases sLt l[k-1]!.Name x.Name <;> rfl
theorem YIe (l:List YAD) (ch:Bool) (h:YLo l) (hm:l.length≤9223372036854775807) (k:Nat) (hk:k<l.length):YBn l ch k=YBW k (errA l ch k):=by
 unfold YBn errA
 obtain ⟨hn1,hn2⟩:=h.at hk
 rw [if_pos (by simpa using hk),YAG hk,YAA]
 generalize l[k]! = x at hn1 hn2 ⊢
 rw [YLh _ hn1,YAA]
 cases YFC x.Name
 ·rfl
 rw [if_neg (by decide),if_neg (by decide),YHg _ hn2,YAA,YAQ (by omega)]
 by_cases hv:YEW x.Value=false ∧ ¬ (ch=true∧x.Value=[])
 ·rw [if_pos hv,if_pos (by simp [hv.1]; cases ch <;> simp_all)]; rfl
 rw [if_neg hv,if_neg (by intro e; simp at e; exact hv ⟨e.1,by rintro ⟨a,b⟩; simp [a,b] at e⟩)]
 by_cases hk0:k=0
 ·subst hk0; rfl
 ·have h0:decide ((0:Int)<(k:Int))=true:=by simp; omega
  rw [h0,YDR (by omega) (by omega)]
  simp only [beq_self_eq_true,YAI,YAA,Bool.true_and]
  rw [YAG (by omega),YAA]
  have:(0<k∧sLt l[k-1]!.Name x.Name=false)↔sLt l[k-1]!.Name x.Name=false:=by constructor; exact fun h=>h.2; exact fun h=>⟨by omega,h⟩
  simp only [this]
  cases sLt l[k-1]!.Name x.Name <;> rfl
theorem YCb {o:Option Int} : (ctl1 (some (YI8 o)) fun _:Unit=>some 0)=some (o.getD 0):=by cases o <;> rfl
theorem YJV (l:List YAD) (ch:Bool) (h:YLo l) (hm:l.length≤9223372036854775807):YFW l ch=some (YAv l ch):=by
 unfold YFW
 rw [YAa (n:=l.length) (errA l ch) (fun k hk=>YL5 l ch h hm k hk) (by unfold YDT; rw [if_neg (by simp)]),YCb]; rfl
theorem YDN (l:List YAD) (ch:Bool) (h:YLo l) (hm:l.length≤9223372036854775807):YBR l ch=some (YAv l ch):=by
 unfold YBR
 rw [YAa (n:=l.length) (errA l ch) (fun k hk=>YIe l ch h hm k hk) (by unfold YBn; rw [if_neg (by simp)]),YCb]; rfl
theorem YFO (l:List YAD) (h:YLo l) (hm:l.length≤9223372036854775807):YDU l=some (YAv l false):=by unfold YDU; rw [YJV l _ h hm]; rfl
theorem YFx (l:List YAD) (h:YLo l) (hm:l.length≤9223372036854775807):YBf l=some (YAv l true):=by unfold YBf; rw [YJV l _ h hm]; rfl
def getA (l:List YAD) (name:List UInt8):List UInt8:=((List.range l.length).findSome? fun k=>if l[k]!.Name=name then some l[k]!.Value else none).getD []
theorem YPG {o:Option (List UInt8)} : (ctl1 (some (YI8 o)) fun _:Unit=>some [])=some (o.getD []):=by cases o <;> rfl
theorem YIs (l:List YAD) (name:List UInt8) (hm:l.length≤9223372036854775807):YG4 l name=some (getA l name):=by
 unfold YG4
 rw [YAa (n:=l.length) (fun k=>if l[k]!.Name=name then some l[k]!.Value else none) (fun k hk=>by
  unfold YFw
  rw [if_pos (by simpa using hk),YAG hk,YAA,YAQ (by omega)]
  generalize l[k]! = x
  by_cases h:x.Name=name <;> simp [h,YBW]) (by unfold YFw; rw [if_neg (by simp)]),YPG]; rfl
theorem YSW (l:List YAD) (name:List UInt8) (hm:l.length≤9223372036854775807):YLj l name=some (getA l name):=by
 unfold YLj
 rw [YAa (n:=l.length) (fun k=>if l[k]!.Name=name then some l[k]!.Value else none) (fun k hk=>by
  unfold YGR
  rw [if_pos (by simpa using hk),YAG hk,YAA,YAQ (by omega)]
  generalize l[k]! = x
  by_cases h:x.Name=name <;> simp [h,YBW]) (by unfold YGR; rw [if_neg (by simp)]),YPG]; rfl
theorem YL4 (x y:YAD):x=y↔x.Name=y.Name∧x.Value=y.Value:=by cases x; cases y; simp
theorem YE0 (a b:List YAD) (hm:a.length≤9223372036854775807):YDD a b=some (decide (a=b)):=by
 unfold YDD
 by_cases hl:a.length=b.length
 ·rw [if_neg (by simp [hl]),YAa (n:=a.length) (fun k=>if decide (a[k]! = b[k]!) then none else some false) (fun k hk=>by
   unfold YE1
   rw [if_pos (by simpa using hk),YAG hk,YAG (by omega),YAA,YAA,YAQ (by omega)]
   generalize a[k]! = x
   generalize b[k]! = y
   by_cases h:x=y
   ·subst h; simp [YBW]
   ·have h':=h; rw [YL4] at h'
    simp only [decide_eq_false h,Bool.and_true]
    by_cases h1:x.Name=y.Name
    ·have h2 : ¬ x.Value=y.Value:=fun e=>h' ⟨h1,e⟩
     simp [h1,h2,YBW]
    ·simp [h1,YBW]) (by unfold YE1; rw [if_neg (by simp)]),YDQ,YBN]
  by_cases h:a=b
  ·subst h; simp
  ·rw [decide_eq_false h]
   have:((List.range a.length).all fun k=>decide (a[k]! = b[k]!))=false:=by
    rw [← Bool.not_eq_true,List.all_eq_true]
    intro hall
    apply h
    apply List.ext_getElem hl
    intro k h1 h2
    have:=hall k (List.mem_range.2 h1)
    simp only [decide_eq_true_eq] at this
    rwa [getElem!_pos a k h1,getElem!_pos b k h2] at this
   rw [this]; rfl
 ·rw [if_pos (by simp; omega),decide_eq_false (by rintro rfl; exact hl rfl)]
theorem YBc (a b:List YAD) (hm:a.length≤9223372036854775807):YA7 a b=some (decide (a=b)):=by
 unfold YA7
 by_cases hl:a.length=b.length
 ·rw [if_neg (by simp [hl]),YAa (n:=a.length) (fun k=>if decide (a[k]! = b[k]!) then none else some false) (fun k hk=>by
   unfold YCm
   rw [if_pos (by simpa using hk),YAG hk,YAG (by omega),YAA,YAA,YAQ (by omega)]
   generalize a[k]! = x
   generalize b[k]! = y
   by_cases h:x=y
   ·subst h; simp [YBW]
   ·have h':=h; rw [YL4] at h'
    simp only [decide_eq_false h,Bool.and_true]
    by_cases h1:x.Name=y.Name
    ·have h2 : ¬ x.Value=y.Value:=fun e=>h' ⟨h1,e⟩
     simp [h1,h2,YBW]
    ·simp [h1,YBW]) (by unfold YCm; rw [if_neg (by simp)]),YDQ,YBN]
  by_cases h:a=b
  ·subst h; simp
  ·rw [decide_eq_false h]
   have:((List.range a.length).all fun k=>decide (a[k]! = b[k]!))=false:=by
    rw [← Bool.not_eq_true,List.all_eq_true]
    intro hall
    apply h
    apply List.ext_getElem hl
    intro k h1 h2
    have:=hall k (List.mem_range.2 h1)
    simp only [decide_eq_true_eq] at this
    rwa [getElem!_pos a k h1,getElem!_pos b k h2] at this
   rw [this]; rfl
 ·rw [if_pos (by simp; omega),decide_eq_false (by rintro rfl; exact hl rfl)]
theorem YXX (a:List UInt8):sLt a []=false:=by cases a <;> rfl
theorem YO5 : ∀ {a b c:List UInt8},sLt a b=true→sLt b c=true→sLt a c=true
 | _,[],_,h,_=>by rw [YXX] at h; cases h
 | _,_ :: _,[],_,h=>by cases h
 | [],_ :: _,_ :: _,_,_=>rfl
 | a :: x,b :: y,c :: z,h,k=>by
  rw [YNm] at h k ⊢
  simp only [Bool.or_eq_true,decide_eq_true_eq,Bool.and_eq_true,beq_iff_eq,UInt8.lt_iff_toNat_lt] at h k ⊢
  rcases h with h | ⟨rfl,h⟩ <;> rcases k with k | ⟨rfl,k⟩
  ·left; omega
  ·left; exact h
  ·left; exact k
  ·right; exact ⟨rfl,YO5 h k⟩
def Srt (l:List YAD):Prop:=l.Pairwise fun x y=>sLt x.Name y.Name=true
def fnd:List YAD→List UInt8→Option YAD
 | [],_=>none
 | x :: l,n=>if x.Name=n then some x else fnd l n
theorem YWA {l:List YAD} {n:List UInt8} {e:YAD} (h:fnd l n=some e):e.Name=n∧e∈l:=by
 induction l with
 | nil=>cases h
 | cons x l ih=>
  rw [fnd] at h
  split at h
  ·cases h; exact ⟨‹_›,List.mem_cons_self ..⟩
  ·exact ⟨(ih h).1,List.mem_cons_of_mem _ (ih h).2⟩
theorem YRG {x:YAD} {l:List YAD} : Srt (x :: l)↔(∀ e∈l,sLt x.Name e.Name=true)∧Srt l:=List.pairwise_cons
def Nm (l:List YAD):Prop:=∀ e∈l,e.Name≠[]
theorem YQL {l:List YAD} (h : ∀ k,k+1<l.length→sLt l[k]!.Name l[k+1]!.Name=true):Srt l:=by
 induction l with
 | nil=>exact List.Pairwise.nil
 | cons x l ih=>
  have hl:=ih fun k hk=>by have:=h (k+1) (by simp; omega); simpa using this
  refine YRG.2 ⟨fun e he=>?_,hl⟩
  cases l with
  | nil=>cases he
  | cons y l=>
   have h0:sLt x.Name y.Name=true:=by have:=h 0 (by simp); simpa using this
   rcases List.mem_cons.1 he with rfl | he
   ·exact h0
   ·exact YO5 h0 ((YRG.1 hl).1 e he)
theorem YXu {l:List YAD} {ch:Bool} (h:YAv l ch=0):Srt l∧Nm l∧(ch=false → ∀ e∈l,e.Value≠[]):=by
 have hn : ∀ k,k<l.length→errA l ch k=none:=by
  intro k hk
  unfold YAv at h
  cases hf:(List.range l.length).findSome? (errA l ch) with
  | none=>exact (YJr _ _).1 hf k hk
  | some r=>
   rw [hf] at h
   obtain ⟨j,_,hj⟩:=List.exists_of_findSome?_eq_some hf
   exfalso
   unfold errA at hj
   simp only [Option.getD_some] at h
   subst h
   repeat' split at hj
   all_goals simp at hj
 have hname : ∀ k,k<l.length→YFC l[k]!.Name=true ∧ ¬ (YEW l[k]!.Value=false ∧ ¬ (ch=true∧l[k]!.Value=[])) ∧ ¬ (0<k∧sLt l[k-1]!.Name l[k]!.Name=false):=by
  intro k hk
  have:=hn k hk
  unfold errA at this
  split at this
  ·cases this
  ·split at this
   ·cases this
   ·split at this
    ·cases this
    ·exact ⟨by rcases hx:YFC l[k]!.Name with _ | _; exact absurd hx (by assumption); rfl,‹_›,‹_›⟩
 refine ⟨YQL fun k hk=>?_,fun e he=>?_,fun hc e he=>?_⟩
 ·have:=(hname (k+1) hk).2.2
  rw [Nat.add_sub_cancel] at this
  simpa using this
 ·obtain ⟨k,hk,rfl⟩:=List.mem_iff_getElem.1 he
  have:=(hname k hk).1
  rw [getElem!_pos l k hk] at this
  intro e0
  rw [e0] at this
  simp [YFC] at this
 ·obtain ⟨k,hk,rfl⟩:=List.mem_iff_getElem.1 he
  have:=(hname k hk).2.1
  rw [getElem!_pos l k hk,hc] at this
  intro e0
  apply this
  rw [e0]
  exact ⟨rfl,by simp⟩
theorem YM6 {ρ:Type} (g:YAD→Option ρ) (l:List YAD):(List.range l.length).findSome? (fun k=>g l[k]!)=l.findSome? g:=by
 induction l with
 | nil=>rfl
 | cons a l ih=>
  rw [List.length_cons,List.range_succ_eq_map,List.findSome?_cons,List.findSome?_map,List.findSome?_cons]
  have:(List.range l.length).findSome? ((fun k=>g (a :: l)[k]!) ∘ Nat.succ)=l.findSome? g:=by
   rw [← ih]; exact YIO fun k _=>by simp
  rw [this]
  simp
theorem YRm {ρ:Type} (l:List YAD) (n:List UInt8) (v:YAD→ρ):(l.findSome? fun x=>if x.Name=n then some (v x) else none)=(fnd l n).map v:=by
 induction l with
 | nil=>rfl
 | cons x l ih=>
  rw [List.findSome?_cons,fnd]
  by_cases h:x.Name=n
  ·simp [h]
  ·simp [h,ih]
theorem YXv (l:List YAD) (n:List UInt8):getA l n=match fnd l n with | some x=>x.Value | none=>[]:=by
 unfold getA
 rw [YM6 (fun x=>if x.Name=n then some x.Value else none) l,YRm l n (·.Value)]
 cases fnd l n <;> rfl
theorem YM5 (l:List YAD) (n:List UInt8) (hm:l.length≤9223372036854775807):YJk l n=some (fnd l n).isSome:=by
 unfold YJk
 rw [YAa (n:=l.length) (fun k=>(fun x:YAD=>if x.Name=n then some true else none) l[k]!) (fun k hk=>by
  unfold YGQ
  rw [if_pos (by simpa using hk),YAG hk,YAA,YAQ (by omega)]
  generalize l[k]! = x
  by_cases h:x.Name=n <;> simp [h,YBW]) (by unfold YGQ; rw [if_neg (by simp)]),YM6 (fun x:YAD=>if x.Name=n then some true else none) l,YRm l n (fun _=>true),YBN]
 cases fnd l n <;> rfl
theorem YCx {σ β:Type} {f:σ→Option (σ ⊕ β)} (n:Nat) (R:Nat→σ→Prop) (Q:β→Prop)
  (h1 : ∀ k s,k<n→R k s→(∃ s',f s=some (.inl s')∧R (k+1) s')∨(∃ b,f s=some (.inr b)∧Q b))
  (h2 : ∀ s,R n s → ∃ b,f s=some (.inr b)∧Q b) {s:σ} (h0:R 0 s) : ∃ b,iter f s=some b∧Q b:=by
 have key : ∀ m k s,k+m=n→R k s → ∃ b,iter f s=some b∧Q b:=by
  intro m
  induction m with
  | zero=>
   intro k s hk hR
   obtain rfl:k=n:=by omega
   obtain ⟨b,hb,hq⟩:=h2 s hR
   exact ⟨b,YAX hb,hq⟩
  | succ m ih=>
   intro k s hk hR
   rcases h1 k s (by omega) hR with ⟨s',h3,h4⟩ | ⟨b,h3,h4⟩
   ·obtain ⟨b,h5,h6⟩:=ih (k+1) s' (by omega) h4
    exact ⟨b,by rw [YBM h3,h5],h6⟩
   ·exact ⟨b,YAX h3,h4⟩
 exact key n 0 s (by omega) h0
theorem YG1 {α:Type} [Inhabited α] {l:List α} {k:Nat} (h:k<l.length):l.drop k=l[k]! :: l.drop (k+1):=by
 rw [List.drop_eq_getElem_cons h,getElem!_pos l k h]
theorem YQC {α:Type} [Inhabited α] {l:List α} {k:Nat} (h:k<l.length):l.take (k+1)=l.take k++[l[k]!]:=by
 rw [List.take_add_one,List.getElem?_eq_getElem h,getElem!_pos l k h]; rfl
theorem YBI {α:Type} [Inhabited α] {l:List α} {k:Nat} (h:k<l.length):l[k]! ∈ l:=by
 rw [getElem!_pos l k h]; exact List.getElem_mem h
theorem YSi {ρ:Type} {n k:Nat} {g:Nat→Option ρ} {r:ρ} (hk:k<n) (h1 : ∀ j,j<k→g j=none) (h2:g k=some r):(List.range n).findSome? g=some r:=by
 obtain ⟨m,rfl⟩ : ∃ m,n=k+(m+1):=⟨n-k-1,by omega⟩
 rw [List.range_eq_range',← List.range'_append (s:=0) (m:=k) (n:=m+1) (step:=1),List.findSome?_append]
 have:(List.range' 0 k).findSome? g=none:=by
  rw [List.findSome?_eq_none_iff]; intro x hx; exact h1 x (by simpa using hx)
 rw [this,Nat.one_mul,Nat.zero_add,List.range'_succ,List.findSome?_cons,h2]; rfl
theorem YJK {ρ:Type} {n:Nat} {g:Nat→Option ρ} (h1 : ∀ j,j<n→g j=none):(List.range n).findSome? g=none:=by
 rw [List.findSome?_eq_none_iff]; intro x hx; exact h1 x (by simpa using hx)
theorem YNN {x:Int} (h1 : -9223372036854775808≤x) (h2:x≤9223372036854775807):chk .i64 x=some x:=YDC h1 h2
theorem YHk (x lo hi:Int):YC2 x lo hi=some (decide (lo≤x) && decide (x≤hi)):=by
 unfold YC2
 rfl
theorem YUM {α σ β γ:Type} [Inhabited α] {f:σ→Option (σ ⊕ β)} (l:List α) (mk:γ→Nat→σ) (sp:List α→γ→β) (I:Nat→γ→Prop)
  (h1 : ∀ k c,k<l.length→I k c→(∃ c',f (mk c k)=some (.inl (mk c' (k+1)))∧I (k+1) c'∧sp (l[k]! :: l.drop (k+1)) c=sp (l.drop (k+1)) c')∨f (mk c k)=some (.inr (sp (l[k]! :: l.drop (k+1)) c)))
  (h2 : ∀ c,I l.length c→f (mk c l.length)=some (.inr (sp [] c))) (c:γ) (h0:I 0 c) (s:σ) (hs:s=mk c 0):iter f s=some (sp l c):=by
 subst hs
 have key : ∀ m k c,k+m=l.length→I k c→iter f (mk c k)=some (sp (l.drop k) c):=by
  intro m
  induction m with
  | zero=>
   intro k c hk hI
   obtain rfl:k=l.length:=by omega
   rw [List.drop_length]
   exact YAX (h2 c hI)
  | succ m ih=>
   intro k c hk hI
   rw [YG1 (by omega)]
   rcases h1 k c (by omega) hI with ⟨c',h3,h4,h5⟩ | h3
   ·rw [YBM h3,ih (k+1) c' (by omega) h4,h5]
   ·exact YAX h3
 have:=key l.length 0 c (by omega) h0
 rwa [List.drop_zero] at this
theorem app8 {o:List Int} {x:Int} (h:o.length+1≤1099511627776):app 8 o [x]=some (o++[x]):=by
 unfold app; rw [if_pos (by simp; omega)]
def YGg (c:Int):Bool:=decide (c=9) || decide (c=10) || (decide (32≤c) && decide (c≤126)) || (decide (160≤c) && decide (c≤55295)) || (decide (57344≤c) && decide (c≤1114111))
def YBk (x:YAB):Int:=
 if (x.Char=0∧x.Ref=0)∨(x.Char≠0∧x.Ref≠0) then 4 else if (x.Char≠0∧YGg x.Char=false)∨(x.Ref≠0 ∧ ¬ (1≤x.Ref∧x.Ref≤1073741824)) then 2 else YAv x.Attrs false
def okE (x:YAB):Prop:=x.Attrs.length≤9223372036854775807∧YLo x.Attrs
theorem YF7 (c:Int):YEx c=some (YGg c):=by
 unfold YEx YGg
 congr 1
 rw [Bool.eq_iff_iff]
 simp only [Bool.or_eq_true,Bool.and_eq_true,decide_eq_true_eq]
 omega
theorem YGv (c:Int):YF4 c=some (YGg c):=by
 unfold YF4 YGg
 rw [YHk,YHk,YHk]
 generalize decide (c=9)=a1
 generalize decide (c=10)=a2
 generalize (decide (32≤c) && decide (c≤126))=a3
 generalize (decide (160≤c) && decide (c≤55295))=a4
 generalize (decide (57344≤c) && decide (c≤1114111))=a5
 cases a1 <;> cases a2 <;> cases a3 <;> cases a4 <;> cases a5 <;> rfl
theorem YHr (x:YAB) (h:okE x):YGd x=some (YBk x):=by
 unfold YGd YBk
 rw [YF7,YFO _ h.2 h.1]
 by_cases c:x.Char=0
 ·by_cases r:x.Ref=0
  ·simp [c,r]
  ·by_cases q:1≤x.Ref∧x.Ref≤1073741824
   ·have q1 : ¬ x.Ref<1:=by omega
    have q2 : ¬ 1073741824<x.Ref:=by omega
    simp [c,r,q,q1,q2]
   ·have q1:x.Ref<1∨1073741824<x.Ref:=by omega
    simp [c,r,q,q1]
 ·by_cases r:x.Ref=0
  ·cases hc:YGg x.Char <;> simp [c,r,hc]
  ·simp [c,r]
theorem YHB (x:YAB) (h:okE x):YEI x=some (YBk x):=by
 unfold YEI YBk
 rw [YGv,YDN _ _ h.2 h.1,YHk]
 by_cases c:x.Char=0
 ·by_cases r:x.Ref=0
  ·simp [c,r]
  ·by_cases q:1≤x.Ref∧x.Ref≤1073741824
   ·simp [c,r,q]
   ·have q1:(decide (1≤x.Ref) && decide (x.Ref≤1073741824))=false:=by rw [← Bool.not_eq_true]; simpa using q
    simp [c,r,q,q1]
 ·by_cases r:x.Ref=0
  ·cases hc:YGg x.Char <;> simp [c,r,hc]
  ·simp [c,r]
def errE (f:List YAB) (k:Nat):Option Int:=if YBk f[k]! = 0 then none else some (YBk f[k]!)
def YB7 (f:List YAB):Int:=((List.range f.length).findSome? (errE f)).getD 0
theorem YGe (f:List YAB) (h : ∀ x∈f,okE x) (hm:f.length≤9223372036854775807):YCy f=some (YB7 f):=by
 unfold YCy
 rw [YAa (n:=f.length) (errE f) (fun k hk=>by
  unfold YCM errE
  rw [if_pos (by simpa using hk),YAG hk,YAA,YAQ (by omega),YHr _ (h _ (YBI hk)),YAA]
  by_cases e:YBk f[k]! = 0
  ·rw [if_neg (by simpa using e),if_pos e]; rfl
  ·rw [if_pos (by simpa using e),if_neg e]; rfl) (by unfold YCM; rw [if_neg (by simp)]),YCb]; rfl
theorem YJm {f:List YAB} (h:YB7 f=0) {k:Nat} (hk:k<f.length):YBk f[k]! = 0:=by
 unfold YB7 at h
 cases hf:(List.range f.length).findSome? (errE f) with
 | some e=>
  rw [hf] at h
  have h:e=0:=h
  subst h
  obtain ⟨j,_,hj⟩:=List.exists_of_findSome?_eq_some hf
  unfold errE at hj
  split at hj
  ·cases hj
  ·rename_i hn; exact absurd (Option.some.inj hj) hn
 | none=>
  rw [List.findSome?_eq_none_iff] at hf
  have:=hf k (List.mem_range.2 hk)
  unfold errE at this
  split at this
  ·rename_i hn; exact hn
  ·cases this
theorem YSl {x:YAB} (h:YBk x=0):YAv x.Attrs false=0:=by
 unfold YBk at h
 split at h
 ·cases h
 ·split at h
  ·cases h
  ·exact h
def YJj:List UInt8:=[104,105,100,100,101,110]
def sOn:List UInt8:=[111,110]
def sCut:List UInt8:=[99,117,116]
def sAdd:List UInt8:=[97,100,100]
def hid (x:YAB) (mode:Int):Bool:=decide (getA x.Attrs YJj=sOn) || (decide (mode=0) && !decide (getA x.Attrs sCut=[])) || (decide (mode=1) && !decide (getA x.Attrs sAdd=[]))
theorem YLJ (x:YAB) (mode:Int) (h:okE x):YEn x mode=some (hid x mode):=by
 unfold YEn hid
 rw [YIs _ _ h.1,YIs _ _ h.1,YIs _ _ h.1,YAA]
 show (bnd1 (gd ((decide (getA x.Attrs YJj=sOn) == false) && (decide (mode=0) == true)) (some (getA x.Attrs sCut))) fun (r2:List UInt8)=>
  bnd1 (gd (((decide (getA x.Attrs YJj=sOn) || (decide (mode=0) && !decide (r2=[]))) == false) && (decide (mode=1) == true)) (some (getA x.Attrs sAdd))) fun (r3:List UInt8)=>
   some ((decide (getA x.Attrs YJj=sOn) || (decide (mode=0) && !decide (r2=[]))) || (decide (mode=1) && !decide (r3=[]))))=_
 cases decide (getA x.Attrs YJj=sOn)
 ·by_cases m0:mode=0
  ·subst m0
   cases hc:decide (getA x.Attrs sCut=[]) <;> simp [hc]
  ·by_cases m1:mode=1
   ·subst m1; simp
   ·simp [m0,m1]
 ·simp
def seen (f:List YAB) (mode:Int) (k:Nat):Bool:=!hid f[k]! mode || (decide (k+1=f.length) && decide (f[k]!.Char=10))
def shown (f:List YAB) (mode:Int) (k:Nat):List Int:=((List.range k).filter (seen f mode)).map fun (i:Nat)=>(i:Int)
theorem YM2 (f:List YAB) (mode:Int) (k:Nat):shown f mode (k+1)=if seen f mode k then shown f mode k++[(k:Int)] else shown f mode k:=by
 unfold shown
 rw [List.range_succ,List.filter_append]
 split <;> rename_i h <;> simp [h]
theorem YO4 (f:List YAB) (mode:Int) (k:Nat):(shown f mode k).length≤k:=by
 unfold shown
 rw [List.length_map]
 exact Nat.le_trans (List.length_filter_le _ _) (by simp)
theorem YHP (f:List YAB) (mode:Int) (h : ∀ x∈f,okE x) (hm:f.length≤1048576):YDm f mode=some (shown f mode f.length):=by
 unfold YDm
 obtain ⟨b,hb,hq⟩:=YCx (f:=fun (a:Int × (List Int))=>YCG f mode a.1 a.2) f.length (fun k s=>s=((k:Int),shown f mode k)) (fun b=>b=shown f mode f.length)
  (fun k s hk hR=>by
   subst hR
   left
   have hl:=YO4 f mode k
   unfold YCG
   simp only
   rw [if_pos (by simpa using hk),YAG hk,YAA,YAQ (by omega),YLJ _ _ (h _ (YBI hk)),YAA,YNN (by omega) (by omega),app8 (by omega),YM2]
   unfold seen
   generalize f[k]! = x
   refine ⟨_,?_,rfl⟩
   have e:decide ((k:Int)=(f.length:Int)-1)=decide (k+1=f.length):=by rw [Bool.eq_iff_iff]; simp; omega
   cases hid x mode
   ·simp
   ·simp only [Bool.not_true,beq_self_eq_true,YAI,YAA,Bool.false_or,e]
    cases (decide (k+1=f.length) && decide (x.Char=10)) <;> rfl)
  (fun s hR=>by
   subst hR
   unfold YCG
   exact ⟨_,by rw [if_neg (by simp)],rfl⟩) (s:=(0,[])) rfl
 rw [hb,hq]; rfl
theorem YKG (f:List YAB) (mode:Int) (h : ∀ x∈f,okE x) (he:YB7 f=0) (hm:f.length≤1048576):YGO f mode=some (shown f mode f.length):=by
 unfold YGO
 obtain ⟨b,hb,hq⟩:=YCx (f:=fun (a:Int × (List Int))=>YDq f mode a.1 a.2) f.length (fun k s=>s=((k:Int),shown f mode k)) (fun b=>b=shown f mode f.length)
  (fun k s hk hR=>by
   subst hR
   left
   have hl:=YO4 f mode k
   have ha:=YSl (YJm he hk)
   have hx:=h _ (YBI hk)
   unfold YDq
   simp only
   rw [if_pos (by simpa using hk),YAG hk,YAA,YAQ (by omega),YNN (by omega) (by omega),app8 (by omega),YM2]
   unfold seen
   generalize f[k]! = x at ha hx ⊢
   obtain ⟨s1,n1,v1⟩:=YXu ha
   have hv : ∀ n,(fnd x.Attrs n).isSome = !decide (getA x.Attrs n=[]):=fun n=>by
    rw [YXv]
    cases hf:fnd x.Attrs n with
    | none=>rfl
    | some y=>have:=v1 rfl y (YWA hf).2; simp [this]
   rw [YSW _ _ hx.1,YM5 _ _ hx.1,YM5 _ _ hx.1,YAA,hv,hv]
   refine ⟨_,?_,rfl⟩
   have e:decide ((k:Int)=(f.length:Int)-1)=decide (k+1=f.length):=by rw [Bool.eq_iff_iff]; simp; omega
   have key : ∀ b:Bool,(bnd1 (gd (b == false) (some ((f.length:Int)-1))) fun (x6:Int)=>if (b || (decide ((k:Int)=x6) && decide (x.Char=10)))=true then (bnd1 (some (shown f mode k++[(k:Int)])) fun out6=>some out6) else some (shown f mode k)) =
     some (if (b || (decide (k+1=f.length) && decide (x.Char=10)))=true then shown f mode k++[(k:Int)] else shown f mode k):=by
    intro b
    cases b
    ·simp only [beq_self_eq_true,YAI,YAA,e]; split <;> rfl
    ·rfl
   simp only [key]
   clear key e
   unfold hid YJj sOn sCut sAdd
   generalize decide (k+1=f.length)=le
   generalize decide (x.Char=10)=ce
   generalize decide (getA x.Attrs [104,105,100,100,101,110]=[111,110])=h1
   generalize decide (getA x.Attrs [99,117,116]=[])=h2
   generalize decide (getA x.Attrs [97,100,100]=[])=h3
   by_cases m0:mode=0
   ·subst m0
    cases h1 <;> cases h2 <;> cases le <;> cases ce <;> simp
   ·by_cases m1:mode=1
    ·subst m1
     cases h1 <;> cases h3 <;> cases le <;> cases ce <;> simp
    ·cases h1 <;> cases le <;> cases ce <;> simp [m0,m1])
  (fun s hR=>by
   subst hR
   unfold YDq
   exact ⟨_,by rw [if_neg (by simp)],rfl⟩) (s:=(0,[])) rfl
 rw [hb,hq]; rfl
theorem ndT {p:Prop} [Decidable p] (h : ¬ p):(!decide p)=true:=by simp [h]
theorem ndF {p:Prop} [Decidable p] (h:p) : ¬ ((!decide p)=true):=by simp [h]
def okA (l:List YAD):Prop:=l.length≤1073741824∧YLo l
theorem okA.e {x:YAB} (h:okA x.Attrs):okE x:=⟨by have:=h.1; omega,h.2⟩
structure OkSt (s:YAC):Prop where
 at_:okA s.Attrs
 el:s.Elems.length≤1073741824
 ea : ∀ e∈s.Elems,okA e.Attrs
structure OkD (d:List YAC):Prop where
 len:d.length≤1099511627776
 st : ∀ s∈d,OkSt s
 sum:(d.map fun s=>s.Elems.length).sum≤1073741824
theorem YWy {f:List YAB} (h : ∀ e∈f,okA e.Attrs) : ∀ e∈f,okE e:=fun e he=>(h e he).e
def YBa (s:YAC):Int:=
 if s.Kind=1 then (if s.N≠0∨s.Attrs≠[] then 4 else if s.Elems=[] then 11 else YB7 s.Elems)
 else if s.Kind=0∨s.Kind=2 then (if s.Elems≠[]∨(s.Kind=2∧s.Attrs≠[]) then 4 else if s.N<1∨2147483647<s.N then 2 else YAv s.Attrs true)
 else 8
theorem YUH {α:Type} [DecidableEq α] (l:List α):decide (0<(l.length:Int)) = !decide (l=[]):=by
 by_cases h:l=[]
 ·subst h; rfl
 ·have:=List.length_pos_iff.2 h
  rw [decide_eq_false h,decide_eq_true (by omega)]; rfl
theorem YRa {α:Type} [DecidableEq α] (l:List α):decide ((l.length:Int)=0)=decide (l=[]):=by
 by_cases h:l=[]
 ·subst h; rfl
 ·have:=List.length_pos_iff.2 h
  rw [decide_eq_false h,decide_eq_false (by omega)]
theorem YJz : ∀ (b1 b2 r r':Bool),b1=false∨b2=false→(b1 && (!b2 || r))=(b1 && (!b2 || r')):=by decide
theorem YJO (s:YAC) (h:OkSt s):YFT s=some (YBa s):=by
 have h1:=h.at_.1
 have h2:=h.el
 unfold YFT YBa
 rw [YFx _ h.at_.2 (by omega),YGe _ (YWy h.ea) (by omega),YUH,YUH,YRa]
 by_cases k1:s.Kind=1
 ·have k0 : ¬ s.Kind=0:=by omega
  have k2 : ¬ s.Kind=2:=by omega
  simp only [k1,YAA]
  by_cases n0:s.N=0 <;> by_cases a0:s.Attrs=[] <;> by_cases e0:s.Elems=[] <;> simp [n0,a0,e0]
 ·by_cases k0:s.Kind=0
  ·simp only [k0,YAA]
   by_cases a0:s.Attrs=[] <;> by_cases e0:s.Elems=[] <;> by_cases n0:s.N<1∨2147483647<s.N <;> simp [a0,e0,n0]
  ·by_cases k2:s.Kind=2
   ·simp only [k2,YAA]
    by_cases a0:s.Attrs=[] <;> by_cases e0:s.Elems=[] <;> by_cases n0:s.N<1∨2147483647<s.N <;> simp [a0,e0,n0]
   ·simp [k0,k1,k2]
structure GoodS (s:YAC):Prop where
 kind:(s.Kind=0∧s.Elems=[]∧1≤s.N∧s.N≤2147483647∧YAv s.Attrs true=0)∨(s.Kind=2∧s.Elems=[]∧s.Attrs=[]∧1≤s.N∧s.N≤2147483647) ∨
  (s.Kind=1∧s.N=0∧s.Attrs=[]∧s.Elems≠[]∧YB7 s.Elems=0)
theorem YRi {s:YAC} (h:YBa s=0):GoodS s:=by
 constructor
 unfold YBa at h
 by_cases k1:s.Kind=1
 ·rw [if_pos k1] at h
  by_cases c1:s.N≠0∨s.Attrs≠[]
  ·rw [if_pos c1] at h; cases h
  ·rw [if_neg c1] at h
   by_cases c2:s.Elems=[]
   ·rw [if_pos c2] at h; cases h
   ·rw [if_neg c2] at h
    refine .inr (.inr ⟨k1,?_,?_,c2,h⟩)
    ·exact Classical.byContradiction fun hn=>c1 (.inl hn)
    ·exact Classical.byContradiction fun hn=>c1 (.inr hn)
 ·rw [if_neg k1] at h
  by_cases k:s.Kind=0∨s.Kind=2
  ·rw [if_pos k] at h
   by_cases c1:s.Elems≠[]∨(s.Kind=2∧s.Attrs≠[])
   ·rw [if_pos c1] at h; cases h
   ·rw [if_neg c1] at h
    by_cases c2:s.N<1∨2147483647<s.N
    ·rw [if_pos c2] at h; cases h
    ·rw [if_neg c2] at h
     have he:s.Elems=[]:=Classical.byContradiction fun hn=>c1 (.inl hn)
     rcases k with k | k
     ·exact .inl ⟨k,he,by omega,by omega,h⟩
     ·exact .inr (.inl ⟨k,he,Classical.byContradiction fun hn=>c1 (.inr ⟨k,hn⟩),by omega,by omega⟩)
  ·rw [if_neg k] at h; cases h
def YF5 (p s:YAC):Bool:=(decide (p.Kind=s.Kind) && (!decide (s.Kind=0) || decide (p.Attrs=s.Attrs))) || (decide (p.Kind=2) && decide (s.Kind=1))
def oldS (s:YAC):Int:=if s.Kind=1 then 0 else s.N
def nowS (s:YAC):Int:=if s.Kind=2 then 0 else if s.Kind=1 then s.Elems.length else s.N
def oldD (d:List YAC):Int:=(d.map oldS).sum
def nowD (d:List YAC):Int:=(d.map nowS).sum
theorem YXk {d:List YAC} {k:Nat} (h:k<d.length):oldD (d.take (k+1))=oldD (d.take k)+oldS d[k]!:=by rw [YQC h]; simp [oldD]
theorem YXl {d:List YAC} {k:Nat} (h:k<d.length):nowD (d.take (k+1))=nowD (d.take k)+nowS d[k]!:=by rw [YQC h]; simp [nowD]
def errD (d:List YAC) (k:Nat):Option Int:=if YBa d[k]! ≠ 0 then some (YBa d[k]!) else if 0<k∧YF5 d[k-1]! d[k]! = true then some 5 else none
def YJP (d:List YAC):Int:=match (List.range d.length).findSome? (errD d) with
 | some e=>e
 | none=>if 2147483647<oldD d∨2147483647<nowD d then 3 else 0
theorem YUN {f:Int × Int × Int→Option ((Int × Int × Int) ⊕ (Ctl (Int × Int) Int))} (n:Nat) (g:Nat→Option Int) (I:Nat→Int × Int→Prop)
  (h : ∀ (k:Nat) (a b:Int),k<n→(∀ j,j<k→g j=none)→I k (a,b)→(∃ e,g k=some e∧f (a,b,(k:Int))=some (.inr (.ext e)))∨(g k=none ∧ ∃ a' b',f (a,b,(k:Int))=some (.inl (a',b',((k+1:Nat):Int)))∧I (k+1) (a',b')))
  (hend : ∀ (a b:Int),I n (a,b)→f (a,b,(n:Int))=some (.inr (.nrm (a,b)))) {a0 b0:Int} (h0:I 0 (a0,b0)) :
  (∃ e,(List.range n).findSome? g=some e∧iter f (a0,b0,0)=some (.ext e))∨((List.range n).findSome? g=none ∧ ∃ a b,I n (a,b)∧iter f (a0,b0,0)=some (.nrm (a,b))):=by
 obtain ⟨b,hb,hq⟩:=YCx (f:=f) n (fun k s=>s.2.2=(k:Int)∧I k (s.1,s.2.1) ∧ ∀ j,j<k→g j=none)
  (fun b=>(∃ e,(List.range n).findSome? g=some e∧b = .ext e)∨((List.range n).findSome? g=none ∧ ∃ x y,I n (x,y)∧b = .nrm (x,y)))
  (fun k s hk hR=>by
   obtain ⟨x,y,z⟩:=s
   obtain ⟨rfl,hI,hg⟩:=hR
   rcases h k x y hk hg hI with ⟨e,h1,h2⟩ | ⟨h1,a',b',h2,h3⟩
   ·exact .inr ⟨_,h2,.inl ⟨e,YSi hk hg h1,rfl⟩⟩
   ·refine .inl ⟨_,h2,rfl,h3,fun j hj=>?_⟩
    rcases Nat.lt_or_ge j k with h4 | h4
    ·exact hg j h4
    ·obtain rfl:j=k:=by omega
     exact h1)
  (fun s hR=>by
   obtain ⟨x,y,z⟩:=s
   obtain ⟨rfl,hI,hg⟩:=hR
   exact ⟨_,hend x y hI,.inr ⟨YJK hg,x,y,hI,rfl⟩⟩) (s:=(a0,b0,0)) ⟨rfl,h0,fun j hj=>absurd hj (Nat.not_lt_zero _)⟩
 rcases hq with ⟨e,h1,rfl⟩ | ⟨h1,x,y,h2,rfl⟩
 ·exact .inl ⟨e,h1,hb⟩
 ·exact .inr ⟨h1,x,y,h2,hb⟩
theorem sizes {s:YAC} (h:GoodS s) (ho:OkSt s):0≤oldS s∧oldS s≤2147483647∧0≤nowS s∧nowS s≤2147483647∧(s.Kind≠2→s.N+s.Elems.length=nowS s)∧(s.Kind≠2→YGf s=some (nowS s)):=by
 have h2:=ho.el
 unfold oldS nowS YGf
 rcases h.kind with ⟨k,e,n1,n2,_⟩ | ⟨k,e,_,n1,n2⟩ | ⟨k,n,_,_,_⟩
 ·rw [e]; simp [k]; omega
 ·rw [e]; simp [k]; omega
 ·simp [k,n]; omega
theorem YMh (d:List YAC) (h:OkD d):YFs d=some (YJP d):=by
 have hm:=h.len
 unfold YFs YJP
 rcases YUN (f:=fun (a:Int × Int × Int)=>YBS d a.1 a.2.1 a.2.2) d.length (errD d) (fun k c=>0≤oldD (d.take k)∧0≤nowD (d.take k)∧c=(min (oldD (d.take k)) 2147483648,min (nowD (d.take k)) 2147483648))
  (fun k a b hk _ hI=>by
   obtain ⟨p1,p2,hc⟩:=hI
   cases hc
   have hst:=h.st _ (YBI hk)
   show (∃ e,_∧YBS d (min (oldD (d.take k)) 2147483648) (min (nowD (d.take k)) 2147483648) (k:Int)=_)∨(_ ∧ ∃ a' b',YBS d (min (oldD (d.take k)) 2147483648) (min (nowD (d.take k)) 2147483648) (k:Int)=_∧_)
   unfold YBS
   rw [if_pos (by simpa using hk),YAG hk,YAA,YJO _ hst,YAA]
   by_cases c1:YBa d[k]! ≠ 0
   ·exact .inl ⟨_,by unfold errD; rw [if_pos c1],by rw [if_pos (by simpa using c1)]; rfl⟩
   rw [if_neg (by simpa using c1)]
   have hg:=YRi (Classical.not_not.1 c1)
   obtain ⟨z1,z2,z3,z4,z5,z6⟩:=sizes hg hst
   have ord : ∀ (β:Type) (F:Unit→Option (Ctl β ((Int × Int × Int) ⊕ (Ctl (Int × Int) Int)))),(ctl1 (if (decide ((0:Int)<(k:Int))) then (bnd1 (chk .i64 ((k:Int)-1)) fun (x8:Int)=>bnd1 (idx d x8) fun (x9:YAC)=>
     bnd1 (gd (((decide (x9.Kind=d[k]!.Kind)) == true) && ((!decide (d[k]!.Kind=0)) == false)) (YDD x9.Attrs d[k]!.Attrs)) fun (r2:Bool)=>
     if (((decide (x9.Kind=d[k]!.Kind)) && ((!decide (d[k]!.Kind=0)) || r2)) || ((decide (x9.Kind=2)) && (decide (d[k]!.Kind=1)))) then (some (.ext (.ext (.inr (.ext 5))))) else (some (.nrm ()))) else (some (.nrm ()))) F) =
     if 0<k∧YF5 d[k-1]! d[k]! = true then some (.ext (.inr (.ext 5))) else F ():=by
    intro β F
    by_cases hk0:0<k
    ·rw [if_pos (by simp; omega),YDR hk0 (by omega),YAA,YAG (by omega),YAA]
     have hp:=(h.st _ (YBI (l:=d) (k:=k-1) (by omega))).at_.1
     have e : ∀ F2:Bool→Option (Ctl Unit (Ctl β ((Int × Int × Int) ⊕ (Ctl (Int × Int) Int)))),(∀ r,(decide (d[k-1]!.Kind=d[k]!.Kind) && ((!decide (d[k]!.Kind=0)) || r))=(decide (d[k-1]!.Kind=d[k]!.Kind) && ((!decide (d[k]!.Kind=0)) || decide (d[k-1]!.Attrs=d[k]!.Attrs)))→F2 r=F2 (decide (d[k-1]!.Attrs=d[k]!.Attrs))) →
       bnd1 (gd (((decide (d[k-1]!.Kind=d[k]!.Kind)) == true) && ((!decide (d[k]!.Kind=0)) == false)) (YDD d[k-1]!.Attrs d[k]!.Attrs)) F2=F2 (decide (d[k-1]!.Attrs=d[k]!.Attrs)):=by
      intro F2 hF
      rw [YE0 _ _ (by omega)]
      by_cases q1:d[k-1]!.Kind=d[k]!.Kind <;> by_cases q2:d[k]!.Kind=0
      ·rw [decide_eq_true q1,decide_eq_true q2]; rfl
      ·rw [decide_eq_true q1,decide_eq_false q2]
       show F2 default=_
       exact hF _ (YJz _ _ _ _ (.inr (decide_eq_false q2)))
      ·rw [decide_eq_false q1,decide_eq_true q2]
       show F2 default=_
       exact hF _ (YJz _ _ _ _ (.inl (decide_eq_false q1)))
      ·rw [decide_eq_false q1,decide_eq_false q2]
       show F2 default=_
       exact hF _ (YJz _ _ _ _ (.inl (decide_eq_false q1)))
     rw [e _ (fun r hr=>by rw [hr])]
     by_cases hb:YF5 d[k-1]! d[k]! = true
     ·rw [if_pos (c:=(_ || _)=true) (by unfold YF5 at hb; exact hb),if_pos ⟨hk0,hb⟩]; rfl
     ·rw [if_neg (c:=(_ || _)=true) (by unfold YF5 at hb; exact hb),if_neg (fun hh=>hb hh.2)]; rfl
    ·rw [if_neg (by simp; omega),if_neg (fun hh=>hk0 hh.1)]; rfl
   rw [ord]
   by_cases c2:0<k∧YF5 d[k-1]! d[k]! = true
   ·exact .inl ⟨5,by unfold errD; rw [if_neg c1,if_pos c2],by rw [if_pos c2]; rfl⟩
   ·rw [if_neg c2]
    refine .inr ⟨by unfold errD; rw [if_neg c1,if_neg c2],?_⟩
    rw [YXk hk,YXl hk]
    clear ord c1 c2
    generalize oldD (d.take k)=o at p1 ⊢
    generalize nowD (d.take k)=w at p2 ⊢
    by_cases k1:d[k]!.Kind=1
    ·have ho:oldS d[k]! = 0:=by unfold oldS; rw [if_pos k1]
     rw [if_neg (ndF k1),YAA,if_pos (ndT (by omega)),z6 (by omega),YAA,YDC (by omega) (by omega),YAA,YKo,YAQ (by omega),YAA]
     exact ⟨_,_,rfl,by omega,by omega,by rw [ho]; congr 1 <;> omega⟩
    ·have ho:oldS d[k]! = d[k]!.N:=by unfold oldS; rw [if_neg k1]
     rw [if_pos (ndT k1),YDC (by omega) (by omega),YAA,YAA]
     by_cases k2:d[k]!.Kind=2
     ·have hw:nowS d[k]! = 0:=by unfold nowS; rw [if_pos k2]
      rw [if_neg (ndF k2),YKo,YAQ (by omega),YAA]
      exact ⟨_,_,rfl,by omega,by omega,by rw [hw,← ho]; congr 1 <;> omega⟩
     ·rw [if_pos (ndT k2),z6 k2,YAA,YDC (by omega) (by omega),YAA,YKo,YAQ (by omega),YAA]
      exact ⟨_,_,rfl,by omega,by omega,by rw [← ho]; congr 1 <;> omega⟩)
  (fun a b hI=>by
   show YBS d a b (d.length:Int)=_
   unfold YBS
   rw [if_neg (by simp)]) (a0:=0) (b0:=0) ⟨by simp [oldD],by simp [nowD],by simp [oldD,nowD]; decide⟩ with ⟨e,h1,h2⟩ | ⟨h1,a,b,⟨_,_,hc⟩,h2⟩
 ·rw [h1,h2]; rfl
 ·rw [h1,h2,YKo]
  rw [List.take_length] at hc
  cases hc
  by_cases hx:2147483647<oldD d∨2147483647<nowD d
  ·rw [if_pos (by simp; omega)]; simp only; rw [if_pos hx]
  ·rw [if_neg (by simp; omega)]; simp only; rw [if_neg hx]
inductive Un where
 | a (e:YAB)
 | r (cut:Bool) (at_:List YAD)
def uOf:List (List YAB)→List Bool→List (List YAD)→List Un
 | A :: As,c :: cs,t :: ts=>A.map Un.a++Un.r c t :: uOf As cs ts
 | A :: _,_,_=>A.map Un.a
 | [],_,_=>[]
structure WfA (x:YAq):Prop where
 adds:x.Adds.length=x.Cuts.length+1
 attrs:x.Attrs.length=x.Cuts.length
def YAq.us (x:YAq):List Un:=uOf x.Adds x.Cuts x.Attrs
def Un.isR:Un→Bool
 | .a _=>false
 | .r _ _=>true
def cntR (us:List Un):Nat:=us.countP Un.isR
theorem YS7 : ∀ (cs:List Bool) (As:List (List YAB)) (ts:List (List YAD)),As.length=cs.length+1→ts.length=cs.length→cntR (uOf As cs ts)=cs.length
 | [],[A],[],_,_=>by
  have : ∀ l:List YAB,cntR (l.map Un.a)=0:=fun l=>by induction l with
   | nil=>rfl
   | cons x l ih=>simp [cntR,Un.isR]
  exact this A
 | [],[],_,h,_=>by simp at h
 | [],_ :: _ :: _,_,h,_=>by simp at h
 | [],_,_ :: _,_,h=>by simp at h
 | c0 :: cs,A0 :: As,t0 :: ts,h1,h2=>by
  have ih:=YS7 cs As ts (by simpa using h1) (by simpa using h2)
  have : ∀ l:List YAB,(l.map Un.a).countP Un.isR=0:=fun l=>by induction l with
   | nil=>rfl
   | cons x l ih=>simp [Un.isR]
  simp only [cntR,uOf,List.countP_append,this,List.countP_cons,Un.isR,if_true,Nat.zero_add,List.length_cons] at ih ⊢
  omega
 | _ :: _,[],_,h,_=>by simp at h
 | _ :: _,_,[],_,h=>by simp at h
theorem YS6 : ∀ (cs:List Bool) (As:List (List YAB)) (ts:List (List YAD)),As.length=cs.length+1→ts.length=cs.length → ∀ A∈As,A.length≤(uOf As cs ts).length
 | [],[A],[],_,_=>by simp [uOf]
 | [],[],_,h,_=>by simp at h
 | [],_ :: _ :: _,_,h,_=>by simp at h
 | [],_,_ :: _,_,h=>by simp at h
 | c0 :: cs,A0 :: As,t0 :: ts,h1,h2=>by
  have ih:=YS6 cs As ts (by simpa using h1) (by simpa using h2)
  intro A hA
  simp only [uOf,List.length_append,List.length_map,List.length_cons]
  rcases List.mem_cons.1 hA with rfl | hA
  ·omega
  ·have:=ih A hA; omega
 | _ :: _,[],_,h,_=>by simp at h
 | _ :: _,_,[],_,h=>by simp at h
theorem YX6 (us:List Un):cntR us≤us.length:=List.countP_le_length
theorem WfA.cnt {x:YAq} (h:WfA x):cntR x.us=x.Cuts.length:=YS7 _ _ _ h.adds h.attrs
theorem WfA.cuts_le {x:YAq} (h:WfA x):x.Cuts.length≤x.us.length:=by rw [← h.cnt]; exact YX6 _
theorem WfA.add_le {x:YAq} (h:WfA x) {k:Nat} (hk:k<x.Adds.length):x.Adds[k]!.length≤x.us.length:=YS6 _ _ _ h.adds h.attrs _ (YBI hk)
theorem YHx {α:Type} {o:List α} {x:α} (h:o.length+1≤1099511627776):app 64 o [x]=some (o++[x]):=by
 unfold app; rw [if_pos]; simp only [List.length_singleton]; omega
theorem YQz {α:Type} {o xs:List α} (h:o.length+xs.length≤1099511627776):app 40 o xs=some (o++xs):=by
 unfold app; rw [if_pos]; omega
theorem YTb {α:Type} {l:List α} {k:Nat} {x:α} : l.set ((k:Int).toNat) x=l.set k x:=by simp
def YEm (s:YAC):List Un:=if s.Kind=1 then s.Elems.map Un.a else List.replicate s.N.toNat (.r (decide (s.Kind=2)) s.Attrs)
def YAq.from_ (x:YAq) (k:Nat):List Un:=uOf (x.Adds.drop k) (x.Cuts.drop k) (x.Attrs.drop k)
theorem YUT (x:YAq):x.from_ 0=x.us:=rfl
theorem YQl {x:YAq} (h:WfA x) {k:Nat} (hk:k<x.Cuts.length):x.from_ k=x.Adds[k]!.map Un.a ++ .r x.Cuts[k]! x.Attrs[k]! :: x.from_ (k+1):=by
 unfold YAq.from_
 have ha:=h.adds
 have ht:=h.attrs
 rw [YG1 (l:=x.Adds) (by omega),YG1 (l:=x.Cuts) hk,YG1 (l:=x.Attrs) (by omega),uOf]
theorem YV8 {x:YAq} (h:WfA x):x.from_ x.Cuts.length=x.Adds[x.Cuts.length]!.map Un.a:=by
 unfold YAq.from_
 have ha:=h.adds
 rw [YG1 (l:=x.Adds) (by omega),List.drop_length]
 cases x.Adds.drop (x.Cuts.length+1) <;> rfl
structure DS where
 out:List YAC
 adds:List YAB
 cuts:Nat
def dFl (s:DS):List YAC:=(if 0<s.adds.length then s.out++[⟨1,0,[],s.adds⟩] else s.out)++(if 0<s.cuts then [⟨2,s.cuts,[],[]⟩] else [])
def YIr (l:List YAC) (t:List YAD):List YAC:=
 if 0<l.length∧l[l.length-1]!.Kind=0∧l[l.length-1]!.Attrs=t then l.set (l.length-1) ⟨l[l.length-1]!.Kind,l[l.length-1]!.N+1,l[l.length-1]!.Attrs,l[l.length-1]!.Elems⟩
 else l++[⟨0,1,t,[]⟩]
def dU (s:DS):Un→DS
 | .a e=>⟨s.out,s.adds++[e],s.cuts⟩
 | .r true _=>⟨s.out,s.adds,s.cuts+1⟩
 | .r false t=>⟨YIr (dFl s) t,[],0⟩
def YBt (us:List Un):List YAC:=dFl (us.foldl dU ⟨[],[],0⟩)
theorem YOR (A:List YAB) : ∀ s:DS,(A.map Un.a).foldl dU s=⟨s.out,s.adds++A,s.cuts⟩:=by
 induction A with
 | nil=>intro s; simp
 | cons e A ih=>intro s; simp only [List.map_cons,List.foldl_cons]; rw [ih]; simp [dU]
structure DB (m:Nat) (s:DS):Prop where
 len:s.out.length+s.adds.length+s.cuts≤m
 mem : ∀ x∈s.out,0≤x.N∧x.N≤m∧x.Elems.length≤m∧x.Attrs.length≤1099511627776
def OkU (u:Un):Prop:=match u with | .a _=>True | .r _ t=>t.length≤1099511627776
theorem db_fl {m:Nat} {s:DS} (h:DB m s):(dFl s).length≤m ∧ ∀ x∈dFl s,0≤x.N∧x.N≤m∧x.Elems.length≤m∧x.Attrs.length≤1099511627776:=by
 have hl:=h.len
 refine ⟨?_,fun x hx=>?_⟩
 ·unfold dFl
  split <;> split <;> simp <;> omega
 ·unfold dFl at hx
  rcases List.mem_append.1 hx with h1 | h1
  ·split at h1
   ·rcases List.mem_append.1 h1 with h2 | h2
    ·exact h.mem x h2
    ·have:x=⟨1,0,[],s.adds⟩:=by simpa using h2
     subst this
     simp; omega
   ·exact h.mem x h1
  ·split at h1
   ·have:x=⟨2,s.cuts,[],[]⟩:=by simpa using h1
    subst this
    simp; omega
   ·simp at h1
theorem YQs {m:Nat} {s:DS} (h:DB m s) {u:Un} (hu:OkU u):DB (m+1) (dU s u):=by
 have hl:=h.len
 have hm : ∀ x:YAC,(0≤x.N∧x.N≤m∧x.Elems.length≤m∧x.Attrs.length≤1099511627776)→0≤x.N∧x.N≤((m+1:Nat):Int)∧x.Elems.length≤m+1∧x.Attrs.length≤1099511627776:=fun x ⟨a,b,c,d⟩=>⟨a,by omega,by omega,d⟩
 match u,hu with
 | .a e,_=>exact ⟨by simp [dU]; omega,fun x hx=>hm x (h.mem x hx)⟩
 | .r true t,_=>exact ⟨by simp [dU]; omega,fun x hx=>hm x (h.mem x hx)⟩
 | .r false t,ht=>
  obtain ⟨h1,h2⟩:=db_fl h
  show DB (m+1) ⟨YIr (dFl s) t,[],0⟩
  unfold YIr
  split
  ·rename_i hc
   refine ⟨by simp; omega,fun x hx=>?_⟩
   rcases List.mem_or_eq_of_mem_set hx with h3 | h3
   ·exact hm x (h2 x h3)
   ·have h4:=h2 _ (YBI (l:=dFl s) (k:=(dFl s).length-1) (by omega))
    subst h3
    exact ⟨by simp only; omega,by simp only; omega,by simp only; omega,h4.2.2.2⟩
  ·refine ⟨by simp; omega,fun x hx=>?_⟩
   rcases List.mem_append.1 hx with h3 | h3
   ·exact hm x (h2 x h3)
   ·have:x=⟨0,1,t,[]⟩:=by simpa using h3
    subst this
    exact ⟨by simp,by simp only; omega,by simp,ht⟩
theorem YWQ {us:List Un} : ∀ {m:Nat} {s:DS},DB m s→(∀ u∈us,OkU u)→DB (m+us.length) (us.foldl dU s):=by
 induction us with
 | nil=>intro m s h _; exact h
 | cons u us ih=>
  intro m s h hu
  have:=ih (YQs h (hu u (List.mem_cons_self ..))) fun v hv=>hu v (List.mem_cons_of_mem _ hv)
  rw [List.foldl_cons,List.length_cons,show m+(us.length+1)=m+1+us.length by omega]
  exact this
theorem YV7 (x:YAq) (k:Nat) (h:WfA x) (hk:k≤x.Cuts.length) : ∃ p,x.us=p++x.from_ k:=by
 induction k with
 | zero=>exact ⟨[],rfl⟩
 | succ k ih=>
  obtain ⟨p,hp⟩:=ih (by omega)
  rw [YQl h (by omega)] at hp
  exact ⟨p++(x.Adds[k]!.map Un.a++[.r x.Cuts[k]! x.Attrs[k]!]),by rw [hp]; simp⟩
theorem YRh {l:List YAC} (h:0<l.length) (hm:l.length≤9223372036854775807):chk .i64 ((l.length:Int)-1)=some ((l.length-1:Nat):Int):=by
 rw [YDC (by omega) (by omega)]; congr 1; omega
theorem fl_eq (s:DS) (hb:s.out.length+2≤1099511627776) {α:Type} (f:List YAC→Option α) :
  (bnd1 (if (decide (0<(s.adds.length:Int))) then (bnd1 (app 64 s.out [(YAC.mk 1 0 [] s.adds)]) fun (out10:List YAC)=>some out10) else (some s.out)) fun (out6:List YAC)=>
   bnd1 (if (decide (0<(s.cuts:Int))) then (bnd1 (app 64 out6 [(YAC.mk 2 s.cuts [] [])]) fun (out9:List YAC)=>some out9) else (some out6)) f)=f (dFl s):=by
 unfold dFl
 by_cases h1:0<s.adds.length
 ·rw [if_pos (by rw [decide_eq_true_eq]; omega),YHx (by omega),if_pos h1]
  simp only [YAA]
  by_cases h2:0<s.cuts
  ·rw [if_pos (by rw [decide_eq_true_eq]; omega),YHx (by rw [List.length_append,List.length_singleton]; omega),if_pos h2]; rfl
  ·rw [if_neg (by rw [decide_eq_true_eq]; omega),if_neg h2,List.append_nil]; rfl
 ·rw [if_neg (by rw [decide_eq_true_eq]; omega),if_neg h1]
  simp only [YAA]
  by_cases h2:0<s.cuts
  ·rw [if_pos (by rw [decide_eq_true_eq]; omega),YHx (by omega),if_pos h2]; rfl
  ·rw [if_neg (by rw [decide_eq_true_eq]; omega),if_neg h2,List.append_nil]; rfl
theorem YT6 {x:YAq} (h:WfA x) (hu : ∀ u∈x.us,OkU u) {k:Nat} (hk:k<x.Cuts.length):x.Attrs[k]!.length≤1099511627776:=by
 obtain ⟨p,hp⟩:=YV7 x k h (by omega)
 rw [YQl h hk] at hp
 exact hu (.r x.Cuts[k]! x.Attrs[k]!) (by rw [hp]; simp)
theorem YMb (x:YAq) (h:WfA x) (hu : ∀ u∈x.us,OkU u) (hb:x.us.length≤4294967296):YEb x=some (YBt x.us):=by
 unfold YEb
 have hxc:=h.cuts_le
 have hxa:=h.adds
 have hxt:=h.attrs
 have key : ∃ l,iter (fun (a:Int × Int × (List YAC) × (List YAB))=>YBm x a.1 a.2.1 a.2.2.1 a.2.2.2) (0,0,[],[])=some l∧l=YBt x.us:=by
  refine YCx x.Cuts.length (fun k st=>st.2.1=(k:Int) ∧ ∃ s:DS,st.1=(s.cuts:Int)∧st.2.2.1=s.out∧st.2.2.2=s.adds∧(∃ m,DB m s∧m+(x.from_ k).length=x.us.length)∧dFl ((x.from_ k).foldl dU s)=YBt x.us) _ ?_ ?_ ⟨rfl,⟨[],[],0⟩,rfl,rfl,rfl,⟨0,⟨by simp,by simp⟩,by rw [YUT,Nat.zero_add]⟩,rfl⟩
  ·rintro k ⟨cuts,i,out,adds⟩ hk ⟨rfl,s,h1,h2,h3,⟨m,hdb,hm⟩,hT⟩
   dsimp only at h1 h2 h3
   subst h1; subst h2; subst h3
   rw [YQl h hk] at hT hm
   rw [List.foldl_append,List.foldl_cons,YOR] at hT
   simp only [List.length_append,List.length_map,List.length_cons] at hm
   have hA:=h.add_le (k:=k) (by omega)
   have hdb1:DB (m+x.Adds[k]!.length) ⟨s.out,s.adds++x.Adds[k]!,s.cuts⟩:=by
    have:=YWQ (us:=x.Adds[k]!.map Un.a) hdb (fun u hu=>by obtain ⟨e,_,rfl⟩:=List.mem_map.1 hu; trivial)
    rwa [YOR,List.length_map] at this
   have hlen:=hdb.len
   refine .inl ?_
   show ∃ s',YBm x (s.cuts:Int) (k:Int) s.out s.adds=_∧_
   unfold YBm
   rw [if_pos (by simp; omega),YAG (l:=x.Adds) (by omega),YAA,YQz (by omega),YAA]
   have hd:decide ((k:Int)<(x.Cuts.length:Int))=true:=by simpa using hk
   rw [hd,show (true == true)=true from rfl,YAI,YAG (l:=x.Cuts) hk,YAA,Bool.true_and]
   cases hc:x.Cuts[k]! with
   | true=>
    rw [hc] at hT
    rw [if_pos rfl,YAQ (by omega),YAA,YRz,YAQ (by omega),YAA]
    refine ⟨_,rfl,rfl,⟨s.out,s.adds++x.Adds[k]!,s.cuts+1⟩,rfl,rfl,rfl,⟨m+x.Adds[k]!.length+1,?_,by omega⟩,hT⟩
    exact YQs (u:=.r true x.Attrs[k]!) hdb1 (YT6 h hu hk)
   | false=>
    rw [hc] at hT
    rw [if_neg (by decide)]
    have hfl:=fl_eq ⟨s.out,s.adds++x.Adds[k]!,s.cuts⟩ (by simp only; omega) (α:=Ctl (Int × (List YAC) × (List YAB)) ((Int × Int × (List YAC) × (List YAB)) ⊕ (List YAC)))
    simp only at hfl
    rw [hfl,if_neg (by simp; omega)]
    obtain ⟨f1,f2⟩:=db_fl hdb1
    have hbump:=YQs (u:=.r false x.Attrs[k]!) hdb1 (YT6 h hu hk)
    change DB _ ⟨YIr (dFl ⟨s.out,s.adds++x.Adds[k]!,s.cuts⟩) x.Attrs[k]!,[],0⟩ at hbump
    change dFl (List.foldl dU ⟨YIr (dFl ⟨s.out,s.adds++x.Adds[k]!,s.cuts⟩) x.Attrs[k]!,[],0⟩ _)=_ at hT
    generalize hl:dFl ⟨s.out,s.adds++x.Adds[k]!,s.cuts⟩=l at f1 f2 hbump hT
    clear hfl
    have hat:x.Attrs[k]!.length≤1099511627776:=YT6 h hu hk
    have fin : ∀ l',l'=YIr l x.Attrs[k]! → ∃ s',(ctl3 (some (Ctl.nrm ((0:Int),l',([]:List YAB)))) fun (cuts4:Int) (out5:List YAC) (adds4:List YAB)=>bnd1 (chk .i64 ((k:Int)+1)) fun (i10:Int)=>some (Sum.inl (cuts4,i10,out5,adds4)))=some (Sum.inl s':(Int × Int × (List YAC) × (List YAB)) ⊕ (List YAC)) ∧
      s'.2.1=((k+1:Nat):Int) ∧ ∃ s:DS,s'.1=(s.cuts:Int)∧s'.2.2.1=s.out∧s'.2.2.2=s.adds∧(∃ m,DB m s∧m+(x.from_ (k+1)).length=x.us.length)∧dFl ((x.from_ (k+1)).foldl dU s)=YBt x.us:=by
     intro l' hl'
     subst hl'
     rw [YRz,YAQ (by omega),YAA]
     exact ⟨_,rfl,rfl,⟨YIr l x.Attrs[k]!,[],0⟩,rfl,rfl,rfl,⟨_,hbump,by omega⟩,hT⟩
    by_cases hl0:0<l.length
    ·rw [YRh hl0 (by omega),YAA]
     have d0:decide (0≤(((l.length-1:Nat)):Int))=true:=by simp
     rw [d0,show (true == true)=true from rfl,YAI,YAG (l:=l) (by omega),YAA,Bool.true_and]
     have hmem:=f2 _ (YBI (l:=l) (k:=l.length-1) (by omega))
     by_cases hk0:l[l.length-1]!.Kind=0
     ·have d1:decide (l[l.length-1]!.Kind=0)=true:=by simpa using hk0
      rw [d1,show (true == true)=true from rfl,YAI,YAI,YAA,YAG (l:=x.Attrs) (by omega),YAA,YAI,YBc _ _ (by omega),YAA,Bool.true_and]
      by_cases hs:l[l.length-1]!.Attrs=x.Attrs[k]!
      ·rw [if_pos (by simpa using hs),YAA,YDC (by omega) (by omega),YAA]
       refine fin _ ?_
       unfold YIr
       rw [if_pos ⟨hl0,hk0,hs⟩,YTb]
      ·rw [if_neg (by simpa using hs),YAA,YHx (by omega),YAA]
       refine fin _ ?_
       unfold YIr
       rw [if_neg (fun h=>hs h.2.2)]
     ·have d1:decide (l[l.length-1]!.Kind=0)=false:=by simpa using hk0
      rw [d1,show (false == true)=false from rfl,YBY,YBY,YAA,YAA,YBY,YAA,Bool.false_and,if_neg (by decide),YAG (l:=x.Attrs) (by omega),YAA,YHx (by omega),YAA]
      refine fin _ ?_
      unfold YIr
      rw [if_neg (fun h=>hk0 h.2.1)]
    ·have hl0':l=[]:=List.eq_nil_of_length_eq_zero (by omega)
     subst hl0'
     have d0:decide (0≤(-1:Int))=false:=by decide
     rw [show ((([]:List YAC).length:Int)-1) = -1 from rfl,show chk .i64 (-1)=some (-1) from YDC (by decide) (by decide),YAA,d0]
     rw [show (false == true)=false from rfl,YBY,YAA,Bool.false_and,show (false == true)=false from rfl,YBY,YBY,YAA,YAA,YBY,YAA,Bool.false_and,if_neg (by decide),YAG (l:=x.Attrs) (by omega),YAA,YHx (by simp),YAA]
     refine fin _ ?_
     unfold YIr
     rw [if_neg (fun h=>hl0 h.1)]
  ·rintro ⟨cuts,i,out,adds⟩ ⟨rfl,s,h1,h2,h3,⟨m,hdb,hm⟩,hT⟩
   dsimp only at h1 h2 h3
   subst h1; subst h2; subst h3
   rw [YV8 h] at hT hm
   rw [YOR] at hT
   simp only [List.length_map] at hm
   have hlen:=hdb.len
   refine ⟨_,?_,hT⟩
   show YBm x (s.cuts:Int) (x.Cuts.length:Int) s.out s.adds=_
   unfold YBm
   rw [if_pos (by simp),YAG (l:=x.Adds) (by omega),YAA,YQz (by omega),YAA]
   have hd:decide (((x.Cuts.length:Nat):Int)<(x.Cuts.length:Int))=false:=by simp
   rw [hd,show (false == true)=false from rfl,YBY,YAA,Bool.false_and,if_neg (by decide)]
   have hfl:=fl_eq ⟨s.out,s.adds++x.Adds[x.Cuts.length]!,s.cuts⟩ (by simp only; omega) (α:=Ctl (Int × (List YAC) × (List YAB)) ((Int × Int × (List YAC) × (List YAB)) ⊕ (List YAC)))
   simp only at hfl
   rw [hfl,if_pos (by simp)]
   rfl
 obtain ⟨l,e,hl⟩:=key
 rw [e,hl]; rfl
theorem YGT (s:YAC) (d:List YAC):oldD (s :: d)=oldS s+oldD d:=by simp [oldD]
theorem YGU (s:YAC) (d:List YAC):nowD (s :: d)=nowS s+nowD d:=by simp [nowD]
theorem YVv {α β:Type} [Inhabited α] {f:Int × List β→Option ((Int × List β) ⊕ List β)} (l:List α) (g:α→β) (z:β)
  (h : ∀ (k:Nat) (out:List β),k<l.length→out.length=l.length→f ((k:Int),out)=some (.inl (((k+1:Nat):Int),out.set k (g l[k]!)))) (hend : ∀ out,f ((l.length:Int),out)=some (.inr out)) :
  iter f (0,List.replicate l.length z)=some (l.map g):=by
 have key : ∃ r,iter f (0,List.replicate l.length z)=some r∧r=l.map g:=by
  refine YCx l.length (fun k st=>st=((k:Int),(l.take k).map g++List.replicate (l.length-k) z)) _ ?_ ?_ (by simp)
  ·rintro k st hk rfl
   refine .inl ⟨_,h k _ hk (by simp; omega),?_⟩
   congr 1
   obtain ⟨m,hm⟩ : ∃ m,l.length-k=m+1:=⟨l.length-k-1,by omega⟩
   rw [hm,List.replicate_succ,YQC hk,List.map_append,List.set_append_right _ _ (by rw [List.length_map,List.length_take]; omega),show l.length-(k+1)=m by omega]
   have:k-((l.take k).map g).length=0:=by simp; omega
   rw [this,List.set_cons_zero,List.append_assoc]; rfl
  ·rintro st rfl
   refine ⟨_,hend _,by simp⟩
 obtain ⟨r,h1,h2⟩:=key
 rw [h1,h2]
theorem YWX {l:List YAD} (h:l.length≤1073741824):app 32 [] l=some l:=by
 unfold app; rw [if_pos]; rfl; simp; omega
theorem mk40 {α:Type} {n:Nat} (z:α) (h:n≤4294967296):mk 40 (n:Int) z=some (List.replicate n z):=by
 unfold mk; rw [if_pos (by omega)]; simp
theorem YPW (f:List YAB) (hm:f.length≤4294967296) (h : ∀ e∈f,okA e.Attrs):YHt f=some f:=by
 unfold YHt
 rw [mk40 _ hm,YAA]
 have:=YVv (f:=fun (a:Int × (List YAB))=>YCQ f a.1 a.2) f id (YAB.mk 0 0 []) (fun k out hk hl=>by
  have ha:=(h _ (YBI hk)).1
  show YCQ f (k:Int) out=_
  unfold YCQ
  rw [if_pos (by simpa using hk),YAG hk,YAA,YWX ha,YAA,YAG (by omega),YAA,YAQ (by omega),YAA,YTb]
  rfl) (fun out=>by
  show YCQ f (f.length:Int) out=_
  unfold YCQ
  rw [if_neg (by simp)])
 rw [this,List.map_id]; rfl
theorem slc_to {α:Type} (l:List α) (n:Int) (h0:0≤n) (h:n≤l.length):slc l 0 n=some (l.take n.toNat):=by
 unfold slc; rw [if_pos (by omega)]; simp
def YCs (l:List YAC) (t:List YAD) (n:Int):List YAC:=
 if 0<l.length∧l[l.length-1]!.Kind=0∧l[l.length-1]!.Attrs=t then l.set (l.length-1) ⟨l[l.length-1]!.Kind,l[l.length-1]!.N+n,l[l.length-1]!.Attrs,l[l.length-1]!.Elems⟩
 else l++[⟨0,n,t,[]⟩]
theorem YJx (l:List YAC) (t:List YAD):YCs l t 1=YIr l t:=rfl
theorem YFM {l:List YAC} {s:YAC} : (l++[s])[l.length]! = s:=by
 rw [getElem!_pos (l++[s]) l.length (by simp)]; simp
theorem YOG {l:List YAC} {s:YAC} {k:Nat} (h:k<l.length):(l++[s])[k]! = l[k]!:=by
 rw [getElem!_pos (l++[s]) k (by simp; omega),getElem!_pos l k h,List.getElem_append_left h]
theorem YQx (l:List YAC) (t:List YAD) (m n:Int):YCs (YCs l t m) t n=YCs l t (m+n):=by
 unfold YCs
 by_cases hc:0<l.length∧l[l.length-1]!.Kind=0∧l[l.length-1]!.Attrs=t
 ·have hlt:l.length-1<l.length:=by omega
  have hg : ∀ x:YAC,(l.set (l.length-1) x)[l.length-1]! = x:=fun x=>by rw [getElem!_pos _ _ (by simpa using hlt),List.getElem_set_self]
  rw [if_pos hc,if_pos hc,List.length_set,hg,if_pos ⟨hc.1,hc.2.1,hc.2.2⟩,List.set_set]
  simp only [Int.add_assoc]
 ·rw [if_neg hc,if_neg hc]
  rw [show (l++[(⟨0,m,t,[]⟩:YAC)]).length-1=l.length by simp,YFM,if_pos ⟨by simp,rfl,rfl⟩]
  simp
def YOA (s:DS) (n:Int) (t:List YAD):DS:=if n=0 then s else ⟨YCs (dFl s) t n,[],0⟩
theorem YX5 (l:List YAC):dFl ⟨l,[],0⟩=l:=by simp [dFl]
theorem YQk (s:DS) (n:Int) (t:List YAD) (h:0≤n):YOA s n t=(List.replicate n.toNat (Un.r false t)).foldl dU s:=by
 have hK : ∀ (j:Nat) (l:List YAC) (n:Int),(List.replicate j (Un.r false t)).foldl dU ⟨YCs l t n,[],0⟩=⟨YCs l t (n+j),[],0⟩:=by
  intro j
  induction j with
  | zero=>intro l n; simp
  | succ j ih=>
   intro l n
   rw [List.replicate_succ,List.foldl_cons]
   simp only [dU,YX5]
   rw [← YJx,YQx,ih,show n+1+(j:Int)=n+((j+1:Nat):Int) by omega]
 unfold YOA
 by_cases hn:n=0
 ·subst hn; simp
 ·rw [if_neg hn]
  obtain ⟨j,hj⟩ : ∃ j,n.toNat=j+1:=⟨n.toNat-1,by omega⟩
  rw [hj,List.replicate_succ,List.foldl_cons]
  simp only [dU]
  rw [← YJx,hK,show (1:Int)+j=n by omega]
theorem YUt (s:DS) (t:List YAD) : ∀ (n:Nat) ,(List.replicate n (Un.r true t)).foldl dU s=⟨s.out,s.adds,s.cuts+n⟩:=by
 intro n
 induction n generalizing s with
 | zero=>simp
 | succ n ih=>rw [List.replicate_succ,List.foldl_cons,ih]; simp only [dU]; congr 1; omega
def OkUn (u:Un):Prop:=match u with
 | .a e=>YBk e=0∧okA e.Attrs
 | .r c t=>(c=false→YAv t true=0)∧okA t
def cntA (us:List Un):Nat:=us.countP fun u=>!u.isR
def YSf:Un→Bool
 | .a _=>true
 | .r c _=>!c
def cntN (us:List Un):Nat:=us.countP YSf
theorem YQK {A:List YAB} (h0:A≠[]) (h : ∀ e∈A,YBk e=0):YBa ⟨1,0,[],A⟩=0:=by
 unfold YBa
 rw [if_pos rfl,if_neg (by simp),if_neg h0]
 show YB7 A=0
 unfold YB7
 have:(List.range A.length).findSome? (errE A)=none:=by
  rw [List.findSome?_eq_none_iff]
  intro k hk
  have hk:=List.mem_range.1 hk
  unfold errE
  rw [if_pos (h _ (YBI hk))]
 rw [this]; rfl
theorem YQJ {n:Int} (h1:1≤n) (h2:n≤2147483647):YBa ⟨2,n,[],[]⟩=0:=by
 unfold YBa
 rw [if_neg (by simp),if_pos (by simp),if_neg (by simp),if_neg (by simp only; omega)]
 show YAv [] true=0
 decide
theorem YJ8 {n:Int} {t:List YAD} (h1:1≤n) (h2:n≤2147483647) (h:YAv t true=0):YBa ⟨0,n,t,[]⟩=0:=by
 unfold YBa
 rw [if_neg (by simp),if_pos (by simp),if_neg (by simp),if_neg (by simp only; omega)]
 exact h
def Okk2 (a:Nat) (s:YAC):Prop:=((s.Kind=0∧s.Elems=[]∧1≤s.N∧YAv s.Attrs true=0)∨(s.Kind=2∧s.Elems=[]∧s.Attrs=[]∧1≤s.N) ∨
  (s.Kind=1∧s.N=0∧s.Attrs=[]∧s.Elems≠[] ∧ ∀ e∈s.Elems,YBk e=0))∧okA s.Attrs∧s.Elems.length≤a ∧ ∀ e∈s.Elems,okA e.Attrs
def AdjD (l:List YAC):Prop:=∀ k,0<k→k<l.length→YF5 l[k-1]! l[k]! = false
structure CD (m a r n:Nat) (s:DS):Prop where
 ok : ∀ x∈s.out,Okk2 a x
 adj:AdjD s.out
 last:0<s.out.length→s.out[s.out.length-1]!.Kind=0
 add : ∀ e∈s.adds,YBk e=0∧okA e.Attrs
 olds:oldD s.out+s.cuts=r
 nows:nowD s.out+s.adds.length=n
 len:s.out.length+s.adds.length+s.cuts≤m
 al:s.adds.length≤a
theorem cd_nil:CD 0 0 0 0 ⟨[],[],0⟩:=⟨by simp,fun k _ hk=>by simp at hk,fun h=>by simp at h,by simp,by simp [oldD],by simp [nowD],by simp,by simp⟩
theorem YN2 (a b:List YAC):oldD (a++b)=oldD a+oldD b:=by simp [oldD]
theorem YN4 (a b:List YAC):nowD (a++b)=nowD a+nowD b:=by simp [nowD]
theorem YOX {l:List YAC} {s:YAC} (h:AdjD l) (hs:0<l.length→YF5 l[l.length-1]! s=false):AdjD (l++[s]):=by
 intro k h0 hk
 simp only [List.length_append,List.length_singleton] at hk
 by_cases hkl:k<l.length
 ·rw [YOG (by omega),YOG hkl]; exact h k h0 hkl
 ·have:k=l.length:=by omega
  subst this
  rw [YOG (by omega),YFM]
  exact hs h0
theorem Okk2.mono {a b:Nat} {s:YAC} (h:Okk2 a s) (hab:a≤b):Okk2 b s:=⟨h.1,h.2.1,Nat.le_trans h.2.2.1 hab,h.2.2.2⟩
theorem YEc:okA []:=⟨by simp,fun a ha=>by simp at ha⟩
theorem YQw {m a r n:Nat} {s:DS} (h:CD m a r n s):(∀ x∈dFl s,Okk2 a x)∧AdjD (dFl s)∧oldD (dFl s)=r∧nowD (dFl s)=n∧(dFl s).length≤m∧(dFl s).length≤s.out.length+2:=by
 have hl:=h.len
 have ho:=h.olds
 have hn:=h.nows
 have key : ∃ l,l=(if 0<s.adds.length then s.out++[⟨1,0,[],s.adds⟩] else s.out)∧(∀ x∈l,Okk2 a x)∧AdjD l∧oldD l=oldD s.out∧nowD l=nowD s.out+s.adds.length∧l.length≤s.out.length+s.adds.length∧l.length≤s.out.length+1∧(0<l.length→l[l.length-1]!.Kind≠2):=by
  refine ⟨_,rfl,?_⟩
  by_cases h0:0<s.adds.length
  ·rw [if_pos h0]
   have hne:s.adds≠[]:=fun e=>by rw [e] at h0; simp at h0
   refine ⟨fun x hx=>?_,YOX h.adj fun hl=>?_,by rw [YN2]; simp [oldD,oldS],by rw [YN4]; simp [nowD,nowS],by simp; omega,by simp,fun _=>?_⟩
   ·rcases List.mem_append.1 hx with h2 | h2
    ·exact h.ok x h2
    ·have:x=⟨1,0,[],s.adds⟩:=by simpa using h2
     subst this
     exact ⟨.inr (.inr ⟨rfl,rfl,rfl,hne,fun e he=>(h.add e he).1⟩),YEc,h.al,fun e he=>(h.add e he).2⟩
   ·have e0 : ∀ p:YAC,p.Kind=0→YF5 p ⟨1,0,[],s.adds⟩=false:=fun p hp=>by unfold YF5; rw [hp]; simp
    exact e0 _ (h.last hl)
   ·rw [show (s.out++[(⟨1,0,[],s.adds⟩:YAC)]).length-1=s.out.length by simp,YFM]; simp
  ·rw [if_neg h0]
   exact ⟨h.ok,h.adj,rfl,by omega,by omega,by omega,fun hl=>by rw [h.last hl]; decide⟩
 obtain ⟨l,hl',k1,k2,k3,k4,k5,k7,k6⟩:=key
 unfold dFl
 rw [← hl']
 by_cases h0:0<s.cuts
 ·rw [if_pos h0]
  refine ⟨fun x hx=>?_,YOX k2 fun hl=>?_,by rw [YN2,k3,← ho]; simp [oldD,oldS],by rw [YN4,k4,← hn]; simp [nowD,nowS],by simp; omega,by simp; omega⟩
  ·rcases List.mem_append.1 hx with h2 | h2
   ·exact k1 x h2
   ·have:x=⟨2,s.cuts,[],[]⟩:=by simpa using h2
    subst this
    exact ⟨.inr (.inl ⟨rfl,rfl,rfl,by simp only; omega⟩),YEc,by simp,by simp⟩
  ·have e0 : ∀ p:YAC,p.Kind≠2→YF5 p ⟨2,s.cuts,[],[]⟩=false:=fun p hp=>by unfold YF5; simp [hp]
   exact e0 _ (k6 hl)
 ·rw [if_neg h0,List.append_nil]
  exact ⟨k1,k2,by omega,by omega,by omega,by omega⟩
theorem YRY : ∀ {l:List YAC} {i:Nat} {s:YAC},i<l.length→oldD (l.set i s)=oldD l-oldS l[i]! + oldS s∧nowD (l.set i s)=nowD l-nowS l[i]! + nowS s
 | x :: l,0,s,_=>by
  rw [List.set_cons_zero,YGT,YGT,YGU,YGU]
  show _=_-oldS x+oldS s∧_=_-nowS x+nowS s
  omega
 | x :: l,i+1,s,h=>by
  obtain ⟨h1,h2⟩:=YRY (l:=l) (i:=i) (s:=s) (by simpa using h)
  rw [List.set_cons_succ,YGT,YGT,YGU,YGU,h1,h2]
  show _=_-oldS l[i]! + oldS s∧_=_-nowS l[i]! + nowS s
  omega
theorem YWY {l:List YAC} {i:Nat} {s:YAC} (h:AdjD l) (hi:i<l.length) (hk:s.Kind=l[i]!.Kind) (ha:s.Attrs=l[i]!.Attrs):AdjD (l.set i s):=by
 intro k h0 hlt
 rw [List.length_set] at hlt
 have e : ∀ j,j<l.length→(l.set i s)[j]!.Kind=l[j]!.Kind∧(l.set i s)[j]!.Attrs=l[j]!.Attrs:=fun j hj=>by
  rw [getElem!_pos (l.set i s) j (by simpa using hj),getElem!_pos l j hj,List.getElem_set]
  split
  ·rename_i hij; subst hij; rw [hk,ha,getElem!_pos l i hj]; exact ⟨rfl,rfl⟩
  ·exact ⟨rfl,rfl⟩
 have:=h k h0 hlt
 unfold YF5 at this ⊢
 rw [(e _ (by omega)).1,(e _ (by omega)).2,(e k hlt).1,(e k hlt).2]
 exact this
theorem YYA {a:Nat} {l:List YAC} {t:List YAD} {n:Int} (h1 : ∀ x∈l,Okk2 a x) (h2:AdjD l) (hn:1≤n) (ht:YAv t true=0) (hta:okA t):(∀ x∈YCs l t n,Okk2 a x)∧AdjD (YCs l t n)∧oldD (YCs l t n)=oldD l+n ∧
  nowD (YCs l t n)=nowD l+n∧(YCs l t n).length≤l.length+1∧0<(YCs l t n).length∧(YCs l t n)[(YCs l t n).length-1]!.Kind=0:=by
 unfold YCs
 split
 ·rename_i hc
  have hlt:l.length-1<l.length:=by omega
  have hm:=h1 _ (YBI hlt)
  have hk0:(l[l.length-1]!.Elems=[]∧1≤l[l.length-1]!.N∧YAv l[l.length-1]!.Attrs true=0):=by
   rcases hm.1 with ⟨k,e,n1,a1⟩ | ⟨k,_⟩ | ⟨k,_⟩
   ·exact ⟨e,n1,a1⟩
   ·rw [hc.2.1] at k; cases k
   ·rw [hc.2.1] at k; cases k
  obtain ⟨e1,e2⟩:=YRY (l:=l) (i:=l.length-1) (s:=⟨l[l.length-1]!.Kind,l[l.length-1]!.N+n,l[l.length-1]!.Attrs,l[l.length-1]!.Elems⟩) hlt
  refine ⟨fun x hx=>?_,YWY h2 hlt rfl rfl,?_,?_,by rw [List.length_set]; omega,by rw [List.length_set]; omega,?_⟩
  ·rcases List.mem_or_eq_of_mem_set hx with h3 | h3
   ·exact h1 x h3
   ·subst h3
    exact ⟨.inl ⟨hc.2.1,hk0.1,by simp only; omega,hk0.2.2⟩,hm.2.1,hm.2.2.1,hm.2.2.2⟩
  ·rw [e1]; unfold oldS; simp only [hc.2.1]; simp; omega
  ·rw [e2]; unfold nowS; simp only [hc.2.1]; simp; omega
  ·rw [List.length_set,getElem!_pos _ _ (by simpa using hlt),List.getElem_set_self]; exact hc.2.1
 ·rename_i hc
  refine ⟨fun x hx=>?_,YOX h2 fun hl=>?_,by rw [YN2]; simp [oldD,oldS],by rw [YN4]; simp [nowD,nowS],by simp,by simp,?_⟩
  ·rcases List.mem_append.1 hx with h3 | h3
   ·exact h1 x h3
   ·have:x=⟨0,n,t,[]⟩:=by simpa using h3
    subst this
    exact ⟨.inl ⟨rfl,rfl,hn,ht⟩,hta,by simp,by simp⟩
  ·unfold YF5
   generalize l[l.length-1]! = p at hc ⊢
   by_cases h3:p.Kind=0
   ·have h4 : ¬ p.Attrs=t:=fun e=>hc ⟨hl,h3,e⟩
    simp [h3,h4]
   ·simp [h3]
  ·rw [show (l++[(⟨0,n,t,[]⟩:YAC)]).length-1=l.length by simp,YFM]
theorem YX9 {m a r n:Nat} {s:DS} (h:CD m a r n s) {u:Un} (hu:OkUn u):CD (m+1) (a+(if u.isR then 0 else 1)) (r+(if u.isR then 1 else 0)) (n+(if YSf u then 1 else 0)) (dU s u):=by
 have hl:=h.len
 have ho:=h.olds
 have hn:=h.nows
 have ha:=h.al
 match u,hu with
 | .a e,he=>
  have e1:(if (Un.a e).isR=true then 0 else 1)=1:=rfl
  have e2:(if (Un.a e).isR=true then 1 else 0)=0:=rfl
  have e3:(if YSf (Un.a e)=true then 1 else 0)=1:=rfl
  rw [e1,e2,e3]
  refine ⟨fun x hx=>(h.ok x hx).mono (by omega),h.adj,h.last,fun y hy=>?_,ho,by simp [dU]; omega,by simp [dU]; omega,by simp [dU]; omega⟩
  rcases List.mem_append.1 hy with h1 | h1
  ·exact h.add y h1
  ·have:y=e:=by simpa using h1
   subst this; exact he
 | .r true t,ht=>
  have e1:(if (Un.r true t).isR=true then 0 else 1)=0:=rfl
  have e2:(if (Un.r true t).isR=true then 1 else 0)=1:=rfl
  have e3:(if YSf (Un.r true t)=true then 1 else 0)=0:=rfl
  rw [e1,e2,e3]
  exact ⟨h.ok,h.adj,h.last,h.add,by simp [dU]; omega,hn,by simp [dU]; omega,ha⟩
 | .r false t,ht=>
  have e1:(if (Un.r false t).isR=true then 0 else 1)=0:=rfl
  have e2:(if (Un.r false t).isR=true then 1 else 0)=1:=rfl
  have e3:(if YSf (Un.r false t)=true then 1 else 0)=1:=rfl
  rw [e1,e2,e3]
  obtain ⟨k1,k2,k3,k4,k5,_⟩:=YQw h
  obtain ⟨j1,j2,j3,j4,j5,j6,j7⟩:=YYA (n:=1) k1 k2 (by omega) (ht.1 rfl) ht.2
  refine ⟨j1,j2,fun _=>j7,by simp [dU],?_,?_,?_,by simp [dU]⟩
  ·show oldD (YCs (dFl s) t 1)+((0:Nat):Int)=_
   omega
  ·show nowD (YCs (dFl s) t 1)+((0:Nat):Int)=_
   omega
  ·show (YCs (dFl s) t 1).length+0+0≤_
   omega
theorem YR3 : ∀ {us:List Un} {m a r n:Nat} {s:DS},CD m a r n s→(∀ u∈us,OkUn u)→CD (m+us.length) (a+cntA us) (r+cntR us) (n+cntN us) (us.foldl dU s)
 | [],_,_,_,_,_,h,_=>by simpa [cntA,cntR,cntN] using h
 | u :: us,m,a,r,n,s,h,hu=>by
  have:=YR3 (us:=us) (YX9 h (hu u (List.mem_cons_self ..))) fun v hv=>hu v (List.mem_cons_of_mem _ hv)
  have e1:cntA (u :: us)=(if u.isR then 0 else 1)+cntA us:=by unfold cntA; rw [List.countP_cons]; cases u.isR <;> simp <;> omega
  have e2:cntR (u :: us)=(if u.isR then 1 else 0)+cntR us:=by unfold cntR; rw [List.countP_cons]; omega
  have e3:cntN (u :: us)=(if YSf u then 1 else 0)+cntN us:=by unfold cntN; rw [List.countP_cons]; omega
  rw [List.foldl_cons,e1,e2,e3,List.length_cons,show m+(us.length+1)=m+1+us.length by omega,← Nat.add_assoc,← Nat.add_assoc,← Nat.add_assoc]
  exact this
def D0:DS:=⟨[],[],0⟩
def dOn (us:List Un):DS:=us.foldl dU D0
theorem YIQ {us:List Un} (h : ∀ u∈us,OkUn u):CD us.length (cntA us) (cntR us) (cntN us) (dOn us):=by
 have:=YR3 cd_nil h
 simp only [Nat.zero_add] at this
 exact this
theorem YFt (us:List Un):YBt us=dFl (dOn us):=rfl
theorem YXB {m a r n:Nat} {s:DS} (h:CD m a r n s) (hr:r≤2147483647) (hn:n≤2147483647):YJP (dFl s)=0:=by
 obtain ⟨k1,k2,k3,k4,k5,_⟩:=YQw h
 generalize dFl s=l at k1 k2 k3 k4 k5
 have hpos : ∀ l:List YAC,(∀ x∈l,Okk2 a x)→0≤oldD l∧0≤nowD l∧(∀ x∈l,x.N≤oldD l∨x.Kind=1):=by
  intro l
  induction l with
  | nil=>intro _; simp [oldD,nowD]
  | cons x l ih=>
   intro hx
   obtain ⟨i1,i2,i3⟩:=ih fun s hs=>hx s (List.mem_cons_of_mem _ hs)
   have hxx:=(hx x (List.mem_cons_self ..)).1
   rw [YGT,YGU]
   have hz:0≤oldS x∧0≤nowS x∧(x.N≤oldS x∨x.Kind=1):=by
    unfold oldS nowS
    rcases hxx with ⟨k,e,n1,_⟩ | ⟨k,e,_,n1⟩ | ⟨k,n1,_⟩
    ·rw [if_neg (by omega),if_neg (by omega),if_neg (by omega)]; omega
    ·rw [if_neg (by omega),if_pos (by omega)]; omega
    ·rw [if_pos k,if_neg (by omega),if_pos k]; omega
   refine ⟨by omega,by omega,fun y hy=>?_⟩
   rcases List.mem_cons.1 hy with rfl | hy
   ·rcases hz.2.2 with h | h
    ·exact .inl (by omega)
    ·exact .inr h
   ·rcases i3 y hy with h | h
    ·exact .inl (by omega)
    ·exact .inr h
 obtain ⟨p1,p2,p3⟩:=hpos l k1
 have herr : ∀ k,k<l.length→errD l k=none:=by
  intro k hk
  have hx:=k1 _ (YBI hk)
  have hN:=p3 _ (YBI hk)
  have hz:YBa l[k]! = 0:=by
   generalize l[k]! = x at hx hN
   obtain ⟨xk,xn,xa,xe⟩:=x
   rcases hx.1 with ⟨k,e,n1,a1⟩ | ⟨k,e,a1,n1⟩ | ⟨k,n1,a1,e1,e2⟩
   ·dsimp only at k e n1 a1 hN; subst k; subst e
    exact YJ8 n1 (by omega) a1
   ·dsimp only at k e n1 a1 hN; subst k; subst e; subst a1
    exact YQJ n1 (by omega)
   ·dsimp only at k n1 a1 e1 e2; subst k; subst n1; subst a1
    exact YQK e1 e2
  unfold errD
  rw [if_neg (by simpa using hz),if_neg]
  rintro ⟨h0,h1⟩
  rw [k2 k h0 hk] at h1; cases h1
 unfold YJP
 rw [YJK herr]
 simp only
 rw [if_neg (by omega)]
def toW (s:DS):YAE:=⟨s.out,s.adds,(s.cuts:Int)⟩
theorem YRb {α:Type} {l:List α} : decide (0<(l.length:Int))=true↔0<l.length:=by rw [decide_eq_true_eq]; omega
theorem YRk (s:DS) (hb:s.out.length+2≤1099511627776):YBZ (toW s)=some ⟨dFl s,[],0⟩:=by
 unfold YBZ toW
 dsimp only
 unfold dFl
 by_cases h1:0<s.adds.length
 ·rw [if_pos (YRb.2 h1),YHx (by omega),if_pos h1]
  simp only [YAA]
  by_cases h2:0<s.cuts
  ·rw [if_pos (by rw [decide_eq_true_eq]; omega),YHx (by rw [List.length_append,List.length_singleton]; omega),if_pos h2]; rfl
  ·rw [if_neg (by rw [decide_eq_true_eq]; omega),if_neg h2,List.append_nil]; rfl
 ·rw [if_neg (fun h=>h1 (YRb.1 h)),if_neg h1]
  simp only [YAA]
  by_cases h2:0<s.cuts
  ·rw [if_pos (by rw [decide_eq_true_eq]; omega),YHx (by omega),if_pos h2]; rfl
  ·rw [if_neg (by rw [decide_eq_true_eq]; omega),if_neg h2,List.append_nil]; rfl
theorem cd_N {a:Nat} : ∀ {l:List YAC},(∀ x∈l,Okk2 a x)→0≤oldD l∧0≤nowD l∧(∀ x∈l,0≤x.N∧x.N≤oldD l)
 | [],_=>by simp [oldD,nowD]
 | x :: l,hx=>by
  obtain ⟨i1,i2,i3⟩:=cd_N (l:=l) fun s hs=>hx s (List.mem_cons_of_mem _ hs)
  have hxx:=(hx x (List.mem_cons_self ..)).1
  rw [YGT,YGU]
  have hz:0≤oldS x∧0≤nowS x∧0≤x.N∧x.N≤oldS x:=by
   unfold oldS nowS
   rcases hxx with ⟨k,e,n1,_⟩ | ⟨k,e,_,n1⟩ | ⟨k,n1,_⟩
   ·rw [if_neg (by omega),if_neg (by omega),if_neg (by omega)]; omega
   ·rw [if_neg (by omega),if_pos (by omega)]; omega
   ·rw [if_pos k,if_neg (by omega),if_pos k]; omega
  refine ⟨by omega,by omega,fun y hy=>?_⟩
  rcases List.mem_cons.1 hy with rfl | hy
  ·omega
  ·have:=i3 y hy; omega
theorem YUJ {m a r n:Nat} {s:DS} (h:CD m a r n s) (hb:s.out.length+4≤1099511627776) (hr:r≤4000000000000000000) (k:Int) (t:List YAD) (h0:0≤k) (hk:k≤4000000000000000000) (ht:t.length≤1073741824) :
  YBB (toW s) k t=some (toW (YOA s k t)):=by
 unfold YBB YOA
 by_cases hk0:k=0
 ·rw [if_pos (by rw [decide_eq_true_eq]; exact hk0),if_pos hk0]
 rw [if_neg (by rw [decide_eq_true_eq]; exact hk0),if_neg hk0,YRk s (by omega),YAA]
 obtain ⟨k1,k2,k3,k4,k5,k6⟩:=YQw h
 obtain ⟨p1,p2,p3⟩:=cd_N k1
 dsimp only
 generalize dFl s=l at k1 k2 k3 k4 k5 k6 p1 p2 p3
 unfold YCs
 by_cases hl0:0<l.length
 ·rw [YRh hl0 (by omega),YAA]
  have d0:decide (0≤(((l.length-1:Nat)):Int))=true:=by simp
  have hx:=k1 _ (YBI (l:=l) (k:=l.length-1) (by omega))
  have hN:=p3 _ (YBI (l:=l) (k:=l.length-1) (by omega))
  rw [d0,show (true == true)=true from rfl,YAI,YAG (l:=l) (by omega),YAA,Bool.true_and]
  by_cases hK:l[l.length-1]!.Kind=0
  ·rw [decide_eq_true hK,show (true == true)=true from rfl,YAI,YAA,YAI,YE0 _ _ (by have:=hx.2.1.1; omega),YAA,Bool.true_and]
   by_cases hs:l[l.length-1]!.Attrs=t
   ·rw [if_pos (by rw [decide_eq_true_eq]; exact hs),YAA,YDC (by omega) (by omega),YAA,YTb,if_pos ⟨hl0,hK,hs⟩]; rfl
   ·rw [if_neg (by rw [decide_eq_true_eq]; exact hs),YWX ht,YAA,YHx (by omega),YAA,if_neg (fun h=>hs h.2.2)]; rfl
  ·rw [decide_eq_false hK,show (false == true)=false from rfl,YBY,YAA,YBY,YAA,Bool.false_and,if_neg (by decide),YWX ht,YAA,YHx (by omega),YAA,if_neg (fun h=>hK h.2.1)]; rfl
 ·have hl0':l=[]:=List.eq_nil_of_length_eq_zero (by omega)
  subst hl0'
  rw [show ((([]:List YAC).length:Int)-1) = -1 from rfl,show chk .i64 (-1)=some (-1) from YDC (by decide) (by decide),YAA,
   show decide (0≤(-1:Int))=false by decide,show (false == true)=false from rfl,YBY,YAA,Bool.false_and,show (false == true)=false from rfl,YBY,YAA,YBY,YAA,Bool.false_and,if_neg (by decide),
   YWX ht,YAA,YHx (by simp),YAA,if_neg (by simp)]; rfl
theorem YRv (s:DS) (l:List YAB) (h1:l.length≤4294967296) (h : ∀ e∈l,okA e.Attrs) (hb:s.adds.length+l.length≤1099511627776):YBJ (toW s) l=some (toW ⟨s.out,s.adds++l,s.cuts⟩):=by
 unfold YBJ
 rw [YPW l h1 h,YAA]
 show (bnd1 (app 40 s.adds l) _)=_
 rw [YQz hb,YAA]; rfl
def esum (l:List YAC):Nat:=(l.map fun x=>x.Elems.length).sum
theorem YOL (a b:List YAC):esum (a++b)=esum a+esum b:=by simp [esum]
theorem YUh (s:DS):esum (dFl s)=esum s.out+s.adds.length:=by
 unfold dFl
 rw [YOL]
 have h2:esum (if 0<s.cuts then [(⟨2,s.cuts,[],[]⟩:YAC)] else [])=0:=by split <;> rfl
 rw [h2]
 by_cases h1:0<s.adds.length
 ·rw [if_pos h1,YOL]; simp [esum]
 ·rw [if_neg h1]; omega
theorem YRt : ∀ {l:List YAC} {i:Nat} {s:YAC},i<l.length→s.Elems=l[i]!.Elems→esum (l.set i s)=esum l
 | x :: l,0,s,_,h=>by
  have h':s.Elems=x.Elems:=h
  simp [esum,h']
 | x :: l,i+1,s,hi,h=>by
  have:=YRt (l:=l) (i:=i) (s:=s) (by simpa using hi) h
  rw [List.set_cons_succ]
  simp only [esum,List.map_cons,List.sum_cons] at this ⊢
  omega
theorem YUi (l:List YAC) (t:List YAD) (n:Int):esum (YCs l t n)=esum l:=by
 unfold YCs
 split
 ·rename_i hc; exact YRt (by omega) rfl
 ·rw [YOL]; simp [esum]
theorem YNM : ∀ (us:List Un) (s:DS),esum (us.foldl dU s).out+(us.foldl dU s).adds.length=esum s.out+s.adds.length+cntA us
 | [],s=>by simp [cntA]
 | u :: us,s=>by
  have ih:=YNM us (dU s u)
  have e1:cntA (u :: us)=(if u.isR then 0 else 1)+cntA us:=by unfold cntA; rw [List.countP_cons]; cases u.isR <;> simp <;> omega
  rw [List.foldl_cons,ih,e1]
  match u with
  | .a e=>simp [dU,Un.isR]; omega
  | .r true t=>simp [dU,Un.isR]
  | .r false t=>
   have:esum (dU s (.r false t)).out=esum s.out+s.adds.length:=by
    show esum (YIr (dFl s) t)=_
    rw [← YJx,YUi,YUh]
   simp only [Un.isR,if_true]
   rw [this]; simp [dU]
theorem YWR (us:List Un):esum (dFl (dOn us))=cntA us:=by
 rw [YUh]
 have:=YNM us D0
 unfold dOn
 rw [this]; simp [D0,esum]
theorem YUr {us:List Un} (h : ∀ u∈us,OkUn u) (hm:(dFl (dOn us)).length≤1099511627776) (ha:cntA us≤1073741824):OkD (dFl (dOn us)):=by
 obtain ⟨k1,_⟩:=YQw (YIQ h)
 exact ⟨hm,fun x hx=>⟨(k1 x hx).2.1,by have:=(k1 x hx).2.2.1; omega,(k1 x hx).2.2.2⟩,by have:=YWR us; unfold esum at this; omega⟩
theorem YUp {us:List Un} (h : ∀ u∈us,OkUn u) (hm:(dOn us).out.length+2≤1099511627776) (ha:cntA us≤1073741824) :
  YBO (toW (dOn us))=some (if YJP (YBt us)≠0 then ([],3,⟨YBt us,[],0⟩) else (YBt us,0,⟨YBt us,[],0⟩)):=by
 obtain ⟨k1,k2,k3,k4,k5,k6⟩:=YQw (YIQ h)
 unfold YBO
 rw [YRk _ hm,YAA]
 dsimp only
 rw [YMh _ (YUr h (by omega) ha),YAA,← YFt]
 by_cases he:YJP (YBt us)≠0
 ·rw [if_pos (ndT he),if_pos he]
 ·have he:=Classical.not_not.1 he
  rw [if_neg (ndF he),if_neg (by simpa using he)]
theorem YH9 (us:List Un) (n:Int) (t:List YAD) (h:0≤n):YOA (dOn us) n t=dOn (us++List.replicate n.toNat (.r false t)):=by
 rw [YQk _ _ _ h]; unfold dOn; rw [List.foldl_append]
theorem YIA (us:List Un) (l:List YAB):(⟨(dOn us).out,(dOn us).adds++l,(dOn us).cuts⟩:DS)=dOn (us++l.map Un.a):=by
 unfold dOn; rw [List.foldl_append,YOR]
theorem YQt (us:List Un) (n:Nat) (t:List YAD):(⟨(dOn us).out,(dOn us).adds,(dOn us).cuts+n⟩:DS)=dOn (us++List.replicate n (.r true t)):=by
 unfold dOn; rw [List.foldl_append,YUt]
theorem YLg (x y:YAB) (h:x.Attrs.length≤1073741824):YEu x y=some (decide (x=y)):=by
 unfold YEu
 rw [YBc _ _ (by omega)]
 obtain ⟨x1,x2,x3⟩:=x
 obtain ⟨y1,y2,y3⟩:=y
 by_cases h1:x1=y1 <;> by_cases h2:x2=y2 <;> by_cases h3:x3=y3 <;> simp [h1,h2,h3,default]
theorem YJW {α:Type} [Inhabited α] [DecidableEq α] {a b:List α} (hl:a.length=b.length) (h:((List.range a.length).all fun k=>decide (a[k]! = b[k]!))=true):a=b:=by
 apply List.ext_getElem hl
 intro k h1 h2
 have:=List.all_eq_true.1 h k (List.mem_range.2 h1)
 simp only [decide_eq_true_eq] at this
 rwa [getElem!_pos a k h1,getElem!_pos b k h2] at this
theorem YKq {α:Type} [Inhabited α] [DecidableEq α] (a:List α):((List.range a.length).all fun k=>decide (a[k]! = a[k]!))=true:=by
 rw [List.all_eq_true]; intro k _; rw [decide_eq_true rfl]
theorem YHi (a b:List YAB) (hm:a.length≤9223372036854775806) (h : ∀ e∈a,e.Attrs.length≤1073741824):YDr a b=some (decide (a=b)):=by
 unfold YDr
 by_cases hl:a.length=b.length
 ·rw [if_neg (by simp [hl]),YAa (n:=a.length) (fun k=>if decide (a[k]! = b[k]!) then none else some false) (fun k hk=>by
   unfold YC6
   rw [if_pos (by simpa using hk),YAG hk,YAG (by omega),YAA,YAA,YLg _ _ (h _ (YBI hk)),YAA,YAQ (by omega)]
   generalize a[k]! = x
   generalize b[k]! = y
   by_cases h:x=y <;> simp [h,YBW]) (by unfold YC6; rw [if_neg (by simp)]),YDQ,YBN]
  by_cases h:a=b
  ·subst h; rw [YKq,decide_eq_true rfl]; rfl
  ·rw [decide_eq_false h]
   have:((List.range a.length).all fun k=>decide (a[k]! = b[k]!))=false:=by
    rw [← Bool.not_eq_true]; exact fun hh=>h (YJW hl hh)
   rw [this]; rfl
 ·rw [if_pos (by simp; omega),decide_eq_false (by rintro rfl; exact hl rfl)]
theorem YHA (a b:List YAC) (hm:a.length≤9223372036854775806) (h : ∀ s∈a,OkSt s):YCa a b=some (decide (a=b)):=by
 unfold YCa
 by_cases hl:a.length=b.length
 ·rw [if_neg (by simp [hl]),YAa (n:=a.length) (fun k=>if decide (a[k]! = b[k]!) then none else some false) (fun k hk=>by
   unfold YCk
   have hs:=h _ (YBI hk)
   rw [if_pos (by simpa using hk),YAG hk,YAG (by omega),YAA,YAA,YBc _ _ (by have:=hs.at_.1; omega),YHi _ _ (by have:=hs.el; omega) (fun e he=>(hs.ea e he).1),YAQ (by omega)]
   generalize a[k]! = x
   generalize b[k]! = y
   obtain ⟨x1,x2,x3,x4⟩:=x
   obtain ⟨y1,y2,y3,y4⟩:=y
   by_cases h1:x1=y1 <;> by_cases h2:x2=y2 <;> by_cases h3:x3=y3 <;> by_cases h4:x4=y4 <;> simp [h1,h2,h3,h4,YBW,default]) (by unfold YCk; rw [if_neg (by simp)]),YDQ,YBN]
  by_cases h:a=b
  ·subst h; rw [YKq,decide_eq_true rfl]; rfl
  ·rw [decide_eq_false h]
   have:((List.range a.length).all fun k=>decide (a[k]! = b[k]!))=false:=by
    rw [← Bool.not_eq_true]; exact fun hh=>h (YJW hl hh)
   rw [this]; rfl
 ·rw [if_pos (by simp; omega),decide_eq_false (by rintro rfl; exact hl rfl)]
theorem YN3 {κ:YAD→Nat} (h3 : ∀ a,a.Name.length+a.Value.length+1≤κ a) {l:List YAD} (hb:(l.map κ).sum≤1048576):okA l:=by
 have h1:=YFR (μ:=κ) (fun a=>by have:=h3 a; omega) l
 refine ⟨by omega,fun a ha=>?_⟩
 have h2:=YDt (μ:=κ) ha
 have:=h3 a
 omega
theorem YVn {ν:YAB→Nat} {κ:YAD→Nat} (h2 : ∀ e,(e.Attrs.map κ).sum+1≤ν e) (h3 : ∀ a,a.Name.length+a.Value.length+1≤κ a) {f:List YAB} (hb:(f.map ν).sum≤1048576):f.length≤1048576 ∧ ∀ e∈f,okA e.Attrs:=by
 have h1:=YFR (μ:=ν) (fun e=>by have:=h2 e; omega) f
 refine ⟨by omega,fun e he=>YN3 h3 ?_⟩
 have h4:=YDt (μ:=ν) he
 have:=h2 e
 omega
structure SmD (d:List YAC):Prop where
 at_ : ∀ s∈d,s.Attrs.length≤1048576
 ea : ∀ s∈d,∀ e∈s.Elems,e.Attrs.length≤1048576
 sum:(d.map fun s=>s.Elems.length).sum≤1048576
 len:d.length≤1048576
theorem YOS (us:List Un):cntN us≤us.length:=List.countP_le_length
theorem YIo {us:List Un} (h : ∀ u∈us,OkUn u):(dOn us).out.length+(dOn us).adds.length+(dOn us).cuts≤us.length:=(YIQ h).len
theorem okU_un {us : List Un} (h : ∀ u ∈ us, OkUn u) : ∀ u ∈ us, OkU u := by
  intro u hu
  have := h u hu
  match u, this with
  | .a _, _ => trivial
  | .r _ t, ht => have := ht.2.1
                  show t.length ≤ _; omega
theorem YL6:YAv [] true=0:=by decide
theorem YJQ (a b:List Un):cntR (a++b)=cntR a+cntR b:=by simp [cntR]
theorem YDg (a b:List YAf) (hm:a.length≤9223372036854775806):YDL a b=some (decide (a=b)):=by
 unfold YDL
 by_cases hl:a.length=b.length
 ·rw [if_neg (by simp [hl]),YAa (n:=a.length) (fun k=>if decide (a[k]! = b[k]!) then none else some false) (fun k hk=>by
   unfold YCi
   rw [if_pos (by simpa using hk),YAG hk,YAG (by omega),YAA,YAA,YAQ (by omega)]
   generalize a[k]! = x
   generalize b[k]! = y
   obtain ⟨x1,x2⟩:=x
   obtain ⟨y1,y2⟩:=y
   by_cases h:x1=y1 <;> by_cases h2:x2=y2 <;> simp [h,h2,YBW]) (by unfold YCi; rw [if_neg (by simp)]),YDQ,YBN]
  by_cases h:a=b
  ·subst h; simp
  ·rw [decide_eq_false h]
   have:((List.range a.length).all fun k=>decide (a[k]! = b[k]!))=false:=by
    rw [← Bool.not_eq_true,List.all_eq_true]
    intro hall
    apply h
    apply List.ext_getElem hl
    intro k h1 h2
    have:=hall k (List.mem_range.2 h1)
    simp only [decide_eq_true_eq] at this
    rwa [getElem!_pos a k h1,getElem!_pos b k h2] at this
   rw [this]; rfl
 ·rw [if_pos (by simp; omega),decide_eq_false (by rintro rfl; exact hl rfl)]
theorem keepW {X:List Un} (hX : ∀ u∈X,OkUn u) (hl:X.length≤100000000000) (k:Int) (t:List YAD) (h0:0≤k) (hk:k≤100000000000) (ht:t.length≤1073741824) :
  YBB (toW (dOn X)) k t=some (toW (dOn (X++List.replicate k.toNat (.r false t)))):=by
 have h1:=YIo hX
 have h2:cntR X≤X.length:=List.countP_le_length
 rw [YUJ (YIQ hX) (by omega) (by omega) k t h0 (by omega) ht,YH9 X k t h0]
theorem elemsW {X:List Un} (hX : ∀ u∈X,OkUn u) (hl:X.length≤100000000000) (l:List YAB) (h1:l.length≤4294967296) (h : ∀ e∈l,okA e.Attrs):YBJ (toW (dOn X)) l=some (toW (dOn (X++l.map Un.a))):=by
 have h2:=YIo hX
 rw [YRv (dOn X) l h1 h (by omega),YIA]
def YGz (f:List YAB):Int:=if YB7 f≠0 then YB7 f else if f=[]∨f[f.length-1]!.Char≠10 then 11 else 0
theorem YX0 {f:List YAB} {k:Nat} {r:Int} (h:errE f k=some r):r≠0:=by
 unfold errE at h
 split at h
 ·cases h
 ·rename_i hne; cases h; exact hne
theorem YNJ (f:List YAB) (hm:f.length≤1073741824):(ctl1 (some (YI8 ((List.range f.length).findSome? (errE f)))) fun (_:Unit)=>
  bnd1 (gd ((true == true) && ((decide ((f.length:Int)=0)) == false)) (chk .i64 ((f.length:Int)-1))) fun (x4:Int)=>
  bnd1 (gd ((true == true) && ((decide ((f.length:Int)=0)) == false)) (idx f x4)) fun (x5:YAB)=>
  if (true && ((decide ((f.length:Int)=0)) || (!decide (x5.Char=10)))) then some (11:Int) else some 0)=some (YGz f):=by
 rw [YBN]
 unfold YGz YB7
 cases hr:(List.range f.length).findSome? (errE f) with
 | some r=>
  have hne:r≠0:=by
   obtain ⟨k,hk⟩:=List.exists_of_findSome?_eq_some hr
   exact YX0 hk.2
  dsimp only [Option.getD]
  rw [if_pos hne]
 | none=>
  dsimp only [Option.getD]
  rw [if_neg (by decide)]
  by_cases hl:f=[]
  ·subst hl; rfl
  ·have h0:0<f.length:=List.length_pos_iff.2 hl
   have hd:decide ((f.length:Int)=0)=false:=decide_eq_false (by omega)
   rw [hd,show ((true == true) && (false == false))=true from rfl,YAI,show ((f.length:Int)-1)=((f.length-1:Nat):Int) by omega,YDC (by omega) (by omega),YAA,YAI,YAG (by omega),YAA]
   by_cases hc:f[f.length-1]!.Char=10
   ·rw [if_neg (by rw [decide_eq_true hc]; decide),if_neg (fun h=>h.elim hl fun h=>h hc)]
   ·rw [if_pos (by rw [decide_eq_false hc]; decide),if_pos (.inr hc)]
theorem YJI (f:List YAB) (h : ∀ x∈f,okE x) (hm:f.length≤1073741824):YDu f true=some (YGz f):=by
 unfold YDu
 rw [YAa (n:=f.length) (errE f) (fun k hk=>by
  unfold YCc errE
  rw [if_pos (by simpa using hk),YAG hk,YAA,YAQ (by omega),YHr _ (h _ (YBI hk)),YAA]
  by_cases e:YBk f[k]! = 0
  ·rw [if_neg (ndF e),if_pos e]; rfl
  ·rw [if_pos (ndT e),if_neg e]; rfl) (by unfold YCc; rw [if_neg (by simp)])]
 exact YNJ f hm
theorem YKZ (f:List YAB) (h : ∀ x∈f,okE x) (hm:f.length≤1073741824):YB0 f true=some (YGz f):=by
 unfold YB0
 rw [YAa (n:=f.length) (errE f) (fun k hk=>by
  unfold YBe errE
  rw [if_pos (by simpa using hk),YAG hk,YAA,YAQ (by omega),YHB _ (h _ (YBI hk)),YAA]
  by_cases e:YBk f[k]! = 0
  ·rw [if_neg (ndF e),if_pos e]; rfl
  ·rw [if_pos (ndT e),if_neg e]; rfl) (by unfold YBe; rw [if_neg (by simp)])]
 exact YNJ f hm
instance:Inhabited Un:=⟨.r false []⟩
def off (n:List UInt8):YAD:=⟨n,[]⟩
theorem YUZ : ∀ c,c<256→YCV[c]! ∈ ([240,241,2,19,3,35,52,4,68]:List Int):=by decide +kernel
theorem YPc:YCV.length=256:=by decide +kernel
theorem YWD {x:Int} (h:x∈([2,19,3,35,52,4,68]:List Int)):(∃ a,idx YHV (shrC .u8 x 4)=some a) ∧ ∃ sz:Nat,IntKind.i64.wrap (bAnd .u8 x 7)=(sz:Int)∧2≤sz∧sz≤4:=by
 simp only [List.mem_cons,List.mem_nil_iff,or_false] at h
 rcases h with rfl | rfl | rfl | rfl | rfl | rfl | rfl
 ·exact ⟨⟨_,rfl⟩,2,by decide +kernel,by decide,by decide⟩
 ·exact ⟨⟨_,rfl⟩,3,by decide +kernel,by decide,by decide⟩
 ·exact ⟨⟨_,rfl⟩,3,by decide +kernel,by decide,by decide⟩
 ·exact ⟨⟨_,rfl⟩,3,by decide +kernel,by decide,by decide⟩
 ·exact ⟨⟨_,rfl⟩,4,by decide +kernel,by decide,by decide⟩
 ·exact ⟨⟨_,rfl⟩,4,by decide +kernel,by decide,by decide⟩
 ·exact ⟨⟨_,rfl⟩,4,by decide +kernel,by decide,by decide⟩
def YYG (s:List UInt8) (o:Option (Int × Int)):Prop:=∃ (r:Int) (n:Nat),o=some (r,(n:Int))∧1≤n∧n≤s.length
theorem YGH {s:List UInt8} (h:s≠[]) (r:Int):YYG s (some (r,1)):=⟨r,1,rfl,Nat.le_refl _,List.length_pos_iff.2 h⟩
theorem YSO (s:List UInt8) (h:s≠[]):YYG s (YAT s):=by
 have h0:0<s.length:=List.length_pos_iff.2 h
 unfold YAT
 rw [if_neg (by rw [decide_eq_true_eq]; omega),show (0:Int)=((0:Nat):Int) from rfl,YAG h0,YAA]
 generalize s[0]! = c
 have hc:c.toNat<256:=c.toNat_lt
 rw [YAG (l:=YCV) (by rw [YPc]; exact hc),YAA]
 have hm:=YUZ _ hc
 generalize YCV[c.toNat]! = x at hm
 by_cases hx:240≤x
 ·rw [if_pos (by rw [decide_eq_true_eq]; exact hx)]; exact YGH h _
 ·have hm2:x∈([2,19,3,35,52,4,68]:List Int):=by
   simp only [List.mem_cons,List.mem_nil_iff,or_false] at hm ⊢
   omega
  obtain ⟨⟨a,ha⟩,sz,hs,h2,h4⟩:=YWD hm2
  rw [if_neg (by rw [decide_eq_true_eq]; exact hx),ha,YAA,hs]
  by_cases hl:(s.length:Int)<sz
  ·rw [if_pos (by rw [decide_eq_true_eq]; exact hl)]; exact YGH h _
  rw [if_neg (by rw [decide_eq_true_eq]; exact hl),show (1:Int)=((1:Nat):Int) from rfl,YAG (by omega),YAA]
  split
  ·exact YGH h _
  by_cases e2:sz≤2
  ·rw [if_pos (by rw [decide_eq_true_eq]; omega)]; exact ⟨_,2,rfl,by decide,by omega⟩
  rw [if_neg (by rw [decide_eq_true_eq]; omega),show (2:Int)=((2:Nat):Int) from rfl,YAG (by omega),YAA]
  split
  ·exact YGH h _
  by_cases e3:sz≤3
  ·rw [if_pos (by rw [decide_eq_true_eq]; omega)]; exact ⟨_,3,rfl,by decide,by omega⟩
  rw [if_neg (by rw [decide_eq_true_eq]; omega),show (3:Int)=((3:Nat):Int) from rfl,YAG (by omega),YAA]
  split
  ·exact YGH h _
  ·exact ⟨_,4,rfl,by decide,by omega⟩
theorem YPj (s:List UInt8) (h:s≠[]):YYG s (YAL s):=by
 have h0:0<s.length:=List.length_pos_iff.2 h
 unfold YAL
 rw [decide_eq_false h,show ((!false) == true)=true from rfl,YAI,show (0:Int)=((0:Nat):Int) from rfl,YAG h0,YAA,Bool.not_false,Bool.true_and]
 split
 ·rw [YAA]; exact YGH h _
 ·obtain ⟨r,n,h1,h2,h3⟩:=YSO s h
  rw [h1]; exact ⟨r,n,rfl,h2,h3⟩
theorem YLY (s:List UInt8) (k:Nat) (hk:k≤s.length):slc s (k:Int) (s.length:Int)=some (s.drop k):=by
 unfold slc
 rw [if_pos (by omega)]
 congr 1
 rw [List.take_of_length_le (by simp),Int.toNat_natCast]
theorem app32c (l:List YAD) (h:l.length≤1073741824):app 32 ([]:List YAD) l=some l:=by
 unfold app
 rw [if_pos (by simp only [List.length_nil]; omega)]; rfl
def errT (t:Bool) (f:List YAB) (k:Nat):Option Int:=if YBk f[k]! = 0 then (if t=false∧f[k]!.Ref=0 then some 8 else none) else some (YBk f[k]!)
theorem YPh {x:YAB} (h:YBk x=0):(x.Ref=0↔x.Char≠0):=by
 unfold YBk at h
 by_cases c:x.Char=0 <;> by_cases r:x.Ref=0 <;> simp [c,r] at h ⊢
theorem YPX (f:List YAB) (h : ∀ x∈f,okE x) (hm:f.length≤1073741824):YDu f false=some (((List.range f.length).findSome? (errT false f)).getD 0):=by
 unfold YDu
 rw [YAa (n:=f.length) (errT false f) (fun k hk=>by
  unfold YCc errT
  rw [if_pos (by simpa using hk),YAG hk,YAA,YAQ (by omega),YHr _ (h _ (YBI hk)),YAA]
  generalize f[k]! = x
  by_cases e:YBk x=0
  ·rw [if_neg (ndF e),if_pos e]
   by_cases r:x.Ref=0
   ·rw [if_pos (show (!false && decide (x.Ref=0))=true by rw [decide_eq_true r]; rfl),if_pos ⟨rfl,r⟩]; rfl
   ·rw [if_neg (show ¬ (!false && decide (x.Ref=0))=true by rw [decide_eq_false r]; decide),if_neg (fun h=>r h.2)]; rfl
  ·rw [if_pos (ndT e),if_neg e]; rfl) (by unfold YCc; rw [if_neg (by simp)])]
 cases (List.range f.length).findSome? (errT false f) <;> rfl
theorem YLk (f:List YAB) (h : ∀ x∈f,okE x) (hm:f.length≤1073741824):YB0 f false=some (((List.range f.length).findSome? (errT false f)).getD 0):=by
 unfold YB0
 rw [YAa (n:=f.length) (errT false f) (fun k hk=>by
  unfold YBe errT
  rw [if_pos (by simpa using hk),YAG hk,YAA,YAQ (by omega),YHB _ (h _ (YBI hk)),YAA]
  generalize f[k]! = x
  by_cases e:YBk x=0
  ·rw [if_neg (ndF e),if_pos e]
   have hr:=YPh e
   by_cases r:x.Ref=0
   ·rw [if_pos (show (!false && !decide (x.Char=0))=true by rw [decide_eq_false (hr.1 r)]; rfl),if_pos ⟨rfl,r⟩]; rfl
   ·have hc:x.Char=0:=Classical.byContradiction fun hc=>r (hr.2 hc)
    rw [if_neg (show ¬ (!false && !decide (x.Char=0))=true by rw [decide_eq_true hc]; decide),if_neg (fun h=>r h.2)]; rfl
  ·rw [if_pos (ndT e),if_neg e]; rfl) (by unfold YBe; rw [if_neg (by simp)])]
 cases (List.range f.length).findSome? (errT false f) <;> rfl
theorem YQv (f:List YAB) (t:Bool) (h : ∀ x∈f,okE x) (hm:f.length≤1073741824) : ∃ r,YDu f t=some r∧YB0 f t=some r:=by
 cases t
 ·exact ⟨_,YPX f h hm,YLk f h hm⟩
 ·exact ⟨_,YJI f h hm,YKZ f h hm⟩
theorem YPU (a b:List YAB) (hm:a.length≤9223372036854775806) (h : ∀ e∈a,e.Attrs.length≤1073741824):YLv a b=some (decide (a=b)):=by
 unfold YLv
 by_cases hl:a.length=b.length
 ·rw [if_neg (by simp [hl]),YAa (n:=a.length) (fun k=>if decide (a[k]! = b[k]!) then none else some false) (fun k hk=>by
   unfold YHs
   have ha:=h _ (YBI hk)
   rw [if_pos (by simpa using hk),YAG hk,YAG (by omega),YAA,YAA,YE0 _ _ (by omega),YAQ (by omega)]
   generalize a[k]! = x
   generalize b[k]! = y
   obtain ⟨x1,x2,x3⟩:=x
   obtain ⟨y1,y2,y3⟩:=y
   by_cases h1:x1=y1 <;> by_cases h2:x2=y2 <;> by_cases h3:x3=y3 <;> simp [h1,h2,h3,YBW,default]) (by unfold YHs; rw [if_neg (by simp)]),YDQ,YBN]
  by_cases h:a=b
  ·subst h; rw [YKq,decide_eq_true rfl]; rfl
  ·rw [decide_eq_false h]
   have:((List.range a.length).all fun k=>decide (a[k]! = b[k]!))=false:=by
    rw [← Bool.not_eq_true]; exact fun hh=>h (YJW hl hh)
   rw [this]; rfl
 ·rw [if_pos (by simp; omega),decide_eq_false (by rintro rfl; exact hl rfl)]
theorem YTo (f:List YAB) (hm:f.length≤1073741824) : ∃ r,iter (fun (a:Int × (List Int))=>YCP f a.1 a.2) (0,[])=some r∧r.length≤f.length:=by
 refine YCx f.length (fun k st=>st.1=(k:Int)∧st.2.length≤k) _ ?_ ?_ ⟨rfl,by simp⟩
 ·rintro k ⟨x,out⟩ hk ⟨rfl,ho⟩
  dsimp only at ho ⊢
  left
  unfold YCP
  rw [if_pos (by simpa using hk),YAG hk,YAA]
  by_cases r:f[k]!.Ref=0
  ·rw [if_neg (ndF r),YAA,YAQ (by omega),YAA]
   exact ⟨_,rfl,rfl,by dsimp only; omega⟩
  ·rw [if_pos (ndT r),app8 (by omega),YAA,YAA,YAQ (by omega),YAA]
   exact ⟨_,rfl,rfl,by dsimp only; rw [List.length_append,List.length_singleton]; omega⟩
 ·rintro ⟨x,out⟩ ⟨rfl,ho⟩
  dsimp only at ho ⊢
  unfold YCP
  rw [if_neg (by simp)]
  exact ⟨_,rfl,ho⟩
theorem YGI {α:Type} [Inhabited α] [DecidableEq α] {f:Int→Option (Int ⊕ Ctl Unit Bool)} (a b:List α) (hl:a.length=b.length)
  (h1 : ∀ k:Nat,k<a.length→f k=YBW k (if decide (a[k]! = b[k]!) then none else some false)) (h2:f a.length=some (.inr (.nrm ()))) :
  (ctl1 (iter f 0) fun (_:Unit)=>some true)=some (decide (a=b)):=by
 rw [YAa (n:=a.length) (fun k=>if decide (a[k]! = b[k]!) then none else some false) h1 h2,YDQ,YBN]
 by_cases h:a=b
 ·subst h; rw [YKq,decide_eq_true rfl]; rfl
 ·rw [decide_eq_false h]
  have:((List.range a.length).all fun k=>decide (a[k]! = b[k]!))=false:=by
   rw [← Bool.not_eq_true]; exact fun hh=>h (YJW hl hh)
  rw [this]; rfl
theorem YRR (x y:YAW):(decide (x.Row=y.Row) && (decide (x.Col=y.Col) && (decide (x.H=y.H) && (decide (x.W=y.W) && true))))=decide (x=y):=by
 obtain ⟨x1,x2,x3,x4⟩:=x
 obtain ⟨y1,y2,y3,y4⟩:=y
 rw [Bool.eq_iff_iff]; simp
theorem YRw (x y:YAP):(decide (x.Clock=y.Clock) && (decide (x.Site=y.Site) && (decide (x.Kind=y.Kind) && (decide (x.Item=y.Item) && (decide (x.Parent=y.Parent) && (decide (x.Place=y.Place) && (decide (x.Name=y.Name) && (decide (x.Value=y.Value) && true))))))))=decide (x=y):=by
 obtain ⟨x1,x2,x3,x4,x5,x6,x7,x8⟩:=x
 obtain ⟨y1,y2,y3,y4,y5,y6,y7,y8⟩:=y
 rw [Bool.eq_iff_iff]; simp
theorem YVb (a b:List YAW) (hm:a.length≤9223372036854775806):YAn a b=some (decide (a=b)):=by
 unfold YAn
 by_cases hl:a.length=b.length
 ·rw [if_neg (by simp [hl])]
  exact YGI a b hl (fun k hk=>by
   unfold YAh
   rw [if_pos (by simpa using hk),YAG hk,YAG (by omega),YAA,YAA,YRR,YAQ (by omega)]
   generalize a[k]! = x
   generalize b[k]! = y
   by_cases h:x=y <;> simp [h,YBW]) (by unfold YAh; rw [if_neg (by simp)])
 ·rw [if_pos (by simp; omega),decide_eq_false (by rintro rfl; exact hl rfl)]
theorem YEr (a b:List YAW) (hm:a.length≤9223372036854775806):YCZ a b=some (decide (a=b)):=by
 unfold YCZ
 by_cases hl:a.length=b.length
 ·rw [if_neg (by simp [hl])]
  exact YGI a b hl (fun k hk=>by
   unfold YCj
   rw [if_pos (by simpa using hk),YAG hk,YAG (by omega),YAA,YAA,YRR,YAQ (by omega)]
   generalize a[k]! = x
   generalize b[k]! = y
   by_cases h:x=y <;> simp [h,YBW]) (by unfold YCj; rw [if_neg (by simp)])
 ·rw [if_pos (by simp; omega),decide_eq_false (by rintro rfl; exact hl rfl)]
theorem YWM (a b:List YAP) (hm:a.length≤9223372036854775806):YBD a b=some (decide (a=b)):=by
 unfold YBD
 by_cases hl:a.length=b.length
 ·rw [if_neg (by simp [hl])]
  exact YGI a b hl (fun k hk=>by
   unfold YA0
   rw [if_pos (by simpa using hk),YAG hk,YAG (by omega),YAA,YAA,YRw,YAQ (by omega)]
   generalize a[k]! = x
   generalize b[k]! = y
   by_cases h:x=y <;> simp [h,YBW]) (by unfold YA0; rw [if_neg (by simp)])
 ·rw [if_pos (by simp; omega),decide_eq_false (by rintro rfl; exact hl rfl)]
theorem YSV (a b:List YAP) (hm:a.length≤9223372036854775806):YB6 a b=some (decide (a=b)):=by
 unfold YB6
 by_cases hl:a.length=b.length
 ·rw [if_neg (by simp [hl])]
  exact YGI a b hl (fun k hk=>by
   unfold YB5
   rw [if_pos (by simpa using hk),YAG hk,YAG (by omega),YAA,YAA,YRw,YAQ (by omega)]
   generalize a[k]! = x
   generalize b[k]! = y
   by_cases h:x=y <;> simp [h,YBW]) (by unfold YB5; rw [if_neg (by simp)])
 ·rw [if_pos (by simp; omega),decide_eq_false (by rintro rfl; exact hl rfl)]
theorem YX8 (x y:YAd) (hm:x.Attrs.length≤1073741824):YEM x y=some (decide (x=y)):=by
 unfold YEM
 rw [YE0 _ _ (by omega)]
 obtain ⟨x1,x2,x3,x4,x5⟩:=x
 obtain ⟨y1,y2,y3,y4,y5⟩:=y
 by_cases h1:x1=y1 <;> by_cases h2:x2=y2 <;> by_cases h3:x3=y3 <;> by_cases h4:x4=y4 <;> by_cases h5:x5=y5 <;> simp [h1,h2,h3,h4,h5,gd,YAA]
theorem YQU (x y:YAd) (hm:x.Attrs.length≤1073741824):YEv x y=some (decide (x=y)):=by
 unfold YEv
 rw [YBc _ _ (by omega)]
 obtain ⟨x1,x2,x3,x4,x5⟩:=x
 obtain ⟨y1,y2,y3,y4,y5⟩:=y
 by_cases h1:x1=y1 <;> by_cases h2:x2=y2 <;> by_cases h3:x3=y3 <;> by_cases h4:x4=y4 <;> by_cases h5:x5=y5 <;> simp [h1,h2,h3,h4,h5,gd,YAA]
theorem YWS (a b:List YAd) (hm:a.length≤9223372036854775806) (h : ∀ x∈a,x.Attrs.length≤1073741824):YAK a b=some (decide (a=b)):=by
 unfold YAK
 by_cases hl:a.length=b.length
 ·rw [if_neg (by simp [hl])]
  exact YGI a b hl (fun k hk=>by
   unfold YAJ
   rw [if_pos (by simpa using hk),YAG hk,YAG (by omega),YAA,YAA,YX8 _ _ (h _ (YBI hk)),YAA,YAQ (by omega)]
   generalize a[k]! = x
   generalize b[k]! = y
   by_cases h:x=y <;> simp [h,YBW]) (by unfold YAJ; rw [if_neg (by simp)])
 ·rw [if_pos (by simp; omega),decide_eq_false (by rintro rfl; exact hl rfl)]
theorem YHf (a b:List YAd) (hm:a.length≤9223372036854775806) (h : ∀ x∈a,x.Attrs.length≤1073741824):YDM a b=some (decide (a=b)):=by
 unfold YDM
 by_cases hl:a.length=b.length
 ·rw [if_neg (by simp [hl])]
  exact YGI a b hl (fun k hk=>by
   unfold YCl
   rw [if_pos (by simpa using hk),YAG hk,YAG (by omega),YAA,YAA,YQU _ _ (h _ (YBI hk)),YAA,YAQ (by omega)]
   generalize a[k]! = x
   generalize b[k]! = y
   by_cases h:x=y <;> simp [h,YBW]) (by unfold YCl; rw [if_neg (by simp)])
 ·rw [if_pos (by simp; omega),decide_eq_false (by rintro rfl; exact hl rfl)]
def okG (g:YAy):Prop:=g.Cells.length≤1048576∧g.Merges.length≤1048576 ∧ ∀ x∈g.Cells,okA x.Attrs
structure okN (n:YAR):Prop where
 at_:okA n.Attrs
 fl:n.Flow.length≤1048576
 fa : ∀ e∈n.Flow,okA e.Attrs
 gr:okG n.Grid
 dr:n.Draw.length≤1048576
def okDoc (d:GDoc):Prop:=d.Nodes.length≤1048576 ∧ ∀ n∈d.Nodes,okN n
theorem YUQ (x y:YAy) (h:okG x):YGb x y=some (decide (x=y)):=by
 obtain ⟨h1,h2,h3⟩:=h
 unfold YGb
 rw [YVb _ _ (by omega),YWS _ _ (by omega) (fun e he=>(h3 e he).1)]
 obtain ⟨x1,x2,x3,x4⟩:=x
 obtain ⟨y1,y2,y3,y4⟩:=y
 by_cases h1:x1=y1 <;> by_cases h2:x2=y2 <;> by_cases h3:x3=y3 <;> by_cases h4:x4=y4 <;> simp [h1,h2,h3,h4,gd,YAA]
theorem YQT (x y:YAy) (h:okG x):YEt x y=some (decide (x=y)):=by
 obtain ⟨h1,h2,h3⟩:=h
 unfold YEt
 rw [YEr _ _ (by omega),YHf _ _ (by omega) (fun e he=>(h3 e he).1)]
 obtain ⟨x1,x2,x3,x4⟩:=x
 obtain ⟨y1,y2,y3,y4⟩:=y
 by_cases h1:x1=y1 <;> by_cases h2:x2=y2 <;> by_cases h3:x3=y3 <;> by_cases h4:x4=y4 <;> simp [h1,h2,h3,h4,gd,YAA]
theorem node_eq (x y:YAR) (h:okN x):YKN x y=some (decide (x=y)):=by
 have ha:=h.at_.1
 have hf:=h.fl
 have hd:=h.dr
 unfold YKN
 rw [YE0 _ _ (by omega),YPU _ _ (by omega) (fun e he=>(h.fa e he).1),YUQ _ _ h.gr,YWM _ _ (by omega)]
 obtain ⟨x1,x2,x3,x4,x5,x6⟩:=x
 obtain ⟨y1,y2,y3,y4,y5,y6⟩:=y
 by_cases h1:x1=y1 <;> by_cases h2:x2=y2 <;> by_cases h3:x3=y3 <;> by_cases h4:x4=y4 <;> by_cases h5:x5=y5 <;> by_cases h6:x6=y6 <;> simp [h1,h2,h3,h4,h5,h6,gd,YAA]
theorem YLf (x y:YAR) (h:okN x):YC5 x y=some (decide (x=y)):=by
 have ha:=h.at_.1
 have hf:=h.fl
 have hd:=h.dr
 unfold YC5
 rw [YBc _ _ (by omega),YHi _ _ (by omega) (fun e he=>(h.fa e he).1),YQT _ _ h.gr,YSV _ _ (by omega)]
 obtain ⟨x1,x2,x3,x4,x5,x6⟩:=x
 obtain ⟨y1,y2,y3,y4,y5,y6⟩:=y
 by_cases h1:x1=y1 <;> by_cases h2:x2=y2 <;> by_cases h3:x3=y3 <;> by_cases h4:x4=y4 <;> by_cases h5:x5=y5 <;> by_cases h6:x6=y6 <;> simp [h1,h2,h3,h4,h5,h6,gd,YAA]
theorem YF8 {β:Type} (p:Nat→Bool) (F:Nat→β) (l:List Nat):(l.findSome? fun k=>if p k then some (F k) else none)=(l.find? p).map F:=by
 induction l with
 | nil=>rfl
 | cons a l ih=>rw [List.findSome?_cons,List.find?_cons]; by_cases h:p a=true <;> simp [h,ih]
def YIm (l:List YAR) (id:Int):Option Nat:=(List.range l.length).find? fun k=>decide (l[k]!.ID=id)
theorem YH7 {l:List YAR} {id:Int} {k:Nat} (h:YIm l id=some k):k<l.length∧l[k]!.ID=id:=by
 have h1:=List.mem_of_find?_eq_some h
 have h2:=List.find?_some h
 exact ⟨List.mem_range.1 h1,of_decide_eq_true h2⟩
theorem YGu (d:GDoc) (id:Int) (hm:d.Nodes.length≤1048576):YDh d id=some (match YIm d.Nodes id with | some k=>(k:Int) | none=>-1):=by
 unfold YDh
 rw [YAa (n:=d.Nodes.length) (fun k=>if decide (d.Nodes[k]!.ID=id) then some (k:Int) else none) (fun k hk=>by
  unfold YFk
  rw [if_pos (by simpa using hk),YAG hk,YAA,YAQ (by omega)]
  by_cases h:d.Nodes[k]!.ID=id
  ·rw [if_pos (decide_eq_true h),if_pos (decide_eq_true h)]; rfl
  ·rw [if_neg (by simpa using h),if_neg (by simpa using h)]; rfl) (by unfold YFk; rw [if_neg (by simp)]),YF8,YBN]
 unfold YIm
 cases (List.range d.Nodes.length).find? fun k=>decide (d.Nodes[k]!.ID=id) <;> rfl
def n1D:YAR:=YAR.mk 1 0 [] [(YAB.mk 0 2 [])] (YAy.mk 0 0 [] []) []
theorem YMY:YG2 n1D=some [2]:=by
 unfold YG2 YFn
 have h1:(fun (a:Int × (List Int))=>YBF n1D.Flow a.1 a.2) (0,[])=some (.inl (1,[2])):=by
  show YBF [YAB.mk 0 2 []] 0 []=_
  unfold YBF; rfl
 have h2:(fun (a:Int × (List Int))=>YBF n1D.Flow a.1 a.2) (1,[2])=some (.inr [2]):=by
  show YBF [YAB.mk 0 2 []] 1 [2]=_
  unfold YBF; rfl
 have h3:(fun (a:Int × (List Int))=>YB9 n1D a.1 a.2) (0,[2])=some (.inr [2]):=by
  show YB9 n1D 0 [2]=_
  unfold YB9; rfl
 rw [YBM h1,YAX h2,YAA,YAA,YAX h3]; rfl
theorem YSZ {μ:YAR→Nat} {γ:YAy→Nat} {ψ:YAd→Nat} {ρ:YAW→Nat} {δ:YAP→Nat} {ν:YAB→Nat} {κ:YAD→Nat}
  (hn : ∀ n,(n.Attrs.map κ).sum+(n.Flow.map ν).sum+γ n.Grid+(n.Draw.map δ).sum+1≤μ n) (hg : ∀ g,(g.Cells.map ψ).sum+(g.Merges.map ρ).sum+1≤γ g)
  (hc : ∀ c,(c.Attrs.map κ).sum+1≤ψ c) (hr : ∀ r,1≤ρ r) (hd : ∀ o,1≤δ o) (he : ∀ e,(e.Attrs.map κ).sum+1≤ν e) (ha : ∀ a,a.Name.length+a.Value.length+1≤κ a)
  {d:GDoc} (hb:(d.Nodes.map μ).sum≤1048576):okDoc d:=by
 have h1:=YFR (μ:=μ) (fun n=>by have:=hn n; omega) d.Nodes
 refine ⟨by omega,fun n hm=>?_⟩
 have h2:=YDt (μ:=μ) hm
 have h3:=hn n
 have h4:=hg n.Grid
 have h5:=YVn (ν:=ν) (κ:=κ) he ha (f:=n.Flow) (by omega)
 have h6:=YFR (μ:=ψ) (fun c=>by have:=hc c; omega) n.Grid.Cells
 have h7:=YFR (μ:=ρ) hr n.Grid.Merges
 have h8:=YFR (μ:=δ) hd n.Draw
 refine ⟨YN3 ha (by omega),h5.1,h5.2,⟨by omega,by omega,fun c hcm=>YN3 ha ?_⟩,by omega⟩
 have h9:=YDt (μ:=ψ) hcm
 have:=hc c
 omega
theorem YG5 {n:Nat} (h:n<2147483648):IntKind.i32.wrap (n:Int)=(n:Int):=by
 have e:(n:Int) % (2 ^ (32:Nat):Int)=(n:Int):=Int.emod_eq_of_lt (by omega) (by omega)
 show (if (true && decide ((n:Int) % (2 ^ (32:Nat):Int) ≥ (2 ^ (31:Nat):Int)))=true then (n:Int) % (2 ^ (32:Nat):Int)-(2 ^ (32:Nat):Int) else (n:Int) % (2 ^ (32:Nat):Int))=_
 rw [e,if_neg]
 simp only [Bool.true_and,decide_eq_true_eq]
 omega
theorem YWb {n:Nat} (h:n<9223372036854775808):IntKind.i64.wrap (n:Int)=(n:Int):=by
 have e:(n:Int) % (2 ^ (64:Nat):Int)=(n:Int):=Int.emod_eq_of_lt (by omega) (by omega)
 show (if (true && decide ((n:Int) % (2 ^ (64:Nat):Int) ≥ (2 ^ (63:Nat):Int)))=true then (n:Int) % (2 ^ (64:Nat):Int)-(2 ^ (64:Nat):Int) else (n:Int) % (2 ^ (64:Nat):Int))=_
 rw [e,if_neg]
 simp only [Bool.true_and,decide_eq_true_eq]
 omega
theorem YJy (i a b:Nat) (hb:b<2 ^ i) (hs:a * 2 ^ i+b<2147483648):bOr .i32 ((a * 2 ^ i:Nat):Int) (b:Int)=((a * 2 ^ i+b:Nat):Int):=by
 unfold bOr
 have h1:(BitVec.ofInt 32 ((a * 2 ^ i:Nat):Int) ||| BitVec.ofInt 32 (b:Int)).toNat=a * 2 ^ i+b:=by
  rw [BitVec.toNat_or,BitVec.ofInt_natCast,BitVec.ofInt_natCast,BitVec.toNat_ofNat,BitVec.toNat_ofNat,Nat.mod_eq_of_lt (by omega),Nat.mod_eq_of_lt (by omega)]
  rw [← Nat.shiftLeft_eq,Nat.shiftLeft_add_eq_or_of_lt hb]
 show IntKind.i32.wrap ((BitVec.ofInt 32 ((a * 2 ^ i:Nat):Int) ||| BitVec.ofInt 32 (b:Int)).toNat:Int)=_
 rw [h1]; exact YG5 hs
theorem and31 : ∀ b:Fin 256,bAnd .u8 ((b.val:Nat):Int) 31=((b.val % 32:Nat):Int):=by decide +kernel
theorem and15 : ∀ b:Fin 256,bAnd .u8 ((b.val:Nat):Int) 15=((b.val % 16:Nat):Int):=by decide +kernel
theorem and7 : ∀ b:Fin 256,bAnd .u8 ((b.val:Nat):Int) 7=((b.val % 8:Nat):Int):=by decide +kernel
theorem YSw : ∀ b:Fin 256,bAnd .u8 ((b.val:Nat):Int) 63=((b.val % 64:Nat):Int):=by decide +kernel
theorem YJi (i a:Nat) (hi:i≤32) (hs:a * 2 ^ i<2147483648):shlC .i32 (a:Int) i=((a * 2 ^ i:Nat):Int):=by
 unfold shlC
 show IntKind.i32.wrap ((a:Int) * 2 ^ (min i 32))=_
 rw [Nat.min_eq_left hi,show (a:Int) * 2 ^ i=((a * 2 ^ i:Nat):Int) by push_cast; rfl,YG5 hs]
theorem YUa : ∀ c:Fin 256,YCV[c.val]! = (Lib.firstT c.val:Int):=by decide +kernel
theorem YWV : ∀ c:Fin 256,bOr .i32 (YL3 .i32 (IntKind.i32.wrap (c.val:Int)) (shrC .i32 (shlC .i32 (IntKind.i32.wrap 241) 31) 31)) (bAnd .i32 65533 (shrC .i32 (shlC .i32 (IntKind.i32.wrap 241) 31) 31))=65533:=by decide +kernel
theorem YXN : ∀ c:Fin 256,IntKind.i64.wrap (bAnd .u8 (Lib.firstT c.val:Int) 7)=((Lib.firstT c.val % 8:Nat):Int):=by decide +kernel
theorem YWZ : ∀ c:Fin 256,idx YHV (shrC .u8 (Lib.firstT c.val:Int) 4)=some (YA8.mk (Lib.accLo (Lib.firstT c.val / 16)) (Lib.accHi (Lib.firstT c.val / 16))):=by decide +kernel
theorem YQm : ∀ c:Fin 256,128≤c.val→Lib.firstT c.val=241∨(2≤Lib.firstT c.val % 8∧Lib.firstT c.val % 8≤4∧Lib.firstT c.val<240):=by decide +kernel
theorem YYE (c d:Fin 256):bOr .i32 (shlC .i32 (IntKind.i32.wrap (bAnd .u8 ((c.val:Nat):Int) 31)) 6) (IntKind.i32.wrap (bAnd .u8 ((d.val:Nat):Int) 63))=((c.val % 32 * 64+d.val % 64:Nat):Int):=by
 rw [and31,YSw,YG5 (by omega),YG5 (by omega),YJi 6 _ (by omega) (by omega),YJy 6 _ _ (by omega) (by omega)]
theorem YYD (c d e:Fin 256):bOr .i32 (bOr .i32 (shlC .i32 (IntKind.i32.wrap (bAnd .u8 ((c.val:Nat):Int) 15)) 12) (shlC .i32 (IntKind.i32.wrap (bAnd .u8 ((d.val:Nat):Int) 63)) 6)) (IntKind.i32.wrap (bAnd .u8 ((e.val:Nat):Int) 63)) =
  ((c.val % 16 * 4096+d.val % 64 * 64+e.val % 64:Nat):Int):=by
 rw [and15,YSw,YSw,YG5 (by omega),YG5 (by omega),YG5 (by omega),YJi 12 _ (by omega) (by omega),YJi 6 _ (by omega) (by omega),YJy 12 _ _ (by omega) (by omega),
  show c.val % 16 * 2 ^ 12+d.val % 64 * 2 ^ 6=(c.val % 16 * 64+d.val % 64) * 2 ^ 6 by omega,YJy 6 _ _ (by omega) (by omega)]
theorem YYC (c d e f:Fin 256):bOr .i32 (bOr .i32 (bOr .i32 (shlC .i32 (IntKind.i32.wrap (bAnd .u8 ((c.val:Nat):Int) 7)) 18) (shlC .i32 (IntKind.i32.wrap (bAnd .u8 ((d.val:Nat):Int) 63)) 12)) (shlC .i32 (IntKind.i32.wrap (bAnd .u8 ((e.val:Nat):Int) 63)) 6)) (IntKind.i32.wrap (bAnd .u8 ((f.val:Nat):Int) 63)) =
  ((c.val % 8 * 262144+d.val % 64 * 4096+e.val % 64 * 64+f.val % 64:Nat):Int):=by
 rw [and7,YSw,YSw,YSw,YG5 (by omega),YG5 (by omega),YG5 (by omega),YG5 (by omega),YJi 18 _ (by omega) (by omega),YJi 12 _ (by omega) (by omega),YJi 6 _ (by omega) (by omega),YJy 18 _ _ (by omega) (by omega),
  show c.val % 8 * 2 ^ 18+d.val % 64 * 2 ^ 12=(c.val % 8 * 64+d.val % 64) * 2 ^ 12 by omega,YJy 12 _ _ (by omega) (by omega),
  show (c.val % 8 * 64+d.val % 64) * 2 ^ 12+e.val % 64 * 2 ^ 6=((c.val % 8 * 64+d.val % 64) * 64+e.val % 64) * 2 ^ 6 by omega,YJy 6 _ _ (by omega) (by omega)]
theorem YHq (s:List UInt8) (k:Nat) (h:k<s.length):s.getD k 0=s[k]!:=by
 rw [getElem!_pos s k h,List.getD_eq_getElem?_getD,List.getElem?_eq_getElem h]; rfl
theorem YVO (s:List UInt8) (h:s≠[]) (h128:128≤(s.getD 0 0).toNat):YAT s=some (((Lib.decodeL s).1:Int),((Lib.decodeL s).2:Int)):=by
 have h0:0<s.length:=List.length_pos_iff.2 h
 rw [Lib.decodeL_N]
 unfold YAT
 rw [if_neg (by rw [decide_eq_true_eq]; omega),show (0:Int)=((0:Nat):Int) from rfl,YAG h0,YAA]
 rw [YHq s 0 h0] at h128 ⊢
 generalize s[0]! = c at h128 ⊢
 obtain ⟨C,hC⟩ : ∃ C:Fin 256,C.val=c.toNat:=⟨⟨c.toNat,c.toNat_lt⟩,rfl⟩
 rw [← hC] at h128 ⊢
 rw [YAG (l:=YCV) (by rw [YPc]; exact C.isLt),YAA,YUa,YWZ,YXN]
 rcases YQm C h128 with hf | ⟨hf1,hf2,hf3⟩
 ·rw [if_pos (by rw [decide_eq_true_eq]; omega),Lib.bad_eq _ _ _ _ _ C.isLt hf,hf]
  show some (_,(1:Int))=_
  rw [show ((241:Nat):Int)=241 from rfl,YWV C]; rfl
 ·rw [if_neg (by rw [decide_eq_true_eq]; omega),YAA]
  have hsl:=Lib.slow_eq s.length C.val (s.getD 1 0).toNat (s.getD 2 0).toNat (s.getD 3 0).toNat h0 (UInt8.toNat_lt _) (UInt8.toNat_lt _) (UInt8.toNat_lt _) hf3
  rw [← hsl]
  generalize hsz:Lib.firstT C.val % 8=sz at hf1 hf2 ⊢
  generalize Lib.accLo (Lib.firstT C.val / 16)=lo
  generalize Lib.accHi (Lib.firstT C.val / 16)=hi
  unfold Lib.slowN
  by_cases hl:s.length<sz
  ·rw [if_pos (by rw [decide_eq_true_eq]; omega),if_pos hl]; rfl
  rw [if_neg (by rw [decide_eq_true_eq]; omega),if_neg hl,show (1:Int)=((1:Nat):Int) from rfl,YAG (by omega),YAA,YHq s 1 (by omega)]
  generalize s[1]! = d
  obtain ⟨D,hD⟩ : ∃ D:Fin 256,D.val=d.toNat:=⟨⟨d.toNat,d.toNat_lt⟩,rfl⟩
  rw [← hD]
  by_cases c1:D.val<lo∨hi<D.val
  ·rw [if_pos (by simp only [Bool.or_eq_true,decide_eq_true_eq]; omega),if_pos c1]; rfl
  rw [if_neg (by simp only [Bool.or_eq_true,decide_eq_true_eq]; omega),if_neg c1]
  by_cases e2:sz≤2
  ·rw [if_pos (by rw [decide_eq_true_eq]; omega),if_pos e2,YYE]; rfl
  rw [if_neg (by rw [decide_eq_true_eq]; omega),if_neg e2,show (2:Int)=((2:Nat):Int) from rfl,YAG (by omega),YAA,YHq s 2 (by omega)]
  generalize s[2]! = e
  obtain ⟨E,hE⟩ : ∃ E:Fin 256,E.val=e.toNat:=⟨⟨e.toNat,e.toNat_lt⟩,rfl⟩
  rw [← hE]
  by_cases c2:E.val<128∨191<E.val
  ·rw [if_pos (by simp only [Bool.or_eq_true,decide_eq_true_eq]; omega),if_pos c2]; rfl
  rw [if_neg (by simp only [Bool.or_eq_true,decide_eq_true_eq]; omega),if_neg c2]
  by_cases e3:sz≤3
  ·rw [if_pos (by rw [decide_eq_true_eq]; omega),if_pos e3,YYD]; rfl
  rw [if_neg (by rw [decide_eq_true_eq]; omega),if_neg e3,show (3:Int)=((3:Nat):Int) from rfl,YAG (by omega),YAA,YHq s 3 (by omega)]
  generalize s[3]! = f
  obtain ⟨F,hF⟩ : ∃ F:Fin 256,F.val=f.toNat:=⟨⟨f.toNat,f.toNat_lt⟩,rfl⟩
  rw [← hF]
  by_cases c3:F.val<128∨191<F.val
  ·rw [if_pos (by simp only [Bool.or_eq_true,decide_eq_true_eq]; omega),if_pos c3]; rfl
  rw [if_neg (by simp only [Bool.or_eq_true,decide_eq_true_eq]; omega),if_neg c3,YYC]; rfl
theorem YSq (s:List UInt8) (h:s≠[]):YAL s=some (((Lib.decodeL s).1:Int),((Lib.decodeL s).2:Int)):=by
 have h0:0<s.length:=List.length_pos_iff.2 h
 unfold YAL
 rw [decide_eq_false h,show ((!false) == true)=true from rfl,YAI,show (0:Int)=((0:Nat):Int) from rfl,YAG h0,YAA,Bool.not_false,Bool.true_and]
 by_cases hc:(s[0]!).toNat<128
 ·rw [if_pos (by rw [decide_eq_true_eq]; omega),YAA,YG5 (by omega)]
  obtain ⟨c,t,rfl⟩:=List.exists_cons_of_ne_nil h
  have hc':c.toNat<128:=hc
  rw [Lib.decodeL_ascii c t hc']; rfl
 ·rw [if_neg (by rw [decide_eq_true_eq]; omega),YVO s h (by rw [YHq s 0 h0]; omega),YAt]
def badR (r:Nat):Bool:=decide (r=10) || !YGg (r:Int)
def YMQ:Nat→List UInt8→Bool
 | 0,_=>true
 | n+1,s=>if s=[] then true else if ((Lib.decodeL s).1=65533∧(Lib.decodeL s).2=1)∨badR (Lib.decodeL s).1=true then false else YMQ n (s.drop (Lib.decodeL s).2)
theorem YTN (n:Nat) (s:List UInt8):YMQ (n+1) s=if s=[] then true else if ((Lib.decodeL s).1=65533∧(Lib.decodeL s).2=1)∨badR (Lib.decodeL s).1=true then false else YMQ n (s.drop (Lib.decodeL s).2):=rfl
def YTe:Nat→List UInt8→Bool
 | 0,_=>true
 | n+1,s=>if s=[] then true else if badR (Lib.decodeL s).1=true then false else YTe n (s.drop (Lib.decodeL s).2)
theorem YTd (n:Nat) (s:List UInt8):YTe (n+1) s=if s=[] then true else if badR (Lib.decodeL s).1=true then false else YTe n (s.drop (Lib.decodeL s).2):=rfl
theorem YTM : ∀ (n:Nat) (s:List UInt8),s.length≤n→(Lib.validD s && YTe n s)=YMQ n s:=by
 intro n
 induction n with
 | zero=>intro s hs; obtain rfl:=List.eq_nil_of_length_eq_zero (Nat.le_zero.1 hs); rfl
 | succ n ih=>
  intro s hs
  rw [YTN,YTd]
  by_cases hn:s=[]
  ·subst hn; rfl
  ·have hw:=Lib.decodeL_width s
   have hl:=List.length_pos_iff.2 hn
   rw [if_neg hn,if_neg hn,Lib.validD_step s hn]
   by_cases hv:(Lib.decodeL s).1=65533∧(Lib.decodeL s).2=1
   ·rw [if_pos hv,if_pos (show ((Lib.decodeL s).1=65533∧(Lib.decodeL s).2=1)∨badR (Lib.decodeL s).1=true from .inl hv)]; rfl
   ·rw [if_neg hv]
    by_cases hb:badR (Lib.decodeL s).1=true
    ·rw [if_pos hb,if_pos (.inr hb),Bool.and_false]
    ·rw [if_neg hb,if_neg (by rintro (h | h); exact hv h; exact hb h)]
     exact ih _ (by rw [List.length_drop]; omega)
theorem YL0 (r:Nat) (h:r≤1114111):IntKind.i64.wrap (r:Int)=(r:Int):=YWb (by omega)
theorem YPT (s:List UInt8):YHp s=some (YMQ s.length s):=by
 unfold YHp
 have key : ∀ (n:Nat) (s:List UInt8),s.length≤n→(ctl1 (iter (fun (a:(List UInt8))=>YA1 a) s) fun (_:Unit)=>some true)=some (YMQ n s):=by
  intro n
  induction n with
  | zero=>
   intro s hs
   obtain rfl:=List.eq_nil_of_length_eq_zero (Nat.le_zero.1 hs)
   have h1:(fun (a:(List UInt8))=>YA1 a) []=some (.inr (.nrm ())):=by
    show YA1 []=_
    unfold YA1; rfl
   rw [YAX h1]; rfl
  | succ n ih=>
   intro s hs
   rw [YTN]
   by_cases hn:s=[]
   ·subst hn
    have h1:(fun (a:(List UInt8))=>YA1 a) []=some (.inr (.nrm ())):=by
     show YA1 []=_
     unfold YA1; rfl
    rw [YAX h1]; rfl
   ·have hw:=Lib.decodeL_width s
    have hle:=Lib.decodeL_le s hn
    have hr:=Lib.decodeL_rune s
    have hstep:YA1 s=if ((Lib.decodeL s).1=65533∧(Lib.decodeL s).2=1)∨badR (Lib.decodeL s).1=true then some (.inr (.ext false)) else some (.inl (s.drop (Lib.decodeL s).2)):=by
     unfold YA1 badR
     rw [if_pos (ndT hn),YSq s hn,YAt,YL0 _ hr,YF7]
     generalize (Lib.decodeL s).1=r at *
     generalize (Lib.decodeL s).2=w at *
     by_cases h1:r=65533∧w=1
     ·obtain ⟨rfl,rfl⟩:=h1
      rw [if_pos (.inl ⟨rfl,rfl⟩)]; rfl
     ·have e1:((decide ((r:Int)=65533)) && (decide ((w:Int)=1)))=false:=by
       rw [← Bool.not_eq_true,Bool.and_eq_true,decide_eq_true_eq,decide_eq_true_eq]; omega
      by_cases h2:r=10
      ·subst h2
       rw [if_pos (.inr (by rfl)),e1]; rfl
      ·have e2:(decide ((r:Int)=10))=false:=decide_eq_false (by omega)
       rw [e1,e2,decide_eq_false h2]
       show (bnd1 (gd true (some (YGg (r:Int)))) fun (r3:Bool)=>_)=_
       rw [YAI,YAA,YLY s w hle,YAA]
       cases YGg (r:Int)
       ·rw [if_pos (show (r=65533∧w=1)∨(false || !false)=true from .inr rfl)]; rfl
       ·rw [if_neg (show ¬ ((r=65533∧w=1)∨(false || !true)=true) by rintro (h | h); exact h1 h; exact absurd h (by decide))]; rfl
    by_cases hb:((Lib.decodeL s).1=65533∧(Lib.decodeL s).2=1)∨badR (Lib.decodeL s).1=true
    ·rw [if_pos hb] at hstep
     rw [YAX (f:=fun (a:(List UInt8))=>YA1 a) hstep,if_neg hn,if_pos hb]; rfl
    ·rw [if_neg hb] at hstep
     rw [YBM (f:=fun (a:(List UInt8))=>YA1 a) hstep,if_neg hn,if_neg hb]
     exact ih _ (by rw [List.length_drop]; omega)
 exact key s.length s (Nat.le_refl _)
theorem YTf (s:List UInt8) (p:Nat):YGJ s p=Lib.decodeL (s.drop p):=(Lib.decodeL_drop ⟨s.toArray⟩ p).symm
theorem YLl (s:List UInt8) (hs:s.length≤9223372036854775807):YEw s=some (YMQ s.length s):=by
 unfold YEw YBV YRA
 rw [if_pos hs,YAA,← YTM s.length s (Nat.le_refl _)]
 cases Lib.validD s with
 | false=>rfl
 | true=>
  rw [if_neg (by decide),Bool.true_and]
  have key : ∀ (n p:Nat),s.length-p≤n→(ctl1 (iter (fun (a:(Nat))=>YAi s a) p) fun (_:Unit)=>some true)=some (YTe n (s.drop p)):=by
   intro n
   induction n with
   | zero=>
    intro p hp
    have h1:(fun (a:(Nat))=>YAi s a) p=some (.inr (.nrm ())):=by
     show YAi s p=_
     unfold YAi; rw [if_neg (by rw [decide_eq_true_eq]; omega)]
    rw [YAX h1]; rfl
   | succ n ih=>
    intro p hp
    rw [YTd]
    by_cases hn:s.length≤p
    ·have h1:(fun (a:(Nat))=>YAi s a) p=some (.inr (.nrm ())):=by
      show YAi s p=_
      unfold YAi; rw [if_neg (by rw [decide_eq_true_eq]; omega)]
     rw [YAX h1,if_pos (List.drop_eq_nil_of_le hn)]; rfl
    ·have hne:s.drop p≠[]:=by
      intro e
      have:=congrArg List.length e
      rw [List.length_drop,List.length_nil] at this
      omega
     have hw:=Lib.decodeL_width (s.drop p)
     have hr:=Lib.decodeL_rune (s.drop p)
     have hstep:YAi s p=if badR (Lib.decodeL (s.drop p)).1=true then some (.inr (.ext false)) else some (.inl (p+(Lib.decodeL (s.drop p)).2)):=by
      unfold YAi badR
      rw [if_pos (by rw [decide_eq_true_eq]; omega),YTf,YL0 _ hr,YGv]
      generalize (Lib.decodeL (s.drop p)).1=r at *
      generalize (Lib.decodeL (s.drop p)).2=w at *
      by_cases h2:r=10
      ·subst h2; rfl
      ·rw [decide_eq_false h2,decide_eq_false (show ¬ ((r:Int)=10) by omega)]
       show (bnd1 (gd true (some (YGg (r:Int)))) fun (r3:Bool)=>_)=_
       rw [YAI,YAA]
     rw [if_neg hne]
     by_cases hb:badR (Lib.decodeL (s.drop p)).1=true
     ·rw [if_pos hb] at hstep
      rw [YAX (f:=fun (a:(Nat))=>YAi s a) hstep,if_pos hb]; rfl
     ·rw [if_neg hb] at hstep
      rw [YBM (f:=fun (a:(Nat))=>YAi s a) hstep,if_neg hb,List.drop_drop]
      exact ih _ (by omega)
  have:=key s.length 0 (by omega)
  rw [List.drop_zero] at this
  exact this
theorem YLw {ρ:Type} {f g:Int→Option (Int ⊕ Ctl Unit ρ)} {n:Nat} (I:Nat→Prop) (h0:I 0) (h : ∀ k:Nat,k<n→I k → ∃ o:Option ρ,f k=YBW k o∧g k=YBW k o∧(o=none→I (k+1)))
  (hf:f n=some (.inr (.nrm ()))) (hg:g n=some (.inr (.nrm ()))) : ∃ o:Option ρ,iter f 0=some (YI8 o)∧iter g 0=some (YI8 o)∧(o=none→I n):=by
 have key : ∀ m k:Nat,k+m=n→I k → ∃ o:Option ρ,iter f (k:Int)=some (YI8 o)∧iter g (k:Int)=some (YI8 o)∧(o=none→I n):=by
  intro m
  induction m with
  | zero=>
   intro k hk hi
   obtain rfl:k=n:=by omega
   exact ⟨none,YAX hf,YAX hg,fun _=>hi⟩
  | succ m ih=>
   intro k hk hi
   obtain ⟨o,h1,h2,h3⟩:=h k (by omega) hi
   cases o with
   | some r=>exact ⟨some r,YAX h1,YAX h2,fun e=>by cases e⟩
   | none=>
    obtain ⟨o,e1,e2,e3⟩:=ih (k+1) (by omega) (h3 rfl)
    exact ⟨o,(YBM h1).trans e1,(YBM h2).trans e2,e3⟩
 exact key n 0 (by omega) h0
theorem YR2 (x y:Int):YBT x y=some (if x<y then -1 else if y<x then 1 else 0):=by
 unfold YBT YER
 rw [decide_eq_true (rfl:x=x),decide_eq_true (rfl:y=y),YAA,YAA,if_neg (by decide),if_neg (by decide)]
 by_cases h1:x<y
 ·rw [if_pos (decide_eq_true h1),if_pos h1]
 ·rw [if_neg (by simpa using h1),if_neg h1]
  by_cases h2:y<x
  ·rw [if_pos (decide_eq_true h2),if_pos h2]
  ·rw [if_neg (by simpa using h2),if_neg h2]
theorem YPl (a b:Int):YFV [a,b]=some (if a≠0 then a else b):=by
 unfold YFV
 by_cases ha:a≠0
 ·have h1:(fun (x:Int)=>YAe [a,b] x) 0=some (.inr (.ext a)):=by
   show YAe [a,b] 0=_
   unfold YAe
   rw [if_pos (by simp),show idx [a,b] 0=some a from rfl,YAA,if_pos (ndT ha)]
  rw [YAX h1,if_pos ha]; rfl
 ·have ha':a=0:=Classical.not_not.1 ha
  have h1:(fun (x:Int)=>YAe [a,b] x) 0=some (.inl 1):=by
   show YAe [a,b] 0=_
   unfold YAe
   rw [if_pos (by simp),show idx [a,b] 0=some a from rfl,YAA,if_neg (ndF ha')]; rfl
  by_cases hb:b≠0
  ·have h2:(fun (x:Int)=>YAe [a,b] x) 1=some (.inr (.ext b)):=by
    show YAe [a,b] 1=_
    unfold YAe
    rw [if_pos (by simp),show idx [a,b] 1=some b from rfl,YAA,if_pos (ndT hb)]
   rw [YBM h1,YAX h2,if_neg ha]; rfl
  ·have hb':b=0:=Classical.not_not.1 hb
   have h2:(fun (x:Int)=>YAe [a,b] x) 1=some (.inl 2):=by
    show YAe [a,b] 1=_
    unfold YAe
    rw [if_pos (by simp),show idx [a,b] 1=some b from rfl,YAA,if_neg (ndF hb')]; rfl
   have h3:(fun (x:Int)=>YAe [a,b] x) 2=some (.inr (.nrm ())):=by
    show YAe [a,b] 2=_
    unfold YAe
    rw [if_neg (by simp)]
   rw [YBM h1,YBM h2,YAX h3,if_neg ha,hb']; rfl
def ord2 (a b c d:Int):Int:=if a<b then -1 else if b<a then 1 else if c<d then -1 else if d<c then 1 else 0
theorem or2 (a b c d:Int):(if (if a<b then -1 else if b<a then 1 else 0)≠(0:Int) then (if a<b then -1 else if b<a then 1 else 0) else if c<d then -1 else if d<c then 1 else (0:Int))=ord2 a b c d:=by
 unfold ord2
 by_cases h1:a<b
 ·simp [h1]
 ·by_cases h2:b<a
  ·simp [h1,h2]
  ·simp [h1,h2]
theorem YN1 (a b c d:Int):0≤ord2 a b c d↔(b<a∨(b=a∧d≤c)):=by
 unfold ord2
 split
 ·constructor <;> intro h <;> omega
 ·split
  ·constructor <;> intro h <;> omega
  ·split
   ·constructor <;> intro h <;> omega
   ·split
    ·constructor <;> intro h <;> omega
    ·constructor <;> intro h <;> omega
theorem YOD (a b:YAd):YFS a b=some (ord2 a.Row b.Row a.Col b.Col):=by
 unfold YFS
 rw [YR2,YR2,YAA,YAA,YPl,YAA,or2]
theorem YBA (x a b:Int):YC2 x a b=some (decide (a≤x∧x≤b)):=by
 rw [YHk]
 congr 1
 rw [Bool.eq_iff_iff]; simp
def inC (rows cols:Int) (c:YAd):Prop:=0≤c.Row∧c.Row<rows∧0≤c.Col∧c.Col<cols∧0≤c.Ref∧c.Ref≤1073741824
instance (rows cols:Int) (c:YAd):Decidable (inC rows cols c):=by unfold inC; infer_instance
def YKM (c:YAd):Bool:=decide (c.Text=[]) && decide (c.Ref=0) && decide (c.Attrs=[])
def YWT (rows cols:Int) (none_:Bool) (c:YAd):Int:=
 if ¬ inC rows cols c then 2 else if YMQ c.Text.length c.Text=false then 23 else if YAv c.Attrs false≠0 then YAv c.Attrs false else if (!none_ && YKM c)=true then 4 else 0
def errC (rows cols:Int) (none_:Bool) (l:List YAd) (k:Nat):Option Int:=
 if YWT rows cols none_ l[k]! ≠ 0 then some (YWT rows cols none_ l[k]!) else if 0<k∧0≤ord2 l[k-1]!.Row l[k]!.Row l[k-1]!.Col l[k]!.Col then some 5 else none
def YIB (rows cols:Int) (none_:Bool) (l:List YAd):Int:=((List.range l.length).findSome? (errC rows cols none_ l)).getD 0
theorem YPP (l:List YAD):decide ((l.length:Int)=0)=decide (l=[]):=by
 rw [Bool.eq_iff_iff,decide_eq_true_eq,decide_eq_true_eq,← List.length_eq_zero_iff]; omega
def okC (c:YAd):Prop:=okA c.Attrs∧c.Text.length≤1073741824
theorem YSF (l:List YAd) (k:Nat) (hk:k<l.length) (hm:l.length≤9223372036854775806) :
  (bnd1 (gd ((decide (0<(k:Int))) == true) (chk .i64 ((k:Int)-1))) fun (x5:Int)=>
   bnd1 (gd ((decide (0<(k:Int))) == true) (idx l x5)) fun (x6:YAd)=>
   bnd1 (gd ((decide (0<(k:Int))) == true) (YFS x6 l[k]!)) fun (r3:Int)=>
   if ((decide (0<(k:Int))) && (decide (0≤r3))) then (some (.inr (.ext 5)):Option (Int ⊕ (Ctl Unit Int))) else (
    bnd1 (chk .i64 ((k:Int)+1)) fun (x7:Int)=>some (.inl x7)))=YBW k (if 0<k∧0≤ord2 l[k-1]!.Row l[k]!.Row l[k-1]!.Col l[k]!.Col then some 5 else none):=by
 by_cases h0:0<k
 ·rw [decide_eq_true (show (0:Int)<k by omega),show ((true == true):Bool)=true from rfl,YAI,YDR h0 (by omega),YAA,YAI,YAG (by omega),YAA,YAI,YOD,YAA]
  by_cases h1:0≤ord2 l[k-1]!.Row l[k]!.Row l[k-1]!.Col l[k]!.Col
  ·rw [if_pos (show (true && decide (0≤ord2 l[k-1]!.Row l[k]!.Row l[k-1]!.Col l[k]!.Col))=true by rw [decide_eq_true h1]; rfl),if_pos ⟨h0,h1⟩]; rfl
  ·rw [if_neg (show ¬ (true && decide (0≤ord2 l[k-1]!.Row l[k]!.Row l[k-1]!.Col l[k]!.Col))=true by rw [decide_eq_false h1]; decide),if_neg (fun h=>h1 h.2),YAQ (by omega)]; rfl
 ·obtain rfl:k=0:=by omega
  rw [if_neg (show ¬ (0<0∧_) from fun h=>absurd h.1 (by decide))]; rfl
theorem YOE (rows cols:Int) (nn:Bool) (l:List YAd) (hm:l.length≤1073741824) (hl : ∀ c∈l,okC c):YGa l rows cols nn=some (YIB rows cols nn l):=by
 unfold YGa
 rw [YAa (n:=l.length) (errC rows cols nn l) (fun k hk=>by
  obtain ⟨ha,ht⟩:=hl _ (YBI hk)
  have hto:=YSF l k hk (by omega)
  unfold YEL errC YWT
  rw [if_pos (by simpa using hk),YAG hk,YAA]
  by_cases h1:inC rows cols l[k]!
  ·have h1':=h1
   unfold inC at h1'
   rw [if_neg (by simp only [Bool.or_eq_true,decide_eq_true_eq]; omega),if_neg (by simp only [Bool.or_eq_true,decide_eq_true_eq]; omega),YPT,YAA,YFO _ ha.2 (by have:=ha.1; omega),YAA,hto]
   rw [if_neg (Classical.not_not.2 h1)]
   cases htx:YMQ l[k]!.Text.length l[k]!.Text with
   | false=>rfl
   | true=>
    rw [if_neg (show ¬ ((!true)=true) by decide),if_neg (show ¬ (true=false) by decide)]
    by_cases h3:YAv l[k]!.Attrs false=0
    ·rw [if_neg (ndF h3),if_neg (Classical.not_not.2 h3)]
     have he:YGZ l[k]! = some (YKM l[k]!):=by unfold YGZ YKM; rw [YPP]
     rw [he,YAA]
     by_cases h4:(!nn && YKM l[k]!)=true
     ·rw [if_pos (by rw [Bool.and_comm]; exact h4),if_pos h4]; rfl
     ·rw [if_neg (by rw [Bool.and_comm]; exact h4),if_neg h4,if_neg (show ¬ ((0:Int)≠0) from fun h=>h rfl)]
    ·rw [if_pos (ndT h3),if_pos h3,if_pos h3]; rfl
  ·rw [if_pos h1]
   unfold inC at h1
   by_cases h2:((((decide (l[k]!.Row<0)) || (decide (rows≤l[k]!.Row))) || (decide (l[k]!.Col<0))) || (decide (cols≤l[k]!.Col)))=true
   ·rw [if_pos h2]; rfl
   ·rw [if_neg h2,if_pos (by simp only [Bool.or_eq_true,decide_eq_true_eq] at h2 ⊢; omega)]; rfl) (by unfold YEL; rw [if_neg (by simp)]),YCb]
 rfl
theorem YMZ (l:List YAd) (k:Nat) (hk:k<l.length) (hm:l.length≤9223372036854775806) :
  (bnd1 (gd ((decide (0<(k:Int))) == true) (chk .i64 ((k:Int)-1))) fun (x7:Int)=>
      bnd1 (gd ((decide (0<(k:Int))) == true) (idx l x7)) fun (x8:YAd)=>
      bnd1 (gd ((((decide (0<(k:Int))) == true) && ((decide (l[k]!.Row<x8.Row)) == false)) && ((decide (l[k]!.Row=x8.Row)) == true)) (chk .i64 ((k:Int)-1))) fun (x9:Int)=>
      bnd1 (gd ((((decide (0<(k:Int))) == true) && ((decide (l[k]!.Row<x8.Row)) == false)) && ((decide (l[k]!.Row=x8.Row)) == true)) (idx l x9)) fun (x10:YAd)=>
      if ((decide (0<(k:Int))) && ((decide (l[k]!.Row<x8.Row)) || ((decide (l[k]!.Row=x8.Row)) && (decide (l[k]!.Col≤x10.Col))))) then (some (.inr (.ext 5)):Option (Int ⊕ (Ctl Unit Int))) else (
       bnd1 (chk .i64 ((k:Int)+1)) fun (x11:Int)=>some (.inl x11)))=YBW k (if 0<k∧0≤ord2 l[k-1]!.Row l[k]!.Row l[k-1]!.Col l[k]!.Col then some 5 else none):=by
 have ho:=YN1 l[k-1]!.Row l[k]!.Row l[k-1]!.Col l[k]!.Col
 by_cases h0:0<k
 ·rw [decide_eq_true (show (0:Int)<k by omega),show ((true == true):Bool)=true from rfl,YAI,YDR h0 (by omega),YAA,YAI,YAG (show k-1<l.length by omega),YAA]
  by_cases h1:l[k]!.Row<l[k-1]!.Row
  ·rw [decide_eq_true h1,if_pos (show 0<k∧0≤ord2 l[k-1]!.Row l[k]!.Row l[k-1]!.Col l[k]!.Col from ⟨h0,ho.2 (.inl h1)⟩)]; rfl
  ·by_cases h2:l[k]!.Row=l[k-1]!.Row
   ·rw [decide_eq_false h1,decide_eq_true h2,show (((true && (false == false)) && (true == true)):Bool)=true from rfl,YAI,YAA,YAI,YAG (show k-1<l.length by omega),YAA]
    by_cases h3:l[k]!.Col≤l[k-1]!.Col
    ·rw [decide_eq_true h3,if_pos (show 0<k∧0≤ord2 l[k-1]!.Row l[k]!.Row l[k-1]!.Col l[k]!.Col from ⟨h0,ho.2 (.inr ⟨h2,h3⟩)⟩)]; rfl
    ·rw [decide_eq_false h3,if_neg (show ¬ (0<k∧0≤ord2 l[k-1]!.Row l[k]!.Row l[k-1]!.Col l[k]!.Col) from fun h=>by have:=ho.1 h.2; omega),YAQ (by omega)]; rfl
   ·rw [decide_eq_false h1,decide_eq_false h2,if_neg (show ¬ (0<k∧0≤ord2 l[k-1]!.Row l[k]!.Row l[k-1]!.Col l[k]!.Col) from fun h=>by have:=ho.1 h.2; omega),YAQ (by omega)]; rfl
 ·obtain rfl:k=0:=by omega
  rw [if_neg (show ¬ (0<0∧_) from fun h=>absurd h.1 (by decide))]; rfl
theorem YJl (rows cols:Int) (nn:Bool) (l:List YAd) (hm:l.length≤1073741824) (hl : ∀ c∈l,okC c) (hr:0≤rows∧rows≤2147483647) (hcc:0≤cols∧cols≤2147483647):YDc l rows cols nn=some (YIB rows cols nn l):=by
 unfold YDc
 rw [YAa (n:=l.length) (errC rows cols nn l) (fun k hk=>by
  obtain ⟨ha,ht⟩:=hl _ (YBI hk)
  have hto:=YMZ l k hk (by omega)
  unfold YCK errC YWT
  rw [if_pos (by simpa using hk),YAG hk,YAA,YDC (by omega) (by omega),YAA,YBA,YAA,YBA,hto]
  by_cases h1:inC rows cols l[k]!
  ·have h1':=h1
   unfold inC at h1'
   rw [if_neg (Classical.not_not.2 h1),decide_eq_true (show 0≤l[k]!.Row∧l[k]!.Row≤rows-1 by omega),show ((!true) == false)=true from rfl,YAI,YDC (by omega) (by omega),YAA,YAI,YBA,YAA,decide_eq_true (show 0≤l[k]!.Col∧l[k]!.Col≤cols-1 by omega),
    show (((!true) || (!true)) == false)=true from rfl,YAI,YAA,decide_eq_true (show 0≤l[k]!.Ref∧l[k]!.Ref≤1073741824 by omega),if_neg (by decide),YLl _ (by omega),YAA,YDN _ _ ha.2 (by have:=ha.1; omega),YAA]
   cases htx:YMQ l[k]!.Text.length l[k]!.Text with
   | false=>rfl
   | true=>
    rw [if_neg (show ¬ ((!true)=true) by decide),if_neg (show ¬ (true=false) by decide)]
    by_cases h3:YAv l[k]!.Attrs false=0
    ·rw [if_neg (ndF h3),if_neg (Classical.not_not.2 h3)]
     have he:YEH l[k]! = some (YKM l[k]!):=by unfold YEH YKM; rw [YPP]
     rw [he]
     cases nn with
     | true=>rfl
     | false=>
      show (bnd1 (gd true (some (YKM l[k]!))) fun (r5:Bool)=>_)=_
      rw [YAI,YAA]
      cases YKM l[k]! <;> rfl
    ·rw [if_pos (ndT h3),if_pos h3,if_pos h3]; rfl
  ·rw [if_pos h1]
   unfold inC at h1
   by_cases e1:0≤l[k]!.Row∧l[k]!.Row≤rows-1
   ·rw [decide_eq_true e1,show ((!true) == false)=true from rfl,YAI,YDC (by omega) (by omega),YAA,YAI,YBA,YAA]
    by_cases e2:0≤l[k]!.Col∧l[k]!.Col≤cols-1
    ·rw [decide_eq_true e2,show (((!true) || (!true)) == false)=true from rfl,YAI,YAA,decide_eq_false (show ¬ (0≤l[k]!.Ref∧l[k]!.Ref≤1073741824) by omega)]; rfl
    ·rw [decide_eq_false e2]; rfl
   ·rw [decide_eq_false e1]; rfl) (by unfold YCK; rw [if_neg (by simp)]),YCb]
 rfl
theorem YNE {ρ:Type} {f:Int→Option (Int ⊕ Ctl Unit ρ)} {n:Nat} (g:Nat→Option ρ) (h1 : ∀ k:Nat,k<n→(∀ j,j<k→g j=none)→f k=YBW k (g k))
  (h2:f n=some (.inr (.nrm ()))):iter f 0=some (YI8 ((List.range n).findSome? g)):=by
 have key : ∀ m k:Nat,k+m=n→(∀ j,j<k→g j=none)→iter f (k:Int)=some (YI8 ((List.range' k m).findSome? g)):=by
  intro m
  induction m with
  | zero=>
   intro k hk _
   obtain rfl:k=n:=by omega
   rw [YAX h2]; rfl
  | succ m ih=>
   intro k hk hj
   have hs:=h1 k (by omega) hj
   rw [List.range'_succ,List.findSome?_cons]
   cases hg:g k with
   | some r=>rw [hg] at hs; rw [YAX hs]; rfl
   | none=>
    rw [hg] at hs
    rw [YBM hs]
    exact ih (k+1) (by omega) (fun j hj'=>by
     by_cases e:j=k
     ·rw [e]; exact hg
     ·exact hj j (by omega))
 have:=key n 0 (by omega) (fun j hj=>absurd hj (Nat.not_lt_zero _))
 rw [List.range_eq_range']
 exact this
def insR (rows cols:Int) (r:YAW):Prop:=0≤r.Row∧r.Row<rows∧0≤r.Col∧r.Col<cols∧1≤r.H∧r.H≤rows-r.Row∧1≤r.W∧r.W≤cols-r.Col
instance (rows cols:Int) (r:YAW):Decidable (insR rows cols r):=by unfold insR; infer_instance
def mtR (a b:YAW):Bool:=decide (a.Row<b.Row+b.H∧b.Row<a.Row+a.H∧a.Col<b.Col+b.W∧b.Col<a.Col+a.W)
def okRC (rows cols:Int):Prop:=0≤rows∧rows≤2147483647∧0≤cols∧cols≤2147483647
instance (rows cols:Int):Decidable (okRC rows cols):=by unfold okRC; infer_instance
theorem YUP (r:YAW) (rows cols:Int) (h:okRC rows cols):YFl r rows cols=some (decide (insR rows cols r)):=by
 obtain ⟨h1,h2,h3,h4⟩:=h
 unfold YFl
 by_cases c1:0≤r.Row∧0≤r.Col∧1≤r.H∧1≤r.W∧r.Row<rows∧r.Col<cols
 ·obtain ⟨a1,a2,a3,a4,a5,a6⟩:=c1
  rw [decide_eq_true a1,decide_eq_true a2,decide_eq_true a3,decide_eq_true a4,decide_eq_true a5,decide_eq_true a6,show ((((((true && true) && true) && true) && true) && true) == true)=true from rfl,YAI,YDC (by omega) (by omega),YAA]
  by_cases c2:r.H≤rows-r.Row
  ·rw [decide_eq_true c2,show (((((((true && true) && true) && true) && true) && true) && true) == true)=true from rfl,YAI,YDC (by omega) (by omega),YAA]
   by_cases c3:r.W≤cols-r.Col
   ·rw [decide_eq_true c3,decide_eq_true (show insR rows cols r from ⟨a1,a5,a2,a6,a3,c2,a4,c3⟩)]; rfl
   ·rw [decide_eq_false c3,decide_eq_false (show ¬ insR rows cols r from fun h=>c3 h.2.2.2.2.2.2.2)]; rfl
  ·rw [decide_eq_false c2,decide_eq_false (show ¬ insR rows cols r from fun h=>c2 h.2.2.2.2.2.1)]; rfl
 ·have hf:((((((decide (0≤r.Row)) && (decide (0≤r.Col))) && (decide (1≤r.H))) && (decide (1≤r.W))) && (decide (r.Row<rows))) && (decide (r.Col<cols)))=false:=by
   rw [← Bool.not_eq_true]
   simp only [Bool.and_eq_true,decide_eq_true_eq]
   intro h; exact c1 (by omega)
  rw [hf,decide_eq_false (show ¬ insR rows cols r from fun h=>c1 ⟨h.1,h.2.2.1,h.2.2.2.2.1,h.2.2.2.2.2.2.1,h.2.1,h.2.2.2.1⟩)]; rfl
theorem YXr (r:YAW) (rows cols:Int) (h:okRC rows cols):YI7 r rows cols=some (decide (insR rows cols r)):=by
 obtain ⟨h1,h2,h3,h4⟩:=h
 unfold YI7
 rw [YDC (by omega) (by omega),YAA,YBA,YAA]
 by_cases a1:0≤r.Row∧r.Row≤rows-1
 ·rw [decide_eq_true a1,show ((true == true):Bool)=true from rfl,YAI,YDC (by omega) (by omega),YAA,YAI,YBA,YAA]
  by_cases a2:0≤r.Col∧r.Col≤cols-1
  ·rw [decide_eq_true a2,show ((true && true) == true)=true from rfl,YAI,YDC (by omega) (by omega),YAA,YAI,YBA,YAA]
   by_cases a3:1≤r.H∧r.H≤rows-r.Row
   ·rw [decide_eq_true a3,show (((true && true) && true) == true)=true from rfl,YAI,YDC (by omega) (by omega),YAA,YAI,YBA,YAA]
    by_cases a4:1≤r.W∧r.W≤cols-r.Col
    ·rw [decide_eq_true a4,decide_eq_true (show insR rows cols r from ⟨a1.1,by omega,a2.1,by omega,a3.1,a3.2,a4.1,a4.2⟩)]; rfl
    ·rw [decide_eq_false a4,decide_eq_false (show ¬ insR rows cols r from fun h=>a4 ⟨h.2.2.2.2.2.2.1,h.2.2.2.2.2.2.2⟩)]; rfl
   ·rw [decide_eq_false a3,decide_eq_false (show ¬ insR rows cols r from fun h=>a3 ⟨h.2.2.2.2.1,h.2.2.2.2.2.1⟩)]; rfl
  ·rw [decide_eq_false a2,decide_eq_false (show ¬ insR rows cols r from fun h=>a2 ⟨h.2.2.1,by have:=h.2.2.2.1; omega⟩)]; rfl
 ·rw [decide_eq_false a1,decide_eq_false (show ¬ insR rows cols r from fun h=>a1 ⟨h.1,by have:=h.2.1; omega⟩)]; rfl
theorem YVu {rows cols:Int} (h:okRC rows cols) {a b:YAW} (ha:insR rows cols a) (hb:insR rows cols b):YGY a b=some (mtR a b):=by
 obtain ⟨h1,h2,h3,h4⟩:=h
 obtain ⟨a1,a2,a3,a4,a5,a6,a7,a8⟩:=ha
 obtain ⟨b1,b2,b3,b4,b5,b6,b7,b8⟩:=hb
 unfold YGY mtR
 rw [YDC (by omega) (by omega),YAA]
 by_cases c1:a.Row<b.Row+b.H
 ·rw [decide_eq_true c1,show ((true == true):Bool)=true from rfl,YAI,YDC (by omega) (by omega),YAA]
  by_cases c2:b.Row<a.Row+a.H
  ·rw [decide_eq_true c2,show ((true && true) == true)=true from rfl,YAI,YDC (by omega) (by omega),YAA]
   by_cases c3:a.Col<b.Col+b.W
   ·rw [decide_eq_true c3,show (((true && true) && true) == true)=true from rfl,YAI,YDC (by omega) (by omega),YAA]
    by_cases c4:b.Col<a.Col+a.W
    ·rw [decide_eq_true c4,decide_eq_true (show _∧_∧_∧_ from ⟨c1,c2,c3,c4⟩)]; rfl
    ·rw [decide_eq_false c4,decide_eq_false (show ¬ (a.Row<b.Row+b.H∧b.Row<a.Row+a.H∧a.Col<b.Col+b.W∧b.Col<a.Col+a.W) from fun h=>c4 h.2.2.2)]; rfl
   ·rw [decide_eq_false c3,decide_eq_false (show ¬ (a.Row<b.Row+b.H∧b.Row<a.Row+a.H∧a.Col<b.Col+b.W∧b.Col<a.Col+a.W) from fun h=>c3 h.2.2.1)]; rfl
  ·rw [decide_eq_false c2,decide_eq_false (show ¬ (a.Row<b.Row+b.H∧b.Row<a.Row+a.H∧a.Col<b.Col+b.W∧b.Col<a.Col+a.W) from fun h=>c2 h.2.1)]; rfl
 ·rw [decide_eq_false c1,decide_eq_false (show ¬ (a.Row<b.Row+b.H∧b.Row<a.Row+a.H∧a.Col<b.Col+b.W∧b.Col<a.Col+a.W) from fun h=>c1 h.1)]; rfl
theorem YVQ {rows cols:Int} (h:okRC rows cols) {a b:YAW} (ha:insR rows cols a) (hb:insR rows cols b):YHh a b=some (mtR b a):=by
 obtain ⟨h1,h2,h3,h4⟩:=h
 obtain ⟨a1,a2,a3,a4,a5,a6,a7,a8⟩:=ha
 obtain ⟨b1,b2,b3,b4,b5,b6,b7,b8⟩:=hb
 unfold YHh mtR
 rw [YDC (by omega) (by omega),YAA,YDC (by omega) (by omega),YAA]
 by_cases c1:max a.Row b.Row<min (a.Row+a.H) (b.Row+b.H)
 ·rw [decide_eq_true c1,show ((true == true):Bool)=true from rfl,YAI,YDC (by omega) (by omega),YAA,YAI,YDC (by omega) (by omega),YAA]
  by_cases c2:max a.Col b.Col<min (a.Col+a.W) (b.Col+b.W)
  ·rw [decide_eq_true c2,decide_eq_true (show b.Row<a.Row+a.H∧a.Row<b.Row+b.H∧b.Col<a.Col+a.W∧a.Col<b.Col+b.W by omega)]; rfl
  ·rw [decide_eq_false c2,decide_eq_false (show ¬ (b.Row<a.Row+a.H∧a.Row<b.Row+b.H∧b.Col<a.Col+a.W∧a.Col<b.Col+b.W) by omega)]; rfl
 ·rw [decide_eq_false c1,decide_eq_false (show ¬ (b.Row<a.Row+a.H∧a.Row<b.Row+b.H∧b.Col<a.Col+a.W∧a.Col<b.Col+b.W) by omega)]; rfl
theorem takeBM {α:Type} [Inhabited α] {l:List α} {k j:Nat} (hj:j<k) (hk:k≤l.length):(l.take k)[j]! = l[j]!:=by
 rw [getElem!_pos (l.take k) j (by rw [List.length_take]; omega),getElem!_pos l j (by omega),List.getElem_take]
def YSj (l:List YAW) (k:Nat) (w:YAW):Option Nat:=(List.range k).find? fun j=>mtR l[j]! w
theorem YQu {rows cols:Int} (h:okRC rows cols) (l:List YAW) (k:Nat) (hk:k≤l.length) (hm:l.length≤1073741824) (hl : ∀ j,j<k→insR rows cols l[j]!) {w:YAW} (hw:insR rows cols w) :
  YAO w (l.take k)=some (YSj l k w).isSome:=by
 unfold YAO YAZ
 have hlen:(l.take k).length=k:=by rw [List.length_take]; omega
 rw [YAa (n:=k) (fun j=>if mtR l[j]! w then some (j:Int) else none) (fun j hj=>by
  unfold YAS YFL
  rw [if_pos (by rw [hlen,decide_eq_true_eq]; omega),YAG (by rw [hlen]; exact hj),YAA,takeBM hj hk,YVu h (hl j hj) hw,YAA,YAA,YAQ (by omega)]
  cases mtR l[j]! w <;> rfl) (by unfold YAS; rw [if_neg (by rw [hlen]; simp)]),YF8,YBN]
 unfold YSj
 cases (List.range k).find? fun j=>mtR l[j]! w with
 | none=>rfl
 | some j=>
  show (bnd1 (some (j:Int)) fun (r1:Int)=>some (decide (0≤r1)))=_
  rw [YAA,decide_eq_true (Int.natCast_nonneg j)]; rfl
def errM (rows cols:Int) (l:List YAW) (k:Nat):Option Int:=
 if ¬ insR rows cols l[k]! then some 2 else if l[k]!.H=1∧l[k]!.W=1 then some 4 else if 0<k∧0≤ord2 l[k-1]!.Row l[k]!.Row l[k-1]!.Col l[k]!.Col then some 5 else if (YSj l k l[k]!).isSome=true then some 21 else none
theorem YRu {rows cols:Int} {l:List YAW} {k:Nat} (h:errM rows cols l k=none):insR rows cols l[k]!:=by
 unfold errM at h
 by_cases hi:insR rows cols l[k]!
 ·exact hi
 ·rw [if_pos hi] at h; cases h
def YLu (g:YAy):Int:=
 if ¬ okRC g.Rows g.Cols then 2 else if YIB g.Rows g.Cols false g.Cells≠0 then YIB g.Rows g.Cols false g.Cells else ((List.range g.Merges.length).findSome? (errM g.Rows g.Cols g.Merges)).getD 0
def okGd (g:YAy):Prop:=g.Cells.length≤1048576∧g.Merges.length≤1048576 ∧ ∀ c∈g.Cells,okC c
theorem YU2 (a b:YAW):YFm a b=some (!decide (0≤ord2 a.Row b.Row a.Col b.Col)):=by
 unfold YFm
 congr 1
 rw [Bool.eq_iff_iff]
 have:=YN1 a.Row b.Row a.Col b.Col
 simp only [Bool.or_eq_true,Bool.and_eq_true,decide_eq_true_eq,Bool.not_eq_true',decide_eq_false_iff_not,this]
 omega
theorem YOF (g:YAy) (h:okGd g):YGc g=some (YLu g):=by
 obtain ⟨hc,hm,hcs⟩:=h
 unfold YGc YLu
 by_cases hr:okRC g.Rows g.Cols
 ·have hr':=hr
  obtain ⟨r1,r2,r3,r4⟩:=hr'
  rw [if_neg (by simp only [Bool.or_eq_true,decide_eq_true_eq]; omega),YOE _ _ _ _ (by omega) hcs,YAA,if_neg (Classical.not_not.2 hr)]
  by_cases he:YIB g.Rows g.Cols false g.Cells=0
  ·rw [if_neg (ndF he),if_neg (Classical.not_not.2 he),YNE (n:=g.Merges.length) (errM g.Rows g.Cols g.Merges) (fun k hk hj=>by
    unfold YEN
    rw [if_pos (by simpa using hk),YAG hk,YAA,YUP _ _ _ hr,YAA]
    unfold errM
    by_cases h1:insR g.Rows g.Cols g.Merges[k]!
    ·rw [decide_eq_true h1,if_neg (show ¬ ((!true)=true) by decide),if_neg (Classical.not_not.2 h1)]
     by_cases h2:g.Merges[k]!.H=1∧g.Merges[k]!.W=1
     ·rw [if_pos (by rw [decide_eq_true h2.1,decide_eq_true h2.2]; rfl),if_pos h2]; rfl
     ·rw [if_neg (by simp only [Bool.and_eq_true,decide_eq_true_eq]; exact h2),if_neg h2]
      have hcont:=YQu hr g.Merges k (by omega) (by omega) (fun j hj'=>YRu (hj j hj')) h1
      have hs:slc g.Merges 0 (k:Int)=some (g.Merges.take k):=by
       rw [slc_to g.Merges k (by omega) (by omega)]; simp
      have hfin:(bnd1 (slc g.Merges 0 (k:Int)) fun (l1:List YAW)=>
        bnd1 (YAO g.Merges[k]! l1) fun (r3:Bool)=>
        if r3 then (some (.inr (.ext 21)):Option (Int ⊕ (Ctl Unit Int))) else (
         bnd1 (chk .i64 ((k:Int)+1)) fun (x7:Int)=>some (.inl x7)))=YBW k (if (YSj g.Merges k g.Merges[k]!).isSome=true then some 21 else none):=by
       rw [hs,YAA,hcont,YAA,YAQ (by omega)]
       cases (YSj g.Merges k g.Merges[k]!).isSome <;> rfl
      by_cases h0:0<k
      ·rw [decide_eq_true (show (0:Int)<k by omega),show ((true == true):Bool)=true from rfl,YAI,YDR h0 (by omega),YAA,YAI,YAG (show k-1<g.Merges.length by omega),YAA,YAI,YU2,YAA]
       by_cases h3:0≤ord2 g.Merges[k-1]!.Row g.Merges[k]!.Row g.Merges[k-1]!.Col g.Merges[k]!.Col
       ·rw [decide_eq_true h3,if_pos (show 0<k∧0≤ord2 g.Merges[k-1]!.Row g.Merges[k]!.Row g.Merges[k-1]!.Col g.Merges[k]!.Col from ⟨h0,h3⟩)]; rfl
       ·rw [decide_eq_false h3,if_neg (show ¬ (0<k∧0≤ord2 g.Merges[k-1]!.Row g.Merges[k]!.Row g.Merges[k-1]!.Col g.Merges[k]!.Col) from fun h=>h3 h.2)]
        exact hfin
      ·have e0:k=0:=by omega
       rw [if_neg (show ¬ (0<k∧0≤ord2 g.Merges[k-1]!.Row g.Merges[k]!.Row g.Merges[k-1]!.Col g.Merges[k]!.Col) from fun h=>h0 h.1),decide_eq_false (show ¬ (0:Int)<k by omega)]
       exact hfin
    ·rw [decide_eq_false h1,if_pos h1]; rfl) (by unfold YEN; rw [if_neg (by simp)]),YCb]
  ·rw [if_pos (ndT he),if_pos he]
 ·rw [if_pos hr,if_pos (by unfold okRC at hr; simp only [Bool.or_eq_true,decide_eq_true_eq]; omega)]
theorem YMa {X:Type} (l:List YAW) (k:Nat) (hk:k<l.length) (hm:l.length≤9223372036854775806) (a b:Option X) :
  (bnd1 (gd ((decide (0<(k:Int))) == true) (chk .i64 ((k:Int)-1))) fun (x5:Int)=>
    bnd1 (gd ((decide (0<(k:Int))) == true) (idx l x5)) fun (x6:YAW)=>
    bnd1 (gd ((((decide (0<(k:Int))) == true) && ((decide (l[k]!.Row<x6.Row)) == false)) && ((decide (l[k]!.Row=x6.Row)) == true)) (chk .i64 ((k:Int)-1))) fun (x7:Int)=>
    bnd1 (gd ((((decide (0<(k:Int))) == true) && ((decide (l[k]!.Row<x6.Row)) == false)) && ((decide (l[k]!.Row=x6.Row)) == true)) (idx l x7)) fun (x8:YAW)=>
    if ((decide (0<(k:Int))) && ((decide (l[k]!.Row<x6.Row)) || ((decide (l[k]!.Row=x6.Row)) && (decide (l[k]!.Col≤x8.Col))))) then a else b) =
   if 0<k∧0≤ord2 l[k-1]!.Row l[k]!.Row l[k-1]!.Col l[k]!.Col then a else b:=by
 have ho:=YN1 l[k-1]!.Row l[k]!.Row l[k-1]!.Col l[k]!.Col
 by_cases h0:0<k
 ·rw [decide_eq_true (show (0:Int)<k by omega),show ((true == true):Bool)=true from rfl,YAI,YDR h0 (by omega),YAA,YAI,YAG (show k-1<l.length by omega),YAA]
  by_cases h1:l[k]!.Row<l[k-1]!.Row
  ·rw [decide_eq_true h1,if_pos (show 0<k∧0≤ord2 l[k-1]!.Row l[k]!.Row l[k-1]!.Col l[k]!.Col from ⟨h0,ho.2 (.inl h1)⟩)]; rfl
  ·by_cases h2:l[k]!.Row=l[k-1]!.Row
   ·rw [decide_eq_false h1,decide_eq_true h2,show (((true && (false == false)) && (true == true)):Bool)=true from rfl,YAI,YAA,YAI,YAG (show k-1<l.length by omega),YAA]
    by_cases h3:l[k]!.Col≤l[k-1]!.Col
    ·rw [decide_eq_true h3,if_pos (show 0<k∧0≤ord2 l[k-1]!.Row l[k]!.Row l[k-1]!.Col l[k]!.Col from ⟨h0,ho.2 (.inr ⟨h2,h3⟩)⟩)]; rfl
    ·rw [decide_eq_false h3,if_neg (show ¬ (0<k∧0≤ord2 l[k-1]!.Row l[k]!.Row l[k-1]!.Col l[k]!.Col) from fun h=>by have:=ho.1 h.2; omega)]; rfl
   ·rw [decide_eq_false h1,decide_eq_false h2,if_neg (show ¬ (0<k∧0≤ord2 l[k-1]!.Row l[k]!.Row l[k-1]!.Col l[k]!.Col) from fun h=>by have:=ho.1 h.2; omega)]; rfl
 ·rw [if_neg (show ¬ (0<k∧0≤ord2 l[k-1]!.Row l[k]!.Row l[k-1]!.Col l[k]!.Col) from fun h=>h0 h.1),decide_eq_false (show ¬ (0:Int)<k by omega)]; rfl
theorem YKY (g:YAy) (h:okGd g):YEG g=some (YLu g):=by
 obtain ⟨hc,hm,hcs⟩:=h
 unfold YEG YLu
 rw [YBA,YAA]
 by_cases hr:okRC g.Rows g.Cols
 ·have hr':=hr
  obtain ⟨r1,r2,r3,r4⟩:=hr'
  rw [decide_eq_true (show 0≤g.Rows∧g.Rows≤2147483647 from ⟨r1,r2⟩),show ((!true) == false)=true from rfl,YAI,YBA,YAA,decide_eq_true (show 0≤g.Cols∧g.Cols≤2147483647 from ⟨r3,r4⟩),if_neg (by decide),
   YJl _ _ _ _ (by omega) hcs ⟨r1,r2⟩ ⟨r3,r4⟩,YAA,if_neg (Classical.not_not.2 hr)]
  by_cases he:YIB g.Rows g.Cols false g.Cells=0
  ·rw [if_neg (ndF he),if_neg (Classical.not_not.2 he),YNE (n:=g.Merges.length) (errM g.Rows g.Cols g.Merges) (fun k hk hj=>by
    unfold YCo
    rw [if_pos (by simpa using hk),YAG hk,YAA,YXr _ _ _ hr,YAA]
    unfold errM
    by_cases h1:insR g.Rows g.Cols g.Merges[k]!
    ·rw [decide_eq_true h1,if_neg (show ¬ ((!true)=true) by decide),if_neg (Classical.not_not.2 h1)]
     by_cases h2:g.Merges[k]!.H=1∧g.Merges[k]!.W=1
     ·rw [if_pos (by rw [decide_eq_true h2.1,decide_eq_true h2.2]; rfl),if_pos h2]; rfl
     ·rw [if_neg (by simp only [Bool.and_eq_true,decide_eq_true_eq]; exact h2),if_neg h2,YMa _ k hk (by omega)]
      by_cases h3:0<k∧0≤ord2 g.Merges[k-1]!.Row g.Merges[k]!.Row g.Merges[k-1]!.Col g.Merges[k]!.Col
      ·rw [if_pos h3,if_pos h3]; rfl
      ·rw [if_neg h3,if_neg h3,YAa (n:=k) (fun j=>if mtR g.Merges[j]! g.Merges[k]! then some (.inr (.ext 21)) else none) (fun j hjk=>by
        unfold YCn
        rw [if_pos (by rw [decide_eq_true_eq]; omega),YAG (by omega),YAA,YVQ hr h1 (YRu (hj j hjk)),YAA,YAQ (by omega)]
        cases mtR g.Merges[j]! g.Merges[k]! <;> rfl) (by unfold YCn; rw [if_neg (by rw [decide_eq_true_eq]; omega)]),YF8,YBN]
       unfold YSj
       cases (List.range k).find? fun j=>mtR g.Merges[j]! g.Merges[k]! with
       | none=>rw [YAQ (by omega)]; rfl
       | some j=>rfl
    ·rw [decide_eq_false h1,if_pos h1]; rfl) (by unfold YCo; rw [if_neg (by simp)]),YCb]
  ·rw [if_pos (ndT he),if_pos he]
 ·rw [if_pos hr]
  unfold okRC at hr
  by_cases a:0≤g.Rows∧g.Rows≤2147483647
  ·rw [decide_eq_true a,show ((!true) == false)=true from rfl,YAI,YBA,YAA,decide_eq_false (show ¬ (0≤g.Cols∧g.Cols≤2147483647) by omega)]; rfl
  ·rw [decide_eq_false a]; rfl
def YXp (c:UInt8):Bool:=decide (97≤c.toNat) && decide (c.toNat≤122)
def YRZ (s:List UInt8):Bool:=(List.range s.length).all fun k=>YXp s[k]!
def YIh (s:List UInt8):Bool:=decide (1≤s.length) && decide (s.length≤200) && !decide (s[s.length-1]!.toNat=97) && YRZ s
theorem YM8 (s:List UInt8) (hm:s.length≤9223372036854775806):iter (fun (a:Int)=>YC8 s a) 0=some (YI8 (if YRZ s then none else some false)):=by
 rw [YAa (n:=s.length) (fun k=>if YXp s[k]! then none else some false) (fun k hk=>by
  unfold YC8
  rw [if_pos (by simpa using hk),YAG hk,YAA,YAQ (by omega)]
  unfold YXp
  generalize s[k]! = c
  by_cases h:97≤c.toNat∧c.toNat≤122
  ·rw [if_neg (by simp only [Bool.or_eq_true,decide_eq_true_eq]; omega),if_pos (by simp only [Bool.and_eq_true,decide_eq_true_eq]; exact h)]; rfl
  ·rw [if_pos (by simp only [Bool.or_eq_true,decide_eq_true_eq]; omega),if_neg (by simp only [Bool.and_eq_true,decide_eq_true_eq]; exact h)]; rfl) (by unfold YC8; rw [if_neg (by simp)]),YDQ]
 rfl
theorem YQb:YDf=YC8:=by funext s x; rfl
theorem YKW (s:List UInt8) (hm:s.length≤9223372036854775806):YEA s=some (YIh s):=by
 unfold YEA YIh
 rw [YQb,YM8 s hm]
 by_cases h:1≤s.length∧s.length≤200
 ·have hne:s≠[]:=List.length_pos_iff.1 h.1
  rw [decide_eq_false hne,decide_eq_false (show ¬ (200:Int)<(s.length:Int) by omega),show ((false || false) == false)=true from rfl,YAI,YDR h.1 (by omega),YAA,YAI,YAG (by omega),YAA,decide_eq_true h.1,decide_eq_true h.2]
  by_cases h2:s[s.length-1]!.toNat=97
  ·rw [decide_eq_true h2,if_pos (by rw [decide_eq_true (show ((s[s.length-1]!.toNat:Int)=97) by omega)]; rfl)]; rfl
  ·rw [decide_eq_false h2,if_neg (by rw [decide_eq_false (show ¬ ((s[s.length-1]!.toNat:Int)=97) by omega)]; decide)]
   cases YRZ s <;> rfl
 ·have hc:((decide (s=[])) || (decide (200<(s.length:Int))))=true:=by
   rw [Bool.or_eq_true,decide_eq_true_eq,decide_eq_true_eq,← List.length_eq_zero_iff]; omega
  have hd:(decide (1≤s.length) && decide (s.length≤200))=false:=by
   rw [← Bool.not_eq_true,Bool.and_eq_true,decide_eq_true_eq,decide_eq_true_eq]; exact h
  rw [hc,hd]; rfl
theorem YPA (s:List UInt8) (hm:s.length≤9223372036854775806):YHj s=some (YIh s):=by
 unfold YHj YIh
 rw [YM8 s hm,YBN]
 cases YRZ s with
 | false=>rw [Bool.and_false]; rfl
 | true=>
  rw [if_pos rfl,Bool.and_true]
  dsimp only
  by_cases h:1≤s.length∧s.length≤200
  ·rw [decide_eq_true (show (1:Int)≤(s.length:Int) by omega),decide_eq_true (show (s.length:Int)≤200 by omega),show ((true && true) == true)=true from rfl,YAI,YDR h.1 (by omega),YAA,YAI,YAG (by omega),YAA,decide_eq_true h.1,decide_eq_true h.2]
   by_cases h2:s[s.length-1]!.toNat=97
   ·rw [decide_eq_true h2,decide_eq_true (show ((s[s.length-1]!.toNat:Int)=97) by omega)]
   ·rw [decide_eq_false h2,decide_eq_false (show ¬ ((s[s.length-1]!.toNat:Int)=97) by omega)]
  ·have hc:((decide (1≤(s.length:Int))) && (decide ((s.length:Int)≤200)))=false:=by
    rw [← Bool.not_eq_true,Bool.and_eq_true,decide_eq_true_eq,decide_eq_true_eq]; omega
   have hd:(decide (1≤s.length) && decide (s.length≤200))=false:=by
    rw [← Bool.not_eq_true,Bool.and_eq_true,decide_eq_true_eq,decide_eq_true_eq]; exact h
   rw [hc,hd]; rfl
def YHl (o:YAP):Prop:=(1≤o.Clock∧o.Clock≤1073741824)∧(0≤o.Site∧o.Site≤1000)∧(1≤o.Item∧o.Item≤1073741824)
instance (o:YAP):Decidable (YHl o):=by unfold YHl; infer_instance
def YSp (o:YAP):Int:=
 if ¬ (o.Kind=0∨o.Kind=1) then 8 else if ¬ YHl o then 2
 else if o.Kind=0 then (if o.Name≠[]∨o.Value≠[] then 4 else if ¬ (-1≤o.Parent∧o.Parent≤1073741824) then 2 else if YIh o.Place=false then 9 else 0)
 else (if o.Parent≠0∨o.Place≠[] then 4 else if YFC o.Name=false then 9 else if o.Value≠[]∧YEW o.Value=false then 23 else 0)
def YUj (l:List YAP) (k:Nat):Option Int:=
 if YSp l[k]! ≠ 0 then some (YSp l[k]!) else if 0<k∧0≤ord2 l[k-1]!.Clock l[k]!.Clock l[k-1]!.Site l[k]!.Site then some 5 else none
def YUo (l:List YAP):Int:=((List.range l.length).findSome? (YUj l)).getD 0
def okDr (o:YAP):Prop:=o.Place.length≤1073741824∧o.Name.length≤1073741824∧o.Value.length≤1073741824
theorem YNq (o:YAP) (h:okDr o):YGM o=some (YSp o):=by
 obtain ⟨hp,hn,hv⟩:=h
 unfold YGM YSp
 rw [YKW _ (by omega),YKP _ (by omega),YES _ (by omega)]
 by_cases k0:o.Kind=0
 ·have k1 : ¬ o.Kind=1:=by omega
  rw [if_neg (show ¬ ((!decide (o.Kind=0)) && (!decide (o.Kind=1)))=true by rw [decide_eq_true k0]; simp),if_neg (show ¬ ¬ (o.Kind=0∨o.Kind=1) from fun h=>h (.inl k0))]
  by_cases hr:YHl o
  ·have hr':=hr
   unfold YHl at hr'
   rw [if_neg (by simp only [Bool.or_eq_true,decide_eq_true_eq]; omega),if_neg (Classical.not_not.2 hr),if_pos k0,decide_eq_true k0,decide_eq_false k1]
   by_cases c1:o.Name≠[]∨o.Value≠[]
   ·have hc:(true && ((!decide (o.Name=[])) || (!decide (o.Value=[]))))=true:=by
     rw [Bool.true_and,Bool.or_eq_true]
     rcases c1 with c | c
     ·exact .inl (ndT c)
     ·exact .inr (ndT c)
    rw [if_pos c1,hc]; rfl
   ·have c2:o.Name=[]∧o.Value=[]:=⟨Classical.byContradiction fun h=>c1 (.inl h),Classical.byContradiction fun h=>c1 (.inr h)⟩
    have hc:(true && ((!decide (o.Name=[])) || (!decide (o.Value=[]))))=false:=by rw [decide_eq_true c2.1,decide_eq_true c2.2]; rfl
    rw [if_neg c1,hc]
    by_cases c3 : -1≤o.Parent∧o.Parent≤1073741824
    ·rw [if_neg (Classical.not_not.2 c3)]
     have c4:((decide (o.Parent<(-1))) || (decide (1073741824<o.Parent)))=false:=by
      rw [← Bool.not_eq_true,Bool.or_eq_true,decide_eq_true_eq,decide_eq_true_eq]; omega
     rw [c4]
     cases YIh o.Place with
     | false=>rfl
     | true=>rw [decide_eq_true c2.2]; rfl
    ·rw [if_pos c3]
     have c4:((decide (o.Parent<(-1))) || (decide (1073741824<o.Parent)))=true:=by
      rw [Bool.or_eq_true,decide_eq_true_eq,decide_eq_true_eq]; omega
     rw [c4]; rfl
  ·rw [if_pos (by unfold YHl at hr; simp only [Bool.or_eq_true,decide_eq_true_eq]; omega),if_pos hr]
 ·by_cases k1:o.Kind=1
  ·rw [if_neg (show ¬ ((!decide (o.Kind=0)) && (!decide (o.Kind=1)))=true by rw [decide_eq_true k1,decide_eq_false k0]; decide),if_neg (show ¬ ¬ (o.Kind=0∨o.Kind=1) from fun h=>h (.inr k1))]
   by_cases hr:YHl o
   ·have hr':=hr
    unfold YHl at hr'
    rw [if_neg (by simp only [Bool.or_eq_true,decide_eq_true_eq]; omega),if_neg (Classical.not_not.2 hr),if_neg k0,decide_eq_false k0,decide_eq_true k1]
    by_cases c1:o.Parent≠0∨o.Place≠[]
    ·have hc:(true && ((!decide (o.Parent=0)) || (!decide (o.Place=[]))))=true:=by
      rw [Bool.true_and,Bool.or_eq_true]
      rcases c1 with c | c
      ·exact .inl (ndT c)
      ·exact .inr (ndT c)
     rw [if_pos c1,hc]; rfl
    ·have c2:o.Parent=0∧o.Place=[]:=⟨Classical.byContradiction fun h=>c1 (.inl h),Classical.byContradiction fun h=>c1 (.inr h)⟩
     have hc:(true && ((!decide (o.Parent=0)) || (!decide (o.Place=[]))))=false:=by rw [decide_eq_true c2.1,decide_eq_true c2.2]; rfl
     rw [if_neg c1,hc]
     cases YFC o.Name with
     | false=>rfl
     | true=>
      by_cases c3:o.Value=[]
      ·rw [decide_eq_true c3,if_neg (show ¬ (true=false) by decide),if_neg (show ¬ (o.Value≠[]∧YEW o.Value=false) from fun h=>h.1 c3)]; rfl
      ·rw [decide_eq_false c3,if_neg (show ¬ (true=false) by decide)]
       cases hvv:YEW o.Value with
       | false=>rw [if_pos (show o.Value≠[]∧false=false from ⟨c3,rfl⟩)]; rfl
       | true=>rw [if_neg (show ¬ (o.Value≠[]∧true=false) from fun h=>by cases h.2)]; rfl
   ·rw [if_pos (by unfold YHl at hr; simp only [Bool.or_eq_true,decide_eq_true_eq]; omega),if_pos hr]
  ·rw [if_pos (show ((!decide (o.Kind=0)) && (!decide (o.Kind=1)))=true by rw [decide_eq_false k1,decide_eq_false k0]; rfl),if_pos (show ¬ (o.Kind=0∨o.Kind=1) from fun h=>h.elim k0 k1)]
theorem YTR (a b:YAP):YDb a b=some (ord2 a.Clock b.Clock a.Site b.Site):=by
 unfold YDb
 rw [YR2,YR2,YAA,YAA,YPl,YAA,or2]
theorem YSn (a b:YAP):YEa a b=some (!decide (0≤ord2 a.Clock b.Clock a.Site b.Site)):=by
 unfold YEa
 congr 1
 rw [Bool.eq_iff_iff]
 have:=YN1 a.Clock b.Clock a.Site b.Site
 simp only [Bool.or_eq_true,Bool.and_eq_true,decide_eq_true_eq,Bool.not_eq_true',decide_eq_false_iff_not,this]
 omega
theorem YKX (l:List YAP) (hm:l.length≤1073741824) (hl : ∀ o∈l,okDr o):YEB l=some (YUo l):=by
 unfold YEB
 rw [YAa (n:=l.length) (YUj l) (fun k hk=>by
  unfold YCh YUj
  rw [if_pos (by simpa using hk),YAG hk,YAA,YNq _ (hl _ (YBI hk)),YAA]
  by_cases e:YSp l[k]! = 0
  ·rw [if_neg (ndF e),if_neg (Classical.not_not.2 e)]
   by_cases h0:0<k
   ·rw [decide_eq_true (show (0:Int)<k by omega),show ((true == true):Bool)=true from rfl,YAI,YDR h0 (by omega),YAA,YAI,YAG (show k-1<l.length by omega),YAA,YAI,YTR,YAA]
    by_cases h3:0≤ord2 l[k-1]!.Clock l[k]!.Clock l[k-1]!.Site l[k]!.Site
    ·rw [decide_eq_true h3,if_pos (show 0<k∧0≤ord2 l[k-1]!.Clock l[k]!.Clock l[k-1]!.Site l[k]!.Site from ⟨h0,h3⟩)]; rfl
    ·rw [decide_eq_false h3,if_neg (show ¬ (0<k∧0≤ord2 l[k-1]!.Clock l[k]!.Clock l[k-1]!.Site l[k]!.Site) from fun h=>h3 h.2),YAQ (by omega)]; rfl
   ·rw [if_neg (show ¬ (0<k∧0≤ord2 l[k-1]!.Clock l[k]!.Clock l[k-1]!.Site l[k]!.Site) from fun h=>h0 h.1),decide_eq_false (show ¬ (0:Int)<k by omega),YAQ (by omega)]; rfl
  ·rw [if_pos (ndT e),if_pos e]; rfl) (by unfold YCh; rw [if_neg (by simp)]),YCb]
 rfl
theorem YKa (l:List YAP) (hm:l.length≤1073741824) (hl : ∀ o∈l,okDr o):YEJ l=some (YUo l):=by
 unfold YEJ
 rw [YAa (n:=l.length) (YUj l) (fun k hk=>by
  obtain ⟨hp,hn,hv⟩:=hl _ (YBI hk)
  have htail:(bnd1 (gd ((decide (0<(k:Int))) == true) (chk .i64 ((k:Int)-1))) fun (x5:Int)=>
    bnd1 (gd ((decide (0<(k:Int))) == true) (idx l x5)) fun (x6:YAP)=>
    bnd1 (gd ((decide (0<(k:Int))) == true) (YEa x6 l[k]!)) fun (r4:Bool)=>
    if ((decide (0<(k:Int))) && (!r4)) then (some (.inr (.ext 5)):Option (Int ⊕ (Ctl Unit Int))) else (
     bnd1 (chk .i64 ((k:Int)+1)) fun (x7:Int)=>some (.inl x7)))=YBW k (if 0<k∧0≤ord2 l[k-1]!.Clock l[k]!.Clock l[k-1]!.Site l[k]!.Site then some 5 else none):=by
   by_cases h0:0<k
   ·rw [decide_eq_true (show (0:Int)<k by omega),show ((true == true):Bool)=true from rfl,YAI,YDR h0 (by omega),YAA,YAI,YAG (show k-1<l.length by omega),YAA,YAI,YSn,YAA]
    by_cases h3:0≤ord2 l[k-1]!.Clock l[k]!.Clock l[k-1]!.Site l[k]!.Site
    ·rw [decide_eq_true h3,if_pos (show 0<k∧0≤ord2 l[k-1]!.Clock l[k]!.Clock l[k-1]!.Site l[k]!.Site from ⟨h0,h3⟩)]; rfl
    ·rw [decide_eq_false h3,if_neg (show ¬ (0<k∧0≤ord2 l[k-1]!.Clock l[k]!.Clock l[k-1]!.Site l[k]!.Site) from fun h=>h3 h.2),YAQ (by omega)]; rfl
   ·rw [if_neg (show ¬ (0<k∧0≤ord2 l[k-1]!.Clock l[k]!.Clock l[k-1]!.Site l[k]!.Site) from fun h=>h0 h.1),decide_eq_false (show ¬ (0:Int)<k by omega),YAQ (by omega)]; rfl
  unfold YCp YUj YSp
  rw [if_pos (by simpa using hk),YAG hk,YAA,htail,YBA,YAA,YBA,YBA,YBA,YPA _ (by omega),YLh _ (by omega),YHg _ (by omega)]
  generalize l[k]! = o at hp hn hv ⊢
  by_cases kk:o.Kind=0∨o.Kind=1
  ·rw [if_neg (show ¬ ((!decide (o.Kind=0)) && (!decide (o.Kind=1)))=true by rcases kk with h | h <;> rw [decide_eq_true h] <;> simp),if_neg (Classical.not_not.2 kk)]
   by_cases hr:YHl o
   ·rw [if_neg (Classical.not_not.2 hr),decide_eq_true hr.1,show ((!true) == false)=true from rfl,YAI,YAA,decide_eq_true hr.2.1,show (((!true) || (!true)) == false)=true from rfl,YAI,YAA,decide_eq_true hr.2.2,if_neg (show ¬ (((!true) || (!true)) || (!true))=true by decide)]
    by_cases k0:o.Kind=0
    ·rw [if_pos (decide_eq_true k0),if_pos k0]
     by_cases c1:o.Name≠[]∨o.Value≠[]
     ·have hc:((!decide (o.Name=[])) || (!decide (o.Value=[])))=true:=by
       rw [Bool.or_eq_true]
       rcases c1 with c | c
       ·exact .inl (ndT c)
       ·exact .inr (ndT c)
      rw [if_pos c1,if_pos hc]; rfl
     ·have c2:o.Name=[]∧o.Value=[]:=⟨Classical.byContradiction fun h=>c1 (.inl h),Classical.byContradiction fun h=>c1 (.inr h)⟩
      rw [if_neg c1,if_neg (show ¬ ((!decide (o.Name=[])) || (!decide (o.Value=[])))=true by rw [decide_eq_true c2.1,decide_eq_true c2.2]; decide),YAA]
      by_cases c3 : -1≤o.Parent∧o.Parent≤1073741824
      ·rw [if_neg (Classical.not_not.2 c3),decide_eq_true c3,if_neg (show ¬ ((!true)=true) by decide),YAA]
       cases YIh o.Place <;> rfl
      ·rw [if_pos c3,decide_eq_false c3]; rfl
    ·rw [if_neg (show ¬ decide (o.Kind=0)=true by simpa using k0),if_neg k0]
     by_cases c1:o.Parent≠0∨o.Place≠[]
     ·have hc:((!decide (o.Parent=0)) || (!decide (o.Place=[])))=true:=by
       rw [Bool.or_eq_true]
       rcases c1 with c | c
       ·exact .inl (ndT c)
       ·exact .inr (ndT c)
      rw [if_pos c1,if_pos hc]; rfl
     ·have c2:o.Parent=0∧o.Place=[]:=⟨Classical.byContradiction fun h=>c1 (.inl h),Classical.byContradiction fun h=>c1 (.inr h)⟩
      rw [if_neg c1,if_neg (show ¬ ((!decide (o.Parent=0)) || (!decide (o.Place=[])))=true by rw [decide_eq_true c2.1,decide_eq_true c2.2]; decide),YAA]
      cases YFC o.Name with
      | false=>rfl
      | true=>
       by_cases c3:o.Value=[]
       ·rw [decide_eq_true c3,if_neg (show ¬ (true=false) by decide),if_neg (show ¬ (o.Value≠[]∧YEW o.Value=false) from fun h=>h.1 c3)]; rfl
       ·rw [decide_eq_false c3,if_neg (show ¬ (true=false) by decide)]
        cases hvv:YEW o.Value with
        | false=>rw [if_pos (show o.Value≠[]∧false=false from ⟨c3,rfl⟩)]; rfl
        | true=>rw [if_neg (show ¬ (o.Value≠[]∧true=false) from fun h=>by cases h.2)]; rfl
   ·rw [if_pos hr]
    unfold YHl at hr
    by_cases a1:1≤o.Clock∧o.Clock≤1073741824
    ·rw [decide_eq_true a1,show ((!true) == false)=true from rfl,YAI,YAA]
     by_cases a2:0≤o.Site∧o.Site≤1000
     ·rw [decide_eq_true a2,show (((!true) || (!true)) == false)=true from rfl,YAI,YAA,decide_eq_false (show ¬ (1≤o.Item∧o.Item≤1073741824) by omega)]; rfl
     ·rw [decide_eq_false a2]; rfl
    ·rw [decide_eq_false a1]; rfl
  ·have hk2:((!decide (o.Kind=0)) && (!decide (o.Kind=1)))=true:=by
    rw [decide_eq_false (fun h=>kk (.inl h)),decide_eq_false (fun h=>kk (.inr h))]; rfl
   rw [if_pos hk2,if_pos kk]; rfl) (by unfold YCp; rw [if_neg (by simp)]),YCb]
 rfl
theorem YMv:YDk=YEO:=by funext k; rfl
theorem YSb:YGs=YHu:=by funext k; rfl
theorem YSh:YFj=YHw:=by funext k; rfl
theorem YSo:YGt=YFr:=by funext k; rfl
structure okN2 (n:YAR):Prop where
 ok:okN n
 ce : ∀ c∈n.Grid.Cells,okC c
 dr : ∀ o∈n.Draw,okDr o
theorem okN2.gd {n:YAR} (h:okN2 n):okGd n.Grid:=⟨h.ok.gr.1,h.ok.gr.2.1,h.ce⟩
def YSc (kind:Int) (c:YAd):Bool:=((decide (kind=2)) && ((!decide (c.Text=[])) || (decide (0<(c.Attrs.length:Int))))) || ((decide (kind=6)) && (!decide (c.Ref=0)))
def YRe (kind:Int) (l:List YAd):Int:=((List.range l.length).findSome? fun k=>if YSc kind l[k]! then some (4:Int) else none).getD 0
theorem YOV (kind:Int) (l:List YAd) (hm:l.length≤1073741824):YDd kind l=some (YRe kind l):=by
 unfold YDd
 rw [YAa (n:=l.length) (fun k=>if YSc kind l[k]! then some (4:Int) else none) (fun k hk=>by
  unfold YCN
  rw [if_pos (by simpa using hk),YAG hk,YAA,YAQ (by omega)]
  show (if YSc kind l[k]! = true then _ else _)=_
  cases YSc kind l[k]! <;> rfl) (by unfold YCN; rw [if_neg (by simp)]),YCb]
 rfl
theorem YPo (kind:Int) (l:List YAd) (hm:l.length≤1073741824):YEK kind l=some (YRe kind l):=by
 unfold YEK
 rw [YAa (n:=l.length) (fun k=>if YSc kind l[k]! then some (4:Int) else none) (fun k hk=>by
  unfold YCq YSc
  rw [if_pos (by simpa using hk),YAG hk,YAQ (by omega)]
  generalize l[k]! = c
  by_cases h2:kind=2
  ·have h6 : ¬ kind=6:=by omega
   rw [decide_eq_true h2,decide_eq_false h6]
   rw [show ((true == true):Bool)=true from rfl,YAI,YAA]
   generalize ((!decide (c.Text=[])) || (decide (0<(c.Attrs.length:Int))))=q
   cases q <;> rfl
  ·by_cases h6:kind=6
   ·rw [decide_eq_false h2,decide_eq_true h6]
    rw [show ((false == true):Bool)=false from rfl,YBY,YAA]
    show (bnd1 (gd true (some c)) fun (x5:YAd)=>_)=_
    rw [YAI,YAA]
    generalize (!decide (c.Ref=0))=q
    cases q <;> rfl
   ·rw [decide_eq_false h2,decide_eq_false h6]; rfl) (by unfold YCq; rw [if_neg (by simp)]),YCb]
 rfl
def YXw (t l g z d fl dr:Bool):Bool:=((!(t || l) && fl) || (!g && !z)) || (!d && dr)
theorem YUV (t l g z d fl dr:Bool) :
  (if (((!(t || l)) && fl) == false) then (
   if ((!g) == true) then (
    bnd1 (gd ((((!(t || l)) && fl) || ((!g) && (!z))) == false) (some d)) fun (r8:Bool)=>
    some ((((!(t || l)) && fl) || ((!g) && (!z))) || ((!r8) && dr))
   ) else (
    bnd1 (gd ((((!(t || l)) && fl) || ((!g) && false)) == false) (some d)) fun (r9:Bool)=>
    some ((((!(t || l)) && fl) || ((!g) && false)) || ((!r9) && dr))
   )
  ) else (
   bnd1 (gd ((((!(t || l)) && fl) || false) == false) (some d)) fun (r10:Bool)=>
   some ((((!(t || l)) && fl) || false) || ((!r10) && dr))
  ))=some (YXw t l g z d fl dr):=by
 cases t <;> cases l <;> cases g <;> cases z <;> cases d <;> cases fl <;> cases dr <;> rfl
theorem YV9 {X:Type} (t l g z d fl dr:Bool) (A B:Option X) :
  (bnd1 (gd ((fl && (!(t || l))) == false) (some z)) fun (r5:Bool)=>
   bnd1 (gd (((fl && (!(t || l))) == false) && ((!r5) == true)) (some g)) fun (r6:Bool)=>
   bnd1 (gd ((((fl && (!(t || l))) || ((!r5) && (!r6))) == false) && (dr == true)) (some d)) fun (r7:Bool)=>
   if (((fl && (!(t || l))) || ((!r5) && (!r6))) || (dr && (!r7))) then A else B)=if YXw t l g z d fl dr=true then A else B:=by
 cases t <;> cases l <;> cases g <;> cases z <;> cases d <;> cases fl <;> cases dr <;> rfl
theorem YPO {α:Type} (l:List α):decide ((l.length:Int)=0)=l.isEmpty:=by
 cases l with
 | nil=>rfl
 | cons a l=>exact decide_eq_false (by simp only [List.length_cons]; omega)
theorem YPz (g:YAy):YEq g=some (decide (g=YAy.mk 0 0 [] [])):=by
 unfold YEq
 congr 1
 obtain ⟨a,b,c,d⟩:=g
 rw [YPO,YPO,Bool.eq_iff_iff]
 simp [and_assoc]
theorem YLp (n:YAR) (h:okN2 n) : ∃ e,YAz n=some e∧YEF n=some e:=by
 have ha:=h.ok.at_
 have hf:=h.ok.fl
 have hg:=h.ok.gr
 have hd:=h.ok.dr
 have hfe : ∀ x∈n.Flow,okE x:=fun x hx=>⟨by have:=(h.ok.fa x hx).1; omega,(h.ok.fa x hx).2⟩
 unfold YAz YEF
 rw [YMv,YSb,YSh,YSo,YBA,YAA]
 by_cases c1:1≤n.ID∧n.ID≤1073741824
 ·rw [if_neg (show ¬ ((decide (n.ID<1)) || (decide (1073741824<n.ID)))=true by simp only [Bool.or_eq_true,decide_eq_true_eq]; omega),decide_eq_true c1,if_neg (show ¬ ((!true)=true) by decide),YBA,YAA]
  by_cases c2:(0≤n.Kind∧n.Kind≤12)∧(n.ID=1↔n.Kind=0)
  ·obtain ⟨c2,c3⟩:=c2
   have e1:(((decide (n.Kind<0)) || (decide (13≤n.Kind))) || (!((decide (n.ID=1)) == (decide (n.Kind=0)))))=false:=by
    rw [decide_eq_false (show ¬ n.Kind<0 by omega),decide_eq_false (show ¬ 13≤n.Kind by omega)]
    by_cases q:n.ID=1
    ·rw [decide_eq_true q,decide_eq_true (c3.1 q)]; rfl
    ·rw [decide_eq_false q,decide_eq_false (fun e=>q (c3.2 e))]; rfl
   have e2:(((!decide (0≤n.Kind∧n.Kind≤12)) || ((decide (n.ID=1)) && (!decide (n.Kind=0)))) || ((!decide (n.ID=1)) && (decide (n.Kind=0))))=false:=by
    rw [decide_eq_true c2]
    by_cases q:n.ID=1
    ·rw [decide_eq_true q,decide_eq_true (c3.1 q)]; rfl
    ·rw [decide_eq_false q,decide_eq_false (fun e=>q (c3.2 e))]; rfl
   rw [e1,e2,if_neg (show ¬ (false=true) by decide),if_neg (show ¬ (false=true) by decide),YFO _ ha.2 (by have:=ha.1; omega),YAA,YDN _ _ ha.2 (by have:=ha.1; omega),YAA]
   by_cases c4:YAv n.Attrs false=0
   ·rw [if_neg (ndF c4),if_neg (ndF c4)]
    obtain ⟨t,ht⟩ : ∃ t,YEO n.Kind=some t:=⟨_,rfl⟩
    obtain ⟨l,hl⟩ : ∃ t,YHu n.Kind=some t:=⟨_,rfl⟩
    obtain ⟨g,hgk⟩ : ∃ t,YHw n.Kind=some t:=⟨_,rfl⟩
    obtain ⟨d,hdk⟩ : ∃ t,YFr n.Kind=some t:=⟨_,rfl⟩
    rw [ht,hl,hgk,hdk,YAA,YAA,YUQ _ _ hg,YPz]
    have hll : ∃ l',gd (t == false) (some l)=some l':=by cases t <;> exact ⟨_,rfl⟩
    obtain ⟨l',hl'⟩:=hll
    rw [hl',YAA,YAA,YAA,YUV,YAA,YAA,YV9]
    by_cases c5:YXw t l' g (decide (n.Grid=YAy.mk 0 0 [] [])) d (decide (0<(n.Flow.length:Int))) (decide (0<(n.Draw.length:Int)))=true
    ·rw [if_pos c5,if_pos c5]; exact ⟨_,rfl,rfl⟩
    ·rw [if_neg c5,if_neg c5]
     by_cases c6:(t || l')=true
     ·obtain ⟨r,h1,h2⟩:=YQv n.Flow t hfe (by omega)
      rw [if_pos c6,if_pos c6,h1,h2]; exact ⟨_,rfl,rfl⟩
     ·rw [if_neg c6,if_neg c6]
      cases g with
      | true=>
       rw [if_pos rfl,YOF _ h.gd,YAA,YAA,if_pos rfl,YKY _ h.gd,YAA]
       by_cases c7:YLu n.Grid=0
       ·rw [if_neg (ndF c7),if_neg (ndF c7),YOV _ _ (by have:=hg.1; omega),YPo _ _ (by have:=hg.1; omega)]; exact ⟨_,rfl,rfl⟩
       ·rw [if_pos (ndT c7),if_pos (ndT c7)]; exact ⟨_,rfl,rfl⟩
      | false=>
       rw [if_neg (show ¬ (false=true) by decide),YAA,if_neg (show ¬ (false=true) by decide),YKX _ (by omega) h.dr,YKa _ (by omega) h.dr]; exact ⟨_,rfl,rfl⟩
   ·rw [if_pos (ndT c4),if_pos (ndT c4)]; exact ⟨_,rfl,rfl⟩
  ·have e1:(((decide (n.Kind<0)) || (decide (13≤n.Kind))) || (!((decide (n.ID=1)) == (decide (n.Kind=0)))))=true:=by
    by_cases q1:0≤n.Kind∧n.Kind≤12
    ·have q2 : ¬ (n.ID=1↔n.Kind=0):=fun e=>c2 ⟨q1,e⟩
     by_cases q:n.ID=1
     ·rw [decide_eq_true q,decide_eq_false (fun e=>q2 ⟨fun _=>e,fun _=>q⟩),Bool.or_eq_true]; exact .inr rfl
     ·rw [decide_eq_false q,decide_eq_true (Classical.byContradiction fun e=>q2 ⟨fun x=>absurd x q,fun x=>absurd x e⟩),Bool.or_eq_true]; exact .inr rfl
    ·simp only [Bool.or_eq_true,decide_eq_true_eq]; exact .inl (by omega)
   have e2:(((!decide (0≤n.Kind∧n.Kind≤12)) || ((decide (n.ID=1)) && (!decide (n.Kind=0)))) || ((!decide (n.ID=1)) && (decide (n.Kind=0))))=true:=by
    by_cases q1:0≤n.Kind∧n.Kind≤12
    ·have q2 : ¬ (n.ID=1↔n.Kind=0):=fun e=>c2 ⟨q1,e⟩
     rw [decide_eq_true q1]
     by_cases q:n.ID=1
     ·rw [decide_eq_true q,decide_eq_false (fun e=>q2 ⟨fun _=>e,fun _=>q⟩)]; rfl
     ·rw [decide_eq_false q,decide_eq_true (Classical.byContradiction fun e=>q2 ⟨fun x=>absurd x q,fun x=>absurd x e⟩)]; rfl
    ·rw [decide_eq_false q1]; rfl
   rw [e1,e2]; exact ⟨_,rfl,rfl⟩
 ·rw [if_pos (show ((decide (n.ID<1)) || (decide (1073741824<n.ID)))=true by simp only [Bool.or_eq_true,decide_eq_true_eq]; omega),decide_eq_false c1]; exact ⟨_,rfl,rfl⟩
theorem YSg (s:List Int) (v:Int) (hm:s.length≤1048576):YAo s v=some ((List.range s.length).find? fun j=>decide (v=s[j]!)).isSome:=by
 unfold YAo YCD
 rw [YAa (n:=s.length) (fun j=>if decide (v=s[j]!) then some (j:Int) else none) (fun j hj=>by
  unfold YBH
  rw [if_pos (by simpa using hj),YAG hj,YAA,YAQ (by omega)]
  cases decide (v=s[j]!) <;> rfl) (by unfold YBH; rw [if_neg (by simp)]),YF8,YBN]
 cases (List.range s.length).find? fun j=>decide (v=s[j]!) with
 | none=>rfl
 | some j=>
  show (bnd1 (some (j:Int)) fun (r1:Int)=>some (decide (0≤r1)))=_
  rw [YAA,decide_eq_true (Int.natCast_nonneg j)]; rfl
theorem YCR (s:List Int) (v:Int) (hm:s.length≤1048576):YAo s v=some (decide (v∈s)):=by
 rw [YSg s v hm]
 congr 1
 rw [Bool.eq_iff_iff,decide_eq_true_eq,List.find?_isSome]
 constructor
 ·rintro ⟨j,h1,h2⟩
  have hj:=List.mem_range.1 h1
  rw [of_decide_eq_true h2]; exact YBI hj
 ·intro h
  obtain ⟨j,hj,e⟩:=List.getElem_of_mem h
  exact ⟨j,List.mem_range.2 hj,decide_eq_true (by rw [getElem!_pos s j hj,e])⟩
def YT2 (p k:Int):Bool:=
 if p=0 then decide (k∈[1,6,7,10,11,12]) else if p=1 then decide (k∈[2,4,5,10]) else if p=3 then decide (k∈[4,5,10]) else if p=4∨p=12 then decide (k=5) else if p=2 then decide (k=3) else if p=7 then decide (k=8∨k=9) else false
theorem YWO (p k:Int):YEP p k=some (YT2 p k):=by
 unfold YEP YT2
 by_cases h0:p=0
 ·rw [if_pos (decide_eq_true h0),if_pos h0,YAA,YCR _ _ (by decide)]; rfl
 ·rw [if_neg (show ¬ decide (p=0)=true by simpa using h0),if_neg h0]
  by_cases h1:p=1
  ·rw [if_pos (decide_eq_true h1),if_pos h1,YAA,YCR _ _ (by decide)]; rfl
  ·rw [if_neg (show ¬ decide (p=1)=true by simpa using h1),if_neg h1]
   by_cases h3:p=3
   ·rw [if_pos (decide_eq_true h3),if_pos h3,YAA,YCR _ _ (by decide)]; rfl
   ·rw [if_neg (show ¬ decide (p=3)=true by simpa using h3),if_neg h3]
    have e4:(if decide (p=4)=true then some (decide (p=4)) else some (decide (p=12)))=some (decide (p=4∨p=12)):=by
     by_cases h4:p=4
     ·rw [if_pos (decide_eq_true h4),decide_eq_true h4,decide_eq_true (Or.inl h4:p=4∨p=12)]
     ·rw [if_neg (show ¬ decide (p=4)=true by simpa using h4)]
      congr 1
      rw [Bool.eq_iff_iff,decide_eq_true_eq,decide_eq_true_eq]
      exact ⟨.inr,fun h=>h.elim (fun h=>absurd h h4) id⟩
    rw [e4,YAA]
    by_cases h4:p=4∨p=12
    ·rw [if_pos (decide_eq_true h4),if_pos h4,YAA,YCR _ _ (by decide),YAA]
     congr 1; rw [Bool.eq_iff_iff]; simp
    ·rw [if_neg (show ¬ decide (p=4∨p=12)=true by simpa using h4),if_neg h4]
     by_cases h2:p=2
     ·rw [if_pos (decide_eq_true h2),if_pos h2,YAA,YCR _ _ (by decide),YAA]
      congr 1; rw [Bool.eq_iff_iff]; simp
     ·rw [if_neg (show ¬ decide (p=2)=true by simpa using h2),if_neg h2]
      by_cases h7:p=7
      ·rw [if_pos (decide_eq_true h7),if_pos h7,YAA,YCR _ _ (by decide),YAA]
       congr 1; rw [Bool.eq_iff_iff]; simp
      ·rw [if_neg (show ¬ decide (p=7)=true by simpa using h7),if_neg h7,YAA,YCR _ _ (by decide),YAA]; simp
theorem YVa (p k : Int) : YEE p k = some (YT2 p k) := by
  have hk : k = 1 ∨ k = 2 ∨ k = 3 ∨ k = 4 ∨ k = 5 ∨ k = 6 ∨ k = 7 ∨ k = 8 ∨ k = 9 ∨ k = 10 ∨ k = 11 ∨ k = 12 ∨ (k ≠ 1 ∧ k ≠ 2 ∧ k ≠ 3 ∧ k ≠ 4 ∧ k ≠ 5 ∧ k ≠ 6 ∧ k ≠ 7 ∧ k ≠ 8 ∧ k ≠ 9 ∧ k ≠ 10 ∧ k ≠ 11 ∧ k ≠ 12) := by omega
  have hp : p = 0 ∨ p = 1 ∨ p = 2 ∨ p = 3 ∨ p = 4 ∨ p = 7 ∨ p = 12 ∨ (p ≠ 0 ∧ p ≠ 1 ∧ p ≠ 2 ∧ p ≠ 3 ∧ p ≠ 4 ∧ p ≠ 7 ∧ p ≠ 12) := by omega
  unfold YEE YT2 YDk
  rcases hk with rfl | rfl | rfl | rfl | rfl | rfl | rfl | rfl | rfl | rfl | rfl | rfl | ⟨k1, k2, k3, k4, k5, k6, k7, k8, k9, k10, k11, k12⟩
  all_goals first
    | (rcases hp with rfl | rfl | rfl | rfl | rfl | rfl | rfl | ⟨p0, p1, p2, p3, p4, p7, p12⟩
       all_goals first | rfl | (simp [p0, p1, p2, p3, p4, p7, p12]; done))
    | (rcases hp with rfl | rfl | rfl | rfl | rfl | rfl | rfl | ⟨p0, p1, p2, p3, p4, p7, p12⟩
       all_goals first
         | (simp [k1, k2, k3, k4, k5, k6, k7, k8, k9, k10, k11, k12]; done)
         | (simp [k1, k2, k3, k4, k5, k6, k7, k8, k9, k10, k11, k12, p0, p1, p2, p3, p4, p7, p12]; done))
theorem YXC {n:Nat} (h:n<9223372036854775808):IntKind.u64.wrap (n:Int)=(n:Int):=by
 have e:(n:Int) % (2 ^ (64:Nat):Int)=(n:Int):=Int.emod_eq_of_lt (by omega) (by omega)
 show (if (false && decide ((n:Int) % (2 ^ (64:Nat):Int) ≥ (2 ^ (63:Nat):Int)))=true then (n:Int) % (2 ^ (64:Nat):Int)-(2 ^ (64:Nat):Int) else (n:Int) % (2 ^ (64:Nat):Int))=_
 rw [e,if_neg (by simp)]
theorem half (m:Nat) (h:m<4294967296):IntKind.i64.wrap (shrC .u64 (IntKind.u64.wrap (m:Int)) 1)=((m / 2:Nat):Int):=by
 rw [YXC (by omega)]
 show IntKind.i64.wrap ((m:Int).fdiv (2 ^ (min 1 64)))=_
 rw [show ((2:Int) ^ (min 1 64))=2 from rfl,Int.fdiv_eq_ediv_of_nonneg _ (by omega),show (m:Int) / 2=((m / 2:Nat):Int) by omega,YWb (by omega)]
def YLX (l:List YAR):Prop:=∀ a b:Nat,a<b→b<l.length→l[a]!.ID<l[b]!.ID
theorem YUb (n:YAR) (id:Int):YEf n id=some (if n.ID<id then -1 else if id<n.ID then 1 else 0):=by
 unfold YEf
 by_cases h1:n.ID<id
 ·rw [if_pos (decide_eq_true h1),if_pos h1]
 ·rw [if_neg (show ¬ decide (n.ID<id)=true by simpa using h1),if_neg h1]
  by_cases h2:id<n.ID
  ·rw [if_pos (decide_eq_true h2),if_pos h2]
  ·rw [if_neg (show ¬ decide (id<n.ID)=true by simpa using h2),if_neg h2]
theorem YUc (d:GDoc) (id:Int) (hm:d.Nodes.length≤1048576) (hs:YLX d.Nodes) : ∃ i:Nat,YH8 d id=some ((i:Int),(YIm d.Nodes id).isSome)∧(∀ k,YIm d.Nodes id=some k→i=k):=by
 obtain ⟨l⟩:=d
 dsimp only at hm hs ⊢
 have key : ∃ r,iter (fun (a:Int × Int)=>YAH l id a.1 a.2) (0,(l.length:Int))=some r ∧
   ∃ I:Nat,r=(I:Int)∧I≤l.length∧(∀ m,m<I→l[m]!.ID<id) ∧ ∀ m,I≤m→m<l.length → ¬ l[m]!.ID<id:=by
  refine YCx l.length (fun k st=>∃ I J:Nat,st=((I:Int),(J:Int))∧I≤J∧J≤l.length∧J-I≤l.length-k∧(∀ m,m<I→l[m]!.ID<id) ∧ ∀ m,J≤m→m<l.length → ¬ l[m]!.ID<id) _ ?_ ?_ ⟨0,l.length,rfl,by omega,by omega,by omega,fun m h=>absurd h (Nat.not_lt_zero _),fun m h1 h2=>absurd h2 (by omega)⟩
  ·rintro k st hk ⟨I,J,rfl,h1,h2,h3,h4,h5⟩
   dsimp only
   unfold YAH
   by_cases hIJ:I<J
   ·left
    rw [if_pos (by rw [decide_eq_true_eq]; omega),show (I:Int)+(J:Int)=((I+J:Nat):Int) by omega,YDC (by omega) (by omega),YAA,half _ (by omega),YAG (by omega),YAA,YUb,YAA]
    by_cases hc:l[(I+J) / 2]!.ID<id
    ·rw [if_pos hc,if_pos (by decide),YAQ (by omega)]
     refine ⟨_,rfl,(I+J) / 2+1,J,rfl,by omega,h2,by omega,fun m hmm=>?_,h5⟩
     by_cases e:m=(I+J) / 2
     ·rw [e]; exact hc
     ·have:=hs m ((I+J) / 2) (by omega) (by omega); omega
    ·rw [if_neg hc,if_neg (show ¬ decide ((if id<l[(I+J) / 2]!.ID then (1:Int) else 0)<0)=true by split <;> decide)]
     refine ⟨_,rfl,I,(I+J) / 2,rfl,by omega,by omega,by omega,h4,fun m e1 e2=>?_⟩
     by_cases e:m=(I+J) / 2
     ·rw [e]; exact hc
     ·have:=hs ((I+J) / 2) m (by omega) e2; omega
   ·right
    rw [if_neg (by rw [decide_eq_true_eq]; omega)]
    exact ⟨_,rfl,I,rfl,by omega,h4,fun m e1 e2=>h5 m (by omega) e2⟩
  ·rintro st ⟨I,J,rfl,h1,h2,h3,h4,h5⟩
   dsimp only
   unfold YAH
   rw [if_neg (by rw [decide_eq_true_eq]; omega)]
   exact ⟨_,rfl,I,rfl,by omega,h4,fun m e1 e2=>h5 m (by omega) e2⟩
 obtain ⟨r,hr,I,rfl,hI,h4,h5⟩:=key
 unfold YH8 YAU
 rw [hr,YAA]
 have hat : ∀ k,YIm l id=some k→I=k:=by
  intro k hf
  obtain ⟨e1,e2⟩:=YH7 hf
  have a1 : ¬ k<I:=fun h=>by have:=h4 k h; omega
  by_cases e:I=k
  ·exact e
  ·have:=hs I k (by omega) e1
   have:=h5 I (Nat.le_refl _) (by omega)
   omega
 refine ⟨I,?_,hat⟩
 by_cases hlt:I<l.length
 ·rw [decide_eq_true (show (I:Int)<(l.length:Int) by omega),show ((true == true):Bool)=true from rfl,YAI,YAG hlt,YAA,YAI,YUb,YAA,YAt]
  congr 2
  have h6:=h5 I (Nat.le_refl _) hlt
  rw [if_neg h6]
  cases hf:YIm l id with
  | some k=>
   obtain ⟨e1,e2⟩:=YH7 hf
   have:=hat k hf
   subst this
   rw [if_neg (by omega)]; rfl
  | none=>
   have hne:l[I]!.ID≠id:=by
    intro e
    have:=List.find?_eq_none.1 hf I (List.mem_range.2 hlt)
    exact this (decide_eq_true e)
   rw [if_pos (by omega)]; rfl
 ·rw [decide_eq_false (show ¬ (I:Int)<(l.length:Int) by omega)]
  show some ((I:Int),false)=_
  cases hf:YIm l id with
  | some k=>
   obtain ⟨e1,e2⟩:=YH7 hf
   have:=hat k hf
   omega
  | none=>rfl
def YHC (d:GDoc):Prop:=d.Nodes.length≤1048576 ∧ ∀ n∈d.Nodes,okN2 n
theorem YQR:YBF=YCP:=by funext f x o; rfl
theorem YQS (n:YAR):YFJ n=YCP n.Flow:=by funext x o; rfl
theorem YO9:YFI=YB9:=by funext n x o; rfl
theorem YSt (n:YAR) (w:List Int) (hm:n.Grid.Cells.length≤1048576) (hw:w.length≤1048576) : ∃ r,iter (fun (a:Int × (List Int))=>YB9 n a.1 a.2) (0,w)=some r∧r.length≤2097152:=by
 refine YCx n.Grid.Cells.length (fun k st=>st.1=(k:Int)∧st.2.length≤1048576+k) _ ?_ ?_ ⟨rfl,by simpa using hw⟩
 ·rintro k ⟨x,out⟩ hk ⟨rfl,ho⟩
  dsimp only at ho ⊢
  left
  unfold YB9
  rw [if_pos (by simpa using hk),YAG hk,YAA]
  by_cases r:n.Grid.Cells[k]!.Ref=0
  ·rw [if_neg (ndF r),YAA,YAQ (by omega),YAA]
   exact ⟨_,rfl,rfl,by dsimp only; omega⟩
  ·rw [if_pos (ndT r),app8 (by omega),YAA,YAA,YAQ (by omega),YAA]
   exact ⟨_,rfl,rfl,by dsimp only; rw [List.length_append,List.length_singleton]; omega⟩
 ·rintro ⟨x,out⟩ ⟨rfl,ho⟩
  dsimp only at ho ⊢
  unfold YB9
  rw [if_neg (by simp)]
  exact ⟨_,rfl,by omega⟩
theorem YTp (n:YAR) (h:okN2 n) : ∃ r,YG2 n=some r∧YGP n=some r∧r.length≤2097152:=by
 have hf:=h.ok.fl
 obtain ⟨w,h1,h2⟩:=YTo n.Flow (by omega)
 obtain ⟨r,h3,h4⟩:=YSt n w h.ok.gr.1 (by omega)
 refine ⟨r,?_,?_,h4⟩
 ·unfold YG2 YFn
  rw [YQR,h1,YAA,YAA,h3]; rfl
 ·unfold YGP
  rw [YQS,YO9,h1,YAA,h3]; rfl
theorem YSr (d:GDoc) (kind:Int) (refs:List Int) (hm:d.Nodes.length≤1048576) (hs:YLX d.Nodes) (hr:refs.length≤2097152) : ∃ e,YEQ d kind refs=some e∧YED d kind refs=some e:=by
 obtain ⟨o,h1,h2,_⟩:=YLw (ρ:=Int) (f:=fun (a:Int)=>YBv d kind refs a) (g:=fun (a:Int)=>YBu d kind refs a) (n:=refs.length) (fun _=>True) trivial (fun k hk _=>by
  unfold YBv YBu
  obtain ⟨i,hi,hik⟩:=YUc d refs[k]! hm hs
  rw [if_pos (by simpa using hk),if_pos (by simpa using hk),YAG hk,YAA,YAA,hi,YAt,YGu _ _ hm,YAA]
  cases hf:YIm d.Nodes refs[k]! with
  | none=>exact ⟨some 7,rfl,rfl,fun e=>by cases e⟩
  | some j=>
   obtain ⟨e1,e2⟩:=YH7 hf
   have:=hik j hf
   subst this
   dsimp only
   rw [if_neg (show ¬ ((!Option.isSome (some i))=true) by simp),YAG e1,YAA,YWO,YAA,if_neg (show ¬ decide ((i:Int)<0)=true by simp),YAA,YVa,YAA]
   cases YT2 kind d.Nodes[i]!.Kind with
   | false=>exact ⟨some 8,rfl,rfl,fun e=>by cases e⟩
   | true=>
    rw [YAQ (by omega)]
    exact ⟨none,rfl,rfl,fun _=>trivial⟩) (by unfold YBv; rw [if_neg (by simp)]) (by unfold YBu; rw [if_neg (by simp)])
 refine ⟨o.getD 0,?_,?_⟩
 ·unfold YEQ; rw [h1,YCb]
 ·unfold YED; rw [h2,YCb]
theorem YO3 {l:List YAR} (h : ∀ k,0<k→k<l.length→l[k-1]!.ID<l[k]!.ID):YLX l:=by
 intro a b hab hb
 induction b with
 | zero=>omega
 | succ b ih=>
  have h1:=h (b+1) (by omega) hb
  rw [Nat.add_sub_cancel] at h1
  by_cases e:a=b
  ·rw [e]; exact h1
  ·have:=ih (by omega) (by omega); omega
theorem YRy (d:GDoc) (h:YHC d) : ∃ e,YBh d=some e∧YC9 d=some e:=by
 obtain ⟨hm,hn⟩:=h
 unfold YBh YC9
 by_cases h0:d.Nodes.length=0
 ·rw [if_pos (by rw [decide_eq_true_eq]; omega),if_pos (by rw [decide_eq_true_eq]; omega)]; exact ⟨_,rfl,rfl⟩
 ·rw [if_neg (by rw [decide_eq_true_eq]; omega),if_neg (by rw [decide_eq_true_eq]; omega)]
  obtain ⟨o,h1,h2,h3⟩:=YLw (ρ:=Int) (f:=fun (a:Int)=>YB3 d a) (g:=fun (a:Int)=>YCJ d a) (n:=d.Nodes.length) (fun k=>∀ j,0<j→j<k→d.Nodes[j-1]!.ID<d.Nodes[j]!.ID) (fun j _ hj=>absurd hj (Nat.not_lt_zero _)) (fun k hk hI=>by
   unfold YB3 YCJ
   obtain ⟨e,e1,e2⟩:=YLp _ (hn _ (YBI hk))
   rw [if_pos (by simpa using hk),if_pos (by simpa using hk),YAG hk,YAA,YAA,e1,e2,YAA,YAA]
   by_cases he:e=0
   ·rw [if_neg (ndF he),if_neg (ndF he)]
    by_cases k0:k=0
    ·subst k0
     rw [decide_eq_true (show ((0:Nat):Int)=0 from rfl),show ((true == true):Bool)=true from rfl,YAI,show (0:Int)=((0:Nat):Int) from rfl,YAG hk,YAA,decide_eq_false (show ¬ ((0:Nat):Int)<((0:Nat):Int) by omega)]
     by_cases hid:d.Nodes[0]!.ID=1
     ·refine ⟨none,?_,?_,fun _ j j1 j2=>by omega⟩
      ·rw [decide_eq_true hid]; rfl
      ·rw [decide_eq_true hid]; rfl
     ·refine ⟨some 5,?_,?_,fun e=>by cases e⟩
      ·rw [decide_eq_false hid]; rfl
      ·rw [decide_eq_false hid]; rfl
    ·have k1:0<k:=by omega
     rw [decide_eq_false (show ¬ ((k:Int)=0) by omega),decide_eq_true (show (0:Int)<(k:Int) by omega),show ((false == true):Bool)=false from rfl,YBY,YAA]
     show ∃ o:Option Int,(bnd1 (gd true (chk .i64 ((k:Int)-1))) fun (x10:Int)=>bnd1 (gd true (idx d.Nodes x10)) fun (x11:YAR)=>_)=_∧(bnd1 (gd true (chk .i64 ((k:Int)-1))) fun (x11:Int)=>bnd1 (gd true (idx d.Nodes x11)) fun (x12:YAR)=>_)=_∧_
     rw [YAI,YDR k1 (by omega),YAA,YAA,YAI,YAG (show k-1<d.Nodes.length by omega),YAA,YAA,YAQ (by omega)]
     by_cases hid:d.Nodes[k]!.ID≤d.Nodes[k-1]!.ID
     ·rw [decide_eq_true hid]
      exact ⟨some 5,rfl,rfl,fun e=>by cases e⟩
     ·rw [decide_eq_false hid]
      refine ⟨none,rfl,rfl,fun _ j j1 j2=>?_⟩
      by_cases e:j=k
      ·rw [e]; omega
      ·exact hI j j1 (by omega)
   ·rw [if_pos (ndT he),if_pos (ndT he)]
    exact ⟨some e,rfl,rfl,fun e=>by cases e⟩) (by unfold YB3; rw [if_neg (by simp)]) (by unfold YCJ; rw [if_neg (by simp)])
  rw [h1,h2]
  cases o with
  | some e=>exact ⟨e,rfl,rfl⟩
  | none=>
   have hs:=YO3 (h3 rfl)
   show ∃ e,(ctl1 (iter (fun (a:Int)=>YDB d a) 0) fun (u4:Unit)=>some 0)=some e∧(ctl1 (iter (fun (a:Int)=>YBo d a) 0) fun (u4:Unit)=>some 0)=some e
   obtain ⟨o,e1,e2,_⟩:=YLw (ρ:=Int) (f:=fun (a:Int)=>YDB d a) (g:=fun (a:Int)=>YBo d a) (n:=d.Nodes.length) (fun _=>True) trivial (fun k hk _=>by
    unfold YDB YBo
    obtain ⟨r,r1,r2,r3⟩:=YTp _ (hn _ (YBI hk))
    obtain ⟨e,c1,c2⟩:=YSr d d.Nodes[k]!.Kind r hm hs r3
    rw [if_pos (by simpa using hk),if_pos (by simpa using hk),YAG hk,YAA,YAA,r1,r2,YAA,YAA,c1,c2,YAA]
    by_cases he:e=0
    ·rw [if_neg (ndF he),YAQ (by omega)]
     exact ⟨none,rfl,rfl,fun _=>trivial⟩
    ·rw [if_pos (ndT he)]
     exact ⟨some e,rfl,rfl,fun _=>trivial⟩) (by unfold YDB; rw [if_neg (by simp)]) (by unfold YBo; rw [if_neg (by simp)])
   exact ⟨o.getD 0,by rw [e1,YCb],by rw [e2,YCb]⟩
theorem YQc {μ:YAR→Nat} {γ:YAy→Nat} {ψ:YAd→Nat} {ρ:YAW→Nat} {δ:YAP→Nat} {ν:YAB→Nat} {κ:YAD→Nat}
  (hn : ∀ n,(n.Attrs.map κ).sum+(n.Flow.map ν).sum+γ n.Grid+(n.Draw.map δ).sum+1≤μ n) (hg : ∀ g,(g.Cells.map ψ).sum+(g.Merges.map ρ).sum+1≤γ g)
  (hc : ∀ c,c.Text.length+(c.Attrs.map κ).sum+1≤ψ c) (hr : ∀ r,1≤ρ r) (hd : ∀ o,o.Place.length+o.Name.length+o.Value.length+1≤δ o) (he : ∀ e,(e.Attrs.map κ).sum+1≤ν e) (ha : ∀ a,a.Name.length+a.Value.length+1≤κ a)
  {d:GDoc} (hb:(d.Nodes.map μ).sum≤1048576):YHC d:=by
 have h1:=YSZ hn hg (fun c=>by have:=hc c; omega) hr (fun o=>by have:=hd o; omega) he ha hb
 refine ⟨h1.1,fun n hm=>⟨h1.2 n hm,fun c hcm=>⟨(h1.2 n hm).gr.2.2 c hcm,?_⟩,fun o hom=>?_⟩⟩
 ·have h2:=YDt (μ:=μ) hm
  have h3:=hn n
  have h4:=hg n.Grid
  have h5:=YDt (μ:=ψ) hcm
  have:=hc c
  omega
 ·have h2:=YDt (μ:=μ) hm
  have h3:=hn n
  have h5:=YDt (μ:=δ) hom
  have:=hd o
  exact ⟨by omega,by omega,by omega⟩
theorem YFN {α β:Type} {o:Option α} {f:α→Option β} {r:β} (h:bnd1 o f=some r) : ∃ a,o=some a∧f a=some r:=by
 cases o with
 | none=>cases h
 | some a=>exact ⟨a,rfl,h⟩
theorem YT9 {n:YAR} (h:okN2 n) (h0:YAz n=some 0) (ht:YEO n.Kind=some true):YGz n.Flow=0:=by
 have hfe : ∀ x∈n.Flow,okE x:=fun x hx=>⟨by have:=(h.ok.fa x hx).1; omega,(h.ok.fa x hx).2⟩
 have hfl:=h.ok.fl
 unfold YAz at h0
 split at h0
 ·cases h0
 split at h0
 ·cases h0
 obtain ⟨e,_,h0⟩:=YFN h0
 split at h0
 ·rename_i c; injection h0 with h0; rw [h0] at c; simp at c
 obtain ⟨r1,e1,h0⟩:=YFN h0
 rw [ht] at e1
 cases e1
 obtain ⟨r2,_,h0⟩:=YFN h0
 obtain ⟨g,_,h0⟩:=YFN h0
 obtain ⟨x1,_,h0⟩:=YFN h0
 split at h0
 ·cases h0
 rw [if_pos (show (true || r2)=true from rfl)] at h0
 obtain ⟨r4,e4,h0⟩:=YFN h0
 injection h0 with h0
 rw [YJI _ hfe (by omega),h0] at e4
 injection e4
theorem YRx {d:GDoc} (h:YHC d) (h0:YBh d=some 0):YLX d.Nodes ∧ ∀ k,k<d.Nodes.length→YAz d.Nodes[k]! = some 0:=by
 obtain ⟨hm,hn⟩:=h
 unfold YBh at h0
 split at h0
 ·cases h0
 let g:Nat→Option Int:=fun k=>if (YAz d.Nodes[k]!).getD 0≠0 then some ((YAz d.Nodes[k]!).getD 0) else if (k=0∧d.Nodes[k]!.ID≠1)∨(0<k∧d.Nodes[k]!.ID≤d.Nodes[k-1]!.ID) then some 5 else none
 have hit:iter (fun (a:Int)=>YB3 d a) 0=some (YI8 ((List.range d.Nodes.length).findSome? g)):=by
  refine YAa g (fun k hk=>?_) (by unfold YB3; rw [if_neg (by simp)])
  unfold YB3
  obtain ⟨e,e1,_⟩:=YLp _ (hn _ (YBI hk))
  show _=YBW k (g k)
  simp only [g]
  rw [if_pos (by simpa using hk),YAG hk,YAA,e1,YAA]
  show _=YBW k (if e≠0 then some e else _)
  by_cases he:e=0
  ·rw [if_neg (ndF he),if_neg (by simpa using he)]
   by_cases k0:k=0
   ·subst k0
    rw [decide_eq_true (show ((0:Nat):Int)=0 from rfl),decide_eq_false (show ¬ (0:Int)<((0:Nat):Int) by omega)]
    by_cases hid:d.Nodes[0]!.ID=1
    ·rw [decide_eq_true hid,if_neg (show ¬ ((0=0∧d.Nodes[0]!.ID≠1)∨(0<0∧d.Nodes[0]!.ID≤d.Nodes[0-1]!.ID)) by rintro (⟨_,b⟩ | ⟨a,_⟩); exact b hid; omega)]
     rfl
    ·rw [decide_eq_false hid,if_pos (show ((0=0∧d.Nodes[0]!.ID≠1)∨(0<0∧d.Nodes[0]!.ID≤d.Nodes[0-1]!.ID)) from .inl ⟨rfl,hid⟩)]
     rfl
   ·have k1:0<k:=by omega
    rw [decide_eq_false (show ¬ ((k:Int)=0) by omega),decide_eq_true (show (0:Int)<(k:Int) by omega)]
    show (bnd1 (gd true (chk .i64 ((k:Int)-1))) fun (x10:Int)=>bnd1 (gd true (idx d.Nodes x10)) fun (x11:YAR)=>_)=_
    rw [YAI,YDR k1 (by omega),YAA,YAI,YAG (show k-1<d.Nodes.length by omega),YAA,YAQ (by omega)]
    by_cases hid:d.Nodes[k]!.ID≤d.Nodes[k-1]!.ID
    ·rw [decide_eq_true hid,if_pos (show ((k=0∧d.Nodes[k]!.ID≠1)∨(0<k∧d.Nodes[k]!.ID≤d.Nodes[k-1]!.ID)) from .inr ⟨k1,hid⟩)]
     rfl
    ·rw [decide_eq_false hid,if_neg (show ¬ ((k=0∧d.Nodes[k]!.ID≠1)∨(0<k∧d.Nodes[k]!.ID≤d.Nodes[k-1]!.ID)) by rintro (⟨a,_⟩ | ⟨_,b⟩); exact k0 a; exact hid b)]
     rfl
  ·rw [if_pos (ndT he),if_pos he]
   rfl
 rw [hit] at h0
 cases hf:(List.range d.Nodes.length).findSome? g with
 | some e=>
  rw [hf] at h0
  have h0:(some e:Option Int)=some 0:=h0
  injection h0 with h0
  obtain ⟨k,_,hk⟩:=List.exists_of_findSome?_eq_some hf
  simp only [g] at hk
  split at hk
  ·rename_i hne; injection hk with hk; exact absurd (hk.trans h0) hne
  ·split at hk
   ·injection hk with hk; omega
   ·cases hk
 | none=>
  rw [List.findSome?_eq_none_iff] at hf
  have hk : ∀ k,k<d.Nodes.length→(YAz d.Nodes[k]!).getD 0=0 ∧ ¬ ((k=0∧d.Nodes[k]!.ID≠1)∨(0<k∧d.Nodes[k]!.ID≤d.Nodes[k-1]!.ID)):=by
   intro k hk
   have:=hf k (List.mem_range.2 hk)
   simp only [g] at this
   split at this
   ·cases this
   ·rename_i h1
    split at this
    ·cases this
    ·rename_i h2; exact ⟨by simpa using h1,h2⟩
  refine ⟨YO3 fun k k0 hkl=>?_,fun k hkl=>?_⟩
  ·have:=(hk k hkl).2
   have h3 : ¬ (0<k∧d.Nodes[k]!.ID≤d.Nodes[k-1]!.ID):=fun e=>this (.inr e)
   omega
  ·obtain ⟨e,e1,_⟩:=YLp _ (hn _ (YBI hkl))
   have:=(hk k hkl).1
   rw [e1] at this ⊢
   exact congrArg some this
theorem YHv {d:GDoc} (id:Int) (hm:d.Nodes.length≤1048576) (hs:YLX d.Nodes):YFq d id=some (match YIm d.Nodes id with | some k=>(k:Int) | none=>-1):=by
 unfold YFq
 obtain ⟨i,h1,h2⟩:=YUc d id hm hs
 rw [h1,YAt]
 cases hf:YIm d.Nodes id with
 | none=>rfl
 | some k=>rw [h2 k hf]; rfl
def badP:YAM:=YAM.mk (YAR.mk 0 0 [] [] (YAy.mk 0 0 [] []) []) [] []
theorem YWW (d:GDoc) (s:GSel) (author:List UInt8) (h:YHC d) (ha:author.length≤1073741824) :
  (∃ e,e≠0∧YDo d s author=some (badP,e)∧YDA d s=some e) ∨
  (∃ k,k<d.Nodes.length∧YIm d.Nodes s.Node=some k∧d.Nodes[k]!.ID=s.Node∧okN2 d.Nodes[k]! ∧ YEO d.Nodes[k]!.Kind=some true∧YGz d.Nodes[k]!.Flow=0∧0≤s.From∧s.From≤s.To∧s.To<((shown d.Nodes[k]!.Flow 0 d.Nodes[k]!.Flow.length).length:Int) ∧
   YBh d=some 0∧YDA d s=some 0∧YDo d s author=some (if author≠[]∧YEW author=false then (badP,23) else (YAM.mk d.Nodes[k]! (shown d.Nodes[k]!.Flow 0 d.Nodes[k]!.Flow.length) author,0))):=by
 obtain ⟨e,h1,h2⟩:=YRy d h
 have hm:=h.1
 unfold YDo YDA
 rw [h1,h2,YAA,YAA]
 by_cases he:e=0
 ·subst he
  obtain ⟨hs,hall⟩:=YRx h h1
  rw [if_neg (by decide),if_neg (by decide),YHv s.Node hm hs,YGu d s.Node hm,YAA,YAA]
  cases hf:YIm d.Nodes s.Node with
  | none=>exact .inl ⟨7,by decide,rfl,rfl⟩
  | some k=>
   obtain ⟨hk,hid⟩:=YH7 hf
   dsimp only
   have hn:=h.2 _ (YBI hk)
   have hfe : ∀ x∈d.Nodes[k]!.Flow,okE x:=fun x hx=>⟨by have:=(hn.ok.fa x hx).1; omega,(hn.ok.fa x hx).2⟩
   have hfl:=hn.ok.fl
   rw [if_neg (by simp),if_neg (by simp),YAG hk,YAA,YAA,YMv]
   obtain ⟨t,ht⟩ : ∃ t,YEO d.Nodes[k]!.Kind=some t:=⟨_,rfl⟩
   rw [ht,YAA,YAA]
   cases t with
   | false=>exact .inl ⟨8,by decide,rfl,rfl⟩
   | true=>
    have hfe0:=YT9 hn (hall k hk) ht
    have hp:YB7 d.Nodes[k]!.Flow=0:=by
     unfold YGz at hfe0
     split at hfe0
     ·rename_i hx; exact absurd hfe0 hx
     ·rename_i hx; simpa using hx
    rw [if_neg (by decide),if_neg (by decide),YHP _ 0 hfe hfl,YKG _ 0 hfe hp hfl,YAA,YAA]
    by_cases hr:s.From<0∨s.To<s.From∨((shown d.Nodes[k]!.Flow 0 d.Nodes[k]!.Flow.length).length:Int)≤s.To
    ·refine .inl ⟨2,by decide,?_,?_⟩
     ·rw [if_pos (by simp only [Bool.or_eq_true,decide_eq_true_eq]; omega)]; rfl
     ·rw [if_pos (by simp only [Bool.or_eq_true,decide_eq_true_eq]; omega)]
    ·refine .inr ⟨k,hk,rfl,hid,hn,ht,hfe0,by omega,by omega,by omega,rfl,?_,?_⟩
     ·rw [if_neg (by simp only [Bool.or_eq_true,decide_eq_true_eq]; omega)]
     ·rw [if_neg (by simp only [Bool.or_eq_true,decide_eq_true_eq]; omega)]
      by_cases hau:author=[]
      ·subst hau
       rw [if_neg (show ¬ (([]:List UInt8)≠[]∧YEW []=false) by simp)]
       rfl
      ·rw [decide_eq_false hau]
       show (bnd1 (gd true (YCz author)) fun (r3:Bool)=>_)=_
       rw [YAI,YES _ (by omega),YAA]
       cases hv:YEW author with
       | false=>rw [if_pos (show author≠[]∧false=false from ⟨hau,rfl⟩)]; rfl
       | true=>rw [if_neg (show ¬ (author≠[]∧true=false) by simp)]; rfl
 ·rw [if_pos (ndT he),if_pos (ndT he)]
  exact .inl ⟨e,he,rfl,rfl⟩
def sg (neg:Bool) (v:Nat):Int:=if neg then -(v:Int) else (v:Int)
theorem sg_mod (neg:Bool) (v:Nat):max ((sg neg v).tmod 10) (-((sg neg v).tmod 10))=((v % 10:Nat):Int) ∧ -10<(sg neg v).tmod 10∧(sg neg v).tmod 10<10:=by
 cases neg
 ·have e:(sg false v).tmod 10=((v % 10:Nat):Int):=by
   show ((v:Int)).tmod 10=_
   rw [Int.tmod_eq_emod_of_nonneg (by omega)]; omega
  rw [e]; omega
 ·have e:(sg true v).tmod 10 = -((v % 10:Nat):Int):=by
   show (-(v:Int)).tmod 10=_
   rw [Int.neg_tmod,Int.tmod_eq_emod_of_nonneg (by omega)]; omega
  rw [e]; omega
theorem sg_div (neg:Bool) (v:Nat):(sg neg v).tdiv 10=sg neg (v / 10):=by
 cases neg
 ·show ((v:Int)).tdiv 10=((v / 10:Nat):Int)
  rw [Int.tdiv_eq_ediv_of_nonneg (by omega)]; omega
 ·show (-(v:Int)).tdiv 10 = -((v / 10:Nat):Int)
  rw [Int.neg_tdiv,Int.tdiv_eq_ediv_of_nonneg (by omega)]; omega
theorem YPR (neg:Bool) {v:Nat} {out:List UInt8} (hv:v≤9223372036854775808) (hl:out.length≤1000) (hgo:out=[]∨v≠0) :
  YBd (sg neg v) out=some (.inl (sg neg (v / 10),UInt8.ofNat (48+v % 10) :: out)):=by
 unfold YBd
 obtain ⟨h1,h2,h3⟩:=sg_mod neg v
 have hc:((decide (out=[])) || (!decide (sg neg v=0)))=true:=by
  rcases hgo with h | h
  ·simp [h]
  ·have:sg neg v≠0:=by unfold sg; split <;> omega
   simp [this]
 have hr:remM (sg neg v) 10=some ((sg neg v).tmod 10):=by unfold remM; rw [if_neg (by decide)]
 have hq:quoM .i64 (sg neg v) 10=some (sg neg (v / 10)):=by
  unfold quoM
  rw [if_neg (by decide),sg_div,YNN (by unfold sg; split <;> omega) (by unfold sg; split <;> omega)]
 have hw:IntKind.u8.wrap (48+((v % 10:Nat):Int))=((48+v % 10:Nat):Int):=by
  have hlt:v % 10<10:=Nat.mod_lt _ (by decide)
  generalize v % 10=r at hlt
  have:r=0∨r=1∨r=2∨r=3∨r=4∨r=5∨r=6∨r=7∨r=8∨r=9:=by omega
  rcases this with rfl | rfl | rfl | rfl | rfl | rfl | rfl | rfl | rfl | rfl <;> rfl
 rw [if_pos hc,hr,YAA,YNN (by omega) (by omega),YAA,h1,YNN (by omega) (by omega),YAA,hw,hq]
 unfold catM YI1
 rw [if_pos (by simp; omega)]
 rfl
theorem YUL (neg:Bool) : ∀ (k v:Nat) (out:List UInt8),v<10 ^ k→v≤9223372036854775808→out.length+k≤1000→out≠[] →
  iter (fun (a:Int × (List UInt8))=>YBd a.1 a.2) (sg neg v,out)=some ((if v=0 then [] else Lib.decDigits v)++out):=by
 have stop : ∀ out:List UInt8,out≠[]→iter (fun (a:Int × (List UInt8))=>YBd a.1 a.2) (sg neg 0,out)=some out:=by
  intro out ho
  refine YAX ?_
  show YBd (sg neg 0) out=_
  unfold YBd
  have e:sg neg 0=0:=by cases neg <;> rfl
  rw [e,if_neg (by simp [ho])]
 intro k
 induction k with
 | zero=>
  intro v out hv _ _ ho
  have:v=0:=by simpa using hv
  subst this
  rw [stop out ho,if_pos rfl]; rfl
 | succ k ih=>
  intro v out hv hm hl ho
  by_cases h0:v=0
  ·subst h0; rw [stop out ho,if_pos rfl]; rfl
  ·rw [YBM (f:=fun (a:Int × (List UInt8))=>YBd a.1 a.2) (s:=(sg neg v,out)) (YPR neg (out:=out) hm (by omega) (.inr h0)),
    ih (v / 10) _ (by rw [Nat.pow_succ] at hv; omega) (by omega) (by simp; omega) (by simp),if_neg h0]
   congr 1
   conv=>rhs; rw [Lib.decDigits]
   by_cases h10:v<10
   ·rw [dif_pos h10,if_pos (by omega),show v % 10=v by omega]; rfl
   ·rw [dif_neg h10,if_neg (by omega)]; simp
theorem YLi (n:Int) (h0 : -9223372036854775808≤n) (h1:n≤9223372036854775807):YH3 n=some (Lib.itoa n)∧(Lib.itoa n).length≤22:=by
 have hlen : ∀ k u,u<10 ^ k→0<k→(Lib.decDigits u).length≤k:=by
  intro k
  induction k with
  | zero=>intro u _ h; exact absurd h (Nat.lt_irrefl 0)
  | succ k ih=>
   intro u hu _
   rw [Lib.decDigits]
   by_cases h10:u<10
   ·rw [dif_pos h10]; simp
   ·rw [dif_neg h10]
    have hk:0<k:=by
     rcases Nat.eq_zero_or_pos k with h | h
     ·subst h; omega
     ·exact h
    have:=ih (u / 10) (by rw [Nat.pow_succ] at hu; omega) hk
    simp; omega
 have main : ∀ (neg:Bool) (v:Nat),v≤9223372036854775808→iter (fun (a:Int × (List UInt8))=>YBd a.1 a.2) (sg neg v,[])=some (Lib.decDigits v):=by
  intro neg v hv
  rw [YBM (f:=fun (a:Int × (List UInt8))=>YBd a.1 a.2) (s:=(sg neg v,[])) (YPR neg hv (by simp) (.inl rfl)),
   YUL neg 20 (v / 10) _ (by omega) (by omega) (by simp) (by simp)]
  congr 1
  conv=>rhs; rw [Lib.decDigits]
  by_cases h10:v<10
  ·rw [dif_pos h10,if_pos (by omega),show v % 10=v by omega]; rfl
  ·rw [dif_neg h10,if_neg (by omega)]
 unfold YH3 Lib.itoa
 by_cases hn:n<0
 ·have e:n=sg true n.natAbs:=by unfold sg; rw [if_pos rfl]; omega
  have hl:=hlen 20 n.natAbs (by omega) (by decide)
  rw [if_pos (decide_eq_true hn),if_pos hn,YAA]
  have:=main true n.natAbs (by omega)
  rw [← e] at this
  rw [this,YAA]
  unfold catM
  rw [if_pos (by simp; omega),YAA]
  exact ⟨rfl,by simp; omega⟩
 ·have e:n=sg false n.toNat:=by unfold sg; rw [if_neg (by decide)]; omega
  have hl:=hlen 20 n.toNat (by omega) (by decide)
  rw [if_neg (by simpa using hn),if_neg hn,YAA]
  have:=main false n.toNat (by omega)
  rw [← e] at this
  rw [this,YAA]
  unfold catM
  rw [if_pos (by simp; omega),YAA]
  exact ⟨rfl,by omega⟩
structure TextRo (at_:List YAD) (m:Nat) (R:Ctl (List YAB) (Int × (List YAB))):Prop where
 nrm : ∀ l,R = .nrm l→l.length≤m ∧ ∀ e∈l,e.Attrs=at_
 ext : ∀ l e,R = .ext (e,l)→l=[]
theorem YMP (at_:List YAD) (ha:at_.length≤1073741824) (s0:List UInt8) (hm:s0.length≤1048576) : ∀ (n i:Nat) (out:List YAB),s0.length-i=n→i≤s0.length→out.length≤i→(∀ e∈out,e.Attrs=at_) →
  ∃ R,iter (fun (a:(List UInt8) × (List YAB))=>YA2 at_ a.1 a.2) (s0.drop i,out)=some R∧iter (fun (a:Int × (List YAB))=>YAs s0 at_ a.1 a.2) ((i:Int),out)=some R∧TextRo at_ s0.length R:=by
 intro n
 induction n using Nat.strongRecOn with
 | _ n ih=>
  intro i out hn hi ho hoa
  have ef : ∀ (s:List UInt8) (o:List YAB),(fun (a:(List UInt8) × (List YAB))=>YA2 at_ a.1 a.2) (s,o)=YA2 at_ s o:=fun _ _=>rfl
  by_cases hlt:i<s0.length
  ·have hne:s0.drop i≠[]:=by
    intro e
    have:=congrArg List.length e
    rw [List.length_drop] at this
    simp at this; omega
   obtain ⟨r,k,h1,h2,h3⟩:=YPj _ hne
   rw [List.length_drop] at h3
   have hs:=YLY s0 i (by omega)
   by_cases hr:r=65533∧k=1
   ·refine ⟨.ext (10,[]),YAX ?_,YAX ?_,⟨fun l e=>(by cases e),fun l e h=>(by cases h; rfl)⟩⟩
    ·show YA2 at_ (s0.drop i) out=_
     unfold YA2
     rw [if_pos (ndT hne),h1,YAt,if_pos (by rw [hr.1,hr.2]; rfl)]
    ·show YAs s0 at_ (i:Int) out=_
     unfold YAs
     rw [if_pos (by rw [decide_eq_true_eq]; omega),hs,YAA,h1,YAt,if_pos (by rw [hr.1,hr.2]; rfl)]
   ·have c1 : ¬ ((decide (r=65533) && decide ((k:Int)=1))=true):=by
     rw [Bool.and_eq_true,decide_eq_true_eq,decide_eq_true_eq]; omega
    have c2 : ¬ ((decide (r=65533) && decide ((k:Int)<2))=true):=by
     rw [Bool.and_eq_true,decide_eq_true_eq,decide_eq_true_eq]; omega
    by_cases hch:YGg (IntKind.i64.wrap r)=true
    ·obtain ⟨R,r1,r2,r3⟩:=ih (s0.length-(i+k)) (by omega) (i+k) (out++[⟨IntKind.i64.wrap r,0,at_⟩]) rfl (by omega) (by simp; omega) (fun e he=>by
      rcases List.mem_append.1 he with he | he
      ·exact hoa e he
      ·rw [List.mem_singleton] at he; subst he; rfl)
     refine ⟨R,?_,?_,r3⟩
     ·rw [← r1,← List.drop_drop]
      refine YBM ?_
      show YA2 at_ (s0.drop i) out=_
      unfold YA2
      rw [if_pos (ndT hne),h1,YAt,if_neg c1,YF7,YAA,if_neg (by rw [hch]; decide),app32c _ ha,YAA,YQz (by rw [List.length_singleton]; omega),YAA,YLY _ k (by rw [List.length_drop]; omega),YAA]
     ·rw [← r2]
      refine YBM ?_
      show YAs s0 at_ (i:Int) out=_
      unfold YAs
      rw [if_pos (by rw [decide_eq_true_eq]; omega),hs,YAA,h1,YAt,if_neg c2,YGv,YAA,if_neg (by rw [hch]; decide),YQz (by rw [List.length_singleton]; omega),YAA,YDC (by omega) (by omega),YAA]
      rfl
    ·have hch:YGg (IntKind.i64.wrap r)=false:=by simpa using hch
     refine ⟨.ext (2,[]),YAX ?_,YAX ?_,⟨fun l e=>(by cases e),fun l e h=>(by cases h; rfl)⟩⟩
     ·show YA2 at_ (s0.drop i) out=_
      unfold YA2
      rw [if_pos (ndT hne),h1,YAt,if_neg c1,YF7,YAA,if_pos (by rw [hch]; rfl)]
     ·show YAs s0 at_ (i:Int) out=_
      unfold YAs
      rw [if_pos (by rw [decide_eq_true_eq]; omega),hs,YAA,h1,YAt,if_neg c2,YGv,YAA,if_pos (by rw [hch]; rfl)]
  ·have hie:i=s0.length:=by omega
   subst hie
   refine ⟨.nrm out,YAX ?_,YAX ?_,⟨fun l e=>(by cases e; exact ⟨by omega,hoa⟩),fun l e h=>(by cases h)⟩⟩
   ·show YA2 at_ (s0.drop s0.length) out=_
    unfold YA2
    rw [List.drop_length,if_neg (ndF rfl)]
   ·show YAs s0 at_ (s0.length:Int) out=_
    unfold YAs
    rw [if_neg (by simp)]
theorem YQd (s:List UInt8) (at_:List YAD) (ha:okA at_) (hm:s.length≤1048576) : ∃ (l:List YAB) (e:Int),YFo s at_=some (e,l)∧YDp s at_=some (e,l)∧l.length≤s.length∧(∀ x∈l,x.Attrs=at_)∧(e≠0→l=[]):=by
 unfold YFo YDp
 have hl:=ha.1
 rw [YFO _ ha.2 (by omega),YDN _ _ ha.2 (by omega),YAA,YAA]
 by_cases e1:YAv at_ false≠0
 ·rw [if_pos (ndT e1),if_pos (ndT e1)]
  exact ⟨[],_,rfl,rfl,by simp,by simp,fun _=>rfl⟩
 have e1:=Classical.not_not.1 e1
 rw [if_neg (ndF e1),if_neg (ndF e1)]
 obtain ⟨R,r1,r2,r3⟩:=YMP at_ hl s hm s.length 0 [] (by omega) (by omega) (by simp) (by simp)
 rw [List.drop_zero] at r1
 rw [r1,show (0:Int)=((0:Nat):Int) from rfl,r2]
 match R,r3 with
 | .nrm l,r3=>
  obtain ⟨k1,k2⟩:=r3.nrm l rfl
  exact ⟨l,0,rfl,rfl,k1,k2,fun h=>absurd rfl h⟩
 | .ext (e,l),r3=>
  have:=r3.ext l e rfl
  subst this
  exact ⟨[],e,rfl,rfl,by simp,by simp,fun _=>rfl⟩
def tErr (s:YAC):Int:=if (s.Kind=1∧s.Elems=[]∧YBa s=11)∨(s.Kind≠1∧s.N=0∧YBa s=2) then YAv s.Attrs true else YBa s
def OkT (s:YAC):Prop:=(s.Kind=0∧s.Elems=[]∧0≤s.N∧s.N≤2147483647∧YAv s.Attrs true=0)∨(s.Kind=2∧s.Elems=[]∧s.Attrs=[]∧0≤s.N∧s.N≤2147483647) ∨
  (s.Kind=1∧s.N=0∧s.Attrs=[]∧YB7 s.Elems=0)
theorem YWx {s:YAC} (h:tErr s=0):OkT s:=by
 unfold tErr at h
 split at h
 ·rename_i hc
  rcases hc with ⟨h1,h2,h3⟩ | ⟨h1,h2,h3⟩
  ·unfold YBa at h3
   rw [if_pos h1] at h3
   by_cases c1:s.N≠0∨s.Attrs≠[]
   ·rw [if_pos c1] at h3; cases h3
   ·refine .inr (.inr ⟨h1,Classical.byContradiction fun h=>c1 (.inl h),Classical.byContradiction fun h=>c1 (.inr h),by rw [h2]; rfl⟩)
  ·unfold YBa at h3
   rw [if_neg h1] at h3
   by_cases c0:s.Kind=0∨s.Kind=2
   ·rw [if_pos c0] at h3
    by_cases c1:s.Elems≠[]∨(s.Kind=2∧s.Attrs≠[])
    ·rw [if_pos c1] at h3; cases h3
    ·have e1:s.Elems=[]:=Classical.byContradiction fun h=>c1 (.inl h)
     rcases c0 with k | k
     ·exact .inl ⟨k,e1,by omega,by omega,h⟩
     ·exact .inr (.inl ⟨k,e1,Classical.byContradiction fun h=>c1 (.inr ⟨k,h⟩),by omega,by omega⟩)
   ·rw [if_neg c0] at h3; cases h3
 ·rcases (YRi h).kind with ⟨k,e,n1,n2,a⟩ | ⟨k,e,a,n1,n2⟩ | ⟨k,n,a,_,p⟩
  ·exact .inl ⟨k,e,by omega,n2,a⟩
  ·exact .inr (.inl ⟨k,e,a,by omega,n2⟩)
  ·exact .inr (.inr ⟨k,n,a,p⟩)
theorem YPJ {s:YAC} (h:OkT s) (ho:OkSt s) : ∀ u∈YEm s,OkUn u:=by
 intro u h2
 unfold YEm at h2
 rcases h with ⟨k,e,n1,n2,a1⟩ | ⟨k,e,a1,n1,n2⟩ | ⟨k,n,_,p⟩
 ·rw [if_neg (by omega),decide_eq_false (by omega)] at h2
  have:=List.eq_of_mem_replicate h2
  subst this
  exact ⟨fun _=>a1,ho.at_⟩
 ·rw [if_neg (by omega),decide_eq_true k] at h2
  have:=List.eq_of_mem_replicate h2
  subst this
  exact ⟨fun h=>(by cases h),ho.at_⟩
 ·rw [if_pos k] at h2
  obtain ⟨e,h3,rfl⟩:=List.mem_map.1 h2
  obtain ⟨j,hj,rfl⟩:=List.mem_iff_getElem.1 h3
  have h4:=YJm p hj
  rw [getElem!_pos s.Elems j hj] at h4
  exact ⟨h4,ho.ea _ h3⟩
theorem YT7 {s:YAC} (h:OkT s):(cntR (YEm s):Int)=s.N∧cntA (YEm s)=s.Elems.length∧0≤s.N∧s.N≤2147483647:=by
 have e1 : ∀ l:List YAB,cntR (l.map Un.a)=0∧cntA (l.map Un.a)=l.length:=by
  intro l
  induction l with
  | nil=>exact ⟨rfl,rfl⟩
  | cons x l ih=>unfold cntR cntA at ih ⊢; rw [List.map_cons,List.countP_cons,List.countP_cons,ih.1,ih.2]; exact ⟨rfl,rfl⟩
 have e2 : ∀ (n:Nat) (c:Bool) (t:List YAD),cntR (List.replicate n (Un.r c t))=n∧cntA (List.replicate n (Un.r c t))=0:=by
  intro n c t
  induction n with
  | zero=>exact ⟨rfl,rfl⟩
  | succ n ih=>unfold cntR cntA at ih ⊢; rw [List.replicate_succ,List.countP_cons,List.countP_cons,ih.1,ih.2]; exact ⟨rfl,rfl⟩
 unfold YEm
 rcases h with ⟨k,e,n1,n2,a1⟩ | ⟨k,e,a1,n1,n2⟩ | ⟨k,n,_,p⟩
 ·rw [if_neg (by omega),(e2 _ _ _).1,(e2 _ _ _).2,e]; refine ⟨by omega,rfl,n1,n2⟩
 ·rw [if_neg (by omega),(e2 _ _ _).1,(e2 _ _ _).2,e]; refine ⟨by omega,rfl,n1,n2⟩
 ·rw [if_pos k,(e1 _).1,(e1 _).2,n]; exact ⟨rfl,rfl,by decide,by decide⟩
def YMO:List YAC→List Un→List YAC × Int
 | [],X=>if YJP (YBt X)≠0 then ([],3) else (YBt X,0)
 | s :: d,X=>if tErr s≠0 then ([],tErr s) else if s.Kind=2∧2147483647<((dOn X).cuts:Int)+s.N then ([],3) else YMO d (X++YEm s)
def YQA:List YAC→List Un→Ctl YAE (List YAC × Int)
 | [],X=>.nrm (toW (dOn X))
 | s :: d,X=>if tErr s≠0 then .ext ([],tErr s) else if s.Kind=2∧2147483647<((dOn X).cuts:Int)+s.N then .ext ([],3) else YQA d (X++YEm s)
theorem YMt (s:YAC) (d:List YAC) (X:List Un):YQA (s :: d) X=if tErr s≠0 then .ext ([],tErr s) else if s.Kind=2∧2147483647<((dOn X).cuts:Int)+s.N then .ext ([],3) else YQA d (X++YEm s):=rfl
theorem YMu (s:YAC) (d:List YAC) (X:List Un):YMO (s :: d) X=if tErr s≠0 then ([],tErr s) else if s.Kind=2∧2147483647<((dOn X).cuts:Int)+s.N then ([],3) else YMO d (X++YEm s):=rfl
structure IT (d:List YAC) (k:Nat) (X:List Un):Prop where
 ok : ∀ u∈X,OkUn u
 out:(dOn X).out.length≤3 * k
 cut:(dOn X).cuts≤2147483647
 rows:cntR X≤2147483647 * k
 adds:cntA X+((d.drop k).map fun s=>s.Elems.length).sum=(d.map fun s=>s.Elems.length).sum
theorem YUs (s:DS):(dFl s).length≤s.out.length+2:=by
 unfold dFl
 split <;> split <;> simp
theorem YNO (l:List YAC) (t:List YAD) (n:Int):(YCs l t n).length≤l.length+1:=by
 unfold YCs
 split <;> simp
theorem YR1 (a b:List Un):cntA (a++b)=cntA a+cntA b:=List.countP_append
theorem YPk {X:List Un} (h : ∀ u∈X,OkUn u):(dOn X).adds.length≤cntA X:=(YIQ h).al
theorem tcond (s:YAC) (e:Int):((((decide (s.Kind=1)) && (decide ((s.Elems.length:Int)=0))) && (decide (e=11))) || (((!decide (s.Kind=1)) && (decide (s.N=0))) && (decide (e=2))))=true ↔
  ((s.Kind=1∧s.Elems=[]∧e=11)∨(s.Kind≠1∧s.N=0∧e=2)):=by
 rw [YRa]
 simp only [Bool.or_eq_true,Bool.and_eq_true,Bool.not_eq_true',decide_eq_true_eq,decide_eq_false_iff_not,ne_eq,and_assoc]
theorem YSC (d:List YAC) (ho:OkD d) (hs:SmD d):iter (fun (a:Int × YAE)=>YBl d a.1 a.2) (0,(YAE.mk [] [] 0))=some (YQA d []):=by
 have hm:=hs.len
 have hsum:=hs.sum
 refine YUM d (fun X k=>((k:Int),toW (dOn X))) YQA (IT d) ?_ ?_ [] ⟨by simp,by simp [dOn,D0],by simp [dOn,D0],by simp [cntR],by simp [cntA]⟩ _ rfl
 ·rintro k X hk hI
  have hst:=ho.st _ (YBI hk)
  have h1:=hI.ok
  have h2:=hI.out
  have h3:=hI.cut
  have h4:=hI.rows
  have h5:=hI.adds
  have h6:=YPk h1
  have h7:=hs.at_ _ (YBI hk)
  rw [YG1 hk,List.map_cons,List.sum_cons] at h5
  show (∃ X',YBl d (k:Int) _=_∧_)∨YBl d (k:Int) _=_
  unfold YBl
  rw [if_pos (by simpa using hk),YAG hk,YAA,YJO _ hst,YAA]
  rw [YMt]
  generalize d[k]! = s at hst h5 h7
  have htot:(if ((((decide (s.Kind=1)) && (decide ((s.Elems.length:Int)=0))) && (decide (YBa s=11))) || (((!decide (s.Kind=1)) && (decide (s.N=0))) && (decide (YBa s=2)))) then (bnd1 (YBf s.Attrs) fun (e3:Int)=>some e3) else (some (YBa s)))=some (tErr s):=by
   unfold tErr
   by_cases hc:((s.Kind=1∧s.Elems=[]∧YBa s=11)∨(s.Kind≠1∧s.N=0∧YBa s=2))
   ·rw [if_pos ((tcond s _).2 hc),if_pos hc,YFx _ hst.at_.2 (by have:=hst.at_.1; omega),YAA]
   ·rw [if_neg (fun h=>hc ((tcond s _).1 h)),if_neg hc]
  rw [htot,YAA]
  by_cases e0:tErr s=0
  ·have hT:=YWx e0
   have hU:=YPJ hT hst
   obtain ⟨c1,c2,c3,c4⟩:=YT7 hT
   rw [if_neg (ndF e0),if_neg (show ¬ (tErr s≠0) by simpa using e0)]
   have hnew : ∀ X',X'=X++YEm s→(dOn X').out.length≤(dOn X).out.length+3→(dOn X').cuts≤2147483647→IT d (k+1) X':=by
    rintro X' rfl h8 h9
    refine ⟨fun u hu=>?_,by omega,h9,?_,?_⟩
    ·rcases List.mem_append.1 hu with h | h
     ·exact h1 u h
     ·exact hU u h
    ·rw [YJQ]; omega
    ·rw [YR1,c2,← h5]; omega
   have hX : ∀ u∈X++YEm s,OkUn u:=fun u hu=>by
    rcases List.mem_append.1 hu with h | h
    ·exact h1 u h
    ·exact hU u h
   have hS:YEm s=if s.Kind=1 then s.Elems.map Un.a else List.replicate s.N.toNat (.r (decide (s.Kind=2)) s.Attrs):=rfl
   by_cases k0:s.Kind=0
   ·rw [if_pos (by rw [decide_eq_true_eq]; exact k0),if_neg (show ¬ (s.Kind=2∧2147483647<((dOn X).cuts:Int)+s.N) by rintro ⟨h,_⟩; omega)]
    rw [if_neg (by omega),decide_eq_false (by omega)] at hS
    rw [YUJ (YIQ h1) (by omega) (by omega) s.N s.Attrs c3 (by omega) (by omega),YAA,YKp,YAQ (by omega),YAA,YH9 _ _ _ c3,← hS]
    refine .inl ⟨_,rfl,hnew _ rfl ?_ ?_,rfl⟩
    ·rw [hS,← YH9 _ _ _ c3]; unfold YOA
     have:=YUs (dOn X)
     have:=YNO (dFl (dOn X)) s.Attrs s.N
     split
     ·omega
     ·dsimp only; omega
    ·rw [hS,← YH9 _ _ _ c3]; unfold YOA
     split
     ·exact h3
     ·simp
   ·by_cases k1:s.Kind=1
    ·rw [if_neg (by rw [decide_eq_true_eq]; exact k0),if_pos (by rw [decide_eq_true_eq]; exact k1),if_neg (show ¬ (s.Kind=2∧2147483647<((dOn X).cuts:Int)+s.N) by rintro ⟨h,_⟩; omega)]
     rw [if_pos k1] at hS
     rw [YRv _ _ (by have:=hst.el; omega) hst.ea (by omega),YAA,YKp,YAQ (by omega),YAA,YIA,← hS]
     refine .inl ⟨_,rfl,hnew _ rfl ?_ ?_,rfl⟩
     ·rw [hS,← YIA]; dsimp only; omega
     ·rw [hS,← YIA]; exact h3
    ·have k2:s.Kind=2:=by
      rcases hT with h | h | h
      ·exact absurd h.1 k0
      ·exact h.1
      ·exact absurd h.1 k1
     rw [if_neg (by rw [decide_eq_true_eq]; exact k0),if_neg (by rw [decide_eq_true_eq]; exact k1)]
     rw [if_neg k1,decide_eq_true k2] at hS
     show (∃ X',ctl1 (bnd1 (chk .i64 (((dOn X).cuts:Int)+s.N)) _) _=_∧_)∨ctl1 (bnd1 (chk .i64 (((dOn X).cuts:Int)+s.N)) _) _=_
     rw [YDC (by omega) (by omega),YAA]
     by_cases hb:2147483647<((dOn X).cuts:Int)+s.N
     ·rw [if_pos (by rw [decide_eq_true_eq]; exact hb),if_pos ⟨k2,hb⟩]; exact .inr rfl
     ·rw [if_neg (by rw [decide_eq_true_eq]; exact hb),if_neg (fun h=>hb h.2),YKp,YAQ (by omega),YAA]
      have e:=YQt X s.N.toNat s.Attrs
      rw [← hS] at e
      refine .inl ⟨_,?_,hnew _ rfl ?_ ?_,rfl⟩
      ·rw [← e]
       unfold toW
       dsimp only
       rw [show (((dOn X).cuts+s.N.toNat:Nat):Int)=((dOn X).cuts:Int)+s.N by omega]
      ·rw [← e]; dsimp only; omega
      ·rw [← e]; dsimp only; omega
  ·rw [if_pos (ndT e0),if_pos e0]; exact .inr rfl
 ·rintro X hI
  show YBl d (d.length:Int) _=_
  unfold YBl
  rw [if_neg (by simp)]; rfl
theorem YSE (d:List YAC) (ho:OkD d) (hs:SmD d) : ∀ (e:List YAC) (k:Nat) (X:List Un),k+e.length=d.length→d.drop k=e→IT d k X →
  (ctl1 (some (YQA e X)) fun (w4:YAE)=>bnd3 (YBO w4) fun (r1:List YAC) (r2:Int) (_:YAE)=>some (r1,r2))=some (YMO e X):=by
 have hm:=hs.len
 have hsum:=hs.sum
 intro e
 induction e with
 | nil=>
  intro k X hk _ hI
  have h2:=hI.out
  have h5:=hI.adds
  simp only [List.length_nil] at hk
  unfold YQA YMO
  rw [YKp,YUp hI.ok (by omega) (by omega)]
  split <;> rfl
 | cons s e ih=>
  intro k X hk hd hI
  simp only [List.length_cons] at hk
  have hkl:k<d.length:=by omega
  rw [YG1 hkl] at hd
  injection hd with hd1 hd2
  rw [YMt,YMu]
  by_cases e0:tErr s=0
  ·rw [if_neg (show ¬ (tErr s≠0) by simpa using e0),if_neg (show ¬ (tErr s≠0) by simpa using e0)]
   by_cases hc:s.Kind=2∧2147483647<((dOn X).cuts:Int)+s.N
   ·rw [if_pos hc,if_pos hc]; rfl
   ·rw [if_neg hc,if_neg hc]
    refine ih (k+1) _ (by omega) hd2 ?_
    have hst:=ho.st _ (YBI hkl)
    rw [hd1] at hst
    have hT:=YWx e0
    have hU:=YPJ hT hst
    obtain ⟨c1,c2,c3,c4⟩:=YT7 hT
    have h1:=hI.ok
    have h2:=hI.out
    have h3:=hI.cut
    have h4:=hI.rows
    have h5:=hI.adds
    rw [YG1 hkl,List.map_cons,List.sum_cons,hd1] at h5
    have hS:YEm s=if s.Kind=1 then s.Elems.map Un.a else List.replicate s.N.toNat (.r (decide (s.Kind=2)) s.Attrs):=rfl
    have hoc:(dOn (X++YEm s)).out.length≤(dOn X).out.length+3∧(dOn (X++YEm s)).cuts≤2147483647:=by
     by_cases k1:s.Kind=1
     ·rw [if_pos k1] at hS
      rw [hS,← YIA]; exact ⟨by dsimp only; omega,h3⟩
     ·rw [if_neg k1] at hS
      by_cases k2:s.Kind=2
      ·rw [decide_eq_true k2] at hS
       rw [hS,← YQt]
       have : ¬ 2147483647<((dOn X).cuts:Int)+s.N:=fun h=>hc ⟨k2,h⟩
       refine ⟨by dsimp only; omega,by dsimp only; omega⟩
      ·rw [decide_eq_false k2] at hS
       rw [hS,← YH9 _ _ _ c3]; unfold YOA
       have:=YUs (dOn X)
       have:=YNO (dFl (dOn X)) s.Attrs s.N
       split
       ·exact ⟨by omega,h3⟩
       ·exact ⟨by dsimp only; omega,by simp⟩
    refine ⟨fun u hu=>?_,by omega,hoc.2,?_,?_⟩
    ·rcases List.mem_append.1 hu with h | h
     ·exact h1 u h
     ·exact hU u h
    ·rw [YJQ]; omega
    ·rw [YR1,c2,← h5]; omega
  ·rw [if_pos e0,if_pos e0]; rfl
theorem it0 (d:List YAC):IT d 0 []:=⟨by simp,by simp [dOn,D0],by simp [dOn,D0],by simp [cntR],by simp [cntA]⟩
theorem YOQ (d:List YAC) (ho:OkD d) (hs:SmD d):YFU d=some (YMO d []):=by
 unfold YFU
 rw [YSC d ho hs]
 exact YSE d ho hs d 0 [] (by simp) rfl (it0 d)
theorem YUu (us:List Un):cntA us+cntR us=us.length:=by
 induction us with
 | nil=>rfl
 | cons u us ih=>
  have e1:cntA (u :: us)=(if u.isR then 0 else 1)+cntA us:=by unfold cntA; rw [List.countP_cons]; cases u.isR <;> simp <;> omega
  have e2:cntR (u :: us)=(if u.isR then 1 else 0)+cntR us:=by unfold cntR; rw [List.countP_cons]; omega
  rw [e1,e2,List.length_cons]
  cases u.isR <;> simp <;> omega
theorem YP8 (n:Int) (t:List YAD):YEm ⟨0,n,t,[]⟩=List.replicate n.toNat (.r false t):=rfl
def YGE (ts:List (List YAD)):List Un:=ts.map fun t=>.r false t
theorem YKi {ts:List (List YAD)} (h : ∀ t∈ts,YAv t true=0∧okA t) : ∀ u∈YGE ts,OkUn u:=by
 intro u hu
 obtain ⟨t,ht,rfl⟩:=List.mem_map.1 hu
 exact ⟨fun _=>(h t ht).1,(h t ht).2⟩
theorem YJC (ts:List (List YAD)):(YGE ts).length=ts.length:=by simp [YGE]
def YFA (ts:List (List YAD)):List YAC:=ts.map fun t=>⟨0,1,t,[]⟩
theorem YLL : ∀ (ts:List (List YAD)) (X:List Un),(∀ t∈ts,YAv t true=0)→YMO (YFA ts) X=YMO [] (X++YGE ts)
 | [],X,_=>by simp [YFA,YGE]
 | t :: ts,X,h=>by
  have h0:=h t (List.mem_cons_self ..)
  have hs:YBa ⟨0,1,t,[]⟩=0:=YJ8 (by decide) (by decide) h0
  have ht:tErr ⟨0,1,t,[]⟩=0:=by
   unfold tErr
   rw [if_neg (by simp),hs]
  show YMO (⟨0,1,t,[]⟩ :: YFA ts) X=_
  rw [YMu,if_neg (by rw [ht]; simp),if_neg (by simp),YLL ts _ fun t ht=>h t (List.mem_cons_of_mem _ ht)]
  have hu:YEm ⟨0,1,t,[]⟩=[.r false t]:=by rw [YP8]; rfl
  have hk:YGE (t :: ts) = .r false t :: YGE ts:=rfl
  rw [hu,hk,List.append_assoc,List.singleton_append]
theorem YOt : ∀ ts:List (List YAD),((YFA ts).map fun s=>s.Elems.length).sum=0
 | []=>rfl
 | t :: ts=>by
  show (0:Nat)+((YFA ts).map fun s=>s.Elems.length).sum=0
  rw [YOt ts]
theorem YSD (ts:List (List YAD)) (h : ∀ t∈ts,YAv t true=0∧okA t∧t.length≤1048576) (hl:ts.length≤1048576):YFU (YFA ts)=some (YBt (YGE ts),0):=by
 have hsum:((YFA ts).map fun s=>s.Elems.length).sum=0:=YOt ts
 have ho:OkD (YFA ts):=⟨by simp [YFA]; omega,fun s hs=>by
  obtain ⟨t,ht,rfl⟩:=List.mem_map.1 hs
  exact ⟨(h t ht).2.1,by simp,fun e he=>by simp at he⟩,by rw [hsum]; omega⟩
 have hs:SmD (YFA ts):=⟨fun s hs=>by
  obtain ⟨t,ht,rfl⟩:=List.mem_map.1 hs
  exact (h t ht).2.2,fun s hs e he=>by
  obtain ⟨t,ht,rfl⟩:=List.mem_map.1 hs
  simp at he,by rw [hsum]; omega,by simp [YFA]; omega⟩
 rw [YOQ _ ho hs,YLL ts [] fun t ht=>(h t ht).1,List.nil_append]
 have hU:=YKi fun t ht=>⟨(h t ht).1,(h t ht).2.1⟩
 have hc:=YUu (YGE ts)
 have hn:=YOS (YGE ts)
 have hul:=YJC ts
 have he:YJP (YBt (YGE ts))=0:=YXB (YIQ hU) (by omega) (by omega)
 unfold YMO
 rw [if_neg (by simpa using he)]
def YSd (ts:List (List YAD)):YAq:=⟨List.replicate (ts.length+1) [],List.replicate ts.length false,ts⟩
theorem YOB (ts:List (List YAD)):(YSd ts).us=YGE ts:=by
 unfold YAq.us YSd YGE
 dsimp only
 induction ts with
 | nil=>rfl
 | cons t ts ih=>
  rw [List.length_cons,List.replicate_succ (n:=ts.length+1),List.replicate_succ (n:=ts.length) (a:=false),uOf,ih]
  rfl
theorem YUK (ts:List (List YAD)) (h : ∀ t∈ts,YAv t true=0∧okA t∧t.length≤1048576) (hl:ts.length≤1048576):YEb (YSd ts)=some (YBt (YGE ts)):=by
 rw [YMb _ ⟨by simp [YSd],by simp [YSd]⟩ (by rw [YOB]; exact okU_un (YKi fun t ht=>⟨(h t ht).1,(h t ht).2.1⟩)) (by rw [YOB,YJC]; omega),YOB]
def visN (f:List YAB):List Nat:=(List.range f.length).filter (seen f 0)
theorem YLZ (f:List YAB):shown f 0 f.length=(visN f).map fun (i:Nat)=>(i:Int):=rfl
theorem YXE {f:List YAB} {k:Nat} (hk:k<(visN f).length):(visN f)[k]! < f.length:=by
 rw [getElem!_pos _ k hk]
 exact List.mem_range.1 (List.mem_filter.1 (List.getElem_mem hk)).1
theorem YQ9 (f:List YAB):(visN f).length≤f.length:=by
 unfold visN
 exact Nat.le_trans (List.length_filter_le _ _) (by simp)
def isW (f:List YAB) (w:Nat→Bool) (k i:Nat):Bool:=decide (∃ j,j<k∧(visN f)[j]! = i∧w j=true)
theorem mk24 {n:Nat} (h:n≤4294967296) {z:List YAD} : mk 24 (n:Int) z=some (List.replicate n z):=by
 unfold mk
 rw [if_pos (by omega),Int.toNat_natCast]
def repU (F M K:Nat) (E:List YAB) (c:Bool) (t:List YAD):List Un:=List.replicate F (.r false [])++(E.map Un.a++(List.replicate M (.r c t)++List.replicate K (.r false [])))
theorem YNr (F M K:Nat) (E:List YAB) (c:Bool) (t:List YAD):(repU F M K E c t).length=F+(E.length+(M+K)):=by simp [repU]
theorem YRQ (F M K:Nat) (E:List YAB) (c:Bool) (t:List YAD):cntR (repU F M K E c t)=F+M+K∧cntA (repU F M K E c t)=E.length:=by
 have e1 : ∀ l:List YAB,cntR (l.map Un.a)=0:=by
  intro l
  induction l with
  | nil=>rfl
  | cons x l ih=>unfold cntR at ih ⊢; rw [List.map_cons,List.countP_cons,ih]; rfl
 have e2 : ∀ (n:Nat) (c:Bool) (t:List YAD),cntR (List.replicate n (Un.r c t))=n:=by
  intro n c t
  induction n with
  | zero=>rfl
  | succ n ih=>unfold cntR at ih ⊢; rw [List.replicate_succ,List.countP_cons,ih]; rfl
 have h1:cntR (repU F M K E c t)=F+M+K:=by
  unfold repU
  rw [YJQ,YJQ,YJQ,e1,e2,e2,e2]; omega
 have h2:=YUu (repU F M K E c t)
 rw [YNr,h1] at h2
 exact ⟨h1,by omega⟩
theorem YTm (F M K:Nat) {E:List YAB} {c:Bool} {t:List YAD} (hE:YB7 E=0) (hEa : ∀ e∈E,okA e.Attrs) (ht:c=false→YAv t true=0) (hta:okA t) : ∀ u∈repU F M K E c t,OkUn u:=by
 have e2 : ∀ (n:Nat),∀ u∈List.replicate n (Un.r false []),OkUn u:=by
  intro n u hu
  have:=List.eq_of_mem_replicate hu
  subst this
  exact ⟨fun _=>YL6,YEc⟩
 intro u hu
 unfold repU at hu
 rcases List.mem_append.1 hu with h | h
 ·exact e2 _ u h
 ·rcases List.mem_append.1 h with h | h
  ·obtain ⟨e,h3,rfl⟩:=List.mem_map.1 h
   obtain ⟨j,hj,rfl⟩:=List.mem_iff_getElem.1 h3
   have h4:=YJm hE hj
   rw [getElem!_pos E j hj] at h4
   exact ⟨h4,hEa _ h3⟩
  ·rcases List.mem_append.1 h with h | h
   ·have:=List.eq_of_mem_replicate h
    subst this
    exact ⟨ht,hta⟩
   ·exact e2 _ u h
def wOut (X:List Un):List YAC × Int:=if YJP (YBt X)≠0 then ([],3) else (YBt X,0)
def BadR (n f t:Int):Prop:=n<0∨2147483647<n∨f<0∨t<f∨n<t
instance (n f t:Int):Decidable (BadR n f t):=by unfold BadR; infer_instance
theorem YU1 (n f t:Int):YEz n f t=some (if BadR n f t then 2 else 0):=by
 unfold YEz
 by_cases h:BadR n f t
 ·rw [if_pos h,if_pos (by unfold BadR at h; simp only [Bool.or_eq_true,decide_eq_true_eq]; omega)]
 ·rw [if_neg h,if_neg (by unfold BadR at h; simp only [Bool.or_eq_true,decide_eq_true_eq]; omega)]
theorem toW0:YAE.mk [] [] 0=toW (dOn []):=rfl
theorem YST (F M K:Nat) (E:List YAB) (hb:F+M+K≤2147483647) (hE:E.length≤1048576) (hEa : ∀ e∈E,okA e.Attrs) (n f t:Int) (hn:n=((F+M+K:Nat):Int)) (hf:f=(F:Int)) (ht:t=((F+M:Nat):Int)) :
  YCd n f t E=some (if YB7 E≠0 then ([],YB7 E) else wOut (repU F M K E true [])):=by
 unfold YCd
 rw [YU1,if_neg (show ¬ BadR n f t by unfold BadR; omega),YAA,if_neg (by decide),YGe _ (YWy hEa) (by omega),YAA]
 by_cases e1:YB7 E≠0
 ·rw [if_pos (ndT e1),if_pos e1]
 have e1:=Classical.not_not.1 e1
 have ok1 : ∀ u∈List.replicate F (Un.r false []),OkUn u:=fun u hu=>by
  have:=List.eq_of_mem_replicate hu
  subst this
  exact ⟨fun _=>YL6,YEc⟩
 have hU:=YTm F M K (E:=E) (c:=true) (t:=[]) e1 hEa (fun h=>by cases h) YEc
 have ok2 : ∀ u∈List.replicate F (Un.r false [])++E.map Un.a,OkUn u:=fun u hu=>by
  refine hU u ?_
  unfold repU
  rw [← List.append_assoc]
  exact List.mem_append_left _ hu
 have ok3 : ∀ u∈List.replicate F (Un.r false [])++E.map Un.a++List.replicate M (Un.r true []),OkUn u:=fun u hu=>by
  refine hU u ?_
  unfold repU
  rw [← List.append_assoc,← List.append_assoc]
  exact List.mem_append_left _ hu
 rw [if_neg (ndF e1),if_neg (show ¬ (YB7 E≠0) by simpa using e1),toW0,keepW (by simp) (by simp) f [] (by omega) (by omega) (by simp),YAA,List.nil_append,show f.toNat=F by omega]
 rw [elemsW ok1 (by simp; omega) E (by omega) hEa,YAA,YDC (by omega) (by omega),YAA,YDC (by omega) (by omega),YAA]
 have hcut:(YAE.mk (toW (dOn (List.replicate F (Un.r false [])++E.map Un.a))).out (toW (dOn (List.replicate F (Un.r false [])++E.map Un.a))).add (t-f))=toW (dOn (List.replicate F (Un.r false [])++E.map Un.a++List.replicate M (Un.r true []))):=by
  rw [← YQt]
  have hc0:(dOn (List.replicate F (Un.r false [])++E.map Un.a)).cuts=0:=by
   rw [← YIA]
   show (dOn (List.replicate F (Un.r false []))).cuts=0
   have h:=YH9 [] (F:Int) [] (by omega)
   rw [List.nil_append,Int.toNat_natCast] at h
   rw [← h]
   unfold YOA
   split <;> rfl
  unfold toW
  dsimp only
  rw [hc0,show t-f=((0+M:Nat):Int) by omega]
 rw [hcut,keepW ok3 (by simp; omega) (n-t) [] (by omega) (by omega) (by simp),YAA,show (n-t).toNat=K by omega]
 have hX:List.replicate F (Un.r false [])++E.map Un.a++List.replicate M (Un.r true [])++List.replicate K (Un.r false [])=repU F M K E true []:=by simp [repU]
 rw [hX]
 have hl:=YIo hU
 rw [YNr] at hl
 have hc:=YRQ F M K E true []
 rw [YUp hU (by omega) (by omega)]
 unfold wOut
 split <;> rfl
theorem mk24e {n:Nat} (h:n≤4294967296) {z:List YAB} : mk 24 (n:Int) z=some (List.replicate n z):=by
 unfold mk
 rw [if_pos (by omega),Int.toNat_natCast]
theorem mk1b {n:Nat} (h:n≤4294967296) {z:Bool} : mk 1 (n:Int) z=some (List.replicate n z):=by
 unfold mk
 rw [if_pos (by omega),Int.toNat_natCast]
def allW (f:List YAB) (w:Nat→Bool):List Bool:=(List.range f.length).map (isW f w (visN f).length)
theorem YXq {F:Int × List YAC→Option ((Int × List YAC) ⊕ List YAC)} (ws:List Bool) (change:List YAD)
  (h1 : ∀ k l,k<ws.length→l.length≤k→F ((k:Int),l)=some (.inl (((k+1:Nat):Int),l++[⟨0,1,if ws[k]! then change else [],[]⟩])))
  (h2 : ∀ l,F ((ws.length:Int),l)=some (.inr l)):iter F (0,[])=some (YFA (ws.map fun b=>if b then change else [])):=by
 have key : ∀ m k l,k+m=ws.length→l.length≤k→iter F ((k:Int),l)=some (l++YFA ((ws.drop k).map fun b=>if b then change else [])):=by
  intro m
  induction m with
  | zero=>
   intro k l hk hl
   obtain rfl:k=ws.length:=by omega
   rw [YAX (h2 _)]
   simp [YFA]
  | succ m ih=>
   intro k l hk hl
   rw [YBM (h1 k _ (by omega) hl),ih (k+1) _ (by omega) (by simp; omega),YG1 (show k<ws.length by omega)]
   simp [YFA]
 have:=key ws.length 0 [] (by omega) (by simp)
 simpa using this
def YGB (f:List YAB) (w:Nat→Bool) (k:Nat) (change:List YAD):List (List YAD):=(List.range f.length).map fun i=>if isW f w k i then change else []
theorem YGK (f:List YAB) (w:Nat→Bool) (k:Nat) (change:List YAD):(YGB f w k change).length=f.length:=by simp [YGB]
theorem YI6 (f:List YAB) (w:Nat→Bool) (k:Nat) {change:List YAD} (h:YAv change true=0∧okA change∧change.length≤1048576) : ∀ t∈YGB f w k change,YAv t true=0∧okA t∧t.length≤1048576:=by
 intro t ht
 obtain ⟨i,_,rfl⟩:=List.mem_map.1 ht
 split
 ·exact h
 ·exact ⟨by decide,⟨by simp,by intro a ha; simp at ha⟩,by simp⟩
theorem YT8 {n:YAR} (h0:YAz n=some 0):1≤n.ID∧n.ID≤1073741824:=by
 unfold YAz at h0
 split at h0
 ·cases h0
 ·rename_i c
  simp only [Bool.or_eq_true,decide_eq_true_eq] at c
  omega
def badS (size at_ n:Int):Prop:=n < -2147483647∨n=0∨at_<0∨size<at_∨(n<0∧size-at_ < -n)
instance (size at_ n:Int):Decidable (badS size at_ n):=by unfold badS; infer_instance
theorem YLd (o:GOp) (hn:okN o.New) (ha:o.Attrs.length≤1048576) (hd:o.Steps=[]) (hg:o.Grid.Rows.length≤1048576∧o.Grid.Cols.length≤1048576∧(o.Grid.Cells.length≤1048576 ∧ ∀ x∈o.Grid.Cells,x.Attrs.length≤1073741824)∧o.Grid.Split.length≤1048576∧o.Grid.Merge.length≤1048576) (hw:o.Draw=[]):YA4 o o=some true:=by
 unfold YA4
 have e1:(decide (o.Kind=o.Kind) && decide (o.Node=o.Node))=true:=by simp
 have h1:YC5 o.New o.New=some true:=by rw [YLf _ _ hn]; simp
 have h2:YA7 o.Attrs o.Attrs=some true:=by rw [YBc _ _ (by omega)]; simp
 have h3:YCa o.Steps o.Steps=some true:=by rw [hd,YHA _ _ (by simp) (by simp)]; simp
 have h4:YC7 o.Grid o.Grid=some true:=by
  obtain ⟨g1,g2,⟨g3,g4⟩,g5,g6⟩:=hg
  unfold YC7
  rw [YDg _ _ (by omega),YDg _ _ (by omega),YHf _ _ (by omega) g4,YEr _ _ (by omega),YEr _ _ (by omega)]
  simp
 have h5:YB6 o.Draw o.Draw=some true:=by
  rw [hw]
  unfold YB6
  rw [if_neg (by simp),YAX (r:=.nrm ()) (by unfold YB5; rw [if_neg (by simp)])]; rfl
 rw [e1,h1,h2,h3,h4,h5]; rfl
theorem YRf : ∀ n:Nat,0<n→dOn (List.replicate n (Un.r false []))=⟨[⟨0,(n:Int),[],[]⟩],[],0⟩
 | 0,h=>absurd h (Nat.lt_irrefl 0)
 | 1,_=>rfl
 | n+2,_=>by
  have ih:=YRf (n+1) (by omega)
  rw [List.replicate_succ',dOn,List.foldl_append]
  rw [show List.foldl dU D0 (List.replicate (n+1) (Un.r false []))=dOn (List.replicate (n+1) (Un.r false [])) from rfl,ih]
  show (⟨YIr (dFl ⟨[⟨0,((n+1:Nat):Int),[],[]⟩],[],0⟩) [],[],0⟩:DS)=_
  have e:dFl ⟨[⟨0,((n+1:Nat):Int),[],[]⟩],[],0⟩=[⟨0,((n+1:Nat):Int),[],[]⟩]:=rfl
  rw [e]
  unfold YIr
  rw [if_pos ⟨by simp,rfl,rfl⟩]
  congr 1
def endS (n:Nat) (x:YAB):List YAC:=(if 0<n then [⟨0,(n:Int),[],[]⟩] else [])++[⟨1,0,[],[x]⟩]
theorem YVZ (n:Nat) (x:YAB):YBt (repU n 0 0 [x] true [])=endS n x:=by
 rw [YFt]
 have e:repU n 0 0 [x] true []=List.replicate n (.r false [])++[Un.a x]:=by simp [repU]
 rw [e,dOn,List.foldl_append]
 rw [show List.foldl dU D0 (List.replicate n (Un.r false []))=dOn (List.replicate n (Un.r false [])) from rfl]
 unfold endS
 by_cases hn:0<n
 ·rw [YRf n hn,if_pos hn]; rfl
 ·have:n=0:=by omega
  subst this
  rw [if_neg hn]; rfl
theorem YVl {nx:Int} (h:1≤nx∧nx≤1073741824):YB7 [⟨0,nx,[]⟩]=0:=by
 have he:YBk ⟨0,nx,[]⟩=0:=by
  unfold YBk
  simp only
  have ha:YAv ([]:List YAD) false=0:=by decide
  rw [ha]
  simp; omega
 unfold YB7
 have:(List.range [(⟨0,nx,[]⟩:YAB)].length).findSome? (errE [⟨0,nx,[]⟩])=none:=by
  refine YJK fun j hj=>?_
  have hj0:j=0:=by simpa using hj
  subst hj0
  unfold errE
  rw [if_pos (by exact he)]
 rw [this]; rfl
theorem YXm (d:GDoc) (site:Int) (h:YHC d) (h0:YBh d=some 0) : ∃ n e,YF9 d site=some (n,e)∧(e=0→1≤n∧n≤1073741824):=by
 obtain ⟨hs,hall⟩:=YRx h h0
 have hm:=h.1
 unfold YF9
 rw [h0,YAA,if_neg (by decide)]
 split
 ·exact ⟨_,_,rfl,fun e=>by cases e⟩
 ·rename_i hc
  simp only [Bool.or_eq_true,decide_eq_true_eq] at hc
  have hsh:shlC .i64 site 16=site * 65536:=by
   unfold shlC
   have:(2:Int) ^ (min 16 (IntKind.i64).bits)=65536:=by decide
   rw [this]
   have:=YDC (z:=site * 65536) (by omega) (by omega)
   exact (YJR this).1
  obtain ⟨b,hb,hq⟩:=YCx (f:=fun (a:Int × Int)=>YEg d site a.1 a.2) d.Nodes.length
   (fun k st=>st.2=(k:Int)∧0≤st.1∧st.1≤site * 65536+65535) (fun b=>0≤b∧b≤site * 65536+65535)
   (fun k st hk hst=>by
    obtain ⟨a,x⟩:=st
    obtain ⟨rfl,ha⟩:=hst
    left
    unfold YEg
    dsimp only
    rw [if_pos (decide_eq_true (show (k:Int)<(d.Nodes.length:Int) by omega)),YAG hk,YAA]
    unfold YKn
    rw [YAA]
    by_cases hsx:shrC .i64 d.Nodes[k]!.ID 16=site
    ·rw [if_pos (decide_eq_true hsx),YAA,YAQ (by omega)]
     have h1:=YT8 (hall k hk)
     have h2:d.Nodes[k]!.ID≤site * 65536+65535:=by
      unfold shrC at hsx
      have e:(2:Int) ^ (min 16 (IntKind.i64).bits)=65536:=by decide
      rw [e,Int.fdiv_eq_ediv_of_nonneg _ (by decide)] at hsx
      omega
     exact ⟨_,rfl,rfl,by dsimp only; omega,by dsimp only; omega⟩
    ·rw [if_neg (by simpa using hsx),YAA,YAQ (by omega)]
     exact ⟨_,rfl,rfl,ha⟩)
   (fun st hst=>by
    obtain ⟨a,x⟩:=st
    obtain ⟨rfl,ha⟩:=hst
    unfold YEg
    dsimp only
    rw [if_neg (by simp)]
    exact ⟨_,rfl,ha⟩)
   (s:=(shlC .i64 site 16,0)) ⟨rfl,by rw [hsh]; dsimp only; omega⟩
  rw [hb,YAA]
  split
  ·exact ⟨_,_,rfl,fun e=>by cases e⟩
  ·rw [YNN (by omega) (by omega),YAA]
   exact ⟨_,_,rfl,fun _=>by omega⟩
def opN (nx:Int) (l:List YAD) (f:List YAB):GOp:=GOp.mk 0 0 (YAR.mk nx 12 l (f++[YAB.mk 10 0 []]) (YAy.mk 0 0 [] []) []) [] [] (YAY.mk [] [] [] [] []) []
def opF (n:Nat) (nx:Int):GOp:=GOp.mk 2 1 (YAR.mk 0 0 [] [] (YAy.mk 0 0 [] []) []) [] (endS n ⟨0,nx,[]⟩) (YAY.mk [] [] [] [] []) []
def YGD (n:Nat) (nx e f:Int) (l:List YAD) (text:List UInt8) (t:List YAB):List GOp × Int × Int:=
 if e≠0 then ([],0,e) else if 20000<(text.length:Int) then ([],0,3) else if f≠0 then ([],0,f) else ([opN nx l t,opF n nx],nx,0)
theorem okz:okN (YAR.mk 0 0 [] [] (YAy.mk 0 0 [] []) []):=by
 constructor <;> simp [okA,YLo,okG]
theorem YXZ (n:Nat) (hn:n≤1048576) {nx:Int} (h:1≤nx∧nx≤1073741824):YCd (n:Int) (n:Int) (n:Int) [YAB.mk 0 nx []]=some (endS n ⟨0,nx,[]⟩,0):=by
 have hp:=YVl h
 have hea : ∀ e∈[(⟨0,nx,[]⟩:YAB)],okA e.Attrs:=by intro e he; rw [List.mem_singleton] at he; subst he; exact YEc
 rw [YST n 0 0 [⟨0,nx,[]⟩] (by omega) (by simp) hea n n n (by omega) rfl (by omega),if_neg (by simpa using hp)]
 unfold wOut
 have hU:=YTm n 0 0 (E:=[⟨0,nx,[]⟩]) (c:=true) (t:=[]) hp hea (fun h=>by cases h) YEc
 obtain ⟨c1,c2⟩:=YRQ n 0 0 [⟨0,nx,[]⟩] true []
 have hc:=YUu (repU n 0 0 [⟨0,nx,[]⟩] true [])
 have hn2:=YOS (repU n 0 0 [⟨0,nx,[]⟩] true [])
 have hl:=YNr n 0 0 [⟨0,nx,[]⟩] true []
 simp only [List.length_singleton] at hl c2
 rw [if_neg (by rw [YFt]; simpa using YXB (YIQ hU) (by omega) (by omega)),YVZ]
theorem YQh (d:GDoc) (l:List YAD) (text:List UInt8) (site:Int) (h:YHC d) (h0:YBh d=some 0) (hne:0<d.Nodes.length) (ht:text.length≤1048576) :
  ∃ nx e f t,YF9 d site=some (nx,e)∧(e=0→1≤nx∧nx≤1073741824)∧YFo text []=some (f,t)∧YDp text []=some (f,t)∧t.length≤text.length∧(∀ x∈t,x.Attrs=[])∧(f≠0→t=[]) ∧
   YCY d l text site=some (YGD d.Nodes[0]!.Flow.length nx e f l text t) ∧
   YDJ d l text site=some ((YGD d.Nodes[0]!.Flow.length nx e f l text t).2.1,(YGD d.Nodes[0]!.Flow.length nx e f l text t).2.2,(YGD d.Nodes[0]!.Flow.length nx e f l text t).1):=by
 obtain ⟨nx,e,hn,hb⟩:=YXm d site h h0
 obtain ⟨t,f,o1,o2,o3,o4,o5⟩:=YQd text [] YEc ht
 refine ⟨nx,e,f,t,hn,hb,o1,o2,o3,o4,o5,?_⟩
 have hfl:=(h.2 _ (YBI hne)).ok.fl
 have hi:idx d.Nodes 0=some d.Nodes[0]!:=YAG (k:=0) hne
 have ha:app 40 t [(YAB.mk 10 0 [])]=some (t++[YAB.mk 10 0 []]):=YQz (by rw [List.length_singleton]; omega)
 constructor
 all_goals
  first | unfold YCY | unfold YDJ
  unfold YGD
  rw [hn,YAt]
  by_cases he:e=0
  ·rw [if_neg (ndF he),if_neg (show ¬ e≠0 from fun h=>h he)]
   by_cases h2:20000<(text.length:Int)
   ·rw [if_pos (decide_eq_true h2),if_pos h2]
   ·rw [if_neg (show ¬ decide (20000<(text.length:Int))=true by simpa using h2),if_neg h2,o1,YAt]
    by_cases hf:f=0
    ·rw [if_neg (ndF hf),if_neg (show ¬ f≠0 from fun h=>h hf),ha,YAA,hi,YAA,YXZ _ hfl (hb he),YAt]
     rfl
    ·rw [if_pos (ndT hf),if_pos hf]
  ·rw [if_pos (ndT he),if_pos he]
theorem YUl (n:Nat) (nx:Int):(endS n ⟨0,nx,[]⟩).length≤2 ∧ ∀ s∈endS n ⟨0,nx,[]⟩,OkSt s:=by
 unfold endS
 constructor
 ·split <;> simp
 ·intro s hs
  rcases List.mem_append.1 hs with hs | hs
  ·split at hs
   ·rw [List.mem_singleton] at hs; subst hs; exact ⟨YEc,by simp,by simp⟩
   ·cases hs
  ·rw [List.mem_singleton] at hs; subst hs
   exact ⟨YEc,by simp,fun e he=>by rw [List.mem_singleton] at he; subst he; exact YEc⟩
theorem YKD (o:GOp) (hn:okN o.New) (ha:o.Attrs.length≤1048576) (hd:o.Steps.length≤1099511627776 ∧ ∀ s∈o.Steps,OkSt s) (hg:o.Grid.Rows.length≤1048576∧o.Grid.Cols.length≤1048576∧(o.Grid.Cells.length≤1048576 ∧ ∀ x∈o.Grid.Cells,x.Attrs.length≤1073741824)∧o.Grid.Split.length≤1048576∧o.Grid.Merge.length≤1048576) (hw:o.Draw=[]):YA4 o o=some true:=by
 unfold YA4
 have e1:(decide (o.Kind=o.Kind) && decide (o.Node=o.Node))=true:=by simp
 have h1:YC5 o.New o.New=some true:=by rw [YLf _ _ hn]; simp
 have h2:YA7 o.Attrs o.Attrs=some true:=by rw [YBc _ _ (by omega)]; simp
 have h3:YCa o.Steps o.Steps=some true:=by rw [YHA _ _ (by omega) hd.2]; simp
 have h4:YC7 o.Grid o.Grid=some true:=by
  obtain ⟨g1,g2,⟨g3,g4⟩,g5,g6⟩:=hg
  unfold YC7
  rw [YDg _ _ (by omega),YDg _ _ (by omega),YHf _ _ (by omega) g4,YEr _ _ (by omega),YEr _ _ (by omega)]
  simp
 have h5:YB6 o.Draw o.Draw=some true:=by
  rw [hw]
  unfold YB6
  rw [if_neg (by simp),YAX (r:=.nrm ()) (by unfold YB5; rw [if_neg (by simp)])]; rfl
 rw [e1,h1,h2,h3,h4,h5]; rfl
theorem YRU (d:GDoc) (a:YAD) (l:List YAD) (text:List UInt8) (site:Int) (f:Int) (tail:List GOp) (hl:okA (a :: l)) (ha:a.Value.length≤9223372036854775807)
  (hok:f=0→YHC d∧YBh d=some 0∧0<d.Nodes.length) (ht:text.length≤1048576) (c:List GOp) (id e:Int)
  (hR:if f≠0 then (c,id,e)=([],0,f) else if YEW a.Value=false then (c,id,e)=([],0,23) else ∃ R,YCY d (a :: l) text site=some R∧(c,id,e)=(if R.2.2=0 then R.1++tail else R.1,R.2.1,R.2.2)) :
  YIk d c id e f (a :: l) text site=some true:=by
 unfold YIk
 by_cases hf:f=0
 ·subst hf
  obtain ⟨hd,h0,hne⟩:=hok rfl
  rw [if_neg (by simp)] at hR
  rw [show (decide ((0:Int)=0) == true)=true from rfl,YAI,show idx (a :: l) 0=some a from rfl,YAA,YAI,YHg _ ha,YAA]
  cases hv:YEW a.Value with
  | false=>
   rw [if_pos hv] at hR
   simp only [Prod.mk.injEq] at hR
   obtain ⟨rfl,rfl,rfl⟩:=hR
   rfl
  | true=>
   rw [if_neg (by rw [hv]; decide)] at hR
   obtain ⟨R,hm,hce⟩:=hR
   obtain ⟨nx,e1,f1,t,m1,m2,m3,m4,m5,m6,m7,m8,-⟩:=YQh d (a :: l) text site hd h0 hne ht
   rw [hm] at m8
   injection m8 with m8
   subst m8
   have hfl:=(hd.2 _ (YBI hne)).ok.fl
   have hi:idx d.Nodes 0=some d.Nodes[0]!:=YAG (k:=0) hne
   rw [if_neg (by decide),YAA,if_pos (by decide),m1,YAt,YAt]
   by_cases he:e1=0
   ·subst he
    by_cases h2:20000<(text.length:Int)
    ·have e0:YGD d.Nodes[0]!.Flow.length nx 0 f1 (a :: l) text t=([],0,3):=by unfold YGD; rw [if_neg (by simp),if_pos h2]
     rw [e0] at hce
     simp only [Prod.mk.injEq] at hce
     obtain ⟨q1,q2,q3⟩:=hce
     rw [q1,q2,q3,decide_eq_true h2,if_pos (by decide),YAA]
     rfl
    ·rw [decide_eq_false h2,if_neg (by decide),YAA,if_pos (by decide),m4,YAt,YAt]
     by_cases hf1:f1=0
     ·subst hf1
      have e0:YGD d.Nodes[0]!.Flow.length nx 0 0 (a :: l) text t=([opN nx (a :: l) t,opF d.Nodes[0]!.Flow.length nx],nx,0):=by unfold YGD; rw [if_neg (by simp),if_neg h2,if_neg (by simp)]
      rw [e0] at hce
      simp only [if_true,Prod.mk.injEq] at hce
      obtain ⟨q1,q2,q3⟩:=hce
      have hn1:okN (opN nx (a :: l) t).New:=by
       refine ⟨hl,by simp [opN]; omega,fun x hx=>?_,by simp [opN,okG],by simp [opN]⟩
       rcases List.mem_append.1 hx with hx | hx
       ·rw [m6 x hx]; exact YEc
       ·rw [List.mem_singleton] at hx; subst hx; exact YEc
      have s1:YA4 (opN nx (a :: l) t) (opN nx (a :: l) t)=some true:=YLd _ hn1 (by simp [opN]) rfl (by simp [opN]) rfl
      have s2:YA4 (opF d.Nodes[0]!.Flow.length nx) (opF d.Nodes[0]!.Flow.length nx)=some true:=YKD _ okz (by simp [opF]) ⟨by have:=(YUl d.Nodes[0]!.Flow.length nx).1; show (endS _ _).length≤_; omega,(YUl _ nx).2⟩ (by simp [opF]) rfl
      rw [q1,q2,q3,if_neg (by decide)]
      show (bnd1 (app 40 t [(YAB.mk 10 0 [])]) _)=_
      rw [YQz (by rw [List.length_singleton]; omega),YAA,hi,YAA]
      obtain ⟨w1,x1,x2⟩ : ∃ w1,(if (decide ((0:Int)<(d.Nodes[0]!.Flow.length:Int))) then (bnd1 (app 64 [] [(YAC.mk 0 (d.Nodes[0]!.Flow.length:Int) [] [])]) fun (steps3:List YAC)=>some steps3) else (some ([]:List YAC)))=some w1∧app 64 w1 [(YAC.mk 1 0 [] [(YAB.mk 0 nx [])])]=some (endS d.Nodes[0]!.Flow.length ⟨0,nx,[]⟩):=by
       unfold endS
       by_cases h0l:0<d.Nodes[0]!.Flow.length
       ·exact ⟨_,by rw [if_pos (decide_eq_true (by omega)),YHx (by simp),YAA],by rw [if_pos h0l,YHx (by simp)]; rfl⟩
       ·exact ⟨[],by rw [if_neg (by simpa using h0l)],by rw [if_neg h0l,YHx (by simp)]⟩
      rw [x1,YAA,x2,YAA]
      have hlen:(1:Int)<((([opN nx (a :: l) t,opF d.Nodes[0]!.Flow.length nx]++tail:List GOp)).length:Int):=by simp; omega
      have hcnd:(((decide ((0:Int)=0)) && (decide (nx=nx))) && (decide ((1:Int)<((([opN nx (a :: l) t,opF d.Nodes[0]!.Flow.length nx]++tail:List GOp)).length:Int))))=true:=by
       rw [decide_eq_true hlen]; simp
      rw [hcnd]
      show (bnd1 (YA4 (opN nx (a :: l) t) (opN nx (a :: l) t)) fun (r3:Bool)=>_)=_
      rw [s1,YAA]
      show (bnd1 (YA4 (opF d.Nodes[0]!.Flow.length nx) (opF d.Nodes[0]!.Flow.length nx)) fun (r4:Bool)=>_)=_
      rw [s2]; rfl
     ·have e0:YGD d.Nodes[0]!.Flow.length nx 0 f1 (a :: l) text t=([],0,f1):=by unfold YGD; rw [if_neg (by simp),if_neg h2,if_pos hf1]
      rw [e0] at hce
      simp only [Prod.mk.injEq,if_neg hf1] at hce
      obtain ⟨q1,q2,q3⟩:=hce
      rw [q1,q2,q3,if_pos (ndT hf1),decide_eq_true rfl]; rfl
   ·have e0:YGD d.Nodes[0]!.Flow.length nx e1 f1 (a :: l) text t=([],0,e1):=by unfold YGD; rw [if_pos he]
    rw [e0] at hce
    simp only [Prod.mk.injEq,if_neg he] at hce
    obtain ⟨q1,q2,q3⟩:=hce
    rw [q1,q2,q3,decide_eq_false he,Bool.false_and,if_neg (by decide),YAA,decide_eq_false he,if_neg (by decide),YAt,if_pos (by simpa using he),decide_eq_true rfl]
    rfl
 ·rw [if_pos hf] at hR
  simp only [Prod.mk.injEq] at hR
  obtain ⟨q1,q2,q3⟩:=hR
  rw [q1,q2,q3,decide_eq_false hf,show ((false:Bool) == true)=false from rfl,YBY,YAA,YBY,YAA,Bool.false_and,if_neg (by decide),YAA,decide_eq_false hf,if_neg (by decide),YAt,decide_eq_false hf,Bool.false_and,if_neg (by decide),YAA,decide_eq_false hf,if_neg (by decide),YAt,if_pos (by simpa using hf),decide_eq_true rfl]
  rfl
theorem YUq {ts:List (List YAD)} (h : ∀ t∈ts,YAv t true=0∧okA t∧t.length≤1048576) (hl:ts.length≤1048576):(YBt (YGE ts)).length≤9223372036854775806 ∧ ∀ s∈YBt (YGE ts),OkSt s:=by
 have hU:=YKi fun t ht=>⟨(h t ht).1,(h t ht).2.1⟩
 have hc:=YUu (YGE ts)
 have hn:=YOS (YGE ts)
 have hul:=YJC ts
 have lc:=(YQw (YIQ hU)).2.2.2.2.1
 have hk:=YUr hU (by omega) (by omega)
 rw [YFt]
 exact ⟨by omega,hk.st⟩
def YEe (n:Int):List UInt8:=[114,101,109,97,114,107,46]++Lib.itoa n
theorem YPi : ∀ (k u:Nat),u<10 ^ k→0<k→(Lib.decDigits u).length≤k ∧ ∀ c∈Lib.decDigits u,48≤c.toNat∧c.toNat≤57
 | 0,_,_,h=>absurd h (Nat.lt_irrefl 0)
 | k+1,u,hu,_=>by
  have dig : ∀ r,r<10→48≤(UInt8.ofNat (48+r)).toNat∧(UInt8.ofNat (48+r)).toNat≤57:=by
   intro r hr
   have:r=0∨r=1∨r=2∨r=3∨r=4∨r=5∨r=6∨r=7∨r=8∨r=9:=by omega
   rcases this with rfl | rfl | rfl | rfl | rfl | rfl | rfl | rfl | rfl | rfl <;> decide
  rw [Lib.decDigits]
  by_cases h10:u<10
  ·rw [dif_pos h10]
   refine ⟨by simp,fun c hc=>?_⟩
   rw [List.mem_singleton] at hc
   subst hc; exact dig u h10
  ·rw [dif_neg h10]
   have hk:0<k:=by
    rcases Nat.eq_zero_or_pos k with h | h
    ·subst h; omega
    ·exact h
   obtain ⟨i1,i2⟩:=YPi k (u / 10) (by rw [Nat.pow_succ] at hu; omega) hk
   refine ⟨by simp; omega,fun c hc=>?_⟩
   rcases List.mem_append.1 hc with hc | hc
   ·exact i2 c hc
   ·rw [List.mem_singleton] at hc
    subst hc; exact dig _ (Nat.mod_lt _ (by decide))
theorem YLs {n:Int} (h:1≤n∧n≤1073741824):YFg n=some (YEe n)∧(YEe n).length≤17∧YFC (YEe n)=true:=by
 have e:Lib.itoa n=Lib.decDigits n.toNat:=by unfold Lib.itoa; rw [if_neg (by omega)]
 obtain ⟨d1,d2⟩:=YPi 10 n.toNat (by omega) (by decide)
 have hl:(YEe n).length≤17:=by unfold YEe; rw [e,List.length_append]; simp; omega
 refine ⟨?_,hl,?_⟩
 ·unfold YFg strconv_Itoa itoaS
  rw [if_pos (by omega),YAA]
  unfold catM
  rw [if_pos (by rw [e]; simp; omega),YAA]
  rfl
 ·unfold YFC
  have h2:(YEe n).all chOK=true:=by
   rw [List.all_eq_true]
   intro c hc
   unfold YEe at hc
   rcases List.mem_append.1 hc with hc | hc
   ·have : ∀ c∈([114,101,109,97,114,107,46]:List UInt8),chOK c=true:=by decide
    exact this c hc
   ·rw [e] at hc
    have:=d2 c hc
    unfold chOK
    simp only [Bool.or_eq_true,Bool.and_eq_true,decide_eq_true_eq]
    omega
  rw [h2]
  have h0:(YEe n)[0]! = 114:=rfl
  rw [h0,decide_eq_true (show 1≤(YEe n).length by unfold YEe; simp),decide_eq_true (show (YEe n).length≤24 by omega)]
  rfl
def onV:List UInt8:=[111,110]
theorem YPI {m:List UInt8} (h:YFC m=true) (hl:m.length≤24):YAv [⟨m,onV⟩] true=0∧okA [(⟨m,onV⟩:YAD)]∧[(⟨m,onV⟩:YAD)].length≤1048576:=by
 refine ⟨?_,⟨by simp,fun a ha=>?_⟩,by simp⟩
 ·unfold YAv
  have:(List.range [(⟨m,onV⟩:YAD)].length).findSome? (errA [⟨m,onV⟩] true)=none:=by
   refine YJK fun j hj=>?_
   have hj0:j=0:=by simpa using hj
   subst hj0
   unfold errA
   have e0:([(⟨m,onV⟩:YAD)]:List YAD)[0]! = ⟨m,onV⟩:=rfl
   rw [e0]
   dsimp only
   rw [h,if_neg (by decide),if_neg (by decide),if_neg (by omega)]
  rw [this]; rfl
 ·rw [List.mem_singleton] at ha
  subst ha
  exact ⟨by dsimp only; omega,by show onV.length≤_; decide⟩
def wM (a m:Nat) (j:Nat):Bool:=decide (a≤j) && decide (j<a+m)
theorem YTZ (f:List YAB) {a m:Nat} (h:a+m≤(visN f).length):slc (shown f 0 f.length) (a:Int) ((a+m:Nat):Int)=some (((visN f).drop a).take m |>.map fun (i:Nat)=>(i:Int)):=by
 unfold slc
 have hl:(shown f 0 f.length).length=(visN f).length:=by rw [YLZ,List.length_map]
 rw [if_pos (by omega),YLZ]
 congr 1
 rw [← List.map_drop,← List.map_take]
 congr 1
 rw [Int.toNat_natCast,Int.toNat_natCast,show a+m-a=m by omega]
theorem YS2 (f:List YAB) {a m x:Nat} (h:a+m≤(visN f).length) (hx:x<m):((visN f).drop a |>.take m)[x]? = some (visN f)[a+x]!:=by
 rw [List.getElem?_take,if_pos hx,List.getElem?_drop,List.getElem?_eq_getElem (by omega),getElem!_pos _ _ (by omega)]
theorem YNT (f:List YAB) {a m:Nat} (h:a+m≤(visN f).length):((visN f).drop a |>.take m).length=m:=by
 rw [List.length_take,List.length_drop]; omega
theorem YS1 (f:List YAB) {a m:Nat} (h:a+m≤(visN f).length) (i:Nat):(((i:Int))∈((visN f).drop a |>.take m).map fun (i:Nat)=>(i:Int))↔isW f (wM a m) (visN f).length i=true:=by
 unfold isW
 rw [decide_eq_true_eq,List.mem_map]
 constructor
 ·rintro ⟨q,hq,he⟩
  obtain ⟨x,hx,rfl⟩:=List.getElem_of_mem hq
  rw [YNT f h] at hx
  have:=YS2 f h hx
  rw [List.getElem?_eq_getElem (by rw [YNT f h]; exact hx)] at this
  injection this with this
  refine ⟨a+x,by omega,?_,by unfold wM; simp; omega⟩
  rw [← this]; omega
 ·rintro ⟨j,h1,h2,h3⟩
  unfold wM at h3
  simp only [Bool.and_eq_true,decide_eq_true_eq] at h3
  refine ⟨i,?_,rfl⟩
  have:=YS2 f h (x:=j-a) (by omega)
  rw [show a+(j-a)=j by omega,h2] at this
  exact List.mem_of_getElem? this
theorem YVi (d1:YAR) (nx:Int) (hn:1≤nx∧nx≤1073741824) (hf:d1.Flow.length≤1048576) {a m:Nat} (h:a+m≤(visN d1.Flow).length) :
  iter (fun (s:Int × (List YAC))=>YDK nx d1 (((visN d1.Flow).drop a |>.take m).map fun (i:Nat)=>(i:Int)) s.1 s.2) (0,[])=some (YFA (YGB d1.Flow (wM a m) (visN d1.Flow).length [⟨YEe nx,onV⟩])):=by
 have hv:=YQ9 d1.Flow
 obtain ⟨m1,_,_⟩:=YLs hn
 have hlen:(((visN d1.Flow).drop a |>.take m).map fun (i:Nat)=>(i:Int)).length≤1048576:=by rw [List.length_map,YNT _ h]; omega
 have he:((allW d1.Flow (wM a m)).map fun b=>if b then [(⟨YEe nx,onV⟩:YAD)] else [])=YGB d1.Flow (wM a m) (visN d1.Flow).length [⟨YEe nx,onV⟩]:=by simp [allW,YGB]
 rw [← he]
 refine YXq (allW d1.Flow (wM a m)) [⟨YEe nx,onV⟩] (fun k l hk hl=>?_) (fun l=>?_)
 ·have hk':k<d1.Flow.length:=by simpa [allW] using hk
  have hb:(allW d1.Flow (wM a m))[k]! = isW d1.Flow (wM a m) (visN d1.Flow).length k:=by
   rw [getElem!_pos _ k hk]; simp [allW]
  unfold YDK
  dsimp only
  rw [if_pos (decide_eq_true (show (k:Int)<(d1.Flow.length:Int) by omega)),YCR _ _ hlen,YAA,hb]
  by_cases hm:((k:Int))∈((visN d1.Flow).drop a |>.take m).map fun (i:Nat)=>(i:Int)
  ·have hw:=(YS1 d1.Flow h k).1 hm
   rw [if_pos (decide_eq_true hm),m1,YAA,YAA,YHx (by omega),YAA,YAQ (by omega),hw]
   rfl
  ·have hw:isW d1.Flow (wM a m) (visN d1.Flow).length k=false:=by
    rw [Bool.eq_false_iff]; exact fun hc=>hm ((YS1 d1.Flow h k).2 hc)
   rw [if_neg (by simpa using hm),YAA,YHx (by omega),YAA,YAQ (by omega),hw]
   rfl
 ·unfold YDK
  dsimp only
  rw [if_neg (by simp [allW])]
theorem YSQ (f:List YAB) (change:List YAD) {a m:Nat} (h:a+m<(visN f).length):(YGB f (wM a m) (visN f).length change).set (visN f)[a+m]! change=YGB f (wM a (m+1)) (visN f).length change:=by
 refine List.ext_getElem (by simp [YGB]) fun i h1 h2=>?_
 rw [List.getElem_set]
 simp only [YGB,List.getElem_map,List.getElem_range]
 have key:isW f (wM a (m+1)) (visN f).length i=(decide ((visN f)[a+m]! = i) || isW f (wM a m) (visN f).length i):=by
  rw [Bool.eq_iff_iff]
  unfold isW
  simp only [Bool.or_eq_true,decide_eq_true_eq]
  constructor
  ·rintro ⟨j,j1,j2,j3⟩
   unfold wM at j3
   simp only [Bool.and_eq_true,decide_eq_true_eq] at j3
   by_cases e:j=a+m
   ·subst e; exact .inl j2
   ·exact .inr ⟨j,j1,j2,by unfold wM; simp; omega⟩
  ·rintro (e | ⟨j,j1,j2,j3⟩)
   ·exact ⟨a+m,h,e,by unfold wM; simp⟩
   ·unfold wM at j3
    simp only [Bool.and_eq_true,decide_eq_true_eq] at j3
    exact ⟨j,j1,j2,by unfold wM; simp; omega⟩
 rw [key]
 split
 ·rename_i e; rw [decide_eq_true e]; rfl
 ·rename_i e; rw [decide_eq_false e,Bool.false_or]
theorem YSP (f:List YAB) (change:List YAD) (a:Nat):YGB f (wM a 0) (visN f).length change=List.replicate f.length []:=by
 refine List.ext_getElem (by simp [YGB]) fun i _ _=>?_
 have:isW f (wM a 0) (visN f).length i=false:=by
  unfold isW
  refine decide_eq_false ?_
  rintro ⟨j,j1,j2,j3⟩
  unfold wM at j3
  simp only [Bool.and_eq_true,decide_eq_true_eq] at j3
  omega
 simp [YGB,this]
theorem YVw (f:List YAB) (nx:Int) (hn:1≤nx∧nx≤1073741824) (hf:f.length≤1048576) {a m:Nat} (h:a+m≤(visN f).length) (A:List (List YAB)) (C:List Bool) :
  iter (fun (s:Int × YAq)=>YAp nx (((visN f).drop a |>.take m).map fun (i:Nat)=>(i:Int)) s.1 s.2) (0,(YAq.mk A C (List.replicate f.length [])))=some (YAq.mk A C (YGB f (wM a m) (visN f).length [⟨YEe nx,onV⟩])):=by
 have hv:=YQ9 f
 obtain ⟨m1,m2,_⟩:=YLs hn
 obtain ⟨i1,i2⟩:=YLi nx (by omega) (by omega)
 have hw:(((visN f).drop a |>.take m).map fun (i:Nat)=>(i:Int)).length=m:=by rw [List.length_map,YNT _ h]
 have:=YCx (f:=fun (s:Int × YAq)=>YAp nx (((visN f).drop a |>.take m).map fun (i:Nat)=>(i:Int)) s.1 s.2) m
  (fun k st=>st=((k:Int),YAq.mk A C (YGB f (wM a k) (visN f).length [⟨YEe nx,onV⟩])))
  (fun b=>b=YAq.mk A C (YGB f (wM a m) (visN f).length [⟨YEe nx,onV⟩]))
  (s:=(0,(YAq.mk A C (List.replicate f.length []))))
  (fun k st hk hst=>?_) (fun st hst=>?_) (by rw [YSP]; rfl)
 ·obtain ⟨b,h1,h2⟩:=this
  rw [h1,h2]
 ·subst hst
  left
  refine ⟨_,?_,rfl⟩
  unfold YAp
  dsimp only
  have hx:idx (((visN f).drop a |>.take m).map fun (i:Nat)=>(i:Int)) (k:Int)=some (((visN f)[a+k]! : Nat):Int):=by
   have hl:k<(((visN f).drop a |>.take m).map fun (i:Nat)=>(i:Int)).length:=by omega
   rw [YV0 hl,← List.getElem?_eq_getElem hl,List.getElem?_map,YS2 f h hk]
   rfl
  have hlt:(visN f)[a+k]! < f.length:=YXE (by omega)
  have hcat:catM [114,101,109,97,114,107,46] (Lib.itoa nx)=some (YEe nx):=by
   unfold catM
   rw [if_pos (by simp; omega)]; rfl
  have hon:YKH (YEe nx)=some [⟨YEe nx,onV⟩]:=by
   unfold YKH; rfl
  rw [if_pos (decide_eq_true (show (k:Int)<((((visN f).drop a |>.take m).map fun (i:Nat)=>(i:Int)).length:Int) by omega)),hx,YAA,i1,YAA,hcat,YAA,hon,YAA,YAG (by rw [YGK]; exact hlt),YAA,YAQ (by omega),YAA]
  rw [← YSQ f [⟨YEe nx,onV⟩] (show a+k<(visN f).length by omega)]
  rfl
 ·subst hst
  refine ⟨_,?_,rfl⟩
  unfold YAp
  dsimp only
  rw [if_neg (by simp only [decide_eq_true_eq]; omega)]
def auA (author:List UInt8):YAD:=⟨[97,117,116,104,111,114],author⟩
def reA (id:Int):YAD:=⟨[114,101,112,108,121],Lib.itoa id⟩
def op3R (node:Int) (f:List YAB) (nx:Int) (a m:Nat):GOp:=GOp.mk 2 node (YAR.mk 0 0 [] [] (YAy.mk 0 0 [] []) []) [] (YBt (YGE (YGB f (wM a m) (visN f).length [⟨YEe nx,onV⟩]))) (YAY.mk [] [] [] [] []) []
theorem YT5 (node:Int) (f:List YAB) (nx:Int) (hn:1≤nx∧nx≤1073741824) (hf:f.length≤1048576) (a m:Nat):YA4 (op3R node f nx a m) (op3R node f nx a m)=some true:=by
 obtain ⟨_,m2,m3⟩:=YLs hn
 obtain ⟨a1,a2⟩:=YUq (YI6 f (wM a m) (visN f).length (YPI m3 (by omega))) (by rw [YGK]; exact hf)
 refine YKD _ okz (by simp [op3R]) ⟨?_,a2⟩ (by simp [op3R]) rfl
 have hU:=YKi fun t ht=>⟨((YI6 f (wM a m) (visN f).length (YPI m3 (by omega))) t ht).1,((YI6 f (wM a m) (visN f).length (YPI m3 (by omega))) t ht).2.1⟩
 have lc:=(YQw (YIQ hU)).2.2.2.2.1
 have hc:=YUu (YGE (YGB f (wM a m) (visN f).length [⟨YEe nx,onV⟩]))
 have hn2:=YOS (YGE (YGB f (wM a m) (visN f).length [⟨YEe nx,onV⟩]))
 have hul:=YJC (YGB f (wM a m) (visN f).length [⟨YEe nx,onV⟩])
 rw [YGK] at hul
 show (YBt _).length≤_
 rw [YFt]
 omega
theorem YVz (d:GDoc) (id:Int) (h:YHC d) :
  ∃ q q1 q2,YEo d id=some q∧YC9 d=some q1 ∧
   (bnd1 (gd ((decide (q1=0)) == true) (YDh d id)) fun (r10:Int)=>(if ((decide (q1=0)) && (decide (r10<0))) then (some (7:Int)) else (some q1)))=some q2 ∧
   (bnd1 (gd ((decide (q2=0)) == true) (YDh d id)) fun (r11:Int)=>bnd1 (gd ((decide (q2=0)) == true) (idx d.Nodes r11)) fun (x1:YAR)=>(if ((decide (q2=0)) && (!decide (x1.Kind=12))) then (some (8:Int)) else (some q2)))=some q ∧
   (q=0→YBh d=some 0∧0<d.Nodes.length∧1≤id∧id≤1073741824):=by
 have hm:=h.1
 obtain ⟨e,h1,h2⟩:=YRy d h
 unfold YEo
 rw [h1,YAA]
 by_cases he:e=0
 ·subst he
  obtain ⟨hs,hall⟩:=YRx h h1
  rw [if_neg (by decide),YHv id hm hs,YAA,YGu d id hm]
  cases hf:YIm d.Nodes id with
  | none=>exact ⟨7,0,7,rfl,h2,rfl,rfl,fun e=>by cases e⟩
  | some k=>
   obtain ⟨hk,hid⟩:=YH7 hf
   dsimp only
   rw [if_neg (by simp),YAG hk,YAA]
   by_cases hK:d.Nodes[k]!.Kind=12
   ·refine ⟨0,0,0,by rw [if_neg (ndF hK)],h2,?_,?_,fun _=>⟨rfl,by omega,?_⟩⟩
    ·rw [show ((decide ((0:Int)=0)) == true)=true from rfl,YAI,YAA,if_neg (by simp)]
    ·rw [show ((decide ((0:Int)=0)) == true)=true from rfl,YAI,YAA,YAI,YAG hk,YAA,if_neg (by rw [decide_eq_true hK]; simp)]
    ·rw [← hid]; exact YT8 (hall k hk)
   ·refine ⟨8,0,0,by rw [if_pos (ndT hK)],h2,?_,?_,fun e=>by cases e⟩
    ·rw [show ((decide ((0:Int)=0)) == true)=true from rfl,YAI,YAA,if_neg (by simp)]
    ·rw [show ((decide ((0:Int)=0)) == true)=true from rfl,YAI,YAA,YAI,YAG hk,YAA,if_pos (by rw [decide_eq_false hK]; simp)]
 ·refine ⟨e,e,e,by rw [if_pos (ndT he)],h2,?_,?_,fun e0=>absurd e0 he⟩
  ·rw [decide_eq_false he,show ((false:Bool) == true)=false from rfl,YBY,YAA,Bool.false_and,if_neg (by decide)]
  ·rw [decide_eq_false he,show ((false:Bool) == true)=false from rfl,YBY,YAA,YBY,YAA,Bool.false_and,if_neg (by decide)]
theorem YSS (d:GDoc) (id:Int) (author text:List UInt8) (site q:Int) (h:YHC d) (ha:author.length≤1048576) (hq:YEo d id=some q) (hq0:q=0→YBh d=some 0∧0<d.Nodes.length∧1≤id∧id≤1073741824) (ht:text.length≤1048576) :
  ∃ c i e,YEp d id author text site=some (c,i,e)∧(e=0→c.length=2) ∧
   (if q≠0 then (c,i,e)=([],0,q) else if YEW (auA author).Value=false then (c,i,e)=([],0,23) else ∃ R,YCY d (auA author :: [reA id]) text site=some R∧(c,i,e)=(if R.2.2=0 then R.1++[] else R.1,R.2.1,R.2.2)):=by
 unfold YEp
 rw [hq,YAA]
 by_cases hz:q=0
 ·obtain ⟨h0,hne,hid⟩:=hq0 hz
  have hqn : ¬ q≠0:=fun h=>h hz
  rw [if_neg (ndF hz),YES _ (by omega),YAA]
  cases hv:YEW author with
  | false=>
   rw [if_pos (by decide)]
   refine ⟨[],0,23,rfl,fun e=>absurd e (by decide),?_⟩
   rw [if_neg hqn,if_pos (show YEW (auA author).Value=false from hv)]
  | true=>
   rw [if_neg (by decide)]
   have hI:strconv_Itoa id=some (Lib.itoa id):=by unfold strconv_Itoa itoaS; rw [if_pos (by omega)]
   obtain ⟨nx,e,f,t,m1,m2,m3,m4,m5,m6,m7,m8,-⟩:=YQh d (auA author :: [reA id]) text site h h0 hne ht
   rw [hI,YAA]
   have m8':YCY d [(YAD.mk [97,117,116,104,111,114] author),(YAD.mk [114,101,112,108,121] (Lib.itoa id))] text site=some (YGD d.Nodes[0]!.Flow.length nx e f (auA author :: [reA id]) text t):=m8
   rw [m8',YJU]
   refine ⟨_,_,_,rfl,?_,?_⟩
   ·intro e0
    unfold YGD at e0 ⊢
    split at e0
    ·rename_i hx; exact absurd e0 hx
    ·rename_i hx
     split at e0
     ·cases e0
     ·rename_i hy
      split at e0
      ·rename_i hw; exact absurd e0 hw
      ·rename_i hw
       rw [if_neg hx,if_neg hy,if_neg hw]; rfl
   ·rw [if_neg hqn,if_neg (show ¬ YEW (auA author).Value=false from by show ¬ YEW author=false; rw [hv]; decide)]
    refine ⟨_,m8,?_⟩
    simp
 ·rw [if_pos (ndT hz)]
  exact ⟨[],0,q,rfl,fun e=>absurd e hz,by rw [if_pos hz]⟩
theorem YT1 (d:GDoc) (s:GSel) (author text:List UInt8) (site:Int) (h:YHC d) (ha:author.length≤1048576) (ht:text.length≤1048576) :
  ∃ (c:List GOp) (i e p1 p2:Int) (tail:List GOp),YGN d s author text site=some (c,i,e)∧YDA d s=some p1 ∧
   (if ((decide (p1=0)) && (decide (s.From=s.To))) then (some (1:Int)) else (some p1))=some p2 ∧
   (p2=0→YHC d∧YBh d=some 0∧0<d.Nodes.length) ∧
   (if p2≠0 then (c,i,e)=([],0,p2) else if YEW (auA author).Value=false then (c,i,e)=([],0,23) else ∃ R,YCY d (auA author :: []) text site=some R∧(c,i,e)=(if R.2.2=0 then R.1++tail else R.1,R.2.1,R.2.2)) ∧
   (e=0 → ∃ (k a m:Nat) (o1 o2:GOp),k<d.Nodes.length∧YIm d.Nodes s.Node=some k∧okN2 d.Nodes[k]! ∧ YGz d.Nodes[k]!.Flow=0∧s.From=(a:Int)∧s.To=((a+m:Nat):Int)∧a+m≤(visN d.Nodes[k]!.Flow).length∧1≤i∧i≤1073741824∧c=[o1,o2,op3R s.Node d.Nodes[k]!.Flow i a m]):=by
 unfold YGN YD7
 rcases YWW d s [] h (by simp) with ⟨e,he,h1,h2⟩ | ⟨k,hk,hf,hid,hn,-,hfe,f0,f1,f2,h0,h2,h1⟩
 ·rw [h1,YAt,YAA,if_pos (ndT he)]
  refine ⟨[],0,e,e,e,[],rfl,h2,by rw [decide_eq_false he,Bool.false_and,if_neg (by decide)],fun e0=>absurd e0 he,by rw [if_pos he],fun e0=>absurd e0 he⟩
 ·rw [if_neg (by simp)] at h1
  rw [h1,YAt,YAA,if_neg (by decide)]
  by_cases hft:s.From=s.To
  ·rw [if_pos (decide_eq_true hft)]
   exact ⟨[],0,1,0,1,[],rfl,h2,by rw [if_pos (by rw [decide_eq_true hft]; rfl)],fun e0=>absurd e0 (by decide),by rw [if_pos (by decide)],fun e0=>absurd e0 (by decide)⟩
  ·rw [if_neg (by simpa using hft),YES _ (by omega),YAA]
   have hp2:(if ((decide ((0:Int)=0)) && (decide (s.From=s.To))) then (some (1:Int)) else (some 0))=some 0:=by rw [if_neg (by rw [decide_eq_false hft]; simp)]
   cases hv:YEW author with
   | false=>
    rw [if_pos (by decide)]
    exact ⟨[],0,23,0,0,[],rfl,h2,hp2,fun _=>⟨h,h0,by omega⟩,by rw [if_neg (by simp),if_pos (show YEW (auA author).Value=false from hv)],fun e0=>absurd e0 (by decide)⟩
   | true=>
    rw [if_neg (by decide)]
    obtain ⟨nx,e,f,t,m1,m2,m3,m4,m5,m6,m7,m8,m9⟩:=YQh d (auA author :: []) text site h h0 (by omega) ht
    have m9':YDJ d [(YAD.mk [97,117,116,104,111,114] author)] text site=some ((YGD d.Nodes[0]!.Flow.length nx e f (auA author :: []) text t).2.1,(YGD d.Nodes[0]!.Flow.length nx e f (auA author :: []) text t).2.2,(YGD d.Nodes[0]!.Flow.length nx e f (auA author :: []) text t).1):=m9
    rw [m9',YJU]
    have hnv : ¬ YEW (auA author).Value=false:=by show ¬ YEW author=false; rw [hv]; decide
    generalize hR:YGD d.Nodes[0]!.Flow.length nx e f (auA author :: []) text t=R at m8
    obtain ⟨R1,R2,R3⟩:=R
    dsimp only
    by_cases hz:R3=0
    ·subst hz
     have hfl:=hn.ok.fl
     have hE : ∀ x∈d.Nodes[k]!.Flow,okE x:=fun x hx=>⟨by have:=(hn.ok.fa x hx).1; omega,(hn.ok.fa x hx).2⟩
     have hok:e=0∧R1=[opN nx (auA author :: []) t,opF d.Nodes[0]!.Flow.length nx]∧R2=nx:=by
      unfold YGD at hR
      split at hR
      ·rename_i hx; simp only [Prod.mk.injEq] at hR; exact absurd hR.2.2 hx
      ·rename_i hx
       split at hR
       ·simp only [Prod.mk.injEq] at hR; exact absurd hR.2.2 (by decide)
       ·split at hR
        ·rename_i hw; simp only [Prod.mk.injEq] at hR; exact absurd hR.2.2 hw
        ·simp only [Prod.mk.injEq] at hR
         exact ⟨Classical.not_not.1 hx,hR.1.symm,hR.2.1.symm⟩
     obtain ⟨he0,rfl,rfl⟩:=hok
     have hnx:=m2 he0
     obtain ⟨a,ea⟩ : ∃ a:Nat,s.From=(a:Int):=⟨s.From.toNat,by omega⟩
     obtain ⟨m,em⟩ : ∃ m:Nat,s.To=((a+m:Nat):Int):=⟨(s.To-s.From).toNat,by omega⟩
     have hsl:(shown d.Nodes[k]!.Flow 0 d.Nodes[k]!.Flow.length).length=(visN d.Nodes[k]!.Flow).length:=by rw [YLZ,List.length_map]
     have ham:a+m≤(visN d.Nodes[k]!.Flow).length:=by omega
     obtain ⟨_,k2,k3⟩:=YLs hnx
     have hts:=YI6 d.Nodes[k]!.Flow (wM a m) (visN d.Nodes[k]!.Flow).length (YPI k3 (by omega))
     rw [if_neg (by simp),YHv s.Node h.1 (YRx h h0).1,hf,YAA,YAG hk,YAA,YHP _ 0 hE hfl,YAA,ea,em,YTZ _ ham,YAA,YVi _ _ hnx hfl ham,YAA,YSD _ hts (by rw [YGK]; omega),YAt]
     have happ:app 360 [opN R2 (auA author :: []) t,opF d.Nodes[0]!.Flow.length R2] [op3R s.Node d.Nodes[k]!.Flow R2 a m]=some ([opN R2 (auA author :: []) t,opF d.Nodes[0]!.Flow.length R2]++[op3R s.Node d.Nodes[k]!.Flow R2 a m]):=by
      unfold app; rw [if_pos (by simp)]
     show ∃ (c:List GOp) (i e p1 p2:Int) (tail:List GOp),(bnd1 (app 360 [opN R2 (auA author :: []) t,opF d.Nodes[0]!.Flow.length R2] [op3R s.Node d.Nodes[k]!.Flow R2 a m]) fun (l1:List GOp)=>some (l1,R2,(0:Int)))=some (c,i,e)∧_
     rw [happ,YAA]
     refine ⟨_,_,_,0,0,[op3R s.Node d.Nodes[k]!.Flow R2 a m],rfl,h2,by rw [← ea,← em]; exact hp2,fun _=>⟨h,h0,by omega⟩,?_,fun _=>⟨k,a,m,_,_,hk,rfl,hn,hfe,rfl,rfl,ham,hnx.1,hnx.2,rfl⟩⟩
     rw [if_neg (by simp),if_neg hnv]
     exact ⟨_,m8,by simp⟩
    ·rw [if_pos (ndT hz)]
     refine ⟨_,_,_,0,0,[],rfl,h2,hp2,fun _=>⟨h,h0,by omega⟩,?_,fun e0=>absurd e0 hz⟩
     rw [if_neg (by simp),if_neg hnv]
     refine ⟨_,m8,?_⟩
     have hemp:R1=[]∧R2=0:=by
      unfold YGD at hR
      split at hR
      ·simp only [Prod.mk.injEq] at hR; exact ⟨hR.1.symm,hR.2.1.symm⟩
      ·split at hR
       ·simp only [Prod.mk.injEq] at hR; exact ⟨hR.1.symm,hR.2.1.symm⟩
       ·split at hR
        ·simp only [Prod.mk.injEq] at hR; exact ⟨hR.1.symm,hR.2.1.symm⟩
        ·simp only [Prod.mk.injEq] at hR; exact absurd hR.2.2.symm hz
     simp [hemp.1,hemp.2,hz]
def opD (id:Int):GOp:=GOp.mk 1 id (YAR.mk 0 0 [] [] (YAy.mk 0 0 [] []) []) [⟨[100,111,110,101],onV⟩] [] (YAY.mk [] [] [] [] []) []
theorem YSs {o:GOp} (h:YA4 o o=some true):YB8 [o] [o]=some true:=by
 unfold YB8
 rw [if_neg (by simp),YBM (s':=(1:Int)) (by
  unfold YCL
  rw [if_pos (by simp),show (0:Int)=((0:Nat):Int) from rfl,YAG (by simp),YAA,YAA]
  show (bnd1 (YA4 o o) _)=_
  rw [h,YAA,if_neg (by decide),YAQ (by omega)]; rfl),YAX (r:=.nrm ()) (by unfold YCL; rw [if_neg (by simp)])]
 rfl
theorem YWN (d:GDoc) (id q:Int) (hq:YEo d id=some q) : ∃ c,YFh d id true=some (c,q)∧YB8 c [opD id]=some (decide (q=0)):=by
 unfold YFh
 rw [hq,YAA]
 by_cases hz:q=0
 ·subst hz
  rw [if_neg (by simp),if_pos rfl,YAA]
  refine ⟨_,rfl,?_⟩
  exact YSs (YLd (opD id) okz (by simp [opD]) rfl (by simp [opD]) rfl)
 ·rw [if_pos (ndT hz)]
  refine ⟨_,rfl,?_⟩
  rw [decide_eq_false hz]
  rfl
theorem YJB (d:GDoc) (s:GSel) (id:Int) (author text:List UInt8) (site:Int) (h:YHC d) (hid : -9223372036854775808≤id∧id≤9223372036854775807) (ha:author.length≤1048576) (ht:text.length≤1048576):YCE d s id author text site=some true:=by
 obtain ⟨c1,i1,e1,p1,p2,tail,a1,a2,a3,a4,a5,a6⟩:=YT1 d s author text site h ha ht
 obtain ⟨q,q1,q2,b1,b2,b3,b4,b5⟩:=YVz d id h
 obtain ⟨c2,i2,e2,r1,r2,r3⟩:=YSS d id author text site q h ha b1 b5 ht
 obtain ⟨c3,t1,t2⟩:=YWN d id q b1
 obtain ⟨r10,x1,x2⟩:=YFN b3
 obtain ⟨r11,y1,y2⟩:=YFN b4
 obtain ⟨n11,y3,y4⟩:=YFN y2
 obtain ⟨i3,i4⟩:=YLi id hid.1 hid.2
 have okAu:okA (auA author :: []):=⟨by simp,fun x hx=>by rw [List.mem_singleton] at hx; subst hx; exact ⟨by show (6:Nat)≤_; omega,by show author.length≤_; omega⟩⟩
 have okRe:okA (auA author :: [reA id]):=⟨by simp,fun x hx=>by
  rcases List.mem_cons.1 hx with rfl | hx
  ·exact ⟨by show (6:Nat)≤_; omega,by show author.length≤_; omega⟩
  ·rw [List.mem_singleton] at hx; subst hx; exact ⟨by show (5:Nat)≤_; omega,by show (Lib.itoa id).length≤_; omega⟩⟩
 have P1:=YRU d (auA author) [] text site p2 tail okAu (by show author.length≤_; omega) a4 ht c1 i1 e1 a5
 have P2:=YRU d (auA author) [reA id] text site q [] okRe (by show author.length≤_; omega) (fun hz=>⟨h,(b5 hz).1,(b5 hz).2.1⟩) ht c2 i2 e2 r3
 have hon:YKH [100,111,110,101]=some [⟨[100,111,110,101],onV⟩]:=by unfold YKH; rfl
 have hap:appF 32 [(YAD.mk [97,117,116,104,111,114] author)] [(YAD.mk [114,101,112,108,121] (Lib.itoa id))]=some (auA author :: [reA id]):=by
  unfold appF app
  rw [if_pos (by simp)]; rfl
 unfold YCE YD8
 rw [YAA,if_neg (by decide),a1,YJU,r1,YJU,t1,YAt,a2,YAA,a3,YAA,b2,YAA,x1,YAA,x2,YAA,y1,YAA,y3,YAA,y4,YAA]
 rw [decide_eq_true (show q=q from rfl),if_pos (by decide),hon,YAA]
 show (bnd1 (bnd1 (YB8 c3 [opD id]) _) _)=_
 rw [t2,YAA,YAA]
 have hx2:((!true) || (!((decide (q=0)) == (decide (q=0)))))=false:=by simp
 rw [hx2,if_neg (by decide)]
 show (bnd1 (YIk d c1 i1 e1 p2 (auA author :: []) text site) _)=_
 rw [P1,YAA,show ((!true) == false)=true from rfl,YAI,i3,YAA,YAI,hap,YAA,YAI,P2,YAA,if_neg (by decide)]
 by_cases he:e1=0
 ·obtain ⟨k,a,m,o1,o2,hk,hf,hn,hfe,ea,em,ham,n1,n2,hc⟩:=a6 he
  have hfl:=hn.ok.fl
  have hE : ∀ x∈d.Nodes[k]!.Flow,okE x:=fun x hx=>⟨by have:=(hn.ok.fa x hx).1; omega,(hn.ok.fa x hx).2⟩
  have hp:YB7 d.Nodes[k]!.Flow=0:=by
   unfold YGz at hfe
   split at hfe
   ·rename_i hx; exact absurd hfe hx
   ·rename_i hx; simpa using hx
  have hfd:YDh d s.Node=some (k:Int):=by rw [YGu d s.Node h.1,hf]
  have hplus:chk .i64 ((d.Nodes[k]!.Flow.length:Int)+1)=some ((d.Nodes[k]!.Flow.length+1:Nat):Int):=YAQ (by omega)
  rw [if_pos (decide_eq_true he),hfd,YAA,YAG hk,YAA,hplus,YAA,mk24e (by omega),YAA,mk1b (by omega),YAA,mk24 (by omega),YAA,YKG _ 0 hE hp hfl,YAA,ea,em,YTZ _ ham,YAA,YVw _ _ ⟨n1,n2⟩ hfl ham,YAA]
  subst hc
  rw [show (decide ((([o1,o2,op3R s.Node d.Nodes[k]!.Flow i1 a m]:List GOp).length:Int)=3) == true)=true from rfl,YAI,YAI]
  rw [show idx [o1,o2,op3R s.Node d.Nodes[k]!.Flow i1 a m] 2=some (op3R s.Node d.Nodes[k]!.Flow i1 a m) from rfl,YAA]
  obtain ⟨_,k2,k3⟩:=YLs ⟨n1,n2⟩
  have dk:=YUK (YGB d.Nodes[k]!.Flow (wM a m) (visN d.Nodes[k]!.Flow).length [⟨YEe i1,onV⟩]) (YI6 _ _ _ (YPI k3 (by omega))) (by rw [YGK]; exact hfl)
  unfold YSd at dk
  rw [YGK] at dk
  rw [dk,YAA,if_pos rfl]
  show (bnd1 (bnd1 (YA4 (op3R s.Node d.Nodes[k]!.Flow i1 a m) (op3R s.Node d.Nodes[k]!.Flow i1 a m)) _) _)=_
  rw [YT5 _ _ _ ⟨n1,n2⟩ hfl]
  rfl
 ·rw [if_neg (by simpa using he)]
  by_cases h2:e2=0
  ·rw [r2 h2]; simp
  ·rw [decide_eq_false h2]; rfl
end Go.Proofs.YtkefchjpggjibaaGreatDoor.Al
