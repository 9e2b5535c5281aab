/- Plain laws over the models, a part of them. -/
import Derived.Test.YtdafahjmopdleaaGreatDoorMod1
import Derived.Lib.DecodeNEq
import Derived.Lib.TrimUEq
import Derived.Lib.ValidLaws
namespace Go.Proofs.YtdafahjmopdleaaGreatDoor.Al
@[simp] theorem YAA {a α:Type} (x:a) (f:a→Option α):bnd1 (some x) f=f x:=rfl
@[simp] theorem YAt {a b α:Type} (x:a) (y:b) (f:a→b→Option α):bnd2 (some (x,y)) f=f x y:=rfl
@[simp] theorem YHM {a b c α:Type} (x:a) (y:b) (z:c) (f:a→b→c→Option α):bnd3 (some (x,y,z)) f=f x y z:=rfl
@[simp] theorem bnd4_some {a b c d α:Type} (x:a) (y:b) (z:c) (u:d) (f:a→b→c→d→Option α):bnd4 (some (x,y,z,u)) f=f x y z u:=rfl
@[simp] theorem ctl1_nrm {a α:Type} (x:a) (f:a→Option α):ctl1 (some (.nrm x)) f=f x:=rfl
@[simp] theorem ctl1_ext {a α:Type} (t:α) (f:a→Option α):ctl1 (some (.ext t)) f=some t:=rfl
@[simp] theorem ctl2_nrm {a b α:Type} (x:a) (y:b) (f:a→b→Option α):ctl2 (some (.nrm (x,y))) f=f x y:=rfl
@[simp] theorem ctl2_ext {a b α:Type} (t:α) (f:a→b→Option α):ctl2 (some (.ext t)) f=some t:=rfl
@[simp] theorem ctl3_nrm {a b c α:Type} (x:a) (y:b) (z:c) (f:a→b→c→Option α):ctl3 (some (.nrm (x,y,z))) f=f x y z:=rfl
@[simp] theorem ctl3_ext {a b c α:Type} (t:α) (f:a→b→c→Option α):ctl3 (some (.ext t)) f=some t:=rfl
@[simp] theorem YAG {α:Type} [Inhabited α] (m:Option α):gd true m=m:=rfl
@[simp] theorem YCv {α:Type} [Inhabited α] (m:Option α):gd false m=some default:=rfl
theorem YAF {α:Type} [Inhabited α] {l:List α} {k:Nat} (h:k<l.length):idx l (k:Int)=some l[k]!:=by
 unfold idx
 rw [if_pos (Int.natCast_nonneg k),Int.toNat_natCast,List.getElem?_eq_getElem h,getElem!_pos l k h]
theorem YRH {α:Type} {l:List α} {k:Nat} (h:k<l.length):idx l (k:Int)=some l[k]:=by
 unfold idx
 rw [if_pos (Int.natCast_nonneg k),Int.toNat_natCast,List.getElem?_eq_getElem h]
theorem YAR {k:Nat} (h:k<9223372036854775807):chk .i64 ((k:Int)+1)=some (((k+1:Nat)):Int):=by
 rw [YEh (by omega) (by omega)]; rfl
theorem YCL {k:Nat} (h:0<k) (h2:k≤9223372036854775807):chk .i64 ((k:Int)-1)=some ((k-1:Nat):Int):=by
 rw [YEh (by omega) (by omega)]; congr 1; omega
def YBR {ρ:Type} (k:Nat):Option ρ→Option (Int ⊕ Ctl Unit ρ)
 | none=>some (.inl ((k+1:Nat):Int))
 | some r=>some (.inr (.ext r))
def YGU {ρ:Type} : Option ρ→Ctl Unit ρ
 | none=>.nrm ()
 | some r=>.ext r
theorem YAX {ρ:Type} {f:Int→Option (Int ⊕ Ctl Unit ρ)} {n:Nat} (g:Nat→Option ρ) (h1 : ∀ k:Nat,k<n→f k=YBR k (g k))
  (h2:f n=some (.inr (.nrm ()))):iter f 0=some (YGU ((List.range n).findSome? g)):=by
 have key : ∀ m k:Nat,k+m=n→iter f (k:Int)=some (YGU ((List.range' k m).findSome? g)):=by
  intro m
  induction m with
  | zero=>
   intro k hk
   obtain rfl:k=n:=by omega
   rw [YAk h2]; rfl
  | succ m ih=>
   intro k hk
   rw [List.range'_succ,List.findSome?_cons]
   have:=h1 k (by omega)
   cases hg:g k with
   | none=>rw [hg] at this; rw [YBT this,ih (k+1) (by omega)]
   | some r=>rw [hg] at this; rw [YAk this]; rfl
 rw [List.range_eq_range']
 exact key n 0 (by omega)
theorem YJ1 {α ρ:Type} {l:List α} {g h:α→Option ρ} (e : ∀ x∈l,g x=h x):l.findSome? g=l.findSome? h:=by
 induction l with
 | nil=>rfl
 | cons a l ih=>rw [List.findSome?_cons,List.findSome?_cons,e a (List.mem_cons_self ..),ih fun x hx=>e x (List.mem_cons_of_mem _ hx)]
theorem YLC {α ρ:Type} [Inhabited α] (l:List α) (p:α→Bool) (r:ρ):(List.range l.length).findSome? (fun k=>if p l[k]! then none else some r)=if l.all p then none else some r:=by
 induction l with
 | nil=>rfl
 | cons a l ih=>
  rw [List.length_cons,List.range_succ_eq_map,List.findSome?_cons,List.findSome?_map]
  have hr:(List.range l.length).findSome? ((fun k=>if p (a :: l)[k]! = true then none else some r) ∘ Nat.succ)=if l.all p=true then none else some r:=by
   rw [← ih]; exact YJ1 fun k _=>by simp
  rw [hr]
  by_cases hp:p a=true
  ·simp [hp]
  ·simp [hp]
theorem YAy {ρ:Type} (o:Option ρ) (f:Unit→Option ρ):ctl1 (some (YGU o)) f=match o with | none=>f () | some r=>some r:=by cases o <;> rfl
end Go.Proofs.YtdafahjmopdleaaGreatDoor.Al


namespace Go.Proofs.YtdafahjmopdleaaGreatDoor.Al
def chOK (c:UInt8):Bool:=(decide (97≤c.toNat) && decide (c.toNat≤122)) || (decide (48≤c.toNat) && decide (c.toNat≤57)) || decide (c.toNat=46) || decide (c.toNat=45)
def YGc (s:List UInt8):Bool:=decide (1≤s.length) && decide (s.length≤24) && (decide (97≤s[0]!.toNat) && decide (s[0]!.toNat≤122)) && s.all chOK
def YIy (c:UInt8):Bool:=decide (32≤c.toNat) && decide (c.toNat≤126)
def YIC (s:List UInt8):Bool:=decide (1≤s.length) && decide (s.length≤200) && s.all YIy
theorem YJ4 (s:List UInt8) (k:Nat) (hk:k<s.length) (hm:s.length≤9223372036854775807):YC6 s k=YBR k (if chOK s[k]! then none else some false):=by
 unfold YC6
 rw [if_pos (by simpa using hk),YAF hk,YAA,YAR (by omega)]
 generalize s[k]! = c
 have e:(((((decide ((c.toNat:Int)<97)) || (decide (122<(c.toNat:Int)))) && ((decide ((c.toNat:Int)<48)) || (decide (57<(c.toNat:Int))))) && (!decide ((c.toNat:Int)=46))) && (!decide ((c.toNat:Int)=45))) = !chOK c:=by
  unfold chOK
  rw [Bool.eq_iff_iff]
  simp only [Bool.or_eq_true,Bool.and_eq_true,decide_eq_true_eq,Bool.not_eq_true',decide_eq_false_iff_not,Bool.or_eq_false_iff,Bool.and_eq_false_imp]
  omega
 rw [e]
 cases chOK c <;> rfl
theorem YH4 (s:List UInt8) (hm:s.length≤9223372036854775807):YFH s=some (YGc s):=by
 unfold YFH
 rw [YAX (n:=s.length) (fun k=>if chOK s[k]! then none else some false) (fun k hk=>YJ4 s k hk hm) (by unfold YC6; rw [if_neg (by simp)]),YLC]
 unfold YGc
 cases s with
 | nil=>simp
 | cons c t=>
  have h0:idx (c :: t) 0=some c:=rfl
  rw [h0]
  simp only [List.getElem!_cons_zero,decide_eq_false (List.cons_ne_nil c t),Bool.false_or]
  generalize (c :: t).all chOK=al
  generalize hl:(c :: t).length=L
  have hL:1≤L:=by rw [← hl]; simp
  by_cases h1:24<(L:Int)
  ·have e1:decide (L≤24)=false:=by simp; omega
   simp [h1,e1]
  ·rw [decide_eq_false h1]
   simp only [Bool.false_or,beq_self_eq_true,YAG,YAA]
   have e1:decide (L≤24)=true:=by simp; omega
   have e2:decide (1≤L)=true:=by simp; omega
   rw [e1,e2]
   by_cases h2:(c.toNat:Int)<97
   ·have e3:decide (97≤c.toNat)=false:=by simp; omega
    simp [h2,e3]
   ·rw [decide_eq_false h2]
    have e3:decide (97≤c.toNat)=true:=by simp; omega
    simp only [beq_self_eq_true,YAG,YAA,Bool.false_or]
    by_cases h3:122<(c.toNat:Int)
    ·have e4:decide (c.toNat≤122)=false:=by simp; omega
     simp [h3,e4]
    ·have e4:decide (c.toNat≤122)=true:=by simp; omega
     rw [if_neg (by simpa using h3),YAy,e3,e4]
     cases al <;> rfl
def YJx (k:Nat) (c:UInt8):Bool:=(decide (97≤c.toNat) && decide (c.toNat≤122)) || (decide (k≠0) && chOK c)
theorem YKw (s:List UInt8) (k:Nat) (hk:k<s.length) (hm:s.length≤9223372036854775807) :
  YDh s k=YBR k (if YJx k s[k]! then none else some false):=by
 unfold YDh
 rw [if_pos (by simpa using hk),YAF hk,YAA,YAR (by omega)]
 generalize s[k]! = c
 have e:((!((decide (97≤(c.toNat:Int))) && (decide ((c.toNat:Int)≤122)))) && ((decide ((k:Int)=0)) || (((!decide ((c.toNat:Int)=46)) && (!decide ((c.toNat:Int)=45))) && ((decide ((c.toNat:Int)<48)) || (decide (57<(c.toNat:Int))))))) = !YJx k c:=by
  unfold YJx chOK
  rw [Bool.eq_iff_iff]
  simp only [Bool.or_eq_true,Bool.and_eq_true,decide_eq_true_eq,Bool.not_eq_true',decide_eq_false_iff_not,Bool.or_eq_false_iff,Bool.and_eq_false_imp]
  omega
 rw [e]
 cases YJx k c <;> rfl
theorem YS6 {α:Type} [Inhabited α] (l:List α) (p:α→Bool):l.all p=true ↔ ∀ k,k<l.length→p l[k]! = true:=by
 rw [List.all_eq_true]
 constructor
 ·intro h k hk; rw [getElem!_pos l k hk]; exact h _ (List.getElem_mem hk)
 ·intro h x hx
  obtain ⟨k,hk,rfl⟩:=List.mem_iff_getElem.1 hx
  rw [← getElem!_pos l k hk]; exact h k hk
theorem YCc {ρ:Type} (n:Nat) (p:Nat→Bool) (r:ρ):(List.range n).findSome? (fun k=>if p k then none else some r)=if (List.range n).all p then none else some r:=by
 generalize List.range n=l
 induction l with
 | nil=>rfl
 | cons a l ih=>rw [List.findSome?_cons,List.all_cons,]; by_cases h:p a=true <;> simp [h,ih]
theorem YJH (s:List UInt8) (hm:s.length≤9223372036854775807):YGL s=some (YGc s):=by
 unfold YGL
 rw [YAX (n:=s.length) (fun k=>if YJx k s[k]! then none else some false) (fun k hk=>YKw s k hk hm) (by unfold YDh; rw [if_neg (by simp)]),YCc,YAy]
 have key:((List.range s.length).all fun k=>YJx k s[k]!)=(decide (s=[]) || ((decide (97≤s[0]!.toNat) && decide (s[0]!.toNat≤122)) && s.all chOK)):=by
  rw [Bool.eq_iff_iff,List.all_eq_true]
  simp only [List.mem_range,Bool.or_eq_true,decide_eq_true_eq,Bool.and_eq_true,YS6]
  constructor
  ·intro h
   cases hs:s with
   | nil=>exact .inl rfl
   | cons c t=>
    rw [← hs]
    have hl:0<s.length:=by rw [hs]; simp
    have h0:=h 0 hl
    simp only [YJx,Bool.or_eq_true,Bool.and_eq_true,decide_eq_true_eq] at h0
    refine .inr ⟨by omega,fun k hk=>?_⟩
    have:=h k hk
    simp only [YJx,chOK,Bool.or_eq_true,Bool.and_eq_true,decide_eq_true_eq] at this ⊢
    omega
  ·rintro (rfl | ⟨h1,h2⟩) k hk
   ·cases hk
   ·have:=h2 k hk
    by_cases hk0:k=0
    ·subst hk0; simp only [YJx,Bool.or_eq_true,Bool.and_eq_true,decide_eq_true_eq]; omega
    ·simp only [YJx,Bool.or_eq_true,Bool.and_eq_true,decide_eq_true_eq]; exact .inr ⟨hk0,this⟩
 rw [key]
 unfold YGc
 cases s with
 | nil=>rfl
 | cons c t=>
  rw [decide_eq_false (List.cons_ne_nil c t),Bool.false_or]
  generalize (c :: t).all chOK=al
  generalize (decide (97≤(c :: t)[0]!.toNat) && decide ((c :: t)[0]!.toNat≤122))=fc
  have e1:decide (1≤((c :: t).length:Int))=decide (1≤(c :: t).length):=by simp; omega
  have e2:decide (((c :: t).length:Int)≤24)=decide ((c :: t).length≤24):=by simp; omega
  rw [e1,e2]
  cases fc <;> cases al <;> simp
theorem YHN (s:List UInt8) (hm:s.length≤9223372036854775807):YEK s=some (YIC s):=by
 unfold YEK YIC
 rw [YAX (n:=s.length) (fun k=>if YIy s[k]! then none else some false) (fun k hk=>by
  unfold YDZ
  rw [if_pos (by simpa using hk),YAF hk,YAA,YAR (by omega)]
  generalize s[k]! = c
  have e:((decide ((c.toNat:Int)<32)) || (decide (126<(c.toNat:Int)))) = !YIy c:=by
   unfold YIy
   rw [Bool.eq_iff_iff]
   simp only [Bool.or_eq_true,Bool.and_eq_true,decide_eq_true_eq,Bool.not_eq_true',decide_eq_false_iff_not,Bool.and_eq_false_imp]
   omega
  rw [e]
  cases YIy c <;> rfl) (by unfold YDZ; rw [if_neg (by simp)]),YLC,YAy]
 generalize s.all YIy=al
 cases s with
 | nil=>simp
 | cons c t=>
  rw [decide_eq_false (List.cons_ne_nil c t),Bool.false_or]
  generalize hl:(c :: t).length=L
  have hL:1≤L:=by rw [← hl]; simp
  by_cases h1:200<(L:Int)
  ·have e1:decide (L≤200)=false:=by simp; omega
   simp [h1,e1]
  ·have e1:decide (L≤200)=true:=by simp; omega
   have e2:decide (1≤L)=true:=by simp; omega
   rw [if_neg (by simpa using h1),e1,e2]
   cases al <;> rfl
theorem YHu (s:List UInt8) (hm:s.length≤9223372036854775807):YE7 s=some (YIC s):=by
 unfold YE7 YIC
 rw [YAX (n:=s.length) (fun k=>if YIy s[k]! then none else some false) (fun k hk=>by
  unfold YDv
  rw [if_pos (by simpa using hk),YAF hk,YAA,YAR (by omega)]
  generalize s[k]! = c
  have e:((decide ((c.toNat:Int)<32)) || (decide (126<(c.toNat:Int)))) = !YIy c:=by
   unfold YIy
   rw [Bool.eq_iff_iff]
   simp only [Bool.or_eq_true,Bool.and_eq_true,decide_eq_true_eq,Bool.not_eq_true',decide_eq_false_iff_not,Bool.and_eq_false_imp]
   omega
  rw [e]
  cases YIy c <;> rfl) (by unfold YDv; rw [if_neg (by simp)]),YLC,YAy]
 generalize s.all YIy=al
 have e1:decide (1≤(s.length:Int))=decide (1≤s.length):=by simp; omega
 have e2:decide ((s.length:Int)≤200)=decide (s.length≤200):=by simp; omega
 rw [e1,e2]
 cases al <;> simp
theorem YNl (a b:UInt8) (x y:List UInt8):sLt (a :: x) (b :: y)=(decide (a<b) || (a == b && sLt x y)):=rfl
theorem YPT : ∀ (a b:List UInt8),(sLt a b || decide (a=b)) = !sLt b a
 | [],[]=>rfl
 | [],_ :: _=>rfl
 | _ :: _,[]=>rfl
 | a :: x,b :: y=>by
  rw [YNl,YNl]
  have ih:=YPT x y
  by_cases h:a=b
  ·subst h
   have h1 : ¬ a<a:=fun h=>by simp [UInt8.lt_iff_toNat_lt] at h
   simp only [decide_eq_false h1,beq_self_eq_true,Bool.true_and,Bool.false_or,List.cons.injEq,true_and]
   exact ih
  ·have h2:(a == b)=false:=by simpa using h
   have h3:(b == a)=false:=by simpa using fun e:b=a=>h e.symm
   have h4 : ¬ (a :: x=b :: y):=fun e=>h (List.cons.inj e).1
   rw [h2,h3,decide_eq_false h4]
   simp only [Bool.false_and,Bool.or_false]
   have h5:a.toNat≠b.toNat:=fun e=>h (UInt8.toNat_inj.1 e)
   by_cases hlt:a<b
   ·have : ¬ b<a:=by rw [UInt8.lt_iff_toNat_lt] at hlt ⊢; omega
    simp [hlt,this]
   ·have:b<a:=by rw [UInt8.lt_iff_toNat_lt] at hlt ⊢; omega
    simp [hlt,this]
def YIL (l:List YAT):Prop:=∀ a∈l,a.Name.length≤9223372036854775807∧a.Value.length≤9223372036854775807
def errA (l:List YAT) (ch:Bool) (k:Nat):Option Int:=
 if YGc l[k]!.Name=false then some 9 else if YIC l[k]!.Value=false ∧ ¬ (ch=true∧l[k]!.Value=[]) then some 23 else if 0<k∧sLt l[k-1]!.Name l[k]!.Name=false then some 5 else none
def YFb (l:List YAT) (ch:Bool):Int:=((List.range l.length).findSome? (errA l ch)).getD 0
theorem YIL.at {l:List YAT} (h:YIL l) {k:Nat} (hk:k<l.length):l[k]!.Name.length≤9223372036854775807∧l[k]!.Value.length≤9223372036854775807:=by
 rw [getElem!_pos l k hk]; exact h _ (List.getElem_mem hk)
theorem YJc (l:List YAT) (ch:Bool) (h:YIL l) (hm:l.length≤9223372036854775807) (k:Nat) (hk:k<l.length):YCf l ch k=YBR k (errA l ch k):=by
 unfold YCf errA
 obtain ⟨hn1,hn2⟩:=h.at hk
 rw [if_pos (by simpa using hk),YAF hk,YAA]
 generalize l[k]! = x at hn1 hn2 ⊢
 rw [YH4 _ hn1,YAA]
 cases YGc x.Name
 ·rfl
 rw [if_neg (by decide),if_neg (by decide),YHN _ hn2,YAA,YAR (by omega)]
 by_cases hv:YIC x.Value=false ∧ ¬ (ch=true∧x.Value=[])
 ·rw [if_pos hv,if_pos (by simp [hv.1]; cases ch <;> simp_all)]; rfl
 rw [if_neg hv,if_neg (by intro e; simp at e; exact hv ⟨e.1,by rintro ⟨a,b⟩; simp [a,b] at e⟩)]
 by_cases hk0:k=0
 ·subst hk0; rfl
 ·have h0:decide ((0:Int)<(k:Int))=true:=by simp; omega
  rw [h0,YCL (by omega) (by omega)]
  simp only [beq_self_eq_true,YAG,YAA,Bool.true_and]
  rw [YAF (by omega),YAA,YPT]
  have:(0<k∧sLt l[k-1]!.Name x.Name=false)↔sLt l[k-1]!.Name x.Name=false:=by constructor; exact fun h=>h.2; exact fun h=>⟨by omega,h⟩
  simp only [this]
  cases sLt l[k-1]!.Name x.Name <;> rfl
theorem YGn (l:List YAT) (ch:Bool) (h:YIL l) (hm:l.length≤9223372036854775807) (k:Nat) (hk:k<l.length):YBP l ch k=YBR k (errA l ch k):=by
 unfold YBP errA
 obtain ⟨hn1,hn2⟩:=h.at hk
 rw [if_pos (by simpa using hk),YAF hk,YAA]
 generalize l[k]! = x at hn1 hn2 ⊢
 rw [YJH _ hn1,YAA]
 cases YGc x.Name
 ·rfl
 rw [if_neg (by decide),if_neg (by decide),YHu _ hn2,YAA,YAR (by omega)]
 by_cases hv:YIC x.Value=false ∧ ¬ (ch=true∧x.Value=[])
 ·rw [if_pos hv,if_pos (by simp [hv.1]; cases ch <;> simp_all)]; rfl
 rw [if_neg hv,if_neg (by intro e; simp at e; exact hv ⟨e.1,by rintro ⟨a,b⟩; simp [a,b] at e⟩)]
 by_cases hk0:k=0
 ·subst hk0; rfl
 ·have h0:decide ((0:Int)<(k:Int))=true:=by simp; omega
  rw [h0,YCL (by omega) (by omega)]
  simp only [beq_self_eq_true,YAG,YAA,Bool.true_and]
  rw [YAF (by omega),YAA]
  have:(0<k∧sLt l[k-1]!.Name x.Name=false)↔sLt l[k-1]!.Name x.Name=false:=by constructor; exact fun h=>h.2; exact fun h=>⟨by omega,h⟩
  simp only [this]
  cases sLt l[k-1]!.Name x.Name <;> rfl
theorem YCK {o:Option Int} : (ctl1 (some (YGU o)) fun _:Unit=>some 0)=some (o.getD 0):=by cases o <;> rfl
theorem YLN (l:List YAT) (ch:Bool) (h:YIL l) (hm:l.length≤9223372036854775807):YFG l ch=some (YFb l ch):=by
 unfold YFG
 rw [YAX (n:=l.length) (errA l ch) (fun k hk=>YJc l ch h hm k hk) (by unfold YCf; rw [if_neg (by simp)]),YCK]; rfl
theorem YDk (l:List YAT) (ch:Bool) (h:YIL l) (hm:l.length≤9223372036854775807):YBh l ch=some (YFb l ch):=by
 unfold YBh
 rw [YAX (n:=l.length) (errA l ch) (fun k hk=>YGn l ch h hm k hk) (by unfold YBP; rw [if_neg (by simp)]),YCK]; rfl
theorem YFa (l:List YAT) (h:YIL l) (hm:l.length≤9223372036854775807):YDo l=some (YFb l false):=by unfold YDo; rw [YLN l _ h hm]; rfl
def getA (l:List YAT) (name:List UInt8):List UInt8:=((List.range l.length).findSome? fun k=>if l[k]!.Name=name then some l[k]!.Value else none).getD []
end Go.Proofs.YtdafahjmopdleaaGreatDoor.Al


namespace Go.Proofs.YtdafahjmopdleaaGreatDoor.Al
theorem YJb (x y:YAT):x=y↔x.Name=y.Name∧x.Value=y.Value:=by cases x; cases y; simp
theorem YGH (a b:List YAT) (hm:a.length≤9223372036854775807):YEj a b=some (decide (a=b)):=by
 unfold YEj
 by_cases hl:a.length=b.length
 ·rw [if_neg (by simp [hl]),YAX (n:=a.length) (fun k=>if decide (a[k]! = b[k]!) then none else some false) (fun k hk=>by
   unfold YD2
   rw [if_pos (by simpa using hk),YAF hk,YAF (by omega),YAA,YAA,YAR (by omega)]
   generalize a[k]! = x
   generalize b[k]! = y
   by_cases h:x=y
   ·subst h; simp [YBR]
   ·have h':=h; rw [YJb] at h'
    simp only [decide_eq_false h,Bool.and_true]
    by_cases h1:x.Name=y.Name
    ·have h2 : ¬ x.Value=y.Value:=fun e=>h' ⟨h1,e⟩
     simp [h1,h2,YBR]
    ·simp [h1,YBR]) (by unfold YD2; rw [if_neg (by simp)]),YCc,YAy]
  by_cases h:a=b
  ·subst h; simp
  ·rw [decide_eq_false h]
   have:((List.range a.length).all fun k=>decide (a[k]! = b[k]!))=false:=by
    rw [← Bool.not_eq_true,List.all_eq_true]
    intro hall
    apply h
    apply List.ext_getElem hl
    intro k h1 h2
    have:=hall k (List.mem_range.2 h1)
    simp only [decide_eq_true_eq] at this
    rwa [getElem!_pos a k h1,getElem!_pos b k h2] at this
   rw [this]; rfl
 ·rw [if_pos (by simp; omega),decide_eq_false (by rintro rfl; exact hl rfl)]
theorem YB8 (a b:List YAT) (hm:a.length≤9223372036854775807):YBD a b=some (decide (a=b)):=by
 unfold YBD
 by_cases hl:a.length=b.length
 ·rw [if_neg (by simp [hl]),YAX (n:=a.length) (fun k=>if decide (a[k]! = b[k]!) then none else some false) (fun k hk=>by
   unfold YB9
   rw [if_pos (by simpa using hk),YAF hk,YAF (by omega),YAA,YAA,YAR (by omega)]
   generalize a[k]! = x
   generalize b[k]! = y
   by_cases h:x=y
   ·subst h; simp [YBR]
   ·have h':=h; rw [YJb] at h'
    simp only [decide_eq_false h,Bool.and_true]
    by_cases h1:x.Name=y.Name
    ·have h2 : ¬ x.Value=y.Value:=fun e=>h' ⟨h1,e⟩
     simp [h1,h2,YBR]
    ·simp [h1,YBR]) (by unfold YB9; rw [if_neg (by simp)]),YCc,YAy]
  by_cases h:a=b
  ·subst h; simp
  ·rw [decide_eq_false h]
   have:((List.range a.length).all fun k=>decide (a[k]! = b[k]!))=false:=by
    rw [← Bool.not_eq_true,List.all_eq_true]
    intro hall
    apply h
    apply List.ext_getElem hl
    intro k h1 h2
    have:=hall k (List.mem_range.2 h1)
    simp only [decide_eq_true_eq] at this
    rwa [getElem!_pos a k h1,getElem!_pos b k h2] at this
   rw [this]; rfl
 ·rw [if_pos (by simp; omega),decide_eq_false (by rintro rfl; exact hl rfl)]
end Go.Proofs.YtdafahjmopdleaaGreatDoor.Al


namespace Go.Proofs.YtdafahjmopdleaaGreatDoor.Al
end Go.Proofs.YtdafahjmopdleaaGreatDoor.Al


namespace Go.Proofs.YtdafahjmopdleaaGreatDoor.Al
end Go.Proofs.YtdafahjmopdleaaGreatDoor.Al


namespace Go.Proofs.YtdafahjmopdleaaGreatDoor.Al
end Go.Proofs.YtdafahjmopdleaaGreatDoor.Al


namespace Go.Proofs.YtdafahjmopdleaaGreatDoor.Al
theorem YE9 {σ β:Type} {f:σ→Option (σ ⊕ β)} (n:Nat) (R:Nat→σ→Prop) (Q:β→Prop)
  (h1 : ∀ k s,k<n→R k s→(∃ s',f s=some (.inl s')∧R (k+1) s')∨(∃ b,f s=some (.inr b)∧Q b))
  (h2 : ∀ s,R n s → ∃ b,f s=some (.inr b)∧Q b) {s:σ} (h0:R 0 s) : ∃ b,iter f s=some b∧Q b:=by
 have key : ∀ m k s,k+m=n→R k s → ∃ b,iter f s=some b∧Q b:=by
  intro m
  induction m with
  | zero=>
   intro k s hk hR
   obtain rfl:k=n:=by omega
   obtain ⟨b,hb,hq⟩:=h2 s hR
   exact ⟨b,YAk hb,hq⟩
  | succ m ih=>
   intro k s hk hR
   rcases h1 k s (by omega) hR with ⟨s',h3,h4⟩ | ⟨b,h3,h4⟩
   ·obtain ⟨b,h5,h6⟩:=ih (k+1) s' (by omega) h4
    exact ⟨b,by rw [YBT h3,h5],h6⟩
   ·exact ⟨b,YAk h3,h4⟩
 exact key n 0 s (by omega) h0
theorem YPE {α:Type} [Inhabited α] {l:List α} {k:Nat} (h:k<l.length):l.take (k+1)=l.take k++[l[k]!]:=by
 rw [List.take_add_one,List.getElem?_eq_getElem h,getElem!_pos l k h]; rfl
theorem YDR {α:Type} [Inhabited α] {l:List α} {k:Nat} (h:k<l.length):l[k]! ∈ l:=by
 rw [getElem!_pos l k h]; exact List.getElem_mem h
def oldN (s:YAB):Int:=if s.Kind=1 then 0 else s.N
def nowN (s:YAB):Int:=if s.Kind=2 then 0 else s.N
def YDP (a:List YAB):Int:=(a.map oldN).sum
def YDQ (a:List YAB):Int:=(a.map nowN).sum
theorem YL4 {a:List YAB} {k:Nat} (h:k<a.length):YDP (a.take (k+1))=YDP (a.take k)+oldN a[k]!:=by
 unfold YDP; rw [YPE h]; simp
theorem YL5 {a:List YAB} {k:Nat} (h:k<a.length):YDQ (a.take (k+1))=YDQ (a.take k)+nowN a[k]!:=by
 unfold YDQ; rw [YPE h]; simp
def errS (a:List YAB) (k:Nat):Option Int:=
 if a[k]!.Kind<0∨2<a[k]!.Kind then some 8 else if a[k]!.N<1∨2147483647<a[k]!.N then some 2
 else if 0<k∧(a[k-1]!.Kind=a[k]!.Kind∨(a[k-1]!.Kind=2∧a[k]!.Kind=1)) then some 5 else none
def YOt (a:List YAB):Int:=
 match (List.range a.length).findSome? (errS a) with
 | some e=>e
 | none=>if 2147483647<YDP a∨2147483647<YDQ a then 3 else 0
theorem YHe {ρ:Type} {n k:Nat} {g:Nat→Option ρ} {r:ρ} (hk:k<n) (h1 : ∀ j,j<k→g j=none) (h2:g k=some r):(List.range n).findSome? g=some r:=by
 obtain ⟨m,rfl⟩ : ∃ m,n=k+(m+1):=⟨n-k-1,by omega⟩
 rw [List.range_eq_range',← List.range'_append (s:=0) (m:=k) (n:=m+1) (step:=1),List.findSome?_append]
 have:(List.range' 0 k).findSome? g=none:=by
  rw [List.findSome?_eq_none_iff]; intro x hx; exact h1 x (by simpa using hx)
 rw [this,Nat.one_mul,Nat.zero_add,List.range'_succ,List.findSome?_cons,h2]; rfl
theorem YGE {ρ:Type} {n:Nat} {g:Nat→Option ρ} (h1 : ∀ j,j<n→g j=none):(List.range n).findSome? g=none:=by
 rw [List.findSome?_eq_none_iff]; intro x hx; exact h1 x (by simpa using hx)
def Stp (s:YAB):Prop:=0≤s.Kind∧s.Kind≤2∧1≤s.N∧s.N≤2147483647
theorem YRt {a:List YAB} {k:Nat} (h:errS a k=none):Stp a[k]!:=by
 unfold errS at h
 unfold Stp
 split at h
 ·cases h
 ·split at h
  ·cases h
  ·omega
theorem YP8 {a:List YAB} {k:Nat} (hk:k≤a.length) (h : ∀ j,j<k→Stp a[j]!):0≤YDP (a.take k)∧YDP (a.take k)≤k * 2147483647∧0≤YDQ (a.take k)∧YDQ (a.take k)≤k * 2147483647:=by
 induction k with
 | zero=>simp [YDP,YDQ]
 | succ k ih=>
  have:=ih (by omega) (fun j hj=>h j (by omega))
  have hs:=h k (by omega)
  rw [YL4 (by omega),YL5 (by omega)]
  unfold oldN nowN
  unfold Stp at hs
  omega
theorem YOs {a:List YAB} (h1 : ∀ j,j<a.length→errS a j=none):YOt a=if 2147483647<YDP a∨2147483647<YDQ a then 3 else 0:=by
 unfold YOt; rw [YGE h1]
theorem YD5 {x:Int} (h1 : -9223372036854775808≤x) (h2:x≤9223372036854775807):chk .i64 x=some x:=YEh h1 h2
theorem YLM (a:List YAB) (hm:a.length≤9223372036854775807):YEJ a=some (YOt a):=by
 unfold YEJ
 obtain ⟨b,hb,hq⟩:=YE9 (f:=fun (x:Int × Int × Int)=>YCe a x.1 x.2.1 x.2.2) a.length
  (fun k s=>s=(min (YDP (a.take k)) 2147483648,min (YDQ (a.take k)) 2147483648,(k:Int)) ∧ ∀ j,j<k→errS a j=none)
  (fun b=>b=match (List.range a.length).findSome? (errS a) with | some e=>.ext e | none=>.nrm (min (YDP a) 2147483648,min (YDQ a) 2147483648))
  (fun k s hk hR=>by
   obtain ⟨rfl,hg⟩:=hR
   have hlen:=YP8 (a:=a) (k:=k) (by omega) (fun j hj=>YRt (hg j hj))
   unfold YCe
   simp only
   rw [if_pos (by simpa using hk),YAF hk,YAA,YAR (by omega)]
   cases he:errS a k with
   | some r=>
    right
    rw [YHe hk hg he]
    refine ⟨_,?_,rfl⟩
    unfold errS at he
    by_cases c1:a[k]!.Kind<0∨2<a[k]!.Kind
    ·rw [if_pos c1] at he; cases he
     rw [if_pos (by simpa using c1)]; rfl
    rw [if_neg c1] at he
    rw [if_neg (by simpa using c1)]
    by_cases c2:a[k]!.N<1∨2147483647<a[k]!.N
    ·rw [if_pos c2] at he; cases he
     rw [if_pos (by simpa using c2)]; rfl
    rw [if_neg c2] at he
    rw [if_neg (by simpa using c2)]
    by_cases c3:0<k∧(a[k-1]!.Kind=a[k]!.Kind∨(a[k-1]!.Kind=2∧a[k]!.Kind=1))
    ·rw [if_pos c3] at he; cases he
     have h0:decide ((0:Int)<(k:Int))=true:=by simp; omega
     rw [h0,YCL c3.1 (by omega)]
     simp only [beq_self_eq_true,YAG,YAA,Bool.true_and]
     rw [YAF (by omega),YAA,if_pos (by simpa using c3.2)]; rfl
    ·rw [if_neg c3] at he; cases he
   | none=>
    left
    have hs:=YRt he
    have h0:=he
    unfold errS at he
    by_cases c1:a[k]!.Kind<0∨2<a[k]!.Kind
    ·rw [if_pos c1] at he; cases he
    rw [if_neg c1] at he
    rw [if_neg (by simpa using c1)]
    by_cases c2:a[k]!.N<1∨2147483647<a[k]!.N
    ·rw [if_pos c2] at he; cases he
    rw [if_neg c2] at he
    rw [if_neg (by simpa using c2)]
    by_cases c3:0<k∧(a[k-1]!.Kind=a[k]!.Kind∨(a[k-1]!.Kind=2∧a[k]!.Kind=1))
    ·rw [if_pos c3] at he; cases he
    clear he
    have e3:k=0∨(0<k ∧ ¬ (a[k-1]!.Kind=a[k]!.Kind∨(a[k-1]!.Kind=2∧a[k]!.Kind=1))):=by
     by_cases h0:k=0
     ·exact .inl h0
     ·exact .inr ⟨by omega,fun h=>c3 ⟨by omega,h⟩⟩
    have hR' : ∀ j,j<k+1→errS a j=none:=fun j hj=>by
     rcases Nat.lt_or_ge j k with h | h
     ·exact hg j h
     ·obtain rfl:j=k:=by omega
      exact h0
    have fin:(ctl2 (bnd1 (if (!decide (a[k]!.Kind=1))=true then (bnd1 (chk .i64 (min (YDP (a.take k)) 2147483648+a[k]!.N)) fun (x9:Int)=>some (min x9 2147483648)) else some (min (YDP (a.take k)) 2147483648)) fun (before6:Int)=>
      if (!decide (a[k]!.Kind=2))=true then (bnd1 (chk .i64 (min (YDQ (a.take k)) 2147483648+a[k]!.N)) fun (x8:Int)=>some (.nrm (before6,min x8 2147483648))) else some (.nrm (before6,min (YDQ (a.take k)) 2147483648)))
      fun (before5:Int) (after5:Int)=>bnd1 (some (((k+1:Nat)):Int)) fun (x4:Int)=>some (Sum.inl (before5,after5,x4)):Option ((Int × Int × Int) ⊕ (Ctl (Int × Int) Int))) =
      some (.inl (min (YDP (a.take (k+1))) 2147483648,min (YDQ (a.take (k+1))) 2147483648,((k+1:Nat):Int))):=by
     unfold Stp at hs
     rw [YL4 hk,YL5 hk]
     clear c1 c2 c3 e3 hR' h0
     generalize a[k]! = x at hs ⊢
     generalize YDP (a.take k)=o at hlen ⊢
     generalize YDQ (a.take k)=w at hlen ⊢
     rw [YD5 (by omega) (by omega),YD5 (by omega) (by omega)]
     unfold oldN nowN
     by_cases d1:x.Kind=1
     ·have d2 : ¬ x.Kind=2:=by omega
      simp [d1]; omega
     ·by_cases d2:x.Kind=2
      ·simp [d2]; omega
      ·simp [d1,d2]; omega
    rcases e3 with rfl | ⟨hp,e3⟩
    ·exact ⟨_,fin,rfl,hR'⟩
    ·have h1:decide ((0:Int)<(k:Int))=true:=by simp; omega
     rw [h1,YCL (by omega) (by omega)]
     simp only [beq_self_eq_true,YAG,YAA,Bool.true_and]
     rw [YAF (by omega),YAA,if_neg (by simpa using e3)]
     exact ⟨_,fin,rfl,hR'⟩)
  (fun s hR=>by
   obtain ⟨rfl,hg⟩:=hR
   rw [YGE hg,List.take_length]
   unfold YCe
   exact ⟨_,by rw [if_neg (by simp)],rfl⟩)
  (s:=(0,0,0)) ⟨by simp [YDP,YDQ]; decide,fun j hj=>absurd hj (Nat.not_lt_zero _)⟩
 rw [hb,hq]
 unfold YOt
 cases (List.range a.length).findSome? (errS a) with
 | some e=>rfl
 | none=>
  show (if (decide (2147483647<min (YDP a) 2147483648) || decide (2147483647<min (YDQ a) 2147483648))=true then some 3 else some 0)=_
  by_cases h:2147483647<YDP a∨2147483647<YDQ a
  ·rw [if_pos (by simp; omega),if_pos h]
  ·rw [if_neg (by simp; omega),if_neg h]
theorem YF6 (x lo hi:Int):YBj x lo hi=some (decide (lo≤x) && decide (x≤hi)):=by
 unfold YBj
 rfl
end Go.Proofs.YtdafahjmopdleaaGreatDoor.Al


namespace Go.Proofs.YtdafahjmopdleaaGreatDoor.Al
theorem app8 {o:List Int} {x:Int} (h:o.length+1≤1099511627776):app 8 o [x]=some (o++[x]):=by
 unfold app; rw [if_pos (by simp; omega)]
end Go.Proofs.YtdafahjmopdleaaGreatDoor.Al


namespace Go.Proofs.YtdafahjmopdleaaGreatDoor.Al
def YGG (c:Int):Bool:=decide (c=9) || decide (c=10) || (decide (32≤c) && decide (c≤126)) || (decide (160≤c) && decide (c≤55295)) || (decide (57344≤c) && decide (c≤1114111))
def YDV (x:YAN):Int:=
 if (x.Char=0∧x.Ref=0)∨(x.Char≠0∧x.Ref≠0) then 4 else if (x.Char≠0∧YGG x.Char=false)∨(x.Ref≠0 ∧ ¬ (1≤x.Ref∧x.Ref≤1073741824)) then 2 else YFb x.Attrs false
def okE (x:YAN):Prop:=x.Attrs.length≤9223372036854775807∧YIL x.Attrs
theorem YHy (c:Int):YFF c=some (YGG c):=by
 unfold YFF YGG
 congr 1
 rw [Bool.eq_iff_iff]
 simp only [Bool.or_eq_true,Bool.and_eq_true,decide_eq_true_eq]
 omega
theorem YJJ (c:Int):YGM c=some (YGG c):=by
 unfold YGM YGG
 rw [YF6,YF6,YF6]
 generalize decide (c=9)=a1
 generalize decide (c=10)=a2
 generalize (decide (32≤c) && decide (c≤126))=a3
 generalize (decide (160≤c) && decide (c≤55295))=a4
 generalize (decide (57344≤c) && decide (c≤1114111))=a5
 cases a1 <;> cases a2 <;> cases a3 <;> cases a4 <;> cases a5 <;> rfl
theorem YHx (x:YAN) (h:okE x):YGC x=some (YDV x):=by
 unfold YGC YDV
 rw [YHy,YFa _ h.2 h.1]
 by_cases c:x.Char=0
 ·by_cases r:x.Ref=0
  ·simp [c,r]
  ·by_cases q:1≤x.Ref∧x.Ref≤1073741824
   ·have q1 : ¬ x.Ref<1:=by omega
    have q2 : ¬ 1073741824<x.Ref:=by omega
    simp [c,r,q,q1,q2]
   ·have q1:x.Ref<1∨1073741824<x.Ref:=by omega
    simp [c,r,q,q1]
 ·by_cases r:x.Ref=0
  ·cases hc:YGG x.Char <;> simp [c,r,hc]
  ·simp [c,r]
theorem YFh (x:YAN) (h:okE x):YDM x=some (YDV x):=by
 unfold YDM YDV
 rw [YJJ,YDk _ _ h.2 h.1,YF6]
 by_cases c:x.Char=0
 ·by_cases r:x.Ref=0
  ·simp [c,r]
  ·by_cases q:1≤x.Ref∧x.Ref≤1073741824
   ·simp [c,r,q]
   ·have q1:(decide (1≤x.Ref) && decide (x.Ref≤1073741824))=false:=by rw [← Bool.not_eq_true]; simpa using q
    simp [c,r,q,q1]
 ·by_cases r:x.Ref=0
  ·cases hc:YGG x.Char <;> simp [c,r,hc]
  ·simp [c,r]
def errE (f:List YAN) (k:Nat):Option Int:=if YDV f[k]! = 0 then none else some (YDV f[k]!)
def YNH (f:List YAN):Int:=((List.range f.length).findSome? (errE f)).getD 0
def YSV:List UInt8:=[104,105,100,100,101,110]
def sOn:List UInt8:=[111,110]
def sCut:List UInt8:=[99,117,116]
def sAdd:List UInt8:=[97,100,100]
def hid (x:YAN) (mode:Int):Bool:=decide (getA x.Attrs YSV=sOn) || (decide (mode=0) && !decide (getA x.Attrs sCut=[])) || (decide (mode=1) && !decide (getA x.Attrs sAdd=[]))
def seen (f:List YAN) (mode:Int) (k:Nat):Bool:=!hid f[k]! mode || (decide (k+1=f.length) && decide (f[k]!.Char=10))
def shown (f:List YAN) (mode:Int) (k:Nat):List Int:=((List.range k).filter (seen f mode)).map fun (i:Nat)=>(i:Int)
end Go.Proofs.YtdafahjmopdleaaGreatDoor.Al


namespace Go.Proofs.YtdafahjmopdleaaGreatDoor.Al
theorem ndT {p:Prop} [Decidable p] (h : ¬ p):(!decide p)=true:=by simp [h]
theorem ndF {p:Prop} [Decidable p] (h:p) : ¬ ((!decide p)=true):=by simp [h]
def okA (l:List YAT):Prop:=l.length≤1073741824∧YIL l
structure OkSt (s:YEn):Prop where
 at_:okA s.Attrs
 el:s.Elems.length≤1073741824
 ea : ∀ e∈s.Elems,okA e.Attrs
end Go.Proofs.YtdafahjmopdleaaGreatDoor.Al


namespace Go.Proofs.YtdafahjmopdleaaGreatDoor.Al
end Go.Proofs.YtdafahjmopdleaaGreatDoor.Al


namespace Go.Proofs.YtdafahjmopdleaaGreatDoor.Al
inductive Un where
 | a (e:YAN)
 | r (cut:Bool) (at_:List YAT)
theorem YSD {o:List YAB} {x:YAB} (h:o.length+1≤1099511627776):app 16 o [x]=some (o++[x]):=by
 unfold app; rw [if_pos]; simp only [List.length_singleton]; omega
end Go.Proofs.YtdafahjmopdleaaGreatDoor.Al


namespace Go.Proofs.YtdafahjmopdleaaGreatDoor.Al
end Go.Proofs.YtdafahjmopdleaaGreatDoor.Al


namespace Go.Proofs.YtdafahjmopdleaaGreatDoor.Al
end Go.Proofs.YtdafahjmopdleaaGreatDoor.Al


namespace Go.Proofs.YtdafahjmopdleaaGreatDoor.Al
theorem slc_to {α:Type} (l:List α) (n:Int) (h0:0≤n) (h:n≤l.length):slc l 0 n=some (l.take n.toNat):=by
 unfold slc; rw [if_pos (by omega)]; simp
end Go.Proofs.YtdafahjmopdleaaGreatDoor.Al


namespace Go.Proofs.YtdafahjmopdleaaGreatDoor.Al
end Go.Proofs.YtdafahjmopdleaaGreatDoor.Al


namespace Go.Proofs.YtdafahjmopdleaaGreatDoor.Al
end Go.Proofs.YtdafahjmopdleaaGreatDoor.Al


namespace Go.Proofs.YtdafahjmopdleaaGreatDoor.Al
end Go.Proofs.YtdafahjmopdleaaGreatDoor.Al


namespace Go.Proofs.YtdafahjmopdleaaGreatDoor.Al
theorem YJG (x y:YAN) (h:x.Attrs.length≤1073741824):YDx x y=some (decide (x=y)):=by
 unfold YDx
 rw [YB8 _ _ (by omega)]
 obtain ⟨x1,x2,x3⟩:=x
 obtain ⟨y1,y2,y3⟩:=y
 by_cases h1:x1=y1 <;> by_cases h2:x2=y2 <;> by_cases h3:x3=y3 <;> simp [h1,h2,h3,default]
theorem YHO {α:Type} [Inhabited α] [DecidableEq α] {a b:List α} (hl:a.length=b.length) (h:((List.range a.length).all fun k=>decide (a[k]! = b[k]!))=true):a=b:=by
 apply List.ext_getElem hl
 intro k h1 h2
 have:=List.all_eq_true.1 h k (List.mem_range.2 h1)
 simp only [decide_eq_true_eq] at this
 rwa [getElem!_pos a k h1,getElem!_pos b k h2] at this
theorem YIY {α:Type} [Inhabited α] [DecidableEq α] (a:List α):((List.range a.length).all fun k=>decide (a[k]! = a[k]!))=true:=by
 rw [List.all_eq_true]; intro k _; rw [decide_eq_true rfl]
theorem YF4 (a b:List YAN) (hm:a.length≤9223372036854775806) (h : ∀ e∈a,e.Attrs.length≤1073741824):YC0 a b=some (decide (a=b)):=by
 unfold YC0
 by_cases hl:a.length=b.length
 ·rw [if_neg (by simp [hl]),YAX (n:=a.length) (fun k=>if decide (a[k]! = b[k]!) then none else some false) (fun k hk=>by
   unfold YCP
   rw [if_pos (by simpa using hk),YAF hk,YAF (by omega),YAA,YAA,YJG _ _ (h _ (YDR hk)),YAA,YAR (by omega)]
   generalize a[k]! = x
   generalize b[k]! = y
   by_cases h:x=y <;> simp [h,YBR]) (by unfold YCP; rw [if_neg (by simp)]),YCc,YAy]
  by_cases h:a=b
  ·subst h; rw [YIY,decide_eq_true rfl]; rfl
  ·rw [decide_eq_false h]
   have:((List.range a.length).all fun k=>decide (a[k]! = b[k]!))=false:=by
    rw [← Bool.not_eq_true]; exact fun hh=>h (YHO hl hh)
   rw [this]; rfl
 ·rw [if_pos (by simp; omega),decide_eq_false (by rintro rfl; exact hl rfl)]
theorem YIH (a b:List YEn) (hm:a.length≤9223372036854775806) (h : ∀ s∈a,OkSt s):YCX a b=some (decide (a=b)):=by
 unfold YCX
 by_cases hl:a.length=b.length
 ·rw [if_neg (by simp [hl]),YAX (n:=a.length) (fun k=>if decide (a[k]! = b[k]!) then none else some false) (fun k hk=>by
   unfold YB6
   have hs:=h _ (YDR hk)
   rw [if_pos (by simpa using hk),YAF hk,YAF (by omega),YAA,YAA,YB8 _ _ (by have:=hs.at_.1; omega),YF4 _ _ (by have:=hs.el; omega) (fun e he=>(hs.ea e he).1),YAR (by omega)]
   generalize a[k]! = x
   generalize b[k]! = y
   obtain ⟨x1,x2,x3,x4⟩:=x
   obtain ⟨y1,y2,y3,y4⟩:=y
   by_cases h1:x1=y1 <;> by_cases h2:x2=y2 <;> by_cases h3:x3=y3 <;> by_cases h4:x4=y4 <;> simp [h1,h2,h3,h4,YBR,default]) (by unfold YB6; rw [if_neg (by simp)]),YCc,YAy]
  by_cases h:a=b
  ·subst h; rw [YIY,decide_eq_true rfl]; rfl
  ·rw [decide_eq_false h]
   have:((List.range a.length).all fun k=>decide (a[k]! = b[k]!))=false:=by
    rw [← Bool.not_eq_true]; exact fun hh=>h (YHO hl hh)
   rw [this]; rfl
 ·rw [if_pos (by simp; omega),decide_eq_false (by rintro rfl; exact hl rfl)]
end Go.Proofs.YtdafahjmopdleaaGreatDoor.Al


namespace Go.Proofs.YtdafahjmopdleaaGreatDoor.Al
theorem YK3 {κ:YAT→Nat} (h3 : ∀ a,a.Name.length+a.Value.length+1≤κ a) {l:List YAT} (hb:(l.map κ).sum≤1048576):okA l:=by
 have h1:=YEG (μ:=κ) (fun a=>by have:=h3 a; omega) l
 refine ⟨by omega,fun a ha=>?_⟩
 have h2:=YC1 (μ:=κ) ha
 have:=h3 a
 omega
theorem YRA {ν:YAN→Nat} {κ:YAT→Nat} (h2 : ∀ e,(e.Attrs.map κ).sum+1≤ν e) (h3 : ∀ a,a.Name.length+a.Value.length+1≤κ a) {f:List YAN} (hb:(f.map ν).sum≤1048576):f.length≤1048576 ∧ ∀ e∈f,okA e.Attrs:=by
 have h1:=YEG (μ:=ν) (fun e=>by have:=h2 e; omega) f
 refine ⟨by omega,fun e he=>YK3 h3 ?_⟩
 have h4:=YC1 (μ:=ν) he
 have:=h2 e
 omega
end Go.Proofs.YtdafahjmopdleaaGreatDoor.Al


namespace Go.Proofs.YtdafahjmopdleaaGreatDoor.Al
end Go.Proofs.YtdafahjmopdleaaGreatDoor.Al


namespace Go.Proofs.YtdafahjmopdleaaGreatDoor.Al
end Go.Proofs.YtdafahjmopdleaaGreatDoor.Al


namespace Go.Proofs.YtdafahjmopdleaaGreatDoor.Al
end Go.Proofs.YtdafahjmopdleaaGreatDoor.Al


namespace Go.Proofs.YtdafahjmopdleaaGreatDoor.Al
end Go.Proofs.YtdafahjmopdleaaGreatDoor.Al


namespace Go.Proofs.YtdafahjmopdleaaGreatDoor.Al
end Go.Proofs.YtdafahjmopdleaaGreatDoor.Al


namespace Go.Proofs.YtdafahjmopdleaaGreatDoor.Al
end Go.Proofs.YtdafahjmopdleaaGreatDoor.Al


namespace Go.Proofs.YtdafahjmopdleaaGreatDoor.Al
theorem YFg (a b:List YAB) (hm:a.length≤9223372036854775806):YCW a b=some (decide (a=b)):=by
 unfold YCW
 by_cases hl:a.length=b.length
 ·rw [if_neg (by simp [hl]),YAX (n:=a.length) (fun k=>if decide (a[k]! = b[k]!) then none else some false) (fun k hk=>by
   unfold YB4
   rw [if_pos (by simpa using hk),YAF hk,YAF (by omega),YAA,YAA,YAR (by omega)]
   generalize a[k]! = x
   generalize b[k]! = y
   obtain ⟨x1,x2⟩:=x
   obtain ⟨y1,y2⟩:=y
   by_cases h:x1=y1 <;> by_cases h2:x2=y2 <;> simp [h,h2,YBR]) (by unfold YB4; rw [if_neg (by simp)]),YCc,YAy]
  by_cases h:a=b
  ·subst h; simp
  ·rw [decide_eq_false h]
   have:((List.range a.length).all fun k=>decide (a[k]! = b[k]!))=false:=by
    rw [← Bool.not_eq_true,List.all_eq_true]
    intro hall
    apply h
    apply List.ext_getElem hl
    intro k h1 h2
    have:=hall k (List.mem_range.2 h1)
    simp only [decide_eq_true_eq] at this
    rwa [getElem!_pos a k h1,getElem!_pos b k h2] at this
   rw [this]; rfl
 ·rw [if_pos (by simp; omega),decide_eq_false (by rintro rfl; exact hl rfl)]
end Go.Proofs.YtdafahjmopdleaaGreatDoor.Al


namespace Go.Proofs.YtdafahjmopdleaaGreatDoor.Al
end Go.Proofs.YtdafahjmopdleaaGreatDoor.Al


namespace Go.Proofs.YtdafahjmopdleaaGreatDoor.Al
end Go.Proofs.YtdafahjmopdleaaGreatDoor.Al


namespace Go.Proofs.YtdafahjmopdleaaGreatDoor.Al
def YLB (f:List YAN):Int:=if YNH f≠0 then YNH f else if f=[]∨f[f.length-1]!.Char≠10 then 11 else 0
theorem YSt {f:List YAN} {k:Nat} {r:Int} (h:errE f k=some r):r≠0:=by
 unfold errE at h
 split at h
 ·cases h
 ·rename_i hne; cases h; exact hne
theorem YKR (f:List YAN) (hm:f.length≤1073741824):(ctl1 (some (YGU ((List.range f.length).findSome? (errE f)))) fun (_:Unit)=>
  bnd1 (gd ((true == true) && ((decide ((f.length:Int)=0)) == false)) (chk .i64 ((f.length:Int)-1))) fun (x4:Int)=>
  bnd1 (gd ((true == true) && ((decide ((f.length:Int)=0)) == false)) (idx f x4)) fun (x5:YAN)=>
  if (true && ((decide ((f.length:Int)=0)) || (!decide (x5.Char=10)))) then some (11:Int) else some 0)=some (YLB f):=by
 rw [YAy]
 unfold YLB YNH
 cases hr:(List.range f.length).findSome? (errE f) with
 | some r=>
  have hne:r≠0:=by
   obtain ⟨k,hk⟩:=List.exists_of_findSome?_eq_some hr
   exact YSt hk.2
  dsimp only [Option.getD]
  rw [if_pos hne]
 | none=>
  dsimp only [Option.getD]
  rw [if_neg (by decide)]
  by_cases hl:f=[]
  ·subst hl; rfl
  ·have h0:0<f.length:=List.length_pos_iff.2 hl
   have hd:decide ((f.length:Int)=0)=false:=decide_eq_false (by omega)
   rw [hd,show ((true == true) && (false == false))=true from rfl,YAG,show ((f.length:Int)-1)=((f.length-1:Nat):Int) by omega,YEh (by omega) (by omega),YAA,YAG,YAF (by omega),YAA]
   by_cases hc:f[f.length-1]!.Char=10
   ·rw [if_neg (by rw [decide_eq_true hc]; decide),if_neg (fun h=>h.elim hl fun h=>h hc)]
   ·rw [if_pos (by rw [decide_eq_false hc]; decide),if_pos (.inr hc)]
theorem YLA (f:List YAN) (h : ∀ x∈f,okE x) (hm:f.length≤1073741824):YC2 f true=some (YLB f):=by
 unfold YC2
 rw [YAX (n:=f.length) (errE f) (fun k hk=>by
  unfold YB0 errE
  rw [if_pos (by simpa using hk),YAF hk,YAA,YAR (by omega),YHx _ (h _ (YDR hk)),YAA]
  by_cases e:YDV f[k]! = 0
  ·rw [if_neg (ndF e),if_pos e]; rfl
  ·rw [if_pos (ndT e),if_neg e]; rfl) (by unfold YB0; rw [if_neg (by simp)])]
 exact YKR f hm
theorem YIJ (f:List YAN) (h : ∀ x∈f,okE x) (hm:f.length≤1073741824):YBc f true=some (YLB f):=by
 unfold YBc
 rw [YAX (n:=f.length) (errE f) (fun k hk=>by
  unfold YBM errE
  rw [if_pos (by simpa using hk),YAF hk,YAA,YAR (by omega),YFh _ (h _ (YDR hk)),YAA]
  by_cases e:YDV f[k]! = 0
  ·rw [if_neg (ndF e),if_pos e]; rfl
  ·rw [if_pos (ndT e),if_neg e]; rfl) (by unfold YBM; rw [if_neg (by simp)])]
 exact YKR f hm
instance:Inhabited Un:=⟨.r false []⟩
def off (n:List UInt8):YAT:=⟨n,[]⟩
end Go.Proofs.YtdafahjmopdleaaGreatDoor.Al


namespace Go.Proofs.YtdafahjmopdleaaGreatDoor.Al
theorem YQG:YCr.length=256:=by decide +kernel
theorem YPQ (s:List UInt8) (k:Nat) (hk:k≤s.length):slc s (k:Int) (s.length:Int)=some (s.drop k):=by
 unfold slc
 rw [if_pos (by omega)]
 congr 1
 rw [List.take_of_length_le (by simp),Int.toNat_natCast]
end Go.Proofs.YtdafahjmopdleaaGreatDoor.Al


namespace Go.Proofs.YtdafahjmopdleaaGreatDoor.Al
end Go.Proofs.YtdafahjmopdleaaGreatDoor.Al


namespace Go.Proofs.YtdafahjmopdleaaGreatDoor.Al
def errT (t:Bool) (f:List YAN) (k:Nat):Option Int:=if YDV f[k]! = 0 then (if t=false∧f[k]!.Ref=0 then some 8 else none) else some (YDV f[k]!)
theorem YMO {x:YAN} (h:YDV x=0):(x.Ref=0↔x.Char≠0):=by
 unfold YDV at h
 by_cases c:x.Char=0 <;> by_cases r:x.Ref=0 <;> simp [c,r] at h ⊢
theorem YMF (f:List YAN) (h : ∀ x∈f,okE x) (hm:f.length≤1073741824):YC2 f false=some (((List.range f.length).findSome? (errT false f)).getD 0):=by
 unfold YC2
 rw [YAX (n:=f.length) (errT false f) (fun k hk=>by
  unfold YB0 errT
  rw [if_pos (by simpa using hk),YAF hk,YAA,YAR (by omega),YHx _ (h _ (YDR hk)),YAA]
  generalize f[k]! = x
  by_cases e:YDV x=0
  ·rw [if_neg (ndF e),if_pos e]
   by_cases r:x.Ref=0
   ·rw [if_pos (show (!false && decide (x.Ref=0))=true by rw [decide_eq_true r]; rfl),if_pos ⟨rfl,r⟩]; rfl
   ·rw [if_neg (show ¬ (!false && decide (x.Ref=0))=true by rw [decide_eq_false r]; decide),if_neg (fun h=>r h.2)]; rfl
  ·rw [if_pos (ndT e),if_neg e]; rfl) (by unfold YB0; rw [if_neg (by simp)])]
 cases (List.range f.length).findSome? (errT false f) <;> rfl
theorem YJI (f:List YAN) (h : ∀ x∈f,okE x) (hm:f.length≤1073741824):YBc f false=some (((List.range f.length).findSome? (errT false f)).getD 0):=by
 unfold YBc
 rw [YAX (n:=f.length) (errT false f) (fun k hk=>by
  unfold YBM errT
  rw [if_pos (by simpa using hk),YAF hk,YAA,YAR (by omega),YFh _ (h _ (YDR hk)),YAA]
  generalize f[k]! = x
  by_cases e:YDV x=0
  ·rw [if_neg (ndF e),if_pos e]
   have hr:=YMO e
   by_cases r:x.Ref=0
   ·rw [if_pos (show (!false && !decide (x.Char=0))=true by rw [decide_eq_false (hr.1 r)]; rfl),if_pos ⟨rfl,r⟩]; rfl
   ·have hc:x.Char=0:=Classical.byContradiction fun hc=>r (hr.2 hc)
    rw [if_neg (show ¬ (!false && !decide (x.Char=0))=true by rw [decide_eq_true hc]; decide),if_neg (fun h=>r h.2)]; rfl
  ·rw [if_pos (ndT e),if_neg e]; rfl) (by unfold YBM; rw [if_neg (by simp)])]
 cases (List.range f.length).findSome? (errT false f) <;> rfl
theorem YNV (f:List YAN) (t:Bool) (h : ∀ x∈f,okE x) (hm:f.length≤1073741824) : ∃ r,YC2 f t=some r∧YBc f t=some r:=by
 cases t
 ·exact ⟨_,YMF f h hm,YJI f h hm⟩
 ·exact ⟨_,YLA f h hm,YIJ f h hm⟩
theorem YMD (a b:List YAN) (hm:a.length≤9223372036854775806) (h : ∀ e∈a,e.Attrs.length≤1073741824):YJS a b=some (decide (a=b)):=by
 unfold YJS
 by_cases hl:a.length=b.length
 ·rw [if_neg (by simp [hl]),YAX (n:=a.length) (fun k=>if decide (a[k]! = b[k]!) then none else some false) (fun k hk=>by
   unfold YGD
   have ha:=h _ (YDR hk)
   rw [if_pos (by simpa using hk),YAF hk,YAF (by omega),YAA,YAA,YGH _ _ (by omega),YAR (by omega)]
   generalize a[k]! = x
   generalize b[k]! = y
   obtain ⟨x1,x2,x3⟩:=x
   obtain ⟨y1,y2,y3⟩:=y
   by_cases h1:x1=y1 <;> by_cases h2:x2=y2 <;> by_cases h3:x3=y3 <;> simp [h1,h2,h3,YBR,default]) (by unfold YGD; rw [if_neg (by simp)]),YCc,YAy]
  by_cases h:a=b
  ·subst h; rw [YIY,decide_eq_true rfl]; rfl
  ·rw [decide_eq_false h]
   have:((List.range a.length).all fun k=>decide (a[k]! = b[k]!))=false:=by
    rw [← Bool.not_eq_true]; exact fun hh=>h (YHO hl hh)
   rw [this]; rfl
 ·rw [if_pos (by simp; omega),decide_eq_false (by rintro rfl; exact hl rfl)]
theorem YPe (f:List YAN) (hm:f.length≤1073741824) : ∃ r,iter (fun (a:Int × (List Int))=>YBw f a.1 a.2) (0,[])=some r∧r.length≤f.length:=by
 refine YE9 f.length (fun k st=>st.1=(k:Int)∧st.2.length≤k) _ ?_ ?_ ⟨rfl,by simp⟩
 ·rintro k ⟨x,out⟩ hk ⟨rfl,ho⟩
  dsimp only at ho ⊢
  left
  unfold YBw
  rw [if_pos (by simpa using hk),YAF hk,YAA]
  by_cases r:f[k]!.Ref=0
  ·rw [if_neg (ndF r),YAA,YAR (by omega),YAA]
   exact ⟨_,rfl,rfl,by dsimp only; omega⟩
  ·rw [if_pos (ndT r),app8 (by omega),YAA,YAA,YAR (by omega),YAA]
   exact ⟨_,rfl,rfl,by dsimp only; rw [List.length_append,List.length_singleton]; omega⟩
 ·rintro ⟨x,out⟩ ⟨rfl,ho⟩
  dsimp only at ho ⊢
  unfold YBw
  rw [if_neg (by simp)]
  exact ⟨_,rfl,ho⟩
end Go.Proofs.YtdafahjmopdleaaGreatDoor.Al


namespace Go.Proofs.YtdafahjmopdleaaGreatDoor.Al
end Go.Proofs.YtdafahjmopdleaaGreatDoor.Al


namespace Go.Proofs.YtdafahjmopdleaaGreatDoor.Al
theorem YE3 {α:Type} [Inhabited α] [DecidableEq α] {f:Int→Option (Int ⊕ Ctl Unit Bool)} (a b:List α) (hl:a.length=b.length)
  (h1 : ∀ k:Nat,k<a.length→f k=YBR k (if decide (a[k]! = b[k]!) then none else some false)) (h2:f a.length=some (.inr (.nrm ()))) :
  (ctl1 (iter f 0) fun (_:Unit)=>some true)=some (decide (a=b)):=by
 rw [YAX (n:=a.length) (fun k=>if decide (a[k]! = b[k]!) then none else some false) h1 h2,YCc,YAy]
 by_cases h:a=b
 ·subst h; rw [YIY,decide_eq_true rfl]; rfl
 ·rw [decide_eq_false h]
  have:((List.range a.length).all fun k=>decide (a[k]! = b[k]!))=false:=by
   rw [← Bool.not_eq_true]; exact fun hh=>h (YHO hl hh)
  rw [this]; rfl
theorem YNq (x y:YAQ):(decide (x.Row=y.Row) && (decide (x.Col=y.Col) && (decide (x.H=y.H) && (decide (x.W=y.W) && true))))=decide (x=y):=by
 obtain ⟨x1,x2,x3,x4⟩:=x
 obtain ⟨y1,y2,y3,y4⟩:=y
 rw [Bool.eq_iff_iff]; simp
theorem YOA (x y:YAI):(decide (x.Clock=y.Clock) && (decide (x.Site=y.Site) && (decide (x.Kind=y.Kind) && (decide (x.Item=y.Item) && (decide (x.Parent=y.Parent) && (decide (x.Place=y.Place) && (decide (x.Name=y.Name) && (decide (x.Value=y.Value) && true))))))))=decide (x=y):=by
 obtain ⟨x1,x2,x3,x4,x5,x6,x7,x8⟩:=x
 obtain ⟨y1,y2,y3,y4,y5,y6,y7,y8⟩:=y
 rw [Bool.eq_iff_iff]; simp
theorem YQz (a b:List YAQ) (hm:a.length≤9223372036854775806):YAe a b=some (decide (a=b)):=by
 unfold YAe
 by_cases hl:a.length=b.length
 ·rw [if_neg (by simp [hl])]
  exact YE3 a b hl (fun k hk=>by
   unfold YAZ
   rw [if_pos (by simpa using hk),YAF hk,YAF (by omega),YAA,YAA,YNq,YAR (by omega)]
   generalize a[k]! = x
   generalize b[k]! = y
   by_cases h:x=y <;> simp [h,YBR]) (by unfold YAZ; rw [if_neg (by simp)])
 ·rw [if_pos (by simp; omega),decide_eq_false (by rintro rfl; exact hl rfl)]
theorem YF2 (a b:List YAQ) (hm:a.length≤9223372036854775806):YBz a b=some (decide (a=b)):=by
 unfold YBz
 by_cases hl:a.length=b.length
 ·rw [if_neg (by simp [hl])]
  exact YE3 a b hl (fun k hk=>by
   unfold YB5
   rw [if_pos (by simpa using hk),YAF hk,YAF (by omega),YAA,YAA,YNq,YAR (by omega)]
   generalize a[k]! = x
   generalize b[k]! = y
   by_cases h:x=y <;> simp [h,YBR]) (by unfold YB5; rw [if_neg (by simp)])
 ·rw [if_pos (by simp; omega),decide_eq_false (by rintro rfl; exact hl rfl)]
theorem YRZ (a b:List YAI) (hm:a.length≤9223372036854775806):YA2 a b=some (decide (a=b)):=by
 unfold YA2
 by_cases hl:a.length=b.length
 ·rw [if_neg (by simp [hl])]
  exact YE3 a b hl (fun k hk=>by
   unfold YAu
   rw [if_pos (by simpa using hk),YAF hk,YAF (by omega),YAA,YAA,YOA,YAR (by omega)]
   generalize a[k]! = x
   generalize b[k]! = y
   by_cases h:x=y <;> simp [h,YBR]) (by unfold YAu; rw [if_neg (by simp)])
 ·rw [if_pos (by simp; omega),decide_eq_false (by rintro rfl; exact hl rfl)]
theorem YOa (a b:List YAI) (hm:a.length≤9223372036854775806):YCO a b=some (decide (a=b)):=by
 unfold YCO
 by_cases hl:a.length=b.length
 ·rw [if_neg (by simp [hl])]
  exact YE3 a b hl (fun k hk=>by
   unfold YCH
   rw [if_pos (by simpa using hk),YAF hk,YAF (by omega),YAA,YAA,YOA,YAR (by omega)]
   generalize a[k]! = x
   generalize b[k]! = y
   by_cases h:x=y <;> simp [h,YBR]) (by unfold YCH; rw [if_neg (by simp)])
 ·rw [if_pos (by simp; omega),decide_eq_false (by rintro rfl; exact hl rfl)]
theorem YSz (x y:YAL) (hm:x.Attrs.length≤1073741824):YDT x y=some (decide (x=y)):=by
 unfold YDT
 rw [YGH _ _ (by omega)]
 obtain ⟨x1,x2,x3,x4,x5⟩:=x
 obtain ⟨y1,y2,y3,y4,y5⟩:=y
 by_cases h1:x1=y1 <;> by_cases h2:x2=y2 <;> by_cases h3:x3=y3 <;> by_cases h4:x4=y4 <;> by_cases h5:x5=y5 <;> simp [h1,h2,h3,h4,h5,gd,YAA]
theorem YM9 (x y:YAL) (hm:x.Attrs.length≤1073741824):YDz x y=some (decide (x=y)):=by
 unfold YDz
 rw [YB8 _ _ (by omega)]
 obtain ⟨x1,x2,x3,x4,x5⟩:=x
 obtain ⟨y1,y2,y3,y4,y5⟩:=y
 by_cases h1:x1=y1 <;> by_cases h2:x2=y2 <;> by_cases h3:x3=y3 <;> by_cases h4:x4=y4 <;> by_cases h5:x5=y5 <;> simp [h1,h2,h3,h4,h5,gd,YAA]
theorem YRd (a b:List YAL) (hm:a.length≤9223372036854775806) (h : ∀ x∈a,x.Attrs.length≤1073741824):YAH a b=some (decide (a=b)):=by
 unfold YAH
 by_cases hl:a.length=b.length
 ·rw [if_neg (by simp [hl])]
  exact YE3 a b hl (fun k hk=>by
   unfold YAE
   rw [if_pos (by simpa using hk),YAF hk,YAF (by omega),YAA,YAA,YSz _ _ (h _ (YDR hk)),YAA,YAR (by omega)]
   generalize a[k]! = x
   generalize b[k]! = y
   by_cases h:x=y <;> simp [h,YBR]) (by unfold YAE; rw [if_neg (by simp)])
 ·rw [if_pos (by simp; omega),decide_eq_false (by rintro rfl; exact hl rfl)]
theorem YHt (a b:List YAL) (hm:a.length≤9223372036854775806) (h : ∀ x∈a,x.Attrs.length≤1073741824):YCY a b=some (decide (a=b)):=by
 unfold YCY
 by_cases hl:a.length=b.length
 ·rw [if_neg (by simp [hl])]
  exact YE3 a b hl (fun k hk=>by
   unfold YB7
   rw [if_pos (by simpa using hk),YAF hk,YAF (by omega),YAA,YAA,YM9 _ _ (h _ (YDR hk)),YAA,YAR (by omega)]
   generalize a[k]! = x
   generalize b[k]! = y
   by_cases h:x=y <;> simp [h,YBR]) (by unfold YB7; rw [if_neg (by simp)])
 ·rw [if_pos (by simp; omega),decide_eq_false (by rintro rfl; exact hl rfl)]
def okG (g:YAv):Prop:=g.Cells.length≤1048576∧g.Merges.length≤1048576 ∧ ∀ x∈g.Cells,okA x.Attrs
structure okN (n:YAJ):Prop where
 at_:okA n.Attrs
 fl:n.Flow.length≤1048576
 fa : ∀ e∈n.Flow,okA e.Attrs
 gr:okG n.Grid
 dr:n.Draw.length≤1048576
def okDoc (d:GDoc):Prop:=d.Nodes.length≤1048576 ∧ ∀ n∈d.Nodes,okN n
theorem YP7 (x y:YAv) (h:okG x):YFD x y=some (decide (x=y)):=by
 obtain ⟨h1,h2,h3⟩:=h
 unfold YFD
 rw [YQz _ _ (by omega),YRd _ _ (by omega) (fun e he=>(h3 e he).1)]
 obtain ⟨x1,x2,x3,x4⟩:=x
 obtain ⟨y1,y2,y3,y4⟩:=y
 by_cases h1:x1=y1 <;> by_cases h2:x2=y2 <;> by_cases h3:x3=y3 <;> by_cases h4:x4=y4 <;> simp [h1,h2,h3,h4,gd,YAA]
theorem YM8 (x y:YAv) (h:okG x):YDw x y=some (decide (x=y)):=by
 obtain ⟨h1,h2,h3⟩:=h
 unfold YDw
 rw [YF2 _ _ (by omega),YHt _ _ (by omega) (fun e he=>(h3 e he).1)]
 obtain ⟨x1,x2,x3,x4⟩:=x
 obtain ⟨y1,y2,y3,y4⟩:=y
 by_cases h1:x1=y1 <;> by_cases h2:x2=y2 <;> by_cases h3:x3=y3 <;> by_cases h4:x4=y4 <;> simp [h1,h2,h3,h4,gd,YAA]
theorem node_eq (x y:YAJ) (h:okN x):YH3 x y=some (decide (x=y)):=by
 have ha:=h.at_.1
 have hf:=h.fl
 have hd:=h.dr
 unfold YH3
 rw [YGH _ _ (by omega),YMD _ _ (by omega) (fun e he=>(h.fa e he).1),YP7 _ _ h.gr,YRZ _ _ (by omega)]
 obtain ⟨x1,x2,x3,x4,x5,x6⟩:=x
 obtain ⟨y1,y2,y3,y4,y5,y6⟩:=y
 by_cases h1:x1=y1 <;> by_cases h2:x2=y2 <;> by_cases h3:x3=y3 <;> by_cases h4:x4=y4 <;> by_cases h5:x5=y5 <;> by_cases h6:x6=y6 <;> simp [h1,h2,h3,h4,h5,h6,gd,YAA]
theorem YM7 (x y:YAJ) (h:okN x):YCz x y=some (decide (x=y)):=by
 have ha:=h.at_.1
 have hf:=h.fl
 have hd:=h.dr
 unfold YCz
 rw [YB8 _ _ (by omega),YF4 _ _ (by omega) (fun e he=>(h.fa e he).1),YM8 _ _ h.gr,YOa _ _ (by omega)]
 obtain ⟨x1,x2,x3,x4,x5,x6⟩:=x
 obtain ⟨y1,y2,y3,y4,y5,y6⟩:=y
 by_cases h1:x1=y1 <;> by_cases h2:x2=y2 <;> by_cases h3:x3=y3 <;> by_cases h4:x4=y4 <;> by_cases h5:x5=y5 <;> by_cases h6:x6=y6 <;> simp [h1,h2,h3,h4,h5,h6,gd,YAA]
theorem YEr {β:Type} (p:Nat→Bool) (F:Nat→β) (l:List Nat):(l.findSome? fun k=>if p k then some (F k) else none)=(l.find? p).map F:=by
 induction l with
 | nil=>rfl
 | cons a l ih=>rw [List.findSome?_cons,List.find?_cons]; by_cases h:p a=true <;> simp [h,ih]
def YHH (l:List YAJ) (id:Int):Option Nat:=(List.range l.length).find? fun k=>decide (l[k]!.ID=id)
theorem YHG {l:List YAJ} {id:Int} {k:Nat} (h:YHH l id=some k):k<l.length∧l[k]!.ID=id:=by
 have h1:=List.mem_of_find?_eq_some h
 have h2:=List.find?_some h
 exact ⟨List.mem_range.1 h1,of_decide_eq_true h2⟩
theorem YGm (d:GDoc) (id:Int) (hm:d.Nodes.length≤1048576):YED d id=some (match YHH d.Nodes id with | some k=>(k:Int) | none=>-1):=by
 unfold YED
 rw [YAX (n:=d.Nodes.length) (fun k=>if decide (d.Nodes[k]!.ID=id) then some (k:Int) else none) (fun k hk=>by
  unfold YEX
  rw [if_pos (by simpa using hk),YAF hk,YAA,YAR (by omega)]
  by_cases h:d.Nodes[k]!.ID=id
  ·rw [if_pos (decide_eq_true h),if_pos (decide_eq_true h)]; rfl
  ·rw [if_neg (by simpa using h),if_neg (by simpa using h)]; rfl) (by unfold YEX; rw [if_neg (by simp)]),YEr,YAy]
 unfold YHH
 cases (List.range d.Nodes.length).find? fun k=>decide (d.Nodes[k]!.ID=id) <;> rfl
end Go.Proofs.YtdafahjmopdleaaGreatDoor.Al


namespace Go.Proofs.YtdafahjmopdleaaGreatDoor.Al
def n1D:YAJ:=YAJ.mk 1 0 [] [(YAN.mk 0 2 [])] (YAv.mk 0 0 [] []) []
theorem YC8:YFX n1D=some [2]:=by
 unfold YFX YEb
 have h1:(fun (a:Int × (List Int))=>YA4 n1D.Flow a.1 a.2) (0,[])=some (.inl (1,[2])):=by
  show YA4 [YAN.mk 0 2 []] 0 []=_
  unfold YA4; rfl
 have h2:(fun (a:Int × (List Int))=>YA4 n1D.Flow a.1 a.2) (1,[2])=some (.inr [2]):=by
  show YA4 [YAN.mk 0 2 []] 1 [2]=_
  unfold YA4; rfl
 have h3:(fun (a:Int × (List Int))=>YBi n1D a.1 a.2) (0,[2])=some (.inr [2]):=by
  show YBi n1D 0 [2]=_
  unfold YBi; rfl
 rw [YBT h1,YAk h2,YAA,YAA,YAk h3]; rfl
end Go.Proofs.YtdafahjmopdleaaGreatDoor.Al


namespace Go.Proofs.YtdafahjmopdleaaGreatDoor.Al
theorem YOc {μ:YAJ→Nat} {γ:YAv→Nat} {ψ:YAL→Nat} {ρ:YAQ→Nat} {δ:YAI→Nat} {ν:YAN→Nat} {κ:YAT→Nat}
  (hn : ∀ n,(n.Attrs.map κ).sum+(n.Flow.map ν).sum+γ n.Grid+(n.Draw.map δ).sum+1≤μ n) (hg : ∀ g,(g.Cells.map ψ).sum+(g.Merges.map ρ).sum+1≤γ g)
  (hc : ∀ c,(c.Attrs.map κ).sum+1≤ψ c) (hr : ∀ r,1≤ρ r) (hd : ∀ o,1≤δ o) (he : ∀ e,(e.Attrs.map κ).sum+1≤ν e) (ha : ∀ a,a.Name.length+a.Value.length+1≤κ a)
  {d:GDoc} (hb:(d.Nodes.map μ).sum≤1048576):okDoc d:=by
 have h1:=YEG (μ:=μ) (fun n=>by have:=hn n; omega) d.Nodes
 refine ⟨by omega,fun n hm=>?_⟩
 have h2:=YC1 (μ:=μ) hm
 have h3:=hn n
 have h4:=hg n.Grid
 have h5:=YRA (ν:=ν) (κ:=κ) he ha (f:=n.Flow) (by omega)
 have h6:=YEG (μ:=ψ) (fun c=>by have:=hc c; omega) n.Grid.Cells
 have h7:=YEG (μ:=ρ) hr n.Grid.Merges
 have h8:=YEG (μ:=δ) hd n.Draw
 refine ⟨YK3 ha (by omega),h5.1,h5.2,⟨by omega,by omega,fun c hcm=>YK3 ha ?_⟩,by omega⟩
 have h9:=YC1 (μ:=ψ) hcm
 have:=hc c
 omega
end Go.Proofs.YtdafahjmopdleaaGreatDoor.Al


namespace Go.Proofs.YtdafahjmopdleaaGreatDoor.Al
theorem YFc {n:Nat} (h:n<2147483648):IntKind.i32.wrap (n:Int)=(n:Int):=by
 have e:(n:Int) % (2 ^ (32:Nat):Int)=(n:Int):=Int.emod_eq_of_lt (by omega) (by omega)
 show (if (true && decide ((n:Int) % (2 ^ (32:Nat):Int) ≥ (2 ^ (31:Nat):Int)))=true then (n:Int) % (2 ^ (32:Nat):Int)-(2 ^ (32:Nat):Int) else (n:Int) % (2 ^ (32:Nat):Int))=_
 rw [e,if_neg]
 simp only [Bool.true_and,decide_eq_true_eq]
 omega
theorem YRj {n:Nat} (h:n<9223372036854775808):IntKind.i64.wrap (n:Int)=(n:Int):=by
 have e:(n:Int) % (2 ^ (64:Nat):Int)=(n:Int):=Int.emod_eq_of_lt (by omega) (by omega)
 show (if (true && decide ((n:Int) % (2 ^ (64:Nat):Int) ≥ (2 ^ (63:Nat):Int)))=true then (n:Int) % (2 ^ (64:Nat):Int)-(2 ^ (64:Nat):Int) else (n:Int) % (2 ^ (64:Nat):Int))=_
 rw [e,if_neg]
 simp only [Bool.true_and,decide_eq_true_eq]
 omega
theorem YHi (i a b:Nat) (hb:b<2 ^ i) (hs:a * 2 ^ i+b<2147483648):bOr .i32 ((a * 2 ^ i:Nat):Int) (b:Int)=((a * 2 ^ i+b:Nat):Int):=by
 unfold bOr
 have h1:(BitVec.ofInt 32 ((a * 2 ^ i:Nat):Int) ||| BitVec.ofInt 32 (b:Int)).toNat=a * 2 ^ i+b:=by
  rw [BitVec.toNat_or,BitVec.ofInt_natCast,BitVec.ofInt_natCast,BitVec.toNat_ofNat,BitVec.toNat_ofNat,Nat.mod_eq_of_lt (by omega),Nat.mod_eq_of_lt (by omega)]
  rw [← Nat.shiftLeft_eq,Nat.shiftLeft_add_eq_or_of_lt hb]
 show IntKind.i32.wrap ((BitVec.ofInt 32 ((a * 2 ^ i:Nat):Int) ||| BitVec.ofInt 32 (b:Int)).toNat:Int)=_
 rw [h1]; exact YFc hs
theorem and31 : ∀ b:Fin 256,bAnd .u8 ((b.val:Nat):Int) 31=((b.val % 32:Nat):Int):=by decide +kernel
theorem and15 : ∀ b:Fin 256,bAnd .u8 ((b.val:Nat):Int) 15=((b.val % 16:Nat):Int):=by decide +kernel
theorem and7 : ∀ b:Fin 256,bAnd .u8 ((b.val:Nat):Int) 7=((b.val % 8:Nat):Int):=by decide +kernel
theorem YOv : ∀ b:Fin 256,bAnd .u8 ((b.val:Nat):Int) 63=((b.val % 64:Nat):Int):=by decide +kernel
theorem YHZ (i a:Nat) (hi:i≤32) (hs:a * 2 ^ i<2147483648):shlC .i32 (a:Int) i=((a * 2 ^ i:Nat):Int):=by
 unfold shlC
 show IntKind.i32.wrap ((a:Int) * 2 ^ (min i 32))=_
 rw [Nat.min_eq_left hi,show (a:Int) * 2 ^ i=((a * 2 ^ i:Nat):Int) by push_cast; rfl,YFc hs]
theorem YQH : ∀ c:Fin 256,YCr[c.val]! = (Lib.firstT c.val:Int):=by decide +kernel
theorem YRf : ∀ c:Fin 256,bOr .i32 (YJa .i32 (IntKind.i32.wrap (c.val:Int)) (shrC .i32 (shlC .i32 (IntKind.i32.wrap 241) 31) 31)) (bAnd .i32 65533 (shrC .i32 (shlC .i32 (IntKind.i32.wrap 241) 31) 31))=65533:=by decide +kernel
theorem YSJ : ∀ c:Fin 256,IntKind.i64.wrap (bAnd .u8 (Lib.firstT c.val:Int) 7)=((Lib.firstT c.val % 8:Nat):Int):=by decide +kernel
theorem YRh : ∀ c:Fin 256,idx YG2 (shrC .u8 (Lib.firstT c.val:Int) 4)=some (YAz.mk (Lib.accLo (Lib.firstT c.val / 16)) (Lib.accHi (Lib.firstT c.val / 16))):=by decide +kernel
theorem YNO : ∀ c:Fin 256,128≤c.val→Lib.firstT c.val=241∨(2≤Lib.firstT c.val % 8∧Lib.firstT c.val % 8≤4∧Lib.firstT c.val<240):=by decide +kernel
theorem YS5 (c d:Fin 256):bOr .i32 (shlC .i32 (IntKind.i32.wrap (bAnd .u8 ((c.val:Nat):Int) 31)) 6) (IntKind.i32.wrap (bAnd .u8 ((d.val:Nat):Int) 63))=((c.val % 32 * 64+d.val % 64:Nat):Int):=by
 rw [and31,YOv,YFc (by omega),YFc (by omega),YHZ 6 _ (by omega) (by omega),YHi 6 _ _ (by omega) (by omega)]
theorem YS4 (c d e:Fin 256):bOr .i32 (bOr .i32 (shlC .i32 (IntKind.i32.wrap (bAnd .u8 ((c.val:Nat):Int) 15)) 12) (shlC .i32 (IntKind.i32.wrap (bAnd .u8 ((d.val:Nat):Int) 63)) 6)) (IntKind.i32.wrap (bAnd .u8 ((e.val:Nat):Int) 63)) =
  ((c.val % 16 * 4096+d.val % 64 * 64+e.val % 64:Nat):Int):=by
 rw [and15,YOv,YOv,YFc (by omega),YFc (by omega),YFc (by omega),YHZ 12 _ (by omega) (by omega),YHZ 6 _ (by omega) (by omega),YHi 12 _ _ (by omega) (by omega),
  show c.val % 16 * 2 ^ 12+d.val % 64 * 2 ^ 6=(c.val % 16 * 64+d.val % 64) * 2 ^ 6 by omega,YHi 6 _ _ (by omega) (by omega)]
theorem YS3 (c d e f:Fin 256):bOr .i32 (bOr .i32 (bOr .i32 (shlC .i32 (IntKind.i32.wrap (bAnd .u8 ((c.val:Nat):Int) 7)) 18) (shlC .i32 (IntKind.i32.wrap (bAnd .u8 ((d.val:Nat):Int) 63)) 12)) (shlC .i32 (IntKind.i32.wrap (bAnd .u8 ((e.val:Nat):Int) 63)) 6)) (IntKind.i32.wrap (bAnd .u8 ((f.val:Nat):Int) 63)) =
  ((c.val % 8 * 262144+d.val % 64 * 4096+e.val % 64 * 64+f.val % 64:Nat):Int):=by
 rw [and7,YOv,YOv,YOv,YFc (by omega),YFc (by omega),YFc (by omega),YFc (by omega),YHZ 18 _ (by omega) (by omega),YHZ 12 _ (by omega) (by omega),YHZ 6 _ (by omega) (by omega),YHi 18 _ _ (by omega) (by omega),
  show c.val % 8 * 2 ^ 18+d.val % 64 * 2 ^ 12=(c.val % 8 * 64+d.val % 64) * 2 ^ 12 by omega,YHi 12 _ _ (by omega) (by omega),
  show (c.val % 8 * 64+d.val % 64) * 2 ^ 12+e.val % 64 * 2 ^ 6=((c.val % 8 * 64+d.val % 64) * 64+e.val % 64) * 2 ^ 6 by omega,YHi 6 _ _ (by omega) (by omega)]
theorem YGB (s:List UInt8) (k:Nat) (h:k<s.length):s.getD k 0=s[k]!:=by
 rw [getElem!_pos s k h,List.getD_eq_getElem?_getD,List.getElem?_eq_getElem h]; rfl
theorem YQp (s:List UInt8) (h:s≠[]) (h128:128≤(s.getD 0 0).toNat):YAV s=some (((Lib.decodeL s).1:Int),((Lib.decodeL s).2:Int)):=by
 have h0:0<s.length:=List.length_pos_iff.2 h
 rw [Lib.decodeL_N]
 unfold YAV
 rw [if_neg (by rw [decide_eq_true_eq]; omega),show (0:Int)=((0:Nat):Int) from rfl,YAF h0,YAA]
 rw [YGB s 0 h0] at h128 ⊢
 generalize s[0]! = c at h128 ⊢
 obtain ⟨C,hC⟩ : ∃ C:Fin 256,C.val=c.toNat:=⟨⟨c.toNat,c.toNat_lt⟩,rfl⟩
 rw [← hC] at h128 ⊢
 rw [YAF (l:=YCr) (by rw [YQG]; exact C.isLt),YAA,YQH,YRh,YSJ]
 rcases YNO C h128 with hf | ⟨hf1,hf2,hf3⟩
 ·rw [if_pos (by rw [decide_eq_true_eq]; omega),Lib.bad_eq _ _ _ _ _ C.isLt hf,hf]
  show some (_,(1:Int))=_
  rw [show ((241:Nat):Int)=241 from rfl,YRf C]; rfl
 ·rw [if_neg (by rw [decide_eq_true_eq]; omega),YAA]
  have hsl:=Lib.slow_eq s.length C.val (s.getD 1 0).toNat (s.getD 2 0).toNat (s.getD 3 0).toNat h0 (UInt8.toNat_lt _) (UInt8.toNat_lt _) (UInt8.toNat_lt _) hf3
  rw [← hsl]
  generalize hsz:Lib.firstT C.val % 8=sz at hf1 hf2 ⊢
  generalize Lib.accLo (Lib.firstT C.val / 16)=lo
  generalize Lib.accHi (Lib.firstT C.val / 16)=hi
  unfold Lib.slowN
  by_cases hl:s.length<sz
  ·rw [if_pos (by rw [decide_eq_true_eq]; omega),if_pos hl]; rfl
  rw [if_neg (by rw [decide_eq_true_eq]; omega),if_neg hl,show (1:Int)=((1:Nat):Int) from rfl,YAF (by omega),YAA,YGB s 1 (by omega)]
  generalize s[1]! = d
  obtain ⟨D,hD⟩ : ∃ D:Fin 256,D.val=d.toNat:=⟨⟨d.toNat,d.toNat_lt⟩,rfl⟩
  rw [← hD]
  by_cases c1:D.val<lo∨hi<D.val
  ·rw [if_pos (by simp only [Bool.or_eq_true,decide_eq_true_eq]; omega),if_pos c1]; rfl
  rw [if_neg (by simp only [Bool.or_eq_true,decide_eq_true_eq]; omega),if_neg c1]
  by_cases e2:sz≤2
  ·rw [if_pos (by rw [decide_eq_true_eq]; omega),if_pos e2,YS5]; rfl
  rw [if_neg (by rw [decide_eq_true_eq]; omega),if_neg e2,show (2:Int)=((2:Nat):Int) from rfl,YAF (by omega),YAA,YGB s 2 (by omega)]
  generalize s[2]! = e
  obtain ⟨E,hE⟩ : ∃ E:Fin 256,E.val=e.toNat:=⟨⟨e.toNat,e.toNat_lt⟩,rfl⟩
  rw [← hE]
  by_cases c2:E.val<128∨191<E.val
  ·rw [if_pos (by simp only [Bool.or_eq_true,decide_eq_true_eq]; omega),if_pos c2]; rfl
  rw [if_neg (by simp only [Bool.or_eq_true,decide_eq_true_eq]; omega),if_neg c2]
  by_cases e3:sz≤3
  ·rw [if_pos (by rw [decide_eq_true_eq]; omega),if_pos e3,YS4]; rfl
  rw [if_neg (by rw [decide_eq_true_eq]; omega),if_neg e3,show (3:Int)=((3:Nat):Int) from rfl,YAF (by omega),YAA,YGB s 3 (by omega)]
  generalize s[3]! = f
  obtain ⟨F,hF⟩ : ∃ F:Fin 256,F.val=f.toNat:=⟨⟨f.toNat,f.toNat_lt⟩,rfl⟩
  rw [← hF]
  by_cases c3:F.val<128∨191<F.val
  ·rw [if_pos (by simp only [Bool.or_eq_true,decide_eq_true_eq]; omega),if_pos c3]; rfl
  rw [if_neg (by simp only [Bool.or_eq_true,decide_eq_true_eq]; omega),if_neg c3,YS3]; rfl
theorem YOo (s:List UInt8) (h:s≠[]):YAd s=some (((Lib.decodeL s).1:Int),((Lib.decodeL s).2:Int)):=by
 have h0:0<s.length:=List.length_pos_iff.2 h
 unfold YAd
 rw [decide_eq_false h,show ((!false) == true)=true from rfl,YAG,show (0:Int)=((0:Nat):Int) from rfl,YAF h0,YAA,Bool.not_false,Bool.true_and]
 by_cases hc:(s[0]!).toNat<128
 ·rw [if_pos (by rw [decide_eq_true_eq]; omega),YAA,YFc (by omega)]
  obtain ⟨c,t,rfl⟩:=List.exists_cons_of_ne_nil h
  have hc':c.toNat<128:=hc
  rw [Lib.decodeL_ascii c t hc']; rfl
 ·rw [if_neg (by rw [decide_eq_true_eq]; omega),YQp s h (by rw [YGB s 0 h0]; omega),YAt]
def badR (r:Nat):Bool:=decide (r=10) || !YGG (r:Int)
def YJt:Nat→List UInt8→Bool
 | 0,_=>true
 | n+1,s=>if s=[] then true else if ((Lib.decodeL s).1=65533∧(Lib.decodeL s).2=1)∨badR (Lib.decodeL s).1=true then false else YJt n (s.drop (Lib.decodeL s).2)
theorem YPC (n:Nat) (s:List UInt8):YJt (n+1) s=if s=[] then true else if ((Lib.decodeL s).1=65533∧(Lib.decodeL s).2=1)∨badR (Lib.decodeL s).1=true then false else YJt n (s.drop (Lib.decodeL s).2):=rfl
def YPV:Nat→List UInt8→Bool
 | 0,_=>true
 | n+1,s=>if s=[] then true else if badR (Lib.decodeL s).1=true then false else YPV n (s.drop (Lib.decodeL s).2)
theorem YPU (n:Nat) (s:List UInt8):YPV (n+1) s=if s=[] then true else if badR (Lib.decodeL s).1=true then false else YPV n (s.drop (Lib.decodeL s).2):=rfl
theorem YPB : ∀ (n:Nat) (s:List UInt8),s.length≤n→(Lib.validD s && YPV n s)=YJt n s:=by
 intro n
 induction n with
 | zero=>intro s hs; obtain rfl:=List.eq_nil_of_length_eq_zero (Nat.le_zero.1 hs); rfl
 | succ n ih=>
  intro s hs
  rw [YPC,YPU]
  by_cases hn:s=[]
  ·subst hn; rfl
  ·have hw:=Lib.decodeL_width s
   have hl:=List.length_pos_iff.2 hn
   rw [if_neg hn,if_neg hn,Lib.validD_step s hn]
   by_cases hv:(Lib.decodeL s).1=65533∧(Lib.decodeL s).2=1
   ·rw [if_pos hv,if_pos (show ((Lib.decodeL s).1=65533∧(Lib.decodeL s).2=1)∨badR (Lib.decodeL s).1=true from .inl hv)]; rfl
   ·rw [if_neg hv]
    by_cases hb:badR (Lib.decodeL s).1=true
    ·rw [if_pos hb,if_pos (.inr hb),Bool.and_false]
    ·rw [if_neg hb,if_neg (by rintro (h | h); exact hv h; exact hb h)]
     exact ih _ (by rw [List.length_drop]; omega)
theorem YJX (r:Nat) (h:r≤1114111):IntKind.i64.wrap (r:Int)=(r:Int):=YRj (by omega)
theorem YMC (s:List UInt8):YGA s=some (YJt s.length s):=by
 unfold YGA
 have key : ∀ (n:Nat) (s:List UInt8),s.length≤n→(ctl1 (iter (fun (a:(List UInt8))=>YAw a) s) fun (_:Unit)=>some true)=some (YJt n s):=by
  intro n
  induction n with
  | zero=>
   intro s hs
   obtain rfl:=List.eq_nil_of_length_eq_zero (Nat.le_zero.1 hs)
   have h1:(fun (a:(List UInt8))=>YAw a) []=some (.inr (.nrm ())):=by
    show YAw []=_
    unfold YAw; rfl
   rw [YAk h1]; rfl
  | succ n ih=>
   intro s hs
   rw [YPC]
   by_cases hn:s=[]
   ·subst hn
    have h1:(fun (a:(List UInt8))=>YAw a) []=some (.inr (.nrm ())):=by
     show YAw []=_
     unfold YAw; rfl
    rw [YAk h1]; rfl
   ·have hw:=Lib.decodeL_width s
    have hle:=Lib.decodeL_le s hn
    have hr:=Lib.decodeL_rune s
    have hstep:YAw s=if ((Lib.decodeL s).1=65533∧(Lib.decodeL s).2=1)∨badR (Lib.decodeL s).1=true then some (.inr (.ext false)) else some (.inl (s.drop (Lib.decodeL s).2)):=by
     unfold YAw badR
     rw [if_pos (ndT hn),YOo s hn,YAt,YJX _ hr,YHy]
     generalize (Lib.decodeL s).1=r at *
     generalize (Lib.decodeL s).2=w at *
     by_cases h1:r=65533∧w=1
     ·obtain ⟨rfl,rfl⟩:=h1
      rw [if_pos (.inl ⟨rfl,rfl⟩)]; rfl
     ·have e1:((decide ((r:Int)=65533)) && (decide ((w:Int)=1)))=false:=by
       rw [← Bool.not_eq_true,Bool.and_eq_true,decide_eq_true_eq,decide_eq_true_eq]; omega
      by_cases h2:r=10
      ·subst h2
       rw [if_pos (.inr (by rfl)),e1]; rfl
      ·have e2:(decide ((r:Int)=10))=false:=decide_eq_false (by omega)
       rw [e1,e2,decide_eq_false h2]
       show (bnd1 (gd true (some (YGG (r:Int)))) fun (r3:Bool)=>_)=_
       rw [YAG,YAA,YPQ s w hle,YAA]
       cases YGG (r:Int)
       ·rw [if_pos (show (r=65533∧w=1)∨(false || !false)=true from .inr rfl)]; rfl
       ·rw [if_neg (show ¬ ((r=65533∧w=1)∨(false || !true)=true) by rintro (h | h); exact h1 h; exact absurd h (by decide))]; rfl
    by_cases hb:((Lib.decodeL s).1=65533∧(Lib.decodeL s).2=1)∨badR (Lib.decodeL s).1=true
    ·rw [if_pos hb] at hstep
     rw [YAk (f:=fun (a:(List UInt8))=>YAw a) hstep,if_neg hn,if_pos hb]; rfl
    ·rw [if_neg hb] at hstep
     rw [YBT (f:=fun (a:(List UInt8))=>YAw a) hstep,if_neg hn,if_neg hb]
     exact ih _ (by rw [List.length_drop]; omega)
 exact key s.length s (Nat.le_refl _)
theorem YPW (s:List UInt8) (p:Nat):YEp s p=Lib.decodeL (s.drop p):=(Lib.decodeL_drop ⟨s.toArray⟩ p).symm
theorem YJK (s:List UInt8) (hs:s.length≤9223372036854775807):YD0 s=some (YJt s.length s):=by
 unfold YD0 YBH YNc
 rw [if_pos hs,YAA,← YPB s.length s (Nat.le_refl _)]
 cases Lib.validD s with
 | false=>rfl
 | true=>
  rw [if_neg (by decide),Bool.true_and]
  have key : ∀ (n p:Nat),s.length-p≤n→(ctl1 (iter (fun (a:(Nat))=>YAb s a) p) fun (_:Unit)=>some true)=some (YPV n (s.drop p)):=by
   intro n
   induction n with
   | zero=>
    intro p hp
    have h1:(fun (a:(Nat))=>YAb s a) p=some (.inr (.nrm ())):=by
     show YAb s p=_
     unfold YAb; rw [if_neg (by rw [decide_eq_true_eq]; omega)]
    rw [YAk h1]; rfl
   | succ n ih=>
    intro p hp
    rw [YPU]
    by_cases hn:s.length≤p
    ·have h1:(fun (a:(Nat))=>YAb s a) p=some (.inr (.nrm ())):=by
      show YAb s p=_
      unfold YAb; rw [if_neg (by rw [decide_eq_true_eq]; omega)]
     rw [YAk h1,if_pos (List.drop_eq_nil_of_le hn)]; rfl
    ·have hne:s.drop p≠[]:=by
      intro e
      have:=congrArg List.length e
      rw [List.length_drop,List.length_nil] at this
      omega
     have hw:=Lib.decodeL_width (s.drop p)
     have hr:=Lib.decodeL_rune (s.drop p)
     have hstep:YAb s p=if badR (Lib.decodeL (s.drop p)).1=true then some (.inr (.ext false)) else some (.inl (p+(Lib.decodeL (s.drop p)).2)):=by
      unfold YAb badR
      rw [if_pos (by rw [decide_eq_true_eq]; omega),YPW,YJX _ hr,YJJ]
      generalize (Lib.decodeL (s.drop p)).1=r at *
      generalize (Lib.decodeL (s.drop p)).2=w at *
      by_cases h2:r=10
      ·subst h2; rfl
      ·rw [decide_eq_false h2,decide_eq_false (show ¬ ((r:Int)=10) by omega)]
       show (bnd1 (gd true (some (YGG (r:Int)))) fun (r3:Bool)=>_)=_
       rw [YAG,YAA]
     rw [if_neg hne]
     by_cases hb:badR (Lib.decodeL (s.drop p)).1=true
     ·rw [if_pos hb] at hstep
      rw [YAk (f:=fun (a:(Nat))=>YAb s a) hstep,if_pos hb]; rfl
     ·rw [if_neg hb] at hstep
      rw [YBT (f:=fun (a:(Nat))=>YAb s a) hstep,if_neg hb,List.drop_drop]
      exact ih _ (by omega)
  have:=key s.length 0 (by omega)
  rw [List.drop_zero] at this
  exact this
end Go.Proofs.YtdafahjmopdleaaGreatDoor.Al


namespace Go.Proofs.YtdafahjmopdleaaGreatDoor.Al
theorem YJT {ρ:Type} {f g:Int→Option (Int ⊕ Ctl Unit ρ)} {n:Nat} (I:Nat→Prop) (h0:I 0) (h : ∀ k:Nat,k<n→I k → ∃ o:Option ρ,f k=YBR k o∧g k=YBR k o∧(o=none→I (k+1)))
  (hf:f n=some (.inr (.nrm ()))) (hg:g n=some (.inr (.nrm ()))) : ∃ o:Option ρ,iter f 0=some (YGU o)∧iter g 0=some (YGU o)∧(o=none→I n):=by
 have key : ∀ m k:Nat,k+m=n→I k → ∃ o:Option ρ,iter f (k:Int)=some (YGU o)∧iter g (k:Int)=some (YGU o)∧(o=none→I n):=by
  intro m
  induction m with
  | zero=>
   intro k hk hi
   obtain rfl:k=n:=by omega
   exact ⟨none,YAk hf,YAk hg,fun _=>hi⟩
  | succ m ih=>
   intro k hk hi
   obtain ⟨o,h1,h2,h3⟩:=h k (by omega) hi
   cases o with
   | some r=>exact ⟨some r,YAk h1,YAk h2,fun e=>by cases e⟩
   | none=>
    obtain ⟨o,e1,e2,e3⟩:=ih (k+1) (by omega) (h3 rfl)
    exact ⟨o,(YBT h1).trans e1,(YBT h2).trans e2,e3⟩
 exact key n 0 (by omega) h0
theorem YOD (x y:Int):YBF x y=some (if x<y then -1 else if y<x then 1 else 0):=by
 unfold YBF YDY
 rw [decide_eq_true (rfl:x=x),decide_eq_true (rfl:y=y),YAA,YAA,if_neg (by decide),if_neg (by decide)]
 by_cases h1:x<y
 ·rw [if_pos (decide_eq_true h1),if_pos h1]
 ·rw [if_neg (by simpa using h1),if_neg h1]
  by_cases h2:y<x
  ·rw [if_pos (decide_eq_true h2),if_pos h2]
  ·rw [if_neg (by simpa using h2),if_neg h2]
theorem YMQ (a b:Int):YEI [a,b]=some (if a≠0 then a else b):=by
 unfold YEI
 by_cases ha:a≠0
 ·have h1:(fun (x:Int)=>YAW [a,b] x) 0=some (.inr (.ext a)):=by
   show YAW [a,b] 0=_
   unfold YAW
   rw [if_pos (by simp),show idx [a,b] 0=some a from rfl,YAA,if_pos (ndT ha)]
  rw [YAk h1,if_pos ha]; rfl
 ·have ha':a=0:=Classical.not_not.1 ha
  have h1:(fun (x:Int)=>YAW [a,b] x) 0=some (.inl 1):=by
   show YAW [a,b] 0=_
   unfold YAW
   rw [if_pos (by simp),show idx [a,b] 0=some a from rfl,YAA,if_neg (ndF ha')]; rfl
  by_cases hb:b≠0
  ·have h2:(fun (x:Int)=>YAW [a,b] x) 1=some (.inr (.ext b)):=by
    show YAW [a,b] 1=_
    unfold YAW
    rw [if_pos (by simp),show idx [a,b] 1=some b from rfl,YAA,if_pos (ndT hb)]
   rw [YBT h1,YAk h2,if_neg ha]; rfl
  ·have hb':b=0:=Classical.not_not.1 hb
   have h2:(fun (x:Int)=>YAW [a,b] x) 1=some (.inl 2):=by
    show YAW [a,b] 1=_
    unfold YAW
    rw [if_pos (by simp),show idx [a,b] 1=some b from rfl,YAA,if_neg (ndF hb')]; rfl
   have h3:(fun (x:Int)=>YAW [a,b] x) 2=some (.inr (.nrm ())):=by
    show YAW [a,b] 2=_
    unfold YAW
    rw [if_neg (by simp)]
   rw [YBT h1,YBT h2,YAk h3,if_neg ha,hb']; rfl
def ord2 (a b c d:Int):Int:=if a<b then -1 else if b<a then 1 else if c<d then -1 else if d<c then 1 else 0
theorem or2 (a b c d:Int):(if (if a<b then -1 else if b<a then 1 else 0)≠(0:Int) then (if a<b then -1 else if b<a then 1 else 0) else if c<d then -1 else if d<c then 1 else (0:Int))=ord2 a b c d:=by
 unfold ord2
 by_cases h1:a<b
 ·simp [h1]
 ·by_cases h2:b<a
  ·simp [h1,h2]
  ·simp [h1,h2]
theorem YK2 (a b c d:Int):0≤ord2 a b c d↔(b<a∨(b=a∧d≤c)):=by
 unfold ord2
 split
 ·constructor <;> intro h <;> omega
 ·split
  ·constructor <;> intro h <;> omega
  ·split
   ·constructor <;> intro h <;> omega
   ·split
    ·constructor <;> intro h <;> omega
    ·constructor <;> intro h <;> omega
theorem YK7 (a b:YAL):YEH a b=some (ord2 a.Row b.Row a.Col b.Col):=by
 unfold YEH
 rw [YOD,YOD,YAA,YAA,YMQ,YAA,or2]
theorem YAp (x a b:Int):YBj x a b=some (decide (a≤x∧x≤b)):=by
 rw [YF6]
 congr 1
 rw [Bool.eq_iff_iff]; simp
def inC (rows cols:Int) (c:YAL):Prop:=0≤c.Row∧c.Row<rows∧0≤c.Col∧c.Col<cols∧0≤c.Ref∧c.Ref≤1073741824
instance (rows cols:Int) (c:YAL):Decidable (inC rows cols c):=by unfold inC; infer_instance
def YH2 (c:YAL):Bool:=decide (c.Text=[]) && decide (c.Ref=0) && decide (c.Attrs=[])
def YRe (rows cols:Int) (none_:Bool) (c:YAL):Int:=
 if ¬ inC rows cols c then 2 else if YJt c.Text.length c.Text=false then 23 else if YFb c.Attrs false≠0 then YFb c.Attrs false else if (!none_ && YH2 c)=true then 4 else 0
def errC (rows cols:Int) (none_:Bool) (l:List YAL) (k:Nat):Option Int:=
 if YRe rows cols none_ l[k]! ≠ 0 then some (YRe rows cols none_ l[k]!) else if 0<k∧0≤ord2 l[k-1]!.Row l[k]!.Row l[k-1]!.Col l[k]!.Col then some 5 else none
def YGR (rows cols:Int) (none_:Bool) (l:List YAL):Int:=((List.range l.length).findSome? (errC rows cols none_ l)).getD 0
theorem YMA (l:List YAT):decide ((l.length:Int)=0)=decide (l=[]):=by
 rw [Bool.eq_iff_iff,decide_eq_true_eq,decide_eq_true_eq,← List.length_eq_zero_iff]; omega
def okC (c:YAL):Prop:=okA c.Attrs∧c.Text.length≤1073741824
theorem YOM (l:List YAL) (k:Nat) (hk:k<l.length) (hm:l.length≤9223372036854775806) :
  (bnd1 (gd ((decide (0<(k:Int))) == true) (chk .i64 ((k:Int)-1))) fun (x5:Int)=>
   bnd1 (gd ((decide (0<(k:Int))) == true) (idx l x5)) fun (x6:YAL)=>
   bnd1 (gd ((decide (0<(k:Int))) == true) (YEH x6 l[k]!)) fun (r3:Int)=>
   if ((decide (0<(k:Int))) && (decide (0≤r3))) then (some (.inr (.ext 5)):Option (Int ⊕ (Ctl Unit Int))) else (
    bnd1 (chk .i64 ((k:Int)+1)) fun (x7:Int)=>some (.inl x7)))=YBR k (if 0<k∧0≤ord2 l[k-1]!.Row l[k]!.Row l[k-1]!.Col l[k]!.Col then some 5 else none):=by
 by_cases h0:0<k
 ·rw [decide_eq_true (show (0:Int)<k by omega),show ((true == true):Bool)=true from rfl,YAG,YCL h0 (by omega),YAA,YAG,YAF (by omega),YAA,YAG,YK7,YAA]
  by_cases h1:0≤ord2 l[k-1]!.Row l[k]!.Row l[k-1]!.Col l[k]!.Col
  ·rw [if_pos (show (true && decide (0≤ord2 l[k-1]!.Row l[k]!.Row l[k-1]!.Col l[k]!.Col))=true by rw [decide_eq_true h1]; rfl),if_pos ⟨h0,h1⟩]; rfl
  ·rw [if_neg (show ¬ (true && decide (0≤ord2 l[k-1]!.Row l[k]!.Row l[k-1]!.Col l[k]!.Col))=true by rw [decide_eq_false h1]; decide),if_neg (fun h=>h1 h.2),YAR (by omega)]; rfl
 ·obtain rfl:k=0:=by omega
  rw [if_neg (show ¬ (0<0∧_) from fun h=>absurd h.1 (by decide))]; rfl
theorem YK8 (rows cols:Int) (nn:Bool) (l:List YAL) (hm:l.length≤1073741824) (hl : ∀ c∈l,okC c):YFC l rows cols nn=some (YGR rows cols nn l):=by
 unfold YFC
 rw [YAX (n:=l.length) (errC rows cols nn l) (fun k hk=>by
  obtain ⟨ha,ht⟩:=hl _ (YDR hk)
  have hto:=YOM l k hk (by omega)
  unfold YDS errC YRe
  rw [if_pos (by simpa using hk),YAF hk,YAA]
  by_cases h1:inC rows cols l[k]!
  ·have h1':=h1
   unfold inC at h1'
   rw [if_neg (by simp only [Bool.or_eq_true,decide_eq_true_eq]; omega),if_neg (by simp only [Bool.or_eq_true,decide_eq_true_eq]; omega),YMC,YAA,YFa _ ha.2 (by have:=ha.1; omega),YAA,hto]
   rw [if_neg (Classical.not_not.2 h1)]
   cases htx:YJt l[k]!.Text.length l[k]!.Text with
   | false=>rfl
   | true=>
    rw [if_neg (show ¬ ((!true)=true) by decide),if_neg (show ¬ (true=false) by decide)]
    by_cases h3:YFb l[k]!.Attrs false=0
    ·rw [if_neg (ndF h3),if_neg (Classical.not_not.2 h3)]
     have he:YFB l[k]! = some (YH2 l[k]!):=by unfold YFB YH2; rw [YMA]
     rw [he,YAA]
     by_cases h4:(!nn && YH2 l[k]!)=true
     ·rw [if_pos (by rw [Bool.and_comm]; exact h4),if_pos h4]; rfl
     ·rw [if_neg (by rw [Bool.and_comm]; exact h4),if_neg h4,if_neg (show ¬ ((0:Int)≠0) from fun h=>h rfl)]
    ·rw [if_pos (ndT h3),if_pos h3,if_pos h3]; rfl
  ·rw [if_pos h1]
   unfold inC at h1
   by_cases h2:((((decide (l[k]!.Row<0)) || (decide (rows≤l[k]!.Row))) || (decide (l[k]!.Col<0))) || (decide (cols≤l[k]!.Col)))=true
   ·rw [if_pos h2]; rfl
   ·rw [if_neg h2,if_pos (by simp only [Bool.or_eq_true,decide_eq_true_eq] at h2 ⊢; omega)]; rfl) (by unfold YDS; rw [if_neg (by simp)]),YCK]
 rfl
theorem YJv (l:List YAL) (k:Nat) (hk:k<l.length) (hm:l.length≤9223372036854775806) :
  (bnd1 (gd ((decide (0<(k:Int))) == true) (chk .i64 ((k:Int)-1))) fun (x7:Int)=>
      bnd1 (gd ((decide (0<(k:Int))) == true) (idx l x7)) fun (x8:YAL)=>
      bnd1 (gd ((((decide (0<(k:Int))) == true) && ((decide (l[k]!.Row<x8.Row)) == false)) && ((decide (l[k]!.Row=x8.Row)) == true)) (chk .i64 ((k:Int)-1))) fun (x9:Int)=>
      bnd1 (gd ((((decide (0<(k:Int))) == true) && ((decide (l[k]!.Row<x8.Row)) == false)) && ((decide (l[k]!.Row=x8.Row)) == true)) (idx l x9)) fun (x10:YAL)=>
      if ((decide (0<(k:Int))) && ((decide (l[k]!.Row<x8.Row)) || ((decide (l[k]!.Row=x8.Row)) && (decide (l[k]!.Col≤x10.Col))))) then (some (.inr (.ext 5)):Option (Int ⊕ (Ctl Unit Int))) else (
       bnd1 (chk .i64 ((k:Int)+1)) fun (x11:Int)=>some (.inl x11)))=YBR k (if 0<k∧0≤ord2 l[k-1]!.Row l[k]!.Row l[k-1]!.Col l[k]!.Col then some 5 else none):=by
 have ho:=YK2 l[k-1]!.Row l[k]!.Row l[k-1]!.Col l[k]!.Col
 by_cases h0:0<k
 ·rw [decide_eq_true (show (0:Int)<k by omega),show ((true == true):Bool)=true from rfl,YAG,YCL h0 (by omega),YAA,YAG,YAF (show k-1<l.length by omega),YAA]
  by_cases h1:l[k]!.Row<l[k-1]!.Row
  ·rw [decide_eq_true h1,if_pos (show 0<k∧0≤ord2 l[k-1]!.Row l[k]!.Row l[k-1]!.Col l[k]!.Col from ⟨h0,ho.2 (.inl h1)⟩)]; rfl
  ·by_cases h2:l[k]!.Row=l[k-1]!.Row
   ·rw [decide_eq_false h1,decide_eq_true h2,show (((true && (false == false)) && (true == true)):Bool)=true from rfl,YAG,YAA,YAG,YAF (show k-1<l.length by omega),YAA]
    by_cases h3:l[k]!.Col≤l[k-1]!.Col
    ·rw [decide_eq_true h3,if_pos (show 0<k∧0≤ord2 l[k-1]!.Row l[k]!.Row l[k-1]!.Col l[k]!.Col from ⟨h0,ho.2 (.inr ⟨h2,h3⟩)⟩)]; rfl
    ·rw [decide_eq_false h3,if_neg (show ¬ (0<k∧0≤ord2 l[k-1]!.Row l[k]!.Row l[k-1]!.Col l[k]!.Col) from fun h=>by have:=ho.1 h.2; omega),YAR (by omega)]; rfl
   ·rw [decide_eq_false h1,decide_eq_false h2,if_neg (show ¬ (0<k∧0≤ord2 l[k-1]!.Row l[k]!.Row l[k-1]!.Col l[k]!.Col) from fun h=>by have:=ho.1 h.2; omega),YAR (by omega)]; rfl
 ·obtain rfl:k=0:=by omega
  rw [if_neg (show ¬ (0<0∧_) from fun h=>absurd h.1 (by decide))]; rfl
theorem YHa (rows cols:Int) (nn:Bool) (l:List YAL) (hm:l.length≤1073741824) (hl : ∀ c∈l,okC c) (hr:0≤rows∧rows≤2147483647) (hcc:0≤cols∧cols≤2147483647):YCm l rows cols nn=some (YGR rows cols nn l):=by
 unfold YCm
 rw [YAX (n:=l.length) (errC rows cols nn l) (fun k hk=>by
  obtain ⟨ha,ht⟩:=hl _ (YDR hk)
  have hto:=YJv l k hk (by omega)
  unfold YBq errC YRe
  rw [if_pos (by simpa using hk),YAF hk,YAA,YEh (by omega) (by omega),YAA,YAp,YAA,YAp,hto]
  by_cases h1:inC rows cols l[k]!
  ·have h1':=h1
   unfold inC at h1'
   rw [if_neg (Classical.not_not.2 h1),decide_eq_true (show 0≤l[k]!.Row∧l[k]!.Row≤rows-1 by omega),show ((!true) == false)=true from rfl,YAG,YEh (by omega) (by omega),YAA,YAG,YAp,YAA,decide_eq_true (show 0≤l[k]!.Col∧l[k]!.Col≤cols-1 by omega),
    show (((!true) || (!true)) == false)=true from rfl,YAG,YAA,decide_eq_true (show 0≤l[k]!.Ref∧l[k]!.Ref≤1073741824 by omega),if_neg (by decide),YJK _ (by omega),YAA,YDk _ _ ha.2 (by have:=ha.1; omega),YAA]
   cases htx:YJt l[k]!.Text.length l[k]!.Text with
   | false=>rfl
   | true=>
    rw [if_neg (show ¬ ((!true)=true) by decide),if_neg (show ¬ (true=false) by decide)]
    by_cases h3:YFb l[k]!.Attrs false=0
    ·rw [if_neg (ndF h3),if_neg (Classical.not_not.2 h3)]
     have he:YDL l[k]! = some (YH2 l[k]!):=by unfold YDL YH2; rw [YMA]
     rw [he]
     cases nn with
     | true=>rfl
     | false=>
      show (bnd1 (gd true (some (YH2 l[k]!))) fun (r5:Bool)=>_)=_
      rw [YAG,YAA]
      cases YH2 l[k]! <;> rfl
    ·rw [if_pos (ndT h3),if_pos h3,if_pos h3]; rfl
  ·rw [if_pos h1]
   unfold inC at h1
   by_cases e1:0≤l[k]!.Row∧l[k]!.Row≤rows-1
   ·rw [decide_eq_true e1,show ((!true) == false)=true from rfl,YAG,YEh (by omega) (by omega),YAA,YAG,YAp,YAA]
    by_cases e2:0≤l[k]!.Col∧l[k]!.Col≤cols-1
    ·rw [decide_eq_true e2,show (((!true) || (!true)) == false)=true from rfl,YAG,YAA,decide_eq_false (show ¬ (0≤l[k]!.Ref∧l[k]!.Ref≤1073741824) by omega)]; rfl
    ·rw [decide_eq_false e2]; rfl
   ·rw [decide_eq_false e1]; rfl) (by unfold YBq; rw [if_neg (by simp)]),YCK]
 rfl
end Go.Proofs.YtdafahjmopdleaaGreatDoor.Al


namespace Go.Proofs.YtdafahjmopdleaaGreatDoor.Al
theorem YKN {ρ:Type} {f:Int→Option (Int ⊕ Ctl Unit ρ)} {n:Nat} (g:Nat→Option ρ) (h1 : ∀ k:Nat,k<n→(∀ j,j<k→g j=none)→f k=YBR k (g k))
  (h2:f n=some (.inr (.nrm ()))):iter f 0=some (YGU ((List.range n).findSome? g)):=by
 have key : ∀ m k:Nat,k+m=n→(∀ j,j<k→g j=none)→iter f (k:Int)=some (YGU ((List.range' k m).findSome? g)):=by
  intro m
  induction m with
  | zero=>
   intro k hk _
   obtain rfl:k=n:=by omega
   rw [YAk h2]; rfl
  | succ m ih=>
   intro k hk hj
   have hs:=h1 k (by omega) hj
   rw [List.range'_succ,List.findSome?_cons]
   cases hg:g k with
   | some r=>rw [hg] at hs; rw [YAk hs]; rfl
   | none=>
    rw [hg] at hs
    rw [YBT hs]
    exact ih (k+1) (by omega) (fun j hj'=>by
     by_cases e:j=k
     ·rw [e]; exact hg
     ·exact hj j (by omega))
 have:=key n 0 (by omega) (fun j hj=>absurd hj (Nat.not_lt_zero _))
 rw [List.range_eq_range']
 exact this
def insR (rows cols:Int) (r:YAQ):Prop:=0≤r.Row∧r.Row<rows∧0≤r.Col∧r.Col<cols∧1≤r.H∧r.H≤rows-r.Row∧1≤r.W∧r.W≤cols-r.Col
instance (rows cols:Int) (r:YAQ):Decidable (insR rows cols r):=by unfold insR; infer_instance
def mtR (a b:YAQ):Bool:=decide (a.Row<b.Row+b.H∧b.Row<a.Row+a.H∧a.Col<b.Col+b.W∧b.Col<a.Col+a.W)
def okRC (rows cols:Int):Prop:=0≤rows∧rows≤2147483647∧0≤cols∧cols≤2147483647
instance (rows cols:Int):Decidable (okRC rows cols):=by unfold okRC; infer_instance
theorem YP5 (r:YAQ) (rows cols:Int) (h:okRC rows cols):YEZ r rows cols=some (decide (insR rows cols r)):=by
 obtain ⟨h1,h2,h3,h4⟩:=h
 unfold YEZ
 by_cases c1:0≤r.Row∧0≤r.Col∧1≤r.H∧1≤r.W∧r.Row<rows∧r.Col<cols
 ·obtain ⟨a1,a2,a3,a4,a5,a6⟩:=c1
  rw [decide_eq_true a1,decide_eq_true a2,decide_eq_true a3,decide_eq_true a4,decide_eq_true a5,decide_eq_true a6,show ((((((true && true) && true) && true) && true) && true) == true)=true from rfl,YAG,YEh (by omega) (by omega),YAA]
  by_cases c2:r.H≤rows-r.Row
  ·rw [decide_eq_true c2,show (((((((true && true) && true) && true) && true) && true) && true) == true)=true from rfl,YAG,YEh (by omega) (by omega),YAA]
   by_cases c3:r.W≤cols-r.Col
   ·rw [decide_eq_true c3,decide_eq_true (show insR rows cols r from ⟨a1,a5,a2,a6,a3,c2,a4,c3⟩)]; rfl
   ·rw [decide_eq_false c3,decide_eq_false (show ¬ insR rows cols r from fun h=>c3 h.2.2.2.2.2.2.2)]; rfl
  ·rw [decide_eq_false c2,decide_eq_false (show ¬ insR rows cols r from fun h=>c2 h.2.2.2.2.2.1)]; rfl
 ·have hf:((((((decide (0≤r.Row)) && (decide (0≤r.Col))) && (decide (1≤r.H))) && (decide (1≤r.W))) && (decide (r.Row<rows))) && (decide (r.Col<cols)))=false:=by
   rw [← Bool.not_eq_true]
   simp only [Bool.and_eq_true,decide_eq_true_eq]
   intro h; exact c1 (by omega)
  rw [hf,decide_eq_false (show ¬ insR rows cols r from fun h=>c1 ⟨h.1,h.2.2.1,h.2.2.2.2.1,h.2.2.2.2.2.2.1,h.2.1,h.2.2.2.1⟩)]; rfl
theorem YSm (r:YAQ) (rows cols:Int) (h:okRC rows cols):YG7 r rows cols=some (decide (insR rows cols r)):=by
 obtain ⟨h1,h2,h3,h4⟩:=h
 unfold YG7
 rw [YEh (by omega) (by omega),YAA,YAp,YAA]
 by_cases a1:0≤r.Row∧r.Row≤rows-1
 ·rw [decide_eq_true a1,show ((true == true):Bool)=true from rfl,YAG,YEh (by omega) (by omega),YAA,YAG,YAp,YAA]
  by_cases a2:0≤r.Col∧r.Col≤cols-1
  ·rw [decide_eq_true a2,show ((true && true) == true)=true from rfl,YAG,YEh (by omega) (by omega),YAA,YAG,YAp,YAA]
   by_cases a3:1≤r.H∧r.H≤rows-r.Row
   ·rw [decide_eq_true a3,show (((true && true) && true) == true)=true from rfl,YAG,YEh (by omega) (by omega),YAA,YAG,YAp,YAA]
    by_cases a4:1≤r.W∧r.W≤cols-r.Col
    ·rw [decide_eq_true a4,decide_eq_true (show insR rows cols r from ⟨a1.1,by omega,a2.1,by omega,a3.1,a3.2,a4.1,a4.2⟩)]; rfl
    ·rw [decide_eq_false a4,decide_eq_false (show ¬ insR rows cols r from fun h=>a4 ⟨h.2.2.2.2.2.2.1,h.2.2.2.2.2.2.2⟩)]; rfl
   ·rw [decide_eq_false a3,decide_eq_false (show ¬ insR rows cols r from fun h=>a3 ⟨h.2.2.2.2.1,h.2.2.2.2.2.1⟩)]; rfl
  ·rw [decide_eq_false a2,decide_eq_false (show ¬ insR rows cols r from fun h=>a2 ⟨h.2.2.1,by have:=h.2.2.2.1; omega⟩)]; rfl
 ·rw [decide_eq_false a1,decide_eq_false (show ¬ insR rows cols r from fun h=>a1 ⟨h.1,by have:=h.2.1; omega⟩)]; rfl
theorem YRG {rows cols:Int} (h:okRC rows cols) {a b:YAQ} (ha:insR rows cols a) (hb:insR rows cols b):YFA a b=some (mtR a b):=by
 obtain ⟨h1,h2,h3,h4⟩:=h
 obtain ⟨a1,a2,a3,a4,a5,a6,a7,a8⟩:=ha
 obtain ⟨b1,b2,b3,b4,b5,b6,b7,b8⟩:=hb
 unfold YFA mtR
 rw [YEh (by omega) (by omega),YAA]
 by_cases c1:a.Row<b.Row+b.H
 ·rw [decide_eq_true c1,show ((true == true):Bool)=true from rfl,YAG,YEh (by omega) (by omega),YAA]
  by_cases c2:b.Row<a.Row+a.H
  ·rw [decide_eq_true c2,show ((true && true) == true)=true from rfl,YAG,YEh (by omega) (by omega),YAA]
   by_cases c3:a.Col<b.Col+b.W
   ·rw [decide_eq_true c3,show (((true && true) && true) == true)=true from rfl,YAG,YEh (by omega) (by omega),YAA]
    by_cases c4:b.Col<a.Col+a.W
    ·rw [decide_eq_true c4,decide_eq_true (show _∧_∧_∧_ from ⟨c1,c2,c3,c4⟩)]; rfl
    ·rw [decide_eq_false c4,decide_eq_false (show ¬ (a.Row<b.Row+b.H∧b.Row<a.Row+a.H∧a.Col<b.Col+b.W∧b.Col<a.Col+a.W) from fun h=>c4 h.2.2.2)]; rfl
   ·rw [decide_eq_false c3,decide_eq_false (show ¬ (a.Row<b.Row+b.H∧b.Row<a.Row+a.H∧a.Col<b.Col+b.W∧b.Col<a.Col+a.W) from fun h=>c3 h.2.2.1)]; rfl
  ·rw [decide_eq_false c2,decide_eq_false (show ¬ (a.Row<b.Row+b.H∧b.Row<a.Row+a.H∧a.Col<b.Col+b.W∧b.Col<a.Col+a.W) from fun h=>c2 h.2.1)]; rfl
 ·rw [decide_eq_false c1,decide_eq_false (show ¬ (a.Row<b.Row+b.H∧b.Row<a.Row+a.H∧a.Col<b.Col+b.W∧b.Col<a.Col+a.W) from fun h=>c1 h.1)]; rfl
theorem YQq {rows cols:Int} (h:okRC rows cols) {a b:YAQ} (ha:insR rows cols a) (hb:insR rows cols b):YF3 a b=some (mtR b a):=by
 obtain ⟨h1,h2,h3,h4⟩:=h
 obtain ⟨a1,a2,a3,a4,a5,a6,a7,a8⟩:=ha
 obtain ⟨b1,b2,b3,b4,b5,b6,b7,b8⟩:=hb
 unfold YF3 mtR
 rw [YEh (by omega) (by omega),YAA,YEh (by omega) (by omega),YAA]
 by_cases c1:max a.Row b.Row<min (a.Row+a.H) (b.Row+b.H)
 ·rw [decide_eq_true c1,show ((true == true):Bool)=true from rfl,YAG,YEh (by omega) (by omega),YAA,YAG,YEh (by omega) (by omega),YAA]
  by_cases c2:max a.Col b.Col<min (a.Col+a.W) (b.Col+b.W)
  ·rw [decide_eq_true c2,decide_eq_true (show b.Row<a.Row+a.H∧a.Row<b.Row+b.H∧b.Col<a.Col+a.W∧a.Col<b.Col+b.W by omega)]; rfl
  ·rw [decide_eq_false c2,decide_eq_false (show ¬ (b.Row<a.Row+a.H∧a.Row<b.Row+b.H∧b.Col<a.Col+a.W∧a.Col<b.Col+b.W) by omega)]; rfl
 ·rw [decide_eq_false c1,decide_eq_false (show ¬ (b.Row<a.Row+a.H∧a.Row<b.Row+b.H∧b.Col<a.Col+a.W∧a.Col<b.Col+b.W) by omega)]; rfl
theorem takeBM {α:Type} [Inhabited α] {l:List α} {k j:Nat} (hj:j<k) (hk:k≤l.length):(l.take k)[j]! = l[j]!:=by
 rw [getElem!_pos (l.take k) j (by rw [List.length_take]; omega),getElem!_pos l j (by omega),List.getElem_take]
def YOi (l:List YAQ) (k:Nat) (w:YAQ):Option Nat:=(List.range k).find? fun j=>mtR l[j]! w
theorem YNU {rows cols:Int} (h:okRC rows cols) (l:List YAQ) (k:Nat) (hk:k≤l.length) (hm:l.length≤1073741824) (hl : ∀ j,j<k→insR rows cols l[j]!) {w:YAQ} (hw:insR rows cols w) :
  YAK w (l.take k)=some (YOi l k w).isSome:=by
 unfold YAK YAS
 have hlen:(l.take k).length=k:=by rw [List.length_take]; omega
 rw [YAX (n:=k) (fun j=>if mtR l[j]! w then some (j:Int) else none) (fun j hj=>by
  unfold YAO YEF
  rw [if_pos (by rw [hlen,decide_eq_true_eq]; omega),YAF (by rw [hlen]; exact hj),YAA,takeBM hj hk,YRG h (hl j hj) hw,YAA,YAA,YAR (by omega)]
  cases mtR l[j]! w <;> rfl) (by unfold YAO; rw [if_neg (by rw [hlen]; simp)]),YEr,YAy]
 unfold YOi
 cases (List.range k).find? fun j=>mtR l[j]! w with
 | none=>rfl
 | some j=>
  show (bnd1 (some (j:Int)) fun (r1:Int)=>some (decide (0≤r1)))=_
  rw [YAA,decide_eq_true (Int.natCast_nonneg j)]; rfl
def errM (rows cols:Int) (l:List YAQ) (k:Nat):Option Int:=
 if ¬ insR rows cols l[k]! then some 2 else if l[k]!.H=1∧l[k]!.W=1 then some 4 else if 0<k∧0≤ord2 l[k-1]!.Row l[k]!.Row l[k-1]!.Col l[k]!.Col then some 5 else if (YOi l k l[k]!).isSome=true then some 21 else none
theorem YN9 {rows cols:Int} {l:List YAQ} {k:Nat} (h:errM rows cols l k=none):insR rows cols l[k]!:=by
 unfold errM at h
 by_cases hi:insR rows cols l[k]!
 ·exact hi
 ·rw [if_pos hi] at h; cases h
def YHc (g:YAv):Int:=
 if ¬ okRC g.Rows g.Cols then 2 else if YGR g.Rows g.Cols false g.Cells≠0 then YGR g.Rows g.Cols false g.Cells else ((List.range g.Merges.length).findSome? (errM g.Rows g.Cols g.Merges)).getD 0
def okGd (g:YAv):Prop:=g.Cells.length≤1048576∧g.Merges.length≤1048576 ∧ ∀ c∈g.Cells,okC c
theorem YQY (a b:YAQ):YEa a b=some (!decide (0≤ord2 a.Row b.Row a.Col b.Col)):=by
 unfold YEa
 congr 1
 rw [Bool.eq_iff_iff]
 have:=YK2 a.Row b.Row a.Col b.Col
 simp only [Bool.or_eq_true,Bool.and_eq_true,decide_eq_true_eq,Bool.not_eq_true',decide_eq_false_iff_not,this]
 omega
theorem YHB (g:YAv) (h:okGd g):YFE g=some (YHc g):=by
 obtain ⟨hc,hm,hcs⟩:=h
 unfold YFE YHc
 by_cases hr:okRC g.Rows g.Cols
 ·have hr':=hr
  obtain ⟨r1,r2,r3,r4⟩:=hr'
  rw [if_neg (by simp only [Bool.or_eq_true,decide_eq_true_eq]; omega),YK8 _ _ _ _ (by omega) hcs,YAA,if_neg (Classical.not_not.2 hr)]
  by_cases he:YGR g.Rows g.Cols false g.Cells=0
  ·rw [if_neg (ndF he),if_neg (Classical.not_not.2 he),YKN (n:=g.Merges.length) (errM g.Rows g.Cols g.Merges) (fun k hk hj=>by
    unfold YDU
    rw [if_pos (by simpa using hk),YAF hk,YAA,YP5 _ _ _ hr,YAA]
    unfold errM
    by_cases h1:insR g.Rows g.Cols g.Merges[k]!
    ·rw [decide_eq_true h1,if_neg (show ¬ ((!true)=true) by decide),if_neg (Classical.not_not.2 h1)]
     by_cases h2:g.Merges[k]!.H=1∧g.Merges[k]!.W=1
     ·rw [if_pos (by rw [decide_eq_true h2.1,decide_eq_true h2.2]; rfl),if_pos h2]; rfl
     ·rw [if_neg (by simp only [Bool.and_eq_true,decide_eq_true_eq]; exact h2),if_neg h2]
      have hcont:=YNU hr g.Merges k (by omega) (by omega) (fun j hj'=>YN9 (hj j hj')) h1
      have hs:slc g.Merges 0 (k:Int)=some (g.Merges.take k):=by
       rw [slc_to g.Merges k (by omega) (by omega)]; simp
      have hfin:(bnd1 (slc g.Merges 0 (k:Int)) fun (l1:List YAQ)=>
        bnd1 (YAK g.Merges[k]! l1) fun (r3:Bool)=>
        if r3 then (some (.inr (.ext 21)):Option (Int ⊕ (Ctl Unit Int))) else (
         bnd1 (chk .i64 ((k:Int)+1)) fun (x7:Int)=>some (.inl x7)))=YBR k (if (YOi g.Merges k g.Merges[k]!).isSome=true then some 21 else none):=by
       rw [hs,YAA,hcont,YAA,YAR (by omega)]
       cases (YOi g.Merges k g.Merges[k]!).isSome <;> rfl
      by_cases h0:0<k
      ·rw [decide_eq_true (show (0:Int)<k by omega),show ((true == true):Bool)=true from rfl,YAG,YCL h0 (by omega),YAA,YAG,YAF (show k-1<g.Merges.length by omega),YAA,YAG,YQY,YAA]
       by_cases h3:0≤ord2 g.Merges[k-1]!.Row g.Merges[k]!.Row g.Merges[k-1]!.Col g.Merges[k]!.Col
       ·rw [decide_eq_true h3,if_pos (show 0<k∧0≤ord2 g.Merges[k-1]!.Row g.Merges[k]!.Row g.Merges[k-1]!.Col g.Merges[k]!.Col from ⟨h0,h3⟩)]; rfl
       ·rw [decide_eq_false h3,if_neg (show ¬ (0<k∧0≤ord2 g.Merges[k-1]!.Row g.Merges[k]!.Row g.Merges[k-1]!.Col g.Merges[k]!.Col) from fun h=>h3 h.2)]
        exact hfin
      ·have e0:k=0:=by omega
       rw [if_neg (show ¬ (0<k∧0≤ord2 g.Merges[k-1]!.Row g.Merges[k]!.Row g.Merges[k-1]!.Col g.Merges[k]!.Col) from fun h=>h0 h.1),decide_eq_false (show ¬ (0:Int)<k by omega)]
       exact hfin
    ·rw [decide_eq_false h1,if_pos h1]; rfl) (by unfold YDU; rw [if_neg (by simp)]),YCK]
  ·rw [if_pos (ndT he),if_pos he]
 ·rw [if_pos hr,if_pos (by unfold okRC at hr; simp only [Bool.or_eq_true,decide_eq_true_eq]; omega)]
theorem YJw {X:Type} (l:List YAQ) (k:Nat) (hk:k<l.length) (hm:l.length≤9223372036854775806) (a b:Option X) :
  (bnd1 (gd ((decide (0<(k:Int))) == true) (chk .i64 ((k:Int)-1))) fun (x5:Int)=>
    bnd1 (gd ((decide (0<(k:Int))) == true) (idx l x5)) fun (x6:YAQ)=>
    bnd1 (gd ((((decide (0<(k:Int))) == true) && ((decide (l[k]!.Row<x6.Row)) == false)) && ((decide (l[k]!.Row=x6.Row)) == true)) (chk .i64 ((k:Int)-1))) fun (x7:Int)=>
    bnd1 (gd ((((decide (0<(k:Int))) == true) && ((decide (l[k]!.Row<x6.Row)) == false)) && ((decide (l[k]!.Row=x6.Row)) == true)) (idx l x7)) fun (x8:YAQ)=>
    if ((decide (0<(k:Int))) && ((decide (l[k]!.Row<x6.Row)) || ((decide (l[k]!.Row=x6.Row)) && (decide (l[k]!.Col≤x8.Col))))) then a else b) =
   if 0<k∧0≤ord2 l[k-1]!.Row l[k]!.Row l[k-1]!.Col l[k]!.Col then a else b:=by
 have ho:=YK2 l[k-1]!.Row l[k]!.Row l[k-1]!.Col l[k]!.Col
 by_cases h0:0<k
 ·rw [decide_eq_true (show (0:Int)<k by omega),show ((true == true):Bool)=true from rfl,YAG,YCL h0 (by omega),YAA,YAG,YAF (show k-1<l.length by omega),YAA]
  by_cases h1:l[k]!.Row<l[k-1]!.Row
  ·rw [decide_eq_true h1,if_pos (show 0<k∧0≤ord2 l[k-1]!.Row l[k]!.Row l[k-1]!.Col l[k]!.Col from ⟨h0,ho.2 (.inl h1)⟩)]; rfl
  ·by_cases h2:l[k]!.Row=l[k-1]!.Row
   ·rw [decide_eq_false h1,decide_eq_true h2,show (((true && (false == false)) && (true == true)):Bool)=true from rfl,YAG,YAA,YAG,YAF (show k-1<l.length by omega),YAA]
    by_cases h3:l[k]!.Col≤l[k-1]!.Col
    ·rw [decide_eq_true h3,if_pos (show 0<k∧0≤ord2 l[k-1]!.Row l[k]!.Row l[k-1]!.Col l[k]!.Col from ⟨h0,ho.2 (.inr ⟨h2,h3⟩)⟩)]; rfl
    ·rw [decide_eq_false h3,if_neg (show ¬ (0<k∧0≤ord2 l[k-1]!.Row l[k]!.Row l[k-1]!.Col l[k]!.Col) from fun h=>by have:=ho.1 h.2; omega)]; rfl
   ·rw [decide_eq_false h1,decide_eq_false h2,if_neg (show ¬ (0<k∧0≤ord2 l[k-1]!.Row l[k]!.Row l[k-1]!.Col l[k]!.Col) from fun h=>by have:=ho.1 h.2; omega)]; rfl
 ·rw [if_neg (show ¬ (0<k∧0≤ord2 l[k-1]!.Row l[k]!.Row l[k-1]!.Col l[k]!.Col) from fun h=>h0 h.1),decide_eq_false (show ¬ (0:Int)<k by omega)]; rfl
theorem YII (g:YAv) (h:okGd g):YDK g=some (YHc g):=by
 obtain ⟨hc,hm,hcs⟩:=h
 unfold YDK YHc
 rw [YAp,YAA]
 by_cases hr:okRC g.Rows g.Cols
 ·have hr':=hr
  obtain ⟨r1,r2,r3,r4⟩:=hr'
  rw [decide_eq_true (show 0≤g.Rows∧g.Rows≤2147483647 from ⟨r1,r2⟩),show ((!true) == false)=true from rfl,YAG,YAp,YAA,decide_eq_true (show 0≤g.Cols∧g.Cols≤2147483647 from ⟨r3,r4⟩),if_neg (by decide),
   YHa _ _ _ _ (by omega) hcs ⟨r1,r2⟩ ⟨r3,r4⟩,YAA,if_neg (Classical.not_not.2 hr)]
  by_cases he:YGR g.Rows g.Cols false g.Cells=0
  ·rw [if_neg (ndF he),if_neg (Classical.not_not.2 he),YKN (n:=g.Merges.length) (errM g.Rows g.Cols g.Merges) (fun k hk hj=>by
    unfold YCB
    rw [if_pos (by simpa using hk),YAF hk,YAA,YSm _ _ _ hr,YAA]
    unfold errM
    by_cases h1:insR g.Rows g.Cols g.Merges[k]!
    ·rw [decide_eq_true h1,if_neg (show ¬ ((!true)=true) by decide),if_neg (Classical.not_not.2 h1)]
     by_cases h2:g.Merges[k]!.H=1∧g.Merges[k]!.W=1
     ·rw [if_pos (by rw [decide_eq_true h2.1,decide_eq_true h2.2]; rfl),if_pos h2]; rfl
     ·rw [if_neg (by simp only [Bool.and_eq_true,decide_eq_true_eq]; exact h2),if_neg h2,YJw _ k hk (by omega)]
      by_cases h3:0<k∧0≤ord2 g.Merges[k-1]!.Row g.Merges[k]!.Row g.Merges[k-1]!.Col g.Merges[k]!.Col
      ·rw [if_pos h3,if_pos h3]; rfl
      ·rw [if_neg h3,if_neg h3,YAX (n:=k) (fun j=>if mtR g.Merges[j]! g.Merges[k]! then some (.inr (.ext 21)) else none) (fun j hjk=>by
        unfold YCA
        rw [if_pos (by rw [decide_eq_true_eq]; omega),YAF (by omega),YAA,YQq hr h1 (YN9 (hj j hjk)),YAA,YAR (by omega)]
        cases mtR g.Merges[j]! g.Merges[k]! <;> rfl) (by unfold YCA; rw [if_neg (by rw [decide_eq_true_eq]; omega)]),YEr,YAy]
       unfold YOi
       cases (List.range k).find? fun j=>mtR g.Merges[j]! g.Merges[k]! with
       | none=>rw [YAR (by omega)]; rfl
       | some j=>rfl
    ·rw [decide_eq_false h1,if_pos h1]; rfl) (by unfold YCB; rw [if_neg (by simp)]),YCK]
  ·rw [if_pos (ndT he),if_pos he]
 ·rw [if_pos hr]
  unfold okRC at hr
  by_cases a:0≤g.Rows∧g.Rows≤2147483647
  ·rw [decide_eq_true a,show ((!true) == false)=true from rfl,YAG,YAp,YAA,decide_eq_false (show ¬ (0≤g.Cols∧g.Cols≤2147483647) by omega)]; rfl
  ·rw [decide_eq_false a]; rfl
end Go.Proofs.YtdafahjmopdleaaGreatDoor.Al


namespace Go.Proofs.YtdafahjmopdleaaGreatDoor.Al
def YSl (c:UInt8):Bool:=decide (97≤c.toNat) && decide (c.toNat≤122)
def YNx (s:List UInt8):Bool:=(List.range s.length).all fun k=>YSl s[k]!
def YGq (s:List UInt8):Bool:=decide (1≤s.length) && decide (s.length≤200) && !decide (s[s.length-1]!.toNat=97) && YNx s
theorem YKH (s:List UInt8) (hm:s.length≤9223372036854775806):iter (fun (a:Int)=>YCQ s a) 0=some (YGU (if YNx s then none else some false)):=by
 rw [YAX (n:=s.length) (fun k=>if YSl s[k]! then none else some false) (fun k hk=>by
  unfold YCQ
  rw [if_pos (by simpa using hk),YAF hk,YAA,YAR (by omega)]
  unfold YSl
  generalize s[k]! = c
  by_cases h:97≤c.toNat∧c.toNat≤122
  ·rw [if_neg (by simp only [Bool.or_eq_true,decide_eq_true_eq]; omega),if_pos (by simp only [Bool.and_eq_true,decide_eq_true_eq]; exact h)]; rfl
  ·rw [if_pos (by simp only [Bool.or_eq_true,decide_eq_true_eq]; omega),if_neg (by simp only [Bool.and_eq_true,decide_eq_true_eq]; exact h)]; rfl) (by unfold YCQ; rw [if_neg (by simp)]),YCc]
 rfl
theorem YNG:YCt=YCQ:=by funext s x; rfl
theorem YIF (s:List UInt8) (hm:s.length≤9223372036854775806):YDE s=some (YGq s):=by
 unfold YDE YGq
 rw [YNG,YKH s hm]
 by_cases h:1≤s.length∧s.length≤200
 ·have hne:s≠[]:=List.length_pos_iff.1 h.1
  rw [decide_eq_false hne,decide_eq_false (show ¬ (200:Int)<(s.length:Int) by omega),show ((false || false) == false)=true from rfl,YAG,YCL h.1 (by omega),YAA,YAG,YAF (by omega),YAA,decide_eq_true h.1,decide_eq_true h.2]
  by_cases h2:s[s.length-1]!.toNat=97
  ·rw [decide_eq_true h2,if_pos (by rw [decide_eq_true (show ((s[s.length-1]!.toNat:Int)=97) by omega)]; rfl)]; rfl
  ·rw [decide_eq_false h2,if_neg (by rw [decide_eq_false (show ¬ ((s[s.length-1]!.toNat:Int)=97) by omega)]; decide)]
   cases YNx s <;> rfl
 ·have hc:((decide (s=[])) || (decide (200<(s.length:Int))))=true:=by
   rw [Bool.or_eq_true,decide_eq_true_eq,decide_eq_true_eq,← List.length_eq_zero_iff]; omega
  have hd:(decide (1≤s.length) && decide (s.length≤200))=false:=by
   rw [← Bool.not_eq_true,Bool.and_eq_true,decide_eq_true_eq,decide_eq_true_eq]; exact h
  rw [hc,hd]; rfl
theorem YLx (s:List UInt8) (hm:s.length≤9223372036854775806):YF5 s=some (YGq s):=by
 unfold YF5 YGq
 rw [YKH s hm,YAy]
 cases YNx s with
 | false=>rw [Bool.and_false]; rfl
 | true=>
  rw [if_pos rfl,Bool.and_true]
  dsimp only
  by_cases h:1≤s.length∧s.length≤200
  ·rw [decide_eq_true (show (1:Int)≤(s.length:Int) by omega),decide_eq_true (show (s.length:Int)≤200 by omega),show ((true && true) == true)=true from rfl,YAG,YCL h.1 (by omega),YAA,YAG,YAF (by omega),YAA,decide_eq_true h.1,decide_eq_true h.2]
   by_cases h2:s[s.length-1]!.toNat=97
   ·rw [decide_eq_true h2,decide_eq_true (show ((s[s.length-1]!.toNat:Int)=97) by omega)]
   ·rw [decide_eq_false h2,decide_eq_false (show ¬ ((s[s.length-1]!.toNat:Int)=97) by omega)]
  ·have hc:((decide (1≤(s.length:Int))) && (decide ((s.length:Int)≤200)))=false:=by
    rw [← Bool.not_eq_true,Bool.and_eq_true,decide_eq_true_eq,decide_eq_true_eq]; omega
   have hd:(decide (1≤s.length) && decide (s.length≤200))=false:=by
    rw [← Bool.not_eq_true,Bool.and_eq_true,decide_eq_true_eq,decide_eq_true_eq]; exact h
   rw [hc,hd]; rfl
def YF7 (o:YAI):Prop:=(1≤o.Clock∧o.Clock≤1073741824)∧(0≤o.Site∧o.Site≤1000)∧(1≤o.Item∧o.Item≤1073741824)
instance (o:YAI):Decidable (YF7 o):=by unfold YF7; infer_instance
def YOn (o:YAI):Int:=
 if ¬ (o.Kind=0∨o.Kind=1) then 8 else if ¬ YF7 o then 2
 else if o.Kind=0 then (if o.Name≠[]∨o.Value≠[] then 4 else if ¬ (-1≤o.Parent∧o.Parent≤1073741824) then 2 else if YGq o.Place=false then 9 else 0)
 else (if o.Parent≠0∨o.Place≠[] then 4 else if YGc o.Name=false then 9 else if o.Value≠[]∧YIC o.Value=false then 23 else 0)
def YQN (l:List YAI) (k:Nat):Option Int:=
 if YOn l[k]! ≠ 0 then some (YOn l[k]!) else if 0<k∧0≤ord2 l[k-1]!.Clock l[k]!.Clock l[k-1]!.Site l[k]!.Site then some 5 else none
def YQR (l:List YAI):Int:=((List.range l.length).findSome? (YQN l)).getD 0
def okDr (o:YAI):Prop:=o.Place.length≤1073741824∧o.Name.length≤1073741824∧o.Value.length≤1073741824
theorem YKu (o:YAI) (h:okDr o):YE6 o=some (YOn o):=by
 obtain ⟨hp,hn,hv⟩:=h
 unfold YE6 YOn
 rw [YIF _ (by omega),YH4 _ (by omega),YHN _ (by omega)]
 by_cases k0:o.Kind=0
 ·have k1 : ¬ o.Kind=1:=by omega
  rw [if_neg (show ¬ ((!decide (o.Kind=0)) && (!decide (o.Kind=1)))=true by rw [decide_eq_true k0]; simp),if_neg (show ¬ ¬ (o.Kind=0∨o.Kind=1) from fun h=>h (.inl k0))]
  by_cases hr:YF7 o
  ·have hr':=hr
   unfold YF7 at hr'
   rw [if_neg (by simp only [Bool.or_eq_true,decide_eq_true_eq]; omega),if_neg (Classical.not_not.2 hr),if_pos k0,decide_eq_true k0,decide_eq_false k1]
   by_cases c1:o.Name≠[]∨o.Value≠[]
   ·have hc:(true && ((!decide (o.Name=[])) || (!decide (o.Value=[]))))=true:=by
     rw [Bool.true_and,Bool.or_eq_true]
     rcases c1 with c | c
     ·exact .inl (ndT c)
     ·exact .inr (ndT c)
    rw [if_pos c1,hc]; rfl
   ·have c2:o.Name=[]∧o.Value=[]:=⟨Classical.byContradiction fun h=>c1 (.inl h),Classical.byContradiction fun h=>c1 (.inr h)⟩
    have hc:(true && ((!decide (o.Name=[])) || (!decide (o.Value=[]))))=false:=by rw [decide_eq_true c2.1,decide_eq_true c2.2]; rfl
    rw [if_neg c1,hc]
    by_cases c3 : -1≤o.Parent∧o.Parent≤1073741824
    ·rw [if_neg (Classical.not_not.2 c3)]
     have c4:((decide (o.Parent<(-1))) || (decide (1073741824<o.Parent)))=false:=by
      rw [← Bool.not_eq_true,Bool.or_eq_true,decide_eq_true_eq,decide_eq_true_eq]; omega
     rw [c4]
     cases YGq o.Place with
     | false=>rfl
     | true=>rw [decide_eq_true c2.2]; rfl
    ·rw [if_pos c3]
     have c4:((decide (o.Parent<(-1))) || (decide (1073741824<o.Parent)))=true:=by
      rw [Bool.or_eq_true,decide_eq_true_eq,decide_eq_true_eq]; omega
     rw [c4]; rfl
  ·rw [if_pos (by unfold YF7 at hr; simp only [Bool.or_eq_true,decide_eq_true_eq]; omega),if_pos hr]
 ·by_cases k1:o.Kind=1
  ·rw [if_neg (show ¬ ((!decide (o.Kind=0)) && (!decide (o.Kind=1)))=true by rw [decide_eq_true k1,decide_eq_false k0]; decide),if_neg (show ¬ ¬ (o.Kind=0∨o.Kind=1) from fun h=>h (.inr k1))]
   by_cases hr:YF7 o
   ·have hr':=hr
    unfold YF7 at hr'
    rw [if_neg (by simp only [Bool.or_eq_true,decide_eq_true_eq]; omega),if_neg (Classical.not_not.2 hr),if_neg k0,decide_eq_false k0,decide_eq_true k1]
    by_cases c1:o.Parent≠0∨o.Place≠[]
    ·have hc:(true && ((!decide (o.Parent=0)) || (!decide (o.Place=[]))))=true:=by
      rw [Bool.true_and,Bool.or_eq_true]
      rcases c1 with c | c
      ·exact .inl (ndT c)
      ·exact .inr (ndT c)
     rw [if_pos c1,hc]; rfl
    ·have c2:o.Parent=0∧o.Place=[]:=⟨Classical.byContradiction fun h=>c1 (.inl h),Classical.byContradiction fun h=>c1 (.inr h)⟩
     have hc:(true && ((!decide (o.Parent=0)) || (!decide (o.Place=[]))))=false:=by rw [decide_eq_true c2.1,decide_eq_true c2.2]; rfl
     rw [if_neg c1,hc]
     cases YGc o.Name with
     | false=>rfl
     | true=>
      by_cases c3:o.Value=[]
      ·rw [decide_eq_true c3,if_neg (show ¬ (true=false) by decide),if_neg (show ¬ (o.Value≠[]∧YIC o.Value=false) from fun h=>h.1 c3)]; rfl
      ·rw [decide_eq_false c3,if_neg (show ¬ (true=false) by decide)]
       cases hvv:YIC o.Value with
       | false=>rw [if_pos (show o.Value≠[]∧false=false from ⟨c3,rfl⟩)]; rfl
       | true=>rw [if_neg (show ¬ (o.Value≠[]∧true=false) from fun h=>by cases h.2)]; rfl
   ·rw [if_pos (by unfold YF7 at hr; simp only [Bool.or_eq_true,decide_eq_true_eq]; omega),if_pos hr]
  ·rw [if_pos (show ((!decide (o.Kind=0)) && (!decide (o.Kind=1)))=true by rw [decide_eq_false k1,decide_eq_false k0]; rfl),if_pos (show ¬ (o.Kind=0∨o.Kind=1) from fun h=>h.elim k0 k1)]
theorem YPI (a b:YAI):YCl a b=some (ord2 a.Clock b.Clock a.Site b.Site):=by
 unfold YCl
 rw [YOD,YOD,YAA,YAA,YMQ,YAA,or2]
theorem YOl (a b:YAI):YDj a b=some (!decide (0≤ord2 a.Clock b.Clock a.Site b.Site)):=by
 unfold YDj
 congr 1
 rw [Bool.eq_iff_iff]
 have:=YK2 a.Clock b.Clock a.Site b.Site
 simp only [Bool.or_eq_true,Bool.and_eq_true,decide_eq_true_eq,Bool.not_eq_true',decide_eq_false_iff_not,this]
 omega
theorem YIG (l:List YAI) (hm:l.length≤1073741824) (hl : ∀ o∈l,okDr o):YDF l=some (YQR l):=by
 unfold YDF
 rw [YAX (n:=l.length) (YQN l) (fun k hk=>by
  unfold YB3 YQN
  rw [if_pos (by simpa using hk),YAF hk,YAA,YKu _ (hl _ (YDR hk)),YAA]
  by_cases e:YOn l[k]! = 0
  ·rw [if_neg (ndF e),if_neg (Classical.not_not.2 e)]
   by_cases h0:0<k
   ·rw [decide_eq_true (show (0:Int)<k by omega),show ((true == true):Bool)=true from rfl,YAG,YCL h0 (by omega),YAA,YAG,YAF (show k-1<l.length by omega),YAA,YAG,YPI,YAA]
    by_cases h3:0≤ord2 l[k-1]!.Clock l[k]!.Clock l[k-1]!.Site l[k]!.Site
    ·rw [decide_eq_true h3,if_pos (show 0<k∧0≤ord2 l[k-1]!.Clock l[k]!.Clock l[k-1]!.Site l[k]!.Site from ⟨h0,h3⟩)]; rfl
    ·rw [decide_eq_false h3,if_neg (show ¬ (0<k∧0≤ord2 l[k-1]!.Clock l[k]!.Clock l[k-1]!.Site l[k]!.Site) from fun h=>h3 h.2),YAR (by omega)]; rfl
   ·rw [if_neg (show ¬ (0<k∧0≤ord2 l[k-1]!.Clock l[k]!.Clock l[k-1]!.Site l[k]!.Site) from fun h=>h0 h.1),decide_eq_false (show ¬ (0:Int)<k by omega),YAR (by omega)]; rfl
  ·rw [if_pos (ndT e),if_pos e]; rfl) (by unfold YB3; rw [if_neg (by simp)]),YCK]
 rfl
theorem YIK (l:List YAI) (hm:l.length≤1073741824) (hl : ∀ o∈l,okDr o):YDN l=some (YQR l):=by
 unfold YDN
 rw [YAX (n:=l.length) (YQN l) (fun k hk=>by
  obtain ⟨hp,hn,hv⟩:=hl _ (YDR hk)
  have htail:(bnd1 (gd ((decide (0<(k:Int))) == true) (chk .i64 ((k:Int)-1))) fun (x5:Int)=>
    bnd1 (gd ((decide (0<(k:Int))) == true) (idx l x5)) fun (x6:YAI)=>
    bnd1 (gd ((decide (0<(k:Int))) == true) (YDj x6 l[k]!)) fun (r4:Bool)=>
    if ((decide (0<(k:Int))) && (!r4)) then (some (.inr (.ext 5)):Option (Int ⊕ (Ctl Unit Int))) else (
     bnd1 (chk .i64 ((k:Int)+1)) fun (x7:Int)=>some (.inl x7)))=YBR k (if 0<k∧0≤ord2 l[k-1]!.Clock l[k]!.Clock l[k-1]!.Site l[k]!.Site then some 5 else none):=by
   by_cases h0:0<k
   ·rw [decide_eq_true (show (0:Int)<k by omega),show ((true == true):Bool)=true from rfl,YAG,YCL h0 (by omega),YAA,YAG,YAF (show k-1<l.length by omega),YAA,YAG,YOl,YAA]
    by_cases h3:0≤ord2 l[k-1]!.Clock l[k]!.Clock l[k-1]!.Site l[k]!.Site
    ·rw [decide_eq_true h3,if_pos (show 0<k∧0≤ord2 l[k-1]!.Clock l[k]!.Clock l[k-1]!.Site l[k]!.Site from ⟨h0,h3⟩)]; rfl
    ·rw [decide_eq_false h3,if_neg (show ¬ (0<k∧0≤ord2 l[k-1]!.Clock l[k]!.Clock l[k-1]!.Site l[k]!.Site) from fun h=>h3 h.2),YAR (by omega)]; rfl
   ·rw [if_neg (show ¬ (0<k∧0≤ord2 l[k-1]!.Clock l[k]!.Clock l[k-1]!.Site l[k]!.Site) from fun h=>h0 h.1),decide_eq_false (show ¬ (0:Int)<k by omega),YAR (by omega)]; rfl
  unfold YCC YQN YOn
  rw [if_pos (by simpa using hk),YAF hk,YAA,htail,YAp,YAA,YAp,YAp,YAp,YLx _ (by omega),YJH _ (by omega),YHu _ (by omega)]
  generalize l[k]! = o at hp hn hv ⊢
  by_cases kk:o.Kind=0∨o.Kind=1
  ·rw [if_neg (show ¬ ((!decide (o.Kind=0)) && (!decide (o.Kind=1)))=true by rcases kk with h | h <;> rw [decide_eq_true h] <;> simp),if_neg (Classical.not_not.2 kk)]
   by_cases hr:YF7 o
   ·rw [if_neg (Classical.not_not.2 hr),decide_eq_true hr.1,show ((!true) == false)=true from rfl,YAG,YAA,decide_eq_true hr.2.1,show (((!true) || (!true)) == false)=true from rfl,YAG,YAA,decide_eq_true hr.2.2,if_neg (show ¬ (((!true) || (!true)) || (!true))=true by decide)]
    by_cases k0:o.Kind=0
    ·rw [if_pos (decide_eq_true k0),if_pos k0]
     by_cases c1:o.Name≠[]∨o.Value≠[]
     ·have hc:((!decide (o.Name=[])) || (!decide (o.Value=[])))=true:=by
       rw [Bool.or_eq_true]
       rcases c1 with c | c
       ·exact .inl (ndT c)
       ·exact .inr (ndT c)
      rw [if_pos c1,if_pos hc]; rfl
     ·have c2:o.Name=[]∧o.Value=[]:=⟨Classical.byContradiction fun h=>c1 (.inl h),Classical.byContradiction fun h=>c1 (.inr h)⟩
      rw [if_neg c1,if_neg (show ¬ ((!decide (o.Name=[])) || (!decide (o.Value=[])))=true by rw [decide_eq_true c2.1,decide_eq_true c2.2]; decide),YAA]
      by_cases c3 : -1≤o.Parent∧o.Parent≤1073741824
      ·rw [if_neg (Classical.not_not.2 c3),decide_eq_true c3,if_neg (show ¬ ((!true)=true) by decide),YAA]
       cases YGq o.Place <;> rfl
      ·rw [if_pos c3,decide_eq_false c3]; rfl
    ·rw [if_neg (show ¬ decide (o.Kind=0)=true by simpa using k0),if_neg k0]
     by_cases c1:o.Parent≠0∨o.Place≠[]
     ·have hc:((!decide (o.Parent=0)) || (!decide (o.Place=[])))=true:=by
       rw [Bool.or_eq_true]
       rcases c1 with c | c
       ·exact .inl (ndT c)
       ·exact .inr (ndT c)
      rw [if_pos c1,if_pos hc]; rfl
     ·have c2:o.Parent=0∧o.Place=[]:=⟨Classical.byContradiction fun h=>c1 (.inl h),Classical.byContradiction fun h=>c1 (.inr h)⟩
      rw [if_neg c1,if_neg (show ¬ ((!decide (o.Parent=0)) || (!decide (o.Place=[])))=true by rw [decide_eq_true c2.1,decide_eq_true c2.2]; decide),YAA]
      cases YGc o.Name with
      | false=>rfl
      | true=>
       by_cases c3:o.Value=[]
       ·rw [decide_eq_true c3,if_neg (show ¬ (true=false) by decide),if_neg (show ¬ (o.Value≠[]∧YIC o.Value=false) from fun h=>h.1 c3)]; rfl
       ·rw [decide_eq_false c3,if_neg (show ¬ (true=false) by decide)]
        cases hvv:YIC o.Value with
        | false=>rw [if_pos (show o.Value≠[]∧false=false from ⟨c3,rfl⟩)]; rfl
        | true=>rw [if_neg (show ¬ (o.Value≠[]∧true=false) from fun h=>by cases h.2)]; rfl
   ·rw [if_pos hr]
    unfold YF7 at hr
    by_cases a1:1≤o.Clock∧o.Clock≤1073741824
    ·rw [decide_eq_true a1,show ((!true) == false)=true from rfl,YAG,YAA]
     by_cases a2:0≤o.Site∧o.Site≤1000
     ·rw [decide_eq_true a2,show (((!true) || (!true)) == false)=true from rfl,YAG,YAA,decide_eq_false (show ¬ (1≤o.Item∧o.Item≤1073741824) by omega)]; rfl
     ·rw [decide_eq_false a2]; rfl
    ·rw [decide_eq_false a1]; rfl
  ·have hk2:((!decide (o.Kind=0)) && (!decide (o.Kind=1)))=true:=by
    rw [decide_eq_false (fun h=>kk (.inl h)),decide_eq_false (fun h=>kk (.inr h))]; rfl
   rw [if_pos hk2,if_pos kk]; rfl) (by unfold YCC; rw [if_neg (by simp)]),YCK]
 rfl
end Go.Proofs.YtdafahjmopdleaaGreatDoor.Al


namespace Go.Proofs.YtdafahjmopdleaaGreatDoor.Al
theorem YOL:YDi=YEd:=by funext k; rfl
theorem YOe:YFR=YEe:=by funext k; rfl
theorem YKP:YCw=YCo:=by funext k; rfl
theorem YOm:YFS=YEf:=by funext k; rfl
structure okN2 (n:YAJ):Prop where
 ok:okN n
 ce : ∀ c∈n.Grid.Cells,okC c
 dr : ∀ o∈n.Draw,okDr o
theorem okN2.gd {n:YAJ} (h:okN2 n):okGd n.Grid:=⟨h.ok.gr.1,h.ok.gr.2.1,h.ce⟩
def YOf (kind:Int) (c:YAL):Bool:=((decide (kind=2)) && ((!decide (c.Text=[])) || (decide (0<(c.Attrs.length:Int))))) || ((decide (kind=6)) && (!decide (c.Ref=0)))
def YNz (kind:Int) (l:List YAL):Int:=((List.range l.length).findSome? fun k=>if YOf kind l[k]! then some (4:Int) else none).getD 0
theorem YLL (kind:Int) (l:List YAL) (hm:l.length≤1073741824):YCp kind l=some (YNz kind l):=by
 unfold YCp
 rw [YAX (n:=l.length) (fun k=>if YOf kind l[k]! then some (4:Int) else none) (fun k hk=>by
  unfold YBr
  rw [if_pos (by simpa using hk),YAF hk,YAA,YAR (by omega)]
  show (if YOf kind l[k]! = true then _ else _)=_
  cases YOf kind l[k]! <;> rfl) (by unfold YBr; rw [if_neg (by simp)]),YCK]
 rfl
theorem YMU (kind:Int) (l:List YAL) (hm:l.length≤1073741824):YDO kind l=some (YNz kind l):=by
 unfold YDO
 rw [YAX (n:=l.length) (fun k=>if YOf kind l[k]! then some (4:Int) else none) (fun k hk=>by
  unfold YCD YOf
  rw [if_pos (by simpa using hk),YAF hk,YAR (by omega)]
  generalize l[k]! = c
  by_cases h2:kind=2
  ·have h6 : ¬ kind=6:=by omega
   rw [decide_eq_true h2,decide_eq_false h6]
   rw [show ((true == true):Bool)=true from rfl,YAG,YAA]
   generalize ((!decide (c.Text=[])) || (decide (0<(c.Attrs.length:Int))))=q
   cases q <;> rfl
  ·by_cases h6:kind=6
   ·rw [decide_eq_false h2,decide_eq_true h6]
    rw [show ((false == true):Bool)=false from rfl,YCv,YAA]
    show (bnd1 (gd true (some c)) fun (x5:YAL)=>_)=_
    rw [YAG,YAA]
    generalize (!decide (c.Ref=0))=q
    cases q <;> rfl
   ·rw [decide_eq_false h2,decide_eq_false h6]; rfl) (by unfold YCD; rw [if_neg (by simp)]),YCK]
 rfl
def YSp (t l g z d fl dr:Bool):Bool:=((!(t || l) && fl) || (!g && !z)) || (!d && dr)
theorem YQC (t l g z d fl dr:Bool) :
  (if (((!(t || l)) && fl) == false) then (
   if ((!g) == true) then (
    bnd1 (gd ((((!(t || l)) && fl) || ((!g) && (!z))) == false) (some d)) fun (r8:Bool)=>
    some ((((!(t || l)) && fl) || ((!g) && (!z))) || ((!r8) && dr))
   ) else (
    bnd1 (gd ((((!(t || l)) && fl) || ((!g) && false)) == false) (some d)) fun (r9:Bool)=>
    some ((((!(t || l)) && fl) || ((!g) && false)) || ((!r9) && dr))
   )
  ) else (
   bnd1 (gd ((((!(t || l)) && fl) || false) == false) (some d)) fun (r10:Bool)=>
   some ((((!(t || l)) && fl) || false) || ((!r10) && dr))
  ))=some (YSp t l g z d fl dr):=by
 cases t <;> cases l <;> cases g <;> cases z <;> cases d <;> cases fl <;> cases dr <;> rfl
theorem YRM {X:Type} (t l g z d fl dr:Bool) (A B:Option X) :
  (bnd1 (gd ((fl && (!(t || l))) == false) (some z)) fun (r5:Bool)=>
   bnd1 (gd (((fl && (!(t || l))) == false) && ((!r5) == true)) (some g)) fun (r6:Bool)=>
   bnd1 (gd ((((fl && (!(t || l))) || ((!r5) && (!r6))) == false) && (dr == true)) (some d)) fun (r7:Bool)=>
   if (((fl && (!(t || l))) || ((!r5) && (!r6))) || (dr && (!r7))) then A else B)=if YSp t l g z d fl dr=true then A else B:=by
 cases t <;> cases l <;> cases g <;> cases z <;> cases d <;> cases fl <;> cases dr <;> rfl
theorem YL9 {α:Type} (l:List α):decide ((l.length:Int)=0)=l.isEmpty:=by
 cases l with
 | nil=>rfl
 | cons a l=>exact decide_eq_false (by simp only [List.length_cons]; omega)
theorem YMg (g:YAv):YDu g=some (decide (g=YAv.mk 0 0 [] [])):=by
 unfold YDu
 congr 1
 obtain ⟨a,b,c,d⟩:=g
 rw [YL9,YL9,Bool.eq_iff_iff]
 simp [and_assoc]
theorem YJN (n:YAJ) (h:okN2 n) : ∃ e,YAr n=some e∧YDJ n=some e:=by
 have ha:=h.ok.at_
 have hf:=h.ok.fl
 have hg:=h.ok.gr
 have hd:=h.ok.dr
 have hfe : ∀ x∈n.Flow,okE x:=fun x hx=>⟨by have:=(h.ok.fa x hx).1; omega,(h.ok.fa x hx).2⟩
 unfold YAr YDJ
 rw [YOL,YOe,YKP,YOm,YAp,YAA]
 by_cases c1:1≤n.ID∧n.ID≤1073741824
 ·rw [if_neg (show ¬ ((decide (n.ID<1)) || (decide (1073741824<n.ID)))=true by simp only [Bool.or_eq_true,decide_eq_true_eq]; omega),decide_eq_true c1,if_neg (show ¬ ((!true)=true) by decide),YAp,YAA]
  by_cases c2:(0≤n.Kind∧n.Kind≤12)∧(n.ID=1↔n.Kind=0)
  ·obtain ⟨c2,c3⟩:=c2
   have e1:(((decide (n.Kind<0)) || (decide (13≤n.Kind))) || (!((decide (n.ID=1)) == (decide (n.Kind=0)))))=false:=by
    rw [decide_eq_false (show ¬ n.Kind<0 by omega),decide_eq_false (show ¬ 13≤n.Kind by omega)]
    by_cases q:n.ID=1
    ·rw [decide_eq_true q,decide_eq_true (c3.1 q)]; rfl
    ·rw [decide_eq_false q,decide_eq_false (fun e=>q (c3.2 e))]; rfl
   have e2:(((!decide (0≤n.Kind∧n.Kind≤12)) || ((decide (n.ID=1)) && (!decide (n.Kind=0)))) || ((!decide (n.ID=1)) && (decide (n.Kind=0))))=false:=by
    rw [decide_eq_true c2]
    by_cases q:n.ID=1
    ·rw [decide_eq_true q,decide_eq_true (c3.1 q)]; rfl
    ·rw [decide_eq_false q,decide_eq_false (fun e=>q (c3.2 e))]; rfl
   rw [e1,e2,if_neg (show ¬ (false=true) by decide),if_neg (show ¬ (false=true) by decide),YFa _ ha.2 (by have:=ha.1; omega),YAA,YDk _ _ ha.2 (by have:=ha.1; omega),YAA]
   by_cases c4:YFb n.Attrs false=0
   ·rw [if_neg (ndF c4),if_neg (ndF c4)]
    obtain ⟨t,ht⟩ : ∃ t,YEd n.Kind=some t:=⟨_,rfl⟩
    obtain ⟨l,hl⟩ : ∃ t,YEe n.Kind=some t:=⟨_,rfl⟩
    obtain ⟨g,hgk⟩ : ∃ t,YCo n.Kind=some t:=⟨_,rfl⟩
    obtain ⟨d,hdk⟩ : ∃ t,YEf n.Kind=some t:=⟨_,rfl⟩
    rw [ht,hl,hgk,hdk,YAA,YAA,YP7 _ _ hg,YMg]
    have hll : ∃ l',gd (t == false) (some l)=some l':=by cases t <;> exact ⟨_,rfl⟩
    obtain ⟨l',hl'⟩:=hll
    rw [hl',YAA,YAA,YAA,YQC,YAA,YAA,YRM]
    by_cases c5:YSp t l' g (decide (n.Grid=YAv.mk 0 0 [] [])) d (decide (0<(n.Flow.length:Int))) (decide (0<(n.Draw.length:Int)))=true
    ·rw [if_pos c5,if_pos c5]; exact ⟨_,rfl,rfl⟩
    ·rw [if_neg c5,if_neg c5]
     by_cases c6:(t || l')=true
     ·obtain ⟨r,h1,h2⟩:=YNV n.Flow t hfe (by omega)
      rw [if_pos c6,if_pos c6,h1,h2]; exact ⟨_,rfl,rfl⟩
     ·rw [if_neg c6,if_neg c6]
      cases g with
      | true=>
       rw [if_pos rfl,YHB _ h.gd,YAA,YAA,if_pos rfl,YII _ h.gd,YAA]
       by_cases c7:YHc n.Grid=0
       ·rw [if_neg (ndF c7),if_neg (ndF c7),YLL _ _ (by have:=hg.1; omega),YMU _ _ (by have:=hg.1; omega)]; exact ⟨_,rfl,rfl⟩
       ·rw [if_pos (ndT c7),if_pos (ndT c7)]; exact ⟨_,rfl,rfl⟩
      | false=>
       rw [if_neg (show ¬ (false=true) by decide),YAA,if_neg (show ¬ (false=true) by decide),YIG _ (by omega) h.dr,YIK _ (by omega) h.dr]; exact ⟨_,rfl,rfl⟩
   ·rw [if_pos (ndT c4),if_pos (ndT c4)]; exact ⟨_,rfl,rfl⟩
  ·have e1:(((decide (n.Kind<0)) || (decide (13≤n.Kind))) || (!((decide (n.ID=1)) == (decide (n.Kind=0)))))=true:=by
    by_cases q1:0≤n.Kind∧n.Kind≤12
    ·have q2 : ¬ (n.ID=1↔n.Kind=0):=fun e=>c2 ⟨q1,e⟩
     by_cases q:n.ID=1
     ·rw [decide_eq_true q,decide_eq_false (fun e=>q2 ⟨fun _=>e,fun _=>q⟩),Bool.or_eq_true]; exact .inr rfl
     ·rw [decide_eq_false q,decide_eq_true (Classical.byContradiction fun e=>q2 ⟨fun x=>absurd x q,fun x=>absurd x e⟩),Bool.or_eq_true]; exact .inr rfl
    ·simp only [Bool.or_eq_true,decide_eq_true_eq]; exact .inl (by omega)
   have e2:(((!decide (0≤n.Kind∧n.Kind≤12)) || ((decide (n.ID=1)) && (!decide (n.Kind=0)))) || ((!decide (n.ID=1)) && (decide (n.Kind=0))))=true:=by
    by_cases q1:0≤n.Kind∧n.Kind≤12
    ·have q2 : ¬ (n.ID=1↔n.Kind=0):=fun e=>c2 ⟨q1,e⟩
     rw [decide_eq_true q1]
     by_cases q:n.ID=1
     ·rw [decide_eq_true q,decide_eq_false (fun e=>q2 ⟨fun _=>e,fun _=>q⟩)]; rfl
     ·rw [decide_eq_false q,decide_eq_true (Classical.byContradiction fun e=>q2 ⟨fun x=>absurd x q,fun x=>absurd x e⟩)]; rfl
    ·rw [decide_eq_false q1]; rfl
   rw [e1,e2]; exact ⟨_,rfl,rfl⟩
 ·rw [if_pos (show ((decide (n.ID<1)) || (decide (1073741824<n.ID)))=true by simp only [Bool.or_eq_true,decide_eq_true_eq]; omega),decide_eq_false c1]; exact ⟨_,rfl,rfl⟩
end Go.Proofs.YtdafahjmopdleaaGreatDoor.Al


namespace Go.Proofs.YtdafahjmopdleaaGreatDoor.Al
theorem YOg (s:List Int) (v:Int) (hm:s.length≤1048576):YAo s v=some ((List.range s.length).find? fun j=>decide (v=s[j]!)).isSome:=by
 unfold YAo YBm
 rw [YAX (n:=s.length) (fun j=>if decide (v=s[j]!) then some (j:Int) else none) (fun j hj=>by
  unfold YA5
  rw [if_pos (by simpa using hj),YAF hj,YAA,YAR (by omega)]
  cases decide (v=s[j]!) <;> rfl) (by unfold YA5; rw [if_neg (by simp)]),YEr,YAy]
 cases (List.range s.length).find? fun j=>decide (v=s[j]!) with
 | none=>rfl
 | some j=>
  show (bnd1 (some (j:Int)) fun (r1:Int)=>some (decide (0≤r1)))=_
  rw [YAA,decide_eq_true (Int.natCast_nonneg j)]; rfl
theorem YCS (s:List Int) (v:Int) (hm:s.length≤1048576):YAo s v=some (decide (v∈s)):=by
 rw [YOg s v hm]
 congr 1
 rw [Bool.eq_iff_iff,decide_eq_true_eq,List.find?_isSome]
 constructor
 ·rintro ⟨j,h1,h2⟩
  have hj:=List.mem_range.1 h1
  rw [of_decide_eq_true h2]; exact YDR hj
 ·intro h
  obtain ⟨j,hj,e⟩:=List.getElem_of_mem h
  exact ⟨j,List.mem_range.2 hj,decide_eq_true (by rw [getElem!_pos s j hj,e])⟩
def YPs (p k:Int):Bool:=
 if p=0 then decide (k∈[1,6,7,10,11,12]) else if p=1 then decide (k∈[2,4,5,10]) else if p=3 then decide (k∈[4,5,10]) else if p=4∨p=12 then decide (k=5) else if p=2 then decide (k=3) else if p=7 then decide (k=8∨k=9) else false
theorem YRa (p k:Int):YDW p k=some (YPs p k):=by
 unfold YDW YPs
 by_cases h0:p=0
 ·rw [if_pos (decide_eq_true h0),if_pos h0,YAA,YCS _ _ (by decide)]; rfl
 ·rw [if_neg (show ¬ decide (p=0)=true by simpa using h0),if_neg h0]
  by_cases h1:p=1
  ·rw [if_pos (decide_eq_true h1),if_pos h1,YAA,YCS _ _ (by decide)]; rfl
  ·rw [if_neg (show ¬ decide (p=1)=true by simpa using h1),if_neg h1]
   by_cases h3:p=3
   ·rw [if_pos (decide_eq_true h3),if_pos h3,YAA,YCS _ _ (by decide)]; rfl
   ·rw [if_neg (show ¬ decide (p=3)=true by simpa using h3),if_neg h3]
    have e4:(if decide (p=4)=true then some (decide (p=4)) else some (decide (p=12)))=some (decide (p=4∨p=12)):=by
     by_cases h4:p=4
     ·rw [if_pos (decide_eq_true h4),decide_eq_true h4,decide_eq_true (Or.inl h4:p=4∨p=12)]
     ·rw [if_neg (show ¬ decide (p=4)=true by simpa using h4)]
      congr 1
      rw [Bool.eq_iff_iff,decide_eq_true_eq,decide_eq_true_eq]
      exact ⟨.inr,fun h=>h.elim (fun h=>absurd h h4) id⟩
    rw [e4,YAA]
    by_cases h4:p=4∨p=12
    ·rw [if_pos (decide_eq_true h4),if_pos h4,YAA,YCS _ _ (by decide),YAA]
     congr 1; rw [Bool.eq_iff_iff]; simp
    ·rw [if_neg (show ¬ decide (p=4∨p=12)=true by simpa using h4),if_neg h4]
     by_cases h2:p=2
     ·rw [if_pos (decide_eq_true h2),if_pos h2,YAA,YCS _ _ (by decide),YAA]
      congr 1; rw [Bool.eq_iff_iff]; simp
     ·rw [if_neg (show ¬ decide (p=2)=true by simpa using h2),if_neg h2]
      by_cases h7:p=7
      ·rw [if_pos (decide_eq_true h7),if_pos h7,YAA,YCS _ _ (by decide),YAA]
       congr 1; rw [Bool.eq_iff_iff]; simp
      ·rw [if_neg (show ¬ decide (p=7)=true by simpa using h7),if_neg h7,YAA,YCS _ _ (by decide),YAA]; simp
theorem YQy (p k : Int) : YDI p k = some (YPs p k) := by
  have hk : k = 1 ∨ k = 2 ∨ k = 3 ∨ k = 4 ∨ k = 5 ∨ k = 6 ∨ k = 7 ∨ k = 8 ∨ k = 9 ∨ k = 10 ∨ k = 11 ∨ k = 12 ∨ (k ≠ 1 ∧ k ≠ 2 ∧ k ≠ 3 ∧ k ≠ 4 ∧ k ≠ 5 ∧ k ≠ 6 ∧ k ≠ 7 ∧ k ≠ 8 ∧ k ≠ 9 ∧ k ≠ 10 ∧ k ≠ 11 ∧ k ≠ 12) := by omega
  have hp : p = 0 ∨ p = 1 ∨ p = 2 ∨ p = 3 ∨ p = 4 ∨ p = 7 ∨ p = 12 ∨ (p ≠ 0 ∧ p ≠ 1 ∧ p ≠ 2 ∧ p ≠ 3 ∧ p ≠ 4 ∧ p ≠ 7 ∧ p ≠ 12) := by omega
  unfold YDI YPs YDi
  rcases hk with rfl | rfl | rfl | rfl | rfl | rfl | rfl | rfl | rfl | rfl | rfl | rfl | ⟨k1, k2, k3, k4, k5, k6, k7, k8, k9, k10, k11, k12⟩
  all_goals first
    | (rcases hp with rfl | rfl | rfl | rfl | rfl | rfl | rfl | ⟨p0, p1, p2, p3, p4, p7, p12⟩
       all_goals first | rfl | (simp [p0, p1, p2, p3, p4, p7, p12]; done))
    | (rcases hp with rfl | rfl | rfl | rfl | rfl | rfl | rfl | ⟨p0, p1, p2, p3, p4, p7, p12⟩
       all_goals first
         | (simp [k1, k2, k3, k4, k5, k6, k7, k8, k9, k10, k11, k12]; done)
         | (simp [k1, k2, k3, k4, k5, k6, k7, k8, k9, k10, k11, k12, p0, p1, p2, p3, p4, p7, p12]; done))
theorem YSE {n:Nat} (h:n<9223372036854775808):IntKind.u64.wrap (n:Int)=(n:Int):=by
 have e:(n:Int) % (2 ^ (64:Nat):Int)=(n:Int):=Int.emod_eq_of_lt (by omega) (by omega)
 show (if (false && decide ((n:Int) % (2 ^ (64:Nat):Int) ≥ (2 ^ (63:Nat):Int)))=true then (n:Int) % (2 ^ (64:Nat):Int)-(2 ^ (64:Nat):Int) else (n:Int) % (2 ^ (64:Nat):Int))=_
 rw [e,if_neg (by simp)]
theorem half (m:Nat) (h:m<4294967296):IntKind.i64.wrap (shrC .u64 (IntKind.u64.wrap (m:Int)) 1)=((m / 2:Nat):Int):=by
 rw [YSE (by omega)]
 show IntKind.i64.wrap ((m:Int).fdiv (2 ^ (min 1 64)))=_
 rw [show ((2:Int) ^ (min 1 64))=2 from rfl,Int.fdiv_eq_ediv_of_nonneg _ (by omega),show (m:Int) / 2=((m / 2:Nat):Int) by omega,YRj (by omega)]
def YJA (l:List YAJ):Prop:=∀ a b:Nat,a<b→b<l.length→l[a]!.ID<l[b]!.ID
theorem YQI (n:YAJ) (id:Int):YDm n id=some (if n.ID<id then -1 else if id<n.ID then 1 else 0):=by
 unfold YDm
 by_cases h1:n.ID<id
 ·rw [if_pos (decide_eq_true h1),if_pos h1]
 ·rw [if_neg (show ¬ decide (n.ID<id)=true by simpa using h1),if_neg h1]
  by_cases h2:id<n.ID
  ·rw [if_pos (decide_eq_true h2),if_pos h2]
  ·rw [if_neg (show ¬ decide (id<n.ID)=true by simpa using h2),if_neg h2]
theorem YQJ (d:GDoc) (id:Int) (hm:d.Nodes.length≤1048576) (hs:YJA d.Nodes) : ∃ i:Nat,YGQ d id=some ((i:Int),(YHH d.Nodes id).isSome)∧(∀ k,YHH d.Nodes id=some k→i=k):=by
 obtain ⟨l⟩:=d
 dsimp only at hm hs ⊢
 have key : ∃ r,iter (fun (a:Int × Int)=>YAD l id a.1 a.2) (0,(l.length:Int))=some r ∧
   ∃ I:Nat,r=(I:Int)∧I≤l.length∧(∀ m,m<I→l[m]!.ID<id) ∧ ∀ m,I≤m→m<l.length → ¬ l[m]!.ID<id:=by
  refine YE9 l.length (fun k st=>∃ I J:Nat,st=((I:Int),(J:Int))∧I≤J∧J≤l.length∧J-I≤l.length-k∧(∀ m,m<I→l[m]!.ID<id) ∧ ∀ m,J≤m→m<l.length → ¬ l[m]!.ID<id) _ ?_ ?_ ⟨0,l.length,rfl,by omega,by omega,by omega,fun m h=>absurd h (Nat.not_lt_zero _),fun m h1 h2=>absurd h2 (by omega)⟩
  ·rintro k st hk ⟨I,J,rfl,h1,h2,h3,h4,h5⟩
   dsimp only
   unfold YAD
   by_cases hIJ:I<J
   ·left
    rw [if_pos (by rw [decide_eq_true_eq]; omega),show (I:Int)+(J:Int)=((I+J:Nat):Int) by omega,YEh (by omega) (by omega),YAA,half _ (by omega),YAF (by omega),YAA,YQI,YAA]
    by_cases hc:l[(I+J) / 2]!.ID<id
    ·rw [if_pos hc,if_pos (by decide),YAR (by omega)]
     refine ⟨_,rfl,(I+J) / 2+1,J,rfl,by omega,h2,by omega,fun m hmm=>?_,h5⟩
     by_cases e:m=(I+J) / 2
     ·rw [e]; exact hc
     ·have:=hs m ((I+J) / 2) (by omega) (by omega); omega
    ·rw [if_neg hc,if_neg (show ¬ decide ((if id<l[(I+J) / 2]!.ID then (1:Int) else 0)<0)=true by split <;> decide)]
     refine ⟨_,rfl,I,(I+J) / 2,rfl,by omega,by omega,by omega,h4,fun m e1 e2=>?_⟩
     by_cases e:m=(I+J) / 2
     ·rw [e]; exact hc
     ·have:=hs ((I+J) / 2) m (by omega) e2; omega
   ·right
    rw [if_neg (by rw [decide_eq_true_eq]; omega)]
    exact ⟨_,rfl,I,rfl,by omega,h4,fun m e1 e2=>h5 m (by omega) e2⟩
  ·rintro st ⟨I,J,rfl,h1,h2,h3,h4,h5⟩
   dsimp only
   unfold YAD
   rw [if_neg (by rw [decide_eq_true_eq]; omega)]
   exact ⟨_,rfl,I,rfl,by omega,h4,fun m e1 e2=>h5 m (by omega) e2⟩
 obtain ⟨r,hr,I,rfl,hI,h4,h5⟩:=key
 unfold YGQ YAP
 rw [hr,YAA]
 have hat : ∀ k,YHH l id=some k→I=k:=by
  intro k hf
  obtain ⟨e1,e2⟩:=YHG hf
  have a1 : ¬ k<I:=fun h=>by have:=h4 k h; omega
  by_cases e:I=k
  ·exact e
  ·have:=hs I k (by omega) e1
   have:=h5 I (Nat.le_refl _) (by omega)
   omega
 refine ⟨I,?_,hat⟩
 by_cases hlt:I<l.length
 ·rw [decide_eq_true (show (I:Int)<(l.length:Int) by omega),show ((true == true):Bool)=true from rfl,YAG,YAF hlt,YAA,YAG,YQI,YAA,YAt]
  congr 2
  have h6:=h5 I (Nat.le_refl _) hlt
  rw [if_neg h6]
  cases hf:YHH l id with
  | some k=>
   obtain ⟨e1,e2⟩:=YHG hf
   have:=hat k hf
   subst this
   rw [if_neg (by omega)]; rfl
  | none=>
   have hne:l[I]!.ID≠id:=by
    intro e
    have:=List.find?_eq_none.1 hf I (List.mem_range.2 hlt)
    exact this (decide_eq_true e)
   rw [if_pos (by omega)]; rfl
 ·rw [decide_eq_false (show ¬ (I:Int)<(l.length:Int) by omega)]
  show some ((I:Int),false)=_
  cases hf:YHH l id with
  | some k=>
   obtain ⟨e1,e2⟩:=YHG hf
   have:=hat k hf
   omega
  | none=>rfl
end Go.Proofs.YtdafahjmopdleaaGreatDoor.Al


namespace Go.Proofs.YtdafahjmopdleaaGreatDoor.Al
def YKI (d:GDoc):Prop:=d.Nodes.length≤1048576 ∧ ∀ n∈d.Nodes,okN2 n
theorem YM5:YA4=YBw:=by funext f x o; rfl
theorem YM6 (n:YAJ):YEC n=YBw n.Flow:=by funext x o; rfl
theorem YLw:YEB=YBi:=by funext n x o; rfl
theorem YOq (n:YAJ) (w:List Int) (hm:n.Grid.Cells.length≤1048576) (hw:w.length≤1048576) : ∃ r,iter (fun (a:Int × (List Int))=>YBi n a.1 a.2) (0,w)=some r∧r.length≤2097152:=by
 refine YE9 n.Grid.Cells.length (fun k st=>st.1=(k:Int)∧st.2.length≤1048576+k) _ ?_ ?_ ⟨rfl,by simpa using hw⟩
 ·rintro k ⟨x,out⟩ hk ⟨rfl,ho⟩
  dsimp only at ho ⊢
  left
  unfold YBi
  rw [if_pos (by simpa using hk),YAF hk,YAA]
  by_cases r:n.Grid.Cells[k]!.Ref=0
  ·rw [if_neg (ndF r),YAA,YAR (by omega),YAA]
   exact ⟨_,rfl,rfl,by dsimp only; omega⟩
  ·rw [if_pos (ndT r),app8 (by omega),YAA,YAA,YAR (by omega),YAA]
   exact ⟨_,rfl,rfl,by dsimp only; rw [List.length_append,List.length_singleton]; omega⟩
 ·rintro ⟨x,out⟩ ⟨rfl,ho⟩
  dsimp only at ho ⊢
  unfold YBi
  rw [if_neg (by simp)]
  exact ⟨_,rfl,by omega⟩
theorem YPf (n:YAJ) (h:okN2 n) : ∃ r,YFX n=some r∧YE8 n=some r∧r.length≤2097152:=by
 have hf:=h.ok.fl
 obtain ⟨w,h1,h2⟩:=YPe n.Flow (by omega)
 obtain ⟨r,h3,h4⟩:=YOq n w h.ok.gr.1 (by omega)
 refine ⟨r,?_,?_,h4⟩
 ·unfold YFX YEb
  rw [YM5,h1,YAA,YAA,h3]; rfl
 ·unfold YE8
  rw [YM6,YLw,h1,YAA,h3]; rfl
theorem YOp (d:GDoc) (kind:Int) (refs:List Int) (hm:d.Nodes.length≤1048576) (hs:YJA d.Nodes) (hr:refs.length≤2097152) : ∃ e,YDX d kind refs=some e∧YDH d kind refs=some e:=by
 obtain ⟨o,h1,h2,_⟩:=YJT (ρ:=Int) (f:=fun (a:Int)=>YBY d kind refs a) (g:=fun (a:Int)=>YBX d kind refs a) (n:=refs.length) (fun _=>True) trivial (fun k hk _=>by
  unfold YBY YBX
  obtain ⟨i,hi,hik⟩:=YQJ d refs[k]! hm hs
  rw [if_pos (by simpa using hk),if_pos (by simpa using hk),YAF hk,YAA,YAA,hi,YAt,YGm _ _ hm,YAA]
  cases hf:YHH d.Nodes refs[k]! with
  | none=>exact ⟨some 7,rfl,rfl,fun e=>by cases e⟩
  | some j=>
   obtain ⟨e1,e2⟩:=YHG hf
   have:=hik j hf
   subst this
   dsimp only
   rw [if_neg (show ¬ ((!Option.isSome (some i))=true) by simp),YAF e1,YAA,YRa,YAA,if_neg (show ¬ decide ((i:Int)<0)=true by simp),YAA,YQy,YAA]
   cases YPs kind d.Nodes[i]!.Kind with
   | false=>exact ⟨some 8,rfl,rfl,fun e=>by cases e⟩
   | true=>
    rw [YAR (by omega)]
    exact ⟨none,rfl,rfl,fun _=>trivial⟩) (by unfold YBY; rw [if_neg (by simp)]) (by unfold YBX; rw [if_neg (by simp)])
 refine ⟨o.getD 0,?_,?_⟩
 ·unfold YDX; rw [h1,YCK]
 ·unfold YDH; rw [h2,YCK]
theorem YLr {l:List YAJ} (h : ∀ k,0<k→k<l.length→l[k-1]!.ID<l[k]!.ID):YJA l:=by
 intro a b hab hb
 induction b with
 | zero=>omega
 | succ b ih=>
  have h1:=h (b+1) (by omega) hb
  rw [Nat.add_sub_cancel] at h1
  by_cases e:a=b
  ·rw [e]; exact h1
  ·have:=ih (by omega) (by omega); omega
theorem YRb (d:GDoc) (h:YKI d) : ∃ e,YCE d=some e∧YBu d=some e:=by
 obtain ⟨hm,hn⟩:=h
 unfold YCE YBu
 by_cases h0:d.Nodes.length=0
 ·rw [if_pos (by rw [decide_eq_true_eq]; omega),if_pos (by rw [decide_eq_true_eq]; omega)]; exact ⟨_,rfl,rfl⟩
 ·rw [if_neg (by rw [decide_eq_true_eq]; omega),if_neg (by rw [decide_eq_true_eq]; omega)]
  obtain ⟨o,h1,h2,h3⟩:=YJT (ρ:=Int) (f:=fun (a:Int)=>YBd d a) (g:=fun (a:Int)=>YBp d a) (n:=d.Nodes.length) (fun k=>∀ j,0<j→j<k→d.Nodes[j-1]!.ID<d.Nodes[j]!.ID) (fun j _ hj=>absurd hj (Nat.not_lt_zero _)) (fun k hk hI=>by
   unfold YBd YBp
   obtain ⟨e,e1,e2⟩:=YJN _ (hn _ (YDR hk))
   rw [if_pos (by simpa using hk),if_pos (by simpa using hk),YAF hk,YAA,YAA,e1,e2,YAA,YAA]
   by_cases he:e=0
   ·rw [if_neg (ndF he),if_neg (ndF he)]
    by_cases k0:k=0
    ·subst k0
     rw [decide_eq_true (show ((0:Nat):Int)=0 from rfl),show ((true == true):Bool)=true from rfl,YAG,show (0:Int)=((0:Nat):Int) from rfl,YAF hk,YAA,decide_eq_false (show ¬ ((0:Nat):Int)<((0:Nat):Int) by omega)]
     by_cases hid:d.Nodes[0]!.ID=1
     ·refine ⟨none,?_,?_,fun _ j j1 j2=>by omega⟩
      ·rw [decide_eq_true hid]; rfl
      ·rw [decide_eq_true hid]; rfl
     ·refine ⟨some 5,?_,?_,fun e=>by cases e⟩
      ·rw [decide_eq_false hid]; rfl
      ·rw [decide_eq_false hid]; rfl
    ·have k1:0<k:=by omega
     rw [decide_eq_false (show ¬ ((k:Int)=0) by omega),decide_eq_true (show (0:Int)<(k:Int) by omega),show ((false == true):Bool)=false from rfl,YCv,YAA]
     show ∃ o:Option Int,(bnd1 (gd true (chk .i64 ((k:Int)-1))) fun (x10:Int)=>bnd1 (gd true (idx d.Nodes x10)) fun (x11:YAJ)=>_)=_∧(bnd1 (gd true (chk .i64 ((k:Int)-1))) fun (x11:Int)=>bnd1 (gd true (idx d.Nodes x11)) fun (x12:YAJ)=>_)=_∧_
     rw [YAG,YCL k1 (by omega),YAA,YAA,YAG,YAF (show k-1<d.Nodes.length by omega),YAA,YAA,YAR (by omega)]
     by_cases hid:d.Nodes[k]!.ID≤d.Nodes[k-1]!.ID
     ·rw [decide_eq_true hid]
      exact ⟨some 5,rfl,rfl,fun e=>by cases e⟩
     ·rw [decide_eq_false hid]
      refine ⟨none,rfl,rfl,fun _ j j1 j2=>?_⟩
      by_cases e:j=k
      ·rw [e]; omega
      ·exact hI j j1 (by omega)
   ·rw [if_pos (ndT he),if_pos (ndT he)]
    exact ⟨some e,rfl,rfl,fun e=>by cases e⟩) (by unfold YBd; rw [if_neg (by simp)]) (by unfold YBp; rw [if_neg (by simp)])
  rw [h1,h2]
  cases o with
  | some e=>exact ⟨e,rfl,rfl⟩
  | none=>
   have hs:=YLr (h3 rfl)
   show ∃ e,(ctl1 (iter (fun (a:Int)=>YCR d a) 0) fun (u4:Unit)=>some 0)=some e∧(ctl1 (iter (fun (a:Int)=>YBS d a) 0) fun (u4:Unit)=>some 0)=some e
   obtain ⟨o,e1,e2,_⟩:=YJT (ρ:=Int) (f:=fun (a:Int)=>YCR d a) (g:=fun (a:Int)=>YBS d a) (n:=d.Nodes.length) (fun _=>True) trivial (fun k hk _=>by
    unfold YCR YBS
    obtain ⟨r,r1,r2,r3⟩:=YPf _ (hn _ (YDR hk))
    obtain ⟨e,c1,c2⟩:=YOp d d.Nodes[k]!.Kind r hm hs r3
    rw [if_pos (by simpa using hk),if_pos (by simpa using hk),YAF hk,YAA,YAA,r1,r2,YAA,YAA,c1,c2,YAA]
    by_cases he:e=0
    ·rw [if_neg (ndF he),YAR (by omega)]
     exact ⟨none,rfl,rfl,fun _=>trivial⟩
    ·rw [if_pos (ndT he)]
     exact ⟨some e,rfl,rfl,fun _=>trivial⟩) (by unfold YCR; rw [if_neg (by simp)]) (by unfold YBS; rw [if_neg (by simp)])
   exact ⟨o.getD 0,by rw [e1,YCK],by rw [e2,YCK]⟩
theorem YNI {μ:YAJ→Nat} {γ:YAv→Nat} {ψ:YAL→Nat} {ρ:YAQ→Nat} {δ:YAI→Nat} {ν:YAN→Nat} {κ:YAT→Nat}
  (hn : ∀ n,(n.Attrs.map κ).sum+(n.Flow.map ν).sum+γ n.Grid+(n.Draw.map δ).sum+1≤μ n) (hg : ∀ g,(g.Cells.map ψ).sum+(g.Merges.map ρ).sum+1≤γ g)
  (hc : ∀ c,c.Text.length+(c.Attrs.map κ).sum+1≤ψ c) (hr : ∀ r,1≤ρ r) (hd : ∀ o,o.Place.length+o.Name.length+o.Value.length+1≤δ o) (he : ∀ e,(e.Attrs.map κ).sum+1≤ν e) (ha : ∀ a,a.Name.length+a.Value.length+1≤κ a)
  {d:GDoc} (hb:(d.Nodes.map μ).sum≤1048576):YKI d:=by
 have h1:=YOc hn hg (fun c=>by have:=hc c; omega) hr (fun o=>by have:=hd o; omega) he ha hb
 refine ⟨h1.1,fun n hm=>⟨h1.2 n hm,fun c hcm=>⟨(h1.2 n hm).gr.2.2 c hcm,?_⟩,fun o hom=>?_⟩⟩
 ·have h2:=YC1 (μ:=μ) hm
  have h3:=hn n
  have h4:=hg n.Grid
  have h5:=YC1 (μ:=ψ) hcm
  have:=hc c
  omega
 ·have h2:=YC1 (μ:=μ) hm
  have h3:=hn n
  have h5:=YC1 (μ:=δ) hom
  have:=hd o
  exact ⟨by omega,by omega,by omega⟩
end Go.Proofs.YtdafahjmopdleaaGreatDoor.Al


namespace Go.Proofs.YtdafahjmopdleaaGreatDoor.Al
theorem YGS {α β:Type} {o:Option α} {f:α→Option β} {r:β} (h:bnd1 o f=some r) : ∃ a,o=some a∧f a=some r:=by
 cases o with
 | none=>cases h
 | some a=>exact ⟨a,rfl,h⟩
theorem YOB {d:GDoc} (h:YKI d) (h0:YCE d=some 0):YJA d.Nodes ∧ ∀ k,k<d.Nodes.length→YAr d.Nodes[k]! = some 0:=by
 obtain ⟨hm,hn⟩:=h
 unfold YCE at h0
 split at h0
 ·cases h0
 let g:Nat→Option Int:=fun k=>if (YAr d.Nodes[k]!).getD 0≠0 then some ((YAr d.Nodes[k]!).getD 0) else if (k=0∧d.Nodes[k]!.ID≠1)∨(0<k∧d.Nodes[k]!.ID≤d.Nodes[k-1]!.ID) then some 5 else none
 have hit:iter (fun (a:Int)=>YBd d a) 0=some (YGU ((List.range d.Nodes.length).findSome? g)):=by
  refine YAX g (fun k hk=>?_) (by unfold YBd; rw [if_neg (by simp)])
  unfold YBd
  obtain ⟨e,e1,_⟩:=YJN _ (hn _ (YDR hk))
  show _=YBR k (g k)
  simp only [g]
  rw [if_pos (by simpa using hk),YAF hk,YAA,e1,YAA]
  show _=YBR k (if e≠0 then some e else _)
  by_cases he:e=0
  ·rw [if_neg (ndF he),if_neg (by simpa using he)]
   by_cases k0:k=0
   ·subst k0
    rw [decide_eq_true (show ((0:Nat):Int)=0 from rfl),decide_eq_false (show ¬ (0:Int)<((0:Nat):Int) by omega)]
    by_cases hid:d.Nodes[0]!.ID=1
    ·rw [decide_eq_true hid,if_neg (show ¬ ((0=0∧d.Nodes[0]!.ID≠1)∨(0<0∧d.Nodes[0]!.ID≤d.Nodes[0-1]!.ID)) by rintro (⟨_,b⟩ | ⟨a,_⟩); exact b hid; omega)]
     rfl
    ·rw [decide_eq_false hid,if_pos (show ((0=0∧d.Nodes[0]!.ID≠1)∨(0<0∧d.Nodes[0]!.ID≤d.Nodes[0-1]!.ID)) from .inl ⟨rfl,hid⟩)]
     rfl
   ·have k1:0<k:=by omega
    rw [decide_eq_false (show ¬ ((k:Int)=0) by omega),decide_eq_true (show (0:Int)<(k:Int) by omega)]
    show (bnd1 (gd true (chk .i64 ((k:Int)-1))) fun (x10:Int)=>bnd1 (gd true (idx d.Nodes x10)) fun (x11:YAJ)=>_)=_
    rw [YAG,YCL k1 (by omega),YAA,YAG,YAF (show k-1<d.Nodes.length by omega),YAA,YAR (by omega)]
    by_cases hid:d.Nodes[k]!.ID≤d.Nodes[k-1]!.ID
    ·rw [decide_eq_true hid,if_pos (show ((k=0∧d.Nodes[k]!.ID≠1)∨(0<k∧d.Nodes[k]!.ID≤d.Nodes[k-1]!.ID)) from .inr ⟨k1,hid⟩)]
     rfl
    ·rw [decide_eq_false hid,if_neg (show ¬ ((k=0∧d.Nodes[k]!.ID≠1)∨(0<k∧d.Nodes[k]!.ID≤d.Nodes[k-1]!.ID)) by rintro (⟨a,_⟩ | ⟨_,b⟩); exact k0 a; exact hid b)]
     rfl
  ·rw [if_pos (ndT he),if_pos he]
   rfl
 rw [hit] at h0
 cases hf:(List.range d.Nodes.length).findSome? g with
 | some e=>
  rw [hf] at h0
  have h0:(some e:Option Int)=some 0:=h0
  injection h0 with h0
  obtain ⟨k,_,hk⟩:=List.exists_of_findSome?_eq_some hf
  simp only [g] at hk
  split at hk
  ·rename_i hne; injection hk with hk; exact absurd (hk.trans h0) hne
  ·split at hk
   ·injection hk with hk; omega
   ·cases hk
 | none=>
  rw [List.findSome?_eq_none_iff] at hf
  have hk : ∀ k,k<d.Nodes.length→(YAr d.Nodes[k]!).getD 0=0 ∧ ¬ ((k=0∧d.Nodes[k]!.ID≠1)∨(0<k∧d.Nodes[k]!.ID≤d.Nodes[k-1]!.ID)):=by
   intro k hk
   have:=hf k (List.mem_range.2 hk)
   simp only [g] at this
   split at this
   ·cases this
   ·rename_i h1
    split at this
    ·cases this
    ·rename_i h2; exact ⟨by simpa using h1,h2⟩
  refine ⟨YLr fun k k0 hkl=>?_,fun k hkl=>?_⟩
  ·have:=(hk k hkl).2
   have h3 : ¬ (0<k∧d.Nodes[k]!.ID≤d.Nodes[k-1]!.ID):=fun e=>this (.inr e)
   omega
  ·obtain ⟨e,e1,_⟩:=YJN _ (hn _ (YDR hkl))
   have:=(hk k hkl).1
   rw [e1] at this ⊢
   exact congrArg some this
theorem YMP {d:GDoc} (id:Int) (hm:d.Nodes.length≤1048576) (hs:YJA d.Nodes):YGF d id=some (match YHH d.Nodes id with | some k=>(k:Int) | none=>-1):=by
 unfold YGF
 obtain ⟨i,h1,h2⟩:=YQJ d id hm hs
 rw [h1,YAt]
 cases hf:YHH d.Nodes id with
 | none=>rfl
 | some k=>rw [h2 k hf]; rfl
end Go.Proofs.YtdafahjmopdleaaGreatDoor.Al


namespace Go.Proofs.YtdafahjmopdleaaGreatDoor.Al
end Go.Proofs.YtdafahjmopdleaaGreatDoor.Al


namespace Go.Proofs.YtdafahjmopdleaaGreatDoor.Al
end Go.Proofs.YtdafahjmopdleaaGreatDoor.Al


namespace Go.Proofs.YtdafahjmopdleaaGreatDoor.Al
end Go.Proofs.YtdafahjmopdleaaGreatDoor.Al


namespace Go.Proofs.YtdafahjmopdleaaGreatDoor.Al
end Go.Proofs.YtdafahjmopdleaaGreatDoor.Al


namespace Go.Proofs.YtdafahjmopdleaaGreatDoor.Al
end Go.Proofs.YtdafahjmopdleaaGreatDoor.Al


namespace Go.Proofs.YtdafahjmopdleaaGreatDoor.Al
end Go.Proofs.YtdafahjmopdleaaGreatDoor.Al


namespace Go.Proofs.YtdafahjmopdleaaGreatDoor.Al
end Go.Proofs.YtdafahjmopdleaaGreatDoor.Al


namespace Go.Proofs.YtdafahjmopdleaaGreatDoor.Al
end Go.Proofs.YtdafahjmopdleaaGreatDoor.Al


namespace Go.Proofs.YtdafahjmopdleaaGreatDoor.Al
end Go.Proofs.YtdafahjmopdleaaGreatDoor.Al


namespace Go.Proofs.YtdafahjmopdleaaGreatDoor.Al
def BadR (n f t:Int):Prop:=n<0∨2147483647<n∨f<0∨t<f∨n<t
instance (n f t:Int):Decidable (BadR n f t):=by unfold BadR; infer_instance
end Go.Proofs.YtdafahjmopdleaaGreatDoor.Al


namespace Go.Proofs.YtdafahjmopdleaaGreatDoor.Al
end Go.Proofs.YtdafahjmopdleaaGreatDoor.Al


namespace Go.Proofs.YtdafahjmopdleaaGreatDoor.Al
theorem YPx {n:YAJ} (h:okN2 n) (h0:YAr n=some 0) (hg:YCo n.Kind=some true):okRC n.Grid.Rows n.Grid.Cols:=by
 have hk:n.Kind=2∨n.Kind=6:=by
  unfold YCo at hg
  simpa using hg
 have ht:YEd n.Kind=some false:=by unfold YEd; rcases hk with e | e <;> rw [e] <;> rfl
 have hl:YEe n.Kind=some false:=by unfold YEe; rcases hk with e | e <;> rw [e] <;> rfl
 unfold YAr at h0
 split at h0
 ·cases h0
 split at h0
 ·cases h0
 obtain ⟨e,_,h0⟩:=YGS h0
 split at h0
 ·rename_i c; injection h0 with h0; rw [h0] at c; simp at c
 obtain ⟨r1,e1,h0⟩:=YGS h0
 rw [ht] at e1
 cases e1
 obtain ⟨r2,e2,h0⟩:=YGS h0
 have e2':r2=false:=by
  rw [show ((false:Bool) == false)=true from rfl,YAG,hl] at e2
  injection e2 with e2; exact e2.symm
 subst e2'
 obtain ⟨g,eg,h0⟩:=YGS h0
 rw [hg] at eg
 cases eg
 obtain ⟨x1,_,h0⟩:=YGS h0
 split at h0
 ·cases h0
 rw [if_neg (show ¬ (false || false)=true by decide),if_pos rfl] at h0
 obtain ⟨e5,e6,h0⟩:=YGS h0
 split at h0
 ·rename_i c; injection h0 with h0; rw [h0] at c; simp at c
 ·rename_i c
  have c0:e5=0:=by simpa using c
  rw [YHB _ h.gd,c0] at e6
  injection e6 with e6
  unfold YHc at e6
  split at e6
  ·cases e6
  ·rename_i hc; exact Classical.not_not.1 hc
theorem YSi {n:YAJ} (h0:YAr n=some 0):1≤n.ID∧n.ID≤1073741824:=by
 unfold YAr at h0
 split at h0
 ·cases h0
 ·rename_i c
  simp only [Bool.or_eq_true,decide_eq_true_eq] at c
  omega
theorem YP0 (d:GDoc) (site:Int) (h:YKI d) (h0:YCE d=some 0) : ∃ n e,YFY d site=some (n,e):=by
 obtain ⟨hs,hall⟩:=YOB h h0
 have hm:=h.1
 unfold YFY
 rw [h0,YAA,if_neg (by decide)]
 split
 ·exact ⟨_,_,rfl⟩
 ·rename_i hc
  simp only [Bool.or_eq_true,decide_eq_true_eq] at hc
  have hsh:shlC .i64 site 16=site * 65536:=by
   unfold shlC
   have:(2:Int) ^ (min 16 (IntKind.i64).bits)=65536:=by decide
   rw [this]
   have:=YEh (z:=site * 65536) (by omega) (by omega)
   exact (YIX this).1
  obtain ⟨b,hb,hq⟩:=YE9 (f:=fun (a:Int × Int)=>YDn d site a.1 a.2) d.Nodes.length
   (fun k st=>st.2=(k:Int)∧0≤st.1∧st.1≤1073741824) (fun b=>0≤b∧b≤1073741824)
   (fun k st hk hst=>by
    obtain ⟨a,x⟩:=st
    obtain ⟨rfl,ha⟩:=hst
    left
    unfold YDn
    dsimp only
    rw [if_pos (decide_eq_true (show (k:Int)<(d.Nodes.length:Int) by omega)),YAF hk,YAA]
    unfold YIW
    rw [YAA]
    by_cases hsx:shrC .i64 d.Nodes[k]!.ID 16=site
    ·rw [if_pos (decide_eq_true hsx),YAA,YAR (by omega)]
     have:=YSi (hall k hk)
     exact ⟨_,rfl,rfl,by dsimp only; omega,by dsimp only; omega⟩
    ·rw [if_neg (by simpa using hsx),YAA,YAR (by omega)]
     exact ⟨_,rfl,rfl,ha⟩)
   (fun st hst=>by
    obtain ⟨a,x⟩:=st
    obtain ⟨rfl,ha⟩:=hst
    unfold YDn
    dsimp only
    rw [if_neg (by simp)]
    exact ⟨_,rfl,ha⟩)
   (s:=(shlC .i64 site 16,0)) ⟨rfl,by rw [hsh]; dsimp only; omega⟩
  rw [hb,YAA]
  split
  ·exact ⟨_,_,rfl⟩
  ·rw [YD5 (by omega) (by omega),YAA]
   exact ⟨_,_,rfl⟩
theorem YMv (d:GDoc) (id:Int) (h:YKI d) :
  (∃ e,e≠0∧YCE d=some e∧YBu d=some e) ∨
  (YCE d=some 0∧YBu d=some 0∧YHH d.Nodes id=none) ∨
  (∃ k g,k<d.Nodes.length∧YHH d.Nodes id=some k∧d.Nodes[k]!.ID=id∧okN2 d.Nodes[k]! ∧ YCE d=some 0∧YBu d=some 0∧YCo d.Nodes[k]!.Kind=some g∧(g=true→okRC d.Nodes[k]!.Grid.Rows d.Nodes[k]!.Grid.Cols)):=by
 obtain ⟨e,h1,h2⟩:=YRb d h
 by_cases he:e=0
 ·subst he
  obtain ⟨hs,hall⟩:=YOB h h1
  cases hf:YHH d.Nodes id with
  | none=>exact .inr (.inl ⟨h1,h2,rfl⟩)
  | some k=>
   obtain ⟨hk,hid⟩:=YHG hf
   have hn:=h.2 _ (YDR hk)
   exact .inr (.inr ⟨k,_,hk,rfl,hid,hn,h1,h2,rfl,fun hg=>YPx hn (hall k hk) (by unfold YCo; rw [hg])⟩)
 ·exact .inl ⟨e,he,h1,h2⟩
end Go.Proofs.YtdafahjmopdleaaGreatDoor.Al


namespace Go.Proofs.YtdafahjmopdleaaGreatDoor.Al
def adS (c:List YAB) (k n:Int):List YAB:=if 0<n then c++[⟨k,n⟩] else c
theorem YEx (c:List YAB) (k n:Int):(adS c k n).length≤c.length+1:=by
 unfold adS
 split
 ·simp
 ·omega
theorem YRW {c:List YAB} {k n:Int} (h:c.length≤1000):YAU c k n=some (adS c k n):=by
 unfold YAU adS
 by_cases hn:0<n
 ·rw [if_pos (decide_eq_true hn),if_pos hn,YSD (by omega),YAA]
 ·rw [if_neg (by simpa using hn),if_neg hn]
def shW (size at_ n:Int):List YAB:=adS (adS (adS (adS [] 0 at_) 1 n) 2 (-n)) 0 (size-at_-max 0 (-n))
theorem YPR (size at_ n:Int):(shW size at_ n).length≤4:=by
 have h1:=YEx [] 0 at_
 have h2:=YEx (adS [] 0 at_) 1 n
 have h3:=YEx (adS (adS [] 0 at_) 1 n) 2 (-n)
 have h4:=YEx (adS (adS (adS [] 0 at_) 1 n) 2 (-n)) 0 (size-at_-max 0 (-n))
 unfold shW
 simp only [List.length_nil] at h1
 omega
def badS (size at_ n:Int):Prop:=n < -2147483647∨n=0∨at_<0∨size<at_∨(n<0∧size-at_ < -n)
instance (size at_ n:Int):Decidable (badS size at_ n):=by unfold badS; infer_instance
theorem YSU {size at_ n : Int} (hs : 0 ≤ size ∧ size ≤ 2147483647) (hb : ¬ badS size at_ n) (hn : ¬ 1000 < n) : YOt (shW size at_ n) = if 2147483647 < size + n then 3 else 0 := by
  unfold badS at hb
  have key : ∀ w : List YAB, (∀ j, j < w.length → errS w j = none) → YDP w = size → YDQ w = size + n → YOt w = if 2147483647 < size + n then 3 else 0 := by
    intro w h1 h2 h3
    rw [YOs h1, h2, h3]
    by_cases h : 2147483647 < size + n
    · rw [if_pos (.inr h), if_pos h]
    · rw [if_neg (by omega), if_neg h]
  unfold shW adS
  by_cases ha : 0 < at_ <;> by_cases hp : 0 < n <;> by_cases hq : 0 < -n <;> by_cases hr : 0 < size - at_ - max 0 (-n) <;> simp only [ha, hp, hq, hr, if_true, if_false, List.nil_append, List.cons_append] <;> first
    | omega
    | (refine key _ (fun j hj => ?_) (by simp [YDP, oldN]; omega) (by simp [YDQ, nowN]; omega)
       have : j = 0 ∨ j = 1 ∨ j = 2 := by simp at hj; omega
       rcases this with rfl | rfl | rfl <;> first
         | (exfalso; simp at hj; done)
         | (unfold errS; simp; omega))
theorem YNk {size at_ n:Int} (hs:0≤size∧size≤2147483647):YBo size at_ n=some (if badS size at_ n then ([],2) else if 1000<n then ([],3) else (shW size at_ n,if 2147483647<size+n then 3 else 0)):=by
 unfold YBo
 by_cases h4:n < -2147483647∨n=0∨at_<0∨size<at_
 ·have e:((((decide (n<(-2147483647))) || (decide (n=0))) || (decide (at_<0))) || (decide (size<at_)))=true:=by
   simp only [Bool.or_eq_true,decide_eq_true_eq]; omega
  rw [e]
  rw [if_pos (show badS size at_ n by unfold badS; omega)]
  rfl
 ·have e:((((decide (n<(-2147483647))) || (decide (n=0))) || (decide (at_<0))) || (decide (size<at_)))=false:=by
   rw [Bool.eq_false_iff]; simp only [ne_eq,Bool.or_eq_true,decide_eq_true_eq]; omega
  rw [e]
  have main : ∀ b:Bool,b=decide (badS size at_ n)→(if b=true then some (([]:List YAB),(2:Int)) else if decide (1000<n)=true then some ([],3) else
   bnd1 (YAU [] 0 at_) fun (w1:List YAB)=>
   bnd1 (YAU w1 1 n) fun (w2:List YAB)=>
   bnd1 (chk .i64 (-n)) fun (x3:Int)=>
   bnd1 (YAU w2 2 x3) fun (w3:List YAB)=>
   bnd1 (chk .i64 (size-at_)) fun (x4:Int)=>
   bnd1 (chk .i64 (x4-(max 0 x3))) fun (x5:Int)=>
   bnd1 (YAU w3 0 x5) fun (w4:List YAB)=>
   bnd1 (YEJ w4) fun (r1:Int)=>
   some (w4,r1))=some (if badS size at_ n then ([],2) else if 1000<n then ([],3) else (shW size at_ n,if 2147483647<size+n then 3 else 0)):=by
   rintro b rfl
   by_cases hb:badS size at_ n
   ·rw [if_pos (decide_eq_true hb),if_pos hb]
   ·rw [if_neg (by simpa using hb),if_neg hb]
    by_cases hn:1000<n
    ·rw [if_pos (decide_eq_true hn),if_pos hn]
    ·have l1:=YEx [] 0 at_
     have l2:=YEx (adS [] 0 at_) 1 n
     have l3:=YEx (adS (adS [] 0 at_) 1 n) 2 (-n)
     simp only [List.length_nil] at l1
     have hb':=hb
     unfold badS at hb'
     rw [if_neg (by simpa using hn),if_neg hn,YRW (by simp),YAA,YRW (by omega),YAA,YD5 (by omega) (by omega),YAA,YRW (by omega),YAA,YD5 (by omega) (by omega),YAA,YD5 (by omega) (by omega),YAA,YRW (by omega),YAA]
     have hl:=YPR size at_ n
     have he:=YSU hs hb hn
     unfold shW at hl he
     rw [YLM _ (by omega),YAA,he]
     rfl
  by_cases hn:n<0
  ·rw [decide_eq_true hn]
   have c1:chk .i64 (-n)=some (-n):=YD5 (by omega) (by omega)
   have c2:chk .i64 (size-at_)=some (size-at_):=YD5 (by omega) (by omega)
   have m:=main (false || true && decide (size-at_ < -n)) (by
    rw [Bool.false_or,Bool.true_and,decide_eq_decide]
    unfold badS; omega)
   rw [c1,c2] at m
   rw [show ((false == false) && (true == true))=true from rfl,YAG,YAG,c1,YAA,c2,YAA]
   exact m
  ·rw [decide_eq_false hn]
   rw [show ((false == false) && (false == true))=false from rfl,YCv,YCv,YAA,YAA]
   refine main _ ?_
   rw [Bool.false_or,Bool.false_and]
   symm; rw [decide_eq_false_iff_not]; unfold badS; omega
theorem YGl (o:GOp) (hn:okN o.New) (ha:o.Attrs.length≤1048576) (hd:o.Steps=[]) (hg:o.Grid.Rows.length≤1048576∧o.Grid.Cols.length≤1048576∧(o.Grid.Cells.length≤1048576 ∧ ∀ x∈o.Grid.Cells,x.Attrs.length≤1073741824)∧o.Grid.Split.length≤1048576∧o.Grid.Merge.length≤1048576) (hw:o.Draw=[]):YBI o o=some true:=by
 unfold YBI
 have e1:(decide (o.Kind=o.Kind) && decide (o.Node=o.Node))=true:=by simp
 have h1:YCz o.New o.New=some true:=by rw [YM7 _ _ hn]; simp
 have h2:YBD o.Attrs o.Attrs=some true:=by rw [YB8 _ _ (by omega)]; simp
 have h3:YCX o.Steps o.Steps=some true:=by rw [hd,YIH _ _ (by simp) (by simp)]; simp
 have h4:YDy o.Grid o.Grid=some true:=by
  obtain ⟨g1,g2,⟨g3,g4⟩,g5,g6⟩:=hg
  unfold YDy
  rw [YFg _ _ (by omega),YFg _ _ (by omega),YHt _ _ (by omega) g4,YF2 _ _ (by omega),YF2 _ _ (by omega)]
  simp
 have h5:YCO o.Draw o.Draw=some true:=by
  rw [hw]
  unfold YCO
  rw [if_neg (by simp),YAk (r:=.nrm ()) (by unfold YCH; rw [if_neg (by simp)])]; rfl
 rw [e1,h1,h2,h3,h4,h5]; rfl
end Go.Proofs.YtdafahjmopdleaaGreatDoor.Al


namespace Go.Proofs.YtdafahjmopdleaaGreatDoor.Al
def YG6 (id:Int) (rows:Bool) (w:List YAB):GOp:=GOp.mk 3 id (YAJ.mk 0 0 [] [] (YAv.mk 0 0 [] []) []) [] [] (if rows then YAh.mk w [] [] [] [] else YAh.mk [] w [] [] []) []
def shR (id size at_ n:Int) (rows:Bool):List GOp × Int:=if badS size at_ n then ([],2) else if 1000<n∨2147483647<size+n then ([],3) else ([YG6 id rows (shW size at_ n)],0)
theorem YK5 {at_ n x1 x3:Int} {k:Nat} {w:List YAB} {s:YAB} (hk:k<4) (hw:w.length≤1000) (hs:([⟨0,at_⟩,⟨1,n⟩,⟨2,x1⟩,⟨0,x3⟩]:List YAB)[k]? = some s):YAl at_ n x1 x3 (k:Int) w=some (.inl (((k+1:Nat):Int),adS w s.Kind s.N)):=by
 unfold YAl
 have hi:idx ([(YAB.mk 0 at_),(YAB.mk 1 n),(YAB.mk 2 x1),(YAB.mk 0 x3)]:List YAB) (k:Int)=some s:=by
  have hl:k<([(YAB.mk 0 at_),(YAB.mk 1 n),(YAB.mk 2 x1),(YAB.mk 0 x3)]:List YAB).length:=hk
  rw [YRH hl,← List.getElem?_eq_getElem hl,hs]
 rw [if_pos (decide_eq_true (show (k:Int)<4 by omega)),hi,YAA]
 unfold adS
 by_cases h0:0<s.N
 ·rw [if_pos (decide_eq_true h0),if_pos h0,YSD (by omega),YAA,YAA,YAR (by omega)]; rfl
 ·rw [if_neg (by simpa using h0),if_neg h0,YAA,YAR (by omega)]; rfl
theorem YSn (size at_ n:Int):iter (fun (a:Int × (List YAB))=>YAl at_ n (-n) (size-at_-max 0 (-n)) a.1 a.2) (0,[])=some (shW size at_ n):=by
 have l1:=YEx [] 0 at_
 have l2:=YEx (adS [] 0 at_) 1 n
 have l3:=YEx (adS (adS [] 0 at_) 1 n) 2 (-n)
 simp only [List.length_nil] at l1
 have e0:=YK5 (at_:=at_) (n:=n) (x1:=-n) (x3:=size-at_-max 0 (-n)) (k:=0) (w:=[]) (by omega) (by simp) rfl
 have e1:=YK5 (at_:=at_) (n:=n) (x1:=-n) (x3:=size-at_-max 0 (-n)) (k:=1) (w:=adS [] 0 at_) (by omega) (by omega) rfl
 have e2:=YK5 (at_:=at_) (n:=n) (x1:=-n) (x3:=size-at_-max 0 (-n)) (k:=2) (w:=adS (adS [] 0 at_) 1 n) (by omega) (by omega) rfl
 have e3:=YK5 (at_:=at_) (n:=n) (x1:=-n) (x3:=size-at_-max 0 (-n)) (k:=3) (w:=adS (adS (adS [] 0 at_) 1 n) 2 (-n)) (by omega) (by omega) rfl
 rw [YBT (f:=fun (a:Int × (List YAB))=>YAl at_ n (-n) (size-at_-max 0 (-n)) a.1 a.2) (s:=(0,[])) e0,
  YBT (f:=fun (a:Int × (List YAB))=>YAl at_ n (-n) (size-at_-max 0 (-n)) a.1 a.2) e1,
  YBT (f:=fun (a:Int × (List YAB))=>YAl at_ n (-n) (size-at_-max 0 (-n)) a.1 a.2) e2,
  YBT (f:=fun (a:Int × (List YAB))=>YAl at_ n (-n) (size-at_-max 0 (-n)) a.1 a.2) e3]
 refine YAk ?_
 show YAl at_ n (-n) (size-at_-max 0 (-n)) ((3+1:Nat):Int) _=_
 unfold YAl
 rw [if_neg (by decide)]
 rfl
theorem YHq (id size at_ n:Int) (rows:Bool) (hs:0≤size∧size≤2147483647):YDl (shR id size at_ n rows).1 (shR id size at_ n rows).2 id size at_ n rows=some true:=by
 have hf : ∀ G:Int→Option Bool,(bnd1 (
  bnd1 (gd ((((((decide (n=0)) || (decide (n<(-2147483647)))) || (decide (at_<0))) || (decide (size<at_))) == false) && ((decide (n<0)) == true)) (chk .i64 (size-at_))) fun (x10:Int)=>
  bnd1 (gd ((((((decide (n=0)) || (decide (n<(-2147483647)))) || (decide (at_<0))) || (decide (size<at_))) == false) && ((decide (n<0)) == true)) (chk .i64 (-n))) fun (x11:Int)=>
  if (((((decide (n=0)) || (decide (n<(-2147483647)))) || (decide (at_<0))) || (decide (size<at_))) || ((decide (n<0)) && (decide (x10<x11)))) then (
   some 2
  ) else (
   bnd1 (gd ((decide (1000<n)) == false) (chk .i64 (size+n))) fun (x12:Int)=>
   if ((decide (1000<n)) || (decide (2147483647<x12))) then (
    some 3
   ) else (
    some 0
   )
  )) G)=G (if badS size at_ n then 2 else if 1000<n∨2147483647<size+n then 3 else 0):=by
  intro G
  have tail : ¬ badS size at_ n→(bnd1 (gd ((decide (1000<n)) == false) (chk .i64 (size+n))) fun (x12:Int)=>
   if ((decide (1000<n)) || (decide (2147483647<x12))) then (some (3:Int)) else (some 0))=some (if 1000<n∨2147483647<size+n then 3 else 0):=by
   intro hb
   unfold badS at hb
   by_cases hn:1000<n
   ·rw [decide_eq_true hn,if_pos (Or.inl hn)]; rfl
   ·rw [decide_eq_false hn,show ((false:Bool) == false)=true from rfl,YAG,YD5 (by omega) (by omega),YAA,Bool.false_or]
    by_cases h2:2147483647<size+n
    ·rw [if_pos (decide_eq_true h2),if_pos (Or.inr h2)]
    ·rw [if_neg (by simpa using h2),if_neg (by omega)]
  by_cases h4:n < -2147483647∨n=0∨at_<0∨size<at_
  ·have e:((((decide (n=0)) || (decide (n<(-2147483647)))) || (decide (at_<0))) || (decide (size<at_)))=true:=by
    simp only [Bool.or_eq_true,decide_eq_true_eq]; omega
   rw [e,if_pos (show badS size at_ n by unfold badS; omega)]
   rfl
  ·have e:((((decide (n=0)) || (decide (n<(-2147483647)))) || (decide (at_<0))) || (decide (size<at_)))=false:=by
    rw [Bool.eq_false_iff]; simp only [ne_eq,Bool.or_eq_true,decide_eq_true_eq]; omega
   rw [e]
   by_cases hn:n<0
   ·rw [decide_eq_true hn,show ((false == false) && (true == true))=true from rfl,YAG,YAG,YD5 (show -9223372036854775808≤size-at_ by omega) (by omega),YAA,YD5 (show -9223372036854775808 ≤ -n by omega) (by omega),YAA]
    by_cases hb:size-at_ < -n
    ·rw [decide_eq_true hb,if_pos (show (false || true && true)=true from rfl),if_pos (show badS size at_ n by unfold badS; omega),YAA]
    ·have hb' : ¬ badS size at_ n:=by unfold badS; omega
     rw [decide_eq_false hb,if_neg (by decide),tail hb',if_neg hb',YAA]
   ·have hb' : ¬ badS size at_ n:=by unfold badS; omega
    rw [decide_eq_false hn,show ((false == false) && (false == true))=false from rfl,YCv,YCv,YAA,YAA,show (false || (false && decide ((default:Int)<default)))=false from rfl,if_neg (by decide),tail hb',if_neg hb',YAA]
 unfold YDl
 rw [hf]
 unfold shR
 by_cases hb:badS size at_ n
 ·rw [if_pos hb,if_pos hb]
  rfl
 ·rw [if_neg hb,if_neg hb]
  by_cases h3:1000<n∨2147483647<size+n
  ·rw [if_pos h3,if_pos h3]
   rfl
  ·rw [if_neg h3,if_neg h3]
   have hb':=hb
   unfold badS at hb'
   rw [if_neg (by decide),YD5 (show -9223372036854775808 ≤ -n by omega) (by omega),YAA,YD5 (show -9223372036854775808≤size-at_ by omega) (by omega),YAA,YD5 (by omega) (by omega),YAA,YSn,YAA]
   have hl:=YPR size at_ n
   have hz:okN (YAJ.mk 0 0 [] [] (YAv.mk 0 0 [] []) []):=by
    constructor <;> simp [okA,YIL,okG]
   have hsame : ∀ r,YBI (YG6 id r (shW size at_ n)) (YG6 id r (shW size at_ n))=some true:=fun r=>
    YGl _ hz (by simp [YG6]) rfl (by cases r <;> simp [YG6] <;> omega) rfl
   generalize shW size at_ n=w at hsame
   have s1:=hsame rows
   cases rows
   ·rw [if_neg (by decide),YAA]
    show (bnd1 (YBI (YG6 id false w) (YG6 id false w)) fun (r1:Bool)=>some (true && r1))=some true
    rw [s1]; rfl
   ·rw [if_pos rfl,YAA]
    show (bnd1 (YBI (YG6 id true w) (YG6 id true w)) fun (r1:Bool)=>some (true && r1))=some true
    rw [s1]; rfl
end Go.Proofs.YtdafahjmopdleaaGreatDoor.Al


namespace Go.Proofs.YtdafahjmopdleaaGreatDoor.Al
theorem YHF (p:Nat→Bool) : ∀ n:Nat,(∃ k,k<n∧p k=true ∧ ∀ j,j<k→p j=false) ∨ ∀ j,j<n→p j=false
 | 0=>.inr fun j hj=>absurd hj (Nat.not_lt_zero j)
 | n+1=>by
  rcases YHF p n with ⟨k,h1,h2,h3⟩ | h
  ·exact .inl ⟨k,by omega,h2,h3⟩
  ·cases hn:p n with
   | true=>exact .inl ⟨n,by omega,hn,h⟩
   | false=>
    refine .inr fun j hj=>?_
    by_cases e:j=n
    ·rw [e,hn]
    ·exact h j (by omega)
def isC (m:YAJ) (row col:Int) (k:Nat):Bool:=decide (m.Grid.Cells[k]!.Row=row) && decide (m.Grid.Cells[k]!.Col=col)
theorem YMT {ρ:Type} {F:Int→Option (Int ⊕ Ctl Unit ρ)} (m:YAJ) (row col:Int) (G:YAL→ρ)
  (h1 : ∀ k:Nat,k<m.Grid.Cells.length→F (k:Int)=if isC m row col k=true then some (.inr (.ext (G m.Grid.Cells[k]!))) else some (.inl ((k+1:Nat):Int))) (h2:F (m.Grid.Cells.length:Int)=some (.inr (.nrm ()))) :
  iter F 0=some (YGU ((List.range m.Grid.Cells.length).findSome? fun k=>if isC m row col k=true then some (G m.Grid.Cells[k]!) else none)):=by
 refine YAX _ (fun k hk=>?_) h2
 rw [h1 k hk]
 cases isC m row col k <;> rfl
def op0R (nx:Int):GOp:=GOp.mk 0 0 (YAJ.mk nx 3 [] [YAN.mk 10 0 []] (YAv.mk 0 0 [] []) []) [] [] (YAh.mk [] [] [] [] []) []
def op1R (id row col nx:Int):GOp:=GOp.mk 3 id (YAJ.mk 0 0 [] [] (YAv.mk 0 0 [] []) []) [] [] (YAh.mk [] [] [YAL.mk row col [] nx []] [] []) []
theorem YPw (nx:Int):YBI (op0R nx) (op0R nx)=some true:=by
 refine YGl _ ?_ (by simp [op0R]) rfl (by simp [op0R]) rfl
 constructor <;> simp [op0R,okA,YIL,okG]
theorem YPv (id row col nx:Int):YBI (op1R id row col nx) (op1R id row col nx)=some true:=by
 refine YGl _ ?_ (by simp [op1R]) rfl (by simp [op1R]) rfl
 constructor <;> simp [op1R,okA,YIL,okG]
theorem YNW (d:GDoc) (m:YAJ) (id row col site nx e:Int) (hid:m.ID=id) (hm:m.Grid.Cells.length≤1048576) (hrc:okRC m.Grid.Rows m.Grid.Cols) (ht:YAa d id=some (m,0)) (hn:YFY d site=some (nx,e)) :
  ∃ c cell f,YBf d id row col site=some (c,cell,f)∧YCa d m row col site c cell f=some true:=by
 obtain ⟨r1,r2,r3,r4⟩:=hrc
 unfold YBf
 rw [ht,YAt,if_neg (by decide)]
 by_cases hk:m.Kind=2
 ·rw [if_neg (ndF hk)]
  have hin : ∀ (c:List GOp) (cell f:Int) (K:Int→Option Bool),(bnd1 (
   if (!decide (m.Kind=2)) then (some 8) else (
   bnd1 (chk .i64 (m.Grid.Rows-1)) fun (x9:Int)=>
   bnd1 (YBj row 0 x9) fun (r6:Bool)=>
   bnd1 (gd ((!r6) == false) (chk .i64 (m.Grid.Cols-1))) fun (x10:Int)=>
   bnd1 (gd ((!r6) == false) (YBj col 0 x10)) fun (r7:Bool)=>
   if ((!r6) || (!r7)) then (some 2) else (some 0))) K)=K (if row<0∨m.Grid.Rows≤row∨col<0∨m.Grid.Cols≤col then 2 else 0):=by
   intro c cell f K
   rw [if_neg (ndF hk),YD5 (by omega) (by omega),YAA,YAp,YAA]
   by_cases h1:0≤row∧row≤m.Grid.Rows-1
   ·rw [decide_eq_true h1,show ((!true) == false)=true from rfl,YAG,YD5 (by omega) (by omega),YAA,YAG,YAp,YAA]
    by_cases h2:0≤col∧col≤m.Grid.Cols-1
    ·rw [decide_eq_true h2,if_neg (by decide),if_neg (by omega),YAA]
    ·rw [decide_eq_false h2,if_pos (by decide),if_pos (by omega),YAA]
   ·rw [decide_eq_false h1,show ((!false) == false)=false from rfl,YCv,YAA,YCv,YAA,if_pos (by simp),if_pos (by omega),YAA]
  by_cases hr:row<0∨m.Grid.Rows≤row∨col<0∨m.Grid.Cols≤col
  ·refine ⟨[],0,2,?_,?_⟩
   ·rw [if_pos (by simp only [Bool.or_eq_true,decide_eq_true_eq]; omega)]
   ·unfold YCa
    rw [hin [] 0 2,if_pos hr]; rfl
  ·rw [if_neg (by simp only [Bool.or_eq_true,decide_eq_true_eq]; omega)]
   have L1:iter (fun (a:Int)=>YBO row col m a) 0=some (YGU ((List.range m.Grid.Cells.length).findSome? fun k=>if isC m row col k=true then some (([]:List GOp),m.Grid.Cells[k]!.Ref,(0:Int)) else none)):=by
    refine YMT m row col (fun c=>(([]:List GOp),c.Ref,(0:Int))) (fun k hk=>?_) ?_
    ·unfold YBO
     rw [if_pos (decide_eq_true (show (k:Int)<(m.Grid.Cells.length:Int) by omega)),YAF hk,YAA]
     show (if isC m row col k=true then _ else _)=_
     cases isC m row col k
     ·rw [if_neg (by decide),if_neg (by decide),YAR (by omega)]; rfl
     ·rfl
    ·unfold YBO
     rw [if_neg (by simp)]
   have L2 : ∀ (c:List GOp) (cell f:Int),iter (fun (a:Int)=>YCZ m row col c cell f a) 0=some (YGU ((List.range m.Grid.Cells.length).findSome? fun k=>if isC m row col k=true then some (((decide (f=0)) && (decide ((c.length:Int)=0))) && (decide (cell=m.Grid.Cells[k]!.Ref))) else none)):=by
    intro c cell f
    refine YMT m row col (fun x=>((decide (f=0)) && (decide ((c.length:Int)=0))) && (decide (cell=x.Ref))) (fun k hk=>?_) ?_
    ·unfold YCZ
     rw [if_pos (decide_eq_true (show (k:Int)<(m.Grid.Cells.length:Int) by omega)),YAF hk,YAA]
     show (if isC m row col k=true then _ else _)=_
     cases isC m row col k
     ·rw [if_neg (by decide),if_neg (by decide),YAR (by omega)]; rfl
     ·rfl
    ·unfold YCZ
     rw [if_neg (by simp)]
   rw [L1,YAy]
   rcases YHF (isC m row col) m.Grid.Cells.length with ⟨k,k1,k2,k3⟩ | hnone
   ·refine ⟨[],m.Grid.Cells[k]!.Ref,0,?_,?_⟩
    ·rw [YHe k1 (fun j hj=>by rw [k3 j hj]; rfl) (by rw [k2]; rfl)]
    ·unfold YCa
     rw [hin [] m.Grid.Cells[k]!.Ref 0,if_neg hr,if_neg (by decide),L2,YAy,YHe k1 (fun j hj=>by rw [k3 j hj]; rfl) (by rw [k2]; rfl)]
     simp
   ·rw [YGE (fun j hj=>by rw [hnone j hj]; rfl)]
    dsimp only
    rw [hn,YAt]
    by_cases he:e=0
    ·subst he
     refine ⟨[op0R nx,op1R id row col nx],nx,0,?_,?_⟩
     ·rw [if_neg (by decide)]; rfl
     ·unfold YCa
      rw [hin [op0R nx,op1R id row col nx] nx 0,if_neg hr,if_neg (by decide),L2,YAy,YGE (fun j hj=>by rw [hnone j hj]; rfl)]
      dsimp only
      rw [hn,YAt,if_neg (by decide)]
      have e1:(((decide ((0:Int)=0)) && (decide (nx=nx))) && (decide ((([op0R nx,op1R id row col nx]:List GOp).length:Int)=2)))=true:=by simp
      rw [e1,hid]
      show (bnd1 (YBI (op0R nx) (op0R nx)) _)=_
      rw [YPw,YAA]
      show (bnd1 (bnd1 (YBI (op1R id row col nx) (op1R id row col nx)) _) _)=_
      rw [YPv]; rfl
    ·refine ⟨[],0,e,?_,?_⟩
     ·rw [if_pos (ndT he)]
     ·unfold YCa
      rw [hin [] 0 e,if_neg hr,if_neg (by decide),L2,YAy,YGE (fun j hj=>by rw [hnone j hj]; rfl)]
      dsimp only
      rw [hn,YAt,if_pos (ndT he)]
      simp
 ·refine ⟨[],0,8,?_,?_⟩
  ·rw [if_pos (ndT hk)]
  ·unfold YCa
   rw [if_pos (ndT hk),YAA]
   rfl
theorem YSW {d:GDoc} {id at_ n:Int} {m:YAJ} (hrc:okRC m.Grid.Rows m.Grid.Cols) (ht:YAa d id=some (m,0)):YBe d id at_ n=some (shR id m.Grid.Rows at_ n true)∧YA9 d id at_ n=some (shR id m.Grid.Cols at_ n false):=by
 obtain ⟨r1,r2,r3,r4⟩:=hrc
 unfold YBe YA9
 rw [ht,YAt,if_neg (by decide),YAt,if_neg (by decide),YNk ⟨r1,r2⟩,YNk ⟨r3,r4⟩]
 unfold shR
 constructor
 ·by_cases hb:badS m.Grid.Rows at_ n
  ·rw [if_pos hb,if_pos hb]; rfl
  ·rw [if_neg hb,if_neg hb]
   by_cases h1:1000<n
   ·rw [if_pos h1,if_pos (.inl h1)]; rfl
   ·rw [if_neg h1]
    by_cases h2:2147483647<m.Grid.Rows+n
    ·rw [if_pos (Or.inr h2),if_pos h2]; rfl
    ·rw [if_neg (show ¬ (1000<n∨2147483647<m.Grid.Rows+n) by omega),if_neg h2]; rfl
 ·by_cases hb:badS m.Grid.Cols at_ n
  ·rw [if_pos hb,if_pos hb]; rfl
  ·rw [if_neg hb,if_neg hb]
   by_cases h1:1000<n
   ·rw [if_pos h1,if_pos (.inl h1)]; rfl
   ·rw [if_neg h1]
    by_cases h2:2147483647<m.Grid.Cols+n
    ·rw [if_pos (Or.inr h2),if_pos h2]; rfl
    ·rw [if_neg (show ¬ (1000<n∨2147483647<m.Grid.Cols+n) by omega),if_neg h2]; rfl
theorem YFm (d:GDoc) (id at_ n site:Int) (h:YKI d):YBV d id at_ n site=some true:=by
 have hm:=h.1
 have bad : ∀ e,e≠0→YAa d id=some (YAJ.mk 0 0 [] [] (YAv.mk 0 0 [] []) [],e)→YBe d id at_ n=some ([],e)∧YA9 d id at_ n=some ([],e)∧YBf d id at_ n site=some ([],0,e):=by
  intro e he ht
  refine ⟨?_,?_,?_⟩
  ·unfold YBe; rw [ht,YAt,if_pos (ndT he)]
  ·unfold YA9; rw [ht,YAt,if_pos (ndT he)]
  ·unfold YBf; rw [ht,YAt,if_pos (ndT he)]
 have hix:=YMP (d:=d) id hm
 unfold YBV YD9
 rw [YAA,if_neg (by decide)]
 rcases YMv d id h with ⟨e,he,h1,h2⟩ | ⟨h1,h2,hf⟩ | ⟨k,g,hk,hf,hid,hn,h1,h2,hg,hrc⟩
 ·have ht:YAa d id=some (YAJ.mk 0 0 [] [] (YAv.mk 0 0 [] []) [],e):=by
   unfold YAa
   rw [h1,YAA,if_pos (ndT he)]
  obtain ⟨b1,b2,b3⟩:=bad e he ht
  rw [b1,b2,b3,YAt,YAt,YHM,h2,YAA,decide_eq_false he]
  rw [show ((false:Bool) == true)=false from rfl,YCv,YAA,Bool.false_and,if_neg (by decide),YAA,decide_eq_false he]
  rw [show ((false:Bool) == true)=false from rfl,YCv,YAA,YCv,YAA,YCv,YAA,Bool.false_and,if_neg (by decide),YAA,if_pos (ndT he),decide_eq_true rfl]
  rfl
 ·have ht:YAa d id=some (YAJ.mk 0 0 [] [] (YAv.mk 0 0 [] []) [],7):=by
   unfold YAa
   rw [h1,YAA,if_neg (by decide),hix (YOB h h1).1,hf,YAA,if_pos (by decide)]
  obtain ⟨b1,b2,b3⟩:=bad 7 (by decide) ht
  rw [b1,b2,b3,YAt,YAt,YHM,h2,YAA,YGm d id hm,hf]
  rfl
 ·have hfd:YED d id=some (k:Int):=by rw [YGm d id hm,hf]
  have ht0:YAa d id=if g=true then some (d.Nodes[k]!,0) else some (YAJ.mk 0 0 [] [] (YAv.mk 0 0 [] []) [],8):=by
   unfold YAa
   rw [h1,YAA,if_neg (by decide),hix (YOB h h1).1,hf,YAA,if_neg (by simp),YAF hk,YAA,hg,YAA]
   cases g <;> rfl
  have hgr:YCw d.Nodes[k]!.Kind=some g:=by rw [YKP,hg]
  cases g with
  | false=>
   rw [if_neg (by decide)] at ht0
   obtain ⟨b1,b2,b3⟩:=bad 8 (by decide) ht0
   rw [b1,b2,b3,YAt,YAt,YHM,h2,YAA,hfd]
   rw [show ((decide ((0:Int)=0)) == true)=true from rfl,YAG,YAA,if_neg (by simp),YAA]
   rw [show ((decide ((0:Int)=0)) == true)=true from rfl,YAG,YAA,YAG,YAF hk,YAA,YAG,hgr]
   rfl
  | true=>
   rw [if_pos rfl] at ht0
   have hrc':=hrc rfl
   obtain ⟨c1,c2⟩:=YSW (at_:=at_) (n:=n) hrc' ht0
   obtain ⟨nx,e,hnx⟩:=YP0 d site h h1
   obtain ⟨c,cell,f,k1,k2⟩:=YNW d d.Nodes[k]! id at_ n site nx e hid hn.ok.gr.1 hrc' ht0 hnx
   have s1:=YHq id d.Nodes[k]!.Grid.Rows at_ n true ⟨hrc'.1,hrc'.2.1⟩
   have s2:=YHq id d.Nodes[k]!.Grid.Cols at_ n false ⟨hrc'.2.2.1,hrc'.2.2.2⟩
   generalize shR id d.Nodes[k]!.Grid.Rows at_ n true=R at c1 s1
   generalize shR id d.Nodes[k]!.Grid.Cols at_ n false=C at c2 s2
   obtain ⟨R1,R2⟩:=R
   obtain ⟨C1,C2⟩:=C
   rw [c1,c2,k1,YAt,YAt,YHM,h2,YAA,hfd]
   rw [show ((decide ((0:Int)=0)) == true)=true from rfl,YAG,YAA,if_neg (by simp),YAA]
   rw [show ((decide ((0:Int)=0)) == true)=true from rfl,YAG,YAA,YAG,YAF hk,YAA,YAG,hgr,YAA,if_neg (by decide),YAA,if_neg (by decide),YAA,YAF hk,YAA,s1,YAA]
   rw [show ((true:Bool) == true)=true from rfl,YAG,s2,YAA]
   rw [show ((true && true:Bool) == true)=true from rfl,YAG,k2]
   rfl
end Go.Proofs.YtdafahjmopdleaaGreatDoor.Al

