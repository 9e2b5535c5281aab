/- Plain laws over the models, a part of them. -/
import Derived.Test.YtdafahjmopdleaaGreatDoorMod1
import Derived.Lib.DecodeNEq
import Derived.Lib.TrimUEq
import Derived.Lib.ValidLaws
namespace Go.Proofs.YtdafahjmopdleaaGreatDoor.Al
@[simp] theorem YAA {a α:Type} (x:a) (f:a→Option α):bnd1 (some x) f=f x:=rfl
@[simp] theorem YAz {a b α:Type} (x:a) (y:b) (f:a→b→Option α):bnd2 (some (x,y)) f=f x y:=rfl
@[simp] theorem bnd3_some {a b c α:Type} (x:a) (y:b) (z:c) (f:a→b→c→Option α):bnd3 (some (x,y,z)) f=f x y z:=rfl
@[simp] theorem bnd4_some {a b c d α:Type} (x:a) (y:b) (z:c) (u:d) (f:a→b→c→d→Option α):bnd4 (some (x,y,z,u)) f=f x y z u:=rfl
@[simp] theorem YKF {a α:Type} (x:a) (f:a→Option α):ctl1 (some (.nrm x)) f=f x:=rfl
@[simp] theorem ctl1_ext {a α:Type} (t:α) (f:a→Option α):ctl1 (some (.ext t)) f=some t:=rfl
@[simp] theorem YKE {a b α:Type} (x:a) (y:b) (f:a→b→Option α):ctl2 (some (.nrm (x,y))) f=f x y:=rfl
@[simp] theorem ctl2_ext {a b α:Type} (t:α) (f:a→b→Option α):ctl2 (some (.ext t)) f=some t:=rfl
@[simp] theorem YQm {a b c α:Type} (x:a) (y:b) (z:c) (f:a→b→c→Option α):ctl3 (some (.nrm (x,y,z))) f=f x y z:=rfl
@[simp] theorem ctl3_ext {a b c α:Type} (t:α) (f:a→b→c→Option α):ctl3 (some (.ext t)) f=some t:=rfl
@[simp] theorem YAL {α:Type} [Inhabited α] (m:Option α):gd true m=m:=rfl
@[simp] theorem YCf {α:Type} [Inhabited α] (m:Option α):gd false m=some default:=rfl
theorem YAH {α:Type} [Inhabited α] {l:List α} {k:Nat} (h:k<l.length):idx l (k:Int)=some l[k]!:=by
 unfold idx
 rw [if_pos (Int.natCast_nonneg k),Int.toNat_natCast,List.getElem?_eq_getElem h,getElem!_pos l k h]
theorem YAM {k:Nat} (h:k<9223372036854775807):chk .i64 ((k:Int)+1)=some (((k+1:Nat)):Int):=by
 rw [YDi (by omega) (by omega)]; rfl
theorem YDO {k:Nat} (h:0<k) (h2:k≤9223372036854775807):chk .i64 ((k:Int)-1)=some ((k-1:Nat):Int):=by
 rw [YDi (by omega) (by omega)]; congr 1; omega
def YBb {ρ:Type} (k:Nat):Option ρ→Option (Int ⊕ Ctl Unit ρ)
 | none=>some (.inl ((k+1:Nat):Int))
 | some r=>some (.inr (.ext r))
def YIV {ρ:Type} : Option ρ→Ctl Unit ρ
 | none=>.nrm ()
 | some r=>.ext r
theorem YAe {ρ:Type} {f:Int→Option (Int ⊕ Ctl Unit ρ)} {n:Nat} (g:Nat→Option ρ) (h1 : ∀ k:Nat,k<n→f k=YBb k (g k))
  (h2:f n=some (.inr (.nrm ()))):iter f 0=some (YIV ((List.range n).findSome? g)):=by
 have key : ∀ m k:Nat,k+m=n→iter f (k:Int)=some (YIV ((List.range' k m).findSome? g)):=by
  intro m
  induction m with
  | zero=>
   intro k hk
   obtain rfl:k=n:=by omega
   rw [YAi h2]; rfl
  | succ m ih=>
   intro k hk
   rw [List.range'_succ,List.findSome?_cons]
   have:=h1 k (by omega)
   cases hg:g k with
   | none=>rw [hg] at this; rw [YBg this,ih (k+1) (by omega)]
   | some r=>rw [hg] at this; rw [YAi this]; rfl
 rw [List.range_eq_range']
 exact key n 0 (by omega)
theorem YHm {α ρ:Type} {l:List α} {g h:α→Option ρ} (e : ∀ x∈l,g x=h x):l.findSome? g=l.findSome? h:=by
 induction l with
 | nil=>rfl
 | cons a l ih=>rw [List.findSome?_cons,List.findSome?_cons,e a (List.mem_cons_self ..),ih fun x hx=>e x (List.mem_cons_of_mem _ hx)]
theorem YNK {α ρ:Type} [Inhabited α] (l:List α) (p:α→Bool) (r:ρ):(List.range l.length).findSome? (fun k=>if p l[k]! then none else some r)=if l.all p then none else some r:=by
 induction l with
 | nil=>rfl
 | cons a l ih=>
  rw [List.length_cons,List.range_succ_eq_map,List.findSome?_cons,List.findSome?_map]
  have hr:(List.range l.length).findSome? ((fun k=>if p (a :: l)[k]! = true then none else some r) ∘ Nat.succ)=if l.all p=true then none else some r:=by
   rw [← ih]; exact YHm fun k _=>by simp
  rw [hr]
  by_cases hp:p a=true
  ·simp [hp]
  ·simp [hp]
theorem YBS {ρ:Type} (o:Option ρ) (f:Unit→Option ρ):ctl1 (some (YIV o)) f=match o with | none=>f () | some r=>some r:=by cases o <;> rfl
end Go.Proofs.YtdafahjmopdleaaGreatDoor.Al


namespace Go.Proofs.YtdafahjmopdleaaGreatDoor.Al
def chOK (c:UInt8):Bool:=(decide (97≤c.toNat) && decide (c.toNat≤122)) || (decide (48≤c.toNat) && decide (c.toNat≤57)) || decide (c.toNat=46) || decide (c.toNat=45)
def YF8 (s:List UInt8):Bool:=decide (1≤s.length) && decide (s.length≤24) && (decide (97≤s[0]!.toNat) && decide (s[0]!.toNat≤122)) && s.all chOK
def YKg (c:UInt8):Bool:=decide (32≤c.toNat) && decide (c.toNat≤126)
def YHe (s:List UInt8):Bool:=decide (1≤s.length) && decide (s.length≤200) && s.all YKg
theorem YLz (s:List UInt8) (k:Nat) (hk:k<s.length) (hm:s.length≤9223372036854775807):YDt s k=YBb k (if chOK s[k]! then none else some false):=by
 unfold YDt
 rw [if_pos (by simpa using hk),YAH hk,YAA,YAM (by omega)]
 generalize s[k]! = c
 have e:(((((decide ((c.toNat:Int)<97)) || (decide (122<(c.toNat:Int)))) && ((decide ((c.toNat:Int)<48)) || (decide (57<(c.toNat:Int))))) && (!decide ((c.toNat:Int)=46))) && (!decide ((c.toNat:Int)=45))) = !chOK c:=by
  unfold chOK
  rw [Bool.eq_iff_iff]
  simp only [Bool.or_eq_true,Bool.and_eq_true,decide_eq_true_eq,Bool.not_eq_true',decide_eq_false_iff_not,Bool.or_eq_false_iff,Bool.and_eq_false_imp]
  omega
 rw [e]
 cases chOK c <;> rfl
theorem YJi (s:List UInt8) (hm:s.length≤9223372036854775807):YGJ s=some (YF8 s):=by
 unfold YGJ
 rw [YAe (n:=s.length) (fun k=>if chOK s[k]! then none else some false) (fun k hk=>YLz s k hk hm) (by unfold YDt; rw [if_neg (by simp)]),YNK]
 unfold YF8
 cases s with
 | nil=>simp
 | cons c t=>
  have h0:idx (c :: t) 0=some c:=rfl
  rw [h0]
  simp only [List.getElem!_cons_zero,decide_eq_false (List.cons_ne_nil c t),Bool.false_or]
  generalize (c :: t).all chOK=al
  generalize hl:(c :: t).length=L
  have hL:1≤L:=by rw [← hl]; simp
  by_cases h1:24<(L:Int)
  ·have e1:decide (L≤24)=false:=by simp; omega
   simp [h1,e1]
  ·rw [decide_eq_false h1]
   simp only [Bool.false_or,beq_self_eq_true,YAL,YAA]
   have e1:decide (L≤24)=true:=by simp; omega
   have e2:decide (1≤L)=true:=by simp; omega
   rw [e1,e2]
   by_cases h2:(c.toNat:Int)<97
   ·have e3:decide (97≤c.toNat)=false:=by simp; omega
    simp [h2,e3]
   ·rw [decide_eq_false h2]
    have e3:decide (97≤c.toNat)=true:=by simp; omega
    simp only [beq_self_eq_true,YAL,YAA,Bool.false_or]
    by_cases h3:122<(c.toNat:Int)
    ·have e4:decide (c.toNat≤122)=false:=by simp; omega
     simp [h3,e4]
    ·have e4:decide (c.toNat≤122)=true:=by simp; omega
     rw [if_neg (by simpa using h3),YBS,e3,e4]
     cases al <;> rfl
def YLt (k:Nat) (c:UInt8):Bool:=(decide (97≤c.toNat) && decide (c.toNat≤122)) || (decide (k≠0) && chOK c)
theorem YM0 (s:List UInt8) (k:Nat) (hk:k<s.length) (hm:s.length≤9223372036854775807) :
  YEU s k=YBb k (if YLt k s[k]! then none else some false):=by
 unfold YEU
 rw [if_pos (by simpa using hk),YAH hk,YAA,YAM (by omega)]
 generalize s[k]! = c
 have e:((!((decide (97≤(c.toNat:Int))) && (decide ((c.toNat:Int)≤122)))) && ((decide ((k:Int)=0)) || (((!decide ((c.toNat:Int)=46)) && (!decide ((c.toNat:Int)=45))) && ((decide ((c.toNat:Int)<48)) || (decide (57<(c.toNat:Int))))))) = !YLt k c:=by
  unfold YLt chOK
  rw [Bool.eq_iff_iff]
  simp only [Bool.or_eq_true,Bool.and_eq_true,decide_eq_true_eq,Bool.not_eq_true',decide_eq_false_iff_not,Bool.or_eq_false_iff,Bool.and_eq_false_imp]
  omega
 rw [e]
 cases YLt k c <;> rfl
theorem YI3 {ρ:Type} (n:Nat) (g:Nat→Option ρ):(List.range n).findSome? g=none ↔ ∀ k,k<n→g k=none:=by
 rw [List.findSome?_eq_none_iff]; simp
theorem YWX {α:Type} [Inhabited α] (l:List α) (p:α→Bool):l.all p=true ↔ ∀ k,k<l.length→p l[k]! = true:=by
 rw [List.all_eq_true]
 constructor
 ·intro h k hk; rw [getElem!_pos l k hk]; exact h _ (List.getElem_mem hk)
 ·intro h x hx
  obtain ⟨k,hk,rfl⟩:=List.mem_iff_getElem.1 hx
  rw [← getElem!_pos l k hk]; exact h k hk
theorem YDN {ρ:Type} (n:Nat) (p:Nat→Bool) (r:ρ):(List.range n).findSome? (fun k=>if p k then none else some r)=if (List.range n).all p then none else some r:=by
 generalize List.range n=l
 induction l with
 | nil=>rfl
 | cons a l ih=>rw [List.findSome?_cons,List.all_cons,]; by_cases h:p a=true <;> simp [h,ih]
theorem YK5 (s:List UInt8) (hm:s.length≤9223372036854775807):YHT s=some (YF8 s):=by
 unfold YHT
 rw [YAe (n:=s.length) (fun k=>if YLt k s[k]! then none else some false) (fun k hk=>YM0 s k hk hm) (by unfold YEU; rw [if_neg (by simp)]),YDN,YBS]
 have key:((List.range s.length).all fun k=>YLt k s[k]!)=(decide (s=[]) || ((decide (97≤s[0]!.toNat) && decide (s[0]!.toNat≤122)) && s.all chOK)):=by
  rw [Bool.eq_iff_iff,List.all_eq_true]
  simp only [List.mem_range,Bool.or_eq_true,decide_eq_true_eq,Bool.and_eq_true,YWX]
  constructor
  ·intro h
   cases hs:s with
   | nil=>exact .inl rfl
   | cons c t=>
    rw [← hs]
    have hl:0<s.length:=by rw [hs]; simp
    have h0:=h 0 hl
    simp only [YLt,Bool.or_eq_true,Bool.and_eq_true,decide_eq_true_eq] at h0
    refine .inr ⟨by omega,fun k hk=>?_⟩
    have:=h k hk
    simp only [YLt,chOK,Bool.or_eq_true,Bool.and_eq_true,decide_eq_true_eq] at this ⊢
    omega
  ·rintro (rfl | ⟨h1,h2⟩) k hk
   ·cases hk
   ·have:=h2 k hk
    by_cases hk0:k=0
    ·subst hk0; simp only [YLt,Bool.or_eq_true,Bool.and_eq_true,decide_eq_true_eq]; omega
    ·simp only [YLt,Bool.or_eq_true,Bool.and_eq_true,decide_eq_true_eq]; exact .inr ⟨hk0,this⟩
 rw [key]
 unfold YF8
 cases s with
 | nil=>rfl
 | cons c t=>
  rw [decide_eq_false (List.cons_ne_nil c t),Bool.false_or]
  generalize (c :: t).all chOK=al
  generalize (decide (97≤(c :: t)[0]!.toNat) && decide ((c :: t)[0]!.toNat≤122))=fc
  have e1:decide (1≤((c :: t).length:Int))=decide (1≤(c :: t).length):=by simp; omega
  have e2:decide (((c :: t).length:Int)≤24)=decide ((c :: t).length≤24):=by simp; omega
  rw [e1,e2]
  cases fc <;> cases al <;> simp
theorem YGZ (s:List UInt8) (hm:s.length≤9223372036854775807):YDs s=some (YHe s):=by
 unfold YDs YHe
 rw [YAe (n:=s.length) (fun k=>if YKg s[k]! then none else some false) (fun k hk=>by
  unfold YEK
  rw [if_pos (by simpa using hk),YAH hk,YAA,YAM (by omega)]
  generalize s[k]! = c
  have e:((decide ((c.toNat:Int)<32)) || (decide (126<(c.toNat:Int)))) = !YKg c:=by
   unfold YKg
   rw [Bool.eq_iff_iff]
   simp only [Bool.or_eq_true,Bool.and_eq_true,decide_eq_true_eq,Bool.not_eq_true',decide_eq_false_iff_not,Bool.and_eq_false_imp]
   omega
  rw [e]
  cases YKg c <;> rfl) (by unfold YEK; rw [if_neg (by simp)]),YNK,YBS]
 generalize s.all YKg=al
 cases s with
 | nil=>simp
 | cons c t=>
  rw [decide_eq_false (List.cons_ne_nil c t),Bool.false_or]
  generalize hl:(c :: t).length=L
  have hL:1≤L:=by rw [← hl]; simp
  by_cases h1:200<(L:Int)
  ·have e1:decide (L≤200)=false:=by simp; omega
   simp [h1,e1]
  ·have e1:decide (L≤200)=true:=by simp; omega
   have e2:decide (1≤L)=true:=by simp; omega
   rw [if_neg (by simpa using h1),e1,e2]
   cases al <;> rfl
theorem YJW (s:List UInt8) (hm:s.length≤9223372036854775807):YF2 s=some (YHe s):=by
 unfold YF2 YHe
 rw [YAe (n:=s.length) (fun k=>if YKg s[k]! then none else some false) (fun k hk=>by
  unfold YEj
  rw [if_pos (by simpa using hk),YAH hk,YAA,YAM (by omega)]
  generalize s[k]! = c
  have e:((decide ((c.toNat:Int)<32)) || (decide (126<(c.toNat:Int)))) = !YKg c:=by
   unfold YKg
   rw [Bool.eq_iff_iff]
   simp only [Bool.or_eq_true,Bool.and_eq_true,decide_eq_true_eq,Bool.not_eq_true',decide_eq_false_iff_not,Bool.and_eq_false_imp]
   omega
  rw [e]
  cases YKg c <;> rfl) (by unfold YEj; rw [if_neg (by simp)]),YNK,YBS]
 generalize s.all YKg=al
 have e1:decide (1≤(s.length:Int))=decide (1≤s.length):=by simp; omega
 have e2:decide ((s.length:Int)≤200)=decide (s.length≤200):=by simp; omega
 rw [e1,e2]
 cases al <;> simp
theorem YMv (a b:UInt8) (x y:List UInt8):sLt (a :: x) (b :: y)=(decide (a<b) || (a == b && sLt x y)):=rfl
theorem YSM : ∀ (a b:List UInt8),(sLt a b || decide (a=b)) = !sLt b a
 | [],[]=>rfl
 | [],_ :: _=>rfl
 | _ :: _,[]=>rfl
 | a :: x,b :: y=>by
  rw [YMv,YMv]
  have ih:=YSM x y
  by_cases h:a=b
  ·subst h
   have h1 : ¬ a<a:=fun h=>by simp [UInt8.lt_iff_toNat_lt] at h
   simp only [decide_eq_false h1,beq_self_eq_true,Bool.true_and,Bool.false_or,List.cons.injEq,true_and]
   exact ih
  ·have h2:(a == b)=false:=by simpa using h
   have h3:(b == a)=false:=by simpa using fun e:b=a=>h e.symm
   have h4 : ¬ (a :: x=b :: y):=fun e=>h (List.cons.inj e).1
   rw [h2,h3,decide_eq_false h4]
   simp only [Bool.false_and,Bool.or_false]
   have h5:a.toNat≠b.toNat:=fun e=>h (UInt8.toNat_inj.1 e)
   by_cases hlt:a<b
   ·have : ¬ b<a:=by rw [UInt8.lt_iff_toNat_lt] at hlt ⊢; omega
    simp [hlt,this]
   ·have:b<a:=by rw [UInt8.lt_iff_toNat_lt] at hlt ⊢; omega
    simp [hlt,this]
def YLC (l:List YAG):Prop:=∀ a∈l,a.Name.length≤9223372036854775807∧a.Value.length≤9223372036854775807
def errA (l:List YAG) (ch:Bool) (k:Nat):Option Int:=
 if YF8 l[k]!.Name=false then some 9 else if YHe l[k]!.Value=false ∧ ¬ (ch=true∧l[k]!.Value=[]) then some 23 else if 0<k∧sLt l[k-1]!.Name l[k]!.Name=false then some 5 else none
def YAx (l:List YAG) (ch:Bool):Int:=((List.range l.length).findSome? (errA l ch)).getD 0
theorem YLC.at {l:List YAG} (h:YLC l) {k:Nat} (hk:k<l.length):l[k]!.Name.length≤9223372036854775807∧l[k]!.Value.length≤9223372036854775807:=by
 rw [getElem!_pos l k hk]; exact h _ (List.getElem_mem hk)
theorem YLV (l:List YAG) (ch:Bool) (h:YLC l) (hm:l.length≤9223372036854775807) (k:Nat) (hk:k<l.length):YDQ l ch k=YBb k (errA l ch k):=by
 unfold YDQ errA
 obtain ⟨hn1,hn2⟩:=h.at hk
 rw [if_pos (by simpa using hk),YAH hk,YAA]
 generalize l[k]! = x at hn1 hn2 ⊢
 rw [YJi _ hn1,YAA]
 cases YF8 x.Name
 ·rfl
 rw [if_neg (by decide),if_neg (by decide),YGZ _ hn2,YAA,YAM (by omega)]
 by_cases hv:YHe x.Value=false ∧ ¬ (ch=true∧x.Value=[])
 ·rw [if_pos hv,if_pos (by simp [hv.1]; cases ch <;> simp_all)]; rfl
 rw [if_neg hv,if_neg (by intro e; simp at e; exact hv ⟨e.1,by rintro ⟨a,b⟩; simp [a,b] at e⟩)]
 by_cases hk0:k=0
 ·subst hk0; rfl
 ·have h0:decide ((0:Int)<(k:Int))=true:=by simp; omega
  rw [h0,YDO (by omega) (by omega)]
  simp only [beq_self_eq_true,YAL,YAA,Bool.true_and]
  rw [YAH (by omega),YAA,YSM]
  have:(0<k∧sLt l[k-1]!.Name x.Name=false)↔sLt l[k-1]!.Name x.Name=false:=by constructor; exact fun h=>h.2; exact fun h=>⟨by omega,h⟩
  simp only [this]
  cases sLt l[k-1]!.Name x.Name <;> rfl
theorem YH2 (l:List YAG) (ch:Bool) (h:YLC l) (hm:l.length≤9223372036854775807) (k:Nat) (hk:k<l.length):YBn l ch k=YBb k (errA l ch k):=by
 unfold YBn errA
 obtain ⟨hn1,hn2⟩:=h.at hk
 rw [if_pos (by simpa using hk),YAH hk,YAA]
 generalize l[k]! = x at hn1 hn2 ⊢
 rw [YK5 _ hn1,YAA]
 cases YF8 x.Name
 ·rfl
 rw [if_neg (by decide),if_neg (by decide),YJW _ hn2,YAA,YAM (by omega)]
 by_cases hv:YHe x.Value=false ∧ ¬ (ch=true∧x.Value=[])
 ·rw [if_pos hv,if_pos (by simp [hv.1]; cases ch <;> simp_all)]; rfl
 rw [if_neg hv,if_neg (by intro e; simp at e; exact hv ⟨e.1,by rintro ⟨a,b⟩; simp [a,b] at e⟩)]
 by_cases hk0:k=0
 ·subst hk0; rfl
 ·have h0:decide ((0:Int)<(k:Int))=true:=by simp; omega
  rw [h0,YDO (by omega) (by omega)]
  simp only [beq_self_eq_true,YAL,YAA,Bool.true_and]
  rw [YAH (by omega),YAA]
  have:(0<k∧sLt l[k-1]!.Name x.Name=false)↔sLt l[k-1]!.Name x.Name=false:=by constructor; exact fun h=>h.2; exact fun h=>⟨by omega,h⟩
  simp only [this]
  cases sLt l[k-1]!.Name x.Name <;> rfl
theorem YCd {o:Option Int} : (ctl1 (some (YIV o)) fun _:Unit=>some 0)=some (o.getD 0):=by cases o <;> rfl
theorem YIi (l:List YAG) (ch:Bool) (h:YLC l) (hm:l.length≤9223372036854775807):YFK l ch=some (YAx l ch):=by
 unfold YFK
 rw [YAe (n:=l.length) (errA l ch) (fun k hk=>YLV l ch h hm k hk) (by unfold YDQ; rw [if_neg (by simp)]),YCd]; rfl
theorem YDL (l:List YAG) (ch:Bool) (h:YLC l) (hm:l.length≤9223372036854775807):YBm l ch=some (YAx l ch):=by
 unfold YBm
 rw [YAe (n:=l.length) (errA l ch) (fun k hk=>YH2 l ch h hm k hk) (by unfold YBn; rw [if_neg (by simp)]),YCd]; rfl
theorem YGb (l:List YAG) (h:YLC l) (hm:l.length≤9223372036854775807):YEZ l=some (YAx l false):=by unfold YEZ; rw [YIi l _ h hm]; rfl
theorem YDj (l:List YAG) (h:YLC l) (hm:l.length≤9223372036854775807):YBA l=some (YAx l true):=by unfold YBA; rw [YIi l _ h hm]; rfl
def getA (l:List YAG) (name:List UInt8):List UInt8:=((List.range l.length).findSome? fun k=>if l[k]!.Name=name then some l[k]!.Value else none).getD []
theorem YOF {o:Option (List UInt8)} : (ctl1 (some (YIV o)) fun _:Unit=>some [])=some (o.getD []):=by cases o <;> rfl
theorem YIB (l:List YAG) (name:List UInt8) (hm:l.length≤9223372036854775807):YGa l name=some (getA l name):=by
 unfold YGa
 rw [YAe (n:=l.length) (fun k=>if l[k]!.Name=name then some l[k]!.Value else none) (fun k hk=>by
  unfold YFe
  rw [if_pos (by simpa using hk),YAH hk,YAA,YAM (by omega)]
  generalize l[k]! = x
  by_cases h:x.Name=name <;> simp [h,YBb]) (by unfold YFe; rw [if_neg (by simp)]),YOF]; rfl
theorem YRH (l:List YAG) (name:List UInt8) (hm:l.length≤9223372036854775807):YK6 l name=some (getA l name):=by
 unfold YK6
 rw [YAe (n:=l.length) (fun k=>if l[k]!.Name=name then some l[k]!.Value else none) (fun k hk=>by
  unfold YF5
  rw [if_pos (by simpa using hk),YAH hk,YAA,YAM (by omega)]
  generalize l[k]! = x
  by_cases h:x.Name=name <;> simp [h,YBb]) (by unfold YF5; rw [if_neg (by simp)]),YOF]; rfl
end Go.Proofs.YtdafahjmopdleaaGreatDoor.Al


namespace Go.Proofs.YtdafahjmopdleaaGreatDoor.Al
theorem YLU (x y:YAG):x=y↔x.Name=y.Name∧x.Value=y.Value:=by cases x; cases y; simp
theorem YEt (a b:List YAG) (hm:a.length≤9223372036854775807):YDE a b=some (decide (a=b)):=by
 unfold YDE
 by_cases hl:a.length=b.length
 ·rw [if_neg (by simp [hl]),YAe (n:=a.length) (fun k=>if decide (a[k]! = b[k]!) then none else some false) (fun k hk=>by
   unfold YEu
   rw [if_pos (by simpa using hk),YAH hk,YAH (by omega),YAA,YAA,YAM (by omega)]
   generalize a[k]! = x
   generalize b[k]! = y
   by_cases h:x=y
   ·subst h; simp [YBb]
   ·have h':=h; rw [YLU] at h'
    simp only [decide_eq_false h,Bool.and_true]
    by_cases h1:x.Name=y.Name
    ·have h2 : ¬ x.Value=y.Value:=fun e=>h' ⟨h1,e⟩
     simp [h1,h2,YBb]
    ·simp [h1,YBb]) (by unfold YEu; rw [if_neg (by simp)]),YDN,YBS]
  by_cases h:a=b
  ·subst h; simp
  ·rw [decide_eq_false h]
   have:((List.range a.length).all fun k=>decide (a[k]! = b[k]!))=false:=by
    rw [← Bool.not_eq_true,List.all_eq_true]
    intro hall
    apply h
    apply List.ext_getElem hl
    intro k h1 h2
    have:=hall k (List.mem_range.2 h1)
    simp only [decide_eq_true_eq] at this
    rwa [getElem!_pos a k h1,getElem!_pos b k h2] at this
   rw [this]; rfl
 ·rw [if_pos (by simp; omega),decide_eq_false (by rintro rfl; exact hl rfl)]
theorem YBz (a b:List YAG) (hm:a.length≤9223372036854775807):YBK a b=some (decide (a=b)):=by
 unfold YBK
 by_cases hl:a.length=b.length
 ·rw [if_neg (by simp [hl]),YAe (n:=a.length) (fun k=>if decide (a[k]! = b[k]!) then none else some false) (fun k hk=>by
   unfold YCn
   rw [if_pos (by simpa using hk),YAH hk,YAH (by omega),YAA,YAA,YAM (by omega)]
   generalize a[k]! = x
   generalize b[k]! = y
   by_cases h:x=y
   ·subst h; simp [YBb]
   ·have h':=h; rw [YLU] at h'
    simp only [decide_eq_false h,Bool.and_true]
    by_cases h1:x.Name=y.Name
    ·have h2 : ¬ x.Value=y.Value:=fun e=>h' ⟨h1,e⟩
     simp [h1,h2,YBb]
    ·simp [h1,YBb]) (by unfold YCn; rw [if_neg (by simp)]),YDN,YBS]
  by_cases h:a=b
  ·subst h; simp
  ·rw [decide_eq_false h]
   have:((List.range a.length).all fun k=>decide (a[k]! = b[k]!))=false:=by
    rw [← Bool.not_eq_true,List.all_eq_true]
    intro hall
    apply h
    apply List.ext_getElem hl
    intro k h1 h2
    have:=hall k (List.mem_range.2 h1)
    simp only [decide_eq_true_eq] at this
    rwa [getElem!_pos a k h1,getElem!_pos b k h2] at this
   rw [this]; rfl
 ·rw [if_pos (by simp; omega),decide_eq_false (by rintro rfl; exact hl rfl)]
end Go.Proofs.YtdafahjmopdleaaGreatDoor.Al


namespace Go.Proofs.YtdafahjmopdleaaGreatDoor.Al
theorem YVq (a:List UInt8):sLt a []=false:=by cases a <;> rfl
theorem YN3 : ∀ {a b c:List UInt8},sLt a b=true→sLt b c=true→sLt a c=true
 | _,[],_,h,_=>by rw [YVq] at h; cases h
 | _,_ :: _,[],_,h=>by cases h
 | [],_ :: _,_ :: _,_,_=>rfl
 | a :: x,b :: y,c :: z,h,k=>by
  rw [YMv] at h k ⊢
  simp only [Bool.or_eq_true,decide_eq_true_eq,Bool.and_eq_true,beq_iff_eq,UInt8.lt_iff_toNat_lt] at h k ⊢
  rcases h with h | ⟨rfl,h⟩ <;> rcases k with k | ⟨rfl,k⟩
  ·left; omega
  ·left; exact h
  ·left; exact k
  ·right; exact ⟨rfl,YN3 h k⟩
def Srt (l:List YAG):Prop:=l.Pairwise fun x y=>sLt x.Name y.Name=true
def fnd:List YAG→List UInt8→Option YAG
 | [],_=>none
 | x :: l,n=>if x.Name=n then some x else fnd l n
theorem YUf {l:List YAG} {n:List UInt8} {e:YAG} (h:fnd l n=some e):e.Name=n∧e∈l:=by
 induction l with
 | nil=>cases h
 | cons x l ih=>
  rw [fnd] at h
  split at h
  ·cases h; exact ⟨‹_›,List.mem_cons_self ..⟩
  ·exact ⟨(ih h).1,List.mem_cons_of_mem _ (ih h).2⟩
theorem YP9 {x:YAG} {l:List YAG} : Srt (x :: l)↔(∀ e∈l,sLt x.Name e.Name=true)∧Srt l:=List.pairwise_cons
end Go.Proofs.YtdafahjmopdleaaGreatDoor.Al


namespace Go.Proofs.YtdafahjmopdleaaGreatDoor.Al
def Nm (l:List YAG):Prop:=∀ e∈l,e.Name≠[]
theorem YPL {l:List YAG} (h : ∀ k,k+1<l.length→sLt l[k]!.Name l[k+1]!.Name=true):Srt l:=by
 induction l with
 | nil=>exact List.Pairwise.nil
 | cons x l ih=>
  have hl:=ih fun k hk=>by have:=h (k+1) (by simp; omega); simpa using this
  refine YP9.2 ⟨fun e he=>?_,hl⟩
  cases l with
  | nil=>cases he
  | cons y l=>
   have h0:sLt x.Name y.Name=true:=by have:=h 0 (by simp); simpa using this
   rcases List.mem_cons.1 he with rfl | he
   ·exact h0
   ·exact YN3 h0 ((YP9.1 hl).1 e he)
theorem YV8 {l:List YAG} {ch:Bool} (h:YAx l ch=0):Srt l∧Nm l∧(ch=false → ∀ e∈l,e.Value≠[]):=by
 have hn : ∀ k,k<l.length→errA l ch k=none:=by
  intro k hk
  unfold YAx at h
  cases hf:(List.range l.length).findSome? (errA l ch) with
  | none=>exact (YI3 _ _).1 hf k hk
  | some r=>
   rw [hf] at h
   obtain ⟨j,_,hj⟩:=List.exists_of_findSome?_eq_some hf
   exfalso
   unfold errA at hj
   simp only [Option.getD_some] at h
   subst h
   repeat' split at hj
   all_goals simp at hj
 have hname : ∀ k,k<l.length→YF8 l[k]!.Name=true ∧ ¬ (YHe l[k]!.Value=false ∧ ¬ (ch=true∧l[k]!.Value=[])) ∧ ¬ (0<k∧sLt l[k-1]!.Name l[k]!.Name=false):=by
  intro k hk
  have:=hn k hk
  unfold errA at this
  split at this
  ·cases this
  ·split at this
   ·cases this
   ·split at this
    ·cases this
    ·exact ⟨by rcases hx:YF8 l[k]!.Name with _ | _; exact absurd hx (by assumption); rfl,‹_›,‹_›⟩
 refine ⟨YPL fun k hk=>?_,fun e he=>?_,fun hc e he=>?_⟩
 ·have:=(hname (k+1) hk).2.2
  rw [Nat.add_sub_cancel] at this
  simpa using this
 ·obtain ⟨k,hk,rfl⟩:=List.mem_iff_getElem.1 he
  have:=(hname k hk).1
  rw [getElem!_pos l k hk] at this
  intro e0
  rw [e0] at this
  simp [YF8] at this
 ·obtain ⟨k,hk,rfl⟩:=List.mem_iff_getElem.1 he
  have:=(hname k hk).2.1
  rw [getElem!_pos l k hk,hc] at this
  intro e0
  apply this
  rw [e0]
  exact ⟨rfl,by simp⟩
end Go.Proofs.YtdafahjmopdleaaGreatDoor.Al


namespace Go.Proofs.YtdafahjmopdleaaGreatDoor.Al
theorem YMM {ρ:Type} (g:YAG→Option ρ) (l:List YAG):(List.range l.length).findSome? (fun k=>g l[k]!)=l.findSome? g:=by
 induction l with
 | nil=>rfl
 | cons a l ih=>
  rw [List.length_cons,List.range_succ_eq_map,List.findSome?_cons,List.findSome?_map,List.findSome?_cons]
  have:(List.range l.length).findSome? ((fun k=>g (a :: l)[k]!) ∘ Nat.succ)=l.findSome? g:=by
   rw [← ih]; exact YHm fun k _=>by simp
  rw [this]
  simp
theorem YQd {ρ:Type} (l:List YAG) (n:List UInt8) (v:YAG→ρ):(l.findSome? fun x=>if x.Name=n then some (v x) else none)=(fnd l n).map v:=by
 induction l with
 | nil=>rfl
 | cons x l ih=>
  rw [List.findSome?_cons,fnd]
  by_cases h:x.Name=n
  ·simp [h]
  ·simp [h,ih]
theorem YV9 (l:List YAG) (n:List UInt8):getA l n=match fnd l n with | some x=>x.Value | none=>[]:=by
 unfold getA
 rw [YMM (fun x=>if x.Name=n then some x.Value else none) l,YQd l n (·.Value)]
 cases fnd l n <;> rfl
theorem YML (l:List YAG) (n:List UInt8) (hm:l.length≤9223372036854775807):YIx l n=some (fnd l n).isSome:=by
 unfold YIx
 rw [YAe (n:=l.length) (fun k=>(fun x:YAG=>if x.Name=n then some true else none) l[k]!) (fun k hk=>by
  unfold YF4
  rw [if_pos (by simpa using hk),YAH hk,YAA,YAM (by omega)]
  generalize l[k]! = x
  by_cases h:x.Name=n <;> simp [h,YBb]) (by unfold YF4; rw [if_neg (by simp)]),YMM (fun x:YAG=>if x.Name=n then some true else none) l,YQd l n (fun _=>true),YBS]
 cases fnd l n <;> rfl
end Go.Proofs.YtdafahjmopdleaaGreatDoor.Al


namespace Go.Proofs.YtdafahjmopdleaaGreatDoor.Al
theorem YDM {σ β:Type} {f:σ→Option (σ ⊕ β)} (n:Nat) (R:Nat→σ→Prop) (Q:β→Prop)
  (h1 : ∀ k s,k<n→R k s→(∃ s',f s=some (.inl s')∧R (k+1) s')∨(∃ b,f s=some (.inr b)∧Q b))
  (h2 : ∀ s,R n s → ∃ b,f s=some (.inr b)∧Q b) {s:σ} (h0:R 0 s) : ∃ b,iter f s=some b∧Q b:=by
 have key : ∀ m k s,k+m=n→R k s → ∃ b,iter f s=some b∧Q b:=by
  intro m
  induction m with
  | zero=>
   intro k s hk hR
   obtain rfl:k=n:=by omega
   obtain ⟨b,hb,hq⟩:=h2 s hR
   exact ⟨b,YAi hb,hq⟩
  | succ m ih=>
   intro k s hk hR
   rcases h1 k s (by omega) hR with ⟨s',h3,h4⟩ | ⟨b,h3,h4⟩
   ·obtain ⟨b,h5,h6⟩:=ih (k+1) s' (by omega) h4
    exact ⟨b,by rw [YBg h3,h5],h6⟩
   ·exact ⟨b,YAi h3,h4⟩
 exact key n 0 s (by omega) h0
theorem YGW {α:Type} [Inhabited α] {l:List α} {k:Nat} (h:k<l.length):l.drop k=l[k]! :: l.drop (k+1):=by
 rw [List.drop_eq_getElem_cons h,getElem!_pos l k h]
theorem YPF {α:Type} [Inhabited α] {l:List α} {k:Nat} (h:k<l.length):l.take (k+1)=l.take k++[l[k]!]:=by
 rw [List.take_add_one,List.getElem?_eq_getElem h,getElem!_pos l k h]; rfl
theorem YBR {α:Type} [Inhabited α] {l:List α} {k:Nat} (h:k<l.length):l[k]! ∈ l:=by
 rw [getElem!_pos l k h]; exact List.getElem_mem h
theorem YRR {ρ:Type} {n k:Nat} {g:Nat→Option ρ} {r:ρ} (hk:k<n) (h1 : ∀ j,j<k→g j=none) (h2:g k=some r):(List.range n).findSome? g=some r:=by
 obtain ⟨m,rfl⟩ : ∃ m,n=k+(m+1):=⟨n-k-1,by omega⟩
 rw [List.range_eq_range',← List.range'_append (s:=0) (m:=k) (n:=m+1) (step:=1),List.findSome?_append]
 have:(List.range' 0 k).findSome? g=none:=by
  rw [List.findSome?_eq_none_iff]; intro x hx; exact h1 x (by simpa using hx)
 rw [this,Nat.one_mul,Nat.zero_add,List.range'_succ,List.findSome?_cons,h2]; rfl
theorem YOd {ρ:Type} {n:Nat} {g:Nat→Option ρ} (h1 : ∀ j,j<n→g j=none):(List.range n).findSome? g=none:=by
 rw [List.findSome?_eq_none_iff]; intro x hx; exact h1 x (by simpa using hx)
theorem YTd {x:Int} (h1 : -9223372036854775808≤x) (h2:x≤9223372036854775807):chk .i64 x=some x:=YDi h1 h2
theorem YG8 (x lo hi:Int):YC2 x lo hi=some (decide (lo≤x) && decide (x≤hi)):=by
 unfold YC2
 rfl
end Go.Proofs.YtdafahjmopdleaaGreatDoor.Al


namespace Go.Proofs.YtdafahjmopdleaaGreatDoor.Al
theorem YS3 {α σ β γ:Type} [Inhabited α] {f:σ→Option (σ ⊕ β)} (l:List α) (mk:γ→Nat→σ) (sp:List α→γ→β) (I:Nat→γ→Prop)
  (h1 : ∀ k c,k<l.length→I k c→(∃ c',f (mk c k)=some (.inl (mk c' (k+1)))∧I (k+1) c'∧sp (l[k]! :: l.drop (k+1)) c=sp (l.drop (k+1)) c')∨f (mk c k)=some (.inr (sp (l[k]! :: l.drop (k+1)) c)))
  (h2 : ∀ c,I l.length c→f (mk c l.length)=some (.inr (sp [] c))) (c:γ) (h0:I 0 c) (s:σ) (hs:s=mk c 0):iter f s=some (sp l c):=by
 subst hs
 have key : ∀ m k c,k+m=l.length→I k c→iter f (mk c k)=some (sp (l.drop k) c):=by
  intro m
  induction m with
  | zero=>
   intro k c hk hI
   obtain rfl:k=l.length:=by omega
   rw [List.drop_length]
   exact YAi (h2 c hI)
  | succ m ih=>
   intro k c hk hI
   rw [YGW (by omega)]
   rcases h1 k c (by omega) hI with ⟨c',h3,h4,h5⟩ | h3
   ·rw [YBg h3,ih (k+1) c' (by omega) h4,h5]
   ·exact YAi h3
 have:=key l.length 0 c (by omega) h0
 rwa [List.drop_zero] at this
theorem app8 {o:List Int} {x:Int} (h:o.length+1≤1099511627776):app 8 o [x]=some (o++[x]):=by
 unfold app; rw [if_pos (by simp; omega)]
end Go.Proofs.YtdafahjmopdleaaGreatDoor.Al


namespace Go.Proofs.YtdafahjmopdleaaGreatDoor.Al
def YHL (c:Int):Bool:=decide (c=9) || decide (c=10) || (decide (32≤c) && decide (c≤126)) || (decide (160≤c) && decide (c≤55295)) || (decide (57344≤c) && decide (c≤1114111))
def YBw (x:YAC):Int:=
 if (x.Char=0∧x.Ref=0)∨(x.Char≠0∧x.Ref≠0) then 4 else if (x.Char≠0∧YHL x.Char=false)∨(x.Ref≠0 ∧ ¬ (1≤x.Ref∧x.Ref≤1073741824)) then 2 else YAx x.Attrs false
def okE (x:YAC):Prop:=x.Attrs.length≤9223372036854775807∧YLC x.Attrs
theorem YJa (c:Int):YGH c=some (YHL c):=by
 unfold YGH YHL
 congr 1
 rw [Bool.eq_iff_iff]
 simp only [Bool.or_eq_true,Bool.and_eq_true,decide_eq_true_eq]
 omega
theorem YK8 (c:Int):YHU c=some (YHL c):=by
 unfold YHU YHL
 rw [YG8,YG8,YG8]
 generalize decide (c=9)=a1
 generalize decide (c=10)=a2
 generalize (decide (32≤c) && decide (c≤126))=a3
 generalize (decide (160≤c) && decide (c≤55295))=a4
 generalize (decide (57344≤c) && decide (c≤1114111))=a5
 cases a1 <;> cases a2 <;> cases a3 <;> cases a4 <;> cases a5 <;> rfl
theorem YHF (x:YAC) (h:okE x):YGG x=some (YBw x):=by
 unfold YGG YBw
 rw [YJa,YGb _ h.2 h.1]
 by_cases c:x.Char=0
 ·by_cases r:x.Ref=0
  ·simp [c,r]
  ·by_cases q:1≤x.Ref∧x.Ref≤1073741824
   ·have q1 : ¬ x.Ref<1:=by omega
    have q2 : ¬ 1073741824<x.Ref:=by omega
    simp [c,r,q,q1,q2]
   ·have q1:x.Ref<1∨1073741824<x.Ref:=by omega
    simp [c,r,q,q1]
 ·by_cases r:x.Ref=0
  ·cases hc:YHL x.Char <;> simp [c,r,hc]
  ·simp [c,r]
theorem YGh (x:YAC) (h:okE x):YD9 x=some (YBw x):=by
 unfold YD9 YBw
 rw [YK8,YDL _ _ h.2 h.1,YG8]
 by_cases c:x.Char=0
 ·by_cases r:x.Ref=0
  ·simp [c,r]
  ·by_cases q:1≤x.Ref∧x.Ref≤1073741824
   ·simp [c,r,q]
   ·have q1:(decide (1≤x.Ref) && decide (x.Ref≤1073741824))=false:=by rw [← Bool.not_eq_true]; simpa using q
    simp [c,r,q,q1]
 ·by_cases r:x.Ref=0
  ·cases hc:YHL x.Char <;> simp [c,r,hc]
  ·simp [c,r]
def errE (f:List YAC) (k:Nat):Option Int:=if YBw f[k]! = 0 then none else some (YBw f[k]!)
def YEC (f:List YAC):Int:=((List.range f.length).findSome? (errE f)).getD 0
theorem YI1 (f:List YAC) (h : ∀ x∈f,okE x) (hm:f.length≤9223372036854775807):YDX f=some (YEC f):=by
 unfold YDX
 rw [YAe (n:=f.length) (errE f) (fun k hk=>by
  unfold YCR errE
  rw [if_pos (by simpa using hk),YAH hk,YAA,YAM (by omega),YHF _ (h _ (YBR hk)),YAA]
  by_cases e:YBw f[k]! = 0
  ·rw [if_neg (by simpa using e),if_pos e]; rfl
  ·rw [if_pos (by simpa using e),if_neg e]; rfl) (by unfold YCR; rw [if_neg (by simp)]),YCd]; rfl
theorem YMP {f:List YAC} (h:YEC f=0) {k:Nat} (hk:k<f.length):YBw f[k]! = 0:=by
 unfold YEC at h
 cases hf:(List.range f.length).findSome? (errE f) with
 | some e=>
  rw [hf] at h
  have h:e=0:=h
  subst h
  obtain ⟨j,_,hj⟩:=List.exists_of_findSome?_eq_some hf
  unfold errE at hj
  split at hj
  ·cases hj
  ·rename_i hn; exact absurd (Option.some.inj hj) hn
 | none=>
  rw [List.findSome?_eq_none_iff] at hf
  have:=hf k (List.mem_range.2 hk)
  unfold errE at this
  split at this
  ·rename_i hn; exact hn
  ·cases this
theorem YRU {x:YAC} (h:YBw x=0):YAx x.Attrs false=0:=by
 unfold YBw at h
 split at h
 ·cases h
 ·split at h
  ·cases h
  ·exact h
def YIv:List UInt8:=[104,105,100,100,101,110]
def sOn:List UInt8:=[111,110]
def sCut:List UInt8:=[99,117,116]
def sAdd:List UInt8:=[97,100,100]
def hid (x:YAC) (mode:Int):Bool:=decide (getA x.Attrs YIv=sOn) || (decide (mode=0) && !decide (getA x.Attrs sCut=[])) || (decide (mode=1) && !decide (getA x.Attrs sAdd=[]))
theorem YKj (x:YAC) (mode:Int) (h:okE x):YEf x mode=some (hid x mode):=by
 unfold YEf hid
 rw [YIB _ _ h.1,YIB _ _ h.1,YIB _ _ h.1,YAA]
 show (bnd1 (gd ((decide (getA x.Attrs YIv=sOn) == false) && (decide (mode=0) == true)) (some (getA x.Attrs sCut))) fun (r2:List UInt8)=>
  bnd1 (gd (((decide (getA x.Attrs YIv=sOn) || (decide (mode=0) && !decide (r2=[]))) == false) && (decide (mode=1) == true)) (some (getA x.Attrs sAdd))) fun (r3:List UInt8)=>
   some ((decide (getA x.Attrs YIv=sOn) || (decide (mode=0) && !decide (r2=[]))) || (decide (mode=1) && !decide (r3=[]))))=_
 cases decide (getA x.Attrs YIv=sOn)
 ·by_cases m0:mode=0
  ·subst m0
   cases hc:decide (getA x.Attrs sCut=[]) <;> simp [hc]
  ·by_cases m1:mode=1
   ·subst m1; simp
   ·simp [m0,m1]
 ·simp
def seen (f:List YAC) (mode:Int) (k:Nat):Bool:=!hid f[k]! mode || (decide (k+1=f.length) && decide (f[k]!.Char=10))
def shown (f:List YAC) (mode:Int) (k:Nat):List Int:=((List.range k).filter (seen f mode)).map fun (i:Nat)=>(i:Int)
theorem YMI (f:List YAC) (mode:Int) (k:Nat):shown f mode (k+1)=if seen f mode k then shown f mode k++[(k:Int)] else shown f mode k:=by
 unfold shown
 rw [List.range_succ,List.filter_append]
 split <;> rename_i h <;> simp [h]
theorem YN2 (f:List YAC) (mode:Int) (k:Nat):(shown f mode k).length≤k:=by
 unfold shown
 rw [List.length_map]
 exact Nat.le_trans (List.length_filter_le _ _) (by simp)
theorem YKi (f:List YAC) (mode:Int) (h : ∀ x∈f,okE x) (hm:f.length≤1048576):YEe f mode=some (shown f mode f.length):=by
 unfold YEe
 obtain ⟨b,hb,hq⟩:=YDM (f:=fun (a:Int × (List Int))=>YCN f mode a.1 a.2) f.length (fun k s=>s=((k:Int),shown f mode k)) (fun b=>b=shown f mode f.length)
  (fun k s hk hR=>by
   subst hR
   left
   have hl:=YN2 f mode k
   unfold YCN
   simp only
   rw [if_pos (by simpa using hk),YAH hk,YAA,YAM (by omega),YKj _ _ (h _ (YBR hk)),YAA,YTd (by omega) (by omega),app8 (by omega),YMI]
   unfold seen
   generalize f[k]! = x
   refine ⟨_,?_,rfl⟩
   have e:decide ((k:Int)=(f.length:Int)-1)=decide (k+1=f.length):=by rw [Bool.eq_iff_iff]; simp; omega
   cases hid x mode
   ·simp
   ·simp only [Bool.not_true,beq_self_eq_true,YAL,YAA,Bool.false_or,e]
    cases (decide (k+1=f.length) && decide (x.Char=10)) <;> rfl)
  (fun s hR=>by
   subst hR
   unfold YCN
   exact ⟨_,by rw [if_neg (by simp)],rfl⟩) (s:=(0,[])) rfl
 rw [hb,hq]; rfl
theorem YJX (f:List YAC) (mode:Int) (h : ∀ x∈f,okE x) (he:YEC f=0) (hm:f.length≤1048576):YFT f mode=some (shown f mode f.length):=by
 unfold YFT
 obtain ⟨b,hb,hq⟩:=YDM (f:=fun (a:Int × (List Int))=>YDl f mode a.1 a.2) f.length (fun k s=>s=((k:Int),shown f mode k)) (fun b=>b=shown f mode f.length)
  (fun k s hk hR=>by
   subst hR
   left
   have hl:=YN2 f mode k
   have ha:=YRU (YMP he hk)
   have hx:=h _ (YBR hk)
   unfold YDl
   simp only
   rw [if_pos (by simpa using hk),YAH hk,YAA,YAM (by omega),YTd (by omega) (by omega),app8 (by omega),YMI]
   unfold seen
   generalize f[k]! = x at ha hx ⊢
   obtain ⟨s1,n1,v1⟩:=YV8 ha
   have hv : ∀ n,(fnd x.Attrs n).isSome = !decide (getA x.Attrs n=[]):=fun n=>by
    rw [YV9]
    cases hf:fnd x.Attrs n with
    | none=>rfl
    | some y=>have:=v1 rfl y (YUf hf).2; simp [this]
   rw [YRH _ _ hx.1,YML _ _ hx.1,YML _ _ hx.1,YAA,hv,hv]
   refine ⟨_,?_,rfl⟩
   have e:decide ((k:Int)=(f.length:Int)-1)=decide (k+1=f.length):=by rw [Bool.eq_iff_iff]; simp; omega
   have key : ∀ b:Bool,(bnd1 (gd (b == false) (some ((f.length:Int)-1))) fun (x6:Int)=>if (b || (decide ((k:Int)=x6) && decide (x.Char=10)))=true then (bnd1 (some (shown f mode k++[(k:Int)])) fun out6=>some out6) else some (shown f mode k)) =
     some (if (b || (decide (k+1=f.length) && decide (x.Char=10)))=true then shown f mode k++[(k:Int)] else shown f mode k):=by
    intro b
    cases b
    ·simp only [beq_self_eq_true,YAL,YAA,e]; split <;> rfl
    ·rfl
   simp only [key]
   clear key e
   unfold hid YIv sOn sCut sAdd
   generalize decide (k+1=f.length)=le
   generalize decide (x.Char=10)=ce
   generalize decide (getA x.Attrs [104,105,100,100,101,110]=[111,110])=h1
   generalize decide (getA x.Attrs [99,117,116]=[])=h2
   generalize decide (getA x.Attrs [97,100,100]=[])=h3
   by_cases m0:mode=0
   ·subst m0
    cases h1 <;> cases h2 <;> cases le <;> cases ce <;> simp
   ·by_cases m1:mode=1
    ·subst m1
     cases h1 <;> cases h3 <;> cases le <;> cases ce <;> simp
    ·cases h1 <;> cases le <;> cases ce <;> simp [m0,m1])
  (fun s hR=>by
   subst hR
   unfold YDl
   exact ⟨_,by rw [if_neg (by simp)],rfl⟩) (s:=(0,[])) rfl
 rw [hb,hq]; rfl
end Go.Proofs.YtdafahjmopdleaaGreatDoor.Al


namespace Go.Proofs.YtdafahjmopdleaaGreatDoor.Al
theorem ndT {p:Prop} [Decidable p] (h : ¬ p):(!decide p)=true:=by simp [h]
theorem ndF {p:Prop} [Decidable p] (h:p) : ¬ ((!decide p)=true):=by simp [h]
def okA (l:List YAG):Prop:=l.length≤1073741824∧YLC l
theorem okA.e {x:YAC} (h:okA x.Attrs):okE x:=⟨by have:=h.1; omega,h.2⟩
structure OkSt (s:YAB):Prop where
 at_:okA s.Attrs
 el:s.Elems.length≤1073741824
 ea : ∀ e∈s.Elems,okA e.Attrs
structure OkD (d:List YAB):Prop where
 len:d.length≤1099511627776
 st : ∀ s∈d,OkSt s
 sum:(d.map fun s=>s.Elems.length).sum≤1073741824
theorem okE_of {f:List YAC} (h : ∀ e∈f,okA e.Attrs) : ∀ e∈f,okE e:=fun e he=>(h e he).e
def YBd (s:YAB):Int:=
 if s.Kind=1 then (if s.N≠0∨s.Attrs≠[] then 4 else if s.Elems=[] then 11 else YEC s.Elems)
 else if s.Kind=0∨s.Kind=2 then (if s.Elems≠[]∨(s.Kind=2∧s.Attrs≠[]) then 4 else if s.N<1∨2147483647<s.N then 2 else YAx s.Attrs true)
 else 8
theorem YS0 {α:Type} [DecidableEq α] (l:List α):decide (0<(l.length:Int)) = !decide (l=[]):=by
 by_cases h:l=[]
 ·subst h; rfl
 ·have:=List.length_pos_iff.2 h
  rw [decide_eq_false h,decide_eq_true (by omega)]; rfl
theorem YQS {α:Type} [DecidableEq α] (l:List α):decide ((l.length:Int)=0)=decide (l=[]):=by
 by_cases h:l=[]
 ·subst h; rfl
 ·have:=List.length_pos_iff.2 h
  rw [decide_eq_false h,decide_eq_false (by omega)]
theorem YJD : ∀ (b1 b2 r r':Bool),b1=false∨b2=false→(b1 && (!b2 || r))=(b1 && (!b2 || r')):=by decide
theorem YIf (s:YAB) (h:OkSt s):YFI s=some (YBd s):=by
 have h1:=h.at_.1
 have h2:=h.el
 unfold YFI YBd
 rw [YDj _ h.at_.2 (by omega),YI1 _ (okE_of h.ea) (by omega),YS0,YS0,YQS]
 by_cases k1:s.Kind=1
 ·have k0 : ¬ s.Kind=0:=by omega
  have k2 : ¬ s.Kind=2:=by omega
  simp only [k1,YAA]
  by_cases n0:s.N=0 <;> by_cases a0:s.Attrs=[] <;> by_cases e0:s.Elems=[] <;> simp [n0,a0,e0]
 ·by_cases k0:s.Kind=0
  ·simp only [k0,YAA]
   by_cases a0:s.Attrs=[] <;> by_cases e0:s.Elems=[] <;> by_cases n0:s.N<1∨2147483647<s.N <;> simp [a0,e0,n0]
  ·by_cases k2:s.Kind=2
   ·simp only [k2,YAA]
    by_cases a0:s.Attrs=[] <;> by_cases e0:s.Elems=[] <;> by_cases n0:s.N<1∨2147483647<s.N <;> simp [a0,e0,n0]
   ·simp [k0,k1,k2]
structure GoodS (s:YAB):Prop where
 kind:(s.Kind=0∧s.Elems=[]∧1≤s.N∧s.N≤2147483647∧YAx s.Attrs true=0)∨(s.Kind=2∧s.Elems=[]∧s.Attrs=[]∧1≤s.N∧s.N≤2147483647) ∨
  (s.Kind=1∧s.N=0∧s.Attrs=[]∧s.Elems≠[]∧YEC s.Elems=0)
theorem YQZ {s:YAB} (h:YBd s=0):GoodS s:=by
 constructor
 unfold YBd at h
 by_cases k1:s.Kind=1
 ·rw [if_pos k1] at h
  by_cases c1:s.N≠0∨s.Attrs≠[]
  ·rw [if_pos c1] at h; cases h
  ·rw [if_neg c1] at h
   by_cases c2:s.Elems=[]
   ·rw [if_pos c2] at h; cases h
   ·rw [if_neg c2] at h
    refine .inr (.inr ⟨k1,?_,?_,c2,h⟩)
    ·exact Classical.byContradiction fun hn=>c1 (.inl hn)
    ·exact Classical.byContradiction fun hn=>c1 (.inr hn)
 ·rw [if_neg k1] at h
  by_cases k:s.Kind=0∨s.Kind=2
  ·rw [if_pos k] at h
   by_cases c1:s.Elems≠[]∨(s.Kind=2∧s.Attrs≠[])
   ·rw [if_pos c1] at h; cases h
   ·rw [if_neg c1] at h
    by_cases c2:s.N<1∨2147483647<s.N
    ·rw [if_pos c2] at h; cases h
    ·rw [if_neg c2] at h
     have he:s.Elems=[]:=Classical.byContradiction fun hn=>c1 (.inl hn)
     rcases k with k | k
     ·exact .inl ⟨k,he,by omega,by omega,h⟩
     ·exact .inr (.inl ⟨k,he,Classical.byContradiction fun hn=>c1 (.inr ⟨k,hn⟩),by omega,by omega⟩)
  ·rw [if_neg k] at h; cases h
def YFo (p s:YAB):Bool:=(decide (p.Kind=s.Kind) && (!decide (s.Kind=0) || decide (p.Attrs=s.Attrs))) || (decide (p.Kind=2) && decide (s.Kind=1))
def oldS (s:YAB):Int:=if s.Kind=1 then 0 else s.N
def nowS (s:YAB):Int:=if s.Kind=2 then 0 else if s.Kind=1 then s.Elems.length else s.N
def oldD (d:List YAB):Int:=(d.map oldS).sum
def nowD (d:List YAB):Int:=(d.map nowS).sum
theorem YV1 {d:List YAB} {k:Nat} (h:k<d.length):oldD (d.take (k+1))=oldD (d.take k)+oldS d[k]!:=by rw [YPF h]; simp [oldD]
theorem YV2 {d:List YAB} {k:Nat} (h:k<d.length):nowD (d.take (k+1))=nowD (d.take k)+nowS d[k]!:=by rw [YPF h]; simp [nowD]
def errD (d:List YAB) (k:Nat):Option Int:=if YBd d[k]! ≠ 0 then some (YBd d[k]!) else if 0<k∧YFo d[k-1]! d[k]! = true then some 5 else none
def YJg (d:List YAB):Int:=match (List.range d.length).findSome? (errD d) with
 | some e=>e
 | none=>if 2147483647<oldD d∨2147483647<nowD d then 3 else 0
theorem YS4 {f:Int × Int × Int→Option ((Int × Int × Int) ⊕ (Ctl (Int × Int) Int))} (n:Nat) (g:Nat→Option Int) (I:Nat→Int × Int→Prop)
  (h : ∀ (k:Nat) (a b:Int),k<n→(∀ j,j<k→g j=none)→I k (a,b)→(∃ e,g k=some e∧f (a,b,(k:Int))=some (.inr (.ext e)))∨(g k=none ∧ ∃ a' b',f (a,b,(k:Int))=some (.inl (a',b',((k+1:Nat):Int)))∧I (k+1) (a',b')))
  (hend : ∀ (a b:Int),I n (a,b)→f (a,b,(n:Int))=some (.inr (.nrm (a,b)))) {a0 b0:Int} (h0:I 0 (a0,b0)) :
  (∃ e,(List.range n).findSome? g=some e∧iter f (a0,b0,0)=some (.ext e))∨((List.range n).findSome? g=none ∧ ∃ a b,I n (a,b)∧iter f (a0,b0,0)=some (.nrm (a,b))):=by
 obtain ⟨b,hb,hq⟩:=YDM (f:=f) n (fun k s=>s.2.2=(k:Int)∧I k (s.1,s.2.1) ∧ ∀ j,j<k→g j=none)
  (fun b=>(∃ e,(List.range n).findSome? g=some e∧b = .ext e)∨((List.range n).findSome? g=none ∧ ∃ x y,I n (x,y)∧b = .nrm (x,y)))
  (fun k s hk hR=>by
   obtain ⟨x,y,z⟩:=s
   obtain ⟨rfl,hI,hg⟩:=hR
   rcases h k x y hk hg hI with ⟨e,h1,h2⟩ | ⟨h1,a',b',h2,h3⟩
   ·exact .inr ⟨_,h2,.inl ⟨e,YRR hk hg h1,rfl⟩⟩
   ·refine .inl ⟨_,h2,rfl,h3,fun j hj=>?_⟩
    rcases Nat.lt_or_ge j k with h4 | h4
    ·exact hg j h4
    ·obtain rfl:j=k:=by omega
     exact h1)
  (fun s hR=>by
   obtain ⟨x,y,z⟩:=s
   obtain ⟨rfl,hI,hg⟩:=hR
   exact ⟨_,hend x y hI,.inr ⟨YOd hg,x,y,hI,rfl⟩⟩) (s:=(a0,b0,0)) ⟨rfl,h0,fun j hj=>absurd hj (Nat.not_lt_zero _)⟩
 rcases hq with ⟨e,h1,rfl⟩ | ⟨h1,x,y,h2,rfl⟩
 ·exact .inl ⟨e,h1,hb⟩
 ·exact .inr ⟨h1,x,y,h2,hb⟩
theorem sizes {s:YAB} (h:GoodS s) (ho:OkSt s):0≤oldS s∧oldS s≤2147483647∧0≤nowS s∧nowS s≤2147483647∧(s.Kind≠2→s.N+s.Elems.length=nowS s)∧(s.Kind≠2→YGI s=some (nowS s)):=by
 have h2:=ho.el
 unfold oldS nowS YGI
 rcases h.kind with ⟨k,e,n1,n2,_⟩ | ⟨k,e,_,n1,n2⟩ | ⟨k,n,_,_,_⟩
 ·rw [e]; simp [k]; omega
 ·rw [e]; simp [k]; omega
 ·simp [k,n]; omega
theorem YLy (d:List YAB) (h:OkD d):YFb d=some (YJg d):=by
 have hm:=h.len
 unfold YFb YJg
 rcases YS4 (f:=fun (a:Int × Int × Int)=>YBW d a.1 a.2.1 a.2.2) d.length (errD d) (fun k c=>0≤oldD (d.take k)∧0≤nowD (d.take k)∧c=(min (oldD (d.take k)) 2147483648,min (nowD (d.take k)) 2147483648))
  (fun k a b hk _ hI=>by
   obtain ⟨p1,p2,hc⟩:=hI
   cases hc
   have hst:=h.st _ (YBR hk)
   show (∃ e,_∧YBW d (min (oldD (d.take k)) 2147483648) (min (nowD (d.take k)) 2147483648) (k:Int)=_)∨(_ ∧ ∃ a' b',YBW d (min (oldD (d.take k)) 2147483648) (min (nowD (d.take k)) 2147483648) (k:Int)=_∧_)
   unfold YBW
   rw [if_pos (by simpa using hk),YAH hk,YAA,YIf _ hst,YAA]
   by_cases c1:YBd d[k]! ≠ 0
   ·exact .inl ⟨_,by unfold errD; rw [if_pos c1],by rw [if_pos (by simpa using c1)]; rfl⟩
   rw [if_neg (by simpa using c1)]
   have hg:=YQZ (Classical.not_not.1 c1)
   obtain ⟨z1,z2,z3,z4,z5,z6⟩:=sizes hg hst
   have ord : ∀ (β:Type) (F:Unit→Option (Ctl β ((Int × Int × Int) ⊕ (Ctl (Int × Int) Int)))),(ctl1 (if (decide ((0:Int)<(k:Int))) then (bnd1 (chk .i64 ((k:Int)-1)) fun (x8:Int)=>bnd1 (idx d x8) fun (x9:YAB)=>
     bnd1 (gd (((decide (x9.Kind=d[k]!.Kind)) == true) && ((!decide (d[k]!.Kind=0)) == false)) (YDE x9.Attrs d[k]!.Attrs)) fun (r2:Bool)=>
     if (((decide (x9.Kind=d[k]!.Kind)) && ((!decide (d[k]!.Kind=0)) || r2)) || ((decide (x9.Kind=2)) && (decide (d[k]!.Kind=1)))) then (some (.ext (.ext (.inr (.ext 5))))) else (some (.nrm ()))) else (some (.nrm ()))) F) =
     if 0<k∧YFo d[k-1]! d[k]! = true then some (.ext (.inr (.ext 5))) else F ():=by
    intro β F
    by_cases hk0:0<k
    ·rw [if_pos (by simp; omega),YDO hk0 (by omega),YAA,YAH (by omega),YAA]
     have hp:=(h.st _ (YBR (l:=d) (k:=k-1) (by omega))).at_.1
     have e : ∀ F2:Bool→Option (Ctl Unit (Ctl β ((Int × Int × Int) ⊕ (Ctl (Int × Int) Int)))),(∀ r,(decide (d[k-1]!.Kind=d[k]!.Kind) && ((!decide (d[k]!.Kind=0)) || r))=(decide (d[k-1]!.Kind=d[k]!.Kind) && ((!decide (d[k]!.Kind=0)) || decide (d[k-1]!.Attrs=d[k]!.Attrs)))→F2 r=F2 (decide (d[k-1]!.Attrs=d[k]!.Attrs))) →
       bnd1 (gd (((decide (d[k-1]!.Kind=d[k]!.Kind)) == true) && ((!decide (d[k]!.Kind=0)) == false)) (YDE d[k-1]!.Attrs d[k]!.Attrs)) F2=F2 (decide (d[k-1]!.Attrs=d[k]!.Attrs)):=by
      intro F2 hF
      rw [YEt _ _ (by omega)]
      by_cases q1:d[k-1]!.Kind=d[k]!.Kind <;> by_cases q2:d[k]!.Kind=0
      ·rw [decide_eq_true q1,decide_eq_true q2]; rfl
      ·rw [decide_eq_true q1,decide_eq_false q2]
       show F2 default=_
       exact hF _ (YJD _ _ _ _ (.inr (decide_eq_false q2)))
      ·rw [decide_eq_false q1,decide_eq_true q2]
       show F2 default=_
       exact hF _ (YJD _ _ _ _ (.inl (decide_eq_false q1)))
      ·rw [decide_eq_false q1,decide_eq_false q2]
       show F2 default=_
       exact hF _ (YJD _ _ _ _ (.inl (decide_eq_false q1)))
     rw [e _ (fun r hr=>by rw [hr])]
     by_cases hb:YFo d[k-1]! d[k]! = true
     ·rw [if_pos (c:=(_ || _)=true) (by unfold YFo at hb; exact hb),if_pos ⟨hk0,hb⟩]; rfl
     ·rw [if_neg (c:=(_ || _)=true) (by unfold YFo at hb; exact hb),if_neg (fun hh=>hb hh.2)]; rfl
    ·rw [if_neg (by simp; omega),if_neg (fun hh=>hk0 hh.1)]; rfl
   rw [ord]
   by_cases c2:0<k∧YFo d[k-1]! d[k]! = true
   ·exact .inl ⟨5,by unfold errD; rw [if_neg c1,if_pos c2],by rw [if_pos c2]; rfl⟩
   ·rw [if_neg c2]
    refine .inr ⟨by unfold errD; rw [if_neg c1,if_neg c2],?_⟩
    rw [YV1 hk,YV2 hk]
    clear ord c1 c2
    generalize oldD (d.take k)=o at p1 ⊢
    generalize nowD (d.take k)=w at p2 ⊢
    by_cases k1:d[k]!.Kind=1
    ·have ho:oldS d[k]! = 0:=by unfold oldS; rw [if_pos k1]
     rw [if_neg (ndF k1),YAA,if_pos (ndT (by omega)),z6 (by omega),YAA,YDi (by omega) (by omega),YAA,YKE,YAM (by omega),YAA]
     exact ⟨_,_,rfl,by omega,by omega,by rw [ho]; congr 1 <;> omega⟩
    ·have ho:oldS d[k]! = d[k]!.N:=by unfold oldS; rw [if_neg k1]
     rw [if_pos (ndT k1),YDi (by omega) (by omega),YAA,YAA]
     by_cases k2:d[k]!.Kind=2
     ·have hw:nowS d[k]! = 0:=by unfold nowS; rw [if_pos k2]
      rw [if_neg (ndF k2),YKE,YAM (by omega),YAA]
      exact ⟨_,_,rfl,by omega,by omega,by rw [hw,← ho]; congr 1 <;> omega⟩
     ·rw [if_pos (ndT k2),z6 k2,YAA,YDi (by omega) (by omega),YAA,YKE,YAM (by omega),YAA]
      exact ⟨_,_,rfl,by omega,by omega,by rw [← ho]; congr 1 <;> omega⟩)
  (fun a b hI=>by
   show YBW d a b (d.length:Int)=_
   unfold YBW
   rw [if_neg (by simp)]) (a0:=0) (b0:=0) ⟨by simp [oldD],by simp [nowD],by simp [oldD,nowD]; decide⟩ with ⟨e,h1,h2⟩ | ⟨h1,a,b,⟨_,_,hc⟩,h2⟩
 ·rw [h1,h2]; rfl
 ·rw [h1,h2,YKE]
  rw [List.take_length] at hc
  cases hc
  by_cases hx:2147483647<oldD d∨2147483647<nowD d
  ·rw [if_pos (by simp; omega)]; simp only; rw [if_pos hx]
  ·rw [if_neg (by simp; omega)]; simp only; rw [if_neg hx]
end Go.Proofs.YtdafahjmopdleaaGreatDoor.Al


namespace Go.Proofs.YtdafahjmopdleaaGreatDoor.Al
end Go.Proofs.YtdafahjmopdleaaGreatDoor.Al


namespace Go.Proofs.YtdafahjmopdleaaGreatDoor.Al
inductive Un where
 | a (e:YAC)
 | r (cut:Bool) (at_:List YAG)
def uOf:List (List YAC)→List Bool→List (List YAG)→List Un
 | A :: As,c :: cs,t :: ts=>A.map Un.a++Un.r c t :: uOf As cs ts
 | A :: _,_,_=>A.map Un.a
 | [],_,_=>[]
structure WfA (x:YAR):Prop where
 adds:x.Adds.length=x.Cuts.length+1
 attrs:x.Attrs.length=x.Cuts.length
def YAR.us (x:YAR):List Un:=uOf x.Adds x.Cuts x.Attrs
def Un.isR:Un→Bool
 | .a _=>false
 | .r _ _=>true
def cntR (us:List Un):Nat:=us.countP Un.isR
theorem YRp : ∀ (cs:List Bool) (As:List (List YAC)) (ts:List (List YAG)),As.length=cs.length+1→ts.length=cs.length→cntR (uOf As cs ts)=cs.length
 | [],[A],[],_,_=>by
  have : ∀ l:List YAC,cntR (l.map Un.a)=0:=fun l=>by induction l with
   | nil=>rfl
   | cons x l ih=>simp [cntR,Un.isR]
  exact this A
 | [],[],_,h,_=>by simp at h
 | [],_ :: _ :: _,_,h,_=>by simp at h
 | [],_,_ :: _,_,h=>by simp at h
 | c0 :: cs,A0 :: As,t0 :: ts,h1,h2=>by
  have ih:=YRp cs As ts (by simpa using h1) (by simpa using h2)
  have : ∀ l:List YAC,(l.map Un.a).countP Un.isR=0:=fun l=>by induction l with
   | nil=>rfl
   | cons x l ih=>simp [Un.isR]
  simp only [cntR,uOf,List.countP_append,this,List.countP_cons,Un.isR,if_true,Nat.zero_add,List.length_cons] at ih ⊢
  omega
 | _ :: _,[],_,h,_=>by simp at h
 | _ :: _,_,[],_,h=>by simp at h
theorem YRo : ∀ (cs:List Bool) (As:List (List YAC)) (ts:List (List YAG)),As.length=cs.length+1→ts.length=cs.length → ∀ A∈As,A.length≤(uOf As cs ts).length
 | [],[A],[],_,_=>by simp [uOf]
 | [],[],_,h,_=>by simp at h
 | [],_ :: _ :: _,_,h,_=>by simp at h
 | [],_,_ :: _,_,h=>by simp at h
 | c0 :: cs,A0 :: As,t0 :: ts,h1,h2=>by
  have ih:=YRo cs As ts (by simpa using h1) (by simpa using h2)
  intro A hA
  simp only [uOf,List.length_append,List.length_map,List.length_cons]
  rcases List.mem_cons.1 hA with rfl | hA
  ·omega
  ·have:=ih A hA; omega
 | _ :: _,[],_,h,_=>by simp at h
 | _ :: _,_,[],_,h=>by simp at h
theorem YWL (us:List Un):cntR us≤us.length:=List.countP_le_length
theorem WfA.cnt {x:YAR} (h:WfA x):cntR x.us=x.Cuts.length:=YRp _ _ _ h.adds h.attrs
theorem WfA.cuts_le {x:YAR} (h:WfA x):x.Cuts.length≤x.us.length:=by rw [← h.cnt]; exact YWL _
theorem WfA.add_le {x:YAR} (h:WfA x) {k:Nat} (hk:k<x.Adds.length):x.Adds[k]!.length≤x.us.length:=YRo _ _ _ h.adds h.attrs _ (YBR hk)
theorem YHg {α:Type} {o:List α} {x:α} (h:o.length+1≤1099511627776):app 64 o [x]=some (o++[x]):=by
 unfold app; rw [if_pos]; simp only [List.length_singleton]; omega
theorem YWW {α:Type} {o xs:List α} (h:o.length+xs.length≤1099511627776):app 40 o xs=some (o++xs):=by
 unfold app; rw [if_pos]; omega
theorem YSL {α:Type} {l:List α} {k:Nat} {x:α} : l.set ((k:Int).toNat) x=l.set k x:=by simp
def YEd (s:YAB):List Un:=if s.Kind=1 then s.Elems.map Un.a else List.replicate s.N.toNat (.r (decide (s.Kind=2)) s.Attrs)
def YAR.from_ (x:YAR) (k:Nat):List Un:=uOf (x.Adds.drop k) (x.Cuts.drop k) (x.Attrs.drop k)
theorem YTB (x:YAR):x.from_ 0=x.us:=rfl
theorem YPn {x:YAR} (h:WfA x) {k:Nat} (hk:k<x.Cuts.length):x.from_ k=x.Adds[k]!.map Un.a ++ .r x.Cuts[k]! x.Attrs[k]! :: x.from_ (k+1):=by
 unfold YAR.from_
 have ha:=h.adds
 have ht:=h.attrs
 rw [YGW (l:=x.Adds) (by omega),YGW (l:=x.Cuts) hk,YGW (l:=x.Attrs) (by omega),uOf]
theorem YUd {x:YAR} (h:WfA x):x.from_ x.Cuts.length=x.Adds[x.Cuts.length]!.map Un.a:=by
 unfold YAR.from_
 have ha:=h.adds
 rw [YGW (l:=x.Adds) (by omega),List.drop_length]
 cases x.Adds.drop (x.Cuts.length+1) <;> rfl
end Go.Proofs.YtdafahjmopdleaaGreatDoor.Al


namespace Go.Proofs.YtdafahjmopdleaaGreatDoor.Al
end Go.Proofs.YtdafahjmopdleaaGreatDoor.Al


namespace Go.Proofs.YtdafahjmopdleaaGreatDoor.Al
structure DS where
 out:List YAB
 adds:List YAC
 cuts:Nat
def dFl (s:DS):List YAB:=(if 0<s.adds.length then s.out++[⟨1,0,[],s.adds⟩] else s.out)++(if 0<s.cuts then [⟨2,s.cuts,[],[]⟩] else [])
def YJB (l:List YAB) (t:List YAG):List YAB:=
 if 0<l.length∧l[l.length-1]!.Kind=0∧l[l.length-1]!.Attrs=t then l.set (l.length-1) ⟨l[l.length-1]!.Kind,l[l.length-1]!.N+1,l[l.length-1]!.Attrs,l[l.length-1]!.Elems⟩
 else l++[⟨0,1,t,[]⟩]
def dU (s:DS):Un→DS
 | .a e=>⟨s.out,s.adds++[e],s.cuts⟩
 | .r true _=>⟨s.out,s.adds,s.cuts+1⟩
 | .r false t=>⟨YJB (dFl s) t,[],0⟩
def YCG (us:List Un):List YAB:=dFl (us.foldl dU ⟨[],[],0⟩)
theorem YNT (A:List YAC) : ∀ s:DS,(A.map Un.a).foldl dU s=⟨s.out,s.adds++A,s.cuts⟩:=by
 induction A with
 | nil=>intro s; simp
 | cons e A ih=>intro s; simp only [List.map_cons,List.foldl_cons]; rw [ih]; simp [dU]
structure DB (m:Nat) (s:DS):Prop where
 len:s.out.length+s.adds.length+s.cuts≤m
 mem : ∀ x∈s.out,0≤x.N∧x.N≤m∧x.Elems.length≤m∧x.Attrs.length≤1099511627776
def OkU (u:Un):Prop:=match u with | .a _=>True | .r _ t=>t.length≤1099511627776
theorem db_fl {m:Nat} {s:DS} (h:DB m s):(dFl s).length≤m ∧ ∀ x∈dFl s,0≤x.N∧x.N≤m∧x.Elems.length≤m∧x.Attrs.length≤1099511627776:=by
 have hl:=h.len
 refine ⟨?_,fun x hx=>?_⟩
 ·unfold dFl
  split <;> split <;> simp <;> omega
 ·unfold dFl at hx
  rcases List.mem_append.1 hx with h1 | h1
  ·split at h1
   ·rcases List.mem_append.1 h1 with h2 | h2
    ·exact h.mem x h2
    ·have:x=⟨1,0,[],s.adds⟩:=by simpa using h2
     subst this
     simp; omega
   ·exact h.mem x h1
  ·split at h1
   ·have:x=⟨2,s.cuts,[],[]⟩:=by simpa using h1
    subst this
    simp; omega
   ·simp at h1
theorem YPu {m:Nat} {s:DS} (h:DB m s) {u:Un} (hu:OkU u):DB (m+1) (dU s u):=by
 have hl:=h.len
 have hm : ∀ x:YAB,(0≤x.N∧x.N≤m∧x.Elems.length≤m∧x.Attrs.length≤1099511627776)→0≤x.N∧x.N≤((m+1:Nat):Int)∧x.Elems.length≤m+1∧x.Attrs.length≤1099511627776:=fun x ⟨a,b,c,d⟩=>⟨a,by omega,by omega,d⟩
 match u,hu with
 | .a e,_=>exact ⟨by simp [dU]; omega,fun x hx=>hm x (h.mem x hx)⟩
 | .r true t,_=>exact ⟨by simp [dU]; omega,fun x hx=>hm x (h.mem x hx)⟩
 | .r false t,ht=>
  obtain ⟨h1,h2⟩:=db_fl h
  show DB (m+1) ⟨YJB (dFl s) t,[],0⟩
  unfold YJB
  split
  ·rename_i hc
   refine ⟨by simp; omega,fun x hx=>?_⟩
   rcases List.mem_or_eq_of_mem_set hx with h3 | h3
   ·exact hm x (h2 x h3)
   ·have h4:=h2 _ (YBR (l:=dFl s) (k:=(dFl s).length-1) (by omega))
    subst h3
    exact ⟨by simp only; omega,by simp only; omega,by simp only; omega,h4.2.2.2⟩
  ·refine ⟨by simp; omega,fun x hx=>?_⟩
   rcases List.mem_append.1 hx with h3 | h3
   ·exact hm x (h2 x h3)
   ·have:x=⟨0,1,t,[]⟩:=by simpa using h3
    subst this
    exact ⟨by simp,by simp only; omega,by simp,ht⟩
theorem YUw {us:List Un} : ∀ {m:Nat} {s:DS},DB m s→(∀ u∈us,OkU u)→DB (m+us.length) (us.foldl dU s):=by
 induction us with
 | nil=>intro m s h _; exact h
 | cons u us ih=>
  intro m s h hu
  have:=ih (YPu h (hu u (List.mem_cons_self ..))) fun v hv=>hu v (List.mem_cons_of_mem _ hv)
  rw [List.foldl_cons,List.length_cons,show m+(us.length+1)=m+1+us.length by omega]
  exact this
theorem YUc (x:YAR) (k:Nat) (h:WfA x) (hk:k≤x.Cuts.length) : ∃ p,x.us=p++x.from_ k:=by
 induction k with
 | zero=>exact ⟨[],rfl⟩
 | succ k ih=>
  obtain ⟨p,hp⟩:=ih (by omega)
  rw [YPn h (by omega)] at hp
  exact ⟨p++(x.Adds[k]!.map Un.a++[.r x.Cuts[k]! x.Attrs[k]!]),by rw [hp]; simp⟩
theorem YQY {l:List YAB} (h:0<l.length) (hm:l.length≤9223372036854775807):chk .i64 ((l.length:Int)-1)=some ((l.length-1:Nat):Int):=by
 rw [YDi (by omega) (by omega)]; congr 1; omega
theorem fl_eq (s:DS) (hb:s.out.length+2≤1099511627776) {α:Type} (f:List YAB→Option α) :
  (bnd1 (if (decide (0<(s.adds.length:Int))) then (bnd1 (app 64 s.out [(YAB.mk 1 0 [] s.adds)]) fun (out10:List YAB)=>some out10) else (some s.out)) fun (out6:List YAB)=>
   bnd1 (if (decide (0<(s.cuts:Int))) then (bnd1 (app 64 out6 [(YAB.mk 2 s.cuts [] [])]) fun (out9:List YAB)=>some out9) else (some out6)) f)=f (dFl s):=by
 unfold dFl
 by_cases h1:0<s.adds.length
 ·rw [if_pos (by rw [decide_eq_true_eq]; omega),YHg (by omega),if_pos h1]
  simp only [YAA]
  by_cases h2:0<s.cuts
  ·rw [if_pos (by rw [decide_eq_true_eq]; omega),YHg (by rw [List.length_append,List.length_singleton]; omega),if_pos h2]; rfl
  ·rw [if_neg (by rw [decide_eq_true_eq]; omega),if_neg h2,List.append_nil]; rfl
 ·rw [if_neg (by rw [decide_eq_true_eq]; omega),if_neg h1]
  simp only [YAA]
  by_cases h2:0<s.cuts
  ·rw [if_pos (by rw [decide_eq_true_eq]; omega),YHg (by omega),if_pos h2]; rfl
  ·rw [if_neg (by rw [decide_eq_true_eq]; omega),if_neg h2,List.append_nil]; rfl
theorem YSo {x:YAR} (h:WfA x) (hu : ∀ u∈x.us,OkU u) {k:Nat} (hk:k<x.Cuts.length):x.Attrs[k]!.length≤1099511627776:=by
 obtain ⟨p,hp⟩:=YUc x k h (by omega)
 rw [YPn h hk] at hp
 exact hu (.r x.Cuts[k]! x.Attrs[k]!) (by rw [hp]; simp)
theorem YLs (x:YAR) (h:WfA x) (hu : ∀ u∈x.us,OkU u) (hb:x.us.length≤4294967296):YDg x=some (YCG x.us):=by
 unfold YDg
 have hxc:=h.cuts_le
 have hxa:=h.adds
 have hxt:=h.attrs
 have key : ∃ l,iter (fun (a:Int × Int × (List YAB) × (List YAC))=>YBl x a.1 a.2.1 a.2.2.1 a.2.2.2) (0,0,[],[])=some l∧l=YCG x.us:=by
  refine YDM x.Cuts.length (fun k st=>st.2.1=(k:Int) ∧ ∃ s:DS,st.1=(s.cuts:Int)∧st.2.2.1=s.out∧st.2.2.2=s.adds∧(∃ m,DB m s∧m+(x.from_ k).length=x.us.length)∧dFl ((x.from_ k).foldl dU s)=YCG x.us) _ ?_ ?_ ⟨rfl,⟨[],[],0⟩,rfl,rfl,rfl,⟨0,⟨by simp,by simp⟩,by rw [YTB,Nat.zero_add]⟩,rfl⟩
  ·rintro k ⟨cuts,i,out,adds⟩ hk ⟨rfl,s,h1,h2,h3,⟨m,hdb,hm⟩,hT⟩
   dsimp only at h1 h2 h3
   subst h1; subst h2; subst h3
   rw [YPn h hk] at hT hm
   rw [List.foldl_append,List.foldl_cons,YNT] at hT
   simp only [List.length_append,List.length_map,List.length_cons] at hm
   have hA:=h.add_le (k:=k) (by omega)
   have hdb1:DB (m+x.Adds[k]!.length) ⟨s.out,s.adds++x.Adds[k]!,s.cuts⟩:=by
    have:=YUw (us:=x.Adds[k]!.map Un.a) hdb (fun u hu=>by obtain ⟨e,_,rfl⟩:=List.mem_map.1 hu; trivial)
    rwa [YNT,List.length_map] at this
   have hlen:=hdb.len
   refine .inl ?_
   show ∃ s',YBl x (s.cuts:Int) (k:Int) s.out s.adds=_∧_
   unfold YBl
   rw [if_pos (by simp; omega),YAH (l:=x.Adds) (by omega),YAA,YWW (by omega),YAA]
   have hd:decide ((k:Int)<(x.Cuts.length:Int))=true:=by simpa using hk
   rw [hd,show (true == true)=true from rfl,YAL,YAH (l:=x.Cuts) hk,YAA,Bool.true_and]
   cases hc:x.Cuts[k]! with
   | true=>
    rw [hc] at hT
    rw [if_pos rfl,YAM (by omega),YAA,YQm,YAM (by omega),YAA]
    refine ⟨_,rfl,rfl,⟨s.out,s.adds++x.Adds[k]!,s.cuts+1⟩,rfl,rfl,rfl,⟨m+x.Adds[k]!.length+1,?_,by omega⟩,hT⟩
    exact YPu (u:=.r true x.Attrs[k]!) hdb1 (YSo h hu hk)
   | false=>
    rw [hc] at hT
    rw [if_neg (by decide)]
    have hfl:=fl_eq ⟨s.out,s.adds++x.Adds[k]!,s.cuts⟩ (by simp only; omega) (α:=Ctl (Int × (List YAB) × (List YAC)) ((Int × Int × (List YAB) × (List YAC)) ⊕ (List YAB)))
    simp only at hfl
    rw [hfl,if_neg (by simp; omega)]
    obtain ⟨f1,f2⟩:=db_fl hdb1
    have hbump:=YPu (u:=.r false x.Attrs[k]!) hdb1 (YSo h hu hk)
    change DB _ ⟨YJB (dFl ⟨s.out,s.adds++x.Adds[k]!,s.cuts⟩) x.Attrs[k]!,[],0⟩ at hbump
    change dFl (List.foldl dU ⟨YJB (dFl ⟨s.out,s.adds++x.Adds[k]!,s.cuts⟩) x.Attrs[k]!,[],0⟩ _)=_ at hT
    generalize hl:dFl ⟨s.out,s.adds++x.Adds[k]!,s.cuts⟩=l at f1 f2 hbump hT
    clear hfl
    have hat:x.Attrs[k]!.length≤1099511627776:=YSo h hu hk
    have fin : ∀ l',l'=YJB l x.Attrs[k]! → ∃ s',(ctl3 (some (Ctl.nrm ((0:Int),l',([]:List YAC)))) fun (cuts4:Int) (out5:List YAB) (adds4:List YAC)=>bnd1 (chk .i64 ((k:Int)+1)) fun (i10:Int)=>some (Sum.inl (cuts4,i10,out5,adds4)))=some (Sum.inl s':(Int × Int × (List YAB) × (List YAC)) ⊕ (List YAB)) ∧
      s'.2.1=((k+1:Nat):Int) ∧ ∃ s:DS,s'.1=(s.cuts:Int)∧s'.2.2.1=s.out∧s'.2.2.2=s.adds∧(∃ m,DB m s∧m+(x.from_ (k+1)).length=x.us.length)∧dFl ((x.from_ (k+1)).foldl dU s)=YCG x.us:=by
     intro l' hl'
     subst hl'
     rw [YQm,YAM (by omega),YAA]
     exact ⟨_,rfl,rfl,⟨YJB l x.Attrs[k]!,[],0⟩,rfl,rfl,rfl,⟨_,hbump,by omega⟩,hT⟩
    by_cases hl0:0<l.length
    ·rw [YQY hl0 (by omega),YAA]
     have d0:decide (0≤(((l.length-1:Nat)):Int))=true:=by simp
     rw [d0,show (true == true)=true from rfl,YAL,YAH (l:=l) (by omega),YAA,Bool.true_and]
     have hmem:=f2 _ (YBR (l:=l) (k:=l.length-1) (by omega))
     by_cases hk0:l[l.length-1]!.Kind=0
     ·have d1:decide (l[l.length-1]!.Kind=0)=true:=by simpa using hk0
      rw [d1,show (true == true)=true from rfl,YAL,YAL,YAA,YAH (l:=x.Attrs) (by omega),YAA,YAL,YBz _ _ (by omega),YAA,Bool.true_and]
      by_cases hs:l[l.length-1]!.Attrs=x.Attrs[k]!
      ·rw [if_pos (by simpa using hs),YAA,YDi (by omega) (by omega),YAA]
       refine fin _ ?_
       unfold YJB
       rw [if_pos ⟨hl0,hk0,hs⟩,YSL]
      ·rw [if_neg (by simpa using hs),YAA,YHg (by omega),YAA]
       refine fin _ ?_
       unfold YJB
       rw [if_neg (fun h=>hs h.2.2)]
     ·have d1:decide (l[l.length-1]!.Kind=0)=false:=by simpa using hk0
      rw [d1,show (false == true)=false from rfl,YCf,YCf,YAA,YAA,YCf,YAA,Bool.false_and,if_neg (by decide),YAH (l:=x.Attrs) (by omega),YAA,YHg (by omega),YAA]
      refine fin _ ?_
      unfold YJB
      rw [if_neg (fun h=>hk0 h.2.1)]
    ·have hl0':l=[]:=List.eq_nil_of_length_eq_zero (by omega)
     subst hl0'
     have d0:decide (0≤(-1:Int))=false:=by decide
     rw [show ((([]:List YAB).length:Int)-1) = -1 from rfl,show chk .i64 (-1)=some (-1) from YDi (by decide) (by decide),YAA,d0]
     rw [show (false == true)=false from rfl,YCf,YAA,Bool.false_and,show (false == true)=false from rfl,YCf,YCf,YAA,YAA,YCf,YAA,Bool.false_and,if_neg (by decide),YAH (l:=x.Attrs) (by omega),YAA,YHg (by simp),YAA]
     refine fin _ ?_
     unfold YJB
     rw [if_neg (fun h=>hl0 h.1)]
  ·rintro ⟨cuts,i,out,adds⟩ ⟨rfl,s,h1,h2,h3,⟨m,hdb,hm⟩,hT⟩
   dsimp only at h1 h2 h3
   subst h1; subst h2; subst h3
   rw [YUd h] at hT hm
   rw [YNT] at hT
   simp only [List.length_map] at hm
   have hlen:=hdb.len
   refine ⟨_,?_,hT⟩
   show YBl x (s.cuts:Int) (x.Cuts.length:Int) s.out s.adds=_
   unfold YBl
   rw [if_pos (by simp),YAH (l:=x.Adds) (by omega),YAA,YWW (by omega),YAA]
   have hd:decide (((x.Cuts.length:Nat):Int)<(x.Cuts.length:Int))=false:=by simp
   rw [hd,show (false == true)=false from rfl,YCf,YAA,Bool.false_and,if_neg (by decide)]
   have hfl:=fl_eq ⟨s.out,s.adds++x.Adds[x.Cuts.length]!,s.cuts⟩ (by simp only; omega) (α:=Ctl (Int × (List YAB) × (List YAC)) ((Int × Int × (List YAB) × (List YAC)) ⊕ (List YAB)))
   simp only at hfl
   rw [hfl,if_pos (by simp)]
   rfl
 obtain ⟨l,e,hl⟩:=key
 rw [e,hl]; rfl
end Go.Proofs.YtdafahjmopdleaaGreatDoor.Al


namespace Go.Proofs.YtdafahjmopdleaaGreatDoor.Al
theorem YF6 (s:YAB) (d:List YAB):oldD (s :: d)=oldS s+oldD d:=by simp [oldD]
theorem YF7 (s:YAB) (d:List YAB):nowD (s :: d)=nowS s+nowD d:=by simp [nowD]
theorem YUS {α β:Type} [Inhabited α] {f:Int × List β→Option ((Int × List β) ⊕ List β)} (l:List α) (g:α→β) (z:β)
  (h : ∀ (k:Nat) (out:List β),k<l.length→out.length=l.length→f ((k:Int),out)=some (.inl (((k+1:Nat):Int),out.set k (g l[k]!)))) (hend : ∀ out,f ((l.length:Int),out)=some (.inr out)) :
  iter f (0,List.replicate l.length z)=some (l.map g):=by
 have key : ∃ r,iter f (0,List.replicate l.length z)=some r∧r=l.map g:=by
  refine YDM l.length (fun k st=>st=((k:Int),(l.take k).map g++List.replicate (l.length-k) z)) _ ?_ ?_ (by simp)
  ·rintro k st hk rfl
   refine .inl ⟨_,h k _ hk (by simp; omega),?_⟩
   congr 1
   obtain ⟨m,hm⟩ : ∃ m,l.length-k=m+1:=⟨l.length-k-1,by omega⟩
   rw [hm,List.replicate_succ,YPF hk,List.map_append,List.set_append_right _ _ (by rw [List.length_map,List.length_take]; omega),show l.length-(k+1)=m by omega]
   have:k-((l.take k).map g).length=0:=by simp; omega
   rw [this,List.set_cons_zero,List.append_assoc]; rfl
  ·rintro st rfl
   refine ⟨_,hend _,by simp⟩
 obtain ⟨r,h1,h2⟩:=key
 rw [h1,h2]
theorem YU2 {l:List YAG} (h:l.length≤1073741824):app 32 [] l=some l:=by
 unfold app; rw [if_pos]; rfl; simp; omega
theorem mk40 {α:Type} {n:Nat} (z:α) (h:n≤4294967296):mk 40 (n:Int) z=some (List.replicate n z):=by
 unfold mk; rw [if_pos (by omega)]; simp
theorem YOX (f:List YAC) (hm:f.length≤4294967296) (h : ∀ e∈f,okA e.Attrs):YHH f=some f:=by
 unfold YHH
 rw [mk40 _ hm,YAA]
 have:=YUS (f:=fun (a:Int × (List YAC))=>YCV f a.1 a.2) f id (YAC.mk 0 0 []) (fun k out hk hl=>by
  have ha:=(h _ (YBR hk)).1
  show YCV f (k:Int) out=_
  unfold YCV
  rw [if_pos (by simpa using hk),YAH hk,YAA,YU2 ha,YAA,YAH (by omega),YAA,YAM (by omega),YAA,YSL]
  rfl) (fun out=>by
  show YCV f (f.length:Int) out=_
  unfold YCV
  rw [if_neg (by simp)])
 rw [this,List.map_id]; rfl
theorem slc_to {α:Type} (l:List α) (n:Int) (h0:0≤n) (h:n≤l.length):slc l 0 n=some (l.take n.toNat):=by
 unfold slc; rw [if_pos (by omega)]; simp
end Go.Proofs.YtdafahjmopdleaaGreatDoor.Al


namespace Go.Proofs.YtdafahjmopdleaaGreatDoor.Al
def elB (f:List YAC):Bool:=decide (f.length≤1000) && f.all fun e=>decide (e.Attrs.length≤1000) && e.Attrs.all (fun a=>decide (a.Name.length≤100) && decide (a.Value.length≤1000))
def dB (d:List YAB):Bool:=decide (d.length≤1000) && d.all (fun s=>decide (s.Attrs.length≤1000) && s.Attrs.all (fun a=>decide (a.Name.length≤100) && decide (a.Value.length≤1000)) && elB s.Elems) && decide ((d.map fun s=>s.Elems.length).sum≤1000)
end Go.Proofs.YtdafahjmopdleaaGreatDoor.Al


namespace Go.Proofs.YtdafahjmopdleaaGreatDoor.Al
def YCt (l:List YAB) (t:List YAG) (n:Int):List YAB:=
 if 0<l.length∧l[l.length-1]!.Kind=0∧l[l.length-1]!.Attrs=t then l.set (l.length-1) ⟨l[l.length-1]!.Kind,l[l.length-1]!.N+n,l[l.length-1]!.Attrs,l[l.length-1]!.Elems⟩
 else l++[⟨0,n,t,[]⟩]
theorem YJA (l:List YAB) (t:List YAG):YCt l t 1=YJB l t:=rfl
theorem YFE {l:List YAB} {s:YAB} : (l++[s])[l.length]! = s:=by
 rw [getElem!_pos (l++[s]) l.length (by simp)]; simp
theorem YNI {l:List YAB} {s:YAB} {k:Nat} (h:k<l.length):(l++[s])[k]! = l[k]!:=by
 rw [getElem!_pos (l++[s]) k (by simp; omega),getElem!_pos l k h,List.getElem_append_left h]
theorem YPx (l:List YAB) (t:List YAG) (m n:Int):YCt (YCt l t m) t n=YCt l t (m+n):=by
 unfold YCt
 by_cases hc:0<l.length∧l[l.length-1]!.Kind=0∧l[l.length-1]!.Attrs=t
 ·have hlt:l.length-1<l.length:=by omega
  have hg : ∀ x:YAB,(l.set (l.length-1) x)[l.length-1]! = x:=fun x=>by rw [getElem!_pos _ _ (by simpa using hlt),List.getElem_set_self]
  rw [if_pos hc,if_pos hc,List.length_set,hg,if_pos ⟨hc.1,hc.2.1,hc.2.2⟩,List.set_set]
  simp only [Int.add_assoc]
 ·rw [if_neg hc,if_neg hc]
  rw [show (l++[(⟨0,m,t,[]⟩:YAB)]).length-1=l.length by simp,YFE,if_pos ⟨by simp,rfl,rfl⟩]
  simp
def YOQ (s:DS) (n:Int) (t:List YAG):DS:=if n=0 then s else ⟨YCt (dFl s) t n,[],0⟩
theorem YWK (l:List YAB):dFl ⟨l,[],0⟩=l:=by simp [dFl]
theorem YPl (s:DS) (n:Int) (t:List YAG) (h:0≤n):YOQ s n t=(List.replicate n.toNat (Un.r false t)).foldl dU s:=by
 have hK : ∀ (j:Nat) (l:List YAB) (n:Int),(List.replicate j (Un.r false t)).foldl dU ⟨YCt l t n,[],0⟩=⟨YCt l t (n+j),[],0⟩:=by
  intro j
  induction j with
  | zero=>intro l n; simp
  | succ j ih=>
   intro l n
   rw [List.replicate_succ,List.foldl_cons]
   simp only [dU,YWK]
   rw [← YJA,YPx,ih,show n+1+(j:Int)=n+((j+1:Nat):Int) by omega]
 unfold YOQ
 by_cases hn:n=0
 ·subst hn; simp
 ·rw [if_neg hn]
  obtain ⟨j,hj⟩ : ∃ j,n.toNat=j+1:=⟨n.toNat-1,by omega⟩
  rw [hj,List.replicate_succ,List.foldl_cons]
  simp only [dU]
  rw [← YJA,hK,show (1:Int)+j=n by omega]
theorem YTY (s:DS) (t:List YAG) : ∀ (n:Nat) ,(List.replicate n (Un.r true t)).foldl dU s=⟨s.out,s.adds,s.cuts+n⟩:=by
 intro n
 induction n generalizing s with
 | zero=>simp
 | succ n ih=>rw [List.replicate_succ,List.foldl_cons,ih]; simp only [dU]; congr 1; omega
def OkUn (u:Un):Prop:=match u with
 | .a e=>YBw e=0∧okA e.Attrs
 | .r c t=>(c=false→YAx t true=0)∧okA t
def cntA (us:List Un):Nat:=us.countP fun u=>!u.isR
def YRO:Un→Bool
 | .a _=>true
 | .r c _=>!c
def cntN (us:List Un):Nat:=us.countP YRO
theorem YPK {A:List YAC} (h0:A≠[]) (h : ∀ e∈A,YBw e=0):YBd ⟨1,0,[],A⟩=0:=by
 unfold YBd
 rw [if_pos rfl,if_neg (by simp),if_neg h0]
 show YEC A=0
 unfold YEC
 have:(List.range A.length).findSome? (errE A)=none:=by
  rw [List.findSome?_eq_none_iff]
  intro k hk
  have hk:=List.mem_range.1 hk
  unfold errE
  rw [if_pos (h _ (YBR hk))]
 rw [this]; rfl
theorem YPJ {n:Int} (h1:1≤n) (h2:n≤2147483647):YBd ⟨2,n,[],[]⟩=0:=by
 unfold YBd
 rw [if_neg (by simp),if_pos (by simp),if_neg (by simp),if_neg (by simp only; omega)]
 show YAx [] true=0
 decide
theorem YJO {n:Int} {t:List YAG} (h1:1≤n) (h2:n≤2147483647) (h:YAx t true=0):YBd ⟨0,n,t,[]⟩=0:=by
 unfold YBd
 rw [if_neg (by simp),if_pos (by simp),if_neg (by simp),if_neg (by simp only; omega)]
 exact h
def Okk2 (a:Nat) (s:YAB):Prop:=((s.Kind=0∧s.Elems=[]∧1≤s.N∧YAx s.Attrs true=0)∨(s.Kind=2∧s.Elems=[]∧s.Attrs=[]∧1≤s.N) ∨
  (s.Kind=1∧s.N=0∧s.Attrs=[]∧s.Elems≠[] ∧ ∀ e∈s.Elems,YBw e=0))∧okA s.Attrs∧s.Elems.length≤a ∧ ∀ e∈s.Elems,okA e.Attrs
def AdjD (l:List YAB):Prop:=∀ k,0<k→k<l.length→YFo l[k-1]! l[k]! = false
structure CD (m a r n:Nat) (s:DS):Prop where
 ok : ∀ x∈s.out,Okk2 a x
 adj:AdjD s.out
 last:0<s.out.length→s.out[s.out.length-1]!.Kind=0
 add : ∀ e∈s.adds,YBw e=0∧okA e.Attrs
 olds:oldD s.out+s.cuts=r
 nows:nowD s.out+s.adds.length=n
 len:s.out.length+s.adds.length+s.cuts≤m
 al:s.adds.length≤a
theorem cd_nil:CD 0 0 0 0 ⟨[],[],0⟩:=⟨by simp,fun k _ hk=>by simp at hk,fun h=>by simp at h,by simp,by simp [oldD],by simp [nowD],by simp,by simp⟩
theorem YM8 (a b:List YAB):oldD (a++b)=oldD a+oldD b:=by simp [oldD]
theorem YM9 (a b:List YAB):nowD (a++b)=nowD a+nowD b:=by simp [nowD]
theorem YNX {l:List YAB} {s:YAB} (h:AdjD l) (hs:0<l.length→YFo l[l.length-1]! s=false):AdjD (l++[s]):=by
 intro k h0 hk
 simp only [List.length_append,List.length_singleton] at hk
 by_cases hkl:k<l.length
 ·rw [YNI (by omega),YNI hkl]; exact h k h0 hkl
 ·have:k=l.length:=by omega
  subst this
  rw [YNI (by omega),YFE]
  exact hs h0
theorem Okk2.mono {a b:Nat} {s:YAB} (h:Okk2 a s) (hab:a≤b):Okk2 b s:=⟨h.1,h.2.1,Nat.le_trans h.2.2.1 hab,h.2.2.2⟩
theorem YSq:okA []:=⟨by simp,fun a ha=>by simp at ha⟩
theorem YRc {m a r n:Nat} {s:DS} (h:CD m a r n s):(∀ x∈dFl s,Okk2 a x)∧AdjD (dFl s)∧oldD (dFl s)=r∧nowD (dFl s)=n∧(dFl s).length≤m∧(dFl s).length≤s.out.length+2:=by
 have hl:=h.len
 have ho:=h.olds
 have hn:=h.nows
 have key : ∃ l,l=(if 0<s.adds.length then s.out++[⟨1,0,[],s.adds⟩] else s.out)∧(∀ x∈l,Okk2 a x)∧AdjD l∧oldD l=oldD s.out∧nowD l=nowD s.out+s.adds.length∧l.length≤s.out.length+s.adds.length∧l.length≤s.out.length+1∧(0<l.length→l[l.length-1]!.Kind≠2):=by
  refine ⟨_,rfl,?_⟩
  by_cases h0:0<s.adds.length
  ·rw [if_pos h0]
   have hne:s.adds≠[]:=fun e=>by rw [e] at h0; simp at h0
   refine ⟨fun x hx=>?_,YNX h.adj fun hl=>?_,by rw [YM8]; simp [oldD,oldS],by rw [YM9]; simp [nowD,nowS],by simp; omega,by simp,fun _=>?_⟩
   ·rcases List.mem_append.1 hx with h2 | h2
    ·exact h.ok x h2
    ·have:x=⟨1,0,[],s.adds⟩:=by simpa using h2
     subst this
     exact ⟨.inr (.inr ⟨rfl,rfl,rfl,hne,fun e he=>(h.add e he).1⟩),YSq,h.al,fun e he=>(h.add e he).2⟩
   ·have e0 : ∀ p:YAB,p.Kind=0→YFo p ⟨1,0,[],s.adds⟩=false:=fun p hp=>by unfold YFo; rw [hp]; simp
    exact e0 _ (h.last hl)
   ·rw [show (s.out++[(⟨1,0,[],s.adds⟩:YAB)]).length-1=s.out.length by simp,YFE]; simp
  ·rw [if_neg h0]
   exact ⟨h.ok,h.adj,rfl,by omega,by omega,by omega,fun hl=>by rw [h.last hl]; decide⟩
 obtain ⟨l,hl',k1,k2,k3,k4,k5,k7,k6⟩:=key
 unfold dFl
 rw [← hl']
 by_cases h0:0<s.cuts
 ·rw [if_pos h0]
  refine ⟨fun x hx=>?_,YNX k2 fun hl=>?_,by rw [YM8,k3,← ho]; simp [oldD,oldS],by rw [YM9,k4,← hn]; simp [nowD,nowS],by simp; omega,by simp; omega⟩
  ·rcases List.mem_append.1 hx with h2 | h2
   ·exact k1 x h2
   ·have:x=⟨2,s.cuts,[],[]⟩:=by simpa using h2
    subst this
    exact ⟨.inr (.inl ⟨rfl,rfl,rfl,by simp only; omega⟩),YSq,by simp,by simp⟩
  ·have e0 : ∀ p:YAB,p.Kind≠2→YFo p ⟨2,s.cuts,[],[]⟩=false:=fun p hp=>by unfold YFo; simp [hp]
   exact e0 _ (k6 hl)
 ·rw [if_neg h0,List.append_nil]
  exact ⟨k1,k2,by omega,by omega,by omega,by omega⟩
theorem YQQ : ∀ {l:List YAB} {i:Nat} {s:YAB},i<l.length→oldD (l.set i s)=oldD l-oldS l[i]! + oldS s∧nowD (l.set i s)=nowD l-nowS l[i]! + nowS s
 | x :: l,0,s,_=>by
  rw [List.set_cons_zero,YF6,YF6,YF7,YF7]
  show _=_-oldS x+oldS s∧_=_-nowS x+nowS s
  omega
 | x :: l,i+1,s,h=>by
  obtain ⟨h1,h2⟩:=YQQ (l:=l) (i:=i) (s:=s) (by simpa using h)
  rw [List.set_cons_succ,YF6,YF6,YF7,YF7,h1,h2]
  show _=_-oldS l[i]! + oldS s∧_=_-nowS l[i]! + nowS s
  omega
theorem YU3 {l:List YAB} {i:Nat} {s:YAB} (h:AdjD l) (hi:i<l.length) (hk:s.Kind=l[i]!.Kind) (ha:s.Attrs=l[i]!.Attrs):AdjD (l.set i s):=by
 intro k h0 hlt
 rw [List.length_set] at hlt
 have e : ∀ j,j<l.length→(l.set i s)[j]!.Kind=l[j]!.Kind∧(l.set i s)[j]!.Attrs=l[j]!.Attrs:=fun j hj=>by
  rw [getElem!_pos (l.set i s) j (by simpa using hj),getElem!_pos l j hj,List.getElem_set]
  split
  ·rename_i hij; subst hij; rw [hk,ha,getElem!_pos l i hj]; exact ⟨rfl,rfl⟩
  ·exact ⟨rfl,rfl⟩
 have:=h k h0 hlt
 unfold YFo at this ⊢
 rw [(e _ (by omega)).1,(e _ (by omega)).2,(e k hlt).1,(e k hlt).2]
 exact this
theorem YWP {a:Nat} {l:List YAB} {t:List YAG} {n:Int} (h1 : ∀ x∈l,Okk2 a x) (h2:AdjD l) (hn:1≤n) (ht:YAx t true=0) (hta:okA t):(∀ x∈YCt l t n,Okk2 a x)∧AdjD (YCt l t n)∧oldD (YCt l t n)=oldD l+n ∧
  nowD (YCt l t n)=nowD l+n∧(YCt l t n).length≤l.length+1∧0<(YCt l t n).length∧(YCt l t n)[(YCt l t n).length-1]!.Kind=0:=by
 unfold YCt
 split
 ·rename_i hc
  have hlt:l.length-1<l.length:=by omega
  have hm:=h1 _ (YBR hlt)
  have hk0:(l[l.length-1]!.Elems=[]∧1≤l[l.length-1]!.N∧YAx l[l.length-1]!.Attrs true=0):=by
   rcases hm.1 with ⟨k,e,n1,a1⟩ | ⟨k,_⟩ | ⟨k,_⟩
   ·exact ⟨e,n1,a1⟩
   ·rw [hc.2.1] at k; cases k
   ·rw [hc.2.1] at k; cases k
  obtain ⟨e1,e2⟩:=YQQ (l:=l) (i:=l.length-1) (s:=⟨l[l.length-1]!.Kind,l[l.length-1]!.N+n,l[l.length-1]!.Attrs,l[l.length-1]!.Elems⟩) hlt
  refine ⟨fun x hx=>?_,YU3 h2 hlt rfl rfl,?_,?_,by rw [List.length_set]; omega,by rw [List.length_set]; omega,?_⟩
  ·rcases List.mem_or_eq_of_mem_set hx with h3 | h3
   ·exact h1 x h3
   ·subst h3
    exact ⟨.inl ⟨hc.2.1,hk0.1,by simp only; omega,hk0.2.2⟩,hm.2.1,hm.2.2.1,hm.2.2.2⟩
  ·rw [e1]; unfold oldS; simp only [hc.2.1]; simp; omega
  ·rw [e2]; unfold nowS; simp only [hc.2.1]; simp; omega
  ·rw [List.length_set,getElem!_pos _ _ (by simpa using hlt),List.getElem_set_self]; exact hc.2.1
 ·rename_i hc
  refine ⟨fun x hx=>?_,YNX h2 fun hl=>?_,by rw [YM8]; simp [oldD,oldS],by rw [YM9]; simp [nowD,nowS],by simp,by simp,?_⟩
  ·rcases List.mem_append.1 hx with h3 | h3
   ·exact h1 x h3
   ·have:x=⟨0,n,t,[]⟩:=by simpa using h3
    subst this
    exact ⟨.inl ⟨rfl,rfl,hn,ht⟩,hta,by simp,by simp⟩
  ·unfold YFo
   generalize l[l.length-1]! = p at hc ⊢
   by_cases h3:p.Kind=0
   ·have h4 : ¬ p.Attrs=t:=fun e=>hc ⟨hl,h3,e⟩
    simp [h3,h4]
   ·simp [h3]
  ·rw [show (l++[(⟨0,n,t,[]⟩:YAB)]).length-1=l.length by simp,YFE]
theorem YWO {m a r n:Nat} {s:DS} (h:CD m a r n s) {u:Un} (hu:OkUn u):CD (m+1) (a+(if u.isR then 0 else 1)) (r+(if u.isR then 1 else 0)) (n+(if YRO u then 1 else 0)) (dU s u):=by
 have hl:=h.len
 have ho:=h.olds
 have hn:=h.nows
 have ha:=h.al
 match u,hu with
 | .a e,he=>
  have e1:(if (Un.a e).isR=true then 0 else 1)=1:=rfl
  have e2:(if (Un.a e).isR=true then 1 else 0)=0:=rfl
  have e3:(if YRO (Un.a e)=true then 1 else 0)=1:=rfl
  rw [e1,e2,e3]
  refine ⟨fun x hx=>(h.ok x hx).mono (by omega),h.adj,h.last,fun y hy=>?_,ho,by simp [dU]; omega,by simp [dU]; omega,by simp [dU]; omega⟩
  rcases List.mem_append.1 hy with h1 | h1
  ·exact h.add y h1
  ·have:y=e:=by simpa using h1
   subst this; exact he
 | .r true t,ht=>
  have e1:(if (Un.r true t).isR=true then 0 else 1)=0:=rfl
  have e2:(if (Un.r true t).isR=true then 1 else 0)=1:=rfl
  have e3:(if YRO (Un.r true t)=true then 1 else 0)=0:=rfl
  rw [e1,e2,e3]
  exact ⟨h.ok,h.adj,h.last,h.add,by simp [dU]; omega,hn,by simp [dU]; omega,ha⟩
 | .r false t,ht=>
  have e1:(if (Un.r false t).isR=true then 0 else 1)=0:=rfl
  have e2:(if (Un.r false t).isR=true then 1 else 0)=1:=rfl
  have e3:(if YRO (Un.r false t)=true then 1 else 0)=1:=rfl
  rw [e1,e2,e3]
  obtain ⟨k1,k2,k3,k4,k5,_⟩:=YRc h
  obtain ⟨j1,j2,j3,j4,j5,j6,j7⟩:=YWP (n:=1) k1 k2 (by omega) (ht.1 rfl) ht.2
  refine ⟨j1,j2,fun _=>j7,by simp [dU],?_,?_,?_,by simp [dU]⟩
  ·show oldD (YCt (dFl s) t 1)+((0:Nat):Int)=_
   omega
  ·show nowD (YCt (dFl s) t 1)+((0:Nat):Int)=_
   omega
  ·show (YCt (dFl s) t 1).length+0+0≤_
   omega
theorem YQs : ∀ {us:List Un} {m a r n:Nat} {s:DS},CD m a r n s→(∀ u∈us,OkUn u)→CD (m+us.length) (a+cntA us) (r+cntR us) (n+cntN us) (us.foldl dU s)
 | [],_,_,_,_,_,h,_=>by simpa [cntA,cntR,cntN] using h
 | u :: us,m,a,r,n,s,h,hu=>by
  have:=YQs (us:=us) (YWO h (hu u (List.mem_cons_self ..))) fun v hv=>hu v (List.mem_cons_of_mem _ hv)
  have e1:cntA (u :: us)=(if u.isR then 0 else 1)+cntA us:=by unfold cntA; rw [List.countP_cons]; cases u.isR <;> simp <;> omega
  have e2:cntR (u :: us)=(if u.isR then 1 else 0)+cntR us:=by unfold cntR; rw [List.countP_cons]; omega
  have e3:cntN (u :: us)=(if YRO u then 1 else 0)+cntN us:=by unfold cntN; rw [List.countP_cons]; omega
  rw [List.foldl_cons,e1,e2,e3,List.length_cons,show m+(us.length+1)=m+1+us.length by omega,← Nat.add_assoc,← Nat.add_assoc,← Nat.add_assoc]
  exact this
def D0:DS:=⟨[],[],0⟩
def dOn (us:List Un):DS:=us.foldl dU D0
theorem YMc {us:List Un} (h : ∀ u∈us,OkUn u):CD us.length (cntA us) (cntR us) (cntN us) (dOn us):=by
 have:=YQs cd_nil h
 simp only [Nat.zero_add] at this
 exact this
theorem YLO (us:List Un):YCG us=dFl (dOn us):=rfl
theorem cd_err {m a r n:Nat} {s:DS} (h:CD m a r n s) (hr:r≤2147483647) (hn:n≤2147483647):YJg (dFl s)=0:=by
 obtain ⟨k1,k2,k3,k4,k5,_⟩:=YRc h
 generalize dFl s=l at k1 k2 k3 k4 k5
 have hpos : ∀ l:List YAB,(∀ x∈l,Okk2 a x)→0≤oldD l∧0≤nowD l∧(∀ x∈l,x.N≤oldD l∨x.Kind=1):=by
  intro l
  induction l with
  | nil=>intro _; simp [oldD,nowD]
  | cons x l ih=>
   intro hx
   obtain ⟨i1,i2,i3⟩:=ih fun s hs=>hx s (List.mem_cons_of_mem _ hs)
   have hxx:=(hx x (List.mem_cons_self ..)).1
   rw [YF6,YF7]
   have hz:0≤oldS x∧0≤nowS x∧(x.N≤oldS x∨x.Kind=1):=by
    unfold oldS nowS
    rcases hxx with ⟨k,e,n1,_⟩ | ⟨k,e,_,n1⟩ | ⟨k,n1,_⟩
    ·rw [if_neg (by omega),if_neg (by omega),if_neg (by omega)]; omega
    ·rw [if_neg (by omega),if_pos (by omega)]; omega
    ·rw [if_pos k,if_neg (by omega),if_pos k]; omega
   refine ⟨by omega,by omega,fun y hy=>?_⟩
   rcases List.mem_cons.1 hy with rfl | hy
   ·rcases hz.2.2 with h | h
    ·exact .inl (by omega)
    ·exact .inr h
   ·rcases i3 y hy with h | h
    ·exact .inl (by omega)
    ·exact .inr h
 obtain ⟨p1,p2,p3⟩:=hpos l k1
 have herr : ∀ k,k<l.length→errD l k=none:=by
  intro k hk
  have hx:=k1 _ (YBR hk)
  have hN:=p3 _ (YBR hk)
  have hz:YBd l[k]! = 0:=by
   generalize l[k]! = x at hx hN
   obtain ⟨xk,xn,xa,xe⟩:=x
   rcases hx.1 with ⟨k,e,n1,a1⟩ | ⟨k,e,a1,n1⟩ | ⟨k,n1,a1,e1,e2⟩
   ·dsimp only at k e n1 a1 hN; subst k; subst e
    exact YJO n1 (by omega) a1
   ·dsimp only at k e n1 a1 hN; subst k; subst e; subst a1
    exact YPJ n1 (by omega)
   ·dsimp only at k n1 a1 e1 e2; subst k; subst n1; subst a1
    exact YPK e1 e2
  unfold errD
  rw [if_neg (by simpa using hz),if_neg]
  rintro ⟨h0,h1⟩
  rw [k2 k h0 hk] at h1; cases h1
 unfold YJg
 rw [YOd herr]
 simp only
 rw [if_neg (by omega)]
end Go.Proofs.YtdafahjmopdleaaGreatDoor.Al


namespace Go.Proofs.YtdafahjmopdleaaGreatDoor.Al
def toW (s:DS):YAE:=⟨s.out,s.adds,(s.cuts:Int)⟩
theorem YQT {α:Type} {l:List α} : decide (0<(l.length:Int))=true↔0<l.length:=by rw [decide_eq_true_eq]; omega
theorem YQb (s:DS) (hb:s.out.length+2≤1099511627776):YBc (toW s)=some ⟨dFl s,[],0⟩:=by
 unfold YBc toW
 dsimp only
 unfold dFl
 by_cases h1:0<s.adds.length
 ·rw [if_pos (YQT.2 h1),YHg (by omega),if_pos h1]
  simp only [YAA]
  by_cases h2:0<s.cuts
  ·rw [if_pos (by rw [decide_eq_true_eq]; omega),YHg (by rw [List.length_append,List.length_singleton]; omega),if_pos h2]; rfl
  ·rw [if_neg (by rw [decide_eq_true_eq]; omega),if_neg h2,List.append_nil]; rfl
 ·rw [if_neg (fun h=>h1 (YQT.1 h)),if_neg h1]
  simp only [YAA]
  by_cases h2:0<s.cuts
  ·rw [if_pos (by rw [decide_eq_true_eq]; omega),YHg (by omega),if_pos h2]; rfl
  ·rw [if_neg (by rw [decide_eq_true_eq]; omega),if_neg h2,List.append_nil]; rfl
theorem cd_N {a:Nat} : ∀ {l:List YAB},(∀ x∈l,Okk2 a x)→0≤oldD l∧0≤nowD l∧(∀ x∈l,0≤x.N∧x.N≤oldD l)
 | [],_=>by simp [oldD,nowD]
 | x :: l,hx=>by
  obtain ⟨i1,i2,i3⟩:=cd_N (l:=l) fun s hs=>hx s (List.mem_cons_of_mem _ hs)
  have hxx:=(hx x (List.mem_cons_self ..)).1
  rw [YF6,YF7]
  have hz:0≤oldS x∧0≤nowS x∧0≤x.N∧x.N≤oldS x:=by
   unfold oldS nowS
   rcases hxx with ⟨k,e,n1,_⟩ | ⟨k,e,_,n1⟩ | ⟨k,n1,_⟩
   ·rw [if_neg (by omega),if_neg (by omega),if_neg (by omega)]; omega
   ·rw [if_neg (by omega),if_pos (by omega)]; omega
   ·rw [if_pos k,if_neg (by omega),if_pos k]; omega
  refine ⟨by omega,by omega,fun y hy=>?_⟩
  rcases List.mem_cons.1 hy with rfl | hy
  ·omega
  ·have:=i3 y hy; omega
theorem YV6 {m a r n:Nat} {s:DS} (h:CD m a r n s) (hb:s.out.length+4≤1099511627776) (hr:r≤4000000000000000000) (k:Int) (t:List YAG) (h0:0≤k) (hk:k≤4000000000000000000) (ht:t.length≤1073741824) :
  YCT (toW s) k t=some (toW (YOQ s k t)):=by
 unfold YCT YOQ
 by_cases hk0:k=0
 ·rw [if_pos (by rw [decide_eq_true_eq]; exact hk0),if_pos hk0]
 rw [if_neg (by rw [decide_eq_true_eq]; exact hk0),if_neg hk0,YQb s (by omega),YAA]
 obtain ⟨k1,k2,k3,k4,k5,k6⟩:=YRc h
 obtain ⟨p1,p2,p3⟩:=cd_N k1
 dsimp only
 generalize dFl s=l at k1 k2 k3 k4 k5 k6 p1 p2 p3
 unfold YCt
 by_cases hl0:0<l.length
 ·rw [YQY hl0 (by omega),YAA]
  have d0:decide (0≤(((l.length-1:Nat)):Int))=true:=by simp
  have hx:=k1 _ (YBR (l:=l) (k:=l.length-1) (by omega))
  have hN:=p3 _ (YBR (l:=l) (k:=l.length-1) (by omega))
  rw [d0,show (true == true)=true from rfl,YAL,YAH (l:=l) (by omega),YAA,Bool.true_and]
  by_cases hK:l[l.length-1]!.Kind=0
  ·rw [decide_eq_true hK,show (true == true)=true from rfl,YAL,YAA,YAL,YEt _ _ (by have:=hx.2.1.1; omega),YAA,Bool.true_and]
   by_cases hs:l[l.length-1]!.Attrs=t
   ·rw [if_pos (by rw [decide_eq_true_eq]; exact hs),YAA,YDi (by omega) (by omega),YAA,YSL,if_pos ⟨hl0,hK,hs⟩]; rfl
   ·rw [if_neg (by rw [decide_eq_true_eq]; exact hs),YU2 ht,YAA,YHg (by omega),YAA,if_neg (fun h=>hs h.2.2)]; rfl
  ·rw [decide_eq_false hK,show (false == true)=false from rfl,YCf,YAA,YCf,YAA,Bool.false_and,if_neg (by decide),YU2 ht,YAA,YHg (by omega),YAA,if_neg (fun h=>hK h.2.1)]; rfl
 ·have hl0':l=[]:=List.eq_nil_of_length_eq_zero (by omega)
  subst hl0'
  rw [show ((([]:List YAB).length:Int)-1) = -1 from rfl,show chk .i64 (-1)=some (-1) from YDi (by decide) (by decide),YAA,
   show decide (0≤(-1:Int))=false by decide,show (false == true)=false from rfl,YCf,YAA,Bool.false_and,show (false == true)=false from rfl,YCf,YAA,YCf,YAA,Bool.false_and,if_neg (by decide),
   YU2 ht,YAA,YHg (by simp),YAA,if_neg (by simp)]; rfl
theorem YUr (s:DS) (l:List YAC) (h1:l.length≤4294967296) (h : ∀ e∈l,okA e.Attrs) (hb:s.adds.length+l.length≤1099511627776):YCB (toW s) l=some (toW ⟨s.out,s.adds++l,s.cuts⟩):=by
 unfold YCB
 rw [YOX l h1 h,YAA]
 show (bnd1 (app 40 s.adds l) _)=_
 rw [YWW hb,YAA]; rfl
def esum (l:List YAB):Nat:=(l.map fun x=>x.Elems.length).sum
theorem YNN (a b:List YAB):esum (a++b)=esum a+esum b:=by simp [esum]
theorem YTO (s:DS):esum (dFl s)=esum s.out+s.adds.length:=by
 unfold dFl
 rw [YNN]
 have h2:esum (if 0<s.cuts then [(⟨2,s.cuts,[],[]⟩:YAB)] else [])=0:=by split <;> rfl
 rw [h2]
 by_cases h1:0<s.adds.length
 ·rw [if_pos h1,YNN]; simp [esum]
 ·rw [if_neg h1]; omega
theorem YQj : ∀ {l:List YAB} {i:Nat} {s:YAB},i<l.length→s.Elems=l[i]!.Elems→esum (l.set i s)=esum l
 | x :: l,0,s,_,h=>by
  have h':s.Elems=x.Elems:=h
  simp [esum,h']
 | x :: l,i+1,s,hi,h=>by
  have:=YQj (l:=l) (i:=i) (s:=s) (by simpa using hi) h
  rw [List.set_cons_succ]
  simp only [esum,List.map_cons,List.sum_cons] at this ⊢
  omega
theorem YTP (l:List YAB) (t:List YAG) (n:Int):esum (YCt l t n)=esum l:=by
 unfold YCt
 split
 ·rename_i hc; exact YQj (by omega) rfl
 ·rw [YNN]; simp [esum]
theorem YMb : ∀ (us:List Un) (s:DS),esum (us.foldl dU s).out+(us.foldl dU s).adds.length=esum s.out+s.adds.length+cntA us
 | [],s=>by simp [cntA]
 | u :: us,s=>by
  have ih:=YMb us (dU s u)
  have e1:cntA (u :: us)=(if u.isR then 0 else 1)+cntA us:=by unfold cntA; rw [List.countP_cons]; cases u.isR <;> simp <;> omega
  rw [List.foldl_cons,ih,e1]
  match u with
  | .a e=>simp [dU,Un.isR]; omega
  | .r true t=>simp [dU,Un.isR]
  | .r false t=>
   have:esum (dU s (.r false t)).out=esum s.out+s.adds.length:=by
    show esum (YJB (dFl s) t)=_
    rw [← YJA,YTP,YTO]
   simp only [Un.isR,if_true]
   rw [this]; simp [dU]
theorem YUx (us:List Un):esum (dFl (dOn us))=cntA us:=by
 rw [YTO]
 have:=YMb us D0
 unfold dOn
 rw [this]; simp [D0,esum]
theorem YTV {us:List Un} (h : ∀ u∈us,OkUn u) (hm:(dFl (dOn us)).length≤1099511627776) (ha:cntA us≤1073741824):OkD (dFl (dOn us)):=by
 obtain ⟨k1,_⟩:=YRc (YMc h)
 exact ⟨hm,fun x hx=>⟨(k1 x hx).2.1,by have:=(k1 x hx).2.2.1; omega,(k1 x hx).2.2.2⟩,by have:=YUx us; unfold esum at this; omega⟩
theorem YWI {us:List Un} (h : ∀ u∈us,OkUn u) (hm:(dOn us).out.length+2≤1099511627776) (ha:cntA us≤1073741824) :
  YBo (toW (dOn us))=some (if YJg (YCG us)≠0 then ([],3,⟨YCG us,[],0⟩) else (YCG us,0,⟨YCG us,[],0⟩)):=by
 obtain ⟨k1,k2,k3,k4,k5,k6⟩:=YRc (YMc h)
 unfold YBo
 rw [YQb _ hm,YAA]
 dsimp only
 rw [YLy _ (YTV h (by omega) ha),YAA,← YLO]
 by_cases he:YJg (YCG us)≠0
 ·rw [if_pos (ndT he),if_pos he]
 ·have he:=Classical.not_not.1 he
  rw [if_neg (ndF he),if_neg (by simpa using he)]
theorem YKC (us:List Un) (n:Int) (t:List YAG) (h:0≤n):YOQ (dOn us) n t=dOn (us++List.replicate n.toNat (.r false t)):=by
 rw [YPl _ _ _ h]; unfold dOn; rw [List.foldl_append]
theorem YKD (us:List Un) (l:List YAC):(⟨(dOn us).out,(dOn us).adds++l,(dOn us).cuts⟩:DS)=dOn (us++l.map Un.a):=by
 unfold dOn; rw [List.foldl_append,YNT]
theorem YTW (us:List Un) (n:Nat) (t:List YAG):(⟨(dOn us).out,(dOn us).adds,(dOn us).cuts+n⟩:DS)=dOn (us++List.replicate n (.r true t)):=by
 unfold dOn; rw [List.foldl_append,YTY]
end Go.Proofs.YtdafahjmopdleaaGreatDoor.Al


namespace Go.Proofs.YtdafahjmopdleaaGreatDoor.Al
theorem YK4 (x y:YAC) (h:x.Attrs.length≤1073741824):YEl x y=some (decide (x=y)):=by
 unfold YEl
 rw [YBz _ _ (by omega)]
 obtain ⟨x1,x2,x3⟩:=x
 obtain ⟨y1,y2,y3⟩:=y
 by_cases h1:x1=y1 <;> by_cases h2:x2=y2 <;> by_cases h3:x3=y3 <;> simp [h1,h2,h3,default]
theorem YIj {α:Type} [Inhabited α] [DecidableEq α] {a b:List α} (hl:a.length=b.length) (h:((List.range a.length).all fun k=>decide (a[k]! = b[k]!))=true):a=b:=by
 apply List.ext_getElem hl
 intro k h1 h2
 have:=List.all_eq_true.1 h k (List.mem_range.2 h1)
 simp only [decide_eq_true_eq] at this
 rwa [getElem!_pos a k h1,getElem!_pos b k h2] at this
theorem YKG {α:Type} [Inhabited α] [DecidableEq α] (a:List α):((List.range a.length).all fun k=>decide (a[k]! = a[k]!))=true:=by
 rw [List.all_eq_true]; intro k _; rw [decide_eq_true rfl]
theorem YG6 (a b:List YAC) (hm:a.length≤9223372036854775806) (h : ∀ e∈a,e.Attrs.length≤1073741824):YDm a b=some (decide (a=b)):=by
 unfold YDm
 by_cases hl:a.length=b.length
 ·rw [if_neg (by simp [hl]),YAe (n:=a.length) (fun k=>if decide (a[k]! = b[k]!) then none else some false) (fun k hk=>by
   unfold YC9
   rw [if_pos (by simpa using hk),YAH hk,YAH (by omega),YAA,YAA,YK4 _ _ (h _ (YBR hk)),YAA,YAM (by omega)]
   generalize a[k]! = x
   generalize b[k]! = y
   by_cases h:x=y <;> simp [h,YBb]) (by unfold YC9; rw [if_neg (by simp)]),YDN,YBS]
  by_cases h:a=b
  ·subst h; rw [YKG,decide_eq_true rfl]; rfl
  ·rw [decide_eq_false h]
   have:((List.range a.length).all fun k=>decide (a[k]! = b[k]!))=false:=by
    rw [← Bool.not_eq_true]; exact fun hh=>h (YIj hl hh)
   rw [this]; rfl
 ·rw [if_pos (by simp; omega),decide_eq_false (by rintro rfl; exact hl rfl)]
theorem YJu (a b:List YAB) (hm:a.length≤9223372036854775806) (h : ∀ s∈a,OkSt s):YCc a b=some (decide (a=b)):=by
 unfold YCc
 by_cases hl:a.length=b.length
 ·rw [if_neg (by simp [hl]),YAe (n:=a.length) (fun k=>if decide (a[k]! = b[k]!) then none else some false) (fun k hk=>by
   unfold YCm
   have hs:=h _ (YBR hk)
   rw [if_pos (by simpa using hk),YAH hk,YAH (by omega),YAA,YAA,YBz _ _ (by have:=hs.at_.1; omega),YG6 _ _ (by have:=hs.el; omega) (fun e he=>(hs.ea e he).1),YAM (by omega)]
   generalize a[k]! = x
   generalize b[k]! = y
   obtain ⟨x1,x2,x3,x4⟩:=x
   obtain ⟨y1,y2,y3,y4⟩:=y
   by_cases h1:x1=y1 <;> by_cases h2:x2=y2 <;> by_cases h3:x3=y3 <;> by_cases h4:x4=y4 <;> simp [h1,h2,h3,h4,YBb,default]) (by unfold YCm; rw [if_neg (by simp)]),YDN,YBS]
  by_cases h:a=b
  ·subst h; rw [YKG,decide_eq_true rfl]; rfl
  ·rw [decide_eq_false h]
   have:((List.range a.length).all fun k=>decide (a[k]! = b[k]!))=false:=by
    rw [← Bool.not_eq_true]; exact fun hh=>h (YIj hl hh)
   rw [this]; rfl
 ·rw [if_pos (by simp; omega),decide_eq_false (by rintro rfl; exact hl rfl)]
end Go.Proofs.YtdafahjmopdleaaGreatDoor.Al


namespace Go.Proofs.YtdafahjmopdleaaGreatDoor.Al
theorem YJ7 {κ:YAG→Nat} (h3 : ∀ a,a.Name.length+a.Value.length+1≤κ a) {l:List YAG} (hb:(l.map κ).sum≤1048576):okA l:=by
 have h1:=YEW (μ:=κ) (fun a=>by have:=h3 a; omega) l
 refine ⟨by omega,fun a ha=>?_⟩
 have h2:=YDn (μ:=κ) ha
 have:=h3 a
 omega
theorem YUK {ν:YAC→Nat} {κ:YAG→Nat} (h2 : ∀ e,(e.Attrs.map κ).sum+1≤ν e) (h3 : ∀ a,a.Name.length+a.Value.length+1≤κ a) {f:List YAC} (hb:(f.map ν).sum≤1048576):f.length≤1048576 ∧ ∀ e∈f,okA e.Attrs:=by
 have h1:=YEW (μ:=ν) (fun e=>by have:=h2 e; omega) f
 refine ⟨by omega,fun e he=>YJ7 h3 ?_⟩
 have h4:=YDn (μ:=ν) he
 have:=h2 e
 omega
end Go.Proofs.YtdafahjmopdleaaGreatDoor.Al


namespace Go.Proofs.YtdafahjmopdleaaGreatDoor.Al
structure SmD (d:List YAB):Prop where
 at_ : ∀ s∈d,s.Attrs.length≤1048576
 ea : ∀ s∈d,∀ e∈s.Elems,e.Attrs.length≤1048576
 sum:(d.map fun s=>s.Elems.length).sum≤1048576
 len:d.length≤1048576
theorem YTZ (us:List Un):cntN us≤us.length:=List.countP_le_length
theorem okU_un {us : List Un} (h : ∀ u ∈ us, OkUn u) : ∀ u ∈ us, OkU u := by
  intro u hu
  have := h u hu
  match u, this with
  | .a _, _ => trivial
  | .r _ t, ht => have := ht.2.1
                  show t.length ≤ _; omega
end Go.Proofs.YtdafahjmopdleaaGreatDoor.Al


namespace Go.Proofs.YtdafahjmopdleaaGreatDoor.Al
end Go.Proofs.YtdafahjmopdleaaGreatDoor.Al


namespace Go.Proofs.YtdafahjmopdleaaGreatDoor.Al
end Go.Proofs.YtdafahjmopdleaaGreatDoor.Al


namespace Go.Proofs.YtdafahjmopdleaaGreatDoor.Al
end Go.Proofs.YtdafahjmopdleaaGreatDoor.Al


namespace Go.Proofs.YtdafahjmopdleaaGreatDoor.Al
end Go.Proofs.YtdafahjmopdleaaGreatDoor.Al


namespace Go.Proofs.YtdafahjmopdleaaGreatDoor.Al
theorem YQn (a b:List Un):cntR (a++b)=cntR a+cntR b:=by simp [cntR]
end Go.Proofs.YtdafahjmopdleaaGreatDoor.Al


namespace Go.Proofs.YtdafahjmopdleaaGreatDoor.Al
theorem YJt (a b:List YAo) (hm:a.length≤9223372036854775806):YCb a b=some (decide (a=b)):=by
 unfold YCb
 by_cases hl:a.length=b.length
 ·rw [if_neg (by simp [hl]),YAe (n:=a.length) (fun k=>if decide (a[k]! = b[k]!) then none else some false) (fun k hk=>by
   unfold YCl
   rw [if_pos (by simpa using hk),YAH hk,YAH (by omega),YAA,YAA,YAM (by omega)]
   generalize a[k]! = x
   generalize b[k]! = y
   obtain ⟨x1,x2⟩:=x
   obtain ⟨y1,y2⟩:=y
   by_cases h:x1=y1 <;> by_cases h2:x2=y2 <;> simp [h,h2,YBb]) (by unfold YCl; rw [if_neg (by simp)]),YDN,YBS]
  by_cases h:a=b
  ·subst h; simp
  ·rw [decide_eq_false h]
   have:((List.range a.length).all fun k=>decide (a[k]! = b[k]!))=false:=by
    rw [← Bool.not_eq_true,List.all_eq_true]
    intro hall
    apply h
    apply List.ext_getElem hl
    intro k h1 h2
    have:=hall k (List.mem_range.2 h1)
    simp only [decide_eq_true_eq] at this
    rwa [getElem!_pos a k h1,getElem!_pos b k h2] at this
   rw [this]; rfl
 ·rw [if_pos (by simp; omega),decide_eq_false (by rintro rfl; exact hl rfl)]
end Go.Proofs.YtdafahjmopdleaaGreatDoor.Al


namespace Go.Proofs.YtdafahjmopdleaaGreatDoor.Al
end Go.Proofs.YtdafahjmopdleaaGreatDoor.Al


namespace Go.Proofs.YtdafahjmopdleaaGreatDoor.Al
end Go.Proofs.YtdafahjmopdleaaGreatDoor.Al


namespace Go.Proofs.YtdafahjmopdleaaGreatDoor.Al
def YFu (f:List YAC):Int:=if YEC f≠0 then YEC f else if f=[]∨f[f.length-1]!.Char≠10 then 11 else 0
theorem YWE {f:List YAC} {k:Nat} {r:Int} (h:errE f k=some r):r≠0:=by
 unfold errE at h
 split at h
 ·cases h
 ·rename_i hne; cases h; exact hne
theorem YMY (f:List YAC) (hm:f.length≤1073741824):(ctl1 (some (YIV ((List.range f.length).findSome? (errE f)))) fun (_:Unit)=>
  bnd1 (gd ((true == true) && ((decide ((f.length:Int)=0)) == false)) (chk .i64 ((f.length:Int)-1))) fun (x4:Int)=>
  bnd1 (gd ((true == true) && ((decide ((f.length:Int)=0)) == false)) (idx f x4)) fun (x5:YAC)=>
  if (true && ((decide ((f.length:Int)=0)) || (!decide (x5.Char=10)))) then some (11:Int) else some 0)=some (YFu f):=by
 rw [YBS]
 unfold YFu YEC
 cases hr:(List.range f.length).findSome? (errE f) with
 | some r=>
  have hne:r≠0:=by
   obtain ⟨k,hk⟩:=List.exists_of_findSome?_eq_some hr
   exact YWE hk.2
  dsimp only [Option.getD]
  rw [if_pos hne]
 | none=>
  dsimp only [Option.getD]
  rw [if_neg (by decide)]
  by_cases hl:f=[]
  ·subst hl; rfl
  ·have h0:0<f.length:=List.length_pos_iff.2 hl
   have hd:decide ((f.length:Int)=0)=false:=decide_eq_false (by omega)
   rw [hd,show ((true == true) && (false == false))=true from rfl,YAL,show ((f.length:Int)-1)=((f.length-1:Nat):Int) by omega,YDi (by omega) (by omega),YAA,YAL,YAH (by omega),YAA]
   by_cases hc:f[f.length-1]!.Char=10
   ·rw [if_neg (by rw [decide_eq_true hc]; decide),if_neg (fun h=>h.elim hl fun h=>h hc)]
   ·rw [if_pos (by rw [decide_eq_false hc]; decide),if_pos (.inr hc)]
theorem YIa (f:List YAC) (h : ∀ x∈f,okE x) (hm:f.length≤1073741824):YDp f true=some (YFu f):=by
 unfold YDp
 rw [YAe (n:=f.length) (errE f) (fun k hk=>by
  unfold YCg errE
  rw [if_pos (by simpa using hk),YAH hk,YAA,YAM (by omega),YHF _ (h _ (YBR hk)),YAA]
  by_cases e:YBw f[k]! = 0
  ·rw [if_neg (ndF e),if_pos e]; rfl
  ·rw [if_pos (ndT e),if_neg e]; rfl) (by unfold YCg; rw [if_neg (by simp)])]
 exact YMY f hm
theorem YJw (f:List YAC) (h : ∀ x∈f,okE x) (hm:f.length≤1073741824):YB8 f true=some (YFu f):=by
 unfold YB8
 rw [YAe (n:=f.length) (errE f) (fun k hk=>by
  unfold YBe errE
  rw [if_pos (by simpa using hk),YAH hk,YAA,YAM (by omega),YGh _ (h _ (YBR hk)),YAA]
  by_cases e:YBw f[k]! = 0
  ·rw [if_neg (ndF e),if_pos e]; rfl
  ·rw [if_pos (ndT e),if_neg e]; rfl) (by unfold YBe; rw [if_neg (by simp)])]
 exact YMY f hm
instance:Inhabited Un:=⟨.r false []⟩
def off (n:List UInt8):YAG:=⟨n,[]⟩
end Go.Proofs.YtdafahjmopdleaaGreatDoor.Al


namespace Go.Proofs.YtdafahjmopdleaaGreatDoor.Al
theorem YTG:YDc.length=256:=by decide +kernel
theorem YSI (s:List UInt8) (k:Nat) (hk:k≤s.length):slc s (k:Int) (s.length:Int)=some (s.drop k):=by
 unfold slc
 rw [if_pos (by omega)]
 congr 1
 rw [List.take_of_length_le (by simp),Int.toNat_natCast]
end Go.Proofs.YtdafahjmopdleaaGreatDoor.Al


namespace Go.Proofs.YtdafahjmopdleaaGreatDoor.Al
end Go.Proofs.YtdafahjmopdleaaGreatDoor.Al


namespace Go.Proofs.YtdafahjmopdleaaGreatDoor.Al
def errT (t:Bool) (f:List YAC) (k:Nat):Option Int:=if YBw f[k]! = 0 then (if t=false∧f[k]!.Ref=0 then some 8 else none) else some (YBw f[k]!)
theorem YOi {x:YAC} (h:YBw x=0):(x.Ref=0↔x.Char≠0):=by
 unfold YBw at h
 by_cases c:x.Char=0 <;> by_cases r:x.Ref=0 <;> simp [c,r] at h ⊢
theorem YOY (f:List YAC) (h : ∀ x∈f,okE x) (hm:f.length≤1073741824):YDp f false=some (((List.range f.length).findSome? (errT false f)).getD 0):=by
 unfold YDp
 rw [YAe (n:=f.length) (errT false f) (fun k hk=>by
  unfold YCg errT
  rw [if_pos (by simpa using hk),YAH hk,YAA,YAM (by omega),YHF _ (h _ (YBR hk)),YAA]
  generalize f[k]! = x
  by_cases e:YBw x=0
  ·rw [if_neg (ndF e),if_pos e]
   by_cases r:x.Ref=0
   ·rw [if_pos (show (!false && decide (x.Ref=0))=true by rw [decide_eq_true r]; rfl),if_pos ⟨rfl,r⟩]; rfl
   ·rw [if_neg (show ¬ (!false && decide (x.Ref=0))=true by rw [decide_eq_false r]; decide),if_neg (fun h=>r h.2)]; rfl
  ·rw [if_pos (ndT e),if_neg e]; rfl) (by unfold YCg; rw [if_neg (by simp)])]
 cases (List.range f.length).findSome? (errT false f) <;> rfl
theorem YK7 (f:List YAC) (h : ∀ x∈f,okE x) (hm:f.length≤1073741824):YB8 f false=some (((List.range f.length).findSome? (errT false f)).getD 0):=by
 unfold YB8
 rw [YAe (n:=f.length) (errT false f) (fun k hk=>by
  unfold YBe errT
  rw [if_pos (by simpa using hk),YAH hk,YAA,YAM (by omega),YGh _ (h _ (YBR hk)),YAA]
  generalize f[k]! = x
  by_cases e:YBw x=0
  ·rw [if_neg (ndF e),if_pos e]
   have hr:=YOi e
   by_cases r:x.Ref=0
   ·rw [if_pos (show (!false && !decide (x.Char=0))=true by rw [decide_eq_false (hr.1 r)]; rfl),if_pos ⟨rfl,r⟩]; rfl
   ·have hc:x.Char=0:=Classical.byContradiction fun hc=>r (hr.2 hc)
    rw [if_neg (show ¬ (!false && !decide (x.Char=0))=true by rw [decide_eq_true hc]; decide),if_neg (fun h=>r h.2)]; rfl
  ·rw [if_pos (ndT e),if_neg e]; rfl) (by unfold YBe; rw [if_neg (by simp)])]
 cases (List.range f.length).findSome? (errT false f) <;> rfl
theorem YPw (f:List YAC) (t:Bool) (h : ∀ x∈f,okE x) (hm:f.length≤1073741824) : ∃ r,YDp f t=some r∧YB8 f t=some r:=by
 cases t
 ·exact ⟨_,YOY f h hm,YK7 f h hm⟩
 ·exact ⟨_,YIa f h hm,YJw f h hm⟩
theorem YOV (a b:List YAC) (hm:a.length≤9223372036854775806) (h : ∀ e∈a,e.Attrs.length≤1073741824):YLI a b=some (decide (a=b)):=by
 unfold YLI
 by_cases hl:a.length=b.length
 ·rw [if_neg (by simp [hl]),YAe (n:=a.length) (fun k=>if decide (a[k]! = b[k]!) then none else some false) (fun k hk=>by
   unfold YHG
   have ha:=h _ (YBR hk)
   rw [if_pos (by simpa using hk),YAH hk,YAH (by omega),YAA,YAA,YEt _ _ (by omega),YAM (by omega)]
   generalize a[k]! = x
   generalize b[k]! = y
   obtain ⟨x1,x2,x3⟩:=x
   obtain ⟨y1,y2,y3⟩:=y
   by_cases h1:x1=y1 <;> by_cases h2:x2=y2 <;> by_cases h3:x3=y3 <;> simp [h1,h2,h3,YBb,default]) (by unfold YHG; rw [if_neg (by simp)]),YDN,YBS]
  by_cases h:a=b
  ·subst h; rw [YKG,decide_eq_true rfl]; rfl
  ·rw [decide_eq_false h]
   have:((List.range a.length).all fun k=>decide (a[k]! = b[k]!))=false:=by
    rw [← Bool.not_eq_true]; exact fun hh=>h (YIj hl hh)
   rw [this]; rfl
 ·rw [if_pos (by simp; omega),decide_eq_false (by rintro rfl; exact hl rfl)]
theorem YSX (f:List YAC) (hm:f.length≤1073741824) : ∃ r,iter (fun (a:Int × (List Int))=>YCU f a.1 a.2) (0,[])=some r∧r.length≤f.length:=by
 refine YDM f.length (fun k st=>st.1=(k:Int)∧st.2.length≤k) _ ?_ ?_ ⟨rfl,by simp⟩
 ·rintro k ⟨x,out⟩ hk ⟨rfl,ho⟩
  dsimp only at ho ⊢
  left
  unfold YCU
  rw [if_pos (by simpa using hk),YAH hk,YAA]
  by_cases r:f[k]!.Ref=0
  ·rw [if_neg (ndF r),YAA,YAM (by omega),YAA]
   exact ⟨_,rfl,rfl,by dsimp only; omega⟩
  ·rw [if_pos (ndT r),app8 (by omega),YAA,YAA,YAM (by omega),YAA]
   exact ⟨_,rfl,rfl,by dsimp only; rw [List.length_append,List.length_singleton]; omega⟩
 ·rintro ⟨x,out⟩ ⟨rfl,ho⟩
  dsimp only at ho ⊢
  unfold YCU
  rw [if_neg (by simp)]
  exact ⟨_,rfl,ho⟩
end Go.Proofs.YtdafahjmopdleaaGreatDoor.Al


namespace Go.Proofs.YtdafahjmopdleaaGreatDoor.Al
end Go.Proofs.YtdafahjmopdleaaGreatDoor.Al


namespace Go.Proofs.YtdafahjmopdleaaGreatDoor.Al
theorem YFy {α:Type} [Inhabited α] [DecidableEq α] {f:Int→Option (Int ⊕ Ctl Unit Bool)} (a b:List α) (hl:a.length=b.length)
  (h1 : ∀ k:Nat,k<a.length→f k=YBb k (if decide (a[k]! = b[k]!) then none else some false)) (h2:f a.length=some (.inr (.nrm ()))) :
  (ctl1 (iter f 0) fun (_:Unit)=>some true)=some (decide (a=b)):=by
 rw [YAe (n:=a.length) (fun k=>if decide (a[k]! = b[k]!) then none else some false) h1 h2,YDN,YBS]
 by_cases h:a=b
 ·subst h; rw [YKG,decide_eq_true rfl]; rfl
 ·rw [decide_eq_false h]
  have:((List.range a.length).all fun k=>decide (a[k]! = b[k]!))=false:=by
   rw [← Bool.not_eq_true]; exact fun hh=>h (YIj hl hh)
  rw [this]; rfl
theorem YQJ (x y:YAX):(decide (x.Row=y.Row) && (decide (x.Col=y.Col) && (decide (x.H=y.H) && (decide (x.W=y.W) && true))))=decide (x=y):=by
 obtain ⟨x1,x2,x3,x4⟩:=x
 obtain ⟨y1,y2,y3,y4⟩:=y
 rw [Bool.eq_iff_iff]; simp
theorem YQl (x y:YAN):(decide (x.Clock=y.Clock) && (decide (x.Site=y.Site) && (decide (x.Kind=y.Kind) && (decide (x.Item=y.Item) && (decide (x.Parent=y.Parent) && (decide (x.Place=y.Place) && (decide (x.Name=y.Name) && (decide (x.Value=y.Value) && true))))))))=decide (x=y):=by
 obtain ⟨x1,x2,x3,x4,x5,x6,x7,x8⟩:=x
 obtain ⟨y1,y2,y3,y4,y5,y6,y7,y8⟩:=y
 rw [Bool.eq_iff_iff]; simp
theorem YT9 (a b:List YAX) (hm:a.length≤9223372036854775806):YAs a b=some (decide (a=b)):=by
 unfold YAs
 by_cases hl:a.length=b.length
 ·rw [if_neg (by simp [hl])]
  exact YFy a b hl (fun k hk=>by
   unfold YAl
   rw [if_pos (by simpa using hk),YAH hk,YAH (by omega),YAA,YAA,YQJ,YAM (by omega)]
   generalize a[k]! = x
   generalize b[k]! = y
   by_cases h:x=y <;> simp [h,YBb]) (by unfold YAl; rw [if_neg (by simp)])
 ·rw [if_pos (by simp; omega),decide_eq_false (by rintro rfl; exact hl rfl)]
theorem YN8 (a b:List YAX) (hm:a.length≤9223372036854775806):YBj a b=some (decide (a=b)):=by
 unfold YBj
 by_cases hl:a.length=b.length
 ·rw [if_neg (by simp [hl])]
  exact YFy a b hl (fun k hk=>by
   unfold YBx
   rw [if_pos (by simpa using hk),YAH hk,YAH (by omega),YAA,YAA,YQJ,YAM (by omega)]
   generalize a[k]! = x
   generalize b[k]! = y
   by_cases h:x=y <;> simp [h,YBb]) (by unfold YBx; rw [if_neg (by simp)])
 ·rw [if_pos (by simp; omega),decide_eq_false (by rintro rfl; exact hl rfl)]
theorem YUs (a b:List YAN) (hm:a.length≤9223372036854775806):YBF a b=some (decide (a=b)):=by
 unfold YBF
 by_cases hl:a.length=b.length
 ·rw [if_neg (by simp [hl])]
  exact YFy a b hl (fun k hk=>by
   unfold YA4
   rw [if_pos (by simpa using hk),YAH hk,YAH (by omega),YAA,YAA,YQl,YAM (by omega)]
   generalize a[k]! = x
   generalize b[k]! = y
   by_cases h:x=y <;> simp [h,YBb]) (by unfold YA4; rw [if_neg (by simp)])
 ·rw [if_pos (by simp; omega),decide_eq_false (by rintro rfl; exact hl rfl)]
theorem YRG (a b:List YAN) (hm:a.length≤9223372036854775806):YC7 a b=some (decide (a=b)):=by
 unfold YC7
 by_cases hl:a.length=b.length
 ·rw [if_neg (by simp [hl])]
  exact YFy a b hl (fun k hk=>by
   unfold YCw
   rw [if_pos (by simpa using hk),YAH hk,YAH (by omega),YAA,YAA,YQl,YAM (by omega)]
   generalize a[k]! = x
   generalize b[k]! = y
   by_cases h:x=y <;> simp [h,YBb]) (by unfold YCw; rw [if_neg (by simp)])
 ·rw [if_pos (by simp; omega),decide_eq_false (by rintro rfl; exact hl rfl)]
theorem YWN (x y:YAY) (hm:x.Attrs.length≤1073741824):YEE x y=some (decide (x=y)):=by
 unfold YEE
 rw [YEt _ _ (by omega)]
 obtain ⟨x1,x2,x3,x4,x5⟩:=x
 obtain ⟨y1,y2,y3,y4,y5⟩:=y
 by_cases h1:x1=y1 <;> by_cases h2:x2=y2 <;> by_cases h3:x3=y3 <;> by_cases h4:x4=y4 <;> by_cases h5:x5=y5 <;> simp [h1,h2,h3,h4,h5,gd,YAA]
theorem YPW (x y:YAY) (hm:x.Attrs.length≤1073741824):YEn x y=some (decide (x=y)):=by
 unfold YEn
 rw [YBz _ _ (by omega)]
 obtain ⟨x1,x2,x3,x4,x5⟩:=x
 obtain ⟨y1,y2,y3,y4,y5⟩:=y
 by_cases h1:x1=y1 <;> by_cases h2:x2=y2 <;> by_cases h3:x3=y3 <;> by_cases h4:x4=y4 <;> by_cases h5:x5=y5 <;> simp [h1,h2,h3,h4,h5,gd,YAA]
theorem YUy (a b:List YAY) (hm:a.length≤9223372036854775806) (h : ∀ x∈a,x.Attrs.length≤1073741824):YAK a b=some (decide (a=b)):=by
 unfold YAK
 by_cases hl:a.length=b.length
 ·rw [if_neg (by simp [hl])]
  exact YFy a b hl (fun k hk=>by
   unfold YAJ
   rw [if_pos (by simpa using hk),YAH hk,YAH (by omega),YAA,YAA,YWN _ _ (h _ (YBR hk)),YAA,YAM (by omega)]
   generalize a[k]! = x
   generalize b[k]! = y
   by_cases h:x=y <;> simp [h,YBb]) (by unfold YAJ; rw [if_neg (by simp)])
 ·rw [if_pos (by simp; omega),decide_eq_false (by rintro rfl; exact hl rfl)]
theorem YN9 (a b:List YAY) (hm:a.length≤9223372036854775806) (h : ∀ x∈a,x.Attrs.length≤1073741824):YB7 a b=some (decide (a=b)):=by
 unfold YB7
 by_cases hl:a.length=b.length
 ·rw [if_neg (by simp [hl])]
  exact YFy a b hl (fun k hk=>by
   unfold YBy
   rw [if_pos (by simpa using hk),YAH hk,YAH (by omega),YAA,YAA,YPW _ _ (h _ (YBR hk)),YAA,YAM (by omega)]
   generalize a[k]! = x
   generalize b[k]! = y
   by_cases h:x=y <;> simp [h,YBb]) (by unfold YBy; rw [if_neg (by simp)])
 ·rw [if_pos (by simp; omega),decide_eq_false (by rintro rfl; exact hl rfl)]
def okG (g:YAy):Prop:=g.Cells.length≤1048576∧g.Merges.length≤1048576 ∧ ∀ x∈g.Cells,okA x.Attrs
structure okN (n:YAP):Prop where
 at_:okA n.Attrs
 fl:n.Flow.length≤1048576
 fa : ∀ e∈n.Flow,okA e.Attrs
 gr:okG n.Grid
 dr:n.Draw.length≤1048576
def okDoc (d:GDoc):Prop:=d.Nodes.length≤1048576 ∧ ∀ n∈d.Nodes,okN n
theorem YS8 (x y:YAy) (h:okG x):YGE x y=some (decide (x=y)):=by
 obtain ⟨h1,h2,h3⟩:=h
 unfold YGE
 rw [YT9 _ _ (by omega),YUy _ _ (by omega) (fun e he=>(h3 e he).1)]
 obtain ⟨x1,x2,x3,x4⟩:=x
 obtain ⟨y1,y2,y3,y4⟩:=y
 by_cases h1:x1=y1 <;> by_cases h2:x2=y2 <;> by_cases h3:x3=y3 <;> by_cases h4:x4=y4 <;> simp [h1,h2,h3,h4,gd,YAA]
theorem YPV (x y:YAy) (h:okG x):YEk x y=some (decide (x=y)):=by
 obtain ⟨h1,h2,h3⟩:=h
 unfold YEk
 rw [YN8 _ _ (by omega),YN9 _ _ (by omega) (fun e he=>(h3 e he).1)]
 obtain ⟨x1,x2,x3,x4⟩:=x
 obtain ⟨y1,y2,y3,y4⟩:=y
 by_cases h1:x1=y1 <;> by_cases h2:x2=y2 <;> by_cases h3:x3=y3 <;> by_cases h4:x4=y4 <;> simp [h1,h2,h3,h4,gd,YAA]
theorem node_eq (x y:YAP) (h:okN x):YJf x y=some (decide (x=y)):=by
 have ha:=h.at_.1
 have hf:=h.fl
 have hd:=h.dr
 unfold YJf
 rw [YEt _ _ (by omega),YOV _ _ (by omega) (fun e he=>(h.fa e he).1),YS8 _ _ h.gr,YUs _ _ (by omega)]
 obtain ⟨x1,x2,x3,x4,x5,x6⟩:=x
 obtain ⟨y1,y2,y3,y4,y5,y6⟩:=y
 by_cases h1:x1=y1 <;> by_cases h2:x2=y2 <;> by_cases h3:x3=y3 <;> by_cases h4:x4=y4 <;> by_cases h5:x5=y5 <;> by_cases h6:x6=y6 <;> simp [h1,h2,h3,h4,h5,h6,gd,YAA]
theorem YPU (x y:YAP) (h:okN x):YC8 x y=some (decide (x=y)):=by
 have ha:=h.at_.1
 have hf:=h.fl
 have hd:=h.dr
 unfold YC8
 rw [YBz _ _ (by omega),YG6 _ _ (by omega) (fun e he=>(h.fa e he).1),YPV _ _ h.gr,YRG _ _ (by omega)]
 obtain ⟨x1,x2,x3,x4,x5,x6⟩:=x
 obtain ⟨y1,y2,y3,y4,y5,y6⟩:=y
 by_cases h1:x1=y1 <;> by_cases h2:x2=y2 <;> by_cases h3:x3=y3 <;> by_cases h4:x4=y4 <;> by_cases h5:x5=y5 <;> by_cases h6:x6=y6 <;> simp [h1,h2,h3,h4,h5,h6,gd,YAA]
theorem YFp {β:Type} (p:Nat→Bool) (F:Nat→β) (l:List Nat):(l.findSome? fun k=>if p k then some (F k) else none)=(l.find? p).map F:=by
 induction l with
 | nil=>rfl
 | cons a l ih=>rw [List.findSome?_cons,List.find?_cons]; by_cases h:p a=true <;> simp [h,ih]
def YI4 (l:List YAP) (id:Int):Option Nat:=(List.range l.length).find? fun k=>decide (l[k]!.ID=id)
theorem YIc {l:List YAP} {id:Int} {k:Nat} (h:YI4 l id=some k):k<l.length∧l[k]!.ID=id:=by
 have h1:=List.mem_of_find?_eq_some h
 have h2:=List.find?_some h
 exact ⟨List.mem_range.1 h1,of_decide_eq_true h2⟩
theorem YH1 (d:GDoc) (id:Int) (hm:d.Nodes.length≤1048576):YFn d id=some (match YI4 d.Nodes id with | some k=>(k:Int) | none=>-1):=by
 unfold YFn
 rw [YAe (n:=d.Nodes.length) (fun k=>if decide (d.Nodes[k]!.ID=id) then some (k:Int) else none) (fun k hk=>by
  unfold YFV
  rw [if_pos (by simpa using hk),YAH hk,YAA,YAM (by omega)]
  by_cases h:d.Nodes[k]!.ID=id
  ·rw [if_pos (decide_eq_true h),if_pos (decide_eq_true h)]; rfl
  ·rw [if_neg (by simpa using h),if_neg (by simpa using h)]; rfl) (by unfold YFV; rw [if_neg (by simp)]),YFp,YBS]
 unfold YI4
 cases (List.range d.Nodes.length).find? fun k=>decide (d.Nodes[k]!.ID=id) <;> rfl
end Go.Proofs.YtdafahjmopdleaaGreatDoor.Al


namespace Go.Proofs.YtdafahjmopdleaaGreatDoor.Al
def n1D:YAP:=YAP.mk 1 0 [] [(YAC.mk 0 2 [])] (YAy.mk 0 0 [] []) []
theorem YDv:YGX n1D=some [2]:=by
 unfold YGX YFY
 have h1:(fun (a:Int × (List Int))=>YBH n1D.Flow a.1 a.2) (0,[])=some (.inl (1,[2])):=by
  show YBH [YAC.mk 0 2 []] 0 []=_
  unfold YBH; rfl
 have h2:(fun (a:Int × (List Int))=>YBH n1D.Flow a.1 a.2) (1,[2])=some (.inr [2]):=by
  show YBH [YAC.mk 0 2 []] 1 [2]=_
  unfold YBH; rfl
 have h3:(fun (a:Int × (List Int))=>YCF n1D a.1 a.2) (0,[2])=some (.inr [2]):=by
  show YCF n1D 0 [2]=_
  unfold YCF; rfl
 rw [YBg h1,YAi h2,YAA,YAA,YAi h3]; rfl
end Go.Proofs.YtdafahjmopdleaaGreatDoor.Al


namespace Go.Proofs.YtdafahjmopdleaaGreatDoor.Al
theorem YRJ {μ:YAP→Nat} {γ:YAy→Nat} {ψ:YAY→Nat} {ρ:YAX→Nat} {δ:YAN→Nat} {ν:YAC→Nat} {κ:YAG→Nat}
  (hn : ∀ n,(n.Attrs.map κ).sum+(n.Flow.map ν).sum+γ n.Grid+(n.Draw.map δ).sum+1≤μ n) (hg : ∀ g,(g.Cells.map ψ).sum+(g.Merges.map ρ).sum+1≤γ g)
  (hc : ∀ c,(c.Attrs.map κ).sum+1≤ψ c) (hr : ∀ r,1≤ρ r) (hd : ∀ o,1≤δ o) (he : ∀ e,(e.Attrs.map κ).sum+1≤ν e) (ha : ∀ a,a.Name.length+a.Value.length+1≤κ a)
  {d:GDoc} (hb:(d.Nodes.map μ).sum≤1048576):okDoc d:=by
 have h1:=YEW (μ:=μ) (fun n=>by have:=hn n; omega) d.Nodes
 refine ⟨by omega,fun n hm=>?_⟩
 have h2:=YDn (μ:=μ) hm
 have h3:=hn n
 have h4:=hg n.Grid
 have h5:=YUK (ν:=ν) (κ:=κ) he ha (f:=n.Flow) (by omega)
 have h6:=YEW (μ:=ψ) (fun c=>by have:=hc c; omega) n.Grid.Cells
 have h7:=YEW (μ:=ρ) hr n.Grid.Merges
 have h8:=YEW (μ:=δ) hd n.Draw
 refine ⟨YJ7 ha (by omega),h5.1,h5.2,⟨by omega,by omega,fun c hcm=>YJ7 ha ?_⟩,by omega⟩
 have h9:=YDn (μ:=ψ) hcm
 have:=hc c
 omega
end Go.Proofs.YtdafahjmopdleaaGreatDoor.Al


namespace Go.Proofs.YtdafahjmopdleaaGreatDoor.Al
theorem YGc {n:Nat} (h:n<2147483648):IntKind.i32.wrap (n:Int)=(n:Int):=by
 have e:(n:Int) % (2 ^ (32:Nat):Int)=(n:Int):=Int.emod_eq_of_lt (by omega) (by omega)
 show (if (true && decide ((n:Int) % (2 ^ (32:Nat):Int) ≥ (2 ^ (31:Nat):Int)))=true then (n:Int) % (2 ^ (32:Nat):Int)-(2 ^ (32:Nat):Int) else (n:Int) % (2 ^ (32:Nat):Int))=_
 rw [e,if_neg]
 simp only [Bool.true_and,decide_eq_true_eq]
 omega
theorem YU6 {n:Nat} (h:n<9223372036854775808):IntKind.i64.wrap (n:Int)=(n:Int):=by
 have e:(n:Int) % (2 ^ (64:Nat):Int)=(n:Int):=Int.emod_eq_of_lt (by omega) (by omega)
 show (if (true && decide ((n:Int) % (2 ^ (64:Nat):Int) ≥ (2 ^ (63:Nat):Int)))=true then (n:Int) % (2 ^ (64:Nat):Int)-(2 ^ (64:Nat):Int) else (n:Int) % (2 ^ (64:Nat):Int))=_
 rw [e,if_neg]
 simp only [Bool.true_and,decide_eq_true_eq]
 omega
theorem YJC (i a b:Nat) (hb:b<2 ^ i) (hs:a * 2 ^ i+b<2147483648):bOr .i32 ((a * 2 ^ i:Nat):Int) (b:Int)=((a * 2 ^ i+b:Nat):Int):=by
 unfold bOr
 have h1:(BitVec.ofInt 32 ((a * 2 ^ i:Nat):Int) ||| BitVec.ofInt 32 (b:Int)).toNat=a * 2 ^ i+b:=by
  rw [BitVec.toNat_or,BitVec.ofInt_natCast,BitVec.ofInt_natCast,BitVec.toNat_ofNat,BitVec.toNat_ofNat,Nat.mod_eq_of_lt (by omega),Nat.mod_eq_of_lt (by omega)]
  rw [← Nat.shiftLeft_eq,Nat.shiftLeft_add_eq_or_of_lt hb]
 show IntKind.i32.wrap ((BitVec.ofInt 32 ((a * 2 ^ i:Nat):Int) ||| BitVec.ofInt 32 (b:Int)).toNat:Int)=_
 rw [h1]; exact YGc hs
theorem and31 : ∀ b:Fin 256,bAnd .u8 ((b.val:Nat):Int) 31=((b.val % 32:Nat):Int):=by decide +kernel
theorem and15 : ∀ b:Fin 256,bAnd .u8 ((b.val:Nat):Int) 15=((b.val % 16:Nat):Int):=by decide +kernel
theorem and7 : ∀ b:Fin 256,bAnd .u8 ((b.val:Nat):Int) 7=((b.val % 8:Nat):Int):=by decide +kernel
theorem YRf : ∀ b:Fin 256,bAnd .u8 ((b.val:Nat):Int) 63=((b.val % 64:Nat):Int):=by decide +kernel
theorem YIu (i a:Nat) (hi:i≤32) (hs:a * 2 ^ i<2147483648):shlC .i32 (a:Int) i=((a * 2 ^ i:Nat):Int):=by
 unfold shlC
 show IntKind.i32.wrap ((a:Int) * 2 ^ (min i 32))=_
 rw [Nat.min_eq_left hi,show (a:Int) * 2 ^ i=((a * 2 ^ i:Nat):Int) by push_cast; rfl,YGc hs]
theorem YTH : ∀ c:Fin 256,YDc[c.val]! = (Lib.firstT c.val:Int):=by decide +kernel
theorem YU0 : ∀ c:Fin 256,bOr .i32 (YLT .i32 (IntKind.i32.wrap (c.val:Int)) (shrC .i32 (shlC .i32 (IntKind.i32.wrap 241) 31) 31)) (bAnd .i32 65533 (shrC .i32 (shlC .i32 (IntKind.i32.wrap 241) 31) 31))=65533:=by decide +kernel
theorem YVf : ∀ c:Fin 256,IntKind.i64.wrap (bAnd .u8 (Lib.firstT c.val:Int) 7)=((Lib.firstT c.val % 8:Nat):Int):=by decide +kernel
theorem YU4 : ∀ c:Fin 256,idx YIM (shrC .u8 (Lib.firstT c.val:Int) 4)=some (YBB.mk (Lib.accLo (Lib.firstT c.val / 16)) (Lib.accHi (Lib.firstT c.val / 16))):=by decide +kernel
theorem YPo : ∀ c:Fin 256,128≤c.val→Lib.firstT c.val=241∨(2≤Lib.firstT c.val % 8∧Lib.firstT c.val % 8≤4∧Lib.firstT c.val<240):=by decide +kernel
theorem YWV (c d:Fin 256):bOr .i32 (shlC .i32 (IntKind.i32.wrap (bAnd .u8 ((c.val:Nat):Int) 31)) 6) (IntKind.i32.wrap (bAnd .u8 ((d.val:Nat):Int) 63))=((c.val % 32 * 64+d.val % 64:Nat):Int):=by
 rw [and31,YRf,YGc (by omega),YGc (by omega),YIu 6 _ (by omega) (by omega),YJC 6 _ _ (by omega) (by omega)]
theorem YWU (c d e:Fin 256):bOr .i32 (bOr .i32 (shlC .i32 (IntKind.i32.wrap (bAnd .u8 ((c.val:Nat):Int) 15)) 12) (shlC .i32 (IntKind.i32.wrap (bAnd .u8 ((d.val:Nat):Int) 63)) 6)) (IntKind.i32.wrap (bAnd .u8 ((e.val:Nat):Int) 63)) =
  ((c.val % 16 * 4096+d.val % 64 * 64+e.val % 64:Nat):Int):=by
 rw [and15,YRf,YRf,YGc (by omega),YGc (by omega),YGc (by omega),YIu 12 _ (by omega) (by omega),YIu 6 _ (by omega) (by omega),YJC 12 _ _ (by omega) (by omega),
  show c.val % 16 * 2 ^ 12+d.val % 64 * 2 ^ 6=(c.val % 16 * 64+d.val % 64) * 2 ^ 6 by omega,YJC 6 _ _ (by omega) (by omega)]
theorem YWT (c d e f:Fin 256):bOr .i32 (bOr .i32 (bOr .i32 (shlC .i32 (IntKind.i32.wrap (bAnd .u8 ((c.val:Nat):Int) 7)) 18) (shlC .i32 (IntKind.i32.wrap (bAnd .u8 ((d.val:Nat):Int) 63)) 12)) (shlC .i32 (IntKind.i32.wrap (bAnd .u8 ((e.val:Nat):Int) 63)) 6)) (IntKind.i32.wrap (bAnd .u8 ((f.val:Nat):Int) 63)) =
  ((c.val % 8 * 262144+d.val % 64 * 4096+e.val % 64 * 64+f.val % 64:Nat):Int):=by
 rw [and7,YRf,YRf,YRf,YGc (by omega),YGc (by omega),YGc (by omega),YGc (by omega),YIu 18 _ (by omega) (by omega),YIu 12 _ (by omega) (by omega),YIu 6 _ (by omega) (by omega),YJC 18 _ _ (by omega) (by omega),
  show c.val % 8 * 2 ^ 18+d.val % 64 * 2 ^ 12=(c.val % 8 * 64+d.val % 64) * 2 ^ 12 by omega,YJC 12 _ _ (by omega) (by omega),
  show (c.val % 8 * 64+d.val % 64) * 2 ^ 12+e.val % 64 * 2 ^ 6=((c.val % 8 * 64+d.val % 64) * 64+e.val % 64) * 2 ^ 6 by omega,YJC 6 _ _ (by omega) (by omega)]
theorem YHE (s:List UInt8) (k:Nat) (h:k<s.length):s.getD k 0=s[k]!:=by
 rw [getElem!_pos s k h,List.getD_eq_getElem?_getD,List.getElem?_eq_getElem h]; rfl
theorem YTy (s:List UInt8) (h:s≠[]) (h128:128≤(s.getD 0 0).toNat):YAg s=some (((Lib.decodeL s).1:Int),((Lib.decodeL s).2:Int)):=by
 have h0:0<s.length:=List.length_pos_iff.2 h
 rw [Lib.decodeL_N]
 unfold YAg
 rw [if_neg (by rw [decide_eq_true_eq]; omega),show (0:Int)=((0:Nat):Int) from rfl,YAH h0,YAA]
 rw [YHE s 0 h0] at h128 ⊢
 generalize s[0]! = c at h128 ⊢
 obtain ⟨C,hC⟩ : ∃ C:Fin 256,C.val=c.toNat:=⟨⟨c.toNat,c.toNat_lt⟩,rfl⟩
 rw [← hC] at h128 ⊢
 rw [YAH (l:=YDc) (by rw [YTG]; exact C.isLt),YAA,YTH,YU4,YVf]
 rcases YPo C h128 with hf | ⟨hf1,hf2,hf3⟩
 ·rw [if_pos (by rw [decide_eq_true_eq]; omega),Lib.bad_eq _ _ _ _ _ C.isLt hf,hf]
  show some (_,(1:Int))=_
  rw [show ((241:Nat):Int)=241 from rfl,YU0 C]; rfl
 ·rw [if_neg (by rw [decide_eq_true_eq]; omega),YAA]
  have hsl:=Lib.slow_eq s.length C.val (s.getD 1 0).toNat (s.getD 2 0).toNat (s.getD 3 0).toNat h0 (UInt8.toNat_lt _) (UInt8.toNat_lt _) (UInt8.toNat_lt _) hf3
  rw [← hsl]
  generalize hsz:Lib.firstT C.val % 8=sz at hf1 hf2 ⊢
  generalize Lib.accLo (Lib.firstT C.val / 16)=lo
  generalize Lib.accHi (Lib.firstT C.val / 16)=hi
  unfold Lib.slowN
  by_cases hl:s.length<sz
  ·rw [if_pos (by rw [decide_eq_true_eq]; omega),if_pos hl]; rfl
  rw [if_neg (by rw [decide_eq_true_eq]; omega),if_neg hl,show (1:Int)=((1:Nat):Int) from rfl,YAH (by omega),YAA,YHE s 1 (by omega)]
  generalize s[1]! = d
  obtain ⟨D,hD⟩ : ∃ D:Fin 256,D.val=d.toNat:=⟨⟨d.toNat,d.toNat_lt⟩,rfl⟩
  rw [← hD]
  by_cases c1:D.val<lo∨hi<D.val
  ·rw [if_pos (by simp only [Bool.or_eq_true,decide_eq_true_eq]; omega),if_pos c1]; rfl
  rw [if_neg (by simp only [Bool.or_eq_true,decide_eq_true_eq]; omega),if_neg c1]
  by_cases e2:sz≤2
  ·rw [if_pos (by rw [decide_eq_true_eq]; omega),if_pos e2,YWV]; rfl
  rw [if_neg (by rw [decide_eq_true_eq]; omega),if_neg e2,show (2:Int)=((2:Nat):Int) from rfl,YAH (by omega),YAA,YHE s 2 (by omega)]
  generalize s[2]! = e
  obtain ⟨E,hE⟩ : ∃ E:Fin 256,E.val=e.toNat:=⟨⟨e.toNat,e.toNat_lt⟩,rfl⟩
  rw [← hE]
  by_cases c2:E.val<128∨191<E.val
  ·rw [if_pos (by simp only [Bool.or_eq_true,decide_eq_true_eq]; omega),if_pos c2]; rfl
  rw [if_neg (by simp only [Bool.or_eq_true,decide_eq_true_eq]; omega),if_neg c2]
  by_cases e3:sz≤3
  ·rw [if_pos (by rw [decide_eq_true_eq]; omega),if_pos e3,YWU]; rfl
  rw [if_neg (by rw [decide_eq_true_eq]; omega),if_neg e3,show (3:Int)=((3:Nat):Int) from rfl,YAH (by omega),YAA,YHE s 3 (by omega)]
  generalize s[3]! = f
  obtain ⟨F,hF⟩ : ∃ F:Fin 256,F.val=f.toNat:=⟨⟨f.toNat,f.toNat_lt⟩,rfl⟩
  rw [← hF]
  by_cases c3:F.val<128∨191<F.val
  ·rw [if_pos (by simp only [Bool.or_eq_true,decide_eq_true_eq]; omega),if_pos c3]; rfl
  rw [if_neg (by simp only [Bool.or_eq_true,decide_eq_true_eq]; omega),if_neg c3,YWT]; rfl
theorem YRZ (s:List UInt8) (h:s≠[]):YAp s=some (((Lib.decodeL s).1:Int),((Lib.decodeL s).2:Int)):=by
 have h0:0<s.length:=List.length_pos_iff.2 h
 unfold YAp
 rw [decide_eq_false h,show ((!false) == true)=true from rfl,YAL,show (0:Int)=((0:Nat):Int) from rfl,YAH h0,YAA,Bool.not_false,Bool.true_and]
 by_cases hc:(s[0]!).toNat<128
 ·rw [if_pos (by rw [decide_eq_true_eq]; omega),YAA,YGc (by omega)]
  obtain ⟨c,t,rfl⟩:=List.exists_cons_of_ne_nil h
  have hc':c.toNat<128:=hc
  rw [Lib.decodeL_ascii c t hc']; rfl
 ·rw [if_neg (by rw [decide_eq_true_eq]; omega),YTy s h (by rw [YHE s 0 h0]; omega),YAz]
def badR (r:Nat):Bool:=decide (r=10) || !YHL (r:Int)
def YLm:Nat→List UInt8→Bool
 | 0,_=>true
 | n+1,s=>if s=[] then true else if ((Lib.decodeL s).1=65533∧(Lib.decodeL s).2=1)∨badR (Lib.decodeL s).1=true then false else YLm n (s.drop (Lib.decodeL s).2)
theorem YR7 (n:Nat) (s:List UInt8):YLm (n+1) s=if s=[] then true else if ((Lib.decodeL s).1=65533∧(Lib.decodeL s).2=1)∨badR (Lib.decodeL s).1=true then false else YLm n (s.drop (Lib.decodeL s).2):=rfl
def YSO:Nat→List UInt8→Bool
 | 0,_=>true
 | n+1,s=>if s=[] then true else if badR (Lib.decodeL s).1=true then false else YSO n (s.drop (Lib.decodeL s).2)
theorem YSN (n:Nat) (s:List UInt8):YSO (n+1) s=if s=[] then true else if badR (Lib.decodeL s).1=true then false else YSO n (s.drop (Lib.decodeL s).2):=rfl
theorem YR6 : ∀ (n:Nat) (s:List UInt8),s.length≤n→(Lib.validD s && YSO n s)=YLm n s:=by
 intro n
 induction n with
 | zero=>intro s hs; obtain rfl:=List.eq_nil_of_length_eq_zero (Nat.le_zero.1 hs); rfl
 | succ n ih=>
  intro s hs
  rw [YR7,YSN]
  by_cases hn:s=[]
  ·subst hn; rfl
  ·have hw:=Lib.decodeL_width s
   have hl:=List.length_pos_iff.2 hn
   rw [if_neg hn,if_neg hn,Lib.validD_step s hn]
   by_cases hv:(Lib.decodeL s).1=65533∧(Lib.decodeL s).2=1
   ·rw [if_pos hv,if_pos (show ((Lib.decodeL s).1=65533∧(Lib.decodeL s).2=1)∨badR (Lib.decodeL s).1=true from .inl hv)]; rfl
   ·rw [if_neg hv]
    by_cases hb:badR (Lib.decodeL s).1=true
    ·rw [if_pos hb,if_pos (.inr hb),Bool.and_false]
    ·rw [if_neg hb,if_neg (by rintro (h | h); exact hv h; exact hb h)]
     exact ih _ (by rw [List.length_drop]; omega)
theorem YLP (r:Nat) (h:r≤1114111):IntKind.i64.wrap (r:Int)=(r:Int):=YU6 (by omega)
theorem YOU (s:List UInt8):YHD s=some (YLm s.length s):=by
 unfold YHD
 have key : ∀ (n:Nat) (s:List UInt8),s.length≤n→(ctl1 (iter (fun (a:(List UInt8))=>YA6 a) s) fun (_:Unit)=>some true)=some (YLm n s):=by
  intro n
  induction n with
  | zero=>
   intro s hs
   obtain rfl:=List.eq_nil_of_length_eq_zero (Nat.le_zero.1 hs)
   have h1:(fun (a:(List UInt8))=>YA6 a) []=some (.inr (.nrm ())):=by
    show YA6 []=_
    unfold YA6; rfl
   rw [YAi h1]; rfl
  | succ n ih=>
   intro s hs
   rw [YR7]
   by_cases hn:s=[]
   ·subst hn
    have h1:(fun (a:(List UInt8))=>YA6 a) []=some (.inr (.nrm ())):=by
     show YA6 []=_
     unfold YA6; rfl
    rw [YAi h1]; rfl
   ·have hw:=Lib.decodeL_width s
    have hle:=Lib.decodeL_le s hn
    have hr:=Lib.decodeL_rune s
    have hstep:YA6 s=if ((Lib.decodeL s).1=65533∧(Lib.decodeL s).2=1)∨badR (Lib.decodeL s).1=true then some (.inr (.ext false)) else some (.inl (s.drop (Lib.decodeL s).2)):=by
     unfold YA6 badR
     rw [if_pos (ndT hn),YRZ s hn,YAz,YLP _ hr,YJa]
     generalize (Lib.decodeL s).1=r at *
     generalize (Lib.decodeL s).2=w at *
     by_cases h1:r=65533∧w=1
     ·obtain ⟨rfl,rfl⟩:=h1
      rw [if_pos (.inl ⟨rfl,rfl⟩)]; rfl
     ·have e1:((decide ((r:Int)=65533)) && (decide ((w:Int)=1)))=false:=by
       rw [← Bool.not_eq_true,Bool.and_eq_true,decide_eq_true_eq,decide_eq_true_eq]; omega
      by_cases h2:r=10
      ·subst h2
       rw [if_pos (.inr (by rfl)),e1]; rfl
      ·have e2:(decide ((r:Int)=10))=false:=decide_eq_false (by omega)
       rw [e1,e2,decide_eq_false h2]
       show (bnd1 (gd true (some (YHL (r:Int)))) fun (r3:Bool)=>_)=_
       rw [YAL,YAA,YSI s w hle,YAA]
       cases YHL (r:Int)
       ·rw [if_pos (show (r=65533∧w=1)∨(false || !false)=true from .inr rfl)]; rfl
       ·rw [if_neg (show ¬ ((r=65533∧w=1)∨(false || !true)=true) by rintro (h | h); exact h1 h; exact absurd h (by decide))]; rfl
    by_cases hb:((Lib.decodeL s).1=65533∧(Lib.decodeL s).2=1)∨badR (Lib.decodeL s).1=true
    ·rw [if_pos hb] at hstep
     rw [YAi (f:=fun (a:(List UInt8))=>YA6 a) hstep,if_neg hn,if_pos hb]; rfl
    ·rw [if_neg hb] at hstep
     rw [YBg (f:=fun (a:(List UInt8))=>YA6 a) hstep,if_neg hn,if_neg hb]
     exact ih _ (by rw [List.length_drop]; omega)
 exact key s.length s (Nat.le_refl _)
theorem YSP (s:List UInt8) (p:Nat):YFl s p=Lib.decodeL (s.drop p):=(Lib.decodeL_drop ⟨s.toArray⟩ p).symm
theorem YK9 (s:List UInt8) (hs:s.length≤9223372036854775807):YEp s=some (YLm s.length s):=by
 unfold YEp YBa YP7
 rw [if_pos hs,YAA,← YR6 s.length s (Nat.le_refl _)]
 cases Lib.validD s with
 | false=>rfl
 | true=>
  rw [if_neg (by decide),Bool.true_and]
  have key : ∀ (n p:Nat),s.length-p≤n→(ctl1 (iter (fun (a:(Nat))=>YAm s a) p) fun (_:Unit)=>some true)=some (YSO n (s.drop p)):=by
   intro n
   induction n with
   | zero=>
    intro p hp
    have h1:(fun (a:(Nat))=>YAm s a) p=some (.inr (.nrm ())):=by
     show YAm s p=_
     unfold YAm; rw [if_neg (by rw [decide_eq_true_eq]; omega)]
    rw [YAi h1]; rfl
   | succ n ih=>
    intro p hp
    rw [YSN]
    by_cases hn:s.length≤p
    ·have h1:(fun (a:(Nat))=>YAm s a) p=some (.inr (.nrm ())):=by
      show YAm s p=_
      unfold YAm; rw [if_neg (by rw [decide_eq_true_eq]; omega)]
     rw [YAi h1,if_pos (List.drop_eq_nil_of_le hn)]; rfl
    ·have hne:s.drop p≠[]:=by
      intro e
      have:=congrArg List.length e
      rw [List.length_drop,List.length_nil] at this
      omega
     have hw:=Lib.decodeL_width (s.drop p)
     have hr:=Lib.decodeL_rune (s.drop p)
     have hstep:YAm s p=if badR (Lib.decodeL (s.drop p)).1=true then some (.inr (.ext false)) else some (.inl (p+(Lib.decodeL (s.drop p)).2)):=by
      unfold YAm badR
      rw [if_pos (by rw [decide_eq_true_eq]; omega),YSP,YLP _ hr,YK8]
      generalize (Lib.decodeL (s.drop p)).1=r at *
      generalize (Lib.decodeL (s.drop p)).2=w at *
      by_cases h2:r=10
      ·subst h2; rfl
      ·rw [decide_eq_false h2,decide_eq_false (show ¬ ((r:Int)=10) by omega)]
       show (bnd1 (gd true (some (YHL (r:Int)))) fun (r3:Bool)=>_)=_
       rw [YAL,YAA]
     rw [if_neg hne]
     by_cases hb:badR (Lib.decodeL (s.drop p)).1=true
     ·rw [if_pos hb] at hstep
      rw [YAi (f:=fun (a:(Nat))=>YAm s a) hstep,if_pos hb]; rfl
     ·rw [if_neg hb] at hstep
      rw [YBg (f:=fun (a:(Nat))=>YAm s a) hstep,if_neg hb,List.drop_drop]
      exact ih _ (by omega)
  have:=key s.length 0 (by omega)
  rw [List.drop_zero] at this
  exact this
end Go.Proofs.YtdafahjmopdleaaGreatDoor.Al


namespace Go.Proofs.YtdafahjmopdleaaGreatDoor.Al
theorem YLJ {ρ:Type} {f g:Int→Option (Int ⊕ Ctl Unit ρ)} {n:Nat} (I:Nat→Prop) (h0:I 0) (h : ∀ k:Nat,k<n→I k → ∃ o:Option ρ,f k=YBb k o∧g k=YBb k o∧(o=none→I (k+1)))
  (hf:f n=some (.inr (.nrm ()))) (hg:g n=some (.inr (.nrm ()))) : ∃ o:Option ρ,iter f 0=some (YIV o)∧iter g 0=some (YIV o)∧(o=none→I n):=by
 have key : ∀ m k:Nat,k+m=n→I k → ∃ o:Option ρ,iter f (k:Int)=some (YIV o)∧iter g (k:Int)=some (YIV o)∧(o=none→I n):=by
  intro m
  induction m with
  | zero=>
   intro k hk hi
   obtain rfl:k=n:=by omega
   exact ⟨none,YAi hf,YAi hg,fun _=>hi⟩
  | succ m ih=>
   intro k hk hi
   obtain ⟨o,h1,h2,h3⟩:=h k (by omega) hi
   cases o with
   | some r=>exact ⟨some r,YAi h1,YAi h2,fun e=>by cases e⟩
   | none=>
    obtain ⟨o,e1,e2,e3⟩:=ih (k+1) (by omega) (h3 rfl)
    exact ⟨o,(YBg h1).trans e1,(YBg h2).trans e2,e3⟩
 exact key n 0 (by omega) h0
theorem YQq (x y:Int):YBX x y=some (if x<y then -1 else if y<x then 1 else 0):=by
 unfold YBX YEJ
 rw [decide_eq_true (rfl:x=x),decide_eq_true (rfl:y=y),YAA,YAA,if_neg (by decide),if_neg (by decide)]
 by_cases h1:x<y
 ·rw [if_pos (decide_eq_true h1),if_pos h1]
 ·rw [if_neg (by simpa using h1),if_neg h1]
  by_cases h2:y<x
  ·rw [if_pos (decide_eq_true h2),if_pos h2]
  ·rw [if_neg (by simpa using h2),if_neg h2]
theorem YOm (a b:Int):YFJ [a,b]=some (if a≠0 then a else b):=by
 unfold YFJ
 by_cases ha:a≠0
 ·have h1:(fun (x:Int)=>YAk [a,b] x) 0=some (.inr (.ext a)):=by
   show YAk [a,b] 0=_
   unfold YAk
   rw [if_pos (by simp),show idx [a,b] 0=some a from rfl,YAA,if_pos (ndT ha)]
  rw [YAi h1,if_pos ha]; rfl
 ·have ha':a=0:=Classical.not_not.1 ha
  have h1:(fun (x:Int)=>YAk [a,b] x) 0=some (.inl 1):=by
   show YAk [a,b] 0=_
   unfold YAk
   rw [if_pos (by simp),show idx [a,b] 0=some a from rfl,YAA,if_neg (ndF ha')]; rfl
  by_cases hb:b≠0
  ·have h2:(fun (x:Int)=>YAk [a,b] x) 1=some (.inr (.ext b)):=by
    show YAk [a,b] 1=_
    unfold YAk
    rw [if_pos (by simp),show idx [a,b] 1=some b from rfl,YAA,if_pos (ndT hb)]
   rw [YBg h1,YAi h2,if_neg ha]; rfl
  ·have hb':b=0:=Classical.not_not.1 hb
   have h2:(fun (x:Int)=>YAk [a,b] x) 1=some (.inl 2):=by
    show YAk [a,b] 1=_
    unfold YAk
    rw [if_pos (by simp),show idx [a,b] 1=some b from rfl,YAA,if_neg (ndF hb')]; rfl
   have h3:(fun (x:Int)=>YAk [a,b] x) 2=some (.inr (.nrm ())):=by
    show YAk [a,b] 2=_
    unfold YAk
    rw [if_neg (by simp)]
   rw [YBg h1,YBg h2,YAi h3,if_neg ha,hb']; rfl
def ord2 (a b c d:Int):Int:=if a<b then -1 else if b<a then 1 else if c<d then -1 else if d<c then 1 else 0
theorem or2 (a b c d:Int):(if (if a<b then -1 else if b<a then 1 else 0)≠(0:Int) then (if a<b then -1 else if b<a then 1 else 0) else if c<d then -1 else if d<c then 1 else (0:Int))=ord2 a b c d:=by
 unfold ord2
 by_cases h1:a<b
 ·simp [h1]
 ·by_cases h2:b<a
  ·simp [h1,h2]
  ·simp [h1,h2]
theorem YM7 (a b c d:Int):0≤ord2 a b c d↔(b<a∨(b=a∧d≤c)):=by
 unfold ord2
 split
 ·constructor <;> intro h <;> omega
 ·split
  ·constructor <;> intro h <;> omega
  ·split
   ·constructor <;> intro h <;> omega
   ·split
    ·constructor <;> intro h <;> omega
    ·constructor <;> intro h <;> omega
theorem YNF (a b:YAY):YFH a b=some (ord2 a.Row b.Row a.Col b.Col):=by
 unfold YFH
 rw [YQq,YQq,YAA,YAA,YOm,YAA,or2]
theorem YBC (x a b:Int):YC2 x a b=some (decide (a≤x∧x≤b)):=by
 rw [YG8]
 congr 1
 rw [Bool.eq_iff_iff]; simp
def inC (rows cols:Int) (c:YAY):Prop:=0≤c.Row∧c.Row<rows∧0≤c.Col∧c.Col<cols∧0≤c.Ref∧c.Ref≤1073741824
instance (rows cols:Int) (c:YAY):Decidable (inC rows cols c):=by unfold inC; infer_instance
def YJe (c:YAY):Bool:=decide (c.Text=[]) && decide (c.Ref=0) && decide (c.Attrs=[])
def YUz (rows cols:Int) (none_:Bool) (c:YAY):Int:=
 if ¬ inC rows cols c then 2 else if YLm c.Text.length c.Text=false then 23 else if YAx c.Attrs false≠0 then YAx c.Attrs false else if (!none_ && YJe c)=true then 4 else 0
def errC (rows cols:Int) (none_:Bool) (l:List YAY) (k:Nat):Option Int:=
 if YUz rows cols none_ l[k]! ≠ 0 then some (YUz rows cols none_ l[k]!) else if 0<k∧0≤ord2 l[k-1]!.Row l[k]!.Row l[k-1]!.Col l[k]!.Col then some 5 else none
def YHa (rows cols:Int) (none_:Bool) (l:List YAY):Int:=((List.range l.length).findSome? (errC rows cols none_ l)).getD 0
theorem YOO (l:List YAG):decide ((l.length:Int)=0)=decide (l=[]):=by
 rw [Bool.eq_iff_iff,decide_eq_true_eq,decide_eq_true_eq,← List.length_eq_zero_iff]; omega
def okC (c:YAY):Prop:=okA c.Attrs∧c.Text.length≤1073741824
theorem YQ4 (l:List YAY) (k:Nat) (hk:k<l.length) (hm:l.length≤9223372036854775806) :
  (bnd1 (gd ((decide (0<(k:Int))) == true) (chk .i64 ((k:Int)-1))) fun (x5:Int)=>
   bnd1 (gd ((decide (0<(k:Int))) == true) (idx l x5)) fun (x6:YAY)=>
   bnd1 (gd ((decide (0<(k:Int))) == true) (YFH x6 l[k]!)) fun (r3:Int)=>
   if ((decide (0<(k:Int))) && (decide (0≤r3))) then (some (.inr (.ext 5)):Option (Int ⊕ (Ctl Unit Int))) else (
    bnd1 (chk .i64 ((k:Int)+1)) fun (x7:Int)=>some (.inl x7)))=YBb k (if 0<k∧0≤ord2 l[k-1]!.Row l[k]!.Row l[k-1]!.Col l[k]!.Col then some 5 else none):=by
 by_cases h0:0<k
 ·rw [decide_eq_true (show (0:Int)<k by omega),show ((true == true):Bool)=true from rfl,YAL,YDO h0 (by omega),YAA,YAL,YAH (by omega),YAA,YAL,YNF,YAA]
  by_cases h1:0≤ord2 l[k-1]!.Row l[k]!.Row l[k-1]!.Col l[k]!.Col
  ·rw [if_pos (show (true && decide (0≤ord2 l[k-1]!.Row l[k]!.Row l[k-1]!.Col l[k]!.Col))=true by rw [decide_eq_true h1]; rfl),if_pos ⟨h0,h1⟩]; rfl
  ·rw [if_neg (show ¬ (true && decide (0≤ord2 l[k-1]!.Row l[k]!.Row l[k-1]!.Col l[k]!.Col))=true by rw [decide_eq_false h1]; decide),if_neg (fun h=>h1 h.2),YAM (by omega)]; rfl
 ·obtain rfl:k=0:=by omega
  rw [if_neg (show ¬ (0<0∧_) from fun h=>absurd h.1 (by decide))]; rfl
theorem YNG (rows cols:Int) (nn:Bool) (l:List YAY) (hm:l.length≤1073741824) (hl : ∀ c∈l,okC c):YGD l rows cols nn=some (YHa rows cols nn l):=by
 unfold YGD
 rw [YAe (n:=l.length) (errC rows cols nn l) (fun k hk=>by
  obtain ⟨ha,ht⟩:=hl _ (YBR hk)
  have hto:=YQ4 l k hk (by omega)
  unfold YED errC YUz
  rw [if_pos (by simpa using hk),YAH hk,YAA]
  by_cases h1:inC rows cols l[k]!
  ·have h1':=h1
   unfold inC at h1'
   rw [if_neg (by simp only [Bool.or_eq_true,decide_eq_true_eq]; omega),if_neg (by simp only [Bool.or_eq_true,decide_eq_true_eq]; omega),YOU,YAA,YGb _ ha.2 (by have:=ha.1; omega),YAA,hto]
   rw [if_neg (Classical.not_not.2 h1)]
   cases htx:YLm l[k]!.Text.length l[k]!.Text with
   | false=>rfl
   | true=>
    rw [if_neg (show ¬ ((!true)=true) by decide),if_neg (show ¬ (true=false) by decide)]
    by_cases h3:YAx l[k]!.Attrs false=0
    ·rw [if_neg (ndF h3),if_neg (Classical.not_not.2 h3)]
     have he:YGC l[k]! = some (YJe l[k]!):=by unfold YGC YJe; rw [YOO]
     rw [he,YAA]
     by_cases h4:(!nn && YJe l[k]!)=true
     ·rw [if_pos (by rw [Bool.and_comm]; exact h4),if_pos h4]; rfl
     ·rw [if_neg (by rw [Bool.and_comm]; exact h4),if_neg h4,if_neg (show ¬ ((0:Int)≠0) from fun h=>h rfl)]
    ·rw [if_pos (ndT h3),if_pos h3,if_pos h3]; rfl
  ·rw [if_pos h1]
   unfold inC at h1
   by_cases h2:((((decide (l[k]!.Row<0)) || (decide (rows≤l[k]!.Row))) || (decide (l[k]!.Col<0))) || (decide (cols≤l[k]!.Col)))=true
   ·rw [if_pos h2]; rfl
   ·rw [if_neg h2,if_pos (by simp only [Bool.or_eq_true,decide_eq_true_eq] at h2 ⊢; omega)]; rfl) (by unfold YED; rw [if_neg (by simp)]),YCd]
 rfl
theorem YLq (l:List YAY) (k:Nat) (hk:k<l.length) (hm:l.length≤9223372036854775806) :
  (bnd1 (gd ((decide (0<(k:Int))) == true) (chk .i64 ((k:Int)-1))) fun (x7:Int)=>
      bnd1 (gd ((decide (0<(k:Int))) == true) (idx l x7)) fun (x8:YAY)=>
      bnd1 (gd ((((decide (0<(k:Int))) == true) && ((decide (l[k]!.Row<x8.Row)) == false)) && ((decide (l[k]!.Row=x8.Row)) == true)) (chk .i64 ((k:Int)-1))) fun (x9:Int)=>
      bnd1 (gd ((((decide (0<(k:Int))) == true) && ((decide (l[k]!.Row<x8.Row)) == false)) && ((decide (l[k]!.Row=x8.Row)) == true)) (idx l x9)) fun (x10:YAY)=>
      if ((decide (0<(k:Int))) && ((decide (l[k]!.Row<x8.Row)) || ((decide (l[k]!.Row=x8.Row)) && (decide (l[k]!.Col≤x10.Col))))) then (some (.inr (.ext 5)):Option (Int ⊕ (Ctl Unit Int))) else (
       bnd1 (chk .i64 ((k:Int)+1)) fun (x11:Int)=>some (.inl x11)))=YBb k (if 0<k∧0≤ord2 l[k-1]!.Row l[k]!.Row l[k-1]!.Col l[k]!.Col then some 5 else none):=by
 have ho:=YM7 l[k-1]!.Row l[k]!.Row l[k-1]!.Col l[k]!.Col
 by_cases h0:0<k
 ·rw [decide_eq_true (show (0:Int)<k by omega),show ((true == true):Bool)=true from rfl,YAL,YDO h0 (by omega),YAA,YAL,YAH (show k-1<l.length by omega),YAA]
  by_cases h1:l[k]!.Row<l[k-1]!.Row
  ·rw [decide_eq_true h1,if_pos (show 0<k∧0≤ord2 l[k-1]!.Row l[k]!.Row l[k-1]!.Col l[k]!.Col from ⟨h0,ho.2 (.inl h1)⟩)]; rfl
  ·by_cases h2:l[k]!.Row=l[k-1]!.Row
   ·rw [decide_eq_false h1,decide_eq_true h2,show (((true && (false == false)) && (true == true)):Bool)=true from rfl,YAL,YAA,YAL,YAH (show k-1<l.length by omega),YAA]
    by_cases h3:l[k]!.Col≤l[k-1]!.Col
    ·rw [decide_eq_true h3,if_pos (show 0<k∧0≤ord2 l[k-1]!.Row l[k]!.Row l[k-1]!.Col l[k]!.Col from ⟨h0,ho.2 (.inr ⟨h2,h3⟩)⟩)]; rfl
    ·rw [decide_eq_false h3,if_neg (show ¬ (0<k∧0≤ord2 l[k-1]!.Row l[k]!.Row l[k-1]!.Col l[k]!.Col) from fun h=>by have:=ho.1 h.2; omega),YAM (by omega)]; rfl
   ·rw [decide_eq_false h1,decide_eq_false h2,if_neg (show ¬ (0<k∧0≤ord2 l[k-1]!.Row l[k]!.Row l[k-1]!.Col l[k]!.Col) from fun h=>by have:=ho.1 h.2; omega),YAM (by omega)]; rfl
 ·obtain rfl:k=0:=by omega
  rw [if_neg (show ¬ (0<0∧_) from fun h=>absurd h.1 (by decide))]; rfl
theorem YIy (rows cols:Int) (nn:Bool) (l:List YAY) (hm:l.length≤1073741824) (hl : ∀ c∈l,okC c) (hr:0≤rows∧rows≤2147483647) (hcc:0≤cols∧cols≤2147483647):YDW l rows cols nn=some (YHa rows cols nn l):=by
 unfold YDW
 rw [YAe (n:=l.length) (errC rows cols nn l) (fun k hk=>by
  obtain ⟨ha,ht⟩:=hl _ (YBR hk)
  have hto:=YLq l k hk (by omega)
  unfold YCP errC YUz
  rw [if_pos (by simpa using hk),YAH hk,YAA,YDi (by omega) (by omega),YAA,YBC,YAA,YBC,hto]
  by_cases h1:inC rows cols l[k]!
  ·have h1':=h1
   unfold inC at h1'
   rw [if_neg (Classical.not_not.2 h1),decide_eq_true (show 0≤l[k]!.Row∧l[k]!.Row≤rows-1 by omega),show ((!true) == false)=true from rfl,YAL,YDi (by omega) (by omega),YAA,YAL,YBC,YAA,decide_eq_true (show 0≤l[k]!.Col∧l[k]!.Col≤cols-1 by omega),
    show (((!true) || (!true)) == false)=true from rfl,YAL,YAA,decide_eq_true (show 0≤l[k]!.Ref∧l[k]!.Ref≤1073741824 by omega),if_neg (by decide),YK9 _ (by omega),YAA,YDL _ _ ha.2 (by have:=ha.1; omega),YAA]
   cases htx:YLm l[k]!.Text.length l[k]!.Text with
   | false=>rfl
   | true=>
    rw [if_neg (show ¬ ((!true)=true) by decide),if_neg (show ¬ (true=false) by decide)]
    by_cases h3:YAx l[k]!.Attrs false=0
    ·rw [if_neg (ndF h3),if_neg (Classical.not_not.2 h3)]
     have he:YD8 l[k]! = some (YJe l[k]!):=by unfold YD8 YJe; rw [YOO]
     rw [he]
     cases nn with
     | true=>rfl
     | false=>
      show (bnd1 (gd true (some (YJe l[k]!))) fun (r5:Bool)=>_)=_
      rw [YAL,YAA]
      cases YJe l[k]! <;> rfl
    ·rw [if_pos (ndT h3),if_pos h3,if_pos h3]; rfl
  ·rw [if_pos h1]
   unfold inC at h1
   by_cases e1:0≤l[k]!.Row∧l[k]!.Row≤rows-1
   ·rw [decide_eq_true e1,show ((!true) == false)=true from rfl,YAL,YDi (by omega) (by omega),YAA,YAL,YBC,YAA]
    by_cases e2:0≤l[k]!.Col∧l[k]!.Col≤cols-1
    ·rw [decide_eq_true e2,show (((!true) || (!true)) == false)=true from rfl,YAL,YAA,decide_eq_false (show ¬ (0≤l[k]!.Ref∧l[k]!.Ref≤1073741824) by omega)]; rfl
    ·rw [decide_eq_false e2]; rfl
   ·rw [decide_eq_false e1]; rfl) (by unfold YCP; rw [if_neg (by simp)]),YCd]
 rfl
end Go.Proofs.YtdafahjmopdleaaGreatDoor.Al


namespace Go.Proofs.YtdafahjmopdleaaGreatDoor.Al
theorem YMU {ρ:Type} {f:Int→Option (Int ⊕ Ctl Unit ρ)} {n:Nat} (g:Nat→Option ρ) (h1 : ∀ k:Nat,k<n→(∀ j,j<k→g j=none)→f k=YBb k (g k))
  (h2:f n=some (.inr (.nrm ()))):iter f 0=some (YIV ((List.range n).findSome? g)):=by
 have key : ∀ m k:Nat,k+m=n→(∀ j,j<k→g j=none)→iter f (k:Int)=some (YIV ((List.range' k m).findSome? g)):=by
  intro m
  induction m with
  | zero=>
   intro k hk _
   obtain rfl:k=n:=by omega
   rw [YAi h2]; rfl
  | succ m ih=>
   intro k hk hj
   have hs:=h1 k (by omega) hj
   rw [List.range'_succ,List.findSome?_cons]
   cases hg:g k with
   | some r=>rw [hg] at hs; rw [YAi hs]; rfl
   | none=>
    rw [hg] at hs
    rw [YBg hs]
    exact ih (k+1) (by omega) (fun j hj'=>by
     by_cases e:j=k
     ·rw [e]; exact hg
     ·exact hj j (by omega))
 have:=key n 0 (by omega) (fun j hj=>absurd hj (Nat.not_lt_zero _))
 rw [List.range_eq_range']
 exact this
def insR (rows cols:Int) (r:YAX):Prop:=0≤r.Row∧r.Row<rows∧0≤r.Col∧r.Col<cols∧1≤r.H∧r.H≤rows-r.Row∧1≤r.W∧r.W≤cols-r.Col
instance (rows cols:Int) (r:YAX):Decidable (insR rows cols r):=by unfold insR; infer_instance
def mtR (a b:YAX):Bool:=decide (a.Row<b.Row+b.H∧b.Row<a.Row+a.H∧a.Col<b.Col+b.W∧b.Col<a.Col+a.W)
def okRC (rows cols:Int):Prop:=0≤rows∧rows≤2147483647∧0≤cols∧cols≤2147483647
instance (rows cols:Int):Decidable (okRC rows cols):=by unfold okRC; infer_instance
theorem YS6 (r:YAX) (rows cols:Int) (h:okRC rows cols):YFW r rows cols=some (decide (insR rows cols r)):=by
 obtain ⟨h1,h2,h3,h4⟩:=h
 unfold YFW
 by_cases c1:0≤r.Row∧0≤r.Col∧1≤r.H∧1≤r.W∧r.Row<rows∧r.Col<cols
 ·obtain ⟨a1,a2,a3,a4,a5,a6⟩:=c1
  rw [decide_eq_true a1,decide_eq_true a2,decide_eq_true a3,decide_eq_true a4,decide_eq_true a5,decide_eq_true a6,show ((((((true && true) && true) && true) && true) && true) == true)=true from rfl,YAL,YDi (by omega) (by omega),YAA]
  by_cases c2:r.H≤rows-r.Row
  ·rw [decide_eq_true c2,show (((((((true && true) && true) && true) && true) && true) && true) == true)=true from rfl,YAL,YDi (by omega) (by omega),YAA]
   by_cases c3:r.W≤cols-r.Col
   ·rw [decide_eq_true c3,decide_eq_true (show insR rows cols r from ⟨a1,a5,a2,a6,a3,c2,a4,c3⟩)]; rfl
   ·rw [decide_eq_false c3,decide_eq_false (show ¬ insR rows cols r from fun h=>c3 h.2.2.2.2.2.2.2)]; rfl
  ·rw [decide_eq_false c2,decide_eq_false (show ¬ insR rows cols r from fun h=>c2 h.2.2.2.2.2.1)]; rfl
 ·have hf:((((((decide (0≤r.Row)) && (decide (0≤r.Col))) && (decide (1≤r.H))) && (decide (1≤r.W))) && (decide (r.Row<rows))) && (decide (r.Col<cols)))=false:=by
   rw [← Bool.not_eq_true]
   simp only [Bool.and_eq_true,decide_eq_true_eq]
   intro h; exact c1 (by omega)
  rw [hf,decide_eq_false (show ¬ insR rows cols r from fun h=>c1 ⟨h.1,h.2.2.1,h.2.2.2.2.1,h.2.2.2.2.2.2.1,h.2.1,h.2.2.2.1⟩)]; rfl
theorem YV5 (r:YAX) (rows cols:Int) (h:okRC rows cols):YIU r rows cols=some (decide (insR rows cols r)):=by
 obtain ⟨h1,h2,h3,h4⟩:=h
 unfold YIU
 rw [YDi (by omega) (by omega),YAA,YBC,YAA]
 by_cases a1:0≤r.Row∧r.Row≤rows-1
 ·rw [decide_eq_true a1,show ((true == true):Bool)=true from rfl,YAL,YDi (by omega) (by omega),YAA,YAL,YBC,YAA]
  by_cases a2:0≤r.Col∧r.Col≤cols-1
  ·rw [decide_eq_true a2,show ((true && true) == true)=true from rfl,YAL,YDi (by omega) (by omega),YAA,YAL,YBC,YAA]
   by_cases a3:1≤r.H∧r.H≤rows-r.Row
   ·rw [decide_eq_true a3,show (((true && true) && true) == true)=true from rfl,YAL,YDi (by omega) (by omega),YAA,YAL,YBC,YAA]
    by_cases a4:1≤r.W∧r.W≤cols-r.Col
    ·rw [decide_eq_true a4,decide_eq_true (show insR rows cols r from ⟨a1.1,by omega,a2.1,by omega,a3.1,a3.2,a4.1,a4.2⟩)]; rfl
    ·rw [decide_eq_false a4,decide_eq_false (show ¬ insR rows cols r from fun h=>a4 ⟨h.2.2.2.2.2.2.1,h.2.2.2.2.2.2.2⟩)]; rfl
   ·rw [decide_eq_false a3,decide_eq_false (show ¬ insR rows cols r from fun h=>a3 ⟨h.2.2.2.2.1,h.2.2.2.2.2.1⟩)]; rfl
  ·rw [decide_eq_false a2,decide_eq_false (show ¬ insR rows cols r from fun h=>a2 ⟨h.2.2.1,by have:=h.2.2.2.1; omega⟩)]; rfl
 ·rw [decide_eq_false a1,decide_eq_false (show ¬ insR rows cols r from fun h=>a1 ⟨h.1,by have:=h.2.1; omega⟩)]; rfl
theorem YUR {rows cols:Int} (h:okRC rows cols) {a b:YAX} (ha:insR rows cols a) (hb:insR rows cols b):YGB a b=some (mtR a b):=by
 obtain ⟨h1,h2,h3,h4⟩:=h
 obtain ⟨a1,a2,a3,a4,a5,a6,a7,a8⟩:=ha
 obtain ⟨b1,b2,b3,b4,b5,b6,b7,b8⟩:=hb
 unfold YGB mtR
 rw [YDi (by omega) (by omega),YAA]
 by_cases c1:a.Row<b.Row+b.H
 ·rw [decide_eq_true c1,show ((true == true):Bool)=true from rfl,YAL,YDi (by omega) (by omega),YAA]
  by_cases c2:b.Row<a.Row+a.H
  ·rw [decide_eq_true c2,show ((true && true) == true)=true from rfl,YAL,YDi (by omega) (by omega),YAA]
   by_cases c3:a.Col<b.Col+b.W
   ·rw [decide_eq_true c3,show (((true && true) && true) == true)=true from rfl,YAL,YDi (by omega) (by omega),YAA]
    by_cases c4:b.Col<a.Col+a.W
    ·rw [decide_eq_true c4,decide_eq_true (show _∧_∧_∧_ from ⟨c1,c2,c3,c4⟩)]; rfl
    ·rw [decide_eq_false c4,decide_eq_false (show ¬ (a.Row<b.Row+b.H∧b.Row<a.Row+a.H∧a.Col<b.Col+b.W∧b.Col<a.Col+a.W) from fun h=>c4 h.2.2.2)]; rfl
   ·rw [decide_eq_false c3,decide_eq_false (show ¬ (a.Row<b.Row+b.H∧b.Row<a.Row+a.H∧a.Col<b.Col+b.W∧b.Col<a.Col+a.W) from fun h=>c3 h.2.2.1)]; rfl
  ·rw [decide_eq_false c2,decide_eq_false (show ¬ (a.Row<b.Row+b.H∧b.Row<a.Row+a.H∧a.Col<b.Col+b.W∧b.Col<a.Col+a.W) from fun h=>c2 h.2.1)]; rfl
 ·rw [decide_eq_false c1,decide_eq_false (show ¬ (a.Row<b.Row+b.H∧b.Row<a.Row+a.H∧a.Col<b.Col+b.W∧b.Col<a.Col+a.W) from fun h=>c1 h.1)]; rfl
theorem YT0 {rows cols:Int} (h:okRC rows cols) {a b:YAX} (ha:insR rows cols a) (hb:insR rows cols b):YG5 a b=some (mtR b a):=by
 obtain ⟨h1,h2,h3,h4⟩:=h
 obtain ⟨a1,a2,a3,a4,a5,a6,a7,a8⟩:=ha
 obtain ⟨b1,b2,b3,b4,b5,b6,b7,b8⟩:=hb
 unfold YG5 mtR
 rw [YDi (by omega) (by omega),YAA,YDi (by omega) (by omega),YAA]
 by_cases c1:max a.Row b.Row<min (a.Row+a.H) (b.Row+b.H)
 ·rw [decide_eq_true c1,show ((true == true):Bool)=true from rfl,YAL,YDi (by omega) (by omega),YAA,YAL,YDi (by omega) (by omega),YAA]
  by_cases c2:max a.Col b.Col<min (a.Col+a.W) (b.Col+b.W)
  ·rw [decide_eq_true c2,decide_eq_true (show b.Row<a.Row+a.H∧a.Row<b.Row+b.H∧b.Col<a.Col+a.W∧a.Col<b.Col+b.W by omega)]; rfl
  ·rw [decide_eq_false c2,decide_eq_false (show ¬ (b.Row<a.Row+a.H∧a.Row<b.Row+b.H∧b.Col<a.Col+a.W∧a.Col<b.Col+b.W) by omega)]; rfl
 ·rw [decide_eq_false c1,decide_eq_false (show ¬ (b.Row<a.Row+a.H∧a.Row<b.Row+b.H∧b.Col<a.Col+a.W∧a.Col<b.Col+b.W) by omega)]; rfl
theorem takeBM {α:Type} [Inhabited α] {l:List α} {k j:Nat} (hj:j<k) (hk:k≤l.length):(l.take k)[j]! = l[j]!:=by
 rw [getElem!_pos (l.take k) j (by rw [List.length_take]; omega),getElem!_pos l j (by omega),List.getElem_take]
def YRS (l:List YAX) (k:Nat) (w:YAX):Option Nat:=(List.range k).find? fun j=>mtR l[j]! w
theorem YPv {rows cols:Int} (h:okRC rows cols) (l:List YAX) (k:Nat) (hk:k≤l.length) (hm:l.length≤1073741824) (hl : ∀ j,j<k→insR rows cols l[j]!) {w:YAX} (hw:insR rows cols w) :
  YAO w (l.take k)=some (YRS l k w).isSome:=by
 unfold YAO YAd
 have hlen:(l.take k).length=k:=by rw [List.length_take]; omega
 rw [YAe (n:=k) (fun j=>if mtR l[j]! w then some (j:Int) else none) (fun j hj=>by
  unfold YAU YFD
  rw [if_pos (by rw [hlen,decide_eq_true_eq]; omega),YAH (by rw [hlen]; exact hj),YAA,takeBM hj hk,YUR h (hl j hj) hw,YAA,YAA,YAM (by omega)]
  cases mtR l[j]! w <;> rfl) (by unfold YAU; rw [if_neg (by rw [hlen]; simp)]),YFp,YBS]
 unfold YRS
 cases (List.range k).find? fun j=>mtR l[j]! w with
 | none=>rfl
 | some j=>
  show (bnd1 (some (j:Int)) fun (r1:Int)=>some (decide (0≤r1)))=_
  rw [YAA,decide_eq_true (Int.natCast_nonneg j)]; rfl
def errM (rows cols:Int) (l:List YAX) (k:Nat):Option Int:=
 if ¬ insR rows cols l[k]! then some 2 else if l[k]!.H=1∧l[k]!.W=1 then some 4 else if 0<k∧0≤ord2 l[k-1]!.Row l[k]!.Row l[k-1]!.Col l[k]!.Col then some 5 else if (YRS l k l[k]!).isSome=true then some 21 else none
theorem YQk {rows cols:Int} {l:List YAX} {k:Nat} (h:errM rows cols l k=none):insR rows cols l[k]!:=by
 unfold errM at h
 by_cases hi:insR rows cols l[k]!
 ·exact hi
 ·rw [if_pos hi] at h; cases h
def YLH (g:YAy):Int:=
 if ¬ okRC g.Rows g.Cols then 2 else if YHa g.Rows g.Cols false g.Cells≠0 then YHa g.Rows g.Cols false g.Cells else ((List.range g.Merges.length).findSome? (errM g.Rows g.Cols g.Merges)).getD 0
def okGd (g:YAy):Prop:=g.Cells.length≤1048576∧g.Merges.length≤1048576 ∧ ∀ c∈g.Cells,okC c
theorem YTh (a b:YAX):YFX a b=some (!decide (0≤ord2 a.Row b.Row a.Col b.Col)):=by
 unfold YFX
 congr 1
 rw [Bool.eq_iff_iff]
 have:=YM7 a.Row b.Row a.Col b.Col
 simp only [Bool.or_eq_true,Bool.and_eq_true,decide_eq_true_eq,Bool.not_eq_true',decide_eq_false_iff_not,this]
 omega
theorem YNH (g:YAy) (h:okGd g):YGF g=some (YLH g):=by
 obtain ⟨hc,hm,hcs⟩:=h
 unfold YGF YLH
 by_cases hr:okRC g.Rows g.Cols
 ·have hr':=hr
  obtain ⟨r1,r2,r3,r4⟩:=hr'
  rw [if_neg (by simp only [Bool.or_eq_true,decide_eq_true_eq]; omega),YNG _ _ _ _ (by omega) hcs,YAA,if_neg (Classical.not_not.2 hr)]
  by_cases he:YHa g.Rows g.Cols false g.Cells=0
  ·rw [if_neg (ndF he),if_neg (Classical.not_not.2 he),YMU (n:=g.Merges.length) (errM g.Rows g.Cols g.Merges) (fun k hk hj=>by
    unfold YEF
    rw [if_pos (by simpa using hk),YAH hk,YAA,YS6 _ _ _ hr,YAA]
    unfold errM
    by_cases h1:insR g.Rows g.Cols g.Merges[k]!
    ·rw [decide_eq_true h1,if_neg (show ¬ ((!true)=true) by decide),if_neg (Classical.not_not.2 h1)]
     by_cases h2:g.Merges[k]!.H=1∧g.Merges[k]!.W=1
     ·rw [if_pos (by rw [decide_eq_true h2.1,decide_eq_true h2.2]; rfl),if_pos h2]; rfl
     ·rw [if_neg (by simp only [Bool.and_eq_true,decide_eq_true_eq]; exact h2),if_neg h2]
      have hcont:=YPv hr g.Merges k (by omega) (by omega) (fun j hj'=>YQk (hj j hj')) h1
      have hs:slc g.Merges 0 (k:Int)=some (g.Merges.take k):=by
       rw [slc_to g.Merges k (by omega) (by omega)]; simp
      have hfin:(bnd1 (slc g.Merges 0 (k:Int)) fun (l1:List YAX)=>
        bnd1 (YAO g.Merges[k]! l1) fun (r3:Bool)=>
        if r3 then (some (.inr (.ext 21)):Option (Int ⊕ (Ctl Unit Int))) else (
         bnd1 (chk .i64 ((k:Int)+1)) fun (x7:Int)=>some (.inl x7)))=YBb k (if (YRS g.Merges k g.Merges[k]!).isSome=true then some 21 else none):=by
       rw [hs,YAA,hcont,YAA,YAM (by omega)]
       cases (YRS g.Merges k g.Merges[k]!).isSome <;> rfl
      by_cases h0:0<k
      ·rw [decide_eq_true (show (0:Int)<k by omega),show ((true == true):Bool)=true from rfl,YAL,YDO h0 (by omega),YAA,YAL,YAH (show k-1<g.Merges.length by omega),YAA,YAL,YTh,YAA]
       by_cases h3:0≤ord2 g.Merges[k-1]!.Row g.Merges[k]!.Row g.Merges[k-1]!.Col g.Merges[k]!.Col
       ·rw [decide_eq_true h3,if_pos (show 0<k∧0≤ord2 g.Merges[k-1]!.Row g.Merges[k]!.Row g.Merges[k-1]!.Col g.Merges[k]!.Col from ⟨h0,h3⟩)]; rfl
       ·rw [decide_eq_false h3,if_neg (show ¬ (0<k∧0≤ord2 g.Merges[k-1]!.Row g.Merges[k]!.Row g.Merges[k-1]!.Col g.Merges[k]!.Col) from fun h=>h3 h.2)]
        exact hfin
      ·have e0:k=0:=by omega
       rw [if_neg (show ¬ (0<k∧0≤ord2 g.Merges[k-1]!.Row g.Merges[k]!.Row g.Merges[k-1]!.Col g.Merges[k]!.Col) from fun h=>h0 h.1),decide_eq_false (show ¬ (0:Int)<k by omega)]
       exact hfin
    ·rw [decide_eq_false h1,if_pos h1]; rfl) (by unfold YEF; rw [if_neg (by simp)]),YCd]
  ·rw [if_pos (ndT he),if_pos he]
 ·rw [if_pos hr,if_pos (by unfold okRC at hr; simp only [Bool.or_eq_true,decide_eq_true_eq]; omega)]
theorem YLr {X:Type} (l:List YAX) (k:Nat) (hk:k<l.length) (hm:l.length≤9223372036854775806) (a b:Option X) :
  (bnd1 (gd ((decide (0<(k:Int))) == true) (chk .i64 ((k:Int)-1))) fun (x5:Int)=>
    bnd1 (gd ((decide (0<(k:Int))) == true) (idx l x5)) fun (x6:YAX)=>
    bnd1 (gd ((((decide (0<(k:Int))) == true) && ((decide (l[k]!.Row<x6.Row)) == false)) && ((decide (l[k]!.Row=x6.Row)) == true)) (chk .i64 ((k:Int)-1))) fun (x7:Int)=>
    bnd1 (gd ((((decide (0<(k:Int))) == true) && ((decide (l[k]!.Row<x6.Row)) == false)) && ((decide (l[k]!.Row=x6.Row)) == true)) (idx l x7)) fun (x8:YAX)=>
    if ((decide (0<(k:Int))) && ((decide (l[k]!.Row<x6.Row)) || ((decide (l[k]!.Row=x6.Row)) && (decide (l[k]!.Col≤x8.Col))))) then a else b) =
   if 0<k∧0≤ord2 l[k-1]!.Row l[k]!.Row l[k-1]!.Col l[k]!.Col then a else b:=by
 have ho:=YM7 l[k-1]!.Row l[k]!.Row l[k-1]!.Col l[k]!.Col
 by_cases h0:0<k
 ·rw [decide_eq_true (show (0:Int)<k by omega),show ((true == true):Bool)=true from rfl,YAL,YDO h0 (by omega),YAA,YAL,YAH (show k-1<l.length by omega),YAA]
  by_cases h1:l[k]!.Row<l[k-1]!.Row
  ·rw [decide_eq_true h1,if_pos (show 0<k∧0≤ord2 l[k-1]!.Row l[k]!.Row l[k-1]!.Col l[k]!.Col from ⟨h0,ho.2 (.inl h1)⟩)]; rfl
  ·by_cases h2:l[k]!.Row=l[k-1]!.Row
   ·rw [decide_eq_false h1,decide_eq_true h2,show (((true && (false == false)) && (true == true)):Bool)=true from rfl,YAL,YAA,YAL,YAH (show k-1<l.length by omega),YAA]
    by_cases h3:l[k]!.Col≤l[k-1]!.Col
    ·rw [decide_eq_true h3,if_pos (show 0<k∧0≤ord2 l[k-1]!.Row l[k]!.Row l[k-1]!.Col l[k]!.Col from ⟨h0,ho.2 (.inr ⟨h2,h3⟩)⟩)]; rfl
    ·rw [decide_eq_false h3,if_neg (show ¬ (0<k∧0≤ord2 l[k-1]!.Row l[k]!.Row l[k-1]!.Col l[k]!.Col) from fun h=>by have:=ho.1 h.2; omega)]; rfl
   ·rw [decide_eq_false h1,decide_eq_false h2,if_neg (show ¬ (0<k∧0≤ord2 l[k-1]!.Row l[k]!.Row l[k-1]!.Col l[k]!.Col) from fun h=>by have:=ho.1 h.2; omega)]; rfl
 ·rw [if_neg (show ¬ (0<k∧0≤ord2 l[k-1]!.Row l[k]!.Row l[k-1]!.Col l[k]!.Col) from fun h=>h0 h.1),decide_eq_false (show ¬ (0:Int)<k by omega)]; rfl
theorem YJv (g:YAy) (h:okGd g):YD7 g=some (YLH g):=by
 obtain ⟨hc,hm,hcs⟩:=h
 unfold YD7 YLH
 rw [YBC,YAA]
 by_cases hr:okRC g.Rows g.Cols
 ·have hr':=hr
  obtain ⟨r1,r2,r3,r4⟩:=hr'
  rw [decide_eq_true (show 0≤g.Rows∧g.Rows≤2147483647 from ⟨r1,r2⟩),show ((!true) == false)=true from rfl,YAL,YBC,YAA,decide_eq_true (show 0≤g.Cols∧g.Cols≤2147483647 from ⟨r3,r4⟩),if_neg (by decide),
   YIy _ _ _ _ (by omega) hcs ⟨r1,r2⟩ ⟨r3,r4⟩,YAA,if_neg (Classical.not_not.2 hr)]
  by_cases he:YHa g.Rows g.Cols false g.Cells=0
  ·rw [if_neg (ndF he),if_neg (Classical.not_not.2 he),YMU (n:=g.Merges.length) (errM g.Rows g.Cols g.Merges) (fun k hk hj=>by
    unfold YCp
    rw [if_pos (by simpa using hk),YAH hk,YAA,YV5 _ _ _ hr,YAA]
    unfold errM
    by_cases h1:insR g.Rows g.Cols g.Merges[k]!
    ·rw [decide_eq_true h1,if_neg (show ¬ ((!true)=true) by decide),if_neg (Classical.not_not.2 h1)]
     by_cases h2:g.Merges[k]!.H=1∧g.Merges[k]!.W=1
     ·rw [if_pos (by rw [decide_eq_true h2.1,decide_eq_true h2.2]; rfl),if_pos h2]; rfl
     ·rw [if_neg (by simp only [Bool.and_eq_true,decide_eq_true_eq]; exact h2),if_neg h2,YLr _ k hk (by omega)]
      by_cases h3:0<k∧0≤ord2 g.Merges[k-1]!.Row g.Merges[k]!.Row g.Merges[k-1]!.Col g.Merges[k]!.Col
      ·rw [if_pos h3,if_pos h3]; rfl
      ·rw [if_neg h3,if_neg h3,YAe (n:=k) (fun j=>if mtR g.Merges[j]! g.Merges[k]! then some (.inr (.ext 21)) else none) (fun j hjk=>by
        unfold YCo
        rw [if_pos (by rw [decide_eq_true_eq]; omega),YAH (by omega),YAA,YT0 hr h1 (YQk (hj j hjk)),YAA,YAM (by omega)]
        cases mtR g.Merges[j]! g.Merges[k]! <;> rfl) (by unfold YCo; rw [if_neg (by rw [decide_eq_true_eq]; omega)]),YFp,YBS]
       unfold YRS
       cases (List.range k).find? fun j=>mtR g.Merges[j]! g.Merges[k]! with
       | none=>rw [YAM (by omega)]; rfl
       | some j=>rfl
    ·rw [decide_eq_false h1,if_pos h1]; rfl) (by unfold YCp; rw [if_neg (by simp)]),YCd]
  ·rw [if_pos (ndT he),if_pos he]
 ·rw [if_pos hr]
  unfold okRC at hr
  by_cases a:0≤g.Rows∧g.Rows≤2147483647
  ·rw [decide_eq_true a,show ((!true) == false)=true from rfl,YAL,YBC,YAA,decide_eq_false (show ¬ (0≤g.Cols∧g.Cols≤2147483647) by omega)]; rfl
  ·rw [decide_eq_false a]; rfl
end Go.Proofs.YtdafahjmopdleaaGreatDoor.Al


namespace Go.Proofs.YtdafahjmopdleaaGreatDoor.Al
def YV4 (c:UInt8):Bool:=decide (97≤c.toNat) && decide (c.toNat≤122)
def YQR (s:List UInt8):Bool:=(List.range s.length).all fun k=>YV4 s[k]!
def YH5 (s:List UInt8):Bool:=decide (1≤s.length) && decide (s.length≤200) && !decide (s[s.length-1]!.toNat=97) && YQR s
theorem YMO (s:List UInt8) (hm:s.length≤9223372036854775806):iter (fun (a:Int)=>YDA s a) 0=some (YIV (if YQR s then none else some false)):=by
 rw [YAe (n:=s.length) (fun k=>if YV4 s[k]! then none else some false) (fun k hk=>by
  unfold YDA
  rw [if_pos (by simpa using hk),YAH hk,YAA,YAM (by omega)]
  unfold YV4
  generalize s[k]! = c
  by_cases h:97≤c.toNat∧c.toNat≤122
  ·rw [if_neg (by simp only [Bool.or_eq_true,decide_eq_true_eq]; omega),if_pos (by simp only [Bool.and_eq_true,decide_eq_true_eq]; exact h)]; rfl
  ·rw [if_pos (by simp only [Bool.or_eq_true,decide_eq_true_eq]; omega),if_neg (by simp only [Bool.and_eq_true,decide_eq_true_eq]; exact h)]; rfl) (by unfold YDA; rw [if_neg (by simp)]),YDN]
 rfl
theorem YPd:YDd=YDA:=by funext s x; rfl
theorem YJr (s:List UInt8) (hm:s.length≤9223372036854775806):YD1 s=some (YH5 s):=by
 unfold YD1 YH5
 rw [YPd,YMO s hm]
 by_cases h:1≤s.length∧s.length≤200
 ·have hne:s≠[]:=List.length_pos_iff.1 h.1
  rw [decide_eq_false hne,decide_eq_false (show ¬ (200:Int)<(s.length:Int) by omega),show ((false || false) == false)=true from rfl,YAL,YDO h.1 (by omega),YAA,YAL,YAH (by omega),YAA,decide_eq_true h.1,decide_eq_true h.2]
  by_cases h2:s[s.length-1]!.toNat=97
  ·rw [decide_eq_true h2,if_pos (by rw [decide_eq_true (show ((s[s.length-1]!.toNat:Int)=97) by omega)]; rfl)]; rfl
  ·rw [decide_eq_false h2,if_neg (by rw [decide_eq_false (show ¬ ((s[s.length-1]!.toNat:Int)=97) by omega)]; decide)]
   cases YQR s <;> rfl
 ·have hc:((decide (s=[])) || (decide (200<(s.length:Int))))=true:=by
   rw [Bool.or_eq_true,decide_eq_true_eq,decide_eq_true_eq,← List.length_eq_zero_iff]; omega
  have hd:(decide (1≤s.length) && decide (s.length≤200))=false:=by
   rw [← Bool.not_eq_true,Bool.and_eq_true,decide_eq_true_eq,decide_eq_true_eq]; exact h
  rw [hc,hd]; rfl
theorem YOA (s:List UInt8) (hm:s.length≤9223372036854775806):YG7 s=some (YH5 s):=by
 unfold YG7 YH5
 rw [YMO s hm,YBS]
 cases YQR s with
 | false=>rw [Bool.and_false]; rfl
 | true=>
  rw [if_pos rfl,Bool.and_true]
  dsimp only
  by_cases h:1≤s.length∧s.length≤200
  ·rw [decide_eq_true (show (1:Int)≤(s.length:Int) by omega),decide_eq_true (show (s.length:Int)≤200 by omega),show ((true && true) == true)=true from rfl,YAL,YDO h.1 (by omega),YAA,YAL,YAH (by omega),YAA,decide_eq_true h.1,decide_eq_true h.2]
   by_cases h2:s[s.length-1]!.toNat=97
   ·rw [decide_eq_true h2,decide_eq_true (show ((s[s.length-1]!.toNat:Int)=97) by omega)]
   ·rw [decide_eq_false h2,decide_eq_false (show ¬ ((s[s.length-1]!.toNat:Int)=97) by omega)]
  ·have hc:((decide (1≤(s.length:Int))) && (decide ((s.length:Int)≤200)))=false:=by
    rw [← Bool.not_eq_true,Bool.and_eq_true,decide_eq_true_eq,decide_eq_true_eq]; omega
   have hd:(decide (1≤s.length) && decide (s.length≤200))=false:=by
    rw [← Bool.not_eq_true,Bool.and_eq_true,decide_eq_true_eq,decide_eq_true_eq]; exact h
   rw [hc,hd]; rfl
def YG9 (o:YAN):Prop:=(1≤o.Clock∧o.Clock≤1073741824)∧(0≤o.Site∧o.Site≤1000)∧(1≤o.Item∧o.Item≤1073741824)
instance (o:YAN):Decidable (YG9 o):=by unfold YG9; infer_instance
def YRY (o:YAN):Int:=
 if ¬ (o.Kind=0∨o.Kind=1) then 8 else if ¬ YG9 o then 2
 else if o.Kind=0 then (if o.Name≠[]∨o.Value≠[] then 4 else if ¬ (-1≤o.Parent∧o.Parent≤1073741824) then 2 else if YH5 o.Place=false then 9 else 0)
 else (if o.Parent≠0∨o.Place≠[] then 4 else if YF8 o.Name=false then 9 else if o.Value≠[]∧YHe o.Value=false then 23 else 0)
def YTQ (l:List YAN) (k:Nat):Option Int:=
 if YRY l[k]! ≠ 0 then some (YRY l[k]!) else if 0<k∧0≤ord2 l[k-1]!.Clock l[k]!.Clock l[k-1]!.Site l[k]!.Site then some 5 else none
def YTU (l:List YAN):Int:=((List.range l.length).findSome? (YTQ l)).getD 0
def okDr (o:YAN):Prop:=o.Place.length≤1073741824∧o.Name.length≤1073741824∧o.Value.length≤1073741824
theorem YMz (o:YAN) (h:okDr o):YF1 o=some (YRY o):=by
 obtain ⟨hp,hn,hv⟩:=h
 unfold YF1 YRY
 rw [YJr _ (by omega),YJi _ (by omega),YGZ _ (by omega)]
 by_cases k0:o.Kind=0
 ·have k1 : ¬ o.Kind=1:=by omega
  rw [if_neg (show ¬ ((!decide (o.Kind=0)) && (!decide (o.Kind=1)))=true by rw [decide_eq_true k0]; simp),if_neg (show ¬ ¬ (o.Kind=0∨o.Kind=1) from fun h=>h (.inl k0))]
  by_cases hr:YG9 o
  ·have hr':=hr
   unfold YG9 at hr'
   rw [if_neg (by simp only [Bool.or_eq_true,decide_eq_true_eq]; omega),if_neg (Classical.not_not.2 hr),if_pos k0,decide_eq_true k0,decide_eq_false k1]
   by_cases c1:o.Name≠[]∨o.Value≠[]
   ·have hc:(true && ((!decide (o.Name=[])) || (!decide (o.Value=[]))))=true:=by
     rw [Bool.true_and,Bool.or_eq_true]
     rcases c1 with c | c
     ·exact .inl (ndT c)
     ·exact .inr (ndT c)
    rw [if_pos c1,hc]; rfl
   ·have c2:o.Name=[]∧o.Value=[]:=⟨Classical.byContradiction fun h=>c1 (.inl h),Classical.byContradiction fun h=>c1 (.inr h)⟩
    have hc:(true && ((!decide (o.Name=[])) || (!decide (o.Value=[]))))=false:=by rw [decide_eq_true c2.1,decide_eq_true c2.2]; rfl
    rw [if_neg c1,hc]
    by_cases c3 : -1≤o.Parent∧o.Parent≤1073741824
    ·rw [if_neg (Classical.not_not.2 c3)]
     have c4:((decide (o.Parent<(-1))) || (decide (1073741824<o.Parent)))=false:=by
      rw [← Bool.not_eq_true,Bool.or_eq_true,decide_eq_true_eq,decide_eq_true_eq]; omega
     rw [c4]
     cases YH5 o.Place with
     | false=>rfl
     | true=>rw [decide_eq_true c2.2]; rfl
    ·rw [if_pos c3]
     have c4:((decide (o.Parent<(-1))) || (decide (1073741824<o.Parent)))=true:=by
      rw [Bool.or_eq_true,decide_eq_true_eq,decide_eq_true_eq]; omega
     rw [c4]; rfl
  ·rw [if_pos (by unfold YG9 at hr; simp only [Bool.or_eq_true,decide_eq_true_eq]; omega),if_pos hr]
 ·by_cases k1:o.Kind=1
  ·rw [if_neg (show ¬ ((!decide (o.Kind=0)) && (!decide (o.Kind=1)))=true by rw [decide_eq_true k1,decide_eq_false k0]; decide),if_neg (show ¬ ¬ (o.Kind=0∨o.Kind=1) from fun h=>h (.inr k1))]
   by_cases hr:YG9 o
   ·have hr':=hr
    unfold YG9 at hr'
    rw [if_neg (by simp only [Bool.or_eq_true,decide_eq_true_eq]; omega),if_neg (Classical.not_not.2 hr),if_neg k0,decide_eq_false k0,decide_eq_true k1]
    by_cases c1:o.Parent≠0∨o.Place≠[]
    ·have hc:(true && ((!decide (o.Parent=0)) || (!decide (o.Place=[]))))=true:=by
      rw [Bool.true_and,Bool.or_eq_true]
      rcases c1 with c | c
      ·exact .inl (ndT c)
      ·exact .inr (ndT c)
     rw [if_pos c1,hc]; rfl
    ·have c2:o.Parent=0∧o.Place=[]:=⟨Classical.byContradiction fun h=>c1 (.inl h),Classical.byContradiction fun h=>c1 (.inr h)⟩
     have hc:(true && ((!decide (o.Parent=0)) || (!decide (o.Place=[]))))=false:=by rw [decide_eq_true c2.1,decide_eq_true c2.2]; rfl
     rw [if_neg c1,hc]
     cases YF8 o.Name with
     | false=>rfl
     | true=>
      by_cases c3:o.Value=[]
      ·rw [decide_eq_true c3,if_neg (show ¬ (true=false) by decide),if_neg (show ¬ (o.Value≠[]∧YHe o.Value=false) from fun h=>h.1 c3)]; rfl
      ·rw [decide_eq_false c3,if_neg (show ¬ (true=false) by decide)]
       cases hvv:YHe o.Value with
       | false=>rw [if_pos (show o.Value≠[]∧false=false from ⟨c3,rfl⟩)]; rfl
       | true=>rw [if_neg (show ¬ (o.Value≠[]∧true=false) from fun h=>by cases h.2)]; rfl
   ·rw [if_pos (by unfold YG9 at hr; simp only [Bool.or_eq_true,decide_eq_true_eq]; omega),if_pos hr]
  ·rw [if_pos (show ((!decide (o.Kind=0)) && (!decide (o.Kind=1)))=true by rw [decide_eq_false k1,decide_eq_false k0]; rfl),if_pos (show ¬ (o.Kind=0∨o.Kind=1) from fun h=>h.elim k0 k1)]
theorem YSA (a b:YAN):YDV a b=some (ord2 a.Clock b.Clock a.Site b.Site):=by
 unfold YDV
 rw [YQq,YQq,YAA,YAA,YOm,YAA,or2]
theorem YRW (a b:YAN):YEV a b=some (!decide (0≤ord2 a.Clock b.Clock a.Site b.Site)):=by
 unfold YEV
 congr 1
 rw [Bool.eq_iff_iff]
 have:=YM7 a.Clock b.Clock a.Site b.Site
 simp only [Bool.or_eq_true,Bool.and_eq_true,decide_eq_true_eq,Bool.not_eq_true',decide_eq_false_iff_not,this]
 omega
theorem YJs (l:List YAN) (hm:l.length≤1073741824) (hl : ∀ o∈l,okDr o):YD2 l=some (YTU l):=by
 unfold YD2
 rw [YAe (n:=l.length) (YTQ l) (fun k hk=>by
  unfold YCk YTQ
  rw [if_pos (by simpa using hk),YAH hk,YAA,YMz _ (hl _ (YBR hk)),YAA]
  by_cases e:YRY l[k]! = 0
  ·rw [if_neg (ndF e),if_neg (Classical.not_not.2 e)]
   by_cases h0:0<k
   ·rw [decide_eq_true (show (0:Int)<k by omega),show ((true == true):Bool)=true from rfl,YAL,YDO h0 (by omega),YAA,YAL,YAH (show k-1<l.length by omega),YAA,YAL,YSA,YAA]
    by_cases h3:0≤ord2 l[k-1]!.Clock l[k]!.Clock l[k-1]!.Site l[k]!.Site
    ·rw [decide_eq_true h3,if_pos (show 0<k∧0≤ord2 l[k-1]!.Clock l[k]!.Clock l[k-1]!.Site l[k]!.Site from ⟨h0,h3⟩)]; rfl
    ·rw [decide_eq_false h3,if_neg (show ¬ (0<k∧0≤ord2 l[k-1]!.Clock l[k]!.Clock l[k-1]!.Site l[k]!.Site) from fun h=>h3 h.2),YAM (by omega)]; rfl
   ·rw [if_neg (show ¬ (0<k∧0≤ord2 l[k-1]!.Clock l[k]!.Clock l[k-1]!.Site l[k]!.Site) from fun h=>h0 h.1),decide_eq_false (show ¬ (0:Int)<k by omega),YAM (by omega)]; rfl
  ·rw [if_pos (ndT e),if_pos e]; rfl) (by unfold YCk; rw [if_neg (by simp)]),YCd]
 rfl
theorem YJx (l:List YAN) (hm:l.length≤1073741824) (hl : ∀ o∈l,okDr o):YEA l=some (YTU l):=by
 unfold YEA
 rw [YAe (n:=l.length) (YTQ l) (fun k hk=>by
  obtain ⟨hp,hn,hv⟩:=hl _ (YBR hk)
  have htail:(bnd1 (gd ((decide (0<(k:Int))) == true) (chk .i64 ((k:Int)-1))) fun (x5:Int)=>
    bnd1 (gd ((decide (0<(k:Int))) == true) (idx l x5)) fun (x6:YAN)=>
    bnd1 (gd ((decide (0<(k:Int))) == true) (YEV x6 l[k]!)) fun (r4:Bool)=>
    if ((decide (0<(k:Int))) && (!r4)) then (some (.inr (.ext 5)):Option (Int ⊕ (Ctl Unit Int))) else (
     bnd1 (chk .i64 ((k:Int)+1)) fun (x7:Int)=>some (.inl x7)))=YBb k (if 0<k∧0≤ord2 l[k-1]!.Clock l[k]!.Clock l[k-1]!.Site l[k]!.Site then some 5 else none):=by
   by_cases h0:0<k
   ·rw [decide_eq_true (show (0:Int)<k by omega),show ((true == true):Bool)=true from rfl,YAL,YDO h0 (by omega),YAA,YAL,YAH (show k-1<l.length by omega),YAA,YAL,YRW,YAA]
    by_cases h3:0≤ord2 l[k-1]!.Clock l[k]!.Clock l[k-1]!.Site l[k]!.Site
    ·rw [decide_eq_true h3,if_pos (show 0<k∧0≤ord2 l[k-1]!.Clock l[k]!.Clock l[k-1]!.Site l[k]!.Site from ⟨h0,h3⟩)]; rfl
    ·rw [decide_eq_false h3,if_neg (show ¬ (0<k∧0≤ord2 l[k-1]!.Clock l[k]!.Clock l[k-1]!.Site l[k]!.Site) from fun h=>h3 h.2),YAM (by omega)]; rfl
   ·rw [if_neg (show ¬ (0<k∧0≤ord2 l[k-1]!.Clock l[k]!.Clock l[k-1]!.Site l[k]!.Site) from fun h=>h0 h.1),decide_eq_false (show ¬ (0:Int)<k by omega),YAM (by omega)]; rfl
  unfold YCq YTQ YRY
  rw [if_pos (by simpa using hk),YAH hk,YAA,htail,YBC,YAA,YBC,YBC,YBC,YOA _ (by omega),YK5 _ (by omega),YJW _ (by omega)]
  generalize l[k]! = o at hp hn hv ⊢
  by_cases kk:o.Kind=0∨o.Kind=1
  ·rw [if_neg (show ¬ ((!decide (o.Kind=0)) && (!decide (o.Kind=1)))=true by rcases kk with h | h <;> rw [decide_eq_true h] <;> simp),if_neg (Classical.not_not.2 kk)]
   by_cases hr:YG9 o
   ·rw [if_neg (Classical.not_not.2 hr),decide_eq_true hr.1,show ((!true) == false)=true from rfl,YAL,YAA,decide_eq_true hr.2.1,show (((!true) || (!true)) == false)=true from rfl,YAL,YAA,decide_eq_true hr.2.2,if_neg (show ¬ (((!true) || (!true)) || (!true))=true by decide)]
    by_cases k0:o.Kind=0
    ·rw [if_pos (decide_eq_true k0),if_pos k0]
     by_cases c1:o.Name≠[]∨o.Value≠[]
     ·have hc:((!decide (o.Name=[])) || (!decide (o.Value=[])))=true:=by
       rw [Bool.or_eq_true]
       rcases c1 with c | c
       ·exact .inl (ndT c)
       ·exact .inr (ndT c)
      rw [if_pos c1,if_pos hc]; rfl
     ·have c2:o.Name=[]∧o.Value=[]:=⟨Classical.byContradiction fun h=>c1 (.inl h),Classical.byContradiction fun h=>c1 (.inr h)⟩
      rw [if_neg c1,if_neg (show ¬ ((!decide (o.Name=[])) || (!decide (o.Value=[])))=true by rw [decide_eq_true c2.1,decide_eq_true c2.2]; decide),YAA]
      by_cases c3 : -1≤o.Parent∧o.Parent≤1073741824
      ·rw [if_neg (Classical.not_not.2 c3),decide_eq_true c3,if_neg (show ¬ ((!true)=true) by decide),YAA]
       cases YH5 o.Place <;> rfl
      ·rw [if_pos c3,decide_eq_false c3]; rfl
    ·rw [if_neg (show ¬ decide (o.Kind=0)=true by simpa using k0),if_neg k0]
     by_cases c1:o.Parent≠0∨o.Place≠[]
     ·have hc:((!decide (o.Parent=0)) || (!decide (o.Place=[])))=true:=by
       rw [Bool.or_eq_true]
       rcases c1 with c | c
       ·exact .inl (ndT c)
       ·exact .inr (ndT c)
      rw [if_pos c1,if_pos hc]; rfl
     ·have c2:o.Parent=0∧o.Place=[]:=⟨Classical.byContradiction fun h=>c1 (.inl h),Classical.byContradiction fun h=>c1 (.inr h)⟩
      rw [if_neg c1,if_neg (show ¬ ((!decide (o.Parent=0)) || (!decide (o.Place=[])))=true by rw [decide_eq_true c2.1,decide_eq_true c2.2]; decide),YAA]
      cases YF8 o.Name with
      | false=>rfl
      | true=>
       by_cases c3:o.Value=[]
       ·rw [decide_eq_true c3,if_neg (show ¬ (true=false) by decide),if_neg (show ¬ (o.Value≠[]∧YHe o.Value=false) from fun h=>h.1 c3)]; rfl
       ·rw [decide_eq_false c3,if_neg (show ¬ (true=false) by decide)]
        cases hvv:YHe o.Value with
        | false=>rw [if_pos (show o.Value≠[]∧false=false from ⟨c3,rfl⟩)]; rfl
        | true=>rw [if_neg (show ¬ (o.Value≠[]∧true=false) from fun h=>by cases h.2)]; rfl
   ·rw [if_pos hr]
    unfold YG9 at hr
    by_cases a1:1≤o.Clock∧o.Clock≤1073741824
    ·rw [decide_eq_true a1,show ((!true) == false)=true from rfl,YAL,YAA]
     by_cases a2:0≤o.Site∧o.Site≤1000
     ·rw [decide_eq_true a2,show (((!true) || (!true)) == false)=true from rfl,YAL,YAA,decide_eq_false (show ¬ (1≤o.Item∧o.Item≤1073741824) by omega)]; rfl
     ·rw [decide_eq_false a2]; rfl
    ·rw [decide_eq_false a1]; rfl
  ·have hk2:((!decide (o.Kind=0)) && (!decide (o.Kind=1)))=true:=by
    rw [decide_eq_false (fun h=>kk (.inl h)),decide_eq_false (fun h=>kk (.inr h))]; rfl
   rw [if_pos hk2,if_pos kk]; rfl) (by unfold YCq; rw [if_neg (by simp)]),YCd]
 rfl
end Go.Proofs.YtdafahjmopdleaaGreatDoor.Al


namespace Go.Proofs.YtdafahjmopdleaaGreatDoor.Al
theorem YMB:YDf=YEG:=by funext k; rfl
theorem YRL:YGR=YHI:=by funext k; rfl
theorem YRQ:YFU=YHK:=by funext k; rfl
theorem YRX:YGS=YFa:=by funext k; rfl
structure okN2 (n:YAP):Prop where
 ok:okN n
 ce : ∀ c∈n.Grid.Cells,okC c
 dr : ∀ o∈n.Draw,okDr o
theorem okN2.gd {n:YAP} (h:okN2 n):okGd n.Grid:=⟨h.ok.gr.1,h.ok.gr.2.1,h.ce⟩
def YRM (kind:Int) (c:YAY):Bool:=((decide (kind=2)) && ((!decide (c.Text=[])) || (decide (0<(c.Attrs.length:Int))))) || ((decide (kind=6)) && (!decide (c.Ref=0)))
def YQV (kind:Int) (l:List YAY):Int:=((List.range l.length).findSome? fun k=>if YRM kind l[k]! then some (4:Int) else none).getD 0
theorem YNW (kind:Int) (l:List YAY) (hm:l.length≤1073741824):YDZ kind l=some (YQV kind l):=by
 unfold YDZ
 rw [YAe (n:=l.length) (fun k=>if YRM kind l[k]! then some (4:Int) else none) (fun k hk=>by
  unfold YCS
  rw [if_pos (by simpa using hk),YAH hk,YAA,YAM (by omega)]
  show (if YRM kind l[k]! = true then _ else _)=_
  cases YRM kind l[k]! <;> rfl) (by unfold YCS; rw [if_neg (by simp)]),YCd]
 rfl
theorem YOp (kind:Int) (l:List YAY) (hm:l.length≤1073741824):YEB kind l=some (YQV kind l):=by
 unfold YEB
 rw [YAe (n:=l.length) (fun k=>if YRM kind l[k]! then some (4:Int) else none) (fun k hk=>by
  unfold YCr YRM
  rw [if_pos (by simpa using hk),YAH hk,YAM (by omega)]
  generalize l[k]! = c
  by_cases h2:kind=2
  ·have h6 : ¬ kind=6:=by omega
   rw [decide_eq_true h2,decide_eq_false h6]
   rw [show ((true == true):Bool)=true from rfl,YAL,YAA]
   generalize ((!decide (c.Text=[])) || (decide (0<(c.Attrs.length:Int))))=q
   cases q <;> rfl
  ·by_cases h6:kind=6
   ·rw [decide_eq_false h2,decide_eq_true h6]
    rw [show ((false == true):Bool)=false from rfl,YCf,YAA]
    show (bnd1 (gd true (some c)) fun (x5:YAY)=>_)=_
    rw [YAL,YAA]
    generalize (!decide (c.Ref=0))=q
    cases q <;> rfl
   ·rw [decide_eq_false h2,decide_eq_false h6]; rfl) (by unfold YCr; rw [if_neg (by simp)]),YCd]
 rfl
def YWA (t l g z d fl dr:Bool):Bool:=((!(t || l) && fl) || (!g && !z)) || (!d && dr)
theorem YTD (t l g z d fl dr:Bool) :
  (if (((!(t || l)) && fl) == false) then (
   if ((!g) == true) then (
    bnd1 (gd ((((!(t || l)) && fl) || ((!g) && (!z))) == false) (some d)) fun (r8:Bool)=>
    some ((((!(t || l)) && fl) || ((!g) && (!z))) || ((!r8) && dr))
   ) else (
    bnd1 (gd ((((!(t || l)) && fl) || ((!g) && false)) == false) (some d)) fun (r9:Bool)=>
    some ((((!(t || l)) && fl) || ((!g) && false)) || ((!r9) && dr))
   )
  ) else (
   bnd1 (gd ((((!(t || l)) && fl) || false) == false) (some d)) fun (r10:Bool)=>
   some ((((!(t || l)) && fl) || false) || ((!r10) && dr))
  ))=some (YWA t l g z d fl dr):=by
 cases t <;> cases l <;> cases g <;> cases z <;> cases d <;> cases fl <;> cases dr <;> rfl
theorem YUe {X:Type} (t l g z d fl dr:Bool) (A B:Option X) :
  (bnd1 (gd ((fl && (!(t || l))) == false) (some z)) fun (r5:Bool)=>
   bnd1 (gd (((fl && (!(t || l))) == false) && ((!r5) == true)) (some g)) fun (r6:Bool)=>
   bnd1 (gd ((((fl && (!(t || l))) || ((!r5) && (!r6))) == false) && (dr == true)) (some d)) fun (r7:Bool)=>
   if (((fl && (!(t || l))) || ((!r5) && (!r6))) || (dr && (!r7))) then A else B)=if YWA t l g z d fl dr=true then A else B:=by
 cases t <;> cases l <;> cases g <;> cases z <;> cases d <;> cases fl <;> cases dr <;> rfl
theorem YON {α:Type} (l:List α):decide ((l.length:Int)=0)=l.isEmpty:=by
 cases l with
 | nil=>rfl
 | cons a l=>exact decide_eq_false (by simp only [List.length_cons]; omega)
theorem YO0 (g:YAy):YEi g=some (decide (g=YAy.mk 0 0 [] [])):=by
 unfold YEi
 congr 1
 obtain ⟨a,b,c,d⟩:=g
 rw [YON,YON,Bool.eq_iff_iff]
 simp [and_assoc]
theorem YLD (n:YAP) (h:okN2 n) : ∃ e,YBL n=some e∧YD6 n=some e:=by
 have ha:=h.ok.at_
 have hf:=h.ok.fl
 have hg:=h.ok.gr
 have hd:=h.ok.dr
 have hfe : ∀ x∈n.Flow,okE x:=fun x hx=>⟨by have:=(h.ok.fa x hx).1; omega,(h.ok.fa x hx).2⟩
 unfold YBL YD6
 rw [YMB,YRL,YRQ,YRX,YBC,YAA]
 by_cases c1:1≤n.ID∧n.ID≤1073741824
 ·rw [if_neg (show ¬ ((decide (n.ID<1)) || (decide (1073741824<n.ID)))=true by simp only [Bool.or_eq_true,decide_eq_true_eq]; omega),decide_eq_true c1,if_neg (show ¬ ((!true)=true) by decide),YBC,YAA]
  by_cases c2:(0≤n.Kind∧n.Kind≤12)∧(n.ID=1↔n.Kind=0)
  ·obtain ⟨c2,c3⟩:=c2
   have e1:(((decide (n.Kind<0)) || (decide (13≤n.Kind))) || (!((decide (n.ID=1)) == (decide (n.Kind=0)))))=false:=by
    rw [decide_eq_false (show ¬ n.Kind<0 by omega),decide_eq_false (show ¬ 13≤n.Kind by omega)]
    by_cases q:n.ID=1
    ·rw [decide_eq_true q,decide_eq_true (c3.1 q)]; rfl
    ·rw [decide_eq_false q,decide_eq_false (fun e=>q (c3.2 e))]; rfl
   have e2:(((!decide (0≤n.Kind∧n.Kind≤12)) || ((decide (n.ID=1)) && (!decide (n.Kind=0)))) || ((!decide (n.ID=1)) && (decide (n.Kind=0))))=false:=by
    rw [decide_eq_true c2]
    by_cases q:n.ID=1
    ·rw [decide_eq_true q,decide_eq_true (c3.1 q)]; rfl
    ·rw [decide_eq_false q,decide_eq_false (fun e=>q (c3.2 e))]; rfl
   rw [e1,e2,if_neg (show ¬ (false=true) by decide),if_neg (show ¬ (false=true) by decide),YGb _ ha.2 (by have:=ha.1; omega),YAA,YDL _ _ ha.2 (by have:=ha.1; omega),YAA]
   by_cases c4:YAx n.Attrs false=0
   ·rw [if_neg (ndF c4),if_neg (ndF c4)]
    obtain ⟨t,ht⟩ : ∃ t,YEG n.Kind=some t:=⟨_,rfl⟩
    obtain ⟨l,hl⟩ : ∃ t,YHI n.Kind=some t:=⟨_,rfl⟩
    obtain ⟨g,hgk⟩ : ∃ t,YHK n.Kind=some t:=⟨_,rfl⟩
    obtain ⟨d,hdk⟩ : ∃ t,YFa n.Kind=some t:=⟨_,rfl⟩
    rw [ht,hl,hgk,hdk,YAA,YAA,YS8 _ _ hg,YO0]
    have hll : ∃ l',gd (t == false) (some l)=some l':=by cases t <;> exact ⟨_,rfl⟩
    obtain ⟨l',hl'⟩:=hll
    rw [hl',YAA,YAA,YAA,YTD,YAA,YAA,YUe]
    by_cases c5:YWA t l' g (decide (n.Grid=YAy.mk 0 0 [] [])) d (decide (0<(n.Flow.length:Int))) (decide (0<(n.Draw.length:Int)))=true
    ·rw [if_pos c5,if_pos c5]; exact ⟨_,rfl,rfl⟩
    ·rw [if_neg c5,if_neg c5]
     by_cases c6:(t || l')=true
     ·obtain ⟨r,h1,h2⟩:=YPw n.Flow t hfe (by omega)
      rw [if_pos c6,if_pos c6,h1,h2]; exact ⟨_,rfl,rfl⟩
     ·rw [if_neg c6,if_neg c6]
      cases g with
      | true=>
       rw [if_pos rfl,YNH _ h.gd,YAA,YAA,if_pos rfl,YJv _ h.gd,YAA]
       by_cases c7:YLH n.Grid=0
       ·rw [if_neg (ndF c7),if_neg (ndF c7),YNW _ _ (by have:=hg.1; omega),YOp _ _ (by have:=hg.1; omega)]; exact ⟨_,rfl,rfl⟩
       ·rw [if_pos (ndT c7),if_pos (ndT c7)]; exact ⟨_,rfl,rfl⟩
      | false=>
       rw [if_neg (show ¬ (false=true) by decide),YAA,if_neg (show ¬ (false=true) by decide),YJs _ (by omega) h.dr,YJx _ (by omega) h.dr]; exact ⟨_,rfl,rfl⟩
   ·rw [if_pos (ndT c4),if_pos (ndT c4)]; exact ⟨_,rfl,rfl⟩
  ·have e1:(((decide (n.Kind<0)) || (decide (13≤n.Kind))) || (!((decide (n.ID=1)) == (decide (n.Kind=0)))))=true:=by
    by_cases q1:0≤n.Kind∧n.Kind≤12
    ·have q2 : ¬ (n.ID=1↔n.Kind=0):=fun e=>c2 ⟨q1,e⟩
     by_cases q:n.ID=1
     ·rw [decide_eq_true q,decide_eq_false (fun e=>q2 ⟨fun _=>e,fun _=>q⟩),Bool.or_eq_true]; exact .inr rfl
     ·rw [decide_eq_false q,decide_eq_true (Classical.byContradiction fun e=>q2 ⟨fun x=>absurd x q,fun x=>absurd x e⟩),Bool.or_eq_true]; exact .inr rfl
    ·simp only [Bool.or_eq_true,decide_eq_true_eq]; exact .inl (by omega)
   have e2:(((!decide (0≤n.Kind∧n.Kind≤12)) || ((decide (n.ID=1)) && (!decide (n.Kind=0)))) || ((!decide (n.ID=1)) && (decide (n.Kind=0))))=true:=by
    by_cases q1:0≤n.Kind∧n.Kind≤12
    ·have q2 : ¬ (n.ID=1↔n.Kind=0):=fun e=>c2 ⟨q1,e⟩
     rw [decide_eq_true q1]
     by_cases q:n.ID=1
     ·rw [decide_eq_true q,decide_eq_false (fun e=>q2 ⟨fun _=>e,fun _=>q⟩)]; rfl
     ·rw [decide_eq_false q,decide_eq_true (Classical.byContradiction fun e=>q2 ⟨fun x=>absurd x q,fun x=>absurd x e⟩)]; rfl
    ·rw [decide_eq_false q1]; rfl
   rw [e1,e2]; exact ⟨_,rfl,rfl⟩
 ·rw [if_pos (show ((decide (n.ID<1)) || (decide (1073741824<n.ID)))=true by simp only [Bool.or_eq_true,decide_eq_true_eq]; omega),decide_eq_false c1]; exact ⟨_,rfl,rfl⟩
end Go.Proofs.YtdafahjmopdleaaGreatDoor.Al


namespace Go.Proofs.YtdafahjmopdleaaGreatDoor.Al
theorem YRP (s:List Int) (v:Int) (hm:s.length≤1048576):YA2 s v=some ((List.range s.length).find? fun j=>decide (v=s[j]!)).isSome:=by
 unfold YA2 YCK
 rw [YAe (n:=s.length) (fun j=>if decide (v=s[j]!) then some (j:Int) else none) (fun j hj=>by
  unfold YBJ
  rw [if_pos (by simpa using hj),YAH hj,YAA,YAM (by omega)]
  cases decide (v=s[j]!) <;> rfl) (by unfold YBJ; rw [if_neg (by simp)]),YFp,YBS]
 cases (List.range s.length).find? fun j=>decide (v=s[j]!) with
 | none=>rfl
 | some j=>
  show (bnd1 (some (j:Int)) fun (r1:Int)=>some (decide (0≤r1)))=_
  rw [YAA,decide_eq_true (Int.natCast_nonneg j)]; rfl
theorem YDD (s:List Int) (v:Int) (hm:s.length≤1048576):YA2 s v=some (decide (v∈s)):=by
 rw [YRP s v hm]
 congr 1
 rw [Bool.eq_iff_iff,decide_eq_true_eq,List.find?_isSome]
 constructor
 ·rintro ⟨j,h1,h2⟩
  have hj:=List.mem_range.1 h1
  rw [of_decide_eq_true h2]; exact YBR hj
 ·intro h
  obtain ⟨j,hj,e⟩:=List.getElem_of_mem h
  exact ⟨j,List.mem_range.2 hj,decide_eq_true (by rw [getElem!_pos s j hj,e])⟩
def YSl (p k:Int):Bool:=
 if p=0 then decide (k∈[1,6,7,10,11,12]) else if p=1 then decide (k∈[2,4,5,10]) else if p=3 then decide (k∈[4,5,10]) else if p=4∨p=12 then decide (k=5) else if p=2 then decide (k=3) else if p=7 then decide (k=8∨k=9) else false
theorem YUt (p k:Int):YEH p k=some (YSl p k):=by
 unfold YEH YSl
 by_cases h0:p=0
 ·rw [if_pos (decide_eq_true h0),if_pos h0,YAA,YDD _ _ (by decide)]; rfl
 ·rw [if_neg (show ¬ decide (p=0)=true by simpa using h0),if_neg h0]
  by_cases h1:p=1
  ·rw [if_pos (decide_eq_true h1),if_pos h1,YAA,YDD _ _ (by decide)]; rfl
  ·rw [if_neg (show ¬ decide (p=1)=true by simpa using h1),if_neg h1]
   by_cases h3:p=3
   ·rw [if_pos (decide_eq_true h3),if_pos h3,YAA,YDD _ _ (by decide)]; rfl
   ·rw [if_neg (show ¬ decide (p=3)=true by simpa using h3),if_neg h3]
    have e4:(if decide (p=4)=true then some (decide (p=4)) else some (decide (p=12)))=some (decide (p=4∨p=12)):=by
     by_cases h4:p=4
     ·rw [if_pos (decide_eq_true h4),decide_eq_true h4,decide_eq_true (Or.inl h4:p=4∨p=12)]
     ·rw [if_neg (show ¬ decide (p=4)=true by simpa using h4)]
      congr 1
      rw [Bool.eq_iff_iff,decide_eq_true_eq,decide_eq_true_eq]
      exact ⟨.inr,fun h=>h.elim (fun h=>absurd h h4) id⟩
    rw [e4,YAA]
    by_cases h4:p=4∨p=12
    ·rw [if_pos (decide_eq_true h4),if_pos h4,YAA,YDD _ _ (by decide),YAA]
     congr 1; rw [Bool.eq_iff_iff]; simp
    ·rw [if_neg (show ¬ decide (p=4∨p=12)=true by simpa using h4),if_neg h4]
     by_cases h2:p=2
     ·rw [if_pos (decide_eq_true h2),if_pos h2,YAA,YDD _ _ (by decide),YAA]
      congr 1; rw [Bool.eq_iff_iff]; simp
     ·rw [if_neg (show ¬ decide (p=2)=true by simpa using h2),if_neg h2]
      by_cases h7:p=7
      ·rw [if_pos (decide_eq_true h7),if_pos h7,YAA,YDD _ _ (by decide),YAA]
       congr 1; rw [Bool.eq_iff_iff]; simp
      ·rw [if_neg (show ¬ decide (p=7)=true by simpa using h7),if_neg h7,YAA,YDD _ _ (by decide),YAA]; simp
theorem YT8 (p k : Int) : YD5 p k = some (YSl p k) := by
  have hk : k = 1 ∨ k = 2 ∨ k = 3 ∨ k = 4 ∨ k = 5 ∨ k = 6 ∨ k = 7 ∨ k = 8 ∨ k = 9 ∨ k = 10 ∨ k = 11 ∨ k = 12 ∨ (k ≠ 1 ∧ k ≠ 2 ∧ k ≠ 3 ∧ k ≠ 4 ∧ k ≠ 5 ∧ k ≠ 6 ∧ k ≠ 7 ∧ k ≠ 8 ∧ k ≠ 9 ∧ k ≠ 10 ∧ k ≠ 11 ∧ k ≠ 12) := by omega
  have hp : p = 0 ∨ p = 1 ∨ p = 2 ∨ p = 3 ∨ p = 4 ∨ p = 7 ∨ p = 12 ∨ (p ≠ 0 ∧ p ≠ 1 ∧ p ≠ 2 ∧ p ≠ 3 ∧ p ≠ 4 ∧ p ≠ 7 ∧ p ≠ 12) := by omega
  unfold YD5 YSl YDf
  rcases hk with rfl | rfl | rfl | rfl | rfl | rfl | rfl | rfl | rfl | rfl | rfl | rfl | ⟨k1, k2, k3, k4, k5, k6, k7, k8, k9, k10, k11, k12⟩
  all_goals first
    | (rcases hp with rfl | rfl | rfl | rfl | rfl | rfl | rfl | ⟨p0, p1, p2, p3, p4, p7, p12⟩
       all_goals first | rfl | (simp [p0, p1, p2, p3, p4, p7, p12]; done))
    | (rcases hp with rfl | rfl | rfl | rfl | rfl | rfl | rfl | ⟨p0, p1, p2, p3, p4, p7, p12⟩
       all_goals first
         | (simp [k1, k2, k3, k4, k5, k6, k7, k8, k9, k10, k11, k12]; done)
         | (simp [k1, k2, k3, k4, k5, k6, k7, k8, k9, k10, k11, k12, p0, p1, p2, p3, p4, p7, p12]; done))
theorem YVZ {n:Nat} (h:n<9223372036854775808):IntKind.u64.wrap (n:Int)=(n:Int):=by
 have e:(n:Int) % (2 ^ (64:Nat):Int)=(n:Int):=Int.emod_eq_of_lt (by omega) (by omega)
 show (if (false && decide ((n:Int) % (2 ^ (64:Nat):Int) ≥ (2 ^ (63:Nat):Int)))=true then (n:Int) % (2 ^ (64:Nat):Int)-(2 ^ (64:Nat):Int) else (n:Int) % (2 ^ (64:Nat):Int))=_
 rw [e,if_neg (by simp)]
theorem half (m:Nat) (h:m<4294967296):IntKind.i64.wrap (shrC .u64 (IntKind.u64.wrap (m:Int)) 1)=((m / 2:Nat):Int):=by
 rw [YVZ (by omega)]
 show IntKind.i64.wrap ((m:Int).fdiv (2 ^ (min 1 64)))=_
 rw [show ((2:Int) ^ (min 1 64))=2 from rfl,Int.fdiv_eq_ediv_of_nonneg _ (by omega),show (m:Int) / 2=((m / 2:Nat):Int) by omega,YU6 (by omega)]
def YKz (l:List YAP):Prop:=∀ a b:Nat,a<b→b<l.length→l[a]!.ID<l[b]!.ID
theorem YTI (n:YAP) (id:Int):YEX n id=some (if n.ID<id then -1 else if id<n.ID then 1 else 0):=by
 unfold YEX
 by_cases h1:n.ID<id
 ·rw [if_pos (decide_eq_true h1),if_pos h1]
 ·rw [if_neg (show ¬ decide (n.ID<id)=true by simpa using h1),if_neg h1]
  by_cases h2:id<n.ID
  ·rw [if_pos (decide_eq_true h2),if_pos h2]
  ·rw [if_neg (show ¬ decide (id<n.ID)=true by simpa using h2),if_neg h2]
theorem YTJ (d:GDoc) (id:Int) (hm:d.Nodes.length≤1048576) (hs:YKz d.Nodes) : ∃ i:Nat,YHZ d id=some ((i:Int),(YI4 d.Nodes id).isSome)∧(∀ k,YI4 d.Nodes id=some k→i=k):=by
 obtain ⟨l⟩:=d
 dsimp only at hm hs ⊢
 have key : ∃ r,iter (fun (a:Int × Int)=>YAI l id a.1 a.2) (0,(l.length:Int))=some r ∧
   ∃ I:Nat,r=(I:Int)∧I≤l.length∧(∀ m,m<I→l[m]!.ID<id) ∧ ∀ m,I≤m→m<l.length → ¬ l[m]!.ID<id:=by
  refine YDM l.length (fun k st=>∃ I J:Nat,st=((I:Int),(J:Int))∧I≤J∧J≤l.length∧J-I≤l.length-k∧(∀ m,m<I→l[m]!.ID<id) ∧ ∀ m,J≤m→m<l.length → ¬ l[m]!.ID<id) _ ?_ ?_ ⟨0,l.length,rfl,by omega,by omega,by omega,fun m h=>absurd h (Nat.not_lt_zero _),fun m h1 h2=>absurd h2 (by omega)⟩
  ·rintro k st hk ⟨I,J,rfl,h1,h2,h3,h4,h5⟩
   dsimp only
   unfold YAI
   by_cases hIJ:I<J
   ·left
    rw [if_pos (by rw [decide_eq_true_eq]; omega),show (I:Int)+(J:Int)=((I+J:Nat):Int) by omega,YDi (by omega) (by omega),YAA,half _ (by omega),YAH (by omega),YAA,YTI,YAA]
    by_cases hc:l[(I+J) / 2]!.ID<id
    ·rw [if_pos hc,if_pos (by decide),YAM (by omega)]
     refine ⟨_,rfl,(I+J) / 2+1,J,rfl,by omega,h2,by omega,fun m hmm=>?_,h5⟩
     by_cases e:m=(I+J) / 2
     ·rw [e]; exact hc
     ·have:=hs m ((I+J) / 2) (by omega) (by omega); omega
    ·rw [if_neg hc,if_neg (show ¬ decide ((if id<l[(I+J) / 2]!.ID then (1:Int) else 0)<0)=true by split <;> decide)]
     refine ⟨_,rfl,I,(I+J) / 2,rfl,by omega,by omega,by omega,h4,fun m e1 e2=>?_⟩
     by_cases e:m=(I+J) / 2
     ·rw [e]; exact hc
     ·have:=hs ((I+J) / 2) m (by omega) e2; omega
   ·right
    rw [if_neg (by rw [decide_eq_true_eq]; omega)]
    exact ⟨_,rfl,I,rfl,by omega,h4,fun m e1 e2=>h5 m (by omega) e2⟩
  ·rintro st ⟨I,J,rfl,h1,h2,h3,h4,h5⟩
   dsimp only
   unfold YAI
   rw [if_neg (by rw [decide_eq_true_eq]; omega)]
   exact ⟨_,rfl,I,rfl,by omega,h4,fun m e1 e2=>h5 m (by omega) e2⟩
 obtain ⟨r,hr,I,rfl,hI,h4,h5⟩:=key
 unfold YHZ YAV
 rw [hr,YAA]
 have hat : ∀ k,YI4 l id=some k→I=k:=by
  intro k hf
  obtain ⟨e1,e2⟩:=YIc hf
  have a1 : ¬ k<I:=fun h=>by have:=h4 k h; omega
  by_cases e:I=k
  ·exact e
  ·have:=hs I k (by omega) e1
   have:=h5 I (Nat.le_refl _) (by omega)
   omega
 refine ⟨I,?_,hat⟩
 by_cases hlt:I<l.length
 ·rw [decide_eq_true (show (I:Int)<(l.length:Int) by omega),show ((true == true):Bool)=true from rfl,YAL,YAH hlt,YAA,YAL,YTI,YAA,YAz]
  congr 2
  have h6:=h5 I (Nat.le_refl _) hlt
  rw [if_neg h6]
  cases hf:YI4 l id with
  | some k=>
   obtain ⟨e1,e2⟩:=YIc hf
   have:=hat k hf
   subst this
   rw [if_neg (by omega)]; rfl
  | none=>
   have hne:l[I]!.ID≠id:=by
    intro e
    have:=List.find?_eq_none.1 hf I (List.mem_range.2 hlt)
    exact this (decide_eq_true e)
   rw [if_pos (by omega)]; rfl
 ·rw [decide_eq_false (show ¬ (I:Int)<(l.length:Int) by omega)]
  show some ((I:Int),false)=_
  cases hf:YI4 l id with
  | some k=>
   obtain ⟨e1,e2⟩:=YIc hf
   have:=hat k hf
   omega
  | none=>rfl
end Go.Proofs.YtdafahjmopdleaaGreatDoor.Al


namespace Go.Proofs.YtdafahjmopdleaaGreatDoor.Al
def YOJ (d:GDoc):Prop:=d.Nodes.length≤1048576 ∧ ∀ n∈d.Nodes,okN2 n
theorem YPS:YBH=YCU:=by funext f x o; rfl
theorem YPT (n:YAP):YFB n=YCU n.Flow:=by funext x o; rfl
theorem YN7:YFA=YCF:=by funext n x o; rfl
theorem YRb (n:YAP) (w:List Int) (hm:n.Grid.Cells.length≤1048576) (hw:w.length≤1048576) : ∃ r,iter (fun (a:Int × (List Int))=>YCF n a.1 a.2) (0,w)=some r∧r.length≤2097152:=by
 refine YDM n.Grid.Cells.length (fun k st=>st.1=(k:Int)∧st.2.length≤1048576+k) _ ?_ ?_ ⟨rfl,by simpa using hw⟩
 ·rintro k ⟨x,out⟩ hk ⟨rfl,ho⟩
  dsimp only at ho ⊢
  left
  unfold YCF
  rw [if_pos (by simpa using hk),YAH hk,YAA]
  by_cases r:n.Grid.Cells[k]!.Ref=0
  ·rw [if_neg (ndF r),YAA,YAM (by omega),YAA]
   exact ⟨_,rfl,rfl,by dsimp only; omega⟩
  ·rw [if_pos (ndT r),app8 (by omega),YAA,YAA,YAM (by omega),YAA]
   exact ⟨_,rfl,rfl,by dsimp only; rw [List.length_append,List.length_singleton]; omega⟩
 ·rintro ⟨x,out⟩ ⟨rfl,ho⟩
  dsimp only at ho ⊢
  unfold YCF
  rw [if_neg (by simp)]
  exact ⟨_,rfl,by omega⟩
theorem YSY (n:YAP) (h:okN2 n) : ∃ r,YGX n=some r∧YF3 n=some r∧r.length≤2097152:=by
 have hf:=h.ok.fl
 obtain ⟨w,h1,h2⟩:=YSX n.Flow (by omega)
 obtain ⟨r,h3,h4⟩:=YRb n w h.ok.gr.1 (by omega)
 refine ⟨r,?_,?_,h4⟩
 ·unfold YGX YFY
  rw [YPS,h1,YAA,YAA,h3]; rfl
 ·unfold YF3
  rw [YPT,YN7,h1,YAA,h3]; rfl
theorem YRa (d:GDoc) (kind:Int) (refs:List Int) (hm:d.Nodes.length≤1048576) (hs:YKz d.Nodes) (hr:refs.length≤2097152) : ∃ e,YEI d kind refs=some e∧YD4 d kind refs=some e:=by
 obtain ⟨o,h1,h2,_⟩:=YLJ (ρ:=Int) (f:=fun (a:Int)=>YB1 d kind refs a) (g:=fun (a:Int)=>YB0 d kind refs a) (n:=refs.length) (fun _=>True) trivial (fun k hk _=>by
  unfold YB1 YB0
  obtain ⟨i,hi,hik⟩:=YTJ d refs[k]! hm hs
  rw [if_pos (by simpa using hk),if_pos (by simpa using hk),YAH hk,YAA,YAA,hi,YAz,YH1 _ _ hm,YAA]
  cases hf:YI4 d.Nodes refs[k]! with
  | none=>exact ⟨some 7,rfl,rfl,fun e=>by cases e⟩
  | some j=>
   obtain ⟨e1,e2⟩:=YIc hf
   have:=hik j hf
   subst this
   dsimp only
   rw [if_neg (show ¬ ((!Option.isSome (some i))=true) by simp),YAH e1,YAA,YUt,YAA,if_neg (show ¬ decide ((i:Int)<0)=true by simp),YAA,YT8,YAA]
   cases YSl kind d.Nodes[i]!.Kind with
   | false=>exact ⟨some 8,rfl,rfl,fun e=>by cases e⟩
   | true=>
    rw [YAM (by omega)]
    exact ⟨none,rfl,rfl,fun _=>trivial⟩) (by unfold YB1; rw [if_neg (by simp)]) (by unfold YB0; rw [if_neg (by simp)])
 refine ⟨o.getD 0,?_,?_⟩
 ·unfold YEI; rw [h1,YCd]
 ·unfold YD4; rw [h2,YCd]
theorem YN1 {l:List YAP} (h : ∀ k,0<k→k<l.length→l[k-1]!.ID<l[k]!.ID):YKz l:=by
 intro a b hab hb
 induction b with
 | zero=>omega
 | succ b ih=>
  have h1:=h (b+1) (by omega) hb
  rw [Nat.add_sub_cancel] at h1
  by_cases e:a=b
  ·rw [e]; exact h1
  ·have:=ih (by omega) (by omega); omega
theorem YUu (d:GDoc) (h:YOJ d) : ∃ e,YEs d=some e∧YEo d=some e:=by
 obtain ⟨hm,hn⟩:=h
 unfold YEs YEo
 by_cases h0:d.Nodes.length=0
 ·rw [if_pos (by rw [decide_eq_true_eq]; omega),if_pos (by rw [decide_eq_true_eq]; omega)]; exact ⟨_,rfl,rfl⟩
 ·rw [if_neg (by rw [decide_eq_true_eq]; omega),if_neg (by rw [decide_eq_true_eq]; omega)]
  obtain ⟨o,h1,h2,h3⟩:=YLJ (ρ:=Int) (f:=fun (a:Int)=>YCA d a) (g:=fun (a:Int)=>YCO d a) (n:=d.Nodes.length) (fun k=>∀ j,0<j→j<k→d.Nodes[j-1]!.ID<d.Nodes[j]!.ID) (fun j _ hj=>absurd hj (Nat.not_lt_zero _)) (fun k hk hI=>by
   unfold YCA YCO
   obtain ⟨e,e1,e2⟩:=YLD _ (hn _ (YBR hk))
   rw [if_pos (by simpa using hk),if_pos (by simpa using hk),YAH hk,YAA,YAA,e1,e2,YAA,YAA]
   by_cases he:e=0
   ·rw [if_neg (ndF he),if_neg (ndF he)]
    by_cases k0:k=0
    ·subst k0
     rw [decide_eq_true (show ((0:Nat):Int)=0 from rfl),show ((true == true):Bool)=true from rfl,YAL,show (0:Int)=((0:Nat):Int) from rfl,YAH hk,YAA,decide_eq_false (show ¬ ((0:Nat):Int)<((0:Nat):Int) by omega)]
     by_cases hid:d.Nodes[0]!.ID=1
     ·refine ⟨none,?_,?_,fun _ j j1 j2=>by omega⟩
      ·rw [decide_eq_true hid]; rfl
      ·rw [decide_eq_true hid]; rfl
     ·refine ⟨some 5,?_,?_,fun e=>by cases e⟩
      ·rw [decide_eq_false hid]; rfl
      ·rw [decide_eq_false hid]; rfl
    ·have k1:0<k:=by omega
     rw [decide_eq_false (show ¬ ((k:Int)=0) by omega),decide_eq_true (show (0:Int)<(k:Int) by omega),show ((false == true):Bool)=false from rfl,YCf,YAA]
     show ∃ o:Option Int,(bnd1 (gd true (chk .i64 ((k:Int)-1))) fun (x10:Int)=>bnd1 (gd true (idx d.Nodes x10)) fun (x11:YAP)=>_)=_∧(bnd1 (gd true (chk .i64 ((k:Int)-1))) fun (x11:Int)=>bnd1 (gd true (idx d.Nodes x11)) fun (x12:YAP)=>_)=_∧_
     rw [YAL,YDO k1 (by omega),YAA,YAA,YAL,YAH (show k-1<d.Nodes.length by omega),YAA,YAA,YAM (by omega)]
     by_cases hid:d.Nodes[k]!.ID≤d.Nodes[k-1]!.ID
     ·rw [decide_eq_true hid]
      exact ⟨some 5,rfl,rfl,fun e=>by cases e⟩
     ·rw [decide_eq_false hid]
      refine ⟨none,rfl,rfl,fun _ j j1 j2=>?_⟩
      by_cases e:j=k
      ·rw [e]; omega
      ·exact hI j j1 (by omega)
   ·rw [if_pos (ndT he),if_pos (ndT he)]
    exact ⟨some e,rfl,rfl,fun e=>by cases e⟩) (by unfold YCA; rw [if_neg (by simp)]) (by unfold YCO; rw [if_neg (by simp)])
  rw [h1,h2]
  cases o with
  | some e=>exact ⟨e,rfl,rfl⟩
  | none=>
   have hs:=YN1 (h3 rfl)
   show ∃ e,(ctl1 (iter (fun (a:Int)=>YDC d a) 0) fun (u4:Unit)=>some 0)=some e∧(ctl1 (iter (fun (a:Int)=>YBq d a) 0) fun (u4:Unit)=>some 0)=some e
   obtain ⟨o,e1,e2,_⟩:=YLJ (ρ:=Int) (f:=fun (a:Int)=>YDC d a) (g:=fun (a:Int)=>YBq d a) (n:=d.Nodes.length) (fun _=>True) trivial (fun k hk _=>by
    unfold YDC YBq
    obtain ⟨r,r1,r2,r3⟩:=YSY _ (hn _ (YBR hk))
    obtain ⟨e,c1,c2⟩:=YRa d d.Nodes[k]!.Kind r hm hs r3
    rw [if_pos (by simpa using hk),if_pos (by simpa using hk),YAH hk,YAA,YAA,r1,r2,YAA,YAA,c1,c2,YAA]
    by_cases he:e=0
    ·rw [if_neg (ndF he),YAM (by omega)]
     exact ⟨none,rfl,rfl,fun _=>trivial⟩
    ·rw [if_pos (ndT he)]
     exact ⟨some e,rfl,rfl,fun _=>trivial⟩) (by unfold YDC; rw [if_neg (by simp)]) (by unfold YBq; rw [if_neg (by simp)])
   exact ⟨o.getD 0,by rw [e1,YCd],by rw [e2,YCd]⟩
theorem YPe {μ:YAP→Nat} {γ:YAy→Nat} {ψ:YAY→Nat} {ρ:YAX→Nat} {δ:YAN→Nat} {ν:YAC→Nat} {κ:YAG→Nat}
  (hn : ∀ n,(n.Attrs.map κ).sum+(n.Flow.map ν).sum+γ n.Grid+(n.Draw.map δ).sum+1≤μ n) (hg : ∀ g,(g.Cells.map ψ).sum+(g.Merges.map ρ).sum+1≤γ g)
  (hc : ∀ c,c.Text.length+(c.Attrs.map κ).sum+1≤ψ c) (hr : ∀ r,1≤ρ r) (hd : ∀ o,o.Place.length+o.Name.length+o.Value.length+1≤δ o) (he : ∀ e,(e.Attrs.map κ).sum+1≤ν e) (ha : ∀ a,a.Name.length+a.Value.length+1≤κ a)
  {d:GDoc} (hb:(d.Nodes.map μ).sum≤1048576):YOJ d:=by
 have h1:=YRJ hn hg (fun c=>by have:=hc c; omega) hr (fun o=>by have:=hd o; omega) he ha hb
 refine ⟨h1.1,fun n hm=>⟨h1.2 n hm,fun c hcm=>⟨(h1.2 n hm).gr.2.2 c hcm,?_⟩,fun o hom=>?_⟩⟩
 ·have h2:=YDn (μ:=μ) hm
  have h3:=hn n
  have h4:=hg n.Grid
  have h5:=YDn (μ:=ψ) hcm
  have:=hc c
  omega
 ·have h2:=YDn (μ:=μ) hm
  have h3:=hn n
  have h5:=YDn (μ:=δ) hom
  have:=hd o
  exact ⟨by omega,by omega,by omega⟩
end Go.Proofs.YtdafahjmopdleaaGreatDoor.Al


namespace Go.Proofs.YtdafahjmopdleaaGreatDoor.Al
theorem YHb {α β:Type} {o:Option α} {f:α→Option β} {r:β} (h:bnd1 o f=some r) : ∃ a,o=some a∧f a=some r:=by
 cases o with
 | none=>cases h
 | some a=>exact ⟨a,rfl,h⟩
theorem YSr {n:YAP} (h:okN2 n) (h0:YBL n=some 0) (ht:YEG n.Kind=some true):YFu n.Flow=0:=by
 have hfe : ∀ x∈n.Flow,okE x:=fun x hx=>⟨by have:=(h.ok.fa x hx).1; omega,(h.ok.fa x hx).2⟩
 have hfl:=h.ok.fl
 unfold YBL at h0
 split at h0
 ·cases h0
 split at h0
 ·cases h0
 obtain ⟨e,_,h0⟩:=YHb h0
 split at h0
 ·rename_i c; injection h0 with h0; rw [h0] at c; simp at c
 obtain ⟨r1,e1,h0⟩:=YHb h0
 rw [ht] at e1
 cases e1
 obtain ⟨r2,_,h0⟩:=YHb h0
 obtain ⟨g,_,h0⟩:=YHb h0
 obtain ⟨x1,_,h0⟩:=YHb h0
 split at h0
 ·cases h0
 rw [if_pos (show (true || r2)=true from rfl)] at h0
 obtain ⟨r4,e4,h0⟩:=YHb h0
 injection h0 with h0
 rw [YIa _ hfe (by omega),h0] at e4
 injection e4
theorem doc_ok {d:GDoc} (h:YOJ d) (h0:YEs d=some 0):YKz d.Nodes ∧ ∀ k,k<d.Nodes.length→YBL d.Nodes[k]! = some 0:=by
 obtain ⟨hm,hn⟩:=h
 unfold YEs at h0
 split at h0
 ·cases h0
 let g:Nat→Option Int:=fun k=>if (YBL d.Nodes[k]!).getD 0≠0 then some ((YBL d.Nodes[k]!).getD 0) else if (k=0∧d.Nodes[k]!.ID≠1)∨(0<k∧d.Nodes[k]!.ID≤d.Nodes[k-1]!.ID) then some 5 else none
 have hit:iter (fun (a:Int)=>YCA d a) 0=some (YIV ((List.range d.Nodes.length).findSome? g)):=by
  refine YAe g (fun k hk=>?_) (by unfold YCA; rw [if_neg (by simp)])
  unfold YCA
  obtain ⟨e,e1,_⟩:=YLD _ (hn _ (YBR hk))
  show _=YBb k (g k)
  simp only [g]
  rw [if_pos (by simpa using hk),YAH hk,YAA,e1,YAA]
  show _=YBb k (if e≠0 then some e else _)
  by_cases he:e=0
  ·rw [if_neg (ndF he),if_neg (by simpa using he)]
   by_cases k0:k=0
   ·subst k0
    rw [decide_eq_true (show ((0:Nat):Int)=0 from rfl),decide_eq_false (show ¬ (0:Int)<((0:Nat):Int) by omega)]
    by_cases hid:d.Nodes[0]!.ID=1
    ·rw [decide_eq_true hid,if_neg (show ¬ ((0=0∧d.Nodes[0]!.ID≠1)∨(0<0∧d.Nodes[0]!.ID≤d.Nodes[0-1]!.ID)) by rintro (⟨_,b⟩ | ⟨a,_⟩); exact b hid; omega)]
     rfl
    ·rw [decide_eq_false hid,if_pos (show ((0=0∧d.Nodes[0]!.ID≠1)∨(0<0∧d.Nodes[0]!.ID≤d.Nodes[0-1]!.ID)) from .inl ⟨rfl,hid⟩)]
     rfl
   ·have k1:0<k:=by omega
    rw [decide_eq_false (show ¬ ((k:Int)=0) by omega),decide_eq_true (show (0:Int)<(k:Int) by omega)]
    show (bnd1 (gd true (chk .i64 ((k:Int)-1))) fun (x10:Int)=>bnd1 (gd true (idx d.Nodes x10)) fun (x11:YAP)=>_)=_
    rw [YAL,YDO k1 (by omega),YAA,YAL,YAH (show k-1<d.Nodes.length by omega),YAA,YAM (by omega)]
    by_cases hid:d.Nodes[k]!.ID≤d.Nodes[k-1]!.ID
    ·rw [decide_eq_true hid,if_pos (show ((k=0∧d.Nodes[k]!.ID≠1)∨(0<k∧d.Nodes[k]!.ID≤d.Nodes[k-1]!.ID)) from .inr ⟨k1,hid⟩)]
     rfl
    ·rw [decide_eq_false hid,if_neg (show ¬ ((k=0∧d.Nodes[k]!.ID≠1)∨(0<k∧d.Nodes[k]!.ID≤d.Nodes[k-1]!.ID)) by rintro (⟨a,_⟩ | ⟨_,b⟩); exact k0 a; exact hid b)]
     rfl
  ·rw [if_pos (ndT he),if_pos he]
   rfl
 rw [hit] at h0
 cases hf:(List.range d.Nodes.length).findSome? g with
 | some e=>
  rw [hf] at h0
  have h0:(some e:Option Int)=some 0:=h0
  injection h0 with h0
  obtain ⟨k,_,hk⟩:=List.exists_of_findSome?_eq_some hf
  simp only [g] at hk
  split at hk
  ·rename_i hne; injection hk with hk; exact absurd (hk.trans h0) hne
  ·split at hk
   ·injection hk with hk; omega
   ·cases hk
 | none=>
  rw [List.findSome?_eq_none_iff] at hf
  have hk : ∀ k,k<d.Nodes.length→(YBL d.Nodes[k]!).getD 0=0 ∧ ¬ ((k=0∧d.Nodes[k]!.ID≠1)∨(0<k∧d.Nodes[k]!.ID≤d.Nodes[k-1]!.ID)):=by
   intro k hk
   have:=hf k (List.mem_range.2 hk)
   simp only [g] at this
   split at this
   ·cases this
   ·rename_i h1
    split at this
    ·cases this
    ·rename_i h2; exact ⟨by simpa using h1,h2⟩
  refine ⟨YN1 fun k k0 hkl=>?_,fun k hkl=>?_⟩
  ·have:=(hk k hkl).2
   have h3 : ¬ (0<k∧d.Nodes[k]!.ID≤d.Nodes[k-1]!.ID):=fun e=>this (.inr e)
   omega
  ·obtain ⟨e,e1,_⟩:=YLD _ (hn _ (YBR hkl))
   have:=(hk k hkl).1
   rw [e1] at this ⊢
   exact congrArg some this
theorem YOj {d:GDoc} (id:Int) (hm:d.Nodes.length≤1048576) (hs:YKz d.Nodes):YHJ d id=some (match YI4 d.Nodes id with | some k=>(k:Int) | none=>-1):=by
 unfold YHJ
 obtain ⟨i,h1,h2⟩:=YTJ d id hm hs
 rw [h1,YAz]
 cases hf:YI4 d.Nodes id with
 | none=>rfl
 | some k=>rw [h2 k hf]; rfl
def badP:YAD:=YAD.mk (YAP.mk 0 0 [] [] (YAy.mk 0 0 [] []) []) [] []
theorem YU1 (d:GDoc) (s:GSel) (author:List UInt8) (h:YOJ d) (ha:author.length≤1073741824) :
  (∃ e,e≠0∧YC5 d s author=some (badP,e)∧YDo d s=some e) ∨
  (∃ k,k<d.Nodes.length∧YI4 d.Nodes s.Node=some k∧d.Nodes[k]!.ID=s.Node∧okN2 d.Nodes[k]! ∧ YEG d.Nodes[k]!.Kind=some true∧YFu d.Nodes[k]!.Flow=0∧0≤s.From∧s.From≤s.To∧s.To<((shown d.Nodes[k]!.Flow 0 d.Nodes[k]!.Flow.length).length:Int) ∧
   YEs d=some 0∧YDo d s=some 0∧YC5 d s author=some (if author≠[]∧YHe author=false then (badP,23) else (YAD.mk d.Nodes[k]! (shown d.Nodes[k]!.Flow 0 d.Nodes[k]!.Flow.length) author,0))):=by
 obtain ⟨e,h1,h2⟩:=YUu d h
 have hm:=h.1
 unfold YC5 YDo
 rw [h1,h2,YAA,YAA]
 by_cases he:e=0
 ·subst he
  obtain ⟨hs,hall⟩:=doc_ok h h1
  rw [if_neg (by decide),if_neg (by decide),YOj s.Node hm hs,YH1 d s.Node hm,YAA,YAA]
  cases hf:YI4 d.Nodes s.Node with
  | none=>exact .inl ⟨7,by decide,rfl,rfl⟩
  | some k=>
   obtain ⟨hk,hid⟩:=YIc hf
   dsimp only
   have hn:=h.2 _ (YBR hk)
   have hfe : ∀ x∈d.Nodes[k]!.Flow,okE x:=fun x hx=>⟨by have:=(hn.ok.fa x hx).1; omega,(hn.ok.fa x hx).2⟩
   have hfl:=hn.ok.fl
   rw [if_neg (by simp),if_neg (by simp),YAH hk,YAA,YAA,YMB]
   obtain ⟨t,ht⟩ : ∃ t,YEG d.Nodes[k]!.Kind=some t:=⟨_,rfl⟩
   rw [ht,YAA,YAA]
   cases t with
   | false=>exact .inl ⟨8,by decide,rfl,rfl⟩
   | true=>
    have hfe0:=YSr hn (hall k hk) ht
    have hp:YEC d.Nodes[k]!.Flow=0:=by
     unfold YFu at hfe0
     split at hfe0
     ·rename_i hx; exact absurd hfe0 hx
     ·rename_i hx; simpa using hx
    rw [if_neg (by decide),if_neg (by decide),YKi _ 0 hfe hfl,YJX _ 0 hfe hp hfl,YAA,YAA]
    by_cases hr:s.From<0∨s.To<s.From∨((shown d.Nodes[k]!.Flow 0 d.Nodes[k]!.Flow.length).length:Int)≤s.To
    ·refine .inl ⟨2,by decide,?_,?_⟩
     ·rw [if_pos (by simp only [Bool.or_eq_true,decide_eq_true_eq]; omega)]; rfl
     ·rw [if_pos (by simp only [Bool.or_eq_true,decide_eq_true_eq]; omega)]
    ·refine .inr ⟨k,hk,rfl,hid,hn,ht,hfe0,by omega,by omega,by omega,rfl,?_,?_⟩
     ·rw [if_neg (by simp only [Bool.or_eq_true,decide_eq_true_eq]; omega)]
     ·rw [if_neg (by simp only [Bool.or_eq_true,decide_eq_true_eq]; omega)]
      by_cases hau:author=[]
      ·subst hau
       rw [if_neg (show ¬ (([]:List UInt8)≠[]∧YHe []=false) by simp)]
       rfl
      ·rw [decide_eq_false hau]
       show (bnd1 (gd true (YDs author)) fun (r3:Bool)=>_)=_
       rw [YAL,YGZ _ (by omega),YAA]
       cases hv:YHe author with
       | false=>rw [if_pos (show author≠[]∧false=false from ⟨hau,rfl⟩)]; rfl
       | true=>rw [if_neg (show ¬ (author≠[]∧true=false) by simp)]; rfl
 ·rw [if_pos (ndT he),if_pos (ndT he)]
  exact .inl ⟨e,he,rfl,rfl⟩
end Go.Proofs.YtdafahjmopdleaaGreatDoor.Al


namespace Go.Proofs.YtdafahjmopdleaaGreatDoor.Al
def tErr (s:YAB):Int:=if (s.Kind=1∧s.Elems=[]∧YBd s=11)∨(s.Kind≠1∧s.N=0∧YBd s=2) then YAx s.Attrs true else YBd s
def OkT (s:YAB):Prop:=(s.Kind=0∧s.Elems=[]∧0≤s.N∧s.N≤2147483647∧YAx s.Attrs true=0)∨(s.Kind=2∧s.Elems=[]∧s.Attrs=[]∧0≤s.N∧s.N≤2147483647) ∨
  (s.Kind=1∧s.N=0∧s.Attrs=[]∧YEC s.Elems=0)
theorem YVN {s:YAB} (h:tErr s=0):OkT s:=by
 unfold tErr at h
 split at h
 ·rename_i hc
  rcases hc with ⟨h1,h2,h3⟩ | ⟨h1,h2,h3⟩
  ·unfold YBd at h3
   rw [if_pos h1] at h3
   by_cases c1:s.N≠0∨s.Attrs≠[]
   ·rw [if_pos c1] at h3; cases h3
   ·refine .inr (.inr ⟨h1,Classical.byContradiction fun h=>c1 (.inl h),Classical.byContradiction fun h=>c1 (.inr h),by rw [h2]; rfl⟩)
  ·unfold YBd at h3
   rw [if_neg h1] at h3
   by_cases c0:s.Kind=0∨s.Kind=2
   ·rw [if_pos c0] at h3
    by_cases c1:s.Elems≠[]∨(s.Kind=2∧s.Attrs≠[])
    ·rw [if_pos c1] at h3; cases h3
    ·have e1:s.Elems=[]:=Classical.byContradiction fun h=>c1 (.inl h)
     rcases c0 with k | k
     ·exact .inl ⟨k,e1,by omega,by omega,h⟩
     ·exact .inr (.inl ⟨k,e1,Classical.byContradiction fun h=>c1 (.inr ⟨k,h⟩),by omega,by omega⟩)
   ·rw [if_neg c0] at h3; cases h3
 ·rcases (YQZ h).kind with ⟨k,e,n1,n2,a⟩ | ⟨k,e,a,n1,n2⟩ | ⟨k,n,a,_,p⟩
  ·exact .inl ⟨k,e,by omega,n2,a⟩
  ·exact .inr (.inl ⟨k,e,a,by omega,n2⟩)
  ·exact .inr (.inr ⟨k,n,a,p⟩)
theorem YOI {s:YAB} (h:OkT s) (ho:OkSt s) : ∀ u∈YEd s,OkUn u:=by
 intro u h2
 unfold YEd at h2
 rcases h with ⟨k,e,n1,n2,a1⟩ | ⟨k,e,a1,n1,n2⟩ | ⟨k,n,_,p⟩
 ·rw [if_neg (by omega),decide_eq_false (by omega)] at h2
  have:=List.eq_of_mem_replicate h2
  subst this
  exact ⟨fun _=>a1,ho.at_⟩
 ·rw [if_neg (by omega),decide_eq_true k] at h2
  have:=List.eq_of_mem_replicate h2
  subst this
  exact ⟨fun h=>(by cases h),ho.at_⟩
 ·rw [if_pos k] at h2
  obtain ⟨e,h3,rfl⟩:=List.mem_map.1 h2
  obtain ⟨j,hj,rfl⟩:=List.mem_iff_getElem.1 h3
  have h4:=YMP p hj
  rw [getElem!_pos s.Elems j hj] at h4
  exact ⟨h4,ho.ea _ h3⟩
theorem YSp {s:YAB} (h:OkT s):(cntR (YEd s):Int)=s.N∧cntA (YEd s)=s.Elems.length∧0≤s.N∧s.N≤2147483647:=by
 have e1 : ∀ l:List YAC,cntR (l.map Un.a)=0∧cntA (l.map Un.a)=l.length:=by
  intro l
  induction l with
  | nil=>exact ⟨rfl,rfl⟩
  | cons x l ih=>unfold cntR cntA at ih ⊢; rw [List.map_cons,List.countP_cons,List.countP_cons,ih.1,ih.2]; exact ⟨rfl,rfl⟩
 have e2 : ∀ (n:Nat) (c:Bool) (t:List YAG),cntR (List.replicate n (Un.r c t))=n∧cntA (List.replicate n (Un.r c t))=0:=by
  intro n c t
  induction n with
  | zero=>exact ⟨rfl,rfl⟩
  | succ n ih=>unfold cntR cntA at ih ⊢; rw [List.replicate_succ,List.countP_cons,List.countP_cons,ih.1,ih.2]; exact ⟨rfl,rfl⟩
 unfold YEd
 rcases h with ⟨k,e,n1,n2,a1⟩ | ⟨k,e,a1,n1,n2⟩ | ⟨k,n,_,p⟩
 ·rw [if_neg (by omega),(e2 _ _ _).1,(e2 _ _ _).2,e]; refine ⟨by omega,rfl,n1,n2⟩
 ·rw [if_neg (by omega),(e2 _ _ _).1,(e2 _ _ _).2,e]; refine ⟨by omega,rfl,n1,n2⟩
 ·rw [if_pos k,(e1 _).1,(e1 _).2,n]; exact ⟨rfl,rfl,by decide,by decide⟩
def YLl:List YAB→List Un→List YAB × Int
 | [],X=>if YJg (YCG X)≠0 then ([],3) else (YCG X,0)
 | s :: d,X=>if tErr s≠0 then ([],tErr s) else if s.Kind=2∧2147483647<((dOn X).cuts:Int)+s.N then ([],3) else YLl d (X++YEd s)
def YPD:List YAB→List Un→Ctl YAE (List YAB × Int)
 | [],X=>.nrm (toW (dOn X))
 | s :: d,X=>if tErr s≠0 then .ext ([],tErr s) else if s.Kind=2∧2147483647<((dOn X).cuts:Int)+s.N then .ext ([],3) else YPD d (X++YEd s)
theorem YL9 (s:YAB) (d:List YAB) (X:List Un):YPD (s :: d) X=if tErr s≠0 then .ext ([],tErr s) else if s.Kind=2∧2147483647<((dOn X).cuts:Int)+s.N then .ext ([],3) else YPD d (X++YEd s):=rfl
theorem YMA (s:YAB) (d:List YAB) (X:List Un):YLl (s :: d) X=if tErr s≠0 then ([],tErr s) else if s.Kind=2∧2147483647<((dOn X).cuts:Int)+s.N then ([],3) else YLl d (X++YEd s):=rfl
structure IT (d:List YAB) (k:Nat) (X:List Un):Prop where
 ok : ∀ u∈X,OkUn u
 out:(dOn X).out.length≤3 * k
 cut:(dOn X).cuts≤2147483647
 rows:cntR X≤2147483647 * k
 adds:cntA X+((d.drop k).map fun s=>s.Elems.length).sum=(d.map fun s=>s.Elems.length).sum
theorem YTX (s:DS):(dFl s).length≤s.out.length+2:=by
 unfold dFl
 split <;> split <;> simp
theorem YMd (l:List YAB) (t:List YAG) (n:Int):(YCt l t n).length≤l.length+1:=by
 unfold YCt
 split <;> simp
theorem YQp (a b:List Un):cntA (a++b)=cntA a+cntA b:=List.countP_append
theorem YOl {X:List Un} (h : ∀ u∈X,OkUn u):(dOn X).adds.length≤cntA X:=(YMc h).al
theorem tcond (s:YAB) (e:Int):((((decide (s.Kind=1)) && (decide ((s.Elems.length:Int)=0))) && (decide (e=11))) || (((!decide (s.Kind=1)) && (decide (s.N=0))) && (decide (e=2))))=true ↔
  ((s.Kind=1∧s.Elems=[]∧e=11)∨(s.Kind≠1∧s.N=0∧e=2)):=by
 rw [YQS]
 simp only [Bool.or_eq_true,Bool.and_eq_true,Bool.not_eq_true',decide_eq_true_eq,decide_eq_false_iff_not,ne_eq,and_assoc]
theorem YQ1 (d:List YAB) (ho:OkD d) (hs:SmD d):iter (fun (a:Int × YAE)=>YBk d a.1 a.2) (0,(YAE.mk [] [] 0))=some (YPD d []):=by
 have hm:=hs.len
 have hsum:=hs.sum
 refine YS3 d (fun X k=>((k:Int),toW (dOn X))) YPD (IT d) ?_ ?_ [] ⟨by simp,by simp [dOn,D0],by simp [dOn,D0],by simp [cntR],by simp [cntA]⟩ _ rfl
 ·rintro k X hk hI
  have hst:=ho.st _ (YBR hk)
  have h1:=hI.ok
  have h2:=hI.out
  have h3:=hI.cut
  have h4:=hI.rows
  have h5:=hI.adds
  have h6:=YOl h1
  have h7:=hs.at_ _ (YBR hk)
  rw [YGW hk,List.map_cons,List.sum_cons] at h5
  show (∃ X',YBk d (k:Int) _=_∧_)∨YBk d (k:Int) _=_
  unfold YBk
  rw [if_pos (by simpa using hk),YAH hk,YAA,YIf _ hst,YAA]
  rw [YL9]
  generalize d[k]! = s at hst h5 h7
  have htot:(if ((((decide (s.Kind=1)) && (decide ((s.Elems.length:Int)=0))) && (decide (YBd s=11))) || (((!decide (s.Kind=1)) && (decide (s.N=0))) && (decide (YBd s=2)))) then (bnd1 (YBA s.Attrs) fun (e3:Int)=>some e3) else (some (YBd s)))=some (tErr s):=by
   unfold tErr
   by_cases hc:((s.Kind=1∧s.Elems=[]∧YBd s=11)∨(s.Kind≠1∧s.N=0∧YBd s=2))
   ·rw [if_pos ((tcond s _).2 hc),if_pos hc,YDj _ hst.at_.2 (by have:=hst.at_.1; omega),YAA]
   ·rw [if_neg (fun h=>hc ((tcond s _).1 h)),if_neg hc]
  rw [htot,YAA]
  by_cases e0:tErr s=0
  ·have hT:=YVN e0
   have hU:=YOI hT hst
   obtain ⟨c1,c2,c3,c4⟩:=YSp hT
   rw [if_neg (ndF e0),if_neg (show ¬ (tErr s≠0) by simpa using e0)]
   have hnew : ∀ X',X'=X++YEd s→(dOn X').out.length≤(dOn X).out.length+3→(dOn X').cuts≤2147483647→IT d (k+1) X':=by
    rintro X' rfl h8 h9
    refine ⟨fun u hu=>?_,by omega,h9,?_,?_⟩
    ·rcases List.mem_append.1 hu with h | h
     ·exact h1 u h
     ·exact hU u h
    ·rw [YQn]; omega
    ·rw [YQp,c2,← h5]; omega
   have hX : ∀ u∈X++YEd s,OkUn u:=fun u hu=>by
    rcases List.mem_append.1 hu with h | h
    ·exact h1 u h
    ·exact hU u h
   have hS:YEd s=if s.Kind=1 then s.Elems.map Un.a else List.replicate s.N.toNat (.r (decide (s.Kind=2)) s.Attrs):=rfl
   by_cases k0:s.Kind=0
   ·rw [if_pos (by rw [decide_eq_true_eq]; exact k0),if_neg (show ¬ (s.Kind=2∧2147483647<((dOn X).cuts:Int)+s.N) by rintro ⟨h,_⟩; omega)]
    rw [if_neg (by omega),decide_eq_false (by omega)] at hS
    rw [YV6 (YMc h1) (by omega) (by omega) s.N s.Attrs c3 (by omega) (by omega),YAA,YKF,YAM (by omega),YAA,YKC _ _ _ c3,← hS]
    refine .inl ⟨_,rfl,hnew _ rfl ?_ ?_,rfl⟩
    ·rw [hS,← YKC _ _ _ c3]; unfold YOQ
     have:=YTX (dOn X)
     have:=YMd (dFl (dOn X)) s.Attrs s.N
     split
     ·omega
     ·dsimp only; omega
    ·rw [hS,← YKC _ _ _ c3]; unfold YOQ
     split
     ·exact h3
     ·simp
   ·by_cases k1:s.Kind=1
    ·rw [if_neg (by rw [decide_eq_true_eq]; exact k0),if_pos (by rw [decide_eq_true_eq]; exact k1),if_neg (show ¬ (s.Kind=2∧2147483647<((dOn X).cuts:Int)+s.N) by rintro ⟨h,_⟩; omega)]
     rw [if_pos k1] at hS
     rw [YUr _ _ (by have:=hst.el; omega) hst.ea (by omega),YAA,YKF,YAM (by omega),YAA,YKD,← hS]
     refine .inl ⟨_,rfl,hnew _ rfl ?_ ?_,rfl⟩
     ·rw [hS,← YKD]; dsimp only; omega
     ·rw [hS,← YKD]; exact h3
    ·have k2:s.Kind=2:=by
      rcases hT with h | h | h
      ·exact absurd h.1 k0
      ·exact h.1
      ·exact absurd h.1 k1
     rw [if_neg (by rw [decide_eq_true_eq]; exact k0),if_neg (by rw [decide_eq_true_eq]; exact k1)]
     rw [if_neg k1,decide_eq_true k2] at hS
     show (∃ X',ctl1 (bnd1 (chk .i64 (((dOn X).cuts:Int)+s.N)) _) _=_∧_)∨ctl1 (bnd1 (chk .i64 (((dOn X).cuts:Int)+s.N)) _) _=_
     rw [YDi (by omega) (by omega),YAA]
     by_cases hb:2147483647<((dOn X).cuts:Int)+s.N
     ·rw [if_pos (by rw [decide_eq_true_eq]; exact hb),if_pos ⟨k2,hb⟩]; exact .inr rfl
     ·rw [if_neg (by rw [decide_eq_true_eq]; exact hb),if_neg (fun h=>hb h.2),YKF,YAM (by omega),YAA]
      have e:=YTW X s.N.toNat s.Attrs
      rw [← hS] at e
      refine .inl ⟨_,?_,hnew _ rfl ?_ ?_,rfl⟩
      ·rw [← e]
       unfold toW
       dsimp only
       rw [show (((dOn X).cuts+s.N.toNat:Nat):Int)=((dOn X).cuts:Int)+s.N by omega]
      ·rw [← e]; dsimp only; omega
      ·rw [← e]; dsimp only; omega
  ·rw [if_pos (ndT e0),if_pos e0]; exact .inr rfl
 ·rintro X hI
  show YBk d (d.length:Int) _=_
  unfold YBk
  rw [if_neg (by simp)]; rfl
theorem YQ2 (d:List YAB) (ho:OkD d) (hs:SmD d) : ∀ (e:List YAB) (k:Nat) (X:List Un),k+e.length=d.length→d.drop k=e→IT d k X →
  (ctl1 (some (YPD e X)) fun (w4:YAE)=>bnd3 (YBo w4) fun (r1:List YAB) (r2:Int) (_:YAE)=>some (r1,r2))=some (YLl e X):=by
 have hm:=hs.len
 have hsum:=hs.sum
 intro e
 induction e with
 | nil=>
  intro k X hk _ hI
  have h2:=hI.out
  have h5:=hI.adds
  simp only [List.length_nil] at hk
  unfold YPD YLl
  rw [YKF,YWI hI.ok (by omega) (by omega)]
  split <;> rfl
 | cons s e ih=>
  intro k X hk hd hI
  simp only [List.length_cons] at hk
  have hkl:k<d.length:=by omega
  rw [YGW hkl] at hd
  injection hd with hd1 hd2
  rw [YL9,YMA]
  by_cases e0:tErr s=0
  ·rw [if_neg (show ¬ (tErr s≠0) by simpa using e0),if_neg (show ¬ (tErr s≠0) by simpa using e0)]
   by_cases hc:s.Kind=2∧2147483647<((dOn X).cuts:Int)+s.N
   ·rw [if_pos hc,if_pos hc]; rfl
   ·rw [if_neg hc,if_neg hc]
    refine ih (k+1) _ (by omega) hd2 ?_
    have hst:=ho.st _ (YBR hkl)
    rw [hd1] at hst
    have hT:=YVN e0
    have hU:=YOI hT hst
    obtain ⟨c1,c2,c3,c4⟩:=YSp hT
    have h1:=hI.ok
    have h2:=hI.out
    have h3:=hI.cut
    have h4:=hI.rows
    have h5:=hI.adds
    rw [YGW hkl,List.map_cons,List.sum_cons,hd1] at h5
    have hS:YEd s=if s.Kind=1 then s.Elems.map Un.a else List.replicate s.N.toNat (.r (decide (s.Kind=2)) s.Attrs):=rfl
    have hoc:(dOn (X++YEd s)).out.length≤(dOn X).out.length+3∧(dOn (X++YEd s)).cuts≤2147483647:=by
     by_cases k1:s.Kind=1
     ·rw [if_pos k1] at hS
      rw [hS,← YKD]; exact ⟨by dsimp only; omega,h3⟩
     ·rw [if_neg k1] at hS
      by_cases k2:s.Kind=2
      ·rw [decide_eq_true k2] at hS
       rw [hS,← YTW]
       have : ¬ 2147483647<((dOn X).cuts:Int)+s.N:=fun h=>hc ⟨k2,h⟩
       refine ⟨by dsimp only; omega,by dsimp only; omega⟩
      ·rw [decide_eq_false k2] at hS
       rw [hS,← YKC _ _ _ c3]; unfold YOQ
       have:=YTX (dOn X)
       have:=YMd (dFl (dOn X)) s.Attrs s.N
       split
       ·exact ⟨by omega,h3⟩
       ·exact ⟨by dsimp only; omega,by simp⟩
    refine ⟨fun u hu=>?_,by omega,hoc.2,?_,?_⟩
    ·rcases List.mem_append.1 hu with h | h
     ·exact h1 u h
     ·exact hU u h
    ·rw [YQn]; omega
    ·rw [YQp,c2,← h5]; omega
  ·rw [if_pos e0,if_pos e0]; rfl
theorem it0 (d:List YAB):IT d 0 []:=⟨by simp,by simp [dOn,D0],by simp [dOn,D0],by simp [cntR],by simp [cntA]⟩
theorem YNS (d:List YAB) (ho:OkD d) (hs:SmD d):YEY d=some (YLl d []):=by
 unfold YEY
 rw [YQ1 d ho hs]
 exact YQ2 d ho hs d 0 [] (by simp) rfl (it0 d)
theorem cntAR (us:List Un):cntA us+cntR us=us.length:=by
 induction us with
 | nil=>rfl
 | cons u us ih=>
  have e1:cntA (u :: us)=(if u.isR then 0 else 1)+cntA us:=by unfold cntA; rw [List.countP_cons]; cases u.isR <;> simp <;> omega
  have e2:cntR (u :: us)=(if u.isR then 1 else 0)+cntR us:=by unfold cntR; rw [List.countP_cons]; omega
  rw [e1,e2,List.length_cons]
  cases u.isR <;> simp <;> omega
end Go.Proofs.YtdafahjmopdleaaGreatDoor.Al


namespace Go.Proofs.YtdafahjmopdleaaGreatDoor.Al
theorem YPC (n:Int) (t:List YAG):YEd ⟨0,n,t,[]⟩=List.replicate n.toNat (.r false t):=rfl
end Go.Proofs.YtdafahjmopdleaaGreatDoor.Al


namespace Go.Proofs.YtdafahjmopdleaaGreatDoor.Al
def YFi (ts:List (List YAG)):List Un:=ts.map fun t=>.r false t
theorem YNB {ts:List (List YAG)} (h : ∀ t∈ts,YAx t true=0∧okA t) : ∀ u∈YFi ts,OkUn u:=by
 intro u hu
 obtain ⟨t,ht,rfl⟩:=List.mem_map.1 hu
 exact ⟨fun _=>(h t ht).1,(h t ht).2⟩
theorem YLG (ts:List (List YAG)):(YFi ts).length=ts.length:=by simp [YFi]
def YFP (ts:List (List YAG)):List YAB:=ts.map fun t=>⟨0,1,t,[]⟩
theorem YKl : ∀ (ts:List (List YAG)) (X:List Un),(∀ t∈ts,YAx t true=0)→YLl (YFP ts) X=YLl [] (X++YFi ts)
 | [],X,_=>by simp [YFP,YFi]
 | t :: ts,X,h=>by
  have h0:=h t (List.mem_cons_self ..)
  have hs:YBd ⟨0,1,t,[]⟩=0:=YJO (by decide) (by decide) h0
  have ht:tErr ⟨0,1,t,[]⟩=0:=by
   unfold tErr
   rw [if_neg (by simp),hs]
  show YLl (⟨0,1,t,[]⟩ :: YFP ts) X=_
  rw [YMA,if_neg (by rw [ht]; simp),if_neg (by simp),YKl ts _ fun t ht=>h t (List.mem_cons_of_mem _ ht)]
  have hu:YEd ⟨0,1,t,[]⟩=[.r false t]:=by rw [YPC]; rfl
  have hk:YFi (t :: ts) = .r false t :: YFi ts:=rfl
  rw [hu,hk,List.append_assoc,List.singleton_append]
theorem YNr : ∀ ts:List (List YAG),((YFP ts).map fun s=>s.Elems.length).sum=0
 | []=>rfl
 | t :: ts=>by
  show (0:Nat)+((YFP ts).map fun s=>s.Elems.length).sum=0
  rw [YNr ts]
theorem YL8 (ts:List (List YAG)) (h : ∀ t∈ts,YAx t true=0∧okA t∧t.length≤1048576) (hl:ts.length≤1048576):YEY (YFP ts)=some (YCG (YFi ts),0):=by
 have hsum:((YFP ts).map fun s=>s.Elems.length).sum=0:=YNr ts
 have ho:OkD (YFP ts):=⟨by simp [YFP]; omega,fun s hs=>by
  obtain ⟨t,ht,rfl⟩:=List.mem_map.1 hs
  exact ⟨(h t ht).2.1,by simp,fun e he=>by simp at he⟩,by rw [hsum]; omega⟩
 have hs:SmD (YFP ts):=⟨fun s hs=>by
  obtain ⟨t,ht,rfl⟩:=List.mem_map.1 hs
  exact (h t ht).2.2,fun s hs e he=>by
  obtain ⟨t,ht,rfl⟩:=List.mem_map.1 hs
  simp at he,by rw [hsum]; omega,by simp [YFP]; omega⟩
 rw [YNS _ ho hs,YKl ts [] fun t ht=>(h t ht).1,List.nil_append]
 have hU:=YNB fun t ht=>⟨(h t ht).1,(h t ht).2.1⟩
 have hc:=cntAR (YFi ts)
 have hn:=YTZ (YFi ts)
 have hul:=YLG ts
 have he:YJg (YCG (YFi ts))=0:=cd_err (YMc hU) (by omega) (by omega)
 unfold YLl
 rw [if_neg (by simpa using he)]
def YRN (ts:List (List YAG)):YAR:=⟨List.replicate (ts.length+1) [],List.replicate ts.length false,ts⟩
theorem YNC (ts:List (List YAG)):(YRN ts).us=YFi ts:=by
 unfold YAR.us YRN YFi
 dsimp only
 induction ts with
 | nil=>rfl
 | cons t ts ih=>
  rw [List.length_cons,List.replicate_succ (n:=ts.length+1),List.replicate_succ (n:=ts.length) (a:=false),uOf,ih]
  rfl
theorem YOR (ts:List (List YAG)) (h : ∀ t∈ts,YAx t true=0∧okA t∧t.length≤1048576) (hl:ts.length≤1048576):YDg (YRN ts)=some (YCG (YFi ts)):=by
 rw [YLs _ ⟨by simp [YRN],by simp [YRN]⟩ (by rw [YNC]; exact okU_un (YNB fun t ht=>⟨(h t ht).1,(h t ht).2.1⟩)) (by rw [YNC,YLG]; omega),YNC]
def visN (f:List YAC):List Nat:=(List.range f.length).filter (seen f 0)
theorem YEh (f:List YAC):shown f 0 f.length=(visN f).map fun (i:Nat)=>(i:Int):=rfl
theorem YIs {f:List YAC} {k:Nat} (hk:k<(visN f).length):(visN f)[k]! < f.length:=by
 rw [getElem!_pos _ k hk]
 exact List.mem_range.1 (List.mem_filter.1 (List.getElem_mem hk)).1
theorem YPB (f:List YAC):(visN f).Pairwise (· < ·):=List.Pairwise.filter _ List.pairwise_lt_range
theorem YP6 {f:List YAC} {j k:Nat} (hj:j<(visN f).length) (hk:k<(visN f).length) (h:(visN f)[j]! = (visN f)[k]!):j=k:=by
 rw [getElem!_pos _ j hj,getElem!_pos _ k hk] at h
 have hs:=List.pairwise_iff_getElem.1 (YPB f)
 rcases Nat.lt_trichotomy j k with h1 | h1 | h1
 ·have:=hs j k hj hk h1; omega
 ·exact h1
 ·have:=hs k j hk hj h1; omega
theorem YJz (f:List YAC):(visN f).length≤f.length:=by
 unfold visN
 exact Nat.le_trans (List.length_filter_le _ _) (by simp)
theorem YIR {f:List YAC} {k:Nat} (hk:k<(visN f).length):idx (shown f 0 f.length) (k:Int)=some (((visN f)[k]! : Nat):Int):=by
 rw [YEh,YAH (by simpa using hk),getElem!_pos ((visN f).map fun (i:Nat)=>(i:Int)) k (by simpa using hk),getElem!_pos _ k hk,List.getElem_map]
theorem YRn {f:List YAC} (h:YFu f=0) : ∃ k,k<(visN f).length∧k+1=(visN f).length∧f[(visN f)[k]!]!.Char=10:=by
 have hne:f≠[]∧f[f.length-1]!.Char=10:=by
  unfold YFu at h
  split at h
  ·rename_i hx; exact absurd h hx
  ·split at h
   ·cases h
   ·rename_i hx
    simp only [not_or,Classical.not_not] at hx
    exact hx
 have hl:0<f.length:=List.length_pos_iff.2 hne.1
 have hsplit:visN f=(List.range (f.length-1)).filter (seen f 0)++[f.length-1]:=by
  unfold visN
  have hr:List.range f.length=List.range (f.length-1)++[f.length-1]:=by
   conv=>lhs; rw [show f.length=(f.length-1)+1 by omega,List.range_succ]
  rw [hr,List.filter_append]
  have:seen f 0 (f.length-1)=true:=by
   unfold seen
   rw [hne.2]
   simp; right; omega
  simp [this]
 refine ⟨((List.range (f.length-1)).filter (seen f 0)).length,by rw [hsplit]; simp,by rw [hsplit]; simp,?_⟩
 have:(visN f)[((List.range (f.length-1)).filter (seen f 0)).length]! = f.length-1:=by
  rw [hsplit,getElem!_pos _ _ (by simp)]
  simp
 rw [this]; exact hne.2
def isW (f:List YAC) (w:Nat→Bool) (k i:Nat):Bool:=decide (∃ j,j<k∧(visN f)[j]! = i∧w j=true)
theorem YQW (f:List YAC) (w:Nat→Bool) (i:Nat):isW f w 0 i=false:=by simp [isW]
theorem YVQ {f:List YAC} {w:Nat→Bool} {k:Nat} (hk:k<(visN f).length):isW f w (k+1) (visN f)[k]! = w k:=by
 unfold isW
 cases hw:w k with
 | true=>exact decide_eq_true ⟨k,by omega,rfl,hw⟩
 | false=>
  refine decide_eq_false ?_
  rintro ⟨j,h1,h2,h3⟩
  have:=YP6 (by omega) hk h2
  subst this
  rw [hw] at h3; cases h3
theorem YVP {f:List YAC} {w:Nat→Bool} {k i:Nat} (hi:i≠(visN f)[k]!):isW f w (k+1) i=isW f w k i:=by
 unfold isW
 rw [Bool.eq_iff_iff,decide_eq_true_eq,decide_eq_true_eq]
 constructor
 ·rintro ⟨j,h1,h2,h3⟩
  refine ⟨j,?_,h2,h3⟩
  by_cases e:j=k
  ·subst e; exact absurd h2.symm hi
  ·omega
 ·rintro ⟨j,h1,h2,h3⟩; exact ⟨j,by omega,h2,h3⟩
theorem YSK {α:Type} (f:List YAC) (w:Nat→Bool) (G:Bool→α) {k:Nat} (hk:k<(visN f).length):((List.range f.length).map fun i=>G (isW f w k i)).set (visN f)[k]! (G (w k))=(List.range f.length).map fun i=>G (isW f w (k+1) i):=by
 have hlt:=YIs hk
 refine List.ext_getElem (by simp) fun i h1 h2=>?_
 rw [List.getElem_set]
 simp only [List.getElem_map,List.getElem_range]
 split
 ·rename_i e; rw [← e,YVQ hk]
 ·rename_i e; rw [YVP (fun h=>e h.symm)]
theorem YUT {α:Type} (f:List YAC) (w:Nat→Bool) (G:Bool→α) {k:Nat} (hk:k<(visN f).length) (hw:w k=false):((List.range f.length).map fun i=>G (isW f w k i))=(List.range f.length).map fun i=>G (isW f w (k+1) i):=by
 refine List.map_congr_left fun i _=>?_
 by_cases e:i=(visN f)[k]!
 ·subst e
  rw [YVQ hk,hw]
  congr 1
  unfold isW
  refine decide_eq_false ?_
  rintro ⟨j,h1,h2,h3⟩
  have:=YP6 (by omega) hk h2
  omega
 ·rw [YVP e]
end Go.Proofs.YtdafahjmopdleaaGreatDoor.Al


namespace Go.Proofs.YtdafahjmopdleaaGreatDoor.Al
end Go.Proofs.YtdafahjmopdleaaGreatDoor.Al


namespace Go.Proofs.YtdafahjmopdleaaGreatDoor.Al
end Go.Proofs.YtdafahjmopdleaaGreatDoor.Al


namespace Go.Proofs.YtdafahjmopdleaaGreatDoor.Al
end Go.Proofs.YtdafahjmopdleaaGreatDoor.Al


namespace Go.Proofs.YtdafahjmopdleaaGreatDoor.Al
theorem mk24 {n:Nat} (h:n≤4294967296) {z:List YAG} : mk 24 (n:Int) z=some (List.replicate n z):=by
 unfold mk
 rw [if_pos (by omega),Int.toNat_natCast]
end Go.Proofs.YtdafahjmopdleaaGreatDoor.Al


namespace Go.Proofs.YtdafahjmopdleaaGreatDoor.Al
end Go.Proofs.YtdafahjmopdleaaGreatDoor.Al


namespace Go.Proofs.YtdafahjmopdleaaGreatDoor.Al
end Go.Proofs.YtdafahjmopdleaaGreatDoor.Al


namespace Go.Proofs.YtdafahjmopdleaaGreatDoor.Al
def BadR (n f t:Int):Prop:=n<0∨2147483647<n∨f<0∨t<f∨n<t
instance (n f t:Int):Decidable (BadR n f t):=by unfold BadR; infer_instance
theorem mk24e {n:Nat} (h:n≤4294967296) {z:List YAC} : mk 24 (n:Int) z=some (List.replicate n z):=by
 unfold mk
 rw [if_pos (by omega),Int.toNat_natCast]
theorem mk1b {n:Nat} (h:n≤4294967296) {z:Bool} : mk 1 (n:Int) z=some (List.replicate n z):=by
 unfold mk
 rw [if_pos (by omega),Int.toNat_natCast]
end Go.Proofs.YtdafahjmopdleaaGreatDoor.Al


namespace Go.Proofs.YtdafahjmopdleaaGreatDoor.Al
abbrev plc (n:YAP):YAD:=YAD.mk n (shown n.Flow 0 n.Flow.length) []
theorem YPr {n:YAP} {k:Nat} (hk:k<(visN n.Flow).length):YA5 (plc n) (k:Int)=some n.Flow[(visN n.Flow)[k]!]!:=by
 unfold YA5
 dsimp only [plc]
 have hl:(shown n.Flow 0 n.Flow.length).length=(visN n.Flow).length:=by rw [YEh,List.length_map]
 rw [if_neg (by simp only [Bool.or_eq_true,decide_eq_true_eq]; omega),YIR hk,YAA,YAH (YIs hk),YAA]
def wF (n:YAP) (s:GSel) (k:Nat):Bool:=(decide (s.From≤(k:Int)) && decide ((k:Int)<s.To)) && !decide (n.Flow[(visN n.Flow)[k]!]!.Char=10)
def wP (n:YAP) (s:GSel) (c:Int) (k:Nat):Bool:=(decide (s.From≤(k:Int)) && decide ((k:Int)≤c)) && decide (n.Flow[(visN n.Flow)[k]!]!.Char=10)
theorem fF_at {n:YAP} (s:GSel) {k:Nat} (hk:k<(visN n.Flow).length):YBp s (plc n) (k:Int)=some (wF n s k):=by
 unfold YBp wF
 rw [YPr hk,YAA]
 cases decide (s.From≤(k:Int)) && decide ((k:Int)<s.To) <;> rfl
theorem fP_at {n:YAP} (s:GSel) (c:Int) {k:Nat} (hk:k<(visN n.Flow).length):YAu s c (plc n) (k:Int)=some (wP n s c k):=by
 unfold YAu wP
 rw [YPr hk,YAA]
 cases decide (s.From≤(k:Int)) && decide ((k:Int)≤c) <;> rfl
def allW (f:List YAC) (w:Nat→Bool):List Bool:=(List.range f.length).map (isW f w (visN f).length)
theorem YPi (f:List YAC) (w:Nat→Bool) (k:Nat):((List.range f.length).map (isW f w k)).length=f.length:=by simp
theorem YSz {F:Int × List Bool→Option ((Int × List Bool) ⊕ List Bool)} (f:List YAC) (w:Nat→Bool)
  (h1 : ∀ k l,k<(visN f).length→l.length=f.length→F ((k:Int),l)=some (.inl (((k+1:Nat):Int),l.set (visN f)[k]! (w k))))
  (h2 : ∀ l,F (((visN f).length:Int),l)=some (.inr l)):iter F (0,List.replicate f.length false)=some (allW f w):=by
 have key : ∀ m k,k+m=(visN f).length→iter F ((k:Int),(List.range f.length).map (isW f w k))=some (allW f w):=by
  intro m
  induction m with
  | zero=>
   intro k hk
   obtain rfl:k=(visN f).length:=by omega
   exact YAi (h2 _)
  | succ m ih=>
   intro k hk
   rw [YBg (h1 k _ (by omega) (YPi ..))]
   have:=YSK f w (fun b=>b) (show k<(visN f).length by omega)
   rw [show (List.range f.length).map (isW f w k)=(List.range f.length).map (fun i=>isW f w k i) from rfl,this]
   exact ih (k+1) (by omega)
 have h0:List.replicate f.length false=(List.range f.length).map (isW f w 0):=by
  refine List.ext_getElem (by simp) fun i _ _=>?_
  simp [YQW]
 rw [h0]
 exact key (visN f).length 0 (by omega)
theorem YSy {F:Int × List YAB→Option ((Int × List YAB) ⊕ List YAB)} (ws:List Bool) (change:List YAG)
  (h1 : ∀ k l,k<ws.length→l.length≤k→F ((k:Int),l)=some (.inl (((k+1:Nat):Int),l++[⟨0,1,if ws[k]! then change else [],[]⟩])))
  (h2 : ∀ l,F ((ws.length:Int),l)=some (.inr l)):iter F (0,[])=some (YFP (ws.map fun b=>if b then change else [])):=by
 have key : ∀ m k l,k+m=ws.length→l.length≤k→iter F ((k:Int),l)=some (l++YFP ((ws.drop k).map fun b=>if b then change else [])):=by
  intro m
  induction m with
  | zero=>
   intro k l hk hl
   obtain rfl:k=ws.length:=by omega
   rw [YAi (h2 _)]
   simp [YFP]
  | succ m ih=>
   intro k l hk hl
   rw [YBg (h1 k _ (by omega) hl),ih (k+1) _ (by omega) (by simp; omega),YGW (show k<ws.length by omega)]
   simp [YFP]
 have:=key ws.length 0 [] (by omega) (by simp)
 simpa using this
def YEN (f:List YAC) (w:Nat→Bool) (k:Nat) (change:List YAG):List (List YAG):=(List.range f.length).map fun i=>if isW f w k i then change else []
theorem YG2 (f:List YAC) (w:Nat→Bool) (k:Nat) (change:List YAG):(YEN f w k change).length=f.length:=by simp [YEN]
theorem YJ5 (f:List YAC) (w:Nat→Bool) (k:Nat) {change:List YAG} (h:YAx change true=0∧okA change∧change.length≤1048576) : ∀ t∈YEN f w k change,YAx t true=0∧okA t∧t.length≤1048576:=by
 intro t ht
 obtain ⟨i,_,rfl⟩:=List.mem_map.1 ht
 split
 ·exact h
 ·exact ⟨by decide,⟨by simp,by intro a ha; simp at ha⟩,by simp⟩
def opOf (id:Int) (w:List YAB):GOp:=GOp.mk 2 id (YAP.mk 0 0 [] [] (YAy.mk 0 0 [] []) []) [] w (YAj.mk [] [] [] [] []) []
theorem rest_F (n:YAP) (s:GSel) (change:List YAG) (hf:n.Flow.length≤1048576) (h:YAx change true=0∧okA change∧change.length≤1048576) :
  YAh (plc n) s change=some [opOf n.ID (YCG (YFi (YEN n.Flow (wF n s) (visN n.Flow).length change)))]:=by
 have hv:=YJz n.Flow
 unfold YAh
 rw [mk1b (show (plc n).node.Flow.length≤4294967296 from by show n.Flow.length≤_; omega),YAA]
 rw [show (plc n).node.Flow.length=n.Flow.length from rfl]
 rw [YSz n.Flow (wF n s) (fun k l hk hl=>?_) (fun l=>?_),YAA,YSy (allW n.Flow (wF n s)) change (fun k l hk hl=>?_) (fun l=>?_),YAA]
 ·have he:((allW n.Flow (wF n s)).map fun b=>if b then change else [])=YEN n.Flow (wF n s) (visN n.Flow).length change:=by simp [allW,YEN]
  rw [he,YL8 _ (YJ5 _ _ _ h) (by rw [YG2]; omega),YAz]
  rfl
 ·have hk':k<n.Flow.length:=by simpa [allW] using hk
  unfold YAa
  dsimp only
  rw [if_pos (decide_eq_true (show (k:Int)<((plc n).node.Flow.length:Int) by show (k:Int)<(n.Flow.length:Int); omega)),YAH hk,YAA]
  cases hb:(allW n.Flow (wF n s))[k]! with
  | true=>rw [if_pos rfl,YAA,YHg (by omega),YAA,YAM (by omega)]; rfl
  | false=>rw [if_neg (by decide),YAA,YHg (by omega),YAA,YAM (by omega)]; rfl
 ·unfold YAa
  dsimp only
  rw [if_neg (by show ¬ decide (((allW n.Flow (wF n s)).length:Int)<(n.Flow.length:Int))=true; simp [allW])]
 ·unfold YAb
  dsimp only
  rw [if_pos (decide_eq_true (show (k:Int)<((plc n).shown.length:Int) by show (k:Int)<((shown n.Flow 0 n.Flow.length).length:Int); rw [YEh]; simp; omega)),YIR hk,YAA,fF_at s hk,YAA,YAH (by rw [hl]; exact YIs hk),YAA,YAM (by omega)]
  rfl
 ·unfold YAb
  dsimp only
  rw [if_neg (by show ¬ decide (((visN n.Flow).length:Int)<((shown n.Flow 0 n.Flow.length).length:Int))=true; rw [YEh]; simp)]
theorem rest_P (n:YAP) (s:GSel) (c:Int) (change:List YAG) (hf:n.Flow.length≤1048576) (h:YAx change true=0∧okA change∧change.length≤1048576) :
  YAW (plc n) s c change=some [opOf n.ID (YCG (YFi (YEN n.Flow (wP n s c) (visN n.Flow).length change)))]:=by
 have hv:=YJz n.Flow
 unfold YAW
 rw [mk1b (show (plc n).node.Flow.length≤4294967296 from by show n.Flow.length≤_; omega),YAA]
 rw [show (plc n).node.Flow.length=n.Flow.length from rfl]
 rw [YSz n.Flow (wP n s c) (fun k l hk hl=>?_) (fun l=>?_),YAA,YSy (allW n.Flow (wP n s c)) change (fun k l hk hl=>?_) (fun l=>?_),YAA]
 ·have he:((allW n.Flow (wP n s c)).map fun b=>if b then change else [])=YEN n.Flow (wP n s c) (visN n.Flow).length change:=by simp [allW,YEN]
  rw [he,YL8 _ (YJ5 _ _ _ h) (by rw [YG2]; omega),YAz]
  rfl
 ·have hk':k<n.Flow.length:=by simpa [allW] using hk
  unfold YAS
  dsimp only
  rw [if_pos (decide_eq_true (show (k:Int)<((plc n).node.Flow.length:Int) by show (k:Int)<(n.Flow.length:Int); omega)),YAH hk,YAA]
  cases hb:(allW n.Flow (wP n s c))[k]! with
  | true=>rw [if_pos rfl,YAA,YHg (by omega),YAA,YAM (by omega)]; rfl
  | false=>rw [if_neg (by decide),YAA,YHg (by omega),YAA,YAM (by omega)]; rfl
 ·unfold YAS
  dsimp only
  rw [if_neg (by show ¬ decide (((allW n.Flow (wP n s c)).length:Int)<(n.Flow.length:Int))=true; simp [allW])]
 ·unfold YAT
  dsimp only
  rw [if_pos (decide_eq_true (show (k:Int)<((plc n).shown.length:Int) by show (k:Int)<((shown n.Flow 0 n.Flow.length).length:Int); rw [YEh]; simp; omega)),YIR hk,YAA,fP_at s c hk,YAA,YAH (by rw [hl]; exact YIs hk),YAA,YAM (by omega)]
  rfl
 ·unfold YAT
  dsimp only
  rw [if_neg (by show ¬ decide (((visN n.Flow).length:Int)<((shown n.Flow 0 n.Flow.length).length:Int))=true; rw [YEh]; simp)]
def YPk (n:YAP) (a:Nat):Nat→Nat
 | 0=>a
 | m+1=>if n.Flow[(visN n.Flow)[a]!]!.Char=10 then a else YPk n (a+1) m
theorem YS2 {F:Int→Option (Int ⊕ Int)} {n:YAP} (h1 : ∀ k:Nat,k<(visN n.Flow).length→F (k:Int)=if n.Flow[(visN n.Flow)[k]!]!.Char=10 then some (.inr (k:Int)) else some (.inl ((k+1:Nat):Int))) {z:Nat} (hz:z<(visN n.Flow).length) (hz10:n.Flow[(visN n.Flow)[z]!]!.Char=10) :
  ∀ m a,a+m=z→iter F (a:Int)=some ((YPk n a m:Nat):Int):=by
 intro m
 induction m with
 | zero=>
  intro a ha
  obtain rfl:a=z:=by omega
  rw [YAi ((h1 a hz).trans (if_pos hz10))]
  rfl
 | succ m ih=>
  intro a ha
  have h:=h1 a (by omega)
  unfold YPk
  by_cases hc:n.Flow[(visN n.Flow)[a]!]!.Char=10
  ·rw [if_pos hc] at h ⊢
   exact YAi h
  ·rw [if_neg hc] at h ⊢
   rw [YBg h,ih (a+1) (by omega)]
theorem YQE (id:Int) (w:List YAB) (hw:w.length≤9223372036854775806) (hs : ∀ s∈w,OkSt s):YCx [opOf id w] [opOf id w]=some true:=by
 have ho:YFG (opOf id w) (opOf id w)=some true:=by
  unfold YFG
  have e1:(decide ((opOf id w).Kind=(opOf id w).Kind) && decide ((opOf id w).Node=(opOf id w).Node))=true:=by simp
  rw [e1]
  have hz:okN (YAP.mk 0 0 [] [] (YAy.mk 0 0 [] []) []):=by
   constructor <;> simp [okA,YLC,okG]
  have hn:YC8 (opOf id w).New (opOf id w).New=some true:=by
   show YC8 (YAP.mk 0 0 [] [] (YAy.mk 0 0 [] []) []) (YAP.mk 0 0 [] [] (YAy.mk 0 0 [] []) [])=_
   rw [YPU _ _ hz]; simp
  have ha:YBK (opOf id w).Attrs (opOf id w).Attrs=some true:=by
   rw [YBz _ _ (by simp [opOf])]; simp
  have hd:YCc (opOf id w).Steps (opOf id w).Steps=some true:=by
   show YCc w w=_
   rw [YJu _ _ hw hs]; simp
  have hg:YEm (opOf id w).Grid (opOf id w).Grid=some true:=by
   have s1:YCb [] []=some true:=by rw [YJt _ _ (by simp)]; simp
   have s2:YB7 [] []=some true:=by
    unfold YB7
    rw [if_neg (by simp),YAi (r:=.nrm ()) (by unfold YBy; rw [if_neg (by simp)])]; rfl
   have s3:YBj [] []=some true:=by
    unfold YBj
    rw [if_neg (by simp),YAi (r:=.nrm ()) (by unfold YBx; rw [if_neg (by simp)])]; rfl
   unfold YEm opOf
   dsimp only
   rw [s1,s2,s3]; rfl
  have hp:YC7 (opOf id w).Draw (opOf id w).Draw=some true:=by
   unfold YC7
   rw [if_neg (by simp),YAi (r:=.nrm ()) (by unfold YCw; rw [if_neg (by simp [opOf])])]; rfl
  rw [hn,ha,hd,hg,hp]; rfl
 unfold YCx
 rw [if_neg (by simp),YBg (s':=(1:Int)) (by
  unfold YCQ
  rw [if_pos (by simp),show (0:Int)=((0:Nat):Int) from rfl,YAH (by simp),YAA,YAA]
  show (bnd1 (YFG (opOf id w) (opOf id w)) _)=_
  rw [ho,YAA,if_neg (by decide),YAM (by omega)]; rfl),YAi (r:=.nrm ()) (by unfold YCQ; rw [if_neg (by simp)])]
 rfl
end Go.Proofs.YtdafahjmopdleaaGreatDoor.Al


namespace Go.Proofs.YtdafahjmopdleaaGreatDoor.Al
theorem YIT (f:List YAC) (w:Nat→Bool) (change:List YAG) {k:Nat} (hk:k<(visN f).length) (hw:w k=true):(YEN f w k change).set (visN f)[k]! change=YEN f w (k+1) change:=by
 have:=YSK f w (fun b=>if b then change else []) hk
 rw [hw] at this
 exact this
theorem YHS (f:List YAC) (w:Nat→Bool) (change:List YAG) {k:Nat} (hk:k<(visN f).length) (hw:w k=false):YEN f w k change=YEN f w (k+1) change:=YUT f w (fun b=>if b then change else []) hk hw
theorem YMK (f:List YAC) (w:Nat→Bool) (change:List YAG):YEN f w 0 change=List.replicate f.length []:=by
 refine List.ext_getElem (by simp [YEN]) fun i _ _=>?_
 simp [YEN,YQW]
theorem L2_eq (n:YAP) (s:GSel) (change:List YAG) (c:Int) (hf:n.Flow.length≤1048576) (A:List (List YAC)) (C:List Bool) :
  iter (fun (a:Int × YAR × YAR)=>YAc s change n (shown n.Flow 0 n.Flow.length) c a.1 a.2.1 a.2.2) (0,(YAR.mk A C (List.replicate n.Flow.length [])),(YAR.mk A C (List.replicate n.Flow.length []))) =
   some (YAR.mk A C (YEN n.Flow (wF n s) (visN n.Flow).length change),YAR.mk A C (YEN n.Flow (wP n s c) (visN n.Flow).length change)):=by
 have hv:=YJz n.Flow
 have hsl:(shown n.Flow 0 n.Flow.length).length=(visN n.Flow).length:=by rw [YEh,List.length_map]
 have:=YDM (f:=fun (a:Int × YAR × YAR)=>YAc s change n (shown n.Flow 0 n.Flow.length) c a.1 a.2.1 a.2.2) (visN n.Flow).length
  (fun k st=>st=((k:Int),YAR.mk A C (YEN n.Flow (wF n s) k change),YAR.mk A C (YEN n.Flow (wP n s c) k change)))
  (fun b=>b=(YAR.mk A C (YEN n.Flow (wF n s) (visN n.Flow).length change),YAR.mk A C (YEN n.Flow (wP n s c) (visN n.Flow).length change)))
  (s:=(0,(YAR.mk A C (List.replicate n.Flow.length [])),(YAR.mk A C (List.replicate n.Flow.length []))))
  (fun k st hk hst=>?_) (fun st hst=>?_) (by rw [YMK,YMK]; rfl)
 ·obtain ⟨b,h1,h2⟩:=this
  rw [h1,h2]
 ·subst hst
  left
  refine ⟨_,?_,rfl⟩
  unfold YAc
  dsimp only
  have hx:=YIs hk
  have ei : ∀ w,idx (YEN n.Flow w k change) ((visN n.Flow)[k]! : Int)=some (YEN n.Flow w k change)[(visN n.Flow)[k]!]!:=fun w=>YAH (by rw [YG2]; exact hx)
  rw [if_pos (decide_eq_true (show (k:Int)<((shown n.Flow 0 n.Flow.length).length:Int) by omega)),YIR hk,YAA,YAH hx,YAA,ei,ei]
  have c1:((!decide (n.Flow[(visN n.Flow)[k]!]!.Char=10) && decide (s.From≤(k:Int))) && decide ((k:Int)<s.To))=wF n s k:=by
   unfold wF
   cases decide (n.Flow[(visN n.Flow)[k]!]!.Char=10) <;> cases decide (s.From≤(k:Int)) <;> cases decide ((k:Int)<s.To) <;> rfl
  have c2:((decide (n.Flow[(visN n.Flow)[k]!]!.Char=10) && decide (s.From≤(k:Int))) && decide ((k:Int)≤c))=wP n s c k:=by
   unfold wP
   cases decide (n.Flow[(visN n.Flow)[k]!]!.Char=10) <;> cases decide (s.From≤(k:Int)) <;> cases decide ((k:Int)≤c) <;> rfl
  rw [c1,c2]
  have n1:((visN n.Flow)[k]! : Int).toNat=(visN n.Flow)[k]!:=rfl
  rw [n1]
  cases h1:wF n s k <;> cases h2:wP n s c k
  ·rw [if_neg (by decide),YAA,if_neg (by decide),YAz,YAM (by omega),YAA,← YHS _ _ _ hk h1,← YHS _ _ _ hk h2]
  ·rw [if_neg (by decide),YAA,if_pos rfl,YAA,YAz,YAM (by omega),YAA,← YHS _ _ _ hk h1,← YIT _ _ _ hk h2]
  ·rw [if_pos rfl,YAA,YAA,if_neg (by decide),YAz,YAM (by omega),YAA,← YIT _ _ _ hk h1,← YHS _ _ _ hk h2]
  ·rw [if_pos rfl,YAA,YAA,if_pos rfl,YAA,YAz,YAM (by omega),YAA,← YIT _ _ _ hk h1,← YIT _ _ _ hk h2]
 ·subst hst
  refine ⟨_,?_,rfl⟩
  unfold YAc
  dsimp only
  rw [if_neg (by simp only [decide_eq_true_eq]; omega)]
theorem YOk {ts:List (List YAG)} (h : ∀ t∈ts,YAx t true=0∧okA t∧t.length≤1048576) (hl:ts.length≤1048576):(YCG (YFi ts)).length≤9223372036854775806 ∧ ∀ s∈YCG (YFi ts),OkSt s:=by
 have hU:=YNB fun t ht=>⟨(h t ht).1,(h t ht).2.1⟩
 have hc:=cntAR (YFi ts)
 have hn:=YTZ (YFi ts)
 have hul:=YLG ts
 have lc:=(YRc (YMc hU)).2.2.2.2.1
 have hk:=YTV hU (by omega) (by omega)
 rw [YLO]
 exact ⟨by omega,hk.st⟩
theorem YF9 (d:GDoc) (s:GSel) (change:List YAG) (h:YOJ d) (hc:okA change) (hcl:change.length≤1048576):YBP d s change=some true:=by
 have hcc:=YDj change hc.2 (by omega)
 have hcr:=YDL change true hc.2 (by omega)
 unfold YBP YE8
 rw [YAA,if_neg (by decide)]
 rcases YU1 d s [] h (by simp) with ⟨e,he,h1,h2⟩ | ⟨k,hk,hf,hid,hn,-,hfe,f0,f1,f2,-,h2,h1⟩
 ·have e1:YA9 d s change=some ([],e):=by unfold YA9; rw [h1,YAz,if_pos (ndT he)]
  have e2:YAZ d s change=some ([],e):=by unfold YAZ; rw [h1,YAz,if_pos (ndT he)]
  rw [e1,e2,YAz,YAz,h2,YAA,if_neg (by simpa using he),YAA,if_pos (ndT he),decide_eq_true rfl]
  rfl
 ·rw [if_neg (by simp)] at h1
  by_cases hce:YAx change true=0
  ·have hfl:=hn.ok.fl
   have hall:YAx change true=0∧okA change∧change.length≤1048576:=⟨hce,hc,hcl⟩
   generalize hN:d.Nodes[k]! = n at hid hn hfe f2 hfl
   have hsl:(shown n.Flow 0 n.Flow.length).length=(visN n.Flow).length:=by rw [YEh,List.length_map]
   have hv:=YJz n.Flow
   obtain ⟨z,hz,hz1,hz10⟩:=YRn hfe
   obtain ⟨a,ha⟩ : ∃ a:Nat,max s.From (s.To-1)=(a:Int):=⟨(max s.From (s.To-1)).toNat,by omega⟩
   have haz:a≤z:=by omega
   have hchk:chk .i64 (s.To-1)=some (s.To-1):=YTd (by omega) (by omega)
   have hl1:iter (fun (a:Int)=>YAv (plc n) a) (a:Int)=some ((YPk n a (z-a):Nat):Int):=YS2 (fun k hk=>by
    unfold YAv
    rw [YPr hk,YAA]
    by_cases h10:n.Flow[(visN n.Flow)[k]!]!.Char=10
    ·rw [if_neg (by simpa using h10),if_pos h10]
    ·rw [if_pos (by simpa using h10),if_neg h10,YAM (by omega)]; rfl) hz hz10 (z-a) a (by omega)
   have hl2:iter (fun (a:Int)=>YAw n (shown n.Flow 0 n.Flow.length) a) (a:Int)=some ((YPk n a (z-a):Nat):Int):=YS2 (fun k hk=>by
    unfold YAw
    rw [YIR hk,YAA,YAH (YIs hk),YAA]
    by_cases h10:n.Flow[(visN n.Flow)[k]!]!.Char=10
    ·rw [if_neg (by simpa using h10),if_pos h10]
    ·rw [if_pos (by simpa using h10),if_neg h10,YAM (by omega)]; rfl) hz hz10 (z-a) a (by omega)
   have hfd:YFn d s.Node=some (k:Int):=by rw [YH1 d s.Node h.1,hf]
   have hp:YEC n.Flow=0:=by
    unfold YFu at hfe
    split at hfe
    ·rename_i hx; exact absurd hfe hx
    ·rename_i hx; simpa using hx
   have hE : ∀ x∈n.Flow,okE x:=fun x hx=>⟨by have:=(hn.ok.fa x hx).1; omega,(hn.ok.fa x hx).2⟩
   have hsh:YFT n.Flow 0=some (shown n.Flow 0 n.Flow.length):=YJX _ 0 hE hp hfl
   have hplus:chk .i64 ((n.Flow.length:Int)+1)=some ((n.Flow.length+1:Nat):Int):=YAM (by omega)
   rw [hN] at h1
   have e1:=rest_F n s change hfl hall
   have e2:=rest_P n s ((YPk n a (z-a):Nat):Int) change hfl hall
   have e3:YA9 d s change=some ([opOf n.ID (YCG (YFi (YEN n.Flow (wF n s) (visN n.Flow).length change)))],0):=by
    unfold YA9
    rw [h1,YAz,if_neg (by decide),hcc,hce,YAA,if_neg (by decide),e1,YAA]
   have e4:YAZ d s change=some ([opOf n.ID (YCG (YFi (YEN n.Flow (wP n s ((YPk n a (z-a):Nat):Int)) (visN n.Flow).length change)))],0):=by
    unfold YAZ
    rw [h1,YAz,if_neg (by decide),hcc,hce,YAA,if_neg (by decide),hchk,YAA,ha]
    rw [hl1,YAA,e2,YAA]
   rw [e3,e4,YAz,YAz,h2,YAA,if_pos (by decide),hcr,hce,YAA,YAA,if_neg (by decide),hfd,YAA,YAH hk,hN,YAA,hsh,YAA,hchk,YAA,ha,hl2,YAA,hplus,YAA,mk24e (by omega),YAA,mk1b (by omega),YAA,mk24 (by omega),YAA,L2_eq n s change _ hfl,YAz]
   generalize hA:YEN n.Flow (wF n s) (visN n.Flow).length change=tA
   generalize hB:YEN n.Flow (wP n s _) (visN n.Flow).length change=tB
   have oA:(∀ t∈tA,YAx t true=0∧okA t∧t.length≤1048576)∧tA.length=n.Flow.length:=by subst hA; exact ⟨YJ5 _ _ _ hall,YG2 ..⟩
   have oB:(∀ t∈tB,YAx t true=0∧okA t∧t.length≤1048576)∧tB.length=n.Flow.length:=by subst hB; exact ⟨YJ5 _ _ _ hall,YG2 ..⟩
   have dA:=YOR tA oA.1 (by omega)
   have dB:=YOR tB oB.1 (by omega)
   unfold YRN at dA dB
   rw [oA.2] at dA
   rw [oB.2] at dB
   obtain ⟨a1,a2⟩:=YOk oA.1 (by omega)
   obtain ⟨b1,b2⟩:=YOk oB.1 (by omega)
   have sA:=YQE s.Node _ a1 a2
   have sB:=YQE s.Node _ b1 b2
   rw [dA,YAA,dB,YAA,hid]
   unfold opOf at sA sB ⊢
   rw [sA,sB]
   rfl
  ·have e1:YA9 d s change=some ([],YAx change true):=by unfold YA9; rw [h1,YAz,if_neg (by decide),hcc,YAA,if_pos (ndT hce)]
   have e2:YAZ d s change=some ([],YAx change true):=by unfold YAZ; rw [h1,YAz,if_neg (by decide),hcc,YAA,if_pos (ndT hce)]
   rw [e1,e2,YAz,YAz,h2,YAA,if_pos (by decide),hcr,YAA,YAA,if_pos (ndT hce),decide_eq_true rfl]
   rfl
end Go.Proofs.YtdafahjmopdleaaGreatDoor.Al

