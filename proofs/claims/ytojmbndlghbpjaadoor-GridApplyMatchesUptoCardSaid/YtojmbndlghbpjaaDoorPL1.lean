/- Plain laws over the models, a part of them. -/
import Derived.Test.YtojmbndlghbpjaaDoorMod1
import Derived.Lib.DecodeNEq
import Derived.Lib.TrimUEq
import Derived.Lib.ValidLaws
set_option linter.all false
namespace Go.Proofs.YtojmbndlghbpjaaDoor.Al
@[simp] theorem AD {a α:Type} (x:a) (f:a→Option α):AB (some x) f=f x:=rfl
@[simp] theorem BK {a b α:Type} (x:a) (y:b) (f:a→b→Option α):Aw (some (x,y)) f=f x y:=rfl
@[simp] theorem GV {a b c α:Type} (x:a) (y:b) (z:c) (f:a→b→c→Option α):Gk (some (x,y,z)) f=f x y z:=rfl
@[simp] theorem W2 {a b c d α:Type} (x:a) (y:b) (z:c) (u:d) (f:a→b→c→d→Option α):LV (some (x,y,z,u)) f=f x y z u:=rfl
@[simp] theorem Cd {a α:Type} (x:a) (f:a→Option α):Ar (some (.nrm x)) f=f x:=rfl
@[simp] theorem FU {a α:Type} (t:α) (f:a→Option α):Ar (some (.ext t)) f=some t:=rfl
@[simp] theorem W1 {a b α:Type} (x:a) (y:b) (f:a→b→Option α):EZ (some (.nrm (x,y))) f=f x y:=rfl
@[simp] theorem W3 {a b α:Type} (t:α) (f:a→b→Option α):EZ (some (.ext t)) f=some t:=rfl
@[simp] theorem W7 {a b c α:Type} (x:a) (y:b) (z:c) (f:a→b→c→Option α):ON (some (.nrm (x,y,z))) f=f x y z:=rfl
@[simp] theorem W8 {a b c α:Type} (t:α) (f:a→b→c→Option α):ON (some (.ext t)) f=some t:=rfl
@[simp] theorem Ak {α:Type} [Inhabited α] (m:Option α):gd true m=m:=rfl
@[simp] theorem Ez {α:Type} [Inhabited α] (m:Option α):gd false m=some default:=rfl
theorem Ac {α:Type} [Inhabited α] {l:List α} {k:Nat} (h:k<l.length):AO l (k:Int)=some l[k]!:=by
 unfold AO
 rw [if_pos (Int.natCast_nonneg k),Int.toNat_natCast,List.getElem?_eq_getElem h,getElem!_pos l k h]
theorem Np {α:Type} {l:List α} {k:Nat} (h:k<l.length):AO l (k:Int)=some l[k]:=by
 unfold AO
 rw [if_pos (Int.natCast_nonneg k),Int.toNat_natCast,List.getElem?_eq_getElem h]
theorem Am {k:Nat} (h:k<9223372036854775807):AL .i64 ((k:Int)+1)=some (((k+1:Nat)):Int):=by
 rw [Bk (by omega) (by omega)]; rfl
theorem En {k:Nat} (h:0<k) (h2:k≤9223372036854775807):AL .i64 ((k:Int)-1)=some ((k-1:Nat):Int):=by
 rw [Bk (by omega) (by omega)]; congr 1; omega
def CO {ρ:Type} (k:Nat):Option ρ→Option (Int ⊕ Af Unit ρ)
 | none=>some (.inl ((k+1:Nat):Int))
 | some r=>some (.inr (.ext r))
def D7 {ρ:Type} : Option ρ→Af Unit ρ
 | none=>.nrm ()
 | some r=>.ext r
theorem CW {ρ:Type} {f:Int→Option (Int ⊕ Af Unit ρ)} {n:Nat} (g:Nat→Option ρ) (h1 : ∀ k:Nat,k<n→f k=CO k (g k))
  (h2:f n=some (.inr (.nrm ()))):iter f 0=some (D7 ((List.range n).findSome? g)):=by
 have key : ∀ m k:Nat,k+m=n→iter f (k:Int)=some (D7 ((List.range' k m).findSome? g)):=by
  intro m
  induction m with
  | zero=>
   intro k hk
   obtain rfl:k=n:=by omega
   rw [BG h2]; rfl
  | succ m ih=>
   intro k hk
   rw [List.range'_succ,List.findSome?_cons]
   have:=h1 k (by omega)
   cases hg:g k with
   | none=>rw [hg] at this; rw [CN this,ih (k+1) (by omega)]
   | some r=>rw [hg] at this; rw [BG this]; rfl
 rw [List.range_eq_range']
 exact key n 0 (by omega)
theorem R7 {α ρ:Type} {l:List α} {g h:α→Option ρ} (e : ∀ x∈l,g x=h x):l.findSome? g=l.findSome? h:=by
 induction l with
 | nil=>rfl
 | cons a l ih=>rw [List.findSome?_cons,List.findSome?_cons,e a (List.mem_cons_self ..),ih fun x hx=>e x (List.mem_cons_of_mem _ hx)]
theorem Mi {α ρ:Type} [Inhabited α] (l:List α) (p:α→Bool) (r:ρ):(List.range l.length).findSome? (fun k=>if p l[k]! then none else some r)=if l.all p then none else some r:=by
 induction l with
 | nil=>rfl
 | cons a l ih=>
  rw [List.length_cons,List.range_succ_eq_map,List.findSome?_cons,List.findSome?_map]
  have hr:(List.range l.length).findSome? ((fun k=>if p (a :: l)[k]! = true then none else some r) ∘ Nat.succ)=if l.all p=true then none else some r:=by
   rw [← ih]; exact R7 fun k _=>by simp
  rw [hr]
  by_cases hp:p a=true
  ·simp [hp]
  ·simp [hp]
theorem Dq {ρ:Type} (o:Option ρ) (f:Unit→Option ρ):Ar (some (D7 o)) f=match o with | none=>f () | some r=>some r:=by cases o <;> rfl
def EA (c:UInt8):Bool:=(decide (97≤c.toNat) && decide (c.toNat≤122)) || (decide (48≤c.toNat) && decide (c.toNat≤57)) || decide (c.toNat=46) || decide (c.toNat=45)
def Gd (s:List UInt8):Bool:=decide (1≤s.length) && decide (s.length≤24) && (decide (97≤s[0]!.toNat) && decide (s[0]!.toNat≤122)) && s.all EA
def ES (c:UInt8):Bool:=decide (32≤c.toNat) && decide (c.toNat≤126)
def Gg (s:List UInt8):Bool:=decide (1≤s.length) && decide (s.length≤200) && s.all ES
theorem Qd (s:List UInt8) (k:Nat) (hk:k<s.length) (hm:s.length≤9223372036854775807):HY s k=CO k (if EA s[k]! then none else some false):=by
 unfold HY
 rw [if_pos (by simpa using hk),Ac hk,AD,Am (by omega)]
 generalize s[k]! = c
 have e:(((((decide ((c.toNat:Int)<97)) || (decide (122<(c.toNat:Int)))) && ((decide ((c.toNat:Int)<48)) || (decide (57<(c.toNat:Int))))) && (!decide ((c.toNat:Int)=46))) && (!decide ((c.toNat:Int)=45))) = !EA c:=by
  unfold EA
  rw [Bool.eq_iff_iff]
  simp only [Bool.or_eq_true,Bool.and_eq_true,decide_eq_true_eq,Bool.not_eq_true',decide_eq_false_iff_not,Bool.or_eq_false_iff,Bool.and_eq_false_imp]
  omega
 rw [e]
 cases EA c <;> rfl
theorem Tc (s:List UInt8) (hm:s.length≤9223372036854775807):IV s=some (Gd s):=by
 unfold IV
 rw [CW (n:=s.length) (fun k=>if EA s[k]! then none else some false) (fun k hk=>Qd s k hk hm) (by unfold HY; rw [if_neg (by simp)]),Mi]
 unfold Gd
 cases s with
 | nil=>simp
 | cons c t=>
  have h0:AO (c :: t) 0=some c:=rfl
  rw [h0]
  simp only [List.getElem!_cons_zero,decide_eq_false (List.cons_ne_nil c t),Bool.false_or]
  generalize (c :: t).all EA=al
  generalize hl:(c :: t).length=L
  have hL:1≤L:=by rw [← hl]; simp
  by_cases h1:24<(L:Int)
  ·have e1:decide (L≤24)=false:=by simp; omega
   simp [h1,e1]
  ·rw [decide_eq_false h1]
   simp only [Bool.false_or,beq_self_eq_true,Ak,AD]
   have e1:decide (L≤24)=true:=by simp; omega
   have e2:decide (1≤L)=true:=by simp; omega
   rw [e1,e2]
   by_cases h2:(c.toNat:Int)<97
   ·have e3:decide (97≤c.toNat)=false:=by simp; omega
    simp [h2,e3]
   ·rw [decide_eq_false h2]
    have e3:decide (97≤c.toNat)=true:=by simp; omega
    simp only [beq_self_eq_true,Ak,AD,Bool.false_or]
    by_cases h3:122<(c.toNat:Int)
    ·have e4:decide (c.toNat≤122)=false:=by simp; omega
     simp [h3,e4]
    ·have e4:decide (c.toNat≤122)=true:=by simp; omega
     rw [if_neg (by simpa using h3),Dq,e3,e4]
     cases al <;> rfl
def Er (k:Nat) (c:UInt8):Bool:=(decide (97≤c.toNat) && decide (c.toNat≤122)) || (decide (k≠0) && EA c)
theorem RL (s:List UInt8) (k:Nat) (hk:k<s.length) (hm:s.length≤9223372036854775807) :
  Hc s k=CO k (if Er k s[k]! then none else some false):=by
 unfold Hc
 rw [if_pos (by simpa using hk),Ac hk,AD,Am (by omega)]
 generalize s[k]! = c
 have e:((!((decide (97≤(c.toNat:Int))) && (decide ((c.toNat:Int)≤122)))) && ((decide ((k:Int)=0)) || (((!decide ((c.toNat:Int)=46)) && (!decide ((c.toNat:Int)=45))) && ((decide ((c.toNat:Int)<48)) || (decide (57<(c.toNat:Int))))))) = !Er k c:=by
  unfold Er EA
  rw [Bool.eq_iff_iff]
  simp only [Bool.or_eq_true,Bool.and_eq_true,decide_eq_true_eq,Bool.not_eq_true',decide_eq_false_iff_not,Bool.or_eq_false_iff,Bool.and_eq_false_imp]
  omega
 rw [e]
 cases Er k c <;> rfl
theorem WI {α:Type} [Inhabited α] (l:List α) (p:α→Bool):l.all p=true ↔ ∀ k,k<l.length→p l[k]! = true:=by
 rw [List.all_eq_true]
 constructor
 ·intro h k hk; rw [getElem!_pos l k hk]; exact h _ (List.getElem_mem hk)
 ·intro h x hx
  obtain ⟨k,hk,rfl⟩:=List.mem_iff_getElem.1 hx
  rw [← getElem!_pos l k hk]; exact h k hk
theorem LX {ρ:Type} (n:Nat) (p:Nat→Bool) (r:ρ):(List.range n).findSome? (fun k=>if p k then none else some r)=if (List.range n).all p then none else some r:=by
 generalize List.range n=l
 induction l with
 | nil=>rfl
 | cons a l ih=>rw [List.findSome?_cons,List.all_cons,]; by_cases h:p a=true <;> simp [h,ih]
theorem RI (s:List UInt8) (hm:s.length≤9223372036854775807):Jx s=some (Gd s):=by
 unfold Jx
 rw [CW (n:=s.length) (fun k=>if Er k s[k]! then none else some false) (fun k hk=>RL s k hk hm) (by unfold Hc; rw [if_neg (by simp)]),LX,Dq]
 have key:((List.range s.length).all fun k=>Er k s[k]!)=(decide (s=[]) || ((decide (97≤s[0]!.toNat) && decide (s[0]!.toNat≤122)) && s.all EA)):=by
  rw [Bool.eq_iff_iff,List.all_eq_true]
  simp only [List.mem_range,Bool.or_eq_true,decide_eq_true_eq,Bool.and_eq_true,WI]
  constructor
  ·intro h
   cases hs:s with
   | nil=>exact .inl rfl
   | cons c t=>
    rw [← hs]
    have hl:0<s.length:=by rw [hs]; simp
    have h0:=h 0 hl
    simp only [Er,Bool.or_eq_true,Bool.and_eq_true,decide_eq_true_eq] at h0
    refine .inr ⟨by omega,fun k hk=>?_⟩
    have:=h k hk
    simp only [Er,EA,Bool.or_eq_true,Bool.and_eq_true,decide_eq_true_eq] at this ⊢
    omega
  ·rintro (rfl | ⟨h1,h2⟩) k hk
   ·cases hk
   ·have:=h2 k hk
    by_cases hk0:k=0
    ·subst hk0; simp only [Er,Bool.or_eq_true,Bool.and_eq_true,decide_eq_true_eq]; omega
    ·simp only [Er,Bool.or_eq_true,Bool.and_eq_true,decide_eq_true_eq]; exact .inr ⟨hk0,this⟩
 rw [key]
 unfold Gd
 cases s with
 | nil=>rfl
 | cons c t=>
  rw [decide_eq_false (List.cons_ne_nil c t),Bool.false_or]
  generalize (c :: t).all EA=al
  generalize (decide (97≤(c :: t)[0]!.toNat) && decide ((c :: t)[0]!.toNat≤122))=fc
  have e1:decide (1≤((c :: t).length:Int))=decide (1≤(c :: t).length):=by simp; omega
  have e2:decide (((c :: t).length:Int)≤24)=decide ((c :: t).length≤24):=by simp; omega
  rw [e1,e2]
  cases fc <;> cases al <;> simp
theorem Qr (s:List UInt8) (hm:s.length≤9223372036854775807):I0 s=some (Gg s):=by
 unfold I0 Gg
 rw [CW (n:=s.length) (fun k=>if ES s[k]! then none else some false) (fun k hk=>by
  unfold Jt
  rw [if_pos (by simpa using hk),Ac hk,AD,Am (by omega)]
  generalize s[k]! = c
  have e:((decide ((c.toNat:Int)<32)) || (decide (126<(c.toNat:Int)))) = !ES c:=by
   unfold ES
   rw [Bool.eq_iff_iff]
   simp only [Bool.or_eq_true,Bool.and_eq_true,decide_eq_true_eq,Bool.not_eq_true',decide_eq_false_iff_not,Bool.and_eq_false_imp]
   omega
  rw [e]
  cases ES c <;> rfl) (by unfold Jt; rw [if_neg (by simp)]),Mi,Dq]
 generalize s.all ES=al
 cases s with
 | nil=>simp
 | cons c t=>
  rw [decide_eq_false (List.cons_ne_nil c t),Bool.false_or]
  generalize hl:(c :: t).length=L
  have hL:1≤L:=by rw [← hl]; simp
  by_cases h1:200<(L:Int)
  ·have e1:decide (L≤200)=false:=by simp; omega
   simp [h1,e1]
  ·have e1:decide (L≤200)=true:=by simp; omega
   have e2:decide (1≤L)=true:=by simp; omega
   rw [if_neg (by simpa using h1),e1,e2]
   cases al <;> rfl
theorem Qh (s:List UInt8) (hm:s.length≤9223372036854775807):IS s=some (Gg s):=by
 unfold IS Gg
 rw [CW (n:=s.length) (fun k=>if ES s[k]! then none else some false) (fun k hk=>by
  unfold JK
  rw [if_pos (by simpa using hk),Ac hk,AD,Am (by omega)]
  generalize s[k]! = c
  have e:((decide ((c.toNat:Int)<32)) || (decide (126<(c.toNat:Int)))) = !ES c:=by
   unfold ES
   rw [Bool.eq_iff_iff]
   simp only [Bool.or_eq_true,Bool.and_eq_true,decide_eq_true_eq,Bool.not_eq_true',decide_eq_false_iff_not,Bool.and_eq_false_imp]
   omega
  rw [e]
  cases ES c <;> rfl) (by unfold JK; rw [if_neg (by simp)]),Mi,Dq]
 generalize s.all ES=al
 have e1:decide (1≤(s.length:Int))=decide (1≤s.length):=by simp; omega
 have e2:decide ((s.length:Int)≤200)=decide (s.length≤200):=by simp; omega
 rw [e1,e2]
 cases al <;> simp
theorem QM (a b:UInt8) (x y:List UInt8):CV (a :: x) (b :: y)=(decide (a<b) || (a == b && CV x y)):=rfl
theorem Na : ∀ (a b:List UInt8),(CV a b || decide (a=b)) = !CV b a
 | [],[]=>rfl
 | [],_ :: _=>rfl
 | _ :: _,[]=>rfl
 | a :: x,b :: y=>by
  rw [QM,QM]
  have ih:=Na x y
  by_cases h:a=b
  ·subst h
   have h1 : ¬ a<a:=fun h=>by simp [UInt8.lt_iff_toNat_lt] at h
   simp only [decide_eq_false h1,beq_self_eq_true,Bool.true_and,Bool.false_or,List.cons.injEq,true_and]
   exact ih
  ·have h2:(a == b)=false:=by simpa using h
   have h3:(b == a)=false:=by simpa using fun e:b=a=>h e.symm
   have h4 : ¬ (a :: x=b :: y):=fun e=>h (List.cons.inj e).1
   rw [h2,h3,decide_eq_false h4]
   simp only [Bool.false_and,Bool.or_false]
   have h5:a.toNat≠b.toNat:=fun e=>h (UInt8.toNat_inj.1 e)
   by_cases hlt:a<b
   ·have : ¬ b<a:=by rw [UInt8.lt_iff_toNat_lt] at hlt ⊢; omega
    simp [hlt,this]
   ·have:b<a:=by rw [UInt8.lt_iff_toNat_lt] at hlt ⊢; omega
    simp [hlt,this]
def GD (l:List Ah):Prop:=∀ a∈l,a.Name.length≤9223372036854775807∧a.Value.length≤9223372036854775807
def GU (l:List Ah) (ch:Bool) (k:Nat):Option Int:=
 if Gd l[k]!.Name=false then some 9 else if Gg l[k]!.Value=false ∧ ¬ (ch=true∧l[k]!.Value=[]) then some 23 else if 0<k∧CV l[k-1]!.Name l[k]!.Name=false then some 5 else none
def HC (l:List Ah) (ch:Bool):Int:=((List.range l.length).findSome? (GU l ch)).getD 0
theorem GD.at {l:List Ah} (h:GD l) {k:Nat} (hk:k<l.length):l[k]!.Name.length≤9223372036854775807∧l[k]!.Value.length≤9223372036854775807:=by
 rw [getElem!_pos l k hk]; exact h _ (List.getElem_mem hk)
theorem Qq (l:List Ah) (ch:Bool) (h:GD l) (hm:l.length≤9223372036854775807) (k:Nat) (hk:k<l.length):Hq l ch k=CO k (GU l ch k):=by
 unfold Hq GU
 obtain ⟨hn1,hn2⟩:=h.at hk
 rw [if_pos (by simpa using hk),Ac hk,AD]
 generalize l[k]! = x at hn1 hn2 ⊢
 rw [Tc _ hn1,AD]
 cases Gd x.Name
 ·rfl
 rw [if_neg (by decide),if_neg (by decide),Qr _ hn2,AD,Am (by omega)]
 by_cases hv:Gg x.Value=false ∧ ¬ (ch=true∧x.Value=[])
 ·rw [if_pos hv,if_pos (by simp [hv.1]; cases ch <;> simp_all)]; rfl
 rw [if_neg hv,if_neg (by intro e; simp at e; exact hv ⟨e.1,by rintro ⟨a,b⟩; simp [a,b] at e⟩)]
 by_cases hk0:k=0
 ·subst hk0; rfl
 ·have h0:decide ((0:Int)<(k:Int))=true:=by simp; omega
  rw [h0,En (by omega) (by omega)]
  simp only [beq_self_eq_true,Ak,AD,Bool.true_and]
  rw [Ac (by omega),AD,Na]
  have:(0<k∧CV l[k-1]!.Name x.Name=false)↔CV l[k-1]!.Name x.Name=false:=by constructor; exact fun h=>h.2; exact fun h=>⟨by omega,h⟩
  simp only [this]
  cases CV l[k-1]!.Name x.Name <;> rfl
theorem SS (l:List Ah) (ch:Bool) (h:GD l) (hm:l.length≤9223372036854775807) (k:Nat) (hk:k<l.length):Ha l ch k=CO k (GU l ch k):=by
 unfold Ha GU
 obtain ⟨hn1,hn2⟩:=h.at hk
 rw [if_pos (by simpa using hk),Ac hk,AD]
 generalize l[k]! = x at hn1 hn2 ⊢
 rw [RI _ hn1,AD]
 cases Gd x.Name
 ·rfl
 rw [if_neg (by decide),if_neg (by decide),Qh _ hn2,AD,Am (by omega)]
 by_cases hv:Gg x.Value=false ∧ ¬ (ch=true∧x.Value=[])
 ·rw [if_pos hv,if_pos (by simp [hv.1]; cases ch <;> simp_all)]; rfl
 rw [if_neg hv,if_neg (by intro e; simp at e; exact hv ⟨e.1,by rintro ⟨a,b⟩; simp [a,b] at e⟩)]
 by_cases hk0:k=0
 ·subst hk0; rfl
 ·have h0:decide ((0:Int)<(k:Int))=true:=by simp; omega
  rw [h0,En (by omega) (by omega)]
  simp only [beq_self_eq_true,Ak,AD,Bool.true_and]
  rw [Ac (by omega),AD]
  have:(0<k∧CV l[k-1]!.Name x.Name=false)↔CV l[k-1]!.Name x.Name=false:=by constructor; exact fun h=>h.2; exact fun h=>⟨by omega,h⟩
  simp only [this]
  cases CV l[k-1]!.Name x.Name <;> rfl
theorem IF {o:Option Int} : (Ar (some (D7 o)) fun _:Unit=>some 0)=some (o.getD 0):=by cases o <;> rfl
theorem Qu (l:List Ah) (ch:Bool) (h:GD l) (hm:l.length≤9223372036854775807):Jc l ch=some (HC l ch):=by
 unfold Jc
 rw [CW (n:=l.length) (GU l ch) (fun k hk=>Qq l ch h hm k hk) (by unfold Hq; rw [if_neg (by simp)]),IF]; rfl
theorem Se (l:List Ah) (ch:Bool) (h:GD l) (hm:l.length≤9223372036854775807):JJ l ch=some (HC l ch):=by
 unfold JJ
 rw [CW (n:=l.length) (GU l ch) (fun k hk=>SS l ch h hm k hk) (by unfold Ha; rw [if_neg (by simp)]),IF]; rfl
theorem Rn (l:List Ah) (h:GD l) (hm:l.length≤9223372036854775807):Ia l=some (HC l false):=by unfold Ia; rw [Qu l _ h hm]; rfl
def Lr (l:List Ah) (name:List UInt8):List UInt8:=((List.range l.length).findSome? fun k=>if l[k]!.Name=name then some l[k]!.Value else none).getD []
theorem Nh (x y:Ah):x=y↔x.Name=y.Name∧x.Value=y.Value:=by cases x; cases y; simp
theorem Vb (a b:List Ah) (hm:a.length≤9223372036854775807):L4 a b=some (decide (a=b)):=by
 unfold L4
 by_cases hl:a.length=b.length
 ·rw [if_neg (by simp [hl]),CW (n:=a.length) (fun k=>if decide (a[k]! = b[k]!) then none else some false) (fun k hk=>by
   unfold M0
   rw [if_pos (by simpa using hk),Ac hk,Ac (by omega),AD,AD,Am (by omega)]
   generalize a[k]! = x
   generalize b[k]! = y
   by_cases h:x=y
   ·subst h; simp [CO]
   ·have h':=h; rw [Nh] at h'
    simp only [decide_eq_false h,Bool.and_true]
    by_cases h1:x.Name=y.Name
    ·have h2 : ¬ x.Value=y.Value:=fun e=>h' ⟨h1,e⟩
     simp [h1,h2,CO]
    ·simp [h1,CO]) (by unfold M0; rw [if_neg (by simp)]),LX,Dq]
  by_cases h:a=b
  ·subst h; simp
  ·rw [decide_eq_false h]
   have:((List.range a.length).all fun k=>decide (a[k]! = b[k]!))=false:=by
    rw [← Bool.not_eq_true,List.all_eq_true]
    intro hall
    apply h
    apply List.ext_getElem hl
    intro k h1 h2
    have:=hall k (List.mem_range.2 h1)
    simp only [decide_eq_true_eq] at this
    rwa [getElem!_pos a k h1,getElem!_pos b k h2] at this
   rw [this]; rfl
 ·rw [if_pos (by simp; omega),decide_eq_false (by rintro rfl; exact hl rfl)]
theorem RR (a b:List Ah) (hm:a.length≤9223372036854775807):Iz a b=some (decide (a=b)):=by
 unfold Iz
 by_cases hl:a.length=b.length
 ·rw [if_neg (by simp [hl]),CW (n:=a.length) (fun k=>if decide (a[k]! = b[k]!) then none else some false) (fun k hk=>by
   unfold JD
   rw [if_pos (by simpa using hk),Ac hk,Ac (by omega),AD,AD,Am (by omega)]
   generalize a[k]! = x
   generalize b[k]! = y
   by_cases h:x=y
   ·subst h; simp [CO]
   ·have h':=h; rw [Nh] at h'
    simp only [decide_eq_false h,Bool.and_true]
    by_cases h1:x.Name=y.Name
    ·have h2 : ¬ x.Value=y.Value:=fun e=>h' ⟨h1,e⟩
     simp [h1,h2,CO]
    ·simp [h1,CO]) (by unfold JD; rw [if_neg (by simp)]),LX,Dq]
  by_cases h:a=b
  ·subst h; simp
  ·rw [decide_eq_false h]
   have:((List.range a.length).all fun k=>decide (a[k]! = b[k]!))=false:=by
    rw [← Bool.not_eq_true,List.all_eq_true]
    intro hall
    apply h
    apply List.ext_getElem hl
    intro k h1 h2
    have:=hall k (List.mem_range.2 h1)
    simp only [decide_eq_true_eq] at this
    rwa [getElem!_pos a k h1,getElem!_pos b k h2] at this
   rw [this]; rfl
 ·rw [if_pos (by simp; omega),decide_eq_false (by rintro rfl; exact hl rfl)]
theorem Dh {σ β:Type} {f:σ→Option (σ ⊕ β)} (n:Nat) (R:Nat→σ→Prop) (Q:β→Prop)
  (h1 : ∀ k s,k<n→R k s→(∃ s',f s=some (.inl s')∧R (k+1) s')∨(∃ b,f s=some (.inr b)∧Q b))
  (h2 : ∀ s,R n s → ∃ b,f s=some (.inr b)∧Q b) {s:σ} (h0:R 0 s) : ∃ b,iter f s=some b∧Q b:=by
 have key : ∀ m k s,k+m=n→R k s → ∃ b,iter f s=some b∧Q b:=by
  intro m
  induction m with
  | zero=>
   intro k s hk hR
   obtain rfl:k=n:=by omega
   obtain ⟨b,hb,hq⟩:=h2 s hR
   exact ⟨b,BG hb,hq⟩
  | succ m ih=>
   intro k s hk hR
   rcases h1 k s (by omega) hR with ⟨s',h3,h4⟩ | ⟨b,h3,h4⟩
   ·obtain ⟨b,h5,h6⟩:=ih (k+1) s' (by omega) h4
    exact ⟨b,by rw [CN h3,h5],h6⟩
   ·exact ⟨b,BG h3,h4⟩
 exact key n 0 s (by omega) h0
theorem Hr {α:Type} [Inhabited α] {l:List α} {k:Nat} (h:k<l.length):l.drop k=l[k]! :: l.drop (k+1):=by
 rw [List.drop_eq_getElem_cons h,getElem!_pos l k h]
theorem H5 {α:Type} [Inhabited α] {l:List α} {k:Nat} (h:k<l.length):l.take (k+1)=l.take k++[l[k]!]:=by
 rw [List.take_add_one,List.getElem?_eq_getElem h,getElem!_pos l k h]; rfl
theorem Cy {α:Type} [Inhabited α] {l:List α} {k:Nat} (h:k<l.length):l[k]! ∈ l:=by
 rw [getElem!_pos l k h]; exact List.getElem_mem h
def Bx (s:AI):Int:=if s.Kind=1 then 0 else s.N
def Bs (s:AI):Int:=if s.Kind=2 then 0 else s.N
def An (a:List AI):Int:=(a.map Bx).sum
def A0 (a:List AI):Int:=(a.map Bs).sum
theorem MB {a:List AI} {k:Nat} (h:k<a.length):An (a.take (k+1))=An (a.take k)+Bx a[k]!:=by
 unfold An; rw [H5 h]; simp
theorem Ly {a:List AI} {k:Nat} (h:k<a.length):A0 (a.take (k+1))=A0 (a.take k)+Bs a[k]!:=by
 unfold A0; rw [H5 h]; simp
def B2 (a:List AI) (k:Nat):Option Int:=
 if a[k]!.Kind<0∨2<a[k]!.Kind then some 8 else if a[k]!.N<1∨2147483647<a[k]!.N then some 2
 else if 0<k∧(a[k-1]!.Kind=a[k]!.Kind∨(a[k-1]!.Kind=2∧a[k]!.Kind=1)) then some 5 else none
def Av (a:List AI):Int:=
 match (List.range a.length).findSome? (B2 a) with
 | some e=>e
 | none=>if 2147483647<An a∨2147483647<A0 a then 3 else 0
theorem OE {ρ:Type} {n k:Nat} {g:Nat→Option ρ} {r:ρ} (hk:k<n) (h1 : ∀ j,j<k→g j=none) (h2:g k=some r):(List.range n).findSome? g=some r:=by
 obtain ⟨m,rfl⟩ : ∃ m,n=k+(m+1):=⟨n-k-1,by omega⟩
 rw [List.range_eq_range',← List.range'_append (s:=0) (m:=k) (n:=m+1) (step:=1),List.findSome?_append]
 have:(List.range' 0 k).findSome? g=none:=by
  rw [List.findSome?_eq_none_iff]; intro x hx; exact h1 x (by simpa using hx)
 rw [this,Nat.one_mul,Nat.zero_add,List.range'_succ,List.findSome?_cons,h2]; rfl
theorem NA {ρ:Type} {n:Nat} {g:Nat→Option ρ} (h1 : ∀ j,j<n→g j=none):(List.range n).findSome? g=none:=by
 rw [List.findSome?_eq_none_iff]; intro x hx; exact h1 x (by simpa using hx)
def A4 (s:AI):Prop:=0≤s.Kind∧s.Kind≤2∧1≤s.N∧s.N≤2147483647
theorem Ii {a:List AI} {k:Nat} (h:B2 a k=none):A4 a[k]!:=by
 unfold B2 at h
 unfold A4
 split at h
 ·cases h
 ·split at h
  ·cases h
  ·omega
theorem NY {a:List AI} {k:Nat} (hk:k≤a.length) (h : ∀ j,j<k→A4 a[j]!):0≤An (a.take k)∧An (a.take k)≤k * 2147483647∧0≤A0 (a.take k)∧A0 (a.take k)≤k * 2147483647:=by
 induction k with
 | zero=>simp [An,A0]
 | succ k ih=>
  have:=ih (by omega) (fun j hj=>h j (by omega))
  have hs:=h k (by omega)
  rw [MB (by omega),Ly (by omega)]
  unfold Bx Bs
  unfold A4 at hs
  omega
theorem Rl {a:List AI} (h1 : ∀ j,j<a.length→B2 a j=none):Av a=if 2147483647<An a∨2147483647<A0 a then 3 else 0:=by
 unfold Av; rw [NA h1]
theorem BU {x:Int} (h1 : -9223372036854775808≤x) (h2:x≤9223372036854775807):AL .i64 x=some x:=Bk h1 h2
theorem LM (a:List AI) (hm:a.length≤9223372036854775807):G6 a=some (Av a):=by
 unfold G6
 obtain ⟨b,hb,hq⟩:=Dh (f:=fun (x:Int × Int × Int)=>HU a x.1 x.2.1 x.2.2) a.length
  (fun k s=>s=(min (An (a.take k)) 2147483648,min (A0 (a.take k)) 2147483648,(k:Int)) ∧ ∀ j,j<k→B2 a j=none)
  (fun b=>b=match (List.range a.length).findSome? (B2 a) with | some e=>.ext e | none=>.nrm (min (An a) 2147483648,min (A0 a) 2147483648))
  (fun k s hk hR=>by
   obtain ⟨rfl,hg⟩:=hR
   have hlen:=NY (a:=a) (k:=k) (by omega) (fun j hj=>Ii (hg j hj))
   unfold HU
   simp only
   rw [if_pos (by simpa using hk),Ac hk,AD,Am (by omega)]
   cases he:B2 a k with
   | some r=>
    right
    rw [OE hk hg he]
    refine ⟨_,?_,rfl⟩
    unfold B2 at he
    by_cases c1:a[k]!.Kind<0∨2<a[k]!.Kind
    ·rw [if_pos c1] at he; cases he
     rw [if_pos (by simpa using c1)]; rfl
    rw [if_neg c1] at he
    rw [if_neg (by simpa using c1)]
    by_cases c2:a[k]!.N<1∨2147483647<a[k]!.N
    ·rw [if_pos c2] at he; cases he
     rw [if_pos (by simpa using c2)]; rfl
    rw [if_neg c2] at he
    rw [if_neg (by simpa using c2)]
    by_cases c3:0<k∧(a[k-1]!.Kind=a[k]!.Kind∨(a[k-1]!.Kind=2∧a[k]!.Kind=1))
    ·rw [if_pos c3] at he; cases he
     have h0:decide ((0:Int)<(k:Int))=true:=by simp; omega
     rw [h0,En c3.1 (by omega)]
     simp only [beq_self_eq_true,Ak,AD,Bool.true_and]
     rw [Ac (by omega),AD,if_pos (by simpa using c3.2)]; rfl
    ·rw [if_neg c3] at he; cases he
   | none=>
    left
    have hs:=Ii he
    have h0:=he
    unfold B2 at he
    by_cases c1:a[k]!.Kind<0∨2<a[k]!.Kind
    ·rw [if_pos c1] at he; cases he
    rw [if_neg c1] at he
    rw [if_neg (by simpa using c1)]
    by_cases c2:a[k]!.N<1∨2147483647<a[k]!.N
    ·rw [if_pos c2] at he; cases he
    rw [if_neg c2] at he
    rw [if_neg (by simpa using c2)]
    by_cases c3:0<k∧(a[k-1]!.Kind=a[k]!.Kind∨(a[k-1]!.Kind=2∧a[k]!.Kind=1))
    ·rw [if_pos c3] at he; cases he
    clear he
    have e3:k=0∨(0<k ∧ ¬ (a[k-1]!.Kind=a[k]!.Kind∨(a[k-1]!.Kind=2∧a[k]!.Kind=1))):=by
     by_cases h0:k=0
     ·exact .inl h0
     ·exact .inr ⟨by omega,fun h=>c3 ⟨by omega,h⟩⟩
    have hR' : ∀ j,j<k+1→B2 a j=none:=fun j hj=>by
     rcases Nat.lt_or_ge j k with h | h
     ·exact hg j h
     ·obtain rfl:j=k:=by omega
      exact h0
    have fin:(EZ (AB (if (!decide (a[k]!.Kind=1))=true then (AB (AL .i64 (min (An (a.take k)) 2147483648+a[k]!.N)) fun (x9:Int)=>some (min x9 2147483648)) else some (min (An (a.take k)) 2147483648)) fun (before6:Int)=>
      if (!decide (a[k]!.Kind=2))=true then (AB (AL .i64 (min (A0 (a.take k)) 2147483648+a[k]!.N)) fun (x8:Int)=>some (.nrm (before6,min x8 2147483648))) else some (.nrm (before6,min (A0 (a.take k)) 2147483648)))
      fun (before5:Int) (after5:Int)=>AB (some (((k+1:Nat)):Int)) fun (x4:Int)=>some (Sum.inl (before5,after5,x4)):Option ((Int × Int × Int) ⊕ (Af (Int × Int) Int))) =
      some (.inl (min (An (a.take (k+1))) 2147483648,min (A0 (a.take (k+1))) 2147483648,((k+1:Nat):Int))):=by
     unfold A4 at hs
     rw [MB hk,Ly hk]
     clear c1 c2 c3 e3 hR' h0
     generalize a[k]! = x at hs ⊢
     generalize An (a.take k)=o at hlen ⊢
     generalize A0 (a.take k)=w at hlen ⊢
     rw [BU (by omega) (by omega),BU (by omega) (by omega)]
     unfold Bx Bs
     by_cases d1:x.Kind=1
     ·have d2 : ¬ x.Kind=2:=by omega
      simp [d1]; omega
     ·by_cases d2:x.Kind=2
      ·simp [d2]; omega
      ·simp [d1,d2]; omega
    rcases e3 with rfl | ⟨hp,e3⟩
    ·exact ⟨_,fin,rfl,hR'⟩
    ·have h1:decide ((0:Int)<(k:Int))=true:=by simp; omega
     rw [h1,En (by omega) (by omega)]
     simp only [beq_self_eq_true,Ak,AD,Bool.true_and]
     rw [Ac (by omega),AD,if_neg (by simpa using e3)]
     exact ⟨_,fin,rfl,hR'⟩)
  (fun s hR=>by
   obtain ⟨rfl,hg⟩:=hR
   rw [NA hg,List.take_length]
   unfold HU
   exact ⟨_,by rw [if_neg (by simp)],rfl⟩)
  (s:=(0,0,0)) ⟨by simp [An,A0]; decide,fun j hj=>absurd hj (Nat.not_lt_zero _)⟩
 rw [hb,hq]
 unfold Av
 cases (List.range a.length).findSome? (B2 a) with
 | some e=>rfl
 | none=>
  show (if (decide (2147483647<min (An a) 2147483648) || decide (2147483647<min (A0 a) 2147483648))=true then some 3 else some 0)=_
  by_cases h:2147483647<An a∨2147483647<A0 a
  ·rw [if_pos (by simp; omega),if_pos h]
  ·rw [if_neg (by simp; omega),if_neg h]
theorem Hg (x lo hi:Int):CS x lo hi=some (decide (lo≤x) && decide (x≤hi)):=by
 unfold CS
 rfl
theorem QA (a:List AI) (hm:a.length≤9223372036854775807):H1 a=some (Av a):=by
 unfold H1
 obtain ⟨b,hb,hq⟩:=Dh (f:=fun (x:Int × Int × Int)=>HM a x.1 x.2.1 x.2.2) a.length
  (fun k s=>∃ o w:Int,s=(o,w,(k:Int))∧(∀ j,j<k→B2 a j=none)∧(An (a.take k)≤2147483647→o=An (a.take k))∧(2147483647<An (a.take k)→2147483647<o)∧0≤o∧o≤4294967296
   ∧ (A0 (a.take k)≤2147483647→w=A0 (a.take k))∧(2147483647<A0 (a.take k)→2147483647<w)∧0≤w∧w≤4294967296)
  (fun b=>match (List.range a.length).findSome? (B2 a) with | some e=>b = .ext e | none=>∃ o w:Int,b = .nrm (o,w)∧(2147483647<o↔2147483647<An a)∧(2147483647<w↔2147483647<A0 a))
  (fun k s hk hR=>by
   obtain ⟨o,w,rfl,hg,hR⟩:=hR
   have hlen:=NY (a:=a) (k:=k) (by omega) (fun j hj=>Ii (hg j hj))
   unfold HM
   simp only
   rw [if_pos (by simpa using hk),Ac hk,AD,Am (by omega),Hg,AD,Hg,AD]
   have q1:(!(decide (0≤a[k]!.Kind) && decide (a[k]!.Kind≤2)))=decide (a[k]!.Kind<0∨2<a[k]!.Kind):=by
    rw [Bool.eq_iff_iff]; simp only [Bool.not_eq_true',Bool.and_eq_false_imp,decide_eq_true_eq,decide_eq_false_iff_not]; omega
   have q2:(!(decide (1≤a[k]!.N) && decide (a[k]!.N≤2147483647)))=decide (a[k]!.N<1∨2147483647<a[k]!.N):=by
    rw [Bool.eq_iff_iff]; simp only [Bool.not_eq_true',Bool.and_eq_false_imp,decide_eq_true_eq,decide_eq_false_iff_not]; omega
   rw [q1,q2]
   cases he:B2 a k with
   | some r=>
    right
    rw [OE hk hg he]
    refine ⟨_,?_,rfl⟩
    unfold B2 at he
    by_cases c1:a[k]!.Kind<0∨2<a[k]!.Kind
    ·rw [if_pos c1] at he; cases he
     rw [if_pos (decide_eq_true c1)]; rfl
    rw [if_neg c1] at he
    rw [if_neg (by rw [decide_eq_true_eq]; exact c1)]
    by_cases c2:a[k]!.N<1∨2147483647<a[k]!.N
    ·rw [if_pos c2] at he; cases he
     rw [if_pos (decide_eq_true c2)]; rfl
    rw [if_neg c2] at he
    rw [if_neg (by rw [decide_eq_true_eq]; exact c2)]
    by_cases c3:0<k∧(a[k-1]!.Kind=a[k]!.Kind∨(a[k-1]!.Kind=2∧a[k]!.Kind=1))
    ·rw [if_pos c3] at he; cases he
     have h0:decide ((0:Int)<(k:Int))=true:=by simp; omega
     rw [h0,En c3.1 (by omega)]
     simp only [beq_self_eq_true,Ak,AD,Bool.true_and]
     rw [Ac (by omega),AD]
     rcases c3.2 with d | ⟨d1,d2⟩
     ·rw [d,decide_eq_true rfl]; rfl
     ·have : ¬ a[k]!.Kind=a[k-1]!.Kind:=by omega
      rw [decide_eq_false this,decide_eq_true d2]
      simp only [beq_self_eq_true,Bool.and_self,Ak,AD,Bool.false_or,Bool.true_and]
      rw [Ac (by omega),AD,decide_eq_true d1]; rfl
    ·rw [if_neg c3] at he; cases he
   | none=>
    left
    have hs:=Ii he
    have h0:=he
    unfold B2 at he
    by_cases c1:a[k]!.Kind<0∨2<a[k]!.Kind
    ·rw [if_pos c1] at he; cases he
    rw [if_neg c1] at he
    rw [if_neg (by rw [decide_eq_true_eq]; exact c1)]
    by_cases c2:a[k]!.N<1∨2147483647<a[k]!.N
    ·rw [if_pos c2] at he; cases he
    rw [if_neg c2] at he
    rw [if_neg (by rw [decide_eq_true_eq]; exact c2)]
    by_cases c3:0<k∧(a[k-1]!.Kind=a[k]!.Kind∨(a[k-1]!.Kind=2∧a[k]!.Kind=1))
    ·rw [if_pos c3] at he; cases he
    clear he q1 q2
    have e3:k=0∨(0<k ∧ ¬ (a[k-1]!.Kind=a[k]!.Kind∨(a[k-1]!.Kind=2∧a[k]!.Kind=1))):=by
     by_cases h0:k=0
     ·exact .inl h0
     ·exact .inr ⟨by omega,fun h=>c3 ⟨by omega,h⟩⟩
    have hR' : ∀ j,j<k+1→B2 a j=none:=fun j hj=>by
     rcases Nat.lt_or_ge j k with h | h
     ·exact hg j h
     ·obtain rfl:j=k:=by omega
      exact h0
    have fin : ∃ o2 w2:Int,(EZ (AB (if (!decide (a[k]!.Kind=1) && decide (o<2147483648))=true then (AB (AL .i64 (o+a[k]!.N)) fun (x9:Int)=>some x9) else some o) fun (before6:Int)=>
      if (!decide (a[k]!.Kind=2) && decide (w<2147483648))=true then (AB (AL .i64 (w+a[k]!.N)) fun (x8:Int)=>some (.nrm (before6,x8))) else some (.nrm (before6,w)))
      fun (before5:Int) (after5:Int)=>AB (some (((k+1:Nat)):Int)) fun (x4:Int)=>some (Sum.inl (before5,after5,x4)):Option ((Int × Int × Int) ⊕ (Af (Int × Int) Int))) =
      some (.inl (o2,w2,((k+1:Nat):Int)))∧((An (a.take (k+1))≤2147483647→o2=An (a.take (k+1)))∧(2147483647<An (a.take (k+1))→2147483647<o2)∧0≤o2∧o2≤4294967296
   ∧ (A0 (a.take (k+1))≤2147483647→w2=A0 (a.take (k+1)))∧(2147483647<A0 (a.take (k+1))→2147483647<w2)∧0≤w2∧w2≤4294967296):=by
     unfold A4 at hs
     rw [MB hk,Ly hk]
     clear c1 c2 c3 e3 hR' h0
     generalize a[k]! = x at hs ⊢
     generalize An (a.take k)=o1 at hlen hR ⊢
     generalize A0 (a.take k)=w1 at hlen hR ⊢
     rw [BU (by omega) (by omega),BU (by omega) (by omega)]
     unfold Bx Bs
     refine ⟨if x.Kind≠1∧o<2147483648 then o+x.N else o,if x.Kind≠2∧w<2147483648 then w+x.N else w,?_,?_⟩
     ·by_cases d1:x.Kind=1
      ·by_cases d3:w<2147483648 <;> simp [d1,d3]
      ·by_cases d2:x.Kind=2
       ·by_cases d3:o<2147483648 <;> simp [d2,d3]
       ·by_cases d3:o<2147483648 <;> by_cases d4:w<2147483648 <;> simp [d1,d2,d3,d4]
     ·split <;> split <;> split <;> split <;> omega
    obtain ⟨o2,w2,f1,f2⟩:=fin
    rcases e3 with rfl | ⟨hp,e3⟩
    ·exact ⟨_,f1,o2,w2,rfl,hR',f2⟩
    ·have h1:decide ((0:Int)<(k:Int))=true:=by simp; omega
     rw [h1,En (by omega) (by omega)]
     simp only [beq_self_eq_true,Ak,AD,Bool.true_and]
     rw [Ac (by omega),AD]
     have n1 : ¬ a[k]!.Kind=a[k-1]!.Kind:=fun e=>e3 (.inl e.symm)
     rw [decide_eq_false n1]
     simp only [Bool.false_or,beq_self_eq_true,Bool.true_and]
     by_cases d2:a[k]!.Kind=1
     ·rw [decide_eq_true d2]
      simp only [beq_self_eq_true,Ak,AD]
      rw [Ac (by omega),AD]
      have n2 : ¬ a[k-1]!.Kind=2:=fun e=>e3 (.inr ⟨e,d2⟩)
      rw [decide_eq_false n2,if_neg (by decide)]
      rw [decide_eq_true d2] at f1
      exact ⟨_,f1,o2,w2,rfl,hR',f2⟩
     ·rw [decide_eq_false d2]
      rw [decide_eq_false d2] at f1
      exact ⟨_,f1,o2,w2,rfl,hR',f2⟩)
  (fun s hR=>by
   obtain ⟨o,w,rfl,hg,hR⟩:=hR
   rw [NA hg]
   rw [List.take_length] at hR
   unfold HM
   exact ⟨_,by rw [if_neg (by simp)],o,w,rfl,by omega,by omega⟩)
  (s:=(0,0,0)) ⟨0,0,rfl,fun j hj=>absurd hj (Nat.not_lt_zero _),by simp [An,A0]⟩
 rw [hb]
 unfold Av
 cases hf:(List.range a.length).findSome? (B2 a) with
 | some e=>rw [hf] at hq; rw [hq]; rfl
 | none=>
  rw [hf] at hq
  obtain ⟨o,w,rfl,h1,h2⟩:=hq
  show (if (decide (2147483647<o) || decide (2147483647<w))=true then some 3 else some 0)=_
  rw [show (decide (2147483647<o) || decide (2147483647<w))=decide (2147483647<An a∨2147483647<A0 a) by simp [h1,h2]]
  by_cases h:2147483647<An a∨2147483647<A0 a
  ·rw [if_pos (decide_eq_true h),if_pos h]
  ·rw [if_neg (by rw [decide_eq_true_eq]; exact h),if_neg h]
theorem Cp {α σ β γ:Type} [Inhabited α] {f:σ→Option (σ ⊕ β)} (l:List α) (mk:γ→Nat→σ) (sp:List α→γ→β) (I:Nat→γ→Prop)
  (h1 : ∀ k c,k<l.length→I k c→(∃ c',f (mk c k)=some (.inl (mk c' (k+1)))∧I (k+1) c'∧sp (l[k]! :: l.drop (k+1)) c=sp (l.drop (k+1)) c')∨f (mk c k)=some (.inr (sp (l[k]! :: l.drop (k+1)) c)))
  (h2 : ∀ c,I l.length c→f (mk c l.length)=some (.inr (sp [] c))) (c:γ) (h0:I 0 c) (s:σ) (hs:s=mk c 0):iter f s=some (sp l c):=by
 subst hs
 have key : ∀ m k c,k+m=l.length→I k c→iter f (mk c k)=some (sp (l.drop k) c):=by
  intro m
  induction m with
  | zero=>
   intro k c hk hI
   obtain rfl:k=l.length:=by omega
   rw [List.drop_length]
   exact BG (h2 c hI)
  | succ m ih=>
   intro k c hk hI
   rw [Hr (by omega)]
   rcases h1 k c (by omega) hI with ⟨c',h3,h4,h5⟩ | h3
   ·rw [CN h3,ih (k+1) c' (by omega) h4,h5]
   ·exact BG h3
 have:=key l.length 0 c (by omega) h0
 rwa [List.drop_zero] at this
structure Eu (a:List AI):Prop where
 stp : ∀ s∈a,A4 s
 olds:An a≤2147483647
 nows:A0 a≤2147483647
theorem Uy {a:List AI} {k:Nat} {r:Int} (h:B2 a k=some r):r≠0:=by
 unfold B2 at h
 split at h
 ·cases h; decide
 ·split at h
  ·cases h; decide
  ·split at h
   ·cases h; decide
   ·cases h
theorem Q2 {a:List AI} (h:Av a=0) : ∀ j,j<a.length→B2 a j=none:=by
 cases hf:(List.range a.length).findSome? (B2 a) with
 | some e=>
  unfold Av at h
  rw [hf] at h
  simp only at h
  subst h
  obtain ⟨x,_,hx⟩:=List.exists_of_findSome?_eq_some hf
  exact absurd rfl (Uy hx)
 | none=>
  rw [List.findSome?_eq_none_iff] at hf
  exact fun j hj=>hf j (List.mem_range.2 hj)
theorem Cu {a:List AI} (h:Av a=0):Eu a:=by
 have hn:=Q2 h
 rw [Rl hn] at h
 have hs : ∀ s∈a,A4 s:=fun s hs=>by
  obtain ⟨k,hk,rfl⟩:=List.mem_iff_getElem.1 hs
  rw [← getElem!_pos a k hk]
  exact Ii (hn k hk)
 by_cases hc:2147483647<An a∨2147483647<A0 a
 ·rw [if_pos hc] at h; cases h
 ·exact ⟨hs,by omega,by omega⟩
theorem HD (s:AI) (a:List AI):An (s :: a)=Bx s+An a:=by simp [An]
theorem Gm (s:AI) (a:List AI):A0 (s :: a)=Bs s+A0 a:=by simp [A0]
theorem Gq {a:List AI} (h : ∀ s∈a,A4 s) {k:Nat} (hk:k<a.length):A4 a[k]!:=h _ (Cy hk)
theorem H4 {a:List AI} (h : ∀ s∈a,A4 s):0≤An a∧0≤A0 a:=by
 induction a with
 | nil=>simp [An,A0]
 | cons s a ih=>
  have h1:=ih fun x hx=>h x (List.mem_cons_of_mem _ hx)
  have h2:=h s (List.mem_cons_self ..)
  rw [HD,Gm]
  unfold Bx Bs
  unfold A4 at h2
  split <;> split <;> omega
theorem Eu.len {a:List AI} (h:Eu a):(a.length:Int)≤4294967294:=by
 have key : ∀ l:List AI,(∀ s∈l,A4 s)→(l.length:Int)≤An l+A0 l:=by
  intro l
  induction l with
  | nil=>intro _; simp [An,A0]
  | cons s l ih=>
   intro h
   have h1:=ih fun x hx=>h x (List.mem_cons_of_mem _ hx)
   have h2:=h s (List.mem_cons_self ..)
   rw [HD,Gm,List.length_cons]
   unfold Bx Bs
   unfold A4 at h2
   split <;> split <;> omega
 have h1:=key a h.stp
 have h2:=h.olds
 have h3:=h.nows
 omega
def EL (a:List AI) (k:Nat) (f t:Int):Prop:=0≤f∧f+An (a.drop k)≤2147483647∧0≤t∧t+A0 (a.drop k)≤2147483647
theorem Eu.run {a:List AI} (h:Eu a):EL a 0 0 0:=by
 have h2:=h.olds
 have h3:=h.nows
 unfold EL
 rw [List.drop_zero]
 omega
theorem EL.nx {a:List AI} (h:Eu a) {k:Nat} (hk:k<a.length) {f t:Int} (hr:EL a k f t):0≤f∧f+Bx a[k]! ≤ 2147483647∧f≤2147483647∧0≤t∧t+Bs a[k]! ≤ 2147483647∧t≤2147483647 ∧
  ∀ f' t',f≤f'→f'≤f+Bx a[k]! → t≤t'→t'≤t+Bs a[k]! → EL a (k+1) f' t':=by
 have hd:=H4 (a:=a.drop (k+1)) (fun s hs=>h.stp s (List.mem_of_mem_drop hs))
 have hs:=Gq h.stp hk
 unfold EL at hr
 rw [Hr hk,HD,Gm] at hr
 have h0:0≤Bx a[k]! ∧ 0≤Bs a[k]!:=by unfold A4 at hs; unfold Bx Bs; split <;> split <;> omega
 refine ⟨by omega,by omega,by omega,by omega,by omega,by omega,fun f' t' a1 a2 a3 a4=>?_⟩
 unfold EL
 omega
theorem Nn (a:List AI) (hg:Eu a):Hs a=some (An a,A0 a):=by
 unfold Hs
 rw [Cp (f:=fun (a_1:Int × Int × Int)=>Hd a a_1.1 a_1.2.1 a_1.2.2) a (fun (c:Int × Int) k=>(c.1,c.2,(k:Int))) (fun l (c:Int × Int)=>(c.1+An l,c.2+A0 l)) (fun k c=>EL a k c.1 c.2)
  (fun k c hk hI=>by
   left
   have hs:=Gq hg.stp hk
   have hnx:=hI.nx hg hk
   have hgl:=hg.len
   unfold Hd
   simp only
   rw [if_pos (by simpa using hk),Ac hk,AD,Am (by omega)]
   simp only [HD,Gm]
   obtain ⟨o,w⟩:=c
   simp only at hnx ⊢
   generalize a[k]! = x at hs hnx ⊢
   obtain ⟨q1,q2,q3,q4,q5,q6,q7⟩:=hnx
   have h0:0≤Bx x∧0≤Bs x:=by unfold A4 at hs; unfold Bx Bs; split <;> split <;> omega
   unfold A4 at hs
   rw [BU (by omega) (by omega),BU (by omega) (by omega)]
   refine ⟨(o+Bx x,w+Bs x),?_,q7 _ _ (by omega) (by omega) (by omega) (by omega),?_⟩
   ·unfold Bx Bs
    by_cases d1:x.Kind=1
    ·simp [d1]
    ·by_cases d2:x.Kind=2 <;> simp [d1,d2]
   ·simp only; rw [Int.add_assoc,Int.add_assoc])
  (fun c hI=>by unfold Hd; rw [if_neg (by simp)]; simp [An,A0]) (0,0) hg.run (0,0,0) rfl]
 simp
def By (p:Int):List AI→Int × Int→Af Unit Int
 | [],_=>.nrm ()
 | s :: l,c=>if s.Kind=1 then By p l (c.1,c.2+s.N) else if p<c.1+s.N then .ext (if s.Kind=0 then c.2+p-c.1 else -1) else By p l (c.1+s.N,if s.Kind=0 then c.2+s.N else c.2)
theorem EI (p:Int) (s:AI) (l:List AI) (c:Int × Int):By p (s :: l) c=if s.Kind=1 then By p l (c.1,c.2+s.N) else if p<c.1+s.N then .ext (if s.Kind=0 then c.2+p-c.1 else -1) else By p l (c.1+s.N,if s.Kind=0 then c.2+s.N else c.2):=rfl
def A8:Af Unit Int→Int
 | .nrm _=>-1
 | .ext x=>x
theorem Rh (a:List AI) (p:Int) (hg:Eu a) (h0:0≤p) (hp:p≤2147483647):Jh a p=some (A8 (By p a (0,0))):=by
 unfold Jh
 rw [Cp (f:=fun (a_1:Int × Int × Int)=>HR a p a_1.1 a_1.2.1 a_1.2.2) a (fun (c:Int × Int) k=>(c.1,c.2,(k:Int))) (By p) (fun k c=>EL a k c.1 c.2)
  (fun k c hk hI=>by
   have hs:=Gq hg.stp hk
   have hnx:=hI.nx hg hk
   have hgl:=hg.len
   unfold HR
   rw [EI]
   simp only
   rw [if_pos (by simpa using hk),Ac hk,AD,Am (by omega)]
   obtain ⟨f,t⟩:=c
   simp only at hnx ⊢
   generalize a[k]! = x at hs hnx ⊢
   obtain ⟨q1,q2,q3,q4,q5,q6,q7⟩:=hnx
   unfold A4 at hs
   simp only [Bx,Bs] at q7
   rw [BU (x:=t+x.N) (by omega) (by omega),BU (x:=f+x.N) (by omega) (by omega),BU (x:=t+p) (by omega) (by omega)]
   simp only [AD]
   rw [BU (x:=t+p-f) (by omega) (by omega)]
   by_cases d1:x.Kind=1
   ·left
    refine ⟨(f,t+x.N),?_,?_,?_⟩
    ·simp [d1]
    ·exact q7 _ _ (by simp [d1]) (by simp [d1]) (by simp [d1]; omega) (by simp [d1])
    ·simp [d1]
   ·by_cases d0:x.Kind=0
    ·by_cases d2:p<f+x.N
     ·right; simp [d0,d2]
     ·left
      refine ⟨(f+x.N,t+x.N),?_,?_,?_⟩
      ·simp [d0,d2]
      ·exact q7 _ _ (by simp [d0]; omega) (by simp [d0]) (by simp [d0]; omega) (by simp [d0])
      ·simp [d0,d2]
    ·by_cases d2:p<f+x.N
     ·right; simp [d0,d1,d2]
     ·left
      refine ⟨(f+x.N,t),?_,?_,?_⟩
      ·simp [d0,d1,d2]
      ·exact q7 _ _ (by simp [d1]; omega) (by simp [d1]) (by simp) (by simp; split <;> omega)
      ·simp [d0,d1,d2])
  (fun c hI=>by unfold HR; rw [if_neg (by simp)]; rfl) (0,0) hg.run (0,0,0) rfl]
 cases By p a (0,0) <;> rfl
theorem Hj {o:List Int} {x:Int} (h:o.length+1≤1099511627776):BR 8 o [x]=some (o++[x]):=by
 unfold BR; rw [if_pos (by simp; omega)]
def Hx (a:List AI) (r:Int):List Int→List Int→Af (List Int) (List Int × Int)
 | [],out=>.nrm out
 | x :: l,out=>if x<0∨r≤x then .ext ([],2) else Hx a r l (out++[A8 (By x a (0,0))])
theorem OH (a:List AI) (r x:Int) (l out:List Int):Hx a r (x :: l) out=if x<0∨r≤x then .ext ([],2) else Hx a r l (out++[A8 (By x a (0,0))]):=rfl
theorem Nk (a:List AI) (ps:List Int) (hm:a.length≤9223372036854775807) (hp:ps.length≤1048576):EV a ps=if Av a≠0 then some ([],Av a) else Ar (some (Hx a (An a) ps [])) fun out=>some (out,0):=by
 unfold EV
 rw [LM a (by omega),AD]
 by_cases he:Av a=0
 ·have hg:=Cu he
  have hl:=H4 hg.stp
  have hol:=hg.olds
  rw [he,if_neg (by decide),if_neg (by simp),Nn a hg,BK]
  rw [Cp (f:=fun (a_1:Int × List Int)=>IA a ps (An a) a_1.1 a_1.2) ps (fun (c:List Int) k=>((k:Int),c)) (Hx a (An a)) (fun k c=>c.length≤k)
   (fun k c hk hI=>by
    unfold IA
    rw [OH]
    simp only
    rw [if_pos (by simpa using hk),Ac hk,AD,Am (by omega)]
    generalize ps[k]! = x
    by_cases d:x<0∨An a≤x
    ·right
     rw [if_pos d,if_pos (by simpa using d)]
    ·left
     rw [if_neg d,if_neg (by simpa using d),Rh a x hg (by omega) (by omega),AD,Hj (by omega)]
     exact ⟨_,rfl,by simp; omega,rfl⟩)
   (fun c hI=>by unfold IA; rw [if_neg (by simp)]; rfl) [] (by simp) (0,[]) rfl]
 ·rw [if_pos (by simpa using he),if_pos he]
def Cr (a:List AI):Int:=(a.map (·.N)).sum
theorem Md (s:AI) (a:List AI):Cr (s :: a)=s.N+Cr a:=by simp [Cr]
theorem Nl (a:List AI) (h : ∀ s∈a,A4 s) (hm:(a.length:Int)≤4294967294):Hm a=some (Cr a):=by
 unfold Hm
 rw [Cp (f:=fun (a_1:Int × Int)=>HQ a a_1.1 a_1.2) a (fun (c:Int) k=>(c,(k:Int))) (fun l (c:Int)=>c+Cr l) (fun k c=>0≤c∧c≤k * 2147483647)
  (fun k c hk hI=>by
   left
   have hs:=Gq h hk
   unfold HQ
   simp only
   rw [if_pos (by simpa using hk),Ac hk,AD,Am (by omega)]
   simp only [Md]
   generalize a[k]! = x at hs ⊢
   unfold A4 at hs
   rw [BU (by omega) (by omega)]
   exact ⟨_,rfl,by omega,by omega⟩)
  (fun c hI=>by unfold HQ; rw [if_neg (by simp)]; simp [Cr]) 0 (by simp) (0,0) rfl]
 simp
def DF (a:List AI):List Int:=a.flatMap fun s=>List.replicate s.N.toNat s.Kind
theorem Ki (s:AI) (a:List AI):DF (s :: a)=List.replicate s.N.toNat s.Kind++DF a:=rfl
theorem Ml {a:List AI} (h : ∀ s∈a,A4 s):0≤Cr a∧((DF a).length:Int)=Cr a∧(a.length:Int)≤Cr a:=by
 induction a with
 | nil=>simp [DF,Cr]
 | cons s a ih=>
  have h1:=ih fun x hx=>h x (List.mem_cons_of_mem _ hx)
  have h2:=h s (List.mem_cons_self ..)
  unfold A4 at h2
  rw [Md,Ki,List.length_append,List.length_replicate,List.length_cons]
  omega
theorem Rp {a:List AI} {k:Nat} (h:k<a.length):Cr (a.drop k)=a[k]!.N+Cr (a.drop (k+1)):=by rw [Hr h,Md]
theorem Q1 (x:AI) (out:List Int) (hx:A4 x) (hb:(out.length:Int)+x.N≤1099511627776):iter (fun (a:Int × (List Int))=>E3 x a.1 a.2) (0,out)=some (out++List.replicate x.N.toNat x.Kind):=by
 unfold A4 at hx
 obtain ⟨b,hb1,hq⟩:=Dh (f:=fun (a:Int × (List Int))=>E3 x a.1 a.2) x.N.toNat (fun k s=>s=((k:Int),out++List.replicate k x.Kind)) (fun b=>b=out++List.replicate x.N.toNat x.Kind)
  (fun k s hk hR=>by
   subst hR
   left
   unfold E3
   simp only
   rw [if_pos (by simp; omega),Hj (by simp; omega),AD,Am (by omega),AD]
   exact ⟨_,rfl,by rw [List.append_assoc,← List.replicate_succ']⟩)
  (fun s hR=>by
   subst hR
   unfold E3
   exact ⟨_,by rw [if_neg (by simp; omega)],rfl⟩) (s:=(0,out)) (by simp)
 rw [hb1,hq]
theorem PV (a:List AI) (h : ∀ s∈a,A4 s) (hm:Cr a≤1073741824):GH a=some (DF a):=by
 have hsz:=Ml h
 unfold GH
 rw [Cp (f:=fun (a_1:Int × List Int)=>D0 a a_1.1 a_1.2) a (fun (c:List Int) k=>((k:Int),c)) (fun l c=>c++DF l) (fun k c=>(c.length:Int)+Cr (a.drop k)≤1073741824)
  (fun k c hk hI=>by
   left
   have hs:=Gq h hk
   unfold D0
   simp only
   rw [Rp hk] at hI
   have hd:=Ml (a:=a.drop (k+1)) (fun s hs=>h s (List.mem_of_mem_drop hs))
   rw [if_pos (by simpa using hk),Ac hk,AD,Am (by omega),Q1 _ _ hs (by omega),AD,AD]
   refine ⟨_,rfl,?_,?_⟩
   ·unfold A4 at hs
    rw [List.length_append,List.length_replicate]
    omega
   ·simp only [Ki,List.append_assoc])
  (fun c hI=>by unfold D0; rw [if_neg (by simp)]; simp [DF]) [] (by simpa using hm) (0,[]) rfl]
 simp
def BF:List Int→Int→List Int
 | [],_=>[]
 | u :: us,o=>if u=0 then o :: BF us (o+1) else if u=1 then -1 :: BF us o else BF us (o+1)
def D9:List Int→Int→List Int
 | [],_=>[]
 | u :: us,o=>if u=0 then o :: D9 us (o+1) else if u=1 then o :: D9 us o else D9 us (o+1)
theorem Kt (us:List Int) (o:Int):(BF us o).length≤us.length∧(D9 us o).length=(BF us o).length:=by
 induction us generalizing o with
 | nil=>simp [BF,D9]
 | cons u us ih=>
  have h1:=ih o
  have h2:=ih (o+1)
  unfold BF D9
  split
  ·simp only [List.length_cons]; omega
  ·split <;> simp only [List.length_cons] <;> omega
theorem MV (us:List Int) (hm:us.length≤1099511627776):Gf us=some (BF us 0,D9 us 0):=by
 unfold Gf
 rw [Cp (f:=fun (a_1:Int × Int × List Int × List Int)=>Hw us a_1.1 a_1.2.1 a_1.2.2.1 a_1.2.2.2) us (fun (c:Int × List Int × List Int) k=>(c.1,(k:Int),c.2.1,c.2.2)) (fun l c=>(c.2.1++BF l c.1,c.2.2++D9 l c.1)) (fun k c=>0≤c.1∧c.1≤k∧c.2.1.length≤k∧c.2.2.length≤k)
  (fun k c hk hI=>by
   left
   obtain ⟨o,ro,ah⟩:=c
   unfold Hw
   simp only at hI ⊢
   rw [if_pos (by simpa using hk),Ac hk,AD,Am (by omega),BU (x:=o+1) (by omega) (by omega)]
   generalize us[k]! = u
   by_cases d0:u=0
   ·subst d0
    rw [Hj (by omega),Hj (by omega)]
    refine ⟨(o+1,ro++[o],ah++[o]),by simp,by simp; omega,by simp [BF,D9]⟩
   ·by_cases d1:u=1
    ·subst d1
     rw [Hj (o:=ro) (x:=-1) (by omega),Hj (o:=ah) (by omega)]
     refine ⟨(o,ro++[-1],ah++[o]),by simp,by simp; omega,by simp [BF,D9]⟩
    ·refine ⟨(o+1,ro,ah),by simp [d0,d1],by simp; omega,by simp [BF,D9,d0,d1]⟩)
  (fun c hI=>by unfold Hw; rw [if_neg (by simp)]; simp [BF,D9]) (0,[],[]) (by simp) (0,0,[],[]) rfl]
 simp
def BT (r:Int):List Int→Int→Af Unit Int
 | [],_=>.nrm ()
 | x :: xs,i=>if x=r then .ext i else BT r xs (i+1)
theorem Ui (r:Int) (l:List Int) (hm:l.length≤1099511627776):iter (fun (a:Int)=>Gc r l a) 0=some (BT r l 0):=by
 obtain ⟨b,hb,hq⟩:=Dh (f:=fun (a:Int)=>Gc r l a) l.length (fun k s=>s=(k:Int)∧BT r (l.drop k) (k:Int)=BT r l 0) (fun b=>b=BT r l 0)
  (fun k s hk hR=>by
   obtain ⟨rfl,hw⟩:=hR
   unfold Gc
   rw [Hr hk,BT] at hw
   rw [if_pos (by simpa using hk),Ac hk,AD,Am (by omega)]
   generalize l[k]! = x at hw ⊢
   by_cases d:x=r
   ·right; rw [if_pos d] at hw; exact ⟨_,by simp [d],hw⟩
   ·left; rw [if_neg d] at hw; exact ⟨_,by rw [if_neg (by simpa using d)]; rfl,rfl,hw⟩)
  (fun s hR=>by
   obtain ⟨rfl,hw⟩:=hR
   rw [List.drop_length,BT] at hw
   unfold Gc
   exact ⟨_,by rw [if_neg (by simp)],hw⟩) (s:=0) (by simp)
 rw [hb,hq]
theorem Uw (us:List Int) (r:Int) (hm:us.length≤1099511627776):Jb us r=some (A8 (BT r (BF us 0) 0)):=by
 unfold Jb
 have:=Kt us 0
 rw [MV us hm,BK,Ui r _ (by omega)]
 cases BT r (BF us 0) 0 <;> rfl
def Fo (c:Int):Bool:=decide (c=9) || decide (c=10) || (decide (32≤c) && decide (c≤126)) || (decide (160≤c) && decide (c≤55295)) || (decide (57344≤c) && decide (c≤1114111))
theorem So (c:Int):KA c=some (Fo c):=by
 unfold KA Fo
 congr 1
 rw [Bool.eq_iff_iff]
 simp only [Bool.or_eq_true,Bool.and_eq_true,decide_eq_true_eq]
 omega
theorem RM (c:Int):Id c=some (Fo c):=by
 unfold Id Fo
 rw [Hg,Hg,Hg]
 generalize decide (c=9)=a1
 generalize decide (c=10)=a2
 generalize (decide (32≤c) && decide (c≤126))=a3
 generalize (decide (160≤c) && decide (c≤55295))=a4
 generalize (decide (57344≤c) && decide (c≤1114111))=a5
 cases a1 <;> cases a2 <;> cases a3 <;> cases a4 <;> cases a5 <;> rfl
def U8:List UInt8:=[104,105,100,100,101,110]
def S5:List UInt8:=[111,110]
def Uh:List UInt8:=[99,117,116]
def Uj:List UInt8:=[97,100,100]
def L1 (x:Eo) (mode:Int):Bool:=decide (Lr x.Attrs U8=S5) || (decide (mode=0) && !decide (Lr x.Attrs Uh=[])) || (decide (mode=1) && !decide (Lr x.Attrs Uj=[]))
def seen (f:List Eo) (mode:Int) (k:Nat):Bool:=!L1 f[k]! mode || (decide (k+1=f.length) && decide (f[k]!.Char=10))
theorem Dr {p:Prop} [Decidable p] (h : ¬ p):(!decide p)=true:=by simp [h]
theorem DW {p:Prop} [Decidable p] (h:p) : ¬ ((!decide p)=true):=by simp [h]
def MQ (l:List Ah):Prop:=l.length≤1073741824∧GD l
inductive Un where
 | a (e:Eo)
 | r (cut:Bool) (at_:List Ah)
theorem Sj {α:Type} (l:List α) (n:Int) (h0:0≤n) (h:n≤l.length):B3 l 0 n=some (l.take n.toNat):=by
 unfold B3; rw [if_pos (by omega)]; simp
theorem Uc {α:Type} (l:List α) (n:Int) (h0:0≤n) (h:n≤l.length):B3 l n (l.length:Int)=some (l.drop n.toNat):=by
 unfold B3; rw [if_pos (by omega)]
 congr 1
 rw [List.take_of_length_le]
 simp
theorem SX:MQ []:=⟨by simp,fun a ha=>by simp at ha⟩
theorem UA {α:Type} [Inhabited α] [DecidableEq α] {a b:List α} (hl:a.length=b.length) (h:((List.range a.length).all fun k=>decide (a[k]! = b[k]!))=true):a=b:=by
 apply List.ext_getElem hl
 intro k h1 h2
 have:=List.all_eq_true.1 h k (List.mem_range.2 h1)
 simp only [decide_eq_true_eq] at this
 rwa [getElem!_pos a k h1,getElem!_pos b k h2] at this
theorem Uo {α:Type} [Inhabited α] [DecidableEq α] (a:List α):((List.range a.length).all fun k=>decide (a[k]! = a[k]!))=true:=by
 rw [List.all_eq_true]; intro k _; rw [decide_eq_true rfl]
theorem Ng {κ:Ah→Nat} (h3 : ∀ a,a.Name.length+a.Value.length+1≤κ a) {l:List Ah} (hb:(l.map κ).sum≤1048576):MQ l:=by
 have h1:=Fu (μ:=κ) (fun a=>by have:=h3 a; omega) l
 refine ⟨by omega,fun a ha=>?_⟩
 have h2:=Lo (μ:=κ) ha
 have:=h3 a
 omega
theorem V5 (n:Nat) (us:List Int) (f p t:Int) (h:f≤p):A8 (BT p (BF (List.replicate n 0++us) f) t)=if p<f+n then t+p-f else A8 (BT p (BF us (f+n)) (t+n)):=by
 induction n generalizing f t with
 | zero=>rw [if_neg (by simp; omega)]; simp
 | succ n ih=>
  rw [List.replicate_succ,List.cons_append,BF,if_pos rfl,BT]
  by_cases e:f=p
  ·rw [if_pos e,if_pos (by omega)]; show t=_; omega
  ·rw [if_neg e,ih (f+1) (t+1) (by omega)]
   rw [show f+1+(n:Int)=f+((n+1:Nat):Int) by omega,show t+1+(n:Int)=t+((n+1:Nat):Int) by omega,show t+1+p-(f+1)=t+p-f by omega]
theorem Qc (n:Nat) (us:List Int) (f p t:Int) (h:0≤p):BT p (BF (List.replicate n 1++us) f) t=BT p (BF us f) (t+n):=by
 induction n generalizing t with
 | zero=>simp
 | succ n ih=>
  rw [List.replicate_succ,List.cons_append,BF,if_neg (by decide),if_pos rfl,BT,if_neg (by omega),ih,show t+1+(n:Int)=t+((n+1:Nat):Int) by omega]
theorem Vm (n:Nat) (us:List Int) (f:Int):BF (List.replicate n 2++us) f=BF us (f+n):=by
 induction n generalizing f with
 | zero=>simp
 | succ n ih=>
  rw [List.replicate_succ,List.cons_append,BF,if_neg (by decide),if_neg (by decide),ih,show f+1+(n:Int)=f+((n+1:Nat):Int) by omega]
theorem R2 (us:List Int) (f p t:Int) (h0:0≤p) (h:p<f):BT p (BF us f) t = .nrm ():=by
 induction us generalizing f t with
 | nil=>rfl
 | cons u us ih=>
  rw [BF]
  split
  ·rw [BT,if_neg (by omega)]; exact ih _ _ (by omega)
  ·split
   ·rw [BT,if_neg (by omega)]; exact ih _ _ (by omega)
   ·exact ih _ _ (by omega)
theorem QC (a:List AI) (h : ∀ s∈a,A4 s) (f p t:Int) (h0:0≤p) (hp:f≤p):A8 (BT p (BF (DF a) f) t)=A8 (By p a (f,t)):=by
 induction a generalizing f t with
 | nil=>rfl
 | cons s a ih=>
  have hs:=h s (List.mem_cons_self ..)
  have hr : ∀ s∈a,A4 s:=fun x hx=>h x (List.mem_cons_of_mem _ hx)
  unfold A4 at hs
  have hn:((s.N.toNat:Nat):Int)=s.N:=by omega
  rw [Ki,EI]
  by_cases d1:s.Kind=1
  ·rw [if_pos d1,d1,Qc _ _ _ _ _ h0,hn]; exact ih hr _ _ hp
  ·rw [if_neg d1]
   by_cases d0:s.Kind=0
   ·rw [d0,V5 _ _ _ _ _ hp,hn]
    simp only [if_true]
    split
    ·rfl
    ·exact ih hr _ _ (by omega)
   ·have d2:s.Kind=2:=by omega
    rw [d2,Vm,hn]
    simp only [show ¬ ((2:Int)=0) by decide,if_false]
    by_cases e:p<f+s.N
    ·rw [if_pos e,R2 _ _ _ _ h0 e]; rfl
    ·rw [if_neg e]; exact ih hr _ _ (by omega)
theorem Ns (a:List AI) (hm:a.length≤9223372036854775807):JS a=some (if Av a≠0 then (0,0,Av a) else (An a,A0 a,0)):=by
 unfold JS
 rw [LM a hm,AD]
 by_cases he:Av a=0
 ·rw [if_neg (show ¬ ((!decide (Av a=0))=true) by simpa using he),if_neg (show ¬ (Av a≠0) by simpa using he),Nn a (Cu he),BK]
 ·rw [if_pos (by simpa using he),if_pos he]
def W0:N9:=⟨[],0,0⟩
instance:Inhabited Un:=⟨.r false []⟩
def off (n:List UInt8):Ah:=⟨n,[]⟩
theorem UQ:D5.length=256:=by decide +kernel
theorem WC (s:List UInt8) (k:Nat) (hk:k≤s.length):B3 s (k:Int) (s.length:Int)=some (s.drop k):=by
 unfold B3
 rw [if_pos (by omega)]
 congr 1
 rw [List.take_of_length_le (by simp),Int.toNat_natCast]
theorem Uz (l:List Ah) (h:l.length≤1073741824):BR 32 ([]:List Ah) l=some l:=by
 unfold BR
 rw [if_pos (by simp only [List.length_nil]; omega)]; rfl
theorem Lh {α:Type} [Inhabited α] [DecidableEq α] {f:Int→Option (Int ⊕ Af Unit Bool)} (a b:List α) (hl:a.length=b.length)
  (h1 : ∀ k:Nat,k<a.length→f k=CO k (if decide (a[k]! = b[k]!) then none else some false)) (h2:f a.length=some (.inr (.nrm ()))) :
  (Ar (iter f 0) fun (_:Unit)=>some true)=some (decide (a=b)):=by
 rw [CW (n:=a.length) (fun k=>if decide (a[k]! = b[k]!) then none else some false) h1 h2,LX,Dq]
 by_cases h:a=b
 ·subst h; rw [Uo,decide_eq_true rfl]; rfl
 ·rw [decide_eq_false h]
  have:((List.range a.length).all fun k=>decide (a[k]! = b[k]!))=false:=by
   rw [← Bool.not_eq_true]; exact fun hh=>h (UA hl hh)
  rw [this]; rfl
theorem Mc (x y:AC):(decide (x.Row=y.Row) && (decide (x.Col=y.Col) && (decide (x.H=y.H) && (decide (x.W=y.W) && true))))=decide (x=y):=by
 obtain ⟨x1,x2,x3,x4⟩:=x
 obtain ⟨y1,y2,y3,y4⟩:=y
 rw [Bool.eq_iff_iff]; simp
theorem W4 (a b:List AC) (hm:a.length≤9223372036854775806):NZ a b=some (decide (a=b)):=by
 unfold NZ
 by_cases hl:a.length=b.length
 ·rw [if_neg (by simp [hl])]
  exact Lh a b hl (fun k hk=>by
   unfold MO
   rw [if_pos (by simpa using hk),Ac hk,Ac (by omega),AD,AD,Mc,Am (by omega)]
   generalize a[k]! = x
   generalize b[k]! = y
   by_cases h:x=y <;> simp [h,CO]) (by unfold MO; rw [if_neg (by simp)])
 ·rw [if_pos (by simp; omega),decide_eq_false (by rintro rfl; exact hl rfl)]
theorem VY (a b:List AC) (hm:a.length≤9223372036854775806):I7 a b=some (decide (a=b)):=by
 unfold I7
 by_cases hl:a.length=b.length
 ·rw [if_neg (by simp [hl])]
  exact Lh a b hl (fun k hk=>by
   unfold In
   rw [if_pos (by simpa using hk),Ac hk,Ac (by omega),AD,AD,Mc,Am (by omega)]
   generalize a[k]! = x
   generalize b[k]! = y
   by_cases h:x=y <;> simp [h,CO]) (by unfold In; rw [if_neg (by simp)])
 ·rw [if_pos (by simp; omega),decide_eq_false (by rintro rfl; exact hl rfl)]
theorem Td (x y:AE) (hm:x.Attrs.length≤1073741824):MU x y=some (decide (x=y)):=by
 unfold MU
 rw [Vb _ _ (by omega)]
 obtain ⟨x1,x2,x3,x4,x5⟩:=x
 obtain ⟨y1,y2,y3,y4,y5⟩:=y
 by_cases h1:x1=y1 <;> by_cases h2:x2=y2 <;> by_cases h3:x3=y3 <;> by_cases h4:x4=y4 <;> by_cases h5:x5=y5 <;> simp [h1,h2,h3,h4,h5,gd,AD]
theorem Sz (x y:AE) (hm:x.Attrs.length≤1073741824):KF x y=some (decide (x=y)):=by
 unfold KF
 rw [RR _ _ (by omega)]
 obtain ⟨x1,x2,x3,x4,x5⟩:=x
 obtain ⟨y1,y2,y3,y4,y5⟩:=y
 by_cases h1:x1=y1 <;> by_cases h2:x2=y2 <;> by_cases h3:x3=y3 <;> by_cases h4:x4=y4 <;> by_cases h5:x5=y5 <;> simp [h1,h2,h3,h4,h5,gd,AD]
theorem Wz (a b:List AE) (hm:a.length≤9223372036854775806) (h : ∀ x∈a,x.Attrs.length≤1073741824):Nf a b=some (decide (a=b)):=by
 unfold Nf
 by_cases hl:a.length=b.length
 ·rw [if_neg (by simp [hl])]
  exact Lh a b hl (fun k hk=>by
   unfold Mx
   rw [if_pos (by simpa using hk),Ac hk,Ac (by omega),AD,AD,Td _ _ (h _ (Cy hk)),AD,Am (by omega)]
   generalize a[k]! = x
   generalize b[k]! = y
   by_cases h:x=y <;> simp [h,CO]) (by unfold Mx; rw [if_neg (by simp)])
 ·rw [if_pos (by simp; omega),decide_eq_false (by rintro rfl; exact hl rfl)]
theorem Sp (a b:List AE) (hm:a.length≤9223372036854775806) (h : ∀ x∈a,x.Attrs.length≤1073741824):KG a b=some (decide (a=b)):=by
 unfold KG
 by_cases hl:a.length=b.length
 ·rw [if_neg (by simp [hl])]
  exact Lh a b hl (fun k hk=>by
   unfold Ij
   rw [if_pos (by simpa using hk),Ac hk,Ac (by omega),AD,AD,Sz _ _ (h _ (Cy hk)),AD,Am (by omega)]
   generalize a[k]! = x
   generalize b[k]! = y
   by_cases h:x=y <;> simp [h,CO]) (by unfold Ij; rw [if_neg (by simp)])
 ·rw [if_pos (by simp; omega),decide_eq_false (by rintro rfl; exact hl rfl)]
theorem Lx {β:Type} (p:Nat→Bool) (F:Nat→β) (l:List Nat):(l.findSome? fun k=>if p k then some (F k) else none)=(l.find? p).map F:=by
 induction l with
 | nil=>rfl
 | cons a l ih=>rw [List.findSome?_cons,List.find?_cons]; by_cases h:p a=true <;> simp [h,ih]
theorem EC {n:Nat} (h:n<2147483648):IntKind.i32.wrap (n:Int)=(n:Int):=by
 have e:(n:Int) % (2 ^ (32:Nat):Int)=(n:Int):=Int.emod_eq_of_lt (by omega) (by omega)
 show (if (true && decide ((n:Int) % (2 ^ (32:Nat):Int) ≥ (2 ^ (31:Nat):Int)))=true then (n:Int) % (2 ^ (32:Nat):Int)-(2 ^ (32:Nat):Int) else (n:Int) % (2 ^ (32:Nat):Int))=_
 rw [e,if_neg]
 simp only [Bool.true_and,decide_eq_true_eq]
 omega
theorem Qk {n:Nat} (h:n<9223372036854775808):IntKind.i64.wrap (n:Int)=(n:Int):=by
 have e:(n:Int) % (2 ^ (64:Nat):Int)=(n:Int):=Int.emod_eq_of_lt (by omega) (by omega)
 show (if (true && decide ((n:Int) % (2 ^ (64:Nat):Int) ≥ (2 ^ (63:Nat):Int)))=true then (n:Int) % (2 ^ (64:Nat):Int)-(2 ^ (64:Nat):Int) else (n:Int) % (2 ^ (64:Nat):Int))=_
 rw [e,if_neg]
 simp only [Bool.true_and,decide_eq_true_eq]
 omega
theorem Ho (i a b:Nat) (hb:b<2 ^ i) (hs:a * 2 ^ i+b<2147483648):CX .i32 ((a * 2 ^ i:Nat):Int) (b:Int)=((a * 2 ^ i+b:Nat):Int):=by
 unfold CX
 have h1:(BitVec.ofInt 32 ((a * 2 ^ i:Nat):Int) ||| BitVec.ofInt 32 (b:Int)).toNat=a * 2 ^ i+b:=by
  rw [BitVec.toNat_or,BitVec.ofInt_natCast,BitVec.ofInt_natCast,BitVec.toNat_ofNat,BitVec.toNat_ofNat,Nat.mod_eq_of_lt (by omega),Nat.mod_eq_of_lt (by omega)]
  rw [← Nat.shiftLeft_eq,Nat.shiftLeft_add_eq_or_of_lt hb]
 show IntKind.i32.wrap ((BitVec.ofInt 32 ((a * 2 ^ i:Nat):Int) ||| BitVec.ofInt 32 (b:Int)).toNat:Int)=_
 rw [h1]; exact EC hs
theorem WQ : ∀ b:Fin 256,Ba .u8 ((b.val:Nat):Int) 31=((b.val % 32:Nat):Int):=by decide +kernel
theorem Sc : ∀ b:Fin 256,Ba .u8 ((b.val:Nat):Int) 15=((b.val % 16:Nat):Int):=by decide +kernel
theorem WT : ∀ b:Fin 256,Ba .u8 ((b.val:Nat):Int) 7=((b.val % 8:Nat):Int):=by decide +kernel
theorem H0 : ∀ b:Fin 256,Ba .u8 ((b.val:Nat):Int) 63=((b.val % 64:Nat):Int):=by decide +kernel
theorem Hb (i a:Nat) (hi:i≤32) (hs:a * 2 ^ i<2147483648):CF .i32 (a:Int) i=((a * 2 ^ i:Nat):Int):=by
 unfold CF
 show IntKind.i32.wrap ((a:Int) * 2 ^ (min i 32))=_
 rw [Nat.min_eq_left hi,show (a:Int) * 2 ^ i=((a * 2 ^ i:Nat):Int) by push_cast; rfl,EC hs]
theorem S8 : ∀ c:Fin 256,D5[c.val]! = (Lib.firstT c.val:Int):=by decide +kernel
theorem Ux : ∀ c:Fin 256,CX .i32 (Km .i32 (IntKind.i32.wrap (c.val:Int)) (FX .i32 (CF .i32 (IntKind.i32.wrap 241) 31) 31)) (Ba .i32 65533 (FX .i32 (CF .i32 (IntKind.i32.wrap 241) 31) 31))=65533:=by decide +kernel
theorem UV : ∀ c:Fin 256,IntKind.i64.wrap (Ba .u8 (Lib.firstT c.val:Int) 7)=((Lib.firstT c.val % 8:Nat):Int):=by decide +kernel
theorem V2 : ∀ c:Fin 256,AO Lk (FX .u8 (Lib.firstT c.val:Int) 4)=some (FI.mk (Lib.accLo (Lib.firstT c.val / 16)) (Lib.accHi (Lib.firstT c.val / 16))):=by decide +kernel
theorem WD : ∀ c:Fin 256,128≤c.val→Lib.firstT c.val=241∨(2≤Lib.firstT c.val % 8∧Lib.firstT c.val % 8≤4∧Lib.firstT c.val<240):=by decide +kernel
theorem VI (c d:Fin 256):CX .i32 (CF .i32 (IntKind.i32.wrap (Ba .u8 ((c.val:Nat):Int) 31)) 6) (IntKind.i32.wrap (Ba .u8 ((d.val:Nat):Int) 63))=((c.val % 32 * 64+d.val % 64:Nat):Int):=by
 rw [WQ,H0,EC (by omega),EC (by omega),Hb 6 _ (by omega) (by omega),Ho 6 _ _ (by omega) (by omega)]
theorem SD (c d e:Fin 256):CX .i32 (CX .i32 (CF .i32 (IntKind.i32.wrap (Ba .u8 ((c.val:Nat):Int) 15)) 12) (CF .i32 (IntKind.i32.wrap (Ba .u8 ((d.val:Nat):Int) 63)) 6)) (IntKind.i32.wrap (Ba .u8 ((e.val:Nat):Int) 63)) =
  ((c.val % 16 * 4096+d.val % 64 * 64+e.val % 64:Nat):Int):=by
 rw [Sc,H0,H0,EC (by omega),EC (by omega),EC (by omega),Hb 12 _ (by omega) (by omega),Hb 6 _ (by omega) (by omega),Ho 12 _ _ (by omega) (by omega),
  show c.val % 16 * 2 ^ 12+d.val % 64 * 2 ^ 6=(c.val % 16 * 64+d.val % 64) * 2 ^ 6 by omega,Ho 6 _ _ (by omega) (by omega)]
theorem RD (c d e f:Fin 256):CX .i32 (CX .i32 (CX .i32 (CF .i32 (IntKind.i32.wrap (Ba .u8 ((c.val:Nat):Int) 7)) 18) (CF .i32 (IntKind.i32.wrap (Ba .u8 ((d.val:Nat):Int) 63)) 12)) (CF .i32 (IntKind.i32.wrap (Ba .u8 ((e.val:Nat):Int) 63)) 6)) (IntKind.i32.wrap (Ba .u8 ((f.val:Nat):Int) 63)) =
  ((c.val % 8 * 262144+d.val % 64 * 4096+e.val % 64 * 64+f.val % 64:Nat):Int):=by
 rw [WT,H0,H0,H0,EC (by omega),EC (by omega),EC (by omega),EC (by omega),Hb 18 _ (by omega) (by omega),Hb 12 _ (by omega) (by omega),Hb 6 _ (by omega) (by omega),Ho 18 _ _ (by omega) (by omega),
  show c.val % 8 * 2 ^ 18+d.val % 64 * 2 ^ 12=(c.val % 8 * 64+d.val % 64) * 2 ^ 12 by omega,Ho 12 _ _ (by omega) (by omega),
  show (c.val % 8 * 64+d.val % 64) * 2 ^ 12+e.val % 64 * 2 ^ 6=((c.val % 8 * 64+d.val % 64) * 64+e.val % 64) * 2 ^ 6 by omega,Ho 6 _ _ (by omega) (by omega)]
theorem IO (s:List UInt8) (k:Nat) (h:k<s.length):s.getD k 0=s[k]!:=by
 rw [getElem!_pos s k h,List.getD_eq_getElem?_getD,List.getElem?_eq_getElem h]; rfl
theorem UE (s:List UInt8) (h:s≠[]) (h128:128≤(s.getD 0 0).toNat):Jf s=some (((Lib.decodeL s).1:Int),((Lib.decodeL s).2:Int)):=by
 have h0:0<s.length:=List.length_pos_iff.2 h
 rw [Lib.decodeL_N]
 unfold Jf
 rw [if_neg (by rw [decide_eq_true_eq]; omega),show (0:Int)=((0:Nat):Int) from rfl,Ac h0,AD]
 rw [IO s 0 h0] at h128 ⊢
 generalize s[0]! = c at h128 ⊢
 obtain ⟨C,hC⟩ : ∃ C:Fin 256,C.val=c.toNat:=⟨⟨c.toNat,c.toNat_lt⟩,rfl⟩
 rw [← hC] at h128 ⊢
 rw [Ac (l:=D5) (by rw [UQ]; exact C.isLt),AD,S8,V2,UV]
 rcases WD C h128 with hf | ⟨hf1,hf2,hf3⟩
 ·rw [if_pos (by rw [decide_eq_true_eq]; omega),Lib.bad_eq _ _ _ _ _ C.isLt hf,hf]
  show some (_,(1:Int))=_
  rw [show ((241:Nat):Int)=241 from rfl,Ux C]; rfl
 ·rw [if_neg (by rw [decide_eq_true_eq]; omega),AD]
  have hsl:=Lib.slow_eq s.length C.val (s.getD 1 0).toNat (s.getD 2 0).toNat (s.getD 3 0).toNat h0 (UInt8.toNat_lt _) (UInt8.toNat_lt _) (UInt8.toNat_lt _) hf3
  rw [← hsl]
  generalize hsz:Lib.firstT C.val % 8=sz at hf1 hf2 ⊢
  generalize Lib.accLo (Lib.firstT C.val / 16)=lo
  generalize Lib.accHi (Lib.firstT C.val / 16)=hi
  unfold Lib.slowN
  by_cases hl:s.length<sz
  ·rw [if_pos (by rw [decide_eq_true_eq]; omega),if_pos hl]; rfl
  rw [if_neg (by rw [decide_eq_true_eq]; omega),if_neg hl,show (1:Int)=((1:Nat):Int) from rfl,Ac (by omega),AD,IO s 1 (by omega)]
  generalize s[1]! = d
  obtain ⟨D,hD⟩ : ∃ D:Fin 256,D.val=d.toNat:=⟨⟨d.toNat,d.toNat_lt⟩,rfl⟩
  rw [← hD]
  by_cases c1:D.val<lo∨hi<D.val
  ·rw [if_pos (by simp only [Bool.or_eq_true,decide_eq_true_eq]; omega),if_pos c1]; rfl
  rw [if_neg (by simp only [Bool.or_eq_true,decide_eq_true_eq]; omega),if_neg c1]
  by_cases e2:sz≤2
  ·rw [if_pos (by rw [decide_eq_true_eq]; omega),if_pos e2,VI]; rfl
  rw [if_neg (by rw [decide_eq_true_eq]; omega),if_neg e2,show (2:Int)=((2:Nat):Int) from rfl,Ac (by omega),AD,IO s 2 (by omega)]
  generalize s[2]! = e
  obtain ⟨E,hE⟩ : ∃ E:Fin 256,E.val=e.toNat:=⟨⟨e.toNat,e.toNat_lt⟩,rfl⟩
  rw [← hE]
  by_cases c2:E.val<128∨191<E.val
  ·rw [if_pos (by simp only [Bool.or_eq_true,decide_eq_true_eq]; omega),if_pos c2]; rfl
  rw [if_neg (by simp only [Bool.or_eq_true,decide_eq_true_eq]; omega),if_neg c2]
  by_cases e3:sz≤3
  ·rw [if_pos (by rw [decide_eq_true_eq]; omega),if_pos e3,SD]; rfl
  rw [if_neg (by rw [decide_eq_true_eq]; omega),if_neg e3,show (3:Int)=((3:Nat):Int) from rfl,Ac (by omega),AD,IO s 3 (by omega)]
  generalize s[3]! = f
  obtain ⟨F,hF⟩ : ∃ F:Fin 256,F.val=f.toNat:=⟨⟨f.toNat,f.toNat_lt⟩,rfl⟩
  rw [← hF]
  by_cases c3:F.val<128∨191<F.val
  ·rw [if_pos (by simp only [Bool.or_eq_true,decide_eq_true_eq]; omega),if_pos c3]; rfl
  rw [if_neg (by simp only [Bool.or_eq_true,decide_eq_true_eq]; omega),if_neg c3,RD]; rfl
theorem SZ (s:List UInt8) (h:s≠[]):Iv s=some (((Lib.decodeL s).1:Int),((Lib.decodeL s).2:Int)):=by
 have h0:0<s.length:=List.length_pos_iff.2 h
 unfold Iv
 rw [decide_eq_false h,show ((!false) == true)=true from rfl,Ak,show (0:Int)=((0:Nat):Int) from rfl,Ac h0,AD,Bool.not_false,Bool.true_and]
 by_cases hc:(s[0]!).toNat<128
 ·rw [if_pos (by rw [decide_eq_true_eq]; omega),AD,EC (by omega)]
  obtain ⟨c,t,rfl⟩:=List.exists_cons_of_ne_nil h
  have hc':c.toNat<128:=hc
  rw [Lib.decodeL_ascii c t hc']; rfl
 ·rw [if_neg (by rw [decide_eq_true_eq]; omega),UE s h (by rw [IO s 0 h0]; omega),BK]
def D8 (r:Nat):Bool:=decide (r=10) || !Fo (r:Int)
def Ew:Nat→List UInt8→Bool
 | 0,_=>true
 | n+1,s=>if s=[] then true else if ((Lib.decodeL s).1=65533∧(Lib.decodeL s).2=1)∨D8 (Lib.decodeL s).1=true then false else Ew n (s.drop (Lib.decodeL s).2)
theorem QB (n:Nat) (s:List UInt8):Ew (n+1) s=if s=[] then true else if ((Lib.decodeL s).1=65533∧(Lib.decodeL s).2=1)∨D8 (Lib.decodeL s).1=true then false else Ew n (s.drop (Lib.decodeL s).2):=rfl
def Je:Nat→List UInt8→Bool
 | 0,_=>true
 | n+1,s=>if s=[] then true else if D8 (Lib.decodeL s).1=true then false else Je n (s.drop (Lib.decodeL s).2)
theorem QP (n:Nat) (s:List UInt8):Je (n+1) s=if s=[] then true else if D8 (Lib.decodeL s).1=true then false else Je n (s.drop (Lib.decodeL s).2):=rfl
theorem UO : ∀ (n:Nat) (s:List UInt8),s.length≤n→(Lib.validD s && Je n s)=Ew n s:=by
 intro n
 induction n with
 | zero=>intro s hs; obtain rfl:=List.eq_nil_of_length_eq_zero (Nat.le_zero.1 hs); rfl
 | succ n ih=>
  intro s hs
  rw [QB,QP]
  by_cases hn:s=[]
  ·subst hn; rfl
  ·have hw:=Lib.decodeL_width s
   have hl:=List.length_pos_iff.2 hn
   rw [if_neg hn,if_neg hn,Lib.validD_step s hn]
   by_cases hv:(Lib.decodeL s).1=65533∧(Lib.decodeL s).2=1
   ·rw [if_pos hv,if_pos (show ((Lib.decodeL s).1=65533∧(Lib.decodeL s).2=1)∨D8 (Lib.decodeL s).1=true from .inl hv)]; rfl
   ·rw [if_neg hv]
    by_cases hb:D8 (Lib.decodeL s).1=true
    ·rw [if_pos hb,if_pos (.inr hb),Bool.and_false]
    ·rw [if_neg hb,if_neg (by rintro (h | h); exact hv h; exact hb h)]
     exact ih _ (by rw [List.length_drop]; omega)
theorem OM (r:Nat) (h:r≤1114111):IntKind.i64.wrap (r:Int)=(r:Int):=Qk (by omega)
theorem Tk (s:List UInt8):JF s=some (Ew s.length s):=by
 unfold JF
 have key : ∀ (n:Nat) (s:List UInt8),s.length≤n→(Ar (iter (fun (a:(List UInt8))=>DV a) s) fun (_:Unit)=>some true)=some (Ew n s):=by
  intro n
  induction n with
  | zero=>
   intro s hs
   obtain rfl:=List.eq_nil_of_length_eq_zero (Nat.le_zero.1 hs)
   have h1:(fun (a:(List UInt8))=>DV a) []=some (.inr (.nrm ())):=by
    show DV []=_
    unfold DV; rfl
   rw [BG h1]; rfl
  | succ n ih=>
   intro s hs
   rw [QB]
   by_cases hn:s=[]
   ·subst hn
    have h1:(fun (a:(List UInt8))=>DV a) []=some (.inr (.nrm ())):=by
     show DV []=_
     unfold DV; rfl
    rw [BG h1]; rfl
   ·have hw:=Lib.decodeL_width s
    have hle:=Lib.decodeL_le s hn
    have hr:=Lib.decodeL_rune s
    have hstep:DV s=if ((Lib.decodeL s).1=65533∧(Lib.decodeL s).2=1)∨D8 (Lib.decodeL s).1=true then some (.inr (.ext false)) else some (.inl (s.drop (Lib.decodeL s).2)):=by
     unfold DV D8
     rw [if_pos (Dr hn),SZ s hn,BK,OM _ hr,So]
     generalize (Lib.decodeL s).1=r at *
     generalize (Lib.decodeL s).2=w at *
     by_cases h1:r=65533∧w=1
     ·obtain ⟨rfl,rfl⟩:=h1
      rw [if_pos (.inl ⟨rfl,rfl⟩)]; rfl
     ·have e1:((decide ((r:Int)=65533)) && (decide ((w:Int)=1)))=false:=by
       rw [← Bool.not_eq_true,Bool.and_eq_true,decide_eq_true_eq,decide_eq_true_eq]; omega
      by_cases h2:r=10
      ·subst h2
       rw [if_pos (.inr (by rfl)),e1]; rfl
      ·have e2:(decide ((r:Int)=10))=false:=decide_eq_false (by omega)
       rw [e1,e2,decide_eq_false h2]
       show (AB (gd true (some (Fo (r:Int)))) fun (r3:Bool)=>_)=_
       rw [Ak,AD,WC s w hle,AD]
       cases Fo (r:Int)
       ·rw [if_pos (show (r=65533∧w=1)∨(false || !false)=true from .inr rfl)]; rfl
       ·rw [if_neg (show ¬ ((r=65533∧w=1)∨(false || !true)=true) by rintro (h | h); exact h1 h; exact absurd h (by decide))]; rfl
    by_cases hb:((Lib.decodeL s).1=65533∧(Lib.decodeL s).2=1)∨D8 (Lib.decodeL s).1=true
    ·rw [if_pos hb] at hstep
     rw [BG (f:=fun (a:(List UInt8))=>DV a) hstep,if_neg hn,if_pos hb]; rfl
    ·rw [if_neg hb] at hstep
     rw [CN (f:=fun (a:(List UInt8))=>DV a) hstep,if_neg hn,if_neg hb]
     exact ih _ (by rw [List.length_drop]; omega)
 exact key s.length s (Nat.le_refl _)
theorem V3 (s:List UInt8) (p:Nat):D6 s p=Lib.decodeL (s.drop p):=(Lib.decodeL_drop ⟨s.toArray⟩ p).symm
theorem WL (s:List UInt8) (hs:s.length≤9223372036854775807):KB s=some (Ew s.length s):=by
 unfold KB LC KV
 rw [if_pos hs,AD,← UO s.length s (Nat.le_refl _)]
 cases Lib.validD s with
 | false=>rfl
 | true=>
  rw [if_neg (by decide),Bool.true_and]
  have key : ∀ (n p:Nat),s.length-p≤n→(Ar (iter (fun (a:(Nat))=>Da s a) p) fun (_:Unit)=>some true)=some (Je n (s.drop p)):=by
   intro n
   induction n with
   | zero=>
    intro p hp
    have h1:(fun (a:(Nat))=>Da s a) p=some (.inr (.nrm ())):=by
     show Da s p=_
     unfold Da; rw [if_neg (by rw [decide_eq_true_eq]; omega)]
    rw [BG h1]; rfl
   | succ n ih=>
    intro p hp
    rw [QP]
    by_cases hn:s.length≤p
    ·have h1:(fun (a:(Nat))=>Da s a) p=some (.inr (.nrm ())):=by
      show Da s p=_
      unfold Da; rw [if_neg (by rw [decide_eq_true_eq]; omega)]
     rw [BG h1,if_pos (List.drop_eq_nil_of_le hn)]; rfl
    ·have hne:s.drop p≠[]:=by
      intro e
      have:=congrArg List.length e
      rw [List.length_drop,List.length_nil] at this
      omega
     have hw:=Lib.decodeL_width (s.drop p)
     have hr:=Lib.decodeL_rune (s.drop p)
     have hstep:Da s p=if D8 (Lib.decodeL (s.drop p)).1=true then some (.inr (.ext false)) else some (.inl (p+(Lib.decodeL (s.drop p)).2)):=by
      unfold Da D8
      rw [if_pos (by rw [decide_eq_true_eq]; omega),V3,OM _ hr,RM]
      generalize (Lib.decodeL (s.drop p)).1=r at *
      generalize (Lib.decodeL (s.drop p)).2=w at *
      by_cases h2:r=10
      ·subst h2; rfl
      ·rw [decide_eq_false h2,decide_eq_false (show ¬ ((r:Int)=10) by omega)]
       show (AB (gd true (some (Fo (r:Int)))) fun (r3:Bool)=>_)=_
       rw [Ak,AD]
     rw [if_neg hne]
     by_cases hb:D8 (Lib.decodeL (s.drop p)).1=true
     ·rw [if_pos hb] at hstep
      rw [BG (f:=fun (a:(Nat))=>Da s a) hstep,if_pos hb]; rfl
     ·rw [if_neg hb] at hstep
      rw [CN (f:=fun (a:(Nat))=>Da s a) hstep,if_neg hb,List.drop_drop]
      exact ih _ (by omega)
  have:=key s.length 0 (by omega)
  rw [List.drop_zero] at this
  exact this
theorem LS (x y:Int):GO x y=some (if x<y then -1 else if y<x then 1 else 0):=by
 unfold GO Jo
 rw [decide_eq_true (rfl:x=x),decide_eq_true (rfl:y=y),AD,AD,if_neg (by decide),if_neg (by decide)]
 by_cases h1:x<y
 ·rw [if_pos (decide_eq_true h1),if_pos h1]
 ·rw [if_neg (by simpa using h1),if_neg h1]
  by_cases h2:y<x
  ·rw [if_pos (decide_eq_true h2),if_pos h2]
  ·rw [if_neg (by simpa using h2),if_neg h2]
theorem PX (a b:Int):H2 [a,b]=some (if a≠0 then a else b):=by
 unfold H2
 by_cases ha:a≠0
 ·have h1:(fun (x:Int)=>Cc [a,b] x) 0=some (.inr (.ext a)):=by
   show Cc [a,b] 0=_
   unfold Cc
   rw [if_pos (by simp),show AO [a,b] 0=some a from rfl,AD,if_pos (Dr ha)]
  rw [BG h1,if_pos ha]; rfl
 ·have ha':a=0:=Classical.not_not.1 ha
  have h1:(fun (x:Int)=>Cc [a,b] x) 0=some (.inl 1):=by
   show Cc [a,b] 0=_
   unfold Cc
   rw [if_pos (by simp),show AO [a,b] 0=some a from rfl,AD,if_neg (DW ha')]; rfl
  by_cases hb:b≠0
  ·have h2:(fun (x:Int)=>Cc [a,b] x) 1=some (.inr (.ext b)):=by
    show Cc [a,b] 1=_
    unfold Cc
    rw [if_pos (by simp),show AO [a,b] 1=some b from rfl,AD,if_pos (Dr hb)]
   rw [CN h1,BG h2,if_neg ha]; rfl
  ·have hb':b=0:=Classical.not_not.1 hb
   have h2:(fun (x:Int)=>Cc [a,b] x) 1=some (.inl 2):=by
    show Cc [a,b] 1=_
    unfold Cc
    rw [if_pos (by simp),show AO [a,b] 1=some b from rfl,AD,if_neg (DW hb')]; rfl
   have h3:(fun (x:Int)=>Cc [a,b] x) 2=some (.inr (.nrm ())):=by
    show Cc [a,b] 2=_
    unfold Cc
    rw [if_neg (by simp)]
   rw [CN h1,CN h2,BG h3,if_neg ha,hb']; rfl
def A5 (a b c d:Int):Int:=if a<b then -1 else if b<a then 1 else if c<d then -1 else if d<c then 1 else 0
theorem Pg (a b c d:Int):(if (if a<b then -1 else if b<a then 1 else 0)≠(0:Int) then (if a<b then -1 else if b<a then 1 else 0) else if c<d then -1 else if d<c then 1 else (0:Int))=A5 a b c d:=by
 unfold A5
 by_cases h1:a<b
 ·simp [h1]
 ·by_cases h2:b<a
  ·simp [h1,h2]
  ·simp [h1,h2]
theorem Ie (a b c d:Int):0≤A5 a b c d↔(b<a∨(b=a∧d≤c)):=by
 unfold A5
 split
 ·constructor <;> intro h <;> omega
 ·split
  ·constructor <;> intro h <;> omega
  ·split
   ·constructor <;> intro h <;> omega
   ·split
    ·constructor <;> intro h <;> omega
    ·constructor <;> intro h <;> omega
theorem Ko (a b:AE):FD a b=some (A5 a.Row b.Row a.Col b.Col):=by
 unfold FD
 rw [LS,LS,AD,AD,PX,AD,Pg]
theorem ER (x a b:Int):CS x a b=some (decide (a≤x∧x≤b)):=by
 rw [Hg]
 congr 1
 rw [Bool.eq_iff_iff]; simp
def Eg (rows cols:Int) (c:AE):Prop:=0≤c.Row∧c.Row<rows∧0≤c.Col∧c.Col<cols∧0≤c.Ref∧c.Ref≤1073741824
instance (rows cols:Int) (c:AE):Decidable (Eg rows cols c):=by unfold Eg; infer_instance
def BX (c:AE):Bool:=decide (c.Text=[]) && decide (c.Ref=0) && decide (c.Attrs=[])
def JX (rows cols:Int) (none_:Bool) (c:AE):Int:=
 if ¬ Eg rows cols c then 2 else if Ew c.Text.length c.Text=false then 23 else if HC c.Attrs false≠0 then HC c.Attrs false else if (!none_ && BX c)=true then 4 else 0
def EW (rows cols:Int) (none_:Bool) (l:List AE) (k:Nat):Option Int:=
 if JX rows cols none_ l[k]! ≠ 0 then some (JX rows cols none_ l[k]!) else if 0<k∧0≤A5 l[k-1]!.Row l[k]!.Row l[k-1]!.Col l[k]!.Col then some 5 else none
def CR (rows cols:Int) (none_:Bool) (l:List AE):Int:=((List.range l.length).findSome? (EW rows cols none_ l)).getD 0
theorem KX (l:List Ah):decide ((l.length:Int)=0)=decide (l=[]):=by
 rw [Bool.eq_iff_iff,decide_eq_true_eq,decide_eq_true_eq,← List.length_eq_zero_iff]; omega
def FC (c:AE):Prop:=MQ c.Attrs∧c.Text.length≤1073741824
theorem Rg (l:List AE) (k:Nat) (hk:k<l.length) (hm:l.length≤9223372036854775806) :
  (AB (gd ((decide (0<(k:Int))) == true) (AL .i64 ((k:Int)-1))) fun (x5:Int)=>
   AB (gd ((decide (0<(k:Int))) == true) (AO l x5)) fun (x6:AE)=>
   AB (gd ((decide (0<(k:Int))) == true) (FD x6 l[k]!)) fun (r3:Int)=>
   if ((decide (0<(k:Int))) && (decide (0≤r3))) then (some (.inr (.ext 5)):Option (Int ⊕ (Af Unit Int))) else (
    AB (AL .i64 ((k:Int)+1)) fun (x7:Int)=>some (.inl x7)))=CO k (if 0<k∧0≤A5 l[k-1]!.Row l[k]!.Row l[k-1]!.Col l[k]!.Col then some 5 else none):=by
 by_cases h0:0<k
 ·rw [decide_eq_true (show (0:Int)<k by omega),show ((true == true):Bool)=true from rfl,Ak,En h0 (by omega),AD,Ak,Ac (by omega),AD,Ak,Ko,AD]
  by_cases h1:0≤A5 l[k-1]!.Row l[k]!.Row l[k-1]!.Col l[k]!.Col
  ·rw [if_pos (show (true && decide (0≤A5 l[k-1]!.Row l[k]!.Row l[k-1]!.Col l[k]!.Col))=true by rw [decide_eq_true h1]; rfl),if_pos ⟨h0,h1⟩]; rfl
  ·rw [if_neg (show ¬ (true && decide (0≤A5 l[k-1]!.Row l[k]!.Row l[k-1]!.Col l[k]!.Col))=true by rw [decide_eq_false h1]; decide),if_neg (fun h=>h1 h.2),Am (by omega)]; rfl
 ·obtain rfl:k=0:=by omega
  rw [if_neg (show ¬ (0<0∧_) from fun h=>absurd h.1 (by decide))]; rfl
theorem Px (rows cols:Int) (nn:Bool) (l:List AE) (hm:l.length≤1073741824) (hl : ∀ c∈l,FC c):IL l rows cols nn=some (CR rows cols nn l):=by
 unfold IL
 rw [CW (n:=l.length) (EW rows cols nn l) (fun k hk=>by
  obtain ⟨ha,ht⟩:=hl _ (Cy hk)
  have hto:=Rg l k hk (by omega)
  unfold Js EW JX
  rw [if_pos (by simpa using hk),Ac hk,AD]
  by_cases h1:Eg rows cols l[k]!
  ·have h1':=h1
   unfold Eg at h1'
   rw [if_neg (by simp only [Bool.or_eq_true,decide_eq_true_eq]; omega),if_neg (by simp only [Bool.or_eq_true,decide_eq_true_eq]; omega),Tk,AD,Rn _ ha.2 (by have:=ha.1; omega),AD,hto]
   rw [if_neg (Classical.not_not.2 h1)]
   cases htx:Ew l[k]!.Text.length l[k]!.Text with
   | false=>rfl
   | true=>
    rw [if_neg (show ¬ ((!true)=true) by decide),if_neg (show ¬ (true=false) by decide)]
    by_cases h3:HC l[k]!.Attrs false=0
    ·rw [if_neg (DW h3),if_neg (Classical.not_not.2 h3)]
     have he:Fx l[k]! = some (BX l[k]!):=by unfold Fx BX; rw [KX]
     rw [he,AD]
     by_cases h4:(!nn && BX l[k]!)=true
     ·rw [if_pos (by rw [Bool.and_comm]; exact h4),if_pos h4]; rfl
     ·rw [if_neg (by rw [Bool.and_comm]; exact h4),if_neg h4,if_neg (show ¬ ((0:Int)≠0) from fun h=>h rfl)]
    ·rw [if_pos (Dr h3),if_pos h3,if_pos h3]; rfl
  ·rw [if_pos h1]
   unfold Eg at h1
   by_cases h2:((((decide (l[k]!.Row<0)) || (decide (rows≤l[k]!.Row))) || (decide (l[k]!.Col<0))) || (decide (cols≤l[k]!.Col)))=true
   ·rw [if_pos h2]; rfl
   ·rw [if_neg h2,if_pos (by simp only [Bool.or_eq_true,decide_eq_true_eq] at h2 ⊢; omega)]; rfl) (by unfold Js; rw [if_neg (by simp)]),IF]
 rfl
theorem V1 (l:List AE) (k:Nat) (hk:k<l.length) (hm:l.length≤9223372036854775806) :
  (AB (gd ((decide (0<(k:Int))) == true) (AL .i64 ((k:Int)-1))) fun (x7:Int)=>
      AB (gd ((decide (0<(k:Int))) == true) (AO l x7)) fun (x8:AE)=>
      AB (gd ((((decide (0<(k:Int))) == true) && ((decide (l[k]!.Row<x8.Row)) == false)) && ((decide (l[k]!.Row=x8.Row)) == true)) (AL .i64 ((k:Int)-1))) fun (x9:Int)=>
      AB (gd ((((decide (0<(k:Int))) == true) && ((decide (l[k]!.Row<x8.Row)) == false)) && ((decide (l[k]!.Row=x8.Row)) == true)) (AO l x9)) fun (x10:AE)=>
      if ((decide (0<(k:Int))) && ((decide (l[k]!.Row<x8.Row)) || ((decide (l[k]!.Row=x8.Row)) && (decide (l[k]!.Col≤x10.Col))))) then (some (.inr (.ext 5)):Option (Int ⊕ (Af Unit Int))) else (
       AB (AL .i64 ((k:Int)+1)) fun (x11:Int)=>some (.inl x11)))=CO k (if 0<k∧0≤A5 l[k-1]!.Row l[k]!.Row l[k-1]!.Col l[k]!.Col then some 5 else none):=by
 have ho:=Ie l[k-1]!.Row l[k]!.Row l[k-1]!.Col l[k]!.Col
 by_cases h0:0<k
 ·rw [decide_eq_true (show (0:Int)<k by omega),show ((true == true):Bool)=true from rfl,Ak,En h0 (by omega),AD,Ak,Ac (show k-1<l.length by omega),AD]
  by_cases h1:l[k]!.Row<l[k-1]!.Row
  ·rw [decide_eq_true h1,if_pos (show 0<k∧0≤A5 l[k-1]!.Row l[k]!.Row l[k-1]!.Col l[k]!.Col from ⟨h0,ho.2 (.inl h1)⟩)]; rfl
  ·by_cases h2:l[k]!.Row=l[k-1]!.Row
   ·rw [decide_eq_false h1,decide_eq_true h2,show (((true && (false == false)) && (true == true)):Bool)=true from rfl,Ak,AD,Ak,Ac (show k-1<l.length by omega),AD]
    by_cases h3:l[k]!.Col≤l[k-1]!.Col
    ·rw [decide_eq_true h3,if_pos (show 0<k∧0≤A5 l[k-1]!.Row l[k]!.Row l[k-1]!.Col l[k]!.Col from ⟨h0,ho.2 (.inr ⟨h2,h3⟩)⟩)]; rfl
    ·rw [decide_eq_false h3,if_neg (show ¬ (0<k∧0≤A5 l[k-1]!.Row l[k]!.Row l[k-1]!.Col l[k]!.Col) from fun h=>by have:=ho.1 h.2; omega),Am (by omega)]; rfl
   ·rw [decide_eq_false h1,decide_eq_false h2,if_neg (show ¬ (0<k∧0≤A5 l[k-1]!.Row l[k]!.Row l[k-1]!.Col l[k]!.Col) from fun h=>by have:=ho.1 h.2; omega),Am (by omega)]; rfl
 ·obtain rfl:k=0:=by omega
  rw [if_neg (show ¬ (0<0∧_) from fun h=>absurd h.1 (by decide))]; rfl
theorem Pm (rows cols:Int) (nn:Bool) (l:List AE) (hm:l.length≤1073741824) (hl : ∀ c∈l,FC c) (hr:0≤rows∧rows≤2147483647) (hcc:0≤cols∧cols≤2147483647):H8 l rows cols nn=some (CR rows cols nn l):=by
 unfold H8
 rw [CW (n:=l.length) (EW rows cols nn l) (fun k hk=>by
  obtain ⟨ha,ht⟩:=hl _ (Cy hk)
  have hto:=V1 l k hk (by omega)
  unfold JG EW JX
  rw [if_pos (by simpa using hk),Ac hk,AD,Bk (by omega) (by omega),AD,ER,AD,ER,hto]
  by_cases h1:Eg rows cols l[k]!
  ·have h1':=h1
   unfold Eg at h1'
   rw [if_neg (Classical.not_not.2 h1),decide_eq_true (show 0≤l[k]!.Row∧l[k]!.Row≤rows-1 by omega),show ((!true) == false)=true from rfl,Ak,Bk (by omega) (by omega),AD,Ak,ER,AD,decide_eq_true (show 0≤l[k]!.Col∧l[k]!.Col≤cols-1 by omega),
    show (((!true) || (!true)) == false)=true from rfl,Ak,AD,decide_eq_true (show 0≤l[k]!.Ref∧l[k]!.Ref≤1073741824 by omega),if_neg (by decide),WL _ (by omega),AD,Se _ _ ha.2 (by have:=ha.1; omega),AD]
   cases htx:Ew l[k]!.Text.length l[k]!.Text with
   | false=>rfl
   | true=>
    rw [if_neg (show ¬ ((!true)=true) by decide),if_neg (show ¬ (true=false) by decide)]
    by_cases h3:HC l[k]!.Attrs false=0
    ·rw [if_neg (DW h3),if_neg (Classical.not_not.2 h3)]
     have he:Em l[k]! = some (BX l[k]!):=by unfold Em BX; rw [KX]
     rw [he]
     cases nn with
     | true=>rfl
     | false=>
      show (AB (gd true (some (BX l[k]!))) fun (r5:Bool)=>_)=_
      rw [Ak,AD]
      cases BX l[k]! <;> rfl
    ·rw [if_pos (Dr h3),if_pos h3,if_pos h3]; rfl
  ·rw [if_pos h1]
   unfold Eg at h1
   by_cases e1:0≤l[k]!.Row∧l[k]!.Row≤rows-1
   ·rw [decide_eq_true e1,show ((!true) == false)=true from rfl,Ak,Bk (by omega) (by omega),AD,Ak,ER,AD]
    by_cases e2:0≤l[k]!.Col∧l[k]!.Col≤cols-1
    ·rw [decide_eq_true e2,show (((!true) || (!true)) == false)=true from rfl,Ak,AD,decide_eq_false (show ¬ (0≤l[k]!.Ref∧l[k]!.Ref≤1073741824) by omega)]; rfl
    ·rw [decide_eq_false e2]; rfl
   ·rw [decide_eq_false e1]; rfl) (by unfold JG; rw [if_neg (by simp)]),IF]
 rfl
theorem N2 {ρ:Type} {f:Int→Option (Int ⊕ Af Unit ρ)} {n:Nat} (g:Nat→Option ρ) (h1 : ∀ k:Nat,k<n→(∀ j,j<k→g j=none)→f k=CO k (g k))
  (h2:f n=some (.inr (.nrm ()))):iter f 0=some (D7 ((List.range n).findSome? g)):=by
 have key : ∀ m k:Nat,k+m=n→(∀ j,j<k→g j=none)→iter f (k:Int)=some (D7 ((List.range' k m).findSome? g)):=by
  intro m
  induction m with
  | zero=>
   intro k hk _
   obtain rfl:k=n:=by omega
   rw [BG h2]; rfl
  | succ m ih=>
   intro k hk hj
   have hs:=h1 k (by omega) hj
   rw [List.range'_succ,List.findSome?_cons]
   cases hg:g k with
   | some r=>rw [hg] at hs; rw [BG hs]; rfl
   | none=>
    rw [hg] at hs
    rw [CN hs]
    exact ih (k+1) (by omega) (fun j hj'=>by
     by_cases e:j=k
     ·rw [e]; exact hg
     ·exact hj j (by omega))
 have:=key n 0 (by omega) (fun j hj=>absurd hj (Nat.not_lt_zero _))
 rw [List.range_eq_range']
 exact this
def Ao (rows cols:Int) (r:AC):Prop:=0≤r.Row∧r.Row<rows∧0≤r.Col∧r.Col<cols∧1≤r.H∧r.H≤rows-r.Row∧1≤r.W∧r.W≤cols-r.Col
instance (rows cols:Int) (r:AC):Decidable (Ao rows cols r):=by unfold Ao; infer_instance
def BI (a b:AC):Bool:=decide (a.Row<b.Row+b.H∧b.Row<a.Row+a.H∧a.Col<b.Col+b.W∧b.Col<a.Col+a.W)
def Bu (rows cols:Int):Prop:=0≤rows∧rows≤2147483647∧0≤cols∧cols≤2147483647
instance (rows cols:Int):Decidable (Bu rows cols):=by unfold Bu; infer_instance
theorem LW (r:AC) (rows cols:Int) (h:Bu rows cols):Gj r rows cols=some (decide (Ao rows cols r)):=by
 obtain ⟨h1,h2,h3,h4⟩:=h
 unfold Gj
 by_cases c1:0≤r.Row∧0≤r.Col∧1≤r.H∧1≤r.W∧r.Row<rows∧r.Col<cols
 ·obtain ⟨a1,a2,a3,a4,a5,a6⟩:=c1
  rw [decide_eq_true a1,decide_eq_true a2,decide_eq_true a3,decide_eq_true a4,decide_eq_true a5,decide_eq_true a6,show ((((((true && true) && true) && true) && true) && true) == true)=true from rfl,Ak,Bk (by omega) (by omega),AD]
  by_cases c2:r.H≤rows-r.Row
  ·rw [decide_eq_true c2,show (((((((true && true) && true) && true) && true) && true) && true) == true)=true from rfl,Ak,Bk (by omega) (by omega),AD]
   by_cases c3:r.W≤cols-r.Col
   ·rw [decide_eq_true c3,decide_eq_true (show Ao rows cols r from ⟨a1,a5,a2,a6,a3,c2,a4,c3⟩)]; rfl
   ·rw [decide_eq_false c3,decide_eq_false (show ¬ Ao rows cols r from fun h=>c3 h.2.2.2.2.2.2.2)]; rfl
  ·rw [decide_eq_false c2,decide_eq_false (show ¬ Ao rows cols r from fun h=>c2 h.2.2.2.2.2.1)]; rfl
 ·have hf:((((((decide (0≤r.Row)) && (decide (0≤r.Col))) && (decide (1≤r.H))) && (decide (1≤r.W))) && (decide (r.Row<rows))) && (decide (r.Col<cols)))=false:=by
   rw [← Bool.not_eq_true]
   simp only [Bool.and_eq_true,decide_eq_true_eq]
   intro h; exact c1 (by omega)
  rw [hf,decide_eq_false (show ¬ Ao rows cols r from fun h=>c1 ⟨h.1,h.2.2.1,h.2.2.2.2.1,h.2.2.2.2.2.2.1,h.2.1,h.2.2.2.1⟩)]; rfl
theorem Jk (r:AC) (rows cols:Int) (h:Bu rows cols):Fe r rows cols=some (decide (Ao rows cols r)):=by
 obtain ⟨h1,h2,h3,h4⟩:=h
 unfold Fe
 rw [Bk (by omega) (by omega),AD,ER,AD]
 by_cases a1:0≤r.Row∧r.Row≤rows-1
 ·rw [decide_eq_true a1,show ((true == true):Bool)=true from rfl,Ak,Bk (by omega) (by omega),AD,Ak,ER,AD]
  by_cases a2:0≤r.Col∧r.Col≤cols-1
  ·rw [decide_eq_true a2,show ((true && true) == true)=true from rfl,Ak,Bk (by omega) (by omega),AD,Ak,ER,AD]
   by_cases a3:1≤r.H∧r.H≤rows-r.Row
   ·rw [decide_eq_true a3,show (((true && true) && true) == true)=true from rfl,Ak,Bk (by omega) (by omega),AD,Ak,ER,AD]
    by_cases a4:1≤r.W∧r.W≤cols-r.Col
    ·rw [decide_eq_true a4,decide_eq_true (show Ao rows cols r from ⟨a1.1,by omega,a2.1,by omega,a3.1,a3.2,a4.1,a4.2⟩)]; rfl
    ·rw [decide_eq_false a4,decide_eq_false (show ¬ Ao rows cols r from fun h=>a4 ⟨h.2.2.2.2.2.2.1,h.2.2.2.2.2.2.2⟩)]; rfl
   ·rw [decide_eq_false a3,decide_eq_false (show ¬ Ao rows cols r from fun h=>a3 ⟨h.2.2.2.2.1,h.2.2.2.2.2.1⟩)]; rfl
  ·rw [decide_eq_false a2,decide_eq_false (show ¬ Ao rows cols r from fun h=>a2 ⟨h.2.2.1,by have:=h.2.2.2.1; omega⟩)]; rfl
 ·rw [decide_eq_false a1,decide_eq_false (show ¬ Ao rows cols r from fun h=>a1 ⟨h.1,by have:=h.2.1; omega⟩)]; rfl
theorem Nz {rows cols:Int} (h:Bu rows cols) {a b:AC} (ha:Ao rows cols a) (hb:Ao rows cols b):HZ a b=some (BI a b):=by
 obtain ⟨h1,h2,h3,h4⟩:=h
 obtain ⟨a1,a2,a3,a4,a5,a6,a7,a8⟩:=ha
 obtain ⟨b1,b2,b3,b4,b5,b6,b7,b8⟩:=hb
 unfold HZ BI
 rw [Bk (by omega) (by omega),AD]
 by_cases c1:a.Row<b.Row+b.H
 ·rw [decide_eq_true c1,show ((true == true):Bool)=true from rfl,Ak,Bk (by omega) (by omega),AD]
  by_cases c2:b.Row<a.Row+a.H
  ·rw [decide_eq_true c2,show ((true && true) == true)=true from rfl,Ak,Bk (by omega) (by omega),AD]
   by_cases c3:a.Col<b.Col+b.W
   ·rw [decide_eq_true c3,show (((true && true) && true) == true)=true from rfl,Ak,Bk (by omega) (by omega),AD]
    by_cases c4:b.Col<a.Col+a.W
    ·rw [decide_eq_true c4,decide_eq_true (show _∧_∧_∧_ from ⟨c1,c2,c3,c4⟩)]; rfl
    ·rw [decide_eq_false c4,decide_eq_false (show ¬ (a.Row<b.Row+b.H∧b.Row<a.Row+a.H∧a.Col<b.Col+b.W∧b.Col<a.Col+a.W) from fun h=>c4 h.2.2.2)]; rfl
   ·rw [decide_eq_false c3,decide_eq_false (show ¬ (a.Row<b.Row+b.H∧b.Row<a.Row+a.H∧a.Col<b.Col+b.W∧b.Col<a.Col+a.W) from fun h=>c3 h.2.2.1)]; rfl
  ·rw [decide_eq_false c2,decide_eq_false (show ¬ (a.Row<b.Row+b.H∧b.Row<a.Row+a.H∧a.Col<b.Col+b.W∧b.Col<a.Col+a.W) from fun h=>c2 h.2.1)]; rfl
 ·rw [decide_eq_false c1,decide_eq_false (show ¬ (a.Row<b.Row+b.H∧b.Row<a.Row+a.H∧a.Col<b.Col+b.W∧b.Col<a.Col+a.W) from fun h=>c1 h.1)]; rfl
theorem NK {rows cols:Int} (h:Bu rows cols) {a b:AC} (ha:Ao rows cols a) (hb:Ao rows cols b):H3 a b=some (BI b a):=by
 obtain ⟨h1,h2,h3,h4⟩:=h
 obtain ⟨a1,a2,a3,a4,a5,a6,a7,a8⟩:=ha
 obtain ⟨b1,b2,b3,b4,b5,b6,b7,b8⟩:=hb
 unfold H3 BI
 rw [Bk (by omega) (by omega),AD,Bk (by omega) (by omega),AD]
 by_cases c1:max a.Row b.Row<min (a.Row+a.H) (b.Row+b.H)
 ·rw [decide_eq_true c1,show ((true == true):Bool)=true from rfl,Ak,Bk (by omega) (by omega),AD,Ak,Bk (by omega) (by omega),AD]
  by_cases c2:max a.Col b.Col<min (a.Col+a.W) (b.Col+b.W)
  ·rw [decide_eq_true c2,decide_eq_true (show b.Row<a.Row+a.H∧a.Row<b.Row+b.H∧b.Col<a.Col+a.W∧a.Col<b.Col+b.W by omega)]; rfl
  ·rw [decide_eq_false c2,decide_eq_false (show ¬ (b.Row<a.Row+a.H∧a.Row<b.Row+b.H∧b.Col<a.Col+a.W∧a.Col<b.Col+b.W) by omega)]; rfl
 ·rw [decide_eq_false c1,decide_eq_false (show ¬ (b.Row<a.Row+a.H∧a.Row<b.Row+b.H∧b.Col<a.Col+a.W∧a.Col<b.Col+b.W) by omega)]; rfl
theorem Rz {α:Type} [Inhabited α] {l:List α} {k j:Nat} (hj:j<k) (hk:k≤l.length):(l.take k)[j]! = l[j]!:=by
 rw [getElem!_pos (l.take k) j (by rw [List.length_take]; omega),getElem!_pos l j (by omega),List.getElem_take]
def Gz (l:List AC) (k:Nat) (w:AC):Option Nat:=(List.range k).find? fun j=>BI l[j]! w
theorem Vx {rows cols:Int} (h:Bu rows cols) (l:List AC) (k:Nat) (hk:k≤l.length) (hm:l.length≤1073741824) (hl : ∀ j,j<k→Ao rows cols l[j]!) {w:AC} (hw:Ao rows cols w) :
  IH w (l.take k)=some (Gz l k w).isSome:=by
 unfold IH Kp
 have hlen:(l.take k).length=k:=by rw [List.length_take]; omega
 rw [CW (n:=k) (fun j=>if BI l[j]! w then some (j:Int) else none) (fun j hj=>by
  unfold IR Lg
  rw [if_pos (by rw [hlen,decide_eq_true_eq]; omega),Ac (by rw [hlen]; exact hj),AD,Rz hj hk,Nz h (hl j hj) hw,AD,AD,Am (by omega)]
  cases BI l[j]! w <;> rfl) (by unfold IR; rw [if_neg (by rw [hlen]; simp)]),Lx,Dq]
 unfold Gz
 cases (List.range k).find? fun j=>BI l[j]! w with
 | none=>rfl
 | some j=>
  show (AB (some (j:Int)) fun (r1:Int)=>some (decide (0≤r1)))=_
  rw [AD,decide_eq_true (Int.natCast_nonneg j)]; rfl
def EY (rows cols:Int) (l:List AC) (k:Nat):Option Int:=
 if ¬ Ao rows cols l[k]! then some 2 else if l[k]!.H=1∧l[k]!.W=1 then some 4 else if 0<k∧0≤A5 l[k-1]!.Row l[k]!.Row l[k-1]!.Col l[k]!.Col then some 5 else if (Gz l k l[k]!).isSome=true then some 21 else none
theorem M8 {rows cols:Int} {l:List AC} {k:Nat} (h:EY rows cols l k=none):Ao rows cols l[k]!:=by
 unfold EY at h
 by_cases hi:Ao rows cols l[k]!
 ·exact hi
 ·rw [if_pos hi] at h; cases h
def DS (g:AJ):Int:=
 if ¬ Bu g.Rows g.Cols then 2 else if CR g.Rows g.Cols false g.Cells≠0 then CR g.Rows g.Cols false g.Cells else ((List.range g.Merges.length).findSome? (EY g.Rows g.Cols g.Merges)).getD 0
def G5 (g:AJ):Prop:=g.Cells.length≤1048576∧g.Merges.length≤1048576 ∧ ∀ c∈g.Cells,FC c
theorem ST (a b:AC):IZ a b=some (!decide (0≤A5 a.Row b.Row a.Col b.Col)):=by
 unfold IZ
 congr 1
 rw [Bool.eq_iff_iff]
 have:=Ie a.Row b.Row a.Col b.Col
 simp only [Bool.or_eq_true,Bool.and_eq_true,decide_eq_true_eq,Bool.not_eq_true',decide_eq_false_iff_not,this]
 omega
theorem Le (g:AJ) (h:G5 g):Ju g=some (DS g):=by
 obtain ⟨hc,hm,hcs⟩:=h
 unfold Ju DS
 by_cases hr:Bu g.Rows g.Cols
 ·have hr':=hr
  obtain ⟨r1,r2,r3,r4⟩:=hr'
  rw [if_neg (by simp only [Bool.or_eq_true,decide_eq_true_eq]; omega),Px _ _ _ _ (by omega) hcs,AD,if_neg (Classical.not_not.2 hr)]
  by_cases he:CR g.Rows g.Cols false g.Cells=0
  ·rw [if_neg (DW he),if_neg (Classical.not_not.2 he),N2 (n:=g.Merges.length) (EY g.Rows g.Cols g.Merges) (fun k hk hj=>by
    unfold I1
    rw [if_pos (by simpa using hk),Ac hk,AD,LW _ _ _ hr,AD]
    unfold EY
    by_cases h1:Ao g.Rows g.Cols g.Merges[k]!
    ·rw [decide_eq_true h1,if_neg (show ¬ ((!true)=true) by decide),if_neg (Classical.not_not.2 h1)]
     by_cases h2:g.Merges[k]!.H=1∧g.Merges[k]!.W=1
     ·rw [if_pos (by rw [decide_eq_true h2.1,decide_eq_true h2.2]; rfl),if_pos h2]; rfl
     ·rw [if_neg (by simp only [Bool.and_eq_true,decide_eq_true_eq]; exact h2),if_neg h2]
      have hcont:=Vx hr g.Merges k (by omega) (by omega) (fun j hj'=>M8 (hj j hj')) h1
      have hs:B3 g.Merges 0 (k:Int)=some (g.Merges.take k):=by
       rw [Sj g.Merges k (by omega) (by omega)]; simp
      have hfin:(AB (B3 g.Merges 0 (k:Int)) fun (l1:List AC)=>
        AB (IH g.Merges[k]! l1) fun (r3:Bool)=>
        if r3 then (some (.inr (.ext 21)):Option (Int ⊕ (Af Unit Int))) else (
         AB (AL .i64 ((k:Int)+1)) fun (x7:Int)=>some (.inl x7)))=CO k (if (Gz g.Merges k g.Merges[k]!).isSome=true then some 21 else none):=by
       rw [hs,AD,hcont,AD,Am (by omega)]
       cases (Gz g.Merges k g.Merges[k]!).isSome <;> rfl
      by_cases h0:0<k
      ·rw [decide_eq_true (show (0:Int)<k by omega),show ((true == true):Bool)=true from rfl,Ak,En h0 (by omega),AD,Ak,Ac (show k-1<g.Merges.length by omega),AD,Ak,ST,AD]
       by_cases h3:0≤A5 g.Merges[k-1]!.Row g.Merges[k]!.Row g.Merges[k-1]!.Col g.Merges[k]!.Col
       ·rw [decide_eq_true h3,if_pos (show 0<k∧0≤A5 g.Merges[k-1]!.Row g.Merges[k]!.Row g.Merges[k-1]!.Col g.Merges[k]!.Col from ⟨h0,h3⟩)]; rfl
       ·rw [decide_eq_false h3,if_neg (show ¬ (0<k∧0≤A5 g.Merges[k-1]!.Row g.Merges[k]!.Row g.Merges[k-1]!.Col g.Merges[k]!.Col) from fun h=>h3 h.2)]
        exact hfin
      ·have e0:k=0:=by omega
       rw [if_neg (show ¬ (0<k∧0≤A5 g.Merges[k-1]!.Row g.Merges[k]!.Row g.Merges[k-1]!.Col g.Merges[k]!.Col) from fun h=>h0 h.1),decide_eq_false (show ¬ (0:Int)<k by omega)]
       exact hfin
    ·rw [decide_eq_false h1,if_pos h1]; rfl) (by unfold I1; rw [if_neg (by simp)]),IF]
  ·rw [if_pos (Dr he),if_pos he]
 ·rw [if_pos hr,if_pos (by unfold Bu at hr; simp only [Bool.or_eq_true,decide_eq_true_eq]; omega)]
theorem Ro {X:Type} (l:List AC) (k:Nat) (hk:k<l.length) (hm:l.length≤9223372036854775806) (a b:Option X) :
  (AB (gd ((decide (0<(k:Int))) == true) (AL .i64 ((k:Int)-1))) fun (x5:Int)=>
    AB (gd ((decide (0<(k:Int))) == true) (AO l x5)) fun (x6:AC)=>
    AB (gd ((((decide (0<(k:Int))) == true) && ((decide (l[k]!.Row<x6.Row)) == false)) && ((decide (l[k]!.Row=x6.Row)) == true)) (AL .i64 ((k:Int)-1))) fun (x7:Int)=>
    AB (gd ((((decide (0<(k:Int))) == true) && ((decide (l[k]!.Row<x6.Row)) == false)) && ((decide (l[k]!.Row=x6.Row)) == true)) (AO l x7)) fun (x8:AC)=>
    if ((decide (0<(k:Int))) && ((decide (l[k]!.Row<x6.Row)) || ((decide (l[k]!.Row=x6.Row)) && (decide (l[k]!.Col≤x8.Col))))) then a else b) =
   if 0<k∧0≤A5 l[k-1]!.Row l[k]!.Row l[k-1]!.Col l[k]!.Col then a else b:=by
 have ho:=Ie l[k-1]!.Row l[k]!.Row l[k-1]!.Col l[k]!.Col
 by_cases h0:0<k
 ·rw [decide_eq_true (show (0:Int)<k by omega),show ((true == true):Bool)=true from rfl,Ak,En h0 (by omega),AD,Ak,Ac (show k-1<l.length by omega),AD]
  by_cases h1:l[k]!.Row<l[k-1]!.Row
  ·rw [decide_eq_true h1,if_pos (show 0<k∧0≤A5 l[k-1]!.Row l[k]!.Row l[k-1]!.Col l[k]!.Col from ⟨h0,ho.2 (.inl h1)⟩)]; rfl
  ·by_cases h2:l[k]!.Row=l[k-1]!.Row
   ·rw [decide_eq_false h1,decide_eq_true h2,show (((true && (false == false)) && (true == true)):Bool)=true from rfl,Ak,AD,Ak,Ac (show k-1<l.length by omega),AD]
    by_cases h3:l[k]!.Col≤l[k-1]!.Col
    ·rw [decide_eq_true h3,if_pos (show 0<k∧0≤A5 l[k-1]!.Row l[k]!.Row l[k-1]!.Col l[k]!.Col from ⟨h0,ho.2 (.inr ⟨h2,h3⟩)⟩)]; rfl
    ·rw [decide_eq_false h3,if_neg (show ¬ (0<k∧0≤A5 l[k-1]!.Row l[k]!.Row l[k-1]!.Col l[k]!.Col) from fun h=>by have:=ho.1 h.2; omega)]; rfl
   ·rw [decide_eq_false h1,decide_eq_false h2,if_neg (show ¬ (0<k∧0≤A5 l[k-1]!.Row l[k]!.Row l[k-1]!.Col l[k]!.Col) from fun h=>by have:=ho.1 h.2; omega)]; rfl
 ·rw [if_neg (show ¬ (0<k∧0≤A5 l[k-1]!.Row l[k]!.Row l[k-1]!.Col l[k]!.Col) from fun h=>h0 h.1),decide_eq_false (show ¬ (0:Int)<k by omega)]; rfl
theorem TT (g:AJ) (h:G5 g):Iy g=some (DS g):=by
 obtain ⟨hc,hm,hcs⟩:=h
 unfold Iy DS
 rw [ER,AD]
 by_cases hr:Bu g.Rows g.Cols
 ·have hr':=hr
  obtain ⟨r1,r2,r3,r4⟩:=hr'
  rw [decide_eq_true (show 0≤g.Rows∧g.Rows≤2147483647 from ⟨r1,r2⟩),show ((!true) == false)=true from rfl,Ak,ER,AD,decide_eq_true (show 0≤g.Cols∧g.Cols≤2147483647 from ⟨r3,r4⟩),if_neg (by decide),
   Pm _ _ _ _ (by omega) hcs ⟨r1,r2⟩ ⟨r3,r4⟩,AD,if_neg (Classical.not_not.2 hr)]
  by_cases he:CR g.Rows g.Cols false g.Cells=0
  ·rw [if_neg (DW he),if_neg (Classical.not_not.2 he),N2 (n:=g.Merges.length) (EY g.Rows g.Cols g.Merges) (fun k hk hj=>by
    unfold Jq
    rw [if_pos (by simpa using hk),Ac hk,AD,Jk _ _ _ hr,AD]
    unfold EY
    by_cases h1:Ao g.Rows g.Cols g.Merges[k]!
    ·rw [decide_eq_true h1,if_neg (show ¬ ((!true)=true) by decide),if_neg (Classical.not_not.2 h1)]
     by_cases h2:g.Merges[k]!.H=1∧g.Merges[k]!.W=1
     ·rw [if_pos (by rw [decide_eq_true h2.1,decide_eq_true h2.2]; rfl),if_pos h2]; rfl
     ·rw [if_neg (by simp only [Bool.and_eq_true,decide_eq_true_eq]; exact h2),if_neg h2,Ro _ k hk (by omega)]
      by_cases h3:0<k∧0≤A5 g.Merges[k-1]!.Row g.Merges[k]!.Row g.Merges[k-1]!.Col g.Merges[k]!.Col
      ·rw [if_pos h3,if_pos h3]; rfl
      ·rw [if_neg h3,if_neg h3,CW (n:=k) (fun j=>if BI g.Merges[j]! g.Merges[k]! then some (.inr (.ext 21)) else none) (fun j hjk=>by
        unfold JQ
        rw [if_pos (by rw [decide_eq_true_eq]; omega),Ac (by omega),AD,NK hr h1 (M8 (hj j hjk)),AD,Am (by omega)]
        cases BI g.Merges[j]! g.Merges[k]! <;> rfl) (by unfold JQ; rw [if_neg (by rw [decide_eq_true_eq]; omega)]),Lx,Dq]
       unfold Gz
       cases (List.range k).find? fun j=>BI g.Merges[j]! g.Merges[k]! with
       | none=>rw [Am (by omega)]; rfl
       | some j=>rfl
    ·rw [decide_eq_false h1,if_pos h1]; rfl) (by unfold Jq; rw [if_neg (by simp)]),IF]
  ·rw [if_pos (Dr he),if_pos he]
 ·rw [if_pos hr]
  unfold Bu at hr
  by_cases a:0≤g.Rows∧g.Rows≤2147483647
  ·rw [decide_eq_true a,show ((!true) == false)=true from rfl,Ak,ER,AD,decide_eq_false (show ¬ (0≤g.Cols∧g.Cols≤2147483647) by omega)]; rfl
  ·rw [decide_eq_false a]; rfl
def PW (o:JC):Prop:=(1≤o.Clock∧o.Clock≤1073741824)∧(0≤o.Site∧o.Site≤1000)∧(1≤o.Item∧o.Item≤1073741824)
instance (o:JC):Decidable (PW o):=by unfold PW; infer_instance
open Go.Sort
def Jr (l:List AC) (k:Nat):Option Int:=if ¬ Ao 2147483647 2147483647 l[k]! then some 2 else none
def Jl (l:List AC) (k:Nat):Option Int:=if ¬ Ao 2147483647 2147483647 l[k]! then some 2 else if l[k]!.H=1∧l[k]!.W=1 then some 4 else none
def F8 (l:List AC):Option Int:=(List.range l.length).findSome? (Jr l)
def GK (l:List AC):Option Int:=(List.range l.length).findSome? (Jl l)
def LO (e:Aj):Int:=match F8 e.Split with | some r=>r | none=>(GK e.Merge).getD 0
def ET (e:Aj):Int:=if Av e.Rows≠0 then Av e.Rows else if Av e.Cols≠0 then Av e.Cols else
 if CR 2147483647 2147483647 true e.Cells≠0 then CR 2147483647 2147483647 true e.Cells else LO e
structure E9 (e:Aj):Prop where
 rows:e.Rows.length≤1048576
 cols:e.Cols.length≤1048576
 cells:e.Cells.length≤1048576
 split:e.Split.length≤1048576
 merge:e.Merge.length≤1048576
 oc : ∀ c∈e.Cells,FC c
theorem KN:Bu 2147483647 2147483647:=by decide
theorem P0 {α β ρ:Type} (l:List α) (G:α→Option β) (w:β→ρ):(l.findSome? fun k=>(G k).map w)=(l.findSome? G).map w:=by
 induction l with
 | nil=>rfl
 | cons a l ih=>
  rw [List.findSome?_cons,List.findSome?_cons]
  cases G a with
  | none=>exact ih
  | some b=>rfl
theorem RZ (l:List AC) (hm:l.length≤1048576):iter (fun (a:Int)=>Dk 0 l a) 0=some (D7 ((F8 l).map fun v=>(.inr (.ext v):Int ⊕ Af Unit Int))):=by
 unfold F8
 rw [← P0]
 refine CW (f:=fun (a:Int)=>Dk 0 l a) (n:=l.length) (fun k=>(Jr l k).map fun v=>(.inr (.ext v):Int ⊕ Af Unit Int)) (fun k hk=>?_) ?_
 ·unfold Dk Jr
  rw [if_pos (by simpa using hk),Ac hk,AD,LW _ _ _ KN,AD]
  by_cases hi:Ao 2147483647 2147483647 l[k]!
  ·rw [if_neg (show ¬ (!decide (Ao 2147483647 2147483647 l[k]!))=true by rw [decide_eq_true hi]; decide),if_neg (show ¬ (((decide ((0:Int)=1)) && (decide (l[k]!.H=1))) && (decide (l[k]!.W=1)))=true by simp),if_neg (show ¬ ¬ Ao 2147483647 2147483647 l[k]! from fun h=>h hi),Am (by omega),AD]; rfl
  ·rw [if_pos (by rw [decide_eq_false hi]; rfl),if_pos hi]; rfl
 ·show Dk 0 l (l.length:Int)=_
  unfold Dk
  rw [if_neg (by simp)]
theorem Rd (l:List AC) (hm:l.length≤1048576):iter (fun (a:Int)=>Dk 1 l a) 0=some (D7 ((GK l).map fun v=>(.inr (.ext v):Int ⊕ Af Unit Int))):=by
 unfold GK
 rw [← P0]
 refine CW (f:=fun (a:Int)=>Dk 1 l a) (n:=l.length) (fun k=>(Jl l k).map fun v=>(.inr (.ext v):Int ⊕ Af Unit Int)) (fun k hk=>?_) ?_
 ·unfold Dk Jl
  rw [if_pos (by simpa using hk),Ac hk,AD,LW _ _ _ KN,AD]
  by_cases hi:Ao 2147483647 2147483647 l[k]!
  ·rw [if_neg (show ¬ (!decide (Ao 2147483647 2147483647 l[k]!))=true by rw [decide_eq_true hi]; decide),if_neg (show ¬ ¬ Ao 2147483647 2147483647 l[k]! from fun h=>h hi)]
   by_cases h1:l[k]!.H=1∧l[k]!.W=1
   ·rw [if_pos (show (((decide ((1:Int)=1)) && (decide (l[k]!.H=1))) && (decide (l[k]!.W=1)))=true by rw [decide_eq_true h1.1,decide_eq_true h1.2]; rfl),if_pos h1]; rfl
   ·rw [if_neg (show ¬ (((decide ((1:Int)=1)) && (decide (l[k]!.H=1))) && (decide (l[k]!.W=1)))=true by simp only [Bool.and_eq_true,decide_eq_true_eq]; rintro ⟨⟨_,a⟩,b⟩; exact h1 ⟨a,b⟩),if_neg h1,Am (by omega),AD]; rfl
  ·rw [if_pos (by rw [decide_eq_false hi]; rfl),if_pos hi]; rfl
 ·show Dk 1 l (l.length:Int)=_
  unfold Dk
  rw [if_neg (by simp)]
theorem WA (e:Aj) (h:E9 e):(Ar (iter (fun (a:Int)=>DK e a) 0) fun (_:Unit)=>some (0:Int))=some (LO e):=by
 have hs:=RZ e.Split h.split
 have hm:=Rd e.Merge h.merge
 have i0:AO ([e.Split,e.Merge]:List (List AC)) 0=some e.Split:=rfl
 have i1:AO ([e.Split,e.Merge]:List (List AC)) 1=some e.Merge:=rfl
 have s0:DK e 0=match F8 e.Split with | some r=>some (.inr (.ext r)) | none=>some (.inl 1):=by
  unfold DK
  rw [if_pos (by decide),i0,AD,hs]
  cases F8 e.Split with
  | some r=>rfl
  | none=>rw [show D7 ((none:Option Int).map fun v=>(.inr (.ext v):Int ⊕ Af Unit Int)) = .nrm () from rfl,Cd,Bk (by decide) (by decide),AD]; rfl
 have s1:DK e 1=match GK e.Merge with | some r=>some (.inr (.ext r)) | none=>some (.inl 2):=by
  unfold DK
  rw [if_pos (by decide),i1,AD,hm]
  cases GK e.Merge with
  | some r=>rfl
  | none=>rw [show D7 ((none:Option Int).map fun v=>(.inr (.ext v):Int ⊕ Af Unit Int)) = .nrm () from rfl,Cd,Bk (by decide) (by decide),AD]; rfl
 have s2:DK e 2=some (.inr (.nrm ())):=by
  unfold DK
  rw [if_neg (by decide)]
 unfold LO
 cases hsp:F8 e.Split with
 | some r=>
  rw [hsp] at s0
  rw [BG (f:=fun (a:Int)=>DK e a) s0,FU]
 | none=>
  rw [hsp] at s0
  rw [CN (f:=fun (a:Int)=>DK e a) s0]
  cases hmg:GK e.Merge with
  | some r=>
   rw [hmg] at s1
   rw [BG (f:=fun (a:Int)=>DK e a) s1,FU]; rfl
  | none=>
   rw [hmg] at s1
   rw [CN (f:=fun (a:Int)=>DK e a) s1,BG (f:=fun (a:Int)=>DK e a) s2,Cd]; rfl
theorem My (e:Aj) (h:E9 e):I8 e=some (ET e):=by
 have h1:=h.rows
 have h2:=h.cols
 have h3:=h.cells
 have i0:AO ([e.Rows,e.Cols]:List (List AI)) 0=some e.Rows:=rfl
 have i1:AO ([e.Rows,e.Cols]:List (List AI)) 1=some e.Cols:=rfl
 have s0:DR e 0=if Av e.Rows≠0 then some (.inr (.ext (Av e.Rows))) else some (.inl 1):=by
  unfold DR
  rw [if_pos (by decide),i0,AD,LM _ (by omega),AD]
  by_cases hz:Av e.Rows=0
  ·rw [if_neg (DW hz),if_neg (by simpa using hz),Bk (by decide) (by decide),AD]; rfl
  ·rw [if_pos (Dr hz),if_pos hz]
 have s1:DR e 1=if Av e.Cols≠0 then some (.inr (.ext (Av e.Cols))) else some (.inl 2):=by
  unfold DR
  rw [if_pos (by decide),i1,AD,LM _ (by omega),AD]
  by_cases hz:Av e.Cols=0
  ·rw [if_neg (DW hz),if_neg (by simpa using hz),Bk (by decide) (by decide),AD]; rfl
  ·rw [if_pos (Dr hz),if_pos hz]
 have s2:DR e 2=some (.inr (.nrm ())):=by
  unfold DR
  rw [if_neg (by decide)]
 unfold I8 ET
 by_cases hr:Av e.Rows=0
 ·rw [if_neg (by simpa using hr)] at s0
  rw [if_neg (show ¬ (Av e.Rows≠0) by simpa using hr),CN (f:=fun (a:Int)=>DR e a) s0]
  by_cases hc:Av e.Cols=0
  ·rw [if_neg (by simpa using hc)] at s1
   rw [if_neg (show ¬ (Av e.Cols≠0) by simpa using hc),CN (f:=fun (a:Int)=>DR e a) s1,BG (f:=fun (a:Int)=>DR e a) s2,Cd,Px _ _ _ _ (by omega) h.oc,AD]
   by_cases hz:CR 2147483647 2147483647 true e.Cells=0
   ·rw [if_neg (DW hz),if_neg (show ¬ (CR 2147483647 2147483647 true e.Cells≠0) by simpa using hz)]
    exact WA e h
   ·rw [if_pos (Dr hz),if_pos hz]
  ·rw [if_pos hc] at s1
   rw [if_pos hc,BG (f:=fun (a:Int)=>DR e a) s1,FU]
 ·rw [if_pos hr] at s0
  rw [if_pos hr,BG (f:=fun (a:Int)=>DR e a) s0,FU]
theorem PH (e:Aj) (h:E9 e):JV e=some (ET e):=by
 have h1:=h.rows
 have h2:=h.cols
 have h3:=h.cells
 have h4:=h.split
 have h5:=h.merge
 have l1:iter (fun (a:Int)=>GA e a) 0=some (D7 (F8 e.Split)):=by
  refine CW (f:=fun (a:Int)=>GA e a) (n:=e.Split.length) (Jr e.Split) (fun k hk=>?_) ?_
  ·unfold GA Jr
   rw [if_pos (by simpa using hk),Ac hk,AD,Jk _ _ _ KN,AD]
   by_cases hi:Ao 2147483647 2147483647 e.Split[k]!
   ·rw [if_neg (show ¬ (!decide (Ao 2147483647 2147483647 e.Split[k]!))=true by rw [decide_eq_true hi]; decide),if_neg (show ¬ ¬ Ao 2147483647 2147483647 e.Split[k]! from fun h=>h hi),Am (by omega),AD]; rfl
   ·rw [if_pos (by rw [decide_eq_false hi]; rfl),if_pos hi]; rfl
  ·show GA e (e.Split.length:Int)=_
   unfold GA
   rw [if_neg (by simp)]
 have l2:iter (fun (a:Int)=>GI e a) 0=some (D7 (GK e.Merge)):=by
  refine CW (f:=fun (a:Int)=>GI e a) (n:=e.Merge.length) (Jl e.Merge) (fun k hk=>?_) ?_
  ·unfold GI Jl
   rw [if_pos (by simpa using hk),Ac hk,AD,Jk _ _ _ KN,AD]
   by_cases hi:Ao 2147483647 2147483647 e.Merge[k]!
   ·rw [if_neg (show ¬ (!decide (Ao 2147483647 2147483647 e.Merge[k]!))=true by rw [decide_eq_true hi]; decide),if_neg (show ¬ ¬ Ao 2147483647 2147483647 e.Merge[k]! from fun h=>h hi)]
    by_cases h1:e.Merge[k]!.H=1∧e.Merge[k]!.W=1
    ·rw [if_pos (show ((decide (e.Merge[k]!.H=1)) && (decide (e.Merge[k]!.W=1)))=true by rw [decide_eq_true h1.1,decide_eq_true h1.2]; rfl),if_pos h1]; rfl
    ·rw [if_neg (show ¬ ((decide (e.Merge[k]!.H=1)) && (decide (e.Merge[k]!.W=1)))=true by rw [Bool.and_eq_true,decide_eq_true_eq,decide_eq_true_eq]; exact h1),if_neg h1,Am (by omega),AD]; rfl
   ·rw [if_pos (by rw [decide_eq_false hi]; rfl),if_pos hi]; rfl
  ·show GI e (e.Merge.length:Int)=_
   unfold GI
   rw [if_neg (by simp)]
 unfold JV ET
 rw [QA _ (by omega),AD]
 by_cases hr:Av e.Rows=0
 ·rw [if_neg (DW hr),if_neg (show ¬ (Av e.Rows≠0) by simpa using hr),QA _ (by omega),AD]
  by_cases hc:Av e.Cols=0
  ·rw [if_neg (DW hc),if_neg (show ¬ (Av e.Cols≠0) by simpa using hc),Pm _ _ _ _ (by omega) h.oc (by decide) (by decide),AD]
   by_cases hz:CR 2147483647 2147483647 true e.Cells=0
   ·rw [if_neg (DW hz),if_neg (show ¬ (CR 2147483647 2147483647 true e.Cells≠0) by simpa using hz),l1,Dq]
    unfold LO
    cases F8 e.Split with
    | some r=>rfl
    | none=>
     dsimp only
     rw [l2,Dq]
     cases GK e.Merge <;> rfl
   ·rw [if_pos (Dr hz),if_pos hz]
  ·rw [if_pos (Dr hc),if_pos hc]
 ·rw [if_pos (Dr hr),if_pos hr]
def g0:AJ:=AJ.mk 2 1 [(AE.mk 1 0 [120] 0 [])] []
def e0:Aj:=Aj.mk [(AI.mk 1 1),(AI.mk 0 2)] [] [] [] []
theorem Sf:G5 g0:=⟨by decide,by decide,fun c hc=>by
 have:c=AE.mk 1 0 [120] 0 []:=by simpa [g0] using hc
 subst this
 exact ⟨SX,by decide⟩⟩
theorem VO:E9 e0:=⟨by decide,by decide,by decide,by decide,by decide,fun c hc=>by cases hc⟩
theorem PB:C1 2 e0.Rows=some (3,true):=by
 have h1:Av e0.Rows=0:=by decide
 have h2:An e0.Rows=2∧A0 e0.Rows=3:=by decide
 unfold C1
 rw [if_neg (by decide),Ns _ (by decide),if_neg (by rw [h1]; simp),GV,h2.1,h2.2]; rfl
theorem PJ:C1 1 e0.Cols=some (1,true):=by
 unfold C1
 rw [if_pos (by decide)]
theorem Rr:EN g0 e0=some (3,1,0):=by
 have hg:DS g0=0:=by decide +kernel
 have he:ET e0=0:=by decide +kernel
 have s1:Fa e0 3 1 0=some (.inr (.nrm ())):=by
  unfold Fa; rw [if_neg (by decide)]
 have t0:Ef 3 1 ([]:List AC) 0=some (.inr (.nrm ())):=by
  unfold Ef; rw [if_neg (by decide)]
 have t1:B1 e0 3 1 0=some (.inl 1):=by
  unfold B1
  rw [if_pos (by decide),show AO ([e0.Split,e0.Merge]:List (List AC)) 0=some [] from rfl,AD,BG (f:=fun (a:Int)=>Ef 3 1 ([]:List AC) a) t0,Cd,Bk (by decide) (by decide),AD]; rfl
 have t2:B1 e0 3 1 1=some (.inl 2):=by
  unfold B1
  rw [if_pos (by decide),show AO ([e0.Split,e0.Merge]:List (List AC)) 1=some [] from rfl,AD,BG (f:=fun (a:Int)=>Ef 3 1 ([]:List AC) a) t0,Cd,Bk (by decide) (by decide),AD]; rfl
 have t3:B1 e0 3 1 2=some (.inr (.nrm ())):=by
  unfold B1; rw [if_neg (by decide)]
 unfold EN
 rw [Le _ Sf,AD,if_neg (DW hg),My _ VO,AD,if_neg (DW he)]
 show Aw (C1 2 e0.Rows) _=_
 rw [PB,BK]
 show Aw (C1 1 e0.Cols) _=_
 rw [PJ,BK,if_neg (by decide),BG (f:=fun (a:Int)=>Fa e0 3 1 a) s1,Cd,CN (f:=fun (a:Int)=>B1 e0 3 1 a) t1,CN (f:=fun (a:Int)=>B1 e0 3 1 a) t2,BG (f:=fun (a:Int)=>B1 e0 3 1 a) t3,Cd]
def E4:AE:=AE.mk 1 0 [120] 0 []
def DY:AE:=AE.mk 2 0 [120] 0 []
theorem UZ:GN [E4] e0.Rows e0.Cols=some [DY]:=by
 have ha:EV e0.Rows [1]=some ([2],0):=by
  have h1:Av e0.Rows=0:=by decide
  have h2:Hx e0.Rows (An e0.Rows) [1] [] = .nrm [2]:=by rfl
  rw [Nk _ _ (by decide) (by decide),if_neg (by rw [h1]; simp),h2,Cd]
 have hcl:HH E4=some E4:=rfl
 have s0:DJ [E4] e0.Rows e0.Cols 0 []=some (.inl (1,[DY])):=by
  unfold DJ
  rw [if_pos (by decide),show AO [E4] 0=some E4 from rfl,AD,hcl,AD,if_pos (by decide)]
  show AB (Ar (Aw (EV e0.Rows [1]) _) _) _=_
  rw [ha,BK]
  rfl
 have s1:DJ [E4] e0.Rows e0.Cols 1 [DY]=some (.inr [DY]):=by
  unfold DJ
  rw [if_neg (by decide)]
 unfold GN
 rw [CN (f:=fun (a:Int × (List AE))=>DJ [E4] e0.Rows e0.Cols a.1 a.2) s0,BG (f:=fun (a:Int × (List AE))=>DJ [E4] e0.Rows e0.Cols a.1 a.2) s1,AD]
theorem S4:GF [DY] []=some [DY]:=by
 have s0:FY [DY] [] 0 0 []=some (.inr (0,[])):=by
  unfold FY; rw [if_neg (by decide)]
 unfold GF
 rw [BG (f:=fun (a:Int × Int × (List AE))=>FY [DY] [] a.1 a.2.1 a.2.2) s0,BK]
 rfl
theorem Ra (a b:AC):Fs a b=some (A5 a.Row b.Row a.Col b.Col):=by
 unfold Fs
 rw [LS,LS,AD,AD,PX,AD,Pg]
def EH (a b:AC):Prop:=a.Row<b.Row∨(a.Row=b.Row∧a.Col<b.Col)
theorem Sw (a b c d:Int):A5 a b c d<0↔(a<b∨(a=b∧c<d)):=by
 have:=Ie a b c d
 constructor
 ·intro h; have : ¬ 0≤A5 a b c d:=by omega
  omega
 ·intro h; have : ¬ 0≤A5 a b c d:=by omega
  omega
theorem Nr (a b:AC):ltOf (fun a b:AC=>A5 a.Row b.Row a.Col b.Col) a b=true↔EH a b:=by
 unfold ltOf EH
 rw [decide_eq_true_eq]
 exact Sw ..
theorem LK (a b:AC):ltOf (fun a b:AC=>A5 a.Row b.Row a.Col b.Col) a b=false ↔ ¬ EH a b:=by
 rw [← Nr,Bool.not_eq_true]
theorem PU {M L:List AC} (hm:M.length≤4194304) (hp:L.Perm M) (hs:L.Pairwise EH):EO Fs M=some L:=by
 refine TQ ⟨by omega,fun a b=>A5 a.Row b.Row a.Col b.Col,Ra,⟨fun x=>?_,fun x y z h1 h2=>?_,fun x y z h1 h2=>?_⟩,fun a ha b hb h1 h2=>?_,hp,hs.imp fun {a b} h=>?_⟩
 ·rw [LK]; unfold EH; omega
 ·rw [Nr] at *; unfold EH at *; omega
 ·rw [LK] at *; unfold EH at *; omega
 ·rw [LK] at h1 h2
  obtain ⟨i,hi,rfl⟩:=List.getElem_of_mem (hp.symm.subset ha)
  obtain ⟨j,hj,rfl⟩:=List.getElem_of_mem (hp.symm.subset hb)
  rw [List.pairwise_iff_getElem] at hs
  rcases Nat.lt_trichotomy i j with h | h | h
  ·exact absurd (hs i j hi hj h) h1
  ·subst h; rfl
  ·exact absurd (hs j i hj hi h) h2
 ·rw [LK]; unfold EH at *; omega
theorem Rt:G7 g0 e0=some (AJ.mk 3 1 [DY] []):=by
 have s1:D2 g0 e0 0 (AJ.mk 3 1 [DY] [])=some (.inr (AJ.mk 3 1 [DY] [])):=by
  unfold D2; rw [if_neg (by decide)]
 have s2:EB e0 0 (AJ.mk 3 1 [DY] [])=some (.inr (AJ.mk 3 1 [DY] [])):=by
  unfold EB; rw [if_neg (by decide)]
 unfold G7
 show Aw (C1 2 e0.Rows) _=_
 rw [PB,BK]
 show Aw (C1 1 e0.Cols) _=_
 rw [PJ,BK]
 show AB (GN [E4] e0.Rows e0.Cols) _=_
 rw [UZ,AD]
 show AB (GF [DY] []) _=_
 rw [S4,AD,BG (f:=fun (a:Int × AJ)=>D2 g0 e0 a.1 a.2) s1,AD,BG (f:=fun (a:Int × AJ)=>EB e0 a.1 a.2) s2,AD]
 show AB (EO Fs []) _=_
 rw [PU (L:=[]) (by simp) (List.Perm.refl _) List.Pairwise.nil,AD]
theorem Ti:KD=some true:=by
 unfold KD
 show Aw (Gu g0 e0) _=_
 unfold Gu
 rw [Rr,GV,if_neg (by decide),Rt,AD,BK]
 rfl
end Go.Proofs.YtojmbndlghbpjaaDoor.Al

namespace Go.Proofs.YtojmbndlghbpjaaDoor.Al
def Ej (c t:AE):Int:=A5 c.Row t.Row c.Col t.Col
theorem Mz (c t:AE):Ej c t<0↔(c.Row<t.Row∨(c.Row=t.Row∧c.Col<t.Col)):=by
 have:=Ie c.Row t.Row c.Col t.Col
 unfold Ej
 omega
theorem TV (c t:AE):Ej c t=0↔(c.Row=t.Row∧c.Col=t.Col):=by
 unfold Ej A5
 constructor
 ·intro h
  split at h
  ·cases h
  ·split at h
   ·cases h
   ·split at h
    ·cases h
    ·split at h
     ·cases h
     ·omega
 ·rintro ⟨h1,h2⟩
  rw [if_neg (by omega),if_neg (by omega),if_neg (by omega),if_neg (by omega)]
def Ic (l:List AE):Prop:=∀ k,k+1<l.length→Ej l[k]! l[k+1]! < 0
theorem R6 {a b c:AE} (h1:Ej a b<0) (h2:Ej b c<0):Ej a c<0:=by
 rw [Mz] at *
 omega
theorem QF {l:List AE} (h:Ic l) : ∀ (d i:Nat),i+d+1<l.length→Ej l[i]! l[i+d+1]! < 0
 | 0,i,hi=>h i hi
 | d+1,i,hi=>R6 (QF h d i (by omega)) (h (i+d+1) hi)
theorem WO {l:List AE} (h:Ic l) {i j:Nat} (hij:i<j) (hj:j<l.length):Ej l[i]! l[j]! < 0:=by
 have:=QF h (j-i-1) i (by omega)
 rwa [show i+(j-i-1)+1=j by omega] at this
def Dw (l:List AE) (row col:Int):AE:=(l.find? fun c=>decide (c.Row=row) && decide (c.Col=col)).getD (AE.mk row col [] 0 [])
theorem LA {l:Nat} {G:Nat→Option Int} (h:((List.range l).findSome? G).getD 0=0) (hn : ∀ k,k<l→G k≠some 0) : ∀ k,k<l→G k=none:=by
 intro k hk
 cases hf:(List.range l).findSome? G with
 | none=>
  rw [List.findSome?_eq_none_iff] at hf
  exact hf k (List.mem_range.2 hk)
 | some v=>
  rw [hf] at h
  obtain ⟨j,hj,hjv⟩:=List.exists_of_findSome?_eq_some hf
  have h0:v=0:=h
  rw [h0] at hjv
  exact absurd hjv (hn j (List.mem_range.1 hj))
theorem MY {g:AJ} (h:DS g=0):Bu g.Rows g.Cols∧Ic g.Cells ∧ ∀ k,k<g.Merges.length→Ao g.Rows g.Cols g.Merges[k]!:=by
 unfold DS at h
 by_cases h1:Bu g.Rows g.Cols
 ·rw [if_neg (by simpa using h1)] at h
  by_cases h2:CR g.Rows g.Cols false g.Cells=0
  ·rw [if_neg (by simpa using h2)] at h
   refine ⟨h1,fun k hk=>?_,fun k hk=>?_⟩
   ·have:=LA h2 (fun k _ he=>by
     unfold EW at he
     split at he
     ·rename_i hne
      injection he with he
      exact hne he
     ·split at he
      ·cases he
      ·cases he) (k+1) (by omega)
    unfold EW at this
    split at this
    ·cases this
    ·split at this
     ·cases this
     ·rename_i hq
      rw [Nat.add_sub_cancel] at hq
      show A5 _ _ _ _<0
      have:=fun h=>hq ⟨by omega,h⟩
      omega
   ·have:=LA h (fun k _ he=>by
     unfold EY at he
     split at he
     ·cases he
     ·split at he
      ·cases he
      ·split at he
       ·cases he
       ·split at he
        ·cases he
        ·cases he) k hk
    exact M8 this
  ·rw [if_pos h2] at h; exact absurd h h2
 ·rw [if_pos h1] at h; cases h
def PR (W:Int→Int) (lo hi:Int) (c:Int × Int):Prop:=
 (c=(0,0) ∧ ∀ r,lo≤r→r<hi→W r<0) ∨ ∃ r0 r1,lo≤r0∧r0≤r1∧r1<hi∧0≤W r0∧0≤W r1∧(∀ r,lo≤r→r<hi→0≤W r→r0≤r∧r≤r1)∧c=(W r0,W r1+1)
theorem PR.uniq {W:Int→Int} {lo hi:Int} {c d:Int × Int} (h1:PR W lo hi c) (h2:PR W lo hi d):c=d:=by
 rcases h1 with ⟨rfl,a⟩ | ⟨r0,r1,a1,a2,a3,a4,a5,a6,rfl⟩
 ·rcases h2 with ⟨rfl,_⟩ | ⟨s0,s1,b1,b2,b3,b4,_⟩
  ·rfl
  ·have:=a s0 b1 (by omega); omega
 ·rcases h2 with ⟨rfl,b⟩ | ⟨s0,s1,b1,b2,b3,b4,b5,b6,rfl⟩
  ·have:=b r0 a1 (by omega); omega
  ·have c1:=a6 s0 b1 (by omega) b4
   have c2:=a6 s1 (by omega) (by omega) b5
   have c3:=b6 r0 a1 (by omega) a4
   have c4:=b6 r1 (by omega) (by omega) a5
   obtain rfl:r0=s0:=by omega
   obtain rfl:r1=s1:=by omega
   rfl
theorem PR.congr {W V:Int→Int} {lo hi:Int} {c:Int × Int} (h:PR W lo hi c) (e : ∀ r,lo≤r→W r=V r):PR V lo hi c:=by
 rcases h with ⟨rfl,a⟩ | ⟨r0,r1,a1,a2,a3,a4,a5,a6,rfl⟩
 ·exact .inl ⟨rfl,fun r h1 h2=>by rw [← e r h1]; exact a r h1 h2⟩
 ·rw [e r0 a1,e r1 (by omega)]
  exact .inr ⟨r0,r1,a1,a2,a3,by rw [← e r0 a1]; exact a4,by rw [← e r1 (by omega)]; exact a5,fun r h1 h2 h3=>a6 r h1 h2 (by rw [e r h1]; exact h3),rfl⟩
theorem PR.wide {W:Int→Int} {lo h1 h2:Int} {c:Int × Int} (h:PR W lo h1 c) (e : ∀ r,lo≤r→h1≤r→r<h2→W r<0) (hl:h1≤h2):PR W lo h2 c:=by
 rcases h with ⟨rfl,a⟩ | ⟨r0,r1,a1,a2,a3,a4,a5,a6,rfl⟩
 ·refine .inl ⟨rfl,fun r b1 b2=>?_⟩
  rcases Int.lt_or_le r h1 with b | b
  ·exact a r b1 b
  ·exact e r b1 b b2
 ·refine .inr ⟨r0,r1,a1,a2,by omega,a4,a5,fun r b1 b2 b3=>?_,rfl⟩
  rcases Int.lt_or_le r h1 with b | b
  ·exact a6 r b1 b b3
  ·have:=e r b1 b b2; omega
theorem PR.more {W:Int→Int} {lo h1 h2 m:Int} {c:Int × Int} (h:PR W lo h1 c) (hm:m=max lo h1) (hl:m<h2) (e : ∀ r,m≤r→r<h2→0≤W r):PR W lo h2 (if c.2=0 then W m else c.1,W (h2-1)+1):=by
 have e1:=e m (by omega) hl
 have e2:=e (h2-1) (by omega) (by omega)
 rcases h with ⟨rfl,a⟩ | ⟨r0,r1,a1,a2,a3,a4,a5,a6,rfl⟩
 ·refine .inr ⟨m,h2-1,by omega,by omega,by omega,e1,e2,fun r b1 b2 b3=>?_,by simp⟩
  rcases Int.lt_or_le r h1 with b | b
  ·have:=a r b1 b; omega
  ·omega
 ·refine .inr ⟨r0,h2-1,a1,by omega,by omega,a4,e2,fun r b1 b2 b3=>?_,?_⟩
  ·rcases Int.lt_or_le r h1 with b | b
   ·have:=a6 r b1 b b3; omega
   ·omega
  ·have : ¬ (W r1+1=0):=by omega
   simp [this]
theorem PR.less {W:Int→Int} {lo hi:Int} {c:Int × Int} (h:PR W lo hi c):PR W (lo-1) hi (if 0≤W (lo-1)∧lo≤hi then (W (lo-1),if c.2=0 then W (lo-1)+1 else c.2) else c):=by
 by_cases hw:0≤W (lo-1)∧lo≤hi
 ·rw [if_pos hw]
  rcases h with ⟨rfl,a⟩ | ⟨r0,r1,a1,a2,a3,a4,a5,a6,rfl⟩
  ·refine .inr ⟨lo-1,lo-1,by omega,by omega,by omega,hw.1,hw.1,fun r b1 b2 b3=>?_,by simp⟩
   rcases Int.lt_or_le r lo with b | b
   ·omega
   ·have:=a r b b2; omega
  ·refine .inr ⟨lo-1,r1,by omega,by omega,by omega,hw.1,a5,fun r b1 b2 b3=>?_,?_⟩
   ·rcases Int.lt_or_le r lo with b | b
    ·omega
    ·have:=a6 r b b2 b3; omega
   ·have : ¬ (W r1+1=0):=by omega
    simp [this]
 ·rw [if_neg hw]
  rcases h with ⟨rfl,a⟩ | ⟨r0,r1,a1,a2,a3,a4,a5,a6,rfl⟩
  ·refine .inl ⟨rfl,fun r b1 b2=>?_⟩
   rcases Int.lt_or_le r lo with b | b
   ·obtain rfl:r=lo-1:=by omega
    omega
   ·exact a r b b2
  ·refine .inr ⟨r0,r1,by omega,a2,a3,a4,a5,fun r b1 b2 b3=>?_,rfl⟩
   rcases Int.lt_or_le r lo with b | b
   ·obtain rfl:r=lo-1:=by omega
    omega
   ·exact a6 r b b2 b3
def GZ (fr tq:Int):List AI→Int × Int × Int × Int→Int × Int
 | [],c=>(c.1,c.2.1)
 | s :: l,c=>GZ fr tq l (if s.Kind=0∧max fr c.2.2.1<min tq (c.2.2.1+s.N) then (if c.2.1=0 then c.2.2.2+max fr c.2.2.1-c.2.2.1 else c.1) else c.1,
   if s.Kind=0∧max fr c.2.2.1<min tq (c.2.2.1+s.N) then c.2.2.2+min tq (c.2.2.1+s.N)-c.2.2.1 else c.2.1,
   if s.Kind=1 then c.2.2.1 else c.2.2.1+s.N,if s.Kind=2 then c.2.2.2 else c.2.2.2+s.N)
theorem O1 (fr tq:Int) (s:AI) (l:List AI) (c:Int × Int × Int × Int):GZ fr tq (s :: l) c=GZ fr tq l (if s.Kind=0∧max fr c.2.2.1<min tq (c.2.2.1+s.N) then (if c.2.1=0 then c.2.2.2+max fr c.2.2.1-c.2.2.1 else c.1) else c.1,
   if s.Kind=0∧max fr c.2.2.1<min tq (c.2.2.1+s.N) then c.2.2.2+min tq (c.2.2.1+s.N)-c.2.2.1 else c.2.1,
   if s.Kind=1 then c.2.2.1 else c.2.2.1+s.N,if s.Kind=2 then c.2.2.2 else c.2.2.2+s.N):=rfl
theorem Te (a:List AI) (fr tq:Int) (hg:Eu a) (h0:0≤fr∧fr≤2147483647) (h1:0≤tq∧tq≤2147483647):EK a fr tq=some (GZ fr tq a (0,0,0,0)):=by
 unfold EK
 rw [Cp (f:=fun (a_1:Int × Int × Int × Int × Int)=>HK a fr tq a_1.1 a_1.2.1 a_1.2.2.1 a_1.2.2.2.1 a_1.2.2.2.2) a (fun (c:Int × Int × Int × Int) k=>(c.1,c.2.1,c.2.2.1,c.2.2.2,(k:Int))) (GZ fr tq)
  (fun k c=>EL a k c.2.2.1 c.2.2.2)
  (fun k c hk hI=>by
   left
   have hs:=Gq hg.stp hk
   have hnx:=hI.nx hg hk
   have hgl:=hg.len
   unfold HK
   rw [O1]
   simp only
   rw [if_pos (by simpa using hk),Ac hk,AD,Am (by omega)]
   obtain ⟨fi,la,f,t⟩:=c
   simp only at hnx ⊢
   generalize a[k]! = x at hs hnx ⊢
   obtain ⟨q1,q2,q3,q4,q5,q6,q7⟩:=hnx
   unfold A4 at hs
   simp only [Bx,Bs] at q7
   rw [BU (x:=t+x.N) (by omega) (by omega),BU (x:=f+x.N) (by omega) (by omega)]
   simp only [AD]
   rw [BU (x:=t+max fr f) (by omega) (by omega),BU (x:=t+min tq (f+x.N)) (by omega) (by omega)]
   simp only [AD]
   rw [BU (by omega) (by omega),BU (by omega) (by omega)]
   refine ⟨_,?_,?_,rfl⟩
   ·simp only [AD]
    have d01:x.Kind=0∨x.Kind=1∨x.Kind=2:=by omega
    generalize max fr f=mx
    generalize min tq (f+x.N)=mn
    rcases d01 with d | d | d
    ·by_cases e:mx<mn
     ·by_cases e2:la=0 <;> simp [d,e,e2]
     ·simp [d,e]
    ·simp [d]
    ·simp [d]
   ·refine q7 _ _ ?_ ?_ ?_ ?_ <;> simp only <;> split <;> omega)
  (fun c hI=>by unfold HK; rw [if_neg (by simp)]; rfl) (0,0,0,0) hg.run (0,0,0,0,0) rfl]
 rfl
theorem SR (W:Int→Int) (fr tq:Int) (l:List AI) (h : ∀ s∈l,A4 s) (fi la f t:Int) (ht:0≤t) (hW : ∀ r,f≤r→W r=A8 (By r l (f,t))) (hP:PR W fr (min tq f) (fi,la)) (hto:tq≤f+An l) :
  PR W fr tq (GZ fr tq l (fi,la,f,t)):=by
 induction l generalizing fi la f t with
 | nil=>
  have:min tq f=tq:=by simp [An] at hto; omega
  rw [this] at hP
  exact hP
 | cons s l ih=>
  have hs:=h s (List.mem_cons_self ..)
  unfold A4 at hs
  rw [HD] at hto
  unfold Bx at hto
  rw [O1]
  have d01:s.Kind=0∨s.Kind=1∨s.Kind=2:=by omega
  rcases d01 with d | d | d
  ·have n1 : ¬ s.Kind=1:=by omega
   have n2 : ¬ s.Kind=2:=by omega
   simp only [d,true_and,show ¬ ((0:Int)=1) by decide,show ¬ ((0:Int)=2) by decide,if_false]
   rw [if_neg n1] at hto
   refine ih (fun x hx=>h x (List.mem_cons_of_mem _ hx)) _ _ _ _ (by omega) (fun r hr=>?_) ?_ (by omega)
   ·rw [hW r (by omega),EI,if_neg n1,if_neg (by omega),if_pos d]
   ·have hv : ∀ r,f≤r→r<f+s.N→W r=t+r-f:=fun r b1 b2=>by rw [hW r b1,EI,if_neg n1,if_pos b2,if_pos d]; rfl
    by_cases e:max fr f<min tq (f+s.N)
    ·rw [if_pos e,if_pos e]
     have:=hP.more (h2:=min tq (f+s.N)) (m:=max fr f) (by omega) e (fun r b1 b2=>by rw [hv r (by omega) (by omega)]; omega)
     rw [hv _ (by omega) (by omega),hv _ (by omega) (by omega)] at this
     rwa [show t+(min tq (f+s.N)-1)-f+1=t+min tq (f+s.N)-f by omega] at this
    ·rw [if_neg e,if_neg e]
     exact hP.wide (fun r b1 b2 b3=>by omega) (by omega)
  ·simp only [d,show ¬ ((1:Int)=0) by decide,show ¬ ((1:Int)=2) by decide,false_and,if_true,if_false]
   rw [if_pos d] at hto
   refine ih (fun x hx=>h x (List.mem_cons_of_mem _ hx)) _ _ _ _ (by omega) (fun r hr=>?_) hP (by omega)
   rw [hW r hr,EI,if_pos d]
  ·have n1 : ¬ s.Kind=1:=by omega
   simp only [d,show ¬ ((2:Int)=0) by decide,show ¬ ((2:Int)=1) by decide,false_and,if_true,if_false]
   rw [if_neg n1] at hto
   have n0 : ¬ s.Kind=0:=by omega
   refine ih (fun x hx=>h x (List.mem_cons_of_mem _ hx)) _ _ _ _ (by omega) (fun r hr=>?_) ?_ (by omega)
   ·rw [hW r (by omega),EI,if_neg n1,if_neg (by omega),if_neg n0]
   ·exact hP.wide (fun r b1 b2 b3=>by rw [hW r (by omega),EI,if_neg n1,if_pos (by omega),if_neg n0]; decide) (by omega)
theorem Tv (r:Int) (xs:List Int) (i:Int) (hi:0≤i) : -1≤A8 (BT r xs i)∧A8 (BT r xs i)≤i+xs.length:=by
 induction xs generalizing i with
 | nil=>simp [BT,A8]; omega
 | cons x xs ih=>
  rw [BT]
  split
  ·simp [A8]; omega
  ·have:=ih (i+1) (by omega); rw [List.length_cons]; omega
theorem VJ (us:List Int) (fr tq:Int) (hm:us.length≤4194304) (h0:0≤fr) (h1:fr≤tq) (h2:tq≤2147483647) : ∃ c:Int × Int,HE us fr tq=some c∧PR (fun r=>A8 (BT r (BF us 0) 0)) fr tq c:=by
 obtain ⟨b,hb,hq⟩:=Dh (f:=fun (a:Int × Int × Int)=>HS us fr a.1 a.2.1 a.2.2) (tq-fr).toNat
  (fun k s=>s.2.2=tq-1-k∧PR (fun r=>A8 (BT r (BF us 0) 0)) (tq-k) tq (s.1,s.2.1)) (fun b=>PR (fun r=>A8 (BT r (BF us 0) 0)) fr tq b)
  (fun k s hk hR=>by
   left
   obtain ⟨lo,hi,row⟩:=s
   obtain ⟨rfl,hR⟩:=hR
   simp only at hR ⊢
   have hle:=hR.less
   unfold HS
   rw [if_pos (by simp; omega),Uw us _ (by omega),AD,BU (x:=tq-1-(k:Int)-1) (by omega) (by omega)]
   rw [show tq-(k:Int)-1=tq-1-(k:Int) by omega] at hle
   have hbd:=Tv (tq-1-(k:Int)) (BF us 0) 0 (by omega)
   have hrl:=Kt us 0
   generalize hw:A8 (BT (tq-1-(k:Int)) (BF us 0) 0)=w at hbd hle ⊢
   rw [BU (x:=w+1) (by omega) (by omega)]
   by_cases e:0≤w
   ·rw [if_pos ⟨e,by omega⟩] at hle
    by_cases e2:hi=0
    ·refine ⟨(w,w+1,tq-1-(k:Int)-1),by simp [e,e2],by simp; omega,?_⟩
     simp only [e2,if_true] at hle
     rw [show tq-((k+1:Nat):Int)=tq-1-(k:Int) by omega]; exact hle
    ·refine ⟨(w,hi,tq-1-(k:Int)-1),by simp [e,e2],by simp; omega,?_⟩
     simp only [e2,if_false] at hle
     rw [show tq-((k+1:Nat):Int)=tq-1-(k:Int) by omega]; exact hle
   ·rw [if_neg (fun x=>e x.1)] at hle
    refine ⟨(lo,hi,tq-1-(k:Int)-1),by simp [e],by simp; omega,?_⟩
    rw [show tq-((k+1:Nat):Int)=tq-1-(k:Int) by omega]; exact hle)
  (fun s hR=>by
   obtain ⟨lo,hi,row⟩:=s
   obtain ⟨rfl,hR⟩:=hR
   simp only at hR ⊢
   unfold HS
   refine ⟨(lo,hi),by rw [if_neg (by simp; omega)],?_⟩
   rwa [show tq-(((tq-fr).toNat:Nat):Int)=fr by omega] at hR)
  (s:=(0,0,tq-1)) ⟨by simp,.inl ⟨rfl,fun r h1 h2=>by simp at h1; omega⟩⟩
 unfold HE
 rw [BU (by omega) (by omega),AD,hb]
 exact ⟨b,rfl,hq⟩
abbrev KU (A:List AI) (r:Int):Int:=A8 (By r A (0,0))
def LJ (A:List AI) (s:KW):Int × Int:=GZ s.From s.To A (0,0,0,0)
theorem RN {A:List AI} (h : ∀ s∈A,A4 s) (s:KW) (h0:0≤s.From) (h1:s.To≤An A):PR (KU A) s.From s.To (LJ A s):=
 SR (KU A) s.From s.To A h 0 0 0 0 (by omega) (fun r _=>rfl) (.inl ⟨rfl,fun r h1 h2=>by omega⟩) (by omega)
theorem Tw (A:List AI) (s:KW) (hg:Eu A) (h0:0≤s.From) (h1:s.From<s.To) (h2:s.To≤An A):EK A s.From s.To=some ((LJ A s).1,(LJ A s).2):=by
 have:=hg.olds
 rw [Te A s.From s.To hg (by omega) (by omega)]; rfl
end Go.Proofs.YtojmbndlghbpjaaDoor.Al

set_option linter.unusedVariables false
set_option linter.unusedSimpArgs false
namespace Go.Proofs.YtojmbndlghbpjaaDoor.Al
open Go
structure BO (a:List AI) (n:Int):Prop where
 n0:0≤n
 nm:n≤2147483647
 er:Av a=0
 ft:a≠[]→An a=n
def Aq (a:List AI) (p:Int):Int:=if a=[] then p else KU a p
def AX (a:List AI) (n:Int):Int:=if a=[] then n else A0 a
theorem QQ {a:List AI} : decide ((a.length:Int)=0)=decide (a=[]):=by
 rw [decide_eq_decide]
 cases a with
 | nil=>simp
 | cons x r=>simp; omega
theorem Jm {a:List AI} : decide (0<(a.length:Int)) = !decide (a=[]):=by
 cases a with
 | nil=>simp
 | cons x r=>simp
theorem Om : ∀ (a:List AI) (f t p:Int),(∀ s∈a,A4 s)→f≤p→0≤t → -1≤A8 (By p a (f,t))∧(0≤A8 (By p a (f,t))→t≤A8 (By p a (f,t))∧A8 (By p a (f,t))<t+A0 a):=by
 intro a
 induction a with
 | nil=>intro f t p _ _ _; simp [By,A8]
 | cons s l ih=>
  intro f t p hs hf ht
  have h1:=hs s (List.mem_cons_self ..)
  have h2 : ∀ x∈l,A4 x:=fun x hx=>hs x (List.mem_cons_of_mem _ hx)
  have hn:=(H4 (a:=l) h2)
  unfold A4 at h1
  rw [EI,Gm]
  unfold Bs
  by_cases d1:s.Kind=1
  ·rw [if_pos d1,if_neg (by omega)]
   have:=ih f (t+s.N) p h2 hf (by omega)
   dsimp only at this ⊢
   omega
  ·rw [if_neg d1]
   by_cases d2:p<f+s.N
   ·rw [if_pos d2]
    by_cases d0:s.Kind=0
    ·rw [if_pos d0,if_neg (by omega)]
     simp only [A8]; omega
    ·rw [if_neg d0]
     simp only [A8]; omega
   ·rw [if_neg d2]
    have:=ih (f+s.N) (if s.Kind=0 then t+s.N else t) p h2 (by omega) (by split <;> omega)
    by_cases d0:s.Kind=0
    ·rw [if_pos d0] at this ⊢; rw [if_neg (by omega)]; dsimp only at this ⊢; omega
    ·rw [if_neg d0] at this ⊢; rw [if_pos (by omega)]; dsimp only at this ⊢; omega
theorem UJ : ∀ (a:List AI) (f t p q:Int),(∀ s∈a,A4 s)→f≤p→p<q→0≤t→0≤A8 (By p a (f,t))→0≤A8 (By q a (f,t))→A8 (By p a (f,t))<A8 (By q a (f,t)):=by
 intro a
 induction a with
 | nil=>intro f t p q _ _ _ _ h; simp [By,A8] at h
 | cons s l ih=>
  intro f t p q hs hf hpq ht
  have h1:=hs s (List.mem_cons_self ..)
  have h2 : ∀ x∈l,A4 x:=fun x hx=>hs x (List.mem_cons_of_mem _ hx)
  unfold A4 at h1
  rw [EI,EI]
  by_cases d1:s.Kind=1
  ·rw [if_pos d1,if_pos d1]
   exact ih f (t+s.N) p q h2 hf hpq (by omega)
  ·rw [if_neg d1,if_neg d1]
   by_cases d2:p<f+s.N
   ·rw [if_pos d2]
    by_cases d0:s.Kind=0
    ·rw [if_pos d0]
     by_cases d3:q<f+s.N
     ·rw [if_pos d3,if_pos d0]; simp only [A8]; omega
     ·rw [if_neg d3,if_pos d0]
      have:=Om l (f+s.N) (t+s.N) q h2 (by omega) (by omega)
      simp only [A8] at *; omega
    ·rw [if_neg d0]; simp only [A8]; omega
   ·rw [if_neg d2,if_neg (show ¬ q<f+s.N by omega)]
    exact ih (f+s.N) _ p q h2 (by omega) hpq (by split <;> omega)
theorem Us {a:List AI} {n p:Int} (h:BO a n) (h0:0≤p) (h1:p<n) : -1≤Aq a p∧Aq a p<AX a n:=by
 unfold Aq AX
 by_cases d:a=[]
 ·rw [if_pos d,if_pos d]; omega
 ·rw [if_neg d,if_neg d]
  have hs:=(Cu h.er).stp
  have:=Om a 0 0 p hs h0 (by omega)
  have hn:=H4 hs
  unfold KU; omega
theorem KK {a:List AI} {n p q:Int} (h:BO a n) (h0:0≤p) (hpq:p<q) (h1:0≤Aq a p) (h2:0≤Aq a q):Aq a p<Aq a q:=by
 unfold Aq at *
 by_cases d:a=[]
 ·rw [if_pos d] at *; rw [if_pos d]; exact hpq
 ·rw [if_neg d] at *; rw [if_neg d]
  exact UJ a 0 0 p q (Cu h.er).stp h0 hpq (by omega) h1 h2
theorem Fi {a:List AI} {n:Int} (h:BO a n):0≤AX a n∧AX a n≤2147483647:=by
 unfold AX
 have:=h.n0; have:=h.nm
 split
 ·omega
 ·have hg:=Cu h.er
  have:=H4 hg.stp
  have:=hg.nows
  omega
theorem Pj {a:List AI} (h:Av a=0):a.length≤1073741824 * 4:=by
 have:=(Cu h).len
 omega
theorem size_eq {a:List AI} {n:Int} (h:Av a=0):C1 n a=some (AX a n,decide (a=[]) || decide (An a=n)):=by
 have hl:=Pj h
 unfold C1 AX
 rw [QQ]
 by_cases d:a=[]
 ·rw [if_pos (by simpa using d),if_pos d,decide_eq_true d]; rfl
 ·rw [if_neg (by simpa using d),if_neg d,decide_eq_false d,Ns a (by omega),if_neg (by rw [h]; simp),GV]; rfl
theorem QD {a:List AI} {n p:Int} (h:BO a n) (ha:a≠[]) (h0:0≤p) (h1:p<n):EV a [p]=some ([Aq a p],0):=by
 have hl:=Pj h.er
 have:=h.ft ha
 rw [Nk a [p] (by omega) (by simp),if_neg (by rw [h.er]; simp),OH,if_neg (by omega)]
 show Ar (some (.nrm ([]++[A8 (By p a (0,0))]))) _=_
 unfold Aq
 rw [if_neg ha,Cd]; rfl
def Ap (a:List AI) (fr tq:Int):Int × Int:=if a=[] then (fr,tq) else LJ a ⟨fr,tq⟩
theorem KP {a:List AI} {n fr tq:Int} (h:BO a n) (h0:0≤fr) (h1:fr<tq) (h2:tq≤n):PR (Aq a) fr tq (Ap a fr tq):=by
 unfold Ap
 by_cases d:a=[]
 ·rw [if_pos d]
  right
  refine ⟨fr,tq-1,by omega,by omega,by omega,?_,?_,fun r _ _ _=>by omega,?_⟩
  ·unfold Aq; rw [if_pos d]; exact h0
  ·unfold Aq; rw [if_pos d]; omega
  ·unfold Aq; rw [if_pos d,if_pos d]; congr 1; omega
 ·rw [if_neg d]
  have hh:=RN (A:=a) (Cu h.er).stp ⟨fr,tq⟩ h0 (by rw [h.ft d]; exact h2)
  exact hh.congr (fun r hr=>by unfold Aq; rw [if_neg d])
theorem TU {a:List AI} {n fr tq:Int} (h:BO a n) (ha:a≠[]) (h0:0≤fr) (h1:fr<tq) (h2:tq≤n):EK a fr tq=some (Ap a fr tq):=by
 have:=Tw a ⟨fr,tq⟩ (Cu h.er) h0 h1 (by rw [h.ft ha]; exact h2)
 rw [this]; unfold Ap; rw [if_neg ha]
theorem HL {a:List AI} {n fr tq:Int} (h:BO a n) (h0:0≤fr) (h1:fr<tq) (h2:tq≤n):0≤(Ap a fr tq).1∧(Ap a fr tq).1≤(Ap a fr tq).2∧(Ap a fr tq).2≤AX a n:=by
 have hb:=Fi h
 rcases KP h h0 h1 h2 with ⟨e,_⟩ | ⟨r0,r1,a1,a2,a3,a4,a5,a6,e⟩
 ·rw [e]; dsimp only; omega
 ·rw [e]; dsimp only
  have:=Us (p:=r1) h (by omega) (by omega)
  rcases Int.lt_or_eq_of_le a2 with g | g
  ·have:=KK h (by omega) g a4 a5; omega
  ·rw [g]; rw [g] at a4; omega
theorem LU {a:List AI} {n f1 t1 f2 t2:Int} (h:BO a n) (h0:0≤f1) (h1:f1<t1) (h2:t1≤f2) (h3:f2<t2) (h4:t2≤n) (g1:(Ap a f1 t1).1<(Ap a f1 t1).2) (g2:(Ap a f2 t2).1<(Ap a f2 t2).2):(Ap a f1 t1).2≤(Ap a f2 t2).1:=by
 rcases KP h h0 h1 (by omega) with ⟨e,_⟩ | ⟨r0,r1,a1,a2,a3,a4,a5,a6,e⟩
 ·rw [e] at g1; exact absurd g1 (by decide)
 ·rcases KP h (by omega) h3 h4 with ⟨e',_⟩ | ⟨s0,s1,b1,b2,b3,b4,b5,b6,e'⟩
  ·rw [e'] at g2; exact absurd g2 (by decide)
  ·rw [e,e']; dsimp only
   have:=KK (p:=r1) (q:=s0) h (by omega) (by omega) a5 b4
   omega
end Go.Proofs.YtojmbndlghbpjaaDoor.Al

set_option linter.unusedVariables false
set_option linter.unusedSimpArgs false
namespace Go.Proofs.YtojmbndlghbpjaaDoor.Al
open Go
def BE (ra ca:List AI) (r:AC):AC:=
 ⟨(Ap ra r.Row (r.Row+r.H)).1,(Ap ca r.Col (r.Col+r.W)).1,(Ap ra r.Row (r.Row+r.H)).2-(Ap ra r.Row (r.Row+r.H)).1,(Ap ca r.Col (r.Col+r.W)).2-(Ap ca r.Col (r.Col+r.W)).1⟩
def Cq (r:AC):Prop:=0<r.H∧0<r.W∧2<r.H+r.W
instance (r:AC):Decidable (Cq r):=by unfold Cq; infer_instance
theorem OK {a:List AI} {n fr tq:Int} (h:BO a n) (ha:a≠[]) (h0:0≤fr) (h1:fr<tq) (h2:tq≤n):EK a fr tq=some ((Ap a fr tq).1,(Ap a fr tq).2):=TU h ha h0 h1 h2
theorem Q8 {ra ca:List AI} {rows cols:Int} (hr:BO ra rows) (hc:BO ca cols) {r:AC} (h:Ao rows cols r):Jw r ra ca=some (BE ra ca r,decide (Cq (BE ra ca r))):=by
 have hb1:=hr.nm
 have hb2:=hc.nm
 unfold Ao at h
 have k1:=HL hr (fr:=r.Row) (tq:=r.Row+r.H) (by omega) (by omega) (by omega)
 have k2:=HL hc (fr:=r.Col) (tq:=r.Col+r.W) (by omega) (by omega) (by omega)
 have n1:=Fi hr
 have n2:=Fi hc
 unfold Jw
 rw [Jm,Jm]
 have e1:(if (!decide (ra=[]))=true then
   AB (AL .i64 (r.Row+r.H)) fun (x4:Int)=>
   Aw (EK ra r.Row x4) fun (r6:Int) (r7:Int)=>
   AB (AL .i64 (r7-r6)) fun (x5:Int)=>
   some (AC.mk r6 r.Col x5 r.W)
  else some r)=some (AC.mk (Ap ra r.Row (r.Row+r.H)).1 r.Col ((Ap ra r.Row (r.Row+r.H)).2-(Ap ra r.Row (r.Row+r.H)).1) r.W):=by
  by_cases d:ra=[]
  ·rw [if_neg (by simp [d])]
   unfold Ap
   rw [if_pos d]
   obtain ⟨a,b,c,e⟩:=r
   simp; omega
  ·rw [if_pos (by simp [d]),BU (by omega) (by omega),AD,OK hr d (by omega) (by omega) (by omega),BK,BU (by omega) (by omega),AD]
 rw [e1,AD]
 have e2:(if (!decide (ca=[]))=true then
   AB (AL .i64 (r.Col+r.W)) fun (x4:Int)=>
   Aw (EK ca r.Col x4) fun (r6:Int) (r7:Int)=>
   AB (AL .i64 (r7-r6)) fun (x5:Int)=>
   some (AC.mk (Ap ra r.Row (r.Row+r.H)).1 r6 ((Ap ra r.Row (r.Row+r.H)).2-(Ap ra r.Row (r.Row+r.H)).1) x5)
  else some (AC.mk (Ap ra r.Row (r.Row+r.H)).1 r.Col ((Ap ra r.Row (r.Row+r.H)).2-(Ap ra r.Row (r.Row+r.H)).1) r.W))=some (BE ra ca r):=by
  unfold BE
  by_cases d:ca=[]
  ·rw [if_neg (by simp [d])]
   have:Ap ca r.Col (r.Col+r.W)=(r.Col,r.Col+r.W):=by unfold Ap; rw [if_pos d]
   rw [this]
   dsimp only
   congr 2; omega
  ·rw [if_pos (by simp [d]),BU (by omega) (by omega),AD,OK hc d (by omega) (by omega) (by omega),BK,BU (by omega) (by omega),AD]
 dsimp only
 rw [e2,AD]
 have hH:(BE ra ca r).H+(BE ra ca r).W≤4294967296:=by unfold BE; dsimp only; omega
 by_cases h0:0<(BE ra ca r).H∧0<(BE ra ca r).W
 ·rw [show ((decide (0<(BE ra ca r).H)) && (decide (0<(BE ra ca r).W)))=true by simp [h0]]
  rw [show (true == true)=true from rfl,Ak,BU (by omega) (by omega),AD]
  congr 2
  rw [Bool.true_and,decide_eq_decide]
  unfold Cq; omega
 ·rw [show ((decide (0<(BE ra ca r).H)) && (decide (0<(BE ra ca r).W)))=false by
   rw [Bool.and_eq_false_iff,decide_eq_false_iff_not,decide_eq_false_iff_not]; omega]
  rw [show (false == true)=false from rfl,Ez,AD]
  congr 2
  rw [Bool.false_and]
  symm
  rw [decide_eq_false_iff_not]
  unfold Cq; omega
theorem Oy (x y:AC):(decide (x.Row=y.Row) && (decide (x.Col=y.Col) && (decide (x.H=y.H) && (decide (x.W=y.W) && true))))=decide (x=y):=Mc x y
theorem WH (s:List AC) (v:AC) (hm:s.length≤1048576):IT s v=some (decide (v∈s)):=by
 unfold IT LD
 rw [CW (n:=s.length) (fun j=>if decide (v=s[j]!) then some (j:Int) else none) (fun j hj=>by
  unfold JW
  rw [if_pos (by simpa using hj),Ac hj,AD,Am (by omega),Oy]
  cases decide (v=s[j]!) <;> rfl) (by unfold JW; rw [if_neg (by simp)]),Lx,Dq]
 have hd:decide (v∈s)=((List.range s.length).find? fun j=>decide (v=s[j]!)).isSome:=by
  rw [Bool.eq_iff_iff,decide_eq_true_eq,List.find?_isSome]
  constructor
  ·intro h
   obtain ⟨j,hj,e⟩:=List.getElem_of_mem h
   exact ⟨j,List.mem_range.2 hj,decide_eq_true (by rw [getElem!_pos s j hj,e])⟩
  ·rintro ⟨j,h1,h2⟩
   have hj:=List.mem_range.1 h1
   rw [of_decide_eq_true h2]; exact Cy hj
 rw [hd]
 cases (List.range s.length).find? fun j=>decide (v=s[j]!) with
 | none=>rfl
 | some j=>
  show (AB (some (j:Int)) fun (r1:Int)=>some (decide (0≤r1)))=_
  rw [AD,decide_eq_true (Int.natCast_nonneg j)]; rfl
def mR (ra ca:List AI) (sp:List AC) (r:AC):Option AC:=if Cq (BE ra ca r) ∧ ¬ BE ra ca r∈sp then some (BE ra ca r) else none
theorem Hy {o:List AC} {x:AC} (h:o.length≤1099511627776):BR 32 o [x]=some (o++[x]):=by
 unfold BR; rw [if_pos ⟨by simp; omega,by simp; omega⟩]
theorem U5 {g:AJ} {e:Aj} {rows cols:Int} (hr:BO e.Rows rows) (hc:BO e.Cols cols) (hi : ∀ r∈g.Merges,Ao rows cols r) (hm:g.Merges.length≤1048576) (hs:e.Split.length≤1048576) (R C:Int) (cs:List AE) :
  iter (fun (a:Int × AJ)=>D2 g e a.1 a.2) (0,(AJ.mk R C cs []))=some ⟨R,C,cs,g.Merges.filterMap (mR e.Rows e.Cols e.Split)⟩:=by
 have:=Cp (f:=fun (a:Int × AJ)=>D2 g e a.1 a.2) g.Merges (fun (c:List AC) i=>((i:Int),(⟨R,C,cs,c⟩:AJ))) (fun l c=>(⟨R,C,cs,c++l.filterMap (mR e.Rows e.Cols e.Split)⟩:AJ)) (fun i c=>c.length≤i)
  (fun i c hi2 hI=>by
   left
   show ∃ c',D2 g e (i:Int) ⟨R,C,cs,c⟩=_∧_
   have hin:=hi _ (Cy hi2)
   unfold D2
   rw [if_pos (by simpa using hi2),Ac hi2,AD,Q8 hr hc hin,BK,Am (by omega)]
   generalize g.Merges[i]! = x at hin ⊢
   by_cases h1:Cq (BE e.Rows e.Cols x)
   ·rw [decide_eq_true h1,show (true == true)=true from rfl,Ak,WH _ _ hs,AD]
    by_cases h2:BE e.Rows e.Cols x∈e.Split
    ·rw [decide_eq_true h2,if_neg (by decide)]
     refine ⟨c,rfl,by omega,?_⟩
     have:mR e.Rows e.Cols e.Split x=none:=by unfold mR; rw [if_neg (fun h=>h.2 h2)]
     rw [List.filterMap_cons,this]
    ·rw [decide_eq_false h2,if_pos (by decide)]
     dsimp only
     rw [Hy (by omega)]
     refine ⟨_,rfl,by rw [List.length_append,List.length_singleton]; omega,?_⟩
     have:mR e.Rows e.Cols e.Split x=some (BE e.Rows e.Cols x):=by unfold mR; rw [if_pos ⟨h1,h2⟩]
     rw [List.filterMap_cons,this,List.append_assoc]; rfl
   ·rw [decide_eq_false h1,show (false == true)=false from rfl]
    simp only [Ez,AD,Bool.false_and,Bool.false_eq_true,if_false]
    refine ⟨c,rfl,by omega,?_⟩
    have:mR e.Rows e.Cols e.Split x=none:=by unfold mR; rw [if_neg (fun h=>h1 h.1)]
    rw [List.filterMap_cons,this])
  (fun c _=>by
   show D2 g e (g.Merges.length:Int) ⟨R,C,cs,c⟩=_
   unfold D2
   rw [if_neg (by simp)]
   simp) [] (by simp) ((0:Int),⟨R,C,cs,[]⟩) rfl
 rw [List.nil_append] at this
 exact this
end Go.Proofs.YtojmbndlghbpjaaDoor.Al

set_option linter.unusedVariables false
set_option linter.unusedSimpArgs false
namespace Go.Proofs.YtojmbndlghbpjaaDoor.Al
open Go
def Bj (c:AC) (l:List AC):List AC:=l.filter fun q=>!BI q c
theorem M3 (c:AC) (a b:List AC):Bj c (a++b)=Bj c a++Bj c b:=List.filter_append ..
theorem Su {c:AC} {n:AC} (h : ¬ BI n c=true):Bj c [n]=[n]:=by
 unfold Bj; rw [List.filter_cons,if_pos (by simpa using h)]; rfl
theorem PC {c:AC} {n:AC} (h:BI n c=true):Bj c [n]=[]:=by
 unfold Bj; rw [List.filter_cons,if_neg (by simpa using h)]; rfl
theorem NT {c:AC} {l:List AC} (h : ∀ n∈l,¬ BI n c=true):Bj c l=l:=by
 unfold Bj; rw [List.filter_eq_self]; intro n hn; simpa using h n hn
theorem RY (s:List AC) (c:AC) (hs:s.length≤4194304) (hc : ∀ q∈s,FA c q=some (BI q c)) :
  (∃ k,k<s.length∧HW s c=some (k:Int)∧(∀ j,j<k → ¬ BI s[j]! c=true)∧BI s[k]! c=true) ∨
  (HW s c=some (-1) ∧ ∀ n∈s,¬ BI n c=true):=by
 unfold HW
 obtain ⟨b,hb,hq⟩:=Dh (f:=fun (a:Int)=>Hi s c a) s.length
  (fun k st=>st=(k:Int) ∧ ∀ j,j<k → ¬ BI s[j]! c=true)
  (fun b=>(b=(.nrm ():Af Unit Int) ∧ ∀ j,j<s.length → ¬ BI s[j]! c=true) ∨ ∃ k,k<s.length∧b = .ext (k:Int)∧(∀ j,j<k → ¬ BI s[j]! c=true)∧BI s[k]! c=true)
  (fun k st hk hst=>by
   obtain ⟨rfl,hj⟩:=hst
   unfold Hi
   rw [if_pos (by simpa using hk),Ac hk,AD,hc _ (Cy (by assumption)),AD]
   by_cases hi:BI s[k]! c=true
   ·right
    rw [if_pos (by simpa using hi)]
    exact ⟨_,rfl,.inr ⟨k,hk,rfl,hj,hi⟩⟩
   ·left
    rw [if_neg (by simpa using hi),Am (by omega),AD]
    refine ⟨_,rfl,rfl,fun j hj'=>?_⟩
    rcases Nat.lt_succ_iff_lt_or_eq.1 hj' with h | h
    ·exact hj j h
    ·rw [h]; exact hi)
  (fun st hst=>by
   obtain ⟨rfl,hj⟩:=hst
   unfold Hi
   rw [if_neg (by simp)]
   exact ⟨_,rfl,.inl ⟨rfl,hj⟩⟩)
  (s:=0) ⟨rfl,fun j hj=>by omega⟩
 rw [hb]
 rcases hq with ⟨rfl,h⟩ | ⟨k,hk,rfl,h1,h2⟩
 ·right
  refine ⟨rfl,fun n hn=>?_⟩
  obtain ⟨j,hj,e⟩:=List.getElem_of_mem hn
  have:=h j hj
  rw [getElem!_pos s j hj,e] at this
  exact this
 ·left
  exact ⟨k,hk,rfl,h1,h2⟩
theorem R9 (c:AC) (l:List AC) (hl:l.length≤4194304) (hc : ∀ q∈l,FA c q=some (BI q c)) (i0 j0:Nat) (h0:i0≤j0) (hj0:j0≤l.length) (hk:l.take i0=Bj c (l.take j0)) :
  ∃ (i:Nat) (s:List AC),iter (fun (a:Int × Int × (List AC))=>GW c a.1 a.2.1 a.2.2) ((i0:Int),(j0:Int),l)=some ((i:Int),s)∧i≤s.length∧s.take i=Bj c l:=by
 obtain ⟨b,hb,hq⟩:=Dh (f:=fun (a:Int × Int × (List AC))=>GW c a.1 a.2.1 a.2.2) (l.length-j0)
  (fun k st=>∃ i:Nat,st.1=(i:Int)∧st.2.1=((j0+k:Nat):Int)∧i≤j0+k∧j0+k≤l.length∧st.2.2.length=l.length∧st.2.2.take i=Bj c (l.take (j0+k))∧st.2.2.drop (j0+k)=l.drop (j0+k))
  (fun b=>∃ i:Nat,b.1=(i:Int)∧i≤b.2.length∧b.2.take i=Bj c l)
  (fun k st hk hst=>by
   obtain ⟨a1,a2,s⟩:=st
   obtain ⟨i,h1,h2,h3,h4,h5,h6,h7⟩:=hst
   dsimp only at h1 h2 h5 h6 h7
   subst h1 h2
   left
   have hlt:j0+k<l.length:=by omega
   have hls:j0+k<s.length:=by omega
   have hx:s[j0+k]! = l[j0+k]!:=by
    have e1:=List.getElem_cons_drop hls
    have e2:=List.getElem_cons_drop hlt
    rw [h7,← e2] at e1
    injection e1 with e1 _
    rw [getElem!_pos s _ hls,getElem!_pos l _ hlt,e1]
   have hd:s.drop (j0+k+1)=l.drop (j0+k+1):=by
    have e1:=congrArg (List.drop 1) h7
    rw [List.drop_drop,List.drop_drop] at e1
    exact e1
   dsimp only
   unfold GW
   rw [if_pos (by simp; omega),Ac hls,AD,hx,hc _ (Cy (by assumption)),AD]
   by_cases hi:BI l[j0+k]! c=true
   ·rw [if_neg (by simpa using hi),BK,Am (by omega),AD]
    refine ⟨_,rfl,i,rfl,rfl,by omega,by omega,h5,?_,hd⟩
    show s.take i=Bj c (l.take (j0+k+1))
    rw [H5 hlt,M3,PC hi,List.append_nil,h6]
   ·rw [if_pos (by simpa using hi),Ac (show i<s.length by omega),AD,Am (by omega),AD,BK,Am (by omega),AD]
    refine ⟨_,rfl,i+1,rfl,rfl,by omega,by omega,by rw [List.length_set]; exact h5,?_,?_⟩
    ·show (s.set (i:Int).toNat l[j0+k]!).take (i+1)=Bj c (l.take (j0+k+1))
     have hsl:i<(s.set i l[j0+k]!).length:=by rw [List.length_set]; omega
     rw [Int.toNat_natCast,H5 hsl,List.take_set,List.set_eq_of_length_le (by rw [List.length_take]; omega),h6,getElem!_pos (s.set i l[j0+k]!) i hsl,List.getElem_set_self,H5 hlt,M3,Su hi]
    ·show (s.set (i:Int).toNat l[j0+k]!).drop (j0+k+1)=_
     rw [Int.toNat_natCast,List.drop_set_of_lt (by omega)]; exact hd)
  (fun st hst=>by
   obtain ⟨a1,a2,s⟩:=st
   obtain ⟨i,h1,h2,h3,h4,h5,h6,h7⟩:=hst
   dsimp only at h1 h2 h5 h6 h7
   subst h1 h2
   dsimp only
   unfold GW
   rw [if_neg (by simp; omega)]
   refine ⟨_,rfl,i,rfl,by dsimp only; omega,?_⟩
   rw [h6,List.take_of_length_le (by omega)])
  (s:=((i0:Int),(j0:Int),l)) ⟨i0,rfl,rfl,by omega,by omega,rfl,hk,rfl⟩
 obtain ⟨i,e1,e2,e3⟩:=hq
 refine ⟨i,b.2,?_,e2,e3⟩
 rw [hb,← e1]
theorem VK (l:List AC) (c:AC) (hl:l.length≤4194304) (hc : ∀ q∈l,FA c q=some (BI q c)):Ip l c=some (Bj c l):=by
 unfold Ip
 rcases RY l c hl hc with ⟨k,hk,e,h1,h2⟩ | ⟨e,h⟩
 ·rw [e,AD,if_neg (by simp),Am (by omega),AD]
  obtain ⟨i,s,e1,e2,e3⟩:=R9 c l hl hc k (k+1) (by omega) (by omega) (by
   rw [H5 hk,M3,PC h2,List.append_nil,NT]
   intro n hn
   obtain ⟨j,hj,e⟩:=List.getElem_of_mem hn
   rw [List.length_take] at hj
   have:=h1 j (by omega)
   rw [getElem!_pos l j (by omega)] at this
   rw [List.getElem_take] at e
   rw [← e]; exact this)
  rw [e1,BK]
  have hcl:IP s (i:Int) (AC.mk 0 0 0 0)=some (s.take i++List.replicate (s.length-i) (AC.mk 0 0 0 0)):=by
   unfold IP; rw [if_pos ⟨by omega,by omega⟩,Int.toNat_natCast]
  rw [hcl,AD]
  have hsl:B3 (s.take i++List.replicate (s.length-i) (AC.mk 0 0 0 0)) 0 (i:Int)=some (s.take i):=by
   unfold B3
   rw [if_pos ⟨by omega,by omega,by simp; omega⟩,Int.toNat_natCast]
   have:i-(0:Int).toNat=i:=by simp
   rw [this,show (0:Int).toNat=0 from rfl,List.drop_zero,List.take_append_of_le_length (by rw [List.length_take]; omega),List.take_take,Nat.min_self]
  rw [hsl,AD,e3]
 ·rw [e,AD,if_pos (by decide),NT h]
end Go.Proofs.YtojmbndlghbpjaaDoor.Al

set_option linter.unusedVariables false
set_option linter.unusedSimpArgs false
namespace Go.Proofs.YtojmbndlghbpjaaDoor.Al
open Go
def CT (ra ca:List AI) (c:AE):Option AE:=if Aq ra c.Row<0∨Aq ca c.Col<0 then none else some ⟨Aq ra c.Row,Aq ca c.Col,c.Text,c.Ref,c.Attrs⟩
theorem OQ {c:AE} (h:FC c):HH c=some c:=by
 unfold HH
 rw [Uz _ h.1.1,AD]
theorem KQ {o:List AE} {x:AE} (h:o.length≤4194304):BR 64 o [x]=some (o++[x]):=by
 unfold BR; rw [if_pos ⟨by simp; omega,by simp; omega⟩]
theorem Qx {ra ca:List AI} {rows cols:Int} (hr:BO ra rows) (hc:BO ca cols) (l:List AE) (hl:l.length≤1048576) (hin : ∀ c∈l,FC c∧0≤c.Row∧c.Row<rows∧0≤c.Col∧c.Col<cols) :
  GN l ra ca=some (l.filterMap (CT ra ca)):=by
 unfold GN
 have:=Cp (f:=fun (a:Int × (List AE))=>DJ l ra ca a.1 a.2) l (fun (c:List AE) i=>((i:Int),c)) (fun r c=>c++r.filterMap (CT ra ca)) (fun i c=>c.length≤i)
  (fun i c hi hI=>by
   left
   obtain ⟨k1,k2,k3,k4,k5⟩:=hin _ (Cy hi)
   show ∃ c',DJ l ra ca (i:Int) c=_∧_
   unfold DJ
   rw [if_pos (by simpa using hi),Ac hi,AD,OQ k1,AD,Jm,Jm]
   generalize l[i]! = x at k1 k2 k3 k4 k5 ⊢
   rw [Am (by omega)]
   have e1:(if (!decide (ra=[]))=true then
     Aw (EV ra [x.Row]) fun (r4:List Int) (r5:Int)=>
     AB (gd ((!decide (r5=0)) == false) (AO r4 0)) fun (x8:Int)=>
     if ((!decide (r5=0)) || (decide (x8<0))) then (
      some (.ext c:Af AE (List AE))
     ) else (
      AB (AO r4 0) fun (x9:Int)=>
      some (.nrm (AE.mk x9 x.Col x.Text x.Ref x.Attrs))
     ) else some (.nrm x))=some (if Aq ra x.Row<0 then .ext c else .nrm ⟨Aq ra x.Row,x.Col,x.Text,x.Ref,x.Attrs⟩):=by
    by_cases d:ra=[]
    ·rw [if_neg (by simp [d])]
     have:Aq ra x.Row=x.Row:=by unfold Aq; rw [if_pos d]
     rw [this,if_neg (by omega)]
    ·rw [if_pos (by simp [d]),QD hr d k2 k3,BK]
     have:AO [Aq ra x.Row] 0=some (Aq ra x.Row):=rfl
     rw [this,show ((!decide ((0:Int)=0)) == false)=true from rfl,Ak,AD]
     by_cases g:Aq ra x.Row<0
     ·rw [if_pos (by simp [g]),if_pos g]
     ·rw [if_neg (by simp [g]),if_neg g,AD]
   rw [e1]
   by_cases g:Aq ra x.Row<0
   ·rw [if_pos g]
    refine ⟨c,rfl,by omega,?_⟩
    rw [List.filterMap_cons]
    have:CT ra ca x=none:=by unfold CT; rw [if_pos (.inl g)]
    rw [this]
   ·rw [if_neg g,Cd]
    have e2:(if (!decide (ca=[]))=true then
      Aw (EV ca [x.Col]) fun (r2:List Int) (r3:Int)=>
      AB (gd ((!decide (r3=0)) == false) (AO r2 0)) fun (x6:Int)=>
      if ((!decide (r3=0)) || (decide (x6<0))) then (
       some (.ext c:Af AE (List AE))
      ) else (
       AB (AO r2 0) fun (x7:Int)=>
       some (.nrm (AE.mk (Aq ra x.Row) x7 x.Text x.Ref x.Attrs))
      ) else some (.nrm ⟨Aq ra x.Row,x.Col,x.Text,x.Ref,x.Attrs⟩))=some (if Aq ca x.Col<0 then .ext c else .nrm ⟨Aq ra x.Row,Aq ca x.Col,x.Text,x.Ref,x.Attrs⟩):=by
     by_cases d:ca=[]
     ·rw [if_neg (by simp [d])]
      have:Aq ca x.Col=x.Col:=by unfold Aq; rw [if_pos d]
      rw [this,if_neg (by omega)]
     ·rw [if_pos (by simp [d]),QD hc d k4 k5,BK]
      have:AO [Aq ca x.Col] 0=some (Aq ca x.Col):=rfl
      rw [this,show ((!decide ((0:Int)=0)) == false)=true from rfl,Ak,AD]
      by_cases g2:Aq ca x.Col<0
      ·rw [if_pos (by simp [g2]),if_pos g2]
      ·rw [if_neg (by simp [g2]),if_neg g2,AD]
    dsimp only
    rw [e2]
    by_cases g2:Aq ca x.Col<0
    ·rw [if_pos g2]
     refine ⟨c,rfl,by omega,?_⟩
     rw [List.filterMap_cons]
     have:CT ra ca x=none:=by unfold CT; rw [if_pos (.inr g2)]
     rw [this]
    ·rw [if_neg g2,Cd,KQ (by omega)]
     refine ⟨_,rfl,by rw [List.length_append,List.length_singleton]; omega,?_⟩
     rw [List.filterMap_cons]
     have:CT ra ca x=some ⟨Aq ra x.Row,Aq ca x.Col,x.Text,x.Ref,x.Attrs⟩:=by unfold CT; rw [if_neg (by omega)]
     rw [this,List.append_assoc]; rfl)
  (fun c _=>by
   show DJ l ra ca (l.length:Int) c=_
   unfold DJ
   rw [if_neg (by simp)]
   simp) [] (by simp) ((0:Int),[]) rfl
 have this':iter (fun (a:Int × (List AE))=>DJ l ra ca a.1 a.2) (0,[])=_:=this
 rw [this',AD,List.nil_append]
def Az (c x:AE):Bool:=decide (A5 x.Row c.Row x.Col c.Col<0)
def Cz (c:AE):List AE→List AE
 | []=>[]
 | x :: t=>if A5 x.Row c.Row x.Col c.Col=0 then t else x :: t
def CI:List AE→List AE→List AE
 | l,[]=>l
 | l,c :: r=>l.takeWhile (Az c)++(if BX c=true then [] else [c])++CI (Cz c (l.dropWhile (Az c))) r
theorem V4 (l:List AE) (x5:AE) (hl:l.length≤1048576) : ∀ (d:List AE) (i:Nat) (out:List AE),l.drop i=d→i≤l.length→out.length≤i+1048576 →
  iter (fun (a:Int × (List AE))=>Fw l x5 a.1 a.2) ((i:Int),out)=some (((i+(d.takeWhile (Az x5)).length:Nat):Int),out++d.takeWhile (Az x5)):=by
 intro d
 induction d with
 | nil=>
  intro i out hd hi ho
  have:i=l.length:=by
   have:=congrArg List.length hd
   rw [List.length_drop,List.length_nil] at this; omega
  rw [BG (r:=((i:Int),out))]
  ·simp
  ·show Fw l x5 (i:Int) out=_
   unfold Fw
   rw [decide_eq_false (show ¬ (i:Int)<(l.length:Int) by omega)]
   simp only [show (false == true)=false from rfl,Ez,AD,Bool.false_and,Bool.false_eq_true,if_false]
 | cons y d ih=>
  intro i out hd hi ho
  have hil:i<l.length:=by
   have:=congrArg List.length hd
   rw [List.length_drop,List.length_cons] at this; omega
  have hdd:=List.getElem_cons_drop hil
  rw [hd] at hdd
  injection hdd with h1 h2
  have hy:l[i]! = y:=by rw [getElem!_pos l i hil,h1]
  have hstep:Fw l x5 (i:Int) out=if Az x5 y=true then some (.inl (((i+1:Nat):Int),out++[y])) else some (.inr ((i:Int),out)):=by
   unfold Fw
   rw [decide_eq_true (show (i:Int)<(l.length:Int) by omega),show (true == true)=true from rfl,Ak,Ac hil,AD,Ak,Ko,AD,hy,Bool.true_and]
   by_cases g:A5 y.Row x5.Row y.Col x5.Col<0
   ·rw [if_pos (decide_eq_true g),AD,KQ (by omega),AD,Am (by omega),AD,if_pos (by unfold Az; exact decide_eq_true g)]
   ·rw [if_neg (by simpa using g),if_neg (by unfold Az; simpa using g)]
  by_cases g:Az x5 y=true
  ·rw [if_pos g] at hstep
   rw [CN hstep,ih (i+1) (out++[y]) h2 (by omega) (by rw [List.length_append,List.length_singleton]; omega),List.takeWhile_cons,if_pos g]
   congr 2
   ·rw [List.length_cons]; omega
   ·simp
  ·rw [if_neg g] at hstep
   rw [BG hstep,List.takeWhile_cons,if_neg g]; simp
theorem S3 (p:AE→Bool) (l:List AE):l.drop (l.takeWhile p).length=l.dropWhile p:=by
 induction l with
 | nil=>rfl
 | cons x t ih=>
  rw [List.takeWhile_cons,List.dropWhile_cons]
  split
  ·rw [List.length_cons,List.drop_succ_cons,ih]
  ·rfl
theorem RJ (c:AE):Fx c=some (BX c):=by
 unfold Fx BX
 rw [KX]
theorem SN (l:List AE) (x:AE) (hl:l.length≤1048576) (j:Nat) (hj:j≤l.length) :
  ∃ i21:Nat,i21≤l.length∧j≤i21∧l.drop i21=Cz x (l.drop j) ∧ ∀ (γ:Type) (K:Int→Option γ),
   (AB (gd ((decide ((j:Int)<(l.length:Int))) == true) (AO l (j:Int))) fun (x6:AE)=>
   AB (gd ((decide ((j:Int)<(l.length:Int))) == true) (FD x6 x)) fun (r1:Int)=>
   AB (
    if ((decide ((j:Int)<(l.length:Int))) && (decide (r1=0))) then (
     AB (AL .i64 ((j:Int)+1)) fun (i23:Int)=>
     some i23
    ) else (
     some (j:Int)
    )
   ) K)=K (i21:Int):=by
 by_cases hlt:j<l.length
 ·have hdd:=List.getElem_cons_drop hlt
  by_cases ho:A5 l[j].Row x.Row l[j].Col x.Col=0
  ·refine ⟨j+1,by omega,by omega,?_,fun γ K=>?_⟩
   ·rw [← hdd]; exact (if_pos ho).symm
   ·rw [decide_eq_true (show (j:Int)<(l.length:Int) by omega),show (true == true)=true from rfl,Ak,Np hlt,AD,Ak,Ko,AD,if_pos (by rw [Bool.true_and]; exact decide_eq_true ho),Am (by omega),AD,AD]
  ·refine ⟨j,by omega,by omega,?_,fun γ K=>?_⟩
   ·conv=>rhs; rw [← hdd]
    exact hdd.symm.trans (if_neg ho).symm
   ·rw [decide_eq_true (show (j:Int)<(l.length:Int) by omega),show (true == true)=true from rfl,Ak,Np hlt,AD,Ak,Ko,AD,if_neg (by simpa using ho),AD]
 ·refine ⟨j,by omega,by omega,?_,fun γ K=>?_⟩
  ·rw [List.drop_of_length_le (by omega)]; rfl
  ·rw [decide_eq_false (show ¬ (j:Int)<(l.length:Int) by omega),show (false == true)=false from rfl]
   simp only [Ez,AD,Bool.false_and,Bool.false_eq_true,if_false]
theorem VX (l news:List AE) (hl:l.length≤1048576) (hn:news.length≤1048576) (hok : ∀ c∈news,FC c):GF l news=some (CI l news):=by
 unfold GF
 obtain ⟨b,hb,hq⟩:=Dh (f:=fun (a:Int × Int × (List AE))=>FY l news a.1 a.2.1 a.2.2) news.length
  (fun k st=>∃ i:Nat,st.1=(i:Int)∧st.2.1=(k:Int)∧i≤l.length∧st.2.2.length≤i+k∧st.2.2++CI (l.drop i) (news.drop k)=CI l news)
  (fun b=>∃ i:Nat,b.1=(i:Int)∧i≤l.length∧b.2.length≤i+news.length∧b.2++l.drop i=CI l news)
  (fun k st hk hst=>by
   obtain ⟨a1,a2,out⟩:=st
   obtain ⟨i,h1,h2,h3,h4,h5⟩:=hst
   dsimp only at h1 h2 h4 h5
   subst h1 h2
   left
   have hc:=hok _ (Cy hk)
   have hpi:=V4 l news[k]! hl (l.drop i) i out rfl h3 (by omega)
   rw [Hr hk] at h5
   have htl:((l.drop i).takeWhile (Az news[k]!)).length≤(l.drop i).length:=(List.takeWhile_prefix _).length_le
   rw [List.length_drop] at htl
   have hdr:l.drop (i+((l.drop i).takeWhile (Az news[k]!)).length)=(l.drop i).dropWhile (Az news[k]!):=by
    rw [← List.drop_drop,S3]
   obtain ⟨i21,m1,m2,m3,m4⟩:=SN l news[k]! hl (i+((l.drop i).takeWhile (Az news[k]!)).length) (by omega)
   rw [hdr] at m3
   dsimp only
   unfold FY
   rw [if_pos (by simpa using hk),Ac hk,AD,hpi,BK,m4,RJ,AD]
   have h6:out++(l.drop i).takeWhile (Az news[k]!)++(if BX news[k]! = true then [] else [news[k]!])++CI (l.drop i21) (news.drop (k+1))=CI l news:=by
    rw [← h5,m3]
    show _=out++((l.drop i).takeWhile (Az news[k]!)++(if BX news[k]! = true then [] else [news[k]!])++CI (Cz news[k]! ((l.drop i).dropWhile (Az news[k]!))) (news.drop (k+1)))
    simp only [List.append_assoc]
   have h7:(out++(l.drop i).takeWhile (Az news[k]!)).length≤i21+k:=by
    rw [List.length_append]; omega
   generalize out++(l.drop i).takeWhile (Az news[k]!)=o9 at h6 h7 ⊢
   by_cases he:BX news[k]! = true
   ·rw [if_pos he,List.append_nil] at h6
    rw [if_neg (by rw [he]; decide),BK,Am (by omega),AD]
    exact ⟨_,rfl,i21,rfl,rfl,m1,by dsimp only; omega,h6⟩
   ·rw [if_neg he] at h6
    rw [if_pos (by simpa using he),OQ hc,AD,KQ (by omega),AD,BK,Am (by omega),AD]
    exact ⟨_,rfl,i21,rfl,rfl,m1,by dsimp only; rw [List.length_append,List.length_singleton]; omega,h6⟩)
  (fun st hst=>by
   obtain ⟨a1,a2,out⟩:=st
   obtain ⟨i,h1,h2,h3,h4,h5⟩:=hst
   dsimp only at h1 h2 h4 h5
   subst h1 h2
   dsimp only
   unfold FY
   rw [if_neg (by simp)]
   refine ⟨_,rfl,i,rfl,h3,h4,?_⟩
   rw [List.drop_of_length_le (Nat.le_refl _)] at h5
   exact h5)
  (s:=((0:Int),0,[])) ⟨0,rfl,rfl,by omega,by simp,by simp⟩
 obtain ⟨i,e1,e2,e3,e4⟩:=hq
 rw [hb]
 obtain ⟨b1,b2⟩:=b
 dsimp only at e1 e3 e4
 subst e1
 have hs:B3 l (i:Int) (l.length:Int)=some (l.drop i):=by
  have:=Uc l (i:Int) (by omega) (by omega)
  rwa [Int.toNat_natCast] at this
 have ha:BR 64 b2 (l.drop i)=some (b2++l.drop i):=by
  unfold BR; rw [if_pos ⟨by simp; omega,by simp; omega⟩]
 rw [BK,hs,AD,ha,AD,e4]
end Go.Proofs.YtojmbndlghbpjaaDoor.Al

set_option linter.unusedVariables false
set_option linter.unusedSimpArgs false
namespace Go.Proofs.YtojmbndlghbpjaaDoor.Al
open Go
def Bw (a b:AE):Prop:=a.Row<b.Row∨(a.Row=b.Row∧a.Col<b.Col)
theorem Pr {c x:AE} : Az c x=true↔Bw x c:=by
 unfold Az Bw
 rw [decide_eq_true_eq]
 exact Mz x c
theorem Pv {a b:AE} : A5 a.Row b.Row a.Col b.Col=0↔a.Row=b.Row∧a.Col=b.Col:=TV a b
theorem Bw.trans {a b c:AE} (h1:Bw a b) (h2:Bw b c):Bw a c:=by unfold Bw at *; omega
theorem Bw.irr {a b:AE} (h1:Bw a b) (h2:Bw b a):False:=by unfold Bw at *; omega
theorem Bw.ne {a b:AE} (h1:Bw a b) (e1:a.Row=b.Row) (e2:a.Col=b.Col):False:=by unfold Bw at h1; omega
abbrev SC (l:List AE):Prop:=l.Pairwise Bw
theorem Py {l:List AE} (h:Ic l):SC l:=by
 rw [SC,List.pairwise_iff_getElem]
 intro i j hi hj hij
 have:=(Mz _ _).1 (WO h hij hj)
 rw [getElem!_pos l i hi,getElem!_pos l j hj] at this
 exact this
theorem Ve : ∀ {l l':List AE},SC l→SC l'→(∀ x,x∈l↔x∈l')→l=l':=by
 intro l
 induction l with
 | nil=>
  intro l' _ _ h
  cases l' with
  | nil=>rfl
  | cons b r=>exact absurd ((h b).2 (List.mem_cons_self ..)) (by simp)
 | cons a r ih=>
  intro l' h1 h2 h
  cases l' with
  | nil=>exact absurd ((h a).1 (List.mem_cons_self ..)) (by simp)
  | cons b s=>
   rw [SC,List.pairwise_cons] at h1 h2
   have hab:a=b:=by
    rcases List.mem_cons.1 ((h a).1 (List.mem_cons_self ..)) with e | ha
    ·exact e
    ·rcases List.mem_cons.1 ((h b).2 (List.mem_cons_self ..)) with e | hb
     ·exact e.symm
     ·exact ((h2.1 a ha).irr (h1.1 b hb)).elim
   subst hab
   rw [ih h1.2 h2.2 fun x=>?_]
   constructor
   ·intro hx
    rcases List.mem_cons.1 ((h x).1 (List.mem_cons_of_mem _ hx)) with e | h3
    ·subst e; exact ((h1.1 x hx).irr (h1.1 x hx)).elim
    ·exact h3
   ·intro hx
    rcases List.mem_cons.1 ((h x).2 (List.mem_cons_of_mem _ hx)) with e | h3
    ·subst e; exact ((h2.1 x hx).irr (h2.1 x hx)).elim
    ·exact h3
def At (x:AE) (c:AE):Prop:=x.Row=c.Row∧x.Col=c.Col
theorem T8 {l:List AE} (h:SC l) (c:AE):(∀ x∈l.takeWhile (Az c),Bw x c)∧(∀ x∈Cz c (l.dropWhile (Az c)),Bw c x)∧SC (l.takeWhile (Az c))∧SC (Cz c (l.dropWhile (Az c))) ∧
  (∀ x,x∈l.takeWhile (Az c)∨x∈Cz c (l.dropWhile (Az c))→x∈l)∧(∀ x,x∈l → ¬ At x c→x∈l.takeWhile (Az c)∨x∈Cz c (l.dropWhile (Az c))):=by
 have hsplit:=List.takeWhile_append_dropWhile (p:=Az c) (l:=l)
 have hp:SC (l.takeWhile (Az c)++l.dropWhile (Az c)):=by rw [hsplit]; exact h
 have hmem : ∀ x,x∈l↔x∈l.takeWhile (Az c)∨x∈l.dropWhile (Az c):=fun x=>by
  conv=>lhs; rw [← hsplit]
  exact List.mem_append
 rw [SC,List.pairwise_append] at hp
 obtain ⟨hp1,hp2,_⟩:=hp
 have htw : ∀ x∈l.takeWhile (Az c),Bw x c:=fun x hx=>Pr.1 ((List.all_eq_true.1 (List.all_takeWhile (p:=Az c) (l:=l))) x hx)
 cases hd:l.dropWhile (Az c) with
 | nil=>
  rw [hd] at hmem
  refine ⟨htw,fun x hx=>(by cases hx),hp1,List.Pairwise.nil,fun x hx=>(hmem x).2 hx,fun x hx _=>(hmem x).1 hx⟩
 | cons y s=>
  rw [hd] at hmem hp2
  rw [List.pairwise_cons] at hp2
  have hy : ¬ Bw y c:=by
   intro hlt
   have:=List.head?_dropWhile_not (Az c) l
   rw [hd] at this
   simp only [List.head?_cons] at this
   rw [Pr.2 hlt] at this; simp at this
  by_cases he:At y c
  ·have e:Cz c (y :: s)=s:=if_pos (Pv.2 he)
   rw [e]
   refine ⟨htw,fun x hx=>?_,hp1,hp2.2,fun x hx=>(hmem x).2 (hx.imp id (List.mem_cons_of_mem _)),fun x hx hn=>?_⟩
   ·have:=hp2.1 x hx
    unfold Bw At at *; omega
   ·rcases (hmem x).1 hx with g | g
    ·exact .inl g
    ·rcases List.mem_cons.1 g with e2 | g
     ·subst e2; exact (hn he).elim
     ·exact .inr g
  ·have e:Cz c (y :: s)=y :: s:=if_neg (fun h0=>he (Pv.1 h0))
   rw [e]
   have hcy:Bw c y:=by unfold Bw At at *; omega
   refine ⟨htw,fun x hx=>?_,hp1,List.pairwise_cons.2 hp2,fun x hx=>(hmem x).2 hx,fun x hx _=>(hmem x).1 hx⟩
   rcases List.mem_cons.1 hx with e2 | g
   ·rw [e2]; exact hcy
   ·exact hcy.trans (hp2.1 x g)
theorem Ps : ∀ (news l:List AE),SC l→SC news→SC (CI l news) ∧ ∀ x,x∈CI l news↔(x∈news∧BX x=false)∨(x∈l ∧ ∀ c∈news,¬ At x c):=by
 intro news
 induction news with
 | nil=>intro l h1 _; exact ⟨h1,fun x=>by simp [CI]⟩
 | cons c r ih=>
  intro l h1 h2
  rw [SC,List.pairwise_cons] at h2
  obtain ⟨a1,a2,a3,a4,a5,a6⟩:=T8 h1 c
  obtain ⟨b1,b2⟩:=ih _ a4 h2.2
  have hmem : ∀ x,x∈CI l (c :: r)↔x∈l.takeWhile (Az c)∨(x=c∧BX c=false)∨x∈CI (Cz c (l.dropWhile (Az c))) r:=fun x=>by
   show x∈l.takeWhile (Az c)++(if BX c=true then [] else [c])++CI (Cz c (l.dropWhile (Az c))) r↔_
   rw [List.mem_append,List.mem_append,or_assoc]
   cases BX c <;> simp
  have hgt : ∀ x∈CI (Cz c (l.dropWhile (Az c))) r,Bw c x:=fun x hx=>by
   rcases (b2 x).1 hx with ⟨g,_⟩ | ⟨g,_⟩
   ·exact h2.1 x g
   ·exact a2 x g
  refine ⟨?_,fun x=>?_⟩
  ·show SC (l.takeWhile (Az c)++(if BX c=true then [] else [c])++CI (Cz c (l.dropWhile (Az c))) r)
   rw [SC,List.pairwise_append,List.pairwise_append]
   refine ⟨⟨a3,by split <;> simp,fun x hx y hy=>?_⟩,b1,fun x hx y hy=>?_⟩
   ·have:y=c:=by
     split at hy
     ·cases hy
     ·simpa using hy
    rw [this]; exact a1 x hx
   ·have hy':=hgt y hy
    rcases List.mem_append.1 hx with g | g
    ·exact (a1 x g).trans hy'
    ·have:x=c:=by
      split at g
      ·cases g
      ·simpa using g
     rw [this]; exact hy'
  ·rw [hmem,b2]
   constructor
   ·rintro (g | ⟨rfl,g⟩ | ⟨g1,g2⟩ | ⟨g1,g2⟩)
    ·refine .inr ⟨a5 x (.inl g),fun c' hc' hA=>?_⟩
     have hx:=a1 x g
     rcases List.mem_cons.1 hc' with rfl | hc'
     ·exact hx.ne hA.1 hA.2
     ·exact (hx.trans (h2.1 c' hc')).ne hA.1 hA.2
    ·exact .inl ⟨List.mem_cons_self ..,g⟩
    ·exact .inl ⟨List.mem_cons_of_mem _ g1,g2⟩
    ·refine .inr ⟨a5 x (.inr g1),fun c' hc' hA=>?_⟩
     rcases List.mem_cons.1 hc' with rfl | hc'
     ·exact (a2 x g1).ne hA.1.symm hA.2.symm
     ·exact g2 c' hc' hA
   ·rintro (⟨g1,g2⟩ | ⟨g1,g2⟩)
    ·rcases List.mem_cons.1 g1 with rfl | g1
     ·exact .inr (.inl ⟨rfl,g2⟩)
     ·exact .inr (.inr (.inl ⟨g1,g2⟩))
    ·rcases a6 x g1 (g2 c (List.mem_cons_self ..)) with g | g
     ·exact .inl g
     ·exact .inr (.inr (.inr ⟨g,fun c' hc'=>g2 c' (List.mem_cons_of_mem _ hc')⟩))
theorem QI {ra ca:List AI} {rows cols:Int} (hr:BO ra rows) (hc:BO ca cols) {l:List AE} (h:SC l) (hin : ∀ c∈l,0≤c.Row∧c.Row<rows∧0≤c.Col∧c.Col<cols):SC (l.filterMap (CT ra ca)):=by
 rw [SC,List.pairwise_filterMap]
 refine List.Pairwise.imp_of_mem (fun {a b} ha hb hab x hx y hy=>?_) h
 obtain ⟨a1,a2,a3,a4⟩:=hin a ha
 obtain ⟨b1,b2,b3,b4⟩:=hin b hb
 unfold CT at hx hy
 split at hx
 ·cases hx
 ·rename_i hx0
  split at hy
  ·cases hy
  ·rename_i hy0
   cases hx; cases hy
   unfold Bw at hab ⊢
   dsimp only
   rcases hab with g | ⟨g1,g2⟩
   ·exact .inl (KK hr a1 g (by omega) (by omega))
   ·rw [g1]
    exact .inr ⟨rfl,KK hc a3 g2 (by omega) (by omega)⟩
end Go.Proofs.YtojmbndlghbpjaaDoor.Al

set_option linter.unusedVariables false
set_option linter.unusedSimpArgs false
namespace Go.Proofs.YtojmbndlghbpjaaDoor.Al
open Go
def B0 (a:List AI) (n:Int):List Int:=if a=[] then List.replicate n.toNat 0 else DF a
def A3 (a:List AI) (n:Int):List Int:=BF (B0 a n) 0
theorem Nw (n:Int):DF [⟨0,n⟩]=List.replicate n.toNat 0:=by
 unfold DF; simp
theorem PQ : ∀ (us:List Int) (o:Int),0≤o→(∀ u∈us,u=0∨u=1∨u=2) →
  (BF us o).Pairwise (fun a b=>0≤a→0≤b→a<b)∧(∀ x∈BF us o,x = -1∨(o≤x∧x<o+((us.filter fun u=>!decide (u=1)).length:Int)))∧(BF us o).length=(us.filter fun u=>!decide (u=2)).length:=by
 intro us
 induction us with
 | nil=>intro o _ _; exact ⟨List.Pairwise.nil,fun x hx=>(by cases hx),rfl⟩
 | cons u r ih=>
  intro o ho hu
  have hur:=fun x hx=>hu x (List.mem_cons_of_mem _ hx)
  unfold BF
  rcases hu u (List.mem_cons_self ..) with rfl | rfl | rfl
  ·obtain ⟨h1,h2,h3⟩:=ih (o+1) (by omega) hur
   rw [if_pos rfl]
   refine ⟨List.pairwise_cons.2 ⟨fun x hx _ h0=>?_,h1⟩,fun x hx=>?_,?_⟩
   ·rcases h2 x hx with e | e
    ·omega
    ·omega
   ·simp only [List.filter_cons,show (!decide ((0:Int)=1))=true from rfl,if_true,List.length_cons]
    rcases List.mem_cons.1 hx with e | hx
    ·right; omega
    ·rcases h2 x hx with e | e
     ·exact .inl e
     ·right; omega
   ·simp only [List.filter_cons,show (!decide ((0:Int)=2))=true from rfl,if_true,List.length_cons,h3]
  ·obtain ⟨h1,h2,h3⟩:=ih o ho hur
   rw [if_neg (by decide),if_pos rfl]
   refine ⟨List.pairwise_cons.2 ⟨fun x hx h0 _=>absurd h0 (by decide),h1⟩,fun x hx=>?_,?_⟩
   ·simp only [List.filter_cons,show (!decide ((1:Int)=1))=false from rfl,Bool.false_eq_true,if_false]
    rcases List.mem_cons.1 hx with e | hx
    ·exact .inl e
    ·exact h2 x hx
   ·simp only [List.filter_cons,show (!decide ((1:Int)=2))=true from rfl,if_true,List.length_cons,h3]
  ·obtain ⟨h1,h2,h3⟩:=ih (o+1) (by omega) hur
   rw [if_neg (by decide),if_neg (by decide)]
   refine ⟨h1,fun x hx=>?_,?_⟩
   ·simp only [List.filter_cons,show (!decide ((2:Int)=1))=true from rfl,if_true,List.length_cons]
    rcases h2 x hx with e | e
    ·exact .inl e
    ·right; omega
   ·rw [h3,List.filter_cons,if_neg (by decide)]
theorem R5 {a:List AI} (h : ∀ s∈a,A4 s):(∀ u∈DF a,u=0∨u=1∨u=2)∧(((DF a).filter fun u=>!decide (u=1)).length:Int)=An a∧(((DF a).filter fun u=>!decide (u=2)).length:Int)=A0 a:=by
 induction a with
 | nil=>exact ⟨fun u hu=>(by cases hu),rfl,rfl⟩
 | cons s r ih=>
  obtain ⟨h1,h2,h3⟩:=ih fun x hx=>h x (List.mem_cons_of_mem _ hx)
  have hs:=h s (List.mem_cons_self ..)
  unfold A4 at hs
  rw [Ki,HD,Gm]
  refine ⟨fun u hu=>?_,?_,?_⟩
  ·rcases List.mem_append.1 hu with g | g
   ·have:=(List.mem_replicate.1 g).2; omega
   ·exact h1 u g
  ·rw [List.filter_append,List.length_append,List.filter_replicate]
   unfold Bx
   by_cases d:s.Kind=1
   ·rw [if_neg (by simp [d]),if_pos d]; simp; omega
   ·rw [if_pos (by simp [d]),if_neg d,List.length_replicate]; omega
  ·rw [List.filter_append,List.length_append,List.filter_replicate]
   unfold Bs
   by_cases d:s.Kind=2
   ·rw [if_neg (by simp [d]),if_pos d]; simp; omega
   ·rw [if_pos (by simp [d]),if_neg d,List.length_replicate]; omega
theorem Jj {a:List AI} {n:Int} (h:BO a n):(A3 a n).Pairwise (fun a b=>0≤a→0≤b→a<b)∧(∀ x∈A3 a n,x = -1∨(0≤x∧x<n))∧((A3 a n).length:Int)=AX a n:=by
 have hn:=h.n0
 unfold A3 B0 AX
 by_cases d:a=[]
 ·rw [if_pos d,if_pos d]
  obtain ⟨h1,h2,h3⟩:=PQ (List.replicate n.toNat 0) 0 (by omega) (fun u hu=>.inl (List.mem_replicate.1 hu).2)
  rw [List.filter_replicate,if_pos (by rfl),List.length_replicate] at h2 h3
  refine ⟨h1,fun x hx=>?_,by rw [h3]; omega⟩
  rcases h2 x hx with e | e
  ·exact .inl e
  ·right; omega
 ·rw [if_neg d,if_neg d]
  obtain ⟨u1,u2,u3⟩:=R5 (Cu h.er).stp
  obtain ⟨h1,h2,h3⟩:=PQ (DF a) 0 (by omega) u1
  have:=h.ft d
  refine ⟨h1,fun x hx=>?_,by rw [h3]; exact u3⟩
  rcases h2 x hx with e | e
  ·exact .inl e
  ·right; omega
theorem Vt : ∀ (l:List Int) (p t:Int),0≤t→0≤A8 (BT p l t) → ∃ k,k<l.length∧A8 (BT p l t)=t+(k:Int)∧l[k]! = p:=by
 intro l
 induction l with
 | nil=>intro p t _ h; exact absurd h (by unfold BT A8; decide)
 | cons x r ih=>
  intro p t ht h
  unfold BT at h ⊢
  by_cases d:x=p
  ·rw [if_pos d] at h ⊢
   exact ⟨0,by simp,by simp [A8],by simpa using d⟩
  ·rw [if_neg d] at h ⊢
   obtain ⟨k,k1,k2,k3⟩:=ih p (t+1) (by omega) h
   exact ⟨k+1,by simpa using k1,by omega,by simpa using k3⟩
theorem UK : ∀ (l:List Int) (p t:Int) (k:Nat),k<l.length→l[k]! = p→(∀ j,j<k→l[j]! ≠ p)→A8 (BT p l t)=t+(k:Int):=by
 intro l
 induction l with
 | nil=>intro p t k h; exact absurd h (Nat.not_lt_zero _)
 | cons x r ih=>
  intro p t k hk h1 h2
  unfold BT
  cases k with
  | zero=>rw [if_pos (by simpa using h1)]; simp [A8]
  | succ k=>
   rw [if_neg (by have:=h2 0 (by omega); simpa using this),ih p (t+1) k (by simpa using hk) (by simpa using h1) (fun j hj=>by have:=h2 (j+1) (by omega); simpa using this)]
   omega
theorem M9 {a:List AI} {n p:Int} (h:BO a n) (h0:0≤p) (h1:p<n):A8 (BT p (A3 a n) 0)=Aq a p:=by
 unfold A3 B0 Aq
 have:=h.nm
 by_cases d:a=[]
 ·rw [if_pos d,if_pos d,← Nw,QC [⟨0,n⟩] (fun s hs=>by
   have:s=⟨0,n⟩:=by simpa using hs
   subst this; unfold A4; dsimp only; omega) 0 p 0 h0 h0,EI]
  rw [if_neg (show ¬ (0:Int)=1 by decide),if_pos (by dsimp only; omega),if_pos rfl]
  simp [A8]
 ·rw [if_neg d,if_neg d]
  exact QC a (Cu h.er).stp 0 p 0 h0 h0
theorem N6 {a:List AI} {n:Int} (h:BO a n) {r:Nat} (hr:r<(A3 a n).length) (h0:0≤(A3 a n)[r]!):(A3 a n)[r]! < n∧Aq a (A3 a n)[r]! = (r:Int):=by
 obtain ⟨h1,h2,h3⟩:=Jj h
 have hm:=h2 _ (Cy hr)
 have hlt:(A3 a n)[r]! < n:=by omega
 refine ⟨hlt,?_⟩
 rw [← M9 h h0 hlt,UK (A3 a n) _ 0 r hr rfl (fun j hj e=>?_)]
 ·omega
 ·rw [List.pairwise_iff_getElem] at h1
  have:=h1 j r (by omega) hr hj
  rw [← getElem!_pos (A3 a n) j (by omega),← getElem!_pos (A3 a n) r hr] at this
  have:=this (by rw [e]; exact h0) h0
  omega
theorem QN {a:List AI} {n p:Int} (h:BO a n) (h0:0≤p) (h1:p<n) (h2:0≤Aq a p):(Aq a p).toNat<(A3 a n).length∧(A3 a n)[(Aq a p).toNat]! = p:=by
 rw [← M9 h h0 h1] at h2 ⊢
 obtain ⟨k,k1,k2,k3⟩:=Vt _ _ _ (by omega) h2
 rw [k2,Int.zero_add,Int.toNat_natCast]
 exact ⟨k1,k3⟩
end Go.Proofs.YtojmbndlghbpjaaDoor.Al

set_option linter.unusedVariables false
set_option linter.unusedSimpArgs false
namespace Go.Proofs.YtojmbndlghbpjaaDoor.Al
open Go
def GG (x:AE):List AE:=if BX x=true then [] else [x]
def Ek (l:List AE) (a b:Int) (r c:Nat):AE:=if 0≤a∧0≤b then ⟨(r:Int),(c:Int),(Dw l a b).Text,(Dw l a b).Ref,(Dw l a b).Attrs⟩ else ⟨(r:Int),(c:Int),[],0,[]⟩
def Dn (n:List AE) (r c:Nat) (x:AE):AE:=n.foldl (fun x y=>if y.Row=(r:Int)∧y.Col=(c:Int) then y else x) x
def XC (l n:List AE) (rr cc:List Int) (r c:Nat):AE:=Dn n r c (Ek l rr[r]! cc[c]! r c)
def CM (l n:List AE) (rr cc:List Int) (r m:Nat):List AE:=(List.range m).flatMap fun c=>GG (XC l n rr cc r c)
def DD (l n:List AE) (rr cc:List Int) (m:Nat):List AE:=(List.range m).flatMap fun r=>CM l n rr cc r cc.length
theorem Nj (l n:List AE) (rr cc:List Int) (r m:Nat):CM l n rr cc r (m+1)=CM l n rr cc r m++GG (XC l n rr cc r m):=by
 unfold CM; rw [List.range_succ,List.flatMap_append]; simp
theorem P3 (l n:List AE) (rr cc:List Int) (m:Nat):DD l n rr cc (m+1)=DD l n rr cc m++CM l n rr cc m cc.length:=by
 unfold DD; rw [List.range_succ,List.flatMap_append]; simp
theorem S2 (x:AE):(GG x).length≤1:=by unfold GG; split <;> simp
theorem QE (l n:List AE) (rr cc:List Int) (r m:Nat):(CM l n rr cc r m).length≤m:=by
 induction m with
 | zero=>simp [CM]
 | succ m ih=>rw [Nj,List.length_append]; have:=S2 (XC l n rr cc r m); omega
theorem VU (l n:List AE) (rr cc:List Int) (m:Nat):(DD l n rr cc m).length≤m * cc.length:=by
 induction m with
 | zero=>simp [DD]
 | succ m ih=>rw [P3,List.length_append,Nat.succ_mul]; have:=QE l n rr cc m cc.length; omega
theorem Tu (l:List AE) (row col:Int) (hl:l.length≤1048576):IJ l row col=some (Dw l row col):=by
 unfold IJ
 have h:=CW (f:=fun (a:Int)=>Hu l row col a) (n:=l.length) (fun k=>if (decide (l[k]!.Row=row) && decide (l[k]!.Col=col)) then some l[k]! else none) (fun k hk=>by
  unfold Hu
  rw [if_pos (by simpa using hk),Ac hk,AD,Am (by omega)]
  cases (decide (l[k]!.Row=row) && decide (l[k]!.Col=col)) <;> rfl) (by unfold Hu; rw [if_neg (by simp)])
 rw [h,Dq]
 have key : ∀ l:List AE,(List.range l.length).findSome? (fun k=>if (decide (l[k]!.Row=row) && decide (l[k]!.Col=col)) then some l[k]! else none)=l.find? fun c=>decide (c.Row=row) && decide (c.Col=col):=by
  intro l
  induction l with
  | nil=>rfl
  | cons x t ih=>
   rw [List.length_cons,List.range_succ_eq_map,List.findSome?_cons,List.find?_cons,List.findSome?_map]
   have e0:(x :: t)[0]! = x:=rfl
   rw [e0]
   cases hx:(decide (x.Row=row) && decide (x.Col=col)) with
   | true=>rfl
   | false=>
    rw [← ih]
    rfl
 rw [key]
 unfold Dw
 cases l.find? fun c=>decide (c.Row=row) && decide (c.Col=col) <;> rfl
theorem SV (e:Aj) (r c:Nat) (x:AE) (hn:e.Cells.length≤1048576):iter (fun (a:Int × AE)=>EP e (r:Int) (c:Int) a.1 a.2) (0,x)=some (Dn e.Cells r c x):=by
 exact Cp (f:=fun (a:Int × AE)=>EP e (r:Int) (c:Int) a.1 a.2) e.Cells (fun (x:AE) i=>((i:Int),x)) (fun l x=>Dn l r c x) (fun _ _=>True)
  (fun i x hi _=>by
   left
   show ∃ c',EP e (r:Int) (c:Int) (i:Int) x=_∧_
   unfold EP
   rw [if_pos (by simpa using hi),Ac hi,AD,Am (by omega)]
   by_cases h:e.Cells[i]!.Row=(r:Int)∧e.Cells[i]!.Col=(c:Int)
   ·rw [if_pos (by simpa using h)]
    refine ⟨_,rfl,trivial,?_⟩
    unfold Dn; rw [List.foldl_cons,if_pos h]
   ·rw [if_neg (by simpa using h)]
    refine ⟨_,rfl,trivial,?_⟩
    unfold Dn; rw [List.foldl_cons,if_neg h])
  (fun x _=>by
   show EP e (r:Int) (c:Int) (e.Cells.length:Int) x=_
   unfold EP
   rw [if_neg (by simp)]; rfl) x trivial (0,x) rfl
theorem Tp (g:AJ) (e:Aj) (rr cc:List Int) (hg:g.Cells.length≤1048576) (hn:e.Cells.length≤1048576) (hc:cc.length≤1000) (r:Nat) (hr:r<rr.length) (o:AJ) (ho:o.Cells.length≤1000000) :
  iter (fun (a:Int × AJ)=>Gl g e rr cc (r:Int) a.1 a.2) (0,(AJ.mk o.Rows o.Cols o.Cells []))=some ⟨o.Rows,o.Cols,o.Cells++CM g.Cells e.Cells rr cc r cc.length,[]⟩:=by
 obtain ⟨b,hb,hq⟩:=Dh (f:=fun (a:Int × AJ)=>Gl g e rr cc (r:Int) a.1 a.2) cc.length
  (fun k st=>st=((k:Int),(⟨o.Rows,o.Cols,o.Cells++CM g.Cells e.Cells rr cc r k,[]⟩:AJ))) (fun b=>b=(⟨o.Rows,o.Cols,o.Cells++CM g.Cells e.Cells rr cc r cc.length,[]⟩:AJ))
  (fun k st hk hst=>by
   subst hst
   left
   have hlen:=QE g.Cells e.Cells rr cc r k
   unfold Gl
   dsimp only
   rw [if_pos (by simpa using hk),Ac hr,AD,Ac hk]
   have e0:(AB (gd ((decide (0≤rr[r]!)) == true) (some cc[k]!)) fun (x44:Int)=>
    AB (
     if ((decide (0≤rr[r]!)) && (decide (0≤x44))) then (
      AB (some cc[k]!) fun (x56:Int)=>
      AB (IJ g.Cells rr[r]! x56) fun (r8:AE)=>
      some (AE.mk (r:Int) (k:Int) r8.Text r8.Ref r8.Attrs)
     ) else (
      some (AE.mk (r:Int) (k:Int) [] 0 [])
     )
    ) fun (x45:AE)=>
    AB (iter (fun (a:Int × AE)=>EP e (r:Int) (k:Int) a.1 a.2) (0,x45)) fun (x52:AE)=>
    AB (Em x52) fun (r7:Bool)=>
    if (!r7) then (
     AB (BR 64 (o.Cells++CM g.Cells e.Cells rr cc r k) [x52]) fun (l2:List AE)=>
     some (AJ.mk o.Rows o.Cols l2 [])
    ) else (
     some (AJ.mk o.Rows o.Cols (o.Cells++CM g.Cells e.Cells rr cc r k) [])
    ))=some ⟨o.Rows,o.Cols,o.Cells++CM g.Cells e.Cells rr cc r (k+1),[]⟩:=by
    have tail : ∀ x:AE,x=Ek g.Cells rr[r]! cc[k]! r k→(AB (iter (fun (a:Int × AE)=>EP e (r:Int) (k:Int) a.1 a.2) (0,x)) fun (x52:AE)=>
     AB (Em x52) fun (r7:Bool)=>
     if (!r7) then (
      AB (BR 64 (o.Cells++CM g.Cells e.Cells rr cc r k) [x52]) fun (l2:List AE)=>
      some (AJ.mk o.Rows o.Cols l2 [])
     ) else (
      some (AJ.mk o.Rows o.Cols (o.Cells++CM g.Cells e.Cells rr cc r k) [])
     ))=some ⟨o.Rows,o.Cols,o.Cells++CM g.Cells e.Cells rr cc r (k+1),[]⟩:=by
     intro x hx
     have hX:Dn e.Cells r k x=XC g.Cells e.Cells rr cc r k:=by rw [hx]; rfl
     have he:Em (XC g.Cells e.Cells rr cc r k)=some (BX (XC g.Cells e.Cells rr cc r k)):=by unfold Em BX; rw [KX]
     rw [SV e r k x hn,AD,hX,he,AD,Nj]
     unfold GG
     cases hE:BX (XC g.Cells e.Cells rr cc r k) with
     | true=>rw [if_neg (by decide),if_pos rfl,List.append_nil]
     | false=>
      rw [if_pos (by decide),KQ (by rw [List.length_append]; omega),AD,if_neg (by decide),List.append_assoc]
    by_cases h1:0≤rr[r]!
    ·rw [decide_eq_true h1,show (true == true)=true from rfl,Ak,AD]
     by_cases h2:0≤cc[k]!
     ·rw [if_pos (by rw [decide_eq_true h2]; rfl),AD,Tu _ _ _ hg,AD,AD]
      exact tail _ (by unfold Ek; rw [if_pos ⟨h1,h2⟩])
     ·rw [if_neg (by rw [decide_eq_false h2]; decide),AD]
      exact tail _ (by unfold Ek; rw [if_neg (fun h=>h2 h.2)])
    ·rw [decide_eq_false h1,show (false == true)=false from rfl]
     simp only [Ez,AD,Bool.false_and,Bool.false_eq_true,if_false]
     exact tail _ (by unfold Ek; rw [if_neg (fun h=>h1 h.1)])
   rw [e0,AD,Am (by omega),AD]
   exact ⟨_,rfl,rfl⟩)
  (fun st hst=>by
   subst hst
   unfold Gl
   dsimp only
   rw [if_neg (by simp)]
   exact ⟨_,rfl,rfl⟩)
  (s:=((0:Int),(⟨o.Rows,o.Cols,o.Cells,[]⟩:AJ))) (by simp [CM])
 rw [← hq]; exact hb
theorem TG (g:AJ) (e:Aj) (rr cc:List Int) (hg:g.Cells.length≤1048576) (hn:e.Cells.length≤1048576) (hr:rr.length≤100) (hc:cc.length≤100) :
  iter (fun (a:Int × AJ)=>Gr g e rr cc a.1 a.2) (0,(AJ.mk (rr.length:Int) (cc.length:Int) [] []))=some ⟨(rr.length:Int),(cc.length:Int),DD g.Cells e.Cells rr cc rr.length,[]⟩:=by
 obtain ⟨b,hb,hq⟩:=Dh (f:=fun (a:Int × AJ)=>Gr g e rr cc a.1 a.2) rr.length
  (fun k st=>st=((k:Int),(⟨(rr.length:Int),(cc.length:Int),DD g.Cells e.Cells rr cc k,[]⟩:AJ))) (fun b=>b=(⟨(rr.length:Int),(cc.length:Int),DD g.Cells e.Cells rr cc rr.length,[]⟩:AJ))
  (fun k st hk hst=>by
   subst hst
   left
   have hlen:=VU g.Cells e.Cells rr cc k
   have:k * cc.length≤100 * 100:=Nat.mul_le_mul (by omega) hc
   have hrow:=Tp g e rr cc hg hn (by omega) k hk ⟨(rr.length:Int),(cc.length:Int),DD g.Cells e.Cells rr cc k,[]⟩ (by dsimp only; omega)
   unfold Gr
   dsimp only at hrow ⊢
   rw [if_pos (by simpa using hk),hrow,AD,Am (by omega),AD]
   exact ⟨_,rfl,by rw [P3]⟩)
  (fun st hst=>by
   subst hst
   unfold Gr
   dsimp only
   rw [if_neg (by simp)]
   exact ⟨_,rfl,rfl⟩)
  (s:=((0:Int),(⟨(rr.length:Int),(cc.length:Int),[],[]⟩:AJ))) (by simp [DD])
 rw [← hq]; exact hb
end Go.Proofs.YtojmbndlghbpjaaDoor.Al

set_option linter.unusedVariables false
set_option linter.unusedSimpArgs false
namespace Go.Proofs.YtojmbndlghbpjaaDoor.Al
open Go
theorem Mf (r c:Nat) : ∀ (n:List AE) (x:AE),(∀ y∈n,¬ (y.Row=(r:Int)∧y.Col=(c:Int)))→Dn n r c x=x:=by
 intro n
 induction n with
 | nil=>intro x _; rfl
 | cons y t ih=>
  intro x h
  unfold Dn
  rw [List.foldl_cons,if_neg (h y (List.mem_cons_self ..))]
  exact ih x fun z hz=>h z (List.mem_cons_of_mem _ hz)
theorem Nq (r c:Nat) : ∀ (n:List AE) (x y:AE),SC n→y∈n→y.Row=(r:Int)∧y.Col=(c:Int)→Dn n r c x=y:=by
 intro n
 induction n with
 | nil=>intro x y _ h; cases h
 | cons z t ih=>
  intro x y hs hy hA
  rw [SC,List.pairwise_cons] at hs
  unfold Dn
  rw [List.foldl_cons]
  rcases List.mem_cons.1 hy with rfl | hy
  ·rw [if_pos hA]
   exact Mf r c t y fun w hw hB=>(hs.1 w hw).ne (hA.1.trans hB.1.symm) (hA.2.trans hB.2.symm)
  ·exact ih _ y hs.2 hy hA
theorem JR (l n:List AE) (rr cc:List Int) (r c:Nat):(XC l n rr cc r c).Row=(r:Int)∧(XC l n rr cc r c).Col=(c:Int):=by
 have key : ∀ (n:List AE) (x:AE),(x.Row=(r:Int)∧x.Col=(c:Int))→(Dn n r c x).Row=(r:Int)∧(Dn n r c x).Col=(c:Int):=by
  intro n
  induction n with
  | nil=>intro x h; exact h
  | cons y t ih=>
   intro x h
   unfold Dn
   rw [List.foldl_cons]
   refine ih _ ?_
   split
   ·assumption
   ·exact h
 refine key n _ ?_
 unfold Ek
 split <;> exact ⟨rfl,rfl⟩
theorem JO {x y:AE} : x∈GG y↔x=y∧BX y=false:=by
 unfold GG
 cases BX y <;> simp
theorem Sv (l n:List AE) (rr cc:List Int) (m:Nat) (x:AE):x∈DD l n rr cc m ↔ ∃ r c,r<m∧c<cc.length∧x=XC l n rr cc r c∧BX x=false:=by
 unfold DD CM
 simp only [List.mem_flatMap,List.mem_range,JO]
 constructor
 ·rintro ⟨r,hr,c,hc,e,h⟩; exact ⟨r,c,hr,hc,e,by rw [e]; exact h⟩
 ·rintro ⟨r,c,hr,hc,e,h⟩; exact ⟨r,hr,c,hc,e,by rw [← e]; exact h⟩
theorem WB (l n:List AE) (rr cc:List Int) (m:Nat):SC (DD l n rr cc m):=by
 unfold DD
 rw [SC,List.pairwise_flatMap]
 refine ⟨fun r _=>?_,List.pairwise_lt_range.imp fun {a b} hab x hx y hy=>?_⟩
 ·unfold CM
  rw [List.pairwise_flatMap]
  refine ⟨fun c _=>by unfold GG; split <;> simp,List.pairwise_lt_range.imp fun {a b} hab x hx y hy=>?_⟩
  obtain ⟨rfl,_⟩:=JO.1 hx
  obtain ⟨rfl,_⟩:=JO.1 hy
  have h1:=JR l n rr cc r a
  have h2:=JR l n rr cc r b
  right
  omega
 ·unfold CM at hx hy
  obtain ⟨c,_,hx⟩:=List.mem_flatMap.1 hx
  obtain ⟨c',_,hy⟩:=List.mem_flatMap.1 hy
  obtain ⟨rfl,_⟩:=JO.1 hx
  obtain ⟨rfl,_⟩:=JO.1 hy
  have h1:=JR l n rr cc a c
  have h2:=JR l n rr cc b c'
  left
  omega
theorem UY {l:List AE} {row col:Int} : Dw l row col=AE.mk row col [] 0 []∨(Dw l row col∈l∧(Dw l row col).Row=row∧(Dw l row col).Col=col):=by
 unfold Dw
 cases hf:l.find? fun c=>decide (c.Row=row) && decide (c.Col=col) with
 | none=>exact .inl rfl
 | some c=>
  have h1:=List.mem_of_find?_eq_some hf
  have h2:=List.find?_some hf
  simp only [Bool.and_eq_true,decide_eq_true_eq] at h2
  exact .inr ⟨h1,h2⟩
theorem SL {l:List AE} (hs:SC l) {x:AE} (hx:x∈l):Dw l x.Row x.Col=x:=by
 unfold Dw
 cases hf:l.find? fun c=>decide (c.Row=x.Row) && decide (c.Col=x.Col) with
 | none=>
  have:=List.find?_eq_none.1 hf x hx
  simp at this
 | some c=>
  have h1:=List.mem_of_find?_eq_some hf
  have h2:=List.find?_some hf
  simp only [Bool.and_eq_true,decide_eq_true_eq] at h2
  show c=x
  obtain ⟨i,hi,rfl⟩:=List.getElem_of_mem h1
  obtain ⟨j,hj,rfl⟩:=List.getElem_of_mem hx
  rw [SC,List.pairwise_iff_getElem] at hs
  rcases Nat.lt_trichotomy i j with h | h | h
  ·exact ((hs i j hi hj h).ne h2.1 h2.2).elim
  ·subst h; rfl
  ·exact ((hs j i hj hi h).ne h2.1.symm h2.2.symm).elim
theorem VQ {ra ca:List AI} {rows cols:Int} (hr:BO ra rows) (hc:BO ca cols) {l n:List AE} (hl:SC l) (hn:SC n)
  (hin : ∀ c∈l,(0≤c.Row∧c.Row<rows∧0≤c.Col∧c.Col<cols)∧BX c=false) (hnin : ∀ c∈n,0≤c.Row∧c.Row<AX ra rows∧0≤c.Col∧c.Col<AX ca cols) :
  DD l n (A3 ra rows) (A3 ca cols) (A3 ra rows).length=CI (l.filterMap (CT ra ca)) n:=by
 obtain ⟨p1,p2⟩:=Ps n _ (QI hr hc hl fun c h=>(hin c h).1) hn
 obtain ⟨_,_,lr⟩:=Jj hr
 obtain ⟨_,_,lc⟩:=Jj hc
 refine Ve (WB ..) p1 fun x=>?_
 rw [Sv,p2]
 constructor
 ·rintro ⟨r,c,h1,h2,rfl,h3⟩
  have hat:=JR l n (A3 ra rows) (A3 ca cols) r c
  by_cases hex : ∃ y∈n,y.Row=(r:Int)∧y.Col=(c:Int)
  ·obtain ⟨y,hy,hA⟩:=hex
   have:XC l n (A3 ra rows) (A3 ca cols) r c=y:=Nq r c n _ y hn hy hA
   rw [this] at h3 ⊢
   exact .inl ⟨hy,h3⟩
  ·have hno : ∀ y∈n,¬ (y.Row=(r:Int)∧y.Col=(c:Int)):=fun y hy hA=>hex ⟨y,hy,hA⟩
   have hX:XC l n (A3 ra rows) (A3 ca cols) r c=Ek l (A3 ra rows)[r]! (A3 ca cols)[c]! r c:=Mf r c n _ hno
   right
   refine ⟨?_,fun y hy hA=>hno y hy ⟨by rw [← hA.1]; exact hat.1,by rw [← hA.2]; exact hat.2⟩⟩
   rw [hX] at h3 ⊢
   unfold Ek at h3 ⊢
   by_cases h0:0≤(A3 ra rows)[r]! ∧ 0≤(A3 ca cols)[c]!
   ·rw [if_pos h0] at h3 ⊢
    rcases UY (l:=l) (row:=(A3 ra rows)[r]!) (col:=(A3 ca cols)[c]!) with e | ⟨e1,e2,e3⟩
    ·rw [e] at h3
     exact absurd h3 (by simp [BX])
    ·obtain ⟨g1,g2⟩:=N6 hr h1 h0.1
     obtain ⟨g3,g4⟩:=N6 hc h2 h0.2
     refine List.mem_filterMap.2 ⟨_,e1,?_⟩
     unfold CT
     rw [e2,e3,g2,g4,if_neg (by omega)]
   ·rw [if_neg h0] at h3
    exact absurd h3 (by simp [BX])
 ·rintro (⟨h1,h2⟩ | ⟨h1,h2⟩)
  ·obtain ⟨a1,a2,a3,a4⟩:=hnin x h1
   refine ⟨x.Row.toNat,x.Col.toNat,by omega,by omega,?_,h2⟩
   exact (Nq _ _ n _ x hn h1 ⟨by omega,by omega⟩).symm
  ·obtain ⟨y,hy,hm⟩:=List.mem_filterMap.1 h1
   obtain ⟨⟨b1,b2,b3,b4⟩,b5⟩:=hin y hy
   unfold CT at hm
   split at hm
   ·cases hm
   ·rename_i hge
    have q1:0≤Aq ra y.Row:=by omega
    have q2:0≤Aq ca y.Col:=by omega
    obtain ⟨r1,r2⟩:=QN hr b1 b2 q1
    obtain ⟨c1,c2⟩:=QN hc b3 b4 q2
    cases hm
    refine ⟨(Aq ra y.Row).toNat,(Aq ca y.Col).toNat,r1,c1,?_,b5⟩
    have hX:XC l n (A3 ra rows) (A3 ca cols) (Aq ra y.Row).toNat (Aq ca y.Col).toNat=Ek l (A3 ra rows)[(Aq ra y.Row).toNat]! (A3 ca cols)[(Aq ca y.Col).toNat]! (Aq ra y.Row).toNat (Aq ca y.Col).toNat:=by
     refine Mf _ _ n _ fun z hz hA=>h2 z hz ⟨?_,?_⟩
     ·rw [hA.1]; dsimp only; omega
     ·rw [hA.2]; dsimp only; omega
    rw [hX,r2,c2]
    unfold Ek
    rw [if_pos ⟨b1,b3⟩,SL hl hy]
    congr 1
    ·omega
    ·omega
end Go.Proofs.YtojmbndlghbpjaaDoor.Al

set_option linter.unusedVariables false
set_option linter.unusedSimpArgs false
namespace Go.Proofs.YtojmbndlghbpjaaDoor.Al
open Go
def Fd (ms M:List AC):List AC:=ms.foldl (fun M r=>Bj r M++[r]) M
def FM (M:List AC) (R C:Int):List AC:=(List.range R.toNat).flatMap fun (r:Nat)=>(List.range C.toNat).flatMap fun (c:Nat)=>M.filter fun q=>decide (q.Row=(r:Int)) && decide (q.Col=(c:Int))
theorem PD (a b:AC):BI a b=true↔(a.Row<b.Row+b.H∧b.Row<a.Row+a.H∧a.Col<b.Col+b.W∧b.Col<a.Col+a.W):=by
 unfold BI; rw [decide_eq_true_eq]
theorem MX (a b:AC):BI a b=false ↔ ¬ (a.Row<b.Row+b.H∧b.Row<a.Row+a.H∧a.Col<b.Col+b.W∧b.Col<a.Col+a.W):=by
 unfold BI; rw [decide_eq_false_iff_not]
theorem Va (a b:AC):BI a b=BI b a:=by
 rw [Bool.eq_iff_iff,PD,PD]; omega
theorem RQ {ra ca:List AI} {rows cols:Int} (hr:BO ra rows) (hc:BO ca cols) {r:AC} (h:Ao rows cols r) (hk:Cq (BE ra ca r)):Ao (AX ra rows) (AX ca cols) (BE ra ca r):=by
 unfold Ao at h
 have k1:=HL hr (fr:=r.Row) (tq:=r.Row+r.H) (by omega) (by omega) (by omega)
 have k2:=HL hc (fr:=r.Col) (tq:=r.Col+r.W) (by omega) (by omega) (by omega)
 unfold Cq BE at hk
 unfold Ao BE
 dsimp only at hk ⊢
 omega
theorem Sa {ra ca:List AI} {rows cols:Int} (hr:BO ra rows) (hc:BO ca cols) {a b:AC} (ha:Ao rows cols a) (hb:Ao rows cols b) (h:BI a b=false) (ka:Cq (BE ra ca a)) (kb:Cq (BE ra ca b)):BI (BE ra ca a) (BE ra ca b)=false:=by
 rw [MX] at h ⊢
 unfold Ao at ha hb
 unfold Cq BE at ka kb
 unfold BE
 dsimp only at ka kb ⊢
 by_cases g1:a.Row+a.H≤b.Row
 ·have:=LU hr (f1:=a.Row) (t1:=a.Row+a.H) (f2:=b.Row) (t2:=b.Row+b.H) (by omega) (by omega) g1 (by omega) (by omega) (by omega) (by omega)
  omega
 by_cases g2:b.Row+b.H≤a.Row
 ·have:=LU hr (f1:=b.Row) (t1:=b.Row+b.H) (f2:=a.Row) (t2:=a.Row+a.H) (by omega) (by omega) g2 (by omega) (by omega) (by omega) (by omega)
  omega
 by_cases g3:a.Col+a.W≤b.Col
 ·have:=LU hc (f1:=a.Col) (t1:=a.Col+a.W) (f2:=b.Col) (t2:=b.Col+b.W) (by omega) (by omega) g3 (by omega) (by omega) (by omega) (by omega)
  omega
 by_cases g4:b.Col+b.W≤a.Col
 ·have:=LU hc (f1:=b.Col) (t1:=b.Col+b.W) (f2:=a.Col) (t2:=a.Col+a.W) (by omega) (by omega) g4 (by omega) (by omega) (by omega) (by omega)
  omega
 exact absurd ⟨by omega,by omega,by omega,by omega⟩ h
def Co (R C:Int) (M:List AC):Prop:=(∀ q∈M,Ao R C q)∧M.Pairwise fun a b=>BI a b=false
theorem M5 {ra ca:List AI} {rows cols:Int} (hr:BO ra rows) (hc:BO ca cols) (sp:List AC) {M:List AC} (h:Co rows cols M):Co (AX ra rows) (AX ca cols) (M.filterMap (mR ra ca sp)):=by
 have key : ∀ a b,mR ra ca sp a=some b→b=BE ra ca a∧Cq (BE ra ca a):=fun a b hb=>by
  unfold mR at hb
  split at hb
  ·rename_i hk; cases hb; exact ⟨rfl,hk.1⟩
  ·cases hb
 refine ⟨fun q hq=>?_,?_⟩
 ·obtain ⟨a,ha,hm⟩:=List.mem_filterMap.1 hq
  obtain ⟨rfl,hk⟩:=key a q hm
  exact RQ hr hc (h.1 a ha) hk
 ·rw [List.pairwise_filterMap]
  refine List.Pairwise.imp_of_mem (fun {a b} ha hb hab x hx y hy=>?_) h.2
  obtain ⟨rfl,ka⟩:=key a x hx
  obtain ⟨rfl,kb⟩:=key b y hy
  exact Sa hr hc (h.1 a ha) (h.1 b hb) hab ka kb
theorem M4 {R C:Int} {M:List AC} (h:Co R C M) {r:AC} (hr:Ao R C r):Co R C (Bj r M++[r]):=by
 refine ⟨fun q hq=>?_,?_⟩
 ·rcases List.mem_append.1 hq with g | g
  ·exact h.1 q (List.mem_filter.1 g).1
  ·have:q=r:=by simpa using g
   rw [this]; exact hr
 ·rw [List.pairwise_append]
  refine ⟨h.2.filter _,by simp,fun a ha b hb=>?_⟩
  have:b=r:=by simpa using hb
  rw [this]
  have:=(List.mem_filter.1 ha).2
  simpa using this
theorem Oo {R C:Int} : ∀ (ms M:List AC),Co R C M→(∀ r∈ms,Ao R C r)→Co R C (Fd ms M):=by
 intro ms
 induction ms with
 | nil=>intro M h _; exact h
 | cons r t ih=>intro M h hm; exact ih _ (M4 h (hm r (List.mem_cons_self ..))) fun x hx=>hm x (List.mem_cons_of_mem _ hx)
theorem M2 (r:AC) (M:List AC):(Bj r M).length≤M.length:=List.length_filter_le ..
theorem ME : ∀ (ms M:List AC),(Fd ms M).length≤M.length+ms.length:=by
 intro ms
 induction ms with
 | nil=>intro M; exact Nat.le_refl _
 | cons r t ih=>
  intro M
  have:=ih (Bj r M++[r])
  have h2:=M2 r M
  rw [List.length_append,List.length_singleton] at this
  show (Fd t (Bj r M++[r])).length≤_
  rw [List.length_cons]; omega
theorem TY {e:Aj} {R C:Int} (hRC:Bu R C) (hm : ∀ r∈e.Merge,Ao R C r) (hl:e.Merge.length≤1048576) (a b:Int) (cs:List AE) (M:List AC) (hM:Co R C M) (hMl:M.length≤1048576) :
  iter (fun (x:Int × AJ)=>EB e x.1 x.2) (0,(AJ.mk a b cs M))=some ⟨a,b,cs,Fd e.Merge M⟩:=by
 exact Cp (f:=fun (x:Int × AJ)=>EB e x.1 x.2) e.Merge (fun (c:List AC) i=>((i:Int),(⟨a,b,cs,c⟩:AJ))) (fun l c=>(⟨a,b,cs,Fd l c⟩:AJ)) (fun i c=>c.length≤1048576+i∧Co R C c)
  (fun i c hi2 hI=>by
   left
   obtain ⟨h1,h2⟩:=hI
   have hin:=hm _ (Cy hi2)
   have hk:=M2 e.Merge[i]! c
   show ∃ c',EB e (i:Int) ⟨a,b,cs,c⟩=_∧_
   unfold EB
   rw [if_pos (by simpa using hi2),Ac hi2,AD,VK c _ (by omega) (fun q hq=>by unfold FA; rw [Nz hRC (h2.1 q hq) hin,AD]),AD,Hy (by omega),AD,Am (by omega),AD]
   exact ⟨_,rfl,⟨by rw [List.length_append,List.length_singleton]; omega,M4 h2 hin⟩,rfl⟩)
  (fun c _=>by
   show EB e (e.Merge.length:Int) ⟨a,b,cs,c⟩=_
   unfold EB
   rw [if_neg (by simp)]
   rfl) M ⟨by omega,hM⟩ (0,⟨a,b,cs,M⟩) rfl
theorem Pp {R C:Int} {M:List AC} (h:Co R C M):M.Nodup:=by
 refine List.Pairwise.imp_of_mem (fun {a b} ha hb hab e=>?_) h.2
 have h1:=h.1 a ha
 rw [← e,MX] at hab
 unfold Ao at h1
 exact hab ⟨by omega,by omega,by omega,by omega⟩
theorem Nm {R C:Int} {M:List AC} (h:Co R C M) (x:AC):x∈FM M R C↔x∈M:=by
 unfold FM
 simp only [List.mem_flatMap,List.mem_range,List.mem_filter,Bool.and_eq_true,decide_eq_true_eq]
 constructor
 ·rintro ⟨r,_,c,_,hx,_⟩; exact hx
 ·intro hx
  have h1:=h.1 x hx
  unfold Ao at h1
  exact ⟨x.Row.toNat,by omega,x.Col.toNat,by omega,hx,by omega,by omega⟩
theorem L8 {R C:Int} {M:List AC} (h:Co R C M):(FM M R C).Pairwise EH:=by
 unfold FM
 rw [List.pairwise_flatMap]
 refine ⟨fun r _=>?_,List.pairwise_lt_range.imp fun {a b} hab x hx y hy=>?_⟩
 ·rw [List.pairwise_flatMap]
  refine ⟨fun c _=>?_,List.pairwise_lt_range.imp fun {a b} hab x hx y hy=>?_⟩
  ·refine List.Pairwise.imp_of_mem (fun {a b} ha hb hab=>?_) (h.2.filter _)
   simp only [List.mem_filter,Bool.and_eq_true,decide_eq_true_eq] at ha hb
   have h1:=h.1 a ha.1
   have h2:=h.1 b hb.1
   rw [MX] at hab
   unfold Ao at h1 h2
   exact absurd ⟨by omega,by omega,by omega,by omega⟩ hab
  ·simp only [List.mem_filter,Bool.and_eq_true,decide_eq_true_eq] at hx hy
   right; omega
 ·simp only [List.mem_flatMap,List.mem_filter,Bool.and_eq_true,decide_eq_true_eq] at hx hy
  obtain ⟨c,_,_,h1,_⟩:=hx
  obtain ⟨c',_,_,h2,_⟩:=hy
  left; omega
theorem Uf {R C:Int} {M:List AC} (h:Co R C M) (hl:M.length≤4194304):EO Fs M=some (FM M R C):=by
 refine PU hl ?_ (L8 h)
 refine (List.perm_ext_iff_of_nodup ((L8 h).imp fun {a b} hab e=>?_) (Pp h)).2 (Nm h)
 subst e; unfold EH at hab; omega
structure HP (g:AJ) (e:Aj):Prop where
 ar:BO e.Rows g.Rows
 ac:BO e.Cols g.Cols
 gl:g.Cells.length≤1048576
 gml:g.Merges.length≤1048576
 el:e.Cells.length≤1048576
 sl:e.Split.length≤1048576
 ml:e.Merge.length≤1048576
 gc:SC g.Cells
 ec:SC e.Cells
 gi : ∀ c∈g.Cells,(0≤c.Row∧c.Row<g.Rows∧0≤c.Col∧c.Col<g.Cols)∧BX c=false
 go : ∀ c∈g.Cells,FC c
 ei : ∀ c∈e.Cells,0≤c.Row∧c.Row<AX e.Rows g.Rows∧0≤c.Col∧c.Col<AX e.Cols g.Cols
 eo : ∀ c∈e.Cells,FC c
 gm:Co g.Rows g.Cols g.Merges
 em : ∀ r∈e.Merge,Ao (AX e.Rows g.Rows) (AX e.Cols g.Cols) r
theorem HP.rc {g:AJ} {e:Aj} (h:HP g e):Bu (AX e.Rows g.Rows) (AX e.Cols g.Cols):=by
 have h1:=Fi h.ar
 have h2:=Fi h.ac
 exact ⟨h1.1,h1.2,h2.1,h2.2⟩
noncomputable def I5 (g:AJ) (e:Aj):List AC:=Fd e.Merge (g.Merges.filterMap (mR e.Rows e.Cols e.Split))
noncomputable def LE (g:AJ) (e:Aj):AJ:=⟨AX e.Rows g.Rows,AX e.Cols g.Cols,CI (g.Cells.filterMap (CT e.Rows e.Cols)) e.Cells,FM (I5 g e) (AX e.Rows g.Rows) (AX e.Cols g.Cols)⟩
theorem U9 {g:AJ} {e:Aj} (h:HP g e):G7 g e=some (LE g e):=by
 have hf:(g.Cells.filterMap (CT e.Rows e.Cols)).length≤1048576:=Nat.le_trans (List.length_filterMap_le ..) h.gl
 have hml:(g.Merges.filterMap (mR e.Rows e.Cols e.Split)).length≤1048576:=Nat.le_trans (List.length_filterMap_le ..) h.gml
 have hg0:=M5 h.ar h.ac e.Split h.gm
 have hg1:=Oo e.Merge _ hg0 h.em
 have hfl:=ME e.Merge (g.Merges.filterMap (mR e.Rows e.Cols e.Split))
 have:=h.ml
 unfold G7
 rw [size_eq h.ar.er,BK,size_eq h.ac.er,BK,Qx h.ar h.ac _ h.gl (fun c hc=>⟨h.go c hc,(h.gi c hc).1⟩),AD,VX _ _ hf h.el h.eo,AD,
  U5 h.ar h.ac h.gm.1 h.gml h.sl,AD,TY h.rc h.em h.ml _ _ _ _ hg0 hml,AD]
 dsimp only
 rw [Uf hg1 (by omega),AD]
 rfl
end Go.Proofs.YtojmbndlghbpjaaDoor.Al

set_option linter.unusedVariables false
set_option linter.unusedSimpArgs false
namespace Go.Proofs.YtojmbndlghbpjaaDoor.Al
open Go
def Db (a:List AI) (n:Int):Prop:=if a=[] then n≤30 else Cr a≤60
theorem Mo {a:List AI} {n:Int} (h:BO a n) (hs:Db a n):(B0 a n).length≤60:=by
 unfold Db at hs
 unfold B0
 by_cases d:a=[]
 ·rw [if_pos d] at hs ⊢; rw [List.length_replicate]; omega
 ·rw [if_neg d] at hs ⊢
  have:=Ml (Cu h.er).stp
  omega
theorem PT {a:List AI} {n:Int} (h:BO a n) (hs:Db a n):IG a n=some (B0 a n):=by
 have hn:=h.n0
 unfold Db at hs
 unfold IG B0
 rw [QQ]
 by_cases d:a=[]
 ·rw [if_pos d] at hs
  rw [if_pos (by simp [d]),if_pos d]
  by_cases h0:n=0
  ·subst h0
   have e1:iter (fun (a:Int × (List Int))=>E3 ⟨0,0⟩ a.1 a.2) ((0:Int),[])=some []:=by
    refine BG ?_
    show E3 ⟨0,0⟩ 0 []=_
    unfold E3; rw [if_neg (by decide)]
   have e2:GH [(⟨0,0⟩:AI)]=some []:=by
    unfold GH
    have s1:(fun (a:Int × (List Int))=>D0 [⟨0,0⟩] a.1 a.2) ((0:Int),[])=some (.inl (1,[])):=by
     show D0 [⟨0,0⟩] 0 []=_
     unfold D0
     rw [if_pos (by decide),show AO [(⟨0,0⟩:AI)] 0=some ⟨0,0⟩ from rfl,AD,e1]
     rfl
    have s2:(fun (a:Int × (List Int))=>D0 [⟨0,0⟩] a.1 a.2) ((1:Int),[])=some (.inr []):=by
     show D0 [⟨0,0⟩] 1 []=_
     unfold D0
     rw [if_neg (by decide)]
    rw [CN s1,BG s2]; rfl
   rw [e2,AD]; rfl
  ·rw [PV [⟨0,n⟩] (fun s hs=>by
    have:s=⟨0,n⟩:=by simpa using hs
    subst this; unfold A4; dsimp only; omega) (by simp [Cr]; omega),AD,Nw]
 ·rw [if_neg d] at hs
  rw [if_neg (by simp [d]),if_neg d,PV a (Cu h.er).stp (by omega),AD]
theorem PR.congr2 {W V:Int→Int} {lo hi:Int} {c:Int × Int} (h:PR W lo hi c) (e : ∀ r,lo≤r→r<hi→W r=V r):PR V lo hi c:=by
 rcases h with ⟨rfl,a⟩ | ⟨r0,r1,a1,a2,a3,a4,a5,a6,rfl⟩
 ·exact .inl ⟨rfl,fun r h1 h2=>by rw [← e r h1 h2]; exact a r h1 h2⟩
 ·rw [e r0 a1 (by omega),e r1 (by omega) a3]
  exact .inr ⟨r0,r1,a1,a2,a3,by rw [← e r0 a1 (by omega)]; exact a4,by rw [← e r1 (by omega) a3]; exact a5,fun r h1 h2 h3=>a6 r h1 h2 (by rw [e r h1 h2]; exact h3),rfl⟩
theorem KJ {ra ca:List AI} {r:AC} : Cq (BE ra ca r)↔((Ap ra r.Row (r.Row+r.H)).1<(Ap ra r.Row (r.Row+r.H)).2∧(Ap ca r.Col (r.Col+r.W)).1<(Ap ca r.Col (r.Col+r.W)).2∧2<(Ap ra r.Row (r.Row+r.H)).2-(Ap ra r.Row (r.Row+r.H)).1+(Ap ca r.Col (r.Col+r.W)).2-(Ap ca r.Col (r.Col+r.W)).1):=by
 unfold Cq BE
 dsimp only
 constructor <;> intro h <;> omega
theorem OV {a:List AI} {n fr tq:Int} (h:BO a n) (hs:Db a n) (h0:0≤fr) (h1:fr<tq) (h2:tq≤n):HE (B0 a n) fr tq=some ((Ap a fr tq).1,(Ap a fr tq).2):=by
 have hl:=Mo h hs
 have hn:=h.nm
 obtain ⟨c,hc,hP⟩:=VJ (B0 a n) fr tq (by omega) h0 (by omega) (by omega)
 have h3:=hP.congr2 (V:=Aq a) (fun r hr hr2=>M9 h (by omega) (by omega))
 rw [hc,h3.uniq (KP h h0 h1 h2)]
theorem Tr {ra ca:List AI} {rows cols:Int} (hr:BO ra rows) (hc:BO ca cols) (sr:Db ra rows) (sc:Db ca cols) {r:AC} (h:Ao rows cols r) :
  I6 r (B0 ra rows) (B0 ca cols)=some (if Cq (BE ra ca r) then BE ra ca r else ⟨0,0,0,0⟩):=by
 have hb1:=hr.nm
 have hb2:=hc.nm
 unfold Ao at h
 have k1:=HL hr (fr:=r.Row) (tq:=r.Row+r.H) (by omega) (by omega) (by omega)
 have k2:=HL hc (fr:=r.Col) (tq:=r.Col+r.W) (by omega) (by omega) (by omega)
 have n1:=Fi hr
 have n2:=Fi hc
 unfold I6
 rw [BU (by omega) (by omega),AD,OV hr sr (by omega) (by omega) (by omega),BK,BU (by omega) (by omega),AD,OV hc sc (by omega) (by omega) (by omega),BK]
 by_cases h0:(Ap ra r.Row (r.Row+r.H)).1<(Ap ra r.Row (r.Row+r.H)).2∧(Ap ca r.Col (r.Col+r.W)).1<(Ap ca r.Col (r.Col+r.W)).2
 ·rw [show ((decide ((Ap ra r.Row (r.Row+r.H)).1<(Ap ra r.Row (r.Row+r.H)).2)) && (decide ((Ap ca r.Col (r.Col+r.W)).1<(Ap ca r.Col (r.Col+r.W)).2)))=true by simp [h0]]
  simp only [show (true == true)=true from rfl,Ak,Bool.true_and]
  rw [BU (by omega) (by omega),AD,BU (by omega) (by omega),AD,BU (by omega) (by omega),AD]
  by_cases h5:2<(Ap ra r.Row (r.Row+r.H)).2-(Ap ra r.Row (r.Row+r.H)).1+(Ap ca r.Col (r.Col+r.W)).2-(Ap ca r.Col (r.Col+r.W)).1
  ·rw [if_pos (by simpa using h5),AD,BU (by omega) (by omega),AD,AD,if_pos (KJ.2 ⟨h0.1,h0.2,h5⟩)]
   rfl
  ·rw [if_neg (by simpa using h5),AD,if_neg (fun h=>h5 (KJ.1 h).2.2)]
 ·rw [show ((decide ((Ap ra r.Row (r.Row+r.H)).1<(Ap ra r.Row (r.Row+r.H)).2)) && (decide ((Ap ca r.Col (r.Col+r.W)).1<(Ap ca r.Col (r.Col+r.W)).2)))=false by
   rw [Bool.and_eq_false_iff,decide_eq_false_iff_not,decide_eq_false_iff_not]; omega]
  simp only [show (false == true)=false from rfl,Ez,AD,Bool.false_and,Bool.false_eq_true,if_false]
  rw [if_neg (fun h=>h0 ⟨(KJ.1 h).1,(KJ.1 h).2.1⟩)]
theorem U4 (e:Aj) (q:AC) (k0:Bool) (hs:e.Split.length≤1048576):iter (fun (a:Bool × Int)=>Fb e q a.1 a.2) (k0,0)=some (k0 && !decide (q∈e.Split)):=by
 exact Cp (f:=fun (a:Bool × Int)=>Fb e q a.1 a.2) e.Split (fun (c:Bool) i=>(c,(i:Int))) (fun l c=>c && !decide (q∈l)) (fun _ _=>True)
  (fun i c hi _=>by
   left
   show ∃ c',Fb e q c (i:Int)=_∧_
   unfold Fb
   rw [if_pos (by simpa using hi),Ac hi,Am (by omega)]
   cases c with
   | false=>
    simp only [show (false == true)=false from rfl,Ez,AD,Bool.false_and]
    exact ⟨false,rfl,trivial,rfl⟩
   | true=>
    rw [show (true == true)=true from rfl,Ak,AD,AD,Oy]
    refine ⟨_,rfl,trivial,?_⟩
    rw [Bool.true_and,Bool.true_and]
    have:decide (q∈e.Split[i]! :: e.Split.drop (i+1))=(decide (e.Split[i]! = q) || decide (q∈e.Split.drop (i+1))):=by
     rw [Bool.eq_iff_iff]; simp only [decide_eq_true_eq,List.mem_cons,Bool.or_eq_true]
     constructor
     ·rintro (h | h)
      ·exact .inl h.symm
      ·exact .inr h
     ·rintro (h | h)
      ·exact .inl h.symm
      ·exact .inr h
    rw [this]
    cases decide (e.Split[i]! = q) <;> simp)
  (fun c _=>by
   show Fb e q c (e.Split.length:Int)=_
   unfold Fb
   rw [if_neg (by simp)]
   simp) k0 trivial (k0,0) rfl
theorem Sx {g:AJ} {e:Aj} (h:HP g e) (sr:Db e.Rows g.Rows) (sc:Db e.Cols g.Cols) :
  iter (fun (a:Int × (List AC))=>Fg g e (B0 e.Rows g.Rows) (B0 e.Cols g.Cols) a.1 a.2) (0,[])=some (g.Merges.filterMap (mR e.Rows e.Cols e.Split)):=by
 have hm:=h.gml
 have:=Cp (f:=fun (a:Int × (List AC))=>Fg g e (B0 e.Rows g.Rows) (B0 e.Cols g.Cols) a.1 a.2) g.Merges (fun (c:List AC) i=>((i:Int),c)) (fun l c=>c++l.filterMap (mR e.Rows e.Cols e.Split)) (fun i c=>c.length≤i)
  (fun i c hi2 hI=>by
   left
   show ∃ c',Fg g e (B0 e.Rows g.Rows) (B0 e.Cols g.Cols) (i:Int) c=_∧_
   have hin:=h.gm.1 _ (Cy hi2)
   unfold Fg
   rw [if_pos (by simpa using hi2),Ac hi2,AD,Tr h.ar h.ac sr sc hin,AD,U4 _ _ _ h.sl,AD,Am (by omega)]
   generalize g.Merges[i]! = x at hin ⊢
   by_cases h1:Cq (BE e.Rows e.Cols x)
   ·rw [if_pos h1,decide_eq_true (show 0<(BE e.Rows e.Cols x).H from h1.1),Bool.true_and]
    by_cases h2:BE e.Rows e.Cols x∈e.Split
    ·rw [decide_eq_true h2,if_neg (by decide)]
     refine ⟨c,rfl,by omega,?_⟩
     have:mR e.Rows e.Cols e.Split x=none:=by unfold mR; rw [if_neg (fun h=>h.2 h2)]
     rw [List.filterMap_cons,this]
    ·rw [decide_eq_false h2,if_pos (by decide),Hy (by omega)]
     refine ⟨_,rfl,by rw [List.length_append,List.length_singleton]; omega,?_⟩
     have:mR e.Rows e.Cols e.Split x=some (BE e.Rows e.Cols x):=by unfold mR; rw [if_pos ⟨h1,h2⟩]
     rw [List.filterMap_cons,this,List.append_assoc]; rfl
   ·rw [if_neg h1,show (decide (0<(⟨0,0,0,0⟩:AC).H))=false from rfl,Bool.false_and,if_neg (by decide)]
    refine ⟨c,rfl,by omega,?_⟩
    have:mR e.Rows e.Cols e.Split x=none:=by unfold mR; rw [if_neg (fun h=>h1 h.1)]
    rw [List.filterMap_cons,this])
  (fun c _=>by
   show Fg g e (B0 e.Rows g.Rows) (B0 e.Cols g.Cols) (g.Merges.length:Int) c=_
   unfold Fg
   rw [if_neg (by simp)]
   simp) [] (by simp) ((0:Int),[]) rfl
 rw [List.nil_append] at this
 exact this
theorem S0 {e:Aj} {R C:Int} (hRC:Bu R C) (k:Nat) (hk:k<e.Merge.length) (hin:Ao R C e.Merge[k]!) (M:List AC) (hM:Co R C M) (hl:M.length≤4194304) :
  iter (fun (a:Int × (List AC))=>E7 e (k:Int) M a.1 a.2) (0,[])=some (Bj e.Merge[k]! M):=by
 have:=Cp (f:=fun (a:Int × (List AC))=>E7 e (k:Int) M a.1 a.2) M (fun (c:List AC) i=>((i:Int),c)) (fun l c=>c++Bj e.Merge[k]! l) (fun i c=>c.length≤i)
  (fun i c hi2 hI=>by
   left
   show ∃ c',E7 e (k:Int) M (i:Int) c=_∧_
   unfold E7
   rw [if_pos (by simpa using hi2),Ac hi2,AD,Ac hk,AD,NK hRC (hM.1 _ (Cy hi2)) hin,AD,Va,Am (by omega)]
   cases hx:BI M[i]! e.Merge[k]! with
   | true=>
    rw [if_neg (by decide)]
    refine ⟨c,rfl,by omega,?_⟩
    unfold Bj; rw [List.filter_cons,hx]; rfl
   | false=>
    rw [if_pos (by decide),Hy (by omega)]
    refine ⟨_,rfl,by rw [List.length_append,List.length_singleton]; omega,?_⟩
    unfold Bj; rw [List.filter_cons,hx,List.append_assoc]; rfl)
  (fun c _=>by
   show E7 e (k:Int) M (M.length:Int) c=_
   unfold E7
   rw [if_neg (by simp)]
   simp [Bj]) [] (by simp) ((0:Int),[]) rfl
 rw [List.nil_append] at this
 exact this
theorem RG {e:Aj} {R C:Int} (hRC:Bu R C) (hm : ∀ r∈e.Merge,Ao R C r) (hl:e.Merge.length≤1048576) (M:List AC) (hM:Co R C M) (hMl:M.length≤1048576) :
  iter (fun (a:Int × (List AC))=>FK e a.1 a.2) (0,M)=some (Fd e.Merge M):=by
 exact Cp (f:=fun (a:Int × (List AC))=>FK e a.1 a.2) e.Merge (fun (c:List AC) i=>((i:Int),c)) (fun l c=>Fd l c) (fun i c=>c.length≤1048576+i∧Co R C c)
  (fun i c hi2 hI=>by
   left
   obtain ⟨h1,h2⟩:=hI
   have hin:=hm _ (Cy hi2)
   have hk:=M2 e.Merge[i]! c
   show ∃ c',FK e (i:Int) c=_∧_
   unfold FK
   rw [if_pos (by simpa using hi2),S0 hRC i hi2 hin c h2 (by omega),AD,Ac hi2,AD,Hy (by omega),AD,Am (by omega),AD]
   exact ⟨_,rfl,⟨by rw [List.length_append,List.length_singleton]; omega,M4 h2 hin⟩,rfl⟩)
  (fun c _=>by
   show FK e (e.Merge.length:Int) c=_
   unfold FK
   rw [if_neg (by simp)]
   rfl) M ⟨by omega,hM⟩ (0,M) rfl
end Go.Proofs.YtojmbndlghbpjaaDoor.Al

set_option linter.unusedVariables false
set_option linter.unusedSimpArgs false
namespace Go.Proofs.YtojmbndlghbpjaaDoor.Al
open Go
def Gy (r c:Nat) (q:AC):Bool:=decide (q.Row=(r:Int)) && decide (q.Col=(c:Int))
def Dz (M:List AC) (r m:Nat):List AC:=(List.range m).flatMap fun (c:Nat)=>M.filter (Gy r c)
def Fy (M:List AC) (m n:Nat):List AC:=(List.range m).flatMap fun (r:Nat)=>Dz M r n
theorem P8 (M:List AC) (r m:Nat):Dz M r (m+1)=Dz M r m++M.filter (Gy r m):=by
 unfold Dz; rw [List.range_succ,List.flatMap_append]; simp
theorem Ow (M:List AC) (m n:Nat):Fy M (m+1) n=Fy M m n++Dz M m n:=by
 unfold Fy; rw [List.range_succ,List.flatMap_append]; simp
theorem Pu (M:List AC) (r m:Nat):(Dz M r m).length≤m * M.length:=by
 induction m with
 | zero=>simp [Dz]
 | succ m ih=>
  rw [P8,List.length_append,Nat.succ_mul]
  have:(M.filter (Gy r m)).length≤M.length:=List.length_filter_le ..
  omega
theorem UP (M:List AC) (m n:Nat):(Fy M m n).length≤m * (n * M.length):=by
 induction m with
 | zero=>simp [Fy]
 | succ m ih=>rw [Ow,List.length_append,Nat.succ_mul]; have:=Pu M m n; omega
theorem Vj (M:List AC) (hM:M.length≤4194304) (r c:Nat) (a b:Int) (cs:List AE) (o:List AC) (ho:o.length≤1000000000000) :
  iter (fun (x:Int × AJ)=>FV M (r:Int) (c:Int) x.1 x.2) (0,(⟨a,b,cs,o⟩:AJ))=some ⟨a,b,cs,o++M.filter (Gy r c)⟩:=by
 exact Cp (f:=fun (x:Int × AJ)=>FV M (r:Int) (c:Int) x.1 x.2) M (fun (c:List AC) i=>((i:Int),(⟨a,b,cs,c⟩:AJ))) (fun l o=>(⟨a,b,cs,o++l.filter (Gy r c)⟩:AJ)) (fun i o=>o.length≤1000000000000+i)
  (fun i o hi hI=>by
   left
   show ∃ c',FV M (r:Int) (c:Int) (i:Int) ⟨a,b,cs,o⟩=_∧_
   unfold FV
   have hpl:(decide (M[i]!.Row=(r:Int)) && decide (M[i]!.Col=(c:Int)))=Gy r c M[i]!:=rfl
   rw [if_pos (by simpa using hi),Ac hi,AD,Am (by omega),hpl]
   cases hx:Gy r c M[i]! with
   | true=>
    rw [if_pos rfl]
    dsimp only
    rw [Hy (by omega)]
    refine ⟨_,rfl,by rw [List.length_append,List.length_singleton]; omega,?_⟩
    rw [List.filter_cons,hx,List.append_assoc]; rfl
   | false=>
    rw [if_neg (by decide)]
    refine ⟨o,rfl,by omega,?_⟩
    rw [List.filter_cons,hx]; rfl)
  (fun o _=>by
   show FV M (r:Int) (c:Int) (M.length:Int) ⟨a,b,cs,o⟩=_
   unfold FV
   rw [if_neg (by simp)]
   simp) o (by omega) ((0:Int),⟨a,b,cs,o⟩) rfl
theorem SJ (M:List AC) (hM:M.length≤4194304) (r:Nat) (a b:Int) (hb0:0≤b) (hb1:b≤100) (cs:List AE) (o:List AC) (ho:o.length≤500000000000) :
  iter (fun (x:Int × AJ)=>GX M (r:Int) ⟨a,b,cs,o⟩ x.1 x.2) (0,(⟨a,b,cs,o⟩:AJ))=some ⟨a,b,cs,o++Dz M r b.toNat⟩:=by
 obtain ⟨q,hq,hQ⟩:=Dh (f:=fun (x:Int × AJ)=>GX M (r:Int) ⟨a,b,cs,o⟩ x.1 x.2) b.toNat
  (fun k st=>st=((k:Int),(⟨a,b,cs,o++Dz M r k⟩:AJ))) (fun q=>q=(⟨a,b,cs,o++Dz M r b.toNat⟩:AJ))
  (fun k st hk hst=>by
   subst hst
   left
   have h1:=Pu M r k
   have h2:k * M.length≤100 * 4194304:=Nat.mul_le_mul (by omega) hM
   unfold GX
   dsimp only
   rw [if_pos (by simp; omega),Vj M hM r k a b cs (o++Dz M r k) (by rw [List.length_append]; omega),AD,Am (by omega),AD]
   exact ⟨_,rfl,by rw [P8,List.append_assoc]⟩)
  (fun st hst=>by
   subst hst
   unfold GX
   dsimp only
   rw [if_neg (by simp; omega)]
   exact ⟨_,rfl,rfl⟩)
  (s:=((0:Int),(⟨a,b,cs,o⟩:AJ))) (by simp [Dz])
 rw [hq,hQ]
theorem TF (M:List AC) (hM:M.length≤4194304) (a b:Int) (ha0:0≤a) (ha1:a≤100) (hb0:0≤b) (hb1:b≤100) (cs:List AE) (o4:AJ) (h4:o4.Rows=a) :
  iter (fun (x:Int × AJ)=>Ge o4 M x.1 x.2) (0,(⟨a,b,cs,[]⟩:AJ))=some ⟨a,b,cs,FM M a b⟩:=by
 obtain ⟨q,hq,hQ⟩:=Dh (f:=fun (x:Int × AJ)=>Ge o4 M x.1 x.2) a.toNat
  (fun k st=>st=((k:Int),(⟨a,b,cs,Fy M k b.toNat⟩:AJ))) (fun q=>q=(⟨a,b,cs,Fy M a.toNat b.toNat⟩:AJ))
  (fun k st hk hst=>by
   subst hst
   left
   have h1:=UP M k b.toNat
   have h2:b.toNat * M.length≤100 * 4194304:=Nat.mul_le_mul (by omega) hM
   have h3:k * (b.toNat * M.length)≤100 * (100 * 4194304):=Nat.mul_le_mul (by omega) h2
   unfold Ge
   dsimp only
   rw [if_pos (by rw [h4]; simp; omega),SJ M hM k a b hb0 hb1 cs _ (by omega),AD,Am (by omega),AD]
   exact ⟨_,rfl,by rw [Ow]⟩)
  (fun st hst=>by
   subst hst
   unfold Ge
   dsimp only
   rw [if_neg (by rw [h4]; simp; omega)]
   exact ⟨_,rfl,rfl⟩)
  (s:=((0:Int),(⟨a,b,cs,[]⟩:AJ))) (by simp [Fy])
 rw [hq,hQ]; rfl
theorem VR {g:AJ} {e:Aj} (h:HP g e) (sr:Db e.Rows g.Rows) (sc:Db e.Cols g.Cols):JU g e=some (LE g e):=by
 have ur:=Mo h.ar sr
 have uc:=Mo h.ac sc
 obtain ⟨_,_,lr⟩:=Jj h.ar
 obtain ⟨_,_,lc⟩:=Jj h.ac
 have rl:(A3 e.Rows g.Rows).length≤60:=by have:=(Kt (B0 e.Rows g.Rows) 0).1; unfold A3; omega
 have cl:(A3 e.Cols g.Cols).length≤60:=by have:=(Kt (B0 e.Cols g.Cols) 0).1; unfold A3; omega
 have hml:(g.Merges.filterMap (mR e.Rows e.Cols e.Split)).length≤1048576:=Nat.le_trans (List.length_filterMap_le ..) h.gml
 have hg0:=M5 h.ar h.ac e.Split h.gm
 have hfl:=ME e.Merge (g.Merges.filterMap (mR e.Rows e.Cols e.Split))
 have hmm:=h.ml
 have n1:=Fi h.ar
 have n2:=Fi h.ac
 unfold JU
 rw [PT h.ar sr,AD,PT h.ac sc,AD,MV _ (by omega),BK,MV _ (by omega),BK]
 rw [show BF (B0 e.Rows g.Rows) 0=A3 e.Rows g.Rows from rfl,show BF (B0 e.Cols g.Cols) 0=A3 e.Cols g.Cols from rfl]
 rw [TG g e (A3 e.Rows g.Rows) (A3 e.Cols g.Cols) h.gl h.el (by omega) (by omega),AD,Sx h sr sc,AD,RG h.rc h.em h.ml _ hg0 hml,AD]
 dsimp only
 rw [lr,lc,TF (Fd e.Merge (g.Merges.filterMap (mR e.Rows e.Cols e.Split))) (by omega) (AX e.Rows g.Rows) (AX e.Cols g.Cols) n1.1 (by omega) n2.1 (by omega) (DD g.Cells e.Cells (A3 e.Rows g.Rows) (A3 e.Cols g.Cols) (A3 e.Rows g.Rows).length) _ rfl,AD,VQ h.ar h.ac h.gc h.ec h.gi h.ei]
 rfl
end Go.Proofs.YtojmbndlghbpjaaDoor.Al

set_option linter.unusedVariables false
set_option linter.unusedSimpArgs false
namespace Go.Proofs.YtojmbndlghbpjaaDoor.Al
open Go
theorem Iu {α ρ:Type} [Inhabited α] {f:Int→Option (Int ⊕ Af Unit ρ)} (l:List α) (p:α→Bool) (v:ρ) (h1 : ∀ k:Nat,k<l.length→f (k:Int)=if p l[k]! = true then some (.inr (.ext v)) else some (.inl ((k+1:Nat):Int))) (h2:f (l.length:Int)=some (.inr (.nrm ()))) :
  iter f 0=some (if l.any p=true then .ext v else .nrm ()):=by
 obtain ⟨b,hb,hq⟩:=Dh (f:=f) l.length (fun k st=>st=(k:Int)∧l.any p=(l.drop k).any p) (fun b=>b=if l.any p=true then .ext v else .nrm ())
  (fun k st hk hst=>by
   obtain ⟨rfl,h⟩:=hst
   rw [Hr hk,List.any_cons] at h
   rw [h1 k hk]
   cases hp:p l[k]! with
   | true=>
    rw [hp,Bool.true_or] at h
    right
    exact ⟨_,rfl,by rw [h]; rfl⟩
   | false=>
    rw [hp,Bool.false_or] at h
    left
    exact ⟨_,rfl,rfl,h⟩)
  (fun st hst=>by
   obtain ⟨rfl,h⟩:=hst
   rw [List.drop_of_length_le (Nat.le_refl _)] at h
   exact ⟨_,h2,by rw [h]; rfl⟩)
  (s:=0) ⟨rfl,by rw [List.drop_zero]⟩
 rw [hb,hq]
def H6 (R C:Int) (c:AE):Bool:=decide (R≤c.Row) || decide (C≤c.Col)
def DM (R C:Int) (r:AC):Bool:=!decide (Ao R C r)
def GQ (a:List AI) (n:Int):Bool:=!(decide (a=[]) || decide (An a=n))
def GL (g:AJ) (e:Aj):Int:=if GQ e.Rows g.Rows || GQ e.Cols g.Cols then 14 else
 if e.Cells.any (H6 (AX e.Rows g.Rows) (AX e.Cols g.Cols)) || e.Split.any (DM (AX e.Rows g.Rows) (AX e.Cols g.Cols)) || e.Merge.any (DM (AX e.Rows g.Rows) (AX e.Cols g.Cols)) then 2 else 0
theorem Kc {a:List AI} {n:Int} (h0:0≤n) (h1:n≤2147483647) (he:Av a=0):0≤AX a n∧AX a n≤2147483647:=by
 unfold AX
 split
 ·omega
 ·have hg:=Cu he
  have:=H4 hg.stp
  have:=hg.nows
  omega
theorem WP {a:List AI} (he:Av a=0):Gi a=some (An a,A0 a):=by
 have hg:=Cu he
 unfold Gi
 rw [Cp (f:=fun (x:Int × Int × Int)=>Hk a x.1 x.2.1 x.2.2) a (fun (c:Int × Int) k=>(c.1,c.2,(k:Int))) (fun l (c:Int × Int)=>(c.1+An l,c.2+A0 l)) (fun k c=>EL a k c.1 c.2)
  (fun k c hk hI=>by
   left
   have hs:=Gq hg.stp hk
   have hnx:=hI.nx hg hk
   have hgl:=hg.len
   unfold Hk
   simp only
   rw [if_pos (by simpa using hk),Ac hk,AD,Am (by omega)]
   simp only [HD,Gm]
   obtain ⟨o,w⟩:=c
   simp only at hnx ⊢
   generalize a[k]! = x at hs hnx ⊢
   obtain ⟨q1,q2,q3,q4,q5,q6,q7⟩:=hnx
   have h0:0≤Bx x∧0≤Bs x:=by unfold A4 at hs; unfold Bx Bs; split <;> split <;> omega
   unfold A4 at hs
   rw [BU (by omega) (by omega),BU (by omega) (by omega)]
   refine ⟨(o+Bx x,w+Bs x),?_,q7 _ _ (by omega) (by omega) (by omega) (by omega),?_⟩
   ·unfold Bx Bs
    by_cases d1:x.Kind=1
    ·simp [d1]
    ·by_cases d2:x.Kind=2 <;> simp [d1,d2]
   ·simp only; rw [Int.add_assoc,Int.add_assoc])
  (fun c hI=>by unfold Hk; rw [if_neg (by simp)]; simp [An,A0]) (0,0) hg.run (0,0,0) rfl]
 simp
theorem OA {R C:Int} (hRC:Bu R C) (l:List AC) (hl:l.length≤1048576):iter (fun (a:Int)=>Ef R C l a) 0=some (if l.any (DM R C)=true then .ext (.inr (.ext (0,0,2))) else .nrm ()):=by
 refine Iu l (DM R C) _ (fun k hk=>?_) ?_
 ·unfold Ef
  rw [if_pos (by simpa using hk),Ac hk,AD,LW _ _ _ hRC,AD,Am (by omega),AD]
  rfl
 ·unfold Ef; rw [if_neg (by simp)]
theorem RS {g:AJ} {e:Aj} (hg:G5 g) (he:E9 e) (hok:Bu g.Rows g.Cols) (g0:DS g=0) (e0:ET e=0) (a1:Av e.Rows=0) (a2:Av e.Cols=0) :
  EN g e=some (if GL g e=0 then (AX e.Rows g.Rows,AX e.Cols g.Cols,0) else (0,0,GL g e)):=by
 have n1:=Kc hok.1 hok.2.1 a1
 have n2:=Kc hok.2.2.1 hok.2.2.2 a2
 have hRC:Bu (AX e.Rows g.Rows) (AX e.Cols g.Cols):=⟨n1.1,n1.2,n2.1,n2.2⟩
 unfold EN
 rw [Le g hg,AD,g0,if_neg (by decide),My e he,AD,e0,if_neg (by decide),size_eq a1,BK,size_eq a2,BK]
 unfold GL GQ
 by_cases hb:((!(decide (e.Rows=[]) || decide (An e.Rows=g.Rows))) || (!(decide (e.Cols=[]) || decide (An e.Cols=g.Cols))))=true
 ·simp only [if_pos hb]
  rfl
 ·simp only [if_neg hb]
  have c1:iter (fun (a:Int)=>Fa e (AX e.Rows g.Rows) (AX e.Cols g.Cols) a) 0=some (if e.Cells.any (H6 (AX e.Rows g.Rows) (AX e.Cols g.Cols))=true then .ext (0,0,2) else .nrm ()):=by
   refine Iu e.Cells _ _ (fun k hk=>?_) ?_
   ·have:=he.cells
    unfold Fa
    rw [if_pos (by simpa using hk),Ac hk,AD,Am (by omega),AD]
    rfl
   ·unfold Fa; rw [if_neg (by simp)]
  rw [c1]
  by_cases h1:e.Cells.any (H6 (AX e.Rows g.Rows) (AX e.Cols g.Cols))=true
  ·rw [if_pos h1,FU,h1,Bool.true_or,Bool.true_or,if_pos rfl,if_neg (by decide)]
  ·rw [if_neg h1,Cd]
   rw [Bool.not_eq_true] at h1
   rw [h1,Bool.false_or]
   have s0:B1 e (AX e.Rows g.Rows) (AX e.Cols g.Cols) 0=if e.Split.any (DM (AX e.Rows g.Rows) (AX e.Cols g.Cols))=true then some (.inr (.ext (0,0,2))) else some (.inl 1):=by
    unfold B1
    rw [if_pos (by decide),show AO ([e.Split,e.Merge]:List (List AC)) 0=some e.Split from rfl,AD,OA hRC _ he.split]
    cases e.Split.any (DM (AX e.Rows g.Rows) (AX e.Cols g.Cols)) <;> rfl
   have s1:B1 e (AX e.Rows g.Rows) (AX e.Cols g.Cols) 1=if e.Merge.any (DM (AX e.Rows g.Rows) (AX e.Cols g.Cols))=true then some (.inr (.ext (0,0,2))) else some (.inl 2):=by
    unfold B1
    rw [if_pos (by decide),show AO ([e.Split,e.Merge]:List (List AC)) 1=some e.Merge from rfl,AD,OA hRC _ he.merge]
    cases e.Merge.any (DM (AX e.Rows g.Rows) (AX e.Cols g.Cols)) <;> rfl
   have s2:B1 e (AX e.Rows g.Rows) (AX e.Cols g.Cols) 2=some (.inr (.nrm ())):=by
    unfold B1; rw [if_neg (by decide)]
   cases h2:e.Split.any (DM (AX e.Rows g.Rows) (AX e.Cols g.Cols)) with
   | true=>
    rw [h2,if_pos rfl] at s0
    rw [BG (f:=fun (a:Int)=>B1 e (AX e.Rows g.Rows) (AX e.Cols g.Cols) a) s0,FU,Bool.true_or,if_pos rfl,if_neg (by decide)]
   | false=>
    rw [h2,if_neg (by decide)] at s0
    rw [CN (f:=fun (a:Int)=>B1 e (AX e.Rows g.Rows) (AX e.Cols g.Cols) a) s0,Bool.false_or]
    cases h3:e.Merge.any (DM (AX e.Rows g.Rows) (AX e.Cols g.Cols)) with
    | true=>
     rw [h3,if_pos rfl] at s1
     rw [BG (f:=fun (a:Int)=>B1 e (AX e.Rows g.Rows) (AX e.Cols g.Cols) a) s1,FU,if_pos rfl,if_neg (by decide)]
    | false=>
     rw [h3,if_neg (by decide)] at s1
     rw [CN (f:=fun (a:Int)=>B1 e (AX e.Rows g.Rows) (AX e.Cols g.Cols) a) s1,BG (f:=fun (a:Int)=>B1 e (AX e.Rows g.Rows) (AX e.Cols g.Cols) a) s2,Cd]
     rfl
theorem Qe {g:AJ} {e:Aj} (he:E9 e) (hok:Bu g.Rows g.Cols) (a1:Av e.Rows=0) (a2:Av e.Cols=0):Jd g e=some (GL g e):=by
 have n1:=Kc hok.1 hok.2.1 a1
 have n2:=Kc hok.2.2.1 hok.2.2.2 a2
 have hRC:Bu (AX e.Rows g.Rows) (AX e.Cols g.Cols):=⟨n1.1,n1.2,n2.1,n2.2⟩
 have ax : ∀ (a:List AI) (n:Int),Av a=0→(if (decide (0<(a.length:Int))) then (
   Aw (Gi a) fun (r5:Int) (r6:Int)=>
   if (!decide (r5=n)) then (
    some (.ext 14:Af Int Int)
   ) else (
    some (.nrm r6)
   )
  ) else (
   some (.nrm n)
  ))=some (if GQ a n=true then .ext 14 else .nrm (AX a n)):=by
  intro a n ha
  rw [Jm]
  unfold GQ AX
  by_cases d:a=[]
  ·rw [if_neg (by simp [d]),if_pos d,if_neg (by simp [d])]
  ·rw [if_pos (by simp [d]),if_neg d,WP ha,BK,decide_eq_false d,Bool.false_or]
   cases decide (An a=n) <;> rfl
 unfold Jd
 rw [ax _ _ a1]
 unfold GL
 cases hb1:GQ e.Rows g.Rows with
 | true=>rw [if_pos rfl,FU]; rfl
 | false=>
  rw [if_neg (by decide),Cd,ax _ _ a2]
  cases hb2:GQ e.Cols g.Cols with
  | true=>rw [if_pos rfl,FU]; rfl
  | false=>
   rw [if_neg (by decide),Cd,Bool.or_false,if_neg (by decide)]
   have c1:iter (fun (a:Int)=>Hv e (AX e.Rows g.Rows) (AX e.Cols g.Cols) a) 0=some (if e.Cells.any (H6 (AX e.Rows g.Rows) (AX e.Cols g.Cols))=true then .ext 2 else .nrm ()):=by
    refine Iu e.Cells _ _ (fun k hk=>?_) ?_
    ·have:=he.cells
     unfold Hv
     rw [if_pos (by simpa using hk),Ac hk,AD,Am (by omega),AD]
     rfl
    ·unfold Hv; rw [if_neg (by simp)]
   have c2:iter (fun (a:Int)=>HO e (AX e.Rows g.Rows) (AX e.Cols g.Cols) a) 0=some (if e.Split.any (DM (AX e.Rows g.Rows) (AX e.Cols g.Cols))=true then .ext 2 else .nrm ()):=by
    refine Iu e.Split _ _ (fun k hk=>?_) ?_
    ·have:=he.split
     unfold HO
     rw [if_pos (by simpa using hk),Ac hk,AD,Jk _ _ _ hRC,AD,Am (by omega),AD]
     rfl
    ·unfold HO; rw [if_neg (by simp)]
   have c3:iter (fun (a:Int)=>Ht e (AX e.Rows g.Rows) (AX e.Cols g.Cols) a) 0=some (if e.Merge.any (DM (AX e.Rows g.Rows) (AX e.Cols g.Cols))=true then .ext 2 else .nrm ()):=by
    refine Iu e.Merge _ _ (fun k hk=>?_) ?_
    ·have:=he.merge
     unfold Ht
     rw [if_pos (by simpa using hk),Ac hk,AD,Jk _ _ _ hRC,AD,Am (by omega),AD]
     rfl
    ·unfold Ht; rw [if_neg (by simp)]
   rw [c1]
   cases e.Cells.any (H6 (AX e.Rows g.Rows) (AX e.Cols g.Cols)) with
   | true=>rfl
   | false=>
    rw [if_neg (by decide),Cd,c2,Bool.false_or]
    cases e.Split.any (DM (AX e.Rows g.Rows) (AX e.Cols g.Cols)) with
    | true=>rfl
    | false=>
     rw [if_neg (by decide),Cd,c3,Bool.false_or]
     cases e.Merge.any (DM (AX e.Rows g.Rows) (AX e.Cols g.Cols)) with
     | true=>rfl
     | false=>rfl
end Go.Proofs.YtojmbndlghbpjaaDoor.Al

set_option linter.unusedVariables false
set_option linter.unusedSimpArgs false
namespace Go.Proofs.YtojmbndlghbpjaaDoor.Al
open Go
theorem Pe {rows cols:Int} {nn:Bool} {l:List AE} (h:CR rows cols nn l=0):Ic l ∧ ∀ c∈l,Eg rows cols c∧(nn=false→BX c=false):=by
 have hnone:=LA (G:=EW rows cols nn l) h (fun k _ he=>by
  unfold EW at he
  split at he
  ·rename_i hne
   injection he with he
   exact hne he
  ·split at he
   ·cases he
   ·cases he)
 refine ⟨fun k hk=>?_,fun c hc=>?_⟩
 ·have:=hnone (k+1) (by omega)
  unfold EW at this
  split at this
  ·cases this
  ·split at this
   ·cases this
   ·rename_i hq
    rw [Nat.add_sub_cancel] at hq
    show A5 _ _ _ _<0
    have:=fun h=>hq ⟨by omega,h⟩
    omega
 ·obtain ⟨k,hk,e⟩:=List.getElem_of_mem hc
  have:=hnone k hk
  rw [← getElem!_pos l k hk] at e
  unfold EW at this
  rw [e] at this
  split at this
  ·cases this
  ·rename_i hz
   rw [Classical.not_not] at hz
   unfold JX at hz
   split at hz
   ·cases hz
   ·rename_i h1
    refine ⟨Classical.not_not.1 h1,fun hn=>?_⟩
    split at hz
    ·cases hz
    ·split at hz
     ·rename_i h3; exact absurd hz h3
     ·split at hz
      ·cases hz
      ·rename_i h4
       rw [hn] at h4
       simpa using h4
theorem Vu {g:AJ} (h:DS g=0):Co g.Rows g.Cols g.Merges∧CR g.Rows g.Cols false g.Cells=0:=by
 obtain ⟨h1,h2,h3⟩:=MY h
 have hce:CR g.Rows g.Cols false g.Cells=0:=by
  unfold DS at h
  rw [if_neg (by simpa using h1)] at h
  by_cases hc:CR g.Rows g.Cols false g.Cells=0
  ·exact hc
  ·rw [if_pos hc] at h; exact h
 refine ⟨⟨fun q hq=>?_,?_⟩,hce⟩
 ·obtain ⟨k,hk,e⟩:=List.getElem_of_mem hq
  have:=h3 k hk
  rw [getElem!_pos g.Merges k hk,e] at this
  exact this
 ·unfold DS at h
  rw [if_neg (by simpa using h1),if_neg (by simpa using hce)] at h
  have hnone:=LA (G:=EY g.Rows g.Cols g.Merges) h (fun k _ he=>by
   unfold EY at he
   split at he
   ·cases he
   ·split at he
    ·cases he
    ·split at he
     ·cases he
     ·split at he
      ·cases he
      ·cases he)
  rw [List.pairwise_iff_getElem]
  intro i j hi hj hij
  have hn:=hnone j hj
  unfold EY at hn
  split at hn
  ·cases hn
  ·split at hn
   ·cases hn
   ·split at hn
    ·cases hn
    ·split at hn
     ·cases hn
     ·rename_i hf
      unfold Gz at hf
      rw [List.find?_isSome] at hf
      have : ¬ BI g.Merges[i]! g.Merges[j]! = true:=fun hm=>hf ⟨i,List.mem_range.2 hij,hm⟩
      rw [getElem!_pos g.Merges i hi,getElem!_pos g.Merges j hj] at this
      simpa using this
theorem O8 {e:Aj} (h:ET e=0):Av e.Rows=0∧Av e.Cols=0∧CR 2147483647 2147483647 true e.Cells=0:=by
 unfold ET at h
 by_cases h1:Av e.Rows=0
 ·rw [if_neg (by simpa using h1)] at h
  by_cases h2:Av e.Cols=0
  ·rw [if_neg (by simpa using h2)] at h
   by_cases h3:CR 2147483647 2147483647 true e.Cells=0
   ·exact ⟨h1,h2,h3⟩
   ·rw [if_pos h3] at h; exact absurd h h3
  ·rw [if_pos h2] at h; exact absurd h h2
 ·rw [if_pos h1] at h; exact absurd h h1
theorem WJ {g:AJ} {e:Aj} (hg:G5 g) (he:E9 e) (g0:DS g=0) (e0:ET e=0) (f0:GL g e=0):HP g e:=by
 obtain ⟨r1,r2,r3⟩:=MY g0
 obtain ⟨m1,m2⟩:=Vu g0
 obtain ⟨a1,a2,a3⟩:=O8 e0
 obtain ⟨c1,c2⟩:=Pe m2
 obtain ⟨d1,d2⟩:=Pe a3
 unfold GL at f0
 split at f0
 ·cases f0
 ·rename_i hb
  split at f0
  ·cases f0
  ·rename_i ha
   simp only [Bool.or_eq_true,not_or,Bool.not_eq_true] at hb ha
   obtain ⟨b1,b2⟩:=hb
   obtain ⟨⟨x1,x2⟩,x3⟩:=ha
   unfold GQ at b1 b2
   refine ⟨⟨r1.1,r1.2.1,a1,fun hne=>?_⟩,⟨r1.2.2.1,r1.2.2.2,a2,fun hne=>?_⟩,hg.1,hg.2.1,he.cells,he.split,he.merge,Py c1,Py d1,fun c hc=>?_,hg.2.2,fun c hc=>?_,he.oc,m1,fun r hr=>?_⟩
   ·simp [hne] at b1; exact b1
   ·simp [hne] at b2; exact b2
   ·obtain ⟨k1,k2⟩:=c2 c hc
    exact ⟨⟨k1.1,k1.2.1,k1.2.2.1,k1.2.2.2.1⟩,k2 rfl⟩
   ·obtain ⟨k1,_⟩:=d2 c hc
    rw [List.any_eq_false] at x1
    have:=x1 c hc
    unfold H6 at this
    simp only [Bool.or_eq_true,decide_eq_true_eq,not_or] at this
    exact ⟨k1.1,by omega,k1.2.2.1,by omega⟩
   ·rw [List.any_eq_false] at x3
    have:=x3 r hr
    unfold DM at this
    simpa using this
theorem T9 {g:AJ} {e:Aj} (a1:Av e.Rows=0) (a2:Av e.Cols=0) : ∃ b,I9 g e=some b∧(b=true→Db e.Rows g.Rows∧Db e.Cols g.Cols):=by
 have g1:=Cu a1
 have g2:=Cu a2
 unfold I9
 by_cases h:g.Rows≤30∧g.Cols≤30
 ·rw [show ((decide (g.Rows≤30)) && (decide (g.Cols≤30)))=true by simp [h]]
  simp only [show (true == true)=true from rfl,Ak,Bool.true_and]
  rw [Nl _ g1.stp g1.len,AD]
  by_cases h1:Cr e.Rows≤60
  ·rw [decide_eq_true h1]
   simp only [show (true == true)=true from rfl,Ak,Bool.true_and]
   rw [Nl _ g2.stp g2.len,AD]
   refine ⟨_,rfl,fun h2=>?_⟩
   have h2:=of_decide_eq_true h2
   unfold Db
   exact ⟨by split <;> omega,by split <;> omega⟩
  ·rw [decide_eq_false h1]
   simp only [show (false == true)=false from rfl,Ez,AD,Bool.false_and]
   exact ⟨false,rfl,fun h=>by cases h⟩
 ·rw [show ((decide (g.Rows≤30)) && (decide (g.Cols≤30)))=false by
   rw [Bool.and_eq_false_iff,decide_eq_false_iff_not,decide_eq_false_iff_not]; omega]
  simp only [show (false == true)=false from rfl,Ez,AD,Bool.false_and]
  exact ⟨false,rfl,fun h=>by cases h⟩
theorem Ok (x:AJ) (h1:x.Cells.length≤1048576 * 2) (h2:x.Merges.length≤4194304) (h3 : ∀ c∈x.Cells,c.Attrs.length≤1073741824):FH x x=some true:=by
 unfold FH
 rw [VY _ _ (by omega),Sp _ _ (by omega) h3]
 simp [gd,AD]
theorem S1 : ∀ (n l:List AE),(CI l n).length≤l.length+n.length:=by
 intro n
 induction n with
 | nil=>intro l; exact Nat.le_refl _
 | cons c r ih=>
  intro l
  show (l.takeWhile (Az c)++(if BX c=true then [] else [c])++CI (Cz c (l.dropWhile (Az c))) r).length≤_
  have h1:=ih (Cz c (l.dropWhile (Az c)))
  have h2:(Cz c (l.dropWhile (Az c))).length≤(l.dropWhile (Az c)).length:=by
   cases l.dropWhile (Az c) with
   | nil=>exact Nat.le_refl _
   | cons x t=>
    show (if A5 x.Row c.Row x.Col c.Col=0 then t else x :: t).length≤(x :: t).length
    split
    ·simp
    ·exact Nat.le_refl _
  have h3:=congrArg List.length (List.takeWhile_append_dropWhile (p:=Az c) (l:=l))
  rw [List.length_append] at h3
  rw [List.length_append,List.length_append,List.length_cons]
  have h4:(if BX c=true then [] else [c]:List AE).length≤1:=by split <;> simp
  omega
theorem SP (g:AJ) (e:Aj) (hg:G5 g) (he:E9 e):KZ g e=some true:=by
 have hz:FH ⟨0,0,[],[]⟩ ⟨0,0,[],[]⟩=some true:=Ok _ (by simp) (by simp) (fun c hc=>by cases hc)
 have bad : ∀ p:Int,p≠0→(AB (
    if ((decide (p=p)) == true) then (
     AB (FH (⟨0,0,[],[]⟩:AJ) (AJ.mk 0 0 [] [])) fun (r4:Bool)=>
     some ((decide (p=p)) && r4)
    ) else (
     some ((decide (p=p)) && false)
    )
   ) fun (x1:Bool)=>some x1)=some true:=fun p hp=>by
  rw [decide_eq_true rfl,if_pos (show (true == true)=true from rfl),hz]; rfl
 unfold KZ
 rw [Ti,AD,if_neg (by decide)]
 unfold Gu
 rw [TT g hg]
 by_cases g0:DS g=0
 ·by_cases e0:ET e=0
  ·obtain ⟨a1,a2,a3⟩:=O8 e0
   have hok:=(MY g0).1
   rw [RS hg he hok g0 e0 a1 a2,PH e he,Qe he hok a1 a2,g0,e0]
   by_cases f0:GL g e=0
   ·have hF:=WJ hg he g0 e0 f0
    have hml:(g.Merges.filterMap (mR e.Rows e.Cols e.Split)).length≤1048576:=Nat.le_trans (List.length_filterMap_le ..) hF.gml
    have hfl:=ME e.Merge (g.Merges.filterMap (mR e.Rows e.Cols e.Split))
    have hmm:=hF.ml
    have hG:=Oo e.Merge _ (M5 hF.ar hF.ac e.Split hF.gm) hF.em
    have hperm:(FM (I5 g e) (AX e.Rows g.Rows) (AX e.Cols g.Cols)).Perm (I5 g e):=(List.perm_ext_iff_of_nodup ((L8 hG).imp fun {a b} hab e=>by subst e; unfold EH at hab; omega) (Pp hG)).2 (Nm hG)
    have hself:FH (LE g e) (LE g e)=some true:=by
     refine Ok _ ?_ ?_ ?_
     ·have h1:=S1 e.Cells (g.Cells.filterMap (CT e.Rows e.Cols))
      have h2:(g.Cells.filterMap (CT e.Rows e.Cols)).length≤g.Cells.length:=List.length_filterMap_le ..
      have:=hF.gl
      have:=hF.el
      show (CI (g.Cells.filterMap (CT e.Rows e.Cols)) e.Cells).length≤_
      omega
     ·show (FM (I5 g e) (AX e.Rows g.Rows) (AX e.Cols g.Cols)).length≤_
      rw [hperm.length_eq]
      unfold I5; omega
     ·intro c hc
      have hsp:=(Ps e.Cells _ (QI hF.ar hF.ac hF.gc fun c h=>(hF.gi c h).1) hF.ec).2 c
      rcases hsp.1 hc with ⟨h1,_⟩ | ⟨h1,_⟩
      ·exact (hF.eo c h1).1.1
      ·obtain ⟨y,hy,hm⟩:=List.mem_filterMap.1 h1
       unfold CT at hm
       split at hm
       ·cases hm
       ·cases hm; exact (hF.go y hy).1.1
    rw [f0,if_pos rfl,GV,if_neg (by decide),U9 hF,AD,BK,AD,if_pos (by decide),AD,AD,if_pos (by decide),AD,if_neg (by decide)]
    obtain ⟨b,hb,hb2⟩:=T9 (g:=g) a1 a2
    rw [show ((decide ((0:Int)=0)) == true)=true from rfl,Ak,hb,AD]
    cases b with
    | false=>
     simp only [show (true && ((!false) == false))=false from rfl,Ez,AD]
     rfl
    | true=>
     obtain ⟨s1,s2⟩:=hb2 rfl
     simp only [show (true && ((!true) == false))=true from rfl,Ak]
     rw [VR hF s1 s2,AD,hself,AD]
     rfl
   ·rw [if_neg f0,GV,if_pos (by simpa using f0),BK,AD,if_pos (by decide),AD,AD,if_pos (by decide),AD,AD,if_pos (by simpa using f0)]
    exact bad _ f0
  ·have hf:EN g e=some (0,0,ET e):=by
    unfold EN
    rw [Le g hg,AD,g0,if_neg (by decide),My e he,AD,if_pos (by simpa using e0)]
   rw [hf,GV,if_pos (by simpa using e0),BK,AD,g0,if_pos (by decide),PH e he,AD,AD,if_neg (by simpa using e0),AD,if_pos (by simpa using e0)]
   exact bad _ e0
 ·have hf:EN g e=some (0,0,DS g):=by
   unfold EN
   rw [Le g hg,AD,if_pos (by simpa using g0)]
  rw [hf,GV,if_pos (by simpa using g0),BK,AD,if_neg (by simpa using g0),AD,if_neg (by simpa using g0),AD,if_pos (by simpa using g0)]
  exact bad _ g0
end Go.Proofs.YtojmbndlghbpjaaDoor.Al

namespace Go.Proofs.YtojmbndlghbpjaaDoor.Al
theorem Ut {γ:AJ→Nat} {ψ:AE→Nat} {ρ:AC→Nat} {κ:Ah→Nat}
  (hg : ∀ g,(g.Cells.map ψ).sum+(g.Merges.map ρ).sum+1≤γ g) (hc : ∀ c,c.Text.length+(c.Attrs.map κ).sum+1≤ψ c) (hr : ∀ r,1≤ρ r) (ha : ∀ a,a.Name.length+a.Value.length+1≤κ a)
  {g:AJ} (hb:γ g≤1048576):G5 g:=by
 have h4:=hg g
 have h6:=Fu (μ:=ψ) (fun c=>by have:=hc c; omega) g.Cells
 have h7:=Fu (μ:=ρ) hr g.Merges
 refine ⟨by omega,by omega,fun c hcm=>?_⟩
 have h9:=Lo (μ:=ψ) hcm
 have:=hc c
 exact ⟨Ng ha (by omega),by omega⟩
theorem VC {η:Aj→Nat} {σ:AI→Nat} {ψ:AE→Nat} {ρ:AC→Nat} {κ:Ah→Nat}
  (hg : ∀ e,(e.Rows.map σ).sum+(e.Cols.map σ).sum+(e.Cells.map ψ).sum+(e.Split.map ρ).sum+(e.Merge.map ρ).sum+1≤η e) (hs : ∀ s,1≤σ s) (hc : ∀ c,c.Text.length+(c.Attrs.map κ).sum+1≤ψ c) (hr : ∀ r,1≤ρ r) (ha : ∀ a,a.Name.length+a.Value.length+1≤κ a)
  {e:Aj} (hb:η e≤1048576):E9 e:=by
 have h4:=hg e
 have h1:=Fu (μ:=σ) hs e.Rows
 have h2:=Fu (μ:=σ) hs e.Cols
 have h6:=Fu (μ:=ψ) (fun c=>by have:=hc c; omega) e.Cells
 have h7:=Fu (μ:=ρ) hr e.Split
 have h8:=Fu (μ:=ρ) hr e.Merge
 refine ⟨by omega,by omega,by omega,by omega,by omega,fun c hcm=>?_⟩
 have h9:=Lo (μ:=ψ) hcm
 have:=hc c
 exact ⟨Ng ha (by omega),by omega⟩
end Go.Proofs.YtojmbndlghbpjaaDoor.Al
