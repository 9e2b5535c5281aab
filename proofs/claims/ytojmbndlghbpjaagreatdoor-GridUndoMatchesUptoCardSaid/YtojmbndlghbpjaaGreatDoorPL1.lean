/- Plain laws over the models, a part of them. -/
import Derived.Test.YtojmbndlghbpjaaGreatDoorMod1
import Derived.Lib.DecodeNEq
import Derived.Lib.TrimUEq
import Derived.Lib.ValidLaws
set_option linter.all false
namespace Go.Proofs.YtojmbndlghbpjaaGreatDoor.Al
@[simp] theorem AE {a α:Type} (x:a) (f:a→Option α):AB (some x) f=f x:=rfl
@[simp] theorem BD {a b α:Type} (x:a) (y:b) (f:a→b→Option α):Az (some (x,y)) f=f x y:=rfl
@[simp] theorem Hj {a b c α:Type} (x:a) (y:b) (z:c) (f:a→b→c→Option α):Fw (some (x,y,z)) f=f x y z:=rfl
@[simp] theorem dG {a b c d α:Type} (x:a) (y:b) (z:c) (u:d) (f:a→b→c→d→Option α):MU (some (x,y,z,u)) f=f x y z u:=rfl
@[simp] theorem Cg {a α:Type} (x:a) (f:a→Option α):Ay (some (.nrm x)) f=f x:=rfl
@[simp] theorem FY {a α:Type} (t:α) (f:a→Option α):Ay (some (.ext t)) f=some t:=rfl
@[simp] theorem dF {a b α:Type} (x:a) (y:b) (f:a→b→Option α):FD (some (.nrm (x,y))) f=f x y:=rfl
@[simp] theorem dC {a b α:Type} (t:α) (f:a→b→Option α):FD (some (.ext t)) f=some t:=rfl
@[simp] theorem dD {a b c α:Type} (x:a) (y:b) (z:c) (f:a→b→c→Option α):Ro (some (.nrm (x,y,z))) f=f x y z:=rfl
@[simp] theorem cz {a b c α:Type} (t:α) (f:a→b→c→Option α):Ro (some (.ext t)) f=some t:=rfl
@[simp] theorem Ap {α:Type} [Inhabited α] (m:Option α):gd true m=m:=rfl
@[simp] theorem EH {α:Type} [Inhabited α] (m:Option α):gd false m=some default:=rfl
theorem Af {α:Type} [Inhabited α] {l:List α} {k:Nat} (h:k<l.length):AO l (k:Int)=some l[k]!:=by
 unfold AO
 rw [if_pos (Int.natCast_nonneg k),Int.toNat_natCast,List.getElem?_eq_getElem h,getElem!_pos l k h]
theorem Kg {α:Type} {l:List α} {k:Nat} (h:k<l.length):AO l (k:Int)=some l[k]:=by
 unfold AO
 rw [if_pos (Int.natCast_nonneg k),Int.toNat_natCast,List.getElem?_eq_getElem h]
theorem An {k:Nat} (h:k<9223372036854775807):AM .i64 ((k:Int)+1)=some (((k+1:Nat)):Int):=by
 rw [Be (by omega) (by omega)]; rfl
theorem Fd {k:Nat} (h:0<k) (h2:k≤9223372036854775807):AM .i64 ((k:Int)-1)=some ((k-1:Nat):Int):=by
 rw [Be (by omega) (by omega)]; congr 1; omega
def Ch {ρ:Type} (k:Nat):Option ρ→Option (Int ⊕ Ao Unit ρ)
 | none=>some (.inl ((k+1:Nat):Int))
 | some r=>some (.inr (.ext r))
def Ek {ρ:Type} : Option ρ→Ao Unit ρ
 | none=>.nrm ()
 | some r=>.ext r
theorem Cq {ρ:Type} {f:Int→Option (Int ⊕ Ao Unit ρ)} {n:Nat} (g:Nat→Option ρ) (h1 : ∀ k:Nat,k<n→f k=Ch k (g k))
  (h2:f n=some (.inr (.nrm ()))):iter f 0=some (Ek ((List.range n).findSome? g)):=by
 have key : ∀ m k:Nat,k+m=n→iter f (k:Int)=some (Ek ((List.range' k m).findSome? g)):=by
  intro m
  induction m with
  | zero=>
   intro k hk
   obtain rfl:k=n:=by omega
   rw [BL h2]; rfl
  | succ m ih=>
   intro k hk
   rw [List.range'_succ,List.findSome?_cons]
   have:=h1 k (by omega)
   cases hg:g k with
   | none=>rw [hg] at this; rw [CT this,ih (k+1) (by omega)]
   | some r=>rw [hg] at this; rw [BL this]; rfl
 rw [List.range_eq_range']
 exact key n 0 (by omega)
theorem bp {α ρ:Type} {l:List α} {g h:α→Option ρ} (e : ∀ x∈l,g x=h x):l.findSome? g=l.findSome? h:=by
 induction l with
 | nil=>rfl
 | cons a l ih=>rw [List.findSome?_cons,List.findSome?_cons,e a (List.mem_cons_self ..),ih fun x hx=>e x (List.mem_cons_of_mem _ hx)]
theorem N3 {α ρ:Type} [Inhabited α] (l:List α) (p:α→Bool) (r:ρ):(List.range l.length).findSome? (fun k=>if p l[k]! then none else some r)=if l.all p then none else some r:=by
 induction l with
 | nil=>rfl
 | cons a l ih=>
  rw [List.length_cons,List.range_succ_eq_map,List.findSome?_cons,List.findSome?_map]
  have hr:(List.range l.length).findSome? ((fun k=>if p (a :: l)[k]! = true then none else some r) ∘ Nat.succ)=if l.all p=true then none else some r:=by
   rw [← ih]; exact bp fun k _=>by simp
  rw [hr]
  by_cases hp:p a=true
  ·simp [hp]
  ·simp [hp]
theorem Dx {ρ:Type} (o:Option ρ) (f:Unit→Option ρ):Ay (some (Ek o)) f=match o with | none=>f () | some r=>some r:=by cases o <;> rfl
def Ee (c:UInt8):Bool:=(decide (97≤c.toNat) && decide (c.toNat≤122)) || (decide (48≤c.toNat) && decide (c.toNat≤57)) || decide (c.toNat=46) || decide (c.toNat=45)
def IL (s:List UInt8):Bool:=decide (1≤s.length) && decide (s.length≤24) && (decide (97≤s[0]!.toNat) && decide (s[0]!.toNat≤122)) && s.all Ee
def FF (c:UInt8):Bool:=decide (32≤c.toNat) && decide (c.toNat≤126)
def Hr (s:List UInt8):Bool:=decide (1≤s.length) && decide (s.length≤200) && s.all FF
theorem Z3 (s:List UInt8) (k:Nat) (hk:k<s.length) (hm:s.length≤9223372036854775807):JA s k=Ch k (if Ee s[k]! then none else some false):=by
 unfold JA
 rw [if_pos (by simpa using hk),Af hk,AE,An (by omega)]
 generalize s[k]! = c
 have e:(((((decide ((c.toNat:Int)<97)) || (decide (122<(c.toNat:Int)))) && ((decide ((c.toNat:Int)<48)) || (decide (57<(c.toNat:Int))))) && (!decide ((c.toNat:Int)=46))) && (!decide ((c.toNat:Int)=45))) = !Ee c:=by
  unfold Ee
  rw [Bool.eq_iff_iff]
  simp only [Bool.or_eq_true,Bool.and_eq_true,decide_eq_true_eq,Bool.not_eq_true',decide_eq_false_iff_not,Bool.or_eq_false_iff,Bool.and_eq_false_imp]
  omega
 rw [e]
 cases Ee c <;> rfl
theorem UT (s:List UInt8) (hm:s.length≤9223372036854775807):KP s=some (IL s):=by
 unfold KP
 rw [Cq (n:=s.length) (fun k=>if Ee s[k]! then none else some false) (fun k hk=>Z3 s k hk hm) (by unfold JA; rw [if_neg (by simp)]),N3]
 unfold IL
 cases s with
 | nil=>simp
 | cons c t=>
  have h0:AO (c :: t) 0=some c:=rfl
  rw [h0]
  simp only [List.getElem!_cons_zero,decide_eq_false (List.cons_ne_nil c t),Bool.false_or]
  generalize (c :: t).all Ee=al
  generalize hl:(c :: t).length=L
  have hL:1≤L:=by rw [← hl]; simp
  by_cases h1:24<(L:Int)
  ·have e1:decide (L≤24)=false:=by simp; omega
   simp [h1,e1]
  ·rw [decide_eq_false h1]
   simp only [Bool.false_or,beq_self_eq_true,Ap,AE]
   have e1:decide (L≤24)=true:=by simp; omega
   have e2:decide (1≤L)=true:=by simp; omega
   rw [e1,e2]
   by_cases h2:(c.toNat:Int)<97
   ·have e3:decide (97≤c.toNat)=false:=by simp; omega
    simp [h2,e3]
   ·rw [decide_eq_false h2]
    have e3:decide (97≤c.toNat)=true:=by simp; omega
    simp only [beq_self_eq_true,Ap,AE,Bool.false_or]
    by_cases h3:122<(c.toNat:Int)
    ·have e4:decide (c.toNat≤122)=false:=by simp; omega
     simp [h3,e4]
    ·have e4:decide (c.toNat≤122)=true:=by simp; omega
     rw [if_neg (by simpa using h3),Dx,e3,e4]
     cases al <;> rfl
def Fi (k:Nat) (c:UInt8):Bool:=(decide (97≤c.toNat) && decide (c.toNat≤122)) || (decide (k≠0) && Ee c)
theorem ap (s:List UInt8) (k:Nat) (hk:k<s.length) (hm:s.length≤9223372036854775807) :
  Ja s k=Ch k (if Fi k s[k]! then none else some false):=by
 unfold Ja
 rw [if_pos (by simpa using hk),Af hk,AE,An (by omega)]
 generalize s[k]! = c
 have e:((!((decide (97≤(c.toNat:Int))) && (decide ((c.toNat:Int)≤122)))) && ((decide ((k:Int)=0)) || (((!decide ((c.toNat:Int)=46)) && (!decide ((c.toNat:Int)=45))) && ((decide ((c.toNat:Int)<48)) || (decide (57<(c.toNat:Int))))))) = !Fi k c:=by
  unfold Fi Ee
  rw [Bool.eq_iff_iff]
  simp only [Bool.or_eq_true,Bool.and_eq_true,decide_eq_true_eq,Bool.not_eq_true',decide_eq_false_iff_not,Bool.or_eq_false_iff,Bool.and_eq_false_imp]
  omega
 rw [e]
 cases Fi k c <;> rfl
theorem bU {α:Type} [Inhabited α] (l:List α) (p:α→Bool):l.all p=true ↔ ∀ k,k<l.length→p l[k]! = true:=by
 rw [List.all_eq_true]
 constructor
 ·intro h k hk; rw [getElem!_pos l k hk]; exact h _ (List.getElem_mem hk)
 ·intro h x hx
  obtain ⟨k,hk,rfl⟩:=List.mem_iff_getElem.1 hx
  rw [← getElem!_pos l k hk]; exact h k hk
theorem Lq {ρ:Type} (n:Nat) (p:Nat→Bool) (r:ρ):(List.range n).findSome? (fun k=>if p k then none else some r)=if (List.range n).all p then none else some r:=by
 generalize List.range n=l
 induction l with
 | nil=>rfl
 | cons a l ih=>rw [List.findSome?_cons,List.all_cons,]; by_cases h:p a=true <;> simp [h,ih]
theorem YJ (s:List UInt8) (hm:s.length≤9223372036854775807):LD s=some (IL s):=by
 unfold LD
 rw [Cq (n:=s.length) (fun k=>if Fi k s[k]! then none else some false) (fun k hk=>ap s k hk hm) (by unfold Ja; rw [if_neg (by simp)]),Lq,Dx]
 have key:((List.range s.length).all fun k=>Fi k s[k]!)=(decide (s=[]) || ((decide (97≤s[0]!.toNat) && decide (s[0]!.toNat≤122)) && s.all Ee)):=by
  rw [Bool.eq_iff_iff,List.all_eq_true]
  simp only [List.mem_range,Bool.or_eq_true,decide_eq_true_eq,Bool.and_eq_true,bU]
  constructor
  ·intro h
   cases hs:s with
   | nil=>exact .inl rfl
   | cons c t=>
    rw [← hs]
    have hl:0<s.length:=by rw [hs]; simp
    have h0:=h 0 hl
    simp only [Fi,Bool.or_eq_true,Bool.and_eq_true,decide_eq_true_eq] at h0
    refine .inr ⟨by omega,fun k hk=>?_⟩
    have:=h k hk
    simp only [Fi,Ee,Bool.or_eq_true,Bool.and_eq_true,decide_eq_true_eq] at this ⊢
    omega
  ·rintro (rfl | ⟨h1,h2⟩) k hk
   ·cases hk
   ·have:=h2 k hk
    by_cases hk0:k=0
    ·subst hk0; simp only [Fi,Bool.or_eq_true,Bool.and_eq_true,decide_eq_true_eq]; omega
    ·simp only [Fi,Bool.or_eq_true,Bool.and_eq_true,decide_eq_true_eq]; exact .inr ⟨hk0,this⟩
 rw [key]
 unfold IL
 cases s with
 | nil=>rfl
 | cons c t=>
  rw [decide_eq_false (List.cons_ne_nil c t),Bool.false_or]
  generalize (c :: t).all Ee=al
  generalize (decide (97≤(c :: t)[0]!.toNat) && decide ((c :: t)[0]!.toNat≤122))=fc
  have e1:decide (1≤((c :: t).length:Int))=decide (1≤(c :: t).length):=by simp; omega
  have e2:decide (((c :: t).length:Int)≤24)=decide ((c :: t).length≤24):=by simp; omega
  rw [e1,e2]
  cases fc <;> cases al <;> simp
theorem Up (s:List UInt8) (hm:s.length≤9223372036854775807):KI s=some (Hr s):=by
 unfold KI Hr
 rw [Cq (n:=s.length) (fun k=>if FF s[k]! then none else some false) (fun k hk=>by
  unfold KZ
  rw [if_pos (by simpa using hk),Af hk,AE,An (by omega)]
  generalize s[k]! = c
  have e:((decide ((c.toNat:Int)<32)) || (decide (126<(c.toNat:Int)))) = !FF c:=by
   unfold FF
   rw [Bool.eq_iff_iff]
   simp only [Bool.or_eq_true,Bool.and_eq_true,decide_eq_true_eq,Bool.not_eq_true',decide_eq_false_iff_not,Bool.and_eq_false_imp]
   omega
  rw [e]
  cases FF c <;> rfl) (by unfold KZ; rw [if_neg (by simp)]),N3,Dx]
 generalize s.all FF=al
 cases s with
 | nil=>simp
 | cons c t=>
  rw [decide_eq_false (List.cons_ne_nil c t),Bool.false_or]
  generalize hl:(c :: t).length=L
  have hL:1≤L:=by rw [← hl]; simp
  by_cases h1:200<(L:Int)
  ·have e1:decide (L≤200)=false:=by simp; omega
   simp [h1,e1]
  ·have e1:decide (L≤200)=true:=by simp; omega
   have e2:decide (1≤L)=true:=by simp; omega
   rw [if_neg (by simpa using h1),e1,e2]
   cases al <;> rfl
theorem Y3 (s:List UInt8) (hm:s.length≤9223372036854775807):LY s=some (Hr s):=by
 unfold LY Hr
 rw [Cq (n:=s.length) (fun k=>if FF s[k]! then none else some false) (fun k hk=>by
  unfold Ko
  rw [if_pos (by simpa using hk),Af hk,AE,An (by omega)]
  generalize s[k]! = c
  have e:((decide ((c.toNat:Int)<32)) || (decide (126<(c.toNat:Int)))) = !FF c:=by
   unfold FF
   rw [Bool.eq_iff_iff]
   simp only [Bool.or_eq_true,Bool.and_eq_true,decide_eq_true_eq,Bool.not_eq_true',decide_eq_false_iff_not,Bool.and_eq_false_imp]
   omega
  rw [e]
  cases FF c <;> rfl) (by unfold Ko; rw [if_neg (by simp)]),N3,Dx]
 generalize s.all FF=al
 have e1:decide (1≤(s.length:Int))=decide (1≤s.length):=by simp; omega
 have e2:decide ((s.length:Int)≤200)=decide (s.length≤200):=by simp; omega
 rw [e1,e2]
 cases al <;> simp
theorem RC (a b:UInt8) (x y:List UInt8):CR (a :: x) (b :: y)=(decide (a<b) || (a == b && CR x y)):=rfl
theorem TS : ∀ (a b:List UInt8),(CR a b || decide (a=b)) = !CR b a
 | [],[]=>rfl
 | [],_ :: _=>rfl
 | _ :: _,[]=>rfl
 | a :: x,b :: y=>by
  rw [RC,RC]
  have ih:=TS x y
  by_cases h:a=b
  ·subst h
   have h1 : ¬ a<a:=fun h=>by simp [UInt8.lt_iff_toNat_lt] at h
   simp only [decide_eq_false h1,beq_self_eq_true,Bool.true_and,Bool.false_or,List.cons.injEq,true_and]
   exact ih
  ·have h2:(a == b)=false:=by simpa using h
   have h3:(b == a)=false:=by simpa using fun e:b=a=>h e.symm
   have h4 : ¬ (a :: x=b :: y):=fun e=>h (List.cons.inj e).1
   rw [h2,h3,decide_eq_false h4]
   simp only [Bool.false_and,Bool.or_false]
   have h5:a.toNat≠b.toNat:=fun e=>h (UInt8.toNat_inj.1 e)
   by_cases hlt:a<b
   ·have : ¬ b<a:=by rw [UInt8.lt_iff_toNat_lt] at hlt ⊢; omega
    simp [hlt,this]
   ·have:b<a:=by rw [UInt8.lt_iff_toNat_lt] at hlt ⊢; omega
    simp [hlt,this]
def HM (l:List Ak):Prop:=∀ a∈l,a.Name.length≤9223372036854775807∧a.Value.length≤9223372036854775807
def H0 (l:List Ak) (ch:Bool) (k:Nat):Option Int:=
 if IL l[k]!.Name=false then some 9 else if Hr l[k]!.Value=false ∧ ¬ (ch=true∧l[k]!.Value=[]) then some 23 else if 0<k∧CR l[k-1]!.Name l[k]!.Name=false then some 5 else none
def GS (l:List Ak) (ch:Bool):Int:=((List.range l.length).findSome? (H0 l ch)).getD 0
theorem HM.at {l:List Ak} (h:HM l) {k:Nat} (hk:k<l.length):l[k]!.Name.length≤9223372036854775807∧l[k]!.Value.length≤9223372036854775807:=by
 rw [getElem!_pos l k hk]; exact h _ (List.getElem_mem hk)
theorem Ui (l:List Ak) (ch:Bool) (h:HM l) (hm:l.length≤9223372036854775807) (k:Nat) (hk:k<l.length):JH l ch k=Ch k (H0 l ch k):=by
 unfold JH H0
 obtain ⟨hn1,hn2⟩:=h.at hk
 rw [if_pos (by simpa using hk),Af hk,AE]
 generalize l[k]! = x at hn1 hn2 ⊢
 rw [UT _ hn1,AE]
 cases IL x.Name
 ·rfl
 rw [if_neg (by decide),if_neg (by decide),Up _ hn2,AE,An (by omega)]
 by_cases hv:Hr x.Value=false ∧ ¬ (ch=true∧x.Value=[])
 ·rw [if_pos hv,if_pos (by simp [hv.1]; cases ch <;> simp_all)]; rfl
 rw [if_neg hv,if_neg (by intro e; simp at e; exact hv ⟨e.1,by rintro ⟨a,b⟩; simp [a,b] at e⟩)]
 by_cases hk0:k=0
 ·subst hk0; rfl
 ·have h0:decide ((0:Int)<(k:Int))=true:=by simp; omega
  rw [h0,Fd (by omega) (by omega)]
  simp only [beq_self_eq_true,Ap,AE,Bool.true_and]
  rw [Af (by omega),AE,TS]
  have:(0<k∧CR l[k-1]!.Name x.Name=false)↔CR l[k-1]!.Name x.Name=false:=by constructor; exact fun h=>h.2; exact fun h=>⟨by omega,h⟩
  simp only [this]
  cases CR l[k-1]!.Name x.Name <;> rfl
theorem X4 (l:List Ak) (ch:Bool) (h:HM l) (hm:l.length≤9223372036854775807) (k:Nat) (hk:k<l.length):Iv l ch k=Ch k (H0 l ch k):=by
 unfold Iv H0
 obtain ⟨hn1,hn2⟩:=h.at hk
 rw [if_pos (by simpa using hk),Af hk,AE]
 generalize l[k]! = x at hn1 hn2 ⊢
 rw [YJ _ hn1,AE]
 cases IL x.Name
 ·rfl
 rw [if_neg (by decide),if_neg (by decide),Y3 _ hn2,AE,An (by omega)]
 by_cases hv:Hr x.Value=false ∧ ¬ (ch=true∧x.Value=[])
 ·rw [if_pos hv,if_pos (by simp [hv.1]; cases ch <;> simp_all)]; rfl
 rw [if_neg hv,if_neg (by intro e; simp at e; exact hv ⟨e.1,by rintro ⟨a,b⟩; simp [a,b] at e⟩)]
 by_cases hk0:k=0
 ·subst hk0; rfl
 ·have h0:decide ((0:Int)<(k:Int))=true:=by simp; omega
  rw [h0,Fd (by omega) (by omega)]
  simp only [beq_self_eq_true,Ap,AE,Bool.true_and]
  rw [Af (by omega),AE]
  have:(0<k∧CR l[k-1]!.Name x.Name=false)↔CR l[k-1]!.Name x.Name=false:=by constructor; exact fun h=>h.2; exact fun h=>⟨by omega,h⟩
  simp only [this]
  cases CR l[k-1]!.Name x.Name <;> rfl
theorem Ik {o:Option Int} : (Ay (some (Ek o)) fun _:Unit=>some 0)=some (o.getD 0):=by cases o <;> rfl
theorem bw (l:List Ak) (ch:Bool) (h:HM l) (hm:l.length≤9223372036854775807):LA l ch=some (GS l ch):=by
 unfold LA
 rw [Cq (n:=l.length) (H0 l ch) (fun k hk=>Ui l ch h hm k hk) (by unfold JH; rw [if_neg (by simp)]),Ik]; rfl
theorem UM (l:List Ak) (ch:Bool) (h:HM l) (hm:l.length≤9223372036854775807):LZ l ch=some (GS l ch):=by
 unfold LZ
 rw [Cq (n:=l.length) (H0 l ch) (fun k hk=>X4 l ch h hm k hk) (by unfold Iv; rw [if_neg (by simp)]),Ik]; rfl
theorem WP (l:List Ak) (h:HM l) (hm:l.length≤9223372036854775807):Jz l=some (GS l false):=by unfold Jz; rw [bw l _ h hm]; rfl
def Oa (l:List Ak) (name:List UInt8):List UInt8:=((List.range l.length).findSome? fun k=>if l[k]!.Name=name then some l[k]!.Value else none).getD []
theorem Rv (x y:Ak):x=y↔x.Name=y.Name∧x.Value=y.Value:=by cases x; cases y; simp
theorem ad (a b:List Ak) (hm:a.length≤9223372036854775807):Ld a b=some (decide (a=b)):=by
 unfold Ld
 by_cases hl:a.length=b.length
 ·rw [if_neg (by simp [hl]),Cq (n:=a.length) (fun k=>if decide (a[k]! = b[k]!) then none else some false) (fun k hk=>by
   unfold Kq
   rw [if_pos (by simpa using hk),Af hk,Af (by omega),AE,AE,An (by omega)]
   generalize a[k]! = x
   generalize b[k]! = y
   by_cases h:x=y
   ·subst h; simp [Ch]
   ·have h':=h; rw [Rv] at h'
    simp only [decide_eq_false h,Bool.and_true]
    by_cases h1:x.Name=y.Name
    ·have h2 : ¬ x.Value=y.Value:=fun e=>h' ⟨h1,e⟩
     simp [h1,h2,Ch]
    ·simp [h1,Ch]) (by unfold Kq; rw [if_neg (by simp)]),Lq,Dx]
  by_cases h:a=b
  ·subst h; simp
  ·rw [decide_eq_false h]
   have:((List.range a.length).all fun k=>decide (a[k]! = b[k]!))=false:=by
    rw [← Bool.not_eq_true,List.all_eq_true]
    intro hall
    apply h
    apply List.ext_getElem hl
    intro k h1 h2
    have:=hall k (List.mem_range.2 h1)
    simp only [decide_eq_true_eq] at this
    rwa [getElem!_pos a k h1,getElem!_pos b k h2] at this
   rw [this]; rfl
 ·rw [if_pos (by simp; omega),decide_eq_false (by rintro rfl; exact hl rfl)]
theorem Wf (a b:List Ak) (hm:a.length≤9223372036854775807):KS a b=some (decide (a=b)):=by
 unfold KS
 by_cases hl:a.length=b.length
 ·rw [if_neg (by simp [hl]),Cq (n:=a.length) (fun k=>if decide (a[k]! = b[k]!) then none else some false) (fun k hk=>by
   unfold LT
   rw [if_pos (by simpa using hk),Af hk,Af (by omega),AE,AE,An (by omega)]
   generalize a[k]! = x
   generalize b[k]! = y
   by_cases h:x=y
   ·subst h; simp [Ch]
   ·have h':=h; rw [Rv] at h'
    simp only [decide_eq_false h,Bool.and_true]
    by_cases h1:x.Name=y.Name
    ·have h2 : ¬ x.Value=y.Value:=fun e=>h' ⟨h1,e⟩
     simp [h1,h2,Ch]
    ·simp [h1,Ch]) (by unfold LT; rw [if_neg (by simp)]),Lq,Dx]
  by_cases h:a=b
  ·subst h; simp
  ·rw [decide_eq_false h]
   have:((List.range a.length).all fun k=>decide (a[k]! = b[k]!))=false:=by
    rw [← Bool.not_eq_true,List.all_eq_true]
    intro hall
    apply h
    apply List.ext_getElem hl
    intro k h1 h2
    have:=hall k (List.mem_range.2 h1)
    simp only [decide_eq_true_eq] at this
    rwa [getElem!_pos a k h1,getElem!_pos b k h2] at this
   rw [this]; rfl
 ·rw [if_pos (by simp; omega),decide_eq_false (by rintro rfl; exact hl rfl)]
theorem DY {σ β:Type} {f:σ→Option (σ ⊕ β)} (n:Nat) (R:Nat→σ→Prop) (Q:β→Prop)
  (h1 : ∀ k s,k<n→R k s→(∃ s',f s=some (.inl s')∧R (k+1) s')∨(∃ b,f s=some (.inr b)∧Q b))
  (h2 : ∀ s,R n s → ∃ b,f s=some (.inr b)∧Q b) {s:σ} (h0:R 0 s) : ∃ b,iter f s=some b∧Q b:=by
 have key : ∀ m k s,k+m=n→R k s → ∃ b,iter f s=some b∧Q b:=by
  intro m
  induction m with
  | zero=>
   intro k s hk hR
   obtain rfl:k=n:=by omega
   obtain ⟨b,hb,hq⟩:=h2 s hR
   exact ⟨b,BL hb,hq⟩
  | succ m ih=>
   intro k s hk hR
   rcases h1 k s (by omega) hR with ⟨s',h3,h4⟩ | ⟨b,h3,h4⟩
   ·obtain ⟨b,h5,h6⟩:=ih (k+1) s' (by omega) h4
    exact ⟨b,by rw [CT h3,h5],h6⟩
   ·exact ⟨b,BL h3,h4⟩
 exact key n 0 s (by omega) h0
theorem Hw {α:Type} [Inhabited α] {l:List α} {k:Nat} (h:k<l.length):l.drop k=l[k]! :: l.drop (k+1):=by
 rw [List.drop_eq_getElem_cons h,getElem!_pos l k h]
theorem II {α:Type} [Inhabited α] {l:List α} {k:Nat} (h:k<l.length):l.take (k+1)=l.take k++[l[k]!]:=by
 rw [List.take_add_one,List.getElem?_eq_getElem h,getElem!_pos l k h]; rfl
theorem Bx {α:Type} [Inhabited α] {l:List α} {k:Nat} (h:k<l.length):l[k]! ∈ l:=by
 rw [getElem!_pos l k h]; exact List.getElem_mem h
def BU (s:AG):Int:=if s.Kind=1 then 0 else s.N
def BW (s:AG):Int:=if s.Kind=2 then 0 else s.N
def Ah (a:List AG):Int:=(a.map BU).sum
def Am (a:List AG):Int:=(a.map BW).sum
theorem Og {a:List AG} {k:Nat} (h:k<a.length):Ah (a.take (k+1))=Ah (a.take k)+BU a[k]!:=by
 unfold Ah; rw [II h]; simp
theorem Nv {a:List AG} {k:Nat} (h:k<a.length):Am (a.take (k+1))=Am (a.take k)+BW a[k]!:=by
 unfold Am; rw [II h]; simp
def CU (a:List AG) (k:Nat):Option Int:=
 if a[k]!.Kind<0∨2<a[k]!.Kind then some 8 else if a[k]!.N<1∨2147483647<a[k]!.N then some 2
 else if 0<k∧(a[k-1]!.Kind=a[k]!.Kind∨(a[k-1]!.Kind=2∧a[k]!.Kind=1)) then some 5 else none
def Av (a:List AG):Int:=
 match (List.range a.length).findSome? (CU a) with
 | some e=>e
 | none=>if 2147483647<Ah a∨2147483647<Am a then 3 else 0
theorem RB {ρ:Type} {n k:Nat} {g:Nat→Option ρ} {r:ρ} (hk:k<n) (h1 : ∀ j,j<k→g j=none) (h2:g k=some r):(List.range n).findSome? g=some r:=by
 obtain ⟨m,rfl⟩ : ∃ m,n=k+(m+1):=⟨n-k-1,by omega⟩
 rw [List.range_eq_range',← List.range'_append (s:=0) (m:=k) (n:=m+1) (step:=1),List.findSome?_append]
 have:(List.range' 0 k).findSome? g=none:=by
  rw [List.findSome?_eq_none_iff]; intro x hx; exact h1 x (by simpa using hx)
 rw [this,Nat.one_mul,Nat.zero_add,List.range'_succ,List.findSome?_cons,h2]; rfl
theorem OM {ρ:Type} {n:Nat} {g:Nat→Option ρ} (h1 : ∀ j,j<n→g j=none):(List.range n).findSome? g=none:=by
 rw [List.findSome?_eq_none_iff]; intro x hx; exact h1 x (by simpa using hx)
def A1 (s:AG):Prop:=0≤s.Kind∧s.Kind≤2∧1≤s.N∧s.N≤2147483647
theorem Ks {a:List AG} {k:Nat} (h:CU a k=none):A1 a[k]!:=by
 unfold CU at h
 unfold A1
 split at h
 ·cases h
 ·split at h
  ·cases h
  ·omega
theorem Rk {a:List AG} {k:Nat} (hk:k≤a.length) (h : ∀ j,j<k→A1 a[j]!):0≤Ah (a.take k)∧Ah (a.take k)≤k * 2147483647∧0≤Am (a.take k)∧Am (a.take k)≤k * 2147483647:=by
 induction k with
 | zero=>simp [Ah,Am]
 | succ k ih=>
  have:=ih (by omega) (fun j hj=>h j (by omega))
  have hs:=h k (by omega)
  rw [Og (by omega),Nv (by omega)]
  unfold BU BW
  unfold A1 at hs
  omega
theorem TB {a:List AG} (h1 : ∀ j,j<a.length→CU a j=none):Av a=if 2147483647<Ah a∨2147483647<Am a then 3 else 0:=by
 unfold Av; rw [OM h1]
theorem Bf {x:Int} (h1 : -9223372036854775808≤x) (h2:x≤9223372036854775807):AM .i64 x=some x:=Be h1 h2
theorem JD (a:List AG) (hm:a.length≤9223372036854775807):Gf a=some (Av a):=by
 unfold Gf
 obtain ⟨b,hb,hq⟩:=DY (f:=fun (x:Int × Int × Int)=>JZ a x.1 x.2.1 x.2.2) a.length
  (fun k s=>s=(min (Ah (a.take k)) 2147483648,min (Am (a.take k)) 2147483648,(k:Int)) ∧ ∀ j,j<k→CU a j=none)
  (fun b=>b=match (List.range a.length).findSome? (CU a) with | some e=>.ext e | none=>.nrm (min (Ah a) 2147483648,min (Am a) 2147483648))
  (fun k s hk hR=>by
   obtain ⟨rfl,hg⟩:=hR
   have hlen:=Rk (a:=a) (k:=k) (by omega) (fun j hj=>Ks (hg j hj))
   unfold JZ
   simp only
   rw [if_pos (by simpa using hk),Af hk,AE,An (by omega)]
   cases he:CU a k with
   | some r=>
    right
    rw [RB hk hg he]
    refine ⟨_,?_,rfl⟩
    unfold CU at he
    by_cases c1:a[k]!.Kind<0∨2<a[k]!.Kind
    ·rw [if_pos c1] at he; cases he
     rw [if_pos (by simpa using c1)]; rfl
    rw [if_neg c1] at he
    rw [if_neg (by simpa using c1)]
    by_cases c2:a[k]!.N<1∨2147483647<a[k]!.N
    ·rw [if_pos c2] at he; cases he
     rw [if_pos (by simpa using c2)]; rfl
    rw [if_neg c2] at he
    rw [if_neg (by simpa using c2)]
    by_cases c3:0<k∧(a[k-1]!.Kind=a[k]!.Kind∨(a[k-1]!.Kind=2∧a[k]!.Kind=1))
    ·rw [if_pos c3] at he; cases he
     have h0:decide ((0:Int)<(k:Int))=true:=by simp; omega
     rw [h0,Fd c3.1 (by omega)]
     simp only [beq_self_eq_true,Ap,AE,Bool.true_and]
     rw [Af (by omega),AE,if_pos (by simpa using c3.2)]; rfl
    ·rw [if_neg c3] at he; cases he
   | none=>
    left
    have hs:=Ks he
    have h0:=he
    unfold CU at he
    by_cases c1:a[k]!.Kind<0∨2<a[k]!.Kind
    ·rw [if_pos c1] at he; cases he
    rw [if_neg c1] at he
    rw [if_neg (by simpa using c1)]
    by_cases c2:a[k]!.N<1∨2147483647<a[k]!.N
    ·rw [if_pos c2] at he; cases he
    rw [if_neg c2] at he
    rw [if_neg (by simpa using c2)]
    by_cases c3:0<k∧(a[k-1]!.Kind=a[k]!.Kind∨(a[k-1]!.Kind=2∧a[k]!.Kind=1))
    ·rw [if_pos c3] at he; cases he
    clear he
    have e3:k=0∨(0<k ∧ ¬ (a[k-1]!.Kind=a[k]!.Kind∨(a[k-1]!.Kind=2∧a[k]!.Kind=1))):=by
     by_cases h0:k=0
     ·exact .inl h0
     ·exact .inr ⟨by omega,fun h=>c3 ⟨by omega,h⟩⟩
    have hR' : ∀ j,j<k+1→CU a j=none:=fun j hj=>by
     rcases Nat.lt_or_ge j k with h | h
     ·exact hg j h
     ·obtain rfl:j=k:=by omega
      exact h0
    have fin:(FD (AB (if (!decide (a[k]!.Kind=1))=true then (AB (AM .i64 (min (Ah (a.take k)) 2147483648+a[k]!.N)) fun (x9:Int)=>some (min x9 2147483648)) else some (min (Ah (a.take k)) 2147483648)) fun (before6:Int)=>
      if (!decide (a[k]!.Kind=2))=true then (AB (AM .i64 (min (Am (a.take k)) 2147483648+a[k]!.N)) fun (x8:Int)=>some (.nrm (before6,min x8 2147483648))) else some (.nrm (before6,min (Am (a.take k)) 2147483648)))
      fun (before5:Int) (after5:Int)=>AB (some (((k+1:Nat)):Int)) fun (x4:Int)=>some (Sum.inl (before5,after5,x4)):Option ((Int × Int × Int) ⊕ (Ao (Int × Int) Int))) =
      some (.inl (min (Ah (a.take (k+1))) 2147483648,min (Am (a.take (k+1))) 2147483648,((k+1:Nat):Int))):=by
     unfold A1 at hs
     rw [Og hk,Nv hk]
     clear c1 c2 c3 e3 hR' h0
     generalize a[k]! = x at hs ⊢
     generalize Ah (a.take k)=o at hlen ⊢
     generalize Am (a.take k)=w at hlen ⊢
     rw [Bf (by omega) (by omega),Bf (by omega) (by omega)]
     unfold BU BW
     by_cases d1:x.Kind=1
     ·have d2 : ¬ x.Kind=2:=by omega
      simp [d1]; omega
     ·by_cases d2:x.Kind=2
      ·simp [d2]; omega
      ·simp [d1,d2]; omega
    rcases e3 with rfl | ⟨hp,e3⟩
    ·exact ⟨_,fin,rfl,hR'⟩
    ·have h1:decide ((0:Int)<(k:Int))=true:=by simp; omega
     rw [h1,Fd (by omega) (by omega)]
     simp only [beq_self_eq_true,Ap,AE,Bool.true_and]
     rw [Af (by omega),AE,if_neg (by simpa using e3)]
     exact ⟨_,fin,rfl,hR'⟩)
  (fun s hR=>by
   obtain ⟨rfl,hg⟩:=hR
   rw [OM hg,List.take_length]
   unfold JZ
   exact ⟨_,by rw [if_neg (by simp)],rfl⟩)
  (s:=(0,0,0)) ⟨by simp [Ah,Am]; decide,fun j hj=>absurd hj (Nat.not_lt_zero _)⟩
 rw [hb,hq]
 unfold Av
 cases (List.range a.length).findSome? (CU a) with
 | some e=>rfl
 | none=>
  show (if (decide (2147483647<min (Ah a) 2147483648) || decide (2147483647<min (Am a) 2147483648))=true then some 3 else some 0)=_
  by_cases h:2147483647<Ah a∨2147483647<Am a
  ·rw [if_pos (by simp; omega),if_pos h]
  ·rw [if_neg (by simp; omega),if_neg h]
theorem I1 (x lo hi:Int):Ck x lo hi=some (decide (lo≤x) && decide (x≤hi)):=by
 unfold Ck
 rfl
theorem Sa (a:List AG) (hm:a.length≤9223372036854775807):Je a=some (Av a):=by
 unfold Je
 obtain ⟨b,hb,hq⟩:=DY (f:=fun (x:Int × Int × Int)=>JK a x.1 x.2.1 x.2.2) a.length
  (fun k s=>∃ o w:Int,s=(o,w,(k:Int))∧(∀ j,j<k→CU a j=none)∧(Ah (a.take k)≤2147483647→o=Ah (a.take k))∧(2147483647<Ah (a.take k)→2147483647<o)∧0≤o∧o≤4294967296
   ∧ (Am (a.take k)≤2147483647→w=Am (a.take k))∧(2147483647<Am (a.take k)→2147483647<w)∧0≤w∧w≤4294967296)
  (fun b=>match (List.range a.length).findSome? (CU a) with | some e=>b = .ext e | none=>∃ o w:Int,b = .nrm (o,w)∧(2147483647<o↔2147483647<Ah a)∧(2147483647<w↔2147483647<Am a))
  (fun k s hk hR=>by
   obtain ⟨o,w,rfl,hg,hR⟩:=hR
   have hlen:=Rk (a:=a) (k:=k) (by omega) (fun j hj=>Ks (hg j hj))
   unfold JK
   simp only
   rw [if_pos (by simpa using hk),Af hk,AE,An (by omega),I1,AE,I1,AE]
   have q1:(!(decide (0≤a[k]!.Kind) && decide (a[k]!.Kind≤2)))=decide (a[k]!.Kind<0∨2<a[k]!.Kind):=by
    rw [Bool.eq_iff_iff]; simp only [Bool.not_eq_true',Bool.and_eq_false_imp,decide_eq_true_eq,decide_eq_false_iff_not]; omega
   have q2:(!(decide (1≤a[k]!.N) && decide (a[k]!.N≤2147483647)))=decide (a[k]!.N<1∨2147483647<a[k]!.N):=by
    rw [Bool.eq_iff_iff]; simp only [Bool.not_eq_true',Bool.and_eq_false_imp,decide_eq_true_eq,decide_eq_false_iff_not]; omega
   rw [q1,q2]
   cases he:CU a k with
   | some r=>
    right
    rw [RB hk hg he]
    refine ⟨_,?_,rfl⟩
    unfold CU at he
    by_cases c1:a[k]!.Kind<0∨2<a[k]!.Kind
    ·rw [if_pos c1] at he; cases he
     rw [if_pos (decide_eq_true c1)]; rfl
    rw [if_neg c1] at he
    rw [if_neg (by rw [decide_eq_true_eq]; exact c1)]
    by_cases c2:a[k]!.N<1∨2147483647<a[k]!.N
    ·rw [if_pos c2] at he; cases he
     rw [if_pos (decide_eq_true c2)]; rfl
    rw [if_neg c2] at he
    rw [if_neg (by rw [decide_eq_true_eq]; exact c2)]
    by_cases c3:0<k∧(a[k-1]!.Kind=a[k]!.Kind∨(a[k-1]!.Kind=2∧a[k]!.Kind=1))
    ·rw [if_pos c3] at he; cases he
     have h0:decide ((0:Int)<(k:Int))=true:=by simp; omega
     rw [h0,Fd c3.1 (by omega)]
     simp only [beq_self_eq_true,Ap,AE,Bool.true_and]
     rw [Af (by omega),AE]
     rcases c3.2 with d | ⟨d1,d2⟩
     ·rw [d,decide_eq_true rfl]; rfl
     ·have : ¬ a[k]!.Kind=a[k-1]!.Kind:=by omega
      rw [decide_eq_false this,decide_eq_true d2]
      simp only [beq_self_eq_true,Bool.and_self,Ap,AE,Bool.false_or,Bool.true_and]
      rw [Af (by omega),AE,decide_eq_true d1]; rfl
    ·rw [if_neg c3] at he; cases he
   | none=>
    left
    have hs:=Ks he
    have h0:=he
    unfold CU at he
    by_cases c1:a[k]!.Kind<0∨2<a[k]!.Kind
    ·rw [if_pos c1] at he; cases he
    rw [if_neg c1] at he
    rw [if_neg (by rw [decide_eq_true_eq]; exact c1)]
    by_cases c2:a[k]!.N<1∨2147483647<a[k]!.N
    ·rw [if_pos c2] at he; cases he
    rw [if_neg c2] at he
    rw [if_neg (by rw [decide_eq_true_eq]; exact c2)]
    by_cases c3:0<k∧(a[k-1]!.Kind=a[k]!.Kind∨(a[k-1]!.Kind=2∧a[k]!.Kind=1))
    ·rw [if_pos c3] at he; cases he
    clear he q1 q2
    have e3:k=0∨(0<k ∧ ¬ (a[k-1]!.Kind=a[k]!.Kind∨(a[k-1]!.Kind=2∧a[k]!.Kind=1))):=by
     by_cases h0:k=0
     ·exact .inl h0
     ·exact .inr ⟨by omega,fun h=>c3 ⟨by omega,h⟩⟩
    have hR' : ∀ j,j<k+1→CU a j=none:=fun j hj=>by
     rcases Nat.lt_or_ge j k with h | h
     ·exact hg j h
     ·obtain rfl:j=k:=by omega
      exact h0
    have fin : ∃ o2 w2:Int,(FD (AB (if (!decide (a[k]!.Kind=1) && decide (o<2147483648))=true then (AB (AM .i64 (o+a[k]!.N)) fun (x9:Int)=>some x9) else some o) fun (before6:Int)=>
      if (!decide (a[k]!.Kind=2) && decide (w<2147483648))=true then (AB (AM .i64 (w+a[k]!.N)) fun (x8:Int)=>some (.nrm (before6,x8))) else some (.nrm (before6,w)))
      fun (before5:Int) (after5:Int)=>AB (some (((k+1:Nat)):Int)) fun (x4:Int)=>some (Sum.inl (before5,after5,x4)):Option ((Int × Int × Int) ⊕ (Ao (Int × Int) Int))) =
      some (.inl (o2,w2,((k+1:Nat):Int)))∧((Ah (a.take (k+1))≤2147483647→o2=Ah (a.take (k+1)))∧(2147483647<Ah (a.take (k+1))→2147483647<o2)∧0≤o2∧o2≤4294967296
   ∧ (Am (a.take (k+1))≤2147483647→w2=Am (a.take (k+1)))∧(2147483647<Am (a.take (k+1))→2147483647<w2)∧0≤w2∧w2≤4294967296):=by
     unfold A1 at hs
     rw [Og hk,Nv hk]
     clear c1 c2 c3 e3 hR' h0
     generalize a[k]! = x at hs ⊢
     generalize Ah (a.take k)=o1 at hlen hR ⊢
     generalize Am (a.take k)=w1 at hlen hR ⊢
     rw [Bf (by omega) (by omega),Bf (by omega) (by omega)]
     unfold BU BW
     refine ⟨if x.Kind≠1∧o<2147483648 then o+x.N else o,if x.Kind≠2∧w<2147483648 then w+x.N else w,?_,?_⟩
     ·by_cases d1:x.Kind=1
      ·by_cases d3:w<2147483648 <;> simp [d1,d3]
      ·by_cases d2:x.Kind=2
       ·by_cases d3:o<2147483648 <;> simp [d2,d3]
       ·by_cases d3:o<2147483648 <;> by_cases d4:w<2147483648 <;> simp [d1,d2,d3,d4]
     ·split <;> split <;> split <;> split <;> omega
    obtain ⟨o2,w2,f1,f2⟩:=fin
    rcases e3 with rfl | ⟨hp,e3⟩
    ·exact ⟨_,f1,o2,w2,rfl,hR',f2⟩
    ·have h1:decide ((0:Int)<(k:Int))=true:=by simp; omega
     rw [h1,Fd (by omega) (by omega)]
     simp only [beq_self_eq_true,Ap,AE,Bool.true_and]
     rw [Af (by omega),AE]
     have n1 : ¬ a[k]!.Kind=a[k-1]!.Kind:=fun e=>e3 (.inl e.symm)
     rw [decide_eq_false n1]
     simp only [Bool.false_or,beq_self_eq_true,Bool.true_and]
     by_cases d2:a[k]!.Kind=1
     ·rw [decide_eq_true d2]
      simp only [beq_self_eq_true,Ap,AE]
      rw [Af (by omega),AE]
      have n2 : ¬ a[k-1]!.Kind=2:=fun e=>e3 (.inr ⟨e,d2⟩)
      rw [decide_eq_false n2,if_neg (by decide)]
      rw [decide_eq_true d2] at f1
      exact ⟨_,f1,o2,w2,rfl,hR',f2⟩
     ·rw [decide_eq_false d2]
      rw [decide_eq_false d2] at f1
      exact ⟨_,f1,o2,w2,rfl,hR',f2⟩)
  (fun s hR=>by
   obtain ⟨o,w,rfl,hg,hR⟩:=hR
   rw [OM hg]
   rw [List.take_length] at hR
   unfold JK
   exact ⟨_,by rw [if_neg (by simp)],o,w,rfl,by omega,by omega⟩)
  (s:=(0,0,0)) ⟨0,0,rfl,fun j hj=>absurd hj (Nat.not_lt_zero _),by simp [Ah,Am]⟩
 rw [hb]
 unfold Av
 cases hf:(List.range a.length).findSome? (CU a) with
 | some e=>rw [hf] at hq; rw [hq]; rfl
 | none=>
  rw [hf] at hq
  obtain ⟨o,w,rfl,h1,h2⟩:=hq
  show (if (decide (2147483647<o) || decide (2147483647<w))=true then some 3 else some 0)=_
  rw [show (decide (2147483647<o) || decide (2147483647<w))=decide (2147483647<Ah a∨2147483647<Am a) by simp [h1,h2]]
  by_cases h:2147483647<Ah a∨2147483647<Am a
  ·rw [if_pos (decide_eq_true h),if_pos h]
  ·rw [if_neg (by rw [decide_eq_true_eq]; exact h),if_neg h]
theorem CY {α σ β γ:Type} [Inhabited α] {f:σ→Option (σ ⊕ β)} (l:List α) (mk:γ→Nat→σ) (sp:List α→γ→β) (I:Nat→γ→Prop)
  (h1 : ∀ k c,k<l.length→I k c→(∃ c',f (mk c k)=some (.inl (mk c' (k+1)))∧I (k+1) c'∧sp (l[k]! :: l.drop (k+1)) c=sp (l.drop (k+1)) c')∨f (mk c k)=some (.inr (sp (l[k]! :: l.drop (k+1)) c)))
  (h2 : ∀ c,I l.length c→f (mk c l.length)=some (.inr (sp [] c))) (c:γ) (h0:I 0 c) (s:σ) (hs:s=mk c 0):iter f s=some (sp l c):=by
 subst hs
 have key : ∀ m k c,k+m=l.length→I k c→iter f (mk c k)=some (sp (l.drop k) c):=by
  intro m
  induction m with
  | zero=>
   intro k c hk hI
   obtain rfl:k=l.length:=by omega
   rw [List.drop_length]
   exact BL (h2 c hI)
  | succ m ih=>
   intro k c hk hI
   rw [Hw (by omega)]
   rcases h1 k c (by omega) hI with ⟨c',h3,h4,h5⟩ | h3
   ·rw [CT h3,ih (k+1) c' (by omega) h4,h5]
   ·exact BL h3
 have:=key l.length 0 c (by omega) h0
 rwa [List.drop_zero] at this
structure FO (a:List AG):Prop where
 stp : ∀ s∈a,A1 s
 olds:Ah a≤2147483647
 nows:Am a≤2147483647
theorem T5 {a:List AG} {k:Nat} {r:Int} (h:CU a k=some r):r≠0:=by
 unfold CU at h
 split at h
 ·cases h; decide
 ·split at h
  ·cases h; decide
  ·split at h
   ·cases h; decide
   ·cases h
theorem UG {a:List AG} (h:Av a=0) : ∀ j,j<a.length→CU a j=none:=by
 cases hf:(List.range a.length).findSome? (CU a) with
 | some e=>
  unfold Av at h
  rw [hf] at h
  simp only at h
  subst h
  obtain ⟨x,_,hx⟩:=List.exists_of_findSome?_eq_some hf
  exact absurd rfl (T5 hx)
 | none=>
  rw [List.findSome?_eq_none_iff] at hf
  exact fun j hj=>hf j (List.mem_range.2 hj)
theorem CX {a:List AG} (h:Av a=0):FO a:=by
 have hn:=UG h
 rw [TB hn] at h
 have hs : ∀ s∈a,A1 s:=fun s hs=>by
  obtain ⟨k,hk,rfl⟩:=List.mem_iff_getElem.1 hs
  rw [← getElem!_pos a k hk]
  exact Ks (hn k hk)
 by_cases hc:2147483647<Ah a∨2147483647<Am a
 ·rw [if_pos hc] at h; cases h
 ·exact ⟨hs,by omega,by omega⟩
theorem Da (s:AG) (a:List AG):Ah (s :: a)=BU s+Ah a:=by simp [Ah]
theorem Db (s:AG) (a:List AG):Am (s :: a)=BW s+Am a:=by simp [Am]
theorem IF {a:List AG} (h : ∀ s∈a,A1 s) {k:Nat} (hk:k<a.length):A1 a[k]!:=h _ (Bx hk)
theorem Hy {a:List AG} (h : ∀ s∈a,A1 s):0≤Ah a∧0≤Am a:=by
 induction a with
 | nil=>simp [Ah,Am]
 | cons s a ih=>
  have h1:=ih fun x hx=>h x (List.mem_cons_of_mem _ hx)
  have h2:=h s (List.mem_cons_self ..)
  rw [Da,Db]
  unfold BU BW
  unfold A1 at h2
  split <;> split <;> omega
theorem FO.len {a:List AG} (h:FO a):(a.length:Int)≤4294967294:=by
 have key : ∀ l:List AG,(∀ s∈l,A1 s)→(l.length:Int)≤Ah l+Am l:=by
  intro l
  induction l with
  | nil=>intro _; simp [Ah,Am]
  | cons s l ih=>
   intro h
   have h1:=ih fun x hx=>h x (List.mem_cons_of_mem _ hx)
   have h2:=h s (List.mem_cons_self ..)
   rw [Da,Db,List.length_cons]
   unfold BU BW
   unfold A1 at h2
   split <;> split <;> omega
 have h1:=key a h.stp
 have h2:=h.olds
 have h3:=h.nows
 omega
def FG (a:List AG) (k:Nat) (f t:Int):Prop:=0≤f∧f+Ah (a.drop k)≤2147483647∧0≤t∧t+Am (a.drop k)≤2147483647
theorem FO.run {a:List AG} (h:FO a):FG a 0 0 0:=by
 have h2:=h.olds
 have h3:=h.nows
 unfold FG
 rw [List.drop_zero]
 omega
theorem FG.nx {a:List AG} (h:FO a) {k:Nat} (hk:k<a.length) {f t:Int} (hr:FG a k f t):0≤f∧f+BU a[k]! ≤ 2147483647∧f≤2147483647∧0≤t∧t+BW a[k]! ≤ 2147483647∧t≤2147483647 ∧
  ∀ f' t',f≤f'→f'≤f+BU a[k]! → t≤t'→t'≤t+BW a[k]! → FG a (k+1) f' t':=by
 have hd:=Hy (a:=a.drop (k+1)) (fun s hs=>h.stp s (List.mem_of_mem_drop hs))
 have hs:=IF h.stp hk
 unfold FG at hr
 rw [Hw hk,Da,Db] at hr
 have h0:0≤BU a[k]! ∧ 0≤BW a[k]!:=by unfold A1 at hs; unfold BU BW; split <;> split <;> omega
 refine ⟨by omega,by omega,by omega,by omega,by omega,by omega,fun f' t' a1 a2 a3 a4=>?_⟩
 unfold FG
 omega
theorem Sv (a:List AG) (hg:FO a):Ij a=some (Ah a,Am a):=by
 unfold Ij
 rw [CY (f:=fun (a_1:Int × Int × Int)=>Jg a a_1.1 a_1.2.1 a_1.2.2) a (fun (c:Int × Int) k=>(c.1,c.2,(k:Int))) (fun l (c:Int × Int)=>(c.1+Ah l,c.2+Am l)) (fun k c=>FG a k c.1 c.2)
  (fun k c hk hI=>by
   left
   have hs:=IF hg.stp hk
   have hnx:=hI.nx hg hk
   have hgl:=hg.len
   unfold Jg
   simp only
   rw [if_pos (by simpa using hk),Af hk,AE,An (by omega)]
   simp only [Da,Db]
   obtain ⟨o,w⟩:=c
   simp only at hnx ⊢
   generalize a[k]! = x at hs hnx ⊢
   obtain ⟨q1,q2,q3,q4,q5,q6,q7⟩:=hnx
   have h0:0≤BU x∧0≤BW x:=by unfold A1 at hs; unfold BU BW; split <;> split <;> omega
   unfold A1 at hs
   rw [Bf (by omega) (by omega),Bf (by omega) (by omega)]
   refine ⟨(o+BU x,w+BW x),?_,q7 _ _ (by omega) (by omega) (by omega) (by omega),?_⟩
   ·unfold BU BW
    by_cases d1:x.Kind=1
    ·simp [d1]
    ·by_cases d2:x.Kind=2 <;> simp [d1,d2]
   ·simp only; rw [Int.add_assoc,Int.add_assoc])
  (fun c hI=>by unfold Jg; rw [if_neg (by simp)]; simp [Ah,Am]) (0,0) hg.run (0,0,0) rfl]
 simp
def CK (p:Int):List AG→Int × Int→Ao Unit Int
 | [],_=>.nrm ()
 | s :: l,c=>if s.Kind=1 then CK p l (c.1,c.2+s.N) else if p<c.1+s.N then .ext (if s.Kind=0 then c.2+p-c.1 else -1) else CK p l (c.1+s.N,if s.Kind=0 then c.2+s.N else c.2)
theorem E7 (p:Int) (s:AG) (l:List AG) (c:Int × Int):CK p (s :: l) c=if s.Kind=1 then CK p l (c.1,c.2+s.N) else if p<c.1+s.N then .ext (if s.Kind=0 then c.2+p-c.1 else -1) else CK p l (c.1+s.N,if s.Kind=0 then c.2+s.N else c.2):=rfl
def BK:Ao Unit Int→Int
 | .nrm _=>-1
 | .ext x=>x
theorem aH (a:List AG) (p:Int) (hg:FO a) (h0:0≤p) (hp:p≤2147483647):LX a p=some (BK (CK p a (0,0))):=by
 unfold LX
 rw [CY (f:=fun (a_1:Int × Int × Int)=>Ix a p a_1.1 a_1.2.1 a_1.2.2) a (fun (c:Int × Int) k=>(c.1,c.2,(k:Int))) (CK p) (fun k c=>FG a k c.1 c.2)
  (fun k c hk hI=>by
   have hs:=IF hg.stp hk
   have hnx:=hI.nx hg hk
   have hgl:=hg.len
   unfold Ix
   rw [E7]
   simp only
   rw [if_pos (by simpa using hk),Af hk,AE,An (by omega)]
   obtain ⟨f,t⟩:=c
   simp only at hnx ⊢
   generalize a[k]! = x at hs hnx ⊢
   obtain ⟨q1,q2,q3,q4,q5,q6,q7⟩:=hnx
   unfold A1 at hs
   simp only [BU,BW] at q7
   rw [Bf (x:=t+x.N) (by omega) (by omega),Bf (x:=f+x.N) (by omega) (by omega),Bf (x:=t+p) (by omega) (by omega)]
   simp only [AE]
   rw [Bf (x:=t+p-f) (by omega) (by omega)]
   by_cases d1:x.Kind=1
   ·left
    refine ⟨(f,t+x.N),?_,?_,?_⟩
    ·simp [d1]
    ·exact q7 _ _ (by simp [d1]) (by simp [d1]) (by simp [d1]; omega) (by simp [d1])
    ·simp [d1]
   ·by_cases d0:x.Kind=0
    ·by_cases d2:p<f+x.N
     ·right; simp [d0,d2]
     ·left
      refine ⟨(f+x.N,t+x.N),?_,?_,?_⟩
      ·simp [d0,d2]
      ·exact q7 _ _ (by simp [d0]; omega) (by simp [d0]) (by simp [d0]; omega) (by simp [d0])
      ·simp [d0,d2]
    ·by_cases d2:p<f+x.N
     ·right; simp [d0,d1,d2]
     ·left
      refine ⟨(f+x.N,t),?_,?_,?_⟩
      ·simp [d0,d1,d2]
      ·exact q7 _ _ (by simp [d1]; omega) (by simp [d1]) (by simp) (by simp; split <;> omega)
      ·simp [d0,d1,d2])
  (fun c hI=>by unfold Ix; rw [if_neg (by simp)]; rfl) (0,0) hg.run (0,0,0) rfl]
 cases CK p a (0,0) <;> rfl
theorem Jo {o:List Int} {x:Int} (h:o.length+1≤1099511627776):A9 8 o [x]=some (o++[x]):=by
 unfold A9; rw [if_pos (by simp; omega)]
def Im (a:List AG) (r:Int):List Int→List Int→Ao (List Int) (List Int × Int)
 | [],out=>.nrm out
 | x :: l,out=>if x<0∨r≤x then .ext ([],2) else Im a r l (out++[BK (CK x a (0,0))])
theorem Tx (a:List AG) (r x:Int) (l out:List Int):Im a r (x :: l) out=if x<0∨r≤x then .ext ([],2) else Im a r l (out++[BK (CK x a (0,0))]):=rfl
theorem Tg (a:List AG) (ps:List Int) (hm:a.length≤9223372036854775807) (hp:ps.length≤1048576):E4 a ps=if Av a≠0 then some ([],Av a) else Ay (some (Im a (Ah a) ps [])) fun out=>some (out,0):=by
 unfold E4
 rw [JD a (by omega),AE]
 by_cases he:Av a=0
 ·have hg:=CX he
  have hl:=Hy hg.stp
  have hol:=hg.olds
  rw [he,if_neg (by decide),if_neg (by simp),Sv a hg,BD]
  rw [CY (f:=fun (a_1:Int × List Int)=>JL a ps (Ah a) a_1.1 a_1.2) ps (fun (c:List Int) k=>((k:Int),c)) (Im a (Ah a)) (fun k c=>c.length≤k)
   (fun k c hk hI=>by
    unfold JL
    rw [Tx]
    simp only
    rw [if_pos (by simpa using hk),Af hk,AE,An (by omega)]
    generalize ps[k]! = x
    by_cases d:x<0∨Ah a≤x
    ·right
     rw [if_pos d,if_pos (by simpa using d)]
    ·left
     rw [if_neg d,if_neg (by simpa using d),aH a x hg (by omega) (by omega),AE,Jo (by omega)]
     exact ⟨_,rfl,by simp; omega,rfl⟩)
   (fun c hI=>by unfold JL; rw [if_neg (by simp)]; rfl) [] (by simp) (0,[]) rfl]
 ·rw [if_pos (by simpa using he),if_pos he]
def A8 (a:List AG):Int:=(a.map (·.N)).sum
theorem FL (s:AG) (a:List AG):A8 (s :: a)=s.N+A8 a:=by simp [A8]
theorem TH (a:List AG) (h : ∀ s∈a,A1 s) (hm:(a.length:Int)≤4294967294):JY a=some (A8 a):=by
 unfold JY
 rw [CY (f:=fun (a_1:Int × Int)=>It a a_1.1 a_1.2) a (fun (c:Int) k=>(c,(k:Int))) (fun l (c:Int)=>c+A8 l) (fun k c=>0≤c∧c≤k * 2147483647)
  (fun k c hk hI=>by
   left
   have hs:=IF h hk
   unfold It
   simp only
   rw [if_pos (by simpa using hk),Af hk,AE,An (by omega)]
   simp only [FL]
   generalize a[k]! = x at hs ⊢
   unfold A1 at hs
   rw [Bf (by omega) (by omega)]
   exact ⟨_,rfl,by omega,by omega⟩)
  (fun c hI=>by unfold It; rw [if_neg (by simp)]; simp [A8]) 0 (by simp) (0,0) rfl]
 simp
def Do (a:List AG):List Int:=a.flatMap fun s=>List.replicate s.N.toNat s.Kind
theorem MS (s:AG) (a:List AG):Do (s :: a)=List.replicate s.N.toNat s.Kind++Do a:=rfl
theorem Oy {a:List AG} (h : ∀ s∈a,A1 s):0≤A8 a∧((Do a).length:Int)=A8 a∧(a.length:Int)≤A8 a:=by
 induction a with
 | nil=>simp [Do,A8]
 | cons s a ih=>
  have h1:=ih fun x hx=>h x (List.mem_cons_of_mem _ hx)
  have h2:=h s (List.mem_cons_self ..)
  unfold A1 at h2
  rw [FL,MS,List.length_append,List.length_replicate,List.length_cons]
  omega
theorem UI {a:List AG} {k:Nat} (h:k<a.length):A8 (a.drop k)=a[k]!.N+A8 (a.drop (k+1)):=by rw [Hw h,FL]
theorem Y6 (x:AG) (out:List Int) (hx:A1 x) (hb:(out.length:Int)+x.N≤1099511627776):iter (fun (a:Int × (List Int))=>Fa x a.1 a.2) (0,out)=some (out++List.replicate x.N.toNat x.Kind):=by
 unfold A1 at hx
 obtain ⟨b,hb1,hq⟩:=DY (f:=fun (a:Int × (List Int))=>Fa x a.1 a.2) x.N.toNat (fun k s=>s=((k:Int),out++List.replicate k x.Kind)) (fun b=>b=out++List.replicate x.N.toNat x.Kind)
  (fun k s hk hR=>by
   subst hR
   left
   unfold Fa
   simp only
   rw [if_pos (by simp; omega),Jo (by simp; omega),AE,An (by omega),AE]
   exact ⟨_,rfl,by rw [List.append_assoc,← List.replicate_succ']⟩)
  (fun s hR=>by
   subst hR
   unfold Fa
   exact ⟨_,by rw [if_neg (by simp; omega)],rfl⟩) (s:=(0,out)) (by simp)
 rw [hb1,hq]
theorem TF (a:List AG) (h : ∀ s∈a,A1 s) (hm:A8 a≤1073741824):HO a=some (Do a):=by
 have hsz:=Oy h
 unfold HO
 rw [CY (f:=fun (a_1:Int × List Int)=>Ep a a_1.1 a_1.2) a (fun (c:List Int) k=>((k:Int),c)) (fun l c=>c++Do l) (fun k c=>(c.length:Int)+A8 (a.drop k)≤1073741824)
  (fun k c hk hI=>by
   left
   have hs:=IF h hk
   unfold Ep
   simp only
   rw [UI hk] at hI
   have hd:=Oy (a:=a.drop (k+1)) (fun s hs=>h s (List.mem_of_mem_drop hs))
   rw [if_pos (by simpa using hk),Af hk,AE,An (by omega),Y6 _ _ hs (by omega),AE,AE]
   refine ⟨_,rfl,?_,?_⟩
   ·unfold A1 at hs
    rw [List.length_append,List.length_replicate]
    omega
   ·simp only [MS,List.append_assoc])
  (fun c hI=>by unfold Ep; rw [if_neg (by simp)]; simp [Do]) [] (by simpa using hm) (0,[]) rfl]
 simp
def BQ:List Int→Int→List Int
 | [],_=>[]
 | u :: us,o=>if u=0 then o :: BQ us (o+1) else if u=1 then -1 :: BQ us o else BQ us (o+1)
def Ei:List Int→Int→List Int
 | [],_=>[]
 | u :: us,o=>if u=0 then o :: Ei us (o+1) else if u=1 then o :: Ei us o else Ei us (o+1)
theorem NQ (us:List Int) (o:Int):(BQ us o).length≤us.length∧(Ei us o).length=(BQ us o).length:=by
 induction us generalizing o with
 | nil=>simp [BQ,Ei]
 | cons u us ih=>
  have h1:=ih o
  have h2:=ih (o+1)
  unfold BQ Ei
  split
  ·simp only [List.length_cons]; omega
  ·split <;> simp only [List.length_cons] <;> omega
theorem Oh (us:List Int) (hm:us.length≤1099511627776):IH us=some (BQ us 0,Ei us 0):=by
 unfold IH
 rw [CY (f:=fun (a_1:Int × Int × List Int × List Int)=>I0 us a_1.1 a_1.2.1 a_1.2.2.1 a_1.2.2.2) us (fun (c:Int × List Int × List Int) k=>(c.1,(k:Int),c.2.1,c.2.2)) (fun l c=>(c.2.1++BQ l c.1,c.2.2++Ei l c.1)) (fun k c=>0≤c.1∧c.1≤k∧c.2.1.length≤k∧c.2.2.length≤k)
  (fun k c hk hI=>by
   left
   obtain ⟨o,ro,ah⟩:=c
   unfold I0
   simp only at hI ⊢
   rw [if_pos (by simpa using hk),Af hk,AE,An (by omega),Bf (x:=o+1) (by omega) (by omega)]
   generalize us[k]! = u
   by_cases d0:u=0
   ·subst d0
    rw [Jo (by omega),Jo (by omega)]
    refine ⟨(o+1,ro++[o],ah++[o]),by simp,by simp; omega,by simp [BQ,Ei]⟩
   ·by_cases d1:u=1
    ·subst d1
     rw [Jo (o:=ro) (x:=-1) (by omega),Jo (o:=ah) (by omega)]
     refine ⟨(o,ro++[-1],ah++[o]),by simp,by simp; omega,by simp [BQ,Ei]⟩
    ·refine ⟨(o+1,ro,ah),by simp [d0,d1],by simp; omega,by simp [BQ,Ei,d0,d1]⟩)
  (fun c hI=>by unfold I0; rw [if_neg (by simp)]; simp [BQ,Ei]) (0,[],[]) (by simp) (0,0,[],[]) rfl]
 simp
def Bi (r:Int):List Int→Int→Ao Unit Int
 | [],_=>.nrm ()
 | x :: xs,i=>if x=r then .ext i else Bi r xs (i+1)
theorem bt (r:Int) (l:List Int) (hm:l.length≤1099511627776):iter (fun (a:Int)=>IQ r l a) 0=some (Bi r l 0):=by
 obtain ⟨b,hb,hq⟩:=DY (f:=fun (a:Int)=>IQ r l a) l.length (fun k s=>s=(k:Int)∧Bi r (l.drop k) (k:Int)=Bi r l 0) (fun b=>b=Bi r l 0)
  (fun k s hk hR=>by
   obtain ⟨rfl,hw⟩:=hR
   unfold IQ
   rw [Hw hk,Bi] at hw
   rw [if_pos (by simpa using hk),Af hk,AE,An (by omega)]
   generalize l[k]! = x at hw ⊢
   by_cases d:x=r
   ·right; rw [if_pos d] at hw; exact ⟨_,by simp [d],hw⟩
   ·left; rw [if_neg d] at hw; exact ⟨_,by rw [if_neg (by simpa using d)]; rfl,rfl,hw⟩)
  (fun s hR=>by
   obtain ⟨rfl,hw⟩:=hR
   rw [List.drop_length,Bi] at hw
   unfold IQ
   exact ⟨_,by rw [if_neg (by simp)],hw⟩) (s:=0) (by simp)
 rw [hb,hq]
theorem bH (us:List Int) (r:Int) (hm:us.length≤1099511627776):Lt us r=some (BK (Bi r (BQ us 0) 0)):=by
 unfold Lt
 have:=NQ us 0
 rw [Oh us hm,BD,bt r _ (by omega)]
 cases Bi r (BQ us 0) 0 <;> rfl
def GK (c:Int):Bool:=decide (c=9) || decide (c=10) || (decide (32≤c) && decide (c≤126)) || (decide (160≤c) && decide (c≤55295)) || (decide (57344≤c) && decide (c≤1114111))
def XV (x:D9):Int:=
 if (x.Char=0∧x.Ref=0)∨(x.Char≠0∧x.Ref≠0) then 4 else if (x.Char≠0∧GK x.Char=false)∨(x.Ref≠0 ∧ ¬ (1≤x.Ref∧x.Ref≤1073741824)) then 2 else GS x.Attrs false
theorem VM (c:Int):KR c=some (GK c):=by
 unfold KR GK
 congr 1
 rw [Bool.eq_iff_iff]
 simp only [Bool.or_eq_true,Bool.and_eq_true,decide_eq_true_eq]
 omega
theorem ZJ (c:Int):Lr c=some (GK c):=by
 unfold Lr GK
 rw [I1,I1,I1]
 generalize decide (c=9)=a1
 generalize decide (c=10)=a2
 generalize (decide (32≤c) && decide (c≤126))=a3
 generalize (decide (160≤c) && decide (c≤55295))=a4
 generalize (decide (57344≤c) && decide (c≤1114111))=a5
 cases a1 <;> cases a2 <;> cases a3 <;> cases a4 <;> cases a5 <;> rfl
def UO:List UInt8:=[104,105,100,100,101,110]
def YE:List UInt8:=[111,110]
def X5:List UInt8:=[99,117,116]
def ZX:List UInt8:=[97,100,100]
def PY (x:D9) (mode:Int):Bool:=decide (Oa x.Attrs UO=YE) || (decide (mode=0) && !decide (Oa x.Attrs X5=[])) || (decide (mode=1) && !decide (Oa x.Attrs ZX=[]))
def seen (f:List D9) (mode:Int) (k:Nat):Bool:=!PY f[k]! mode || (decide (k+1=f.length) && decide (f[k]!.Char=10))
theorem Dn {p:Prop} [Decidable p] (h : ¬ p):(!decide p)=true:=by simp [h]
theorem Dd {p:Prop} [Decidable p] (h:p) : ¬ ((!decide p)=true):=by simp [h]
def Kh (l:List Ak):Prop:=l.length≤1073741824∧HM l
inductive Un where
 | a (e:D9)
 | r (cut:Bool) (at_:List Ak)
def Un.isR:Un→Bool
 | .a _=>false
 | .r _ _=>true
def Cr (us:List Un):Nat:=us.countP Un.isR
theorem KJ {o:List AG} {x:AG} (h:o.length+1≤1099511627776):A9 16 o [x]=some (o++[x]):=by
 unfold A9; rw [if_pos]; simp only [List.length_singleton]; omega
theorem WV {α:Type} {l:List α} {k:Nat} {x:α} : l.set ((k:Int).toNat) x=l.set k x:=by simp
theorem ZS {l:List Ak} (h:l.length≤1073741824):A9 32 [] l=some l:=by
 unfold A9; rw [if_pos]; rfl; simp; omega
theorem bN {α:Type} (l:List α) (n:Int) (h0:0≤n) (h:n≤l.length):CG l 0 n=some (l.take n.toNat):=by
 unfold CG; rw [if_pos (by omega)]; simp
theorem Sq {α:Type} (l:List α) (n:Int) (h0:0≤n) (h:n≤l.length):CG l n (l.length:Int)=some (l.drop n.toNat):=by
 unfold CG; rw [if_pos (by omega)]
 congr 1
 rw [List.take_of_length_le]
 simp
def cu (u:Un):Prop:=match u with
 | .a e=>XV e=0∧Kh e.Attrs
 | .r c t=>(c=false→GS t true=0)∧Kh t
def HK:Un→Bool
 | .a _=>true
 | .r c _=>!c
def DJ (us:List Un):Nat:=us.countP HK
theorem Tr:Kh []:=⟨by simp,fun a ha=>by simp at ha⟩
theorem aD {α:Type} [Inhabited α] [DecidableEq α] {a b:List α} (hl:a.length=b.length) (h:((List.range a.length).all fun k=>decide (a[k]! = b[k]!))=true):a=b:=by
 apply List.ext_getElem hl
 intro k h1 h2
 have:=List.all_eq_true.1 h k (List.mem_range.2 h1)
 simp only [decide_eq_true_eq] at this
 rwa [getElem!_pos a k h1,getElem!_pos b k h2] at this
theorem WG {α:Type} [Inhabited α] [DecidableEq α] (a:List α):((List.range a.length).all fun k=>decide (a[k]! = a[k]!))=true:=by
 rw [List.all_eq_true]; intro k _; rw [decide_eq_true rfl]
theorem TE {κ:Ak→Nat} (h3 : ∀ a,a.Name.length+a.Value.length+1≤κ a) {l:List Ak} (hb:(l.map κ).sum≤1048576):Kh l:=by
 have h1:=Ew (μ:=κ) (fun a=>by have:=h3 a; omega) l
 refine ⟨by omega,fun a ha=>?_⟩
 have h2:=Ov (μ:=κ) ha
 have:=h3 a
 omega
theorem WJ (n:Nat) (us:List Int) (f p t:Int) (h:f≤p):BK (Bi p (BQ (List.replicate n 0++us) f) t)=if p<f+n then t+p-f else BK (Bi p (BQ us (f+n)) (t+n)):=by
 induction n generalizing f t with
 | zero=>rw [if_neg (by simp; omega)]; simp
 | succ n ih=>
  rw [List.replicate_succ,List.cons_append,BQ,if_pos rfl,Bi]
  by_cases e:f=p
  ·rw [if_pos e,if_pos (by omega)]; show t=_; omega
  ·rw [if_neg e,ih (f+1) (t+1) (by omega)]
   rw [show f+1+(n:Int)=f+((n+1:Nat):Int) by omega,show t+1+(n:Int)=t+((n+1:Nat):Int) by omega,show t+1+p-(f+1)=t+p-f by omega]
theorem VO (n:Nat) (us:List Int) (f p t:Int) (h:0≤p):Bi p (BQ (List.replicate n 1++us) f) t=Bi p (BQ us f) (t+n):=by
 induction n generalizing t with
 | zero=>simp
 | succ n ih=>
  rw [List.replicate_succ,List.cons_append,BQ,if_neg (by decide),if_pos rfl,Bi,if_neg (by omega),ih,show t+1+(n:Int)=t+((n+1:Nat):Int) by omega]
theorem U0 (n:Nat) (us:List Int) (f:Int):BQ (List.replicate n 2++us) f=BQ us (f+n):=by
 induction n generalizing f with
 | zero=>simp
 | succ n ih=>
  rw [List.replicate_succ,List.cons_append,BQ,if_neg (by decide),if_neg (by decide),ih,show f+1+(n:Int)=f+((n+1:Nat):Int) by omega]
theorem bA (us:List Int) (f p t:Int) (h0:0≤p) (h:p<f):Bi p (BQ us f) t = .nrm ():=by
 induction us generalizing f t with
 | nil=>rfl
 | cons u us ih=>
  rw [BQ]
  split
  ·rw [Bi,if_neg (by omega)]; exact ih _ _ (by omega)
  ·split
   ·rw [Bi,if_neg (by omega)]; exact ih _ _ (by omega)
   ·exact ih _ _ (by omega)
theorem R6 (a:List AG) (h : ∀ s∈a,A1 s) (f p t:Int) (h0:0≤p) (hp:f≤p):BK (Bi p (BQ (Do a) f) t)=BK (CK p a (f,t)):=by
 induction a generalizing f t with
 | nil=>rfl
 | cons s a ih=>
  have hs:=h s (List.mem_cons_self ..)
  have hr : ∀ s∈a,A1 s:=fun x hx=>h x (List.mem_cons_of_mem _ hx)
  unfold A1 at hs
  have hn:((s.N.toNat:Nat):Int)=s.N:=by omega
  rw [MS,E7]
  by_cases d1:s.Kind=1
  ·rw [if_pos d1,d1,VO _ _ _ _ _ h0,hn]; exact ih hr _ _ hp
  ·rw [if_neg d1]
   by_cases d0:s.Kind=0
   ·rw [d0,WJ _ _ _ _ _ hp,hn]
    simp only [if_true]
    split
    ·rfl
    ·exact ih hr _ _ (by omega)
   ·have d2:s.Kind=2:=by omega
    rw [d2,U0,hn]
    simp only [show ¬ ((2:Int)=0) by decide,if_false]
    by_cases e:p<f+s.N
    ·rw [if_pos e,bA _ _ _ _ h0 e]; rfl
    ·rw [if_neg e]; exact ih hr _ _ (by omega)
theorem SJ (a:List AG) (hm:a.length≤9223372036854775807):Lf a=some (if Av a≠0 then (0,0,Av a) else (Ah a,Am a,0)):=by
 unfold Lf
 rw [JD a hm,AE]
 by_cases he:Av a=0
 ·rw [if_neg (show ¬ ((!decide (Av a=0))=true) by simpa using he),if_neg (show ¬ (Av a≠0) by simpa using he),Sv a (CX he),BD]
 ·rw [if_pos (by simpa using he),if_pos he]
def CZ (l:List AG) (n:Int):List AG:=
 if 0<l.length∧l[l.length-1]!.Kind=0 then l.set (l.length-1) ⟨l[l.length-1]!.Kind,l[l.length-1]!.N+n⟩ else l++[⟨0,n⟩]
def BP (w:Ar):List AG:=(if 0<w.add then w.out++[⟨1,w.add⟩] else w.out)++(if 0<w.cut then [⟨2,w.cut⟩] else [])
def Lj (w:Ar) (k n:Int):Ar:=if n=0 then w else if k=1 then ⟨w.out,w.add+n,w.cut⟩ else if k=2 then ⟨w.out,w.add,w.cut+n⟩ else ⟨CZ (BP w) n,0,0⟩
def wU (w:Ar):Un→Ar
 | .a _=>⟨w.out,w.add+1,w.cut⟩
 | .r true _=>⟨w.out,w.add,w.cut+1⟩
 | .r false _=>⟨CZ (BP w) 1,0,0⟩
def xE:D9:=⟨120,0,[]⟩
def Ex (k:Int):Un:=if k=1 then .a xE else .r (decide (k=2)) []
theorem PV (a b:List AG):A8 (a++b)=A8 a+A8 b:=by simp [A8]
def Gh (l:List AG):Prop:=∀ k,k+1<l.length→l[k]!.Kind≠l[k+1]!.Kind ∧ ¬ (l[k]!.Kind=2∧l[k+1]!.Kind=1)
theorem N8 {l:List AG} {s:AG} {k:Nat} (h:k<l.length):(l++[s])[k]! = l[k]!:=by
 rw [getElem!_pos (l++[s]) k (by simp; omega),getElem!_pos l k h,List.getElem_append_left h]
theorem NF {l:List AG} {s:AG} : (l++[s])[l.length]! = s:=by
 rw [getElem!_pos (l++[s]) l.length (by simp)]; simp
theorem PS {l:List AG} {s:AG} (h:Gh l) (hs:0<l.length→l[l.length-1]!.Kind≠s.Kind ∧ ¬ (l[l.length-1]!.Kind=2∧s.Kind=1)):Gh (l++[s]):=by
 intro k hk
 simp only [List.length_append,List.length_singleton] at hk
 by_cases hkl:k+1<l.length
 ·rw [N8 (by omega),N8 hkl]; exact h k hkl
 ·have:k+1=l.length:=by omega
  rw [N8 (by omega),this,NF]
  have hs':=hs (by omega)
  rwa [show l.length-1=k by omega] at hs'
theorem W5 {l:List AG} {i:Nat} {s:AG} (h:Gh l) (hi:i<l.length) (hs:s.Kind=l[i]!.Kind):Gh (l.set i s):=by
 intro k hk
 rw [List.length_set] at hk
 have e : ∀ j,j<l.length→(l.set i s)[j]!.Kind=l[j]!.Kind:=fun j hj=>by
  rw [getElem!_pos (l.set i s) j (by simpa using hj),getElem!_pos l j hj,List.getElem_set]
  split
  ·rename_i hij; subst hij; rw [hs,getElem!_pos l i hj]
  ·rfl
 rw [e k (by omega),e (k+1) hk]
 exact h k hk
theorem P4 : ∀ {l:List AG} {i:Nat} {s:AG},i<l.length→A8 (l.set i s)=A8 l-l[i]!.N+s.N
 | x :: l,0,s,_=>by rw [List.set_cons_zero,FL,FL]; show _=_-x.N+s.N; omega
 | x :: l,i+1,s,h=>by
  rw [List.set_cons_succ,FL,FL,P4 (l:=l) (by simpa using h)]
  show _=_-l[i]!.N+s.N
  omega
def Gn (s:AG):Prop:=0≤s.Kind∧s.Kind≤2∧1≤s.N
theorem JO : ∀ {l:List AG},(∀ s∈l,Gn s)→(l.length:Int)≤A8 l ∧ ∀ s∈l,s.N≤A8 l
 | [],_=>by simp [A8]
 | x :: l,h=>by
  obtain ⟨h1,h2⟩:=JO (l:=l) fun s hs=>h s (List.mem_cons_of_mem _ hs)
  have hx:=(h x (List.mem_cons_self ..)).2.2
  rw [FL,List.length_cons]
  refine ⟨by omega,fun s hs=>?_⟩
  rcases List.mem_cons.1 hs with rfl | hs
  ·omega
  ·have:=h2 s hs; omega
structure WB (m:Int) (w:Ar):Prop where
 a0:0≤w.add
 c0:0≤w.cut
 ok : ∀ s∈w.out,Gn s
 sum:A8 w.out+w.add+w.cut=m
 adj:Gh w.out
 last:0<w.out.length→w.out[w.out.length-1]!.Kind=0
theorem SW:WB 0 ⟨[],0,0⟩:=⟨by decide,by decide,by simp,by simp [A8],fun k hk=>by simp at hk,fun h=>by simp at h⟩
theorem MW {m:Int} {w:Ar} (h:WB m w):(∀ s∈BP w,Gn s)∧A8 (BP w)=m∧Gh (BP w):=by
 have h1:=h.sum
 have ha:=h.a0
 have hc:=h.c0
 have key : ∃ l,l=(if 0<w.add then w.out++[⟨1,w.add⟩] else w.out)∧(∀ s∈l,Gn s)∧A8 l=A8 w.out+w.add∧Gh l∧(0<l.length→l[l.length-1]!.Kind≠2):=by
  refine ⟨_,rfl,?_⟩
  by_cases h0:0<w.add
  ·rw [if_pos h0]
   refine ⟨fun s hs=>?_,by rw [PV]; simp [A8],PS h.adj fun hl=>?_,fun _=>?_⟩
   ·rcases List.mem_append.1 hs with h2 | h2
    ·exact h.ok s h2
    ·have:s=⟨1,w.add⟩:=by simpa using h2
     subst this; exact ⟨by simp,by simp,by simp only; omega⟩
   ·rw [h.last hl]; simp
   ·rw [show (w.out++[(⟨1,w.add⟩:AG)]).length-1=w.out.length by simp,NF]; simp
  ·rw [if_neg h0]
   exact ⟨h.ok,by omega,h.adj,fun hl=>by rw [h.last hl]; decide⟩
 obtain ⟨l,hl,k1,k2,k3,k4⟩:=key
 unfold BP
 rw [← hl]
 by_cases h0:0<w.cut
 ·rw [if_pos h0]
  refine ⟨fun s hs=>?_,by rw [PV]; simp [A8]; simp [A8] at k2 h1; omega,PS k3 fun hl=>⟨k4 hl,by simp⟩⟩
  rcases List.mem_append.1 hs with h2 | h2
  ·exact k1 s h2
  ·have:s=⟨2,w.cut⟩:=by simpa using h2
   subst this; exact ⟨by simp,by simp,by simp only; omega⟩
 ·rw [if_neg h0,List.append_nil]
  exact ⟨k1,by omega,k3⟩
theorem VR {l:List AG} {n:Int} (h1 : ∀ s∈l,Gn s) (h2:Gh l) (hn:1≤n):(∀ s∈CZ l n,Gn s)∧A8 (CZ l n)=A8 l+n∧Gh (CZ l n)∧0<(CZ l n).length∧(CZ l n)[(CZ l n).length-1]!.Kind=0:=by
 unfold CZ
 split
 ·rename_i hc
  have hlt:l.length-1<l.length:=by omega
  have hm:=h1 _ (Bx hlt)
  refine ⟨fun s hs=>?_,?_,W5 h2 hlt rfl,by rw [List.length_set]; omega,?_⟩
  ·rcases List.mem_or_eq_of_mem_set hs with h3 | h3
   ·exact h1 s h3
   ·subst h3; exact ⟨hm.1,hm.2.1,by have:=hm.2.2; simp only; omega⟩
  ·rw [P4 hlt]; simp only; omega
  ·rw [List.length_set,getElem!_pos _ _ (by simpa using hlt),List.getElem_set_self]; exact hc.2
 ·rename_i hc
  refine ⟨fun s hs=>?_,by rw [PV]; simp [A8],PS h2 fun hl=>⟨fun h=>hc ⟨hl,h⟩,by simp⟩,by simp,?_⟩
  ·rcases List.mem_append.1 hs with h3 | h3
   ·exact h1 s h3
   ·have:s=⟨0,n⟩:=by simpa using h3
    subst this; exact ⟨by simp,by simp,hn⟩
  ·rw [show (l++[(⟨0,n⟩:AG)]).length-1=l.length by simp,NF]
theorem OH {m:Int} {w:Ar} (h:WB m w) (u:Un):WB (m+1) (wU w u):=by
 have hs:=h.sum
 have ha:=h.a0
 have hc:=h.c0
 match u with
 | .a e=>exact ⟨by show 0≤w.add+1; omega,hc,h.ok,by show A8 w.out+(w.add+1)+w.cut=_; omega,h.adj,h.last⟩
 | .r true t=>exact ⟨ha,by show 0≤w.cut+1; omega,h.ok,by show A8 w.out+w.add+(w.cut+1)=_; omega,h.adj,h.last⟩
 | .r false t=>
  obtain ⟨k1,k2,k3⟩:=MW h
  obtain ⟨j1,j2,j3,j4,j5⟩:=VR (n:=1) k1 k3 (by omega)
  exact ⟨by show (0:Int)≤0; omega,by show (0:Int)≤0; omega,j1,by show A8 (CZ (BP w) 1)+0+0=_; omega,j3,fun _=>j5⟩
theorem SH : ∀ {us:List Un} {m:Int} {w:Ar},WB m w→WB (m+us.length) (us.foldl wU w)
 | [],m,w,h=>by simpa using h
 | u :: us,m,w,h=>by
  have:=SH (us:=us) (OH h u)
  rw [List.foldl_cons,List.length_cons,show m+((us.length+1:Nat):Int)=m+1+us.length by omega]
  exact this
theorem VE (l:List AG):BP ⟨l,0,0⟩=l:=by simp [BP]
theorem Wt (l:List AG) (m n:Int):CZ (CZ l m) n=CZ l (m+n):=by
 have e1:CZ l m=CZ l m:=rfl
 unfold CZ
 by_cases hc:0<l.length∧l[l.length-1]!.Kind=0
 ·have hlt:l.length-1<l.length:=by omega
  have hg:(l.set (l.length-1) (⟨l[l.length-1]!.Kind,l[l.length-1]!.N+m⟩:AG))[l.length-1]! = ⟨l[l.length-1]!.Kind,l[l.length-1]!.N+m⟩:=by
   rw [getElem!_pos _ _ (by simpa using hlt),List.getElem_set_self]
  rw [if_pos hc,if_pos hc,List.length_set,hg,if_pos ⟨hc.1,hc.2⟩,List.set_set]
  simp only [Int.add_assoc]
 ·rw [if_neg hc,if_neg hc]
  rw [show (l++[(⟨0,m⟩:AG)]).length-1=l.length by simp,NF,if_pos ⟨by simp,rfl⟩]
  simp
theorem Wy (w:Ar) (k n:Int) (h:0≤n):Lj w k n=(List.replicate n.toNat (Ex k)).foldl wU w:=by
 have hA : ∀ (j:Nat) (w:Ar),(List.replicate j (Un.a xE)).foldl wU w=⟨w.out,w.add+j,w.cut⟩:=by
  intro j
  induction j with
  | zero=>intro w; simp
  | succ j ih=>intro w; rw [List.replicate_succ,List.foldl_cons,ih]; simp only [wU]; congr 1; omega
 have hC : ∀ (j:Nat) (w:Ar),(List.replicate j (Un.r true [])).foldl wU w=⟨w.out,w.add,w.cut+j⟩:=by
  intro j
  induction j with
  | zero=>intro w; simp
  | succ j ih=>intro w; rw [List.replicate_succ,List.foldl_cons,ih]; simp only [wU]; congr 1; omega
 have hK : ∀ (j:Nat) (l:List AG) (n:Int),(List.replicate j (Un.r false [])).foldl wU ⟨CZ l n,0,0⟩=⟨CZ l (n+j),0,0⟩:=by
  intro j
  induction j with
  | zero=>intro l n; simp
  | succ j ih=>
   intro l n
   rw [List.replicate_succ,List.foldl_cons]
   simp only [wU,VE]
   rw [Wt,ih,show n+1+(j:Int)=n+((j+1:Nat):Int) by omega]
 unfold Lj Ex
 by_cases hn:n=0
 ·subst hn; simp
 ·rw [if_neg hn]
  by_cases h1:k=1
  ·rw [if_pos h1,if_pos h1,hA,show ((n.toNat:Nat):Int)=n by omega]
  ·rw [if_neg h1,if_neg h1]
   by_cases h2:k=2
   ·rw [if_pos h2,decide_eq_true h2,hC,show ((n.toNat:Nat):Int)=n by omega]
   ·rw [if_neg h2,decide_eq_false h2]
    obtain ⟨j,hj⟩ : ∃ j,n.toNat=j+1:=⟨n.toNat-1,by omega⟩
    rw [hj,List.replicate_succ,List.foldl_cons]
    simp only [wU]
    rw [hK,show (1:Int)+j=n by omega]
theorem QV {m:Int} {w:Ar} (h:WB m w) (hm:m≤1000000000000):Ii w=some ⟨BP w,0,0⟩:=by
 have hs:=h.sum
 have ha:=h.a0
 have hc:=h.c0
 have hl:=(JO h.ok).1
 unfold Ii BP
 by_cases h1:0<w.add
 ·rw [if_pos (by rw [decide_eq_true_eq]; exact h1),KJ (by omega),if_pos h1]
  simp only [AE]
  by_cases h2:0<w.cut
  ·rw [if_pos (by rw [decide_eq_true_eq]; exact h2),KJ (by rw [List.length_append,List.length_singleton]; omega),if_pos h2]; rfl
  ·rw [if_neg (by rw [decide_eq_true_eq]; exact h2),if_neg h2,List.append_nil]; rfl
 ·rw [if_neg (by rw [decide_eq_true_eq]; exact h1),if_neg h1]
  simp only [AE]
  by_cases h2:0<w.cut
  ·rw [if_pos (by rw [decide_eq_true_eq]; exact h2),KJ (by omega),if_pos h2]; rfl
  ·rw [if_neg (by rw [decide_eq_true_eq]; exact h2),if_neg h2,List.append_nil]; rfl
theorem aA {m:Int} {w:Ar} (h:WB m w) (hm:m≤100000000000) (k n:Int) (h0:0≤n) (hn:n≤100000000000):JC w k n=some (Lj w k n):=by
 have hs:=h.sum
 have ha:=h.a0
 have hc:=h.c0
 have hz:=JO h.ok
 unfold JC Lj
 by_cases hn0:n=0
 ·rw [if_pos (by rw [decide_eq_true_eq]; exact hn0),if_pos hn0]
 ·rw [if_neg (by rw [decide_eq_true_eq]; exact hn0),if_neg hn0]
  by_cases h1:k=1
  ·rw [if_pos (by rw [decide_eq_true_eq]; exact h1),if_pos h1,Be (by omega) (by omega),AE]
  ·rw [if_neg (by rw [decide_eq_true_eq]; exact h1),if_neg h1]
   by_cases h2:k=2
   ·rw [if_pos (by rw [decide_eq_true_eq]; exact h2),if_pos h2,Be (by omega) (by omega),AE]
   ·rw [if_neg (by rw [decide_eq_true_eq]; exact h2),if_neg h2,QV h (by omega),AE]
    obtain ⟨k1,k2,k3⟩:=MW h
    have hl:=JO k1
    simp only
    generalize BP w=l at k1 k2 k3 hl
    unfold CZ
    by_cases hl0:0<l.length
    ·have e1:AM .i64 ((l.length:Int)-1)=some ((l.length-1:Nat):Int):=by rw [Be (by omega) (by omega)]; congr 1; omega
     have d0:decide (0≤(((l.length-1:Nat)):Int))=true:=by simp
     rw [e1,AE,d0,show (true == true)=true from rfl,Ap,Af (l:=l) (by omega),AE,Bool.true_and]
     by_cases hk:l[l.length-1]!.Kind=0
     ·have:=(hl.2 _ (Bx (l:=l) (k:=l.length-1) (by omega)))
      have h3:=(k1 _ (Bx (l:=l) (k:=l.length-1) (by omega))).2.2
      rw [if_pos (by rw [decide_eq_true_eq]; exact hk),AE,Be (by omega) (by omega),AE,if_pos ⟨hl0,hk⟩,WV]
     ·rw [if_neg (by rw [decide_eq_true_eq]; exact hk),KJ (by omega),AE,if_neg (fun h=>hk h.2)]
    ·have hl0':l=[]:=List.eq_nil_of_length_eq_zero (by omega)
     subst hl0'
     rw [show ((([]:List AG).length:Int)-1) = -1 from rfl,show AM .i64 (-1)=some (-1) from Be (by decide) (by decide),AE,
      show decide (0≤(-1:Int))=false by decide,show (false == true)=false from rfl,EH,AE,Bool.false_and,if_neg (by decide),KJ (by simp),AE,if_neg (by simp)]
theorem Xn {m:Int} {w:Ar} (h:WB m w) (hm:m≤1000000000000):LN w=some (if Av (BP w)≠0 then ([],3,⟨BP w,0,0⟩) else (BP w,0,⟨BP w,0,0⟩)):=by
 obtain ⟨k1,k2,k3⟩:=MW h
 have hl:=(JO k1).1
 unfold LN
 rw [QV h hm,AE,JD _ (by simp only; omega),AE]
 by_cases he:Av (BP w)=0
 ·rw [if_neg (by simpa using he),if_neg (by simpa using he)]
 ·rw [if_pos (by simpa using he),if_pos he]
def B9 (a:List AG):List Un:=a.flatMap fun s=>List.replicate s.N.toNat (Ex s.Kind)
theorem Nr (s:AG) (a:List AG):B9 (s :: a)=List.replicate s.N.toNat (Ex s.Kind)++B9 a:=rfl
theorem V9 (n:Nat):List.replicate n (Un.a xE)=(List.replicate n xE).map Un.a:=by simp
theorem Pw:Ex 1 = .a xE:=rfl
theorem R7 {k:Int} (h:k≠1):Ex k = .r (decide (k=2)) []:=by unfold Ex; rw [if_neg h]
theorem WO (a b:List Un):Cr (a++b)=Cr a+Cr b:=by simp [Cr]
theorem ak (n:Nat):Cr (List.replicate n (.a xE))=0:=by simp [Cr,List.countP_replicate,Un.isR]
theorem VH (n:Nat) (c:Bool):Cr (List.replicate n (.r c []))=n:=by simp [Cr,List.countP_replicate,Un.isR]
theorem R9 (a:List AG) (h : ∀ s∈a,A1 s):(Cr (B9 a):Int)=Ah a:=by
 induction a with
 | nil=>rfl
 | cons s a ih=>
  have hs:=h s (List.mem_cons_self ..)
  have h1:=ih fun x hx=>h x (List.mem_cons_of_mem _ hx)
  rw [Nr,WO,Da]
  unfold BU
  unfold A1 at hs
  by_cases hk:s.Kind=1
  ·rw [if_pos hk,hk,Pw,ak]; omega
  ·rw [if_neg hk,R7 hk,VH]; omega
theorem Vq (a:List AG) (h : ∀ s∈a,A1 s):((B9 a).length:Int)=A8 a:=by
 induction a with
 | nil=>rfl
 | cons s a ih=>
  have hs:=h s (List.mem_cons_self ..)
  have h1:=ih fun x hx=>h x (List.mem_cons_of_mem _ hx)
  rw [Nr,List.length_append,List.length_replicate,FL]
  unfold A1 at hs
  omega
theorem aa {a:List AG} (h:FO a):0≤A8 a∧A8 a≤4294967294:=by
 have key : ∀ l:List AG,(∀ s∈l,A1 s)→0≤A8 l∧A8 l≤Ah l+Am l:=by
  intro l
  induction l with
  | nil=>intro _; simp [Ah,Am,A8]
  | cons s l ih=>
   intro h
   have h1:=ih fun x hx=>h x (List.mem_cons_of_mem _ hx)
   have h2:=h s (List.mem_cons_self ..)
   rw [Da,Db,FL]
   unfold BU BW
   unfold A1 at h2
   split <;> split <;> omega
 have h1:=key a h.stp
 have h2:=h.olds
 have h3:=h.nows
 omega
def W0:Ar:=⟨[],0,0⟩
def DU (us:List Un):Ar:=us.foldl wU W0
theorem Us (us:List Un) (k n:Int) (h:0≤n):Lj (DU us) k n=DU (us++List.replicate n.toNat (Ex k)):=by
 rw [Wy _ _ _ h]; unfold DU; rw [List.foldl_append]
theorem OY (us:List Un):WB us.length (DU us):=by
 have:=SH (us:=us) SW
 rwa [Int.zero_add] at this
theorem Wu (us:List Un) (k n:Int) (h:0≤n) (hb:us.length≤100000000000) (hn:n≤100000000000):JC (DU us) k n=some (DU (us++List.replicate n.toNat (Ex k))):=by
 rw [aA (OY us) (by omega) k n h hn,Us us k n h]
theorem Ph (a b:List AG) (hm:a.length≤9223372036854775806):Jj a b=some (decide (a=b)):=by
 unfold Jj
 by_cases hl:a.length=b.length
 ·rw [if_neg (by simp [hl]),Cq (n:=a.length) (fun k=>if decide (a[k]! = b[k]!) then none else some false) (fun k hk=>by
   unfold KL
   rw [if_pos (by simpa using hk),Af hk,Af (by omega),AE,AE,An (by omega)]
   generalize a[k]! = x
   generalize b[k]! = y
   obtain ⟨x1,x2⟩:=x
   obtain ⟨y1,y2⟩:=y
   by_cases h:x1=y1 <;> by_cases h2:x2=y2 <;> simp [h,h2,Ch]) (by unfold KL; rw [if_neg (by simp)]),Lq,Dx]
  by_cases h:a=b
  ·subst h; simp
  ·rw [decide_eq_false h]
   have:((List.range a.length).all fun k=>decide (a[k]! = b[k]!))=false:=by
    rw [← Bool.not_eq_true,List.all_eq_true]
    intro hall
    apply h
    apply List.ext_getElem hl
    intro k h1 h2
    have:=hall k (List.mem_range.2 h1)
    simp only [decide_eq_true_eq] at this
    rwa [getElem!_pos a k h1,getElem!_pos b k h2] at this
   rw [this]; rfl
 ·rw [if_pos (by simp; omega),decide_eq_false (by rintro rfl; exact hl rfl)]
instance:Inhabited Un:=⟨.r false []⟩
def off (n:List UInt8):Ak:=⟨n,[]⟩
theorem VK:Ed.length=256:=by decide +kernel
theorem ZW (s:List UInt8) (k:Nat) (hk:k≤s.length):CG s (k:Int) (s.length:Int)=some (s.drop k):=by
 unfold CG
 rw [if_pos (by omega)]
 congr 1
 rw [List.take_of_length_le (by simp),Int.toNat_natCast]
theorem XY (l:List Ak) (h:l.length≤1073741824):A9 32 ([]:List Ak) l=some l:=by
 unfold A9
 rw [if_pos (by simp only [List.length_nil]; omega)]; rfl
theorem NU {α:Type} [Inhabited α] [DecidableEq α] {f:Int→Option (Int ⊕ Ao Unit Bool)} (a b:List α) (hl:a.length=b.length)
  (h1 : ∀ k:Nat,k<a.length→f k=Ch k (if decide (a[k]! = b[k]!) then none else some false)) (h2:f a.length=some (.inr (.nrm ()))) :
  (Ay (iter f 0) fun (_:Unit)=>some true)=some (decide (a=b)):=by
 rw [Cq (n:=a.length) (fun k=>if decide (a[k]! = b[k]!) then none else some false) h1 h2,Lq,Dx]
 by_cases h:a=b
 ·subst h; rw [WG,decide_eq_true rfl]; rfl
 ·rw [decide_eq_false h]
  have:((List.range a.length).all fun k=>decide (a[k]! = b[k]!))=false:=by
   rw [← Bool.not_eq_true]; exact fun hh=>h (aD hl hh)
  rw [this]; rfl
theorem Oo (x y:AD):(decide (x.Row=y.Row) && (decide (x.Col=y.Col) && (decide (x.H=y.H) && (decide (x.W=y.W) && true))))=decide (x=y):=by
 obtain ⟨x1,x2,x3,x4⟩:=x
 obtain ⟨y1,y2,y3,y4⟩:=y
 rw [Bool.eq_iff_iff]; simp
theorem dA (a b:List AD) (hm:a.length≤9223372036854775806):Rn a b=some (decide (a=b)):=by
 unfold Rn
 by_cases hl:a.length=b.length
 ·rw [if_neg (by simp [hl])]
  exact NU a b hl (fun k hk=>by
   unfold OP
   rw [if_pos (by simpa using hk),Af hk,Af (by omega),AE,AE,Oo,An (by omega)]
   generalize a[k]! = x
   generalize b[k]! = y
   by_cases h:x=y <;> simp [h,Ch]) (by unfold OP; rw [if_neg (by simp)])
 ·rw [if_pos (by simp; omega),decide_eq_false (by rintro rfl; exact hl rfl)]
theorem Tp (a b:List AD) (hm:a.length≤9223372036854775806):JQ a b=some (decide (a=b)):=by
 unfold JQ
 by_cases hl:a.length=b.length
 ·rw [if_neg (by simp [hl])]
  exact NU a b hl (fun k hk=>by
   unfold Kv
   rw [if_pos (by simpa using hk),Af hk,Af (by omega),AE,AE,Oo,An (by omega)]
   generalize a[k]! = x
   generalize b[k]! = y
   by_cases h:x=y <;> simp [h,Ch]) (by unfold Kv; rw [if_neg (by simp)])
 ·rw [if_pos (by simp; omega),decide_eq_false (by rintro rfl; exact hl rfl)]
theorem P3 (x y:AC) (hm:x.Attrs.length≤1073741824):Gu x y=some (decide (x=y)):=by
 unfold Gu
 rw [ad _ _ (by omega)]
 obtain ⟨x1,x2,x3,x4,x5⟩:=x
 obtain ⟨y1,y2,y3,y4,y5⟩:=y
 by_cases h1:x1=y1 <;> by_cases h2:x2=y2 <;> by_cases h3:x3=y3 <;> by_cases h4:x4=y4 <;> by_cases h5:x5=y5 <;> simp [h1,h2,h3,h4,h5,gd,AE]
theorem P0 (x y:AC) (hm:x.Attrs.length≤1073741824):I7 x y=some (decide (x=y)):=by
 unfold I7
 rw [Wf _ _ (by omega)]
 obtain ⟨x1,x2,x3,x4,x5⟩:=x
 obtain ⟨y1,y2,y3,y4,y5⟩:=y
 by_cases h1:x1=y1 <;> by_cases h2:x2=y2 <;> by_cases h3:x3=y3 <;> by_cases h4:x4=y4 <;> by_cases h5:x5=y5 <;> simp [h1,h2,h3,h4,h5,gd,AE]
theorem dE (a b:List AC) (hm:a.length≤9223372036854775806) (h : ∀ x∈a,x.Attrs.length≤1073741824):R8 a b=some (decide (a=b)):=by
 unfold R8
 by_cases hl:a.length=b.length
 ·rw [if_neg (by simp [hl])]
  exact NU a b hl (fun k hk=>by
   unfold PT
   rw [if_pos (by simpa using hk),Af hk,Af (by omega),AE,AE,P3 _ _ (h _ (Bx hk)),AE,An (by omega)]
   generalize a[k]! = x
   generalize b[k]! = y
   by_cases h:x=y <;> simp [h,Ch]) (by unfold PT; rw [if_neg (by simp)])
 ·rw [if_pos (by simp; omega),decide_eq_false (by rintro rfl; exact hl rfl)]
theorem YG (a b:List AC) (hm:a.length≤9223372036854775806) (h : ∀ x∈a,x.Attrs.length≤1073741824):Km a b=some (decide (a=b)):=by
 unfold Km
 by_cases hl:a.length=b.length
 ·rw [if_neg (by simp [hl])]
  exact NU a b hl (fun k hk=>by
   unfold Js
   rw [if_pos (by simpa using hk),Af hk,Af (by omega),AE,AE,P0 _ _ (h _ (Bx hk)),AE,An (by omega)]
   generalize a[k]! = x
   generalize b[k]! = y
   by_cases h:x=y <;> simp [h,Ch]) (by unfold Js; rw [if_neg (by simp)])
 ·rw [if_pos (by simp; omega),decide_eq_false (by rintro rfl; exact hl rfl)]
theorem OQ {β:Type} (p:Nat→Bool) (F:Nat→β) (l:List Nat):(l.findSome? fun k=>if p k then some (F k) else none)=(l.find? p).map F:=by
 induction l with
 | nil=>rfl
 | cons a l ih=>rw [List.findSome?_cons,List.find?_cons]; by_cases h:p a=true <;> simp [h,ih]
theorem E1 {n:Nat} (h:n<2147483648):IntKind.i32.wrap (n:Int)=(n:Int):=by
 have e:(n:Int) % (2 ^ (32:Nat):Int)=(n:Int):=Int.emod_eq_of_lt (by omega) (by omega)
 show (if (true && decide ((n:Int) % (2 ^ (32:Nat):Int) ≥ (2 ^ (31:Nat):Int)))=true then (n:Int) % (2 ^ (32:Nat):Int)-(2 ^ (32:Nat):Int) else (n:Int) % (2 ^ (32:Nat):Int))=_
 rw [e,if_neg]
 simp only [Bool.true_and,decide_eq_true_eq]
 omega
theorem QK {n:Nat} (h:n<9223372036854775808):IntKind.i64.wrap (n:Int)=(n:Int):=by
 have e:(n:Int) % (2 ^ (64:Nat):Int)=(n:Int):=Int.emod_eq_of_lt (by omega) (by omega)
 show (if (true && decide ((n:Int) % (2 ^ (64:Nat):Int) ≥ (2 ^ (63:Nat):Int)))=true then (n:Int) % (2 ^ (64:Nat):Int)-(2 ^ (64:Nat):Int) else (n:Int) % (2 ^ (64:Nat):Int))=_
 rw [e,if_neg]
 simp only [Bool.true_and,decide_eq_true_eq]
 omega
theorem JS (i a b:Nat) (hb:b<2 ^ i) (hs:a * 2 ^ i+b<2147483648):C4 .i32 ((a * 2 ^ i:Nat):Int) (b:Int)=((a * 2 ^ i+b:Nat):Int):=by
 unfold C4
 have h1:(BitVec.ofInt 32 ((a * 2 ^ i:Nat):Int) ||| BitVec.ofInt 32 (b:Int)).toNat=a * 2 ^ i+b:=by
  rw [BitVec.toNat_or,BitVec.ofInt_natCast,BitVec.ofInt_natCast,BitVec.toNat_ofNat,BitVec.toNat_ofNat,Nat.mod_eq_of_lt (by omega),Nat.mod_eq_of_lt (by omega)]
  rw [← Nat.shiftLeft_eq,Nat.shiftLeft_add_eq_or_of_lt hb]
 show IntKind.i32.wrap ((BitVec.ofInt 32 ((a * 2 ^ i:Nat):Int) ||| BitVec.ofInt 32 (b:Int)).toNat:Int)=_
 rw [h1]; exact E1 hs
theorem W8 : ∀ b:Fin 256,Bn .u8 ((b.val:Nat):Int) 31=((b.val % 32:Nat):Int):=by decide +kernel
theorem ao : ∀ b:Fin 256,Bn .u8 ((b.val:Nat):Int) 15=((b.val % 16:Nat):Int):=by decide +kernel
theorem Yv : ∀ b:Fin 256,Bn .u8 ((b.val:Nat):Int) 7=((b.val % 8:Nat):Int):=by decide +kernel
theorem I4 : ∀ b:Fin 256,Bn .u8 ((b.val:Nat):Int) 63=((b.val % 64:Nat):Int):=by decide +kernel
theorem JT (i a:Nat) (hi:i≤32) (hs:a * 2 ^ i<2147483648):Ce .i32 (a:Int) i=((a * 2 ^ i:Nat):Int):=by
 unfold Ce
 show IntKind.i32.wrap ((a:Int) * 2 ^ (min i 32))=_
 rw [Nat.min_eq_left hi,show (a:Int) * 2 ^ i=((a * 2 ^ i:Nat):Int) by push_cast; rfl,E1 hs]
theorem YB : ∀ c:Fin 256,Ed[c.val]! = (Lib.firstT c.val:Int):=by decide +kernel
theorem ZP : ∀ c:Fin 256,C4 .i32 (Kr .i32 (IntKind.i32.wrap (c.val:Int)) (Dv .i32 (Ce .i32 (IntKind.i32.wrap 241) 31) 31)) (Bn .i32 65533 (Dv .i32 (Ce .i32 (IntKind.i32.wrap 241) 31) 31))=65533:=by decide +kernel
theorem UD : ∀ c:Fin 256,IntKind.i64.wrap (Bn .u8 (Lib.firstT c.val:Int) 7)=((Lib.firstT c.val % 8:Nat):Int):=by decide +kernel
theorem Xy : ∀ c:Fin 256,AO Mr (Dv .u8 (Lib.firstT c.val:Int) 4)=some (GN.mk (Lib.accLo (Lib.firstT c.val / 16)) (Lib.accHi (Lib.firstT c.val / 16))):=by decide +kernel
theorem V5 : ∀ c:Fin 256,128≤c.val→Lib.firstT c.val=241∨(2≤Lib.firstT c.val % 8∧Lib.firstT c.val % 8≤4∧Lib.firstT c.val<240):=by decide +kernel
theorem Wi (c d:Fin 256):C4 .i32 (Ce .i32 (IntKind.i32.wrap (Bn .u8 ((c.val:Nat):Int) 31)) 6) (IntKind.i32.wrap (Bn .u8 ((d.val:Nat):Int) 63))=((c.val % 32 * 64+d.val % 64:Nat):Int):=by
 rw [W8,I4,E1 (by omega),E1 (by omega),JT 6 _ (by omega) (by omega),JS 6 _ _ (by omega) (by omega)]
theorem VI (c d e:Fin 256):C4 .i32 (C4 .i32 (Ce .i32 (IntKind.i32.wrap (Bn .u8 ((c.val:Nat):Int) 15)) 12) (Ce .i32 (IntKind.i32.wrap (Bn .u8 ((d.val:Nat):Int) 63)) 6)) (IntKind.i32.wrap (Bn .u8 ((e.val:Nat):Int) 63)) =
  ((c.val % 16 * 4096+d.val % 64 * 64+e.val % 64:Nat):Int):=by
 rw [ao,I4,I4,E1 (by omega),E1 (by omega),E1 (by omega),JT 12 _ (by omega) (by omega),JT 6 _ (by omega) (by omega),JS 12 _ _ (by omega) (by omega),
  show c.val % 16 * 2 ^ 12+d.val % 64 * 2 ^ 6=(c.val % 16 * 64+d.val % 64) * 2 ^ 6 by omega,JS 6 _ _ (by omega) (by omega)]
theorem UN (c d e f:Fin 256):C4 .i32 (C4 .i32 (C4 .i32 (Ce .i32 (IntKind.i32.wrap (Bn .u8 ((c.val:Nat):Int) 7)) 18) (Ce .i32 (IntKind.i32.wrap (Bn .u8 ((d.val:Nat):Int) 63)) 12)) (Ce .i32 (IntKind.i32.wrap (Bn .u8 ((e.val:Nat):Int) 63)) 6)) (IntKind.i32.wrap (Bn .u8 ((f.val:Nat):Int) 63)) =
  ((c.val % 8 * 262144+d.val % 64 * 4096+e.val % 64 * 64+f.val % 64:Nat):Int):=by
 rw [Yv,I4,I4,I4,E1 (by omega),E1 (by omega),E1 (by omega),E1 (by omega),JT 18 _ (by omega) (by omega),JT 12 _ (by omega) (by omega),JT 6 _ (by omega) (by omega),JS 18 _ _ (by omega) (by omega),
  show c.val % 8 * 2 ^ 18+d.val % 64 * 2 ^ 12=(c.val % 8 * 64+d.val % 64) * 2 ^ 12 by omega,JS 12 _ _ (by omega) (by omega),
  show (c.val % 8 * 64+d.val % 64) * 2 ^ 12+e.val % 64 * 2 ^ 6=((c.val % 8 * 64+d.val % 64) * 64+e.val % 64) * 2 ^ 6 by omega,JS 6 _ _ (by omega) (by omega)]
theorem Le (s:List UInt8) (k:Nat) (h:k<s.length):s.getD k 0=s[k]!:=by
 rw [getElem!_pos s k h,List.getD_eq_getElem?_getD,List.getElem?_eq_getElem h]; rfl
theorem XZ (s:List UInt8) (h:s≠[]) (h128:128≤(s.getD 0 0).toNat):KA s=some (((Lib.decodeL s).1:Int),((Lib.decodeL s).2:Int)):=by
 have h0:0<s.length:=List.length_pos_iff.2 h
 rw [Lib.decodeL_N]
 unfold KA
 rw [if_neg (by rw [decide_eq_true_eq]; omega),show (0:Int)=((0:Nat):Int) from rfl,Af h0,AE]
 rw [Le s 0 h0] at h128 ⊢
 generalize s[0]! = c at h128 ⊢
 obtain ⟨C,hC⟩ : ∃ C:Fin 256,C.val=c.toNat:=⟨⟨c.toNat,c.toNat_lt⟩,rfl⟩
 rw [← hC] at h128 ⊢
 rw [Af (l:=Ed) (by rw [VK]; exact C.isLt),AE,YB,Xy,UD]
 rcases V5 C h128 with hf | ⟨hf1,hf2,hf3⟩
 ·rw [if_pos (by rw [decide_eq_true_eq]; omega),Lib.bad_eq _ _ _ _ _ C.isLt hf,hf]
  show some (_,(1:Int))=_
  rw [show ((241:Nat):Int)=241 from rfl,ZP C]; rfl
 ·rw [if_neg (by rw [decide_eq_true_eq]; omega),AE]
  have hsl:=Lib.slow_eq s.length C.val (s.getD 1 0).toNat (s.getD 2 0).toNat (s.getD 3 0).toNat h0 (UInt8.toNat_lt _) (UInt8.toNat_lt _) (UInt8.toNat_lt _) hf3
  rw [← hsl]
  generalize hsz:Lib.firstT C.val % 8=sz at hf1 hf2 ⊢
  generalize Lib.accLo (Lib.firstT C.val / 16)=lo
  generalize Lib.accHi (Lib.firstT C.val / 16)=hi
  unfold Lib.slowN
  by_cases hl:s.length<sz
  ·rw [if_pos (by rw [decide_eq_true_eq]; omega),if_pos hl]; rfl
  rw [if_neg (by rw [decide_eq_true_eq]; omega),if_neg hl,show (1:Int)=((1:Nat):Int) from rfl,Af (by omega),AE,Le s 1 (by omega)]
  generalize s[1]! = d
  obtain ⟨D,hD⟩ : ∃ D:Fin 256,D.val=d.toNat:=⟨⟨d.toNat,d.toNat_lt⟩,rfl⟩
  rw [← hD]
  by_cases c1:D.val<lo∨hi<D.val
  ·rw [if_pos (by simp only [Bool.or_eq_true,decide_eq_true_eq]; omega),if_pos c1]; rfl
  rw [if_neg (by simp only [Bool.or_eq_true,decide_eq_true_eq]; omega),if_neg c1]
  by_cases e2:sz≤2
  ·rw [if_pos (by rw [decide_eq_true_eq]; omega),if_pos e2,Wi]; rfl
  rw [if_neg (by rw [decide_eq_true_eq]; omega),if_neg e2,show (2:Int)=((2:Nat):Int) from rfl,Af (by omega),AE,Le s 2 (by omega)]
  generalize s[2]! = e
  obtain ⟨E,hE⟩ : ∃ E:Fin 256,E.val=e.toNat:=⟨⟨e.toNat,e.toNat_lt⟩,rfl⟩
  rw [← hE]
  by_cases c2:E.val<128∨191<E.val
  ·rw [if_pos (by simp only [Bool.or_eq_true,decide_eq_true_eq]; omega),if_pos c2]; rfl
  rw [if_neg (by simp only [Bool.or_eq_true,decide_eq_true_eq]; omega),if_neg c2]
  by_cases e3:sz≤3
  ·rw [if_pos (by rw [decide_eq_true_eq]; omega),if_pos e3,VI]; rfl
  rw [if_neg (by rw [decide_eq_true_eq]; omega),if_neg e3,show (3:Int)=((3:Nat):Int) from rfl,Af (by omega),AE,Le s 3 (by omega)]
  generalize s[3]! = f
  obtain ⟨F,hF⟩ : ∃ F:Fin 256,F.val=f.toNat:=⟨⟨f.toNat,f.toNat_lt⟩,rfl⟩
  rw [← hF]
  by_cases c3:F.val<128∨191<F.val
  ·rw [if_pos (by simp only [Bool.or_eq_true,decide_eq_true_eq]; omega),if_pos c3]; rfl
  rw [if_neg (by simp only [Bool.or_eq_true,decide_eq_true_eq]; omega),if_neg c3,UN]; rfl
theorem Wk (s:List UInt8) (h:s≠[]):K0 s=some (((Lib.decodeL s).1:Int),((Lib.decodeL s).2:Int)):=by
 have h0:0<s.length:=List.length_pos_iff.2 h
 unfold K0
 rw [decide_eq_false h,show ((!false) == true)=true from rfl,Ap,show (0:Int)=((0:Nat):Int) from rfl,Af h0,AE,Bool.not_false,Bool.true_and]
 by_cases hc:(s[0]!).toNat<128
 ·rw [if_pos (by rw [decide_eq_true_eq]; omega),AE,E1 (by omega)]
  obtain ⟨c,t,rfl⟩:=List.exists_cons_of_ne_nil h
  have hc':c.toNat<128:=hc
  rw [Lib.decodeL_ascii c t hc']; rfl
 ·rw [if_neg (by rw [decide_eq_true_eq]; omega),XZ s h (by rw [Le s 0 h0]; omega),BD]
def Et (r:Nat):Bool:=decide (r=10) || !GK (r:Int)
def Fo:Nat→List UInt8→Bool
 | 0,_=>true
 | n+1,s=>if s=[] then true else if ((Lib.decodeL s).1=65533∧(Lib.decodeL s).2=1)∨Et (Lib.decodeL s).1=true then false else Fo n (s.drop (Lib.decodeL s).2)
theorem Rf (n:Nat) (s:List UInt8):Fo (n+1) s=if s=[] then true else if ((Lib.decodeL s).1=65533∧(Lib.decodeL s).2=1)∨Et (Lib.decodeL s).1=true then false else Fo n (s.drop (Lib.decodeL s).2):=rfl
def Lz:Nat→List UInt8→Bool
 | 0,_=>true
 | n+1,s=>if s=[] then true else if Et (Lib.decodeL s).1=true then false else Lz n (s.drop (Lib.decodeL s).2)
theorem Ty (n:Nat) (s:List UInt8):Lz (n+1) s=if s=[] then true else if Et (Lib.decodeL s).1=true then false else Lz n (s.drop (Lib.decodeL s).2):=rfl
theorem VZ : ∀ (n:Nat) (s:List UInt8),s.length≤n→(Lib.validD s && Lz n s)=Fo n s:=by
 intro n
 induction n with
 | zero=>intro s hs; obtain rfl:=List.eq_nil_of_length_eq_zero (Nat.le_zero.1 hs); rfl
 | succ n ih=>
  intro s hs
  rw [Rf,Ty]
  by_cases hn:s=[]
  ·subst hn; rfl
  ·have hw:=Lib.decodeL_width s
   have hl:=List.length_pos_iff.2 hn
   rw [if_neg hn,if_neg hn,Lib.validD_step s hn]
   by_cases hv:(Lib.decodeL s).1=65533∧(Lib.decodeL s).2=1
   ·rw [if_pos hv,if_pos (show ((Lib.decodeL s).1=65533∧(Lib.decodeL s).2=1)∨Et (Lib.decodeL s).1=true from .inl hv)]; rfl
   ·rw [if_neg hv]
    by_cases hb:Et (Lib.decodeL s).1=true
    ·rw [if_pos hb,if_pos (.inr hb),Bool.and_false]
    ·rw [if_neg hb,if_neg (by rintro (h | h); exact hv h; exact hb h)]
     exact ih _ (by rw [List.length_drop]; omega)
theorem Pq (r:Nat) (h:r≤1114111):IntKind.i64.wrap (r:Int)=(r:Int):=QK (by omega)
theorem cD (s:List UInt8):LW s=some (Fo s.length s):=by
 unfold LW
 have key : ∀ (n:Nat) (s:List UInt8),s.length≤n→(Ay (iter (fun (a:(List UInt8))=>EB a) s) fun (_:Unit)=>some true)=some (Fo n s):=by
  intro n
  induction n with
  | zero=>
   intro s hs
   obtain rfl:=List.eq_nil_of_length_eq_zero (Nat.le_zero.1 hs)
   have h1:(fun (a:(List UInt8))=>EB a) []=some (.inr (.nrm ())):=by
    show EB []=_
    unfold EB; rfl
   rw [BL h1]; rfl
  | succ n ih=>
   intro s hs
   rw [Rf]
   by_cases hn:s=[]
   ·subst hn
    have h1:(fun (a:(List UInt8))=>EB a) []=some (.inr (.nrm ())):=by
     show EB []=_
     unfold EB; rfl
    rw [BL h1]; rfl
   ·have hw:=Lib.decodeL_width s
    have hle:=Lib.decodeL_le s hn
    have hr:=Lib.decodeL_rune s
    have hstep:EB s=if ((Lib.decodeL s).1=65533∧(Lib.decodeL s).2=1)∨Et (Lib.decodeL s).1=true then some (.inr (.ext false)) else some (.inl (s.drop (Lib.decodeL s).2)):=by
     unfold EB Et
     rw [if_pos (Dn hn),Wk s hn,BD,Pq _ hr,VM]
     generalize (Lib.decodeL s).1=r at *
     generalize (Lib.decodeL s).2=w at *
     by_cases h1:r=65533∧w=1
     ·obtain ⟨rfl,rfl⟩:=h1
      rw [if_pos (.inl ⟨rfl,rfl⟩)]; rfl
     ·have e1:((decide ((r:Int)=65533)) && (decide ((w:Int)=1)))=false:=by
       rw [← Bool.not_eq_true,Bool.and_eq_true,decide_eq_true_eq,decide_eq_true_eq]; omega
      by_cases h2:r=10
      ·subst h2
       rw [if_pos (.inr (by rfl)),e1]; rfl
      ·have e2:(decide ((r:Int)=10))=false:=decide_eq_false (by omega)
       rw [e1,e2,decide_eq_false h2]
       show (AB (gd true (some (GK (r:Int)))) fun (r3:Bool)=>_)=_
       rw [Ap,AE,ZW s w hle,AE]
       cases GK (r:Int)
       ·rw [if_pos (show (r=65533∧w=1)∨(false || !false)=true from .inr rfl)]; rfl
       ·rw [if_neg (show ¬ ((r=65533∧w=1)∨(false || !true)=true) by rintro (h | h); exact h1 h; exact absurd h (by decide))]; rfl
    by_cases hb:((Lib.decodeL s).1=65533∧(Lib.decodeL s).2=1)∨Et (Lib.decodeL s).1=true
    ·rw [if_pos hb] at hstep
     rw [BL (f:=fun (a:(List UInt8))=>EB a) hstep,if_neg hn,if_pos hb]; rfl
    ·rw [if_neg hb] at hstep
     rw [CT (f:=fun (a:(List UInt8))=>EB a) hstep,if_neg hn,if_neg hb]
     exact ih _ (by rw [List.length_drop]; omega)
 exact key s.length s (Nat.le_refl _)
theorem VJ (s:List UInt8) (p:Nat):Eu s p=Lib.decodeL (s.drop p):=(Lib.decodeL_drop ⟨s.toArray⟩ p).symm
theorem Ud (s:List UInt8) (hs:s.length≤9223372036854775807):KO s=some (Fo s.length s):=by
 unfold KO Mh NZ
 rw [if_pos hs,AE,← VZ s.length s (Nat.le_refl _)]
 cases Lib.validD s with
 | false=>rfl
 | true=>
  rw [if_neg (by decide),Bool.true_and]
  have key : ∀ (n p:Nat),s.length-p≤n→(Ay (iter (fun (a:(Nat))=>EG s a) p) fun (_:Unit)=>some true)=some (Lz n (s.drop p)):=by
   intro n
   induction n with
   | zero=>
    intro p hp
    have h1:(fun (a:(Nat))=>EG s a) p=some (.inr (.nrm ())):=by
     show EG s p=_
     unfold EG; rw [if_neg (by rw [decide_eq_true_eq]; omega)]
    rw [BL h1]; rfl
   | succ n ih=>
    intro p hp
    rw [Ty]
    by_cases hn:s.length≤p
    ·have h1:(fun (a:(Nat))=>EG s a) p=some (.inr (.nrm ())):=by
      show EG s p=_
      unfold EG; rw [if_neg (by rw [decide_eq_true_eq]; omega)]
     rw [BL h1,if_pos (List.drop_eq_nil_of_le hn)]; rfl
    ·have hne:s.drop p≠[]:=by
      intro e
      have:=congrArg List.length e
      rw [List.length_drop,List.length_nil] at this
      omega
     have hw:=Lib.decodeL_width (s.drop p)
     have hr:=Lib.decodeL_rune (s.drop p)
     have hstep:EG s p=if Et (Lib.decodeL (s.drop p)).1=true then some (.inr (.ext false)) else some (.inl (p+(Lib.decodeL (s.drop p)).2)):=by
      unfold EG Et
      rw [if_pos (by rw [decide_eq_true_eq]; omega),VJ,Pq _ hr,ZJ]
      generalize (Lib.decodeL (s.drop p)).1=r at *
      generalize (Lib.decodeL (s.drop p)).2=w at *
      by_cases h2:r=10
      ·subst h2; rfl
      ·rw [decide_eq_false h2,decide_eq_false (show ¬ ((r:Int)=10) by omega)]
       show (AB (gd true (some (GK (r:Int)))) fun (r3:Bool)=>_)=_
       rw [Ap,AE]
     rw [if_neg hne]
     by_cases hb:Et (Lib.decodeL (s.drop p)).1=true
     ·rw [if_pos hb] at hstep
      rw [BL (f:=fun (a:(Nat))=>EG s a) hstep,if_pos hb]; rfl
     ·rw [if_neg hb] at hstep
      rw [CT (f:=fun (a:(Nat))=>EG s a) hstep,if_neg hb,List.drop_drop]
      exact ih _ (by omega)
  have:=key s.length 0 (by omega)
  rw [List.drop_zero] at this
  exact this
theorem Nm (x y:Int):Ha x y=some (if x<y then -1 else if y<x then 1 else 0):=by
 unfold Ha Lp
 rw [decide_eq_true (rfl:x=x),decide_eq_true (rfl:y=y),AE,AE,if_neg (by decide),if_neg (by decide)]
 by_cases h1:x<y
 ·rw [if_pos (decide_eq_true h1),if_pos h1]
 ·rw [if_neg (by simpa using h1),if_neg h1]
  by_cases h2:y<x
  ·rw [if_pos (decide_eq_true h2),if_pos h2]
  ·rw [if_neg (by simpa using h2),if_neg h2]
theorem RS (a b:Int):Jf [a,b]=some (if a≠0 then a else b):=by
 unfold Jf
 by_cases ha:a≠0
 ·have h1:(fun (x:Int)=>DG [a,b] x) 0=some (.inr (.ext a)):=by
   show DG [a,b] 0=_
   unfold DG
   rw [if_pos (by simp),show AO [a,b] 0=some a from rfl,AE,if_pos (Dn ha)]
  rw [BL h1,if_pos ha]; rfl
 ·have ha':a=0:=Classical.not_not.1 ha
  have h1:(fun (x:Int)=>DG [a,b] x) 0=some (.inl 1):=by
   show DG [a,b] 0=_
   unfold DG
   rw [if_pos (by simp),show AO [a,b] 0=some a from rfl,AE,if_neg (Dd ha')]; rfl
  by_cases hb:b≠0
  ·have h2:(fun (x:Int)=>DG [a,b] x) 1=some (.inr (.ext b)):=by
    show DG [a,b] 1=_
    unfold DG
    rw [if_pos (by simp),show AO [a,b] 1=some b from rfl,AE,if_pos (Dn hb)]
   rw [CT h1,BL h2,if_neg ha]; rfl
  ·have hb':b=0:=Classical.not_not.1 hb
   have h2:(fun (x:Int)=>DG [a,b] x) 1=some (.inl 2):=by
    show DG [a,b] 1=_
    unfold DG
    rw [if_pos (by simp),show AO [a,b] 1=some b from rfl,AE,if_neg (Dd hb')]; rfl
   have h3:(fun (x:Int)=>DG [a,b] x) 2=some (.inr (.nrm ())):=by
    show DG [a,b] 2=_
    unfold DG
    rw [if_neg (by simp)]
   rw [CT h1,CT h2,BL h3,if_neg ha,hb']; rfl
def BE (a b c d:Int):Int:=if a<b then -1 else if b<a then 1 else if c<d then -1 else if d<c then 1 else 0
theorem SN (a b c d:Int):(if (if a<b then -1 else if b<a then 1 else 0)≠(0:Int) then (if a<b then -1 else if b<a then 1 else 0) else if c<d then -1 else if d<c then 1 else (0:Int))=BE a b c d:=by
 unfold BE
 by_cases h1:a<b
 ·simp [h1]
 ·by_cases h2:b<a
  ·simp [h1,h2]
  ·simp [h1,h2]
theorem KY (a b c d:Int):0≤BE a b c d↔(b<a∨(b=a∧d≤c)):=by
 unfold BE
 split
 ·constructor <;> intro h <;> omega
 ·split
  ·constructor <;> intro h <;> omega
  ·split
   ·constructor <;> intro h <;> omega
   ·split
    ·constructor <;> intro h <;> omega
    ·constructor <;> intro h <;> omega
theorem GX (a b:AC):EF a b=some (BE a.Row b.Row a.Col b.Col):=by
 unfold EF
 rw [Nm,Nm,AE,AE,RS,AE,SN]
theorem EO (x a b:Int):Ck x a b=some (decide (a≤x∧x≤b)):=by
 rw [I1]
 congr 1
 rw [Bool.eq_iff_iff]; simp
def Fk (rows cols:Int) (c:AC):Prop:=0≤c.Row∧c.Row<rows∧0≤c.Col∧c.Col<cols∧0≤c.Ref∧c.Ref≤1073741824
instance (rows cols:Int) (c:AC):Decidable (Fk rows cols c):=by unfold Fk; infer_instance
def BY (c:AC):Bool:=decide (c.Text=[]) && decide (c.Ref=0) && decide (c.Attrs=[])
def LH (rows cols:Int) (none_:Bool) (c:AC):Int:=
 if ¬ Fk rows cols c then 2 else if Fo c.Text.length c.Text=false then 23 else if GS c.Attrs false≠0 then GS c.Attrs false else if (!none_ && BY c)=true then 4 else 0
def FC (rows cols:Int) (none_:Bool) (l:List AC) (k:Nat):Option Int:=
 if LH rows cols none_ l[k]! ≠ 0 then some (LH rows cols none_ l[k]!) else if 0<k∧0≤BE l[k-1]!.Row l[k]!.Row l[k-1]!.Col l[k]!.Col then some 5 else none
def DA (rows cols:Int) (none_:Bool) (l:List AC):Int:=((List.range l.length).findSome? (FC rows cols none_ l)).getD 0
theorem NY (l:List Ak):decide ((l.length:Int)=0)=decide (l=[]):=by
 rw [Bool.eq_iff_iff,decide_eq_true_eq,decide_eq_true_eq,← List.length_eq_zero_iff]; omega
def CQ (c:AC):Prop:=Kh c.Attrs∧c.Text.length≤1073741824
theorem Vo (l:List AC) (k:Nat) (hk:k<l.length) (hm:l.length≤9223372036854775806) :
  (AB (gd ((decide (0<(k:Int))) == true) (AM .i64 ((k:Int)-1))) fun (x5:Int)=>
   AB (gd ((decide (0<(k:Int))) == true) (AO l x5)) fun (x6:AC)=>
   AB (gd ((decide (0<(k:Int))) == true) (EF x6 l[k]!)) fun (r3:Int)=>
   if ((decide (0<(k:Int))) && (decide (0≤r3))) then (some (.inr (.ext 5)):Option (Int ⊕ (Ao Unit Int))) else (
    AB (AM .i64 ((k:Int)+1)) fun (x7:Int)=>some (.inl x7)))=Ch k (if 0<k∧0≤BE l[k-1]!.Row l[k]!.Row l[k-1]!.Col l[k]!.Col then some 5 else none):=by
 by_cases h0:0<k
 ·rw [decide_eq_true (show (0:Int)<k by omega),show ((true == true):Bool)=true from rfl,Ap,Fd h0 (by omega),AE,Ap,Af (by omega),AE,Ap,GX,AE]
  by_cases h1:0≤BE l[k-1]!.Row l[k]!.Row l[k-1]!.Col l[k]!.Col
  ·rw [if_pos (show (true && decide (0≤BE l[k-1]!.Row l[k]!.Row l[k-1]!.Col l[k]!.Col))=true by rw [decide_eq_true h1]; rfl),if_pos ⟨h0,h1⟩]; rfl
  ·rw [if_neg (show ¬ (true && decide (0≤BE l[k-1]!.Row l[k]!.Row l[k-1]!.Col l[k]!.Col))=true by rw [decide_eq_false h1]; decide),if_neg (fun h=>h1 h.2),An (by omega)]; rfl
 ·obtain rfl:k=0:=by omega
  rw [if_neg (show ¬ (0<0∧_) from fun h=>absurd h.1 (by decide))]; rfl
theorem QB (rows cols:Int) (nn:Bool) (l:List AC) (hm:l.length≤1073741824) (hl : ∀ c∈l,CQ c):Jd l rows cols nn=some (DA rows cols nn l):=by
 unfold Jd
 rw [Cq (n:=l.length) (FC rows cols nn l) (fun k hk=>by
  obtain ⟨ha,ht⟩:=hl _ (Bx hk)
  have hto:=Vo l k hk (by omega)
  unfold LK FC LH
  rw [if_pos (by simpa using hk),Af hk,AE]
  by_cases h1:Fk rows cols l[k]!
  ·have h1':=h1
   unfold Fk at h1'
   rw [if_neg (by simp only [Bool.or_eq_true,decide_eq_true_eq]; omega),if_neg (by simp only [Bool.or_eq_true,decide_eq_true_eq]; omega),cD,AE,WP _ ha.2 (by have:=ha.1; omega),AE,hto]
   rw [if_neg (Classical.not_not.2 h1)]
   cases htx:Fo l[k]!.Text.length l[k]!.Text with
   | false=>rfl
   | true=>
    rw [if_neg (show ¬ ((!true)=true) by decide),if_neg (show ¬ (true=false) by decide)]
    by_cases h3:GS l[k]!.Attrs false=0
    ·rw [if_neg (Dd h3),if_neg (Classical.not_not.2 h3)]
     have he:HA l[k]! = some (BY l[k]!):=by unfold HA BY; rw [NY]
     rw [he,AE]
     by_cases h4:(!nn && BY l[k]!)=true
     ·rw [if_pos (by rw [Bool.and_comm]; exact h4),if_pos h4]; rfl
     ·rw [if_neg (by rw [Bool.and_comm]; exact h4),if_neg h4,if_neg (show ¬ ((0:Int)≠0) from fun h=>h rfl)]
    ·rw [if_pos (Dn h3),if_pos h3,if_pos h3]; rfl
  ·rw [if_pos h1]
   unfold Fk at h1
   by_cases h2:((((decide (l[k]!.Row<0)) || (decide (rows≤l[k]!.Row))) || (decide (l[k]!.Col<0))) || (decide (cols≤l[k]!.Col)))=true
   ·rw [if_pos h2]; rfl
   ·rw [if_neg h2,if_pos (by simp only [Bool.or_eq_true,decide_eq_true_eq] at h2 ⊢; omega)]; rfl) (by unfold LK; rw [if_neg (by simp)]),Ik]
 rfl
theorem Wr (l:List AC) (k:Nat) (hk:k<l.length) (hm:l.length≤9223372036854775806) :
  (AB (gd ((decide (0<(k:Int))) == true) (AM .i64 ((k:Int)-1))) fun (x7:Int)=>
      AB (gd ((decide (0<(k:Int))) == true) (AO l x7)) fun (x8:AC)=>
      AB (gd ((((decide (0<(k:Int))) == true) && ((decide (l[k]!.Row<x8.Row)) == false)) && ((decide (l[k]!.Row=x8.Row)) == true)) (AM .i64 ((k:Int)-1))) fun (x9:Int)=>
      AB (gd ((((decide (0<(k:Int))) == true) && ((decide (l[k]!.Row<x8.Row)) == false)) && ((decide (l[k]!.Row=x8.Row)) == true)) (AO l x9)) fun (x10:AC)=>
      if ((decide (0<(k:Int))) && ((decide (l[k]!.Row<x8.Row)) || ((decide (l[k]!.Row=x8.Row)) && (decide (l[k]!.Col≤x10.Col))))) then (some (.inr (.ext 5)):Option (Int ⊕ (Ao Unit Int))) else (
       AB (AM .i64 ((k:Int)+1)) fun (x11:Int)=>some (.inl x11)))=Ch k (if 0<k∧0≤BE l[k-1]!.Row l[k]!.Row l[k-1]!.Col l[k]!.Col then some 5 else none):=by
 have ho:=KY l[k-1]!.Row l[k]!.Row l[k-1]!.Col l[k]!.Col
 by_cases h0:0<k
 ·rw [decide_eq_true (show (0:Int)<k by omega),show ((true == true):Bool)=true from rfl,Ap,Fd h0 (by omega),AE,Ap,Af (show k-1<l.length by omega),AE]
  by_cases h1:l[k]!.Row<l[k-1]!.Row
  ·rw [decide_eq_true h1,if_pos (show 0<k∧0≤BE l[k-1]!.Row l[k]!.Row l[k-1]!.Col l[k]!.Col from ⟨h0,ho.2 (.inl h1)⟩)]; rfl
  ·by_cases h2:l[k]!.Row=l[k-1]!.Row
   ·rw [decide_eq_false h1,decide_eq_true h2,show (((true && (false == false)) && (true == true)):Bool)=true from rfl,Ap,AE,Ap,Af (show k-1<l.length by omega),AE]
    by_cases h3:l[k]!.Col≤l[k-1]!.Col
    ·rw [decide_eq_true h3,if_pos (show 0<k∧0≤BE l[k-1]!.Row l[k]!.Row l[k-1]!.Col l[k]!.Col from ⟨h0,ho.2 (.inr ⟨h2,h3⟩)⟩)]; rfl
    ·rw [decide_eq_false h3,if_neg (show ¬ (0<k∧0≤BE l[k-1]!.Row l[k]!.Row l[k-1]!.Col l[k]!.Col) from fun h=>by have:=ho.1 h.2; omega),An (by omega)]; rfl
   ·rw [decide_eq_false h1,decide_eq_false h2,if_neg (show ¬ (0<k∧0≤BE l[k-1]!.Row l[k]!.Row l[k-1]!.Col l[k]!.Col) from fun h=>by have:=ho.1 h.2; omega),An (by omega)]; rfl
 ·obtain rfl:k=0:=by omega
  rw [if_neg (show ¬ (0<0∧_) from fun h=>absurd h.1 (by decide))]; rfl
theorem Qi (rows cols:Int) (nn:Bool) (l:List AC) (hm:l.length≤1073741824) (hl : ∀ c∈l,CQ c) (hr:0≤rows∧rows≤2147483647) (hcc:0≤cols∧cols≤2147483647):Jh l rows cols nn=some (DA rows cols nn l):=by
 unfold Jh
 rw [Cq (n:=l.length) (FC rows cols nn l) (fun k hk=>by
  obtain ⟨ha,ht⟩:=hl _ (Bx hk)
  have hto:=Wr l k hk (by omega)
  unfold Kz FC LH
  rw [if_pos (by simpa using hk),Af hk,AE,Be (by omega) (by omega),AE,EO,AE,EO,hto]
  by_cases h1:Fk rows cols l[k]!
  ·have h1':=h1
   unfold Fk at h1'
   rw [if_neg (Classical.not_not.2 h1),decide_eq_true (show 0≤l[k]!.Row∧l[k]!.Row≤rows-1 by omega),show ((!true) == false)=true from rfl,Ap,Be (by omega) (by omega),AE,Ap,EO,AE,decide_eq_true (show 0≤l[k]!.Col∧l[k]!.Col≤cols-1 by omega),
    show (((!true) || (!true)) == false)=true from rfl,Ap,AE,decide_eq_true (show 0≤l[k]!.Ref∧l[k]!.Ref≤1073741824 by omega),if_neg (by decide),Ud _ (by omega),AE,UM _ _ ha.2 (by have:=ha.1; omega),AE]
   cases htx:Fo l[k]!.Text.length l[k]!.Text with
   | false=>rfl
   | true=>
    rw [if_neg (show ¬ ((!true)=true) by decide),if_neg (show ¬ (true=false) by decide)]
    by_cases h3:GS l[k]!.Attrs false=0
    ·rw [if_neg (Dd h3),if_neg (Classical.not_not.2 h3)]
     have he:Fh l[k]! = some (BY l[k]!):=by unfold Fh BY; rw [NY]
     rw [he]
     cases nn with
     | true=>rfl
     | false=>
      show (AB (gd true (some (BY l[k]!))) fun (r5:Bool)=>_)=_
      rw [Ap,AE]
      cases BY l[k]! <;> rfl
    ·rw [if_pos (Dn h3),if_pos h3,if_pos h3]; rfl
  ·rw [if_pos h1]
   unfold Fk at h1
   by_cases e1:0≤l[k]!.Row∧l[k]!.Row≤rows-1
   ·rw [decide_eq_true e1,show ((!true) == false)=true from rfl,Ap,Be (by omega) (by omega),AE,Ap,EO,AE]
    by_cases e2:0≤l[k]!.Col∧l[k]!.Col≤cols-1
    ·rw [decide_eq_true e2,show (((!true) || (!true)) == false)=true from rfl,Ap,AE,decide_eq_false (show ¬ (0≤l[k]!.Ref∧l[k]!.Ref≤1073741824) by omega)]; rfl
    ·rw [decide_eq_false e2]; rfl
   ·rw [decide_eq_false e1]; rfl) (by unfold Kz; rw [if_neg (by simp)]),Ik]
 rfl
theorem Ru {ρ:Type} {f:Int→Option (Int ⊕ Ao Unit ρ)} {n:Nat} (g:Nat→Option ρ) (h1 : ∀ k:Nat,k<n→(∀ j,j<k→g j=none)→f k=Ch k (g k))
  (h2:f n=some (.inr (.nrm ()))):iter f 0=some (Ek ((List.range n).findSome? g)):=by
 have key : ∀ m k:Nat,k+m=n→(∀ j,j<k→g j=none)→iter f (k:Int)=some (Ek ((List.range' k m).findSome? g)):=by
  intro m
  induction m with
  | zero=>
   intro k hk _
   obtain rfl:k=n:=by omega
   rw [BL h2]; rfl
  | succ m ih=>
   intro k hk hj
   have hs:=h1 k (by omega) hj
   rw [List.range'_succ,List.findSome?_cons]
   cases hg:g k with
   | some r=>rw [hg] at hs; rw [BL hs]; rfl
   | none=>
    rw [hg] at hs
    rw [CT hs]
    exact ih (k+1) (by omega) (fun j hj'=>by
     by_cases e:j=k
     ·rw [e]; exact hg
     ·exact hj j (by omega))
 have:=key n 0 (by omega) (fun j hj=>absurd hj (Nat.not_lt_zero _))
 rw [List.range_eq_range']
 exact this
def As (rows cols:Int) (r:AD):Prop:=0≤r.Row∧r.Row<rows∧0≤r.Col∧r.Col<cols∧1≤r.H∧r.H≤rows-r.Row∧1≤r.W∧r.W≤cols-r.Col
instance (rows cols:Int) (r:AD):Decidable (As rows cols r):=by unfold As; infer_instance
def BV (a b:AD):Bool:=decide (a.Row<b.Row+b.H∧b.Row<a.Row+a.H∧a.Col<b.Col+b.W∧b.Col<a.Col+a.W)
def B2 (rows cols:Int):Prop:=0≤rows∧rows≤2147483647∧0≤cols∧cols≤2147483647
instance (rows cols:Int):Decidable (B2 rows cols):=by unfold B2; infer_instance
theorem ND (r:AD) (rows cols:Int) (h:B2 rows cols):IK r rows cols=some (decide (As rows cols r)):=by
 obtain ⟨h1,h2,h3,h4⟩:=h
 unfold IK
 by_cases c1:0≤r.Row∧0≤r.Col∧1≤r.H∧1≤r.W∧r.Row<rows∧r.Col<cols
 ·obtain ⟨a1,a2,a3,a4,a5,a6⟩:=c1
  rw [decide_eq_true a1,decide_eq_true a2,decide_eq_true a3,decide_eq_true a4,decide_eq_true a5,decide_eq_true a6,show ((((((true && true) && true) && true) && true) && true) == true)=true from rfl,Ap,Be (by omega) (by omega),AE]
  by_cases c2:r.H≤rows-r.Row
  ·rw [decide_eq_true c2,show (((((((true && true) && true) && true) && true) && true) && true) == true)=true from rfl,Ap,Be (by omega) (by omega),AE]
   by_cases c3:r.W≤cols-r.Col
   ·rw [decide_eq_true c3,decide_eq_true (show As rows cols r from ⟨a1,a5,a2,a6,a3,c2,a4,c3⟩)]; rfl
   ·rw [decide_eq_false c3,decide_eq_false (show ¬ As rows cols r from fun h=>c3 h.2.2.2.2.2.2.2)]; rfl
  ·rw [decide_eq_false c2,decide_eq_false (show ¬ As rows cols r from fun h=>c2 h.2.2.2.2.2.1)]; rfl
 ·have hf:((((((decide (0≤r.Row)) && (decide (0≤r.Col))) && (decide (1≤r.H))) && (decide (1≤r.W))) && (decide (r.Row<rows))) && (decide (r.Col<cols)))=false:=by
   rw [← Bool.not_eq_true]
   simp only [Bool.and_eq_true,decide_eq_true_eq]
   intro h; exact c1 (by omega)
  rw [hf,decide_eq_false (show ¬ As rows cols r from fun h=>c1 ⟨h.1,h.2.2.1,h.2.2.2.2.1,h.2.2.2.2.2.2.1,h.2.1,h.2.2.2.1⟩)]; rfl
theorem KC (r:AD) (rows cols:Int) (h:B2 rows cols):GA r rows cols=some (decide (As rows cols r)):=by
 obtain ⟨h1,h2,h3,h4⟩:=h
 unfold GA
 rw [Be (by omega) (by omega),AE,EO,AE]
 by_cases a1:0≤r.Row∧r.Row≤rows-1
 ·rw [decide_eq_true a1,show ((true == true):Bool)=true from rfl,Ap,Be (by omega) (by omega),AE,Ap,EO,AE]
  by_cases a2:0≤r.Col∧r.Col≤cols-1
  ·rw [decide_eq_true a2,show ((true && true) == true)=true from rfl,Ap,Be (by omega) (by omega),AE,Ap,EO,AE]
   by_cases a3:1≤r.H∧r.H≤rows-r.Row
   ·rw [decide_eq_true a3,show (((true && true) && true) == true)=true from rfl,Ap,Be (by omega) (by omega),AE,Ap,EO,AE]
    by_cases a4:1≤r.W∧r.W≤cols-r.Col
    ·rw [decide_eq_true a4,decide_eq_true (show As rows cols r from ⟨a1.1,by omega,a2.1,by omega,a3.1,a3.2,a4.1,a4.2⟩)]; rfl
    ·rw [decide_eq_false a4,decide_eq_false (show ¬ As rows cols r from fun h=>a4 ⟨h.2.2.2.2.2.2.1,h.2.2.2.2.2.2.2⟩)]; rfl
   ·rw [decide_eq_false a3,decide_eq_false (show ¬ As rows cols r from fun h=>a3 ⟨h.2.2.2.2.1,h.2.2.2.2.2.1⟩)]; rfl
  ·rw [decide_eq_false a2,decide_eq_false (show ¬ As rows cols r from fun h=>a2 ⟨h.2.2.1,by have:=h.2.2.2.1; omega⟩)]; rfl
 ·rw [decide_eq_false a1,decide_eq_false (show ¬ As rows cols r from fun h=>a1 ⟨h.1,by have:=h.2.1; omega⟩)]; rfl
theorem Tf {rows cols:Int} (h:B2 rows cols) {a b:AD} (ha:As rows cols a) (hb:As rows cols b):JN a b=some (BV a b):=by
 obtain ⟨h1,h2,h3,h4⟩:=h
 obtain ⟨a1,a2,a3,a4,a5,a6,a7,a8⟩:=ha
 obtain ⟨b1,b2,b3,b4,b5,b6,b7,b8⟩:=hb
 unfold JN BV
 rw [Be (by omega) (by omega),AE]
 by_cases c1:a.Row<b.Row+b.H
 ·rw [decide_eq_true c1,show ((true == true):Bool)=true from rfl,Ap,Be (by omega) (by omega),AE]
  by_cases c2:b.Row<a.Row+a.H
  ·rw [decide_eq_true c2,show ((true && true) == true)=true from rfl,Ap,Be (by omega) (by omega),AE]
   by_cases c3:a.Col<b.Col+b.W
   ·rw [decide_eq_true c3,show (((true && true) && true) == true)=true from rfl,Ap,Be (by omega) (by omega),AE]
    by_cases c4:b.Col<a.Col+a.W
    ·rw [decide_eq_true c4,decide_eq_true (show _∧_∧_∧_ from ⟨c1,c2,c3,c4⟩)]; rfl
    ·rw [decide_eq_false c4,decide_eq_false (show ¬ (a.Row<b.Row+b.H∧b.Row<a.Row+a.H∧a.Col<b.Col+b.W∧b.Col<a.Col+a.W) from fun h=>c4 h.2.2.2)]; rfl
   ·rw [decide_eq_false c3,decide_eq_false (show ¬ (a.Row<b.Row+b.H∧b.Row<a.Row+a.H∧a.Col<b.Col+b.W∧b.Col<a.Col+a.W) from fun h=>c3 h.2.2.1)]; rfl
  ·rw [decide_eq_false c2,decide_eq_false (show ¬ (a.Row<b.Row+b.H∧b.Row<a.Row+a.H∧a.Col<b.Col+b.W∧b.Col<a.Col+a.W) from fun h=>c2 h.2.1)]; rfl
 ·rw [decide_eq_false c1,decide_eq_false (show ¬ (a.Row<b.Row+b.H∧b.Row<a.Row+a.H∧a.Col<b.Col+b.W∧b.Col<a.Col+a.W) from fun h=>c1 h.1)]; rfl
theorem Rc {rows cols:Int} (h:B2 rows cols) {a b:AD} (ha:As rows cols a) (hb:As rows cols b):Iz a b=some (BV b a):=by
 obtain ⟨h1,h2,h3,h4⟩:=h
 obtain ⟨a1,a2,a3,a4,a5,a6,a7,a8⟩:=ha
 obtain ⟨b1,b2,b3,b4,b5,b6,b7,b8⟩:=hb
 unfold Iz BV
 rw [Be (by omega) (by omega),AE,Be (by omega) (by omega),AE]
 by_cases c1:max a.Row b.Row<min (a.Row+a.H) (b.Row+b.H)
 ·rw [decide_eq_true c1,show ((true == true):Bool)=true from rfl,Ap,Be (by omega) (by omega),AE,Ap,Be (by omega) (by omega),AE]
  by_cases c2:max a.Col b.Col<min (a.Col+a.W) (b.Col+b.W)
  ·rw [decide_eq_true c2,decide_eq_true (show b.Row<a.Row+a.H∧a.Row<b.Row+b.H∧b.Col<a.Col+a.W∧a.Col<b.Col+b.W by omega)]; rfl
  ·rw [decide_eq_false c2,decide_eq_false (show ¬ (b.Row<a.Row+a.H∧a.Row<b.Row+b.H∧b.Col<a.Col+a.W∧a.Col<b.Col+b.W) by omega)]; rfl
 ·rw [decide_eq_false c1,decide_eq_false (show ¬ (b.Row<a.Row+a.H∧a.Row<b.Row+b.H∧b.Col<a.Col+a.W∧a.Col<b.Col+b.W) by omega)]; rfl
theorem XW {α:Type} [Inhabited α] {l:List α} {k j:Nat} (hj:j<k) (hk:k≤l.length):(l.take k)[j]! = l[j]!:=by
 rw [getElem!_pos (l.take k) j (by rw [List.length_take]; omega),getElem!_pos l j (by omega),List.getElem_take]
def Hg (l:List AD) (k:Nat) (w:AD):Option Nat:=(List.range k).find? fun j=>BV l[j]! w
theorem Yf {rows cols:Int} (h:B2 rows cols) (l:List AD) (k:Nat) (hk:k≤l.length) (hm:l.length≤1073741824) (hl : ∀ j,j<k→As rows cols l[j]!) {w:AD} (hw:As rows cols w) :
  Iq w (l.take k)=some (Hg l k w).isSome:=by
 unfold Iq Nk
 have hlen:(l.take k).length=k:=by rw [List.length_take]; omega
 rw [Cq (n:=k) (fun j=>if BV l[j]! w then some (j:Int) else none) (fun j hj=>by
  unfold Lh MJ
  rw [if_pos (by rw [hlen,decide_eq_true_eq]; omega),Af (by rw [hlen]; exact hj),AE,XW hj hk,Tf h (hl j hj) hw,AE,AE,An (by omega)]
  cases BV l[j]! w <;> rfl) (by unfold Lh; rw [if_neg (by rw [hlen]; simp)]),OQ,Dx]
 unfold Hg
 cases (List.range k).find? fun j=>BV l[j]! w with
 | none=>rfl
 | some j=>
  show (AB (some (j:Int)) fun (r1:Int)=>some (decide (0≤r1)))=_
  rw [AE,decide_eq_true (Int.natCast_nonneg j)]; rfl
def D7 (rows cols:Int) (l:List AD) (k:Nat):Option Int:=
 if ¬ As rows cols l[k]! then some 2 else if l[k]!.H=1∧l[k]!.W=1 then some 4 else if 0<k∧0≤BE l[k-1]!.Row l[k]!.Row l[k-1]!.Col l[k]!.Col then some 5 else if (Hg l k l[k]!).isSome=true then some 21 else none
theorem PU {rows cols:Int} {l:List AD} {k:Nat} (h:D7 rows cols l k=none):As rows cols l[k]!:=by
 unfold D7 at h
 by_cases hi:As rows cols l[k]!
 ·exact hi
 ·rw [if_pos hi] at h; cases h
def Dk (g:AJ):Int:=
 if ¬ B2 g.Rows g.Cols then 2 else if DA g.Rows g.Cols false g.Cells≠0 then DA g.Rows g.Cols false g.Cells else ((List.range g.Merges.length).findSome? (D7 g.Rows g.Cols g.Merges)).getD 0
def H3 (g:AJ):Prop:=g.Cells.length≤1048576∧g.Merges.length≤1048576 ∧ ∀ c∈g.Cells,CQ c
theorem aI (a b:AD):Lx a b=some (!decide (0≤BE a.Row b.Row a.Col b.Col)):=by
 unfold Lx
 congr 1
 rw [Bool.eq_iff_iff]
 have:=KY a.Row b.Row a.Col b.Col
 simp only [Bool.or_eq_true,Bool.and_eq_true,decide_eq_true_eq,Bool.not_eq_true',decide_eq_false_iff_not,this]
 omega
theorem NJ (g:AJ) (h:H3 g):Kp g=some (Dk g):=by
 obtain ⟨hc,hm,hcs⟩:=h
 unfold Kp Dk
 by_cases hr:B2 g.Rows g.Cols
 ·have hr':=hr
  obtain ⟨r1,r2,r3,r4⟩:=hr'
  rw [if_neg (by simp only [Bool.or_eq_true,decide_eq_true_eq]; omega),QB _ _ _ _ (by omega) hcs,AE,if_neg (Classical.not_not.2 hr)]
  by_cases he:DA g.Rows g.Cols false g.Cells=0
  ·rw [if_neg (Dd he),if_neg (Classical.not_not.2 he),Ru (n:=g.Merges.length) (D7 g.Rows g.Cols g.Merges) (fun k hk hj=>by
    unfold Ka
    rw [if_pos (by simpa using hk),Af hk,AE,ND _ _ _ hr,AE]
    unfold D7
    by_cases h1:As g.Rows g.Cols g.Merges[k]!
    ·rw [decide_eq_true h1,if_neg (show ¬ ((!true)=true) by decide),if_neg (Classical.not_not.2 h1)]
     by_cases h2:g.Merges[k]!.H=1∧g.Merges[k]!.W=1
     ·rw [if_pos (by rw [decide_eq_true h2.1,decide_eq_true h2.2]; rfl),if_pos h2]; rfl
     ·rw [if_neg (by simp only [Bool.and_eq_true,decide_eq_true_eq]; exact h2),if_neg h2]
      have hcont:=Yf hr g.Merges k (by omega) (by omega) (fun j hj'=>PU (hj j hj')) h1
      have hs:CG g.Merges 0 (k:Int)=some (g.Merges.take k):=by
       rw [bN g.Merges k (by omega) (by omega)]; simp
      have hfin:(AB (CG g.Merges 0 (k:Int)) fun (l1:List AD)=>
        AB (Iq g.Merges[k]! l1) fun (r3:Bool)=>
        if r3 then (some (.inr (.ext 21)):Option (Int ⊕ (Ao Unit Int))) else (
         AB (AM .i64 ((k:Int)+1)) fun (x7:Int)=>some (.inl x7)))=Ch k (if (Hg g.Merges k g.Merges[k]!).isSome=true then some 21 else none):=by
       rw [hs,AE,hcont,AE,An (by omega)]
       cases (Hg g.Merges k g.Merges[k]!).isSome <;> rfl
      by_cases h0:0<k
      ·rw [decide_eq_true (show (0:Int)<k by omega),show ((true == true):Bool)=true from rfl,Ap,Fd h0 (by omega),AE,Ap,Af (show k-1<g.Merges.length by omega),AE,Ap,aI,AE]
       by_cases h3:0≤BE g.Merges[k-1]!.Row g.Merges[k]!.Row g.Merges[k-1]!.Col g.Merges[k]!.Col
       ·rw [decide_eq_true h3,if_pos (show 0<k∧0≤BE g.Merges[k-1]!.Row g.Merges[k]!.Row g.Merges[k-1]!.Col g.Merges[k]!.Col from ⟨h0,h3⟩)]; rfl
       ·rw [decide_eq_false h3,if_neg (show ¬ (0<k∧0≤BE g.Merges[k-1]!.Row g.Merges[k]!.Row g.Merges[k-1]!.Col g.Merges[k]!.Col) from fun h=>h3 h.2)]
        exact hfin
      ·have e0:k=0:=by omega
       rw [if_neg (show ¬ (0<k∧0≤BE g.Merges[k-1]!.Row g.Merges[k]!.Row g.Merges[k-1]!.Col g.Merges[k]!.Col) from fun h=>h0 h.1),decide_eq_false (show ¬ (0:Int)<k by omega)]
       exact hfin
    ·rw [decide_eq_false h1,if_pos h1]; rfl) (by unfold Ka; rw [if_neg (by simp)]),Ik]
  ·rw [if_pos (Dn he),if_pos he]
 ·rw [if_pos hr,if_pos (by unfold B2 at hr; simp only [Bool.or_eq_true,decide_eq_true_eq]; omega)]
theorem Xb {X:Type} (l:List AD) (k:Nat) (hk:k<l.length) (hm:l.length≤9223372036854775806) (a b:Option X) :
  (AB (gd ((decide (0<(k:Int))) == true) (AM .i64 ((k:Int)-1))) fun (x5:Int)=>
    AB (gd ((decide (0<(k:Int))) == true) (AO l x5)) fun (x6:AD)=>
    AB (gd ((((decide (0<(k:Int))) == true) && ((decide (l[k]!.Row<x6.Row)) == false)) && ((decide (l[k]!.Row=x6.Row)) == true)) (AM .i64 ((k:Int)-1))) fun (x7:Int)=>
    AB (gd ((((decide (0<(k:Int))) == true) && ((decide (l[k]!.Row<x6.Row)) == false)) && ((decide (l[k]!.Row=x6.Row)) == true)) (AO l x7)) fun (x8:AD)=>
    if ((decide (0<(k:Int))) && ((decide (l[k]!.Row<x6.Row)) || ((decide (l[k]!.Row=x6.Row)) && (decide (l[k]!.Col≤x8.Col))))) then a else b) =
   if 0<k∧0≤BE l[k-1]!.Row l[k]!.Row l[k-1]!.Col l[k]!.Col then a else b:=by
 have ho:=KY l[k-1]!.Row l[k]!.Row l[k-1]!.Col l[k]!.Col
 by_cases h0:0<k
 ·rw [decide_eq_true (show (0:Int)<k by omega),show ((true == true):Bool)=true from rfl,Ap,Fd h0 (by omega),AE,Ap,Af (show k-1<l.length by omega),AE]
  by_cases h1:l[k]!.Row<l[k-1]!.Row
  ·rw [decide_eq_true h1,if_pos (show 0<k∧0≤BE l[k-1]!.Row l[k]!.Row l[k-1]!.Col l[k]!.Col from ⟨h0,ho.2 (.inl h1)⟩)]; rfl
  ·by_cases h2:l[k]!.Row=l[k-1]!.Row
   ·rw [decide_eq_false h1,decide_eq_true h2,show (((true && (false == false)) && (true == true)):Bool)=true from rfl,Ap,AE,Ap,Af (show k-1<l.length by omega),AE]
    by_cases h3:l[k]!.Col≤l[k-1]!.Col
    ·rw [decide_eq_true h3,if_pos (show 0<k∧0≤BE l[k-1]!.Row l[k]!.Row l[k-1]!.Col l[k]!.Col from ⟨h0,ho.2 (.inr ⟨h2,h3⟩)⟩)]; rfl
    ·rw [decide_eq_false h3,if_neg (show ¬ (0<k∧0≤BE l[k-1]!.Row l[k]!.Row l[k-1]!.Col l[k]!.Col) from fun h=>by have:=ho.1 h.2; omega)]; rfl
   ·rw [decide_eq_false h1,decide_eq_false h2,if_neg (show ¬ (0<k∧0≤BE l[k-1]!.Row l[k]!.Row l[k-1]!.Col l[k]!.Col) from fun h=>by have:=ho.1 h.2; omega)]; rfl
 ·rw [if_neg (show ¬ (0<k∧0≤BE l[k-1]!.Row l[k]!.Row l[k-1]!.Col l[k]!.Col) from fun h=>h0 h.1),decide_eq_false (show ¬ (0:Int)<k by omega)]; rfl
theorem WZ (g:AJ) (h:H3 g):LG g=some (Dk g):=by
 obtain ⟨hc,hm,hcs⟩:=h
 unfold LG Dk
 rw [EO,AE]
 by_cases hr:B2 g.Rows g.Cols
 ·have hr':=hr
  obtain ⟨r1,r2,r3,r4⟩:=hr'
  rw [decide_eq_true (show 0≤g.Rows∧g.Rows≤2147483647 from ⟨r1,r2⟩),show ((!true) == false)=true from rfl,Ap,EO,AE,decide_eq_true (show 0≤g.Cols∧g.Cols≤2147483647 from ⟨r3,r4⟩),if_neg (by decide),
   Qi _ _ _ _ (by omega) hcs ⟨r1,r2⟩ ⟨r3,r4⟩,AE,if_neg (Classical.not_not.2 hr)]
  by_cases he:DA g.Rows g.Cols false g.Cells=0
  ·rw [if_neg (Dd he),if_neg (Classical.not_not.2 he),Ru (n:=g.Merges.length) (D7 g.Rows g.Cols g.Merges) (fun k hk hj=>by
    unfold Ls
    rw [if_pos (by simpa using hk),Af hk,AE,KC _ _ _ hr,AE]
    unfold D7
    by_cases h1:As g.Rows g.Cols g.Merges[k]!
    ·rw [decide_eq_true h1,if_neg (show ¬ ((!true)=true) by decide),if_neg (Classical.not_not.2 h1)]
     by_cases h2:g.Merges[k]!.H=1∧g.Merges[k]!.W=1
     ·rw [if_pos (by rw [decide_eq_true h2.1,decide_eq_true h2.2]; rfl),if_pos h2]; rfl
     ·rw [if_neg (by simp only [Bool.and_eq_true,decide_eq_true_eq]; exact h2),if_neg h2,Xb _ k hk (by omega)]
      by_cases h3:0<k∧0≤BE g.Merges[k-1]!.Row g.Merges[k]!.Row g.Merges[k-1]!.Col g.Merges[k]!.Col
      ·rw [if_pos h3,if_pos h3]; rfl
      ·rw [if_neg h3,if_neg h3,Cq (n:=k) (fun j=>if BV g.Merges[j]! g.Merges[k]! then some (.inr (.ext 21)) else none) (fun j hjk=>by
        unfold LF
        rw [if_pos (by rw [decide_eq_true_eq]; omega),Af (by omega),AE,Rc hr h1 (PU (hj j hjk)),AE,An (by omega)]
        cases BV g.Merges[j]! g.Merges[k]! <;> rfl) (by unfold LF; rw [if_neg (by rw [decide_eq_true_eq]; omega)]),OQ,Dx]
       unfold Hg
       cases (List.range k).find? fun j=>BV g.Merges[j]! g.Merges[k]! with
       | none=>rw [An (by omega)]; rfl
       | some j=>rfl
    ·rw [decide_eq_false h1,if_pos h1]; rfl) (by unfold Ls; rw [if_neg (by simp)]),Ik]
  ·rw [if_pos (Dn he),if_pos he]
 ·rw [if_pos hr]
  unfold B2 at hr
  by_cases a:0≤g.Rows∧g.Rows≤2147483647
  ·rw [decide_eq_true a,show ((!true) == false)=true from rfl,Ap,EO,AE,decide_eq_false (show ¬ (0≤g.Cols∧g.Cols≤2147483647) by omega)]; rfl
  ·rw [decide_eq_false a]; rfl
def TC (o:KT):Prop:=(1≤o.Clock∧o.Clock≤1073741824)∧(0≤o.Site∧o.Site≤1000)∧(1≤o.Item∧o.Item≤1073741824)
instance (o:KT):Decidable (TC o):=by unfold TC; infer_instance
open Go.Sort
def LB (l:List AD) (k:Nat):Option Int:=if ¬ As 2147483647 2147483647 l[k]! then some 2 else none
def LQ (l:List AD) (k:Nat):Option Int:=if ¬ As 2147483647 2147483647 l[k]! then some 2 else if l[k]!.H=1∧l[k]!.W=1 then some 4 else none
def HS (l:List AD):Option Int:=(List.range l.length).findSome? (LB l)
def HF (l:List AD):Option Int:=(List.range l.length).findSome? (LQ l)
def MN (e:AK):Int:=match HS e.Split with | some r=>r | none=>(HF e.Merge).getD 0
def E3 (e:AK):Int:=if Av e.Rows≠0 then Av e.Rows else if Av e.Cols≠0 then Av e.Cols else
 if DA 2147483647 2147483647 true e.Cells≠0 then DA 2147483647 2147483647 true e.Cells else MN e
structure GH (e:AK):Prop where
 rows:e.Rows.length≤1048576
 cols:e.Cols.length≤1048576
 cells:e.Cells.length≤1048576
 split:e.Split.length≤1048576
 merge:e.Merge.length≤1048576
 oc : ∀ c∈e.Cells,CQ c
theorem NX:B2 2147483647 2147483647:=by decide
theorem Td {α β ρ:Type} (l:List α) (G:α→Option β) (w:β→ρ):(l.findSome? fun k=>(G k).map w)=(l.findSome? G).map w:=by
 induction l with
 | nil=>rfl
 | cons a l ih=>
  rw [List.findSome?_cons,List.findSome?_cons]
  cases G a with
  | none=>exact ih
  | some b=>rfl
theorem XT (l:List AD) (hm:l.length≤1048576):iter (fun (a:Int)=>EX 0 l a) 0=some (Ek ((HS l).map fun v=>(.inr (.ext v):Int ⊕ Ao Unit Int))):=by
 unfold HS
 rw [← Td]
 refine Cq (f:=fun (a:Int)=>EX 0 l a) (n:=l.length) (fun k=>(LB l k).map fun v=>(.inr (.ext v):Int ⊕ Ao Unit Int)) (fun k hk=>?_) ?_
 ·unfold EX LB
  rw [if_pos (by simpa using hk),Af hk,AE,ND _ _ _ NX,AE]
  by_cases hi:As 2147483647 2147483647 l[k]!
  ·rw [if_neg (show ¬ (!decide (As 2147483647 2147483647 l[k]!))=true by rw [decide_eq_true hi]; decide),if_neg (show ¬ (((decide ((0:Int)=1)) && (decide (l[k]!.H=1))) && (decide (l[k]!.W=1)))=true by simp),if_neg (show ¬ ¬ As 2147483647 2147483647 l[k]! from fun h=>h hi),An (by omega),AE]; rfl
  ·rw [if_pos (by rw [decide_eq_false hi]; rfl),if_pos hi]; rfl
 ·show EX 0 l (l.length:Int)=_
  unfold EX
  rw [if_neg (by simp)]
theorem Vr (l:List AD) (hm:l.length≤1048576):iter (fun (a:Int)=>EX 1 l a) 0=some (Ek ((HF l).map fun v=>(.inr (.ext v):Int ⊕ Ao Unit Int))):=by
 unfold HF
 rw [← Td]
 refine Cq (f:=fun (a:Int)=>EX 1 l a) (n:=l.length) (fun k=>(LQ l k).map fun v=>(.inr (.ext v):Int ⊕ Ao Unit Int)) (fun k hk=>?_) ?_
 ·unfold EX LQ
  rw [if_pos (by simpa using hk),Af hk,AE,ND _ _ _ NX,AE]
  by_cases hi:As 2147483647 2147483647 l[k]!
  ·rw [if_neg (show ¬ (!decide (As 2147483647 2147483647 l[k]!))=true by rw [decide_eq_true hi]; decide),if_neg (show ¬ ¬ As 2147483647 2147483647 l[k]! from fun h=>h hi)]
   by_cases h1:l[k]!.H=1∧l[k]!.W=1
   ·rw [if_pos (show (((decide ((1:Int)=1)) && (decide (l[k]!.H=1))) && (decide (l[k]!.W=1)))=true by rw [decide_eq_true h1.1,decide_eq_true h1.2]; rfl),if_pos h1]; rfl
   ·rw [if_neg (show ¬ (((decide ((1:Int)=1)) && (decide (l[k]!.H=1))) && (decide (l[k]!.W=1)))=true by simp only [Bool.and_eq_true,decide_eq_true_eq]; rintro ⟨⟨_,a⟩,b⟩; exact h1 ⟨a,b⟩),if_neg h1,An (by omega),AE]; rfl
  ·rw [if_pos (by rw [decide_eq_false hi]; rfl),if_pos hi]; rfl
 ·show EX 1 l (l.length:Int)=_
  unfold EX
  rw [if_neg (by simp)]
theorem Yn (e:AK) (h:GH e):(Ay (iter (fun (a:Int)=>Dy e a) 0) fun (_:Unit)=>some (0:Int))=some (MN e):=by
 have hs:=XT e.Split h.split
 have hm:=Vr e.Merge h.merge
 have i0:AO ([e.Split,e.Merge]:List (List AD)) 0=some e.Split:=rfl
 have i1:AO ([e.Split,e.Merge]:List (List AD)) 1=some e.Merge:=rfl
 have s0:Dy e 0=match HS e.Split with | some r=>some (.inr (.ext r)) | none=>some (.inl 1):=by
  unfold Dy
  rw [if_pos (by decide),i0,AE,hs]
  cases HS e.Split with
  | some r=>rfl
  | none=>rw [show Ek ((none:Option Int).map fun v=>(.inr (.ext v):Int ⊕ Ao Unit Int)) = .nrm () from rfl,Cg,Be (by decide) (by decide),AE]; rfl
 have s1:Dy e 1=match HF e.Merge with | some r=>some (.inr (.ext r)) | none=>some (.inl 2):=by
  unfold Dy
  rw [if_pos (by decide),i1,AE,hm]
  cases HF e.Merge with
  | some r=>rfl
  | none=>rw [show Ek ((none:Option Int).map fun v=>(.inr (.ext v):Int ⊕ Ao Unit Int)) = .nrm () from rfl,Cg,Be (by decide) (by decide),AE]; rfl
 have s2:Dy e 2=some (.inr (.nrm ())):=by
  unfold Dy
  rw [if_neg (by decide)]
 unfold MN
 cases hsp:HS e.Split with
 | some r=>
  rw [hsp] at s0
  rw [BL (f:=fun (a:Int)=>Dy e a) s0,FY]
 | none=>
  rw [hsp] at s0
  rw [CT (f:=fun (a:Int)=>Dy e a) s0]
  cases hmg:HF e.Merge with
  | some r=>
   rw [hmg] at s1
   rw [BL (f:=fun (a:Int)=>Dy e a) s1,FY]; rfl
  | none=>
   rw [hmg] at s1
   rw [CT (f:=fun (a:Int)=>Dy e a) s1,BL (f:=fun (a:Int)=>Dy e a) s2,Cg]; rfl
theorem O4 (e:AK) (h:GH e):Ki e=some (E3 e):=by
 have h1:=h.rows
 have h2:=h.cols
 have h3:=h.cells
 have i0:AO ([e.Rows,e.Cols]:List (List AG)) 0=some e.Rows:=rfl
 have i1:AO ([e.Rows,e.Cols]:List (List AG)) 1=some e.Cols:=rfl
 have s0:EE e 0=if Av e.Rows≠0 then some (.inr (.ext (Av e.Rows))) else some (.inl 1):=by
  unfold EE
  rw [if_pos (by decide),i0,AE,JD _ (by omega),AE]
  by_cases hz:Av e.Rows=0
  ·rw [if_neg (Dd hz),if_neg (by simpa using hz),Be (by decide) (by decide),AE]; rfl
  ·rw [if_pos (Dn hz),if_pos hz]
 have s1:EE e 1=if Av e.Cols≠0 then some (.inr (.ext (Av e.Cols))) else some (.inl 2):=by
  unfold EE
  rw [if_pos (by decide),i1,AE,JD _ (by omega),AE]
  by_cases hz:Av e.Cols=0
  ·rw [if_neg (Dd hz),if_neg (by simpa using hz),Be (by decide) (by decide),AE]; rfl
  ·rw [if_pos (Dn hz),if_pos hz]
 have s2:EE e 2=some (.inr (.nrm ())):=by
  unfold EE
  rw [if_neg (by decide)]
 unfold Ki E3
 by_cases hr:Av e.Rows=0
 ·rw [if_neg (by simpa using hr)] at s0
  rw [if_neg (show ¬ (Av e.Rows≠0) by simpa using hr),CT (f:=fun (a:Int)=>EE e a) s0]
  by_cases hc:Av e.Cols=0
  ·rw [if_neg (by simpa using hc)] at s1
   rw [if_neg (show ¬ (Av e.Cols≠0) by simpa using hc),CT (f:=fun (a:Int)=>EE e a) s1,BL (f:=fun (a:Int)=>EE e a) s2,Cg,QB _ _ _ _ (by omega) h.oc,AE]
   by_cases hz:DA 2147483647 2147483647 true e.Cells=0
   ·rw [if_neg (Dd hz),if_neg (show ¬ (DA 2147483647 2147483647 true e.Cells≠0) by simpa using hz)]
    exact Yn e h
   ·rw [if_pos (Dn hz),if_pos hz]
  ·rw [if_pos hc] at s1
   rw [if_pos hc,BL (f:=fun (a:Int)=>EE e a) s1,FY]
 ·rw [if_pos hr] at s0
  rw [if_pos hr,BL (f:=fun (a:Int)=>EE e a) s0,FY]
theorem SY (e:AK) (h:GH e):Ju e=some (E3 e):=by
 have h1:=h.rows
 have h2:=h.cols
 have h3:=h.cells
 have h4:=h.split
 have h5:=h.merge
 have l1:iter (fun (a:Int)=>HQ e a) 0=some (Ek (HS e.Split)):=by
  refine Cq (f:=fun (a:Int)=>HQ e a) (n:=e.Split.length) (LB e.Split) (fun k hk=>?_) ?_
  ·unfold HQ LB
   rw [if_pos (by simpa using hk),Af hk,AE,KC _ _ _ NX,AE]
   by_cases hi:As 2147483647 2147483647 e.Split[k]!
   ·rw [if_neg (show ¬ (!decide (As 2147483647 2147483647 e.Split[k]!))=true by rw [decide_eq_true hi]; decide),if_neg (show ¬ ¬ As 2147483647 2147483647 e.Split[k]! from fun h=>h hi),An (by omega),AE]; rfl
   ·rw [if_pos (by rw [decide_eq_false hi]; rfl),if_pos hi]; rfl
  ·show HQ e (e.Split.length:Int)=_
   unfold HQ
   rw [if_neg (by simp)]
 have l2:iter (fun (a:Int)=>HX e a) 0=some (Ek (HF e.Merge)):=by
  refine Cq (f:=fun (a:Int)=>HX e a) (n:=e.Merge.length) (LQ e.Merge) (fun k hk=>?_) ?_
  ·unfold HX LQ
   rw [if_pos (by simpa using hk),Af hk,AE,KC _ _ _ NX,AE]
   by_cases hi:As 2147483647 2147483647 e.Merge[k]!
   ·rw [if_neg (show ¬ (!decide (As 2147483647 2147483647 e.Merge[k]!))=true by rw [decide_eq_true hi]; decide),if_neg (show ¬ ¬ As 2147483647 2147483647 e.Merge[k]! from fun h=>h hi)]
    by_cases h1:e.Merge[k]!.H=1∧e.Merge[k]!.W=1
    ·rw [if_pos (show ((decide (e.Merge[k]!.H=1)) && (decide (e.Merge[k]!.W=1)))=true by rw [decide_eq_true h1.1,decide_eq_true h1.2]; rfl),if_pos h1]; rfl
    ·rw [if_neg (show ¬ ((decide (e.Merge[k]!.H=1)) && (decide (e.Merge[k]!.W=1)))=true by rw [Bool.and_eq_true,decide_eq_true_eq,decide_eq_true_eq]; exact h1),if_neg h1,An (by omega),AE]; rfl
   ·rw [if_pos (by rw [decide_eq_false hi]; rfl),if_pos hi]; rfl
  ·show HX e (e.Merge.length:Int)=_
   unfold HX
   rw [if_neg (by simp)]
 unfold Ju E3
 rw [Sa _ (by omega),AE]
 by_cases hr:Av e.Rows=0
 ·rw [if_neg (Dd hr),if_neg (show ¬ (Av e.Rows≠0) by simpa using hr),Sa _ (by omega),AE]
  by_cases hc:Av e.Cols=0
  ·rw [if_neg (Dd hc),if_neg (show ¬ (Av e.Cols≠0) by simpa using hc),Qi _ _ _ _ (by omega) h.oc (by decide) (by decide),AE]
   by_cases hz:DA 2147483647 2147483647 true e.Cells=0
   ·rw [if_neg (Dd hz),if_neg (show ¬ (DA 2147483647 2147483647 true e.Cells≠0) by simpa using hz),l1,Dx]
    unfold MN
    cases HS e.Split with
    | some r=>rfl
    | none=>
     dsimp only
     rw [l2,Dx]
     cases HF e.Merge <;> rfl
   ·rw [if_pos (Dn hz),if_pos hz]
  ·rw [if_pos (Dn hc),if_pos hc]
 ·rw [if_pos (Dn hr),if_pos hr]
def g0:AJ:=AJ.mk 2 1 [(AC.mk 1 0 [120] 0 [])] []
def e0:AK:=AK.mk [(AG.mk 1 1),(AG.mk 0 2)] [] [] [] []
theorem WK:H3 g0:=⟨by decide,by decide,fun c hc=>by
 have:c=AC.mk 1 0 [120] 0 []:=by simpa [g0] using hc
 subst this
 exact ⟨Tr,by decide⟩⟩
theorem WU:GH e0:=⟨by decide,by decide,by decide,by decide,by decide,fun c hc=>by cases hc⟩
theorem S8:Dl 2 e0.Rows=some (3,true):=by
 have h1:Av e0.Rows=0:=by decide
 have h2:Ah e0.Rows=2∧Am e0.Rows=3:=by decide
 unfold Dl
 rw [if_neg (by decide),SJ _ (by decide),if_neg (by rw [h1]; simp),Hj,h2.1,h2.2]; rfl
theorem Sd:Dl 1 e0.Cols=some (1,true):=by
 unfold Dl
 rw [if_pos (by decide)]
theorem XE:Ea g0 e0=some (3,1,0):=by
 have hg:Dk g0=0:=by decide +kernel
 have he:E3 e0=0:=by decide +kernel
 have s1:GD e0 3 1 0=some (.inr (.nrm ())):=by
  unfold GD; rw [if_neg (by decide)]
 have t0:FR 3 1 ([]:List AD) 0=some (.inr (.nrm ())):=by
  unfold FR; rw [if_neg (by decide)]
 have t1:CN e0 3 1 0=some (.inl 1):=by
  unfold CN
  rw [if_pos (by decide),show AO ([e0.Split,e0.Merge]:List (List AD)) 0=some [] from rfl,AE,BL (f:=fun (a:Int)=>FR 3 1 ([]:List AD) a) t0,Cg,Be (by decide) (by decide),AE]; rfl
 have t2:CN e0 3 1 1=some (.inl 2):=by
  unfold CN
  rw [if_pos (by decide),show AO ([e0.Split,e0.Merge]:List (List AD)) 1=some [] from rfl,AE,BL (f:=fun (a:Int)=>FR 3 1 ([]:List AD) a) t0,Cg,Be (by decide) (by decide),AE]; rfl
 have t3:CN e0 3 1 2=some (.inr (.nrm ())):=by
  unfold CN; rw [if_neg (by decide)]
 unfold Ea
 rw [NJ _ WK,AE,if_neg (Dd hg),O4 _ WU,AE,if_neg (Dd he)]
 show Az (Dl 2 e0.Rows) _=_
 rw [S8,BD]
 show Az (Dl 1 e0.Cols) _=_
 rw [Sd,BD,if_neg (by decide),BL (f:=fun (a:Int)=>GD e0 3 1 a) s1,Cg,CT (f:=fun (a:Int)=>CN e0 3 1 a) t1,CT (f:=fun (a:Int)=>CN e0 3 1 a) t2,BL (f:=fun (a:Int)=>CN e0 3 1 a) t3,Cg]
def Fe:AC:=AC.mk 1 0 [120] 0 []
def EA:AC:=AC.mk 2 0 [120] 0 []
theorem X0:HG [Fe] e0.Rows e0.Cols=some [EA]:=by
 have ha:E4 e0.Rows [1]=some ([2],0):=by
  have h1:Av e0.Rows=0:=by decide
  have h2:Im e0.Rows (Ah e0.Rows) [1] [] = .nrm [2]:=by rfl
  rw [Tg _ _ (by decide) (by decide),if_neg (by rw [h1]; simp),h2,Cg]
 have hcl:FQ Fe=some Fe:=rfl
 have s0:D1 [Fe] e0.Rows e0.Cols 0 []=some (.inl (1,[EA])):=by
  unfold D1
  rw [if_pos (by decide),show AO [Fe] 0=some Fe from rfl,AE,hcl,AE,if_pos (by decide)]
  show AB (Ay (Az (E4 e0.Rows [1]) _) _) _=_
  rw [ha,BD]
  rfl
 have s1:D1 [Fe] e0.Rows e0.Cols 1 [EA]=some (.inr [EA]):=by
  unfold D1
  rw [if_neg (by decide)]
 unfold HG
 rw [CT (f:=fun (a:Int × (List AC))=>D1 [Fe] e0.Rows e0.Cols a.1 a.2) s0,BL (f:=fun (a:Int × (List AC))=>D1 [Fe] e0.Rows e0.Cols a.1 a.2) s1,AE]
theorem bv:HZ [EA] []=some [EA]:=by
 have s0:GY [EA] [] 0 0 []=some (.inr (0,[])):=by
  unfold GY; rw [if_neg (by decide)]
 unfold HZ
 rw [BL (f:=fun (a:Int × Int × (List AC))=>GY [EA] [] a.1 a.2.1 a.2.2) s0,BD]
 rfl
theorem Vp (a b:AD):G5 a b=some (BE a.Row b.Row a.Col b.Col):=by
 unfold G5
 rw [Nm,Nm,AE,AE,RS,AE,SN]
def FI (a b:AD):Prop:=a.Row<b.Row∨(a.Row=b.Row∧a.Col<b.Col)
theorem YM (a b c d:Int):BE a b c d<0↔(a<b∨(a=b∧c<d)):=by
 have:=KY a b c d
 constructor
 ·intro h; have : ¬ 0≤BE a b c d:=by omega
  omega
 ·intro h; have : ¬ 0≤BE a b c d:=by omega
  omega
theorem QW (a b:AD):ltOf (fun a b:AD=>BE a.Row b.Row a.Col b.Col) a b=true↔FI a b:=by
 unfold ltOf FI
 rw [decide_eq_true_eq]
 exact YM ..
theorem NP (a b:AD):ltOf (fun a b:AD=>BE a.Row b.Row a.Col b.Col) a b=false ↔ ¬ FI a b:=by
 rw [← QW,Bool.not_eq_true]
theorem Qj {M L:List AD} (hm:M.length≤4194304) (hp:L.Perm M) (hs:L.Pairwise FI):E5 G5 M=some L:=by
 refine Uq ⟨by omega,fun a b=>BE a.Row b.Row a.Col b.Col,Vp,⟨fun x=>?_,fun x y z h1 h2=>?_,fun x y z h1 h2=>?_⟩,fun a ha b hb h1 h2=>?_,hp,hs.imp fun {a b} h=>?_⟩
 ·rw [NP]; unfold FI; omega
 ·rw [QW] at *; unfold FI at *; omega
 ·rw [NP] at *; unfold FI at *; omega
 ·rw [NP] at h1 h2
  obtain ⟨i,hi,rfl⟩:=List.getElem_of_mem (hp.symm.subset ha)
  obtain ⟨j,hj,rfl⟩:=List.getElem_of_mem (hp.symm.subset hb)
  rw [List.pairwise_iff_getElem] at hs
  rcases Nat.lt_trichotomy i j with h | h | h
  ·exact absurd (hs i j hi hj h) h1
  ·subst h; rfl
  ·exact absurd (hs j i hj hi h) h2
 ·rw [NP]; unfold FI at *; omega
theorem az:FS g0 e0=some (AJ.mk 3 1 [EA] []):=by
 have s1:Eb g0 e0 0 (AJ.mk 3 1 [EA] [])=some (.inr (AJ.mk 3 1 [EA] [])):=by
  unfold Eb; rw [if_neg (by decide)]
 have s2:Ey e0 0 (AJ.mk 3 1 [EA] [])=some (.inr (AJ.mk 3 1 [EA] [])):=by
  unfold Ey; rw [if_neg (by decide)]
 unfold FS
 show Az (Dl 2 e0.Rows) _=_
 rw [S8,BD]
 show Az (Dl 1 e0.Cols) _=_
 rw [Sd,BD]
 show AB (HG [Fe] e0.Rows e0.Cols) _=_
 rw [X0,AE]
 show AB (HZ [EA] []) _=_
 rw [bv,AE,BL (f:=fun (a:Int × AJ)=>Eb g0 e0 a.1 a.2) s1,AE,BL (f:=fun (a:Int × AJ)=>Ey e0 a.1 a.2) s2,AE]
 show AB (E5 G5 []) _=_
 rw [Qj (L:=[]) (by simp) (List.Perm.refl _) List.Pairwise.nil,AE]
theorem UF:Kl=some true:=by
 unfold Kl
 show Az (LM g0 e0) _=_
 unfold LM
 rw [XE,Hj,if_neg (by decide),az,AE,BD]
 rfl
end Go.Proofs.YtojmbndlghbpjaaGreatDoor.Al

namespace Go.Proofs.YtojmbndlghbpjaaGreatDoor.Al
theorem XD {n:Nat} (h:n<18446744073709551616):IntKind.u64.wrap (n:Int)=(n:Int):=by
 have e:(n:Int) % (2 ^ (64:Nat):Int)=(n:Int):=Int.emod_eq_of_lt (by omega) (by omega)
 show (if (false && decide ((n:Int) % (2 ^ (64:Nat):Int) ≥ (2 ^ (63:Nat):Int)))=true then (n:Int) % (2 ^ (64:Nat):Int)-(2 ^ (64:Nat):Int) else (n:Int) % (2 ^ (64:Nat):Int))=_
 rw [e,if_neg (by simp)]
theorem Yp (n:Nat) (h:n<9223372036854775808):IntKind.i64.wrap (Dv .u64 (IntKind.u64.wrap (n:Int)) 1)=((n / 2:Nat):Int):=by
 rw [XD (by omega)]
 have:Dv .u64 (n:Int) 1=((n / 2:Nat):Int):=by
  show ((n:Int)).fdiv (2 ^ (min 1 64))=_
  rw [show (2:Int) ^ (min 1 64)=2 from rfl,Int.fdiv_eq_ediv_of_nonneg _ (by decide)]
  omega
 rw [this,QK (by omega)]
def Cc (c t:AC):Int:=BE c.Row t.Row c.Col t.Col
theorem Gw (c t:AC):Cc c t<0↔(c.Row<t.Row∨(c.Row=t.Row∧c.Col<t.Col)):=by
 have:=KY c.Row t.Row c.Col t.Col
 unfold Cc
 omega
theorem LU (c t:AC):Cc c t=0↔(c.Row=t.Row∧c.Col=t.Col):=by
 unfold Cc BE
 constructor
 ·intro h
  split at h
  ·cases h
  ·split at h
   ·cases h
   ·split at h
    ·cases h
    ·split at h
     ·cases h
     ·omega
 ·rintro ⟨h1,h2⟩
  rw [if_neg (by omega),if_neg (by omega),if_neg (by omega),if_neg (by omega)]
def Gg (l:List AC):Prop:=∀ k,k+1<l.length→Cc l[k]! l[k+1]! < 0
theorem PB {a b c:AC} (h1:Cc a b<0) (h2:Cc b c<0):Cc a c<0:=by
 rw [Gw] at *
 omega
theorem QZ {l:List AC} (h:Gg l) : ∀ (d i:Nat),i+d+1<l.length→Cc l[i]! l[i+d+1]! < 0
 | 0,i,hi=>h i hi
 | d+1,i,hi=>PB (QZ h d i (by omega)) (h (i+d+1) hi)
theorem JX {l:List AC} (h:Gg l) {i j:Nat} (hij:i<j) (hj:j<l.length):Cc l[i]! l[j]! < 0:=by
 have:=QZ h (j-i-1) i (by omega)
 rwa [show i+(j-i-1)+1=j by omega] at this
theorem bj (l:List AC) (t:AC) (hs:Gg l) (hm:l.length≤1048576) : ∀ (n i j:Nat),j-i=n→i≤j→j≤l.length→(∀ k,k<i→Cc l[k]! t<0)→(∀ k,j≤k→k<l.length → ¬ Cc l[k]! t<0) →
  ∃ m:Nat,iter (fun (a:Int × Int)=>FH l t a.1 a.2) ((i:Int),(j:Int))=some (m:Int)∧m≤l.length∧(∀ k,k<m→Cc l[k]! t<0)∧(∀ k,m≤k→k<l.length → ¬ Cc l[k]! t<0):=by
 intro n
 induction n using Nat.strongRecOn with
 | _ n ih=>
  intro i j hn hij hj h1 h2
  by_cases hlt:i<j
  ·have hmid:(i+j) / 2<l.length:=by omega
   have hround:FH l t (i:Int) (j:Int)=if Cc l[(i+j) / 2]! t<0 then some (.inl ((((i+j) / 2+1:Nat):Int),(j:Int))) else some (.inl ((i:Int),(((i+j) / 2:Nat):Int))):=by
    unfold FH
    rw [if_pos (by rw [decide_eq_true_eq]; omega),Be (by omega) (by omega),AE,show ((i:Int)+(j:Int))=((i+j:Nat):Int) by omega,Yp _ (by omega),Af hmid,AE,GX,AE]
    show (if decide (Cc l[(i+j) / 2]! t<0)=true then _ else _)=_
    by_cases hc:Cc l[(i+j) / 2]! t<0
    ·rw [if_pos (decide_eq_true hc),if_pos hc,An (by omega),AE]
    ·rw [if_neg (by rw [decide_eq_true_eq]; exact hc),if_neg hc]
   by_cases hc:Cc l[(i+j) / 2]! t<0
   ·rw [if_pos hc] at hround
    rw [CT (f:=fun (a:Int × Int)=>FH l t a.1 a.2) hround]
    refine ih (j-((i+j) / 2+1)) (by omega) _ _ rfl (by omega) hj (fun k hk=>?_) h2
    by_cases hk2:k=(i+j) / 2
    ·rw [hk2]; exact hc
    ·exact PB (JX hs (show k<(i+j) / 2 by omega) hmid) hc
   ·rw [if_neg hc] at hround
    rw [CT (f:=fun (a:Int × Int)=>FH l t a.1 a.2) hround]
    refine ih ((i+j) / 2-i) (by omega) _ _ rfl (by omega) (by omega) h1 (fun k hk hkl=>?_)
    by_cases hk2:k=(i+j) / 2
    ·rw [hk2]; exact hc
    ·intro hlt2
     exact hc (PB (JX hs (show (i+j) / 2<k by omega) hkl) hlt2)
  ·obtain rfl:i=j:=by omega
   refine ⟨i,?_,hj,h1,h2⟩
   refine BL (f:=fun (a:Int × Int)=>FH l t a.1 a.2) ?_
   show FH l t (i:Int) (i:Int)=_
   unfold FH
   rw [if_neg (by simp)]
def Bs (l:List AC) (row col:Int):AC:=(l.find? fun c=>decide (c.Row=row) && decide (c.Col=col)).getD (AC.mk row col [] 0 [])
theorem Sp (l:List AC) (row col:Int) (h : ∀ k,k<l.length → ¬ (l[k]!.Row=row∧l[k]!.Col=col)):Bs l row col=AC.mk row col [] 0 []:=by
 have:(l.find? fun c=>decide (c.Row=row) && decide (c.Col=col))=none:=by
  rw [List.find?_eq_none]
  intro c hc
  obtain ⟨k,hk,rfl⟩:=List.mem_iff_getElem.1 hc
  have:=h k hk
  rw [getElem!_pos l k hk] at this
  simpa using this
 unfold Bs
 rw [this]; rfl
theorem Wh {l:List AC} (hs:Gg l) {row col:Int} {m:Nat} (hm:m<l.length) (h:l[m]!.Row=row∧l[m]!.Col=col):Bs l row col=l[m]!:=by
 have hu : ∀ k,k<l.length→(l[k]!.Row=row∧l[k]!.Col=col)→k=m:=by
  intro k hk hkr
  apply Classical.byContradiction
  intro hne
  rcases Nat.lt_or_gt_of_ne hne with hlt | hgt
  ·have:=JX hs hlt hm
   rw [Gw] at this
   omega
  ·have:=JX hs hgt hk
   rw [Gw] at this
   omega
 have hx : ∃ c,(l.find? fun c=>decide (c.Row=row) && decide (c.Col=col))=some c:=by
  cases hf:l.find? fun c=>decide (c.Row=row) && decide (c.Col=col) with
  | some c=>exact ⟨c,rfl⟩
  | none=>
   rw [List.find?_eq_none] at hf
   have:=hf l[m]! (Bx hm)
   rw [h.1,h.2] at this
   simp at this
 obtain ⟨c,hc⟩:=hx
 have h1:=List.find?_some hc
 have h2:=List.mem_of_find?_eq_some hc
 obtain ⟨k,hk,hkc⟩:=List.mem_iff_getElem.1 h2
 have h3:l[k]! = c:=by rw [getElem!_pos l k hk,hkc]
 simp only [Bool.and_eq_true,decide_eq_true_eq] at h1
 have:=hu k hk (by rw [h3]; exact h1)
 unfold Bs
 rw [hc,← this,h3]; rfl
theorem QE (g:AJ) (row col:Int) (hs:Gg g.Cells) (hm:g.Cells.length≤1048576) (hc : ∀ c∈g.Cells,CQ c):JP g row col=some (Bs g.Cells row col):=by
 obtain ⟨m,m1,m2,m3,m4⟩:=bj g.Cells (AC.mk row col [] 0 []) hs hm _ 0 g.Cells.length rfl (Nat.zero_le _) (Nat.le_refl _) (fun k hk=>absurd hk (Nat.not_lt_zero k)) (fun k h1 h2=>absurd h2 (by omega))
 unfold JP Mc M3
 rw [show (((0:Int),(g.Cells.length:Int)))=(((0:Nat):Int),(g.Cells.length:Int)) from rfl,m1,AE]
 by_cases hml:m<g.Cells.length
 ·rw [decide_eq_true (show (m:Int)<(g.Cells.length:Int) by omega)]
  simp only [beq_self_eq_true,Ap,Bool.true_and]
  rw [Af hml,AE,GX,AE,BD,BD]
  show (if (!decide (Cc g.Cells[m]! (AC.mk row col [] 0 [])=0))=true then _ else _)=_
  by_cases h0:Cc g.Cells[m]! (AC.mk row col [] 0 [])=0
  ·rw [if_neg (Dd h0)]
   rw [LU] at h0
   unfold FQ
   rw [Af hml,AE,ZS (hc _ (Bx hml)).1.1,AE,AE,Wh hs hml h0]
  ·rw [if_pos (Dn h0),Sp]
   intro k hk hkr
   have e0:Cc g.Cells[k]! (AC.mk row col [] 0 [])=0:=(LU _ _).2 hkr
   by_cases h1:k<m
   ·have:=m3 k h1; omega
   ·by_cases h2:k=m
    ·rw [h2] at e0; exact h0 e0
    ·have h3:=JX hs (show m<k by omega) hk
     have h4:=m4 m (Nat.le_refl _) hml
     rw [Gw] at h3
     have h5 : ¬ (g.Cells[m]!.Row<row∨(g.Cells[m]!.Row=row∧g.Cells[m]!.Col<col)):=fun q=>h4 ((Gw g.Cells[m]! (AC.mk row col [] 0 [])).2 q)
     have h6 : ¬ (g.Cells[m]!.Row=row∧g.Cells[m]!.Col=col):=fun q=>h0 ((LU g.Cells[m]! (AC.mk row col [] 0 [])).2 q)
     omega
 ·rw [decide_eq_false (show ¬ (m:Int)<(g.Cells.length:Int) by omega)]
  simp only [show (false == true)=false from rfl,EH,AE,BD,Bool.false_and]
  rw [if_pos (by rfl),Sp]
  intro k hk hkr
  have e0:Cc g.Cells[k]! (AC.mk row col [] 0 [])=0:=(LU _ _).2 hkr
  have:=m3 k (by omega)
  omega
def Ez (r:AD) (row col:Int):Bool:=decide (r.Row≤row∧row<r.Row+r.H∧r.Col≤col∧col<r.Col+r.W)
def M8 (l:List AD) (row col:Int) (k:Nat):Option AD:=if Ez l[k]! row col=true then some l[k]! else none
theorem Li {l:Nat} {G:Nat→Option Int} (h:((List.range l).findSome? G).getD 0=0) (hn : ∀ k,k<l→G k≠some 0) : ∀ k,k<l→G k=none:=by
 intro k hk
 cases hf:(List.range l).findSome? G with
 | none=>
  rw [List.findSome?_eq_none_iff] at hf
  exact hf k (List.mem_range.2 hk)
 | some v=>
  rw [hf] at h
  obtain ⟨j,hj,hjv⟩:=List.exists_of_findSome?_eq_some hf
  have h0:v=0:=h
  rw [h0] at hjv
  exact absurd hjv (hn j (List.mem_range.1 hj))
theorem Nj {g:AJ} (h:Dk g=0):B2 g.Rows g.Cols∧Gg g.Cells ∧ ∀ k,k<g.Merges.length→As g.Rows g.Cols g.Merges[k]!:=by
 unfold Dk at h
 by_cases h1:B2 g.Rows g.Cols
 ·rw [if_neg (by simpa using h1)] at h
  by_cases h2:DA g.Rows g.Cols false g.Cells=0
  ·rw [if_neg (by simpa using h2)] at h
   refine ⟨h1,fun k hk=>?_,fun k hk=>?_⟩
   ·have:=Li h2 (fun k _ he=>by
     unfold FC at he
     split at he
     ·rename_i hne
      injection he with he
      exact hne he
     ·split at he
      ·cases he
      ·cases he) (k+1) (by omega)
    unfold FC at this
    split at this
    ·cases this
    ·split at this
     ·cases this
     ·rename_i hq
      rw [Nat.add_sub_cancel] at hq
      show BE _ _ _ _<0
      have:=fun h=>hq ⟨by omega,h⟩
      omega
   ·have:=Li h (fun k _ he=>by
     unfold D7 at he
     split at he
     ·cases he
     ·split at he
      ·cases he
      ·split at he
       ·cases he
       ·split at he
        ·cases he
        ·cases he) k hk
    exact PU this
  ·rw [if_pos h2] at h; exact absurd h h2
 ·rw [if_pos h1] at h; cases h
theorem Oq (a b:List AG):Ah (a++b)=Ah a+Ah b:=by simp [Ah]
theorem Om (a b:List AG):Am (a++b)=Am a+Am b:=by simp [Am]
theorem P9 : ∀ {l:List AG} {i:Nat} {s:AG},i<l.length→Ah (l.set i s)=Ah l-BU l[i]! + BU s∧Am (l.set i s)=Am l-BW l[i]! + BW s
 | x :: l,0,s,_=>by
  rw [List.set_cons_zero,Da,Da,Db,Db]
  show _=BU x+_-BU x+_∧_=BW x+_-BW x+_
  omega
 | x :: l,i+1,s,h=>by
  obtain ⟨h1,h2⟩:=P9 (l:=l) (i:=i) (s:=s) (by simpa using h)
  rw [List.set_cons_succ,Da,Da,Db,Db,h1,h2]
  show _=_-BU l[i]! + _∧_=_-BW l[i]! + _
  omega
theorem Vi (l:List AG) (n:Int):Ah (CZ l n)=Ah l+n∧Am (CZ l n)=Am l+n:=by
 unfold CZ
 split
 ·rename_i h
  obtain ⟨h1,h2⟩:=P9 (l:=l) (i:=l.length-1) (s:=⟨l[l.length-1]!.Kind,l[l.length-1]!.N+n⟩) (by omega)
  rw [h1,h2]
  unfold BU BW
  dsimp only
  rw [h.2,if_neg (by decide),if_neg (by decide),if_neg (by decide),if_neg (by decide)]
  omega
 ·rw [Oq,Om]
  constructor
  ·show _+(n+0)=_; omega
  ·show _+(n+0)=_; omega
def PR (W:Int→Int) (lo hi:Int) (c:Int × Int):Prop:=
 (c=(0,0) ∧ ∀ r,lo≤r→r<hi→W r<0) ∨ ∃ r0 r1,lo≤r0∧r0≤r1∧r1<hi∧0≤W r0∧0≤W r1∧(∀ r,lo≤r→r<hi→0≤W r→r0≤r∧r≤r1)∧c=(W r0,W r1+1)
theorem PR.uniq {W:Int→Int} {lo hi:Int} {c d:Int × Int} (h1:PR W lo hi c) (h2:PR W lo hi d):c=d:=by
 rcases h1 with ⟨rfl,a⟩ | ⟨r0,r1,a1,a2,a3,a4,a5,a6,rfl⟩
 ·rcases h2 with ⟨rfl,_⟩ | ⟨s0,s1,b1,b2,b3,b4,_⟩
  ·rfl
  ·have:=a s0 b1 (by omega); omega
 ·rcases h2 with ⟨rfl,b⟩ | ⟨s0,s1,b1,b2,b3,b4,b5,b6,rfl⟩
  ·have:=b r0 a1 (by omega); omega
  ·have c1:=a6 s0 b1 (by omega) b4
   have c2:=a6 s1 (by omega) (by omega) b5
   have c3:=b6 r0 a1 (by omega) a4
   have c4:=b6 r1 (by omega) (by omega) a5
   obtain rfl:r0=s0:=by omega
   obtain rfl:r1=s1:=by omega
   rfl
theorem PR.congr {W V:Int→Int} {lo hi:Int} {c:Int × Int} (h:PR W lo hi c) (e : ∀ r,lo≤r→W r=V r):PR V lo hi c:=by
 rcases h with ⟨rfl,a⟩ | ⟨r0,r1,a1,a2,a3,a4,a5,a6,rfl⟩
 ·exact .inl ⟨rfl,fun r h1 h2=>by rw [← e r h1]; exact a r h1 h2⟩
 ·rw [e r0 a1,e r1 (by omega)]
  exact .inr ⟨r0,r1,a1,a2,a3,by rw [← e r0 a1]; exact a4,by rw [← e r1 (by omega)]; exact a5,fun r h1 h2 h3=>a6 r h1 h2 (by rw [e r h1]; exact h3),rfl⟩
theorem PR.wide {W:Int→Int} {lo h1 h2:Int} {c:Int × Int} (h:PR W lo h1 c) (e : ∀ r,lo≤r→h1≤r→r<h2→W r<0) (hl:h1≤h2):PR W lo h2 c:=by
 rcases h with ⟨rfl,a⟩ | ⟨r0,r1,a1,a2,a3,a4,a5,a6,rfl⟩
 ·refine .inl ⟨rfl,fun r b1 b2=>?_⟩
  rcases Int.lt_or_le r h1 with b | b
  ·exact a r b1 b
  ·exact e r b1 b b2
 ·refine .inr ⟨r0,r1,a1,a2,by omega,a4,a5,fun r b1 b2 b3=>?_,rfl⟩
  rcases Int.lt_or_le r h1 with b | b
  ·exact a6 r b1 b b3
  ·have:=e r b1 b b2; omega
theorem PR.more {W:Int→Int} {lo h1 h2 m:Int} {c:Int × Int} (h:PR W lo h1 c) (hm:m=max lo h1) (hl:m<h2) (e : ∀ r,m≤r→r<h2→0≤W r):PR W lo h2 (if c.2=0 then W m else c.1,W (h2-1)+1):=by
 have e1:=e m (by omega) hl
 have e2:=e (h2-1) (by omega) (by omega)
 rcases h with ⟨rfl,a⟩ | ⟨r0,r1,a1,a2,a3,a4,a5,a6,rfl⟩
 ·refine .inr ⟨m,h2-1,by omega,by omega,by omega,e1,e2,fun r b1 b2 b3=>?_,by simp⟩
  rcases Int.lt_or_le r h1 with b | b
  ·have:=a r b1 b; omega
  ·omega
 ·refine .inr ⟨r0,h2-1,a1,by omega,by omega,a4,e2,fun r b1 b2 b3=>?_,?_⟩
  ·rcases Int.lt_or_le r h1 with b | b
   ·have:=a6 r b1 b b3; omega
   ·omega
  ·have : ¬ (W r1+1=0):=by omega
   simp [this]
theorem PR.less {W:Int→Int} {lo hi:Int} {c:Int × Int} (h:PR W lo hi c):PR W (lo-1) hi (if 0≤W (lo-1)∧lo≤hi then (W (lo-1),if c.2=0 then W (lo-1)+1 else c.2) else c):=by
 by_cases hw:0≤W (lo-1)∧lo≤hi
 ·rw [if_pos hw]
  rcases h with ⟨rfl,a⟩ | ⟨r0,r1,a1,a2,a3,a4,a5,a6,rfl⟩
  ·refine .inr ⟨lo-1,lo-1,by omega,by omega,by omega,hw.1,hw.1,fun r b1 b2 b3=>?_,by simp⟩
   rcases Int.lt_or_le r lo with b | b
   ·omega
   ·have:=a r b b2; omega
  ·refine .inr ⟨lo-1,r1,by omega,by omega,by omega,hw.1,a5,fun r b1 b2 b3=>?_,?_⟩
   ·rcases Int.lt_or_le r lo with b | b
    ·omega
    ·have:=a6 r b b2 b3; omega
   ·have : ¬ (W r1+1=0):=by omega
    simp [this]
 ·rw [if_neg hw]
  rcases h with ⟨rfl,a⟩ | ⟨r0,r1,a1,a2,a3,a4,a5,a6,rfl⟩
  ·refine .inl ⟨rfl,fun r b1 b2=>?_⟩
   rcases Int.lt_or_le r lo with b | b
   ·obtain rfl:r=lo-1:=by omega
    omega
   ·exact a r b b2
  ·refine .inr ⟨r0,r1,by omega,a2,a3,a4,a5,fun r b1 b2 b3=>?_,rfl⟩
   rcases Int.lt_or_le r lo with b | b
   ·obtain rfl:r=lo-1:=by omega
    omega
   ·exact a6 r b b2 b3
def IC (fr tq:Int):List AG→Int × Int × Int × Int→Int × Int
 | [],c=>(c.1,c.2.1)
 | s :: l,c=>IC fr tq l (if s.Kind=0∧max fr c.2.2.1<min tq (c.2.2.1+s.N) then (if c.2.1=0 then c.2.2.2+max fr c.2.2.1-c.2.2.1 else c.1) else c.1,
   if s.Kind=0∧max fr c.2.2.1<min tq (c.2.2.1+s.N) then c.2.2.2+min tq (c.2.2.1+s.N)-c.2.2.1 else c.2.1,
   if s.Kind=1 then c.2.2.1 else c.2.2.1+s.N,if s.Kind=2 then c.2.2.2 else c.2.2.2+s.N)
theorem Q8 (fr tq:Int) (s:AG) (l:List AG) (c:Int × Int × Int × Int):IC fr tq (s :: l) c=IC fr tq l (if s.Kind=0∧max fr c.2.2.1<min tq (c.2.2.1+s.N) then (if c.2.1=0 then c.2.2.2+max fr c.2.2.1-c.2.2.1 else c.1) else c.1,
   if s.Kind=0∧max fr c.2.2.1<min tq (c.2.2.1+s.N) then c.2.2.2+min tq (c.2.2.1+s.N)-c.2.2.1 else c.2.1,
   if s.Kind=1 then c.2.2.1 else c.2.2.1+s.N,if s.Kind=2 then c.2.2.2 else c.2.2.2+s.N):=rfl
theorem ZI (a:List AG) (fr tq:Int) (hg:FO a) (h0:0≤fr∧fr≤2147483647) (h1:0≤tq∧tq≤2147483647):E8 a fr tq=some (IC fr tq a (0,0,0,0)):=by
 unfold E8
 rw [CY (f:=fun (a_1:Int × Int × Int × Int × Int)=>Iy a fr tq a_1.1 a_1.2.1 a_1.2.2.1 a_1.2.2.2.1 a_1.2.2.2.2) a (fun (c:Int × Int × Int × Int) k=>(c.1,c.2.1,c.2.2.1,c.2.2.2,(k:Int))) (IC fr tq)
  (fun k c=>FG a k c.2.2.1 c.2.2.2)
  (fun k c hk hI=>by
   left
   have hs:=IF hg.stp hk
   have hnx:=hI.nx hg hk
   have hgl:=hg.len
   unfold Iy
   rw [Q8]
   simp only
   rw [if_pos (by simpa using hk),Af hk,AE,An (by omega)]
   obtain ⟨fi,la,f,t⟩:=c
   simp only at hnx ⊢
   generalize a[k]! = x at hs hnx ⊢
   obtain ⟨q1,q2,q3,q4,q5,q6,q7⟩:=hnx
   unfold A1 at hs
   simp only [BU,BW] at q7
   rw [Bf (x:=t+x.N) (by omega) (by omega),Bf (x:=f+x.N) (by omega) (by omega)]
   simp only [AE]
   rw [Bf (x:=t+max fr f) (by omega) (by omega),Bf (x:=t+min tq (f+x.N)) (by omega) (by omega)]
   simp only [AE]
   rw [Bf (by omega) (by omega),Bf (by omega) (by omega)]
   refine ⟨_,?_,?_,rfl⟩
   ·simp only [AE]
    have d01:x.Kind=0∨x.Kind=1∨x.Kind=2:=by omega
    generalize max fr f=mx
    generalize min tq (f+x.N)=mn
    rcases d01 with d | d | d
    ·by_cases e:mx<mn
     ·by_cases e2:la=0 <;> simp [d,e,e2]
     ·simp [d,e]
    ·simp [d]
    ·simp [d]
   ·refine q7 _ _ ?_ ?_ ?_ ?_ <;> simp only <;> split <;> omega)
  (fun c hI=>by unfold Iy; rw [if_neg (by simp)]; rfl) (0,0,0,0) hg.run (0,0,0,0,0) rfl]
 rfl
theorem Ya (W:Int→Int) (fr tq:Int) (l:List AG) (h : ∀ s∈l,A1 s) (fi la f t:Int) (ht:0≤t) (hW : ∀ r,f≤r→W r=BK (CK r l (f,t))) (hP:PR W fr (min tq f) (fi,la)) (hto:tq≤f+Ah l) :
  PR W fr tq (IC fr tq l (fi,la,f,t)):=by
 induction l generalizing fi la f t with
 | nil=>
  have:min tq f=tq:=by simp [Ah] at hto; omega
  rw [this] at hP
  exact hP
 | cons s l ih=>
  have hs:=h s (List.mem_cons_self ..)
  unfold A1 at hs
  rw [Da] at hto
  unfold BU at hto
  rw [Q8]
  have d01:s.Kind=0∨s.Kind=1∨s.Kind=2:=by omega
  rcases d01 with d | d | d
  ·have n1 : ¬ s.Kind=1:=by omega
   have n2 : ¬ s.Kind=2:=by omega
   simp only [d,true_and,show ¬ ((0:Int)=1) by decide,show ¬ ((0:Int)=2) by decide,if_false]
   rw [if_neg n1] at hto
   refine ih (fun x hx=>h x (List.mem_cons_of_mem _ hx)) _ _ _ _ (by omega) (fun r hr=>?_) ?_ (by omega)
   ·rw [hW r (by omega),E7,if_neg n1,if_neg (by omega),if_pos d]
   ·have hv : ∀ r,f≤r→r<f+s.N→W r=t+r-f:=fun r b1 b2=>by rw [hW r b1,E7,if_neg n1,if_pos b2,if_pos d]; rfl
    by_cases e:max fr f<min tq (f+s.N)
    ·rw [if_pos e,if_pos e]
     have:=hP.more (h2:=min tq (f+s.N)) (m:=max fr f) (by omega) e (fun r b1 b2=>by rw [hv r (by omega) (by omega)]; omega)
     rw [hv _ (by omega) (by omega),hv _ (by omega) (by omega)] at this
     rwa [show t+(min tq (f+s.N)-1)-f+1=t+min tq (f+s.N)-f by omega] at this
    ·rw [if_neg e,if_neg e]
     exact hP.wide (fun r b1 b2 b3=>by omega) (by omega)
  ·simp only [d,show ¬ ((1:Int)=0) by decide,show ¬ ((1:Int)=2) by decide,false_and,if_true,if_false]
   rw [if_pos d] at hto
   refine ih (fun x hx=>h x (List.mem_cons_of_mem _ hx)) _ _ _ _ (by omega) (fun r hr=>?_) hP (by omega)
   rw [hW r hr,E7,if_pos d]
  ·have n1 : ¬ s.Kind=1:=by omega
   simp only [d,show ¬ ((2:Int)=0) by decide,show ¬ ((2:Int)=1) by decide,false_and,if_true,if_false]
   rw [if_neg n1] at hto
   have n0 : ¬ s.Kind=0:=by omega
   refine ih (fun x hx=>h x (List.mem_cons_of_mem _ hx)) _ _ _ _ (by omega) (fun r hr=>?_) ?_ (by omega)
   ·rw [hW r (by omega),E7,if_neg n1,if_neg (by omega),if_neg n0]
   ·exact hP.wide (fun r b1 b2 b3=>by rw [hW r (by omega),E7,if_neg n1,if_pos (by omega),if_neg n0]; decide) (by omega)
theorem ZV (r:Int) (xs:List Int) (i:Int) (hi:0≤i) : -1≤BK (Bi r xs i)∧BK (Bi r xs i)≤i+xs.length:=by
 induction xs generalizing i with
 | nil=>simp [Bi,BK]; omega
 | cons x xs ih=>
  rw [Bi]
  split
  ·simp [BK]; omega
  ·have:=ih (i+1) (by omega); rw [List.length_cons]; omega
theorem YT (us:List Int) (fr tq:Int) (hm:us.length≤4194304) (h0:0≤fr) (h1:fr≤tq) (h2:tq≤2147483647) : ∃ c:Int × Int,IJ us fr tq=some c∧PR (fun r=>BK (Bi r (BQ us 0) 0)) fr tq c:=by
 obtain ⟨b,hb,hq⟩:=DY (f:=fun (a:Int × Int × Int)=>Jc us fr a.1 a.2.1 a.2.2) (tq-fr).toNat
  (fun k s=>s.2.2=tq-1-k∧PR (fun r=>BK (Bi r (BQ us 0) 0)) (tq-k) tq (s.1,s.2.1)) (fun b=>PR (fun r=>BK (Bi r (BQ us 0) 0)) fr tq b)
  (fun k s hk hR=>by
   left
   obtain ⟨lo,hi,row⟩:=s
   obtain ⟨rfl,hR⟩:=hR
   simp only at hR ⊢
   have hle:=hR.less
   unfold Jc
   rw [if_pos (by simp; omega),bH us _ (by omega),AE,Bf (x:=tq-1-(k:Int)-1) (by omega) (by omega)]
   rw [show tq-(k:Int)-1=tq-1-(k:Int) by omega] at hle
   have hbd:=ZV (tq-1-(k:Int)) (BQ us 0) 0 (by omega)
   have hrl:=NQ us 0
   generalize hw:BK (Bi (tq-1-(k:Int)) (BQ us 0) 0)=w at hbd hle ⊢
   rw [Bf (x:=w+1) (by omega) (by omega)]
   by_cases e:0≤w
   ·rw [if_pos ⟨e,by omega⟩] at hle
    by_cases e2:hi=0
    ·refine ⟨(w,w+1,tq-1-(k:Int)-1),by simp [e,e2],by simp; omega,?_⟩
     simp only [e2,if_true] at hle
     rw [show tq-((k+1:Nat):Int)=tq-1-(k:Int) by omega]; exact hle
    ·refine ⟨(w,hi,tq-1-(k:Int)-1),by simp [e,e2],by simp; omega,?_⟩
     simp only [e2,if_false] at hle
     rw [show tq-((k+1:Nat):Int)=tq-1-(k:Int) by omega]; exact hle
   ·rw [if_neg (fun x=>e x.1)] at hle
    refine ⟨(lo,hi,tq-1-(k:Int)-1),by simp [e],by simp; omega,?_⟩
    rw [show tq-((k+1:Nat):Int)=tq-1-(k:Int) by omega]; exact hle)
  (fun s hR=>by
   obtain ⟨lo,hi,row⟩:=s
   obtain ⟨rfl,hR⟩:=hR
   simp only at hR ⊢
   unfold Jc
   refine ⟨(lo,hi),by rw [if_neg (by simp; omega)],?_⟩
   rwa [show tq-(((tq-fr).toNat:Nat):Int)=fr by omega] at hR)
  (s:=(0,0,tq-1)) ⟨by simp,.inl ⟨rfl,fun r h1 h2=>by simp at h1; omega⟩⟩
 unfold IJ
 rw [Bf (by omega) (by omega),AE,hb]
 exact ⟨b,rfl,hq⟩
abbrev MM (A:List AG) (r:Int):Int:=BK (CK r A (0,0))
def MV (A:List AG) (s:Mi):Int × Int:=IC s.From s.To A (0,0,0,0)
theorem WF {A:List AG} (h : ∀ s∈A,A1 s) (s:Mi) (h0:0≤s.From) (h1:s.To≤Ah A):PR (MM A) s.From s.To (MV A s):=
 Ya (MM A) s.From s.To A h 0 0 0 0 (by omega) (fun r _=>rfl) (.inl ⟨rfl,fun r h1 h2=>by omega⟩) (by omega)
theorem YO (A:List AG) (s:Mi) (hg:FO A) (h0:0≤s.From) (h1:s.From<s.To) (h2:s.To≤Ah A):E8 A s.From s.To=some ((MV A s).1,(MV A s).2):=by
 have:=hg.olds
 rw [ZI A s.From s.To hg (by omega) (by omega)]; rfl
end Go.Proofs.YtojmbndlghbpjaaGreatDoor.Al

set_option linter.unusedVariables false
set_option linter.unusedSimpArgs false
namespace Go.Proofs.YtojmbndlghbpjaaGreatDoor.Al
open Go
structure BR (a:List AG) (n:Int):Prop where
 n0:0≤n
 nm:n≤2147483647
 er:Av a=0
 ft:a≠[]→Ah a=n
def A0 (a:List AG) (p:Int):Int:=if a=[] then p else MM a p
def Ab (a:List AG) (n:Int):Int:=if a=[] then n else Am a
theorem So {a:List AG} : decide ((a.length:Int)=0)=decide (a=[]):=by
 rw [decide_eq_decide]
 cases a with
 | nil=>simp
 | cons x r=>simp; omega
theorem KV {a:List AG} : decide (0<(a.length:Int)) = !decide (a=[]):=by
 cases a with
 | nil=>simp
 | cons x r=>simp
theorem Rd : ∀ (a:List AG) (f t p:Int),(∀ s∈a,A1 s)→f≤p→0≤t → -1≤BK (CK p a (f,t))∧(0≤BK (CK p a (f,t))→t≤BK (CK p a (f,t))∧BK (CK p a (f,t))<t+Am a):=by
 intro a
 induction a with
 | nil=>intro f t p _ _ _; simp [CK,BK]
 | cons s l ih=>
  intro f t p hs hf ht
  have h1:=hs s (List.mem_cons_self ..)
  have h2 : ∀ x∈l,A1 x:=fun x hx=>hs x (List.mem_cons_of_mem _ hx)
  have hn:=(Hy (a:=l) h2)
  unfold A1 at h1
  rw [E7,Db]
  unfold BW
  by_cases d1:s.Kind=1
  ·rw [if_pos d1,if_neg (by omega)]
   have:=ih f (t+s.N) p h2 hf (by omega)
   dsimp only at this ⊢
   omega
  ·rw [if_neg d1]
   by_cases d2:p<f+s.N
   ·rw [if_pos d2]
    by_cases d0:s.Kind=0
    ·rw [if_pos d0,if_neg (by omega)]
     simp only [BK]; omega
    ·rw [if_neg d0]
     simp only [BK]; omega
   ·rw [if_neg d2]
    have:=ih (f+s.N) (if s.Kind=0 then t+s.N else t) p h2 (by omega) (by split <;> omega)
    by_cases d0:s.Kind=0
    ·rw [if_pos d0] at this ⊢; rw [if_neg (by omega)]; dsimp only at this ⊢; omega
    ·rw [if_neg d0] at this ⊢; rw [if_pos (by omega)]; dsimp only at this ⊢; omega
theorem Vv : ∀ (a:List AG) (f t p q:Int),(∀ s∈a,A1 s)→f≤p→p<q→0≤t→0≤BK (CK p a (f,t))→0≤BK (CK q a (f,t))→BK (CK p a (f,t))<BK (CK q a (f,t)):=by
 intro a
 induction a with
 | nil=>intro f t p q _ _ _ _ h; simp [CK,BK] at h
 | cons s l ih=>
  intro f t p q hs hf hpq ht
  have h1:=hs s (List.mem_cons_self ..)
  have h2 : ∀ x∈l,A1 x:=fun x hx=>hs x (List.mem_cons_of_mem _ hx)
  unfold A1 at h1
  rw [E7,E7]
  by_cases d1:s.Kind=1
  ·rw [if_pos d1,if_pos d1]
   exact ih f (t+s.N) p q h2 hf hpq (by omega)
  ·rw [if_neg d1,if_neg d1]
   by_cases d2:p<f+s.N
   ·rw [if_pos d2]
    by_cases d0:s.Kind=0
    ·rw [if_pos d0]
     by_cases d3:q<f+s.N
     ·rw [if_pos d3,if_pos d0]; simp only [BK]; omega
     ·rw [if_neg d3,if_pos d0]
      have:=Rd l (f+s.N) (t+s.N) q h2 (by omega) (by omega)
      simp only [BK] at *; omega
    ·rw [if_neg d0]; simp only [BK]; omega
   ·rw [if_neg d2,if_neg (show ¬ q<f+s.N by omega)]
    exact ih (f+s.N) _ p q h2 (by omega) hpq (by split <;> omega)
theorem OF {a:List AG} {n p:Int} (h:BR a n) (h0:0≤p) (h1:p<n) : -1≤A0 a p∧A0 a p<Ab a n:=by
 unfold A0 Ab
 by_cases d:a=[]
 ·rw [if_pos d,if_pos d]; omega
 ·rw [if_neg d,if_neg d]
  have hs:=(CX h.er).stp
  have:=Rd a 0 0 p hs h0 (by omega)
  have hn:=Hy hs
  unfold MM; omega
theorem Ni {a:List AG} {n p q:Int} (h:BR a n) (h0:0≤p) (hpq:p<q) (h1:0≤A0 a p) (h2:0≤A0 a q):A0 a p<A0 a q:=by
 unfold A0 at *
 by_cases d:a=[]
 ·rw [if_pos d] at *; rw [if_pos d]; exact hpq
 ·rw [if_neg d] at *; rw [if_neg d]
  exact Vv a 0 0 p q (CX h.er).stp h0 hpq (by omega) h1 h2
theorem FV {a:List AG} {n:Int} (h:BR a n):0≤Ab a n∧Ab a n≤2147483647:=by
 unfold Ab
 have:=h.n0; have:=h.nm
 split
 ·omega
 ·have hg:=CX h.er
  have:=Hy hg.stp
  have:=hg.nows
  omega
theorem Ke {a:List AG} (h:Av a=0):a.length≤1073741824 * 4:=by
 have:=(CX h).len
 omega
theorem size_eq {a:List AG} {n:Int} (h:Av a=0):Dl n a=some (Ab a n,decide (a=[]) || decide (Ah a=n)):=by
 have hl:=Ke h
 unfold Dl Ab
 rw [So]
 by_cases d:a=[]
 ·rw [if_pos (by simpa using d),if_pos d,decide_eq_true d]; rfl
 ·rw [if_neg (by simpa using d),if_neg d,decide_eq_false d,SJ a (by omega),if_neg (by rw [h]; simp),Hj]; rfl
theorem RG {a:List AG} {n p:Int} (h:BR a n) (ha:a≠[]) (h0:0≤p) (h1:p<n):E4 a [p]=some ([A0 a p],0):=by
 have hl:=Ke h.er
 have:=h.ft ha
 rw [Tg a [p] (by omega) (by simp),if_neg (by rw [h.er]; simp),Tx,if_neg (by omega)]
 show Ay (some (.nrm ([]++[BK (CK p a (0,0))]))) _=_
 unfold A0
 rw [if_neg ha,Cg]; rfl
def A2 (a:List AG) (fr tq:Int):Int × Int:=if a=[] then (fr,tq) else MV a ⟨fr,tq⟩
theorem MK {a:List AG} {n fr tq:Int} (h:BR a n) (h0:0≤fr) (h1:fr<tq) (h2:tq≤n):PR (A0 a) fr tq (A2 a fr tq):=by
 unfold A2
 by_cases d:a=[]
 ·rw [if_pos d]
  right
  refine ⟨fr,tq-1,by omega,by omega,by omega,?_,?_,fun r _ _ _=>by omega,?_⟩
  ·unfold A0; rw [if_pos d]; exact h0
  ·unfold A0; rw [if_pos d]; omega
  ·unfold A0; rw [if_pos d,if_pos d]; congr 1; omega
 ·rw [if_neg d]
  have hh:=WF (A:=a) (CX h.er).stp ⟨fr,tq⟩ h0 (by rw [h.ft d]; exact h2)
  exact hh.congr (fun r hr=>by unfold A0; rw [if_neg d])
theorem ZK {a:List AG} {n fr tq:Int} (h:BR a n) (ha:a≠[]) (h0:0≤fr) (h1:fr<tq) (h2:tq≤n):E8 a fr tq=some (A2 a fr tq):=by
 have:=YO a ⟨fr,tq⟩ (CX h.er) h0 h1 (by rw [h.ft ha]; exact h2)
 rw [this]; unfold A2; rw [if_neg ha]
theorem JF {a:List AG} {n fr tq:Int} (h:BR a n) (h0:0≤fr) (h1:fr<tq) (h2:tq≤n):0≤(A2 a fr tq).1∧(A2 a fr tq).1≤(A2 a fr tq).2∧(A2 a fr tq).2≤Ab a n:=by
 have hb:=FV h
 rcases MK h h0 h1 h2 with ⟨e,_⟩ | ⟨r0,r1,a1,a2,a3,a4,a5,a6,e⟩
 ·rw [e]; dsimp only; omega
 ·rw [e]; dsimp only
  have:=OF (p:=r1) h (by omega) (by omega)
  rcases Int.lt_or_eq_of_le a2 with g | g
  ·have:=Ni h (by omega) g a4 a5; omega
  ·rw [g]; rw [g] at a4; omega
theorem Mj {a:List AG} {n f1 t1 f2 t2:Int} (h:BR a n) (h0:0≤f1) (h1:f1<t1) (h2:t1≤f2) (h3:f2<t2) (h4:t2≤n) (g1:(A2 a f1 t1).1<(A2 a f1 t1).2) (g2:(A2 a f2 t2).1<(A2 a f2 t2).2):(A2 a f1 t1).2≤(A2 a f2 t2).1:=by
 rcases MK h h0 h1 (by omega) with ⟨e,_⟩ | ⟨r0,r1,a1,a2,a3,a4,a5,a6,e⟩
 ·rw [e] at g1; exact absurd g1 (by decide)
 ·rcases MK h (by omega) h3 h4 with ⟨e',_⟩ | ⟨s0,s1,b1,b2,b3,b4,b5,b6,e'⟩
  ·rw [e'] at g2; exact absurd g2 (by decide)
  ·rw [e,e']; dsimp only
   have:=Ni (p:=r1) (q:=s0) h (by omega) (by omega) a5 b4
   omega
end Go.Proofs.YtojmbndlghbpjaaGreatDoor.Al

set_option linter.unusedVariables false
set_option linter.unusedSimpArgs false
namespace Go.Proofs.YtojmbndlghbpjaaGreatDoor.Al
open Go
def BO (ra ca:List AG) (r:AD):AD:=
 ⟨(A2 ra r.Row (r.Row+r.H)).1,(A2 ca r.Col (r.Col+r.W)).1,(A2 ra r.Row (r.Row+r.H)).2-(A2 ra r.Row (r.Row+r.H)).1,(A2 ca r.Col (r.Col+r.W)).2-(A2 ca r.Col (r.Col+r.W)).1⟩
def CL (r:AD):Prop:=0<r.H∧0<r.W∧2<r.H+r.W
instance (r:AD):Decidable (CL r):=by unfold CL; infer_instance
theorem TP {a:List AG} {n fr tq:Int} (h:BR a n) (ha:a≠[]) (h0:0≤fr) (h1:fr<tq) (h2:tq≤n):E8 a fr tq=some ((A2 a fr tq).1,(A2 a fr tq).2):=ZK h ha h0 h1 h2
theorem bL {ra ca:List AG} {rows cols:Int} (hr:BR ra rows) (hc:BR ca cols) {r:AD} (h:As rows cols r):Lv r ra ca=some (BO ra ca r,decide (CL (BO ra ca r))):=by
 have hb1:=hr.nm
 have hb2:=hc.nm
 unfold As at h
 have k1:=JF hr (fr:=r.Row) (tq:=r.Row+r.H) (by omega) (by omega) (by omega)
 have k2:=JF hc (fr:=r.Col) (tq:=r.Col+r.W) (by omega) (by omega) (by omega)
 have n1:=FV hr
 have n2:=FV hc
 unfold Lv
 rw [KV,KV]
 have e1:(if (!decide (ra=[]))=true then
   AB (AM .i64 (r.Row+r.H)) fun (x4:Int)=>
   Az (E8 ra r.Row x4) fun (r6:Int) (r7:Int)=>
   AB (AM .i64 (r7-r6)) fun (x5:Int)=>
   some (AD.mk r6 r.Col x5 r.W)
  else some r)=some (AD.mk (A2 ra r.Row (r.Row+r.H)).1 r.Col ((A2 ra r.Row (r.Row+r.H)).2-(A2 ra r.Row (r.Row+r.H)).1) r.W):=by
  by_cases d:ra=[]
  ·rw [if_neg (by simp [d])]
   unfold A2
   rw [if_pos d]
   obtain ⟨a,b,c,e⟩:=r
   simp; omega
  ·rw [if_pos (by simp [d]),Bf (by omega) (by omega),AE,TP hr d (by omega) (by omega) (by omega),BD,Bf (by omega) (by omega),AE]
 rw [e1,AE]
 have e2:(if (!decide (ca=[]))=true then
   AB (AM .i64 (r.Col+r.W)) fun (x4:Int)=>
   Az (E8 ca r.Col x4) fun (r6:Int) (r7:Int)=>
   AB (AM .i64 (r7-r6)) fun (x5:Int)=>
   some (AD.mk (A2 ra r.Row (r.Row+r.H)).1 r6 ((A2 ra r.Row (r.Row+r.H)).2-(A2 ra r.Row (r.Row+r.H)).1) x5)
  else some (AD.mk (A2 ra r.Row (r.Row+r.H)).1 r.Col ((A2 ra r.Row (r.Row+r.H)).2-(A2 ra r.Row (r.Row+r.H)).1) r.W))=some (BO ra ca r):=by
  unfold BO
  by_cases d:ca=[]
  ·rw [if_neg (by simp [d])]
   have:A2 ca r.Col (r.Col+r.W)=(r.Col,r.Col+r.W):=by unfold A2; rw [if_pos d]
   rw [this]
   dsimp only
   congr 2; omega
  ·rw [if_pos (by simp [d]),Bf (by omega) (by omega),AE,TP hc d (by omega) (by omega) (by omega),BD,Bf (by omega) (by omega),AE]
 dsimp only
 rw [e2,AE]
 have hH:(BO ra ca r).H+(BO ra ca r).W≤4294967296:=by unfold BO; dsimp only; omega
 by_cases h0:0<(BO ra ca r).H∧0<(BO ra ca r).W
 ·rw [show ((decide (0<(BO ra ca r).H)) && (decide (0<(BO ra ca r).W)))=true by simp [h0]]
  rw [show (true == true)=true from rfl,Ap,Bf (by omega) (by omega),AE]
  congr 2
  rw [Bool.true_and,decide_eq_decide]
  unfold CL; omega
 ·rw [show ((decide (0<(BO ra ca r).H)) && (decide (0<(BO ra ca r).W)))=false by
   rw [Bool.and_eq_false_iff,decide_eq_false_iff_not,decide_eq_false_iff_not]; omega]
  rw [show (false == true)=false from rfl,EH,AE]
  congr 2
  rw [Bool.false_and]
  symm
  rw [decide_eq_false_iff_not]
  unfold CL; omega
theorem MI (x y:AD):(decide (x.Row=y.Row) && (decide (x.Col=y.Col) && (decide (x.H=y.H) && (decide (x.W=y.W) && true))))=decide (x=y):=Oo x y
theorem Nt (s:List AD) (v:AD) (hm:s.length≤1048576):IV s v=some (decide (v∈s)):=by
 unfold IV NK
 rw [Cq (n:=s.length) (fun j=>if decide (v=s[j]!) then some (j:Int) else none) (fun j hj=>by
  unfold MB
  rw [if_pos (by simpa using hj),Af hj,AE,An (by omega),MI]
  cases decide (v=s[j]!) <;> rfl) (by unfold MB; rw [if_neg (by simp)]),OQ,Dx]
 have hd:decide (v∈s)=((List.range s.length).find? fun j=>decide (v=s[j]!)).isSome:=by
  rw [Bool.eq_iff_iff,decide_eq_true_eq,List.find?_isSome]
  constructor
  ·intro h
   obtain ⟨j,hj,e⟩:=List.getElem_of_mem h
   exact ⟨j,List.mem_range.2 hj,decide_eq_true (by rw [getElem!_pos s j hj,e])⟩
  ·rintro ⟨j,h1,h2⟩
   have hj:=List.mem_range.1 h1
   rw [of_decide_eq_true h2]; exact Bx hj
 rw [hd]
 cases (List.range s.length).find? fun j=>decide (v=s[j]!) with
 | none=>rfl
 | some j=>
  show (AB (some (j:Int)) fun (r1:Int)=>some (decide (0≤r1)))=_
  rw [AE,decide_eq_true (Int.natCast_nonneg j)]; rfl
def mR (ra ca:List AG) (sp:List AD) (r:AD):Option AD:=if CL (BO ra ca r) ∧ ¬ BO ra ca r∈sp then some (BO ra ca r) else none
theorem FU {o:List AD} {x:AD} (h:o.length≤1099511627776):A9 32 o [x]=some (o++[x]):=by
 unfold A9; rw [if_pos ⟨by simp; omega,by simp; omega⟩]
theorem Z9 {g:AJ} {e:AK} {rows cols:Int} (hr:BR e.Rows rows) (hc:BR e.Cols cols) (hi : ∀ r∈g.Merges,As rows cols r) (hm:g.Merges.length≤1048576) (hs:e.Split.length≤1048576) (R C:Int) (cs:List AC) :
  iter (fun (a:Int × AJ)=>Eb g e a.1 a.2) (0,(AJ.mk R C cs []))=some ⟨R,C,cs,g.Merges.filterMap (mR e.Rows e.Cols e.Split)⟩:=by
 have:=CY (f:=fun (a:Int × AJ)=>Eb g e a.1 a.2) g.Merges (fun (c:List AD) i=>((i:Int),(⟨R,C,cs,c⟩:AJ))) (fun l c=>(⟨R,C,cs,c++l.filterMap (mR e.Rows e.Cols e.Split)⟩:AJ)) (fun i c=>c.length≤i)
  (fun i c hi2 hI=>by
   left
   show ∃ c',Eb g e (i:Int) ⟨R,C,cs,c⟩=_∧_
   have hin:=hi _ (Bx hi2)
   unfold Eb
   rw [if_pos (by simpa using hi2),Af hi2,AE,bL hr hc hin,BD,An (by omega)]
   generalize g.Merges[i]! = x at hin ⊢
   by_cases h1:CL (BO e.Rows e.Cols x)
   ·rw [decide_eq_true h1,show (true == true)=true from rfl,Ap,Nt _ _ hs,AE]
    by_cases h2:BO e.Rows e.Cols x∈e.Split
    ·rw [decide_eq_true h2,if_neg (by decide)]
     refine ⟨c,rfl,by omega,?_⟩
     have:mR e.Rows e.Cols e.Split x=none:=by unfold mR; rw [if_neg (fun h=>h.2 h2)]
     rw [List.filterMap_cons,this]
    ·rw [decide_eq_false h2,if_pos (by decide)]
     dsimp only
     rw [FU (by omega)]
     refine ⟨_,rfl,by rw [List.length_append,List.length_singleton]; omega,?_⟩
     have:mR e.Rows e.Cols e.Split x=some (BO e.Rows e.Cols x):=by unfold mR; rw [if_pos ⟨h1,h2⟩]
     rw [List.filterMap_cons,this,List.append_assoc]; rfl
   ·rw [decide_eq_false h1,show (false == true)=false from rfl]
    simp only [EH,AE,Bool.false_and,Bool.false_eq_true,if_false]
    refine ⟨c,rfl,by omega,?_⟩
    have:mR e.Rows e.Cols e.Split x=none:=by unfold mR; rw [if_neg (fun h=>h1 h.1)]
    rw [List.filterMap_cons,this])
  (fun c _=>by
   show Eb g e (g.Merges.length:Int) ⟨R,C,cs,c⟩=_
   unfold Eb
   rw [if_neg (by simp)]
   simp) [] (by simp) ((0:Int),⟨R,C,cs,[]⟩) rfl
 rw [List.nil_append] at this
 exact this
end Go.Proofs.YtojmbndlghbpjaaGreatDoor.Al

set_option linter.unusedVariables false
set_option linter.unusedSimpArgs false
namespace Go.Proofs.YtojmbndlghbpjaaGreatDoor.Al
open Go
def B7 (c:AD) (l:List AD):List AD:=l.filter fun q=>!BV q c
theorem Ns (c:AD) (a b:List AD):B7 c (a++b)=B7 c a++B7 c b:=List.filter_append ..
theorem VP {c:AD} {n:AD} (h : ¬ BV n c=true):B7 c [n]=[n]:=by
 unfold B7; rw [List.filter_cons,if_pos (by simpa using h)]; rfl
theorem Tl {c:AD} {n:AD} (h:BV n c=true):B7 c [n]=[]:=by
 unfold B7; rw [List.filter_cons,if_neg (by simpa using h)]; rfl
theorem Ry {c:AD} {l:List AD} (h : ∀ n∈l,¬ BV n c=true):B7 c l=l:=by
 unfold B7; rw [List.filter_eq_self]; intro n hn; simpa using h n hn
theorem bI (s:List AD) (c:AD) (hs:s.length≤4194304) (hc : ∀ q∈s,GW c q=some (BV q c)) :
  (∃ k,k<s.length∧I6 s c=some (k:Int)∧(∀ j,j<k → ¬ BV s[j]! c=true)∧BV s[k]! c=true) ∨
  (I6 s c=some (-1) ∧ ∀ n∈s,¬ BV n c=true):=by
 unfold I6
 obtain ⟨b,hb,hq⟩:=DY (f:=fun (a:Int)=>Ie s c a) s.length
  (fun k st=>st=(k:Int) ∧ ∀ j,j<k → ¬ BV s[j]! c=true)
  (fun b=>(b=(.nrm ():Ao Unit Int) ∧ ∀ j,j<s.length → ¬ BV s[j]! c=true) ∨ ∃ k,k<s.length∧b = .ext (k:Int)∧(∀ j,j<k → ¬ BV s[j]! c=true)∧BV s[k]! c=true)
  (fun k st hk hst=>by
   obtain ⟨rfl,hj⟩:=hst
   unfold Ie
   rw [if_pos (by simpa using hk),Af hk,AE,hc _ (Bx (by assumption)),AE]
   by_cases hi:BV s[k]! c=true
   ·right
    rw [if_pos (by simpa using hi)]
    exact ⟨_,rfl,.inr ⟨k,hk,rfl,hj,hi⟩⟩
   ·left
    rw [if_neg (by simpa using hi),An (by omega),AE]
    refine ⟨_,rfl,rfl,fun j hj'=>?_⟩
    rcases Nat.lt_succ_iff_lt_or_eq.1 hj' with h | h
    ·exact hj j h
    ·rw [h]; exact hi)
  (fun st hst=>by
   obtain ⟨rfl,hj⟩:=hst
   unfold Ie
   rw [if_neg (by simp)]
   exact ⟨_,rfl,.inl ⟨rfl,hj⟩⟩)
  (s:=0) ⟨rfl,fun j hj=>by omega⟩
 rw [hb]
 rcases hq with ⟨rfl,h⟩ | ⟨k,hk,rfl,h1,h2⟩
 ·right
  refine ⟨rfl,fun n hn=>?_⟩
  obtain ⟨j,hj,e⟩:=List.getElem_of_mem hn
  have:=h j hj
  rw [getElem!_pos s j hj,e] at this
  exact this
 ·left
  exact ⟨k,hk,rfl,h1,h2⟩
theorem WR (c:AD) (l:List AD) (hl:l.length≤4194304) (hc : ∀ q∈l,GW c q=some (BV q c)) (i0 j0:Nat) (h0:i0≤j0) (hj0:j0≤l.length) (hk:l.take i0=B7 c (l.take j0)) :
  ∃ (i:Nat) (s:List AD),iter (fun (a:Int × Int × (List AD))=>IY c a.1 a.2.1 a.2.2) ((i0:Int),(j0:Int),l)=some ((i:Int),s)∧i≤s.length∧s.take i=B7 c l:=by
 obtain ⟨b,hb,hq⟩:=DY (f:=fun (a:Int × Int × (List AD))=>IY c a.1 a.2.1 a.2.2) (l.length-j0)
  (fun k st=>∃ i:Nat,st.1=(i:Int)∧st.2.1=((j0+k:Nat):Int)∧i≤j0+k∧j0+k≤l.length∧st.2.2.length=l.length∧st.2.2.take i=B7 c (l.take (j0+k))∧st.2.2.drop (j0+k)=l.drop (j0+k))
  (fun b=>∃ i:Nat,b.1=(i:Int)∧i≤b.2.length∧b.2.take i=B7 c l)
  (fun k st hk hst=>by
   obtain ⟨a1,a2,s⟩:=st
   obtain ⟨i,h1,h2,h3,h4,h5,h6,h7⟩:=hst
   dsimp only at h1 h2 h5 h6 h7
   subst h1 h2
   left
   have hlt:j0+k<l.length:=by omega
   have hls:j0+k<s.length:=by omega
   have hx:s[j0+k]! = l[j0+k]!:=by
    have e1:=List.getElem_cons_drop hls
    have e2:=List.getElem_cons_drop hlt
    rw [h7,← e2] at e1
    injection e1 with e1 _
    rw [getElem!_pos s _ hls,getElem!_pos l _ hlt,e1]
   have hd:s.drop (j0+k+1)=l.drop (j0+k+1):=by
    have e1:=congrArg (List.drop 1) h7
    rw [List.drop_drop,List.drop_drop] at e1
    exact e1
   dsimp only
   unfold IY
   rw [if_pos (by simp; omega),Af hls,AE,hx,hc _ (Bx (by assumption)),AE]
   by_cases hi:BV l[j0+k]! c=true
   ·rw [if_neg (by simpa using hi),BD,An (by omega),AE]
    refine ⟨_,rfl,i,rfl,rfl,by omega,by omega,h5,?_,hd⟩
    show s.take i=B7 c (l.take (j0+k+1))
    rw [II hlt,Ns,Tl hi,List.append_nil,h6]
   ·rw [if_pos (by simpa using hi),Af (show i<s.length by omega),AE,An (by omega),AE,BD,An (by omega),AE]
    refine ⟨_,rfl,i+1,rfl,rfl,by omega,by omega,by rw [List.length_set]; exact h5,?_,?_⟩
    ·show (s.set (i:Int).toNat l[j0+k]!).take (i+1)=B7 c (l.take (j0+k+1))
     have hsl:i<(s.set i l[j0+k]!).length:=by rw [List.length_set]; omega
     rw [Int.toNat_natCast,II hsl,List.take_set,List.set_eq_of_length_le (by rw [List.length_take]; omega),h6,getElem!_pos (s.set i l[j0+k]!) i hsl,List.getElem_set_self,II hlt,Ns,VP hi]
    ·show (s.set (i:Int).toNat l[j0+k]!).drop (j0+k+1)=_
     rw [Int.toNat_natCast,List.drop_set_of_lt (by omega)]; exact hd)
  (fun st hst=>by
   obtain ⟨a1,a2,s⟩:=st
   obtain ⟨i,h1,h2,h3,h4,h5,h6,h7⟩:=hst
   dsimp only at h1 h2 h5 h6 h7
   subst h1 h2
   dsimp only
   unfold IY
   rw [if_neg (by simp; omega)]
   refine ⟨_,rfl,i,rfl,by dsimp only; omega,?_⟩
   rw [h6,List.take_of_length_le (by omega)])
  (s:=((i0:Int),(j0:Int),l)) ⟨i0,rfl,rfl,by omega,by omega,rfl,hk,rfl⟩
 obtain ⟨i,e1,e2,e3⟩:=hq
 refine ⟨i,b.2,?_,e2,e3⟩
 rw [hb,← e1]
theorem Xj (l:List AD) (c:AD) (hl:l.length≤4194304) (hc : ∀ q∈l,GW c q=some (BV q c)):Ln l c=some (B7 c l):=by
 unfold Ln
 rcases bI l c hl hc with ⟨k,hk,e,h1,h2⟩ | ⟨e,h⟩
 ·rw [e,AE,if_neg (by simp),An (by omega),AE]
  obtain ⟨i,s,e1,e2,e3⟩:=WR c l hl hc k (k+1) (by omega) (by omega) (by
   rw [II hk,Ns,Tl h2,List.append_nil,Ry]
   intro n hn
   obtain ⟨j,hj,e⟩:=List.getElem_of_mem hn
   rw [List.length_take] at hj
   have:=h1 j (by omega)
   rw [getElem!_pos l j (by omega)] at this
   rw [List.getElem_take] at e
   rw [← e]; exact this)
  rw [e1,BD]
  have hcl:ME s (i:Int) (AD.mk 0 0 0 0)=some (s.take i++List.replicate (s.length-i) (AD.mk 0 0 0 0)):=by
   unfold ME; rw [if_pos ⟨by omega,by omega⟩,Int.toNat_natCast]
  rw [hcl,AE]
  have hsl:CG (s.take i++List.replicate (s.length-i) (AD.mk 0 0 0 0)) 0 (i:Int)=some (s.take i):=by
   unfold CG
   rw [if_pos ⟨by omega,by omega,by simp; omega⟩,Int.toNat_natCast]
   have:i-(0:Int).toNat=i:=by simp
   rw [this,show (0:Int).toNat=0 from rfl,List.drop_zero,List.take_append_of_le_length (by rw [List.length_take]; omega),List.take_take,Nat.min_self]
  rw [hsl,AE,e3]
 ·rw [e,AE,if_pos (by decide),Ry h]
end Go.Proofs.YtojmbndlghbpjaaGreatDoor.Al

set_option linter.unusedVariables false
set_option linter.unusedSimpArgs false
namespace Go.Proofs.YtojmbndlghbpjaaGreatDoor.Al
open Go
def Ct (ra ca:List AG) (c:AC):Option AC:=if A0 ra c.Row<0∨A0 ca c.Col<0 then none else some ⟨A0 ra c.Row,A0 ca c.Col,c.Text,c.Ref,c.Attrs⟩
theorem KG {c:AC} (h:CQ c):FQ c=some c:=by
 unfold FQ
 rw [XY _ h.1.1,AE]
theorem Fb {o:List AC} {x:AC} (h:o.length≤4194304):A9 64 o [x]=some (o++[x]):=by
 unfold A9; rw [if_pos ⟨by simp; omega,by simp; omega⟩]
theorem XS {ra ca:List AG} {rows cols:Int} (hr:BR ra rows) (hc:BR ca cols) (l:List AC) (hl:l.length≤1048576) (hin : ∀ c∈l,CQ c∧0≤c.Row∧c.Row<rows∧0≤c.Col∧c.Col<cols) :
  HG l ra ca=some (l.filterMap (Ct ra ca)):=by
 unfold HG
 have:=CY (f:=fun (a:Int × (List AC))=>D1 l ra ca a.1 a.2) l (fun (c:List AC) i=>((i:Int),c)) (fun r c=>c++r.filterMap (Ct ra ca)) (fun i c=>c.length≤i)
  (fun i c hi hI=>by
   left
   obtain ⟨k1,k2,k3,k4,k5⟩:=hin _ (Bx hi)
   show ∃ c',D1 l ra ca (i:Int) c=_∧_
   unfold D1
   rw [if_pos (by simpa using hi),Af hi,AE,KG k1,AE,KV,KV]
   generalize l[i]! = x at k1 k2 k3 k4 k5 ⊢
   rw [An (by omega)]
   have e1:(if (!decide (ra=[]))=true then
     Az (E4 ra [x.Row]) fun (r4:List Int) (r5:Int)=>
     AB (gd ((!decide (r5=0)) == false) (AO r4 0)) fun (x8:Int)=>
     if ((!decide (r5=0)) || (decide (x8<0))) then (
      some (.ext c:Ao AC (List AC))
     ) else (
      AB (AO r4 0) fun (x9:Int)=>
      some (.nrm (AC.mk x9 x.Col x.Text x.Ref x.Attrs))
     ) else some (.nrm x))=some (if A0 ra x.Row<0 then .ext c else .nrm ⟨A0 ra x.Row,x.Col,x.Text,x.Ref,x.Attrs⟩):=by
    by_cases d:ra=[]
    ·rw [if_neg (by simp [d])]
     have:A0 ra x.Row=x.Row:=by unfold A0; rw [if_pos d]
     rw [this,if_neg (by omega)]
    ·rw [if_pos (by simp [d]),RG hr d k2 k3,BD]
     have:AO [A0 ra x.Row] 0=some (A0 ra x.Row):=rfl
     rw [this,show ((!decide ((0:Int)=0)) == false)=true from rfl,Ap,AE]
     by_cases g:A0 ra x.Row<0
     ·rw [if_pos (by simp [g]),if_pos g]
     ·rw [if_neg (by simp [g]),if_neg g,AE]
   rw [e1]
   by_cases g:A0 ra x.Row<0
   ·rw [if_pos g]
    refine ⟨c,rfl,by omega,?_⟩
    rw [List.filterMap_cons]
    have:Ct ra ca x=none:=by unfold Ct; rw [if_pos (.inl g)]
    rw [this]
   ·rw [if_neg g,Cg]
    have e2:(if (!decide (ca=[]))=true then
      Az (E4 ca [x.Col]) fun (r2:List Int) (r3:Int)=>
      AB (gd ((!decide (r3=0)) == false) (AO r2 0)) fun (x6:Int)=>
      if ((!decide (r3=0)) || (decide (x6<0))) then (
       some (.ext c:Ao AC (List AC))
      ) else (
       AB (AO r2 0) fun (x7:Int)=>
       some (.nrm (AC.mk (A0 ra x.Row) x7 x.Text x.Ref x.Attrs))
      ) else some (.nrm ⟨A0 ra x.Row,x.Col,x.Text,x.Ref,x.Attrs⟩))=some (if A0 ca x.Col<0 then .ext c else .nrm ⟨A0 ra x.Row,A0 ca x.Col,x.Text,x.Ref,x.Attrs⟩):=by
     by_cases d:ca=[]
     ·rw [if_neg (by simp [d])]
      have:A0 ca x.Col=x.Col:=by unfold A0; rw [if_pos d]
      rw [this,if_neg (by omega)]
     ·rw [if_pos (by simp [d]),RG hc d k4 k5,BD]
      have:AO [A0 ca x.Col] 0=some (A0 ca x.Col):=rfl
      rw [this,show ((!decide ((0:Int)=0)) == false)=true from rfl,Ap,AE]
      by_cases g2:A0 ca x.Col<0
      ·rw [if_pos (by simp [g2]),if_pos g2]
      ·rw [if_neg (by simp [g2]),if_neg g2,AE]
    dsimp only
    rw [e2]
    by_cases g2:A0 ca x.Col<0
    ·rw [if_pos g2]
     refine ⟨c,rfl,by omega,?_⟩
     rw [List.filterMap_cons]
     have:Ct ra ca x=none:=by unfold Ct; rw [if_pos (.inr g2)]
     rw [this]
    ·rw [if_neg g2,Cg,Fb (by omega)]
     refine ⟨_,rfl,by rw [List.length_append,List.length_singleton]; omega,?_⟩
     rw [List.filterMap_cons]
     have:Ct ra ca x=some ⟨A0 ra x.Row,A0 ca x.Col,x.Text,x.Ref,x.Attrs⟩:=by unfold Ct; rw [if_neg (by omega)]
     rw [this,List.append_assoc]; rfl)
  (fun c _=>by
   show D1 l ra ca (l.length:Int) c=_
   unfold D1
   rw [if_neg (by simp)]
   simp) [] (by simp) ((0:Int),[]) rfl
 have this':iter (fun (a:Int × (List AC))=>D1 l ra ca a.1 a.2) (0,[])=_:=this
 rw [this',AE,List.nil_append]
def Aj (c x:AC):Bool:=decide (BE x.Row c.Row x.Col c.Col<0)
def CO (c:AC):List AC→List AC
 | []=>[]
 | x :: t=>if BE x.Row c.Row x.Col c.Col=0 then t else x :: t
def Ci:List AC→List AC→List AC
 | l,[]=>l
 | l,c :: r=>l.takeWhile (Aj c)++(if BY c=true then [] else [c])++Ci (CO c (l.dropWhile (Aj c))) r
theorem T7 (l:List AC) (x5:AC) (hl:l.length≤1048576) : ∀ (d:List AC) (i:Nat) (out:List AC),l.drop i=d→i≤l.length→out.length≤i+1048576 →
  iter (fun (a:Int × (List AC))=>Hb l x5 a.1 a.2) ((i:Int),out)=some (((i+(d.takeWhile (Aj x5)).length:Nat):Int),out++d.takeWhile (Aj x5)):=by
 intro d
 induction d with
 | nil=>
  intro i out hd hi ho
  have:i=l.length:=by
   have:=congrArg List.length hd
   rw [List.length_drop,List.length_nil] at this; omega
  rw [BL (r:=((i:Int),out))]
  ·simp
  ·show Hb l x5 (i:Int) out=_
   unfold Hb
   rw [decide_eq_false (show ¬ (i:Int)<(l.length:Int) by omega)]
   simp only [show (false == true)=false from rfl,EH,AE,Bool.false_and,Bool.false_eq_true,if_false]
 | cons y d ih=>
  intro i out hd hi ho
  have hil:i<l.length:=by
   have:=congrArg List.length hd
   rw [List.length_drop,List.length_cons] at this; omega
  have hdd:=List.getElem_cons_drop hil
  rw [hd] at hdd
  injection hdd with h1 h2
  have hy:l[i]! = y:=by rw [getElem!_pos l i hil,h1]
  have hstep:Hb l x5 (i:Int) out=if Aj x5 y=true then some (.inl (((i+1:Nat):Int),out++[y])) else some (.inr ((i:Int),out)):=by
   unfold Hb
   rw [decide_eq_true (show (i:Int)<(l.length:Int) by omega),show (true == true)=true from rfl,Ap,Af hil,AE,Ap,GX,AE,hy,Bool.true_and]
   by_cases g:BE y.Row x5.Row y.Col x5.Col<0
   ·rw [if_pos (decide_eq_true g),AE,Fb (by omega),AE,An (by omega),AE,if_pos (by unfold Aj; exact decide_eq_true g)]
   ·rw [if_neg (by simpa using g),if_neg (by unfold Aj; simpa using g)]
  by_cases g:Aj x5 y=true
  ·rw [if_pos g] at hstep
   rw [CT hstep,ih (i+1) (out++[y]) h2 (by omega) (by rw [List.length_append,List.length_singleton]; omega),List.takeWhile_cons,if_pos g]
   congr 2
   ·rw [List.length_cons]; omega
   ·simp
  ·rw [if_neg g] at hstep
   rw [BL hstep,List.takeWhile_cons,if_neg g]; simp
theorem TO (p:AC→Bool) (l:List AC):l.drop (l.takeWhile p).length=l.dropWhile p:=by
 induction l with
 | nil=>rfl
 | cons x t ih=>
  rw [List.takeWhile_cons,List.dropWhile_cons]
  split
  ·rw [List.length_cons,List.drop_succ_cons,ih]
  ·rfl
theorem Y0 (c:AC):HA c=some (BY c):=by
 unfold HA BY
 rw [NY]
theorem Xg (l:List AC) (x:AC) (hl:l.length≤1048576) (j:Nat) (hj:j≤l.length) :
  ∃ i21:Nat,i21≤l.length∧j≤i21∧l.drop i21=CO x (l.drop j) ∧ ∀ (γ:Type) (K:Int→Option γ),
   (AB (gd ((decide ((j:Int)<(l.length:Int))) == true) (AO l (j:Int))) fun (x6:AC)=>
   AB (gd ((decide ((j:Int)<(l.length:Int))) == true) (EF x6 x)) fun (r1:Int)=>
   AB (
    if ((decide ((j:Int)<(l.length:Int))) && (decide (r1=0))) then (
     AB (AM .i64 ((j:Int)+1)) fun (i23:Int)=>
     some i23
    ) else (
     some (j:Int)
    )
   ) K)=K (i21:Int):=by
 by_cases hlt:j<l.length
 ·have hdd:=List.getElem_cons_drop hlt
  by_cases ho:BE l[j].Row x.Row l[j].Col x.Col=0
  ·refine ⟨j+1,by omega,by omega,?_,fun γ K=>?_⟩
   ·rw [← hdd]; exact (if_pos ho).symm
   ·rw [decide_eq_true (show (j:Int)<(l.length:Int) by omega),show (true == true)=true from rfl,Ap,Kg hlt,AE,Ap,GX,AE,if_pos (by rw [Bool.true_and]; exact decide_eq_true ho),An (by omega),AE,AE]
  ·refine ⟨j,by omega,by omega,?_,fun γ K=>?_⟩
   ·conv=>rhs; rw [← hdd]
    exact hdd.symm.trans (if_neg ho).symm
   ·rw [decide_eq_true (show (j:Int)<(l.length:Int) by omega),show (true == true)=true from rfl,Ap,Kg hlt,AE,Ap,GX,AE,if_neg (by simpa using ho),AE]
 ·refine ⟨j,by omega,by omega,?_,fun γ K=>?_⟩
  ·rw [List.drop_of_length_le (by omega)]; rfl
  ·rw [decide_eq_false (show ¬ (j:Int)<(l.length:Int) by omega),show (false == true)=false from rfl]
   simp only [EH,AE,Bool.false_and,Bool.false_eq_true,if_false]
theorem bf (l news:List AC) (hl:l.length≤1048576) (hn:news.length≤1048576) (hok : ∀ c∈news,CQ c):HZ l news=some (Ci l news):=by
 unfold HZ
 obtain ⟨b,hb,hq⟩:=DY (f:=fun (a:Int × Int × (List AC))=>GY l news a.1 a.2.1 a.2.2) news.length
  (fun k st=>∃ i:Nat,st.1=(i:Int)∧st.2.1=(k:Int)∧i≤l.length∧st.2.2.length≤i+k∧st.2.2++Ci (l.drop i) (news.drop k)=Ci l news)
  (fun b=>∃ i:Nat,b.1=(i:Int)∧i≤l.length∧b.2.length≤i+news.length∧b.2++l.drop i=Ci l news)
  (fun k st hk hst=>by
   obtain ⟨a1,a2,out⟩:=st
   obtain ⟨i,h1,h2,h3,h4,h5⟩:=hst
   dsimp only at h1 h2 h4 h5
   subst h1 h2
   left
   have hc:=hok _ (Bx hk)
   have hpi:=T7 l news[k]! hl (l.drop i) i out rfl h3 (by omega)
   rw [Hw hk] at h5
   have htl:((l.drop i).takeWhile (Aj news[k]!)).length≤(l.drop i).length:=(List.takeWhile_prefix _).length_le
   rw [List.length_drop] at htl
   have hdr:l.drop (i+((l.drop i).takeWhile (Aj news[k]!)).length)=(l.drop i).dropWhile (Aj news[k]!):=by
    rw [← List.drop_drop,TO]
   obtain ⟨i21,m1,m2,m3,m4⟩:=Xg l news[k]! hl (i+((l.drop i).takeWhile (Aj news[k]!)).length) (by omega)
   rw [hdr] at m3
   dsimp only
   unfold GY
   rw [if_pos (by simpa using hk),Af hk,AE,hpi,BD,m4,Y0,AE]
   have h6:out++(l.drop i).takeWhile (Aj news[k]!)++(if BY news[k]! = true then [] else [news[k]!])++Ci (l.drop i21) (news.drop (k+1))=Ci l news:=by
    rw [← h5,m3]
    show _=out++((l.drop i).takeWhile (Aj news[k]!)++(if BY news[k]! = true then [] else [news[k]!])++Ci (CO news[k]! ((l.drop i).dropWhile (Aj news[k]!))) (news.drop (k+1)))
    simp only [List.append_assoc]
   have h7:(out++(l.drop i).takeWhile (Aj news[k]!)).length≤i21+k:=by
    rw [List.length_append]; omega
   generalize out++(l.drop i).takeWhile (Aj news[k]!)=o9 at h6 h7 ⊢
   by_cases he:BY news[k]! = true
   ·rw [if_pos he,List.append_nil] at h6
    rw [if_neg (by rw [he]; decide),BD,An (by omega),AE]
    exact ⟨_,rfl,i21,rfl,rfl,m1,by dsimp only; omega,h6⟩
   ·rw [if_neg he] at h6
    rw [if_pos (by simpa using he),KG hc,AE,Fb (by omega),AE,BD,An (by omega),AE]
    exact ⟨_,rfl,i21,rfl,rfl,m1,by dsimp only; rw [List.length_append,List.length_singleton]; omega,h6⟩)
  (fun st hst=>by
   obtain ⟨a1,a2,out⟩:=st
   obtain ⟨i,h1,h2,h3,h4,h5⟩:=hst
   dsimp only at h1 h2 h4 h5
   subst h1 h2
   dsimp only
   unfold GY
   rw [if_neg (by simp)]
   refine ⟨_,rfl,i,rfl,h3,h4,?_⟩
   rw [List.drop_of_length_le (Nat.le_refl _)] at h5
   exact h5)
  (s:=((0:Int),0,[])) ⟨0,rfl,rfl,by omega,by simp,by simp⟩
 obtain ⟨i,e1,e2,e3,e4⟩:=hq
 rw [hb]
 obtain ⟨b1,b2⟩:=b
 dsimp only at e1 e3 e4
 subst e1
 have hs:CG l (i:Int) (l.length:Int)=some (l.drop i):=by
  have:=Sq l (i:Int) (by omega) (by omega)
  rwa [Int.toNat_natCast] at this
 have ha:A9 64 b2 (l.drop i)=some (b2++l.drop i):=by
  unfold A9; rw [if_pos ⟨by simp; omega,by simp; omega⟩]
 rw [BD,hs,AE,ha,AE,e4]
end Go.Proofs.YtojmbndlghbpjaaGreatDoor.Al

set_option linter.unusedVariables false
set_option linter.unusedSimpArgs false
namespace Go.Proofs.YtojmbndlghbpjaaGreatDoor.Al
open Go
def B6 (a b:AC):Prop:=a.Row<b.Row∨(a.Row=b.Row∧a.Col<b.Col)
theorem PA {c x:AC} : Aj c x=true↔B6 x c:=by
 unfold Aj B6
 rw [decide_eq_true_eq]
 exact Gw x c
theorem O9 {a b:AC} : BE a.Row b.Row a.Col b.Col=0↔a.Row=b.Row∧a.Col=b.Col:=LU a b
theorem B6.trans {a b c:AC} (h1:B6 a b) (h2:B6 b c):B6 a c:=by unfold B6 at *; omega
theorem B6.irr {a b:AC} (h1:B6 a b) (h2:B6 b a):False:=by unfold B6 at *; omega
theorem B6.ne {a b:AC} (h1:B6 a b) (e1:a.Row=b.Row) (e2:a.Col=b.Col):False:=by unfold B6 at h1; omega
abbrev SC (l:List AC):Prop:=l.Pairwise B6
theorem Sh {l:List AC} (h:Gg l):SC l:=by
 rw [SC,List.pairwise_iff_getElem]
 intro i j hi hj hij
 have:=(Gw _ _).1 (JX h hij hj)
 rw [getElem!_pos l i hi,getElem!_pos l j hj] at this
 exact this
theorem Qy : ∀ {l l':List AC},SC l→SC l'→(∀ x,x∈l↔x∈l')→l=l':=by
 intro l
 induction l with
 | nil=>
  intro l' _ _ h
  cases l' with
  | nil=>rfl
  | cons b r=>exact absurd ((h b).2 (List.mem_cons_self ..)) (by simp)
 | cons a r ih=>
  intro l' h1 h2 h
  cases l' with
  | nil=>exact absurd ((h a).1 (List.mem_cons_self ..)) (by simp)
  | cons b s=>
   rw [SC,List.pairwise_cons] at h1 h2
   have hab:a=b:=by
    rcases List.mem_cons.1 ((h a).1 (List.mem_cons_self ..)) with e | ha
    ·exact e
    ·rcases List.mem_cons.1 ((h b).2 (List.mem_cons_self ..)) with e | hb
     ·exact e.symm
     ·exact ((h2.1 a ha).irr (h1.1 b hb)).elim
   subst hab
   rw [ih h1.2 h2.2 fun x=>?_]
   constructor
   ·intro hx
    rcases List.mem_cons.1 ((h x).1 (List.mem_cons_of_mem _ hx)) with e | h3
    ·subst e; exact ((h1.1 x hx).irr (h1.1 x hx)).elim
    ·exact h3
   ·intro hx
    rcases List.mem_cons.1 ((h x).2 (List.mem_cons_of_mem _ hx)) with e | h3
    ·subst e; exact ((h2.1 x hx).irr (h2.1 x hx)).elim
    ·exact h3
def At (x:AC) (c:AC):Prop:=x.Row=c.Row∧x.Col=c.Col
theorem Qu {l:List AC} (h:SC l) (c:AC):(∀ x∈l.takeWhile (Aj c),B6 x c)∧(∀ x∈CO c (l.dropWhile (Aj c)),B6 c x)∧SC (l.takeWhile (Aj c))∧SC (CO c (l.dropWhile (Aj c))) ∧
  (∀ x,x∈l.takeWhile (Aj c)∨x∈CO c (l.dropWhile (Aj c))→x∈l)∧(∀ x,x∈l → ¬ At x c→x∈l.takeWhile (Aj c)∨x∈CO c (l.dropWhile (Aj c))):=by
 have hsplit:=List.takeWhile_append_dropWhile (p:=Aj c) (l:=l)
 have hp:SC (l.takeWhile (Aj c)++l.dropWhile (Aj c)):=by rw [hsplit]; exact h
 have hmem : ∀ x,x∈l↔x∈l.takeWhile (Aj c)∨x∈l.dropWhile (Aj c):=fun x=>by
  conv=>lhs; rw [← hsplit]
  exact List.mem_append
 rw [SC,List.pairwise_append] at hp
 obtain ⟨hp1,hp2,_⟩:=hp
 have htw : ∀ x∈l.takeWhile (Aj c),B6 x c:=fun x hx=>PA.1 ((List.all_eq_true.1 (List.all_takeWhile (p:=Aj c) (l:=l))) x hx)
 cases hd:l.dropWhile (Aj c) with
 | nil=>
  rw [hd] at hmem
  refine ⟨htw,fun x hx=>(by cases hx),hp1,List.Pairwise.nil,fun x hx=>(hmem x).2 hx,fun x hx _=>(hmem x).1 hx⟩
 | cons y s=>
  rw [hd] at hmem hp2
  rw [List.pairwise_cons] at hp2
  have hy : ¬ B6 y c:=by
   intro hlt
   have:=List.head?_dropWhile_not (Aj c) l
   rw [hd] at this
   simp only [List.head?_cons] at this
   rw [PA.2 hlt] at this; simp at this
  by_cases he:At y c
  ·have e:CO c (y :: s)=s:=if_pos (O9.2 he)
   rw [e]
   refine ⟨htw,fun x hx=>?_,hp1,hp2.2,fun x hx=>(hmem x).2 (hx.imp id (List.mem_cons_of_mem _)),fun x hx hn=>?_⟩
   ·have:=hp2.1 x hx
    unfold B6 At at *; omega
   ·rcases (hmem x).1 hx with g | g
    ·exact .inl g
    ·rcases List.mem_cons.1 g with e2 | g
     ·subst e2; exact (hn he).elim
     ·exact .inr g
  ·have e:CO c (y :: s)=y :: s:=if_neg (fun h0=>he (O9.1 h0))
   rw [e]
   have hcy:B6 c y:=by unfold B6 At at *; omega
   refine ⟨htw,fun x hx=>?_,hp1,List.pairwise_cons.2 hp2,fun x hx=>(hmem x).2 hx,fun x hx _=>(hmem x).1 hx⟩
   rcases List.mem_cons.1 hx with e2 | g
   ·rw [e2]; exact hcy
   ·exact hcy.trans (hp2.1 x g)
theorem TD : ∀ (news l:List AC),SC l→SC news→SC (Ci l news) ∧ ∀ x,x∈Ci l news↔(x∈news∧BY x=false)∨(x∈l ∧ ∀ c∈news,¬ At x c):=by
 intro news
 induction news with
 | nil=>intro l h1 _; exact ⟨h1,fun x=>by simp [Ci]⟩
 | cons c r ih=>
  intro l h1 h2
  rw [SC,List.pairwise_cons] at h2
  obtain ⟨a1,a2,a3,a4,a5,a6⟩:=Qu h1 c
  obtain ⟨b1,b2⟩:=ih _ a4 h2.2
  have hmem : ∀ x,x∈Ci l (c :: r)↔x∈l.takeWhile (Aj c)∨(x=c∧BY c=false)∨x∈Ci (CO c (l.dropWhile (Aj c))) r:=fun x=>by
   show x∈l.takeWhile (Aj c)++(if BY c=true then [] else [c])++Ci (CO c (l.dropWhile (Aj c))) r↔_
   rw [List.mem_append,List.mem_append,or_assoc]
   cases BY c <;> simp
  have hgt : ∀ x∈Ci (CO c (l.dropWhile (Aj c))) r,B6 c x:=fun x hx=>by
   rcases (b2 x).1 hx with ⟨g,_⟩ | ⟨g,_⟩
   ·exact h2.1 x g
   ·exact a2 x g
  refine ⟨?_,fun x=>?_⟩
  ·show SC (l.takeWhile (Aj c)++(if BY c=true then [] else [c])++Ci (CO c (l.dropWhile (Aj c))) r)
   rw [SC,List.pairwise_append,List.pairwise_append]
   refine ⟨⟨a3,by split <;> simp,fun x hx y hy=>?_⟩,b1,fun x hx y hy=>?_⟩
   ·have:y=c:=by
     split at hy
     ·cases hy
     ·simpa using hy
    rw [this]; exact a1 x hx
   ·have hy':=hgt y hy
    rcases List.mem_append.1 hx with g | g
    ·exact (a1 x g).trans hy'
    ·have:x=c:=by
      split at g
      ·cases g
      ·simpa using g
     rw [this]; exact hy'
  ·rw [hmem,b2]
   constructor
   ·rintro (g | ⟨rfl,g⟩ | ⟨g1,g2⟩ | ⟨g1,g2⟩)
    ·refine .inr ⟨a5 x (.inl g),fun c' hc' hA=>?_⟩
     have hx:=a1 x g
     rcases List.mem_cons.1 hc' with rfl | hc'
     ·exact hx.ne hA.1 hA.2
     ·exact (hx.trans (h2.1 c' hc')).ne hA.1 hA.2
    ·exact .inl ⟨List.mem_cons_self ..,g⟩
    ·exact .inl ⟨List.mem_cons_of_mem _ g1,g2⟩
    ·refine .inr ⟨a5 x (.inr g1),fun c' hc' hA=>?_⟩
     rcases List.mem_cons.1 hc' with rfl | hc'
     ·exact (a2 x g1).ne hA.1.symm hA.2.symm
     ·exact g2 c' hc' hA
   ·rintro (⟨g1,g2⟩ | ⟨g1,g2⟩)
    ·rcases List.mem_cons.1 g1 with rfl | g1
     ·exact .inr (.inl ⟨rfl,g2⟩)
     ·exact .inr (.inr (.inl ⟨g1,g2⟩))
    ·rcases a6 x g1 (g2 c (List.mem_cons_self ..)) with g | g
     ·exact .inl g
     ·exact .inr (.inr (.inr ⟨g,fun c' hc'=>g2 c' (List.mem_cons_of_mem _ hc')⟩))
theorem Q7 {ra ca:List AG} {rows cols:Int} (hr:BR ra rows) (hc:BR ca cols) {l:List AC} (h:SC l) (hin : ∀ c∈l,0≤c.Row∧c.Row<rows∧0≤c.Col∧c.Col<cols):SC (l.filterMap (Ct ra ca)):=by
 rw [SC,List.pairwise_filterMap]
 refine List.Pairwise.imp_of_mem (fun {a b} ha hb hab x hx y hy=>?_) h
 obtain ⟨a1,a2,a3,a4⟩:=hin a ha
 obtain ⟨b1,b2,b3,b4⟩:=hin b hb
 unfold Ct at hx hy
 split at hx
 ·cases hx
 ·rename_i hx0
  split at hy
  ·cases hy
  ·rename_i hy0
   cases hx; cases hy
   unfold B6 at hab ⊢
   dsimp only
   rcases hab with g | ⟨g1,g2⟩
   ·exact .inl (Ni hr a1 g (by omega) (by omega))
   ·rw [g1]
    exact .inr ⟨rfl,Ni hc a3 g2 (by omega) (by omega)⟩
end Go.Proofs.YtojmbndlghbpjaaGreatDoor.Al

set_option linter.unusedVariables false
set_option linter.unusedSimpArgs false
namespace Go.Proofs.YtojmbndlghbpjaaGreatDoor.Al
open Go
def CV (a:List AG) (n:Int):List Int:=if a=[] then List.replicate n.toNat 0 else Do a
def BF (a:List AG) (n:Int):List Int:=BQ (CV a n) 0
theorem Px (n:Int):Do [⟨0,n⟩]=List.replicate n.toNat 0:=by
 unfold Do; simp
theorem Rx : ∀ (us:List Int) (o:Int),0≤o→(∀ u∈us,u=0∨u=1∨u=2) →
  (BQ us o).Pairwise (fun a b=>0≤a→0≤b→a<b)∧(∀ x∈BQ us o,x = -1∨(o≤x∧x<o+((us.filter fun u=>!decide (u=1)).length:Int)))∧(BQ us o).length=(us.filter fun u=>!decide (u=2)).length:=by
 intro us
 induction us with
 | nil=>intro o _ _; exact ⟨List.Pairwise.nil,fun x hx=>(by cases hx),rfl⟩
 | cons u r ih=>
  intro o ho hu
  have hur:=fun x hx=>hu x (List.mem_cons_of_mem _ hx)
  unfold BQ
  rcases hu u (List.mem_cons_self ..) with rfl | rfl | rfl
  ·obtain ⟨h1,h2,h3⟩:=ih (o+1) (by omega) hur
   rw [if_pos rfl]
   refine ⟨List.pairwise_cons.2 ⟨fun x hx _ h0=>?_,h1⟩,fun x hx=>?_,?_⟩
   ·rcases h2 x hx with e | e
    ·omega
    ·omega
   ·simp only [List.filter_cons,show (!decide ((0:Int)=1))=true from rfl,if_true,List.length_cons]
    rcases List.mem_cons.1 hx with e | hx
    ·right; omega
    ·rcases h2 x hx with e | e
     ·exact .inl e
     ·right; omega
   ·simp only [List.filter_cons,show (!decide ((0:Int)=2))=true from rfl,if_true,List.length_cons,h3]
  ·obtain ⟨h1,h2,h3⟩:=ih o ho hur
   rw [if_neg (by decide),if_pos rfl]
   refine ⟨List.pairwise_cons.2 ⟨fun x hx h0 _=>absurd h0 (by decide),h1⟩,fun x hx=>?_,?_⟩
   ·simp only [List.filter_cons,show (!decide ((1:Int)=1))=false from rfl,Bool.false_eq_true,if_false]
    rcases List.mem_cons.1 hx with e | hx
    ·exact .inl e
    ·exact h2 x hx
   ·simp only [List.filter_cons,show (!decide ((1:Int)=2))=true from rfl,if_true,List.length_cons,h3]
  ·obtain ⟨h1,h2,h3⟩:=ih (o+1) (by omega) hur
   rw [if_neg (by decide),if_neg (by decide)]
   refine ⟨h1,fun x hx=>?_,?_⟩
   ·simp only [List.filter_cons,show (!decide ((2:Int)=1))=true from rfl,if_true,List.length_cons]
    rcases h2 x hx with e | e
    ·exact .inl e
    ·right; omega
   ·rw [h3,List.filter_cons,if_neg (by decide)]
theorem WD {a:List AG} (h : ∀ s∈a,A1 s):(∀ u∈Do a,u=0∨u=1∨u=2)∧(((Do a).filter fun u=>!decide (u=1)).length:Int)=Ah a∧(((Do a).filter fun u=>!decide (u=2)).length:Int)=Am a:=by
 induction a with
 | nil=>exact ⟨fun u hu=>(by cases hu),rfl,rfl⟩
 | cons s r ih=>
  obtain ⟨h1,h2,h3⟩:=ih fun x hx=>h x (List.mem_cons_of_mem _ hx)
  have hs:=h s (List.mem_cons_self ..)
  unfold A1 at hs
  rw [MS,Da,Db]
  refine ⟨fun u hu=>?_,?_,?_⟩
  ·rcases List.mem_append.1 hu with g | g
   ·have:=(List.mem_replicate.1 g).2; omega
   ·exact h1 u g
  ·rw [List.filter_append,List.length_append,List.filter_replicate]
   unfold BU
   by_cases d:s.Kind=1
   ·rw [if_neg (by simp [d]),if_pos d]; simp; omega
   ·rw [if_pos (by simp [d]),if_neg d,List.length_replicate]; omega
  ·rw [List.filter_append,List.length_append,List.filter_replicate]
   unfold BW
   by_cases d:s.Kind=2
   ·rw [if_neg (by simp [d]),if_pos d]; simp; omega
   ·rw [if_pos (by simp [d]),if_neg d,List.length_replicate]; omega
theorem Ky {a:List AG} {n:Int} (h:BR a n):(BF a n).Pairwise (fun a b=>0≤a→0≤b→a<b)∧(∀ x∈BF a n,x = -1∨(0≤x∧x<n))∧((BF a n).length:Int)=Ab a n:=by
 have hn:=h.n0
 unfold BF CV Ab
 by_cases d:a=[]
 ·rw [if_pos d,if_pos d]
  obtain ⟨h1,h2,h3⟩:=Rx (List.replicate n.toNat 0) 0 (by omega) (fun u hu=>.inl (List.mem_replicate.1 hu).2)
  rw [List.filter_replicate,if_pos (by rfl),List.length_replicate] at h2 h3
  refine ⟨h1,fun x hx=>?_,by rw [h3]; omega⟩
  rcases h2 x hx with e | e
  ·exact .inl e
  ·right; omega
 ·rw [if_neg d,if_neg d]
  obtain ⟨u1,u2,u3⟩:=WD (CX h.er).stp
  obtain ⟨h1,h2,h3⟩:=Rx (Do a) 0 (by omega) u1
  have:=h.ft d
  refine ⟨h1,fun x hx=>?_,by rw [h3]; exact u3⟩
  rcases h2 x hx with e | e
  ·exact .inl e
  ·right; omega
theorem bO : ∀ (l:List Int) (p t:Int),0≤t→0≤BK (Bi p l t) → ∃ k,k<l.length∧BK (Bi p l t)=t+(k:Int)∧l[k]! = p:=by
 intro l
 induction l with
 | nil=>intro p t _ h; exact absurd h (by unfold Bi BK; decide)
 | cons x r ih=>
  intro p t ht h
  unfold Bi at h ⊢
  by_cases d:x=p
  ·rw [if_pos d] at h ⊢
   exact ⟨0,by simp,by simp [BK],by simpa using d⟩
  ·rw [if_neg d] at h ⊢
   obtain ⟨k,k1,k2,k3⟩:=ih p (t+1) (by omega) h
   exact ⟨k+1,by simpa using k1,by omega,by simpa using k3⟩
theorem Y4 : ∀ (l:List Int) (p t:Int) (k:Nat),k<l.length→l[k]! = p→(∀ j,j<k→l[j]! ≠ p)→BK (Bi p l t)=t+(k:Int):=by
 intro l
 induction l with
 | nil=>intro p t k h; exact absurd h (Nat.not_lt_zero _)
 | cons x r ih=>
  intro p t k hk h1 h2
  unfold Bi
  cases k with
  | zero=>rw [if_pos (by simpa using h1)]; simp [BK]
  | succ k=>
   rw [if_neg (by have:=h2 0 (by omega); simpa using this),ih p (t+1) k (by simpa using hk) (by simpa using h1) (fun j hj=>by have:=h2 (j+1) (by omega); simpa using this)]
   omega
theorem Od {a:List AG} {n p:Int} (h:BR a n) (h0:0≤p) (h1:p<n):BK (Bi p (BF a n) 0)=A0 a p:=by
 unfold BF CV A0
 have:=h.nm
 by_cases d:a=[]
 ·rw [if_pos d,if_pos d,← Px,R6 [⟨0,n⟩] (fun s hs=>by
   have:s=⟨0,n⟩:=by simpa using hs
   subst this; unfold A1; dsimp only; omega) 0 p 0 h0 h0,E7]
  rw [if_neg (show ¬ (0:Int)=1 by decide),if_pos (by dsimp only; omega),if_pos rfl]
  simp [BK]
 ·rw [if_neg d,if_neg d]
  exact R6 a (CX h.er).stp 0 p 0 h0 h0
theorem TK {a:List AG} {n:Int} (h:BR a n) {r:Nat} (hr:r<(BF a n).length) (h0:0≤(BF a n)[r]!):(BF a n)[r]! < n∧A0 a (BF a n)[r]! = (r:Int):=by
 obtain ⟨h1,h2,h3⟩:=Ky h
 have hm:=h2 _ (Bx hr)
 have hlt:(BF a n)[r]! < n:=by omega
 refine ⟨hlt,?_⟩
 rw [← Od h h0 hlt,Y4 (BF a n) _ 0 r hr rfl (fun j hj e=>?_)]
 ·omega
 ·rw [List.pairwise_iff_getElem] at h1
  have:=h1 j r (by omega) hr hj
  rw [← getElem!_pos (BF a n) j (by omega),← getElem!_pos (BF a n) r hr] at this
  have:=this (by rw [e]; exact h0) h0
  omega
theorem SL {a:List AG} {n p:Int} (h:BR a n) (h0:0≤p) (h1:p<n) (h2:0≤A0 a p):(A0 a p).toNat<(BF a n).length∧(BF a n)[(A0 a p).toNat]! = p:=by
 rw [← Od h h0 h1] at h2 ⊢
 obtain ⟨k,k1,k2,k3⟩:=bO _ _ _ (by omega) h2
 rw [k2,Int.zero_add,Int.toNat_natCast]
 exact ⟨k1,k3⟩
end Go.Proofs.YtojmbndlghbpjaaGreatDoor.Al

set_option linter.unusedVariables false
set_option linter.unusedSimpArgs false
namespace Go.Proofs.YtojmbndlghbpjaaGreatDoor.Al
open Go
def HY (x:AC):List AC:=if BY x=true then [] else [x]
def Fp (l:List AC) (a b:Int) (r c:Nat):AC:=if 0≤a∧0≤b then ⟨(r:Int),(c:Int),(Bs l a b).Text,(Bs l a b).Ref,(Bs l a b).Attrs⟩ else ⟨(r:Int),(c:Int),[],0,[]⟩
def EK (n:List AC) (r c:Nat) (x:AC):AC:=n.foldl (fun x y=>if y.Row=(r:Int)∧y.Col=(c:Int) then y else x) x
def XC (l n:List AC) (rr cc:List Int) (r c:Nat):AC:=EK n r c (Fp l rr[r]! cc[c]! r c)
def Cy (l n:List AC) (rr cc:List Int) (r m:Nat):List AC:=(List.range m).flatMap fun c=>HY (XC l n rr cc r c)
def Dh (l n:List AC) (rr cc:List Int) (m:Nat):List AC:=(List.range m).flatMap fun r=>Cy l n rr cc r cc.length
theorem TA (l n:List AC) (rr cc:List Int) (r m:Nat):Cy l n rr cc r (m+1)=Cy l n rr cc r m++HY (XC l n rr cc r m):=by
 unfold Cy; rw [List.range_succ,List.flatMap_append]; simp
theorem TV (l n:List AC) (rr cc:List Int) (m:Nat):Dh l n rr cc (m+1)=Dh l n rr cc m++Cy l n rr cc m cc.length:=by
 unfold Dh; rw [List.range_succ,List.flatMap_append]; simp
theorem Xf (x:AC):(HY x).length≤1:=by unfold HY; split <;> simp
theorem Pj (l n:List AC) (rr cc:List Int) (r m:Nat):(Cy l n rr cc r m).length≤m:=by
 induction m with
 | zero=>simp [Cy]
 | succ m ih=>rw [TA,List.length_append]; have:=Xf (XC l n rr cc r m); omega
theorem XU (l n:List AC) (rr cc:List Int) (m:Nat):(Dh l n rr cc m).length≤m * cc.length:=by
 induction m with
 | zero=>simp [Dh]
 | succ m ih=>rw [TV,List.length_append,Nat.succ_mul]; have:=Pj l n rr cc m cc.length; omega
theorem YK (l:List AC) (row col:Int) (hl:l.length≤1048576):JI l row col=some (Bs l row col):=by
 unfold JI
 have h:=Cq (f:=fun (a:Int)=>If l row col a) (n:=l.length) (fun k=>if (decide (l[k]!.Row=row) && decide (l[k]!.Col=col)) then some l[k]! else none) (fun k hk=>by
  unfold If
  rw [if_pos (by simpa using hk),Af hk,AE,An (by omega)]
  cases (decide (l[k]!.Row=row) && decide (l[k]!.Col=col)) <;> rfl) (by unfold If; rw [if_neg (by simp)])
 rw [h,Dx]
 have key : ∀ l:List AC,(List.range l.length).findSome? (fun k=>if (decide (l[k]!.Row=row) && decide (l[k]!.Col=col)) then some l[k]! else none)=l.find? fun c=>decide (c.Row=row) && decide (c.Col=col):=by
  intro l
  induction l with
  | nil=>rfl
  | cons x t ih=>
   rw [List.length_cons,List.range_succ_eq_map,List.findSome?_cons,List.find?_cons,List.findSome?_map]
   have e0:(x :: t)[0]! = x:=rfl
   rw [e0]
   cases hx:(decide (x.Row=row) && decide (x.Col=col)) with
   | true=>rfl
   | false=>
    rw [← ih]
    rfl
 rw [key]
 unfold Bs
 cases l.find? fun c=>decide (c.Row=row) && decide (c.Col=col) <;> rfl
theorem US (e:AK) (r c:Nat) (x:AC) (hn:e.Cells.length≤1048576):iter (fun (a:Int × AC)=>FE e (r:Int) (c:Int) a.1 a.2) (0,x)=some (EK e.Cells r c x):=by
 exact CY (f:=fun (a:Int × AC)=>FE e (r:Int) (c:Int) a.1 a.2) e.Cells (fun (x:AC) i=>((i:Int),x)) (fun l x=>EK l r c x) (fun _ _=>True)
  (fun i x hi _=>by
   left
   show ∃ c',FE e (r:Int) (c:Int) (i:Int) x=_∧_
   unfold FE
   rw [if_pos (by simpa using hi),Af hi,AE,An (by omega)]
   by_cases h:e.Cells[i]!.Row=(r:Int)∧e.Cells[i]!.Col=(c:Int)
   ·rw [if_pos (by simpa using h)]
    refine ⟨_,rfl,trivial,?_⟩
    unfold EK; rw [List.foldl_cons,if_pos h]
   ·rw [if_neg (by simpa using h)]
    refine ⟨_,rfl,trivial,?_⟩
    unfold EK; rw [List.foldl_cons,if_neg h])
  (fun x _=>by
   show FE e (r:Int) (c:Int) (e.Cells.length:Int) x=_
   unfold FE
   rw [if_neg (by simp)]; rfl) x trivial (0,x) rfl
theorem T6 (g:AJ) (e:AK) (rr cc:List Int) (hg:g.Cells.length≤1048576) (hn:e.Cells.length≤1048576) (hc:cc.length≤1000) (r:Nat) (hr:r<rr.length) (o:AJ) (ho:o.Cells.length≤1000000) :
  iter (fun (a:Int × AJ)=>Hv g e rr cc (r:Int) a.1 a.2) (0,(AJ.mk o.Rows o.Cols o.Cells []))=some ⟨o.Rows,o.Cols,o.Cells++Cy g.Cells e.Cells rr cc r cc.length,[]⟩:=by
 obtain ⟨b,hb,hq⟩:=DY (f:=fun (a:Int × AJ)=>Hv g e rr cc (r:Int) a.1 a.2) cc.length
  (fun k st=>st=((k:Int),(⟨o.Rows,o.Cols,o.Cells++Cy g.Cells e.Cells rr cc r k,[]⟩:AJ))) (fun b=>b=(⟨o.Rows,o.Cols,o.Cells++Cy g.Cells e.Cells rr cc r cc.length,[]⟩:AJ))
  (fun k st hk hst=>by
   subst hst
   left
   have hlen:=Pj g.Cells e.Cells rr cc r k
   unfold Hv
   dsimp only
   rw [if_pos (by simpa using hk),Af hr,AE,Af hk]
   have e0:(AB (gd ((decide (0≤rr[r]!)) == true) (some cc[k]!)) fun (x44:Int)=>
    AB (
     if ((decide (0≤rr[r]!)) && (decide (0≤x44))) then (
      AB (some cc[k]!) fun (x56:Int)=>
      AB (JI g.Cells rr[r]! x56) fun (r8:AC)=>
      some (AC.mk (r:Int) (k:Int) r8.Text r8.Ref r8.Attrs)
     ) else (
      some (AC.mk (r:Int) (k:Int) [] 0 [])
     )
    ) fun (x45:AC)=>
    AB (iter (fun (a:Int × AC)=>FE e (r:Int) (k:Int) a.1 a.2) (0,x45)) fun (x52:AC)=>
    AB (Fh x52) fun (r7:Bool)=>
    if (!r7) then (
     AB (A9 64 (o.Cells++Cy g.Cells e.Cells rr cc r k) [x52]) fun (l2:List AC)=>
     some (AJ.mk o.Rows o.Cols l2 [])
    ) else (
     some (AJ.mk o.Rows o.Cols (o.Cells++Cy g.Cells e.Cells rr cc r k) [])
    ))=some ⟨o.Rows,o.Cols,o.Cells++Cy g.Cells e.Cells rr cc r (k+1),[]⟩:=by
    have tail : ∀ x:AC,x=Fp g.Cells rr[r]! cc[k]! r k→(AB (iter (fun (a:Int × AC)=>FE e (r:Int) (k:Int) a.1 a.2) (0,x)) fun (x52:AC)=>
     AB (Fh x52) fun (r7:Bool)=>
     if (!r7) then (
      AB (A9 64 (o.Cells++Cy g.Cells e.Cells rr cc r k) [x52]) fun (l2:List AC)=>
      some (AJ.mk o.Rows o.Cols l2 [])
     ) else (
      some (AJ.mk o.Rows o.Cols (o.Cells++Cy g.Cells e.Cells rr cc r k) [])
     ))=some ⟨o.Rows,o.Cols,o.Cells++Cy g.Cells e.Cells rr cc r (k+1),[]⟩:=by
     intro x hx
     have hX:EK e.Cells r k x=XC g.Cells e.Cells rr cc r k:=by rw [hx]; rfl
     have he:Fh (XC g.Cells e.Cells rr cc r k)=some (BY (XC g.Cells e.Cells rr cc r k)):=by unfold Fh BY; rw [NY]
     rw [US e r k x hn,AE,hX,he,AE,TA]
     unfold HY
     cases hE:BY (XC g.Cells e.Cells rr cc r k) with
     | true=>rw [if_neg (by decide),if_pos rfl,List.append_nil]
     | false=>
      rw [if_pos (by decide),Fb (by rw [List.length_append]; omega),AE,if_neg (by decide),List.append_assoc]
    by_cases h1:0≤rr[r]!
    ·rw [decide_eq_true h1,show (true == true)=true from rfl,Ap,AE]
     by_cases h2:0≤cc[k]!
     ·rw [if_pos (by rw [decide_eq_true h2]; rfl),AE,YK _ _ _ hg,AE,AE]
      exact tail _ (by unfold Fp; rw [if_pos ⟨h1,h2⟩])
     ·rw [if_neg (by rw [decide_eq_false h2]; decide),AE]
      exact tail _ (by unfold Fp; rw [if_neg (fun h=>h2 h.2)])
    ·rw [decide_eq_false h1,show (false == true)=false from rfl]
     simp only [EH,AE,Bool.false_and,Bool.false_eq_true,if_false]
     exact tail _ (by unfold Fp; rw [if_neg (fun h=>h1 h.1)])
   rw [e0,AE,An (by omega),AE]
   exact ⟨_,rfl,rfl⟩)
  (fun st hst=>by
   subst hst
   unfold Hv
   dsimp only
   rw [if_neg (by simp)]
   exact ⟨_,rfl,rfl⟩)
  (s:=((0:Int),(⟨o.Rows,o.Cols,o.Cells,[]⟩:AJ))) (by simp [Cy])
 rw [← hq]; exact hb
theorem Ua (g:AJ) (e:AK) (rr cc:List Int) (hg:g.Cells.length≤1048576) (hn:e.Cells.length≤1048576) (hr:rr.length≤200) (hc:cc.length≤200) :
  iter (fun (a:Int × AJ)=>H8 g e rr cc a.1 a.2) (0,(AJ.mk (rr.length:Int) (cc.length:Int) [] []))=some ⟨(rr.length:Int),(cc.length:Int),Dh g.Cells e.Cells rr cc rr.length,[]⟩:=by
 obtain ⟨b,hb,hq⟩:=DY (f:=fun (a:Int × AJ)=>H8 g e rr cc a.1 a.2) rr.length
  (fun k st=>st=((k:Int),(⟨(rr.length:Int),(cc.length:Int),Dh g.Cells e.Cells rr cc k,[]⟩:AJ))) (fun b=>b=(⟨(rr.length:Int),(cc.length:Int),Dh g.Cells e.Cells rr cc rr.length,[]⟩:AJ))
  (fun k st hk hst=>by
   subst hst
   left
   have hlen:=XU g.Cells e.Cells rr cc k
   have:k * cc.length≤200 * 200:=Nat.mul_le_mul (by omega) hc
   have hrow:=T6 g e rr cc hg hn (by omega) k hk ⟨(rr.length:Int),(cc.length:Int),Dh g.Cells e.Cells rr cc k,[]⟩ (by dsimp only; omega)
   unfold H8
   dsimp only at hrow ⊢
   rw [if_pos (by simpa using hk),hrow,AE,An (by omega),AE]
   exact ⟨_,rfl,by rw [TV]⟩)
  (fun st hst=>by
   subst hst
   unfold H8
   dsimp only
   rw [if_neg (by simp)]
   exact ⟨_,rfl,rfl⟩)
  (s:=((0:Int),(⟨(rr.length:Int),(cc.length:Int),[],[]⟩:AJ))) (by simp [Dh])
 rw [← hq]; exact hb
end Go.Proofs.YtojmbndlghbpjaaGreatDoor.Al

set_option linter.unusedVariables false
set_option linter.unusedSimpArgs false
namespace Go.Proofs.YtojmbndlghbpjaaGreatDoor.Al
open Go
theorem OS (r c:Nat) : ∀ (n:List AC) (x:AC),(∀ y∈n,¬ (y.Row=(r:Int)∧y.Col=(c:Int)))→EK n r c x=x:=by
 intro n
 induction n with
 | nil=>intro x _; rfl
 | cons y t ih=>
  intro x h
  unfold EK
  rw [List.foldl_cons,if_neg (h y (List.mem_cons_self ..))]
  exact ih x fun z hz=>h z (List.mem_cons_of_mem _ hz)
theorem Sy (r c:Nat) : ∀ (n:List AC) (x y:AC),SC n→y∈n→y.Row=(r:Int)∧y.Col=(c:Int)→EK n r c x=y:=by
 intro n
 induction n with
 | nil=>intro x y _ h; cases h
 | cons z t ih=>
  intro x y hs hy hA
  rw [SC,List.pairwise_cons] at hs
  unfold EK
  rw [List.foldl_cons]
  rcases List.mem_cons.1 hy with rfl | hy
  ·rw [if_pos hA]
   exact OS r c t y fun w hw hB=>(hs.1 w hw).ne (hA.1.trans hB.1.symm) (hA.2.trans hB.2.symm)
  ·exact ih _ y hs.2 hy hA
theorem LJ (l n:List AC) (rr cc:List Int) (r c:Nat):(XC l n rr cc r c).Row=(r:Int)∧(XC l n rr cc r c).Col=(c:Int):=by
 have key : ∀ (n:List AC) (x:AC),(x.Row=(r:Int)∧x.Col=(c:Int))→(EK n r c x).Row=(r:Int)∧(EK n r c x).Col=(c:Int):=by
  intro n
  induction n with
  | nil=>intro x h; exact h
  | cons y t ih=>
   intro x h
   unfold EK
   rw [List.foldl_cons]
   refine ih _ ?_
   split
   ·assumption
   ·exact h
 refine key n _ ?_
 unfold Fp
 split <;> exact ⟨rfl,rfl⟩
theorem Jy {x y:AC} : x∈HY y↔x=y∧BY y=false:=by
 unfold HY
 cases BY y <;> simp
theorem Yz (l n:List AC) (rr cc:List Int) (m:Nat) (x:AC):x∈Dh l n rr cc m ↔ ∃ r c,r<m∧c<cc.length∧x=XC l n rr cc r c∧BY x=false:=by
 unfold Dh Cy
 simp only [List.mem_flatMap,List.mem_range,Jy]
 constructor
 ·rintro ⟨r,hr,c,hc,e,h⟩; exact ⟨r,c,hr,hc,e,by rw [e]; exact h⟩
 ·rintro ⟨r,c,hr,hc,e,h⟩; exact ⟨r,hr,c,hc,e,by rw [← e]; exact h⟩
theorem Vy (l n:List AC) (rr cc:List Int) (m:Nat):SC (Dh l n rr cc m):=by
 unfold Dh
 rw [SC,List.pairwise_flatMap]
 refine ⟨fun r _=>?_,List.pairwise_lt_range.imp fun {a b} hab x hx y hy=>?_⟩
 ·unfold Cy
  rw [List.pairwise_flatMap]
  refine ⟨fun c _=>by unfold HY; split <;> simp,List.pairwise_lt_range.imp fun {a b} hab x hx y hy=>?_⟩
  obtain ⟨rfl,_⟩:=Jy.1 hx
  obtain ⟨rfl,_⟩:=Jy.1 hy
  have h1:=LJ l n rr cc r a
  have h2:=LJ l n rr cc r b
  right
  omega
 ·unfold Cy at hx hy
  obtain ⟨c,_,hx⟩:=List.mem_flatMap.1 hx
  obtain ⟨c',_,hy⟩:=List.mem_flatMap.1 hy
  obtain ⟨rfl,_⟩:=Jy.1 hx
  obtain ⟨rfl,_⟩:=Jy.1 hy
  have h1:=LJ l n rr cc a c
  have h2:=LJ l n rr cc b c'
  left
  omega
theorem Hx {l:List AC} {row col:Int} : Bs l row col=AC.mk row col [] 0 []∨(Bs l row col∈l∧(Bs l row col).Row=row∧(Bs l row col).Col=col):=by
 unfold Bs
 cases hf:l.find? fun c=>decide (c.Row=row) && decide (c.Col=col) with
 | none=>exact .inl rfl
 | some c=>
  have h1:=List.mem_of_find?_eq_some hf
  have h2:=List.find?_some hf
  simp only [Bool.and_eq_true,decide_eq_true_eq] at h2
  exact .inr ⟨h1,h2⟩
theorem KQ {l:List AC} (hs:SC l) {x:AC} (hx:x∈l):Bs l x.Row x.Col=x:=by
 unfold Bs
 cases hf:l.find? fun c=>decide (c.Row=x.Row) && decide (c.Col=x.Col) with
 | none=>
  have:=List.find?_eq_none.1 hf x hx
  simp at this
 | some c=>
  have h1:=List.mem_of_find?_eq_some hf
  have h2:=List.find?_some hf
  simp only [Bool.and_eq_true,decide_eq_true_eq] at h2
  show c=x
  obtain ⟨i,hi,rfl⟩:=List.getElem_of_mem h1
  obtain ⟨j,hj,rfl⟩:=List.getElem_of_mem hx
  rw [SC,List.pairwise_iff_getElem] at hs
  rcases Nat.lt_trichotomy i j with h | h | h
  ·exact ((hs i j hi hj h).ne h2.1 h2.2).elim
  ·subst h; rfl
  ·exact ((hs j i hj hi h).ne h2.1.symm h2.2.symm).elim
theorem Xh {ra ca:List AG} {rows cols:Int} (hr:BR ra rows) (hc:BR ca cols) {l n:List AC} (hl:SC l) (hn:SC n)
  (hin : ∀ c∈l,(0≤c.Row∧c.Row<rows∧0≤c.Col∧c.Col<cols)∧BY c=false) (hnin : ∀ c∈n,0≤c.Row∧c.Row<Ab ra rows∧0≤c.Col∧c.Col<Ab ca cols) :
  Dh l n (BF ra rows) (BF ca cols) (BF ra rows).length=Ci (l.filterMap (Ct ra ca)) n:=by
 obtain ⟨p1,p2⟩:=TD n _ (Q7 hr hc hl fun c h=>(hin c h).1) hn
 obtain ⟨_,_,lr⟩:=Ky hr
 obtain ⟨_,_,lc⟩:=Ky hc
 refine Qy (Vy ..) p1 fun x=>?_
 rw [Yz,p2]
 constructor
 ·rintro ⟨r,c,h1,h2,rfl,h3⟩
  have hat:=LJ l n (BF ra rows) (BF ca cols) r c
  by_cases hex : ∃ y∈n,y.Row=(r:Int)∧y.Col=(c:Int)
  ·obtain ⟨y,hy,hA⟩:=hex
   have:XC l n (BF ra rows) (BF ca cols) r c=y:=Sy r c n _ y hn hy hA
   rw [this] at h3 ⊢
   exact .inl ⟨hy,h3⟩
  ·have hno : ∀ y∈n,¬ (y.Row=(r:Int)∧y.Col=(c:Int)):=fun y hy hA=>hex ⟨y,hy,hA⟩
   have hX:XC l n (BF ra rows) (BF ca cols) r c=Fp l (BF ra rows)[r]! (BF ca cols)[c]! r c:=OS r c n _ hno
   right
   refine ⟨?_,fun y hy hA=>hno y hy ⟨by rw [← hA.1]; exact hat.1,by rw [← hA.2]; exact hat.2⟩⟩
   rw [hX] at h3 ⊢
   unfold Fp at h3 ⊢
   by_cases h0:0≤(BF ra rows)[r]! ∧ 0≤(BF ca cols)[c]!
   ·rw [if_pos h0] at h3 ⊢
    rcases Hx (l:=l) (row:=(BF ra rows)[r]!) (col:=(BF ca cols)[c]!) with e | ⟨e1,e2,e3⟩
    ·rw [e] at h3
     exact absurd h3 (by simp [BY])
    ·obtain ⟨g1,g2⟩:=TK hr h1 h0.1
     obtain ⟨g3,g4⟩:=TK hc h2 h0.2
     refine List.mem_filterMap.2 ⟨_,e1,?_⟩
     unfold Ct
     rw [e2,e3,g2,g4,if_neg (by omega)]
   ·rw [if_neg h0] at h3
    exact absurd h3 (by simp [BY])
 ·rintro (⟨h1,h2⟩ | ⟨h1,h2⟩)
  ·obtain ⟨a1,a2,a3,a4⟩:=hnin x h1
   refine ⟨x.Row.toNat,x.Col.toNat,by omega,by omega,?_,h2⟩
   exact (Sy _ _ n _ x hn h1 ⟨by omega,by omega⟩).symm
  ·obtain ⟨y,hy,hm⟩:=List.mem_filterMap.1 h1
   obtain ⟨⟨b1,b2,b3,b4⟩,b5⟩:=hin y hy
   unfold Ct at hm
   split at hm
   ·cases hm
   ·rename_i hge
    have q1:0≤A0 ra y.Row:=by omega
    have q2:0≤A0 ca y.Col:=by omega
    obtain ⟨r1,r2⟩:=SL hr b1 b2 q1
    obtain ⟨c1,c2⟩:=SL hc b3 b4 q2
    cases hm
    refine ⟨(A0 ra y.Row).toNat,(A0 ca y.Col).toNat,r1,c1,?_,b5⟩
    have hX:XC l n (BF ra rows) (BF ca cols) (A0 ra y.Row).toNat (A0 ca y.Col).toNat=Fp l (BF ra rows)[(A0 ra y.Row).toNat]! (BF ca cols)[(A0 ca y.Col).toNat]! (A0 ra y.Row).toNat (A0 ca y.Col).toNat:=by
     refine OS _ _ n _ fun z hz hA=>h2 z hz ⟨?_,?_⟩
     ·rw [hA.1]; dsimp only; omega
     ·rw [hA.2]; dsimp only; omega
    rw [hX,r2,c2]
    unfold Fp
    rw [if_pos ⟨b1,b3⟩,KQ hl hy]
    congr 1
    ·omega
    ·omega
end Go.Proofs.YtojmbndlghbpjaaGreatDoor.Al

set_option linter.unusedVariables false
set_option linter.unusedSimpArgs false
namespace Go.Proofs.YtojmbndlghbpjaaGreatDoor.Al
open Go
def Gb (ms M:List AD):List AD:=ms.foldl (fun M r=>B7 r M++[r]) M
def F3 (M:List AD) (R C:Int):List AD:=(List.range R.toNat).flatMap fun (r:Nat)=>(List.range C.toNat).flatMap fun (c:Nat)=>M.filter fun q=>decide (q.Row=(r:Int)) && decide (q.Col=(c:Int))
theorem Sk (a b:AD):BV a b=true↔(a.Row<b.Row+b.H∧b.Row<a.Row+a.H∧a.Col<b.Col+b.W∧b.Col<a.Col+a.W):=by
 unfold BV; rw [decide_eq_true_eq]
theorem KU (a b:AD):BV a b=false ↔ ¬ (a.Row<b.Row+b.H∧b.Row<a.Row+a.H∧a.Col<b.Col+b.W∧b.Col<a.Col+a.W):=by
 unfold BV; rw [decide_eq_false_iff_not]
theorem QN (a b:AD):BV a b=BV b a:=by
 rw [Bool.eq_iff_iff,Sk,Sk]; omega
theorem Uy {ra ca:List AG} {rows cols:Int} (hr:BR ra rows) (hc:BR ca cols) {r:AD} (h:As rows cols r) (hk:CL (BO ra ca r)):As (Ab ra rows) (Ab ca cols) (BO ra ca r):=by
 unfold As at h
 have k1:=JF hr (fr:=r.Row) (tq:=r.Row+r.H) (by omega) (by omega) (by omega)
 have k2:=JF hc (fr:=r.Col) (tq:=r.Col+r.W) (by omega) (by omega) (by omega)
 unfold CL BO at hk
 unfold As BO
 dsimp only at hk ⊢
 omega
theorem ab {ra ca:List AG} {rows cols:Int} (hr:BR ra rows) (hc:BR ca cols) {a b:AD} (ha:As rows cols a) (hb:As rows cols b) (h:BV a b=false) (ka:CL (BO ra ca a)) (kb:CL (BO ra ca b)):BV (BO ra ca a) (BO ra ca b)=false:=by
 rw [KU] at h ⊢
 unfold As at ha hb
 unfold CL BO at ka kb
 unfold BO
 dsimp only at ka kb ⊢
 by_cases g1:a.Row+a.H≤b.Row
 ·have:=Mj hr (f1:=a.Row) (t1:=a.Row+a.H) (f2:=b.Row) (t2:=b.Row+b.H) (by omega) (by omega) g1 (by omega) (by omega) (by omega) (by omega)
  omega
 by_cases g2:b.Row+b.H≤a.Row
 ·have:=Mj hr (f1:=b.Row) (t1:=b.Row+b.H) (f2:=a.Row) (t2:=a.Row+a.H) (by omega) (by omega) g2 (by omega) (by omega) (by omega) (by omega)
  omega
 by_cases g3:a.Col+a.W≤b.Col
 ·have:=Mj hc (f1:=a.Col) (t1:=a.Col+a.W) (f2:=b.Col) (t2:=b.Col+b.W) (by omega) (by omega) g3 (by omega) (by omega) (by omega) (by omega)
  omega
 by_cases g4:b.Col+b.W≤a.Col
 ·have:=Mj hc (f1:=b.Col) (t1:=b.Col+b.W) (f2:=a.Col) (t2:=a.Col+a.W) (by omega) (by omega) g4 (by omega) (by omega) (by omega) (by omega)
  omega
 exact absurd ⟨by omega,by omega,by omega,by omega⟩ h
def Cn (R C:Int) (M:List AD):Prop:=(∀ q∈M,As R C q)∧M.Pairwise fun a b=>BV a b=false
theorem M0 {ra ca:List AG} {rows cols:Int} (hr:BR ra rows) (hc:BR ca cols) (sp:List AD) {M:List AD} (h:Cn rows cols M):Cn (Ab ra rows) (Ab ca cols) (M.filterMap (mR ra ca sp)):=by
 have key : ∀ a b,mR ra ca sp a=some b→b=BO ra ca a∧CL (BO ra ca a):=fun a b hb=>by
  unfold mR at hb
  split at hb
  ·rename_i hk; cases hb; exact ⟨rfl,hk.1⟩
  ·cases hb
 refine ⟨fun q hq=>?_,?_⟩
 ·obtain ⟨a,ha,hm⟩:=List.mem_filterMap.1 hq
  obtain ⟨rfl,hk⟩:=key a q hm
  exact Uy hr hc (h.1 a ha) hk
 ·rw [List.pairwise_filterMap]
  refine List.Pairwise.imp_of_mem (fun {a b} ha hb hab x hx y hy=>?_) h.2
  obtain ⟨rfl,ka⟩:=key a x hx
  obtain ⟨rfl,kb⟩:=key b y hy
  exact ab hr hc (h.1 a ha) (h.1 b hb) hab ka kb
theorem Ou {R C:Int} {M:List AD} (h:Cn R C M) {r:AD} (hr:As R C r):Cn R C (B7 r M++[r]):=by
 refine ⟨fun q hq=>?_,?_⟩
 ·rcases List.mem_append.1 hq with g | g
  ·exact h.1 q (List.mem_filter.1 g).1
  ·have:q=r:=by simpa using g
   rw [this]; exact hr
 ·rw [List.pairwise_append]
  refine ⟨h.2.filter _,by simp,fun a ha b hb=>?_⟩
  have:b=r:=by simpa using hb
  rw [this]
  have:=(List.mem_filter.1 ha).2
  simpa using this
theorem PM {R C:Int} : ∀ (ms M:List AD),Cn R C M→(∀ r∈ms,As R C r)→Cn R C (Gb ms M):=by
 intro ms
 induction ms with
 | nil=>intro M h _; exact h
 | cons r t ih=>intro M h hm; exact ih _ (Ou h (hm r (List.mem_cons_self ..))) fun x hx=>hm x (List.mem_cons_of_mem _ hx)
theorem PW (r:AD) (M:List AD):(B7 r M).length≤M.length:=List.length_filter_le ..
theorem Ny : ∀ (ms M:List AD),(Gb ms M).length≤M.length+ms.length:=by
 intro ms
 induction ms with
 | nil=>intro M; exact Nat.le_refl _
 | cons r t ih=>
  intro M
  have:=ih (B7 r M++[r])
  have h2:=PW r M
  rw [List.length_append,List.length_singleton] at this
  show (Gb t (B7 r M++[r])).length≤_
  rw [List.length_cons]; omega
theorem aX {e:AK} {R C:Int} (hRC:B2 R C) (hm : ∀ r∈e.Merge,As R C r) (hl:e.Merge.length≤1048576) (a b:Int) (cs:List AC) (M:List AD) (hM:Cn R C M) (hMl:M.length≤1048576) :
  iter (fun (x:Int × AJ)=>Ey e x.1 x.2) (0,(AJ.mk a b cs M))=some ⟨a,b,cs,Gb e.Merge M⟩:=by
 exact CY (f:=fun (x:Int × AJ)=>Ey e x.1 x.2) e.Merge (fun (c:List AD) i=>((i:Int),(⟨a,b,cs,c⟩:AJ))) (fun l c=>(⟨a,b,cs,Gb l c⟩:AJ)) (fun i c=>c.length≤1048576+i∧Cn R C c)
  (fun i c hi2 hI=>by
   left
   obtain ⟨h1,h2⟩:=hI
   have hin:=hm _ (Bx hi2)
   have hk:=PW e.Merge[i]! c
   show ∃ c',Ey e (i:Int) ⟨a,b,cs,c⟩=_∧_
   unfold Ey
   rw [if_pos (by simpa using hi2),Af hi2,AE,Xj c _ (by omega) (fun q hq=>by unfold GW; rw [Tf hRC (h2.1 q hq) hin,AE]),AE,FU (by omega),AE,An (by omega),AE]
   exact ⟨_,rfl,⟨by rw [List.length_append,List.length_singleton]; omega,Ou h2 hin⟩,rfl⟩)
  (fun c _=>by
   show Ey e (e.Merge.length:Int) ⟨a,b,cs,c⟩=_
   unfold Ey
   rw [if_neg (by simp)]
   rfl) M ⟨by omega,hM⟩ (0,⟨a,b,cs,M⟩) rfl
theorem Q4 {R C:Int} {M:List AD} (h:Cn R C M):M.Nodup:=by
 refine List.Pairwise.imp_of_mem (fun {a b} ha hb hab e=>?_) h.2
 have h1:=h.1 a ha
 rw [← e,KU] at hab
 unfold As at h1
 exact hab ⟨by omega,by omega,by omega,by omega⟩
theorem Ok {R C:Int} {M:List AD} (h:Cn R C M) (x:AD):x∈F3 M R C↔x∈M:=by
 unfold F3
 simp only [List.mem_flatMap,List.mem_range,List.mem_filter,Bool.and_eq_true,decide_eq_true_eq]
 constructor
 ·rintro ⟨r,_,c,_,hx,_⟩; exact hx
 ·intro hx
  have h1:=h.1 x hx
  unfold As at h1
  exact ⟨x.Row.toNat,by omega,x.Col.toNat,by omega,hx,by omega,by omega⟩
theorem OB {R C:Int} {M:List AD} (h:Cn R C M):(F3 M R C).Pairwise FI:=by
 unfold F3
 rw [List.pairwise_flatMap]
 refine ⟨fun r _=>?_,List.pairwise_lt_range.imp fun {a b} hab x hx y hy=>?_⟩
 ·rw [List.pairwise_flatMap]
  refine ⟨fun c _=>?_,List.pairwise_lt_range.imp fun {a b} hab x hx y hy=>?_⟩
  ·refine List.Pairwise.imp_of_mem (fun {a b} ha hb hab=>?_) (h.2.filter _)
   simp only [List.mem_filter,Bool.and_eq_true,decide_eq_true_eq] at ha hb
   have h1:=h.1 a ha.1
   have h2:=h.1 b hb.1
   rw [KU] at hab
   unfold As at h1 h2
   exact absurd ⟨by omega,by omega,by omega,by omega⟩ hab
  ·simp only [List.mem_filter,Bool.and_eq_true,decide_eq_true_eq] at hx hy
   right; omega
 ·simp only [List.mem_flatMap,List.mem_filter,Bool.and_eq_true,decide_eq_true_eq] at hx hy
  obtain ⟨c,_,_,h1,_⟩:=hx
  obtain ⟨c',_,_,h2,_⟩:=hy
  left; omega
theorem Yj {R C:Int} {M:List AD} (h:Cn R C M) (hl:M.length≤4194304):E5 G5 M=some (F3 M R C):=by
 refine Qj hl ?_ (OB h)
 refine (List.perm_ext_iff_of_nodup ((OB h).imp fun {a b} hab e=>?_) (Q4 h)).2 (Ok h)
 subst e; unfold FI at hab; omega
structure GB (g:AJ) (e:AK):Prop where
 ar:BR e.Rows g.Rows
 ac:BR e.Cols g.Cols
 gl:g.Cells.length≤1048576
 gml:g.Merges.length≤1048576
 el:e.Cells.length≤1048576
 sl:e.Split.length≤1048576
 ml:e.Merge.length≤1048576
 gc:SC g.Cells
 ec:SC e.Cells
 gi : ∀ c∈g.Cells,(0≤c.Row∧c.Row<g.Rows∧0≤c.Col∧c.Col<g.Cols)∧BY c=false
 go : ∀ c∈g.Cells,CQ c
 ei : ∀ c∈e.Cells,0≤c.Row∧c.Row<Ab e.Rows g.Rows∧0≤c.Col∧c.Col<Ab e.Cols g.Cols
 eo : ∀ c∈e.Cells,CQ c
 gm:Cn g.Rows g.Cols g.Merges
 em : ∀ r∈e.Merge,As (Ab e.Rows g.Rows) (Ab e.Cols g.Cols) r
theorem GB.rc {g:AJ} {e:AK} (h:GB g e):B2 (Ab e.Rows g.Rows) (Ab e.Cols g.Cols):=by
 have h1:=FV h.ar
 have h2:=FV h.ac
 exact ⟨h1.1,h1.2,h2.1,h2.2⟩
noncomputable def H7 (g:AJ) (e:AK):List AD:=Gb e.Merge (g.Merges.filterMap (mR e.Rows e.Cols e.Split))
noncomputable def DD (g:AJ) (e:AK):AJ:=⟨Ab e.Rows g.Rows,Ab e.Cols g.Cols,Ci (g.Cells.filterMap (Ct e.Rows e.Cols)) e.Cells,F3 (H7 g e) (Ab e.Rows g.Rows) (Ab e.Cols g.Cols)⟩
theorem QF {g:AJ} {e:AK} (h:GB g e):FS g e=some (DD g e):=by
 have hf:(g.Cells.filterMap (Ct e.Rows e.Cols)).length≤1048576:=Nat.le_trans (List.length_filterMap_le ..) h.gl
 have hml:(g.Merges.filterMap (mR e.Rows e.Cols e.Split)).length≤1048576:=Nat.le_trans (List.length_filterMap_le ..) h.gml
 have hg0:=M0 h.ar h.ac e.Split h.gm
 have hg1:=PM e.Merge _ hg0 h.em
 have hfl:=Ny e.Merge (g.Merges.filterMap (mR e.Rows e.Cols e.Split))
 have:=h.ml
 unfold FS
 rw [size_eq h.ar.er,BD,size_eq h.ac.er,BD,XS h.ar h.ac _ h.gl (fun c hc=>⟨h.go c hc,(h.gi c hc).1⟩),AE,bf _ _ hf h.el h.eo,AE,
  Z9 h.ar h.ac h.gm.1 h.gml h.sl,AE,aX h.rc h.em h.ml _ _ _ _ hg0 hml,AE]
 dsimp only
 rw [Yj hg1 (by omega),AE]
 rfl
end Go.Proofs.YtojmbndlghbpjaaGreatDoor.Al

set_option linter.unusedVariables false
set_option linter.unusedSimpArgs false
namespace Go.Proofs.YtojmbndlghbpjaaGreatDoor.Al
open Go
def DX (a:List AG) (n:Int):Prop:=if a=[] then n≤30 else A8 a≤120
theorem PX {a:List AG} {n:Int} (h:BR a n) (hs:DX a n):(CV a n).length≤120:=by
 unfold DX at hs
 unfold CV
 by_cases d:a=[]
 ·rw [if_pos d] at hs ⊢; rw [List.length_replicate]; omega
 ·rw [if_neg d] at hs ⊢
  have:=Oy (CX h.er).stp
  omega
theorem Sr {a:List AG} {n:Int} (h:BR a n) (hs:DX a n):Ip a n=some (CV a n):=by
 have hn:=h.n0
 unfold DX at hs
 unfold Ip CV
 rw [So]
 by_cases d:a=[]
 ·rw [if_pos d] at hs
  rw [if_pos (by simp [d]),if_pos d]
  by_cases h0:n=0
  ·subst h0
   have e1:iter (fun (a:Int × (List Int))=>Fa ⟨0,0⟩ a.1 a.2) ((0:Int),[])=some []:=by
    refine BL ?_
    show Fa ⟨0,0⟩ 0 []=_
    unfold Fa; rw [if_neg (by decide)]
   have e2:HO [(⟨0,0⟩:AG)]=some []:=by
    unfold HO
    have s1:(fun (a:Int × (List Int))=>Ep [⟨0,0⟩] a.1 a.2) ((0:Int),[])=some (.inl (1,[])):=by
     show Ep [⟨0,0⟩] 0 []=_
     unfold Ep
     rw [if_pos (by decide),show AO [(⟨0,0⟩:AG)] 0=some ⟨0,0⟩ from rfl,AE,e1]
     rfl
    have s2:(fun (a:Int × (List Int))=>Ep [⟨0,0⟩] a.1 a.2) ((1:Int),[])=some (.inr []):=by
     show Ep [⟨0,0⟩] 1 []=_
     unfold Ep
     rw [if_neg (by decide)]
    rw [CT s1,BL s2]; rfl
   rw [e2,AE]; rfl
  ·rw [TF [⟨0,n⟩] (fun s hs=>by
    have:s=⟨0,n⟩:=by simpa using hs
    subst this; unfold A1; dsimp only; omega) (by simp [A8]; omega),AE,Px]
 ·rw [if_neg d] at hs
  rw [if_neg (by simp [d]),if_neg d,TF a (CX h.er).stp (by omega),AE]
theorem PR.congr2 {W V:Int→Int} {lo hi:Int} {c:Int × Int} (h:PR W lo hi c) (e : ∀ r,lo≤r→r<hi→W r=V r):PR V lo hi c:=by
 rcases h with ⟨rfl,a⟩ | ⟨r0,r1,a1,a2,a3,a4,a5,a6,rfl⟩
 ·exact .inl ⟨rfl,fun r h1 h2=>by rw [← e r h1 h2]; exact a r h1 h2⟩
 ·rw [e r0 a1 (by omega),e r1 (by omega) a3]
  exact .inr ⟨r0,r1,a1,a2,a3,by rw [← e r0 a1 (by omega)]; exact a4,by rw [← e r1 (by omega) a3]; exact a5,fun r h1 h2 h3=>a6 r h1 h2 (by rw [e r h1 h2]; exact h3),rfl⟩
theorem Mm {ra ca:List AG} {r:AD} : CL (BO ra ca r)↔((A2 ra r.Row (r.Row+r.H)).1<(A2 ra r.Row (r.Row+r.H)).2∧(A2 ca r.Col (r.Col+r.W)).1<(A2 ca r.Col (r.Col+r.W)).2∧2<(A2 ra r.Row (r.Row+r.H)).2-(A2 ra r.Row (r.Row+r.H)).1+(A2 ca r.Col (r.Col+r.W)).2-(A2 ca r.Col (r.Col+r.W)).1):=by
 unfold CL BO
 dsimp only
 constructor <;> intro h <;> omega
theorem Q3 {a:List AG} {n fr tq:Int} (h:BR a n) (hs:DX a n) (h0:0≤fr) (h1:fr<tq) (h2:tq≤n):IJ (CV a n) fr tq=some ((A2 a fr tq).1,(A2 a fr tq).2):=by
 have hl:=PX h hs
 have hn:=h.nm
 obtain ⟨c,hc,hP⟩:=YT (CV a n) fr tq (by omega) h0 (by omega) (by omega)
 have h3:=hP.congr2 (V:=A0 a) (fun r hr hr2=>Od h (by omega) (by omega))
 rw [hc,h3.uniq (MK h h0 h1 h2)]
theorem bE {ra ca:List AG} {rows cols:Int} (hr:BR ra rows) (hc:BR ca cols) (sr:DX ra rows) (sc:DX ca cols) {r:AD} (h:As rows cols r) :
  Kw r (CV ra rows) (CV ca cols)=some (if CL (BO ra ca r) then BO ra ca r else ⟨0,0,0,0⟩):=by
 have hb1:=hr.nm
 have hb2:=hc.nm
 unfold As at h
 have k1:=JF hr (fr:=r.Row) (tq:=r.Row+r.H) (by omega) (by omega) (by omega)
 have k2:=JF hc (fr:=r.Col) (tq:=r.Col+r.W) (by omega) (by omega) (by omega)
 have n1:=FV hr
 have n2:=FV hc
 unfold Kw
 rw [Bf (by omega) (by omega),AE,Q3 hr sr (by omega) (by omega) (by omega),BD,Bf (by omega) (by omega),AE,Q3 hc sc (by omega) (by omega) (by omega),BD]
 by_cases h0:(A2 ra r.Row (r.Row+r.H)).1<(A2 ra r.Row (r.Row+r.H)).2∧(A2 ca r.Col (r.Col+r.W)).1<(A2 ca r.Col (r.Col+r.W)).2
 ·rw [show ((decide ((A2 ra r.Row (r.Row+r.H)).1<(A2 ra r.Row (r.Row+r.H)).2)) && (decide ((A2 ca r.Col (r.Col+r.W)).1<(A2 ca r.Col (r.Col+r.W)).2)))=true by simp [h0]]
  simp only [show (true == true)=true from rfl,Ap,Bool.true_and]
  rw [Bf (by omega) (by omega),AE,Bf (by omega) (by omega),AE,Bf (by omega) (by omega),AE]
  by_cases h5:2<(A2 ra r.Row (r.Row+r.H)).2-(A2 ra r.Row (r.Row+r.H)).1+(A2 ca r.Col (r.Col+r.W)).2-(A2 ca r.Col (r.Col+r.W)).1
  ·rw [if_pos (by simpa using h5),AE,Bf (by omega) (by omega),AE,AE,if_pos (Mm.2 ⟨h0.1,h0.2,h5⟩)]
   rfl
  ·rw [if_neg (by simpa using h5),AE,if_neg (fun h=>h5 (Mm.1 h).2.2)]
 ·rw [show ((decide ((A2 ra r.Row (r.Row+r.H)).1<(A2 ra r.Row (r.Row+r.H)).2)) && (decide ((A2 ca r.Col (r.Col+r.W)).1<(A2 ca r.Col (r.Col+r.W)).2)))=false by
   rw [Bool.and_eq_false_iff,decide_eq_false_iff_not,decide_eq_false_iff_not]; omega]
  simp only [show (false == true)=false from rfl,EH,AE,Bool.false_and,Bool.false_eq_true,if_false]
  rw [if_neg (fun h=>h0 ⟨(Mm.1 h).1,(Mm.1 h).2.1⟩)]
theorem Vt (e:AK) (q:AD) (k0:Bool) (hs:e.Split.length≤1048576):iter (fun (a:Bool × Int)=>Gk e q a.1 a.2) (k0,0)=some (k0 && !decide (q∈e.Split)):=by
 exact CY (f:=fun (a:Bool × Int)=>Gk e q a.1 a.2) e.Split (fun (c:Bool) i=>(c,(i:Int))) (fun l c=>c && !decide (q∈l)) (fun _ _=>True)
  (fun i c hi _=>by
   left
   show ∃ c',Gk e q c (i:Int)=_∧_
   unfold Gk
   rw [if_pos (by simpa using hi),Af hi,An (by omega)]
   cases c with
   | false=>
    simp only [show (false == true)=false from rfl,EH,AE,Bool.false_and]
    exact ⟨false,rfl,trivial,rfl⟩
   | true=>
    rw [show (true == true)=true from rfl,Ap,AE,AE,MI]
    refine ⟨_,rfl,trivial,?_⟩
    rw [Bool.true_and,Bool.true_and]
    have:decide (q∈e.Split[i]! :: e.Split.drop (i+1))=(decide (e.Split[i]! = q) || decide (q∈e.Split.drop (i+1))):=by
     rw [Bool.eq_iff_iff]; simp only [decide_eq_true_eq,List.mem_cons,Bool.or_eq_true]
     constructor
     ·rintro (h | h)
      ·exact .inl h.symm
      ·exact .inr h
     ·rintro (h | h)
      ·exact .inl h.symm
      ·exact .inr h
    rw [this]
    cases decide (e.Split[i]! = q) <;> simp)
  (fun c _=>by
   show Gk e q c (e.Split.length:Int)=_
   unfold Gk
   rw [if_neg (by simp)]
   simp) k0 trivial (k0,0) rfl
theorem bk {g:AJ} {e:AK} (h:GB g e) (sr:DX e.Rows g.Rows) (sc:DX e.Cols g.Cols) :
  iter (fun (a:Int × (List AD))=>GF g e (CV e.Rows g.Rows) (CV e.Cols g.Cols) a.1 a.2) (0,[])=some (g.Merges.filterMap (mR e.Rows e.Cols e.Split)):=by
 have hm:=h.gml
 have:=CY (f:=fun (a:Int × (List AD))=>GF g e (CV e.Rows g.Rows) (CV e.Cols g.Cols) a.1 a.2) g.Merges (fun (c:List AD) i=>((i:Int),c)) (fun l c=>c++l.filterMap (mR e.Rows e.Cols e.Split)) (fun i c=>c.length≤i)
  (fun i c hi2 hI=>by
   left
   show ∃ c',GF g e (CV e.Rows g.Rows) (CV e.Cols g.Cols) (i:Int) c=_∧_
   have hin:=h.gm.1 _ (Bx hi2)
   unfold GF
   rw [if_pos (by simpa using hi2),Af hi2,AE,bE h.ar h.ac sr sc hin,AE,Vt _ _ _ h.sl,AE,An (by omega)]
   generalize g.Merges[i]! = x at hin ⊢
   by_cases h1:CL (BO e.Rows e.Cols x)
   ·rw [if_pos h1,decide_eq_true (show 0<(BO e.Rows e.Cols x).H from h1.1),Bool.true_and]
    by_cases h2:BO e.Rows e.Cols x∈e.Split
    ·rw [decide_eq_true h2,if_neg (by decide)]
     refine ⟨c,rfl,by omega,?_⟩
     have:mR e.Rows e.Cols e.Split x=none:=by unfold mR; rw [if_neg (fun h=>h.2 h2)]
     rw [List.filterMap_cons,this]
    ·rw [decide_eq_false h2,if_pos (by decide),FU (by omega)]
     refine ⟨_,rfl,by rw [List.length_append,List.length_singleton]; omega,?_⟩
     have:mR e.Rows e.Cols e.Split x=some (BO e.Rows e.Cols x):=by unfold mR; rw [if_pos ⟨h1,h2⟩]
     rw [List.filterMap_cons,this,List.append_assoc]; rfl
   ·rw [if_neg h1,show (decide (0<(⟨0,0,0,0⟩:AD).H))=false from rfl,Bool.false_and,if_neg (by decide)]
    refine ⟨c,rfl,by omega,?_⟩
    have:mR e.Rows e.Cols e.Split x=none:=by unfold mR; rw [if_neg (fun h=>h1 h.1)]
    rw [List.filterMap_cons,this])
  (fun c _=>by
   show GF g e (CV e.Rows g.Rows) (CV e.Cols g.Cols) (g.Merges.length:Int) c=_
   unfold GF
   rw [if_neg (by simp)]
   simp) [] (by simp) ((0:Int),[]) rfl
 rw [List.nil_append] at this
 exact this
theorem Xt {e:AK} {R C:Int} (hRC:B2 R C) (k:Nat) (hk:k<e.Merge.length) (hin:As R C e.Merge[k]!) (M:List AD) (hM:Cn R C M) (hl:M.length≤4194304) :
  iter (fun (a:Int × (List AD))=>F8 e (k:Int) M a.1 a.2) (0,[])=some (B7 e.Merge[k]! M):=by
 have:=CY (f:=fun (a:Int × (List AD))=>F8 e (k:Int) M a.1 a.2) M (fun (c:List AD) i=>((i:Int),c)) (fun l c=>c++B7 e.Merge[k]! l) (fun i c=>c.length≤i)
  (fun i c hi2 hI=>by
   left
   show ∃ c',F8 e (k:Int) M (i:Int) c=_∧_
   unfold F8
   rw [if_pos (by simpa using hi2),Af hi2,AE,Af hk,AE,Rc hRC (hM.1 _ (Bx hi2)) hin,AE,QN,An (by omega)]
   cases hx:BV M[i]! e.Merge[k]! with
   | true=>
    rw [if_neg (by decide)]
    refine ⟨c,rfl,by omega,?_⟩
    unfold B7; rw [List.filter_cons,hx]; rfl
   | false=>
    rw [if_pos (by decide),FU (by omega)]
    refine ⟨_,rfl,by rw [List.length_append,List.length_singleton]; omega,?_⟩
    unfold B7; rw [List.filter_cons,hx,List.append_assoc]; rfl)
  (fun c _=>by
   show F8 e (k:Int) M (M.length:Int) c=_
   unfold F8
   rw [if_neg (by simp)]
   simp [B7]) [] (by simp) ((0:Int),[]) rfl
 rw [List.nil_append] at this
 exact this
theorem UW {e:AK} {R C:Int} (hRC:B2 R C) (hm : ∀ r∈e.Merge,As R C r) (hl:e.Merge.length≤1048576) (M:List AD) (hM:Cn R C M) (hMl:M.length≤1048576) :
  iter (fun (a:Int × (List AD))=>GM e a.1 a.2) (0,M)=some (Gb e.Merge M):=by
 exact CY (f:=fun (a:Int × (List AD))=>GM e a.1 a.2) e.Merge (fun (c:List AD) i=>((i:Int),c)) (fun l c=>Gb l c) (fun i c=>c.length≤1048576+i∧Cn R C c)
  (fun i c hi2 hI=>by
   left
   obtain ⟨h1,h2⟩:=hI
   have hin:=hm _ (Bx hi2)
   have hk:=PW e.Merge[i]! c
   show ∃ c',GM e (i:Int) c=_∧_
   unfold GM
   rw [if_pos (by simpa using hi2),Xt hRC i hi2 hin c h2 (by omega),AE,Af hi2,AE,FU (by omega),AE,An (by omega),AE]
   exact ⟨_,rfl,⟨by rw [List.length_append,List.length_singleton]; omega,Ou h2 hin⟩,rfl⟩)
  (fun c _=>by
   show GM e (e.Merge.length:Int) c=_
   unfold GM
   rw [if_neg (by simp)]
   rfl) M ⟨by omega,hM⟩ (0,M) rfl
end Go.Proofs.YtojmbndlghbpjaaGreatDoor.Al

set_option linter.unusedVariables false
set_option linter.unusedSimpArgs false
namespace Go.Proofs.YtojmbndlghbpjaaGreatDoor.Al
open Go
def H2 (r c:Nat) (q:AD):Bool:=decide (q.Row=(r:Int)) && decide (q.Col=(c:Int))
def Ec (M:List AD) (r m:Nat):List AD:=(List.range m).flatMap fun (c:Nat)=>M.filter (H2 r c)
def HD (M:List AD) (m n:Nat):List AD:=(List.range m).flatMap fun (r:Nat)=>Ec M r n
theorem RD (M:List AD) (r m:Nat):Ec M r (m+1)=Ec M r m++M.filter (H2 r m):=by
 unfold Ec; rw [List.range_succ,List.flatMap_append]; simp
theorem Th (M:List AD) (m n:Nat):HD M (m+1) n=HD M m n++Ec M m n:=by
 unfold HD; rw [List.range_succ,List.flatMap_append]; simp
theorem QP (M:List AD) (r m:Nat):(Ec M r m).length≤m * M.length:=by
 induction m with
 | zero=>simp [Ec]
 | succ m ih=>
  rw [RD,List.length_append,Nat.succ_mul]
  have:(M.filter (H2 r m)).length≤M.length:=List.length_filter_le ..
  omega
theorem V4 (M:List AD) (m n:Nat):(HD M m n).length≤m * (n * M.length):=by
 induction m with
 | zero=>simp [HD]
 | succ m ih=>rw [Th,List.length_append,Nat.succ_mul]; have:=QP M m n; omega
theorem Vh (M:List AD) (hM:M.length≤4194304) (r c:Nat) (a b:Int) (cs:List AC) (o:List AD) (ho:o.length≤1000000000000) :
  iter (fun (x:Int × AJ)=>GP M (r:Int) (c:Int) x.1 x.2) (0,(⟨a,b,cs,o⟩:AJ))=some ⟨a,b,cs,o++M.filter (H2 r c)⟩:=by
 exact CY (f:=fun (x:Int × AJ)=>GP M (r:Int) (c:Int) x.1 x.2) M (fun (c:List AD) i=>((i:Int),(⟨a,b,cs,c⟩:AJ))) (fun l o=>(⟨a,b,cs,o++l.filter (H2 r c)⟩:AJ)) (fun i o=>o.length≤1000000000000+i)
  (fun i o hi hI=>by
   left
   show ∃ c',GP M (r:Int) (c:Int) (i:Int) ⟨a,b,cs,o⟩=_∧_
   unfold GP
   have hpl:(decide (M[i]!.Row=(r:Int)) && decide (M[i]!.Col=(c:Int)))=H2 r c M[i]!:=rfl
   rw [if_pos (by simpa using hi),Af hi,AE,An (by omega),hpl]
   cases hx:H2 r c M[i]! with
   | true=>
    rw [if_pos rfl]
    dsimp only
    rw [FU (by omega)]
    refine ⟨_,rfl,by rw [List.length_append,List.length_singleton]; omega,?_⟩
    rw [List.filter_cons,hx,List.append_assoc]; rfl
   | false=>
    rw [if_neg (by decide)]
    refine ⟨o,rfl,by omega,?_⟩
    rw [List.filter_cons,hx]; rfl)
  (fun o _=>by
   show GP M (r:Int) (c:Int) (M.length:Int) ⟨a,b,cs,o⟩=_
   unfold GP
   rw [if_neg (by simp)]
   simp) o (by omega) ((0:Int),⟨a,b,cs,o⟩) rfl
theorem Yx (M:List AD) (hM:M.length≤4194304) (r:Nat) (a b:Int) (hb0:0≤b) (hb1:b≤200) (cs:List AC) (o:List AD) (ho:o.length≤500000000000) :
  iter (fun (x:Int × AJ)=>Ht M (r:Int) ⟨a,b,cs,o⟩ x.1 x.2) (0,(⟨a,b,cs,o⟩:AJ))=some ⟨a,b,cs,o++Ec M r b.toNat⟩:=by
 obtain ⟨q,hq,hQ⟩:=DY (f:=fun (x:Int × AJ)=>Ht M (r:Int) ⟨a,b,cs,o⟩ x.1 x.2) b.toNat
  (fun k st=>st=((k:Int),(⟨a,b,cs,o++Ec M r k⟩:AJ))) (fun q=>q=(⟨a,b,cs,o++Ec M r b.toNat⟩:AJ))
  (fun k st hk hst=>by
   subst hst
   left
   have h1:=QP M r k
   have h2:k * M.length≤200 * 4194304:=Nat.mul_le_mul (by omega) hM
   unfold Ht
   dsimp only
   rw [if_pos (by simp; omega),Vh M hM r k a b cs (o++Ec M r k) (by rw [List.length_append]; omega),AE,An (by omega),AE]
   exact ⟨_,rfl,by rw [RD,List.append_assoc]⟩)
  (fun st hst=>by
   subst hst
   unfold Ht
   dsimp only
   rw [if_neg (by simp; omega)]
   exact ⟨_,rfl,rfl⟩)
  (s:=((0:Int),(⟨a,b,cs,o⟩:AJ))) (by simp [Ec])
 rw [hq,hQ]
theorem aw (M:List AD) (hM:M.length≤4194304) (a b:Int) (ha0:0≤a) (ha1:a≤200) (hb0:0≤b) (hb1:b≤200) (cs:List AC) (o4:AJ) (h4:o4.Rows=a) :
  iter (fun (x:Int × AJ)=>Hm o4 M x.1 x.2) (0,(⟨a,b,cs,[]⟩:AJ))=some ⟨a,b,cs,F3 M a b⟩:=by
 obtain ⟨q,hq,hQ⟩:=DY (f:=fun (x:Int × AJ)=>Hm o4 M x.1 x.2) a.toNat
  (fun k st=>st=((k:Int),(⟨a,b,cs,HD M k b.toNat⟩:AJ))) (fun q=>q=(⟨a,b,cs,HD M a.toNat b.toNat⟩:AJ))
  (fun k st hk hst=>by
   subst hst
   left
   have h1:=V4 M k b.toNat
   have h2:b.toNat * M.length≤200 * 4194304:=Nat.mul_le_mul (by omega) hM
   have h3:k * (b.toNat * M.length)≤200 * (200 * 4194304):=Nat.mul_le_mul (by omega) h2
   unfold Hm
   dsimp only
   rw [if_pos (by rw [h4]; simp; omega),Yx M hM k a b hb0 hb1 cs _ (by omega),AE,An (by omega),AE]
   exact ⟨_,rfl,by rw [Th]⟩)
  (fun st hst=>by
   subst hst
   unfold Hm
   dsimp only
   rw [if_neg (by rw [h4]; simp; omega)]
   exact ⟨_,rfl,rfl⟩)
  (s:=((0:Int),(⟨a,b,cs,[]⟩:AJ))) (by simp [HD])
 rw [hq,hQ]; rfl
theorem SQ {g:AJ} {e:AK} (h:GB g e) (sr:DX e.Rows g.Rows) (sc:DX e.Cols g.Cols):IT g e=some (DD g e):=by
 have ur:=PX h.ar sr
 have uc:=PX h.ac sc
 obtain ⟨_,_,lr⟩:=Ky h.ar
 obtain ⟨_,_,lc⟩:=Ky h.ac
 have rl:(BF e.Rows g.Rows).length≤120:=by have:=(NQ (CV e.Rows g.Rows) 0).1; unfold BF; omega
 have cl:(BF e.Cols g.Cols).length≤120:=by have:=(NQ (CV e.Cols g.Cols) 0).1; unfold BF; omega
 have hml:(g.Merges.filterMap (mR e.Rows e.Cols e.Split)).length≤1048576:=Nat.le_trans (List.length_filterMap_le ..) h.gml
 have hg0:=M0 h.ar h.ac e.Split h.gm
 have hfl:=Ny e.Merge (g.Merges.filterMap (mR e.Rows e.Cols e.Split))
 have hmm:=h.ml
 have n1:=FV h.ar
 have n2:=FV h.ac
 unfold IT
 rw [Sr h.ar sr,AE,Sr h.ac sc,AE,Oh _ (by omega),BD,Oh _ (by omega),BD]
 rw [show BQ (CV e.Rows g.Rows) 0=BF e.Rows g.Rows from rfl,show BQ (CV e.Cols g.Cols) 0=BF e.Cols g.Cols from rfl]
 rw [Ua g e (BF e.Rows g.Rows) (BF e.Cols g.Cols) h.gl h.el (by omega) (by omega),AE,bk h sr sc,AE,UW h.rc h.em h.ml _ hg0 hml,AE]
 dsimp only
 rw [lr,lc,aw (Gb e.Merge (g.Merges.filterMap (mR e.Rows e.Cols e.Split))) (by omega) (Ab e.Rows g.Rows) (Ab e.Cols g.Cols) n1.1 (by omega) n2.1 (by omega) (Dh g.Cells e.Cells (BF e.Rows g.Rows) (BF e.Cols g.Cols) (BF e.Rows g.Rows).length) _ rfl,AE,Xh h.ar h.ac h.gc h.ec h.gi h.ei]
 rfl
end Go.Proofs.YtojmbndlghbpjaaGreatDoor.Al

set_option linter.unusedVariables false
set_option linter.unusedSimpArgs false
namespace Go.Proofs.YtojmbndlghbpjaaGreatDoor.Al
open Go
theorem Jt {α ρ:Type} [Inhabited α] {f:Int→Option (Int ⊕ Ao Unit ρ)} (l:List α) (p:α→Bool) (v:ρ) (h1 : ∀ k:Nat,k<l.length→f (k:Int)=if p l[k]! = true then some (.inr (.ext v)) else some (.inl ((k+1:Nat):Int))) (h2:f (l.length:Int)=some (.inr (.nrm ()))) :
  iter f 0=some (if l.any p=true then .ext v else .nrm ()):=by
 obtain ⟨b,hb,hq⟩:=DY (f:=f) l.length (fun k st=>st=(k:Int)∧l.any p=(l.drop k).any p) (fun b=>b=if l.any p=true then .ext v else .nrm ())
  (fun k st hk hst=>by
   obtain ⟨rfl,h⟩:=hst
   rw [Hw hk,List.any_cons] at h
   rw [h1 k hk]
   cases hp:p l[k]! with
   | true=>
    rw [hp,Bool.true_or] at h
    right
    exact ⟨_,rfl,by rw [h]; rfl⟩
   | false=>
    rw [hp,Bool.false_or] at h
    left
    exact ⟨_,rfl,rfl,h⟩)
  (fun st hst=>by
   obtain ⟨rfl,h⟩:=hst
   rw [List.drop_of_length_le (Nat.le_refl _)] at h
   exact ⟨_,h2,by rw [h]; rfl⟩)
  (s:=0) ⟨rfl,by rw [List.drop_zero]⟩
 rw [hb,hq]
def JR (R C:Int) (c:AC):Bool:=decide (R≤c.Row) || decide (C≤c.Col)
def Dz (R C:Int) (r:AD):Bool:=!decide (As R C r)
def HP (a:List AG) (n:Int):Bool:=!(decide (a=[]) || decide (Ah a=n))
def HU (g:AJ) (e:AK):Int:=if HP e.Rows g.Rows || HP e.Cols g.Cols then 14 else
 if e.Cells.any (JR (Ab e.Rows g.Rows) (Ab e.Cols g.Cols)) || e.Split.any (Dz (Ab e.Rows g.Rows) (Ab e.Cols g.Cols)) || e.Merge.any (Dz (Ab e.Rows g.Rows) (Ab e.Cols g.Cols)) then 2 else 0
theorem NM {a:List AG} {n:Int} (h0:0≤n) (h1:n≤2147483647) (he:Av a=0):0≤Ab a n∧Ab a n≤2147483647:=by
 unfold Ab
 split
 ·omega
 ·have hg:=CX he
  have:=Hy hg.stp
  have:=hg.nows
  omega
theorem WA {a:List AG} (he:Av a=0):IX a=some (Ah a,Am a):=by
 have hg:=CX he
 unfold IX
 rw [CY (f:=fun (x:Int × Int × Int)=>JB a x.1 x.2.1 x.2.2) a (fun (c:Int × Int) k=>(c.1,c.2,(k:Int))) (fun l (c:Int × Int)=>(c.1+Ah l,c.2+Am l)) (fun k c=>FG a k c.1 c.2)
  (fun k c hk hI=>by
   left
   have hs:=IF hg.stp hk
   have hnx:=hI.nx hg hk
   have hgl:=hg.len
   unfold JB
   simp only
   rw [if_pos (by simpa using hk),Af hk,AE,An (by omega)]
   simp only [Da,Db]
   obtain ⟨o,w⟩:=c
   simp only at hnx ⊢
   generalize a[k]! = x at hs hnx ⊢
   obtain ⟨q1,q2,q3,q4,q5,q6,q7⟩:=hnx
   have h0:0≤BU x∧0≤BW x:=by unfold A1 at hs; unfold BU BW; split <;> split <;> omega
   unfold A1 at hs
   rw [Bf (by omega) (by omega),Bf (by omega) (by omega)]
   refine ⟨(o+BU x,w+BW x),?_,q7 _ _ (by omega) (by omega) (by omega) (by omega),?_⟩
   ·unfold BU BW
    by_cases d1:x.Kind=1
    ·simp [d1]
    ·by_cases d2:x.Kind=2 <;> simp [d1,d2]
   ·simp only; rw [Int.add_assoc,Int.add_assoc])
  (fun c hI=>by unfold JB; rw [if_neg (by simp)]; simp [Ah,Am]) (0,0) hg.run (0,0,0) rfl]
 simp
theorem RF {R C:Int} (hRC:B2 R C) (l:List AD) (hl:l.length≤1048576):iter (fun (a:Int)=>FR R C l a) 0=some (if l.any (Dz R C)=true then .ext (.inr (.ext (0,0,2))) else .nrm ()):=by
 refine Jt l (Dz R C) _ (fun k hk=>?_) ?_
 ·unfold FR
  rw [if_pos (by simpa using hk),Af hk,AE,ND _ _ _ hRC,AE,An (by omega),AE]
  rfl
 ·unfold FR; rw [if_neg (by simp)]
theorem Wj {g:AJ} {e:AK} (hg:H3 g) (he:GH e) (hok:B2 g.Rows g.Cols) (g0:Dk g=0) (e0:E3 e=0) (a1:Av e.Rows=0) (a2:Av e.Cols=0) :
  Ea g e=some (if HU g e=0 then (Ab e.Rows g.Rows,Ab e.Cols g.Cols,0) else (0,0,HU g e)):=by
 have n1:=NM hok.1 hok.2.1 a1
 have n2:=NM hok.2.2.1 hok.2.2.2 a2
 have hRC:B2 (Ab e.Rows g.Rows) (Ab e.Cols g.Cols):=⟨n1.1,n1.2,n2.1,n2.2⟩
 unfold Ea
 rw [NJ g hg,AE,g0,if_neg (by decide),O4 e he,AE,e0,if_neg (by decide),size_eq a1,BD,size_eq a2,BD]
 unfold HU HP
 by_cases hb:((!(decide (e.Rows=[]) || decide (Ah e.Rows=g.Rows))) || (!(decide (e.Cols=[]) || decide (Ah e.Cols=g.Cols))))=true
 ·simp only [if_pos hb]
  rfl
 ·simp only [if_neg hb]
  have c1:iter (fun (a:Int)=>GD e (Ab e.Rows g.Rows) (Ab e.Cols g.Cols) a) 0=some (if e.Cells.any (JR (Ab e.Rows g.Rows) (Ab e.Cols g.Cols))=true then .ext (0,0,2) else .nrm ()):=by
   refine Jt e.Cells _ _ (fun k hk=>?_) ?_
   ·have:=he.cells
    unfold GD
    rw [if_pos (by simpa using hk),Af hk,AE,An (by omega),AE]
    rfl
   ·unfold GD; rw [if_neg (by simp)]
  rw [c1]
  by_cases h1:e.Cells.any (JR (Ab e.Rows g.Rows) (Ab e.Cols g.Cols))=true
  ·rw [if_pos h1,FY,h1,Bool.true_or,Bool.true_or,if_pos rfl,if_neg (by decide)]
  ·rw [if_neg h1,Cg]
   rw [Bool.not_eq_true] at h1
   rw [h1,Bool.false_or]
   have s0:CN e (Ab e.Rows g.Rows) (Ab e.Cols g.Cols) 0=if e.Split.any (Dz (Ab e.Rows g.Rows) (Ab e.Cols g.Cols))=true then some (.inr (.ext (0,0,2))) else some (.inl 1):=by
    unfold CN
    rw [if_pos (by decide),show AO ([e.Split,e.Merge]:List (List AD)) 0=some e.Split from rfl,AE,RF hRC _ he.split]
    cases e.Split.any (Dz (Ab e.Rows g.Rows) (Ab e.Cols g.Cols)) <;> rfl
   have s1:CN e (Ab e.Rows g.Rows) (Ab e.Cols g.Cols) 1=if e.Merge.any (Dz (Ab e.Rows g.Rows) (Ab e.Cols g.Cols))=true then some (.inr (.ext (0,0,2))) else some (.inl 2):=by
    unfold CN
    rw [if_pos (by decide),show AO ([e.Split,e.Merge]:List (List AD)) 1=some e.Merge from rfl,AE,RF hRC _ he.merge]
    cases e.Merge.any (Dz (Ab e.Rows g.Rows) (Ab e.Cols g.Cols)) <;> rfl
   have s2:CN e (Ab e.Rows g.Rows) (Ab e.Cols g.Cols) 2=some (.inr (.nrm ())):=by
    unfold CN; rw [if_neg (by decide)]
   cases h2:e.Split.any (Dz (Ab e.Rows g.Rows) (Ab e.Cols g.Cols)) with
   | true=>
    rw [h2,if_pos rfl] at s0
    rw [BL (f:=fun (a:Int)=>CN e (Ab e.Rows g.Rows) (Ab e.Cols g.Cols) a) s0,FY,Bool.true_or,if_pos rfl,if_neg (by decide)]
   | false=>
    rw [h2,if_neg (by decide)] at s0
    rw [CT (f:=fun (a:Int)=>CN e (Ab e.Rows g.Rows) (Ab e.Cols g.Cols) a) s0,Bool.false_or]
    cases h3:e.Merge.any (Dz (Ab e.Rows g.Rows) (Ab e.Cols g.Cols)) with
    | true=>
     rw [h3,if_pos rfl] at s1
     rw [BL (f:=fun (a:Int)=>CN e (Ab e.Rows g.Rows) (Ab e.Cols g.Cols) a) s1,FY,if_pos rfl,if_neg (by decide)]
    | false=>
     rw [h3,if_neg (by decide)] at s1
     rw [CT (f:=fun (a:Int)=>CN e (Ab e.Rows g.Rows) (Ab e.Cols g.Cols) a) s1,BL (f:=fun (a:Int)=>CN e (Ab e.Rows g.Rows) (Ab e.Cols g.Cols) a) s2,Cg]
     rfl
theorem Ug {g:AJ} {e:AK} (he:GH e) (hok:B2 g.Rows g.Cols) (a1:Av e.Rows=0) (a2:Av e.Cols=0):KE g e=some (HU g e):=by
 have n1:=NM hok.1 hok.2.1 a1
 have n2:=NM hok.2.2.1 hok.2.2.2 a2
 have hRC:B2 (Ab e.Rows g.Rows) (Ab e.Cols g.Cols):=⟨n1.1,n1.2,n2.1,n2.2⟩
 have ax : ∀ (a:List AG) (n:Int),Av a=0→(if (decide (0<(a.length:Int))) then (
   Az (IX a) fun (r5:Int) (r6:Int)=>
   if (!decide (r5=n)) then (
    some (.ext 14:Ao Int Int)
   ) else (
    some (.nrm r6)
   )
  ) else (
   some (.nrm n)
  ))=some (if HP a n=true then .ext 14 else .nrm (Ab a n)):=by
  intro a n ha
  rw [KV]
  unfold HP Ab
  by_cases d:a=[]
  ·rw [if_neg (by simp [d]),if_pos d,if_neg (by simp [d])]
  ·rw [if_pos (by simp [d]),if_neg d,WA ha,BD,decide_eq_false d,Bool.false_or]
   cases decide (Ah a=n) <;> rfl
 unfold KE
 rw [ax _ _ a1]
 unfold HU
 cases hb1:HP e.Rows g.Rows with
 | true=>rw [if_pos rfl,FY]; rfl
 | false=>
  rw [if_neg (by decide),Cg,ax _ _ a2]
  cases hb2:HP e.Cols g.Cols with
  | true=>rw [if_pos rfl,FY]; rfl
  | false=>
   rw [if_neg (by decide),Cg,Bool.or_false,if_neg (by decide)]
   have c1:iter (fun (a:Int)=>Jl e (Ab e.Rows g.Rows) (Ab e.Cols g.Cols) a) 0=some (if e.Cells.any (JR (Ab e.Rows g.Rows) (Ab e.Cols g.Cols))=true then .ext 2 else .nrm ()):=by
    refine Jt e.Cells _ _ (fun k hk=>?_) ?_
    ·have:=he.cells
     unfold Jl
     rw [if_pos (by simpa using hk),Af hk,AE,An (by omega),AE]
     rfl
    ·unfold Jl; rw [if_neg (by simp)]
   have c2:iter (fun (a:Int)=>Io e (Ab e.Rows g.Rows) (Ab e.Cols g.Cols) a) 0=some (if e.Split.any (Dz (Ab e.Rows g.Rows) (Ab e.Cols g.Cols))=true then .ext 2 else .nrm ()):=by
    refine Jt e.Split _ _ (fun k hk=>?_) ?_
    ·have:=he.split
     unfold Io
     rw [if_pos (by simpa using hk),Af hk,AE,KC _ _ _ hRC,AE,An (by omega),AE]
     rfl
    ·unfold Io; rw [if_neg (by simp)]
   have c3:iter (fun (a:Int)=>I3 e (Ab e.Rows g.Rows) (Ab e.Cols g.Cols) a) 0=some (if e.Merge.any (Dz (Ab e.Rows g.Rows) (Ab e.Cols g.Cols))=true then .ext 2 else .nrm ()):=by
    refine Jt e.Merge _ _ (fun k hk=>?_) ?_
    ·have:=he.merge
     unfold I3
     rw [if_pos (by simpa using hk),Af hk,AE,KC _ _ _ hRC,AE,An (by omega),AE]
     rfl
    ·unfold I3; rw [if_neg (by simp)]
   rw [c1]
   cases e.Cells.any (JR (Ab e.Rows g.Rows) (Ab e.Cols g.Cols)) with
   | true=>rfl
   | false=>
    rw [if_neg (by decide),Cg,c2,Bool.false_or]
    cases e.Split.any (Dz (Ab e.Rows g.Rows) (Ab e.Cols g.Cols)) with
    | true=>rfl
    | false=>
     rw [if_neg (by decide),Cg,c3,Bool.false_or]
     cases e.Merge.any (Dz (Ab e.Rows g.Rows) (Ab e.Cols g.Cols)) with
     | true=>rfl
     | false=>rfl
end Go.Proofs.YtojmbndlghbpjaaGreatDoor.Al

set_option linter.unusedVariables false
set_option linter.unusedSimpArgs false
namespace Go.Proofs.YtojmbndlghbpjaaGreatDoor.Al
open Go
theorem Qc {rows cols:Int} {nn:Bool} {l:List AC} (h:DA rows cols nn l=0):Gg l ∧ ∀ c∈l,Fk rows cols c∧(nn=false→BY c=false):=by
 have hnone:=Li (G:=FC rows cols nn l) h (fun k _ he=>by
  unfold FC at he
  split at he
  ·rename_i hne
   injection he with he
   exact hne he
  ·split at he
   ·cases he
   ·cases he)
 refine ⟨fun k hk=>?_,fun c hc=>?_⟩
 ·have:=hnone (k+1) (by omega)
  unfold FC at this
  split at this
  ·cases this
  ·split at this
   ·cases this
   ·rename_i hq
    rw [Nat.add_sub_cancel] at hq
    show BE _ _ _ _<0
    have:=fun h=>hq ⟨by omega,h⟩
    omega
 ·obtain ⟨k,hk,e⟩:=List.getElem_of_mem hc
  have:=hnone k hk
  rw [← getElem!_pos l k hk] at e
  unfold FC at this
  rw [e] at this
  split at this
  ·cases this
  ·rename_i hz
   rw [Classical.not_not] at hz
   unfold LH at hz
   split at hz
   ·cases hz
   ·rename_i h1
    refine ⟨Classical.not_not.1 h1,fun hn=>?_⟩
    split at hz
    ·cases hz
    ·split at hz
     ·rename_i h3; exact absurd hz h3
     ·split at hz
      ·cases hz
      ·rename_i h4
       rw [hn] at h4
       simpa using h4
theorem QU {g:AJ} (h:Dk g=0):Cn g.Rows g.Cols g.Merges∧DA g.Rows g.Cols false g.Cells=0:=by
 obtain ⟨h1,h2,h3⟩:=Nj h
 have hce:DA g.Rows g.Cols false g.Cells=0:=by
  unfold Dk at h
  rw [if_neg (by simpa using h1)] at h
  by_cases hc:DA g.Rows g.Cols false g.Cells=0
  ·exact hc
  ·rw [if_pos hc] at h; exact h
 refine ⟨⟨fun q hq=>?_,?_⟩,hce⟩
 ·obtain ⟨k,hk,e⟩:=List.getElem_of_mem hq
  have:=h3 k hk
  rw [getElem!_pos g.Merges k hk,e] at this
  exact this
 ·unfold Dk at h
  rw [if_neg (by simpa using h1),if_neg (by simpa using hce)] at h
  have hnone:=Li (G:=D7 g.Rows g.Cols g.Merges) h (fun k _ he=>by
   unfold D7 at he
   split at he
   ·cases he
   ·split at he
    ·cases he
    ·split at he
     ·cases he
     ·split at he
      ·cases he
      ·cases he)
  rw [List.pairwise_iff_getElem]
  intro i j hi hj hij
  have hn:=hnone j hj
  unfold D7 at hn
  split at hn
  ·cases hn
  ·split at hn
   ·cases hn
   ·split at hn
    ·cases hn
    ·split at hn
     ·cases hn
     ·rename_i hf
      unfold Hg at hf
      rw [List.find?_isSome] at hf
      have : ¬ BV g.Merges[i]! g.Merges[j]! = true:=fun hm=>hf ⟨i,List.mem_range.2 hij,hm⟩
      rw [getElem!_pos g.Merges i hi,getElem!_pos g.Merges j hj] at this
      simpa using this
theorem RX {e:AK} (h:E3 e=0):Av e.Rows=0∧Av e.Cols=0∧DA 2147483647 2147483647 true e.Cells=0:=by
 unfold E3 at h
 by_cases h1:Av e.Rows=0
 ·rw [if_neg (by simpa using h1)] at h
  by_cases h2:Av e.Cols=0
  ·rw [if_neg (by simpa using h2)] at h
   by_cases h3:DA 2147483647 2147483647 true e.Cells=0
   ·exact ⟨h1,h2,h3⟩
   ·rw [if_pos h3] at h; exact absurd h h3
  ·rw [if_pos h2] at h; exact absurd h h2
 ·rw [if_pos h1] at h; exact absurd h h1
theorem YL {g:AJ} {e:AK} (hg:H3 g) (he:GH e) (g0:Dk g=0) (e0:E3 e=0) (f0:HU g e=0):GB g e:=by
 obtain ⟨r1,r2,r3⟩:=Nj g0
 obtain ⟨m1,m2⟩:=QU g0
 obtain ⟨a1,a2,a3⟩:=RX e0
 obtain ⟨c1,c2⟩:=Qc m2
 obtain ⟨d1,d2⟩:=Qc a3
 unfold HU at f0
 split at f0
 ·cases f0
 ·rename_i hb
  split at f0
  ·cases f0
  ·rename_i ha
   simp only [Bool.or_eq_true,not_or,Bool.not_eq_true] at hb ha
   obtain ⟨b1,b2⟩:=hb
   obtain ⟨⟨x1,x2⟩,x3⟩:=ha
   unfold HP at b1 b2
   refine ⟨⟨r1.1,r1.2.1,a1,fun hne=>?_⟩,⟨r1.2.2.1,r1.2.2.2,a2,fun hne=>?_⟩,hg.1,hg.2.1,he.cells,he.split,he.merge,Sh c1,Sh d1,fun c hc=>?_,hg.2.2,fun c hc=>?_,he.oc,m1,fun r hr=>?_⟩
   ·simp [hne] at b1; exact b1
   ·simp [hne] at b2; exact b2
   ·obtain ⟨k1,k2⟩:=c2 c hc
    exact ⟨⟨k1.1,k1.2.1,k1.2.2.1,k1.2.2.2.1⟩,k2 rfl⟩
   ·obtain ⟨k1,_⟩:=d2 c hc
    rw [List.any_eq_false] at x1
    have:=x1 c hc
    unfold JR at this
    simp only [Bool.or_eq_true,decide_eq_true_eq,not_or] at this
    exact ⟨k1.1,by omega,k1.2.2.1,by omega⟩
   ·rw [List.any_eq_false] at x3
    have:=x3 r hr
    unfold Dz at this
    simpa using this
theorem Uo : ∀ (n l:List AC),(Ci l n).length≤l.length+n.length:=by
 intro n
 induction n with
 | nil=>intro l; exact Nat.le_refl _
 | cons c r ih=>
  intro l
  show (l.takeWhile (Aj c)++(if BY c=true then [] else [c])++Ci (CO c (l.dropWhile (Aj c))) r).length≤_
  have h1:=ih (CO c (l.dropWhile (Aj c)))
  have h2:(CO c (l.dropWhile (Aj c))).length≤(l.dropWhile (Aj c)).length:=by
   cases l.dropWhile (Aj c) with
   | nil=>exact Nat.le_refl _
   | cons x t=>
    show (if BE x.Row c.Row x.Col c.Col=0 then t else x :: t).length≤(x :: t).length
    split
    ·simp
    ·exact Nat.le_refl _
  have h3:=congrArg List.length (List.takeWhile_append_dropWhile (p:=Aj c) (l:=l))
  rw [List.length_append] at h3
  rw [List.length_append,List.length_append,List.length_cons]
  have h4:(if BY c=true then [] else [c]:List AC).length≤1:=by split <;> simp
  omega
end Go.Proofs.YtojmbndlghbpjaaGreatDoor.Al

namespace Go.Proofs.YtojmbndlghbpjaaGreatDoor.Al
theorem Vw {γ:AJ→Nat} {ψ:AC→Nat} {ρ:AD→Nat} {κ:Ak→Nat}
  (hg : ∀ g,(g.Cells.map ψ).sum+(g.Merges.map ρ).sum+1≤γ g) (hc : ∀ c,c.Text.length+(c.Attrs.map κ).sum+1≤ψ c) (hr : ∀ r,1≤ρ r) (ha : ∀ a,a.Name.length+a.Value.length+1≤κ a)
  {g:AJ} (hb:γ g≤1048576):H3 g:=by
 have h4:=hg g
 have h6:=Ew (μ:=ψ) (fun c=>by have:=hc c; omega) g.Cells
 have h7:=Ew (μ:=ρ) hr g.Merges
 refine ⟨by omega,by omega,fun c hcm=>?_⟩
 have h9:=Ov (μ:=ψ) hcm
 have:=hc c
 exact ⟨TE ha (by omega),by omega⟩
theorem WN {η:AK→Nat} {σ:AG→Nat} {ψ:AC→Nat} {ρ:AD→Nat} {κ:Ak→Nat}
  (hg : ∀ e,(e.Rows.map σ).sum+(e.Cols.map σ).sum+(e.Cells.map ψ).sum+(e.Split.map ρ).sum+(e.Merge.map ρ).sum+1≤η e) (hs : ∀ s,1≤σ s) (hc : ∀ c,c.Text.length+(c.Attrs.map κ).sum+1≤ψ c) (hr : ∀ r,1≤ρ r) (ha : ∀ a,a.Name.length+a.Value.length+1≤κ a)
  {e:AK} (hb:η e≤1048576):GH e:=by
 have h4:=hg e
 have h1:=Ew (μ:=σ) hs e.Rows
 have h2:=Ew (μ:=σ) hs e.Cols
 have h6:=Ew (μ:=ψ) (fun c=>by have:=hc c; omega) e.Cells
 have h7:=Ew (μ:=ρ) hr e.Split
 have h8:=Ew (μ:=ρ) hr e.Merge
 refine ⟨by omega,by omega,by omega,by omega,by omega,fun c hcm=>?_⟩
 have h9:=Ov (μ:=ψ) hcm
 have:=hc c
 exact ⟨TE ha (by omega),by omega⟩
def Qt (n f t:Int):Prop:=n<0∨2147483647<n∨f<0∨t<f∨n<t
instance (n f t:Int):Decidable (Qt n f t):=by unfold Qt; infer_instance
theorem NG (u:Un) (us:List Un):DJ (u :: us)=(if HK u then 1 else 0)+DJ us:=by unfold DJ; rw [List.countP_cons]; omega
theorem ZQ (a b:List Un):DJ (a++b)=DJ a+DJ b:=by simp [DJ]
theorem Xi (l:List D9):DJ (l.map Un.a)=l.length:=by
 induction l with
 | nil=>rfl
 | cons x l ih=>rw [List.map_cons,NG,ih,List.length_cons]; simp only [HK,if_true]; omega
theorem XB (n:Nat) (c:Bool) (t:List Ak):DJ (List.replicate n (.r c t))=if c then 0 else n:=by
 cases c <;> simp [DJ,List.countP_replicate,HK]
theorem TM {m:Int} {w:Ar} (h:WB m w):Ah (BP w)=Ah w.out+w.cut∧Am (BP w)=Am w.out+w.add:=by
 have ha:=h.a0
 have hc:=h.c0
 unfold BP
 rw [Oq,Om]
 have e1:Ah (if 0<w.add then w.out++[(⟨1,w.add⟩:AG)] else w.out)=Ah w.out∧Am (if 0<w.add then w.out++[(⟨1,w.add⟩:AG)] else w.out)=Am w.out+w.add:=by
  by_cases h1:0<w.add
  ·rw [if_pos h1,Oq,Om]
   constructor
   ·show _+(0+0)=_; omega
   ·show _+(w.add+0)=_; omega
  ·rw [if_neg h1]; omega
 have e2:Ah (if 0<w.cut then [(⟨2,w.cut⟩:AG)] else [])=w.cut∧Am (if 0<w.cut then [(⟨2,w.cut⟩:AG)] else [])=0:=by
  by_cases h1:0<w.cut
  ·rw [if_pos h1]
   constructor
   ·show w.cut+0=_; omega
   ·rfl
  ·rw [if_neg h1]
   constructor
   ·show (0:Int)=_; omega
   ·rfl
 rw [e1.1,e1.2,e2.1,e2.2]
 omega
theorem ZN {m:Int} {w:Ar} (h:WB m w) (u:Un):Ah (BP (wU w u))=Ah (BP w)+(if u.isR then 1 else 0)∧Am (BP (wU w u))=Am (BP w)+(if HK u then 1 else 0):=by
 obtain ⟨h1,h2⟩:=TM h
 obtain ⟨h3,h4⟩:=TM (OH h u)
 rw [h1,h2,h3,h4]
 match u with
 | .a e=>
  simp only [wU,Un.isR,HK,Bool.false_eq_true,if_true,if_false]
  omega
 | .r true t=>
  simp only [wU,Un.isR,HK,Bool.not_true,Bool.false_eq_true,if_true,if_false]
  omega
 | .r false t=>
  simp only [wU,Un.isR,HK,Bool.not_false,if_true]
  obtain ⟨h5,h6⟩:=Vi (BP w) 1
  rw [h5,h6]
  omega
theorem Tj : ∀ (us:List Un) {m:Int} {w:Ar},WB m w→Ah (BP (us.foldl wU w))=Ah (BP w)+Cr us∧Am (BP (us.foldl wU w))=Am (BP w)+DJ us
 | [],_,_,_=>by simp [Cr,DJ]
 | u :: us,m,w,h=>by
  obtain ⟨h1,h2⟩:=ZN h u
  obtain ⟨h3,h4⟩:=Tj us (OH h u)
  have e2:Cr (u :: us)=(if u.isR then 1 else 0)+Cr us:=by unfold Cr; rw [List.countP_cons]; omega
  rw [List.foldl_cons,h3,h4,h1,h2,e2,NG]
  split <;> split <;> omega
theorem S0 (us:List Un):Ah (BP (DU us))=Cr us∧Am (BP (DU us))=DJ us:=by
 obtain ⟨h1,h2⟩:=Tj us SW
 have e:Ah (BP (⟨[],0,0⟩:Ar))=0∧Am (BP (⟨[],0,0⟩:Ar))=0:=⟨rfl,rfl⟩
 rw [e.1,Int.zero_add] at h1
 rw [e.2,Int.zero_add] at h2
 exact ⟨h1,h2⟩
theorem Qr (us:List Un) (h1:Cr us≤2147483647) (h2:DJ us≤2147483647):Av (BP (DU us))=0:=by
 obtain ⟨l1,l2⟩:=S0 us
 obtain ⟨k1,k2,k3⟩:=MW (OY us)
 generalize BP (DU us)=l at k1 k2 k3 l1 l2
 have hN : ∀ l:List AG,(∀ s∈l,Gn s)→0≤Ah l∧0≤Am l ∧ ∀ s∈l,s.N≤max (Ah l) (Am l):=by
  intro l
  induction l with
  | nil=>intro _; simp [Ah,Am]
  | cons x l ih=>
   intro hx
   obtain ⟨i0,i1,i2⟩:=ih fun s hs=>hx s (List.mem_cons_of_mem _ hs)
   have h1:=hx x (List.mem_cons_self ..)
   unfold Gn at h1
   have hx2:(BU x=0∨BU x=x.N)∧(BW x=0∨BW x=x.N)∧(BU x=x.N∨BW x=x.N):=by
    unfold BU BW
    split <;> split <;> omega
   rw [Da,Db]
   refine ⟨by omega,by omega,fun s hs=>?_⟩
   rcases List.mem_cons.1 hs with rfl | hs
   ·omega
   ·have:=i2 s hs; omega
 obtain ⟨n0,n1,n2⟩:=hN l k1
 rw [TB fun j hj=>?_]
 ·rw [if_neg (by omega)]
 ·have hs:=k1 _ (Bx hj)
  have hN:=n2 _ (Bx hj)
  unfold Gn at hs
  unfold CU
  rw [if_neg (by omega),if_neg (by omega),if_neg]
  rintro ⟨h0,h1⟩
  have:=k3 (j-1) (by omega)
  rw [show j-1+1=j by omega] at this
  rcases h1 with h1 | h1
  ·exact this.1 h1
  ·exact this.2 h1
theorem V7 (n:Nat):DJ (List.replicate n (.a xE))=n:=by rw [V9,Xi,List.length_replicate]
def SR (k:Int):Int:=if k=1 then 2 else if k=2 then 1 else k
def E0:Un→Un
 | .a _=>.r true []
 | .r true _=>.a xE
 | .r false _=>.r false []
theorem Yg {k:Int} (h0:0≤k) (h2:k≤2):E0 (Ex k)=Ex (SR k):=by
 have:k=0∨k=1∨k=2:=by omega
 rcases this with rfl | rfl | rfl <;> rfl
theorem X6 {k:Int} (h0:0≤k) (h2:k≤2):AO ([0,2,1]:List Int) k=some (SR k):=by
 have:k=0∨k=1∨k=2:=by omega
 rcases this with rfl | rfl | rfl <;> rfl
theorem Rm (us:List Un):Cr (us.map E0)=DJ us∧DJ (us.map E0)=Cr us:=by
 induction us with
 | nil=>exact ⟨rfl,rfl⟩
 | cons u us ih=>
  have e1 : ∀ (u:Un) (us:List Un),Cr (u :: us)=(if u.isR then 1 else 0)+Cr us:=fun u us=>by unfold Cr; rw [List.countP_cons]; omega
  rw [List.map_cons,e1,NG,e1,NG,ih.1,ih.2]
  match u with
  | .a e=>exact ⟨rfl,rfl⟩
  | .r true t=>exact ⟨rfl,rfl⟩
  | .r false t=>exact ⟨rfl,rfl⟩
theorem SZ (a:List AG) (h : ∀ s∈a,A1 s):(DJ (B9 a):Int)=Am a:=by
 induction a with
 | nil=>rfl
 | cons s a ih=>
  have hs:=h s (List.mem_cons_self ..)
  have h1:=ih fun x hx=>h x (List.mem_cons_of_mem _ hx)
  rw [Nr,ZQ,Db]
  unfold BW
  unfold A1 at hs
  by_cases hk:s.Kind=1
  ·rw [hk,Pw,V7,if_neg (by decide)]; omega
  ·rw [R7 hk,XB]
   by_cases h2:s.Kind=2
   ·rw [decide_eq_true h2,if_pos rfl,if_pos h2]; omega
   ·rw [decide_eq_false h2,if_neg (by decide),if_neg h2]; omega
theorem Uw (a:List AG) (h : ∀ s∈a,A1 s) (hm:a.length≤9223372036854775806) (hl:(B9 a).length≤8589934592) :
  iter (fun (c:Int × Ar)=>GO a c.1 c.2) (0,(Ar.mk [] 0 0))=some (DU ((B9 a).map E0)):=by
 have key : ∃ r,iter (fun (c:Int × Ar)=>GO a c.1 c.2) (0,(Ar.mk [] 0 0))=some r∧r=DU ((B9 a).map E0):=by
  refine DY a.length (fun k st=>st=((k:Int),DU ((B9 (a.take k)).map E0))) _ ?_ ?_ rfl
  ·rintro k st hk rfl
   have hs:=h _ (Bx hk)
   unfold A1 at hs
   have htl:(B9 (a.take k)).length≤(B9 a).length:=by
    have:B9 a=B9 (a.take k)++B9 (a.drop k):=by
     conv=>lhs; rw [← List.take_append_drop k a]
     unfold B9; rw [List.flatMap_append]
    rw [this,List.length_append]; omega
   refine .inl ⟨_,?_,rfl⟩
   show GO a (k:Int) _=_
   unfold GO
   rw [if_pos (by simpa using hk),Af hk,AE,X6 hs.1 hs.2.1,AE,Wu _ _ _ (by omega) (by rw [List.length_map]; omega) (by omega),AE,An (by omega),AE]
   rw [II hk]
   have e:B9 (a.take k++[a[k]!])=B9 (a.take k)++List.replicate a[k]!.N.toNat (Ex a[k]!.Kind):=by
    show (a.take k++[a[k]!]).flatMap _=_
    rw [List.flatMap_append]; simp [B9]
   rw [e,List.map_append,List.map_replicate,Yg hs.1 hs.2.1]
  ·rintro st rfl
   refine ⟨_,?_,rfl⟩
   rw [List.take_length]
   show GO a (a.length:Int) _=_
   unfold GO
   rw [if_neg (by simp)]
 obtain ⟨r,h1,h2⟩:=key
 rw [h1,h2]
theorem Ws (a:List AG) (ha:a.length≤9223372036854775807):Gi a=some (if Av a≠0 then ([],Av a) else (BP (DU ((B9 a).map E0)),0)):=by
 unfold Gi
 rw [JD a ha,AE]
 by_cases e1:Av a≠0
 ·rw [if_pos (Dn e1),if_pos e1]
 have e1:=Classical.not_not.1 e1
 have ga:=CX e1
 have sa:=aa ga
 have la:=Vq a ga.stp
 have na:=ga.len
 have hal:a.length≤4294967294:=by
  have:=(JO (l:=a) fun s hs=>by have:=ga.stp s hs; unfold A1 at this; exact ⟨this.1,this.2.1,this.2.2.1⟩).1
  omega
 have g1:=ga.olds
 have g2:=ga.nows
 have ca:=R9 a ga.stp
 have cb:=SZ a ga.stp
 have hf:=Rm (B9 a)
 have hwb:=OY ((B9 a).map E0)
 rw [if_neg (Dd e1),if_neg (show ¬ (Av a≠0) by simpa using e1),Uw a ga.stp (by omega) (by omega),AE,Xn hwb (by rw [List.length_map]; omega)]
 rw [Qr _ (by rw [hf.1]; omega) (by rw [hf.2]; omega),if_neg (by decide)]; rfl
def zE:D9:=⟨0,0,[]⟩
end Go.Proofs.YtojmbndlghbpjaaGreatDoor.Al

set_option linter.unusedVariables false
set_option linter.unusedSimpArgs false
namespace Go.Proofs.YtojmbndlghbpjaaGreatDoor.Al
open Go
def CJ (a:List AG):List AG:=BP (DU ((B9 a).map E0))
theorem SU {a:List AG} (h:Av a=0):Gi a=some (CJ a,0):=by
 rw [Ws a (by have:=Ke h; omega),if_neg (by rw [h]; simp)]; rfl
theorem MF {a:List AG} (h:Av a=0):Av (CJ a)=0∧Ah (CJ a)=Am a∧Am (CJ a)=Ah a:=by
 have hg:=CX h
 obtain ⟨f1,f2⟩:=Rm (B9 a)
 have c1:=SZ a hg.stp
 have c2:=R9 a hg.stp
 obtain ⟨l1,l2⟩:=S0 ((B9 a).map E0)
 have:=hg.olds
 have:=hg.nows
 refine ⟨Qr _ (by omega) (by omega),?_,?_⟩
 ·show Ah (BP (DU ((B9 a).map E0)))=_
  rw [l1,f1]; exact c1
 ·show Am (BP (DU ((B9 a).map E0)))=_
  rw [l2,f2]; exact c2
theorem Pz {a:List AG} (h : ∀ s∈a,A1 s) (hne:a≠[]):0<Ah a+Am a:=by
 cases a with
 | nil=>exact absurd rfl hne
 | cons s r=>
  have hs:=h s (List.mem_cons_self ..)
  have:=Hy (a:=r) fun x hx=>h x (List.mem_cons_of_mem _ hx)
  rw [Da,Db]
  unfold A1 at hs
  unfold BU BW
  split <;> split <;> omega
theorem Rt {a:List AG} (e:a=[]):Ah a=0∧Am a=0:=by subst e; exact ⟨rfl,rfl⟩
theorem Ss {a:List AG} (h:Av a=0):CJ a=[]↔a=[]:=by
 obtain ⟨u1,u2,u3⟩:=MF h
 constructor
 ·intro hu
  apply Classical.byContradiction
  intro hne
  have:=Pz (CX h).stp hne
  have:=Rt hu
  omega
 ·intro ha
  apply Classical.byContradiction
  intro hne
  have:=Pz (CX u1).stp hne
  have:=Rt ha
  omega
theorem Ms {a:List AG} {n:Int} (h:BR a n):BR (CJ a) (Ab a n)∧Ab (CJ a) (Ab a n)=n:=by
 obtain ⟨u1,u2,u3⟩:=MF h.er
 have hb:=FV h
 have hn:=Ss h.er
 refine ⟨⟨hb.1,hb.2,u1,fun hne=>?_⟩,?_⟩
 ·have ha:a≠[]:=fun e=>hne (hn.2 e)
  unfold Ab
  rw [if_neg ha]; exact u2
 ·unfold Ab
  by_cases ha:a=[]
  ·rw [if_pos (hn.2 ha),if_pos ha]
  ·rw [if_neg (fun e=>ha (hn.1 e)),u3]; exact h.ft ha
theorem Pt {a:List AG} (h : ∀ s∈a,A1 s):A8 a≤Ah a+Am a∧Ah a≤A8 a∧Am a≤A8 a:=by
 induction a with
 | nil=>simp [A8,Ah,Am]
 | cons s r ih=>
  have hs:=h s (List.mem_cons_self ..)
  have:=ih fun x hx=>h x (List.mem_cons_of_mem _ hx)
  rw [Da,Db,FL]
  unfold A1 at hs
  unfold BU BW
  split <;> split <;> omega
def IZ (a:List AG) (n:Int):Prop:=if a=[] then n≤30 else A8 a≤60
theorem Pv {a:List AG} {n:Int} (h:IZ a n):DX a n:=by
 unfold IZ at h; unfold DX
 split <;> simp_all <;> omega
theorem Qw {a:List AG} {n:Int} (hA:BR a n) (h:IZ a n):DX (CJ a) (Ab a n):=by
 obtain ⟨u1,u2,u3⟩:=MF hA.er
 have hn:=Ss hA.er
 have s1:=Pt (CX hA.er).stp
 have s2:=Pt (CX u1).stp
 unfold IZ at h
 unfold DX Ab
 by_cases ha:a=[]
 ·rw [if_pos ha] at h
  rw [if_pos (hn.2 ha),if_pos ha]; exact h
 ·rw [if_neg ha] at h
  rw [if_neg (fun e=>ha (hn.1 e))]; omega
def GR (e:AK):AK:=⟨CJ e.Rows,CJ e.Cols,[],[],[]⟩
theorem SB {g:AJ} {e:AK} (h:GB g e) (hs:g.Cells.length+e.Cells.length≤1048576) (hm:g.Merges.length+e.Merge.length≤1048576):GB (DD g e) (GR e):=by
 obtain ⟨ar,er⟩:=Ms h.ar
 obtain ⟨ac,ec⟩:=Ms h.ac
 have h1:=Uo e.Cells (g.Cells.filterMap (Ct e.Rows e.Cols))
 have h2:(g.Cells.filterMap (Ct e.Rows e.Cols)).length≤g.Cells.length:=List.length_filterMap_le ..
 have hml:(g.Merges.filterMap (mR e.Rows e.Cols e.Split)).length≤g.Merges.length:=List.length_filterMap_le ..
 have hfl:=Ny e.Merge (g.Merges.filterMap (mR e.Rows e.Cols e.Split))
 have hG:=PM e.Merge _ (M0 h.ar h.ac e.Split h.gm) h.em
 have hsr:=OB hG
 have hmem:=Ok hG
 have hperm:(F3 (H7 g e) (Ab e.Rows g.Rows) (Ab e.Cols g.Cols)).Perm (H7 g e):=(List.perm_ext_iff_of_nodup (hsr.imp fun {a b} hab e=>by subst e; unfold FI at hab; omega) (Q4 hG)).2 hmem
 obtain ⟨p1,p2⟩:=TD e.Cells _ (Q7 h.ar h.ac h.gc fun c h1=>(h.gi c h1).1) h.ec
 have hmv : ∀ c∈g.Cells.filterMap (Ct e.Rows e.Cols),∃ y∈g.Cells,0≤A0 e.Rows y.Row∧0≤A0 e.Cols y.Col∧c=⟨A0 e.Rows y.Row,A0 e.Cols y.Col,y.Text,y.Ref,y.Attrs⟩:=fun c hc=>by
  obtain ⟨y,hy,hq⟩:=List.mem_filterMap.1 hc
  unfold Ct at hq
  split at hq
  ·cases hq
  ·cases hq; exact ⟨y,hy,by omega,by omega,rfl⟩
 refine ⟨ar,ac,?_,?_,by simp [GR],by simp [GR],by simp [GR],p1,List.Pairwise.nil,fun c hc=>?_,fun c hc=>?_,(fun c hc=>by cases hc),(fun c hc=>by cases hc),⟨fun q hq=>hG.1 q ((hmem q).1 hq),?_⟩,(fun c hc=>by cases hc)⟩
 ·show (Ci (g.Cells.filterMap (Ct e.Rows e.Cols)) e.Cells).length≤_
  omega
 ·show (F3 (H7 g e) (Ab e.Rows g.Rows) (Ab e.Cols g.Cols)).length≤_
  rw [hperm.length_eq]; unfold H7; omega
 ·rcases (p2 c).1 hc with ⟨k1,k2⟩ | ⟨k1,_⟩
  ·exact ⟨h.ei c k1,k2⟩
  ·obtain ⟨y,hy,q1,q2,rfl⟩:=hmv c k1
   obtain ⟨⟨b1,b2,b3,b4⟩,b5⟩:=h.gi y hy
   exact ⟨⟨q1,(OF h.ar b1 b2).2,q2,(OF h.ac b3 b4).2⟩,b5⟩
 ·rcases (p2 c).1 hc with ⟨k1,_⟩ | ⟨k1,_⟩
  ·exact h.eo c k1
  ·obtain ⟨y,hy,q1,q2,rfl⟩:=hmv c k1
   exact h.go y hy
 ·exact (hperm.pairwise_iff (fun {a b} hab=>by rw [QN]; exact hab)).2 hG.2
end Go.Proofs.YtojmbndlghbpjaaGreatDoor.Al

set_option linter.unusedVariables false
set_option linter.unusedSimpArgs false
namespace Go.Proofs.YtojmbndlghbpjaaGreatDoor.Al
open Go
def Cz (c:AC):AC:=⟨c.Row,c.Col,[],0,[]⟩
def EP (c:AC) (d:List AC):List AC:=if d.head? = some c then [] else [c]
def Df:List AC→List AC→List AC
 | l,[]=>l.map Cz
 | l,c :: r=>(l.takeWhile (Aj c)).map Cz++EP c (l.dropWhile (Aj c))++Df (CO c (l.dropWhile (Aj c))) r
theorem X3 (l:List AC) (x5:AC) (hl:l.length≤1048576) : ∀ (d:List AC) (i:Nat) (out:List AC),l.drop i=d→i≤l.length→out.length≤i+1048576 →
  iter (fun (a:Int × (List AC))=>Gx l x5 a.1 a.2) ((i:Int),out)=some (((i+(d.takeWhile (Aj x5)).length:Nat):Int),out++(d.takeWhile (Aj x5)).map Cz):=by
 intro d
 induction d with
 | nil=>
  intro i out hd hi ho
  have:i=l.length:=by
   have:=congrArg List.length hd
   rw [List.length_drop,List.length_nil] at this; omega
  rw [BL (r:=((i:Int),out))]
  ·simp
  ·show Gx l x5 (i:Int) out=_
   unfold Gx
   rw [decide_eq_false (show ¬ (i:Int)<(l.length:Int) by omega)]
   simp only [show (false == true)=false from rfl,EH,AE,Bool.false_and,Bool.false_eq_true,if_false]
 | cons y d ih=>
  intro i out hd hi ho
  have hil:i<l.length:=by
   have:=congrArg List.length hd
   rw [List.length_drop,List.length_cons] at this; omega
  have hdd:=List.getElem_cons_drop hil
  rw [hd] at hdd
  injection hdd with h1 h2
  have hy:l[i]! = y:=by rw [getElem!_pos l i hil,h1]
  have hstep:Gx l x5 (i:Int) out=if Aj x5 y=true then some (.inl (((i+1:Nat):Int),out++[Cz y])) else some (.inr ((i:Int),out)):=by
   unfold Gx
   rw [decide_eq_true (show (i:Int)<(l.length:Int) by omega),show (true == true)=true from rfl,Ap,Af hil,AE,Ap,GX,AE,hy,Bool.true_and]
   by_cases g:BE y.Row x5.Row y.Col x5.Col<0
   ·rw [if_pos (decide_eq_true g),AE,Fb (by omega),AE,An (by omega),AE,if_pos (by unfold Aj; exact decide_eq_true g)]
    rfl
   ·rw [if_neg (by simpa using g),if_neg (by unfold Aj; simpa using g)]
  by_cases g:Aj x5 y=true
  ·rw [if_pos g] at hstep
   rw [CT hstep,ih (i+1) (out++[Cz y]) h2 (by omega) (by rw [List.length_append,List.length_singleton]; omega),List.takeWhile_cons,if_pos g]
   congr 2
   ·rw [List.length_cons]; omega
   ·simp
  ·rw [if_neg g] at hstep
   rw [BL hstep,List.takeWhile_cons,if_neg g]; simp
theorem aq (x y:AC) (hm:x.Attrs.length≤1073741824):Gu x y=some (decide (x=y)):=P3 x y hm
theorem U1 (l:List AC) (x:AC) (hl:l.length≤1048576) (hok : ∀ c∈l,CQ c) (hx:CQ x) (j:Nat) (hj:j≤l.length) (out:List AC) (ho:out.length≤4194304) :
  ∃ i21:Nat,i21≤l.length∧j≤i21∧l.drop i21=CO x (l.drop j) ∧
   (AB (gd ((decide ((j:Int)<(l.length:Int))) == true) (AO l (j:Int))) fun (x11:AC)=>
   AB (gd ((decide ((j:Int)<(l.length:Int))) == true) (EF x11 x)) fun (r1:Int)=>
   Ay (
    if ((decide ((j:Int)<(l.length:Int))) && (decide (r1=0))) then (
     AB (AM .i64 ((j:Int)+1)) fun (i28:Int)=>
     AB (AM .i64 (i28-1)) fun (x12:Int)=>
     AB (AO l x12) fun (x13:AC)=>
     AB (Gu x13 x) fun (r3:Bool)=>
     if r3 then (
      some (.ext (i28,out))
     ) else (
      some (.nrm i28)
     )
    ) else (
     some (.nrm (j:Int))
    )
   ) fun (i26:Int)=>
   AB (FQ x) fun (r2:AC)=>
   AB (A9 64 out [r2]) fun (out15:List AC)=>
   some (i26,out15))=some ((i21:Int),out++EP x (l.drop j)):=by
 by_cases hlt:j<l.length
 ·have hdd:=List.getElem_cons_drop hlt
  have hj2:CQ l[j]:=hok _ (List.getElem_mem hlt)
  by_cases ho2:BE l[j].Row x.Row l[j].Col x.Col=0
  ·refine ⟨j+1,by omega,by omega,?_,?_⟩
   ·rw [← hdd]; exact (if_pos ho2).symm
   ·rw [decide_eq_true (show (j:Int)<(l.length:Int) by omega),show (true == true)=true from rfl,Ap,Kg hlt,AE,Ap,GX,AE,if_pos (by rw [Bool.true_and]; exact decide_eq_true ho2),An (by omega),AE,
     show (((j+1:Nat):Int)-1)=(j:Int) by omega,Bf (by omega) (by omega),AE,Kg hlt,AE,aq _ _ hj2.1.1,AE,← hdd]
    unfold EP
    rw [List.head?_cons]
    by_cases he:l[j]=x
    ·rw [decide_eq_true he,if_pos rfl,if_pos (by rw [he]),FY,List.append_nil]
    ·rw [decide_eq_false he,if_neg (by decide),if_neg (by simpa using he),Cg,KG hx,AE,Fb ho,AE]
  ·refine ⟨j,by omega,by omega,?_,?_⟩
   ·conv=>rhs; rw [← hdd]
    exact hdd.symm.trans (if_neg ho2).symm
   ·rw [decide_eq_true (show (j:Int)<(l.length:Int) by omega),show (true == true)=true from rfl,Ap,Kg hlt,AE,Ap,GX,AE,if_neg (by simpa using ho2),Cg,KG hx,AE,Fb ho,AE,← hdd]
    unfold EP
    rw [List.head?_cons,if_neg]
    intro he
    injection he with he
    exact ho2 (O9.2 (by rw [he]; exact ⟨rfl,rfl⟩))
 ·refine ⟨j,by omega,by omega,?_,?_⟩
  ·rw [List.drop_of_length_le (by omega)]; rfl
  ·rw [decide_eq_false (show ¬ (j:Int)<(l.length:Int) by omega),show (false == true)=false from rfl]
   simp only [EH,AE,Bool.false_and,Bool.false_eq_true,if_false,Cg]
   rw [KG hx,AE,Fb ho,AE,List.drop_of_length_le (by omega)]
   rfl
theorem bo (l news:List AC) (hl:l.length≤1048576) (hn:news.length≤1048576) (hok : ∀ c∈l,CQ c) (hok2 : ∀ c∈news,CQ c):L2 l news=some (Df l news):=by
 unfold L2
 obtain ⟨b,hb,hq⟩:=DY (f:=fun (a:Int × Int × (List AC))=>Ig l news a.1 a.2.1 a.2.2) news.length
  (fun k st=>∃ i:Nat,st.1=(i:Int)∧st.2.1=(k:Int)∧i≤l.length∧st.2.2.length≤i+k∧st.2.2++Df (l.drop i) (news.drop k)=Df l news)
  (fun b=>∃ i:Nat,b.1=(i:Int)∧i≤l.length∧b.2.length≤i+news.length∧b.2++(l.drop i).map Cz=Df l news)
  (fun k st hk hst=>by
   obtain ⟨a1,a2,out⟩:=st
   obtain ⟨i,h1,h2,h3,h4,h5⟩:=hst
   dsimp only at h1 h2 h4 h5
   subst h1 h2
   left
   have hc:=hok2 _ (Bx hk)
   have hpi:=X3 l news[k]! hl (l.drop i) i out rfl h3 (by omega)
   rw [Hw hk] at h5
   have htl:((l.drop i).takeWhile (Aj news[k]!)).length≤(l.drop i).length:=(List.takeWhile_prefix _).length_le
   rw [List.length_drop] at htl
   have hdr:l.drop (i+((l.drop i).takeWhile (Aj news[k]!)).length)=(l.drop i).dropWhile (Aj news[k]!):=by
    rw [← List.drop_drop,TO]
   have hlen:(out++((l.drop i).takeWhile (Aj news[k]!)).map Cz).length≤i+((l.drop i).takeWhile (Aj news[k]!)).length+k:=by
    rw [List.length_append,List.length_map]; omega
   obtain ⟨i21,m1,m2,m3,m4⟩:=U1 l news[k]! hl hok hc (i+((l.drop i).takeWhile (Aj news[k]!)).length) (by omega) (out++((l.drop i).takeWhile (Aj news[k]!)).map Cz) (by omega)
   rw [hdr] at m3 m4
   have hml:(EP news[k]! ((l.drop i).dropWhile (Aj news[k]!))).length≤1:=by unfold EP; split <;> simp
   dsimp only
   unfold Ig
   rw [if_pos (by simpa using hk),Af hk,AE,hpi,BD,m4,BD,An (by omega),AE]
   refine ⟨_,rfl,i21,rfl,rfl,m1,?_,?_⟩
   ·show (out++((l.drop i).takeWhile (Aj news[k]!)).map Cz++EP news[k]! ((l.drop i).dropWhile (Aj news[k]!))).length≤_
    rw [List.length_append]; omega
   ·rw [← h5,m3]
    show _=out++(((l.drop i).takeWhile (Aj news[k]!)).map Cz++EP news[k]! ((l.drop i).dropWhile (Aj news[k]!))++Df (CO news[k]! ((l.drop i).dropWhile (Aj news[k]!))) (news.drop (k+1)))
    simp only [List.append_assoc])
  (fun st hst=>by
   obtain ⟨a1,a2,out⟩:=st
   obtain ⟨i,h1,h2,h3,h4,h5⟩:=hst
   dsimp only at h1 h2 h4 h5
   subst h1 h2
   dsimp only
   unfold Ig
   rw [if_neg (by simp)]
   refine ⟨_,rfl,i,rfl,h3,h4,?_⟩
   rw [List.drop_of_length_le (Nat.le_refl _)] at h5
   exact h5)
  (s:=((0:Int),0,[])) ⟨0,rfl,rfl,by omega,by simp,by simp⟩
 obtain ⟨i,e1,e2,e3,e4⟩:=hq
 rw [hb]
 obtain ⟨b1,b2⟩:=b
 dsimp only at e1 e3 e4
 subst e1
 have hs:CG l (i:Int) (l.length:Int)=some (l.drop i):=by
  have:=Sq l (i:Int) (by omega) (by omega)
  rwa [Int.toNat_natCast] at this
 have hdl:(l.drop i).length≤l.length:=by rw [List.length_drop]; omega
 have hlast:=CY (f:=fun (a:Int × (List AC))=>F6 (l.drop i) a.1 a.2) (l.drop i) (fun (c:List AC) k=>((k:Int),c)) (fun r c=>c++r.map Cz) (fun k c=>c.length≤2097152+k)
  (fun k c hk hI=>by
   left
   show ∃ c',F6 (l.drop i) (k:Int) c=_∧_
   unfold F6
   rw [if_pos (by simpa using hk),Af hk,AE,Fb (by omega),AE,An (by omega),AE]
   refine ⟨_,rfl,by rw [List.length_append,List.length_singleton]; omega,?_⟩
   rw [List.map_cons,List.append_assoc]; rfl)
  (fun c _=>by
   show F6 (l.drop i) ((l.drop i).length:Int) c=_
   unfold F6
   rw [if_neg (by simp)]
   simp) b2 (by omega) ((0:Int),b2) rfl
 have hlast':iter (fun (a:Int × (List AC))=>F6 (l.drop i) a.1 a.2) (0,b2)=some (b2++(l.drop i).map Cz):=hlast
 rw [BD,hs,AE,hlast',AE,e4]
theorem P2 : ∀ (news l:List AC),SC l→SC news→SC (Df l news) ∧ ∀ x,x∈Df l news↔(x∈news ∧ ¬ x∈l)∨(∃ f∈l,x=Cz f ∧ ∀ c∈news,¬ At f c):=by
 intro news
 induction news with
 | nil=>
  intro l h1 _
  refine ⟨?_,fun x=>?_⟩
  ·show SC (l.map Cz)
   rw [SC,List.pairwise_map]
   exact h1
  ·show x∈l.map Cz↔_
   rw [List.mem_map]
   constructor
   ·rintro ⟨f,hf,rfl⟩; exact .inr ⟨f,hf,rfl,fun c hc=>by cases hc⟩
   ·rintro (⟨h,_⟩ | ⟨f,hf,rfl,_⟩)
    ·cases h
    ·exact ⟨f,hf,rfl⟩
 | cons c r ih=>
  intro l h1 h2
  rw [SC,List.pairwise_cons] at h2
  obtain ⟨a1,a2,a3,a4,a5,a6⟩:=Qu h1 c
  obtain ⟨b1,b2⟩:=ih _ a4 h2.2
  have hmid : ∀ x,x∈EP c (l.dropWhile (Aj c))↔x=c ∧ ¬ c∈l:=fun x=>by
   have key:(l.dropWhile (Aj c)).head? = some c↔c∈l:=by
    constructor
    ·intro h
     have:c∈l.dropWhile (Aj c):=List.mem_of_mem_head? h
     exact (List.dropWhile_sublist _).subset this
    ·intro h
     have hsplit:=List.takeWhile_append_dropWhile (p:=Aj c) (l:=l)
     rw [← hsplit] at h
     rcases List.mem_append.1 h with g | g
     ·exact ((a1 c g).irr (a1 c g)).elim
     ·cases hd:l.dropWhile (Aj c) with
      | nil=>rw [hd] at g; cases g
      | cons y s=>
       rw [hd] at g
       rcases List.mem_cons.1 g with e | g
       ·rw [e]; rfl
       ·exfalso
        have hsc:SC (l.dropWhile (Aj c)):=List.Pairwise.sublist (List.dropWhile_sublist _) h1
        rw [hd,SC,List.pairwise_cons] at hsc
        have hyc:=hsc.1 c g
        have:=List.head?_dropWhile_not (Aj c) l
        rw [hd] at this
        simp only [List.head?_cons] at this
        rw [PA.2 hyc] at this; simp at this
   unfold EP
   by_cases hh:(l.dropWhile (Aj c)).head? = some c
   ·rw [if_pos hh]; simp [key.1 hh]
   ·rw [if_neg hh]
    have : ¬ c∈l:=fun h=>hh (key.2 h)
    simp [this]
  have hmem : ∀ x,x∈Df l (c :: r)↔(∃ f∈l.takeWhile (Aj c),x=Cz f)∨(x=c ∧ ¬ c∈l)∨x∈Df (CO c (l.dropWhile (Aj c))) r:=fun x=>by
   show x∈(l.takeWhile (Aj c)).map Cz++EP c (l.dropWhile (Aj c))++Df (CO c (l.dropWhile (Aj c))) r↔_
   rw [List.mem_append,List.mem_append,or_assoc,hmid,List.mem_map]
   constructor
   ·rintro (⟨f,hf,rfl⟩ | h)
    ·exact .inl ⟨f,hf,rfl⟩
    ·exact .inr h
   ·rintro (⟨f,hf,rfl⟩ | h)
    ·exact .inl ⟨f,hf,rfl⟩
    ·exact .inr h
  have hgt : ∀ x∈Df (CO c (l.dropWhile (Aj c))) r,B6 c x:=fun x hx=>by
   rcases (b2 x).1 hx with ⟨g,_⟩ | ⟨f,g,rfl,_⟩
   ·exact h2.1 x g
   ·exact a2 f g
  refine ⟨?_,fun x=>?_⟩
  ·show SC ((l.takeWhile (Aj c)).map Cz++EP c (l.dropWhile (Aj c))++Df (CO c (l.dropWhile (Aj c))) r)
   rw [SC,List.pairwise_append,List.pairwise_append]
   refine ⟨⟨by rw [List.pairwise_map]; exact a3,by unfold EP; split <;> simp,fun x hx y hy=>?_⟩,b1,fun x hx y hy=>?_⟩
   ·obtain ⟨f,hf,rfl⟩:=List.mem_map.1 hx
    rw [((hmid y).1 hy).1]; exact a1 f hf
   ·have hy':=hgt y hy
    rcases List.mem_append.1 hx with g | g
    ·obtain ⟨f,hf,rfl⟩:=List.mem_map.1 g
     exact B6.trans (b:=c) (a1 f hf) hy'
    ·rw [((hmid x).1 g).1]; exact hy'
  ·rw [hmem,b2]
   constructor
   ·rintro (⟨f,hf,rfl⟩ | ⟨rfl,g⟩ | ⟨g1,g2⟩ | ⟨f,g1,rfl,g2⟩)
    ·refine .inr ⟨f,a5 f (.inl hf),rfl,fun c' hc' hA=>?_⟩
     have hx:=a1 f hf
     rcases List.mem_cons.1 hc' with rfl | hc'
     ·exact hx.ne hA.1 hA.2
     ·exact (hx.trans (h2.1 c' hc')).ne hA.1 hA.2
    ·exact .inl ⟨List.mem_cons_self ..,g⟩
    ·refine .inl ⟨List.mem_cons_of_mem _ g1,fun hl=>?_⟩
     have hcx:=h2.1 x g1
     rcases a6 x hl (fun hA=>hcx.ne hA.1.symm hA.2.symm) with g | g
     ·exact (a1 x g).irr hcx
     ·exact g2 g
    ·refine .inr ⟨f,a5 f (.inr g1),rfl,fun c' hc' hA=>?_⟩
     rcases List.mem_cons.1 hc' with rfl | hc'
     ·exact (a2 f g1).ne hA.1.symm hA.2.symm
     ·exact g2 c' hc' hA
   ·rintro (⟨g1,g2⟩ | ⟨f,g1,rfl,g2⟩)
    ·rcases List.mem_cons.1 g1 with rfl | g1
     ·exact .inr (.inl ⟨rfl,g2⟩)
     ·exact .inr (.inr (.inl ⟨g1,fun h=>g2 (a5 x (.inr h))⟩))
    ·rcases a6 f g1 (g2 c (List.mem_cons_self ..)) with g | g
     ·exact .inl ⟨f,g,rfl⟩
     ·exact .inr (.inr (.inr ⟨f,g,rfl,fun c' hc'=>g2 c' (List.mem_cons_of_mem _ hc')⟩))
end Go.Proofs.YtojmbndlghbpjaaGreatDoor.Al
