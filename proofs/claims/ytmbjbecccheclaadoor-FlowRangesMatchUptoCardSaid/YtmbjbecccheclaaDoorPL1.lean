/- Plain laws over the models, a part of them. -/
import Derived.Test.YtmbjbecccheclaaDoorMod1
namespace Go.Proofs.YtmbjbecccheclaaDoor.Al
@[simp] theorem AT {a α:Type} (x:a) (f:a→Option α):AN (some x) f=f x:=rfl
@[simp] theorem D2 {a b α:Type} (x:a) (y:b) (f:a→b→Option α):CY (some (x,y)) f=f x y:=rfl
@[simp] theorem Lr {a b c α:Type} (x:a) (y:b) (z:c) (f:a→b→c→Option α):JR (some (x,y,z)) f=f x y z:=rfl
@[simp] theorem Lp {a b c d α:Type} (x:a) (y:b) (z:c) (u:d) (f:a→b→c→d→Option α):LM (some (x,y,z,u)) f=f x y z u:=rfl
@[simp] theorem Lt {a α:Type} (x:a) (f:a→Option α):BJ (some (.nrm x)) f=f x:=rfl
@[simp] theorem HV {a α:Type} (t:α) (f:a→Option α):BJ (some (.ext t)) f=some t:=rfl
@[simp] theorem HZ {a b α:Type} (x:a) (y:b) (f:a→b→Option α):C1 (some (.nrm (x,y))) f=f x y:=rfl
@[simp] theorem Lq {a b α:Type} (t:α) (f:a→b→Option α):C1 (some (.ext t)) f=some t:=rfl
@[simp] theorem Ls {a b c α:Type} (x:a) (y:b) (z:c) (f:a→b→c→Option α):IQ (some (.nrm (x,y,z))) f=f x y z:=rfl
@[simp] theorem Lo {a b c α:Type} (t:α) (f:a→b→c→Option α):IQ (some (.ext t)) f=some t:=rfl
@[simp] theorem BM {α:Type} [Inhabited α] (m:Option α):gd true m=m:=rfl
@[simp] theorem Lu {α:Type} [Inhabited α] (m:Option α):gd false m=some default:=rfl
theorem A3 {α:Type} [Inhabited α] {l:List α} {k:Nat} (h:k<l.length):Ab l (k:Int)=some l[k]!:=by
 unfold Ab
 rw [if_pos (Int.natCast_nonneg k),Int.toNat_natCast,List.getElem?_eq_getElem h,getElem!_pos l k h]
theorem BX {k:Nat} (h:k<9223372036854775807):Aj .i64 ((k:Int)+1)=some (((k+1:Nat)):Int):=by
 rw [Gi (by omega) (by omega)]; rfl
theorem H1 {k:Nat} (h:0<k) (h2:k≤9223372036854775807):Aj .i64 ((k:Int)-1)=some ((k-1:Nat):Int):=by
 rw [Gi (by omega) (by omega)]; congr 1; omega
def B7 {ρ:Type} (k:Nat):Option ρ→Option (Int ⊕ A5 Unit ρ)
 | none=>some (.inl ((k+1:Nat):Int))
 | some r=>some (.inr (.ext r))
def EY {ρ:Type} : Option ρ→A5 Unit ρ
 | none=>.nrm ()
 | some r=>.ext r
theorem C3 {ρ:Type} {f:Int→Option (Int ⊕ A5 Unit ρ)} {n:Nat} (g:Nat→Option ρ) (h1 : ∀ k:Nat,k<n→f k=B7 k (g k))
  (h2:f n=some (.inr (.nrm ()))):iter f 0=some (EY ((List.range n).findSome? g)):=by
 have key : ∀ m k:Nat,k+m=n→iter f (k:Int)=some (EY ((List.range' k m).findSome? g)):=by
  intro m
  induction m with
  | zero=>
   intro k hk
   obtain rfl:k=n:=by omega
   rw [Bm h2]; rfl
  | succ m ih=>
   intro k hk
   rw [List.range'_succ,List.findSome?_cons]
   have:=h1 k (by omega)
   cases hg:g k with
   | none=>rw [hg] at this; rw [A7 this,ih (k+1) (by omega)]
   | some r=>rw [hg] at this; rw [Bm this]; rfl
 rw [List.range_eq_range']
 exact key n 0 (by omega)
theorem Ix {α ρ:Type} {l:List α} {g h:α→Option ρ} (e : ∀ x∈l,g x=h x):l.findSome? g=l.findSome? h:=by
 induction l with
 | nil=>rfl
 | cons a l ih=>rw [List.findSome?_cons,List.findSome?_cons,e a (List.mem_cons_self ..),ih fun x hx=>e x (List.mem_cons_of_mem _ hx)]
theorem HH {α ρ:Type} [Inhabited α] (l:List α) (p:α→Bool) (r:ρ):(List.range l.length).findSome? (fun k=>if p l[k]! then none else some r)=if l.all p then none else some r:=by
 induction l with
 | nil=>rfl
 | cons a l ih=>
  rw [List.length_cons,List.range_succ_eq_map,List.findSome?_cons,List.findSome?_map]
  have hr:(List.range l.length).findSome? ((fun k=>if p (a :: l)[k]! = true then none else some r) ∘ Nat.succ)=if l.all p=true then none else some r:=by
   rw [← ih]; exact Ix fun k _=>by simp
  rw [hr]
  by_cases hp:p a=true
  ·simp [hp]
  ·simp [hp]
theorem Dt {ρ:Type} (o:Option ρ) (f:Unit→Option ρ):BJ (some (EY o)) f=match o with | none=>f () | some r=>some r:=by cases o <;> rfl
def DG (c:UInt8):Bool:=(decide (97≤c.toNat) && decide (c.toNat≤122)) || (decide (48≤c.toNat) && decide (c.toNat≤57)) || decide (c.toNat=46) || decide (c.toNat=45)
def FK (s:List UInt8):Bool:=decide (1≤s.length) && decide (s.length≤24) && (decide (97≤s[0]!.toNat) && decide (s[0]!.toNat≤122)) && s.all DG
def DX (c:UInt8):Bool:=decide (32≤c.toNat) && decide (c.toNat≤126)
def FR (s:List UInt8):Bool:=decide (1≤s.length) && decide (s.length≤200) && s.all DX
theorem KQ (s:List UInt8) (k:Nat) (hk:k<s.length) (hm:s.length≤9223372036854775807):De s k=B7 k (if DG s[k]! then none else some false):=by
 unfold De
 rw [if_pos (by simpa using hk),A3 hk,AT,BX (by omega)]
 generalize s[k]! = c
 have e:(((((decide ((c.toNat:Int)<97)) || (decide (122<(c.toNat:Int)))) && ((decide ((c.toNat:Int)<48)) || (decide (57<(c.toNat:Int))))) && (!decide ((c.toNat:Int)=46))) && (!decide ((c.toNat:Int)=45))) = !DG c:=by
  unfold DG
  rw [Bool.eq_iff_iff]
  simp only [Bool.or_eq_true,Bool.and_eq_true,decide_eq_true_eq,Bool.not_eq_true',decide_eq_false_iff_not,Bool.or_eq_false_iff,Bool.and_eq_false_imp]
  omega
 rw [e]
 cases DG c <;> rfl
theorem Ku (s:List UInt8) (hm:s.length≤9223372036854775807):EO s=some (FK s):=by
 unfold EO
 rw [C3 (n:=s.length) (fun k=>if DG s[k]! then none else some false) (fun k hk=>KQ s k hk hm) (by unfold De; rw [if_neg (by simp)]),HH]
 unfold FK
 cases s with
 | nil=>simp
 | cons c t=>
  have h0:Ab (c :: t) 0=some c:=rfl
  rw [h0]
  simp only [List.getElem!_cons_zero,decide_eq_false (List.cons_ne_nil c t),Bool.false_or]
  generalize (c :: t).all DG=al
  generalize hl:(c :: t).length=L
  have hL:1≤L:=by rw [← hl]; simp
  by_cases h1:24<(L:Int)
  ·have e1:decide (L≤24)=false:=by simp; omega
   simp [h1,e1]
  ·rw [decide_eq_false h1]
   simp only [Bool.false_or,beq_self_eq_true,BM,AT]
   have e1:decide (L≤24)=true:=by simp; omega
   have e2:decide (1≤L)=true:=by simp; omega
   rw [e1,e2]
   by_cases h2:(c.toNat:Int)<97
   ·have e3:decide (97≤c.toNat)=false:=by simp; omega
    simp [h2,e3]
   ·rw [decide_eq_false h2]
    have e3:decide (97≤c.toNat)=true:=by simp; omega
    simp only [beq_self_eq_true,BM,AT,Bool.false_or]
    by_cases h3:122<(c.toNat:Int)
    ·have e4:decide (c.toNat≤122)=false:=by simp; omega
     simp [h3,e4]
    ·have e4:decide (c.toNat≤122)=true:=by simp; omega
     rw [if_neg (by simpa using h3),Dt,e3,e4]
     cases al <;> rfl
theorem GM {ρ:Type} (n:Nat) (p:Nat→Bool) (r:ρ):(List.range n).findSome? (fun k=>if p k then none else some r)=if (List.range n).all p then none else some r:=by
 generalize List.range n=l
 induction l with
 | nil=>rfl
 | cons a l ih=>rw [List.findSome?_cons,List.all_cons,]; by_cases h:p a=true <;> simp [h,ih]
theorem LQ (s:List UInt8) (hm:s.length≤9223372036854775807):D9 s=some (FR s):=by
 unfold D9 FR
 rw [C3 (n:=s.length) (fun k=>if DX s[k]! then none else some false) (fun k hk=>by
  unfold Eg
  rw [if_pos (by simpa using hk),A3 hk,AT,BX (by omega)]
  generalize s[k]! = c
  have e:((decide ((c.toNat:Int)<32)) || (decide (126<(c.toNat:Int)))) = !DX c:=by
   unfold DX
   rw [Bool.eq_iff_iff]
   simp only [Bool.or_eq_true,Bool.and_eq_true,decide_eq_true_eq,Bool.not_eq_true',decide_eq_false_iff_not,Bool.and_eq_false_imp]
   omega
  rw [e]
  cases DX c <;> rfl) (by unfold Eg; rw [if_neg (by simp)]),HH,Dt]
 generalize s.all DX=al
 cases s with
 | nil=>simp
 | cons c t=>
  rw [decide_eq_false (List.cons_ne_nil c t),Bool.false_or]
  generalize hl:(c :: t).length=L
  have hL:1≤L:=by rw [← hl]; simp
  by_cases h1:200<(L:Int)
  ·have e1:decide (L≤200)=false:=by simp; omega
   simp [h1,e1]
  ·have e1:decide (L≤200)=true:=by simp; omega
   have e2:decide (1≤L)=true:=by simp; omega
   rw [if_neg (by simpa using h1),e1,e2]
   cases al <;> rfl
theorem G4 (a b:UInt8) (x y:List UInt8):Bn (a :: x) (b :: y)=(decide (a<b) || (a == b && Bn x y)):=rfl
theorem Hp : ∀ (a b:List UInt8),(Bn a b || decide (a=b)) = !Bn b a
 | [],[]=>rfl
 | [],_ :: _=>rfl
 | _ :: _,[]=>rfl
 | a :: x,b :: y=>by
  rw [G4,G4]
  have ih:=Hp x y
  by_cases h:a=b
  ·subst h
   have h1 : ¬ a<a:=fun h=>by simp [UInt8.lt_iff_toNat_lt] at h
   simp only [decide_eq_false h1,beq_self_eq_true,Bool.true_and,Bool.false_or,List.cons.injEq,true_and]
   exact ih
  ·have h2:(a == b)=false:=by simpa using h
   have h3:(b == a)=false:=by simpa using fun e:b=a=>h e.symm
   have h4 : ¬ (a :: x=b :: y):=fun e=>h (List.cons.inj e).1
   rw [h2,h3,decide_eq_false h4]
   simp only [Bool.false_and,Bool.or_false]
   have h5:a.toNat≠b.toNat:=fun e=>h (UInt8.toNat_inj.1 e)
   by_cases hlt:a<b
   ·have : ¬ b<a:=by rw [UInt8.lt_iff_toNat_lt] at hlt ⊢; omega
    simp [hlt,this]
   ·have:b<a:=by rw [UInt8.lt_iff_toNat_lt] at hlt ⊢; omega
    simp [hlt,this]
def C6 (l:List AK):Prop:=∀ a∈l,a.Name.length≤9223372036854775807∧a.Value.length≤9223372036854775807
def FD (l:List AK) (ch:Bool) (k:Nat):Option Int:=
 if FK l[k]!.Name=false then some 9 else if FR l[k]!.Value=false ∧ ¬ (ch=true∧l[k]!.Value=[]) then some 23 else if 0<k∧Bn l[k-1]!.Name l[k]!.Name=false then some 5 else none
def Ed (l:List AK) (ch:Bool):Int:=((List.range l.length).findSome? (FD l ch)).getD 0
theorem C6.at {l:List AK} (h:C6 l) {k:Nat} (hk:k<l.length):l[k]!.Name.length≤9223372036854775807∧l[k]!.Value.length≤9223372036854775807:=by
 rw [getElem!_pos l k hk]; exact h _ (List.getElem_mem hk)
theorem Kd (l:List AK) (ch:Bool) (h:C6 l) (hm:l.length≤9223372036854775807) (k:Nat) (hk:k<l.length):Do l ch k=B7 k (FD l ch k):=by
 unfold Do FD
 obtain ⟨hn1,hn2⟩:=h.at hk
 rw [if_pos (by simpa using hk),A3 hk,AT]
 generalize l[k]! = x at hn1 hn2 ⊢
 rw [Ku _ hn1,AT]
 cases FK x.Name
 ·rfl
 rw [if_neg (by decide),if_neg (by decide),LQ _ hn2,AT,BX (by omega)]
 by_cases hv:FR x.Value=false ∧ ¬ (ch=true∧x.Value=[])
 ·rw [if_pos hv,if_pos (by simp [hv.1]; cases ch <;> simp_all)]; rfl
 rw [if_neg hv,if_neg (by intro e; simp at e; exact hv ⟨e.1,by rintro ⟨a,b⟩; simp [a,b] at e⟩)]
 by_cases hk0:k=0
 ·subst hk0; rfl
 ·have h0:decide ((0:Int)<(k:Int))=true:=by simp; omega
  rw [h0,H1 (by omega) (by omega)]
  simp only [beq_self_eq_true,BM,AT,Bool.true_and]
  rw [A3 (by omega),AT,Hp]
  have:(0<k∧Bn l[k-1]!.Name x.Name=false)↔Bn l[k-1]!.Name x.Name=false:=by constructor; exact fun h=>h.2; exact fun h=>⟨by omega,h⟩
  simp only [this]
  cases Bn l[k-1]!.Name x.Name <;> rfl
theorem LK {o:Option Int} : (BJ (some (EY o)) fun _:Unit=>some 0)=some (o.getD 0):=by cases o <;> rfl
theorem KH (l:List AK) (ch:Bool) (h:C6 l) (hm:l.length≤9223372036854775807):D7 l ch=some (Ed l ch):=by
 unfold D7
 rw [C3 (n:=l.length) (FD l ch) (fun k hk=>Kd l ch h hm k hk) (by unfold Do; rw [if_neg (by simp)]),LK]; rfl
theorem H4 (l:List AK) (h:C6 l) (hm:l.length≤9223372036854775807):DR l=some (Ed l false):=by unfold DR; rw [KH l _ h hm]; rfl
def Fw (l:List AK) (name:List UInt8):List UInt8:=((List.range l.length).findSome? fun k=>if l[k]!.Name=name then some l[k]!.Value else none).getD []
theorem Hg (x y:AK):x=y↔x.Name=y.Name∧x.Value=y.Value:=by cases x; cases y; simp
theorem Ln (a b:List AK) (hm:a.length≤9223372036854775807):G6 a b=some (decide (a=b)):=by
 unfold G6
 by_cases hl:a.length=b.length
 ·rw [if_neg (by simp [hl]),C3 (n:=a.length) (fun k=>if decide (a[k]! = b[k]!) then none else some false) (fun k hk=>by
   unfold Fu
   rw [if_pos (by simpa using hk),A3 hk,A3 (by omega),AT,AT,BX (by omega)]
   generalize a[k]! = x
   generalize b[k]! = y
   by_cases h:x=y
   ·subst h; simp [B7]
   ·have h':=h; rw [Hg] at h'
    simp only [decide_eq_false h,Bool.and_true]
    by_cases h1:x.Name=y.Name
    ·have h2 : ¬ x.Value=y.Value:=fun e=>h' ⟨h1,e⟩
     simp [h1,h2,B7]
    ·simp [h1,B7]) (by unfold Fu; rw [if_neg (by simp)]),GM,Dt]
  by_cases h:a=b
  ·subst h; simp
  ·rw [decide_eq_false h]
   have:((List.range a.length).all fun k=>decide (a[k]! = b[k]!))=false:=by
    rw [← Bool.not_eq_true,List.all_eq_true]
    intro hall
    apply h
    apply List.ext_getElem hl
    intro k h1 h2
    have:=hall k (List.mem_range.2 h1)
    simp only [decide_eq_true_eq] at this
    rwa [getElem!_pos a k h1,getElem!_pos b k h2] at this
   rw [this]; rfl
 ·rw [if_pos (by simp; omega),decide_eq_false (by rintro rfl; exact hl rfl)]
theorem Is (a b:List AK) (hm:a.length≤9223372036854775807):C5 a b=some (decide (a=b)):=by
 unfold C5
 by_cases hl:a.length=b.length
 ·rw [if_neg (by simp [hl]),C3 (n:=a.length) (fun k=>if decide (a[k]! = b[k]!) then none else some false) (fun k hk=>by
   unfold EU
   rw [if_pos (by simpa using hk),A3 hk,A3 (by omega),AT,AT,BX (by omega)]
   generalize a[k]! = x
   generalize b[k]! = y
   by_cases h:x=y
   ·subst h; simp [B7]
   ·have h':=h; rw [Hg] at h'
    simp only [decide_eq_false h,Bool.and_true]
    by_cases h1:x.Name=y.Name
    ·have h2 : ¬ x.Value=y.Value:=fun e=>h' ⟨h1,e⟩
     simp [h1,h2,B7]
    ·simp [h1,B7]) (by unfold EU; rw [if_neg (by simp)]),GM,Dt]
  by_cases h:a=b
  ·subst h; simp
  ·rw [decide_eq_false h]
   have:((List.range a.length).all fun k=>decide (a[k]! = b[k]!))=false:=by
    rw [← Bool.not_eq_true,List.all_eq_true]
    intro hall
    apply h
    apply List.ext_getElem hl
    intro k h1 h2
    have:=hall k (List.mem_range.2 h1)
    simp only [decide_eq_true_eq] at this
    rwa [getElem!_pos a k h1,getElem!_pos b k h2] at this
   rw [this]; rfl
 ·rw [if_pos (by simp; omega),decide_eq_false (by rintro rfl; exact hl rfl)]
theorem IA {α:Type} [Inhabited α] {l:List α} {k:Nat} (h:k<l.length):l.drop k=l[k]! :: l.drop (k+1):=by
 rw [List.drop_eq_getElem_cons h,getElem!_pos l k h]
theorem LR {α:Type} [Inhabited α] {l:List α} {k:Nat} (h:k<l.length):l[k]! ∈ l:=by
 rw [getElem!_pos l k h]; exact List.getElem_mem h
theorem Fv (x lo hi:Int):DD x lo hi=some (decide (lo≤x) && decide (x≤hi)):=by
 unfold DD
 rfl
theorem Ha (a b:List Int) (hm:a.length≤9223372036854775807):Ds a b=some (decide (a=b)):=by
 unfold Ds
 by_cases hl:a.length=b.length
 ·rw [if_neg (by simp [hl]),C3 (n:=a.length) (fun k=>if decide (a[k]! = b[k]!) then none else some false) (fun k hk=>by
   unfold EK
   rw [if_pos (by simpa using hk),A3 hk,A3 (by omega),AT,AT,BX (by omega)]
   generalize a[k]! = x
   generalize b[k]! = y
   by_cases h:x=y
   ·subst h; simp [B7]
   ·simp [h,B7]) (by unfold EK; rw [if_neg (by simp)]),GM,Dt]
  by_cases h:a=b
  ·subst h; simp
  ·rw [decide_eq_false h]
   have:((List.range a.length).all fun k=>decide (a[k]! = b[k]!))=false:=by
    rw [← Bool.not_eq_true,List.all_eq_true]
    intro hall
    apply h
    apply List.ext_getElem hl
    intro k h1 h2
    have:=hall k (List.mem_range.2 h1)
    simp only [decide_eq_true_eq] at this
    rwa [getElem!_pos a k h1,getElem!_pos b k h2] at this
   rw [this]; rfl
 ·rw [if_pos (by simp; omega),decide_eq_false (by rintro rfl; exact hl rfl)]
def Bl (c:Int):Bool:=decide (c=9) || decide (c=10) || (decide (32≤c) && decide (c≤126)) || (decide (160≤c) && decide (c≤55295)) || (decide (57344≤c) && decide (c≤1114111))
def Dv (x:AE):Int:=
 if (x.Char=0∧x.Ref=0)∨(x.Char≠0∧x.Ref≠0) then 4 else if (x.Char≠0∧Bl x.Char=false)∨(x.Ref≠0 ∧ ¬ (1≤x.Ref∧x.Ref≤1073741824)) then 2 else Ed x.Attrs false
def HP (x:AE):Prop:=x.Attrs.length≤9223372036854775807∧C6 x.Attrs
theorem E7 (c:Int):C8 c=some (Bl c):=by
 unfold C8 Bl
 congr 1
 rw [Bool.eq_iff_iff]
 simp only [Bool.or_eq_true,Bool.and_eq_true,decide_eq_true_eq]
 omega
theorem JQ (c:Int):El c=some (Bl c):=by
 unfold El Bl
 rw [Fv,Fv,Fv]
 generalize decide (c=9)=a1
 generalize decide (c=10)=a2
 generalize (decide (32≤c) && decide (c≤126))=a3
 generalize (decide (160≤c) && decide (c≤55295))=a4
 generalize (decide (57344≤c) && decide (c≤1114111))=a5
 cases a1 <;> cases a2 <;> cases a3 <;> cases a4 <;> cases a5 <;> rfl
theorem Ka (x:AE) (h:HP x):EG x=some (Dv x):=by
 unfold EG Dv
 rw [E7,H4 _ h.2 h.1]
 by_cases c:x.Char=0
 ·by_cases r:x.Ref=0
  ·simp [c,r]
  ·by_cases q:1≤x.Ref∧x.Ref≤1073741824
   ·have q1 : ¬ x.Ref<1:=by omega
    have q2 : ¬ 1073741824<x.Ref:=by omega
    simp [c,r,q,q1,q2]
   ·have q1:x.Ref<1∨1073741824<x.Ref:=by omega
    simp [c,r,q,q1]
 ·by_cases r:x.Ref=0
  ·cases hc:Bl x.Char <;> simp [c,r,hc]
  ·simp [c,r]
def DH (f:List AE) (k:Nat):Option Int:=if Dv f[k]! = 0 then none else some (Dv f[k]!)
def Fy (f:List AE):Int:=((List.range f.length).findSome? (DH f)).getD 0
def It:List UInt8:=[104,105,100,100,101,110]
def JX:List UInt8:=[111,110]
def JW:List UInt8:=[99,117,116]
def K0:List UInt8:=[97,100,100]
def GZ (x:AE) (mode:Int):Bool:=decide (Fw x.Attrs It=JX) || (decide (mode=0) && !decide (Fw x.Attrs JW=[])) || (decide (mode=1) && !decide (Fw x.Attrs K0=[]))
def Ay (f:List AE) (mode:Int) (k:Nat):Bool:=!GZ f[k]! mode || (decide (k+1=f.length) && decide (f[k]!.Char=10))
theorem Jv {p:Prop} [Decidable p] (h : ¬ p):(!decide p)=true:=by simp [h]
theorem Jd {p:Prop} [Decidable p] (h:p) : ¬ ((!decide p)=true):=by simp [h]
def D0 (l:List AK):Prop:=l.length≤1073741824∧C6 l
inductive Un where
 | a (e:AE)
 | r (cut:Bool) (at_:List AK)
theorem IV {α:Type} {o xs:List α} (h:o.length+xs.length≤1099511627776):BR 40 o xs=some (o++xs):=by
 unfold BR; rw [if_pos]; omega
def BN (n:List UInt8):List AK:=[⟨n,[111,110]⟩]
theorem Km (n:List UInt8):Fa n=some (BN n):=rfl
theorem KL {κ:AK→Nat} (h3 : ∀ a,a.Name.length+a.Value.length+1≤κ a) {l:List AK} (hb:(l.map κ).sum≤1048576):D0 l:=by
 have h1:=HD (μ:=κ) (fun a=>by have:=h3 a; omega) l
 refine ⟨by omega,fun a ha=>?_⟩
 have h2:=HA (μ:=κ) ha
 have:=h3 a
 omega
theorem KP {ν:AE→Nat} {κ:AK→Nat} (h2 : ∀ e,(e.Attrs.map κ).sum+1≤ν e) (h3 : ∀ a,a.Name.length+a.Value.length+1≤κ a) {f:List AE} (hb:(f.map ν).sum≤1048576):f.length≤1048576 ∧ ∀ e∈f,D0 e.Attrs:=by
 have h1:=HD (μ:=ν) (fun e=>by have:=h2 e; omega) f
 refine ⟨by omega,fun e he=>KL h3 ?_⟩
 have h4:=HA (μ:=ν) he
 have:=h2 e
 omega
def W0:IF:=⟨[],0,0⟩
def E8 (f:List AE):Int:=if Fy f≠0 then Fy f else if f=[]∨f[f.length-1]!.Char≠10 then 11 else 0
theorem Iv {f:List AE} {k:Nat} {r:Int} (h:DH f k=some r):r≠0:=by
 unfold DH at h
 split at h
 ·cases h
 ·rename_i hne; cases h; exact hne
theorem Jb (f:List AE) (hm:f.length≤1073741824):(BJ (some (EY ((List.range f.length).findSome? (DH f)))) fun (_:Unit)=>
  AN (gd ((true == true) && ((decide ((f.length:Int)=0)) == false)) (Aj .i64 ((f.length:Int)-1))) fun (x4:Int)=>
  AN (gd ((true == true) && ((decide ((f.length:Int)=0)) == false)) (Ab f x4)) fun (x5:AE)=>
  if (true && ((decide ((f.length:Int)=0)) || (!decide (x5.Char=10)))) then some (11:Int) else some 0)=some (E8 f):=by
 rw [Dt]
 unfold E8 Fy
 cases hr:(List.range f.length).findSome? (DH f) with
 | some r=>
  have hne:r≠0:=by
   obtain ⟨k,hk⟩:=List.exists_of_findSome?_eq_some hr
   exact Iv hk.2
  dsimp only [Option.getD]
  rw [if_pos hne]
 | none=>
  dsimp only [Option.getD]
  rw [if_neg (by decide)]
  by_cases hl:f=[]
  ·subst hl; rfl
  ·have h0:0<f.length:=List.length_pos_iff.2 hl
   have hd:decide ((f.length:Int)=0)=false:=decide_eq_false (by omega)
   rw [hd,show ((true == true) && (false == false))=true from rfl,BM,show ((f.length:Int)-1)=((f.length-1:Nat):Int) by omega,Gi (by omega) (by omega),AT,BM,A3 (by omega),AT]
   by_cases hc:f[f.length-1]!.Char=10
   ·rw [if_neg (by rw [decide_eq_true hc]; decide),if_neg (fun h=>h.elim hl fun h=>h hc)]
   ·rw [if_pos (by rw [decide_eq_false hc]; decide),if_pos (.inr hc)]
theorem KE (f:List AE) (h : ∀ x∈f,HP x) (hm:f.length≤1073741824):EI f true=some (E8 f):=by
 unfold EI
 rw [C3 (n:=f.length) (DH f) (fun k hk=>by
  unfold ES DH
  rw [if_pos (by simpa using hk),A3 hk,AT,BX (by omega),Ka _ (h _ (LR hk)),AT]
  by_cases e:Dv f[k]! = 0
  ·rw [if_neg (Jd e),if_pos e]; rfl
  ·rw [if_pos (Jv e),if_neg e]; rfl) (by unfold ES; rw [if_neg (by simp)])]
 exact Jb f hm
instance:Inhabited Un:=⟨.r false []⟩
def off (n:List UInt8):AK:=⟨n,[]⟩
theorem G9 (c:UInt8) (s:List UInt8) (h:c.toNat<128):Ee (c :: s)=some ((c.toNat:Int),1):=by
 unfold Ee
 have e0:Ab (c :: s) 0=some c:=rfl
 rw [decide_eq_false (by simp),show ((!false) == true)=true from rfl,BM,e0,AT,Bool.not_false,Bool.true_and,if_pos (by rw [decide_eq_true_eq]; omega),AT]
 have:IntKind.i32.wrap (c.toNat:Int)=(c.toNat:Int):=by
  have h1 : ∀ n:Nat,n<128→IntKind.i32.wrap (n:Int)=(n:Int):=by decide +kernel
  exact h1 _ h
 rw [this]
theorem Ho (l:List AK) (h:l.length≤1073741824):BR 32 ([]:List AK) l=some l:=by
 unfold BR
 rw [if_pos (by simp only [List.length_nil]; omega)]; rfl
theorem LY (at_:List AK) (ha:D0 at_) (he:Ed at_ false=0):EA [97,98] at_=some ([⟨97,0,at_⟩,⟨98,0,at_⟩],0):=by
 have hl:=ha.1
 have w1:IntKind.i64.wrap ((97:UInt8).toNat:Int)=97:=by decide +kernel
 have w2:IntKind.i64.wrap ((98:UInt8).toNat:Int)=98:=by decide +kernel
 have c1:Bl 97=true:=by decide
 have c2:Bl 98=true:=by decide
 unfold EA
 rw [H4 _ ha.2 (by omega),AT,he,if_neg (by decide)]
 have l1:Bs at_ [97,98] []=some (.inl ([98],[⟨97,0,at_⟩])):=by
  unfold Bs
  rw [if_pos (by decide),G9 97 [98] (by decide),D2,if_neg (by decide),w1,E7,AT,c1,if_neg (by decide),Ho _ hl,AT,IV (by simp),AT]
  rfl
 have l2:Bs at_ [98] [⟨97,0,at_⟩]=some (.inl ([],[⟨97,0,at_⟩,⟨98,0,at_⟩])):=by
  unfold Bs
  rw [if_pos (by decide),G9 98 [] (by decide),D2,if_neg (by decide),w2,E7,AT,c2,if_neg (by decide),Ho _ hl,AT,IV (by simp),AT]
  rfl
 have l3:Bs at_ [] [⟨97,0,at_⟩,⟨98,0,at_⟩]=some (.inr (.nrm [⟨97,0,at_⟩,⟨98,0,at_⟩])):=by
  unfold Bs
  rw [if_neg (by decide)]
 have:=(A7 (f:=fun (a:(List UInt8) × (List AE))=>Bs at_ a.1 a.2) (s:=([97,98],[])) l1).trans ((A7 (f:=fun (a:(List UInt8) × (List AE))=>Bs at_ a.1 a.2) (s:=([98],[⟨97,0,at_⟩])) l2).trans (Bm (f:=fun (a:(List UInt8) × (List AE))=>Bs at_ a.1 a.2) (s:=([],[⟨97,0,at_⟩,⟨98,0,at_⟩])) l3))
 rw [this]; rfl
theorem Jn (s:List UInt8) (h:s.length≤100):D0 (BN s):=by
 refine ⟨by simp [BN],fun a ha=>?_⟩
 have:a=(⟨s,[111,110]⟩:AK):=by simpa [BN] using ha
 subst this
 simp; omega
theorem LE:ER=some true:=by
 unfold ER
 have h1:D0 (BN [98,111,108,100]):=Jn _ (by decide)
 have h2:Ed (BN [98,111,108,100]) false=0:=by decide +kernel
 rw [Km,AT,LY _ h1 h2,D2]
 have i0:Ab ([⟨97,0,BN [98,111,108,100]⟩,⟨98,0,BN [98,111,108,100]⟩]:List AE) 0=some ⟨97,0,BN [98,111,108,100]⟩:=rfl
 have i1:Ab ([⟨97,0,BN [98,111,108,100]⟩,⟨98,0,BN [98,111,108,100]⟩]:List AE) 1=some ⟨98,0,BN [98,111,108,100]⟩:=rfl
 rw [i0,i1,KE [] (by simp) (by simp)]
 have i2:C5 (BN [98,111,108,100]) (BN [98,111,108,100])=some true:=by rw [Is _ _ (by decide),decide_eq_true rfl]
 have i3:E8 []=11:=rfl
 rw [i3]
 show (AN (gd _ (C5 (BN [98,111,108,100]) (BN [98,111,108,100]))) fun (r5:Bool)=>_)=some true
 rw [i2]; rfl
theorem Gw (c:Int) : -2147483648≤IntKind.i32.wrap c∧IntKind.i32.wrap c≤2147483647:=by
 simp only [IntKind.wrap,IntKind.bits,IntKind.signed]
 have h1:=Int.emod_nonneg c (show (4294967296:Int)≠0 by decide)
 have h2:=Int.emod_lt_of_pos c (show (0:Int)<4294967296 by decide)
 constructor <;> (simp; split <;> omega)
def CI (c:Int):Bool:=Lib.isLetterU (IntKind.i32.wrap c)
def Ce (c:Int):Bool:=Lib.isDigitU (IntKind.i32.wrap c)
theorem Hl (c:Int):Dl (IntKind.i32.wrap c)=some (CI c):=by
 unfold Dl FL CI; rw [if_pos (Gw c)]
theorem HL (c:Int):DS (IntKind.i32.wrap c)=some (Ce c):=by
 unfold DS Eo Ce; rw [if_pos (Gw c)]
def CB (x:AE):Bool:=decide (x.Ref=0) && Bl x.Char && (CI x.Char || Ce x.Char)
theorem KI (x:AE):EC [x]=some (if decide (x.Ref=0) && (CI x.Char || Ce x.Char) then 1 else 0):=by
 have s1:CT [x] 0 false 0=some (.inl ((if decide (x.Ref=0) && (CI x.Char || Ce x.Char) then 1 else 0),(decide (x.Ref=0) && (CI x.Char || Ce x.Char)),1)):=by
  unfold CT
  rw [if_pos (by simp)]
  have i0:Ab [x] 0=some x:=rfl
  rw [i0,AT,Hl,HL]
  have c1:Aj .i64 (0+1)=some 1:=by decide +kernel
  rw [c1]
  cases hr:decide (x.Ref=0) <;> cases CI x.Char <;> cases Ce x.Char <;> rfl
 have s2 : ∀ n b,CT [x] n b 1=some (.inr n):=by
  intro n b; unfold CT; rw [if_neg (by simp)]
 unfold EC
 rw [A7 (f:=fun (a:Int × Bool × Int)=>CT [x] a.1 a.2.1 a.2.2) (s:=(0,false,0)) s1,Bm (f:=fun (a:Int × Bool × Int)=>CT [x] a.1 a.2.1 a.2.2) (s2 _ _)]
 rfl
theorem Fj (x:AE):Co x=some (CB x):=by
 unfold Co CB
 rw [JQ,KI,AT]
 cases Bl x.Char <;> cases decide (x.Ref=0) <;> cases CI x.Char <;> cases Ce x.Char <;> rfl
def A2 (l:List (Int × Int)):List Int:=l.flatMap fun p=>[p.1,p.2]
def A4 (l:List (Int × Int)):List (List RV):=l.map fun p=>[.int .i64 p.1,.int .i64 p.2]
theorem EW (l:List (Int × Int)):(A2 l).length=2 * l.length:=by
 induction l with
 | nil=>rfl
 | cons a l ih=>rw [A2,List.flatMap_cons]; simp only [List.length_append,List.length_cons,List.length_nil]; rw [show (l.flatMap fun p=>[p.1,p.2])=A2 l from rfl,ih]; omega
theorem FA (l:List (Int × Int)) (a b:Int):A2 (l++[(a,b)])=A2 l++[a,b]:=by simp [A2]
theorem Es (l:List (Int × Int)) (a b:Int):A4 (l++[(a,b)])=A4 l++[[.int .i64 a,.int .i64 b]]:=by simp [A4]
theorem E9 {o:List Int} {a b:Int} (h:o.length≤8796093022208):BR 8 o [a,b]=some (o++[a,b]):=by
 unfold BR; rw [if_pos]; simp; omega
theorem GO {F:List Int→Int→Int→Option (List Int)} (hF : ∀ o a b,o.length≤8796093022208→F o a b=some (o++[a,b])) (l:List (Int × Int)) : ∀ o:List Int,o.length+2 * l.length≤8796093022208→BT (fun s=>m2 (F s)) (A4 l) o=some (o++A2 l):=by
 induction l with
 | nil=>intro o _; simp [A4,BT,A2]
 | cons p l ih=>
  intro o ho
  rw [List.length_cons] at ho
  show (BT _ ([.int .i64 p.1,.int .i64 p.2] :: A4 l) o)=_
  rw [BT]
  show ((F o p.1 p.2).bind (BT (fun s=>m2 (F s)) (A4 l)))=_
  rw [hF _ _ _ (by omega)]
  show BT _ (A4 l) _=_
  rw [ih _ (by simp; omega),List.append_assoc]
  rfl
theorem H8 {F:List Int→Int→Int→Option (List Int)} (hF : ∀ o a b,o.length≤8796093022208→F o a b=some (o++[a,b])) (l:List (Int × Int)) (a b:Int) (h:l.length≤1099511627776):CF (fun s=>m2 (F s)) [] (A4 l++[[.int .i64 a,.int .i64 b]])=some true:=by
 unfold CF
 rw [← Es,GO hF _ [] (by simp; omega)]
 rfl
theorem Gv (o:List Int) (a b:Int) (h:o.length≤8796093022208):Cu o a b=some (o++[a,b]):=by
 unfold Cu; rw [E9 h,AT]
theorem IY (o:List Int) (a b:Int) (h:o.length≤8796093022208):Cz o a b=some (o++[a,b]):=by
 unfold Cz; rw [E9 h,AT]
theorem KZ (f:List AE) (hm:f.length≤1073741824) {A:List (List RV)→Option Bool} (hA : ∀ (l:List (Int × Int)) a b,l.length≤1099511627776→A (A4 l++[[.int .i64 a,.int .i64 b]])=some true) :
  ∀ (n i:Nat) (from_:Int) (ys:List (Int × Int)),f.length-i=n→i≤f.length→ys.length≤i →
  ∃ ys',ys'.length≤f.length∧iter (fun (a:Int × Int × (List (List RV)))=>Bw A f a.1 a.2.1 a.2.2) (from_,(i:Int),A4 ys)=some (.ext (A4 ys')) ∧
   iter (fun (a:Int × Int × (List Int))=>Bx f a.1 a.2.1 a.2.2) (from_,(i:Int),A2 ys)=some (A2 ys'):=by
 intro n
 induction n with
 | zero=>
  intro i from_ ys hn hi hy
  obtain rfl:i=f.length:=by omega
  refine ⟨ys,hy,Bm ?_,Bm ?_⟩
  ·show Bw A f _ _ _=_
   unfold Bw; rw [if_neg (by simp)]
  ·show Bx f _ _ _=_
   unfold Bx; rw [if_neg (by simp)]
 | succ n ih=>
  intro i from_ ys hn hi hy
  have hlt:i<f.length:=by omega
  by_cases hc:f[i]!.Char=10∧f[i]!.Ref=0
  ·obtain ⟨ys',h1,h2,h3⟩:=ih (i+1) ((i+1:Nat):Int) (ys++[(from_,((i+1:Nat):Int))]) (by omega) (by omega) (by simp; omega)
   refine ⟨ys',h1,(A7 ?_).trans h2,(A7 ?_).trans h3⟩
   ·show Bw A f _ _ _=_
    unfold Bw
    rw [if_pos (by simpa using hlt),A3 hlt,AT,if_neg (by rw [decide_eq_true hc.1,decide_eq_true hc.2]; decide),BX (by omega),AT,hA _ _ _ (by omega),AT,if_neg (by decide),HZ,AT,Es]
   ·show Bx f _ _ _=_
    unfold Bx
    rw [if_pos (by simpa using hlt),A3 hlt,AT,if_pos (by rw [decide_eq_true hc.1,decide_eq_true hc.2]; decide),BX (by omega),AT,E9 (by rw [EW]; omega),AT,D2,AT,FA]
  ·obtain ⟨ys',h1,h2,h3⟩:=ih (i+1) from_ ys (by omega) (by omega) (by omega)
   refine ⟨ys',h1,(A7 ?_).trans h2,(A7 ?_).trans h3⟩
   ·show Bw A f _ _ _=_
    unfold Bw
    rw [if_pos (by simpa using hlt),A3 hlt,AT,if_pos (by
     simp only [Bool.or_eq_true,Bool.not_eq_true',decide_eq_false_iff_not]
     by_cases h:f[i]!.Char=10
     ·exact .inr fun h'=>hc ⟨h,h'⟩
     ·exact .inl h),HZ,BX (by omega),AT]
   ·show Bx f _ _ _=_
    unfold Bx
    rw [if_pos (by simpa using hlt),A3 hlt,AT,if_neg (by
     simp only [Bool.and_eq_true,decide_eq_true_eq]; exact hc),D2,BX (by omega),AT]
def Av (f:List AE) (k:Nat):Bool:=decide (k<f.length) && CB f[k]!
def CD (f:List AE) (k:Nat):Nat:=k+((f.drop k).takeWhile CB).length
theorem EN {f:List AE} {k:Nat} (h:Av f k=false):CD f k=k:=by
 unfold CD Av at *
 by_cases hk:k<f.length
 ·rw [decide_eq_true hk,Bool.true_and] at h
  rw [IA hk,List.takeWhile_cons,h]; simp
 ·rw [List.drop_eq_nil_of_le (by omega)]; rfl
theorem Gb {f:List AE} {k:Nat} (h:Av f k=true):CD f k=CD f (k+1):=by
 unfold CD Av at *
 simp only [Bool.and_eq_true,decide_eq_true_eq] at h
 rw [IA h.1,List.takeWhile_cons,if_pos h.2,List.length_cons]; omega
theorem KU (f:List AE) (hm:f.length≤1073741824) : ∀ (n k:Nat),f.length-k=n→k≤f.length→iter (fun (a:Int)=>CO f a) (k:Int)=some ((CD f k:Nat):Int):=by
 intro n
 induction n with
 | zero=>
  intro k hn hk
  obtain rfl:k=f.length:=by omega
  rw [EN (by unfold Av; simp)]
  refine Bm ?_
  show CO f _=_
  unfold CO
  rw [decide_eq_false (by omega)]
  rfl
 | succ n ih=>
  intro k hn hk
  have hlt:k<f.length:=by omega
  by_cases hw:CB f[k]! = true
  ·rw [Gb (by unfold Av; rw [decide_eq_true hlt,hw]; rfl),← ih (k+1) (by omega) (by omega)]
   refine A7 ?_
   show CO f _=_
   unfold CO
   rw [decide_eq_true (by omega),show (true == true)=true from rfl,BM,A3 hlt,AT,BM,Fj,AT,hw,if_pos (by decide),BX (by omega),AT]
  ·rw [EN (by unfold Av; simp only [Bool.not_eq_true] at hw; rw [hw,Bool.and_false])]
   refine Bm ?_
   show CO f _=_
   unfold CO
   rw [decide_eq_true (by omega),show (true == true)=true from rfl,BM,A3 hlt,AT,BM,Fj,AT,if_neg (by simpa using hw)]
theorem Hz (f:List AE) (hm:f.length≤1073741824) {A:List (List RV)→Option Bool} (i:Nat) (hi:i<f.length+1) (from_:Int) (ys:List (List RV)) (hA:A (ys++[[.int .i64 from_,.int .i64 (i:Int)]])=some true) :
  CX A f ((f.length+1:Nat):Int) from_ (i:Int) ys =
   some (.inl ((if Av f i=true then (if from_<0 then (i:Int) else from_) else (if 0≤from_ then -1 else from_)),((i+1:Nat):Int),if Av f i=false∧0≤from_ then ys++[[.int .i64 from_,.int .i64 (i:Int)]] else ys)):=by
 unfold CX
 rw [if_pos (by simp; omega)]
 have key : ∀ b:Bool,(C1 (
   if (b && (decide (from_<0))) then (
    some (.nrm ((i:Int),ys))
   ) else (
    if ((!b) && (decide (0≤from_))) then (
     AN (A (ys++[[.int .i64 from_,.int .i64 (i:Int)]])) fun (c2:Bool)=>
     if (!c2) then (
      some (.ext (.inr (.ext (ys++[[.int .i64 from_,.int .i64 (i:Int)]]))))
     ) else (
      some (.nrm ((-1),(ys++[[.int .i64 from_,.int .i64 (i:Int)]])))
     )
    ) else (
     some (.nrm (from_,ys))
    )
   )) fun (from4:Int) (ys5:List (List RV))=>
  AN (Aj .i64 ((i:Int)+1)) fun (x5:Int)=>
  some (.inl (from4,x5,ys5)))=(some (.inl ((if b=true then (if from_<0 then (i:Int) else from_) else (if 0≤from_ then -1 else from_)),((i+1:Nat):Int),if b=false∧0≤from_ then ys++[[.int .i64 from_,.int .i64 (i:Int)]] else ys)):Option ((Int × Int × (List (List RV))) ⊕ (A5 Unit (List (List RV))))):=by
  intro b
  rw [BX (by omega),hA]
  by_cases h0:from_<0
  ·have h1 : ¬ 0≤from_:=by omega
   cases b <;> simp [h0,h1]
  ·have h1:0≤from_:=by omega
   cases b <;> simp [h0,h1]
 by_cases hlt:i<f.length
 ·have e1:Av f i=(((decide ((i:Int)<(f.length:Int))) && (decide (f[i]!.Ref=0))) && Bl f[i]!.Char && (CI f[i]!.Char || Ce f[i]!.Char)):=by
   unfold Av CB
   rw [decide_eq_true hlt,decide_eq_true (show (i:Int)<f.length by omega)]
   simp [Bool.and_assoc]
  rw [decide_eq_true (show (i:Int)<f.length by omega)] at e1 ⊢
  rw [show (true == true)=true from rfl,BM,A3 hlt,AT,e1,← key]
  simp only [E7,Hl,HL]
  generalize f[i]! = x
  obtain ⟨x1,x2,x3⟩:=x
  dsimp only
  cases decide (x2=0)
  ·rfl
  ·simp only [Bool.and_self,Bool.true_and,beq_self_eq_true,BM,AT]
   cases Bl x1
   ·rfl
   ·simp only [Bool.and_self,Bool.true_and,beq_self_eq_true,BM,AT]
    cases CI x1
    ·simp only [beq_self_eq_true,Bool.and_self,BM,AT]
    ·rfl
 ·have e1:Av f i=false:=by unfold Av; rw [decide_eq_false hlt]; rfl
  rw [e1,decide_eq_false (show ¬ (i:Int)<f.length by omega),← key]
  rfl
theorem I7 (f:List AE) (hm:f.length≤1073741824) (i:Nat) (hi:i<f.length) (d:List Int) (hd:d.length≤2199023255552) :
  CU f (i:Int) d=some (.inl (((i+1:Nat):Int),if Av f i=true∧(i=0∨Av f (i-1)=false) then d++[(i:Int),((CD f i:Nat):Int)] else d)):=by
 unfold CU
 rw [if_pos (by simpa using hi),A3 hi,AT,Fj,AT,BX (by omega),KU f hm _ i rfl (by omega)]
 have happ:=fun (a b:Int)=>E9 (o:=d) (a:=a) (b:=b) (by omega)
 simp only [happ,AT]
 have e1:Av f i=CB f[i]!:=by unfold Av; rw [decide_eq_true hi,Bool.true_and]
 rw [e1]
 generalize CB f[i]! = b
 cases b
 ·simp [default]
 ·by_cases h0:i=0
  ·subst h0; simp [default]
  ·have h1:i-1<f.length:=by omega
   have e2:Av f (i-1)=CB f[i-1]!:=by unfold Av; rw [decide_eq_true h1,Bool.true_and]
   rw [H1 (by omega) (by omega),e2,decide_eq_true (show (0:Int)<(i:Int) by omega)]
   show AN (AN (gd true (some ((i-1:Nat):Int))) _) _=_
   rw [BM,AT]
   show AN (AN (gd true (Ab f ((i-1:Nat):Int))) _) _=_
   rw [BM,A3 h1,AT]
   show AN (AN (gd true (Co f[i-1]!)) _) _=_
   rw [BM,Fj,AT]
   generalize CB f[i-1]! = c
   cases c <;> simp [h0]
theorem Kz (f:List AE) (hm:f.length≤1073741824) {A:List (List RV)→Option Bool} (hA : ∀ (l:List (Int × Int)) a b,l.length≤1099511627776→A (A4 l++[[.int .i64 a,.int .i64 b]])=some true) :
  ∀ (n i:Nat) (from_:Int) (ys:List (Int × Int)) (d:List Int),f.length-i=n→i≤f.length→ys.length≤i →
   ((from_ = -1∧(i=0∨Av f (i-1)=false)∧d=A2 ys)∨(0≤from_∧0<i∧Av f (i-1)=true∧d=A2 ys++[from_,((CD f i:Nat):Int)])) →
  ∃ ys',ys'.length≤f.length+1∧iter (fun (a:Int × Int × (List (List RV)))=>CX A f ((f.length+1:Nat):Int) a.1 a.2.1 a.2.2) (from_,(i:Int),A4 ys)=some (.ext (A4 ys')) ∧
   iter (fun (a:Int × (List Int))=>CU f a.1 a.2) ((i:Int),d)=some (A2 ys'):=by
 intro n
 induction n with
 | zero=>
  intro i from_ ys d hn hi hy hJ
  obtain rfl:i=f.length:=by omega
  have hw:Av f f.length=false:=by unfold Av; simp
  have hend : ∀ fr l,CX A f ((f.length+1:Nat):Int) fr ((f.length+1:Nat):Int) l=some (.inr (.ext l)):=by
   intro fr l; unfold CX; rw [if_neg (by simp)]
  have hlaw : ∀ d,CU f (f.length:Int) d=some (.inr d):=by
   intro d; unfold CU; rw [if_neg (by simp)]
  have hstep:=Hz f hm (A:=A) f.length (by omega) from_ (A4 ys) (hA _ _ _ (by omega))
  rcases hJ with ⟨rfl,_,rfl⟩ | ⟨h0,_,_,rfl⟩
  ·refine ⟨ys,by omega,(A7 (s':=(-1,((f.length+1:Nat):Int),A4 ys)) ?_).trans (Bm ?_),Bm ?_⟩
   ·exact hstep.trans (by rw [hw]; rfl)
   ·exact hend _ _
   ·exact hlaw _
  ·refine ⟨ys++[(from_,(f.length:Int))],by simp; omega,(A7 (s':=(-1,((f.length+1:Nat):Int),A4 (ys++[(from_,(f.length:Int))]))) ?_).trans (Bm ?_),Bm ?_⟩
   ·exact hstep.trans (by rw [hw,Es,if_neg (by decide),if_pos h0,if_pos ⟨rfl,h0⟩])
   ·exact hend _ _
   ·rw [EN hw,FA]; exact hlaw _
 | succ n ih=>
  intro i from_ ys d hn hi hy hJ
  have hlt:i<f.length:=by omega
  have hstep:=Hz f hm (A:=A) i (by omega) from_ (A4 ys) (hA _ _ _ (by omega))
  have hdl:d.length≤2199023255552:=by
   rcases hJ with ⟨_,_,rfl⟩ | ⟨_,_,_,rfl⟩
   ·rw [EW]; omega
   ·rw [List.length_append,EW]; simp; omega
  have hlaw:=I7 f hm i hlt d hdl
  have hsub:i+1-1=i:=by omega
  cases hw:Av f i with
  | true=>
   rw [hw,if_pos rfl,if_neg (show ¬ (true=false∧0≤from_) by simp)] at hstep
   rcases hJ with ⟨rfl,hp,rfl⟩ | ⟨h0,hp,hpw,rfl⟩
   ·rw [if_pos (by decide)] at hstep
    rw [hw,if_pos ⟨rfl,hp⟩] at hlaw
    obtain ⟨ys',h1,h2,h3⟩:=ih (i+1) (i:Int) ys (A2 ys++[(i:Int),((CD f i:Nat):Int)]) (by omega) (by omega) (by omega) (.inr ⟨by omega,by omega,by rw [hsub]; exact hw,by rw [Gb hw]⟩)
    exact ⟨ys',h1,(A7 hstep).trans h2,(A7 hlaw).trans h3⟩
   ·rw [if_neg (by omega)] at hstep
    rw [if_neg (by rw [hpw]; rintro ⟨_,h | h⟩ <;> first | omega | cases h)] at hlaw
    obtain ⟨ys',h1,h2,h3⟩:=ih (i+1) from_ ys (A2 ys++[from_,((CD f i:Nat):Int)]) (by omega) (by omega) (by omega) (.inr ⟨h0,by omega,by rw [hsub]; exact hw,by rw [Gb hw]⟩)
    exact ⟨ys',h1,(A7 hstep).trans h2,(A7 hlaw).trans h3⟩
  | false=>
   rw [hw,if_neg (by decide)] at hstep
   rw [hw,if_neg (by simp)] at hlaw
   rcases hJ with ⟨rfl,hp,rfl⟩ | ⟨h0,hp,hpw,rfl⟩
   ·rw [if_neg (by decide),if_neg (by decide)] at hstep
    obtain ⟨ys',h1,h2,h3⟩:=ih (i+1) (-1) ys (A2 ys) (by omega) (by omega) (by omega) (.inl ⟨rfl,.inr (by rw [hsub]; exact hw),rfl⟩)
    exact ⟨ys',h1,(A7 hstep).trans h2,(A7 hlaw).trans h3⟩
   ·rw [if_pos h0,if_pos ⟨rfl,h0⟩,← Es] at hstep
    rw [EN hw,← FA] at hlaw
    obtain ⟨ys',h1,h2,h3⟩:=ih (i+1) (-1) (ys++[(from_,(i:Int))]) (A2 (ys++[(from_,(i:Int))])) (by omega) (by omega) (by simp; omega) (.inl ⟨rfl,.inr (by rw [hsub]; exact hw),rfl⟩)
    refine ⟨ys',h1,(A7 hstep).trans h2,?_⟩
    rw [EN hw,← FA]
    exact (A7 hlaw).trans h3
theorem I5 (f:List AE) (hm:f.length≤1073741824):E0 f=some true:=by
 have hA3:=fun (l:List (Int × Int)) (a b:Int) (h:l.length≤1099511627776)=>H8 Gv l a b h
 have hA4:=fun (l:List (Int × Int)) (a b:Int) (h:l.length≤1099511627776)=>H8 IY l a b h
 obtain ⟨p,hp1,hp2,hp3⟩:=KZ f hm hA3 f.length 0 0 [] rfl (by omega) (by simp)
 obtain ⟨q,hq1,hq2,hq3⟩:=Kz f hm hA4 f.length 0 (-1) [] [] rfl (by omega) (by simp) (.inl ⟨rfl,.inl rfl,rfl⟩)
 have e1:rng2 (fun A=>DW A [] f) (fun (a:(List Int))=>Cu a) []=some (A2 p):=by
  unfold rng2 DW
  dsimp only
  have hp2':iter (fun (a:Int × Int × (List (List RV)))=>Bw (CF (fun s=>m2 (Cu s)) []) f a.1 a.2.1 a.2.2) (0,0,[])=some (.ext (A4 p)):=hp2
  rw [hp2',HV]
  exact (GO Gv p [] (by simp; omega)).trans (by simp)
 have e2:rng2 (fun A=>Dr A [] f) (fun (a:(List Int))=>Cz a) []=some (A2 q):=by
  unfold rng2 Dr
  dsimp only
  have hq2':iter (fun (a:Int × Int × (List (List RV)))=>CX (CF (fun s=>m2 (Cz s)) []) f ((f.length+1:Nat):Int) a.1 a.2.1 a.2.2) (-1,0,[])=some (.ext (A4 q)):=hq2
  rw [BX (by omega),AT,hq2',HV]
  exact (GO IY q [] (by simp; omega)).trans (by simp)
 have e3:iter (fun (a:Int × Int × (List Int))=>Bx f a.1 a.2.1 a.2.2) (0,0,[])=some (A2 p):=hp3
 have e4:iter (fun (a:Int × (List Int))=>CU f a.1 a.2) (0,[])=some (A2 q):=hq3
 unfold E0 FW Ex
 rw [LE,AT,if_neg (by decide),AT,e1,AT,AT,e2,AT,e3,AT,e4,AT,Ha _ _ (by rw [EW]; omega),AT,Ha _ _ (by rw [EW]; omega),decide_eq_true rfl,decide_eq_true rfl]
 rfl
end Go.Proofs.YtmbjbecccheclaaDoor.Al
