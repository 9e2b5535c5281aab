/- Plain laws over the models, a part of them. -/
import Derived.Test.YtelkfhdgmbahgaaMod1
set_option linter.all false
namespace Go.Proofs.Ytelkfhdgmbahgaa.Al
@[simp] theorem Aa {a α:Type} (x:a) (f:a→Option α):AO (some x) f=f x:=rfl
@[simp] theorem B6 {a b α:Type} (x:a) (y:b) (f:a→b→Option α):CN (some (x,y)) f=f x y:=rfl
@[simp] theorem KD {a b c α:Type} (x:a) (y:b) (z:c) (f:a→b→c→Option α):EW (some (x,y,z)) f=f x y z:=rfl
@[simp] theorem S0 {a b c d α:Type} (x:a) (y:b) (z:c) (u:d) (f:a→b→c→d→Option α):RK (some (x,y,z,u)) f=f x y z u:=rfl
@[simp] theorem FF {a α:Type} (x:a) (f:a→Option α):BS (some (.nrm x)) f=f x:=rfl
@[simp] theorem Ci {a α:Type} (t:α) (f:a→Option α):BS (some (.ext t)) f=some t:=rfl
@[simp] theorem S1 {a b α:Type} (x:a) (y:b) (f:a→b→Option α):NR (some (.nrm (x,y))) f=f x y:=rfl
@[simp] theorem S3 {a b α:Type} (t:α) (f:a→b→Option α):NR (some (.ext t)) f=some t:=rfl
@[simp] theorem S2 {a b c α:Type} (x:a) (y:b) (z:c) (f:a→b→c→Option α):Mt (some (.nrm (x,y,z))) f=f x y z:=rfl
@[simp] theorem Sz {a b c α:Type} (t:α) (f:a→b→c→Option α):Mt (some (.ext t)) f=some t:=rfl
@[simp] theorem Bc {α:Type} [Inhabited α] (m:Option α):gd true m=m:=rfl
@[simp] theorem CO {α:Type} [Inhabited α] (m:Option α):gd false m=some default:=rfl
theorem BR {α:Type} [Inhabited α] {l:List α} {k:Nat} (h:k<l.length):Ak l (k:Int)=some l[k]!:=by
 unfold Ak
 rw [if_pos (Int.natCast_nonneg k),Int.toNat_natCast,List.getElem?_eq_getElem h,getElem!_pos l k h]
theorem Dy {α:Type} {l:List α} {k:Nat} (h:k<l.length):Ak l (k:Int)=some l[k]:=by
 unfold Ak
 rw [if_pos (Int.natCast_nonneg k),Int.toNat_natCast,List.getElem?_eq_getElem h]
theorem BW {k:Nat} (h:k<9223372036854775807):Aw .i64 ((k:Int)+1)=some (((k+1:Nat)):Int):=by
 rw [Md (by omega) (by omega)]; rfl
theorem I4 {k:Nat} (h:0<k) (h2:k≤9223372036854775807):Aw .i64 ((k:Int)-1)=some ((k-1:Nat):Int):=by
 rw [Md (by omega) (by omega)]; congr 1; omega
def D0 {ρ:Type} (k:Nat):Option ρ→Option (Int ⊕ BN Unit ρ)
 | none=>some (.inl ((k+1:Nat):Int))
 | some r=>some (.inr (.ext r))
def ES {ρ:Type} : Option ρ→BN Unit ρ
 | none=>.nrm ()
 | some r=>.ext r
theorem D9 {ρ:Type} {f:Int→Option (Int ⊕ BN Unit ρ)} {n:Nat} (g:Nat→Option ρ) (h1 : ∀ k:Nat,k<n→f k=D0 k (g k))
  (h2:f n=some (.inr (.nrm ()))):iter f 0=some (ES ((List.range n).findSome? g)):=by
 have key : ∀ m k:Nat,k+m=n→iter f (k:Int)=some (ES ((List.range' k m).findSome? g)):=by
  intro m
  induction m with
  | zero=>
   intro k hk
   obtain rfl:k=n:=by omega
   rw [Bj h2]; rfl
  | succ m ih=>
   intro k hk
   rw [List.range'_succ,List.findSome?_cons]
   have:=h1 k (by omega)
   cases hg:g k with
   | none=>rw [hg] at this; rw [CD this,ih (k+1) (by omega)]
   | some r=>rw [hg] at this; rw [Bj this]; rfl
 rw [List.range_eq_range']
 exact key n 0 (by omega)
theorem SL {α ρ:Type} {l:List α} {g h:α→Option ρ} (e : ∀ x∈l,g x=h x):l.findSome? g=l.findSome? h:=by
 induction l with
 | nil=>rfl
 | cons a l ih=>rw [List.findSome?_cons,List.findSome?_cons,e a (List.mem_cons_self ..),ih fun x hx=>e x (List.mem_cons_of_mem _ hx)]
theorem IN {α ρ:Type} [Inhabited α] (l:List α) (p:α→Bool) (r:ρ):(List.range l.length).findSome? (fun k=>if p l[k]! then none else some r)=if l.all p then none else some r:=by
 induction l with
 | nil=>rfl
 | cons a l ih=>
  rw [List.length_cons,List.range_succ_eq_map,List.findSome?_cons,List.findSome?_map]
  have hr:(List.range l.length).findSome? ((fun k=>if p (a :: l)[k]! = true then none else some r) ∘ Nat.succ)=if l.all p=true then none else some r:=by
   rw [← ih]; exact SL fun k _=>by simp
  rw [hr]
  by_cases hp:p a=true
  ·simp [hp]
  ·simp [hp]
theorem GR {ρ:Type} (o:Option ρ) (f:Unit→Option ρ):BS (some (ES o)) f=match o with | none=>f () | some r=>some r:=by cases o <;> rfl
def DR (c:UInt8):Bool:=(decide (97≤c.toNat) && decide (c.toNat≤122)) || (decide (48≤c.toNat) && decide (c.toNat≤57)) || decide (c.toNat=46) || decide (c.toNat=45)
def Cn (s:List UInt8):Bool:=decide (1≤s.length) && decide (s.length≤24) && (decide (97≤s[0]!.toNat) && decide (s[0]!.toNat≤122)) && s.all DR
def Dh (c:UInt8):Bool:=decide (32≤c.toNat) && decide (c.toNat≤126)
def Cu (s:List UInt8):Bool:=decide (1≤s.length) && decide (s.length≤200) && s.all Dh
theorem ST (s:List UInt8) (k:Nat) (hk:k<s.length) (hm:s.length≤9223372036854775807):Gh s k=D0 k (if DR s[k]! then none else some false):=by
 unfold Gh
 rw [if_pos (by simpa using hk),BR hk,Aa,BW (by omega)]
 generalize s[k]! = c
 have e:(((((decide ((c.toNat:Int)<97)) || (decide (122<(c.toNat:Int)))) && ((decide ((c.toNat:Int)<48)) || (decide (57<(c.toNat:Int))))) && (!decide ((c.toNat:Int)=46))) && (!decide ((c.toNat:Int)=45))) = !DR c:=by
  unfold DR
  rw [Bool.eq_iff_iff]
  simp only [Bool.or_eq_true,Bool.and_eq_true,decide_eq_true_eq,Bool.not_eq_true',decide_eq_false_iff_not,Bool.or_eq_false_iff,Bool.and_eq_false_imp]
  omega
 rw [e]
 cases DR c <;> rfl
theorem R3 (s:List UInt8) (hm:s.length≤9223372036854775807):H4 s=some (Cn s):=by
 unfold H4
 rw [D9 (n:=s.length) (fun k=>if DR s[k]! then none else some false) (fun k hk=>ST s k hk hm) (by unfold Gh; rw [if_neg (by simp)]),IN]
 unfold Cn
 cases s with
 | nil=>simp
 | cons c t=>
  have h0:Ak (c :: t) 0=some c:=rfl
  rw [h0]
  simp only [List.getElem!_cons_zero,decide_eq_false (List.cons_ne_nil c t),Bool.false_or]
  generalize (c :: t).all DR=al
  generalize hl:(c :: t).length=L
  have hL:1≤L:=by rw [← hl]; simp
  by_cases h1:24<(L:Int)
  ·have e1:decide (L≤24)=false:=by simp; omega
   simp [h1,e1]
  ·rw [decide_eq_false h1]
   simp only [Bool.false_or,beq_self_eq_true,Bc,Aa]
   have e1:decide (L≤24)=true:=by simp; omega
   have e2:decide (1≤L)=true:=by simp; omega
   rw [e1,e2]
   by_cases h2:(c.toNat:Int)<97
   ·have e3:decide (97≤c.toNat)=false:=by simp; omega
    simp [h2,e3]
   ·rw [decide_eq_false h2]
    have e3:decide (97≤c.toNat)=true:=by simp; omega
    simp only [beq_self_eq_true,Bc,Aa,Bool.false_or]
    by_cases h3:122<(c.toNat:Int)
    ·have e4:decide (c.toNat≤122)=false:=by simp; omega
     simp [h3,e4]
    ·have e4:decide (c.toNat≤122)=true:=by simp; omega
     rw [if_neg (by simpa using h3),GR,e3,e4]
     cases al <;> rfl
def Dv (k:Nat) (c:UInt8):Bool:=(decide (97≤c.toNat) && decide (c.toNat≤122)) || (decide (k≠0) && DR c)
theorem Rf (s:List UInt8) (k:Nat) (hk:k<s.length) (hm:s.length≤9223372036854775807) :
  GP s k=D0 k (if Dv k s[k]! then none else some false):=by
 unfold GP
 rw [if_pos (by simpa using hk),BR hk,Aa,BW (by omega)]
 generalize s[k]! = c
 have e:((!((decide (97≤(c.toNat:Int))) && (decide ((c.toNat:Int)≤122)))) && ((decide ((k:Int)=0)) || (((!decide ((c.toNat:Int)=46)) && (!decide ((c.toNat:Int)=45))) && ((decide ((c.toNat:Int)<48)) || (decide (57<(c.toNat:Int))))))) = !Dv k c:=by
  unfold Dv DR
  rw [Bool.eq_iff_iff]
  simp only [Bool.or_eq_true,Bool.and_eq_true,decide_eq_true_eq,Bool.not_eq_true',decide_eq_false_iff_not,Bool.or_eq_false_iff,Bool.and_eq_false_imp]
  omega
 rw [e]
 cases Dv k c <;> rfl
theorem LL {ρ:Type} (n:Nat) (g:Nat→Option ρ):(List.range n).findSome? g=none ↔ ∀ k,k<n→g k=none:=by
 rw [List.findSome?_eq_none_iff]; simp
theorem Ow {α:Type} [Inhabited α] (l:List α) (p:α→Bool):l.all p=true ↔ ∀ k,k<l.length→p l[k]! = true:=by
 rw [List.all_eq_true]
 constructor
 ·intro h k hk; rw [getElem!_pos l k hk]; exact h _ (List.getElem_mem hk)
 ·intro h x hx
  obtain ⟨k,hk,rfl⟩:=List.mem_iff_getElem.1 hx
  rw [← getElem!_pos l k hk]; exact h k hk
theorem Jr {ρ:Type} (n:Nat) (p:Nat→Bool) (r:ρ):(List.range n).findSome? (fun k=>if p k then none else some r)=if (List.range n).all p then none else some r:=by
 generalize List.range n=l
 induction l with
 | nil=>rfl
 | cons a l ih=>rw [List.findSome?_cons,List.all_cons,]; by_cases h:p a=true <;> simp [h,ih]
theorem QF (s:List UInt8) (hm:s.length≤9223372036854775807):Hl s=some (Cn s):=by
 unfold Hl
 rw [D9 (n:=s.length) (fun k=>if Dv k s[k]! then none else some false) (fun k hk=>Rf s k hk hm) (by unfold GP; rw [if_neg (by simp)]),Jr,GR]
 have key:((List.range s.length).all fun k=>Dv k s[k]!)=(decide (s=[]) || ((decide (97≤s[0]!.toNat) && decide (s[0]!.toNat≤122)) && s.all DR)):=by
  rw [Bool.eq_iff_iff,List.all_eq_true]
  simp only [List.mem_range,Bool.or_eq_true,decide_eq_true_eq,Bool.and_eq_true,Ow]
  constructor
  ·intro h
   cases hs:s with
   | nil=>exact .inl rfl
   | cons c t=>
    rw [← hs]
    have hl:0<s.length:=by rw [hs]; simp
    have h0:=h 0 hl
    simp only [Dv,Bool.or_eq_true,Bool.and_eq_true,decide_eq_true_eq] at h0
    refine .inr ⟨by omega,fun k hk=>?_⟩
    have:=h k hk
    simp only [Dv,DR,Bool.or_eq_true,Bool.and_eq_true,decide_eq_true_eq] at this ⊢
    omega
  ·rintro (rfl | ⟨h1,h2⟩) k hk
   ·cases hk
   ·have:=h2 k hk
    by_cases hk0:k=0
    ·subst hk0; simp only [Dv,Bool.or_eq_true,Bool.and_eq_true,decide_eq_true_eq]; omega
    ·simp only [Dv,Bool.or_eq_true,Bool.and_eq_true,decide_eq_true_eq]; exact .inr ⟨hk0,this⟩
 rw [key]
 unfold Cn
 cases s with
 | nil=>rfl
 | cons c t=>
  rw [decide_eq_false (List.cons_ne_nil c t),Bool.false_or]
  generalize (c :: t).all DR=al
  generalize (decide (97≤(c :: t)[0]!.toNat) && decide ((c :: t)[0]!.toNat≤122))=fc
  have e1:decide (1≤((c :: t).length:Int))=decide (1≤(c :: t).length):=by simp; omega
  have e2:decide (((c :: t).length:Int)≤24)=decide ((c :: t).length≤24):=by simp; omega
  rw [e1,e2]
  cases fc <;> cases al <;> simp
theorem O5 (s:List UInt8) (hm:s.length≤9223372036854775807):HC s=some (Cu s):=by
 unfold HC Cu
 rw [D9 (n:=s.length) (fun k=>if Dh s[k]! then none else some false) (fun k hk=>by
  unfold HJ
  rw [if_pos (by simpa using hk),BR hk,Aa,BW (by omega)]
  generalize s[k]! = c
  have e:((decide ((c.toNat:Int)<32)) || (decide (126<(c.toNat:Int)))) = !Dh c:=by
   unfold Dh
   rw [Bool.eq_iff_iff]
   simp only [Bool.or_eq_true,Bool.and_eq_true,decide_eq_true_eq,Bool.not_eq_true',decide_eq_false_iff_not,Bool.and_eq_false_imp]
   omega
  rw [e]
  cases Dh c <;> rfl) (by unfold HJ; rw [if_neg (by simp)]),IN,GR]
 generalize s.all Dh=al
 cases s with
 | nil=>simp
 | cons c t=>
  rw [decide_eq_false (List.cons_ne_nil c t),Bool.false_or]
  generalize hl:(c :: t).length=L
  have hL:1≤L:=by rw [← hl]; simp
  by_cases h1:200<(L:Int)
  ·have e1:decide (L≤200)=false:=by simp; omega
   simp [h1,e1]
  ·have e1:decide (L≤200)=true:=by simp; omega
   have e2:decide (1≤L)=true:=by simp; omega
   rw [if_neg (by simpa using h1),e1,e2]
   cases al <;> rfl
theorem OH (s:List UInt8) (hm:s.length≤9223372036854775807):Hd s=some (Cu s):=by
 unfold Hd Cu
 rw [D9 (n:=s.length) (fun k=>if Dh s[k]! then none else some false) (fun k hk=>by
  unfold HW
  rw [if_pos (by simpa using hk),BR hk,Aa,BW (by omega)]
  generalize s[k]! = c
  have e:((decide ((c.toNat:Int)<32)) || (decide (126<(c.toNat:Int)))) = !Dh c:=by
   unfold Dh
   rw [Bool.eq_iff_iff]
   simp only [Bool.or_eq_true,Bool.and_eq_true,decide_eq_true_eq,Bool.not_eq_true',decide_eq_false_iff_not,Bool.and_eq_false_imp]
   omega
  rw [e]
  cases Dh c <;> rfl) (by unfold HW; rw [if_neg (by simp)]),IN,GR]
 generalize s.all Dh=al
 have e1:decide (1≤(s.length:Int))=decide (1≤s.length):=by simp; omega
 have e2:decide ((s.length:Int)≤200)=decide (s.length≤200):=by simp; omega
 rw [e1,e2]
 cases al <;> simp
theorem Jv (a b:UInt8) (x y:List UInt8):An (a :: x) (b :: y)=(decide (a<b) || (a == b && An x y)):=rfl
theorem GB : ∀ (a b:List UInt8),(An a b || decide (a=b)) = !An b a
 | [],[]=>rfl
 | [],_ :: _=>rfl
 | _ :: _,[]=>rfl
 | a :: x,b :: y=>by
  rw [Jv,Jv]
  have ih:=GB x y
  by_cases h:a=b
  ·subst h
   have h1 : ¬ a<a:=fun h=>by simp [UInt8.lt_iff_toNat_lt] at h
   simp only [decide_eq_false h1,beq_self_eq_true,Bool.true_and,Bool.false_or,List.cons.injEq,true_and]
   exact ih
  ·have h2:(a == b)=false:=by simpa using h
   have h3:(b == a)=false:=by simpa using fun e:b=a=>h e.symm
   have h4 : ¬ (a :: x=b :: y):=fun e=>h (List.cons.inj e).1
   rw [h2,h3,decide_eq_false h4]
   simp only [Bool.false_and,Bool.or_false]
   have h5:a.toNat≠b.toNat:=fun e=>h (UInt8.toNat_inj.1 e)
   by_cases hlt:a<b
   ·have : ¬ b<a:=by rw [UInt8.lt_iff_toNat_lt] at hlt ⊢; omega
    simp [hlt,this]
   ·have:b<a:=by rw [UInt8.lt_iff_toNat_lt] at hlt ⊢; omega
    simp [hlt,this]
theorem E3 (a:List UInt8):An a a=false:=by
 have:=GB a a
 cases h:An a a
 ·rfl
 ·rw [h] at this; simp at this
theorem LG {a b:List UInt8} (h:An a b=true):An b a=false:=by
 have:=GB a b
 rw [h] at this; simpa using this.symm
def Dn (l:List AG) (ch:Bool) (k:Nat):Option Int:=
 if Cn l[k]!.Name=false then some 9 else if Cu l[k]!.Value=false ∧ ¬ (ch=true∧l[k]!.Value=[]) then some 23 else if 0<k∧An l[k-1]!.Name l[k]!.Name=false then some 5 else none
def Br (l:List AG) (ch:Bool):Int:=((List.range l.length).findSome? (Dn l ch)).getD 0
theorem MJ {o:Option Int} : (BS (some (ES o)) fun _:Unit=>some 0)=some (o.getD 0):=by cases o <;> rfl
def Bb:AG:=⟨[],[]⟩
def BQ (stp:AG→AG→List AG→List AG):List AG→List AG→List AG→List AG
 | [],[],c=>c
 | x :: a,[],c=>BQ stp a [] (stp x Bb c)
 | [],y :: b,c=>BQ stp [] b (stp Bb y c)
 | x :: a,y :: b,c=>if An x.Name y.Name then BQ stp a (y :: b) (stp x Bb c) else if An y.Name x.Name then BQ stp (x :: a) b (stp Bb y c) else BQ stp a b (stp x y c)
  termination_by a b=>a.length+b.length
def IS (stp:AG→AG→List AG→List AG) (a b:List AG) (i j:Nat) (o:List AG):Option ((Int × Int × List AG) ⊕ BN Unit (List AG)):=
 if i<a.length∨j<b.length then
  if j=b.length∨(i<a.length∧An a[i]!.Name b[j]!.Name=true) then some (.inl (((i+1:Nat):Int),(j:Int),stp a[i]! Bb o))
  else if i=a.length∨An b[j]!.Name a[i]!.Name=true then some (.inl ((i:Int),((j+1:Nat):Int),stp Bb b[j]! o))
  else some (.inl (((i+1:Nat):Int),((j+1:Nat):Int),stp a[i]! b[j]! o))
 else some (.inr (.ext o))
theorem G0 {l:List AG} {i:Nat} (h:i<l.length):l.drop i=l[i]! :: l.drop (i+1):=by
 rw [List.drop_eq_getElem_cons h,getElem!_pos l i h]
theorem Qp {f:(Int × Int × List AG)→Option ((Int × Int × List AG) ⊕ BN Unit (List AG))} (stp:AG→AG→List AG→List AG) (a b c:List AG) (B:Nat) (hstp : ∀ x y o,(stp x y o).length≤o.length+1)
  (hf : ∀ (i j:Nat) (o:List AG),i≤a.length→j≤b.length→o.length+(a.length-i)+(b.length-j)≤B→f (i,j,o)=IS stp a b i j o) (hB:c.length+a.length+b.length≤B):iter f (0,0,c)=some (.ext (BQ stp a b c)):=by
 have key : ∀ (m i j:Nat) (o:List AG),i≤a.length→j≤b.length→(a.length-i)+(b.length-j)=m→o.length+m≤B→iter f ((i:Int),(j:Int),o)=some (.ext (BQ stp (a.drop i) (b.drop j) o)):=by
  intro m
  induction m using Nat.strongRecOn with
  | _ m ih=>
   intro i j o hi hj hm ho
   have hs:=hf i j o hi hj (by omega)
   unfold IS at hs
   by_cases hia:i<a.length
   ·rw [G0 hia]
    by_cases hjb:j<b.length
    ·rw [G0 hjb]
     rw [if_pos (.inl hia)] at hs
     by_cases h1:An a[i]!.Name b[j]!.Name=true
     ·rw [if_pos (.inr ⟨hia,h1⟩)] at hs
      rw [CD hs,BQ,if_pos h1,← G0 hjb]
      exact ih (m-1) (by omega) (i+1) j _ (by omega) hj (by omega) (by have:=hstp a[i]! Bb o; omega)
     ·rw [if_neg (by rintro (h | h); omega; exact h1 h.2)] at hs
      by_cases h2:An b[j]!.Name a[i]!.Name=true
      ·rw [if_pos (.inr h2)] at hs
       rw [CD hs,BQ,if_neg h1,if_pos h2,← G0 hia]
       exact ih (m-1) (by omega) i (j+1) _ hi (by omega) (by omega) (by have:=hstp Bb b[j]! o; omega)
      ·rw [if_neg (by rintro (h | h); omega; exact h2 h)] at hs
       rw [CD hs,BQ,if_neg h1,if_neg h2]
       exact ih (m-2) (by omega) (i+1) (j+1) _ (by omega) (by omega) (by omega) (by have:=hstp a[i]! b[j]! o; omega)
    ·have hjl:j=b.length:=by omega
     rw [if_pos (.inl hia),if_pos (.inl hjl)] at hs
     have hd:b.drop j=[]:=by rw [hjl]; simp
     rw [CD hs,hd,BQ,← hd]
     exact ih (m-1) (by omega) (i+1) j _ (by omega) hj (by omega) (by have:=hstp a[i]! Bb o; omega)
   ·have hil:i=a.length:=by omega
    have hd:a.drop i=[]:=by rw [hil]; simp
    by_cases hjb:j<b.length
    ·rw [if_pos (.inr hjb),if_neg (by rintro (h | h); omega; omega),if_pos (.inl hil)] at hs
     rw [G0 hjb,CD hs,hd,BQ,← hd]
     exact ih (m-1) (by omega) i (j+1) _ hi (by omega) (by omega) (by have:=hstp Bb b[j]! o; omega)
    ·have hjl:j=b.length:=by omega
     rw [if_neg (by omega)] at hs
     have hd2:b.drop j=[]:=by rw [hjl]; simp
     rw [Bj hs,hd,hd2,BQ]
 exact key _ 0 0 c (Nat.zero_le _) (Nat.zero_le _) rfl (by omega)
theorem Fu {o:List AG} {x:AG} (h:o.length+1≤4398046511104):app 32 o [x]=some (o++[x]):=by
 unfold app; rw [if_pos (by simp; omega)]
def Cm (x y:AG) (o:List AG):List AG:=if y.Name=[] then o++[x] else if y.Value=[] then o else o++[y]
theorem Lf (x y o):(Cm x y o).length≤o.length+1:=by unfold Cm; split; simp; split <;> simp
theorem HF (c:List AG) (x y:AG) (h:c.length+1≤4398046511104):FZ c x y=some (Cm x y c):=by
 unfold FZ Cm
 rw [Fu h,Fu h]
 by_cases h1:y.Name=[] <;> by_cases h2:y.Value=[] <;> simp [h1,h2]
theorem Mu (x y:AG):x=y↔x.Name=y.Name∧x.Value=y.Value:=by cases x; cases y; simp
theorem PU (a b:List AG) (i j:Nat) (o:List AG) (hab:a.length+b.length≤4398046511104) (hi:i≤a.length) (hj:j≤b.length) (ho:o.length+(a.length-i)+(b.length-j)≤4398046511104):Gm a b i j o=IS Cm a b i j o:=by
 unfold Gm IS
 by_cases hia:i<a.length
 ·rw [if_pos (by simp; omega),if_pos (.inl hia),BR hia]
  have e1:decide ((i:Int)<(a.length:Int))=true:=by simp; omega
  have e2:decide ((i:Int)=(a.length:Int))=false:=by simp; omega
  rw [e1,e2]
  by_cases hjb:j<b.length
  ·have e3:decide ((j:Int)=(b.length:Int))=false:=by simp; omega
   rw [e3,BR hjb]
   simp only [beq_self_eq_true,Bool.true_and,Bool.and_self,Bc,Aa,Bool.false_or]
   rw [HF _ _ _ (by omega),HF _ _ _ (by omega),HF _ _ _ (by omega)]
   simp only [Aa]
   rw [BW (by omega),BW (by omega)]
   simp only [Aa]
   have hne : ¬ j=b.length:=by omega
   have hni : ¬ i=a.length:=by omega
   simp only [hne,hni,hia,true_and,false_or]; rfl
  ·have hjl:j=b.length:=by omega
   have e3:decide ((j:Int)=(b.length:Int))=true:=by simp; omega
   rw [e3]
   have e4:((true == false) && (true == true))=false:=rfl
   rw [e4]
   simp only [CO,Aa,Bool.true_or]
   rw [if_pos trivial,if_pos (.inl hjl),HF _ _ _ (by omega),Aa,BW (by omega),Aa]; rfl
 ·have hil:i=a.length:=by omega
  have e1:decide ((i:Int)<(a.length:Int))=false:=by simp; omega
  have e2:decide ((i:Int)=(a.length:Int))=true:=by simp; omega
  rw [e1,e2]
  by_cases hjb:j<b.length
  ·have e3:decide ((j:Int)=(b.length:Int))=false:=by simp; omega
   have e5:decide ((j:Int)<(b.length:Int))=true:=by simp; omega
   have hne : ¬ j=b.length:=by omega
   rw [e3,e5,if_pos (by rfl),if_pos (.inr hjb),BR hjb]
   have e4:((false == false) && (false == true))=false:=rfl
   have e6:((true == false))=false:=rfl
   rw [e4,e6]
   simp only [CO,Aa,Bool.false_or,Bool.false_and,Bool.true_or,if_true,Bool.false_eq_true,if_false]
   have hx : ¬ (j=b.length∨i<a.length∧An a[i]!.Name b[j]!.Name=true):=by
    intro h; rcases h with h | h
    ·exact hne h
    ·exact hia h.1
   rw [if_neg hx,if_pos (.inl hil),HF _ _ _ (by omega),Aa,BW (by omega),Aa]; rfl
  ·have e5:decide ((j:Int)<(b.length:Int))=false:=by simp; omega
   rw [e5,if_neg (by decide),if_neg (by omega)]
theorem Qs (c a b:List AG) (h:c.length+a.length+b.length≤4398046511104):H7 c a b=some (BQ Cm a b c):=by
 unfold H7
 rw [Qp Cm a b c 4398046511104 Lf (fun i j o h1 h2 h3=>PU a b i j o (by omega) h1 h2 h3) h]; rfl
theorem QP (a b:List AG) (h:a.length+b.length≤4398046511104):GC a b=some (BQ Cm a b []):=by
 unfold GC; rw [Qs [] a b (by simpa using h)]; rfl
theorem Sy (a b:List AG) (hm:a.length≤9223372036854775807):Ll a b=some (decide (a=b)):=by
 unfold Ll
 by_cases hl:a.length=b.length
 ·rw [if_neg (by simp [hl]),D9 (n:=a.length) (fun k=>if decide (a[k]! = b[k]!) then none else some false) (fun k hk=>by
   unfold KY
   rw [if_pos (by simpa using hk),BR hk,BR (by omega),Aa,Aa,BW (by omega)]
   generalize a[k]! = x
   generalize b[k]! = y
   by_cases h:x=y
   ·subst h; simp [D0]
   ·have h':=h; rw [Mu] at h'
    simp only [decide_eq_false h,Bool.and_true]
    by_cases h1:x.Name=y.Name
    ·have h2 : ¬ x.Value=y.Value:=fun e=>h' ⟨h1,e⟩
     simp [h1,h2,D0]
    ·simp [h1,D0]) (by unfold KY; rw [if_neg (by simp)]),Jr,GR]
  by_cases h:a=b
  ·subst h; simp
  ·rw [decide_eq_false h]
   have:((List.range a.length).all fun k=>decide (a[k]! = b[k]!))=false:=by
    rw [← Bool.not_eq_true,List.all_eq_true]
    intro hall
    apply h
    apply List.ext_getElem hl
    intro k h1 h2
    have:=hall k (List.mem_range.2 h1)
    simp only [decide_eq_true_eq] at this
    rwa [getElem!_pos a k h1,getElem!_pos b k h2] at this
   rw [this]; rfl
 ·rw [if_pos (by simp; omega),decide_eq_false (by rintro rfl; exact hl rfl)]
theorem Q2 (a b:List AG) (hm:a.length≤9223372036854775807):He a b=some (decide (a=b)):=by
 unfold He
 by_cases hl:a.length=b.length
 ·rw [if_neg (by simp [hl]),D9 (n:=a.length) (fun k=>if decide (a[k]! = b[k]!) then none else some false) (fun k hk=>by
   unfold Ha
   rw [if_pos (by simpa using hk),BR hk,BR (by omega),Aa,Aa,BW (by omega)]
   generalize a[k]! = x
   generalize b[k]! = y
   by_cases h:x=y
   ·subst h; simp [D0]
   ·have h':=h; rw [Mu] at h'
    simp only [decide_eq_false h,Bool.and_true]
    by_cases h1:x.Name=y.Name
    ·have h2 : ¬ x.Value=y.Value:=fun e=>h' ⟨h1,e⟩
     simp [h1,h2,D0]
    ·simp [h1,D0]) (by unfold Ha; rw [if_neg (by simp)]),Jr,GR]
  by_cases h:a=b
  ·subst h; simp
  ·rw [decide_eq_false h]
   have:((List.range a.length).all fun k=>decide (a[k]! = b[k]!))=false:=by
    rw [← Bool.not_eq_true,List.all_eq_true]
    intro hall
    apply h
    apply List.ext_getElem hl
    intro k h1 h2
    have:=hall k (List.mem_range.2 h1)
    simp only [decide_eq_true_eq] at this
    rwa [getElem!_pos a k h1,getElem!_pos b k h2] at this
   rw [this]; rfl
 ·rw [if_pos (by simp; omega),decide_eq_false (by rintro rfl; exact hl rfl)]
theorem Nl {α β:Type} [Inhabited α] {f:(β × Int)→Option ((β × Int) ⊕ β)} (l:List α) (stp:β→α→β) (I:β→Nat→Prop) (hI : ∀ b k,k<l.length→I b k→I (stp b l[k]!) (k+1))
  (h1 : ∀ b (k:Nat),k<l.length→I b k→f (b,(k:Int))=some (.inl (stp b l[k]!,((k+1:Nat):Int)))) (h2 : ∀ b,f (b,(l.length:Int))=some (.inr b)) (b0:β) (h0:I b0 0):iter f (b0,0)=some (l.foldl stp b0):=by
 have key : ∀ (m k:Nat) (b:β),k+m=l.length→I b k→iter f (b,(k:Int))=some ((l.drop k).foldl stp b):=by
  intro m
  induction m with
  | zero=>
   intro k b hk _
   have:k=l.length:=by omega
   subst this
   rw [Bj (h2 b)]; simp
  | succ m ih=>
   intro k b hk hb
   have hkl:k<l.length:=by omega
   rw [CD (h1 b k hkl hb),ih (k+1) _ (by omega) (hI b k hkl hb),List.drop_eq_getElem_cons hkl,List.foldl_cons,getElem!_pos l k hkl]
 have:=key l.length 0 b0 (by omega) h0
 simpa using this
theorem Pv {α β:Type} [Inhabited α] {f:(Int × β)→Option ((Int × β) ⊕ β)} (l:List α) (stp:β→α→β) (I:β→Nat→Prop) (hI : ∀ b k,k<l.length→I b k→I (stp b l[k]!) (k+1))
  (h1 : ∀ b (k:Nat),k<l.length→I b k→f ((k:Int),b)=some (.inl (((k+1:Nat):Int),stp b l[k]!))) (h2 : ∀ b,f ((l.length:Int),b)=some (.inr b)) (b0:β) (h0:I b0 0):iter f (0,b0)=some (l.foldl stp b0):=by
 have key : ∀ (m k:Nat) (b:β),k+m=l.length→I b k→iter f ((k:Int),b)=some ((l.drop k).foldl stp b):=by
  intro m
  induction m with
  | zero=>
   intro k b hk _
   have:k=l.length:=by omega
   subst this
   rw [Bj (h2 b)]; simp
  | succ m ih=>
   intro k b hk hb
   have hkl:k<l.length:=by omega
   rw [CD (h1 b k hkl hb),ih (k+1) _ (by omega) (hI b k hkl hb),List.drop_eq_getElem_cons hkl,List.foldl_cons,getElem!_pos l k hkl]
 have:=key l.length 0 b0 (by omega) h0
 simpa using this
theorem Of {α γ β:Type} [Inhabited α] {f:(γ × Int × β)→Option ((γ × Int × β) ⊕ (γ × β))} (l:List α) (stp:γ × β→α→γ × β) (I:γ × β→Nat→Prop) (hI : ∀ b k,k<l.length→I b k→I (stp b l[k]!) (k+1))
  (h1 : ∀ c b (k:Nat),k<l.length→I (c,b) k→f (c,(k:Int),b)=some (.inl ((stp (c,b) l[k]!).1,((k+1:Nat):Int),(stp (c,b) l[k]!).2))) (h2 : ∀ c b,f (c,(l.length:Int),b)=some (.inr (c,b))) (c0:γ) (b0:β) (h0:I (c0,b0) 0) :
  iter f (c0,0,b0)=some (l.foldl stp (c0,b0)):=by
 have key : ∀ (m k:Nat) (b:γ × β),k+m=l.length→I b k→iter f (b.1,(k:Int),b.2)=some ((l.drop k).foldl stp b):=by
  intro m
  induction m with
  | zero=>
   intro k b hk _
   have:k=l.length:=by omega
   subst this
   rw [Bj (h2 _ _)]; simp
  | succ m ih=>
   intro k b hk hb
   have hkl:k<l.length:=by omega
   rw [CD (h1 b.1 b.2 k hkl hb),ih (k+1) _ (by omega) (hI b k hkl hb),List.drop_eq_getElem_cons hkl,List.foldl_cons,getElem!_pos l k hkl]
 have:=key l.length 0 (c0,b0) (by omega) h0
 simpa using this
theorem LO (a:List UInt8):An a []=false:=by cases a <;> rfl
theorem DB : ∀ {a b c:List UInt8},An a b=true→An b c=true→An a c=true
 | _,[],_,h,_=>by rw [LO] at h; cases h
 | _,_ :: _,[],_,h=>by cases h
 | [],_ :: _,_ :: _,_,_=>rfl
 | a :: x,b :: y,c :: z,h,k=>by
  rw [Jv] at h k ⊢
  simp only [Bool.or_eq_true,decide_eq_true_eq,Bool.and_eq_true,beq_iff_eq,UInt8.lt_iff_toNat_lt] at h k ⊢
  rcases h with h | ⟨rfl,h⟩ <;> rcases k with k | ⟨rfl,k⟩
  ·left; omega
  ·left; exact h
  ·left; exact k
  ·right; exact ⟨rfl,DB h k⟩
def BA (l:List AG):Prop:=l.Pairwise fun x y=>An x.Name y.Name=true
def As:List AG→List UInt8→Option AG
 | [],_=>none
 | x :: l,n=>if x.Name=n then some x else As l n
theorem EH {l:List AG} {n:List UInt8} (h : ∀ e∈l,e.Name≠n):As l n=none:=by
 induction l with
 | nil=>rfl
 | cons x l ih=>rw [As,if_neg (h x (List.mem_cons_self ..)),ih fun e he=>h e (List.mem_cons_of_mem _ he)]
theorem Jd {l:List AG} {n:List UInt8} {e:AG} (h:As l n=some e):e.Name=n∧e∈l:=by
 induction l with
 | nil=>cases h
 | cons x l ih=>
  rw [As] at h
  split at h
  ·cases h; exact ⟨‹_›,List.mem_cons_self ..⟩
  ·exact ⟨(ih h).1,List.mem_cons_of_mem _ (ih h).2⟩
theorem Cg {a b:List UInt8} (h:An a b=true):b≠a:=by rintro rfl; rw [E3] at h; cases h
theorem CS {x:AG} {l:List AG} : BA (x :: l)↔(∀ e∈l,An x.Name e.Name=true)∧BA l:=List.pairwise_cons
theorem NI : ∀ {l m:List AG},BA l→BA m→(∀ n,As l n=As m n)→l=m
 | [],[],_,_,_=>rfl
 | [],y :: m,_,_,h=>by have:=h y.Name; simp [As] at this
 | x :: l,[],_,_,h=>by have:=h x.Name; simp [As] at this
 | x :: l,y :: m,hl,hm,h=>by
  have h1:=CS.1 hl
  have h2:=CS.1 hm
  have hxy:x.Name=y.Name:=by
   rcases hlt:An x.Name y.Name with _ | _
   ·rcases hgt:An y.Name x.Name with _ | _
    ·have:=GB x.Name y.Name
     rw [hlt,hgt] at this
     simpa using this
    ·have:=h y.Name
     rw [As,if_neg (Cg hgt),EH fun e he=>Cg (DB hgt (h1.1 e he)),As,if_pos rfl] at this
     cases this
   ·have:=h x.Name
    rw [As,if_pos rfl,As,if_neg (Cg hlt),EH fun e he=>Cg (DB hlt (h2.1 e he))] at this
    cases this
  have hx:x=y:=by
   have:=h x.Name
   rw [As,if_pos rfl,As,if_pos hxy.symm] at this
   exact Option.some.inj this
  subst hx
  rw [NI h1.2 h2.2 fun n=>?_]
  by_cases hn:x.Name=n
  ·subst hn
   rw [EH fun e he=>Cg (h1.1 e he),EH fun e he=>Cg (h2.1 e he)]
  ·have:=h n
   rwa [As,if_neg hn,As,if_neg hn] at this
def BZ:List AG→AG→List AG
 | [],a=>[a]
 | x :: l,a=>if x.Name=a.Name then a :: l else if An x.Name a.Name=true then x :: BZ l a else a :: x :: l
theorem Ot {l:List AG} {a e:AG} (h:e∈BZ l a):e=a∨e∈l:=by
 induction l with
 | nil=>simpa [BZ] using h
 | cons x l ih=>
  rw [BZ] at h
  split at h
  ·rcases List.mem_cons.1 h with h | h
   ·exact .inl h
   ·exact .inr (List.mem_cons_of_mem _ h)
  ·split at h
   ·rcases List.mem_cons.1 h with h | h
    ·exact .inr (h ▸ List.mem_cons_self ..)
    ·rcases ih h with h | h
     ·exact .inl h
     ·exact .inr (List.mem_cons_of_mem _ h)
   ·rcases List.mem_cons.1 h with h | h
    ·exact .inl h
    ·exact .inr h
theorem KG {a b:List UInt8} (h1:a≠b) (h2 : ¬ An a b=true):An b a=true:=by
 have:=GB a b
 rw [Bool.eq_false_iff.2 h2,decide_eq_false h1] at this
 simpa using this
theorem Lk {l:List AG} (a:AG) (h:BA l):BA (BZ l a):=by
 induction l with
 | nil=>simp [BZ,BA]
 | cons x l ih=>
  have h1:=CS.1 h
  rw [BZ]
  split
  ·rename_i hn; exact CS.2 ⟨fun e he=>by rw [← hn]; exact h1.1 e he,h1.2⟩
  ·rename_i hn
   split
   ·rename_i hlt
    exact CS.2 ⟨fun e he=>by rcases Ot he with rfl | he; exact hlt; exact h1.1 e he,ih h1.2⟩
   ·rename_i hlt
    have hgt:=KG hn hlt
    exact CS.2 ⟨fun e he=>by rcases List.mem_cons.1 he with rfl | he; exact hgt; exact DB hgt (h1.1 e he),h⟩
theorem KU (l:List AG) (a:AG) (n:List UInt8):As (BZ l a) n=if a.Name=n then some a else As l n:=by
 induction l with
 | nil=>simp [BZ,As]
 | cons x l ih=>
  rw [BZ]
  split
  ·rename_i hn
   rw [As,As]
   by_cases h:a.Name=n
   ·rw [if_pos h,if_pos h]
   ·rw [if_neg h,if_neg h,if_neg (by rw [hn]; exact h)]
  ·rename_i hn
   split
   ·rw [As,As,ih]
    by_cases h:a.Name=n
    ·rw [if_pos h,if_neg (by rw [← h]; exact hn),if_pos h]
    ·rw [if_neg h,if_neg h]
   ·rw [As]
theorem LV (l:List AG) (a:AG):(BZ l a).length≤l.length+1:=by
 induction l with
 | nil=>simp [BZ]
 | cons x l ih=>rw [BZ]; split; simp; split; simp; omega; simp
def B8 (a:AG) (s:Bool × List AG) (x:AG):Bool × List AG:=
 let s1:=if s.1=false∧An x.Name a.Name=false then (true,s.2++[a]) else s
 if x.Name=a.Name then s1 else (s1.1,s1.2++[x])
theorem KE (a:AG) : ∀ (l:List AG) (o:List AG),(∀ e∈l,An a.Name e.Name=true)→l.foldl (B8 a) (true,o)=(true,o++l)
 | [],o,_=>by simp
 | x :: l,o,h=>by
  have hx:=h x (List.mem_cons_self ..)
  have:B8 a (true,o) x=(true,o++[x]):=by simp [B8,Cg hx]
  rw [List.foldl_cons,this,KE a l _ fun e he=>h e (List.mem_cons_of_mem _ he)]
  simp
theorem MT (a:AG) : ∀ (l:List AG) (o:List AG),BA l→(let s:=l.foldl (B8 a) (false,o); if s.1 then s.2 else s.2++[a])=o++BZ l a
 | [],o,_=>by simp [BZ]
 | x :: l,o,h=>by
  have h1:=CS.1 h
  rw [List.foldl_cons,BZ]
  by_cases hn:x.Name=a.Name
  ·have hs:An x.Name a.Name=false:=by rw [hn]; exact E3 _
   have:B8 a (false,o) x=(true,o++[a]):=by simp [B8,hn,E3]
   rw [this,KE a l _ fun e he=>by rw [← hn]; exact h1.1 e he,if_pos hn]
   simp
  ·by_cases hlt:An x.Name a.Name=true
   ·have:B8 a (false,o) x=(false,o++[x]):=by simp [B8,hn,hlt]
    rw [this,MT a l _ h1.2,if_neg hn,if_pos hlt]
    simp
   ·have hgt:=KG hn hlt
    have:B8 a (false,o) x=(true,o++[a]++[x]):=by simp [B8,hn,Bool.eq_false_iff.2 hlt]
    rw [this,KE a l _ fun e he=>DB hgt (h1.1 e he),if_neg hn,if_neg hlt]
    simp
theorem ME (a:AG) (s:Bool × List AG) (x:AG):(B8 a s x).2.length≤s.2.length+2:=by
 unfold B8
 have:(if s.1=false∧An x.Name a.Name=false then (true,s.2++[a]) else s).2.length≤s.2.length+1:=by split <;> simp
 generalize (if s.1=false∧An x.Name a.Name=false then (true,s.2++[a]) else s)=t at this
 by_cases h2:x.Name=a.Name
 ·simp only [h2,if_true]; omega
 ·simp only [h2,if_false,List.length_append,List.length_singleton]; omega
theorem Ru (l:List AG) (a:AG) (hs:BA l) (h:l.length≤1099511627776):FI l a=some (BZ l a):=by
 unfold FI
 rw [Of l (B8 a) (fun s k=>s.2.length≤2 * k) (fun b k _ hb=>by have:=ME a b l[k]!; show (B8 a b l[k]!).2.length≤_; omega) (fun c b k hk hb=>by
  have hb':b.length≤2 * k:=hb
  unfold HB
  rw [if_pos (by simpa using hk),BR hk,BW (by omega)]
  simp only [Aa]
  generalize l[k]! = x
  have e1:app 32 b [a]=some (b++[a]):=Fu (by omega)
  have e2:app 32 b [x]=some (b++[x]):=Fu (by omega)
  have e3:app 32 (b++[a]) [x]=some (b++[a]++[x]):=Fu (by simp; omega)
  cases c
  ·simp only [Bool.not_false,beq_self_eq_true,Bc,Aa,Bool.true_and]
   unfold B8
   cases h1:An x.Name a.Name
   ·by_cases h2:x.Name=a.Name <;> simp [e1,e3,h2]
   ·by_cases h2:x.Name=a.Name <;> simp [e2,h2]
  ·have:((!true) == true)=false:=rfl
   rw [this,CO]
   simp only [Aa,Bool.not_true,Bool.false_and,Bool.false_eq_true,if_false,B6]
   unfold B8
   by_cases h2:x.Name=a.Name <;> simp [e2,h2]) (fun c b=>by unfold HB; rw [if_neg (by simp)]) false [] (by simp)]
 have hp:=MT a l [] hs
 have hlen:(l.foldl (B8 a) (false,([]:List AG))).2.length≤2 * l.length:=by
  have : ∀ (m:List AG) (s:Bool × List AG),(m.foldl (B8 a) s).2.length≤s.2.length+2 * m.length:=by
   intro m
   induction m with
   | nil=>intro s; simp
   | cons x m ih=>intro s; rw [List.foldl_cons]; have:=ih (B8 a s x); have:=ME a s x; simp only [List.length_cons]; omega
  have:=this l (false,[])
  simpa using this
 generalize l.foldl (B8 a) (false,([]:List AG))=s at hp hlen
 obtain ⟨c,o⟩:=s
 simp only [B6]
 cases c
 ·simp only [Bool.not_false,if_true]
  rw [Fu (by simp at hlen; omega)]
  simpa using hp
 ·simpa using hp
def Bp (g:AG→AG→List AG):List AG→List AG→List AG
 | [],[]=>[]
 | x :: a,[]=>g x Bb++Bp g a []
 | [],y :: b=>g Bb y++Bp g [] b
 | x :: a,y :: b=>if An x.Name y.Name then g x Bb++Bp g a (y :: b) else if An y.Name x.Name then g Bb y++Bp g (x :: a) b else g x y++Bp g a b
  termination_by a b=>a.length+b.length
theorem Ou (stp:AG→AG→List AG→List AG) (g:AG→AG→List AG) (h : ∀ x y o,stp x y o=o++g x y) : ∀ (m:Nat) (a b c:List AG),a.length+b.length=m→BQ stp a b c=c++Bp g a b:=by
 intro m
 induction m using Nat.strongRecOn with
 | _ m ih=>
  intro a b c hm
  cases a with
  | nil=>
   cases b with
   | nil=>simp [BQ,Bp]
   | cons y b=>rw [BQ,Bp,ih (m-1) (by simp at hm; omega) [] b _ (by simp at hm ⊢; omega),h]; simp
  | cons x a=>
   cases b with
   | nil=>rw [BQ,Bp,ih (m-1) (by simp at hm; omega) a [] _ (by simp at hm ⊢; omega),h]; simp
   | cons y b=>
    rw [BQ,Bp]
    split
    ·rw [ih (m-1) (by simp at hm; omega) a (y :: b) _ (by simp at hm ⊢; omega),h]; simp
    ·split
     ·rw [ih (m-1) (by simp at hm; omega) (x :: a) b _ (by simp at hm ⊢; omega),h]; simp
     ·rw [ih (m-2) (by simp at hm; omega) a b _ (by simp at hm ⊢; omega),h]; simp
def I0 (l:List AG) (n:List UInt8) (o:Option AG):Prop:=l=o.toList ∧ ∀ e,o=some e→e.Name=n
structure JL (g:AG→AG→List AG) (G:Option AG→Option AG→Option AG):Prop where
 l : ∀ x:AG,x.Name≠[]→I0 (g x Bb) x.Name (G (some x) none)
 r : ∀ y:AG,y.Name≠[]→I0 (g Bb y) y.Name (G none (some y))
 b : ∀ x y:AG,x.Name=y.Name→x.Name≠[]→I0 (g x y) x.Name (G (some x) (some y))
 n:G none none=none
theorem OB {o:Option AG} {n0:List UInt8} {rest:List AG} (h1 : ∀ e,o=some e→e.Name=n0) (h2 : ∀ e∈rest,An n0 e.Name=true) (h3:BA rest):BA (o.toList++rest) ∧ ∀ n,As (o.toList++rest) n=if n0=n then o else As rest n:=by
 cases o with
 | none=>
  refine ⟨h3,fun n=>?_⟩
  split
  ·rename_i h; subst h; exact EH fun e he=>Cg (h2 e he)
  ·rfl
 | some x=>
  have hx:=h1 x rfl
  refine ⟨CS.2 ⟨fun e he=>by rw [hx]; exact h2 e he,h3⟩,fun n=>?_⟩
  show As (x :: rest) n=_
  rw [As,hx]
def Nm (l:List AG):Prop:=∀ e∈l,e.Name≠[]
theorem Oh {g:AG→AG→List AG} {G:Option AG→Option AG→Option AG} (hg:JL g G) : ∀ (m:Nat) (a b:List AG),a.length+b.length=m→BA a→BA b→Nm a→Nm b →
  (∀ n,(∀ e∈a,An n e.Name=true)→(∀ e∈b,An n e.Name=true) → ∀ e∈Bp g a b,An n e.Name=true)∧BA (Bp g a b) ∧ ∀ n,As (Bp g a b) n=G (As a n) (As b n):=by
 intro m
 induction m using Nat.strongRecOn with
 | _ m ih=>
  intro a b hm ha hb na nb
  have tail : ∀ {l:List AG} {n0:List UInt8} {o:Option AG} {a' b':List AG},I0 l n0 o→a'.length+b'.length<m→BA a'→BA b'→Nm a'→Nm b'→(∀ e∈a',An n0 e.Name=true)→(∀ e∈b',An n0 e.Name=true) →
    (∀ n,An n n0=true → ∀ e∈l++Bp g a' b',An n e.Name=true)∧BA (l++Bp g a' b') ∧ ∀ n,As (l++Bp g a' b') n=if n0=n then o else G (As a' n) (As b' n):=by
   rintro l n0 o a' b' ⟨rfl,ho⟩ hlt ha' hb' na' nb' h1 h2
   obtain ⟨i1,i2,i3⟩:=ih _ hlt a' b' rfl ha' hb' na' nb'
   obtain ⟨j1,j2⟩:=OB ho (i1 n0 h1 h2) i2
   refine ⟨fun n hn e he=>?_,j1,fun n=>by rw [j2 n,i3 n]⟩
   rcases List.mem_append.1 he with he | he
   ·rw [Option.mem_toList] at he; rw [ho e he]; exact hn
   ·exact DB hn (i1 n0 h1 h2 e he)
  cases a with
  | nil=>
   cases b with
   | nil=>exact ⟨fun n _ _ e he=>by simp [Bp] at he,by simp [Bp,BA],fun n=>by simp [Bp,As,hg.n]⟩
   | cons y b=>
    have h1:=CS.1 hb
    have hy:=nb y (List.mem_cons_self ..)
    rw [Bp]
    obtain ⟨k1,k2,k3⟩:=tail (a':=[]) (b':=b) (hg.r y hy) (by simp at hm ⊢; omega) ha h1.2 na (fun e he=>nb e (List.mem_cons_of_mem _ he)) (fun e he=>by cases he) h1.1
    refine ⟨fun n _ h e he=>k1 n (h y (List.mem_cons_self ..)) e he,k2,fun n=>?_⟩
    rw [k3 n]
    conv=>rhs; rw [As,As]
    split
    ·rfl
    ·rfl
  | cons x a=>
   have h1:=CS.1 ha
   have hx:=na x (List.mem_cons_self ..)
   cases b with
   | nil=>
    rw [Bp]
    obtain ⟨k1,k2,k3⟩:=tail (a':=a) (b':=[]) (hg.l x hx) (by simp at hm ⊢; omega) h1.2 hb (fun e he=>na e (List.mem_cons_of_mem _ he)) nb h1.1 (fun e he=>by cases he)
    refine ⟨fun n h _ e he=>k1 n (h x (List.mem_cons_self ..)) e he,k2,fun n=>?_⟩
    rw [k3 n]
    conv=>rhs; rw [As,As]
    split
    ·rfl
    ·rfl
   | cons y b=>
    have h2:=CS.1 hb
    have hy:=nb y (List.mem_cons_self ..)
    rw [Bp]
    split
    ·rename_i hlt
     obtain ⟨k1,k2,k3⟩:=tail (a':=a) (b':=y :: b) (hg.l x hx) (by simp at hm ⊢; omega) h1.2 hb (fun e he=>na e (List.mem_cons_of_mem _ he)) nb h1.1 (fun e he=>by
      rcases List.mem_cons.1 he with rfl | he
      ·exact hlt
      ·exact DB hlt (h2.1 e he))
     refine ⟨fun n h _ e he=>k1 n (h x (List.mem_cons_self ..)) e he,k2,fun n=>?_⟩
     rw [k3 n]
     by_cases hn:x.Name=n
     ·subst hn
      rw [if_pos rfl,As,if_pos rfl,EH fun e he=>by
       rcases List.mem_cons.1 he with rfl | he
       ·exact Cg hlt
       ·exact Cg (DB hlt (h2.1 e he))]
     ·rw [if_neg hn]; conv=>rhs; rw [As,if_neg hn]
    ·rename_i hlt
     split
     ·rename_i hgt
      obtain ⟨k1,k2,k3⟩:=tail (a':=x :: a) (b':=b) (hg.r y hy) (by simp at hm ⊢; omega) ha h2.2 na (fun e he=>nb e (List.mem_cons_of_mem _ he)) (fun e he=>by
       rcases List.mem_cons.1 he with rfl | he
       ·exact hgt
       ·exact DB hgt (h1.1 e he)) h2.1
      refine ⟨fun n _ h e he=>k1 n (h y (List.mem_cons_self ..)) e he,k2,fun n=>?_⟩
      rw [k3 n]
      by_cases hn:y.Name=n
      ·subst hn
       rw [if_pos rfl]
       conv=>rhs; rw [EH (l:=x :: a) (fun e he=>by
        rcases List.mem_cons.1 he with rfl | he
        ·exact Cg hgt
        ·exact Cg (DB hgt (h1.1 e he))),As,if_pos rfl]
      ·rw [if_neg hn]; conv=>rhs; arg 2; rw [As,if_neg hn]
     ·rename_i hgt
      have hxy:x.Name=y.Name:=by
       have:=GB x.Name y.Name
       rw [Bool.eq_false_iff.2 hlt,Bool.eq_false_iff.2 hgt] at this
       simpa using this
      obtain ⟨k1,k2,k3⟩:=tail (a':=a) (b':=b) (hg.b x y hxy hx) (by simp at hm ⊢; omega) h1.2 h2.2 (fun e he=>na e (List.mem_cons_of_mem _ he)) (fun e he=>nb e (List.mem_cons_of_mem _ he)) h1.1 (fun e he=>by rw [hxy]; exact h2.1 e he)
      refine ⟨fun n h _ e he=>k1 n (h x (List.mem_cons_self ..)) e he,k2,fun n=>?_⟩
      rw [k3 n]
      conv=>rhs; rw [As,As,← hxy]
      split <;> rfl
def D2:Option AG→Option AG→Option AG
 | o,none=>o
 | _,some y=>if y.Value=[] then none else some y
theorem Lc {stp:AG→AG→List AG→List AG} {g:AG→AG→List AG} {G:Option AG→Option AG→Option AG} (h : ∀ x y o,stp x y o=o++g x y) (hg:JL g G) {a b:List AG} (ha:BA a) (hb:BA b) (na:Nm a) (nb:Nm b) :
  BA (BQ stp a b []) ∧ ∀ n,As (BQ stp a b []) n=G (As a n) (As b n):=by
 rw [Ou stp g h _ a b [] rfl,List.nil_append]
 exact (Oh hg _ a b rfl ha hb na nb).2
def Gd (x y:AG):List AG:=if y.Name=[] then [x] else if y.Value=[] then [] else [y]
theorem Lj:JL Gd D2:=by
 refine ⟨fun x hx=>⟨by simp [Gd,D2,Bb],by rintro e ⟨⟩; rfl⟩,fun y hy=>⟨?_,?_⟩,fun x y hxy hx=>⟨?_,?_⟩,rfl⟩
 ·simp only [Gd,D2,if_neg hy]; split <;> rfl
 ·intro e he; simp only [D2] at he; split at he <;> cases he; rfl
 ·rw [hxy] at hx; simp only [Gd,D2,if_neg hx]; split <;> rfl
 ·intro e he; simp only [D2] at he; split at he <;> cases he; exact hxy.symm
theorem MB (x y o):Cm x y o=o++Gd x y:=by unfold Cm Gd; split; rfl; split; simp; rfl
theorem Qv {l:List AG} (h : ∀ k,k+1<l.length→An l[k]!.Name l[k+1]!.Name=true):BA l:=by
 induction l with
 | nil=>exact List.Pairwise.nil
 | cons x l ih=>
  have hl:=ih fun k hk=>by have:=h (k+1) (by simp; omega); simpa using this
  refine CS.2 ⟨fun e he=>?_,hl⟩
  cases l with
  | nil=>cases he
  | cons y l=>
   have h0:An x.Name y.Name=true:=by have:=h 0 (by simp); simpa using this
   rcases List.mem_cons.1 he with rfl | he
   ·exact h0
   ·exact DB h0 ((CS.1 hl).1 e he)
theorem Fw {l:List AG} {ch:Bool} (h:Br l ch=0):BA l∧Nm l∧(ch=false → ∀ e∈l,e.Value≠[]):=by
 have hn : ∀ k,k<l.length→Dn l ch k=none:=by
  intro k hk
  unfold Br at h
  cases hf:(List.range l.length).findSome? (Dn l ch) with
  | none=>exact (LL _ _).1 hf k hk
  | some r=>
   rw [hf] at h
   obtain ⟨j,_,hj⟩:=List.exists_of_findSome?_eq_some hf
   exfalso
   unfold Dn at hj
   simp only [Option.getD_some] at h
   subst h
   repeat' split at hj
   all_goals simp at hj
 have hname : ∀ k,k<l.length→Cn l[k]!.Name=true ∧ ¬ (Cu l[k]!.Value=false ∧ ¬ (ch=true∧l[k]!.Value=[])) ∧ ¬ (0<k∧An l[k-1]!.Name l[k]!.Name=false):=by
  intro k hk
  have:=hn k hk
  unfold Dn at this
  split at this
  ·cases this
  ·split at this
   ·cases this
   ·split at this
    ·cases this
    ·exact ⟨by rcases hx:Cn l[k]!.Name with _ | _; exact absurd hx (by assumption); rfl,‹_›,‹_›⟩
 refine ⟨Qv fun k hk=>?_,fun e he=>?_,fun hc e he=>?_⟩
 ·have:=(hname (k+1) hk).2.2
  rw [Nat.add_sub_cancel] at this
  simpa using this
 ·obtain ⟨k,hk,rfl⟩:=List.mem_iff_getElem.1 he
  have:=(hname k hk).1
  rw [getElem!_pos l k hk] at this
  intro e0
  rw [e0] at this
  simp [Cn] at this
 ·obtain ⟨k,hk,rfl⟩:=List.mem_iff_getElem.1 he
  have:=(hname k hk).2.1
  rw [getElem!_pos l k hk,hc] at this
  intro e0
  apply this
  rw [e0]
  exact ⟨rfl,by simp⟩
theorem Lb (p:AG→Bool) (h:AG→AG) (hh : ∀ x,(h x).Name=x.Name) : ∀ (l o:List AG),BA l→BA o →
  BA (l.foldl (fun o x=>if p x then BZ o (h x) else o) o) ∧ ∀ n,As (l.foldl (fun o x=>if p x then BZ o (h x) else o) o) n=match As l n with | some x=>if p x then some (h x) else As o n | none=>As o n
 | [],o,_,ho=>⟨ho,fun n=>rfl⟩
 | x :: l,o,hl,ho=>by
  have h1:=CS.1 hl
  have ho':BA (if p x then BZ o (h x) else o):=by split; exact Lk _ ho; exact ho
  obtain ⟨i1,i2⟩:=Lb p h hh l _ h1.2 ho'
  refine ⟨i1,fun n=>?_⟩
  rw [List.foldl_cons,i2 n,As]
  by_cases hn:x.Name=n
  ·subst hn
   rw [if_pos rfl,EH fun e he=>Cg (h1.1 e he)]
   cases hp:p x
   ·simp [hp]
   ·simp [hp,KU,hh]
  ·rw [if_neg hn]
   cases hf:As l n with
   | some z => 
    cases hp:p x
    ·simp [hp]
    ·simp [hp,KU,hh,hn]
   | none=>
    cases hp:p x
    ·simp [hp]
    ·simp [hp,KU,hh,hn]
theorem RI (p:AG→Bool) (h:AG→AG) (l o:List AG):(l.foldl (fun o x=>if p x then BZ o (h x) else o) o).length≤o.length+l.length:=by
 induction l generalizing o with
 | nil=>simp
 | cons x l ih=>
  rw [List.foldl_cons]
  have h1:=ih (if p x then BZ o (h x) else o)
  have h2:(if p x then BZ o (h x) else o).length≤o.length+1:=by split; exact LV _ _; omega
  simp only [List.length_cons]
  omega
def C9 (l o:List AG):List AG:=l.foldl (fun o x=>if (fun _=>true) x then BZ o (id x) else o) o
theorem Jq {l o:List AG} (hl:BA l) (ho:BA o):BA (C9 l o) ∧ ∀ n,As (C9 l o) n=match As l n with | some x=>some x | none=>As o n:=by
 obtain ⟨h1,h2⟩:=Lb (fun _=>true) id (fun _=>rfl) l o hl ho
 refine ⟨h1,fun n=>?_⟩
 unfold C9
 rw [h2 n]
 cases As l n <;> simp
theorem ND (l o:List AG):(C9 l o).length≤o.length+l.length:=RI _ _ _ _
theorem NL {f:(List AG × Int)→Option ((List AG × Int) ⊕ List AG)} (l o:List AG) (ho:BA o) (hb:o.length+l.length≤1099511627776)
  (h1 : ∀ b (k:Nat),k<l.length→f (b,(k:Int))=(AO (FI b l[k]!) fun o2=>AO (Aw .i64 ((k:Int)+1)) fun x=>some (.inl (o2,x)))) (h2 : ∀ b,f (b,(l.length:Int))=some (.inr b)):iter f (o,0)=some (C9 l o):=by
 unfold C9
 refine Nl l _ (fun b k=>BA b∧b.length≤o.length+k) (fun b k hk ⟨i1,i2⟩=>?_) (fun b k hk ⟨i1,i2⟩=>?_) h2 o ⟨ho,by omega⟩
 ·have:=LV b l[k]!
  exact ⟨Lk _ i1,by show (BZ b l[k]!).length≤_; omega⟩
 ·rw [h1 b k hk,Ru b _ i1 (by omega),Aa,BW (by omega)]; rfl
def Cf (l:List AG):List AG:=l.filter fun a=>!decide (a.Value=[])
theorem RG {l:List AG} (h:BA l):BA (Cf l) ∧ ∀ n,As (Cf l) n=(As l n).filter fun a=>!decide (a.Value=[]):=by
 induction l with
 | nil=>exact ⟨List.Pairwise.nil,fun n=>rfl⟩
 | cons x l ih=>
  have h1:=CS.1 h
  obtain ⟨i1,i2⟩:=ih h1.2
  have hlow : ∀ e∈Cf l,An x.Name e.Name=true:=fun e he=>h1.1 e (List.mem_filter.1 he).1
  by_cases hv:x.Value=[]
  ·have:Cf (x :: l)=Cf l:=by simp [Cf,hv]
   rw [this]
   refine ⟨i1,fun n=>?_⟩
   rw [As]
   split
   ·rename_i hn; subst hn
    rw [EH fun e he=>Cg (hlow e he)]
    simp [Option.filter,hv]
   ·exact i2 n
  ·have:Cf (x :: l)=x :: Cf l:=by simp [Cf,hv]
   rw [this]
   refine ⟨CS.2 ⟨hlow,i1⟩,fun n=>?_⟩
   rw [As,As]
   split
   ·simp [Option.filter,hv]
   ·exact i2 n
theorem PA (l ch:List AG) (hl:BA l) (hc:BA ch) (h:l.length+ch.length≤1099511627776):GD l ch=some (Cf (C9 ch (C9 l []))):=by
 unfold GD
 have s0:BA ([]:List AG):=List.Pairwise.nil
 have s1:=(Jq hl s0).1
 have l1:=ND l []
 have l2:=ND ch (C9 l [])
 rw [NL l [] s0 (by simp; omega) (fun b k hk=>by unfold G7; rw [if_pos (by simpa using hk),BR hk]; rfl) (fun b=>by unfold G7; rw [if_neg (by simp)]),Aa,
  NL ch _ s1 (by simp at l1; omega) (fun b k hk=>by unfold Hn; rw [if_pos (by simpa using hk),BR hk]; rfl) (fun b=>by unfold Hn; rw [if_neg (by simp)]),Aa]
 generalize C9 ch (C9 l [])=r at l2
 rw [Pv r (fun o x=>if x.Value=[] then o else o++[x]) (fun b k=>b.length≤k) (fun b k hk hb=>by split; omega; simp; omega) (fun b k hk hb=>by
  unfold G4
  rw [if_pos (by simpa using hk),BR hk,Aa,BW (by simp at l1; omega)]
  generalize r[k]! = x
  by_cases hv:x.Value=[]
  ·simp [hv]
  ·have:=Fu (o:=b) (x:=x) (by simp at l1; omega)
   simp [hv,this]) (fun b=>by unfold G4; rw [if_neg (by simp)]) [] (by simp),Aa]
 have : ∀ (m o:List AG),m.foldl (fun o x=>if x.Value=[] then o else o++[x]) o=o++Cf m:=by
  intro m
  induction m with
  | nil=>intro o; simp [Cf]
  | cons x m ih=>
   intro o
   rw [List.foldl_cons,ih]
   by_cases hv:x.Value=[]
   ·simp [hv,Cf]
   ·simp [hv,Cf]
 rw [this]; rfl
theorem Ns {l ch:List AG} (h1:Br l false=0) (h2:Br ch true=0):BQ Cm l ch []=Cf (C9 ch (C9 l [])):=by
 obtain ⟨s1,n1,v1⟩:=Fw h1
 obtain ⟨s2,n2,_⟩:=Fw h2
 have s0:BA ([]:List AG):=List.Pairwise.nil
 obtain ⟨i1,i2⟩:=Jq s1 s0
 obtain ⟨j1,j2⟩:=Jq s2 i1
 obtain ⟨k1,k2⟩:=RG j1
 obtain ⟨m1,m2⟩:=Lc MB Lj s1 s2 n1 n2
 refine NI m1 k1 fun n=>?_
 rw [m2,k2,j2,i2]
 cases hc:As ch n with
 | some y=>
  simp only [D2,Option.filter]
  by_cases hv:y.Value=[] <;> simp [hv]
 | none=>
  cases hl:As l n with
  | some x=>simp [D2,Option.filter,v1 rfl x (Jd hl).2]
  | none=>simp [D2,As,Option.filter]
theorem PL (stp:AG→AG→List AG→List AG) (h : ∀ x y o,(stp x y o).length≤o.length+1) : ∀ (m:Nat) (a b c:List AG),a.length+b.length=m→(BQ stp a b c).length≤c.length+m:=by
 intro m
 induction m using Nat.strongRecOn with
 | _ m ih=>
  intro a b c hm
  cases a with
  | nil=>
   cases b with
   | nil=>simp [BQ]
   | cons y b=>rw [BQ]; have:=ih (m-1) (by simp at hm; omega) [] b (stp Bb y c) (by simp at hm ⊢; omega); have:=h Bb y c; simp at hm; omega
  | cons x a=>
   cases b with
   | nil=>rw [BQ]; have:=ih (m-1) (by simp at hm; omega) a [] (stp x Bb c) (by simp at hm ⊢; omega); have:=h x Bb c; simp at hm; omega
   | cons y b=>
    rw [BQ]
    split
    ·have:=ih (m-1) (by simp at hm; omega) a (y :: b) (stp x Bb c) (by simp at hm ⊢; omega); have:=h x Bb c; simp at hm; omega
    ·split
     ·have:=ih (m-1) (by simp at hm; omega) (x :: a) b (stp Bb y c) (by simp at hm ⊢; omega); have:=h Bb y c; simp at hm; omega
     ·have:=ih (m-2) (by simp at hm; omega) a b (stp x y c) (by simp at hm ⊢; omega); have:=h x y c; simp at hm; omega
theorem LJ {σ β:Type} {f:σ→Option (σ ⊕ β)} (n:Nat) (R:Nat→σ→Prop) (Q:β→Prop)
  (h1 : ∀ k s,k<n→R k s→(∃ s',f s=some (.inl s')∧R (k+1) s')∨(∃ b,f s=some (.inr b)∧Q b))
  (h2 : ∀ s,R n s → ∃ b,f s=some (.inr b)∧Q b) {s:σ} (h0:R 0 s) : ∃ b,iter f s=some b∧Q b:=by
 have key : ∀ m k s,k+m=n→R k s → ∃ b,iter f s=some b∧Q b:=by
  intro m
  induction m with
  | zero=>
   intro k s hk hR
   obtain rfl:k=n:=by omega
   obtain ⟨b,hb,hq⟩:=h2 s hR
   exact ⟨b,Bj hb,hq⟩
  | succ m ih=>
   intro k s hk hR
   rcases h1 k s (by omega) hR with ⟨s',h3,h4⟩ | ⟨b,h3,h4⟩
   ·obtain ⟨b,h5,h6⟩:=ih (k+1) s' (by omega) h4
    exact ⟨b,by rw [CD h3,h5],h6⟩
   ·exact ⟨b,Bj h3,h4⟩
 exact key n 0 s (by omega) h0
theorem O6 {α:Type} [Inhabited α] {l:List α} {k:Nat} (h:k<l.length):l.drop k=l[k]! :: l.drop (k+1):=by
 rw [List.drop_eq_getElem_cons h,getElem!_pos l k h]
theorem KK {α:Type} [Inhabited α] {l:List α} {k:Nat} (h:k<l.length):l.take (k+1)=l.take k++[l[k]!]:=by
 rw [List.take_add_one,List.getElem?_eq_getElem h,getElem!_pos l k h]; rfl
theorem Hu {α:Type} [Inhabited α] {l:List α} {k:Nat} (h:k<l.length):l[k]! ∈ l:=by
 rw [getElem!_pos l k h]; exact List.getElem_mem h
theorem JN (x lo hi:Int):Eo x lo hi=some (decide (lo≤x) && decide (x≤hi)):=by
 unfold Eo
 rfl
theorem Kn {α σ β γ:Type} [Inhabited α] {f:σ→Option (σ ⊕ β)} (l:List α) (mk:γ→Nat→σ) (sp:List α→γ→β) (I:Nat→γ→Prop)
  (h1 : ∀ k c,k<l.length→I k c→(∃ c',f (mk c k)=some (.inl (mk c' (k+1)))∧I (k+1) c'∧sp (l[k]! :: l.drop (k+1)) c=sp (l.drop (k+1)) c')∨f (mk c k)=some (.inr (sp (l[k]! :: l.drop (k+1)) c)))
  (h2 : ∀ c,I l.length c→f (mk c l.length)=some (.inr (sp [] c))) (c:γ) (h0:I 0 c) (s:σ) (hs:s=mk c 0):iter f s=some (sp l c):=by
 subst hs
 have key : ∀ m k c,k+m=l.length→I k c→iter f (mk c k)=some (sp (l.drop k) c):=by
  intro m
  induction m with
  | zero=>
   intro k c hk hI
   obtain rfl:k=l.length:=by omega
   rw [List.drop_length]
   exact Bj (h2 c hI)
  | succ m ih=>
   intro k c hk hI
   rw [O6 (by omega)]
   rcases h1 k c (by omega) hI with ⟨c',h3,h4,h5⟩ | h3
   ·rw [CD h3,ih (k+1) c' (by omega) h4,h5]
   ·exact Bj h3
 have:=key l.length 0 c (by omega) h0
 rwa [List.drop_zero] at this
def Ea (c:UInt8):Bool:=decide (97≤c.toNat) && decide (c.toNat≤122)
def Fc (s:List UInt8):Bool:=s.all Ea && decide (1≤s.length) && decide (s.length≤200) && !decide (s[s.length-1]!.toNat=97)
theorem Rc (c:UInt8):((decide ((c.toNat:Int)<97)) || (decide (122<(c.toNat:Int)))) = !Ea c:=by
 unfold Ea
 rw [Bool.eq_iff_iff]
 simp only [Bool.or_eq_true,decide_eq_true_eq,Bool.not_eq_true',Bool.and_eq_false_imp,decide_eq_false_iff_not]
 omega
theorem M1 (s:List UInt8) (hm:s.length≤1048576):iter (fun (a:Int)=>GM s a) 0=some (ES (if s.all Ea then none else some false)):=by
 rw [D9 (n:=s.length) (fun k=>if Ea s[k]! then none else some false) (fun k hk=>by
  unfold GM
  rw [if_pos (by simpa using hk),BR hk,Aa,BW (by omega),Rc]
  cases Ea s[k]! <;> rfl) (by unfold GM; rw [if_neg (by simp)]),IN]
theorem Nv (s:List UInt8) (hm:s.length≤1048576):iter (fun (a:Int)=>Ic s a) 0=some (ES (if s.all Ea then none else some false)):=M1 s hm
theorem M4 (c:UInt8):decide ((c.toNat:Int)=97)=decide (c.toNat=97):=by
 rw [Bool.eq_iff_iff]; simp only [decide_eq_true_eq]; omega
theorem Rz (s:List UInt8) (hm:s.length≤1048576):G9 s=some (Fc s):=by
 unfold G9
 rw [M1 s hm]
 unfold Fc
 by_cases h0:s=[]
 ·subst h0; rfl
 ·have hl:1≤s.length:=List.length_pos_iff.2 h0
  rw [decide_eq_false h0,Bool.false_or]
  by_cases h1:s.length≤200
  ·have e1:decide (200<(s.length:Int))=false:=by simp; omega
   rw [e1,show ((false == false)=true) from rfl,Bc,I4 hl (by omega),Aa,Bc,BR (by omega),Aa,Bool.false_or,M4]
   rw [decide_eq_true hl,decide_eq_true h1]
   generalize s.all Ea=al
   cases decide (s[s.length-1]!.toNat=97) <;> cases al <;> rfl
  ·have e1:decide (200<(s.length:Int))=true:=by simp; omega
   rw [e1,show ((true == false)=false) from rfl,CO,Aa,CO,Aa,Bool.true_or,if_pos rfl,decide_eq_false h1]
   simp
theorem PG (s:List UInt8) (hm:s.length≤1048576):Hg s=some (Fc s):=by
 unfold Hg
 rw [Nv s hm]
 unfold Fc
 generalize hal:s.all Ea=al
 cases al
 ·rfl
 ·rw [show (if true=true then (none:Option Bool) else some false)=none from rfl,show (ES (none:Option Bool)) = .nrm () from rfl,FF]
  by_cases hl:1≤s.length
  ·by_cases h1:s.length≤200
   ·have e1:decide (1≤(s.length:Int))=true:=by simp; omega
    have e2:decide ((s.length:Int)≤200)=true:=by simp; omega
    rw [e1,e2,show ((true && true) == true)=true from rfl,Bc,I4 hl (by omega),Aa,Bc,BR (by omega),Aa,M4,decide_eq_true hl,decide_eq_true h1]
    rfl
   ·have e2:decide ((s.length:Int)≤200)=false:=by simp; omega
    rw [e2,Bool.and_false,show (false == true)=false from rfl,CO,Aa,CO,Aa,decide_eq_false h1]
    simp
  ·have e1:decide (1≤(s.length:Int))=false:=by simp; omega
   rw [e1,Bool.false_and,show (false == true)=false from rfl,CO,Aa,CO,Aa,decide_eq_false hl]
   simp
def DA (x:AP):Int:=
 if x.Kind≠0∧x.Kind≠1 then 8
 else if ¬ (((1≤x.Clock∧x.Clock≤1073741824)∧(0≤x.Site∧x.Site≤1000))∧(1≤x.Item∧x.Item≤1073741824)) then 2
 else if x.Kind=0 then (if x.Name≠[]∨x.Value≠[] then 4 else if ¬ (-1≤x.Parent∧x.Parent≤1073741824) then 2 else if Fc x.Place then 0 else 9)
 else (if x.Parent≠0∨x.Place≠[] then 4 else if Cn x.Name then (if x.Value≠[]∧Cu x.Value=false then 23 else 0) else 9)
structure Lz (x:AP):Prop where
 place:x.Place.length≤1048576
 name:x.Name.length≤1048576
 value:x.Value.length≤1048576
theorem SO (x:AP) (h:Lz x):HM x=some (DA x):=by
 unfold HM DA
 rw [Rz _ h.place,R3 _ (by have:=h.name; omega),O5 _ (by have:=h.value; omega)]
 obtain ⟨Clock,Site,Kind,Item,Parent,Place,Name,Value⟩:=x
 dsimp only
 by_cases hk:Kind≠0∧Kind≠1
 ·rw [if_pos hk,if_pos (by simp [hk.1,hk.2])]
 rw [if_neg hk,if_neg (by simpa using hk)]
 by_cases hr:((1≤Clock∧Clock≤1073741824)∧(0≤Site∧Site≤1000))∧(1≤Item∧Item≤1073741824)
 ·rw [if_neg (Classical.not_not.2 hr),if_neg (by simp only [Bool.or_eq_true,decide_eq_true_eq]; omega)]
  by_cases h0:Kind=0
  ·subst h0
   rw [if_pos rfl]
   by_cases hn:Name≠[]∨Value≠[]
   ·rw [if_pos hn,if_pos (by rcases hn with h | h <;> simp [h])]
    rcases hn with h | h <;> simp [h]
   ·have hn1:Name=[]:=Classical.byContradiction fun h=>hn (.inl h)
    have hn2:Value=[]:=Classical.byContradiction fun h=>hn (.inr h)
    subst hn1; subst hn2
    rw [if_neg hn]
    simp only [decide_true,Bool.not_true,Bool.or_self,Bool.and_false,Bool.false_eq_true,if_false,Aa,show (decide ((0:Int)=1))=false from rfl,Bool.false_and,Bool.true_and,beq_self_eq_true,Bc]
    by_cases hp : -1≤Parent∧Parent≤1073741824
    ·rw [if_neg (Classical.not_not.2 hp),if_neg (by simp only [Bool.or_eq_true,decide_eq_true_eq]; omega)]
     cases Fc Place <;> simp [CO]
    ·rw [if_pos hp,if_pos (by simp only [Bool.or_eq_true,decide_eq_true_eq]; omega)]
  ·have h1:Kind=1:=Classical.byContradiction fun h=>hk ⟨h0,h⟩
   subst h1
   rw [if_neg h0]
   simp only [show (decide ((1:Int)=0))=false from rfl,Bool.false_and,Bool.false_eq_true,if_false,Aa,decide_true,Bool.true_and,show (false == true)=false from rfl,CO,beq_self_eq_true,Bc]
   by_cases hn:Parent≠0∨Place≠[]
   ·rw [if_pos hn,if_pos (by rcases hn with h | h <;> simp [h])]
   ·have hn1:Parent=0:=Classical.byContradiction fun h=>hn (.inl h)
    have hn2:Place=[]:=Classical.byContradiction fun h=>hn (.inr h)
    subst hn1; subst hn2
    rw [if_neg hn,if_neg (by simp)]
    cases Cn Name
    ·simp
    ·by_cases hv:Value=[]
     ·subst hv; simp [CO]
     ·simp [hv]
      cases Cu Value <;> rfl
 ·rw [if_pos hr,if_pos (by simp only [Bool.or_eq_true,decide_eq_true_eq]; omega)]
def EF (a b:AP):Bool:=(decide (a.Clock<b.Clock)) || ((decide (a.Clock=b.Clock)) && (decide (a.Site<b.Site)))
theorem Py (a b:AP):IA a b=some (EF a b):=rfl
def Dc (x y:Int):Int:=if x<y then -1 else if y<x then 1 else 0
theorem JF (x y:Int):Ei x y=some (Dc x y):=by
 unfold Ei Dc Hz
 simp only [decide_true,Bool.not_true,Aa,Bool.false_eq_true,if_false,decide_eq_true_eq]
 split
 ·rfl
 ·split <;> rfl
theorem Ma (x y:Int):Gf [x,y]=some (if x≠0 then x else y):=by
 unfold Gf
 rw [D9 (n:=2) (fun k=>if [x,y][k]! ≠ 0 then some [x,y][k]! else none) (fun k hk=>by
  unfold HG
  rw [if_pos (by simp; omega),BR (by simpa using hk),Aa,BW (by omega)]
  by_cases h:[x,y][k]! = 0
  ·rw [if_neg (by rw [h]; decide),if_neg (Classical.not_not.2 h)]; rfl
  ·rw [if_pos (by rw [decide_eq_false h]; rfl),if_pos h]; rfl) (by unfold HG; rw [if_neg (by simp)])]
 by_cases hx:x=0
 ·by_cases hy:y=0
  ·subst hx; subst hy; rfl
  ·subst hx; simp [List.range_succ,hy,ES]
 ·simp [List.range_succ,hx,ES]
theorem Px (a b:AP) : ∃ r,Hk a b=some r∧decide (r<0)=EF a b∧decide (0≤r) = !EF a b:=by
 unfold Hk
 rw [JF,JF,Aa,Aa,Ma,Aa]
 refine ⟨_,rfl,?_⟩
 have key:(if Dc a.Clock b.Clock≠0 then Dc a.Clock b.Clock else Dc a.Site b.Site)<0↔EF a b=true:=by
  unfold EF Dc
  simp only [Bool.or_eq_true,Bool.and_eq_true,decide_eq_true_eq]
  by_cases h1:a.Clock<b.Clock
  ·simp [h1]
  ·by_cases h2:b.Clock<a.Clock
   ·simp [h1,h2]; omega
   ·by_cases h3:a.Site<b.Site
    ·simp [h1,h2,h3]; omega
    ·by_cases h4:b.Site<a.Site
     ·simp [h1,h2,h3,h4]
     ·simp [h1,h2,h3,h4]
 constructor
 ·rw [Bool.eq_iff_iff,decide_eq_true_eq]; exact key
 ·rw [Bool.eq_iff_iff,decide_eq_true_eq,Bool.not_eq_true',← Bool.not_eq_true,← key]; omega
def Ie (l:List AP):Prop:=∀ x∈l,Lz x
def Eu (l:List AP) (k:Nat):Option Int:=if DA l[k]! ≠ 0 then some (DA l[k]!) else if 0<k∧EF l[k-1]! l[k]! = false then some 5 else none
def G3 (l:List AP):Int:=((List.range l.length).findSome? (Eu l)).getD 0
theorem Rm (l:List AP) (h:Ie l) (hm:l.length≤1048576):H0 l=some (G3 l):=by
 unfold H0
 rw [D9 (n:=l.length) (Eu l) (fun k hk=>by
  unfold G5 Eu
  rw [if_pos (by simpa using hk),BR hk,Aa,SO _ (h _ (Hu hk)),Aa,BW (by omega)]
  by_cases he:DA l[k]! = 0
  ·rw [if_neg (by rw [he]; decide),if_neg (Classical.not_not.2 he)]
   by_cases hk0:k=0
   ·subst hk0; rfl
   ·have h0:decide ((0:Int)<(k:Int))=true:=by simp; omega
    obtain ⟨r,e1,_,e2⟩:=Px l[k-1]! l[k]!
    rw [h0,show ((true == true)=true) from rfl,Bc,I4 (by omega) (by omega),Aa,Bc,BR (by omega),Aa,Bc,e1,Aa,e2,Bool.true_and]
    cases he:EF l[k-1]! l[k]!
    ·rw [if_pos (by decide),if_pos ⟨by omega,rfl⟩]; rfl
    ·rw [if_neg (by simp),if_neg (by simp)]; rfl
  ·rw [if_pos (by rw [decide_eq_false he]; rfl),if_pos he]; rfl) (by unfold G5; rw [if_neg (by simp)]),MJ]
 rfl
theorem RW (l:List AP) (h:Ie l) (hm:l.length≤1048576):Hi l=some (G3 l):=by
 unfold Hi
 rw [D9 (n:=l.length) (Eu l) (fun k hk=>by
  unfold HR Eu
  have hok:=h _ (Hu hk)
  rw [if_pos (by simpa using hk),BR hk,Aa]
  have hlast:(AO (gd ((decide ((0:Int)<(k:Int))) == true) (Aw .i64 ((k:Int)-1))) fun (x5:Int)=>AO (gd ((decide ((0:Int)<(k:Int))) == true) (Ak l x5)) fun (x6:AP)=>
    AO (gd ((decide ((0:Int)<(k:Int))) == true) (IA x6 l[k]!)) fun (r4:Bool)=>if ((decide ((0:Int)<(k:Int))) && (!r4)) then (some (.inr (.ext 5))) else (AO (Aw .i64 ((k:Int)+1)) fun (x7:Int)=>some (.inl x7))) =
    D0 (ρ:=Int) k (if 0<k∧EF l[k-1]! l[k]! = false then some 5 else none):=by
   rw [BW (by omega)]
   by_cases hk0:k=0
   ·subst hk0; rfl
   ·have h0:decide ((0:Int)<(k:Int))=true:=by simp; omega
    rw [h0,show ((true == true)=true) from rfl,Bc,I4 (by omega) (by omega),Aa,Bc,BR (by omega),Aa,Bc,Py,Aa,Bool.true_and]
    cases he:EF l[k-1]! l[k]!
    ·rw [if_pos (by decide),if_pos ⟨by omega,rfl⟩]; rfl
    ·rw [if_neg (by simp),if_neg (by simp)]; rfl
  rw [JN,JN,JN,JN,PG _ hok.place,QF _ (by have:=hok.name; omega),OH _ (by have:=hok.value; omega)]
  unfold DA
  generalize l[k]! = x at hlast ⊢
  by_cases hkd:x.Kind≠0∧x.Kind≠1
  ·rw [if_pos hkd,if_pos (by simp [hkd.1,hkd.2]),if_pos (by decide)]; rfl
  rw [if_neg hkd,if_neg (by simpa using hkd)]
  by_cases hr:((1≤x.Clock∧x.Clock≤1073741824)∧(0≤x.Site∧x.Site≤1000))∧(1≤x.Item∧x.Item≤1073741824)
  ·have e1:(decide (1≤x.Clock) && decide (x.Clock≤1073741824))=true:=by simp [hr.1.1]
   have e2:(decide (0≤x.Site) && decide (x.Site≤1000))=true:=by simp [hr.1.2]
   have e3:(decide (1≤x.Item) && decide (x.Item≤1073741824))=true:=by simp [hr.2]
   rw [e1,e2,e3,if_neg (Classical.not_not.2 hr)]
   simp only [Bool.not_true,beq_self_eq_true,Bc,Aa,Bool.or_self,Bool.false_eq_true,if_false]
   by_cases h0:x.Kind=0
   ·rw [if_pos h0,if_pos (by simp [h0])]
    by_cases hn:x.Name≠[]∨x.Value≠[]
    ·rw [if_pos hn,if_pos (by rcases hn with h | h <;> simp [h]),Ci,if_pos (by decide)]; rfl
    ·rw [if_neg hn,if_neg (by simpa using hn)]
     by_cases hp : -1≤x.Parent∧x.Parent≤1073741824
     ·have e4:(decide (-1≤x.Parent) && decide (x.Parent≤1073741824))=true:=by simp [hp]
      rw [if_neg (Classical.not_not.2 hp),e4,if_neg (by simp)]
      cases Fc x.Place
      ·rw [if_pos (by decide),Ci,if_pos (by decide)]; rfl
      ·rw [if_neg (by simp),FF,if_pos rfl,if_neg (by simp)]; exact hlast
     ·have e4:(decide (-1≤x.Parent) && decide (x.Parent≤1073741824))=false:=by rw [← Bool.not_eq_true]; simpa using hp
      rw [if_pos hp,e4,if_pos (by decide),Ci,if_pos (by decide)]; rfl
   ·rw [if_neg h0,if_neg (by simp [h0])]
    by_cases hn:x.Parent≠0∨x.Place≠[]
    ·rw [if_pos hn,if_pos (by rcases hn with h | h <;> simp [h]),Ci,if_pos (by decide)]; rfl
    ·rw [if_neg hn,if_neg (by simpa using hn)]
     cases Cn x.Name
     ·rw [if_pos (by decide),Ci,if_pos (by simp)]; rfl
     ·rw [if_neg (by simp),if_pos rfl]
      by_cases hv:x.Value=[]
      ·rw [if_neg (c:=x.Value≠[]∧_) (by simp [hv])]
       simp only [hv,decide_true,Bool.not_true,show (false == true)=false from rfl,CO,Aa,Bool.false_and,Bool.false_eq_true,if_false,FF]
       rw [if_neg (by simp)]; exact hlast
      ·simp only [decide_eq_false hv,Bool.not_false,beq_self_eq_true,Bc,Aa,Bool.true_and]
       cases Cu x.Value
       ·rw [if_pos (by decide),Ci,if_pos (c:=x.Value≠[]∧_) ⟨hv,rfl⟩,if_pos (by decide)]; rfl
       ·rw [if_neg (by simp),FF,if_neg (c:=x.Value≠[]∧_) (by simp),if_neg (by simp)]; exact hlast
  ·rw [if_pos hr]
   by_cases g1:1≤x.Clock∧x.Clock≤1073741824
   ·have e1:(decide (1≤x.Clock) && decide (x.Clock≤1073741824))=true:=by simp [g1]
    by_cases g2:0≤x.Site∧x.Site≤1000
    ·have e2:(decide (0≤x.Site) && decide (x.Site≤1000))=true:=by simp [g2]
     have e3:(decide (1≤x.Item) && decide (x.Item≤1073741824))=false:=by
      rw [← Bool.not_eq_true]; simp only [Bool.and_eq_true,decide_eq_true_eq]; exact fun g3=>hr ⟨⟨g1,g2⟩,g3⟩
     rw [e1,e2,e3,if_pos (show (2:Int)≠0 by decide)]; rfl
    ·have e2:(decide (0≤x.Site) && decide (x.Site≤1000))=false:=by
      rw [← Bool.not_eq_true]; simp only [Bool.and_eq_true,decide_eq_true_eq]; exact g2
     rw [e1,e2,if_pos (show (2:Int)≠0 by decide)]; rfl
   ·have e1:(decide (1≤x.Clock) && decide (x.Clock≤1073741824))=false:=by
     rw [← Bool.not_eq_true]; simp only [Bool.and_eq_true,decide_eq_true_eq]; exact g1
    rw [e1,if_pos (show (2:Int)≠0 by decide)]; rfl) (by unfold HR; rw [if_neg (by simp)]),MJ]
 rfl
def VA (ch:Bool) (e:AG):Prop:=Cn e.Name=true∧(Cu e.Value=true∨(ch=true∧e.Value=[]))
theorem Iv (l:List AG) (ch:Bool):Br l ch=0↔BA l ∧ ∀ e∈l,VA ch e:=by
 constructor
 ·intro h
  refine ⟨(Fw h).1,fun e he=>?_⟩
  obtain ⟨k,hk,rfl⟩:=List.mem_iff_getElem.1 he
  have hn:Dn l ch k=none:=by
   unfold Br at h
   cases hf:(List.range l.length).findSome? (Dn l ch) with
   | none=>exact (LL _ _).1 hf k hk
   | some r=>
    rw [hf] at h
    obtain ⟨j,_,hj⟩:=List.exists_of_findSome?_eq_some hf
    exfalso
    unfold Dn at hj
    simp only [Option.getD_some] at h
    subst h
    repeat' split at hj
    all_goals simp at hj
  unfold Dn at hn
  rw [getElem!_pos l k hk] at hn
  generalize l[k]=x at hn ⊢
  unfold VA
  by_cases c1:Cn x.Name=false
  ·rw [if_pos c1] at hn; cases hn
  ·rw [if_neg c1] at hn
   by_cases c2:Cu x.Value=false ∧ ¬ (ch=true∧x.Value=[])
   ·rw [if_pos c2] at hn; cases hn
   ·refine ⟨by simpa using c1,?_⟩
    by_cases c3:Cu x.Value=true
    ·exact .inl c3
    ·exact .inr (Classical.byContradiction fun h3=>c2 ⟨by simpa using c3,h3⟩)
 ·rintro ⟨hs,hv⟩
  unfold Br
  have:(List.range l.length).findSome? (Dn l ch)=none:=by
   rw [List.findSome?_eq_none_iff]
   intro k hk
   have hk:=List.mem_range.1 hk
   have h1:=hv _ (Hu hk)
   unfold Dn
   unfold VA at h1
   rw [if_neg (by rw [h1.1]; simp),if_neg (by rintro ⟨a1,a2⟩; rcases h1.2 with h2 | h2; rw [a1] at h2; cases h2; exact a2 h2),if_neg]
   rintro ⟨h0,h2⟩
   have:=List.pairwise_iff_getElem.1 hs (k-1) k (by omega) hk (by omega)
   rw [getElem!_pos l k hk,getElem!_pos l (k-1) (by omega)] at h2
   rw [this] at h2; cases h2
  rw [this]; rfl
theorem LR : ∀ {l:List AG},BA l → ∀ e∈l,As l e.Name=some e
 | [],_,e,h=>by simp at h
 | x :: l,hs,e,h=>by
  obtain ⟨h1,h2⟩:=CS.1 hs
  rcases List.mem_cons.1 h with rfl | h
  ·unfold As; rw [if_pos rfl]
  ·have:=Cg (h1 e h)
   unfold As; rw [if_neg (Ne.symm this)]
   exact LR h2 e h
theorem RD {stp:AG→AG→List AG→List AG} {g:AG→AG→List AG} {G:Option AG→Option AG→Option AG} (h : ∀ x y o,stp x y o=o++g x y) (hg:JL g G) {a b:List AG} {ca cb ch:Bool}
  (ha:Br a ca=0) (hb:Br b cb=0) (hG : ∀ x y e,(∀ z,x=some z→VA ca z)→(∀ z,y=some z→VA cb z)→G x y=some e→VA ch e):Br (BQ stp a b []) ch=0:=by
 obtain ⟨s1,v1⟩:=(Iv a ca).1 ha
 obtain ⟨s2,v2⟩:=(Iv b cb).1 hb
 obtain ⟨k1,k2⟩:=Lc h hg s1 s2 (Fw ha).2.1 (Fw hb).2.1
 refine (Iv _ _).2 ⟨k1,fun e he=>?_⟩
 have h1:=LR k1 e he
 rw [k2] at h1
 exact hG _ _ e (fun z hz=>v1 z (Jd hz).2) (fun z hz=>v2 z (Jd hz).2) h1
theorem Sa {a b:List AG} (ha:Br a false=0) (hb:Br b true=0):Br (BQ Cm a b []) false=0:=
 RD MB Lj ha hb fun x y e hx hy h=>by
  unfold D2 at h
  split at h
  ·exact hx e h
  ·split at h
   ·cases h
   ·rename_i hv
    cases h
    have:=hy e rfl
    exact ⟨this.1,.inl (by rcases this.2 with h2 | h2; exact h2; exact absurd h2.2 hv)⟩
theorem QY {a:AG} (hn:Cn a.Name=true) (hv:a.Value=[]∨Cu a.Value=true):Br [a] true=0:=by
 refine (Iv _ _).2 ⟨by unfold BA; simp,fun e he=>?_⟩
 obtain rfl:=List.mem_singleton.1 he
 exact ⟨hn,hv.elim (fun h=>.inr ⟨rfl,h⟩) .inl⟩
def C6 (l:List AG) (a:AG):List AG:=BQ Cm l [a] []
theorem Mo (l:List AG) (a:AG):(C6 l a).length≤l.length+1:=by
 have:=PL Cm Lf _ l [a] [] rfl
 simpa [C6] using this
theorem Lx {l:List AG} {a:AG} (hl:Br l false=0) (ha:Br [a] true=0):Br (C6 l a) false=0:=Sa hl ha
theorem Ln {l:List AG} {a:AG} (h:l.length≤1048576):GC l [a]=some (C6 l a):=QP _ _ (by simp; omega)
theorem LS {l:List AG} {a:AG} (hl:Br l false=0) (ha:Br [a] true=0) (h:l.length≤1048576):GD l [a]=some (C6 l a):=by
 rw [PA l [a] (Fw hl).1 (Fw ha).1 (by simp; omega),← Ns hl ha]; rfl
theorem NO:Br [] false=0:=by decide
def A1 (l:List AE):List (Int × AE):=l.map fun x=>(x.Item,x)
def BX (l:List AE):List (Int × List AG):=l.map fun x=>(x.Item,x.Attrs)
theorem J7 (l:List AE) (k:Int):Ad (BX l) k=Ad (A1 l) k:=by
 induction l with
 | nil=>rfl
 | cons x r ih=>show (if k=x.Item then some 0 else (Ad (BX r) k).map (· + 1))=(if k=x.Item then some 0 else (Ad (A1 r) k).map (· + 1)); rw [ih]
theorem EA {l:List AE} {k:Int} {j:Nat} (h:Ad (A1 l) k=some j) : ∃ hj:j<l.length,l[j].Item=k:=by
 obtain ⟨v,h1,_⟩:=Bm h
 unfold A1 at h1
 rw [List.getElem?_map,Option.map_eq_some_iff] at h1
 obtain ⟨x,h2,h3⟩:=h1
 obtain ⟨hj,rfl⟩:=List.getElem?_eq_some_iff.1 h2
 simp only [Prod.mk.injEq] at h3
 exact ⟨hj,h3.1⟩
theorem FQ {l:List AE} {k:Int} (h:Ad (A1 l) k=none) : ∀ x∈l,x.Item≠k:=by
 induction l with
 | nil=>intro x hx; cases hx
 | cons y r ih=>
  unfold A1 at h
  rw [List.map_cons] at h
  unfold Ad at h
  split at h
  ·cases h
  ·rename_i hk
   have h2:Ad (A1 r) k=none:=by
    cases hr:Ad (A1 r) k with
    | none=>rfl
    | some j=>unfold A1 at hr; rw [hr] at h; cases h
   intro x hx
   rcases List.mem_cons.1 hx with rfl | hx
   ·exact fun e=>hk e.symm
   ·exact ih h2 x hx
theorem MQ {l:List AE} {k:Int} : AN (A1 l) k=(Ad (A1 l) k).bind fun j=>l[j]?:=by
 cases h:Ad (A1 l) k with
 | none=>exact (CY h).1
 | some j=>
  obtain ⟨v,h1,h2,_⟩:=Bm h
  unfold A1 at h1
  rw [List.getElem?_map,Option.map_eq_some_iff] at h1
  obtain ⟨x,h3,h4⟩:=h1
  simp only [Prod.mk.injEq] at h4
  rw [h2,Option.bind_some,h3,h4.2]
def Ii (key:Int) (l:List AE) (c:Nat):BN Unit Int:=match Ad (A1 l) key with | some j=>.ext ((c+j:Nat):Int) | none=>.nrm ()
def EK (l:List AE) (k:Int):Int:=match Ad (A1 l) k with | some j=>(j:Int) | none=>-1
theorem GH (l:List AE) (k:Int) (hm:l.length≤1048577):EL l k=some (EK l k):=by
 unfold EL
 have h:=Kn (f:=fun (a:Int)=>Ed l k a) l (fun (_:Nat) i=>(i:Int)) (fun r c=>Ii k r c) (fun i c=>c=i)
  (fun i c hi hc=>by
   subst hc
   show (∃ c',Ed l k (c:Int)=_∧_)∨Ed l k (c:Int)=_
   unfold Ed
   rw [if_pos (by simpa using hi),BR hi,Aa,BW (by omega)]
   by_cases he:l[c]!.Item=k
   ·right
    rw [if_pos (by simpa using he)]
    unfold Ii A1
    rw [List.map_cons]
    unfold Ad
    rw [if_pos he.symm]; rfl
   ·left
    refine ⟨c+1,by rw [if_neg (by simpa using he)]; rfl,rfl,?_⟩
    unfold Ii A1
    rw [List.map_cons]
    conv=>lhs; unfold Ad
    rw [if_neg (fun e=>he e.symm)]
    cases Ad ((l.drop (c+1)).map fun x=>(x.Item,x)) k with
    | none=>rfl
    | some j=>simp only [Option.map_some]; congr 2; omega)
  (fun c hc=>by
   subst hc
   show Ed l k (l.length:Int)=_
   unfold Ed
   rw [if_neg (by simp)]; rfl) 0 rfl 0 rfl
 rw [h]
 unfold Ii EK
 cases Ad (A1 l) k with
 | none=>rfl
 | some j=>simp
inductive Ay (items:List AE) (top:Int):Int→Prop
 | self:Ay items top top
 | step {x:AE} (hx:x∈items) (h:Ay items top x.Parent):Ay items top x.Item
theorem Ay.inv {items:List AE} {top y:Int} (h:Ay items top y):y=top ∨ ∃ x∈items,x.Item=y∧Ay items top x.Parent:=by
 cases h with
 | self=>exact .inl rfl
 | step hx h=>exact .inr ⟨_,hx,rfl,h⟩
def Rk (items:List AE) (d:Int→Nat):Prop:=∀ x∈items,d x.Parent<d x.Item
def Uq (items:List AE):Prop:=(items.map (·.Item)).Nodup
theorem Uq.eq {items:List AE} (h:Uq items) {x y:AE} (hx:x∈items) (hy:y∈items) (e:x.Item=y.Item):x=y:=by
 unfold Uq at h
 induction items with
 | nil=>cases hx
 | cons a r ih=>
  rw [List.map_cons,List.nodup_cons] at h
  rcases List.mem_cons.1 hx with ex | hx1
  ·rcases List.mem_cons.1 hy with ey | hy1
   ·rw [ex,ey]
   ·exact (h.1 (List.mem_map.2 ⟨y,hy1,by rw [← ex]; exact e.symm⟩)).elim
  ·rcases List.mem_cons.1 hy with ey | hy1
   ·exact (h.1 (List.mem_map.2 ⟨x,hx1,by rw [← ey]; exact e⟩)).elim
   ·exact ih h.2 hx1 hy1
theorem IH {items:List AE} (hu:Uq items) {top:Int} {x:AE} (hx:x∈items) (hne:x.Item≠top):Ay items top x.Item↔Ay items top x.Parent:=by
 constructor
 ·intro h
  rcases h.inv with e | ⟨z,hz,e,h2⟩
  ·exact absurd e hne
  ·rw [hu.eq hx hz e.symm]; exact h2
 ·exact Ay.step hx
open Classical in
theorem RX {items:List AE} {d:Int→Nat} (hid : ∀ x∈items,1≤x.Item) (hu:Uq items) (hr:Rk items d) {top:Int} (ht:1≤top) (m2:List (Int × List AG)) :
  ∀ item:Int,Hh (A1 items) m2 item top=some (decide (Ay items top item)):=by
 have key : ∀ (n:Nat) (item:Int),d item≤n → ∃ c,iter (fun (a:Int)=>Di (A1 items) top a) item=some c∧BS (some c) (fun (_:Unit)=>some false)=some (decide (Ay items top item)):=by
  intro n
  induction n with
  | zero=>
   intro item hd
   by_cases h0:0<item
   ·by_cases h1:item=top
    ·subst h1
     refine ⟨.ext true,Bj (by unfold Di; rw [if_pos (by simpa using h0),if_pos (by simp)]),?_⟩
     rw [Ci,decide_eq_true (Ay.self)]
    ·cases hk:Ad (A1 items) item with
     | none=>
      have hn:=FQ hk
      refine ⟨.ext false,Bj (by unfold Di; rw [if_pos (by simpa using h0),if_neg (by simpa using h1),(CY hk).1]; rfl),?_⟩
      rw [Ci,decide_eq_false]
      intro hb
      rcases hb.inv with e | ⟨x,hx,e,_⟩
      ·exact h1 e
      ·exact hn x hx e
     | some j=>
      obtain ⟨hj,e⟩:=EA hk
      have:=hr _ (List.getElem_mem hj)
      rw [e] at this
      omega
   ·refine ⟨.nrm (),Bj (by unfold Di; rw [if_neg (by simpa using h0)]),?_⟩
    rw [FF,decide_eq_false]
    intro hb
    rcases hb.inv with e | ⟨x,hx,e,_⟩
    ·omega
    ·have:=hid x hx; omega
  | succ n ih=>
   intro item hd
   by_cases h0:0<item
   ·by_cases h1:item=top
    ·subst h1
     refine ⟨.ext true,Bj (by unfold Di; rw [if_pos (by simpa using h0),if_pos (by simp)]),?_⟩
     rw [Ci,decide_eq_true (Ay.self)]
    ·cases hk:Ad (A1 items) item with
     | none=>
      have hn:=FQ hk
      refine ⟨.ext false,Bj (by unfold Di; rw [if_pos (by simpa using h0),if_neg (by simpa using h1),(CY hk).1]; rfl),?_⟩
      rw [Ci,decide_eq_false]
      intro hb
      rcases hb.inv with e | ⟨x,hx,e,_⟩
      ·exact h1 e
      ·exact hn x hx e
     | some j=>
      obtain ⟨hj,e⟩:=EA hk
      have hmem:=List.getElem_mem hj
      have hlt:=hr _ hmem
      rw [e] at hlt
      obtain ⟨c,h2,h3⟩:=ih items[j].Parent (by omega)
      refine ⟨c,?_,?_⟩
      ·rw [CD (s':=items[j].Parent) (by
        unfold Di
        rw [if_pos (by simpa using h0),if_neg (by simpa using h1),MQ,hk,Option.bind_some,List.getElem?_eq_getElem hj]
        rfl)]
       exact h2
      ·rw [h3]
       congr 1
       rw [decide_eq_decide,← IH hu hmem (by rw [e]; exact h1),e]
   ·refine ⟨.nrm (),Bj (by unfold Di; rw [if_neg (by simpa using h0)]),?_⟩
    rw [FF,decide_eq_false]
    intro hb
    rcases hb.inv with e | ⟨x,hx,e,_⟩
    ·omega
    ·have:=hid x hx; omega
 intro item
 obtain ⟨c,h1,h2⟩:=key _ item (Nat.le_refl _)
 unfold Hh
 rw [h1]; exact h2
theorem Lu {α:Type} {p q:α→Bool} {l:List α} (h : ∀ x∈l,p x=true→q x=true) {z:α} (hz:z∈l) (h1:q z=true) (h2:p z=false):l.countP p<l.countP q:=by
 induction l with
 | nil=>cases hz
 | cons a r ih=>
  have hr:r.countP p≤r.countP q:=List.countP_mono_left fun x hx=>h x (List.mem_cons_of_mem _ hx)
  rw [List.countP_cons,List.countP_cons]
  rcases List.mem_cons.1 hz with rfl | hz
  ·rw [h1,h2]; simp; omega
  ·have:=ih (fun x hx=>h x (List.mem_cons_of_mem _ hx)) hz
   have ha:=h a (List.mem_cons_self ..)
   cases hp:p a
   ·simp; split <;> omega
   ·rw [ha hp]; simp; omega
open Classical in
theorem Nt {items:List AE} {d:Int→Nat} (hu:Uq items) (hr:Rk items d) (hm:items.length≤1048576) (top item:Int):Gc items item top=some (decide (Ay items top item)):=by
 let r:Int→Nat:=fun y=>items.countP fun z=>decide (d z.Item<d y)
 have hlen : ∀ x∈items,r x.Item+1≤items.length:=fun x hx=>by
  have:=Lu (p:=fun z=>decide (d z.Item<d x.Item)) (q:=fun _=>true) (l:=items) (fun _ _ _=>rfl) hx rfl (by simp)
  rw [List.countP_true] at this
  exact this
 have hstep : ∀ x∈items,∀ y∈items,y.Item=x.Parent→r y.Item+1≤r x.Item:=fun x hx y hy e=>by
  have h1:=hr x hx
  exact Lu (p:=fun z=>decide (d z.Item<d y.Item)) (q:=fun z=>decide (d z.Item<d x.Item)) (fun z _ hz=>by simp at hz ⊢; rw [e] at hz; omega) hy (by simp; rw [e]; exact h1) (by simp)
 have key : ∀ (m:Nat) (item:Int) (i:Nat),i+m=items.length+1→1≤m→(∀ x∈items,x.Item=item→r item+2≤m) →
   ∃ c,iter (fun (a:Int × Int)=>De items top ((items.length+1:Nat):Int) a.1 a.2) (item,(i:Int))=some c∧BS (some c) (fun (_:Unit)=>some false)=some (decide (Ay items top item)):=by
  intro m
  induction m with
  | zero=>intro item i _ h; omega
  | succ m ih=>
   intro item i hi _ hn
   have hlt:decide ((i:Int)<((items.length+1:Nat):Int))=true:=by simp; omega
   by_cases h1:item=top
   ·subst h1
    refine ⟨.ext true,Bj (by show De items item _ item (i:Int)=_; unfold De; rw [if_pos hlt,if_pos (by simp)]),?_⟩
    rw [Ci,decide_eq_true (Ay.self)]
   ·cases hk:Ad (A1 items) item with
    | none=>
     have hno:=FQ hk
     refine ⟨.ext false,Bj (by
      show De items top _ item (i:Int)=_
      unfold De
      rw [if_pos hlt,if_neg (by simpa using h1),GH _ _ (by omega),Aa]
      unfold EK
      rw [hk]; rfl),?_⟩
     rw [Ci,decide_eq_false]
     intro hb
     rcases hb.inv with e | ⟨x,hx,e,_⟩
     ·exact h1 e
     ·exact hno x hx e
    | some j=>
     obtain ⟨hj,e⟩:=EA hk
     have hmem:=List.getElem_mem hj
     have hnd:=hn _ hmem e
     obtain ⟨c,h2,h3⟩:=ih items[j].Parent (i+1) (by omega) (by omega) (fun x hx ex=>by
      have:=hstep _ hmem x hx ex
      rw [e] at this
      rw [← ex]; omega)
     refine ⟨c,?_,?_⟩
     ·rw [CD (s':=(items[j].Parent,((i+1:Nat):Int))) (by
       show De items top _ item (i:Int)=_
       unfold De
       rw [if_pos hlt,if_neg (by simpa using h1),GH _ _ (by omega),Aa]
       unfold EK
       rw [hk]
       simp only
       rw [if_neg (by simp),Dy hj,Aa,BW (by omega),Aa])]
      exact h2
     ·rw [h3]
      congr 1
      rw [decide_eq_decide,← IH hu hmem (by rw [e]; exact h1),e]
 unfold Gc
 rw [BW (by omega),Aa]
 obtain ⟨c,h1,h2⟩:=key (items.length+1) item 0 (by omega) (by omega) (fun x hx e=>by have:=hlen x hx; rw [e] at this; omega)
 have h1':iter (fun (a:Int × Int)=>De items top ((items.length+1:Nat):Int) a.1 a.2) (item,0)=some c:=h1
 rw [h1']; exact h2
def upd (l:List AE) (n:AE):List AE:=match Ad (A1 l) n.Item with | some j=>l.set j n | none=>l++[n]
theorem PC (l:List AE) (n:AE):Ai (A1 l) n.Item n=A1 (upd l n):=by
 unfold upd
 cases h:Ad (A1 l) n.Item with
 | none=>rw [(CY h).2]; simp [A1]
 | some j=>
  obtain ⟨v,_,_,h3⟩:=Bm h
  rw [h3]; simp [A1,List.map_set]
theorem LM (l:List AE) (n:AE):Ai (BX l) n.Item n.Attrs=BX (upd l n):=by
 unfold upd
 have hk:=J7 l n.Item
 cases h:Ad (A1 l) n.Item with
 | none=>rw [h] at hk; rw [(CY hk).2]; simp [BX]
 | some j=>
  rw [h] at hk
  obtain ⟨v,_,_,h3⟩:=Bm hk
  rw [h3]; simp [BX,List.map_set]
theorem Kh (l:List AE) (n:AE):(upd l n).length≤l.length+1:=by
 unfold upd
 split <;> simp
theorem Jm {l:List AE} (h:Uq l) (n:AE):Uq (upd l n):=by
 unfold upd
 split
 ·rename_i j hk
  obtain ⟨hj,e⟩:=EA hk
  unfold Uq at h ⊢
  rw [List.map_set,← e]
  have:(l.map (·.Item)).set j l[j].Item=l.map (·.Item):=by
   apply List.ext_getElem?
   intro i
   rw [List.getElem?_set]
   split
   ·rename_i hij; subst hij; simp [hj]
   ·rfl
  rw [this]; exact h
 ·rename_i hk
  have hn:=FQ hk
  unfold Uq at h ⊢
  rw [List.map_append,List.map_singleton,List.nodup_append]
  refine ⟨h,by simp,fun a ha b hb=>?_⟩
  rw [List.mem_singleton] at hb
  obtain ⟨x,hx,rfl⟩:=List.mem_map.1 ha
  rw [hb]; exact hn x hx
theorem Ho {l:List AE} (h:Uq l) {n z:AE} (hz:z∈upd l n):z=n∨(z∈l∧z.Item≠n.Item):=by
 unfold upd at hz
 split at hz
 ·rename_i j hk
  obtain ⟨hj,e⟩:=EA hk
  obtain ⟨i,hi⟩:=List.mem_iff_getElem?.1 hz
  rw [List.getElem?_set] at hi
  split at hi
  ·cases hi; exact .inl rfl
  ·rename_i hij
   obtain ⟨hil,rfl⟩:=List.getElem?_eq_some_iff.1 hi
   refine .inr ⟨List.getElem_mem hil,fun e2=>hij ?_⟩
   unfold Uq at h
   rw [List.nodup_iff_pairwise_ne,List.pairwise_iff_getElem] at h
   rcases Nat.lt_trichotomy i j with hlt | heq | hlt
   ·exact (h i j (by simpa using hil) (by simpa using hj) hlt (by simp [e2,e])).elim
   ·exact heq.symm
   ·exact (h j i (by simpa using hj) (by simpa using hil) hlt (by simp [e2,e])).elim
 ·rename_i hk
  have hn:=FQ hk
  rcases List.mem_append.1 hz with h1 | h1
  ·exact .inr ⟨h1,hn z h1⟩
  ·exact .inl (List.mem_singleton.1 h1)
open Classical in
theorem RE {l:List AE} {d:Int→Nat} (hr:Rk l d) (hu:Uq l) {n:AE} (hb : ¬ Ay l n.Item n.Parent) : ∃ d',Rk (upd l n) d':=by
 refine ⟨fun y=>if Ay l n.Item y then d y+d n.Parent+1 else d y,fun z hz=>?_⟩
 simp only
 rcases Ho hu hz with rfl | ⟨hz1,hz2⟩
 ·rw [if_neg hb,if_pos Ay.self]; omega
 ·have h1:=hr z hz1
  have h2:=IH hu hz1 hz2
  by_cases h3:Ay l n.Item z.Item
  ·rw [if_pos h3,if_pos (h2.1 h3)]; omega
  ·rw [if_neg h3,if_neg (fun h=>h3 (h2.2 h))]; exact h1
structure DI (k:Nat) (items attrs:List AE):Prop where
 uq:Uq items
 id : ∀ x∈items,1≤x.Item
 no : ∀ x∈items,x.Attrs=[]
 rk : ∃ d,Rk items d
 li:items.length≤k
 ua:Uq attrs
 la:attrs.length≤k
 ok : ∀ x∈attrs,Br x.Attrs false=0∧x.Attrs.length≤k
theorem Nj {o:AP} (h:DA o=0):(1≤o.Item∧o.Item≤1073741824)∧((o.Kind=0)∨(o.Kind=1∧Br [⟨o.Name,o.Value⟩] true=0)):=by
 unfold DA at h
 split at h
 ·exact absurd h (by decide)
 rename_i hk
 split at h
 ·exact absurd h (by decide)
 rename_i hr
 refine ⟨(Classical.not_not.1 hr).2,?_⟩
 split at h
 ·rename_i h0; exact .inl h0
 ·rename_i h0
  have h1:o.Kind=1:=Classical.byContradiction fun h=>hk ⟨h0,h⟩
  refine .inr ⟨h1,?_⟩
  split at h
  ·exact absurd h (by decide)
  ·split at h
   ·rename_i hn
    split at h
    ·exact absurd h (by decide)
    ·rename_i hv
     refine QY hn ?_
     by_cases e:o.Value=[]
     ·exact .inl e
     ·right
      cases hv2:Cu o.Value
      ·exact absurd ⟨e,hv2⟩ hv
      ·rfl
   ·exact absurd h (by decide)
theorem E0 {α:Type} {l m:List α} (h:l.length+m.length≤2097152):app 56 l m=some (l++m):=by
 unfold app
 rw [if_pos ⟨by omega,by omega⟩]
open Classical in
theorem Ro {l:List AP} {k:Nat} {items attrs:List AE} (h:DI k items attrs) (hk:k<l.length) (hm:l.length≤1048576) (ho:DA l[k]! = 0) :
  ∃ items' attrs',DI (k+1) items' attrs'∧EM l (k:Int) (A1 items) (BX attrs)=some (.inl (((k+1:Nat):Int),A1 items',BX attrs')) ∧
   EI l (k:Int) items attrs=some (.inl (((k+1:Nat):Int),items',attrs')):=by
 obtain ⟨hI,hkind⟩:=Nj ho
 have hli:=h.li
 have hla:=h.la
 unfold EM EI
 rw [if_pos (by simpa using hk),if_pos (by simpa using hk),BR hk,Aa,Aa,BW (by omega)]
 generalize l[k]! = o at *
 rcases hkind with h0 | ⟨h1,ha⟩
 ·
  obtain ⟨d,hd⟩:=h.rk
  rw [if_neg (by rw [h0]; decide),if_neg (by rw [h0]; decide),RX h.id h.uq hd hI.1,Aa]
  have hcond : ∃ r2:Bool,gd (((decide (o.Parent=o.Item)) == false) && ((decide (0<o.Parent)) == true)) (Gc items o.Parent o.Item)=some r2∧(((decide (o.Parent=o.Item)) || ((decide (0<o.Parent)) && r2))=decide (Ay items o.Item o.Parent)):=by
   rw [Nt h.uq hd (by omega)]
   by_cases e1:o.Parent=o.Item
   ·refine ⟨default,by rw [decide_eq_true e1]; rfl,?_⟩
    rw [decide_eq_true e1,e1,decide_eq_true Ay.self]; rfl
   ·by_cases e2:0<o.Parent
    ·refine ⟨decide (Ay items o.Item o.Parent),by rw [decide_eq_false e1,decide_eq_true e2]; rfl,?_⟩
     rw [decide_eq_false e1,decide_eq_true e2]; simp
    ·refine ⟨default,by rw [decide_eq_false e1,decide_eq_false e2]; rfl,?_⟩
     rw [decide_eq_false e1,decide_eq_false e2,decide_eq_false]
     ·rfl
     ·intro hb
      rcases hb.inv with e | ⟨x,hx,e,_⟩
      ·exact e1 e
      ·have:=h.id x hx; omega
  obtain ⟨r2,e1,e2⟩:=hcond
  rw [e1,Aa,e2]
  by_cases hb:Ay items o.Item o.Parent
  ·refine ⟨items,attrs,⟨h.uq,h.id,h.no,h.rk,by omega,h.ua,by omega,fun x hx=>⟨(h.ok x hx).1,by have:=(h.ok x hx).2; omega⟩⟩,?_,?_⟩
   ·rw [decide_eq_true hb,if_neg (by decide),B6]; rfl
   ·rw [decide_eq_true hb,if_pos rfl,B6]; rfl
  ·have hn:(⟨o.Item,o.Parent,o.Place,[]⟩:AE)=⟨o.Item,o.Parent,o.Place,[]⟩:=rfl
   generalize hnn:(⟨o.Item,o.Parent,o.Place,[]⟩:AE)=n at hn
   have hni:n.Item=o.Item:=by rw [← hnn]
   have hnp:n.Parent=o.Parent:=by rw [← hnn]
   refine ⟨upd items n,attrs,⟨Jm h.uq n,fun x hx=>?_,fun x hx=>?_,RE hd h.uq (by rw [hni,hnp]; exact hb),by have:=Kh items n; omega,h.ua,by omega,fun x hx=>⟨(h.ok x hx).1,by have:=(h.ok x hx).2; omega⟩⟩,?_,?_⟩
   ·rcases Ho h.uq hx with rfl | ⟨hx1,_⟩
    ·rw [hni]; exact hI.1
    ·exact h.id x hx1
   ·rcases Ho h.uq hx with rfl | ⟨hx1,_⟩
    ·rw [← hnn]
    ·exact h.no x hx1
   ·rw [decide_eq_false hb,if_pos (by decide),B6,Aa,← hni,PC]
   ·rw [decide_eq_false hb,if_neg (by decide),GH _ _ (by omega),Aa]
    unfold upd EK
    rw [hni]
    cases hkx:Ad (A1 items) o.Item with
    | none=>
     simp only
     rw [if_pos (by decide),E0 (by simp; omega),Aa,B6,Dy (by simp),Aa,B6,Aa,Int.toNat_natCast]
     simp
    | some j=>
     obtain ⟨hj,_⟩:=EA hkx
     simp only
     rw [if_neg (by simp),B6,Dy hj,Aa,B6,Aa,Int.toNat_natCast]
 ·
  rw [if_pos (by rw [h1]; decide),if_pos (by rw [h1]; decide),GH _ _ (by omega),Aa]
  unfold EK
  have hkb:=J7 attrs o.Item
  cases hkx:Ad (A1 attrs) o.Item with
  | none=>
   rw [hkx] at hkb
   simp only
   rw [(CY hkb).1,Option.getD_none,Ln (by simp),Aa,if_pos (by decide),E0 (by simp; omega)]
   simp only [Aa,B6]
   rw [Dy (by simp)]
   simp only [Aa,List.getElem_append_right (Nat.le_refl _),Nat.sub_self,List.getElem_cons_zero]
   rw [LS NO ha (by simp)]
   simp only [Aa,B6,Int.toNat_natCast]
   have e1:(attrs++[(⟨o.Item,0,[],[]⟩:AE)]).set attrs.length ⟨o.Item,0,[],C6 [] ⟨o.Name,o.Value⟩⟩=upd attrs ⟨o.Item,0,[],C6 [] ⟨o.Name,o.Value⟩⟩:=by
    unfold upd; rw [hkx]; simp
   rw [e1]
   refine ⟨items,upd attrs ⟨o.Item,0,[],C6 [] ⟨o.Name,o.Value⟩⟩,⟨h.uq,h.id,h.no,h.rk,by omega,Jm h.ua _,by have:=Kh attrs ⟨o.Item,0,[],C6 [] ⟨o.Name,o.Value⟩⟩; omega,fun x hx=>?_⟩,?_,rfl⟩
   ·rcases Ho h.ua hx with rfl | ⟨hx1,_⟩
    ·exact ⟨Lx NO ha,by have:=Mo [] ⟨o.Name,o.Value⟩; simp at this; simp only; omega⟩
    ·exact ⟨(h.ok x hx1).1,by have:=(h.ok x hx1).2; omega⟩
   ·rw [← LM]
  | some j=>
   rw [hkx] at hkb
   obtain ⟨hj,ej⟩:=EA hkx
   have hmem:=List.getElem_mem hj
   have hok:=h.ok _ hmem
   obtain ⟨v,v1,v2,v3⟩:=Bm hkb
   have hv:v=attrs[j].Attrs:=by
    unfold BX at v1
    rw [List.getElem?_map,List.getElem?_eq_getElem hj] at v1
    simp at v1
    exact v1.2.symm
   subst hv
   simp only
   rw [v2,Option.getD_some,Ln (by omega),Aa,if_neg (by simp)]
   simp only [Aa,B6]
   rw [Dy hj]
   simp only [Aa]
   rw [LS hok.1 ha (by omega)]
   simp only [Aa,B6,Int.toNat_natCast]
   have e1:attrs.set j ⟨attrs[j].Item,attrs[j].Parent,attrs[j].Place,C6 attrs[j].Attrs ⟨o.Name,o.Value⟩⟩=upd attrs ⟨attrs[j].Item,attrs[j].Parent,attrs[j].Place,C6 attrs[j].Attrs ⟨o.Name,o.Value⟩⟩:=by
    unfold upd; simp only; rw [ej,hkx]
   rw [e1]
   refine ⟨items,upd attrs ⟨attrs[j].Item,attrs[j].Parent,attrs[j].Place,C6 attrs[j].Attrs ⟨o.Name,o.Value⟩⟩,⟨h.uq,h.id,h.no,h.rk,by omega,Jm h.ua _,by have:=Kh attrs ⟨attrs[j].Item,attrs[j].Parent,attrs[j].Place,C6 attrs[j].Attrs ⟨o.Name,o.Value⟩⟩; rw [← e1] at this ⊢; simpa using (by omega:attrs.length≤k+1),fun x hx=>?_⟩,?_,rfl⟩
   ·rcases Ho h.ua hx with rfl | ⟨hx1,_⟩
    ·exact ⟨Lx hok.1 ha,by have:=Mo attrs[j].Attrs ⟨o.Name,o.Value⟩; simp only; omega⟩
    ·exact ⟨(h.ok x hx1).1,by have:=(h.ok x hx1).2; omega⟩
   ·rw [← LM]; simp only; rw [ej]
end Go.Proofs.Ytelkfhdgmbahgaa.Al

set_option linter.unusedVariables false
namespace Go.Proofs.Ytelkfhdgmbahgaa.Al
open Go.Sort
structure DX (lt:AE→AE→Bool):Prop where
 swo:SWO lt
 tot : ∀ a b,lt a b=false→lt b a=false→a.Item=b.Item
theorem DX.asymm {lt:AE→AE→Bool} (h:DX lt) {a b:AE} (h1:lt a b=true):lt b a=false:=by
 cases h2:lt b a
 ·rfl
 ·have:=h.swo.trans a b a h1 h2
  rw [h.swo.irrefl] at this; cases this
def Da (a b:AE):Bool:=An a.Place b.Place || (decide (a.Place=b.Place) && decide (a.Item<b.Item))
def Cs (a b:AE):Bool:=decide (a.Item<b.Item)
theorem Kb (a b:AE):Da a b=true↔An a.Place b.Place=true∨(a.Place=b.Place∧a.Item<b.Item):=by
 unfold Da; simp
theorem HP (a b:AE):Da a b=false↔An b.Place a.Place=true∨(b.Place=a.Place∧b.Item≤a.Item):=by
 rw [← Bool.not_eq_true,Kb]
 constructor
 ·intro h
  by_cases e:b.Place=a.Place
  ·exact .inr ⟨e,by
    have : ¬ a.Item<b.Item:=fun h2=>h (.inr ⟨e.symm,h2⟩)
    omega⟩
  ·exact .inl (KG (fun e2=>e e2.symm) fun h2=>h (.inl h2))
 ·rintro (h | ⟨h1,h2⟩) (g | ⟨g1,g2⟩)
  ·rw [LG h] at g; cases g
  ·rw [g1,E3] at h; cases h
  ·rw [h1,E3] at g; cases g
  ·omega
theorem ER:DX Da where
 swo:={
  irrefl:=fun x=>by rw [HP]; exact .inr ⟨rfl,Int.le_refl _⟩
  trans:=fun x y z h1 h2=>by
   rw [Kb] at *
   rcases h1 with h1 | ⟨h1,g1⟩ <;> rcases h2 with h2 | ⟨h2,g2⟩
   ·exact .inl (DB h1 h2)
   ·exact .inl (by rw [← h2]; exact h1)
   ·exact .inl (by rw [h1]; exact h2)
   ·exact .inr ⟨h1.trans h2,by omega⟩
  ntrans:=fun x y z h1 h2=>by
   rw [HP] at *
   rcases h1 with h1 | ⟨h1,g1⟩ <;> rcases h2 with h2 | ⟨h2,g2⟩
   ·exact .inl (DB h2 h1)
   ·exact .inl (by rw [h2]; exact h1)
   ·exact .inl (by rw [← h1]; exact h2)
   ·exact .inr ⟨h2.trans h1,by omega⟩ }
 tot:=fun a b h1 h2=>by
  rw [HP] at *
  rcases h1 with h1 | ⟨h1,g1⟩ <;> rcases h2 with h2 | ⟨h2,g2⟩
  ·rw [LG h1] at h2; cases h2
  ·rw [h2,E3] at h1; cases h1
  ·rw [h1,E3] at h2; cases h2
  ·omega
theorem Fm:DX Cs where
 swo:={ irrefl:=fun x=>by unfold Cs; simp,trans:=fun x y z h1 h2=>by unfold Cs at *; simp at *; omega,ntrans:=fun x y z h1 h2=>by unfold Cs at *; simp at *; omega }
 tot:=fun a b h1 h2=>by unfold Cs at *; simp at *; omega
def C2 (lt:AE→AE→Bool) (xs:List AE):List AE:=xs.mergeSort fun a b=>!lt b a
theorem C4 (lt:AE→AE→Bool) (xs:List AE):(C2 lt xs).Perm xs:=List.mergeSort_perm ..
theorem IV {lt:AE→AE→Bool} (h:DX lt) (xs:List AE):(C2 lt xs).Pairwise fun a b=>lt b a=false:=by
 have:=List.pairwise_mergeSort (le:=fun a b=>!lt b a) (fun a b c h1 h2=>by
  simp only [Bool.not_eq_true'] at *
  exact h.swo.ntrans c b a h2 h1) (fun a b=>by
  cases h1:lt b a
  ·rfl
  ·simp [h.asymm h1]) xs
 exact this.imp fun h=>by simpa using h
theorem Uq.perm {A B:List AE} (h:Uq A) (p:B.Perm A):Uq B:=(p.map fun x:AE=>x.Item).nodup_iff.2 h
theorem Uq.filter {A:List AE} (h:Uq A) (p:AE→Bool):Uq (A.filter p):=by
 unfold Uq at *
 exact (List.filter_sublist.map _).nodup h
theorem MS {lt:AE→AE→Bool} (h:DX lt) {xs:List AE} (hu:Uq xs):(C2 lt xs).Pairwise fun a b=>lt a b=true:=by
 have h1:=IV h xs
 have h2:Uq (C2 lt xs):=hu.perm (C4 lt xs)
 unfold Uq at h2
 rw [List.nodup_iff_pairwise_ne,List.pairwise_map] at h2
 refine (h1.and h2).imp fun {a b} ⟨g1,g2⟩=>?_
 cases g3:lt a b
 ·exact absurd (h.tot a b g3 g1) g2
 ·rfl
theorem Kw {lt:AE→AE→Bool} (h:DX lt) {c:List AE} (hc:c.Pairwise fun a b=>lt a b=true) {k:Nat} (hk:k<c.length) {z:AE} (hz:z∈c):lt c[k] z=true↔z∈c.drop (k+1):=by
 rw [List.pairwise_iff_getElem] at hc
 constructor
 ·intro hl
  obtain ⟨i,hi,rfl⟩:=List.mem_iff_getElem.1 hz
  have:k<i:=by
   rcases Nat.lt_trichotomy k i with g | g | g
   ·exact g
   ·subst g; rw [h.swo.irrefl] at hl; cases hl
   ·rw [h.asymm (hc i k hi hk g)] at hl; cases hl
  rw [List.mem_iff_getElem?]
  exact ⟨i-(k+1),by rw [List.getElem?_drop,show k+1+(i-(k+1))=i by omega,List.getElem?_eq_getElem hi]⟩
 ·intro hm
  obtain ⟨i,hi⟩:=List.mem_iff_getElem?.1 hm
  rw [List.getElem?_drop] at hi
  obtain ⟨hil,rfl⟩:=List.getElem?_eq_some_iff.1 hi
  exact hc k (k+1+i) hk hil (by omega)
def Hb (cand:AE→Bool) (lt:AE→AE→Bool) (A:List AE) (next:Option Nat) (k:Nat):Option Nat:=
 match next with
 | none=>if cand A[k]! = true then some k else none
 | some j=>if cand A[k]! = true∧lt A[k]! A[j]! = true then some k else some j
def nx:Option Nat→Int
 | none=>-1
 | some j=>(j:Int)
theorem Lm {cand:AE→Bool} {lt:AE→AE→Bool} (ho:DX lt) {A:List AE} {f:Int × Int→Option ((Int × Int) ⊕ Int)}
  (h1 : ∀ k next,k<A.length→(∀ j,next=some j→j<A.length)→f (nx next,(k:Int))=some (.inl (nx (Hb cand lt A next k),((k+1:Nat):Int)))) (h2 : ∀ next,f (nx next,(A.length:Int))=some (.inr (nx next))) :
  ∃ next,iter f (-1,0)=some (nx next)∧(match next with | none=>∀ z∈A,cand z=false | some j=>∃ hj:j<A.length,cand A[j]=true ∧ ∀ z∈A,cand z=true→lt z A[j]=false):=by
 have key:=LJ (f:=f) A.length (fun k s=>∃ next,s=(nx next,(k:Int))∧(match next with | none=>∀ i,i<k → ∀ hi:i<A.length,cand A[i]=false | some j=>∃ hj:j<A.length,cand A[j]=true ∧ ∀ i,i<k → ∀ hi:i<A.length,cand A[i]=true→lt A[i] A[j]=false))
  (fun b=>∃ next,b=nx next∧(match next with | none=>∀ z∈A,cand z=false | some j=>∃ hj:j<A.length,cand A[j]=true ∧ ∀ z∈A,cand z=true→lt z A[j]=false))
  (fun k s hk hs=>by
   obtain ⟨next,rfl,hn⟩:=hs
   left
   have hlt : ∀ j,next=some j→j<A.length:=fun j e=>by subst e; exact hn.1
   refine ⟨_,h1 k next hk hlt,Hb cand lt A next k,rfl,?_⟩
   unfold Hb
   cases next with
   | none=>
    simp only at hn ⊢
    rw [getElem!_pos A k hk]
    by_cases hc:cand A[k]=true
    ·rw [if_pos hc]
     refine ⟨hk,hc,fun i hi hil hci=>?_⟩
     by_cases hik:i<k
     ·rw [hn i hik hil] at hci; cases hci
     ·obtain rfl:i=k:=by omega
      exact ho.swo.irrefl _
    ·rw [if_neg hc]
     intro i hi hil
     by_cases hik:i<k
     ·exact hn i hik hil
     ·obtain rfl:i=k:=by omega
      simpa using hc
   | some j=>
    obtain ⟨hj,hcj,hall⟩:=hn
    simp only
    rw [getElem!_pos A k hk,getElem!_pos A j hj]
    by_cases hc:cand A[k]=true∧lt A[k] A[j]=true
    ·rw [if_pos hc]
     refine ⟨hk,hc.1,fun i hi hil hci=>?_⟩
     by_cases hik:i<k
     ·have h3:=hall i hik hil hci
      cases h4:lt A[i] A[k]
      ·rfl
      ·rw [ho.swo.trans _ _ _ h4 hc.2] at h3; cases h3
     ·obtain rfl:i=k:=by omega
      exact ho.swo.irrefl _
    ·rw [if_neg hc]
     refine ⟨hj,hcj,fun i hi hil hci=>?_⟩
     by_cases hik:i<k
     ·exact hall i hik hil hci
     ·obtain rfl:i=k:=by omega
      cases h4:lt A[i] A[j]
      ·rfl
      ·exact absurd ⟨hci,h4⟩ hc)
  (fun s hs=>by
   obtain ⟨next,rfl,hn⟩:=hs
   refine ⟨_,h2 next,next,rfl,?_⟩
   cases next with
   | none=>
    intro z hz
    obtain ⟨i,hi,rfl⟩:=List.mem_iff_getElem.1 hz
    exact hn i hi hi
   | some j=>
    obtain ⟨hj,hcj,hall⟩:=hn
    refine ⟨hj,hcj,fun z hz hc=>?_⟩
    obtain ⟨i,hi,rfl⟩:=List.mem_iff_getElem.1 hz
    exact hall i hi hi hc)
  (s:=(-1,0)) ⟨none,rfl,fun i hi=>absurd hi (by omega)⟩
 obtain ⟨b,h3,next,rfl,h4⟩:=key
 exact ⟨next,h3,h4⟩
theorem I6 {cand:AE→Bool} {lt:AE→AE→Bool} (ho:DX lt) {A c:List AE} (hu:Uq A) (hcA : ∀ z∈c,z∈A) (hc:c.Pairwise fun a b=>lt a b=true) {k:Nat}
  (hcand : ∀ z∈A,cand z=true↔z∈c.drop k) {next:Option Nat} (hn:match next with | none=>∀ z∈A,cand z=false | some j=>∃ hj:j<A.length,cand A[j]=true ∧ ∀ z∈A,cand z=true→lt z A[j]=false) :
  (k<c.length → ∃ j,∃ hj:j<A.length,next=some j∧some A[j]=c[k]?)∧(c.length≤k→next=none):=by
 constructor
 ·intro hk
  have hmem:c[k]∈c.drop k:=List.mem_iff_getElem?.2 ⟨0,by rw [List.getElem?_drop,Nat.add_zero,List.getElem?_eq_getElem hk]⟩
  have hA:=hcA _ (List.getElem_mem hk)
  have hck:=(hcand _ hA).2 hmem
  cases next with
  | none=>rw [hn _ hA] at hck; cases hck
  | some j=>
   obtain ⟨hj,h1,h2⟩:=hn
   refine ⟨j,hj,rfl,?_⟩
   rw [List.getElem?_eq_getElem hk]
   congr 1
   have h3:=h2 _ hA hck
   have h4:A[j]∈c.drop k:=(hcand _ (List.getElem_mem hj)).1 h1
   obtain ⟨i,hi⟩:=List.mem_iff_getElem?.1 h4
   rw [List.getElem?_drop] at hi
   obtain ⟨hil,hie⟩:=List.getElem?_eq_some_iff.1 hi
   rw [List.pairwise_iff_getElem] at hc
   rcases Nat.eq_zero_or_pos i with g | g
   ·subst g; rw [← hie]; rfl
   ·have:=hc k (k+i) hk hil (by omega)
    rw [hie,h3] at this; cases this
 ·intro hk
  cases next with
  | none=>rfl
  | some j=>
   obtain ⟨hj,h1,_⟩:=hn
   have h4:A[j]∈c.drop k:=(hcand _ (List.getElem_mem hj)).1 h1
   rw [List.drop_eq_nil_of_le hk] at h4; cases h4
structure Fo (A:List AE) (d:Int→Nat) (M:Nat):Prop where
 uq:Uq A
 id : ∀ x∈A,1≤x.Item
 rk:Rk A d
 top : ∀ x∈A,d x.Item≤M
 len:A.length≤1048576
def Ap (A:List AE) (q:Int):List AE:=C2 Da (A.filter fun z=>decide (z.Parent=q))
theorem DZ {A:List AE} {q:Int} {z:AE} : z∈Ap A q↔z∈A∧z.Parent=q:=by
 unfold Ap
 rw [(C4 _ _).mem_iff,List.mem_filter,decide_eq_true_eq]
theorem Gl {A:List AE} (hu:Uq A) (q:Int):(Ap A q).Pairwise fun a b=>Da a b=true:=MS ER (hu.filter _)
def Az (A:List AE):Nat→Int→List AE
 | 0,_=>[]
 | n+1,q=>(Ap A q).flatMap fun x=>x :: Az A n x.Item
def Fh (q:Int) (place:List UInt8) (item:Int) (z:AE):Bool:=!(((!decide (z.Parent=q)) || (An z.Place place)) || ((decide (z.Place=place)) && (decide (z.Item≤item))))
theorem M6 (A:List AE) (hm:A.length≤1048576) (q:Int) (place:List UInt8) (item:Int) : ∃ next,iter (fun (a:Int × Int)=>Ec A q place item a.1 a.2) ((-1),0)=some (nx next) ∧
  (match next with | none=>∀ z∈A,Fh q place item z=false | some j=>∃ hj:j<A.length,Fh q place item A[j]=true ∧ ∀ z∈A,Fh q place item z=true→Da z A[j]=false):=by
 refine Lm ER (fun k next hk hn=>?_) (fun next=>?_)
 ·show Ec A q place item (nx next) (k:Int)=_
  unfold Ec
  rw [if_pos (by simpa using hk),BR hk,Aa,BW (by omega)]
  unfold Hb Fh
  generalize A[k]! = x
  by_cases hs:(((!decide (x.Parent=q)) || (An x.Place place)) || ((decide (x.Place=place)) && (decide (x.Item≤item))))=true
  ·rw [if_pos hs,hs]
   cases next <;> simp
  ·rw [if_neg hs]
   rw [Bool.not_eq_true] at hs
   rw [hs]
   cases next with
   | none=>simp [nx,CO]
   | some j=>
    have hj:=hn j rfl
    have h0:decide (nx (some j)<0)=false:=by unfold nx; simp
    rw [h0,show ((false == false)=true) from rfl,Bc,show nx (some j)=(j:Int) from rfl,BR hj,Aa]
    simp only [Bool.not_false,true_and]
    generalize A[j]! = y
    have e:Da x y=(An x.Place y.Place || (decide (x.Place=y.Place) && decide (x.Item<y.Item))):=rfl
    rw [e]
    cases An x.Place y.Place
    ·simp only [Bool.false_or,show ((false == false)=true) from rfl,Bc,Aa]
     split <;> rfl
    ·simp only [Bool.false_or,Bool.true_or,show ((true == false)=false) from rfl,CO,Aa,if_true]
     rfl
 ·show Ec A q place item (nx next) (A.length:Int)=_
  unfold Ec
  rw [if_neg (by simp)]
def CR (c:List AE) (k:Nat):List UInt8 × Int:=match k with | 0=>([],0) | k+1=>(c[k]!.Place,c[k]!.Item)
theorem RU {c:List AE} {k:Nat} (h:k<c.length):CR c (k+1)=(c[k].Place,c[k].Item):=by
 show (c[k]!.Place,c[k]!.Item)=_
 rw [getElem!_pos c k h]
theorem Me {A:List AE} (hu:Uq A) (hid : ∀ x∈A,1≤x.Item) (q:Int) {k:Nat} (hk:k≤(Ap A q).length) {z:AE} (hz:z∈A):Fh q (CR (Ap A q) k).1 (CR (Ap A q) k).2 z=true↔z∈(Ap A q).drop k:=by
 have hP : ∀ (p:List UInt8) (i:Int),Fh q p i z=true↔z.Parent=q ∧ ¬ (An z.Place p=true∨(z.Place=p∧z.Item≤i)):=fun p i=>by
  unfold Fh
  simp only [Bool.not_eq_true',Bool.or_eq_false_iff,Bool.not_eq_false',decide_eq_true_eq,Bool.and_eq_false_imp,decide_eq_false_iff_not,not_or,not_and,Bool.not_eq_true]
  constructor
  ·rintro ⟨⟨h1,h2⟩,h3⟩; exact ⟨h1,h2,h3⟩
  ·rintro ⟨h1,h2,h3⟩; exact ⟨⟨h1,h2⟩,h3⟩
 cases k with
 | zero=>
  rw [List.drop_zero,DZ,hP]
  unfold CR
  simp only
  constructor
  ·rintro ⟨h1,_⟩; exact ⟨hz,h1⟩
  ·rintro ⟨_,h1⟩
   refine ⟨h1,?_⟩
   rintro (h | ⟨_,h⟩)
   ·rw [LO] at h; cases h
   ·have:=hid z hz; omega
 | succ k=>
  unfold CR
  simp only
  rw [getElem!_pos (Ap A q) k (by omega),hP]
  constructor
  ·rintro ⟨h1,h2⟩
   refine (Kw ER (Gl hu q) (by omega) (DZ.2 ⟨hz,h1⟩)).1 ?_
   cases h3:Da (Ap A q)[k] z
   ·rw [HP] at h3; exact absurd h3 h2
   ·rfl
  ·intro h1
   have h2:=List.mem_of_mem_drop h1
   refine ⟨(DZ.1 h2).2,fun h3=>?_⟩
   have h4:=(Kw ER (Gl hu q) (by omega) h2).2 h1
   rw [← HP] at h3
   rw [h3] at h4; cases h4
theorem PR {A:List AE} {d:Int→Nat} {M:Nat} (h:Fo A d M) : ∀ (n:Nat) (q:Int) (out:List AE),M-d q<n→out.length+(Az A n q).length≤2097151→B4 n out A q=some (out++Az A n q):=by
 intro n
 induction n with
 | zero=>intro q out hn; omega
 | succ n ih=>
  intro q out hn hl
  show Ey (fun out1 l1 parent1=>B4 n out1 l1 parent1) out A q=_
  unfold Ey
  have hA : ∀ z∈Ap A q,z∈A:=fun z hz=>(DZ.1 hz).1
  have loop : ∀ m k o,k+m=(Ap A q).length→o.length+(((Ap A q).drop k).flatMap fun x=>x :: Az A n x.Item).length≤2097151 →
    iter (fun (a:(List UInt8) × Int × (List AE))=>DM A q (fun out1 l1 parent1=>B4 n out1 l1 parent1) a.1 a.2.1 a.2.2) ((CR (Ap A q) k).1,(CR (Ap A q) k).2,o) =
     some (.ext (o++((Ap A q).drop k).flatMap fun x=>x :: Az A n x.Item)):=by
   intro m
   induction m with
   | zero=>
    intro k o hk ho
    refine Bj ?_
    show DM A q _ (CR (Ap A q) k).1 (CR (Ap A q) k).2 o=_
    unfold DM
    obtain ⟨next,e1,e2⟩:=M6 A h.len q (CR (Ap A q) k).1 (CR (Ap A q) k).2
    have:=(I6 ER h.uq hA (Gl h.uq q) (fun z hz=>Me h.uq h.id q (by omega) hz) e2).2 (by omega)
    subst this
    rw [e1,Aa,if_pos (by decide),List.drop_eq_nil_of_le (by omega)]
    simp
   | succ m ihm=>
    intro k o hk ho
    have hkl:k<(Ap A q).length:=by omega
    obtain ⟨next,e1,e2⟩:=M6 A h.len q (CR (Ap A q) k).1 (CR (Ap A q) k).2
    obtain ⟨j,hj,rfl,e3⟩:=(I6 ER h.uq hA (Gl h.uq q) (fun z hz=>Me h.uq h.id q (by omega) hz) e2).1 hkl
    rw [List.getElem?_eq_getElem hkl] at e3
    have e4:A[j]=(Ap A q)[k]:=Option.some.inj e3
    have hmem:=List.getElem_mem hkl
    have hpar:=DZ.1 hmem
    have hd:=h.rk _ hpar.1
    rw [hpar.2] at hd
    have htop:=h.top _ hpar.1
    rw [List.drop_eq_getElem_cons hkl,List.flatMap_cons,List.length_append,List.length_cons] at ho
    rw [CD (s':=((CR (Ap A q) (k+1)).1,(CR (Ap A q) (k+1)).2,(o++[(Ap A q)[k]])++Az A n (Ap A q)[k].Item)) (by
     show DM A q _ (CR (Ap A q) k).1 (CR (Ap A q) k).2 o=_
     unfold DM
     rw [e1,Aa,show nx (some j)=(j:Int) from rfl,if_neg (by simp),Dy hj,Aa,E0 (by simp; omega),Aa,e4]
     show AO (B4 n (o++[(Ap A q)[k]]) A (Ap A q)[k].Item) _=_
     rw [ih _ _ (by omega) (by rw [List.length_append]; simp; omega),Aa]
     rw [RU hkl]),ihm (k+1) _ (by omega) (by simp only [List.length_append,List.length_cons,List.length_nil]; omega)]
    conv=>rhs; rw [List.drop_eq_getElem_cons hkl,List.flatMap_cons]
    simp
  have h0:=loop (Ap A q).length 0 out (by omega) (by rw [List.drop_zero]; exact hl)
  rw [List.drop_zero] at h0
  have h0':iter (fun (a:(List UInt8) × Int × (List AE))=>DM A q (fun out1 l1 parent1=>B4 n out1 l1 parent1) a.1 a.2.1 a.2.2) ([],0,out)=some (.ext (out++(Ap A q).flatMap fun x=>x :: Az A n x.Item)):=h0
  rw [h0',Ci]; rfl
end Go.Proofs.Ytelkfhdgmbahgaa.Al

set_option linter.unusedVariables false
namespace Go.Proofs.Ytelkfhdgmbahgaa.Al
open Go.Sort
theorem Ay.trans {A:List AE} {a b y:Int} (h:Ay A b y) (g:Ay A a b):Ay A a y:=by
 induction h with
 | self=>exact g
 | step hx _ ih=>exact Ay.step hx ih
theorem Ay.rank {A:List AE} {d:Int→Nat} (hr:Rk A d) {top y:Int} (h:Ay A top y):d top≤d y:=by
 induction h with
 | self=>exact Nat.le_refl _
 | step hx _ ih=>have:=hr _ hx; omega
theorem Sd {A:List AE} (hu:Uq A) {a b y:Int} (h:Ay A a y) (g:Ay A b y):Ay A a b∨Ay A b a:=by
 induction h with
 | self=>exact .inr g
 | @step x hx h1 ih=>
  rcases g.inv with e | ⟨z,hz,e,g2⟩
  ·exact .inl (by rw [← e]; exact Ay.step hx h1)
  ·rw [hu.eq hz hx e] at g2; exact ih g2
theorem Iy {A:List AE} : ∀ (n:Nat) (q:Int) (z:AE),z∈Az A n q→z∈A∧Ay A q z.Parent:=by
 intro n
 induction n with
 | zero=>intro q z h; cases h
 | succ n ih=>
  intro q z h
  unfold Az at h
  obtain ⟨x,hx,hz⟩:=List.mem_flatMap.1 h
  obtain ⟨hA,hp⟩:=DZ.1 hx
  rcases List.mem_cons.1 hz with rfl | hz
  ·exact ⟨hA,by rw [hp]; exact Ay.self⟩
  ·obtain ⟨h1,h2⟩:=ih _ _ hz
   exact ⟨h1,h2.trans (Ay.step hA (by rw [hp]; exact Ay.self))⟩
theorem Od {A:List AE} {d:Int→Nat} (hu:Uq A) (hr:Rk A d) : ∀ (n:Nat) (q:Int),(Az A n q).Pairwise fun a b=>a.Item≠b.Item:=by
 intro n
 induction n with
 | zero=>intro q; exact List.Pairwise.nil
 | succ n ih=>
  intro q
  unfold Az
  rw [List.pairwise_flatMap]
  have hB : ∀ a∈Ap A q,∀ x∈a :: Az A n a.Item,Ay A a.Item x.Item:=fun a ha x hx=>by
   rcases List.mem_cons.1 hx with rfl | hx
   ·exact Ay.self
   ·obtain ⟨h1,h2⟩:=Iy n _ _ hx
    exact Ay.step h1 h2
  refine ⟨fun a ha=>List.pairwise_cons.2 ⟨fun z hz e=>?_,ih _⟩,?_⟩
  ·obtain ⟨h1,h2⟩:=Iy n _ _ hz
   have:=h2.rank hr
   have:=hr z h1
   rw [e] at *; omega
  ·have hs:=Gl hu q
   have hm : ∀ a∈Ap A q,a∈A∧a.Parent=q:=fun a ha=>DZ.1 ha
   refine List.Pairwise.imp_of_mem (fun {a b} ha hb hlt x hx y hy e=>?_) hs
   have h1:=hB a ha x hx
   have h2:=hB b hb y hy
   rw [← e] at h2
   have hne:a.Item≠b.Item:=fun e2=>by
    rw [hu.eq (hm a ha).1 (hm b hb).1 e2,ER.swo.irrefl] at hlt; cases hlt
   rcases Sd hu h1 h2 with g | g
   ·have g2:=(IH hu (hm b hb).1 (fun e2=>hne e2.symm)).1 g
    rw [(hm b hb).2] at g2
    have:=g2.rank hr
    have:=hr a (hm a ha).1
    rw [(hm a ha).2] at this
    omega
   ·have g2:=(IH hu (hm a ha).1 hne).1 g
    rw [(hm a ha).2] at g2
    have:=g2.rank hr
    have:=hr b (hm b hb).1
    rw [(hm b hb).2] at this
    omega
theorem Qi : ∀ (l A:List AE),(l.Pairwise fun a b=>a.Item≠b.Item)→(∀ z∈l,z∈A)→l.length≤A.length:=by
 intro l
 induction l with
 | nil=>intro A _ _; exact Nat.zero_le _
 | cons a r ih=>
  intro A hp hs
  rw [List.pairwise_cons] at hp
  have ha:=hs a (List.mem_cons_self ..)
  have:=ih (A.erase a) hp.2 fun z hz=>(List.mem_erase_of_ne (fun e=>hp.1 z hz (by rw [e]))).2 (hs z (List.mem_cons_of_mem _ hz))
  rw [List.length_erase_of_mem ha] at this
  have:0<A.length:=List.length_pos_of_mem ha
  simp; omega
theorem GU {A:List AE} {d:Int→Nat} {M:Nat} (h:Fo A d M) (n:Nat) (q:Int):(Az A n q).length≤A.length:=
 Qi _ _ (Od h.uq h.rk n q) fun z hz=>(Iy n q z hz).1
theorem Kf {α:Type} (m:List (Int × α)) (k:Int) (v:α) (q:Int):AN (Ai m k v) q=if q=k then some v else AN m q:=by
 induction m with
 | nil=>unfold Ai AN; rfl
 | cons p r ih=>
  unfold Ai
  by_cases hk:k=p.1
  ·rw [if_pos hk]
   conv=>lhs; unfold AN
   conv=>rhs; unfold AN
   rw [← hk]
   split <;> rfl
  ·rw [if_neg hk]
   conv=>lhs; unfold AN
   conv=>rhs; unfold AN
   rw [ih]
   by_cases hq:q=p.1
   ·rw [if_pos hq,if_pos hq,if_neg (by rw [hq]; exact fun e=>hk e.symm)]
   ·rw [if_neg hq,if_neg hq]
def cS (p q:List UInt8):Int:=if An p q then -1 else if !(An p q || decide (p=q)) then 1 else 0
def IZ (a b:AE):Int:=if cS a.Place b.Place≠0 then cS a.Place b.Place else Dc a.Item b.Item
theorem Oc (p q:List UInt8):IE p q=some (cS p q):=by
 unfold IE H9 cS
 simp only [decide_true,Bool.not_true,Aa,Bool.false_eq_true,if_false]
 split
 ·rfl
 ·split <;> rfl
theorem N9 (a b:AE):Fp a b=some (IZ a b):=by
 unfold Fp IZ
 rw [Oc,JF,Aa,Aa,Ma,Aa]
theorem R1 (a b:AE):Hs a b=some (Dc a.Item b.Item):=by
 unfold Hs
 rw [JF,Aa]
theorem QN:ltOf IZ=Da:=by
 funext a b
 unfold ltOf
 rw [Bool.eq_iff_iff,decide_eq_true_eq,Kb]
 unfold IZ cS Dc
 by_cases h1:An a.Place b.Place=true
 ·simp [h1]
 ·rw [Bool.not_eq_true] at h1
  by_cases h2:a.Place=b.Place
  ·simp only [h1,h2,E3,Bool.false_eq_true,if_false,decide_true,Bool.or_true,Bool.not_true,ne_eq,not_true_eq_false,false_or,true_and]
   split
   ·simp [*]
   ·split <;> omega
  ·simp [h1,h2]
theorem P0:ltOf (fun a b:AE=>Dc a.Item b.Item)=Cs:=by
 funext a b
 unfold ltOf Cs Dc
 rw [decide_eq_decide]
 show (if a.Item<b.Item then (-1:Int) else if b.Item<a.Item then 1 else 0)<0↔_
 split
 ·simp [*]
 ·split <;> omega
theorem Lt {lt:AE→AE→Bool} (ho:DX lt) {cmp:AE→AE→Option Int} {cf:AE→AE→Int} (h1 : ∀ a b,cmp a b=some (cf a b)) (h2:ltOf cf=lt) {xs:List AE} (hu:Uq xs) (hl:xs.length≤1048576) :
  D6 cmp xs=some (C2 lt xs):=by
 refine Ry ⟨by omega,cf,h1,by rw [h2]; exact ho.swo,fun a ha b hb g1 g2=>?_,C4 _ _,by rw [h2]; exact IV ho xs⟩
 rw [h2] at g1 g2
 exact hu.eq ha hb (ho.tot a b g1 g2)
theorem Li {lt:AE→AE→Bool} (ho:DX lt) {xs ys:List AE} (hu:Uq ys) (hp:xs.Perm ys):C2 lt xs=C2 lt ys:=by
 refine KA ho.swo _ _ (((C4 lt xs).trans hp).trans (C4 lt ys).symm) (fun a ha b hb g1 g2=>?_) (IV ho xs) (IV ho ys)
 have hm : ∀ z∈C2 lt xs,z∈ys:=fun z hz=>hp.subset ((C4 lt xs).subset hz)
 exact hu.eq (hm a ha) (hm b hb) (ho.tot a b g1 g2)
def Bu (kids:List (Int × List AE)) (q:Int):List AE:=(AN kids q).getD []
def E8 (A:List AE) (kids:List (Int × List AE)):Prop:=∀ q,(Bu kids q).Perm (A.filter fun z=>decide (z.Parent=q))
theorem JQ (kids:List (Int × List AE)) (q:Int) (v:List AE) (p:Int):Bu (Ai kids q v) p=if p=q then v else Bu kids p:=by
 unfold Bu
 rw [Kf]
 split <;> rfl
theorem PI {A:List AE} (hu:Uq A) (hl:A.length≤1048576) {kids:List (Int × List AE)} (hk:E8 A kids) (q:Int) : ∃ w,FJ Fp kids q=some w∧Bu w q=Ap A q∧E8 A w ∧ ∀ p,Bu kids p=Ap A p→Bu w p=Ap A p:=by
 unfold FJ
 cases hm:AN kids q with
 | none=>
  have h0:=hk q
  unfold Bu at h0
  rw [hm,Option.getD_none] at h0
  refine ⟨kids,rfl,?_,hk,fun p h=>h⟩
  unfold Bu Ap
  rw [hm,List.nil_perm.1 h0]
  simp [C2]
 | some xs=>
  have h0:=hk q
  unfold Bu at h0
  rw [hm,Option.getD_some] at h0
  have hux:Uq xs:=(hu.filter _).perm h0
  have hlx:xs.length≤1048576:=by rw [h0.length_eq]; exact Nat.le_trans (List.length_filter_le ..) hl
  have hsq:C2 Da xs=Ap A q:=Li ER (hu.filter _) h0
  simp only
  rw [Lt ER N9 QN hux hlx,Option.map_some]
  refine ⟨_,rfl,?_,fun p=>?_,fun p hp=>?_⟩
  ·rw [JQ,if_pos rfl,hsq]
  ·rw [JQ]
   split
   ·rename_i e; subst e
    exact (C4 _ _).trans h0
   ·exact hk p
  ·rw [JQ]
   split
   ·rename_i e; subst e; exact hsq
   ·exact hp
def Cb (m:List (Int × Bool)) (i:Int):Bool:=(AN m i).getD false
theorem JV (m:List (Int × Bool)) (k i:Int):Cb (Ai m k true) i=(decide (i=k) || Cb m i):=by
 unfold Cb
 rw [Kf]
 by_cases h:i=k <;> simp [h]
def A8 (l:List AE) (i:Int):Bool:=l.any fun z=>decide (z.Item=i)
theorem NJ (l m:List AE) (i:Int):A8 (l++m) i=(A8 l i || A8 m i):=by unfold A8; rw [List.any_append]
theorem Qj {A:List AE} {d:Int→Nat} {M:Nat} (h:Fo A d M) : ∀ (n:Nat) (q:Int) (kids:List (Int × List AE)) (out:List AE) (seen:List (Int × Bool)),M-d q<n→E8 A kids→out.length+(Az A n q).length≤2097151 →
  ∃ kids' seen',B1 n kids out seen q=some (kids',out++Az A n q,seen')∧E8 A kids'∧(∀ p,Bu kids p=Ap A p→Bu kids' p=Ap A p) ∧ ∀ i,Cb seen' i=(Cb seen i || A8 (Az A n q) i):=by
 intro n
 induction n with
 | zero=>intro q kids out seen hn; omega
 | succ n ih=>
  intro q kids out seen hn hK hl
  obtain ⟨w,e1,e2,e3,e4⟩:=PI h.uq h.len hK q
  have hcl:(Ap A q).length≤1048576:=by
   unfold Ap
   rw [(C4 _ _).length_eq]; exact Nat.le_trans (List.length_filter_le ..) h.len
  have loop : ∀ m k o m5 m6,k+m=(Ap A q).length→E8 A m5→Bu m5 q=Ap A q→o.length+(((Ap A q).drop k).flatMap fun x=>x :: Az A n x.Item).length≤2097151 →
    ∃ m5' m6',iter (fun (a:Int × (List AE) × (List (Int × (List AE))) × (List (Int × Bool)))=>DP q (fun m1 c1 m2 parent1=>B1 n m1 c1 m2 parent1) w a.1 a.2.1 a.2.2.1 a.2.2.2) ((k:Int),o,m5,m6) =
     some (.ext (m5',o++((Ap A q).drop k).flatMap fun x=>x :: Az A n x.Item,m6'))∧E8 A m5'∧(∀ p,Bu m5 p=Ap A p→Bu m5' p=Ap A p) ∧ ∀ i,Cb m6' i=(Cb m6 i || A8 (((Ap A q).drop k).flatMap fun x=>x :: Az A n x.Item) i):=by
   intro m
   induction m with
   | zero=>
    intro k o m5 m6 hk hk5 hr ho
    refine ⟨m5,m6,Bj ?_,hk5,fun p hp=>hp,fun i=>?_⟩
    ·show DP q _ w (k:Int) o m5 m6=_
     unfold DP
     rw [if_neg (by rw [show (AN w q).getD []=Ap A q from e2]; simp; omega),List.drop_eq_nil_of_le (by omega)]
     simp
    ·rw [List.drop_eq_nil_of_le (by omega)]; simp [A8]
   | succ m ihm=>
    intro k o m5 m6 hk hk5 hr ho
    have hkl:k<(Ap A q).length:=by omega
    have hmem:=List.getElem_mem hkl
    have hpar:=DZ.1 hmem
    have hd:=h.rk _ hpar.1
    rw [hpar.2] at hd
    have htop:=h.top _ hpar.1
    rw [List.drop_eq_getElem_cons hkl,List.flatMap_cons,List.length_append,List.length_cons] at ho
    obtain ⟨k1,s1,f1,f2,f3,f4⟩:=ih (Ap A q)[k].Item m5 (o++[(Ap A q)[k]]) (Ai m6 (Ap A q)[k].Item true) (by omega) hk5 (by rw [List.length_append]; simp; omega)
    obtain ⟨m5',m6',g1,g2,g3,g4⟩:=ihm (k+1) ((o++[(Ap A q)[k]])++Az A n (Ap A q)[k].Item) k1 s1 (by omega) f2 (f3 q hr) (by simp only [List.length_append,List.length_cons,List.length_nil]; omega)
    refine ⟨m5',m6',?_,g2,fun p hp=>g3 p (f3 p hp),fun i=>?_⟩
    ·rw [CD (s':=(((k+1:Nat):Int),(o++[(Ap A q)[k]])++Az A n (Ap A q)[k].Item,k1,s1)) (by
      show DP q _ w (k:Int) o m5 m6=_
      unfold DP
      rw [if_pos (by rw [show (AN w q).getD []=Ap A q from e2]; simp; omega),show (AN m5 q).getD []=Ap A q from hr,Dy hkl,Aa,E0 (by simp; omega),Aa]
      show EW (B1 n m5 (o++[(Ap A q)[k]]) (Ai m6 (Ap A q)[k].Item true) (Ap A q)[k].Item) _=_
      rw [f1,KD,BW (by omega),Aa]),g1]
     conv=>rhs; rw [List.drop_eq_getElem_cons hkl,List.flatMap_cons]
     simp
    ·rw [g4,f4,JV,List.drop_eq_getElem_cons hkl,List.flatMap_cons,NJ]
     have:A8 ((Ap A q)[k] :: Az A n (Ap A q)[k].Item) i=(decide (i=(Ap A q)[k].Item) || A8 (Az A n (Ap A q)[k].Item) i):=by
      unfold A8
      rw [List.any_cons]
      congr 1
      rw [decide_eq_decide]; exact ⟨fun e=>e.symm,fun e=>e.symm⟩
     rw [this]
     cases Cb m6 i <;> cases decide (i=(Ap A q)[k].Item) <;> simp
  obtain ⟨m5',m6',g1,g2,g3,g4⟩:=loop (Ap A q).length 0 out w seen (by omega) e3 e2 (by rw [List.drop_zero]; exact hl)
  rw [List.drop_zero] at g1 g4
  refine ⟨m5',m6',?_,g2,fun p hp=>g3 p (e4 p hp),g4⟩
  show Ew (fun m1 c1 m2 parent1=>B1 n m1 c1 m2 parent1) kids out seen q=_
  unfold Ew
  rw [e1,Aa]
  have g1':iter (fun (a:Int × (List AE) × (List (Int × (List AE))) × (List (Int × Bool)))=>DP q (fun m1 c1 m2 parent1=>B1 n m1 c1 m2 parent1) w a.1 a.2.1 a.2.2.1 a.2.2.2) (0,out,w,seen)=_:=g1
  rw [g1',Ci]; rfl
end Go.Proofs.Ytelkfhdgmbahgaa.Al

set_option linter.unusedVariables false
set_option linter.unusedSimpArgs false
namespace Go.Proofs.Ytelkfhdgmbahgaa.Al
open Go.Sort
def wa (attrs:List AE) (x:AE):AE:=⟨x.Item,x.Parent,x.Place,(AN (BX attrs) x.Item).getD []⟩
theorem SW {l:List AP} (hm:l.length≤1048576) (ho : ∀ x∈l,DA x=0) : ∀ (m k:Nat) (items attrs:List AE),k+m=l.length→DI k items attrs → ∃ items' attrs',DI l.length items' attrs' ∧
  iter (fun (a:Int × (List (Int × AE)) × (List (Int × (List AG))))=>EM l a.1 a.2.1 a.2.2) ((k:Int),A1 items,BX attrs)=some (A1 items',BX attrs') ∧
  iter (fun (a:Int × (List AE) × (List AE))=>EI l a.1 a.2.1 a.2.2) ((k:Int),items,attrs)=some (items',attrs'):=by
 intro m
 induction m with
 | zero=>
  intro k items attrs hk h
  obtain rfl:k=l.length:=by omega
  refine ⟨items,attrs,h,Bj ?_,Bj ?_⟩
  ·show EM l (l.length:Int) _ _=_
   unfold EM; rw [if_neg (by simp)]
  ·show EI l (l.length:Int) _ _=_
   unfold EI; rw [if_neg (by simp)]
 | succ m ih=>
  intro k items attrs hk h
  have hkl:k<l.length:=by omega
  obtain ⟨i1,a1,h1,h2,h3⟩:=Ro h hkl hm (ho _ (Hu hkl))
  obtain ⟨i2,a2,h4,h5,h6⟩:=ih (k+1) i1 a1 (by omega) h1
  refine ⟨i2,a2,h4,?_,?_⟩
  ·rw [CD (s':=(((k+1:Nat):Int),A1 i1,BX a1)) h2]; exact h5
  ·rw [CD (s':=(((k+1:Nat):Int),i1,a1)) h3]; exact h6
theorem QU {items attrs:List AE} (h1:items.length≤1048576) (h2:attrs.length≤1048576) (hno : ∀ x∈items,x.Attrs=[]) :
  iter (fun (a:Int × (List AE))=>EY items attrs a.1 a.2) (0,items)=some (items.map (wa attrs)):=by
 have key : ∀ m k,k+m=items.length→iter (fun (a:Int × (List AE))=>EY items attrs a.1 a.2) ((k:Int),(items.take k).map (wa attrs)++items.drop k)=some (items.map (wa attrs)):=by
  intro m
  induction m with
  | zero=>
   intro k hk
   refine Bj ?_
   show EY items attrs (k:Int) _=_
   unfold EY
   rw [if_neg (by simp; omega),List.drop_eq_nil_of_le (by omega),List.take_of_length_le (by omega),List.append_nil]
  | succ m ih=>
   intro k hk
   have hkl:k<items.length:=by omega
   have hlen:((items.take k).map (wa attrs)).length=k:=by simp; omega
   have hx:((items.take k).map (wa attrs)++items.drop k)[k]? = some items[k]:=by
    rw [List.getElem?_append_right (by omega),hlen,Nat.sub_self,List.getElem?_drop,Nat.add_zero,List.getElem?_eq_getElem hkl]
   have hset : ∀ y,((items.take k).map (wa attrs)++items.drop k).set k y=(items.take k).map (wa attrs)++(y :: items.drop (k+1)):=fun y=>by
    rw [List.set_append_right _ _ (by omega),hlen,Nat.sub_self,List.drop_eq_getElem_cons hkl]; rfl
   have htake:(items.take (k+1)).map (wa attrs)++items.drop (k+1)=(items.take k).map (wa attrs)++(wa attrs items[k] :: items.drop (k+1)):=by
    rw [KK hkl,getElem!_pos items k hkl,List.map_append,List.append_assoc]; rfl
   have hstep:EY items attrs (k:Int) ((items.take k).map (wa attrs)++items.drop k)=some (.inl (((k+1:Nat):Int),(items.take (k+1)).map (wa attrs)++items.drop (k+1))):=by
    unfold EY
    have hidx:Ak ((items.take k).map (wa attrs)++items.drop k) (k:Int)=some items[k]:=by
     unfold Ak; rw [if_pos (Int.natCast_nonneg k),Int.toNat_natCast,hx]
    rw [if_pos (by simpa using hkl),hidx,Aa,GH _ _ (by omega),Aa,BW (by omega)]
    unfold EK
    have hkb:=J7 attrs items[k].Item
    cases hkx:Ad (A1 attrs) items[k].Item with
    | none=>
     rw [hkx] at hkb
     simp only
     rw [if_neg (by decide),Aa,Aa,htake]
     have:wa attrs items[k]=items[k]:=by
      unfold wa
      rw [(CY hkb).1,Option.getD_none,← hno _ (List.getElem_mem hkl)]
     rw [this,List.drop_eq_getElem_cons hkl]
    | some j=>
     rw [hkx] at hkb
     obtain ⟨hj,ej⟩:=EA hkx
     obtain ⟨v,v1,v2,_⟩:=Bm hkb
     have hv:v=attrs[j].Attrs:=by
      unfold BX at v1
      rw [List.getElem?_map,List.getElem?_eq_getElem hj] at v1
      simp at v1
      exact v1.2.symm
     simp only
     rw [if_pos (by simp),Dy hj]
     simp only [Aa,Int.toNat_natCast]
     rw [hset,htake]
     unfold wa
     rw [v2,Option.getD_some,hv]
   rw [CD (s':=(((k+1:Nat):Int),(items.take (k+1)).map (wa attrs)++items.drop (k+1))) hstep]
   exact ih (k+1) (by omega)
 have:=key items.length 0 (by omega)
 simpa using this
theorem QC {l:List AP} (hm:l.length≤1048576) (ho : ∀ x∈l,DA x=0) : ∃ items attrs,DI l.length items attrs∧F6 l=some (A1 items,BX attrs)∧GX l=some (items.map (wa attrs),attrs):=by
 obtain ⟨items,attrs,h,h1,h2⟩:=SW hm ho l.length 0 [] [] (by omega) ⟨by unfold Uq; simp,by simp,by simp,⟨fun _=>0,fun x hx=>by cases hx⟩,by simp,by unfold Uq; simp,by simp,by simp⟩
 refine ⟨items,attrs,h,?_,?_⟩
 ·unfold F6
  have h1':iter (fun (a:Int × (List (Int × AE)) × (List (Int × (List AG))))=>EM l a.1 a.2.1 a.2.2) (0,[],[])=some (A1 items,BX attrs):=h1
  rw [h1',B6]
 ·unfold GX
  have h2':iter (fun (a:Int × (List AE) × (List AE))=>EI l a.1 a.2.1 a.2.2) (0,[],[])=some (items,attrs):=h2
  rw [h2',B6,QU (by have:=h.li; omega) (by have:=h.la; omega) h.no,Aa]
theorem SU (d:Int→Nat) : ∀ A:List AE,∃ M,∀ x∈A,d x.Item≤M:=by
 intro A
 induction A with
 | nil=>exact ⟨0,fun x hx=>by cases hx⟩
 | cons a r ih=>
  obtain ⟨M,h⟩:=ih
  refine ⟨max M (d a.Item),fun x hx=>?_⟩
  rcases List.mem_cons.1 hx with rfl | hx
  ·exact Nat.le_max_right ..
  ·exact Nat.le_trans (h x hx) (Nat.le_max_left ..)
theorem DI.fo {n:Nat} {items attrs:List AE} (h:DI n items attrs) (hn:n≤1048576) : ∃ d M,Fo (items.map (wa attrs)) d M:=by
 obtain ⟨d,hd⟩:=h.rk
 obtain ⟨M,hM⟩:=SU d (items.map (wa attrs))
 refine ⟨d,M,?_,fun x hx=>?_,fun x hx=>?_,hM,by have:=h.li; simp; omega⟩
 ·have:=h.uq
  unfold Uq at *
  rw [List.map_map]; exact this
 ·obtain ⟨y,hy,rfl⟩:=List.mem_map.1 hx; exact h.id y hy
 ·obtain ⟨y,hy,rfl⟩:=List.mem_map.1 hx; exact hd y hy
theorem LY {α:Type} {N:Nat→Option α} (mono : ∀ n r,N n=some r→N (n+1)=some r) {n0:Nat} {r0:α} (h:N n0=some r0) :
  @dite _ (∃ n r,N n=some r) (Classical.propDecidable _) (fun h=>N h.choose) (fun _=>none)=some r0:=by
 have hx : ∃ n r,N n=some r:=⟨n0,r0,h⟩
 rw [dif_pos hx]
 obtain ⟨r1,h1⟩:=hx.choose_spec
 have up : ∀ k n r,N n=some r→N (n+k)=some r:=by
  intro k
  induction k with
  | zero=>intro n r h; exact h
  | succ k ih=>intro n r h; exact mono _ _ (ih n r h)
 have e1:=up n0 _ _ h1
 have e2:=up hx.choose _ _ h
 rw [Nat.add_comm] at e2
 rw [e1] at e2
 rw [h1]; exact e2
theorem NK {σ β:Type} {f g:σ→Option (σ ⊕ β)} (h : ∀ s v,f s=some v→g s=some v) {s:σ} {r:β} (hi:iter f s=some r):iter g s=some r:=by
 obtain ⟨n,hn⟩:=GO.1 hi
 refine GO.2 ⟨n,?_⟩
 clear hi
 induction n generalizing s with
 | zero=>exact hn
 | succ n ih=>
  unfold CV at hn ⊢
  cases hf:f s with
  | none=>rw [hf] at hn; cases hn
  | some v=>
   rw [hf] at hn
   rw [h s v hf]
   cases v with
   | inl s'=>exact ih hn
   | inr b=>exact hn
theorem QH (n:Nat) : ∀ (m1:List (Int × List AE)) (c1:List AE) (m2:List (Int × Bool)) (q:Int) r,B1 n m1 c1 m2 q=some r→B1 (n+1) m1 c1 m2 q=some r:=by
 induction n with
 | zero=>intro m1 c1 m2 q r h; cases h
 | succ n ih=>
  intro m1 c1 m2 q r h
  change Ew (fun m1 c1 m2 parent1=>B1 n m1 c1 m2 parent1) m1 c1 m2 q=some r at h
  show Ew (fun m1 c1 m2 parent1=>B1 (n+1) m1 c1 m2 parent1) m1 c1 m2 q=some r
  unfold Ew at h ⊢
  cases hs:FJ Fp m1 q with
  | none=>rw [hs] at h; cases h
  | some w=>
   rw [hs,Aa] at h
   rw [Aa]
   cases hi:iter (fun (a:Int × (List AE) × (List (Int × (List AE))) × (List (Int × Bool)))=>DP q (fun m1 c1 m2 parent1=>B1 n m1 c1 m2 parent1) w a.1 a.2.1 a.2.2.1 a.2.2.2) (0,c1,w,m2) with
   | none=>rw [hi] at h; cases h
   | some v=>
    rw [hi] at h
    rw [NK (g:=fun (a:Int × (List AE) × (List (Int × (List AE))) × (List (Int × Bool)))=>DP q (fun m1 c1 m2 parent1=>B1 (n+1) m1 c1 m2 parent1) w a.1 a.2.1 a.2.2.1 a.2.2.2) (fun s v hv=>?_) hi]
    ·exact h
    ·unfold DP at hv ⊢
     split at hv
     ·rename_i hc
      rw [if_pos hc]
      cases hx:Ak ((AN s.2.2.1 q).getD []) s.1 with
      | none=>rw [hx] at hv; cases hv
      | some x=>
       rw [hx,Aa] at hv
       rw [Aa]
       cases ha:app 56 s.2.1 [x] with
       | none=>rw [ha] at hv; cases hv
       | some l=>
        rw [ha,Aa] at hv
        rw [Aa]
        change EW (B1 n s.2.2.1 l (Ai s.2.2.2 x.Item true) x.Item) _=_ at hv
        show EW (B1 (n+1) s.2.2.1 l (Ai s.2.2.2 x.Item true) x.Item) _=_
        cases hn:B1 n s.2.2.1 l (Ai s.2.2.2 x.Item true) x.Item with
        | none=>rw [hn] at hv; cases hv
        | some t=>rw [hn] at hv; rw [ih _ _ _ _ _ hn]; exact hv
     ·rename_i hc
      rw [if_neg hc]; exact hv
theorem SV (n:Nat) : ∀ (o l:List AE) (q:Int) r,B4 n o l q=some r→B4 (n+1) o l q=some r:=by
 induction n with
 | zero=>intro o l q r h; cases h
 | succ n ih=>
  intro o l q r h
  change Ey (fun out1 l1 parent1=>B4 n out1 l1 parent1) o l q=some r at h
  show Ey (fun out1 l1 parent1=>B4 (n+1) out1 l1 parent1) o l q=some r
  unfold Ey at h ⊢
  cases hi:iter (fun (a:(List UInt8) × Int × (List AE))=>DM l q (fun out1 l1 parent1=>B4 n out1 l1 parent1) a.1 a.2.1 a.2.2) ([],0,o) with
  | none=>rw [hi] at h; cases h
  | some v=>
   rw [hi] at h
   rw [NK (g:=fun (a:(List UInt8) × Int × (List AE))=>DM l q (fun out1 l1 parent1=>B4 (n+1) out1 l1 parent1) a.1 a.2.1 a.2.2) (fun s v hv=>?_) hi]
   ·exact h
   ·unfold DM at hv ⊢
    cases hb:iter (fun (a:Int × Int)=>Ec l q s.1 s.2.1 a.1 a.2) ((-1),0) with
    | none=>rw [hb] at hv; cases hv
    | some nxt=>
     rw [hb,Aa] at hv
     rw [Aa]
     split at hv
     ·rename_i hc; rw [if_pos hc]; exact hv
     ·rename_i hc
      rw [if_neg hc]
      cases hx:Ak l nxt with
      | none=>rw [hx] at hv; cases hv
      | some x=>
       rw [hx,Aa] at hv
       rw [Aa]
       cases ha:app 56 s.2.2 [x] with
       | none=>rw [ha] at hv; cases hv
       | some l2=>
        rw [ha,Aa] at hv
        rw [Aa]
        change AO (B4 n l2 l x.Item) _=_ at hv
        show AO (B4 (n+1) l2 l x.Item) _=_
        cases hn:B4 n l2 l x.Item with
        | none=>rw [hn] at hv; cases hv
        | some t=>rw [hn] at hv; rw [ih _ _ _ _ hn]; exact hv
theorem OF {A:List AE} {d:Int→Nat} {M:Nat} (h:Fo A d M):Gr [] A 0=some (Az A (M+1) 0):=by
 have h1:=PR h (M+1) 0 [] (by omega) (by have:=GU h (M+1) 0; have:=h.len; simp; omega)
 rw [List.nil_append] at h1
 unfold Gr
 exact LY (N:=fun n=>B4 n [] A 0) (fun n r=>SV n [] A 0 r) h1
theorem Oa {A:List AE} {d:Int→Nat} {M:Nat} (h:Fo A d M) {kids:List (Int × List AE)} (hk:E8 A kids) : ∃ k' s',HH kids [] [] 0=some (k',Az A (M+1) 0,s') ∧ ∀ i,Cb s' i=A8 (Az A (M+1) 0) i:=by
 obtain ⟨k',s',h1,_,_,h2⟩:=Qj h (M+1) 0 kids [] [] (by omega) hk (by have:=GU h (M+1) 0; have:=h.len; simp; omega)
 rw [List.nil_append] at h1
 refine ⟨k',s',?_,fun i=>by rw [h2]; simp [Cb,AN]⟩
 unfold HH
 exact LY (N:=fun n=>B1 n kids [] [] 0) (fun n r=>QH n kids [] [] 0 r) h1
end Go.Proofs.Ytelkfhdgmbahgaa.Al

set_option linter.unusedVariables false
set_option linter.unusedSimpArgs false
namespace Go.Proofs.Ytelkfhdgmbahgaa.Al
open Go.Sort
theorem Qn {α:Type} {m:List (Int × α)} {k:Int} {v0:α} (h:AN m k=some v0) (v:α):(Ai m k v).map (·.1)=m.map (·.1):=by
 induction m with
 | nil=>cases h
 | cons p r ih=>
  unfold Ai
  by_cases hk:k=p.1
  ·rw [if_pos hk]; simp [hk]
  ·rw [if_neg hk]
   unfold AN at h
   rw [if_neg hk] at h
   rw [List.map_cons,List.map_cons,ih h]
theorem Js {l:List AE} (hu:Uq l) {x:AE} (hx:x∈l):AN (A1 l) x.Item=some x:=by
 rw [MQ]
 cases h:Ad (A1 l) x.Item with
 | none=>exact absurd rfl (FQ h x hx)
 | some j=>
  obtain ⟨hj,e⟩:=EA h
  rw [Option.bind_some,List.getElem?_eq_getElem hj,hu.eq (List.getElem_mem hj) hx e]
def FE (items attrs:List AE) (k:Int):AE:=((AN (A1 items) k).map (wa attrs)).getD default
structure RJ (items attrs:List AE) (p:List Int) (st:(List AE) × (List (Int × AE)) × (List (Int × (List AE)))):Prop where
 all:st.1=p.map (FE items attrs)
 keys:st.2.1.map (·.1)=items.map (·.Item)
 here : ∀ x∈items,∃ a,AN st.2.1 x.Item=some ⟨x.Item,x.Parent,x.Place,a⟩
 kids : ∀ q,Bu st.2.2 q=(p.map (FE items attrs)).filter fun z=>decide (z.Parent=q)
abbrev Gy:(List AE) × (List (Int × AE)) × (List (Int × (List AE)))→List Int:=fun a=>a.2.1.map (·.1)
theorem SK {items attrs:List AE} (hu:Uq items) (hl:items.length≤1048576) : ∀ (r p:List Int) st,RJ items attrs p st→(∀ k∈r,k∈items.map (·.Item))→p.length+r.length≤1048576 →
  ∃ st',Ce (Fj Gy (items.map (·.Item)) (fun a k1=>Dx (BX attrs) a.1 a.2.1 a.2.2 k1)) r st=some st'∧RJ items attrs (p++r) st':=by
 intro r
 induction r with
 | nil=>intro p st h _ _; exact ⟨st,rfl,by rw [List.append_nil]; exact h⟩
 | cons k r ih=>
  intro p st h hm hb
  obtain ⟨x,hx,rfl⟩:=List.mem_map.1 (hm k (List.mem_cons_self ..))
  obtain ⟨a,ha⟩:=h.here x hx
  have hy:(⟨x.Item,x.Parent,x.Place,(AN (BX attrs) x.Item).getD []⟩:AE)=wa attrs x:=rfl
  have hL:FE items attrs x.Item=wa attrs x:=by unfold FE; rw [Js hu hx]; rfl
  have hrow:(Bu st.2.2 x.Parent).length≤1048576:=by
   rw [h.kids]; refine Nat.le_trans (List.length_filter_le ..) ?_; rw [List.length_map]; simp at hb; omega
  have hF:Dx (BX attrs) st.1 st.2.1 st.2.2 x.Item=some (st.1++[wa attrs x],Ai st.2.1 x.Item (wa attrs x),Ai st.2.2 x.Parent (Bu st.2.2 x.Parent++[wa attrs x])):=by
   unfold Dx
   rw [ha,Aa]
   show AO (app 56 (Bu st.2.2 x.Parent) [wa attrs x]) _=_
   rw [E0 (by simp; omega),Aa]
   show AO (app 56 st.1 [wa attrs x]) _=_
   rw [E0 (by rw [h.all]; simp at hb ⊢; omega),Aa]
   rfl
  have hkeys:(Ai st.2.1 x.Item (wa attrs x)).map (·.1)=items.map (·.Item):=by rw [Qn ha]; exact h.keys
  obtain ⟨st',e1,e2⟩:=ih (p++[x.Item]) (st.1++[wa attrs x],Ai st.2.1 x.Item (wa attrs x),Ai st.2.2 x.Parent (Bu st.2.2 x.Parent++[wa attrs x])) ⟨by rw [List.map_append,List.map_singleton,hL,← h.all],hkeys,fun y hy=>by
    show ∃ a,AN (Ai st.2.1 x.Item (wa attrs x)) y.Item=_
    rw [Kf]
    split
    ·rename_i e
     rw [hu.eq hy hx e]; exact ⟨_,rfl⟩
    ·exact h.here y hy,fun q=>by
    show Bu (Ai st.2.2 x.Parent _) q=_
    rw [JQ,List.map_append,List.filter_append,List.map_singleton,hL]
    by_cases hq:q=x.Parent
    ·subst hq
     have e:[wa attrs x].filter (fun z=>decide (z.Parent=x.Parent))=[wa attrs x]:=by simp [wa]
     rw [if_pos rfl,h.kids,e]
    ·have e:[wa attrs x].filter (fun z=>decide (z.Parent=q))=[]:=by simp [wa]; exact fun e=>hq e.symm
     rw [if_neg hq,h.kids,e,List.append_nil]⟩ (fun k hk=>hm k (List.mem_cons_of_mem _ hk)) (by simp at hb ⊢; omega)
  refine ⟨st',?_,by rw [List.append_assoc] at e2; exact e2⟩
  show (Fj Gy (items.map (·.Item)) (fun a k1=>Dx (BX attrs) a.1 a.2.1 a.2.2 k1) st x.Item).bind _=some st'
  have hs:Fj Gy (items.map (·.Item)) (fun a k1=>Dx (BX attrs) a.1 a.2.1 a.2.2 k1) st x.Item=some (st.1++[wa attrs x],Ai st.2.1 x.Item (wa attrs x),Ai st.2.2 x.Parent (Bu st.2.2 x.Parent++[wa attrs x])):=by
   unfold Fj
   simp only
   rw [hF,Option.bind_some,if_pos (by exact hkeys)]
  rw [hs,Option.bind_some]
  exact e1
def BB (A:List AE) (sh:List AE):List AE:=(C2 Cs A).filter fun z=>!A8 sh z.Item
theorem Ni (w5:List (Int × Bool)) (sh:List AE) (hs : ∀ i,Cb w5 i=A8 sh i) (w6:List AE) (h6:w6.length≤1048576) (o:List AE) (ho:o.length≤1048576) :
  iter (fun (a:Int × (List AE))=>EE w5 w6 a.1 a.2) (0,o)=some (o++w6.filter fun z=>!A8 sh z.Item):=
 Kn (f:=fun (a:Int × (List AE))=>EE w5 w6 a.1 a.2) w6 (fun c k=>((k:Int),c)) (fun r c=>c++r.filter fun z=>!A8 sh z.Item) (fun k c=>c.length≤1048576+k)
  (fun k c hk hc=>by
   left
   show ∃ c',EE w5 w6 (k:Int) c=_∧_
   unfold EE
   rw [if_pos (by simpa using hk),BR hk,Aa,BW (by omega),show (AN w5 w6[k]!.Item).getD false=A8 sh w6[k]!.Item from hs _]
   by_cases hh:A8 sh w6[k]!.Item=true
   ·refine ⟨c,by rw [hh]; rfl,by omega,?_⟩
    rw [List.filter_cons,hh]; rfl
   ·rw [Bool.not_eq_true] at hh
    refine ⟨c++[w6[k]!],by rw [hh,if_pos (by decide),E0 (by simp; omega)]; rfl,by simp; omega,?_⟩
    rw [List.filter_cons,hh]; simp)
  (fun c hc=>by
   show EE w5 w6 (w6.length:Int) c=_
   unfold EE
   rw [if_neg (by simp)]; simp) o (by omega) _ rfl
theorem R9 {l:List AP} {items attrs:List AE} (hm:l.length≤1048576) (h:DI l.length items attrs) (hp:F6 l=some (A1 items,BX attrs)) {d:Int→Nat} {M:Nat} (hF:Fo (items.map (wa attrs)) d M) :
  HZ l=some (Az (items.map (wa attrs)) (M+1) 0++BB (items.map (wa attrs)) (Az (items.map (wa attrs)) (M+1) 0)):=by
 unfold HZ
 rw [hp,B6]
 have hk0:Gy ([],A1 items,[])=items.map (·.Item):=by
  show (A1 items).map (·.1)=_
  unfold A1; rw [List.map_map]; rfl
 refine RN (key:=Gy) (F:=fun a k1=>Dx (BX attrs) a.1 a.2.1 a.2.2 k1) ⟨by rw [hk0]; exact h.uq,fun ks hks=>?_⟩
 rw [hk0] at hks ⊢
 have hli:=h.li
 have hkl:ks.length=items.length:=by rw [hks.length_eq,List.length_map]
 obtain ⟨st,e1,e2⟩:=SK (attrs:=attrs) h.uq (by omega) ks [] ([],A1 items,[]) ⟨rfl,hk0,fun x hx=>⟨x.Attrs,Js h.uq hx⟩,fun q=>rfl⟩ (fun k hk=>hks.subset hk) (by simp; omega)
 rw [e1,Option.bind_some]
 rw [List.nil_append] at e2
 have hall:st.1.Perm (items.map (wa attrs)):=by
  rw [e2.all]
  have h1:=hks.map (FE items attrs)
  rw [List.map_map] at h1
  refine h1.trans (List.Perm.of_eq (List.map_congr_left fun x hx=>?_))
  show FE items attrs x.Item=_
  unfold FE; rw [Js h.uq hx]; rfl
 have hK:E8 (items.map (wa attrs)) st.2.2:=fun q=>by
  rw [e2.kids,← e2.all]; exact hall.filter _
 obtain ⟨k',s',w1,w2⟩:=Oa hF hK
 obtain ⟨all2,m3,m4⟩:=st
 simp only at hall w1 ⊢
 rw [KD,w1,KD,Lt Fm R1 P0 (hF.uq.perm hall) (by rw [hall.length_eq]; exact hF.len),Aa,Li Fm hF.uq hall]
 have hlen:(C2 Cs (items.map (wa attrs))).length≤1048576:=by rw [(C4 _ _).length_eq]; exact hF.len
 rw [Ni s' _ w2 _ hlen _ (Nat.le_trans (GU hF _ _) hF.len),Aa]
 rfl
def Ft (c:List AE) (k:Nat):Int:=match k with | 0=>0 | k+1=>c[k]!.Item
theorem Rl (l:List AE) (i:Int):decide (EK l i<0) = !A8 l i:=by
 unfold EK
 cases h:Ad (A1 l) i with
 | none=>
  have hn:=FQ h
  have:A8 l i=false:=by
   unfold A8
   rw [List.any_eq_false]
   intro x hx; simpa using hn x hx
  rw [this]; rfl
 | some j=>
  obtain ⟨hj,e⟩:=EA h
  have:A8 l i=true:=by
   unfold A8
   rw [List.any_eq_true]
   exact ⟨_,List.getElem_mem hj,by simpa using e⟩
  rw [this]; simp
def FG (sh:List AE) (last:Int) (z:AE):Bool:=decide (last<z.Item) && !A8 sh z.Item
theorem Mp (A w1 out:List AE) (hm:A.length≤1048576) (hw:w1.length≤1048576) (hpre:out.take w1.length=w1) (hlo:w1.length≤out.length) (last:Int) : ∃ next,iter (fun (a:Int × Int)=>Ex A w1 last out a.1 a.2) ((-1),0)=some (nx next) ∧
  (match next with | none=>∀ z∈A,FG w1 last z=false | some j=>∃ hj:j<A.length,FG w1 last A[j]=true ∧ ∀ z∈A,FG w1 last z=true→Cs z A[j]=false):=by
 have hsl:FM out 0 (w1.length:Int)=some w1:=by
  unfold FM
  rw [if_pos ⟨by omega,by omega,by omega⟩]
  simp [hpre]
 refine Lm Fm (fun k next hk hn=>?_) (fun next=>?_)
 ·show Ex A w1 last out (nx next) (k:Int)=_
  unfold Ex
  rw [if_pos (by simpa using hk),BR hk,Aa,BW (by omega),hsl]
  unfold Hb FG
  generalize A[k]! = x
  by_cases hs:last<x.Item
  ·rw [decide_eq_true hs,show ((true == true)=true) from rfl,Bc,Aa,Bc,GH _ _ (by omega),Aa,Rl]
   cases hh:A8 w1 x.Item
   ·cases next with
    | none=>simp [nx,CO]
    | some j=>
     have hj:=hn j rfl
     have h0:decide (nx (some j)<0)=false:=by unfold nx; simp
     rw [h0,show nx (some j)=(j:Int) from rfl,BR hj]
     simp only [Bool.not_false,Bool.and_self,Bool.true_and,beq_self_eq_true,Bc,Aa,Bool.false_or,true_and]
     generalize A[j]! = y
     rw [show Cs x y=decide (x.Item<y.Item) from rfl]
     split <;> rfl
   ·cases next <;> simp [CO]
  ·rw [decide_eq_false hs]
   cases next <;> simp [CO]
 ·show Ex A w1 last out (nx next) (A.length:Int)=_
  unfold Ex
  rw [if_neg (by simp)]
theorem Kl {A:List AE} (hu:Uq A) (sh:List AE):(BB A sh).Pairwise fun a b=>Cs a b=true:=(MS Fm hu).filter _
theorem GF {A sh:List AE} {z:AE} : z∈BB A sh↔z∈A∧A8 sh z.Item=false:=by
 unfold BB
 rw [List.mem_filter,(C4 _ _).mem_iff]
 simp
theorem LZ {A:List AE} (hu:Uq A) (hid : ∀ x∈A,1≤x.Item) (sh:List AE) {k:Nat} (hk:k≤(BB A sh).length) {z:AE} (hz:z∈A):FG sh (Ft (BB A sh) k) z=true↔z∈(BB A sh).drop k:=by
 have hP : ∀ i:Int,FG sh i z=true↔i<z.Item∧A8 sh z.Item=false:=fun i=>by unfold FG; simp
 cases k with
 | zero=>
  rw [List.drop_zero,GF,hP]
  show (0<z.Item∧_)↔_
  constructor
  ·rintro ⟨_,h⟩; exact ⟨hz,h⟩
  ·rintro ⟨_,h⟩; exact ⟨by have:=hid z hz; omega,h⟩
 | succ k=>
  rw [hP]
  show ((BB A sh)[k]!.Item<z.Item∧_)↔_
  rw [getElem!_pos (BB A sh) k (by omega)]
  have hd:=fun hz2=>Kw Fm (Kl hu sh) (show k<(BB A sh).length by omega) (z:=z) hz2
  constructor
  ·rintro ⟨h1,h2⟩
   exact (hd (GF.2 ⟨hz,h2⟩)).1 (by unfold Cs; simpa using h1)
  ·intro h1
   have h2:=List.mem_of_mem_drop h1
   have h3:=(hd h2).2 h1
   unfold Cs at h3
   exact ⟨by simpa using h3,(GF.1 h2).2⟩
theorem Re {A:List AE} (hu:Uq A) (hid : ∀ x∈A,1≤x.Item) (hm:A.length≤1048576) (sh:List AE) (hs:sh.length≤1048576) : ∀ m k,k+m=(BB A sh).length →
  iter (fun (a:Int × (List AE))=>EX A sh a.1 a.2) (Ft (BB A sh) k,sh++(BB A sh).take k)=some (.ext (sh++BB A sh,(sh.length:Int))):=by
 intro m
 have hA : ∀ z∈BB A sh,z∈A:=fun z hz=>(GF.1 hz).1
 have hlo:(BB A sh).length≤1048576:=by
  unfold BB
  refine Nat.le_trans (List.length_filter_le ..) ?_
  rw [(C4 _ _).length_eq]; exact hm
 induction m with
 | zero=>
  intro k hk
  refine Bj ?_
  show EX A sh (Ft (BB A sh) k) (sh++(BB A sh).take k)=_
  unfold EX
  obtain ⟨next,e1,e2⟩:=Mp A sh (sh++(BB A sh).take k) hm hs (by simp) (by simp) (Ft (BB A sh) k)
  have:=(I6 Fm hu hA (Kl hu sh) (fun z hz=>LZ hu hid sh (by omega) hz) e2).2 (by omega)
  subst this
  rw [e1,Aa,if_pos (by decide),List.take_of_length_le (by omega)]
 | succ m ih=>
  intro k hk
  have hkl:k<(BB A sh).length:=by omega
  obtain ⟨next,e1,e2⟩:=Mp A sh (sh++(BB A sh).take k) hm hs (by simp) (by simp) (Ft (BB A sh) k)
  obtain ⟨j,hj,rfl,e3⟩:=(I6 Fm hu hA (Kl hu sh) (fun z hz=>LZ hu hid sh (by omega) hz) e2).1 hkl
  rw [List.getElem?_eq_getElem hkl] at e3
  have e4:A[j]=(BB A sh)[k]:=Option.some.inj e3
  rw [CD (s':=(Ft (BB A sh) (k+1),sh++(BB A sh).take (k+1))) (by
   show EX A sh (Ft (BB A sh) k) (sh++(BB A sh).take k)=_
   unfold EX
   rw [e1,Aa,show nx (some j)=(j:Int) from rfl,if_neg (by simp),Dy hj,Aa,E0 (by simp; omega),Aa,e4]
   show some (Sum.inl ((BB A sh)[k].Item,_))=some (Sum.inl ((BB A sh)[k]!.Item,_))
   rw [getElem!_pos (BB A sh) k hkl,KK hkl,getElem!_pos (BB A sh) k hkl,List.append_assoc])]
  exact ih (k+1) (by omega)
theorem Qg {l:List AP} {items attrs:List AE} (hp:GX l=some (items.map (wa attrs),attrs)) {d:Int→Nat} {M:Nat} (hF:Fo (items.map (wa attrs)) d M) :
  Gw l=some (Az (items.map (wa attrs)) (M+1) 0++BB (items.map (wa attrs)) (Az (items.map (wa attrs)) (M+1) 0),((Az (items.map (wa attrs)) (M+1) 0).length:Int)):=by
 unfold Gw
 rw [hp,B6,OF hF,Aa]
 have h:=Re hF.uq hF.id hF.len (Az (items.map (wa attrs)) (M+1) 0) (Nat.le_trans (GU hF _ _) hF.len) _ 0 (by rw [Nat.zero_add])
 rw [List.take_zero,List.append_nil] at h
 have h':iter (fun (a:Int × (List AE))=>EX (items.map (wa attrs)) (Az (items.map (wa attrs)) (M+1) 0) a.1 a.2) (0,Az (items.map (wa attrs)) (M+1) 0)=_:=h
 rw [h',Ci]
end Go.Proofs.Ytelkfhdgmbahgaa.Al

set_option linter.unusedVariables false
set_option linter.unusedSimpArgs false
namespace Go.Proofs.Ytelkfhdgmbahgaa.Al
open Go.Sort
def Ca:(Int→Bool)→List AE→Prop
 | _,[]=>True
 | S,z :: r=>S z.Parent=true∧Ca (fun i=>S i || decide (z.Item=i)) r
theorem Ca.mono : ∀ {l:List AE} {S T:Int→Bool},Ca S l→(∀ i,S i=true→T i=true)→Ca T l
 | [],_,_,_,_=>trivial
 | z :: r,S,T,h,hs=>⟨hs _ h.1,Ca.mono h.2 fun i hi=>by
   simp only [Bool.or_eq_true] at hi ⊢
   exact hi.imp (hs i) _root_.id⟩
theorem NY : ∀ {l m:List AE} {S:Int→Bool},Ca S l→Ca (fun i=>S i || A8 l i) m→Ca S (l++m)
 | [],m,S,_,h2=>h2.mono fun i hi=>by simpa [A8] using hi
 | z :: r,m,S,h1,h2=>⟨h1.1,NY h1.2 (h2.mono fun i hi=>by
   simp only [A8,List.any_cons,Bool.or_eq_true,decide_eq_true_eq] at hi ⊢
   rcases hi with h | h | h
   ·exact .inl (.inl h)
   ·exact .inl (.inr h)
   ·exact .inr h)⟩
theorem Pp {A:List AE} : ∀ (n:Nat) (q:Int) (S:Int→Bool),S q=true→Ca S (Az A n q):=by
 intro n
 induction n with
 | zero=>intro q S _; trivial
 | succ n ih=>
  intro q S hS
  show Ca S ((Ap A q).flatMap fun x=>x :: Az A n x.Item)
  have hq : ∀ x∈Ap A q,x.Parent=q:=fun x hx=>(DZ.1 hx).2
  revert hq hS
  generalize Ap A q=c
  induction c generalizing S with
  | nil=>intro _ _; trivial
  | cons x r ihc=>
   intro hS hq
   rw [List.flatMap_cons]
   refine NY ⟨by rw [hq x (List.mem_cons_self ..)]; exact hS,ih _ _ (by simp)⟩ (ihc _ (by simp [hS]) fun y hy=>hq y (List.mem_cons_of_mem _ hy))
theorem Ca.at : ∀ {l:List AE} {S:Int→Bool},Ca S l → ∀ k (hk:k<l.length),(S l[k].Parent || A8 (l.take k) l[k].Parent)=true
 | z :: r,S,h,0,_=>by rw [List.getElem_cons_zero,h.1]; rfl
 | z :: r,S,h,k+1,hk=>by
  have:=Ca.at h.2 k (by simpa using hk)
  rw [List.getElem_cons_succ,List.take_succ_cons]
  simp only [A8,List.any_cons,Bool.or_eq_true,decide_eq_true_eq] at this ⊢
  rcases this with (h | h) | h
  ·exact .inl h
  ·exact .inr (.inl h)
  ·exact .inr (.inr h)
theorem RS {A:List AE} {d:Int→Nat} {M:Nat} (h:Fo A d M) : ∀ (n:Nat) (q:Int),M-d q<n → ∀ z∈A,(z.Parent=q∨A8 (Az A n q) z.Parent=true)→z∈Az A n q:=by
 intro n
 induction n with
 | zero=>intro q hn; omega
 | succ n ih=>
  intro q hn z hz hp
  unfold Az
  rw [List.mem_flatMap]
  rcases hp with hp | hp
  ·exact ⟨z,DZ.2 ⟨hz,hp⟩,List.mem_cons_self ..⟩
  ·unfold A8 Az at hp
   rw [List.any_eq_true] at hp
   obtain ⟨y,hy,he⟩:=hp
   obtain ⟨x,hx,hyx⟩:=List.mem_flatMap.1 hy
   obtain ⟨hxA,hxp⟩:=DZ.1 hx
   have hd:=h.rk x hxA
   rw [hxp] at hd
   have ht:=h.top x hxA
   refine ⟨x,hx,List.mem_cons_of_mem _ (ih x.Item (by omega) z hz ?_)⟩
   rcases List.mem_cons.1 hyx with rfl | hyx
   ·exact .inl (by simp at he; exact he.symm)
   ·refine .inr ?_
    unfold A8
    rw [List.any_eq_true]
    exact ⟨y,hyx,he⟩
theorem Q6 {A:List AE} {d:Int→Nat} {M:Nat} (h:Fo A d M):HA (Az A (M+1) 0++BB A (Az A (M+1) 0))=some ((Az A (M+1) 0).length:Int):=by
 have hlo:(BB A (Az A (M+1) 0)).length≤1048576:=by
  unfold BB
  refine Nat.le_trans (List.length_filter_le ..) ?_
  rw [(C4 _ _).length_eq]; exact h.len
 have hlp:=Nat.le_trans (GU h (M+1) 0) h.len
 have hok:=Pp (A:=A) (M+1) 0 (fun i=>decide (i=0)) (by simp)
 have hout : ∀ z∈BB A (Az A (M+1) 0),(decide (z.Parent=0) || A8 (Az A (M+1) 0) z.Parent)=false:=fun z hz=>by
  obtain ⟨hzA,hzn⟩:=GF.1 hz
  cases hb:(decide (z.Parent=0) || A8 (Az A (M+1) 0) z.Parent)
  ·rfl
  ·have:=RS h (M+1) 0 (by omega) z hzA (by simpa using hb)
   have h2:A8 (Az A (M+1) 0) z.Item=true:=by
    unfold A8; rw [List.any_eq_true]; exact ⟨z,this,by simp⟩
   rw [hzn] at h2; cases h2
 generalize Az A (M+1) 0=p at *
 generalize BB A p=o at *
 have key:=LJ (f:=fun (a:Int × (List (Int × Bool)))=>E7 (p++o) a.1 a.2) (p++o).length (fun k s=>s.1=(k:Int)∧k≤p.length ∧ ∀ i,Cb s.2 i=(decide (i=0) || A8 (p.take k) i))
  (fun b=>BS (some b) (fun (_:Unit)=>some ((p++o).length:Int))=some (p.length:Int))
  (fun k s hk hs=>by
   obtain ⟨x,m⟩:=s
   obtain ⟨rfl,hkp,hsn⟩:=hs
   have hkl:k<(p++o).length:=hk
   have hlen:(p++o).length≤2097152:=by simp; omega
   have hstep:E7 (p++o) (k:Int) m=if (!(decide ((p++o)[k].Parent=0) || A8 (p.take k) (p++o)[k].Parent))=true then some (.inr (.ext (k:Int))) else some (.inl (((k+1:Nat):Int),Ai m (p++o)[k].Item true)):=by
    unfold E7
    rw [if_pos (by rw [decide_eq_true_eq]; exact_mod_cast hkl),Dy hkl,Aa,show (AN m (p++o)[k].Parent).getD false=_ from hsn _,BW (by omega),Aa]
   by_cases hkp2:k<p.length
   ·left
    have hget:(p++o)[k]=p[k]:=List.getElem_append_left hkp2
    have h1:=hok.at k hkp2
    rw [hget] at hstep
    rw [h1] at hstep
    refine ⟨(((k+1:Nat):Int),Ai m p[k].Item true),by exact hstep,rfl,by omega,fun i=>?_⟩
    show Cb (Ai m p[k].Item true) i=_
    rw [JV,show Cb m i=_ from hsn i,KK hkp2,getElem!_pos p k hkp2,NJ]
    have:A8 [p[k]] i=decide (i=p[k].Item):=by
     unfold A8; simp only [List.any_cons,List.any_nil,Bool.or_false]
     rw [decide_eq_decide]; exact ⟨fun e=>e.symm,fun e=>e.symm⟩
    rw [this]
    cases decide (i=p[k].Item) <;> cases decide (i=0) <;> simp
   ·right
    obtain rfl:k=p.length:=by omega
    have hget:(p++o)[p.length]∈o:=by
     rw [List.getElem_append_right (Nat.le_refl _)]; exact List.getElem_mem _
    have h1:=hout _ hget
    rw [List.take_length,h1] at hstep
    exact ⟨_,hstep,rfl⟩)
  (fun s hs=>by
   obtain ⟨x,m⟩:=s
   obtain ⟨rfl,hkp,hsn⟩:=hs
   refine ⟨.nrm (),?_,?_⟩
   ·show E7 (p++o) ((p++o).length:Int) m=_
    unfold E7
    rw [if_neg (by simp)]
   ·rw [FF]
    have:(p++o).length=p.length:=by rw [List.length_append] at hkp ⊢; omega
    rw [this])
  (s:=(0,Ai ([]:List (Int × Bool)) 0 true)) ⟨rfl,Nat.zero_le _,fun i=>by rw [JV]; simp [Cb,AN,A8]⟩
 obtain ⟨b,h1,h2⟩:=key
 unfold HA
 rw [h1]; exact h2
theorem RA (x:AE) (hx:x.Attrs.length≤9223372036854775807):Hq x x=some true:=by
 unfold Hq
 simp only [decide_true,Bool.and_self,beq_self_eq_true,Bc]
 rw [Q2 _ _ hx]
 simp
theorem Sc (l:List AE) (hl:l.length≤2097152) (hx : ∀ x∈l,x.Attrs.length≤9223372036854775807):HV l l=some true:=by
 unfold HV
 rw [if_neg (by simp)]
 have h:=Kn (f:=fun (a:Int)=>Ep l l a) l (fun (_:Unit) i=>(i:Int)) (fun r c=>(.nrm ():BN Unit Bool)) (fun i c=>True)
  (fun i c hi _=>by
   left
   refine ⟨(),?_,trivial,rfl⟩
   show Ep l l (i:Int)=_
   unfold Ep
   rw [if_pos (by simpa using hi),BR hi,Aa,Aa,RA _ (hx _ (Hu hi)),Aa,if_neg (by decide),BW (by omega)]; rfl)
  (fun c _=>by
   show Ep l l (l.length:Int)=_
   unfold Ep
   rw [if_neg (by simp)]) () trivial 0 rfl
 rw [h]; rfl
theorem Q7 {l:List AP} (h:G3 l=0) : ∀ x∈l,DA x=0:=by
 intro x hx
 obtain ⟨k,hk,rfl⟩:=List.mem_iff_getElem.1 hx
 unfold G3 at h
 cases hf:(List.range l.length).findSome? (Eu l) with
 | none=>
  rw [List.findSome?_eq_none_iff] at hf
  have:=hf k (List.mem_range.2 hk)
  unfold Eu at this
  rw [getElem!_pos l k hk] at this
  by_cases e:DA l[k]=0
  ·exact e
  ·rw [if_pos e] at this; cases this
 | some r=>
  rw [hf] at h
  simp only [Option.getD_some] at h
  obtain ⟨j,_,hj⟩:=List.exists_of_findSome?_eq_some hf
  unfold Eu at hj
  split at hj
  ·rename_i e; cases hj; exact absurd h e
  ·split at hj
   ·cases hj; exact absurd h (by decide)
   ·cases hj
theorem Pb (l:List AP) (h:Ie l) (hm:l.length≤1048576):Ih l=some true:=by
 unfold Ih Iz
 rw [Aa,if_neg (by decide)]
 unfold IK
 rw [Rm l h hm,RW l h hm,Aa]
 by_cases he:G3 l=0
 ·rw [he,if_neg (by decide)]
  have ho:=Q7 he
  obtain ⟨items,attrs,hD,hp1,hp2⟩:=QC hm ho
  obtain ⟨d,M,hF⟩:=hD.fo hm
  rw [R9 hm hD hp1 hF]
  simp only [Aa,B6]
  rw [if_neg (by decide),Qg hp2 hF]
  simp only [B6]
  have hlo:(BB (items.map (wa attrs)) (Az (items.map (wa attrs)) (M+1) 0)).length≤1048576:=by
   unfold BB
   refine Nat.le_trans (List.length_filter_le ..) ?_
   rw [(C4 _ _).length_eq]; exact hF.len
  have hlp:=Nat.le_trans (GU hF (M+1) 0) hF.len
  have hattr : ∀ x∈items.map (wa attrs),x.Attrs.length≤9223372036854775807:=fun x hx=>by
   obtain ⟨y,hy,rfl⟩:=List.mem_map.1 hx
   show ((AN (BX attrs) y.Item).getD []).length≤_
   cases hk:Ad (BX attrs) y.Item with
   | none=>rw [(CY hk).1]; simp
   | some j=>
    obtain ⟨v,v1,v2,_⟩:=Bm hk
    rw [v2,Option.getD_some]
    unfold BX at v1
    rw [List.getElem?_map,Option.map_eq_some_iff] at v1
    obtain ⟨z,z1,z2⟩:=v1
    simp only [Prod.mk.injEq] at z2
    rw [← z2.2]
    have:=(hD.ok z (List.mem_of_getElem? z1)).2
    omega
  rw [Sc _ (by rw [List.length_append]; omega) (fun x hx=>by
   rcases List.mem_append.1 hx with hx | hx
   ·exact hattr x (Iy _ _ _ hx).1
   ·exact hattr x (GF.1 hx).1)]
  simp only [decide_true,beq_self_eq_true,Bc,Aa,Bool.and_self]
  rw [Q6 hF]
  simp
 ·rw [if_pos (by simpa using he)]
  simp only [Aa,B6]
  rw [if_pos (by simpa using he)]
  simp
theorem Qh {μ:AP→Nat} (h : ∀ x,x.Place.length+x.Name.length+x.Value.length+1≤μ x) : ∀ (l:List AP),(l.map μ).sum≤1048576→Ie l∧l.length≤1048576:=by
 have key : ∀ l:List AP,l.length≤(l.map μ).sum ∧ ∀ x∈l,μ x≤(l.map μ).sum:=by
  intro l
  induction l with
  | nil=>exact ⟨Nat.le_refl _,fun x hx=>by simp at hx⟩
  | cons y l ih=>
   have h0:=h y
   rw [List.map_cons,List.sum_cons,List.length_cons]
   refine ⟨by omega,fun x hx=>?_⟩
   rcases List.mem_cons.1 hx with rfl | hx
   ·omega
   ·have:=ih.2 x hx; omega
 intro l hb
 obtain ⟨h1,h2⟩:=key l
 refine ⟨fun x hx=>?_,by omega⟩
 have h3:=h2 x hx
 have h4:=h x
 exact ⟨by omega,by omega,by omega⟩
end Go.Proofs.Ytelkfhdgmbahgaa.Al
