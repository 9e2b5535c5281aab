/- The program logic, a part of it. -/
import Derived.Test.YtioekebmplhlmaaGreatDoorAl1
import Derived.LaidEqlPtr
import Derived.Laws.BytesString
import Derived.Laws.RangeString
import Derived.Lib.LaidU8
import Derived.Lib.ValidU
import Derived.OrdersHeld
import Derived.Shelf.Unicode.ValidAny
import Derived.Test.YtioekebmplhlmaaGreatDoorProg
import GoSem.Core.Utf8
set_option linter.all false
namespace Go.Proofs.YtioekebmplhlmaaGreatDoor.Al
open Go.ChangeShapes Go.WideShapes Go.Deep Go.WideElems Go.RowKit
structure Ej (H:Type) where
 B:DataW H→Nat
 one : ∀ d,1≤B d
 str : ∀ s:List UInt8,s.length+1≤B (.lit (.string s))
 sl : ∀ l r,(l.map B).sum+1≤B (.slice l r)
 agg : ∀ l,(l.map B).sum+1≤B (.agg l)
section
variable {H:Type} {enc:TypeId × Value→H} {P:Program} {W:World} (K:Ej H)
def Ax (enc:TypeId × Value→H) (P:Program) (W:World) (t:TypeId) {α:Type} (f:α→List RV) (ok:α→Prop) (μ:α→Nat):Prop:=
 ∀ (fuel:Nat) (cs:List Value) (x:DataW H × List MemPlace),DataW.trod enc P W 0 (fun _=>true) true fuel t cs=some x → ∃ a,ok a∧I6 W cs (f a)∧μ a≤K.B x.1
theorem Ax.int {t:TypeId} {k:IntKind} (ht:P.underlying t=some (.int k)):Ax K enc P W t (fun n:Int=>[.int k n]) (fun n=>(Lit.int k n).wf=true) (fun _=>1):=by
 intro fuel cs x h
 obtain ⟨n,rfl,_,hw⟩:=DataW.trod_int ht h
 exact ⟨n,hw,.one (.int k n),K.one _⟩
theorem Ax.str {t:TypeId} (ht:P.underlying t=some .string):Ax K enc P W t (fun s:List UInt8=>[.str s]) (fun s=>s.length≤maxLen) (fun s=>s.length+1):=by
 intro fuel cs x h
 obtain ⟨s,rfl,rfl,hs⟩:=DataW.trod_string ht h
 exact ⟨s.data.toList,by simpa using hs,.one (.str s),K.str _⟩
theorem TS {α β:Type} {l:List α} {m:List β} {f:α→Nat} {g:β→Nat} (hl:l.length=m.length) (h : ∀ (i:Nat) (a:α) (b:β),l[i]? = some a→m[i]? = some b→f a≤g b):(l.map f).sum≤(m.map g).sum:=by
 induction l generalizing m with
 | nil=>simp
 | cons a l ih=>
  cases m with
  | nil=>simp at hl
  | cons b m=>
   have h0:=h 0 a b rfl rfl
   have h1:=ih (m:=m) (by simpa using hl) (fun i a b h1 h2=>h (i+1) a b (by simpa using h1) (by simpa using h2))
   simp only [List.map_cons,List.sum_cons]
   omega
theorem Ax.slice {t e:TypeId} {sz:Nat} {α:Type} {f:α→List RV} {ok:α→Prop} {μ:α→Nat} (ht:P.underlying t=some (.slice e)) (hc:P.cellsOf e=sz) (h0:0<sz) (h:Ax K enc P W e f ok μ) (hf : ∀ a,(f a).length=sz) :
  Ax K enc P W t (fun l:List α=>[.sl (l.map f)]) (fun l=>l.length≤maxLen ∧ ∀ a∈l,ok a) (fun l=>(l.map μ).sum+1):=by
 intro fuel cs x hx
 subst hc
 rcases open_slice ht hx with ⟨rfl,_⟩ | ⟨a,len,cap,m,n,D,Pl,rfl,_,hl,hm,hmm,rfl,hi⟩
 ·exact ⟨[],⟨Nat.zero_le _,fun _ h=>by cases h⟩,.one .snil,K.one _⟩
 simp only [if_true] at hmm
 have hread : ∀ i,i<len → ∃ b,ok b∧μ b≤K.B (D i) ∧ ∀ j d,(f b)[j]? = some d → ∃ u,W.cell? ((a.add (i * P.cellsOf e)).add j)=some u∧Ar W (· < W.heap.size) d u:=by
  intro i hil
  obtain ⟨cs',h1,h2⟩:=hi i (by omega)
  obtain ⟨b,hb,hr,hμ⟩:=h n _ _ h2
  obtain ⟨_,h3,h4⟩:=World.cells?_some h1
  refine ⟨b,hb,hμ,fun j d hj=>?_⟩
  have hjl:j<(f b).length:=(List.getElem?_eq_some_iff.1 hj).1
  have hjc:j<cs'.length:=by rw [hr.1]; exact hjl
  refine ⟨cs'[j],?_,hr.2 j d _ hj (List.getElem?_eq_getElem hjc)⟩
  rw [h4 j (by rw [← h3]; exact hjc)]
  exact List.getElem?_eq_getElem hjc
 obtain ⟨l,hll,hq⟩:=NC len hread
 have hok : ∀ b∈l,ok b:=fun b hb=>by
  obtain ⟨i,hi⟩:=List.mem_iff_getElem?.1 hb
  exact (hq i b hi).1
 have hμ:(l.map μ).sum+1≤K.B (.slice ((List.range len).map D) ((List.range (m-len)).map fun j=>D (len+j))):=by
  refine Nat.le_trans ?_ (K.sl _ _)
  have:=TS (l:=l) (m:=(List.range len).map D) (f:=μ) (g:=K.B) (by simpa using hll) (fun i a b h1 h2=>by
   have hil:i<len:=by rw [← hll]; exact (List.getElem?_eq_some_iff.1 h1).1
   rw [List.getElem?_map,List.getElem?_range hil] at h2
   cases h2
   exact (hq i a h1).2.1)
  omega
 have hcells : ∀ i b,l[i]? = some b → ∀ j d,(f b)[j]? = some d → ∃ u,W.cell? ((a.add (i * P.cellsOf e)).add j)=some u∧Ar W (· < W.heap.size) d u:=fun i b hb=>(hq i b hb).2.2
 refine ⟨l,⟨by rw [hll]; omega,hok⟩,.one ?_,hμ⟩
 subst hll
 by_cases hne:cap=0
 ·have:l=[]:=List.eq_nil_of_length_eq_zero (by omega)
  subst this; subst hne
  exact .sl0 a
 ·obtain ⟨cs',h1,_⟩:=hi 0 (by omega)
  obtain ⟨_,h3,h4⟩:=World.cells?_some h1
  have hc0 : ∃ u,W.cell? a=some u:=by
   have:=h4 0 h0
   rw [Nat.zero_mul,show (a.add 0).add 0=a from rfl] at this
   exact ⟨cs'[0]'(by omega),this.trans (List.getElem?_eq_getElem (by omega))⟩
  obtain ⟨u0,hu0⟩:=hc0
  obtain ⟨b,off,spot⟩:=a
  have hsp:spot=none:=World.cell?_spot hu0
  subst hsp
  have hblk:b<W.heap.size:=by
   unfold World.cell? at hu0
   rcases Nat.lt_or_ge b W.heap.size with h | h
   ·exact h
   ·rw [Array.getElem?_eq_none h] at hu0; cases hu0
  have hadd : ∀ i j,((⟨b,off,none⟩:Addr).add (i * P.cellsOf e)).add j=⟨b,off+i * P.cellsOf e+j,none⟩:=fun i j=>by rw [Addr.add_lit,Addr.add_lit]
  have hu : ∀ (i:Nat) (row:List RV) (c:Nat) (d:RV),(l.map f)[i]? = some row→row[c]? = some d → ∃ u,W.cell? ⟨b,off+i * P.cellsOf e+c,none⟩=some u∧Ar W (· < W.heap.size) d u:=by
   intro i row c d h1 h2
   rw [List.getElem?_map,Option.map_eq_some_iff] at h1
   obtain ⟨z,h5,rfl⟩:=h1
   obtain ⟨u,h6,h7⟩:=hcells i z h5 c d h2
   rw [hadd] at h6
   exact ⟨u,h6,h7⟩
  have:=Ar.sl (w:=W) (S:=(· < W.heap.size)) b off (l.map f) cap (P.cellsOf e) (fun i c=>(W.cell? ⟨b,off+i * P.cellsOf e+c,none⟩).getD undef) (fun _=>hblk) (by simpa using hl) hm
   (fun row hr=>by obtain ⟨z,_,rfl⟩:=List.mem_map.1 hr; exact hf z)
   (fun i row c d h1 h2=>by obtain ⟨u,h5,_⟩:=hu i row c d h1 h2; rw [h5]; rfl)
   (fun i row c d h1 h2=>by obtain ⟨u,h5,h6⟩:=hu i row c d h1 h2; rw [h5]; exact h6)
  rwa [List.length_map] at this
theorem Fg {t:TypeId} {fs:Array Field} {n:Nat} {fuel:Nat} {cs:List Value} {x:DataW H × List MemPlace} (ht:P.underlying t=some (.struct fs)) (hC:P.cellsOf t=n)
  (h:DataW.trod enc P W 0 (fun _=>true) true fuel t cs=some x) :
  cs.length=n ∧ ∃ xs:List (DataW H × List MemPlace),x.1 = .agg (xs.map (·.1))∧xs.length=fs.size ∧
   ∀ (j:Nat) (f:Field),fs[j]? = some f → ∃ (y:DataW H × List MemPlace) (m:Nat),xs[j]? = some y∧DataW.trod enc P W 0 (fun _=>true) true m f.type ((cs.drop f.offset).take (P.cellsOf f.type))=some y:=by
 obtain ⟨ys,n',hn',rfl,hlen,hyl,hf⟩:=DataW.trod_struct ht h
 refine ⟨hlen.trans hC,ys,rfl,hyl,fun j f hj=>?_⟩
 have hjl:j<fs.size:=(Array.getElem?_eq_some_iff.1 hj).1
 have h1:=hf j f hj
 have h2:ys[j]? = some ys[j]:=List.getElem?_eq_getElem (by omega)
 exact ⟨ys[j],n',h2,h1.trans h2⟩
theorem I6.part {cs:List Value} {off k jj:Nat} {row:List RV} {d:RV} {u:Value} (h:I6 W ((cs.drop off).take k) row) (hjj:Nat.blt jj k=true) (h1:row[jj]? = some d) (h2:cs[off+jj]? = some u):Ar W (· < W.heap.size) d u:=by
 refine h.2 jj d u h1 ?_
 rw [List.getElem?_take,if_pos (E7 hjj),List.getElem?_drop]
 exact h2
theorem WR {t:TypeId} {α:Type} {d0:α→RV} {ok:α→Prop} {μ:α→Nat} {v:Value} {d:DataW H} {p:List MemPlace} (hr:Ax K enc P W t (fun a:α=>[d0 a]) ok μ) (hv:v.cells = #[v])
  (h:DataW.Trod enc P W 0 (fun _=>true) true t v d p) : ∃ a,ok a∧Ar W (· < W.heap.size) (d0 a) v∧μ a≤K.B d:=by
 obtain ⟨fuel,hf⟩:=h
 obtain ⟨l,h1,h2,h3⟩:=hr fuel _ _ hf
 rw [hv] at h2
 exact ⟨l,h1,h2.2 0 _ _ rfl rfl,h3⟩
theorem Nr {t e:TypeId} {α:Type} {f:α→List RV} {ok:List α→Prop} {μ:List α→Nat} {v:Value} {d:DataW H} {p:List MemPlace} {r:Reach} {b0:Nat} (ht:P.underlying t=some (.slice e)) (hr:Ax K enc P W t (fun l:List α=>[.sl (l.map f)]) ok μ)
  (hval:Value.okWide P W r b0 t v) (h:DataW.Trod enc P W 0 (fun _=>true) true t v d p) : ∃ l,ok l∧Ar W (· < W.heap.size) (.sl (l.map f)) v∧μ l≤K.B d:=by
 obtain ⟨a,len,cap,rfl⟩:=okWide_slice ht hval
 exact WR K hr rfl h
theorem Pt {t:TypeId} {k:IntKind} {v:Value} {d:DataW H} {p:List MemPlace} {r:Reach} {b0:Nat} (ht:P.underlying t=some (.int k)) (hval:Value.okWide P W r b0 t v) (h:DataW.Trod enc P W 0 (fun _=>true) true t v d p) :
  ∃ n:Int,(Lit.int k n).wf=true∧Ar W (· < W.heap.size) (.int k n) v∧1≤K.B d:=by
 obtain ⟨n,h1,h2⟩:=VE ht hval h
 exact ⟨n,h1,h2,K.one _⟩
end
end Go.Proofs.YtioekebmplhlmaaGreatDoor.Al

namespace Go.Proofs.YtioekebmplhlmaaGreatDoor.Al
theorem Fs {α:Type} {l ys:List α} (hl:l.length=ys.length) (h : ∀ (j:Nat) (y:α),ys[j]? = some y→l[j]? = some y):l=ys:=by
 apply List.ext_getElem? 
 intro i
 rcases Nat.lt_or_ge i ys.length with hi | hi
 ·rw [h i _ (List.getElem?_eq_getElem hi),List.getElem?_eq_getElem hi]
 ·rw [List.getElem?_eq_none hi,List.getElem?_eq_none (by omega)]
theorem IT {α:Type} {μ:α→Nat} (h : ∀ x,1≤μ x) (l:List α):l.length≤(l.map μ).sum:=by
 induction l with
 | nil=>simp
 | cons a l ih=>have:=h a; simp only [List.length_cons,List.map_cons,List.sum_cons]; omega
theorem Eu {α:Type} {μ:α→Nat} {l:List α} {a:α} (h:a∈l):μ a≤(l.map μ).sum:=by
 induction l with
 | nil=>cases h
 | cons b l ih=>
  simp only [List.map_cons,List.sum_cons]
  rcases List.mem_cons.1 h with rfl | h
  ·omega
  ·have:=ih h; omega
def Bd (k:IntKind) (a b:Int):Int:=k.wrap (BitVec.ofInt k.bits a &&& BitVec.ofInt k.bits b).toNat
def CX (k:IntKind) (a b:Int):Int:=k.wrap (BitVec.ofInt k.bits a ||| BitVec.ofInt k.bits b).toNat
def MN (k:IntKind) (a b:Int):Int:=k.wrap (BitVec.ofInt k.bits a &&& ~~~BitVec.ofInt k.bits b).toNat
def CE (k:IntKind) (a:Int) (n:Nat):Int:=k.wrap (a * 2 ^ (min n k.bits))
def Dv (k:IntKind) (a:Int) (n:Nat):Int:=a.fdiv (2 ^ (min n k.bits))
def D4 (s:List UInt8) (p:Nat):Nat × Nat:=Utf8.decode ⟨s.toArray⟩ p
def MK (s:List UInt8):Option Bool:=if s.length≤9223372036854775807 then some (Lib.validD s) else none
section
variable {P:Program} {ops:Array Oper} {md:Region.Mode} {Q:Exit→Act→World→Prop} {S:World→Prop}
def GL (P:Program) (md:Region.Mode) (ops:Array Oper) (Q:Exit→Act→World→Prop) (S:World→Prop) (L:Array Bool→Act→World→Prop):Nat→Array Bool→Act→World→Prop
 | 0,listed,a,w=>L listed a w
 | f+1,listed,a,w=>Region.ready md ops listed≠[] ∧ ∀ i∈Region.ready md ops listed,wpOp P ops Q i (fun a' w'=>S w'∧GL P md ops Q S L f (listed.setIfInBounds i true) a' w') a w
theorem RQ {g:Nat} {L:Array Bool→Act→World→Prop} (hL : ∀ listed a w,L listed a w→wpAny P md ops Q g listed a w) :
  ∀ (f:Nat) (listed:Array Bool) (a:Act) (w:World),GL P md ops Q S L f listed a w→wpAny P md ops Q (f+g) listed a w
 | 0,listed,a,w,h=>by rw [Nat.zero_add]; exact hL _ _ _ h
 | f+1,listed,a,w,h=>by
  rw [show f+1+g=(f+g)+1 by omega]
  exact ⟨fun h0=>absurd h0 h.1,fun i hi=>wpOp_mono (fun a' w' h'=>RQ hL f _ a' w' h'.2) (h.2 i hi)⟩
structure HI (md:Region.Mode) (ops:Array Oper) (n:Nat) (l0 listed:Array Bool):Prop where
 size:listed.size=ops.size
 closed : ∀ j oj,ops[j]? = some oj→listed.getD j false=true→l0.getD j false=true ∨ ∀ e∈oj.after,Region.binds md e=true→listed.getD e.on false=true
 tail : ∀ t,n≤t→t<ops.size→listed.getD t true=false
 mono : ∀ j,l0.getD j false=true→listed.getD j false=true
theorem HI.set {n i:Nat} {l0 listed:Array Bool} (inv:HI md ops n l0 listed) (hi:i∈Region.ready md ops listed) (hin:i<n):HI md ops n l0 (listed.setIfInBounds i true):=by
 obtain ⟨_,oi,hoi,hall⟩:=mem_ready.1 hi
 refine ⟨by simp [inv.size],fun j oj hj hl=>?_,fun t ht ht'=>by rw [getD_set_ne true (by omega)]; exact inv.tail t ht ht',fun j hj=>getD_set_true (inv.mono j hj)⟩
 by_cases hij:i=j
 ·subst hij
  have:oj=oi:=Option.some.inj (hj.symm.trans hoi)
  subst this
  exact .inr fun e he hb=>getD_set_true (hall e he hb)
 ·rw [getD_set_ne false hij] at hl
  rcases inv.closed j oj hj hl with h | h
  ·exact .inl h
  ·exact .inr fun e he hb=>getD_set_true (h e he hb)
def MJ (md:Region.Mode) (ops:Array Oper) (n:Nat) (l0:Array Bool):Bool:=
 (List.range n).all fun i=>l0.getD i false || (List.range (n+1)).any fun j=>decide (i<j) && !l0.getD j false && Region.waitsFor md ops j i
theorem Ph {n:Nat} {l0 listed:Array Bool} (hs:MJ md ops n l0=true) (hc:Region.chainB md ops n=true) (hn:n<ops.size) (inv:HI md ops n l0 listed) :
  ∀ (d i:Nat),n-i=d→i<n→listed.getD i true=false → ∀ t,n≤t→t ∉ Region.ready md ops listed:=by
 intro d
 induction d using Nat.strongRecOn with
 | _ d ih=>
  intro i hd hi hun t ht hr
  obtain ⟨_,ot,hot,hall⟩:=mem_ready.1 hr
  have htlt:t<ops.size:=(Array.getElem?_eq_some_iff.1 hot).1
  by_cases htn:t=n
  ·subst htn
   have h1:=List.all_eq_true.1 hs i (List.mem_range.2 hi)
   rw [Bool.or_eq_true] at h1
   rcases h1 with h1 | h1
   ·have:=inv.mono i h1
    grind
   obtain ⟨j,hj,hj2⟩:=List.any_eq_true.1 h1
   simp only [Bool.and_eq_true,decide_eq_true_eq,Bool.not_eq_true'] at hj2
   obtain ⟨oj,hoj,e,he,hb,hon⟩:=Region.waitsFor_spec hj2.2
   have hjle:j≤t:=by grind
   by_cases hjt:j=t
   ·grind
   ·cases hl:listed.getD j false with
    | true=>
     rcases inv.closed j oj hoj hl with h3 | h3
     ·grind
     ·grind
    | false=>
     grind
  ·have h1:=List.all_eq_true.1 hc t (List.mem_range.2 htlt)
   simp only [Bool.or_eq_true,decide_eq_true_eq] at h1
   rcases h1 with h1 | h1
   ·omega
   ·obtain ⟨o',ho',e,he,hb,hon⟩:=Region.waitsFor_spec h1
    have:o'=ot:=Option.some.inj (ho'.symm.trans hot)
    subst this
    have h2:=hall e he hb
    rw [hon,getD_both (inv.tail (t-1) (by omega) (by omega))] at h2
    cases h2
theorem Wj {n i:Nat} {oi:Oper} {v:Value} {l0:Array Bool} {L:Array Bool→Act→World→Prop} (hi:ops[i]? = some oi) (hsel : ∀ (j:Nat) (o:Oper) cs b,ops[j]? = some o→o.op ≠ .select cs b)
  (hQ : ∀ c a w,Q (.panic c) (a.put oi.dst v) w→Q (.panic c) a w) (hs:MJ md ops n l0=true) (hc:Region.chainB md ops n=true) (hn:n<ops.size) (hin:i<n)
  (hdone : ∀ listed a w,L listed a w → ∀ j∈Region.ready md ops listed,n≤j) :
  ∀ (f:Nat) (listed:Array Bool) (a:Act) (w:World),HI md ops n l0 listed →
   (∀ j oj,ops[j]? = some oj→j≠i→listed.getD j true=false→(∀ e∈oj.after,Region.binds md e=true→e.on≠i)→oi.apart ops oj=true) →
   i∈Region.ready md ops listed→YieldsIf P ops S oi v a→S w →
   GL P md ops Q S L f (listed.setIfInBounds i true) (a.put oi.dst v) w→GL P md ops Q S L (f+1) listed a w:=by
 intro f
 induction f with
 | zero=>
  intro listed a w inv _ hr hy hS H
  have hun:=(mem_ready.1 hr).1
  refine ⟨fun h=>(by rw [h] at hr; cases hr),fun j hj=>?_⟩
  have hjn:j<n:=by
   rcases Nat.lt_or_ge j n with h | h
   ·exact h
   ·exact absurd hj (Ph hs hc hn inv _ i rfl hin hun j h)
  by_cases hji:j=i
  ·subst hji; exact hy.wpOp hi hS ⟨hS,H⟩
  ·have:=hdone _ _ _ H j (ready_mono hj hji)
   omega
 | succ f ih=>
  intro listed a w inv hfree hr hy hS H
  have hun:=(mem_ready.1 hr).1
  refine ⟨fun h=>(by rw [h] at hr; cases hr),fun j hj=>?_⟩
  have hjn:j<n:=by
   rcases Nat.lt_or_ge j n with h | h
   ·exact h
   ·exact absurd hj (Ph hs hc hn inv _ i rfl hin hun j h)
  by_cases hji:j=i
  ·subst hji; exact hy.wpOp hi hS ⟨hS,H⟩
  ·have h1:=H.2 j (ready_mono hj hji)
   obtain ⟨hjun,oj,hoj,hall⟩:=mem_ready.1 hj
   have hnot : ∀ e∈oj.after,Region.binds md e=true→e.on≠i:=fun e he hb heq=>by
    grind
   have h2:=wpOp_putIf hoj (hfree j oj hoj hji hjun hnot) (fun cs b=>hsel i oi cs b hi) (fun cs b=>hsel j oj cs b hoj) hQ hy h1
   have hfree' : ∀ k ok,ops[k]? = some ok→k≠i→(listed.setIfInBounds j true).getD k true=false →
     (∀ e∈ok.after,Region.binds md e=true→e.on≠i)→oi.apart ops ok=true:=fun k ok hk hki hun hno=>by
    refine hfree k ok hk hki ?_ hno
    by_cases hjk:j=k
    ·grind
    ·simp_all
   refine wpOp_mono (fun a' w' h3=>⟨h3.2.1,ih (listed.setIfInBounds j true) a' w' (inv.set hj hjn) hfree' (ready_mono hr (Ne.symm hji)) h3.1 h3.2.1 ?_⟩) h2
   rw [Array.setIfInBounds_comm _ _ hji]
   exact h3.2.2
def HF (md:Region.Mode) (ops:Array Oper):List Nat→Array Bool→Bool
 | [],_=>true
 | i :: is,listed=>(Region.ready md ops listed).contains i && Region.free md ops listed i && HF md ops is (listed.setIfInBounds i true)
def LZ (md:Region.Mode) (ops:Array Oper):List Nat→Array Bool→Bool
 | [],_=>true
 | i :: is,listed=>decide (Region.ready md ops listed=[i]) && LZ md ops is (listed.setIfInBounds i true)
def Bs (listed:Array Bool) (is:List Nat):Array Bool:=is.foldl (fun l i=>l.setIfInBounds i true) listed
def KN (P:Program) (ops:Array Oper) (S:World→Prop) (Qa:Act→Prop):List Oper→Act→Prop
 | [],a=>Qa a
 | o :: rest,a=>∃ v,YieldsIf P ops S o v a∧KN P ops S Qa rest (a.put o.dst v)
def Mn (P:Program) (ops:Array Oper) (Q:Exit→Act→World→Prop) (S:World→Prop) (Qa:Act→World→Prop):List Oper→Act→World→Prop
 | [],a,w=>Qa a w
 | o :: rest,a,w=>o.guard=none∧o.wp P a w (fun a' w'=>S w'∧Mn P ops Q S Qa rest a' w') Q
def Ns (Q:Exit→Act→World→Prop):Prop:=∀ c a w,¬ Q (.panic c) a w
theorem QB (hsel:Region.noSelect ops=true) (hQ:Ns Q) {f:Nat} : ∀ (is:List Nat) (l:List Oper) (listed:Array Bool) (a:Act) (w:World),is.map (fun i=>ops[i]?)=l.map some→HF md ops is listed=true →
  KN P ops (fun _=>True) (fun a'=>wpAny P md ops Q f (Bs listed is) a' w) l a→wpAny P md ops Q (f+is.length) listed a w
 | [],[],listed,a,w,_,_,h=>h
 | [],_ :: _,_,_,_,h,_,_=>by cases h
 | _ :: _,[],_,_,_,h,_,_=>by cases h
 | i :: is,o :: l,listed,a,w,hl,hB,⟨v,hy,h⟩=>by
  simp only [HF,Bool.and_eq_true] at hB
  obtain ⟨⟨hr,hf⟩,hB'⟩:=hB
  simp only [List.map_cons,List.cons.injEq] at hl
  have:=QB hsel hQ is l (listed.setIfInBounds i true) (a.put o.dst v) w hl.2 hB' h
  rw [List.length_cons,← Nat.add_assoc]
  refine wpAny_take hl.1 hsel hf hr (fun c a w h=>absurd h (hQ _ _ _)) ?_ this
  exact hy.imp (fun ⟨hw,hv⟩=>⟨hw,fun w=>hv w trivial⟩) id
theorem O0 {n:Nat} {l0:Array Bool} {L:Array Bool→Act→World→Prop} : ∀ (is:List Nat) (l:List Oper) (listed:Array Bool) (a:Act) (w:World),is.map (fun i=>ops[i]?)=l.map some→LZ md ops is listed=true →
  Mn P ops Q S (fun a' w'=>L (Bs listed is) a' w') l a w→GL P md ops Q S L is.length listed a w
 | [],[],listed,a,w,_,_,h=>h
 | [],_ :: _,_,_,_,h,_,_=>by cases h
 | _ :: _,[],_,_,_,h,_,_=>by cases h
 | i :: is,o :: l,listed,a,w,hl,hB,⟨hg,h⟩=>by
  simp only [LZ,Bool.and_eq_true,decide_eq_true_eq] at hB
  simp only [List.map_cons,List.cons.injEq] at hl
  refine ⟨by rw [hB.1]; simp,fun j hj=>?_⟩
  rw [hB.1] at hj
  have:j=i:=by simpa using hj
  subst this
  unfold wpOp
  simp only [hl.1]
  rw [if_pos (by simp [Region.wanted,hg])]
  exact .inl (Oper.wp_mono (fun a' w' h'=>⟨h'.1,O0 (n:=n) (l0:=l0) is l _ a' w' hl.2 hB.2 h'.2⟩) h)
theorem RT {n:Nat} {l0:Array Bool} {L:Array Bool→Act→World→Prop} {f:Nat} (hsel:Region.noSelect ops=true) (hQ:Ns Q) (hs:MJ md ops n l0=true) (hc:Region.chainB md ops n=true) (hn:n<ops.size)
  (hdone : ∀ listed a w,L listed a w → ∀ j∈Region.ready md ops listed,n≤j) {w:World} (hS:S w) : ∀ (is:List Nat) (l:List Oper) (listed:Array Bool) (a:Act),is.map (fun i=>ops[i]?)=l.map some→HF md ops is listed=true →
  (∀ i∈is,i<n)→HI md ops n l0 listed →
  KN P ops S (fun a'=>GL P md ops Q S L f (Bs listed is) a' w) l a→GL P md ops Q S L (f+is.length) listed a w
 | [],[],listed,a,_,_,_,_,h=>h
 | [],_ :: _,_,_,h,_,_,_,_=>by cases h
 | _ :: _,[],_,_,h,_,_,_,_=>by cases h
 | i :: is,o :: l,listed,a,hl,hB,hin,inv,⟨v,hy,h⟩=>by
  simp only [HF,Bool.and_eq_true] at hB
  obtain ⟨⟨hr,hf⟩,hB'⟩:=hB
  simp only [List.map_cons,List.cons.injEq] at hl
  have hr':i∈Region.ready md ops listed:=by simpa using hr
  have hi':=hin i (List.mem_cons_self ..)
  have:=RT hsel hQ hs hc hn hdone hS is l (listed.setIfInBounds i true) (a.put o.dst v) hl.2 hB' (fun j hj=>hin j (List.mem_cons_of_mem _ hj)) (inv.set hr' hi') h
  rw [List.length_cons,← Nat.add_assoc]
  exact Wj hl.1 (Region.noSelect_spec hsel) (fun c a w h=>absurd h (hQ _ _ _)) hs hc hn hi' hdone _ listed a w inv (Region.free_spec hl.1 hf) hr' hy hS this
end
section
variable {P:Program} {ops:Array Oper} {rest:List Oper} {s:St} {K:St→Prop} {o:Oper}
def E8 (P:Program) (ops:Array Oper) (rest:List Oper) (s:St) (K:St→Prop):Prop:=
 ∀ (y:Cx) (a:Act),y.ok→y.H=hget s.h→y.n=s.n→a.tmps.size=s.N→BN y s.e a → ∀ Qa:Act→Prop,
  (∀ s' a',K s'→s'.h=s.h→s'.n=s.n→s'.N=s.N→a'.tmps.size=s.N→a'.defers=a.defers→BN y s'.e a'→Qa a')→KN P ops (fun _=>True) Qa rest a
theorem E8.nil (h:K s):E8 P ops [] s K:=fun _ a _ _ _ hN he _ hQ=>hQ s a h rfl rfl rfl hN rfl he
theorem E8.move {d:Nat} {x:Operand} (hg:o.guard=none) (ho:o.op = .move x) (hd:o.dst=some d) (hN:Nat.blt d s.N=true)
  (hr:E8 P ops rest { e:=(d,Av s.e x) :: s.e,h:=s.h,n:=s.n,N:=s.N } K):E8 P ops (o :: rest) s K:=by
 intro y a hok hH hn hsz he Qa hQ
 have hN':d<a.tmps.size:=by simp_all
 refine ⟨a.eval x,.inl ⟨by simp [Region.wanted,hg],fun w _=>by unfold execOp; simp only [ho]; rfl⟩,?_⟩
 rw [hd]
 exact hr y (a.put (some d) (a.eval x)) hok hH hn (by simpa [Act.put] using hsz) (he.put hN' (he.eval x)) Qa fun s' a' k1 k2 k3 k4 k5 k6 k7=>hQ s' a' k1 k2 k3 k4 k5 k6 k7
def AF (P:Program) (ops:Array Oper) (rest:List Oper) (s:St) (K:St→Prop):Prop:=
 ∀ (y:Cx) (a:Act),y.ok→y.H=hget s.h→y.n=s.n→a.tmps.size=s.N→BN y s.e a → ∀ Qa:Act→Prop,
  (∀ s' a',K s'→s'.h=s.h→s'.n=s.n→s'.N=s.N→a'.tmps.size=s.N→a'.defers=a.defers→BN y s'.e a'→Qa a')→KN P ops (CV y) Qa rest a
theorem AF.nil (h:K s):AF P ops [] s K:=fun _ a _ _ _ hN he _ hQ=>hQ s a h rfl rfl rfl hN rfl he
theorem AF.step {d:Nat} {v:AV} (hg:o.guard=none) (hd:o.dst=some d) (hN:Nat.blt d s.N=true) (hs:AY P true o s.e s.h v)
  (hr:AF P ops rest { e:=(d,v) :: s.e,h:=s.h,n:=s.n,N:=s.N } K):AF P ops (o :: rest) s K:=by
 intro y a hok hH hn hsz he Qa hQ
 obtain ⟨u,hrun,hv⟩:=hs rfl y a hok hH he
 have hN':d<a.tmps.size:=by simp_all
 refine ⟨u,.inl ⟨by simp [Region.wanted,hg],hrun⟩,?_⟩
 rw [hd]
 exact hr y (a.put (some d) u) hok hH hn (by simpa [Act.put] using hsz) (he.put hN' hv) Qa fun s' a' k1 k2 k3 k4 k5 k6 k7=>hQ s' a' k1 k2 k3 k4 k5 k6 k7
def ON (P:Program) (o:Oper) (R:AU) (h:AN) (n:Nat) (v:AV) (h':AN) (n':Nat):Prop:=
 ∀ (x:Cx) (a:Act),x.ok→x.H=hget h→x.n=n→BN x R a → ∀ (K:Act→World→Prop) (Q:Exit→Act→World→Prop),
  (∀ (u:Value) (y:Cx),x.le y→y.ok→y.H=hget h'→y.n=n'→AR y v u→(∀ b,b<x.w.heap.size→y.w.heap[b]? = x.w.heap[b]?)→K (a.put o.dst u) y.w)→o.wp P a x.w K Q
def AA (P:Program) (ops:Array Oper) (rest:List Oper) (s:St) (K:St→Prop):Prop:=
 ∀ (y0 y:Cx) (a:Act),y0.ok→y0.le y→CV y0 y.w→y.ok→y.H=hget s.h→y.n=s.n→a.tmps.size=s.N→BN y s.e a → ∀ (Q:Exit→Act→World→Prop) (Qa:Act→World→Prop),
  (∀ s' a' y',K s'→y0.le y'→y'.ok→y'.H=hget s'.h→y'.n=s'.n→s'.N=s.N→a'.tmps.size=s.N→a'.defers=a.defers→BN y' s'.e a'→Qa a' y'.w)→Mn P ops Q (CV y0) Qa rest a y.w
theorem AA.nil (h:K s):AA P ops [] s K:=fun _ y a _ hle _ hok hH hn hN he _ _ hQ=>hQ s a y h hle hok hH hn rfl hN rfl he
theorem AA.step {d:Nat} {v:AV} {h':AN} {n':Nat} (hg:o.guard=none) (hd:o.dst=some d) (hN:Nat.blt d s.N=true) (hs:ON P o s.e s.h s.n v h' n')
  (hr:AA P ops rest { e:=(d,v) :: s.e,h:=h',n:=n',N:=s.N } K):AA P ops (o :: rest) s K:=by
 intro y0 y a hok0 hle hag hok hH hn hsz he Q Qa hQ
 have hN':d<a.tmps.size:=by simp_all
 refine ⟨hg,hs y a hok hH hn he _ _ fun u y' k1 k2 k3 k4 k5 k6=>?_⟩
 have hag':CV y0 y'.w:=by
  intro b hb
  have hlt:b<y0.w.heap.size:=by
   rcases hb with hb | ⟨id,o,k,h1,h2⟩
   ·exact hok0.S_lt b hb
   ·exact (hok0.own' id o b k h1 h2).1
  rw [k6 b (Nat.lt_of_lt_of_le hlt hle.size)]
  exact hag b hb
 refine ⟨hag',?_⟩
 rw [hd]
 exact hr y0 y' (a.put (some d) u) hok0 (hle.trans k1) hag' k2 k3 k4 (by simpa [Act.put] using hsz) ((he.mono k1).put hN' k5) Q Qa fun s' a' y' j1 j2 j3 j4 j5 j6 j7 j8=>hQ s' a' y' j1 j2 j3 j4 j5 j6 j7 j8
def N3 (ops:Array Oper) (fl hq al:List Nat) (n:Nat):Bool:=
 let r0:=Array.replicate ops.size false
 let l0:=Bs r0 fl
 let l1:=Bs l0 hq
 let l2:=Bs l1 al
 Region.noSelect ops && decide (n<ops.size) && MJ .any ops n l0 && Region.chainB .any ops n && HF .any ops fl r0 && HF .any ops hq l0 && LZ .any ops al l1
  && Region.seqB .any ops (ops.size-n) n l2 && decide (fl.length+hq.length+al.length=n) && (hq.all fun i=>decide (i<n)) && ((List.range ops.size).all fun t=>decide (t<n) || !l0.getD t true)
theorem NH (is:List Nat) (l:Array Bool):(Bs l is).size=l.size:=by
 induction is generalizing l with
 | nil=>rfl
 | cons i is ih=>simp_all [Bs]
theorem PX (y:Cx):CV y y.w:=fun _ _=>rfl
theorem YJ {id:Nat} {l:List Oper} {Q:Exit→St→Prop} (fl hq al:List Nat) (n:Nat) {lf lh la lt:List Oper} (hm:P.follows .mixedOrders=true) (hB:N3 l.toArray fl hq al n=true)
  (e1:fl.map (fun i=>l.toArray[i]?)=lf.map some) (e2:hq.map (fun i=>l.toArray[i]?)=lh.map some) (e3:al.map (fun i=>l.toArray[i]?)=la.map some) (e4:l.drop n=lt)
  (h:E8 P l.toArray lf s fun s1=>AF P l.toArray lh s1 fun s2=>AA P l.toArray la s2 fun s3=>AK P l.toArray lt s3 (Q .normal)):AW P (.region id l.toArray true) Q s:=by
 intro z0 hz0 c0 a w ⟨_,hdef,hsz,y,hyw,hle,hok,hH,hn,he⟩
 subst hyw
 obtain ⟨r1,r2⟩:=OU hok
 simp only [N3,Bool.and_eq_true,decide_eq_true_eq] at hB
 obtain ⟨⟨⟨⟨⟨⟨⟨⟨⟨⟨b1,b2⟩,b3⟩,b4⟩,b5⟩,b6⟩,b7⟩,b8⟩,b9⟩,b10⟩,b11⟩:=hB
 refine wpIn_mono (Q:=fun e a' w'=>e = .normal ∧ ∃ s',Q .normal s'∧Bz c0 s' a' w') ?_ fun e a' w' ⟨k1,k2⟩=>by subst k1; exact ⟨by simp,k2⟩
 refine K1 (fun hlo=>by obtain ⟨_,_,h1,_⟩:=hlo; cases h1) hm hz0 ?_
 have hQ:Ns (fun (e:Exit) (a':Act) (w':World)=>e = .normal ∧ ∃ s',Q .normal s'∧Bz c0 s' a' w'):=fun c a w h=>by cases h.1
 generalize hz:({ y with w:={ y.w with drawn:=y.w.drawn+1 } } : Cx)=z at r1 r2
 have hzw:z.w = { y.w with drawn:=y.w.drawn+1 }:=by rw [← hz]
 have hzH:z.H=hget s.h:=by grind
 have hzn:z.n=s.n:=by grind
 rw [← hzw]
 have hsize:l.toArray.size=(l.toArray.size-n)+al.length+hq.length+fl.length:=by omega
 have goal:=QB (P:=P) (md:=.any) (f:=(l.toArray.size-n)+al.length+hq.length) b1 hQ fl lf (Array.replicate l.toArray.size false) a z.w e1 b5
  (h z a r2 hzH hzn hsz (he.mono r1) _ fun s1 a1 k1 k2 k3 k4 k5 k6 k7=>by
   rw [show l.toArray.size-n+al.length+hq.length=(al.length+hq.length)+(l.toArray.size-n) by omega]
   refine RQ (S:=CV z) (L:=fun listed a' w'=>listed=Bs (Bs (Bs (Array.replicate l.toArray.size false) fl) hq) al∧wpList P l.toArray (fun e a' w'=>e = .normal ∧ ∃ s',Q .normal s'∧Bz c0 s' a' w') lt a' w') (fun listed a' w' ⟨q1,q2⟩=>?_) _ _ _ _ ?_
   ·subst q1; subst e4
    have hdl:(l.drop n).length=l.toArray.size-n:=by simp
    have:=wpAny_of_seq (md:=.any) (l.drop n) n _ a' w' (fun j=>by simp [List.getElem?_drop]) (by rw [hdl]; exact b8) q2
    rwa [hdl] at this
   ·refine RT (n:=n) (l0:=Bs (Array.replicate l.toArray.size false) fl) b1 hQ b3 b4 b2 (fun listed a' w' ⟨q1,_⟩ j hj=>by subst q1; exact seqB_ready b8 j hj) (PX z) hq lh _ a1 e2 b6
     (fun i hi=>by simpa using (List.all_eq_true.1 b10 i hi)) ⟨by rw [NH]; simp,fun j oj _ hl=>.inl hl,fun t ht htl=>?_,fun _ h=>h⟩ ?_
    ·grind
    ·refine k1 z a1 r2 (by rw [k2]; exact hzH) (by rw [k3]; exact hzn) (by rw [k4,k5]) k7 _ fun s2 a2 m1 m2 m3 m4 m5 m6 m7=>?_
     refine O0 (n:=n) (l0:=Bs (Array.replicate l.toArray.size false) fl) al la _ a2 z.w e3 b7 ?_
     refine m1 z z a2 r2 (.refl z) (PX z) r2 (by rw [m2,k2]; exact hzH) (by rw [m3,k3]; exact hzn) (by rw [m4,m5]) m7 _ _ fun s3 a3 y3 t1 t2 t3 t4 t5 t6 t7 t8 t9=>⟨rfl,?_⟩
     exact t1 c0 a3 y3.w ⟨_,t8.trans (m6.trans (k6.trans hdef)),by rw [t7,t6],y3,rfl,(hle.trans r1).trans t2,t3,t4,t5,t9⟩ _ fun s'' a'' w'' j1 j2=>⟨rfl,s'',j1,j2⟩)
 grind
end
section
variable {P:Program} {o:Oper} {R:AU} {h:AN} {n:Nat}
theorem SC {t e:TypeId} {sz by_ len:Nat} {parts:Array (Nat × Operand)} (id:Nat) {rows:List (List RV)} (ho:o.op = .buildSlice t len parts) (ht:A7 P t e sz by_)
  (hp:GM true R 0 parts.toList rows) (hlen:rows.length=len) (hrow : ∀ row∈rows,row.length=sz) (hsmall:Nat.ble (len * sz) 16777216=true) :
  ON P o R h n (.own id n) ((id,some (.arr n e sz rows)) :: h) (n+1):=by
 intro z w hok hH hn he K Q hK
 have hc:true=true:=rfl
 obtain ⟨ht1,ii,zv,hi,hisz,_,hz,hzs,_,h0⟩:=ht
 have hsm:len * sz≤16777216:=Nat.le_of_ble_eq_true hsmall
 have hlm:len≤len * sz:=Nat.le_mul_of_pos_right _ h0
 obtain ⟨hpl,hpg⟩:=hp.get
 have hinit : ∃ init:Array Value,init.size=len * sz ∧ ∀ W,(Instr.buildSlice t len (parts.map fun (i,x)=>(i,w.eval x))).run P W =
   match Instr.fill (fun i=>some (i * sz,sz)) init (parts.toList.map fun (i,x)=>(i,w.eval x)) with
   | some cells=>.ok (.slice (some ⟨W.heap.size,0,none⟩) len len) (W.alloc (.cells cells e))
   | none => .halt (.stuck "buildSlice: a part of the wrong size") W := by
  refine ⟨(Array.range (len * sz)).map (fun i=>(if len * sz=0 then #[] else zv.cells)[i % (if len * sz=0 then #[] else zv.cells).size]!),by simp,fun W=>?_⟩
  have hnot : ¬ 2 ^ 24<len * sz:=by omega
  by_cases hl0:len * sz=0
  ·simp only [Instr.buildSlice,Sem.run_bind,run_underlying ht1,Result.andThen_ok,C4 hi,hisz,hl0]
   simp
   split <;> simp_all [newRow,Instr.fill]
  ·simp only [Instr.buildSlice,Sem.run_bind,run_underlying ht1,Result.andThen_ok,C4 hi,hisz]
   simp only [hnot,hl0,zeroValue,typeInfo,if_false,Sem.run_bind,run_program,Result.andThen_ok,hi,hz,Sem.run_pure,Array.toList_map]
   generalize Instr.fill _ _ _=r
   cases r <;> simp [newRow]
 obtain ⟨init,hisize,hrun⟩:=hinit
 obtain ⟨us',f1,f2,_,f4⟩:=Nk sz (parts.toList.map fun (i,x)=>(i,w.eval x)) 0 init (fun j p hj=>by
  simp only [List.getElem?_map,Option.map_eq_some_iff] at hj
  obtain ⟨q,hq,rfl⟩:=hj
  obtain ⟨h1,row,a,h2,h3,h4⟩:=hpg j q hq
  refine ⟨by simpa using h1,?_⟩
  rw [(JI h4 (h3.rep he hc)).1]
  exact hrow row (List.mem_of_getElem? h2)) (by rw [hisize]; simp only [List.length_map,hpl,hlen,Nat.zero_add]; exact Nat.le_refl _)
 obtain ⟨y,k1,k2,k3,k4,k5,k6⟩:=OH hok id e sz rows us' h0 hrow (by rw [f2,hisize,hlen]) (by unfold maxLen; omega) (fun i row k d h1 h2=>by
  have hi':i<parts.toList.length:=by rw [hpl]; exact (List.getElem?_eq_some_iff.1 h1).1
  obtain ⟨_,row',a,h3,h4,h5⟩:=hpg i _ (List.getElem?_eq_getElem hi')
  rw [h1] at h3; cases h3
  obtain ⟨u,h6,h7⟩:=(JI h5 (h4.rep he hc)).2 k d h2
  refine ⟨u,?_,h7⟩
  have hk:k<sz:=by rw [← hrow row (List.mem_of_getElem? h1)]; exact (List.getElem?_eq_some_iff.1 h2).1
  have:=f4 i (parts.toList[i].1,w.eval parts.toList[i].2) k (by simp [List.getElem?_map,List.getElem?_eq_getElem hi']) hk
  rw [Nat.zero_add] at this
  rw [this]; exact h6)
 unfold Oper.wp execOp
 simp only [ho,Sem.run_bind,hrun,f1,Result.andThen_ok,Sem.run_pure]
 have:=hK _ y k1 k2 (by rw [k4,hH,hn,CS]) (by rw [k5,hn]) (by rw [← hn]; exact k6) (fun b hb=>by rw [k3]; exact heap_alloc_old _ _ hb)
 rw [k3,hlen] at this
 exact this
theorem SB {α:Type} {f:α→List RV} {t e:TypeId} {sz by_ len:Nat} {parts:Array (Nat × Operand)} (id:Nat) {l:List α} (ho:o.op = .buildSlice t len parts) (ht:A7 P t e sz by_)
  (hp:GM true R 0 parts.toList (l.map f)) (hlen:l.length=len) (hrow : ∀ a,(f a).length=sz) (hsmall:Nat.ble (len * sz) 16777216=true) :
  ON P o R h n (.own id n) ((id,some (.arr n e sz (l.map f))) :: h) (n+1):=
 SC id ho ht hp (by rw [List.length_map]; exact hlen) (fun row hr=>by obtain ⟨a,_,rfl⟩:=List.mem_map.1 hr; exact hrow a) hsmall
end
end Go.Proofs.YtioekebmplhlmaaGreatDoor.Al
namespace Go.Proofs.YtioekebmplhlmaaGreatDoor.Al
def pick (l:List Oper):List Nat→List Oper
 | []=>[]
 | i :: is=>match l[i]? with
  | some o=>o :: pick l is
  | none=>pick l is
theorem N7 {l:List Oper} {is:List Nat} (h:(is.all fun i=>Nat.blt i l.length)=true):is.map (fun i=>l.toArray[i]?)=(pick l is).map some:=by
 induction is with
 | nil=>rfl
 | cons i is ih=>
  simp only [List.all_cons,Bool.and_eq_true] at h
  have hi:=E7 h.1
  rw [List.map_cons,ih h.2,pick,List.getElem?_eq_getElem hi]
  simp [hi]
theorem YD {P:Program} {s:St} {id:Nat} {l:List Oper} {Q:Exit→St→Prop} (fl hq al:List Nat) (n:Nat) {lf lh la lt:List Oper} (hm:P.follows .mixedOrders=true) (hB:N3 l.toArray fl hq al n=true)
  (hi:((fl++hq++al).all fun i=>Nat.blt i l.length)=true) (e1:pick l fl=lf) (e2:pick l hq=lh) (e3:pick l al=la) (e4:l.drop n=lt)
  (h:E8 P l.toArray lf s fun s1=>AF P l.toArray lh s1 fun s2=>AA P l.toArray la s2 fun s3=>AK P l.toArray lt s3 (Q .normal)):AW P (.region id l.toArray true) Q s:=by
 subst e1; subst e2; subst e3
 simp only [List.all_append,Bool.and_eq_true] at hi
 exact YJ fl hq al n hm hB (N7 hi.1.1) (N7 hi.1.2) (N7 hi.2) e4 h
theorem RX {P:Program} {ops:Array Oper} {rest:List Oper} {s:St} {K:St→Prop} {o:Oper} {d:Nat} {c:Bool} {f:FuncId} {fo:Operand} {xs:Array Operand} {ats:Array TypeId} {caps bs:List AV} (hG:CW s.e ops o c) (hc1:c=true) (L:List Nat) {hc:AN} {F:(Nat→Nat)→AV} {G:(Nat→Nat)→AN} (hd:o.dst=some d) (hN:Nat.blt d s.N=true)
  (ho:o.op = .call { callee:=.value fo,args:=xs,argTypes:=ats }) (hfo:Ev true s.e fo (.fn f (Cv L caps))) (hcc:ED L.length caps=true) (hx:GD s.e L xs.toList bs) (hsh:EM s.h L hc) (hnd:L.Nodup)
  (hcon:A1 P f L.length (bs++caps) hc (fun r h'=>∃ i,r=F i∧h'=G i))
  (hr : ∀ i n',AK P ops rest { e:=(d,ren L (F i)) :: s.e,h:=DM L (G i) 1000 L++s.h,n:=n',N:=s.N } K):AK P ops (o :: rest) s K:=by
 intro c0 a w ⟨_,hdef,hsz,y,hyw,hle,hok,hH,hn,he⟩ Q hQ
 subst hyw
 refine wpList_step fun K' hK'=>?_
 rw [hG.wanted he,if_pos hc1]
 refine Ny ho hfo hcc hx hsh hnd hcon hok hH he K' Q fun u z r h' hyz hzok hzH hzv hpost=>?_
 obtain ⟨i,rfl,rfl⟩:=hpost
 refine hK' _ _ ?_
 have hN':d<a.tmps.size:=by rw [hsz]; exact E7 hN
 rw [hd]
 exact hr i z.n c0 (a.put (some d) u) z.w ⟨_,hdef,by simpa [Act.put] using hsz,z,rfl,hle.trans hyz,hzok,hzH,rfl,(he.mono hyz).put hN' hzv⟩ Q hQ
end Go.Proofs.YtioekebmplhlmaaGreatDoor.Al
namespace Go.Proofs.YtioekebmplhlmaaGreatDoor.Al
section
variable {P:Program} {o:Oper} {R:AU} {h:AN} {n:Nat}
end
structure PO where
 d:Option Nat
 v:(Nat→Nat)→AV
 hp:Option (Nat × ((Nat→Nat)→Option AT))
 dep:List Nat
def PO.wE (p:PO):Option (Nat × ((Nat→Nat)→AV)):=match p.d with | some d=>some (d,p.v) | none=>none
def PO.wH (p:PO):Option (Nat × ((Nat→Nat)→Option AT)):=p.hp
section
variable {α:Type} (wr:PO→Option (Nat × ((Nat→Nat)→α))) (D:Nat→Bool) (G:Nat→Nat)
def CJ:List (Nat × α)→List PO→Nat→List (Nat × α)
 | e,[],_=>e
 | e,p :: L,k=>match D k with
  | true=>match wr p with
   | some (d,v)=>CJ ((d,v G) :: e) L (k+1)
   | none=>CJ e L (k+1)
  | false=>CJ e L (k+1)
def Ei (t:Nat) (L:List PO) (k:Nat):Prop:=∀ (j:Nat) (p:PO) v,L[j]? = some p→D (k+j)=true→wr p≠some (t,v)
end
theorem Ei.tail {α:Type} {wr:PO→Option (Nat × ((Nat→Nat)→α))} {D:Nat→Bool} {t:Nat} {p:PO} {L:List PO} {k:Nat} (h:Ei wr D t (p :: L) k):Ei wr D t L (k+1):=
 fun j q v h1 h2=>h (j+1) q v (by simpa using h1) (by rwa [show k+(j+1)=k+1+j by omega])
section
variable {α:Type} {wr:PO→Option (Nat × ((Nat→Nat)→α))} {D:Nat→Bool} {G:Nat→Nat} {lk:List (Nat × α)→Nat→α} (hlk : ∀ d v R t,lk ((d,v) :: R) t=if d=t then v else lk R t)
include hlk
theorem Di {t:Nat} : ∀ (L:List PO) (e:List (Nat × α)) (k:Nat),Ei wr D t L k→lk (CJ wr D G e L k) t=lk e t
 | [],_,_,_=>rfl
 | p :: L,e,k,h=>by
  unfold CJ
  cases hD:D k with
  | false=>exact Di L e (k+1) h.tail
  | true=>
   cases hw:wr p with
   | none=>exact Di L e (k+1) h.tail
   | some q=>
    obtain ⟨d,v⟩:=q
    have hdt:d≠t:=fun e=>h 0 p v rfl hD (by rw [hw,e])
    exact (Di L _ (k+1) h.tail).trans (by rw [hlk,if_neg hdt])
theorem Gk {t:Nat} {p:PO} {v:(Nat→Nat)→α} (hw:wr p=some (t,v)) : ∀ (L:List PO) (e:List (Nat × α)) (k j:Nat),L[j]? = some p→D (k+j)=true→Ei wr D t (L.drop (j+1)) (k+j+1)→lk (CJ wr D G e L k) t=v G
 | [],_,_,_,h,_,_=>by simp at h
 | q :: L,e,k,0,h1,h2,h3=>by
  cases h1
  unfold CJ
  rw [show D k=true from h2,hw]
  exact (Di hlk L _ (k+1) (by simpa using h3)).trans (by rw [hlk,if_pos rfl])
 | q :: L,e,k,j+1,h1,h2,h3=>by
  have h1':L[j]? = some p:=by simpa using h1
  have h2':D (k+1+j)=true:=by rwa [show k+1+j=k+(j+1) by omega]
  have h3':Ei wr D t (L.drop (j+1)) (k+1+j+1):=by rw [show k+1+j+1=k+(j+1)+1 by omega]; simpa using h3
  unfold CJ
  cases D k with
  | false=>exact Gk hw L e (k+1) j h1' h2' h3'
  | true=>
   cases wr q with
   | none=>exact Gk hw L e (k+1) j h1' h2' h3'
   | some r=>exact Gk hw L _ (k+1) j h1' h2' h3'
theorem FC {t:Nat} {D':Nat→Bool} {G':Nat→Nat} : ∀ (L:List PO) (e e':List (Nat × α)) (k:Nat),lk e' t=lk e t →
  (∀ (j:Nat) (p:PO) v,L[j]? = some p→wr p=some (t,v)→D' (k+j)=D (k+j)∧(D (k+j)=true→v G'=v G))→lk (CJ wr D' G' e' L k) t=lk (CJ wr D G e L k) t
 | [],_,_,_,h,_=>h
 | p :: L,e,e',k,h,hw=>by
  have ht : ∀ (j:Nat) (q:PO) v,L[j]? = some q→wr q=some (t,v)→D' (k+1+j)=D (k+1+j)∧(D (k+1+j)=true→v G'=v G):=fun j q v h1 h2=>by
   have:=hw (j+1) q v (by simpa using h1) h2
   rwa [show k+(j+1)=k+1+j by omega] at this
  unfold CJ
  cases hp:wr p with
  | none=>
   have ih:=FC L e e' (k+1) h ht
   cases D' k <;> cases D k <;> exact ih
  | some q=>
   obtain ⟨d,v⟩:=q
   by_cases hdt:d=t
   ·subst hdt
    obtain ⟨h1,h2⟩:=hw 0 p v rfl hp
    rw [Nat.add_zero] at h1 h2
    rw [h1]
    cases hD:D k with
    | false=>exact FC L e e' (k+1) h ht
    | true=>exact FC L _ _ (k+1) (by rw [hlk,hlk,if_pos rfl,if_pos rfl,h2 hD]) ht
   ·have e1:lk ((d,v G') :: e') t=lk e' t:=by rw [hlk,if_neg hdt]
    have e2:lk ((d,v G) :: e) t=lk e t:=by rw [hlk,if_neg hdt]
    cases D' k <;> cases D k
    ·exact FC L _ _ (k+1) h ht
    ·exact FC L _ _ (k+1) (by rw [e2]; exact h) ht
    ·exact FC L _ _ (k+1) (by rw [e1]; exact h) ht
    ·exact FC L _ _ (k+1) (by rw [e1,e2]; exact h) ht
end
abbrev BU (D:Nat→Bool) (G:Nat→Nat) (e:AU) (L:List PO):AU:=CJ PO.wE D G e L 0
abbrev Bo (D:Nat→Bool) (G:Nat→Nat) (h:AN) (L:List PO):AN:=CJ PO.wH D G h L 0
def BW (G:Nat→Nat) (i n:Nat):Nat→Nat:=fun k=>if k=i then n else G k
section
variable {P:Program} {ops:Array Oper}
def wt (ops:Array Oper):Nat→Nat→Nat→Bool
 | 0,_,_=>false
 | f+1,j,i=>Region.waitsFor .any ops j i || (List.range j).any fun m=>Region.waitsFor .any ops j m && wt ops f m i
def Cl (ops:Array Oper) (D:Nat→Bool):Prop:=∀ j k,D j=true→Region.waitsFor .any ops j k=true→D k=true
theorem Cl.wt {D:Nat→Bool} (h:Cl ops D) : ∀ (f j i:Nat),Al.wt ops f j i=true→D j=true→D i=true
 | 0,_,_,h1,_=>by cases h1
 | f+1,j,i,h1,h2=>by
  unfold Al.wt at h1
  rw [Bool.or_eq_true] at h1
  rcases h1 with h1 | h1
  ·exact h j i h2 h1
  ·obtain ⟨m,_,h3⟩:=List.any_eq_true.1 h1
   rw [Bool.and_eq_true] at h3
   exact h.wt f m i h3.2 (h j m h2 h3.1)
structure A9 (ops:Array Oper) (D:Nat→Bool) (i:Nat):Prop where
 cl:Cl ops D
 hw : ∀ k,Region.waitsFor .any ops i k=true→D k=true
 un:D i=false
theorem A9.yes {D:Nat→Bool} {i:Nat} (h:A9 ops D i) {k:Nat} (hk:Al.wt ops 40 i k=true):D k=true:=by
 unfold Al.wt at hk
 rw [Bool.or_eq_true] at hk
 rcases hk with hk | hk
 ·exact h.hw k hk
 ·obtain ⟨m,_,h3⟩:=List.any_eq_true.1 hk
  rw [Bool.and_eq_true] at h3
  exact h.cl.wt 39 m k h3.2 (h.hw m h3.1)
theorem A9.no {D:Nat→Bool} {i:Nat} (h:A9 ops D i) {k:Nat} (hk:Al.wt ops 40 k i=true):D k=false:=by
 cases hD:D k with
 | false=>rfl
 | true=>have:=h.cl.wt 40 k i hk hD; rw [h.un] at this; cases this
def Dc (c0:Cx) (s:St) (L:List PO) (listed:Array Bool) (a:Act) (w:World):Prop:=
 ∃ ds,a.defers=ds∧a.tmps.size=s.N ∧ ∃ (y:Cx) (G:Nat→Nat),y.w=w∧c0.leM ds y∧y.ok∧(∀ id,y.H id=hget (Bo (fun k=>listed.getD k false) G s.h L) id) ∧
  (∀ t,AR y (get (BU (fun k=>listed.getD k false) G s.e L) t) (a.tmps.getD t undef))
def ET (P:Program) (o:Oper) (R:AU) (h:AN) (n:Nat) (v:AV) (h':AN):Prop:=
 ∀ (x:Cx) (a:Act),x.ok→x.H=hget h→x.n=n→BN x R a → ∀ (K:Act→World→Prop) (Q:Exit→Act→World→Prop),
  (∀ (u:Value) (y:Cx),x.le y→y.ok→y.H=hget h'→AR y v u→K (a.put o.dst u) y.w)→o.wp P a x.w K Q
theorem BC.toN {o:Oper} {R:AU} {h:AN} {n:Nat} {v:AV} {h':AN} {n':Nat} (hs:BC P true o R h n v h' n'):ET P o R h n v h':=
 fun x a h1 h2 h3 h4 K Q hK=>hs rfl x a h1 h2 h3 h4 K Q fun u y k1 k2 k3 _ k5=>hK u y k1 k2 k3 k5
def G0 (P:Program) (o:Oper) (R:AU) (h:AN) (n:Nat) (v:Nat→AV) (h':Nat→AN):Prop:=
 ∀ (x:Cx) (a:Act),x.ok→x.H=hget h→x.n=n→BN x R a → ∀ (K:Act→World→Prop) (Q:Exit→Act→World→Prop),
  (∀ (u:Value) (y:Cx) (m:Nat),x.le y→y.ok→y.H=hget (h' m)→AR y (v m) u→K (a.put o.dst u) y.w)→o.wp P a x.w K Q
theorem RY {o:Oper} {R:AU} {h:AN} {n:Nat} {v:Nat→AV} {h':Nat→AN} (hs:ET P o R h n (v n) (h' n)):G0 P o R h n v h':=
 fun x a h1 h2 h3 h4 K Q hK=>hs x a h1 h2 h3 h4 K Q fun u y k1 k2 k3 k4=>hK u y n k1 k2 k3 k4
theorem CW.same {R R':AU} {o:Oper} {c:Bool} (h:CW R ops o c) (hR : ∀ t,get R' t=get R t):CW R' ops o c:=by
 cases h with
 | one hg hj hb=>exact .one hg hj ((hR _).trans hb)
 | two hg hj hb=>exact .two hg hj ((hR _).trans hb)
def Ob (P:Program) (ops:Array Oper) (s:St) (L:List PO) (i:Nat) (p:PO) (o:Oper):Prop:=
 o.dst=p.d∧(∀ d,p.d=some d→Nat.blt d s.N=true) ∧ ∀ (D:Nat→Bool) (G:Nat→Nat) (e:AU) (h:AN) (n:Nat),A9 ops D i →
  (∀ t,get e t=get (BU D G s.e L) t)→(∀ id,hget h id=hget (Bo D G s.h L) id) →
  (o.guard=none ∧ ∃ h':Nat→AN,G0 P o e h n (fun m=>p.v (BW G i m)) h'∧(∀ m id,hget (h' m) id=match p.hp with | some (j,ob)=>if j=id then ob (BW G i m) else hget h id | none=>hget h id)) ∨
  (p.hp=none ∧ ∃ c v0,p.v (BW G i n) = .whn c v0∧CW e ops o c∧(c=true → ∃ h2,ET P o e h n v0 h2 ∧ ∀ id,hget h2 id=hget h id))
def Gn (L:List PO) (t:Nat):Bool:=L.all fun p=>match p.d with | some d=>!Nat.beq d t | none=>true
def NF (L:List PO) (t:Nat):Bool:=L.all fun p=>match p.hp with | some (d,_)=>!Nat.beq d t | none=>true
def EZ:List PO→Bool
 | []=>true
 | p :: L=>(match p.d with | some d=>Gn L d | none=>true) && EZ L
def Fj (ops:Array Oper) (L:List PO):Bool:=(List.range L.length).all fun j=>(List.range j).all fun i=>match L[i]?.bind (·.hp),L[j]?.bind (·.hp) with
 | some (a,_),some (b,_)=>!Nat.beq a b || wt ops 40 j i
 | _,_=>true
theorem TE {L:List PO} {t:Nat} (h:Gn L t=true) {j:Nat} {p:PO} (hj:L[j]? = some p):p.d≠some t:=fun hd=>by
 have:=List.all_eq_true.1 h p (List.mem_of_getElem? hj)
 simp_all
theorem Ts {L:List PO} {t:Nat} (h:NF L t=true) {j:Nat} {p:PO} (hj:L[j]? = some p) : ∀ ob,p.hp≠some (t,ob):=fun ob hd=>by
 have:=List.all_eq_true.1 h p (List.mem_of_getElem? hj)
 simp_all
theorem OO {p:PO} {t:Nat} {v} (h:p.wE=some (t,v)):p.d=some t∧v=p.v:=by grind [PO.wE]
theorem Ol {p:PO} {t:Nat} (h:p.d=some t):p.wE=some (t,p.v):=by unfold PO.wE; rw [h]
theorem Ka {p:PO} {t:Nat} {v} (h:p.wH=some (t,v)) : ∃ ob,p.hp=some (t,ob)∧v=ob:=⟨v,h,rfl⟩
theorem O1 {p:PO} {t:Nat} {ob} (h:p.hp=some (t,ob)):p.wH=some (t,ob):=h
theorem Q5 : ∀ {L:List PO},EZ L=true → ∀ {j:Nat} {p:PO} {t:Nat},L[j]? = some p→p.d=some t→Gn (L.drop (j+1)) t=true
 | [],_,_,_,_,h,_=>by simp at h
 | q :: L,h,0,p,t,h1,h2=>by
  cases h1
  simp only [EZ,Bool.and_eq_true,h2] at h
  simpa using h.1
 | q :: L,h,j+1,p,t,h1,h2=>by
  simp only [EZ,Bool.and_eq_true] at h
  simpa using Q5 h.2 (j:=j) (by simpa using h1) h2
theorem Nj {L:List PO} {t:Nat} (h:Gn L t=true) {D:Nat→Bool} {k:Nat} : Ei PO.wE D t L k:=fun _ _ _ h1 _ h3=>TE h h1 (OO h3).1
theorem VZ {L:List PO} {t:Nat} (h:NF L t=true) {D:Nat→Bool} {k:Nat} : Ei PO.wH D t L k:=fun _ _ _ h1 _ h3=>by obtain ⟨ob,h4,_⟩:=Ka h3; exact Ts h h1 ob h4
theorem Sb {L:List PO} (hB:Fj ops L=true) {D:Nat→Bool} (hcl:Cl ops D) {i:Nat} {p:PO} {t:Nat} {ob} (hp:L[i]? = some p) (ht:p.hp=some (t,ob)) (hun:D i=false):Ei PO.wH D t (L.drop (i+1)) (i+1):=by
 intro j q v h1 h2 h3
 obtain ⟨V6,h4,_⟩:=Ka h3
 rw [List.getElem?_drop] at h1
 have hlt:i+1+j<L.length:=(List.getElem?_eq_some_iff.1 h1).1
 have:=List.all_eq_true.1 (List.all_eq_true.1 hB (i+1+j) (List.mem_range.2 hlt)) i (List.mem_range.2 (by omega))
 simp only [hp,h1,Option.bind_some,ht,h4,Bool.or_eq_true,Bool.not_eq_true'] at this
 rcases this with h5 | h5
 ·simp at h5
 ·have:=hcl.wt 40 _ _ h5 h2
  grind
def F3 (ops:Array Oper) (L:List PO):Bool:=(List.range L.length).all fun j=>match L[j]? with
 | some p=>p.dep.all fun k=>Nat.beq k j || wt ops 40 j k
 | none=>true
def Dt:List PO→Prop
 | []=>True
 | p :: L=>(∀ G G':Nat→Nat,(∀ k,p.dep.contains k=true→G k=G' k)→p.v G'=p.v G ∧ ∀ id ob,p.hp=some (id,ob)→ob G'=ob G)∧Dt L
theorem Dt.at : ∀ {L:List PO},Dt L → ∀ {j:Nat} {p:PO},L[j]? = some p → ∀ G G':Nat→Nat,(∀ k,p.dep.contains k=true→G k=G' k)→p.v G'=p.v G ∧ ∀ id ob,p.hp=some (id,ob)→ob G'=ob G
 | _ :: _,h,0,_,hj=>by cases hj; exact h.1
 | _ :: _,h,j+1,_,hj=>Dt.at h.2 (j:=j) (by simpa using hj)
theorem XO {L:List PO} (hB:F3 ops L=true) {D:Nat→Bool} (hcl:Cl ops D) {j:Nat} {p:PO} (hp:L[j]? = some p) (hl:D j=true) {k:Nat} (hk:p.dep.contains k=true):D k=true:=by
 have hlt:j<L.length:=(List.getElem?_eq_some_iff.1 hp).1
 have h1:=List.all_eq_true.1 hB j (List.mem_range.2 hlt)
 simp only [hp] at h1
 have h2:=List.all_eq_true.1 h1 k (by simpa using hk)
 simp only [Bool.or_eq_true] at h2
 rcases h2 with h2 | h2
 ·simp_all
 ·exact hcl.wt 40 _ _ h2 hl
theorem Dc.put (m:Nat) {c0:Cx} {s:St} {L:List PO} {listed:Array Bool} {a:Act} {i:Nat} {p:PO} {y z:Cx} {G:Nat→Nat} {u:Value} (hp:L[i]? = some p) (hN : ∀ d,p.d=some d→Nat.blt d s.N=true) (hE:EZ L=true) (hH:Fj ops L=true)
  (hD:F3 ops L=true) (hLoc:Dt L) (hi:i<listed.size) (hr:A9 ops (fun k=>listed.getD k false) i) {ds:List Deferred} (hdef:a.defers=ds) (hsz:a.tmps.size=s.N) (hle:c0.leM ds y)
  (he : ∀ t,AR y (get (BU (fun k=>listed.getD k false) G s.e L) t) (a.tmps.getD t undef)) (hyz:y.le z) (hzok:z.ok)
  (hzH : ∀ id,z.H id=match p.hp with | some (j,ob)=>if j=id then ob (BW G i m) else hget (Bo (fun k=>listed.getD k false) G s.h L) id | none=>hget (Bo (fun k=>listed.getD k false) G s.h L) id)
  (hv:AR z (p.v (BW G i m)) u):Dc c0 s L (listed.setIfInBounds i true) (a.put p.d u) z.w:=by
 have hD' : ∀ k,(listed.setIfInBounds i true).getD k false=(listed.getD k false || decide (k=i)):=fun k=>by
  by_cases hk:i=k
  ·simp_all
  ·rw [getD_set_ne false hk]; simp [Ne.symm hk]
 have hsame : ∀ k,k≠i→(listed.setIfInBounds i true).getD k false=listed.getD k false:=fun k hk=>by rw [hD']; simp [hk]
 have hval : ∀ (j:Nat) (q:PO),L[j]? = some q→listed.getD j false=true→q.v (BW G i m)=q.v G ∧ ∀ id ob,q.hp=some (id,ob)→ob (BW G i m)=ob G:=fun j q hj hl=>by
  refine hLoc.at hj G _ fun k hk=>?_
  have hlk:=XO hD hr.cl hj hl hk
  have:k≠i:=fun e=>by subst e; rw [hr.un] at hlk; cases hlk
  simp [BW,this]
 have hdi:(fun k=>(listed.setIfInBounds i true).getD k false) (0+i)=true:=by grind
 refine ⟨ds,by cases hdd:p.d <;> simpa [Act.put,hdd] using hdef,?_,z,BW G i m,rfl,hle.trans hyz,hzok,fun id=>?_,fun t=>?_⟩
 ·cases hdd:p.d <;> simpa [Act.put,hdd] using hsz
 ·rw [hzH]
  have rest:(∀ ob,p.hp≠some (id,ob))→hget (Bo (fun k=>listed.getD k false) G s.h L) id=hget (Bo (fun k=>(listed.setIfInBounds i true).getD k false) (BW G i m) s.h L) id:=fun hne=>by
   refine (FC Bb L _ _ 0 rfl fun j q v h1 h2=>?_).symm
   grind [Ka]
  cases hhp:p.hp with
  | none=>grind
  | some r=>
   obtain ⟨j,ob⟩:=r
   by_cases hj:j=id
   ·subst hj
    simp only [if_true]
    have hlater:=Sb hH hr.cl hp hhp hr.un
    refine (Gk Bb (O1 hhp) L _ 0 i hp hdi ?_).symm
    rw [Nat.zero_add]
    intro m q v h1 h2 h3
    exact hlater m q v h1 ((hsame _ (by omega)).symm.trans h2) h3
   ·grind
 ·by_cases hpt:p.d=some t
  ·have e1:get (BU (fun k=>(listed.setIfInBounds i true).getD k false) (BW G i m) s.e L) t=p.v (BW G i m):=
    Gk C3 (Ol hpt) L _ 0 i hp hdi (Nj (Q5 hE hp hpt))
   have hN':t<a.tmps.size:=by simp_all
   rw [e1,hpt]
   simp only [Act.put,N5 hN',if_true]
   exact hv
  ·have e1:get (BU (fun k=>(listed.setIfInBounds i true).getD k false) (BW G i m) s.e L) t=get (BU (fun k=>listed.getD k false) G s.e L) t:=by
    refine FC C3 L _ _ 0 rfl fun j q v h1 h2=>?_
    obtain ⟨h4,h5⟩:=OO h2
    grind
   rw [e1]
   have h0:=(he t).mono hyz
   cases hdd:p.d with
   | none=>exact h0
   | some d=>
    have hdt:d≠t:=fun e=>hpt (by rw [hdd,e])
    have hN':d<a.tmps.size:=by simp_all
    simp only [Act.put,N5 hN',if_neg hdt]
    exact h0
theorem Dc.step {c0:Cx} {s:St} {L:List PO} {listed:Array Bool} {a:Act} {w:World} {i:Nat} {p:PO} {o:Oper} {Q:Exit→Act→World→Prop} (hp:L[i]? = some p) (ho:ops[i]? = some o) (hOb:Ob P ops s L i p o) (hE:EZ L=true) (hH:Fj ops L=true)
  (hD:F3 ops L=true) (hLoc:Dt L) (hi:i<listed.size) (hr:A9 ops (fun k=>listed.getD k false) i) (hinv:Dc c0 s L listed a w) :
  wpOp P ops Q i (Dc c0 s L (listed.setIfInBounds i true)) a w:=by
 obtain ⟨_,hdef,hsz,y,G,hyw,hle,hok,hyH,he⟩:=hinv
 subst hyw
 obtain ⟨hd,hN,hob⟩:=hOb
 unfold wpOp
 simp only [ho]
 rcases hob (fun k=>listed.getD k false) G _ _ y.n hr (fun t=>rfl) (fun id=>rfl) with ⟨hg,h',hspec,hh'⟩ | ⟨hhp,c,v0,hv0,hG,hspec⟩
 ·rw [if_pos (by simp [Region.wanted,hg])]
  refine .inl (hspec y a hok (funext fun id=>hyH id) rfl (fun t=>he t) _ Q fun u z m hyz hzok hzH hv=>?_)
  rw [hd]
  exact Dc.put m hp hN hE hH hD hLoc hi hr hdef hsz hle he hyz hzok (fun id=>by rw [hzH]; exact hh' m id) hv
 ·have hw:Region.wanted o (yielded ops a.tmps)=c:=CW.wanted (s:=⟨_,[],0,0⟩) hG (fun t=>he t)
  rw [hw]
  cases c with
  | true=>
   obtain ⟨h2,hs2,hh2⟩:=hspec rfl
   rw [if_pos rfl]
   refine .inl (hs2 y a hok (funext fun id=>hyH id) rfl (fun t=>he t) _ Q fun u z hyz hzok hzH hv=>?_)
   rw [hd]
   refine Dc.put y.n hp hN hE hH hD hLoc hi hr hdef hsz hle he hyz hzok (fun id=>by rw [hzH,hhp]; exact hh2 id) ?_
   rw [hv0]; exact .whn (fun _=>hv) (fun h=>by cases h)
  | false=>
   rw [if_neg (by decide),hd]
   refine Dc.put y.n hp hN hE hH hD hLoc hi hr hdef hsz hle he (.refl y) hok (fun id=>by rw [hhp]; exact hyH id) ?_
   rw [hv0]; exact .whn (fun h=>by cases h) (fun _=>rfl)
def DR (e:AU):AU→Prop
 | []=>True
 | (t,a) :: r=>get e t=a∧DR e r
def DN (e:AN):AN→Prop
 | []=>True
 | (t,a) :: r=>hget e t=a∧DN e r
theorem IU {e0 e:AU} (he : ∀ t,get e t=get e0 t) : ∀ (r:AU),DR e0 r → ∀ t,get (r++e) t=get e0 t
 | [],_,t=>he t
 | (t0,a) :: r,⟨h1,h2⟩,t=>by
  rw [List.cons_append,C3]
  split
  ·rename_i ht; subst ht; exact h1.symm
  ·exact IU he r h2 t
theorem KL {e0 e:AN} (he : ∀ t,hget e t=hget e0 t) : ∀ (r:AN),DN e0 r → ∀ t,hget (r++e) t=hget e0 t
 | [],_,t=>he t
 | (t0,a) :: r,⟨h1,h2⟩,t=>by
  rw [List.cons_append,Bb]
  split
  ·rename_i ht; subst ht; exact h1.symm
  ·exact KL he r h2 t
theorem ET.same {o:Oper} {R R':AU} {h h':AN} {n:Nat} {v:AV} {h2:AN} (hs:ET P o R h n v h2) (hR : ∀ t,get R' t=get R t) (hh : ∀ id,hget h' id=hget h id):ET P o R' h' n v h2:=by
 intro x a hok hH hn he K Q hK
 exact hs x a hok (by rw [hH]; exact funext hh) hn (fun t=>by rw [← hR]; exact he t) K Q hK
theorem YQ {s:St} {L:List PO} {i:Nat} {p:PO} {o:Oper} (hg:o.guard=none) (hd:o.dst=p.d) (hN : ∀ d,p.d=some d→Nat.blt d s.N=true) (hp:p.hp=none) (ie:(Nat→Nat)→AU) (ih:(Nat→Nat)→AN)
  (hE : ∀ D G,A9 ops D i→DR (BU D G s.e L) (ie G)) (hH : ∀ D G,A9 ops D i→DN (Bo D G s.h L) (ih G))
  (hv : ∀ G n,p.v (BW G i n)=p.v G) (h : ∀ G e h' n,∃ h2,ET P o (ie G++e) (ih G++h') n (p.v G) h2 ∧ ∀ id,hget h2 id=hget (ih G++h') id):Ob P ops s L i p o:=by
 refine ⟨hd,hN,fun D G e h' n hr he hh=>.inl ⟨hg,?_⟩⟩
 have g1:=IU he _ (hE D G hr)
 have g2:=KL hh _ (hH D G hr)
 obtain ⟨h2,k1,k2⟩:=h G e h' n
 exact ⟨fun _=>h2,RY (by rw [hv]; exact k1.same (fun t=>by rw [g1,he]) (fun id=>by rw [g2,hh])),fun _ id=>by rw [hp,k2,g2,hh]⟩
theorem Mj {s:St} {L:List PO} {i:Nat} {p:PO} {o:Oper} {n1:Nat→Nat} (hg:o.guard=none) (hd:o.dst=p.d) (hN : ∀ d,p.d=some d→Nat.blt d s.N=true) (hp:p.hp=none) (ie:(Nat→Nat)→AU) (ih:(Nat→Nat)→AN)
  (hE : ∀ D G,A9 ops D i→DR (BU D G s.e L) (ie G)) (hH : ∀ D G,A9 ops D i→DN (Bo D G s.h L) (ih G))
  (hv : ∀ G n,p.v (BW G i n)=p.v G) (h : ∀ G e h' n,BC P true o (ie G++e) (ih G++h') n (p.v G) (ih G++h') (n1 n)):Ob P ops s L i p o:=
 YQ hg hd hN hp ie ih hE hH hv fun G e h' n=>⟨_,(h G e h' n).toN,fun _=>rfl⟩
theorem Rb {s:St} {L:List PO} {i:Nat} {p:PO} {o:Oper} {c:Bool} {v0:(Nat→Nat)→AV} {n1:Nat→Nat} (hd:o.dst=p.d) (hN : ∀ d,p.d=some d→Nat.blt d s.N=true) (hp:p.hp=none) (ie:(Nat→Nat)→AU) (ih:(Nat→Nat)→AN)
  (hE : ∀ D G,A9 ops D i→DR (BU D G s.e L) (ie G)) (hH : ∀ D G,A9 ops D i→DN (Bo D G s.h L) (ih G))
  (hv : ∀ G n,p.v (BW G i n) = .whn c (v0 G)) (hg : ∀ G e,CW (ie G++e) ops o c) (h : ∀ G e h' n,BC P c o (ie G++e) (ih G++h') n (v0 G) (ih G++h') (n1 n)):Ob P ops s L i p o:=by
 refine ⟨hd,hN,fun D G e h' n hr he hh=>.inr ⟨hp,c,v0 G,hv G n,?_,fun hc=>?_⟩⟩
 ·exact (hg G e).same fun t=>by rw [IU he _ (hE D G hr),he]
 ·have g1:=IU he _ (hE D G hr)
  have g2:=KL hh _ (hH D G hr)
  subst hc
  exact ⟨_,(h G e h' n).toN.same (fun t=>by rw [g1,he]) (fun id=>by rw [g2,hh]),fun id=>by rw [g2,hh]⟩
theorem YH {s:St} {L:List PO} {i:Nat} {p:PO} {o:Oper} {id:Nat} {ob:(Nat→Nat)→Option AT} (hg:o.guard=none) (hd:o.dst=p.d) (hN : ∀ d,p.d=some d→Nat.blt d s.N=true) (hp:p.hp=some (id,ob)) (ie:(Nat→Nat)→AU) (ih:(Nat→Nat)→AN)
  (hE : ∀ D G,A9 ops D i→DR (BU D G s.e L) (ie G)) (hH : ∀ D G,A9 ops D i→DN (Bo D G s.h L) (ih G))
  (h : ∀ (G:Nat→Nat) e h' n,ET P o (ie G++e) (ih G++h') n (p.v (BW G i n)) ((id,ob (BW G i n)) :: (ih G++h'))):Ob P ops s L i p o:=by
 refine ⟨hd,hN,fun D G e h' n hr he hh=>.inl ⟨hg,?_⟩⟩
 have g1:=IU he _ (hE D G hr)
 have g2:=KL hh _ (hH D G hr)
 refine ⟨fun m=>(id,ob (BW G i m)) :: (ih G++h'),RY ((h G e h' n).same (fun t=>by rw [g1,he]) (fun j=>by rw [g2,hh])),fun m j=>?_⟩
 grind [Bb]
theorem YN {s:St} {L:List PO} {i:Nat} {p:PO} {o:Oper} {id:Nat} {ob:(Nat→Nat)→Option AT} {n1:Nat→Nat} (hg:o.guard=none) (hd:o.dst=p.d) (hN : ∀ d,p.d=some d→Nat.blt d s.N=true) (hp:p.hp=some (id,ob)) (ie:(Nat→Nat)→AU) (ih:(Nat→Nat)→AN)
  (hE : ∀ D G,A9 ops D i→DR (BU D G s.e L) (ie G)) (hH : ∀ D G,A9 ops D i→DN (Bo D G s.h L) (ih G))
  (h : ∀ (G:Nat→Nat) e h' n,BC P true o (ie G++e) (ih G++h') n (p.v (BW G i n)) ((id,ob (BW G i n)) :: (ih G++h')) (n1 n)):Ob P ops s L i p o:=
 YH hg hd hN hp ie ih hE hH fun G e h' n=>(h G e h' n).toN
theorem G0.same {o:Oper} {R R':AU} {h h':AN} {n:Nat} {v:Nat→AV} {h2:Nat→AN} (hs:G0 P o R h n v h2) (hR : ∀ t,get R' t=get R t) (hh : ∀ id,hget h' id=hget h id):G0 P o R' h' n v h2:=by
 intro x a hok hH hn he K Q hK
 exact hs x a hok (by rw [hH]; exact funext hh) hn (fun t=>by rw [← hR]; exact he t) K Q hK
theorem YI {s:St} {L:List PO} {i:Nat} {p:PO} {o:Oper} {id:Nat} {ob:(Nat→Nat)→Option AT} (hg:o.guard=none) (hd:o.dst=p.d) (hN : ∀ d,p.d=some d→Nat.blt d s.N=true) (hp:p.hp=some (id,ob)) (ie:(Nat→Nat)→AU) (ih:(Nat→Nat)→AN)
  (hE : ∀ D G,A9 ops D i→DR (BU D G s.e L) (ie G)) (hH : ∀ D G,A9 ops D i→DN (Bo D G s.h L) (ih G))
  (h : ∀ (G:Nat→Nat) e h' n,∃ h2:Nat→AN,G0 P o (ie G++e) (ih G++h') n (fun m=>p.v (BW G i m)) h2 ∧ ∀ m j,hget (h2 m) j=hget ((id,ob (BW G i m)) :: (ih G++h')) j):Ob P ops s L i p o:=by
 refine ⟨hd,hN,fun D G e h' n hr he hh=>.inl ⟨hg,?_⟩⟩
 have g1:=IU he _ (hE D G hr)
 have g2:=KL hh _ (hH D G hr)
 obtain ⟨h2,k1,k2⟩:=h G e h' n
 refine ⟨h2,k1.same (fun t=>by rw [g1,he]) (fun j=>by rw [g2,hh]),fun m j=>?_⟩
 rw [k2]
 grind [Bb]
end
section
variable {ops:Array Oper} {D:Nat→Bool} {G:Nat→Nat} {e:AU} {h:AN} {L:List PO} {t:Nat}
theorem Da (hB:Gn L t=true) {a:AV} (ha:get e t=a):get (BU D G e L) t=a:=(Di C3 L e 0 (Nj hB)).trans ha
theorem EI {i:Nat} (hr:A9 ops D i) (j:Nat) {p:PO} {a:AV} (hj:L[j]? = some p) (hd:p.d=some t) (hw:wt ops 40 i j=true) (hB:Gn (L.drop (j+1)) t=true) (ha:p.v G=a):get (BU D G e L) t=a:=
 (Gk C3 (Ol hd) L e 0 j hj (by rw [Nat.zero_add]; exact hr.yes hw) (Nj hB)).trans ha
theorem FO (hB:NF L t=true) {a:Option AT} (ha:hget h t=a):hget (Bo D G h L) t=a:=(Di Bb L h 0 (VZ hB)).trans ha
def IK (ops:Array Oper) (i t:Nat):List PO→Nat→Bool
 | [],_=>true
 | p :: L,k=>(match p.hp with | some (d,_)=>!Nat.beq d t || Nat.beq k i || wt ops 40 k i | none=>true) && IK ops i t L (k+1)
theorem Nx {i:Nat} (hr:A9 ops D i) : ∀ {L:List PO} {k:Nat},IK ops i t L k=true→Ei PO.wH D t L k
 | [],_,_=>fun j _ _ h=>by simp at h
 | q :: L,k,hB=>by
  simp only [IK,Bool.and_eq_true] at hB
  intro j p v h1 h2 h3
  match j with
  | 0=>
   cases h1
   obtain ⟨ob,h4,_⟩:=Ka h3
   rw [h4] at hB
   simp only [Bool.or_eq_true,Bool.not_eq_true'] at hB
   rcases hB.1 with (h5 | h5) | h5
   ·simp at h5
   ·rw [Nat.add_zero,Nat.eq_of_beq_eq_true h5,hr.un] at h2; cases h2
   ·rw [Nat.add_zero,hr.no h5] at h2; cases h2
  | j+1=>exact Nx hr hB.2 j p v (by simpa using h1) (by rwa [show k+1+j=k+(j+1) by omega]) h3
theorem Gi {i:Nat} (hr:A9 ops D i) (hB:IK ops i t L 0=true) {a:Option AT} (ha:hget h t=a):hget (Bo D G h L) t=a:=(Di Bb L h 0 (Nx hr hB)).trans ha
theorem Ue {i:Nat} (hr:A9 ops D i) (j:Nat) {p:PO} {ob} {a:Option AT} (hj:L[j]? = some p) (hd:p.hp=some (t,ob)) (hw:wt ops 40 i j=true) (hB:IK ops i t (L.drop (j+1)) (j+1)=true) (ha:ob G=a):hget (Bo D G h L) t=a:=
 (Gk Bb (O1 hd) L h 0 j hj (by rw [Nat.zero_add]; exact hr.yes hw) (by rw [Nat.zero_add]; exact Nx hr hB)).trans ha
end
section
variable {P:Program} {ops:Array Oper}
def GN (ops:Array Oper) (n:Nat):Bool:=(List.range n).all fun i=>match ops[i]? with | some o=>o.after.all fun e=>!Region.binds .any e || decide (e.on<i) | none=>false
def E0 (P:Program) (ops:Array Oper) (s:St) (L0:List PO):Nat→List PO→List Oper→Prop
 | _,[],_=>True
 | _,_ :: _,[]=>False
 | i,p :: L,o :: l=>Ob P ops s L0 i p o∧E0 P ops s L0 (i+1) L l
theorem E0.at {s:St} {L0:List PO} : ∀ {L:List PO} {l:List Oper} {i0:Nat},E0 P ops s L0 i0 L l → ∀ {j:Nat} {p:PO} {o:Oper},L[j]? = some p→l[j]? = some o→Ob P ops s L0 (i0+j) p o
 | _ :: _,_ :: _,i0,h,0,_,_,h1,h2=>by cases h1; cases h2; exact h.1
 | _ :: L,_ :: l,i0,h,j+1,p,o,h1,h2=>by
  have:=E0.at (j:=j) h.2 (p:=p) (o:=o) (by simpa using h1) (by simpa using h2)
  rwa [show i0+(j+1)=i0+1+j by omega]
 | _ :: _,[],_,h,_,_,_,_,_=>h.elim
 | [],_,_,_,_,_,_,h1,_=>by simp at h1
def B4 (listed:Array Bool):Nat→Nat
 | 0=>0
 | n+1=>B4 listed n+(if listed.getD n false then 0 else 1)
theorem Nt {listed:Array Bool} {i:Nat} (hi:i<listed.size) (hun:listed.getD i false=false) : ∀ n,B4 (listed.setIfInBounds i true) n+(if i<n then 1 else 0)=B4 listed n
 | 0=>by simp [B4]
 | n+1=>by
  have ih:=Nt hi hun n
  unfold B4
  by_cases hin:i=n
  ·subst hin
   rw [hun]
   have:(listed.setIfInBounds i true).getD i false=true:=by simp [hi]
   rw [this]
   simp at ih ⊢
   exact ih
  ·rw [getD_set_ne false hin]
   have:(i<n+1)↔(i<n):=by omega
   simp only [this]
   omega
theorem OC {listed : Array Bool} : ∀ {n : Nat}, 0 < B4 listed n → ∃ i, i < n ∧ listed.getD i false = false ∧ ∀ j, j < i → listed.getD j false = true
  | 0, h => by simp [B4] at h
  | n + 1, h => by
    by_cases h0 : 0 < B4 listed n
    · obtain ⟨i, h1, h2, h3⟩ := OC h0
      exact ⟨i, by omega, h2, h3⟩
    · have hall : ∀ m, m ≤ n → B4 listed m = 0 := by
        intro m hm
        have : B4 listed m ≤ B4 listed n := by
          clear h h0
          induction n with
          | zero => have : m = 0 := by omega
                    subst this; exact Nat.le_refl _
          | succ n ih =>
            by_cases hmn : m = n + 1
            · subst hmn; exact Nat.le_refl _
            · exact Nat.le_trans (ih (by omega)) (Nat.le_add_right ..)
        omega
      unfold B4 at h
      refine ⟨n, by omega, ?_, fun j hj => ?_⟩
      · cases hl : listed.getD n false with
        | false => rfl
        | true => rw [hl] at h; simp at h; omega
      · have := hall (j + 1) (by omega)
        unfold B4 at this
        cases hl : listed.getD j false with
        | true => rfl
        | false => rw [hl] at this; simp at this
theorem Mw {listed:Array Bool} : ∀ {n:Nat},B4 listed n=0 → ∀ j,j<n→listed.getD j false=true
 | 0,_,j,hj=>by omega
 | n+1,h,j,hj=>by
  unfold B4 at h
  by_cases hjn:j=n
  ·subst hjn
   cases hl:listed.getD j false with
   | true=>rfl
   | false=>rw [hl] at h; simp at h
  ·exact Mw (n:=n) (by omega) j (by omega)
theorem Nd {listed:Array Bool} (h : ∀ j,listed.getD j false=false) : ∀ n,B4 listed n=n
 | 0=>rfl
 | n+1=>by unfold B4; rw [Nd h n,h n]; simp
theorem Uk {c0:Cx} {s:St} {L:List PO} {n g:Nat} {l:List Oper} {Q:Exit→Act→World→Prop} (hl:l.toArray=ops) (hn0:n=ops.size∨(n<ops.size∧Region.sinkB .any ops n=true∧Region.chainB .any ops n=true)) (hLn:L.length=n) (hback:GN ops n=true)
  (hD:F3 ops L=true) (hE:EZ L=true) (hH:Fj ops L=true) (hLoc:Dt L) (hOb:E0 P ops s L 0 L l)
  (hend : ∀ listed a w,HeadInv .any ops n listed→(∀ j,j<n→listed.getD j false=true)→Dc c0 s L listed a w→wpAny P .any ops Q g listed a w) :
  ∀ (f:Nat) (listed:Array Bool) (a:Act) (w:World),B4 listed n=f→HeadInv .any ops n listed→Dc c0 s L listed a w→wpAny P .any ops Q (f+g) listed a w:=by
 have hn:n≤ops.size:=by grind
 intro f
 induction f with
 | zero=>
  grind [Mw]
 | succ f ih=>
  intro listed a w hcnt inv hinv
  rw [show f+1+g=(f+g)+1 by omega]
  obtain ⟨i0,hi0,hun0,hbefore⟩:=OC (listed:=listed) (n:=n) (by omega)
  have hs0:i0<listed.size:=by rw [inv.size]; omega
  have hready0:i0∈Region.ready .any ops listed:=by
   refine mem_ready.2 ⟨getD_in hs0 hun0,?_⟩
   have hio : ∃ o,ops[i0]? = some o:=⟨ops[i0]'(by omega),by simp [Array.getElem?_eq_getElem (show i0<ops.size by omega)]⟩
   obtain ⟨o,ho⟩:=hio
   refine ⟨o,ho,fun e he hb=>?_⟩
   have h1:=List.all_eq_true.1 hback i0 (List.mem_range.2 hi0)
   simp only [ho] at h1
   have h2:=(Array.all_eq_true_iff_forall_mem.1 h1) e he
   grind
  refine ⟨fun h=>(by rw [h] at hready0; cases hready0),fun i hi=>?_⟩
  have hin:i<n:=by
   rcases Nat.lt_or_ge i n with h | h
   ·exact h
   ·rcases hn0 with e | ⟨hn1,hs,hc⟩
    ·obtain ⟨_,o,ho,_⟩:=mem_ready.1 hi
     grind
    ·exact absurd hi (tail_waits hs hc hn1 inv _ i0 rfl hi0 (getD_in hs0 hun0) i h)
  obtain ⟨hun,o,ho,hall⟩:=mem_ready.1 hi
  have hunf:=getD_both hun
  have his:i<listed.size:=by grind
  obtain ⟨p,hp⟩ : ∃ p,L[i]? = some p:=⟨L[i]'(by omega),by simp [List.getElem?_eq_getElem (show i<L.length by omega)]⟩
  have hol:l[i]? = some o:=by grind
  have hob:=hOb.at hp hol
  rw [Nat.zero_add] at hob
  have hrd:A9 ops (fun k=>listed.getD k false) i:=by
   refine ⟨fun j k hj hk=>?_,fun k hk=>?_,hunf⟩
   ·obtain ⟨oj,hoj,e,he,hb,hon⟩:=Region.waitsFor_spec hk
    rw [← hon]; exact inv.closed j oj hoj hj e he hb
   ·obtain ⟨oi,hoi,e,he,hb,hon⟩:=Region.waitsFor_spec hk
    grind
  have step:=Dc.step (Q:=Q) hp ho hob hE hH hD hLoc his hrd hinv
  refine wpOp_mono (fun a' w' h'=>ih _ a' w' ?_ (inv.set hi hin) h') step
  grind [Nt]
def NW (ops:Array Oper) (n:Nat) (L:List PO):Bool:=
 (Nat.beq n ops.size || (decide (n<ops.size) && Region.sinkB .any ops n && Region.chainB .any ops n)) && decide (L.length=n) && GN ops n && F3 ops L && EZ L && Fj ops L
  && Region.seqB .any ops (ops.size-n) n (Bs (Array.replicate ops.size false) (List.range n))
theorem N2 : ∀ (is:List Nat) (l:Array Bool) (j:Nat),(∀ i∈is,i<l.size)→(Bs l is).getD j false=(l.getD j false || is.contains j)
 | [],l,j,_=>by simp [Bs]
 | i :: is,l,j,h=>by
  show (Bs (l.setIfInBounds i true) is).getD j false=_
  rw [N2 is _ j (fun k hk=>by simp; exact h k (List.mem_cons_of_mem _ hk))]
  by_cases hij:i=j
  ·subst hij
   have:=h i (List.mem_cons_self ..)
   simp [this]
  ·rw [getD_set_ne false hij]
   simp [Ne.symm hij]
theorem Gv {α:Type} {wr:PO→Option (Nat × ((Nat→Nat)→α))} {D D':Nat→Bool} {G:Nat→Nat} : ∀ (L:List PO) (e:List (Nat × α)) (k:Nat),(∀ j,k≤j→j<k+L.length→D j=D' j)→CJ wr D G e L k=CJ wr D' G e L k
 | [],_,_,_=>rfl
 | p :: L,e,k,h=>by
  have h0:=h k (Nat.le_refl _) (by simp)
  have ih:=fun e=>Gv (wr:=wr) (G:=G) L e (k+1) (fun j h1 h2=>h j (by omega) (by simp; omega))
  unfold CJ
  rw [h0]
  simp only [ih]
theorem HJ {id:Nat} {l:List Oper} {s:St} {Q:Exit→St→Prop} (n:Nat) (L:List PO) {lt:List Oper} (hm:P.follows .mixedOrders=true) (hB:NW l.toArray n L=true) (hLoc:Dt L) (e4:l.drop n=lt)
  (hOb:E0 P l.toArray s L 0 L l)
  (h : ∀ (G:Nat→Nat) (n':Nat),AK P l.toArray lt ⟨BU (fun _=>true) G s.e L,Bo (fun _=>true) G s.h L,n',s.N⟩ (Q .normal)):AW P (.region id l.toArray true) Q s:=by
 intro z0 hz0 c0 a w ⟨_,hdef,hsz,y,hyw,hle,hok,hH,hn,he⟩
 subst hyw
 obtain ⟨r1,r2⟩:=OU hok
 simp only [NW,Bool.and_eq_true,decide_eq_true_eq] at hB
 obtain ⟨⟨⟨⟨⟨⟨b0,b2⟩,b3⟩,b6⟩,b7⟩,b8⟩,b9⟩:=hB
 have b1:n=l.toArray.size∨(n<l.toArray.size∧Region.sinkB .any l.toArray n=true∧Region.chainB .any l.toArray n=true):=by
  rw [Bool.or_eq_true] at b0
  rcases b0 with h | h
  ·exact .inl (Nat.eq_of_beq_eq_true h)
  ·grind
 have hnle:n≤l.toArray.size:=by grind
 refine K1 Mk hm hz0 ?_
 generalize hz:({ y with w:={ y.w with drawn:=y.w.drawn+1 } } : Cx)=z at r1 r2
 have hzw:z.w = { y.w with drawn:=y.w.drawn+1 }:=by rw [← hz]
 have hzH:z.H=hget s.h:=by grind
 rw [← hzw]
 have hrep : ∀ j,(Array.replicate l.toArray.size false).getD j false=false:=getD_replicate_false _
 have key:=Uk (P:=P) (c0:=c0) (s:=s) (L:=L) (n:=n) (g:=l.toArray.size-n) (l:=l) (Q:=Dj c0 Q) rfl b1 b2 b3 b6 b7 b8 hLoc hOb
  (fun listed a' w' inv hall hinv=>by
   have hlisted:listed=Bs (Array.replicate l.toArray.size false) (List.range n):=by
    have hsz1:listed.size=(Bs (Array.replicate l.toArray.size false) (List.range n)).size:=by rw [inv.size,NH]; simp
    refine Array.ext hsz1 fun j h1 h2=>?_
    have h3:=N2 (List.range n) (Array.replicate l.toArray.size false) j (fun i hi=>by have:=List.mem_range.1 hi; rw [Array.size_replicate]; omega)
    rw [hrep] at h3
    have e1:listed[j]=listed.getD j false:=by simp_all
    have e2:(Bs (Array.replicate l.toArray.size false) (List.range n))[j]=(Bs (Array.replicate l.toArray.size false) (List.range n)).getD j false:=by unfold Array.getD; rw [dif_pos h2]; rfl
    rw [e1,e2,h3]
    by_cases hj:j<n
    ·grind
    ·have hjl:j<l.toArray.size:=by rw [inv.size] at h1; exact h1
     rw [getD_both (inv.tail j (by omega) hjl)]; simp [hj]
   obtain ⟨_,i1,i2,z',G,i3,i4,i5,i6,i7⟩:=hinv
   subst i3
   have hdl:(l.drop n).length=l.toArray.size-n:=by simp
   have hD : ∀ j,0≤j→j<0+L.length→(fun _=>true) j=(fun k=>listed.getD k false) j:=fun j _ hj=>(hall j (by omega)).symm
   have:=wpAny_of_seq (P:=P) (md:=.any) (ops:=l.toArray) (Q':=Dj c0 Q) (l.drop n) n listed a' z'.w (fun j=>by simp [List.getElem?_drop]) (by rw [hdl,hlisted]; exact b9) ?_
   ·rwa [hdl] at this
   ·rw [e4]
    refine h G z'.n c0 a' z'.w ⟨_,i1,i2,z',rfl,i4,i5,funext fun id=>?_,rfl,fun t=>?_⟩ _ fun s'' a'' w'' j1 j2=>⟨by simp,s'',j1,j2⟩
    ·grind [hget,CJ,Gv]
    ·grind [get,CJ,Gv])
  n (Array.replicate l.toArray.size false) a z.w (Nd hrep n)
  ⟨by simp,fun j oj _ hl=>(by rw [hrep] at hl; cases hl),fun t _ ht=>getD_in (by simpa using ht) (hrep _)⟩
  ⟨_,hdef,hsz,z,fun _=>0,rfl,hle.trans r1,r2,fun id=>by rw [hzH]; exact (Di Bb L _ 0 fun j p _ _ h1=>by rw [hrep] at h1; cases h1).symm,fun t=>by
   have e1:get (BU (fun k=>(Array.replicate l.toArray.size false).getD k false) (fun _=>0) s.e L) t=get s.e t:=Di C3 L _ 0 fun j p _ _ h1=>by rw [hrep] at h1; cases h1
   rw [e1]
   exact (he t).mono r1⟩
 grind
end
section
variable {P:Program} {c:Bool} {o:Oper} {R:AU} {h:AN}
end
section
variable {P:Program} {c:Bool} {o:Oper} {R:AU} {h:AN} {n:Nat}
def H2 (cs:List RV) (k:Nat) (vs:List RV):List RV:=cs.take k++vs++cs.drop (k+vs.length)
theorem Vu {t:TypeId} {x y:Operand} {id g i k m:Nat} {e:TypeId} {sz:Nat} {xs:List (List RV)} {row ds:List RV} {a:AV} (ho:o.op = .store t x y) (ht : ∃ i,P.info? t=some i∧i.size=m)
  (hx:Ev c R x (.ptr id g i k)) (hh:hget h id=some (.arr g e sz xs)) (hrow:xs[i]? = some row) (hy:Ev c R y a) (hd:GZ a=some ds) (hm:ds.length=m) (hk:k+ds.length≤row.length) :
  BC P c o R h n .any ((id,some (.arr g e sz (xs.set i (H2 row k ds)))) :: h) n:=by
 intro hc z w hok hH hn he K Q hK
 obtain ⟨ii,hi,hisz⟩:=ht
 have hHid:z.H id=some (.arr g e sz xs):=by simp_all
 have hil:i<xs.length:=(List.getElem?_eq_some_iff.1 hrow).1
 obtain ⟨b,cap,us,hβ,hx2,hown,hrows,hcells⟩:=MU hok hHid hil (hx.rep he hc)
 have hgn:=(hok.obj _ _ hHid).1
 obtain ⟨hus,hown2⟩:=hown
 rcases hown2 with ⟨hv,_⟩ | ⟨b',cap',cur,hv,_,hcur,hnc,hcm,hcs,htake⟩
 ·cases hv
 simp only [Value.slice.injEq,Option.some.injEq,Addr.mk.injEq,true_and,and_true] at hv
 obtain ⟨rfl,rfl⟩:=hv
 have hsz:0<sz:=(hok.obj _ _ hHid).2.1
 have hrl:=hrows row (List.mem_of_getElem? hrow)
 obtain ⟨hdl,hdg⟩:=QF hd
 have hones : ∀ b∈BF a,b.one=true:=fun b hb=>by
  obtain ⟨j,hj,rfl⟩:=List.mem_iff_getElem.1 hb
  obtain ⟨a',h1,h2⟩:=hdg j (ds[j]'(by omega)) (by simp [List.getElem?_eq_getElem (show j<ds.length by omega)])
  grind [Nw]
 have hvr:=hy.rep he hc
 obtain ⟨hvs,hvg,hv1⟩:=Jb hvr hones
 replace hdl:ds.length=(BF a).length:=hdl
 have hvl:(w.eval y).cells.toList.length=ds.length:=by grind
 have hbase:i * sz+sz≤xs.length * sz:=by
  have:(i+1) * sz≤xs.length * sz:=Nat.mul_le_mul_right _ hil
  rwa [Nat.add_mul,Nat.one_mul] at this
 have hcap:xs.length * sz≤cur.size:=by grind
 have hrun:=Nb (P:=P) (k:=i * sz+k) hi hcur (v:=w.eval y) (by rw [hvs,hisz,← hdl,hm]) hv1 (by rw [hvs,← hdl]; omega)
 rw [show (w.eval y).cells.size=ds.length by rw [hvs,hdl]] at hrun
 have hsp2:=fun j=>Ib cur.toList (w.eval y).cells.toList (i * sz+k) j (by have:=Array.length_toList (xs:=cur); rw [hvl]; omega)
 rw [hvl] at hsp2
 let cur':Array Value:=(cur.toList.take (i * sz+k)++(w.eval y).cells.toList++cur.toList.drop (i * sz+k+ds.length)).toArray
 have hcur's:cur'.size=cur.size:=by
  grind
 have hspl:(H2 row k ds).length=row.length:=by simp [H2]; omega
 have hspg : ∀ j,(H2 row k ds)[j]? = if k≤j∧j<k+ds.length then ds[j-k]? else row[j]?:=fun j=>Ib row ds k j hk
 have hup:=Dz hok id (.arr g e sz (xs.set i (H2 row k ds))) (z.w.setRow b cur') (some (b,cap)) z.n (by simp [World.setRow]) rfl rfl rfl
  (fun b' _ hne=>setRow_other _ _ _ _ (fun e=>hne _ cap hHid (by rw [e]; exact hβ))) (fun b' k' hb=>by
   cases hb
   exact ⟨by simpa [World.setRow] using (hok.own id _ b cap hHid hβ).1,.inr ⟨_,_,hHid,hβ⟩⟩) (Nat.le_refl _) hgn
  (fun _=>⟨_,hHid,rfl,by simp [AT.shape],hβ.symm⟩)
  (fun hle=>by
   have hbs : ∀ b',z.S b'→(z.w.setRow b cur').heap[b']? = z.w.heap[b']?:=fun b' hb=>hle.blk b' (.inl hb)
   refine ⟨hsz,fun r hr=>?_,.slice (some ⟨b,0,none⟩) xs.length cap,cur'.toList.take (xs.length * sz),by simp [Bk],⟨by simp [hcur's]; omega,.inr ⟨b,cap,cur',by simp,Nat.zero_le _,setRow_heap _ _ _ _ _ _ hcur,by simpa using hnc,hcm,by rw [hcur's,hcs],by simp⟩⟩,fun i' row' c' d' k1 k2=>?_⟩
   ·grind
   ·have hi'l:i'<xs.length:=by simpa using (List.getElem?_eq_some_iff.1 k1).1
    have hc'l:c'<sz:=by
     grind
    have hlt:i' * sz+c'<xs.length * sz:=by
     calc i' * sz+c'<i' * sz+sz:=by omega
      _=(i'+1) * sz:=by rw [Nat.add_mul,Nat.one_mul]
      _≤xs.length * sz:=Nat.mul_le_mul_right _ hi'l
    have hget:(cur'.toList.take (xs.length * sz))[i' * sz+c']? = if i * sz+k≤i' * sz+c'∧i' * sz+c'<i * sz+k+ds.length then (w.eval y).cells.toList[i' * sz+c' - (i * sz+k)]? else cur.toList[i' * sz+c']?:=by
     grind
    have huniq:i * sz+k≤i' * sz+c'→i' * sz+c'<i * sz+k+ds.length→i=i':=by
     intro h1 h2
     have e2:(i' * sz+c') / sz=i':=by rw [Nat.mul_comm,Nat.mul_add_div hsz,Nat.div_eq_of_lt (by omega),Nat.add_zero]
     obtain ⟨q,hq⟩ : ∃ q,i' * sz+c'=i * sz+q:=⟨i' * sz+c' - i * sz,by omega⟩
     have hqs:q<sz:=by omega
     have e1:(i * sz+q) / sz=i:=by rw [Nat.mul_comm,Nat.mul_add_div hsz,Nat.div_eq_of_lt hqs,Nat.add_zero]
     grind
    by_cases hin:i * sz+k≤i' * sz+c'∧i' * sz+c'<i * sz+k+ds.length
    ·have hii:=huniq hin.1 hin.2
     subst hii
     rw [List.getElem?_set,if_pos rfl,if_pos hil] at k1
     cases k1
     rw [hspg,if_pos (by omega)] at k2
     obtain ⟨a',h1,h2⟩:=hdg _ _ k2
     obtain ⟨u,h3,_,h5⟩:=hvg _ _ h1
     refine ⟨u,?_,(NR h2 h5).mono hbs (fun _ h=>h)⟩
     rw [hget,if_pos hin,show i * sz+c' - (i * sz+k)=c' - k by omega,Array.getElem?_toList]
     exact h3
    ·have hold : ∃ row0,xs[i']? = some row0∧row0[c']? = some d':=by
      rw [List.getElem?_set] at k1
      split at k1
      ·grind
      ·grind
     obtain ⟨row0,k3,k4⟩:=hold
     obtain ⟨u,k5,k6⟩:=hcells _ _ _ _ k3 k4
     refine ⟨u,?_,k6.mono hbs (fun _ h=>h)⟩
     grind)
 unfold Oper.wp execOp
 rw [ho]
 simp only [hx2,Sem.run_bind,hrun,Result.andThen_ok,Sem.run_pure]
 exact hK undef _ hup.1 hup.2 (by simp only [hH]; exact CS _ _ _) hn (.any _)
theorem Xz {α:Type} {f:α→List RV} {t:TypeId} {x y:Operand} {id g k m:Nat} {e:TypeId} {sz:Nat} {l:List α} {z:Int} {a v:α} {b:AV} {ds:List RV} (ho:o.op = .store t x y) (ht : ∃ i,P.info? t=some i∧i.size=m)
  (hx:Ev true R x (.ptr id g z.toNat k)) (hh:hget h id=some (.arr g e sz (l.map f))) (hi:AM l z=some a) (hy:Ev true R y b) (hd:GZ b=some ds) (hm:ds.length=m) (hk:Nat.ble (k+ds.length) (f a).length=true) (hv:H2 (f a) k ds=f v) :
  BC P true o R h n .any ((id,some (.arr g e sz ((l.set z.toNat v).map f))) :: h) n:=by
 have:=Vu (n:=n) ho ht hx hh (row:=f a) (by rw [List.getElem?_map,(EP hi).2.1]; rfl) hy hd hm (Nat.le_of_ble_eq_true hk)
 rwa [hv,← List.map_set] at this
end
def Lz (c:Bool):AU→AU→Prop
 | [],_=>True
 | (t,v) :: r,e=>(get e t=v∨get e t = .whn c v∨(∃ b v0,get e t = .whn (c && b) v0∧v = .whn b v0) ∨ ∃ b1 b2 v0,get e t = .whn ((c && b1) && b2) v0∧v = .whn (b1 && b2) v0)∧Lz c r e
theorem Lz.get {c:Bool} {e' e:AU} (h:Lz c e' e) (t:Nat):Al.get e' t = .any∨Al.get e t=Al.get e' t∨Al.get e t = .whn c (Al.get e' t) ∨
  (∃ b v0,Al.get e t = .whn (c && b) v0∧Al.get e' t = .whn b v0) ∨ ∃ b1 b2 v0,Al.get e t = .whn ((c && b1) && b2) v0∧Al.get e' t = .whn (b1 && b2) v0:=by
 induction e' with
 | nil=>exact .inl rfl
 | cons p r ih=>
  obtain ⟨d,v⟩:=p
  rw [C3]
  split
  ·rename_i hd; subst hd; exact .inr h.1
  ·exact ih h.2
theorem Kz {c:Bool} {e' e:AU} {h:AN} {n N:Nat} (hc:c=true) (he:Lz c e' e):Ac ⟨e,h,n,N⟩ ⟨e',h,n,N⟩:=by
 intro c0 a w ⟨_,hdef,hsz,y,hyw,hle,hok,hH,hyn,henv⟩
 refine ⟨_,hdef,hsz,y,hyw,hle,hok,hH,hyn,fun t=>?_⟩
 subst hc
 have h2:=henv t
 rcases he.get t with h1 | h1 | h1 | ⟨b,v0,h1,h3⟩ | ⟨b1,b2,v0,h1,h3⟩
 ·rw [h1]; exact .any _
 ·rwa [show Al.get (St.mk e h n N).e t=Al.get e' t from h1] at h2
 ·rw [show Al.get (St.mk e h n N).e t = .whn true (Al.get e' t) from h1] at h2
  cases h2 with
  | whn hw _=>exact hw rfl
 ·rw [show Al.get (St.mk e h n N).e t = .whn (true && b) v0 from h1] at h2
  rw [Bool.true_and] at h2
  rw [h3]; exact h2
 ·rw [show Al.get (St.mk e h n N).e t = .whn ((true && b1) && b2) v0 from h1] at h2
  rw [Bool.true_and] at h2
  rw [h3]; exact h2
theorem PD {a b:Bool} (h:a=false):(a && b)=false:=by rw [h]; rfl
section
variable {P:Program} {c:Bool} {o:Oper} {R:AU} {h:AN} {n:Nat}
variable {α:Type} {f:α→List RV}
end
theorem Ra {x y:Cx} (hok:x.ok) (M:Nat→Prop) (hw:y.w=x.w) (hS:y.S=x.S) (hF:y.F=x.F) (hn:x.n≤y.n)
  (hout : ∀ i,¬ M i→y.H i=x.H i∧y.β i=x.β i∧y.K i=x.K i) (hgen : ∀ i o,M i→y.H i=some o→o.gen<y.n)
  (hold : ∀ i o',M i→y.H i=some o'→o'.gen<x.n∨o'.isCal=true → ∃ o,x.H i=some o∧o.gen=o'.gen∧o.shape=o'.shape∧y.β i=x.β i)
  (hfam : ∀ i o',M i→y.H i=some o'→o'.isFam=true→x.n≤o'.ver) (hblk : ∀ i o b k,M i→y.H i=some o→y.atk i b k → ∃ i' o' k',M i'∧x.H i'=some o'∧x.atk i' b k')
  (hβ : ∀ i i' o o' b k k',M i→M i'→y.H i=some o→y.H i'=some o'→y.β i=some (b,k)→y.β i'=some (b,k')→i=i')
  (hK : ∀ i o j b c,M i→y.H i=some o→y.K i j=some (b,c)→(∀ i' o' k,M i'→y.H i'=some o'→y.β i'=some (b,k)→False) ∧ ∀ i' o' j' c',M i'→y.H i'=some o'→y.K i' j'=some (b,c')→i'=i∧j'=j)
  (hrep:x.le y → ∀ i o,M i→y.H i=some o→CQ y (y.β i) (y.K i) o):x.le y∧y.ok:=by
 have hle:x.le y:=by
  refine ⟨by rw [hw]; exact Nat.le_refl _,by rw [hw],by rw [hw],by rw [hw],fun _ _=>by rw [hw],fun _ h=>by rw [hS]; exact h,hF,hn,fun i o' h hg=>?_,fun i o' h hf _ hv=>?_⟩
  ·by_cases hm:M i
   ·exact hold i o' hm h hg
   ·obtain ⟨h1,h2,_⟩:=hout i hm
    exact ⟨o',by rw [← h1]; exact h,rfl,rfl,h2⟩
  ·by_cases hm:M i
   ·exact absurd hv (Nat.not_lt.2 (hfam i o' hm h hf))
   ·obtain ⟨h1,_,h3⟩:=hout i hm
    exact ⟨o',by rw [← h1]; exact h,hf,rfl,rfl,rfl,h3⟩
 have hat : ∀ i o b k,¬ M i→y.H i=some o→y.atk i b k→x.H i=some o∧x.atk i b k:=by
  intro i o b k hm h ha
  obtain ⟨h1,h2,h3⟩:=hout i hm
  unfold Cx.atk at ha ⊢
  rw [← h1,← h2,← h3]
  exact ⟨h,ha⟩
 have hown : ∀ i o b k,y.H i=some o→y.atk i b k→b<x.w.heap.size ∧ ¬ x.S b ∧ ¬ x.F b:=by
  intro i o b k h ha
  by_cases hm:M i
  ·obtain ⟨i',o',k',_,h1,h2⟩:=hblk i o b k hm h ha
   exact hok.own' i' o' b k' h1 h2
  ·obtain ⟨h1,h2⟩:=hat i o b k hm h ha
   exact hok.own' i o b k h1 h2
 have Az : ∀ i i' o o' b k k',M i → ¬ M i'→y.H i=some o→y.H i'=some o'→y.atk i b k→y.atk i' b k'→False:=by
  intro i i' o o' b k k' hm hm' h h' ha ha'
  obtain ⟨i2,o2,k2,hm2,h1,h2⟩:=hblk i o b k hm h ha
  obtain ⟨h3,h4⟩:=hat i' o' b k' hm' h' ha'
  exact hm' (hok.inj' h1 h3 h2 h4 ▸ hm2)
 refine ⟨hle,by rw [hS,hw]; exact hok.S_lt,by rw [hF,hw]; exact hok.F_lt,by rw [hS,hF]; exact hok.SF,fun i o h=>?_,fun i o b k h hb=>?_,fun i i' o o' b k k' h h' hb hb'=>?_,fun i o j b c h hb=>?_,hok.tabs.le hle⟩
 ·by_cases hm:M i
  ·exact ⟨hgen i o hm h,hrep hle i o hm h⟩
  ·obtain ⟨h1,h2,h3⟩:=hout i hm
   obtain ⟨k1,k2⟩:=hok.obj i o (by rw [← h1]; exact h)
   rw [h2,h3]
   exact ⟨Nat.lt_of_lt_of_le k1 hn,k2.mono hle (fun _ _ _=>by rw [hw]) fun _ _ _ _=>by rw [hw]⟩
 ·rw [hw,hS,hF]; exact hown i o b k h (.inl hb)
 ·by_cases hm:M i <;> by_cases hm':M i'
  ·exact hβ i i' o o' b k k' hm hm' h h' hb hb'
  ·exact (Az i i' o o' b k k' hm hm' h h' (.inl hb) (.inl hb')).elim
  ·exact (Az i' i o' o b k' k hm' hm h' h (.inl hb') (.inl hb)).elim
  ·exact hok.inj' (hat i o b k hm h (.inl hb)).1 (hat i' o' b k' hm' h' (.inl hb')).1 (hat i o b k hm h (.inl hb)).2 (hat i' o' b k' hm' h' (.inl hb')).2
 ·rw [hw,hS,hF]
  obtain ⟨k1,k2,k3⟩:=hown i o b c h (.inr ⟨j,hb⟩)
  refine ⟨k1,k2,k3,fun i' o' k h' hb'=>?_,fun i' o' j' c' h' hb'=>?_⟩
  ·by_cases hm:M i <;> by_cases hm':M i'
   ·exact (hK i o j b c hm h hb).1 i' o' k hm' h' hb'
   ·exact Az i i' o o' b c k hm hm' h h' (.inr ⟨j,hb⟩) (.inl hb')
   ·exact Az i' i o' o b k c hm' hm h' h (.inl hb') (.inr ⟨j,hb⟩)
   ·obtain ⟨e1,_,e3⟩:=hout i hm
    obtain ⟨e1',e2',_⟩:=hout i' hm'
    exact (hok.ext i o j b c (by rw [← e1]; exact h) (by rw [← e3]; exact hb)).2.2.2.1 i' o' k (by rw [← e1']; exact h') (by rw [← e2']; exact hb')
  ·by_cases hm:M i <;> by_cases hm':M i'
   ·exact (hK i o j b c hm h hb).2 i' o' j' c' hm' h' hb'
   ·exact (Az i i' o o' b c c' hm hm' h h' (.inr ⟨j,hb⟩) (.inr ⟨j',hb'⟩)).elim
   ·exact (Az i' i o' o b c' c hm' hm h' h (.inr ⟨j',hb'⟩) (.inr ⟨j,hb⟩)).elim
   ·obtain ⟨e1,_,e3⟩:=hout i hm
    obtain ⟨e1',_,e3'⟩:=hout i' hm'
    exact (hok.ext i o j b c (by rw [← e1]; exact h) (by rw [← e3]; exact hb)).2.2.2.2 i' o' j' c' (by rw [← e1']; exact h') (by rw [← e3']; exact hb')
section
variable {g:Nat} {e:TypeId} {sz col:Nat} {e2:TypeId} {sz2:Nat} {hole:Option (Nat × Nat × Nat)} {xs:List (List RV)}
end
open Go.RowKit Go.MapKept
@[reducible] noncomputable def BM (c:Nat) (j:Int):List RV:=[.ptr (At c j.toNat)]
noncomputable def Em (n:Nat) (js:List Int):Option Unit:=if js.all (fun j=>decide (0≤j∧j<n)) then some () else none
theorem NJ {n:Nat} {js:List Int} {u:Unit} (h:Em n js=some u) : ∀ j∈js,0≤j∧j<n:=by
 unfold Em at h
 split at h
 ·rename_i h1; simpa using h1
 ·cases h
theorem Pm {n c d:Nat} {j:Int} (h:0≤j∧j<n):BM (A0 n c d) j=BM c j:=by
 unfold BM; rw [Lp (by omega)]
theorem Xl {n c d:Nat} {j:Int} {u:Unit} (h:Em n [j]=some u):At (A0 n c d) j.toNat=At c j.toNat:=by
 have:=NJ h j (by simp); exact Lp (by omega)
theorem S6 {n c d:Nat} {js:List Int} {u:Unit} (h:Em n js=some u):js.map (BM (A0 n c d))=js.map (BM c):=
 List.map_congr_left fun j hj=>Pm (NJ h j hj)
section
theorem Rc {s:St} (F:Nat) (e:TypeId) (hF:hget s.h F=none):Ac s ⟨s.e,(F,some (.fam s.n s.n 0 e [])) :: s.h,s.n+1,s.N⟩:=by
 intro c0 a w ⟨_,hdef,hsz,y,hyw,hle,hok,hH,hyn,henv⟩
 have hHF:y.H F=none:=by rw [hH]; exact hF
 generalize hz:({ y with H:=hget ((F,some (.fam s.n s.n 0 e [])) :: s.h),β:=fun i=>if i=F then none else y.β i,K:=fun i=>if i=F then fun _=>none else y.K i,n:=y.n+1 } : Cx)=z
 have z1:z.w=y.w:=by rw [← hz]
 have z2:z.S=y.S:=by rw [← hz]
 have z3:z.F=y.F:=by rw [← hz]
 have z4:z.n=y.n+1:=by rw [← hz]
 have zHF:z.H F=some (.fam s.n s.n 0 e []):=by rw [← hz]; simp only [Bb,if_pos]
 have zβF:z.β F=none:=by rw [← hz]; simp
 have zKF:z.K F=fun _=>none:=by rw [← hz]; simp
 have main:=Ra (x:=y) (y:=z) hok (fun i=>i=F) z1 z2 z3 (by omega) (fun i hm=>by
  rw [← hz]; exact ⟨by simp only [Bb,if_neg (fun h=>hm (Eq.symm h))]; rw [hH],by simp [hm],by simp [hm]⟩) ?_ ?_ ?_ ?_ ?_ ?_ ?_
 ·refine ⟨‹_›,hdef,hsz,z,z1.trans hyw,hle.trans main.1,main.2,?_,by rw [z4,hyn],fun t=>(henv t).mono main.1⟩
  rw [← hz]
 ·rintro i o rfl h; rw [zHF] at h; cases h; simp only [AT.gen]; omega
 ·rintro i o rfl h hg'
  rw [zHF] at h; cases h
  simp only [AT.gen,AT.isCal] at hg'
  rcases hg' with hg' | hg'
  ·omega
  ·cases hg'
 ·rintro i o rfl h _; rw [zHF] at h; cases h; simp only [AT.ver]; omega
 ·rintro i o b k rfl h ha
  unfold Cx.atk at ha
  rw [zβF,zKF] at ha
  rcases ha with ha | ⟨_,ha⟩ <;> cases ha
 ·rintro i i' o o' b k k' rfl rfl h h' hb hb'; rfl
 ·rintro i o j b c rfl h hb; rw [zKF] at hb; cases hb
 ·rintro _ i o rfl h
  rw [zHF] at h; cases h
  exact ⟨by omega,zβF,fun j cs hj=>by simp at hj⟩
theorem YE {s:St} (F:Nat) {g v c:Nat} (c':Nat) {e:TypeId} {l:List (List RV)} (hF:hget s.h F=some (.fam g v c e l)) (hc : ∀ j,j<l.length→At c' j=At c j):Ac s ⟨s.e,(F,some (.fam g v c' e l)) :: s.h,s.n,s.N⟩:=by
 intro c0 a w ⟨_,hdef,hsz,y,hyw,hle,hok,hH,hyn,henv⟩
 have yF:y.H F=some (.fam g v c e l):=by rw [hH]; exact hF
 obtain ⟨fg,fv,fβ,fc⟩:=hok.obj _ _ yF
 generalize hz:({ y with H:=hget ((F,some (.fam g v c' e l)) :: s.h) } : Cx)=z
 have z1:z.w=y.w:=by rw [← hz]
 have z2:z.S=y.S:=by rw [← hz]
 have z3:z.F=y.F:=by rw [← hz]
 have z4:z.n=y.n:=by rw [← hz]
 have zβ:z.β=y.β:=by rw [← hz]
 have zK:z.K=y.K:=by rw [← hz]
 have zHF:z.H F=some (.fam g v c' e l):=by rw [← hz]; simp only [Bb,if_pos]
 have zHo : ∀ i,i≠F→z.H i=y.H i:=fun i hm=>by rw [← hz]; simp only [Bb,if_neg (fun h=>hm (Eq.symm h))]; rw [hH]
 have hle2:y.le z:=by
  refine ⟨by rw [z1]; exact Nat.le_refl _,by rw [z1],by rw [z1],by rw [z1],fun _ _=>by rw [z1],fun b h=>by rw [z2]; exact h,z3,by rw [z4]; exact Nat.le_refl _,fun i o h _=>?_,fun i o h hf _ _=>?_⟩
  ·by_cases hi:i=F
   ·subst hi; rw [zHF] at h; cases h; exact ⟨_,yF,rfl,rfl,by rw [zβ]⟩
   ·rw [zHo i hi] at h; exact ⟨o,h,rfl,rfl,by rw [zβ]⟩
  ·by_cases hi:i=F
   ·subst hi; rw [zHF] at h; cases h; exact ⟨_,yF,rfl,rfl,rfl,rfl,by rw [zK]⟩
   ·rw [zHo i hi] at h; exact ⟨o,h,hf,rfl,rfl,rfl,by rw [zK]⟩
 have hsub : ∀ i o,z.H i=some o → ∃ o',y.H i=some o':=fun i o h=>by
  by_cases hi:i=F
  ·subst hi; exact ⟨_,yF⟩
  ·rw [zHo i hi] at h; exact ⟨o,h⟩
 refine ⟨‹_›,hdef,hsz,z,z1.trans hyw,hle.trans hle2,?_,by rw [← hz],by rw [z4,hyn],fun t=>(henv t).mono hle2⟩
 refine ⟨by rw [z1,z2]; exact hok.S_lt,by rw [z1,z3]; exact hok.F_lt,by rw [z2,z3]; exact hok.SF,fun i o h=>?_,fun i o b k h hb=>?_,fun i i' o o' b k k' h h' hb hb'=>?_,hok.extOf hsub zβ zK (by rw [z1]; exact Nat.le_refl _) (fun i o b k h ha=>by
  rw [z2]; obtain ⟨o',h'⟩:=hsub i o h; exact (hok.own' i o' b k h' ha).2.1) (fun i o b k h ha=>by rw [z3]; obtain ⟨o',h'⟩:=hsub i o h; exact (hok.own' i o' b k h' ha).2.2),hok.tabs.le hle2⟩
 ·by_cases hi:i=F
  ·subst hi; rw [zHF] at h; cases h
   rw [z4,zβ,zK]
   refine ⟨fg,by rw [z4]; exact fv,fβ,fun j cs hj=>?_⟩
   obtain ⟨bb,cur,k1,k2,k3,k4,k5⟩:=fc j cs hj
   refine ⟨bb,cur,k1,by rw [hc j (List.getElem?_eq_some_iff.1 hj).1]; exact k2,by rw [z1]; exact k3,k4,fun i c hi=>?_⟩
   obtain ⟨u,e1,e2,e3⟩:=k5 i c hi
   exact ⟨u,e1,e2,by rw [z1,z2]; exact e3⟩
  ·rw [zHo i hi] at h
   obtain ⟨k1,k2⟩:=hok.obj i o h
   rw [z4,zβ,zK]
   exact ⟨k1,k2.mono hle2 (fun _ _ _=>by rw [z1]) (fun _ _ _ _=>by rw [z1])⟩
 ·obtain ⟨o',h'⟩:=hsub i o h
  rw [zβ] at hb; rw [z1,z2,z3]
  exact hok.own i o' b k h' hb
 ·obtain ⟨o1,h1⟩:=hsub i o h
  obtain ⟨o2,h2⟩:=hsub i' o' h'
  rw [zβ] at hb hb'
  exact hok.inj i i' o1 o2 b k k' h1 h2 hb hb'
theorem YL {P:Program} {ops:Array Oper} {rest:List Oper} {s:St} {s':Nat→St} {K:St→Prop} (hw : ∀ c0 a w,Bz c0 s a w → ∃ d,Bz c0 (s' d) a w) (h : ∀ d,AK P ops rest (s' d) K):AK P ops rest s K:=
 fun c0 a w hs=>let ⟨d,hd⟩:=hw c0 a w hs; h d c0 a w hd
theorem TU {s:St} (F b k:Nat) {gF vF co gb:Nat} {e:TypeId} {l:List (List RV)} {cs:List RV} (h2:Nat.beq F b=false)
  (hF:hget s.h F=some (.fam gF vF co e l)) (hb:hget s.h b=some (.box gb e (cs.map .r))) (hk:get s.e k = .ptr b gb 0 0) :
  ∀ c0 a w,Bz c0 s a w → ∃ d,Bz c0 ⟨(k,.r (.ptr (At (A0 l.length co d) l.length))) :: s.e,(b,none) :: (F,some (.fam gF s.n (A0 l.length co d) e (l++[cs]))) :: s.h,s.n+1,s.N⟩ a w:=by
 have n2:=Nat.ne_of_beq_eq_false h2
 intro c0 a w ⟨hq0,hdef,hsz,y,hyw,hle,hok,hH,hyn,henv⟩
 have yF:y.H F=some (.fam gF vF co e l):=by rw [hH]; exact hF
 have yb:y.H b=some (.box gb e (cs.map .r)):=by rw [hH]; exact hb
 obtain ⟨fg,fv,fβ,fc⟩:=hok.obj _ _ yF
 obtain ⟨bg,bb,cur,b1,b2,b3,b4⟩:=hok.obj _ _ yb
 refine ⟨Ca [bb],?_⟩
 generalize hco:A0 l.length co (Ca [bb])=co'
 have hnew:At co' l.length=bb:=by rw [← hco]; exact S7
 have hold : ∀ j,j<l.length→At co' j=At co j:=fun j hj=>by rw [← hco]; exact Lp hj
 rw [hnew]
 generalize hz:({ y with H:=hget ((b,none) :: (F,some (.fam gF s.n co' e (l++[cs]))) :: s.h),K:=fun i=>if i=F then fun j=>if j=l.length then y.β b else y.K F j else y.K i,n:=y.n+1 } : Cx)=z
 have z1:z.w=y.w:=by rw [← hz]
 have z2:z.S=y.S:=by rw [← hz]
 have z3:z.F=y.F:=by rw [← hz]
 have z4:z.n=y.n+1:=by rw [← hz]
 have zβ:z.β=y.β:=by rw [← hz]
 have zHb:z.H b=none:=by rw [← hz]; simp only [Bb,if_pos]
 have zHF:z.H F=some (.fam gF s.n co' e (l++[cs])):=by rw [← hz]; simp only [Bb,if_neg (Ne.symm n2),if_pos]
 have zKF:z.K F=fun j=>if j=l.length then y.β b else y.K F j:=by rw [← hz]; simp
 have zKo : ∀ i,i≠F→z.K i=y.K i:=fun i h=>by rw [← hz]; simp [h]
 have main:=Ra (x:=y) (y:=z) hok (fun i=>i=F∨i=b) z1 z2 z3 (by omega) (fun i hm=>by
  have e1 : ¬ i=F:=fun h=>hm (.inl h)
  have e3 : ¬ i=b:=fun h=>hm (.inr h)
  refine ⟨?_,by rw [zβ],zKo i e1⟩
  rw [← hz]
  simp only [Bb,if_neg (fun h=>e1 (Eq.symm h)),if_neg (fun h=>e3 (Eq.symm h))]; rw [hH]) ?_ ?_ ?_ ?_ ?_ ?_ ?_
 ·refine ⟨hq0,hdef,hsz,z,z1.trans hyw,hle.trans main.1,main.2,?_,by rw [z4,hyn],fun t=>?_⟩
  ·rw [← hz]
  ·rw [C3]
   split
   ·rename_i hkt
    subst hkt
    have hp:=henv k
    rw [hk] at hp
    generalize a.tmps.getD k undef=u at hp ⊢
    cases hp with
    | ptr hg ho h=>
     obtain ⟨b',cap,k1,k2⟩:=h _ yb rfl
     rw [b1] at k1; cases k1
     rw [k2]
     simp
     exact .r (.ptr _)
   ·exact (henv t).mono main.1
 ·rintro i o (rfl | rfl) h
  ·rw [zHF] at h; cases h; simp only [AT.gen] at fg ⊢; omega
  ·rw [zHb] at h; cases h
 ·rintro i o (rfl | rfl) h _
  ·rw [zHF] at h; cases h; exact ⟨_,yF,rfl,rfl,by rw [zβ]⟩
  ·rw [zHb] at h; cases h
 ·rintro i o (rfl | rfl) h hf
  ·rw [zHF] at h; cases h; simp only [AT.ver]; omega
  ·rw [zHb] at h; cases h
 ·rintro i o b' kk (rfl | rfl) h ha
  ·unfold Cx.atk at ha
   rw [zβ,zKF] at ha
   rcases ha with ha | ⟨j,ha⟩
   ·rw [fβ] at ha; cases ha
   ·dsimp only at ha
    split at ha
    ·exact ⟨b,_,kk,.inr rfl,yb,.inl ha⟩
    ·exact ⟨i,_,kk,.inl rfl,yF,.inr ⟨j,ha⟩⟩
  ·rw [zHb] at h; cases h
 ·intro i i' o o' b' k1 k2 hm hm' h h' hb1 hb2
  rw [zβ] at hb1 hb2
  rcases hm with rfl | rfl
  ·rw [fβ] at hb1; cases hb1
  ·rw [zHb] at h; cases h
 ·intro i o j b' c hm h hb1
  rcases hm with rfl | rfl
  ·rw [zKF] at hb1
   dsimp only at hb1
   split at hb1
   ·rename_i hj
    refine ⟨fun i' o' k2 hm' h' hb2=>?_,fun i' o' j' c' hm' h' hb2=>?_⟩
    ·rw [zβ] at hb2
     rcases hm' with rfl | rfl
     ·rw [fβ] at hb2; cases hb2
     ·rw [zHb] at h'; cases h'
    ·rcases hm' with rfl | rfl
     ·rw [zKF] at hb2
      dsimp only at hb2
      split at hb2
      ·rename_i hj2; exact ⟨rfl,by omega⟩
      ·exact absurd hb1 (fun hb1=>(hok.ext _ _ _ _ _ yF hb2).2.2.2.1 b _ c yb hb1)
     ·rw [zHb] at h'; cases h'
   ·obtain ⟨_,_,_,e4,e5⟩:=hok.ext _ _ _ _ _ yF hb1
    refine ⟨fun i' o' k2 hm' h' hb2=>?_,fun i' o' j' c' hm' h' hb2=>?_⟩
    ·rw [zβ] at hb2
     rcases hm' with rfl | rfl
     ·exact e4 _ _ _ yF hb2
     ·rw [zHb] at h'; cases h'
    ·rcases hm' with rfl | rfl
     ·rw [zKF] at hb2
      dsimp only at hb2
      split at hb2
      ·exact absurd hb2 (e4 _ _ _ yb)
      ·exact e5 _ _ _ _ yF hb2
     ·rw [zHb] at h'; cases h'
  ·rw [zHb] at h; cases h
 ·rintro hle2 i o (rfl | rfl) h
  ·rw [zHF] at h; cases h
   refine ⟨by omega,by rw [zβ]; exact fβ,fun j ds hj=>?_⟩
   by_cases hjl:j<l.length
   ·rw [List.getElem?_append_left hjl] at hj
    obtain ⟨b5,cur5,k1,kc,k2,k3,k4⟩:=fc j ds hj
    refine ⟨b5,cur5,by rw [zKF]; simp only [if_neg (show ¬ j=l.length by omega)]; exact k1,by rw [hold j hjl]; exact kc,by rw [z1]; exact k2,k3,fun q c hc=>?_⟩
    obtain ⟨u,e1,e2,e3⟩:=k4 q c hc
    exact ⟨u,e1,e2,by rw [z1,z2]; exact e3⟩
   ·have hje:j=l.length:=by have:=(List.getElem?_eq_some_iff.1 hj).1; simp at this; omega
    subst hje
    rw [List.getElem?_append_right (Nat.le_refl _),Nat.sub_self] at hj
    simp at hj; subst hj
    refine ⟨bb,cur,by rw [zKF]; simp only [if_pos]; exact b1,hnew,by rw [z1]; exact b2,by rw [b3,List.length_map],fun q c hc=>?_⟩
    obtain ⟨u,e1,e2,e3⟩:=b4 q (.r c) (by rw [List.getElem?_map,hc]; rfl)
    cases e3 with
    | r e3=>exact ⟨u,e1,e2,by rw [z1,z2]; exact e3⟩
  ·rw [zHb] at h; cases h
end
end Go.Proofs.YtioekebmplhlmaaGreatDoor.Al

namespace Go.Proofs.YtioekebmplhlmaaGreatDoor.Al
section
variable {P:Program} {c:Bool} {o:Oper} {R:AU} {h:AN} {n:Nat}
theorem EY {t t':TypeId} {x y:Operand} {k:IntKind} {m n:Int} (ho:o.op = .binOp .and t x y t') (hx:Ev c R x (.r (.int k m))) (hy:Ev c R y (.r (.int k n))):AY P c o R h (.r (.int k (Bd k m n))):=
 Eg ho hx hy (fun w=>by simp [binOp,Op.intBits,Bd]) (fun _ _=>.int _ _)
theorem GX {t t':TypeId} {x y:Operand} {k:IntKind} {m n:Int} (ho:o.op = .binOp .or t x y t') (hx:Ev c R x (.r (.int k m))) (hy:Ev c R y (.r (.int k n))):AY P c o R h (.r (.int k (CX k m n))):=
 Eg ho hx hy (fun w=>by simp [binOp,Op.intBits,CX]) (fun _ _=>.int _ _)
theorem SO {t t':TypeId} {x y:Operand} {k:IntKind} {m n:Int} (ho:o.op = .binOp .andNot t x y t') (hx:Ev c R x (.r (.int k m))) (hy:Ev c R y (.r (.int k n))):AY P c o R h (.r (.int k (MN k m n))):=
 Eg ho hx hy (fun w=>by simp [binOp,Op.intBits,MN]) (fun _ _=>.int _ _)
theorem Gp {t t':TypeId} {x y:Operand} {k k2:IntKind} {m:Int} {b:Nat} (ho:o.op = .binOp .shl t x y t') (hx:Ev c R x (.r (.int k m))) (hy:Ev c R y (.r (.int k2 b))):AY P c o R h (.r (.int k (CE k m b))):=by
 intro hc z a _ _ he
 refine ⟨.int k (CE k m b),fun w2 hag=>?_,.r (.int _ _)⟩
 unfold execOp
 rw [ho]
 simp [Bw (hx.rep he hc),Bw (hy.rep he hc),eqGuard,binOp,Op.shift,CE]
 intro hb; omega
theorem M1 {t t':TypeId} {x y:Operand} {k k2:IntKind} {m:Int} {b:Nat} (ho:o.op = .binOp .shr t x y t') (hx:Ev c R x (.r (.int k m))) (hy:Ev c R y (.r (.int k2 b))):AY P c o R h (.r (.int k (Dv k m b))):=by
 intro hc z a _ _ he
 refine ⟨.int k (Dv k m b),fun w2 hag=>?_,.r (.int _ _)⟩
 unfold execOp
 rw [ho]
 simp [Bw (hx.rep he hc),Bw (hy.rep he hc),eqGuard,binOp,Op.shift,Dv]
 intro hb; omega
def NI (P:Program) (t:TypeId) (n:Nat) (e:TypeId) (sz:Nat):Prop:=P.underlying t=some (.array n e) ∧ ∃ i,P.info? e=some i∧i.size=sz
theorem L4 {α:Type} {f:α→List RV} {sz:Nat} (hf : ∀ a,(f a).length=sz) : ∀ (l:List α) (i j:Nat) (a:α) (d:RV),l[i]? = some a→(f a)[j]? = some d→(l.flatMap f)[i * sz+j]? = some d
 | [],i,_,_,_,h,_=>by simp at h
 | x :: l,0,j,a,d,h,hd=>by
  have hx:x=a:=by simpa using h
  subst hx
  have hj:j<(f x).length:=(List.getElem?_eq_some_iff.1 hd).1
  rw [List.flatMap_cons,Nat.zero_mul,Nat.zero_add,List.getElem?_append_left hj]
  exact hd
 | x :: l,i+1,j,a,d,h,hd=>by
  have ih:=L4 hf l i j a d (by simpa using h) hd
  rw [List.flatMap_cons,List.getElem?_append_right (by rw [hf,Nat.add_mul]; omega),hf]
  rw [show (i+1) * sz+j-sz=i * sz+j by rw [Nat.add_mul]; omega]
  exact ih
theorem Q6 {α:Type} {f:α→List RV} {t e:TypeId} {sz nn g:Nat} {y:Operand} {l:List α} {k:IntKind} {z:Int} {a:α} (ho:o.op = .indexAddr t (.global g) y) (ht:NI P t nn e sz) (hT:Ez g=some (l.flatMap f)) (hn:l.length=nn)
  (hy:Ev c R y (.r (.int k z))) (hlen : ∀ a,(f a).length=sz) (h0:0<sz) (hi:c=true→AM l z=some a):AY P c o R h (.rop (f a) 0):=by
 intro hc x w hok hH he
 obtain ⟨ht1,ii,hi1,hi2⟩:=ht
 obtain ⟨z0,hz,hlt⟩:=EP (hi hc)
 have hrep:=hok.tabs.tab g _ hT
 generalize hv:(Value.pointer (some ⟨g,0,none⟩))=v at hrep
 cases hrep with
 | @rop _ _ b off u hS hcell hrr=>
  simp only [Value.pointer.injEq,Option.some.injEq,Addr.mk.injEq,and_true,Nat.add_zero] at hv
  obtain ⟨rfl,hoff⟩:=hv
  subst hoff
  have hne:(l.flatMap f)≠[]:=by
   intro e0
   have hj:0<(f a).length:=by rw [hlen]; exact h0
   have:=L4 hlen l z.toNat 0 a _ hz (List.getElem?_eq_getElem hj)
   rw [e0] at this; simp at this
  refine ⟨.pointer (some ⟨g,z.toNat * sz+0,none⟩),fun w2 hag=>?_,.rop (fun j=>u (z.toNat * sz+j)) (fun _=>hS hne) (fun j d hj=>?_) (fun j d hj=>?_)⟩
  ·unfold execOp
   rw [ho]
   have hlt':z<(nn:Int):=by rw [← hn]; exact hlt
   have hg:w.eval (.global g) = .pointer (some ⟨g,0,none⟩):=rfl
   simp [hg,Bw (hy.rep he hc),Instr.indexAt,Instr.sureAddr,asIntOf,run_underlying ht1,z0,hlt',C4 hi1,hi2,Addr.add_lit]
  ·have h1:=L4 hlen l z.toNat j a d hz hj
   have:=hcell _ _ h1
   simpa using this
  ·have h1:=L4 hlen l z.toNat j a d hz hj
   exact hrr _ _ h1
end
section
variable {P:Program} {c:Bool} {o:Oper} {R:AU} {h:AN} {n:Nat}
theorem UY (s:List UInt8) (l m:Nat):(⟨s.toArray⟩:ByteArray).extract l m=⟨((s.drop l).take (m-l)).toArray⟩:=by
 apply ByteArray.ext
 rw [ByteArray.data_extract]
 simp [List.extract_toArray]
theorem YA {t:TypeId} {x:Operand} {lo hi:Option Operand} {s r:List UInt8} {zl zh:Int} (ho:o.op = .slice t x lo hi none) (ht:P.underlying t=some .string) (hx:Ev c R x (.r (.str s)))
  (hlo:FL c R 0 lo zl) (hhi:FL c R s.length hi zh) (hs:c=true→DH s zl zh=some r):AY P c o R h (.r (.str r)):=by
 intro hc z w _ _ he
 obtain ⟨h1,h2,h3,rfl⟩:=RP (hs hc)
 have hsz:(⟨s.toArray⟩:ByteArray).size=s.length:=rfl
 refine ⟨.string ⟨((s.drop zl.toNat).take (zh.toNat-zl.toNat)).toArray⟩,fun w2 hag=>?_,by have:=Ar.str (w:=z.w) (S:=z.S) ⟨((s.drop zl.toNat).take (zh.toNat-zl.toNat)).toArray⟩; exact .r this⟩
 have hbnd : ∀ W,(Instr.sliceBounds false s.length s.length (lo.map w.eval) (hi.map w.eval) none).run P W = .ok (zl.toNat,zh.toNat,s.length) W:=by
  intro W
  cases hi with
  | none=>
   simp only [FL] at hhi
   subst hhi
   cases lo with
   | none=>simp only [FL] at hlo; subst hlo; simp [Instr.sliceBounds]
   | some v=>
    obtain ⟨k,hk⟩:=hlo
    have hr : ∀ W,(Instr.sliceBound (w.eval v) s.length .sliceB).run P W = .ok zl.toNat W:=fun W=>by rw [Bw (hk.rep he hc),Ko h1 (by omega)]
    simp [Instr.sliceBounds,hr]
  | some v2=>
   obtain ⟨k2,hk2⟩:=hhi
   have hr2 : ∀ W,(Instr.sliceBound (w.eval v2) s.length .sliceAlen).run P W = .ok zh.toNat W:=fun W=>by rw [Bw (hk2.rep he hc),Ko (by omega) (by omega)]
   cases lo with
   | none=>simp only [FL] at hlo; subst hlo; simp [Instr.sliceBounds,hr2]
   | some v=>
    obtain ⟨k,hk⟩:=hlo
    have hr : ∀ W,(Instr.sliceBound (w.eval v) zh.toNat .sliceB).run P W = .ok zl.toNat W:=fun W=>by rw [Bw (hk.rep he hc),Ko h1 (by omega)]
    simp [Instr.sliceBounds,hr,hr2]
 unfold execOp
 rw [ho]
 simp [Fr (hx.rep he hc),Instr.sliceAt,Instr.slice,run_underlying ht,hsz,hbnd,UY]
end
section
variable {P:Program} {c:Bool} {o:Oper} {R:AU} {h:AN}
theorem SN {t:TypeId} {x:Operand} {id g k:Nat} {e:TypeId} {sz:Nat} {cs ds:List AV} (ho:o.op = .load t x) (ht:BH P t sz) (hx:Ev c R x (.ptr id g 0 k)) (hh:c=true→hget h id=some (.box g e cs))
  (hd:(cs.drop k).take sz=ds) (hl:ds.length=sz):AY P c o R h (.agg ds):=by
 intro hc z w hok hH he
 have hHid:z.H id=some (.box g e cs):=by rw [hH]; exact hh hc
 obtain ⟨b,cur,h1,h2,h3,h4,h5⟩:=F5 hok hHid (hx.rep he hc)
 have hat : ∀ j a,ds[j]? = some a→cs[k+j]? = some a:=by
  intro j a hj
  have hlt:j<sz:=by rw [← hl]; exact (List.getElem?_eq_some_iff.1 hj).1
  rw [← hd,List.getElem?_take,if_pos hlt,List.getElem?_drop] at hj
  exact hj
 have hcell : ∀ j,j<sz→z.w.cell? ⟨b,k+j,none⟩=some ((fun j=>cur.getD (k+j) undef) j):=by
  intro j hj
  obtain ⟨u,h6,_,_⟩:=h5 _ _ (hat j _ (List.getElem?_eq_getElem (by omega:j<ds.length)))
  have hj':k+j<cur.size:=(Array.getElem?_eq_some_iff.1 h6).1
  rw [cell_of_row _ b (k+j) cur e _ h3]
  simp [hj']
 refine ⟨.agg ((List.range sz).map fun j=>cur.getD (k+j) undef).toArray,fun w2 hag=>?_,Gy hl _ fun j a hj=>?_⟩
 ·unfold execOp
  rw [ho]
  simp [h2,Gd ht _ (fun j hj=>(hag.cellO hHid h1).trans (hcell j hj))]
 ·obtain ⟨u,h6,_,h7⟩:=h5 _ _ (hat j a hj)
  simpa [h6] using h7
theorem FS {t:TypeId} {x:Operand} {id g k:Nat} {e:TypeId} {sz:Nat} {cs ds:List AV} (ho:o.op = .load t x) (ht:BH P t sz) (hx:Ev c R x (.ptr id g 0 k)) (hh:hget h id=some (.box g e cs))
  (hd:(cs.drop k).take sz=ds) (hl:ds.length=sz):AY P c o R h (.agg ds):=
 SN ho ht hx (fun _=>hh) hd hl
end
theorem Ac.ren {s:St} (t i j:Nat) {g:Nat} {e:TypeId} {sz:Nat} {xs:List (List RV)} (hij:(i == j)=false) (ht:get s.e t = .own i g) (hh:hget s.h i=some (.arr g e sz xs)) :
  Ac s ⟨(t,.own j s.n) :: s.e,(j,some (.arr s.n e sz xs)) :: (i,none) :: s.h,s.n+1,s.N⟩:=by
 have hne:i≠j:=by simpa using hij
 intro c0 a w ⟨_,hdef,hsz,y,hyw,hle,hok,hH,hyn,henv⟩
 have hHi:y.H i=some (.arr g e sz xs):=by rw [hH]; exact hh
 let z:Cx:={ y with H:=fun d=>if j=d then some (.arr s.n e sz xs) else if i=d then none else y.H d,β:=fun d=>if j=d then y.β i else y.β d,K:=fun d=>if j=d then fun _=>none else y.K d,n:=y.n+1 }
 have hzl:y.le z:=by
  refine ⟨Nat.le_refl _,rfl,rfl,rfl,fun _ _=>rfl,fun _ h=>h,rfl,Nat.le_succ _,fun d o' ho' hg=>?_,fun d o' ho' hf hg hv=>?_⟩
  ·dsimp only [z] at ho' ⊢
   split at ho'
   ·cases ho'
    exact absurd hg (by simp [AT.gen,AT.isCal,hyn])
   ·rename_i hj
    split at ho'
    ·cases ho'
    ·exact ⟨o',ho',rfl,rfl,by rw [if_neg hj]⟩
  ·dsimp only [z] at ho' ⊢
   split at ho'
   ·cases ho'; cases hf
   ·rename_i hj
    split at ho'
    ·cases ho'
    ·exact ⟨o',ho',hf,rfl,rfl,rfl,by rw [if_neg hj]⟩
 have hzok:z.ok:=by
  refine ⟨hok.S_lt,hok.F_lt,hok.SF,fun d o ho=>?_,fun d o b k ho hb=>?_,fun d d' o o' b k k' ho ho' hb hb'=>?_,fun d o q b c ho hb=>?_,hok.tabs.le hzl⟩
  ·dsimp only [z] at ho ⊢
   split at ho
   ·rename_i hj
    cases ho
    rw [if_pos hj,if_pos hj]
    refine ⟨by simp [AT.gen,hyn],?_⟩
    have h2:=(hok.obj i _ hHi).2
    exact (show CQ y (y.β i) (fun _=>none) (.arr s.n e sz xs) from h2).mono hzl (fun b k _=>rfl) fun _ _ _ _=>rfl
   ·rename_i hj
    split at ho
    ·cases ho
    ·rw [if_neg hj,if_neg hj]
     obtain ⟨h1,h2⟩:=hok.obj d o ho
     exact ⟨Nat.lt_succ_of_lt h1,h2.mono hzl (fun b k _=>rfl) fun _ _ _ _=>rfl⟩
  ·dsimp only [z] at ho hb ⊢
   split at hb
   ·exact hok.own i _ b k hHi hb
   ·rename_i hj
    rw [if_neg hj] at ho
    split at ho
    ·cases ho
    ·exact hok.own d o b k ho hb
  ·dsimp only [z] at ho ho' hb hb'
   by_cases h1:j=d <;> by_cases h2:j=d'
   ·rw [← h1,← h2]
   ·rw [if_pos h1] at hb
    rw [if_neg h2] at ho' hb'
    split at ho'
    ·cases ho'
    ·rename_i h3
     exact absurd (hok.inj i d' _ _ b k k' hHi ho' hb hb') h3
   ·rw [if_neg h1] at ho hb
    rw [if_pos h2] at hb'
    split at ho
    ·cases ho
    ·rename_i h3
     exact absurd (hok.inj d i _ _ b k k' ho hHi hb hb').symm h3
   ·rw [if_neg h1] at ho hb
    rw [if_neg h2] at ho' hb'
    split at ho
    ·cases ho
    ·split at ho'
     ·cases ho'
     ·exact hok.inj d d' _ _ b k k' ho ho' hb hb'
  ·dsimp only [z] at ho hb ⊢
   split at hb
   ·cases hb
   ·rename_i hj
    rw [if_neg hj] at ho
    split at ho
    ·cases ho
    ·obtain ⟨e1,e2,e3,e4,e5⟩:=hok.ext d o q b c ho hb
     refine ⟨e1,e2,e3,fun d' o' k ho' hb'=>?_,fun d' o' q' c' ho' hb'=>?_⟩
     ·by_cases h2:j=d'
      ·rw [if_pos h2] at hb'
       exact e4 i _ k hHi hb'
      ·rw [if_neg h2] at ho' hb'
       split at ho'
       ·cases ho'
       ·exact e4 d' o' k ho' hb'
     ·by_cases h2:j=d'
      ·rw [if_pos h2] at hb'
       cases hb'
      ·rw [if_neg h2] at ho' hb'
       split at ho'
       ·cases ho'
       ·exact e5 d' o' q' c' ho' hb'
 refine ⟨_,hdef,hsz,z,hyw,hle.trans hzl,hzok,?_,by simp [z,hyn],fun t'=>?_⟩
 ·funext d
  show (if j=d then _ else if i=d then _ else y.H d)=_
  rw [Bb,Bb,hH]
 ·rw [C3]
  split
  ·rename_i htt
   have h1:=henv t
   rw [ht,htt] at h1
   generalize a.tmps.getD t' undef=u at h1 ⊢
   cases h1 with
   | own h1 h2 h3=>
    refine .own (by simp [z,hyn]) h2 fun o ho _=>?_
    dsimp only [z] at ho ⊢
    rw [if_pos rfl] at ho ⊢
    cases ho
    have h5:=h3 _ hHi rfl
    exact h5
  ·exact (henv t').mono hzl
open Go.RowKit Go.MapKept
section
variable {P:Program} {c:Bool} {o:Oper} {R:AU} {h:AN} {n:Nat}
theorem Qu {x:Cx} {w2:World} (hag:CV x w2) {id j bb:Nat} {o:AT} (hH:x.H id=some o) (hK:x.K id j=some (bb,1)) {cur:Array Value} {e:TypeId} (hh:x.w.heap[bb]? = some (.cells cur e (0,0))) (k:Nat):w2.cell? ⟨bb,k,none⟩=cur[k]?:=by
 have:w2.heap[bb]? = some (.cells cur e (0,0)):=by rw [hag bb (.inr ⟨id,_,1,hH,.inr ⟨j,hK⟩⟩)]; exact hh
 exact cell_of_row _ bb k cur e _ this
theorem Mp {α:Type} {row:α→List RV} {l:List α} {j:Int} {x:α} (h:AM l j=some x):(l.map row)[j.toNat]? = some (row x):=by
 rw [List.getElem?_map]
 unfold AM at h
 split at h
 ·rw [h]; rfl
 ·cases h
theorem QI {x:Cx} (hok:x.ok) {F g ve co j:Nat} {e:TypeId} {l:List (List RV)} {cs:List RV} {v:Value} (hH:x.H F=some (.fam g ve co e l)) (hv:AR x (.r (.ptr (At co j))) v) (hj:l[j]? = some cs) :
  ∃ bb cur,x.K F j=some (bb,1)∧v = .pointer (some ⟨bb,0,none⟩)∧x.w.heap[bb]? = some (.cells cur e (0,0))∧cur.size=cs.length ∧ ∀ (i:Nat) (c:RV),cs[i]? = some c → ∃ u:Value,cur[i]? = some u∧u.oneCell'=true∧Ar x.w x.S c u:=by
 obtain ⟨_,_,_,h4⟩:=hok.obj _ _ hH
 obtain ⟨bb,cur,e4,e5,e6,e7,e8⟩:=h4 j cs hj
 cases hv with
 | r hv=>
  cases hv with
  | ptr=>exact ⟨bb,cur,e4,by rw [e5],e6,e7,e8⟩
theorem M7 {x:Operand} {b:Nat} (ho:o.op = .nilCheck x) (hx:Ev c R x (.r (.ptr b))):AY P c o R h (.r (.ptr b)):=by
 intro hc z w hok hH he
 have hv:=hx.rep he hc
 refine ⟨_,fun w2 hag=>?_,hv⟩
 unfold execOp
 rw [ho]
 generalize hw:w.eval x=v at hv
 cases hv with
 | r hv=>
  cases hv with
  | ptr=>simp [hw]
theorem UH {α:Type} {row:α→List RV} {t:TypeId} {x:Operand} {f off:Nat} {F g ve co:Nat} {e:TypeId} {l:List α} {j:Int} {a:α} (ho:o.op = .fieldAddr t x f) (ht:Ai P t f off) (hx:Ev c R x (.r (.ptr (At co j.toNat)))) (hh:hget h F=some (.fam g ve co e (l.map row)))
  (hi:c=true→AM l j=some a):AY P c o R h (.pk F g ve j.toNat off):=by
 intro hc z w hok hH he
 obtain ⟨fs,fl,ii,h1,h2,h3,h4,h5⟩:=ht
 have hHid:z.H F=some (.fam g ve co e (l.map row)):=by rw [hH]; exact hh
 obtain ⟨bb,cur,k1,k2,k3,_⟩:=QI hok hHid (hx.rep he hc) (Mp (hi hc))
 obtain ⟨hg,hve,_,_⟩:=hok.obj _ _ hHid
 refine ⟨.pointer (some ⟨bb,off,none⟩),fun w2 hag=>?_,.pk hg hve rfl fun o b c q m ho _ hg hvr hs hK=>?_⟩
 ·unfold execOp
  rw [ho]
  simp [k2,Instr.fieldAt,run_underlying h1,h2,Instr.sureAddr,fieldPlace,C4 h4,h5,h3,Addr.add_lit]
 ·rw [k1] at hK; cases hK; rfl
theorem UE {x:Cx} (hok:x.ok) {F g ve co j k:Nat} {e:TypeId} {l:List (List RV)} {cs:List RV} {v:Value} (hH:x.H F=some (.fam g ve co e l)) (hv:AR x (.pk F g ve j k) v) (hj:l[j]? = some cs) :
  ∃ bb cur,x.K F j=some (bb,1)∧v = .pointer (some ⟨bb,k,none⟩)∧x.w.heap[bb]? = some (.cells cur e (0,0))∧cur.size=cs.length ∧ ∀ (i:Nat) (c:RV),cs[i]? = some c → ∃ u:Value,cur[i]? = some u∧u.oneCell'=true∧Ar x.w x.S c u:=by
 obtain ⟨_,_,_,h4⟩:=hok.obj _ _ hH
 obtain ⟨bb,cur,e4,_,e6,e7,e8⟩:=h4 j cs hj
 cases hv with
 | pk _ _ _ hp=>exact ⟨bb,cur,e4,hp _ bb 1 0 cs.length hH rfl rfl rfl (by simp [AT.kshape,hj]) e4,e6,e7,e8⟩
theorem Uv {α:Type} {row:α→List RV} {t:TypeId} {x:Operand} {F g ve co k:Nat} {e:TypeId} {l:List α} {j:Int} {a:α} {d:RV} (ho:o.op = .load t x) (ht:A8 P t) (hx:Ev c R x (.pk F g ve j.toNat k)) (hh:hget h F=some (.fam g ve co e (l.map row)))
  (hi:c=true→AM l j=some a) (hd:(row a)[k]? = some d):AY P c o R h (.r d):=by
 intro hc z w hok hH he
 have hHid:z.H F=some (.fam g ve co e (l.map row)):=by rw [hH]; exact hh
 obtain ⟨bb,cur,k1,k2,k3,k4,k5⟩:=UE hok hHid (hx.rep he hc) (Mp (hi hc))
 obtain ⟨u,e1,e2,e3⟩:=k5 k d hd
 refine ⟨u,fun w2 hag=>?_,.r e3⟩
 unfold execOp
 rw [ho]
 simp [k2,LI ht ((Qu hag hHid k1 k3 k).trans e1)]
theorem QA {α:Type} {row:α→List RV} {t:TypeId} {x:Operand} {F g ve co sz:Nat} {e:TypeId} {l:List α} {j:Int} {a:α} {cs:List AV} (ho:o.op = .load t x) (ht:BH P t sz) (hx:Ev c R x (.r (.ptr (At co j.toNat)))) (hh:hget h F=some (.fam g ve co e (l.map row)))
  (hi:c=true→AM l j=some a) (hl:(row a).length=sz) (hcs:(row a).map .r=cs):AY P c o R h (.agg cs):=by
 subst hcs
 intro hc z w hok hH he
 have hHid:z.H F=some (.fam g ve co e (l.map row)):=by rw [hH]; exact hh
 obtain ⟨bb,cur,k1,k2,k3,k4,k5⟩:=QI hok hHid (hx.rep he hc) (Mp (hi hc))
 refine ⟨.agg ((List.range sz).map fun j=>cur.getD j undef).toArray,fun w2 hag=>?_,Gy (by simpa using hl) _ fun j a hj=>?_⟩
 ·unfold execOp
  rw [ho]
  simp [k2,Gd ht (fun j=>cur.getD j undef) (fun j hj=>by
   rw [Nat.zero_add,Qu hag hHid k1 k3 j]
   simp_all)]
 ·rw [List.getElem?_map,Option.map_eq_some_iff] at hj
  obtain ⟨d,hd,rfl⟩:=hj
  obtain ⟨u,e1,_,e3⟩:=k5 j d hd
  simpa [e1] using (AR.r e3:AR z (.r d) u)
theorem Xx {t:TypeId} (id:Nat) (ho:o.op = .makeMap t none):BC P c o R h n (.mref id n) ((id,some (.ml n [])) :: h) (n+1):=by
 intro hc z w hok hH hn he K Q hK
 have hup:=Dz hok id (.ml z.n []) (z.w.alloc (.map #[] 0)) (some (z.w.heap.size,1)) (z.n+1) (by simp) rfl rfl rfl
  (fun b hb _=>heap_alloc_old _ _ hb) (fun b k hb=>by cases hb; simp) (by omega) (by simp [AT.gen]) (fun hg=>absurd hg (by simp [AT.gen]))
  (fun hle=>⟨z.w.heap.size,[],rfl,heap_alloc_new _ _,rfl,fun j k hj=>by simp at hj⟩)
 unfold Oper.wp execOp
 rw [ho]
 simp only [Option.map_none,Sem.run_bind,run_makeMap,Result.andThen_ok,Sem.run_pure]
 refine hK (.map (some z.w.heap.size)) _ hup.1 hup.2 (by simp only [hH,hn]; exact CS _ _ _) (by simp [hn]) (.mref (by simp [hn]) rfl fun o' ho' _=>?_)
 grind
theorem Qs {x:Cx} (hok:x.ok) {id g:Nat} {bs:List Nat} {v:Value} (hH:x.H id=some (.ml g bs)) (hv:AR x (.mref id g) v) : ∃ (b:Nat) (es:List MapEntry),x.β id=some (b,1)∧v = .map (some b) ∧
  x.w.heap[b]? = some (.map es.toArray es.length)∧es.length=bs.length ∧ ∀ (j k:Nat),bs[j]? = some k → ∃ m,es[j]? = some m∧m.key = .pointer (some ⟨k,0,none⟩):=by
 obtain ⟨_,b,es,h1,h2,h3,h4⟩:=hok.obj _ _ hH
 cases hv with
 | mref _ _ hv=>
  obtain ⟨b',cap,k1,k2⟩:=hv _ hH rfl
  rw [h1] at k1; cases k1
  exact ⟨b,es,h1,k2,h2,h3,h4⟩
theorem Ti {t kt et:TypeId} {x:Operand} {id g:Nat} {bs:List Nat} (ho:o.op = .call { callee:=.builtin .len,args:=#[x],argTypes:=#[t] }) (ht:P.underlying t=some (.map kt et)) (hx:Ev c R x (.mref id g)) (hh:hget h id=some (.ml g bs)) :
  AY P c o R h (.r (.int .i64 bs.length)):=by
 intro hc z w hok hH he
 have hHid:z.H id=some (.ml g bs):=by rw [hH]; exact hh
 obtain ⟨b,es,h1,h2,h3,h4,_⟩:=Qs hok hHid (hx.rep he hc)
 refine ⟨.int .i64 bs.length,fun w2 hag=>?_,.r (.int _ _)⟩
 have hb2:w2.heap[b]? = some (.map es.toArray es.length):=by rw [hag b (.inr ⟨id,_,1,hHid,.inl h1⟩)]; exact h3
 unfold execOp
 rw [ho]
 simp [resolve,invoke,builtin,h2,Builtin.len_,run_underlying ht,goInt,MapKept.run_getObj_map hb2,h4]
theorem R4 {kt te:TypeId} {j0:TypeInfo} (hp:P.underlying kt=some (.pointer te)) (hte:P.info? te=some j0) (hsz:j0.size≠0) {w:World} {a b:Nat} {ca cb:Array Value} {ta tb:TypeId} (ha:w.heap[a]? = some (.cells ca ta (0,0))) (hb:w.heap[b]? = some (.cells cb tb (0,0))) :
  (Op.equal kt (.pointer (some ⟨a,0,none⟩)) (.pointer (some ⟨b,0,none⟩))).run P w = .ok (decide (a=b)) w:=by
 have h : ∀ d:Nat,(Op.equalIn (d+1) kt (.pointer (some ⟨a,0,none⟩)) (.pointer (some ⟨b,0,none⟩))).run P w = .ok (decide (a=b)) w:=fun d=>by
  by_cases hab:a=b
  ·subst hab
   simp [Op.equalIn,run_underlying hp,sizeOf,typeInfo,hte,run_sameAddr_same]
  ·have hne:(⟨a,0,none⟩:Addr)≠⟨b,0,none⟩:=fun e=>hab (by cases e; rfl)
   simp [Op.equalIn,run_underlying hp,sizeOf,typeInfo,hte,hsz,run_sameAddr_other w hne ha hb,hab]
 simp [Op.equal,Op.maxDepth,h 9999]
theorem Ox {kt te:TypeId} {j0:TypeInfo} (hp:P.underlying kt=some (.pointer te)) (hte:P.info? te=some j0) (hsz:j0.size≠0) {w:World} {k:Nat} (hk : ∃ c t,w.heap[k]? = some (.cells c t (0,0))) : ∀ (bs:List Nat) (es:List MapEntry) (i:Nat),es.length=bs.length →
  (∀ (j b:Nat),bs[j]? = some b→(∃ m,es[j]? = some m∧m.key = .pointer (some ⟨b,0,none⟩)) ∧ ∃ c t,w.heap[b]? = some (.cells c t (0,0))) →
  (k ∉ bs∧(Instr.findAsking kt (.pointer (some ⟨k,0,none⟩)) es i).run P w = .ok none w) ∨
  ∃ q m,bs[q]? = some k∧es[q]? = some m∧m.key = .pointer (some ⟨k,0,none⟩)∧(Instr.findAsking kt (.pointer (some ⟨k,0,none⟩)) es i).run P w = .ok (some (i+q,m.val)) w
 | [],[],i,_,_=>.inl ⟨by simp,rfl⟩
 | [],_ :: _,_,h,_=>by simp at h
 | _ :: _,[],_,h,_=>by simp at h
 | b :: bs,m :: es,i,h,hall=>by
  obtain ⟨⟨m',h1,h2⟩,cb,tb,h3⟩:=hall 0 b rfl
  cases h1
  obtain ⟨ck,tk,h4⟩:=hk
  have he:=R4 hp hte hsz h4 h3
  have hstep:(Instr.findAsking kt (.pointer (some ⟨k,0,none⟩)) (m :: es) i).run P w=if k=b then .ok (some (i,m.val)) w else (Instr.findAsking kt (.pointer (some ⟨k,0,none⟩)) es (i+1)).run P w:=by
   rw [Instr.findAsking]
   simp only [Sem.run_bind,h2,he,Result.andThen_ok]
   by_cases hkb:k=b <;> simp [hkb]
  rw [hstep]
  by_cases hkb:k=b
  ·subst hkb
   exact .inr ⟨0,m,rfl,rfl,h2,by simp⟩
  ·rw [if_neg hkb]
   rcases Ox hp hte hsz ⟨ck,tk,h4⟩ bs es (i+1) (by simpa using h) (fun j b hj=>hall (j+1) b hj) with ⟨e1,e2⟩ | ⟨q,m',e1,e2,e3,e4⟩
   ·exact .inl ⟨by simp [hkb,e1],e2⟩
   ·exact .inr ⟨q+1,m',e1,e2,e3,by rw [e4]; simp [Nat.add_assoc,Nat.add_comm 1 q]⟩
def HN (n:Nat) (js:List Int) (j:Int):Option (List Int):=if (j :: js).all (fun j=>decide (0≤j∧j<n)) then some (if j∈js then js else js++[j]) else none
theorem VS {α:Type} {row:α→List RV} {t kt et te:TypeId} {x i y:Operand} {id g F gF vF co:Nat} {e:TypeId} {l:List α} {js js':List Int} {j:Int} {av:AV} (ho:o.op = .mapUpdate t x i y) (ht:P.underlying t=some (.map kt et)) (hp:P.underlying kt=some (.pointer te))
  (hte : ∃ j0,P.info? te=some j0∧j0.size≠0) (hx:Ev c R x (.mref id g)) (hi:Ev c R i (.r (.ptr (At co j.toNat)))) (_hy:Ev c R y av) (hh:hget h id=some (.ml g (js.map fun j=>At co j.toNat))) (hF:hget h F=some (.fam gF vF co e (l.map row)))
  (hs:HN l.length js j=some js'):BC P c o R h n .any ((id,some (.ml g (js'.map fun j=>At co j.toNat))) :: h) n:=by
 intro hc z w hok hH hn he K Q hK
 have hHid:z.H id=some (.ml g (js.map fun j=>At co j.toNat)):=by rw [hH]; exact hh
 have hHF:z.H F=some (.fam gF vF co e (l.map row)):=by rw [hH]; exact hF
 obtain ⟨b,es,h1,h2,h3,h4,h5⟩:=Qs hok hHid (hx.rep he hc)
 obtain ⟨j0,hte,hsz⟩:=hte
 have hall : ∀ q∈j :: js,0≤q∧q<l.length:=by
  unfold HN at hs
  split at hs
  ·rename_i hall; simpa using hall
  ·cases hs
 have hs:js'=if j∈js then js else js++[j]:=by
  unfold HN at hs
  split at hs
  ·cases hs; rfl
  ·cases hs
 subst hs
 have mem : ∀ q:Int,0≤q∧q<l.length → ∃ cur,z.K F q.toNat=some (At co q.toNat,1)∧z.w.heap[At co q.toNat]? = some (.cells cur e (0,0)):=fun q hq=>by
  obtain ⟨_,_,_,f4⟩:=hok.obj _ _ hHF
  have hlt:q.toNat<l.length:=by omega
  obtain ⟨bb,cur,e4,e5,e6,_⟩:=f4 q.toNat (row l[q.toNat]) (by simp [hlt])
  exact ⟨cur,by rw [e5]; exact e4,by rw [e5]; exact e6⟩
 have inj : ∀ q q':Int,0≤q∧q<l.length→0≤q'∧q'<l.length→At co q.toNat=At co q'.toNat→q=q':=fun q q' hq hq' heq=>by
  obtain ⟨_,k1,_⟩:=mem q hq
  obtain ⟨_,k2,_⟩:=mem q' hq'
  rw [heq] at k1
  have:=((hok.ext F _ _ _ _ hHF k1).2.2.2.2 F _ _ _ hHF k2).2
  omega
 have hiv:=hi.rep he hc
 generalize hiw:w.eval i=iv at hiv
 cases hiv with
 | r hiv=>
 generalize hk:At co j.toNat=k at hiv
 cases hiv with
 | ptr=>
 have hb:=(hok.own id _ b 1 hHid h1).1
 obtain ⟨curj,_,hcj⟩:=mem j (hall j (by simp))
 have hfind:=Ox hp hte hsz (w:=z.w) (k:=k) ⟨curj,e,by rw [← hk]; exact hcj⟩ (js.map fun j=>At co j.toNat) es 0 h4 (fun q b hq=>⟨h5 q b hq,by
  rw [List.getElem?_map,Option.map_eq_some_iff] at hq
  obtain ⟨q0,hq1,rfl⟩:=hq
  obtain ⟨cur,_,hc2⟩:=mem q0 (hall q0 (List.mem_cons_of_mem _ (List.mem_of_getElem? hq1)))
  exact ⟨cur,e,hc2⟩⟩)
 have hck:(Instr.checkKey false 10000 kt (.pointer (some ⟨k,0,none⟩))).run P z.w = .ok () z.w:=by
  rw [show 10000=9999+1 from rfl,Instr.checkKey]
  simp [run_underlying hp]
 have hfk:(Instr.findKey kt (.pointer (some ⟨k,0,none⟩)) es).run P z.w=(Instr.findAsking kt (.pointer (some ⟨k,0,none⟩)) es 0).run P z.w:=by
  unfold Instr.findKey
  simp only [Sem.run_bind,run_underlying hp,Result.andThen_ok]
  cases es with
  | nil=>rfl
  | cons m es=>
   have:Instr.findNow (.pointer te) (.pointer (some ⟨k,0,none⟩)) (m :: es) 0=none:=by simp [Instr.findNow,Instr.sameNow]
   rw [this]
 have hup : ∀ (es':List MapEntry) (bs':List Nat),es'.length=bs'.length→(∀ (j k:Nat),bs'[j]? = some k → ∃ m,es'[j]? = some m∧m.key = .pointer (some ⟨k,0,none⟩))→_:=fun es' bs' hl hkeys=>
  Dz hok id (.ml g bs') { z.w with heap:=z.w.heap.setIfInBounds b (.map es'.toArray es'.length) } (some (b,1)) z.n (by simp) rfl rfl rfl
   (fun b' hb' hne=>by
    have:b≠b':=fun e=>hne _ 1 hHid (by rw [← e]; exact h1)
    simp [this])
   (fun b' k' hb'=>by cases hb'; exact ⟨by simpa using hb,.inr ⟨_,_,hHid,h1⟩⟩) (Nat.le_refl _) (hok.obj _ _ hHid).1 (fun _=>⟨_,hHid,rfl,rfl,h1.symm⟩)
   (fun hle=>⟨b,es',rfl,by simp [hb],hl,hkeys⟩)
 unfold Oper.wp execOp
 rw [ho]
 rcases hfind with ⟨hno,hrun⟩ | ⟨q,m,hq1,hq2,hq3,hrun⟩
 ·generalize hm0:({ key:=.pointer (some ⟨k,0,none⟩),val:=w.eval y,born:=es.length } : MapEntry)=m0
  have hjs:j ∉ js:=fun hm=>hno (List.mem_map.2 ⟨j,hm,hk⟩)
  rw [if_neg hjs] at hK
  have hup:=hup (es++[m0]) ((js++[j]).map fun j=>At co j.toNat) (by simp at h4 ⊢; exact h4) (fun q b hq=>by
   rw [List.map_append] at hq
   by_cases hlt:q<js.length
   ·rw [List.getElem?_append_left (by simpa using hlt)] at hq
    obtain ⟨m,e1,e2⟩:=h5 q b hq
    exact ⟨m,by rw [List.getElem?_append_left (List.getElem?_eq_some_iff.1 e1).1]; exact e1,e2⟩
   ·have hqe:q=js.length:=by have:=(List.getElem?_eq_some_iff.1 hq).1; simp at this; omega
    subst hqe
    rw [List.getElem?_append_right (by simp)] at hq
    simp at hq
    rw [hk] at hq; subst hq
    rw [List.length_map] at h4
    exact ⟨m0,by rw [← h4,List.getElem?_append_right (Nat.le_refl _),Nat.sub_self]; rfl,by rw [← hm0]⟩)
  have hrunU:(Instr.mapUpdate t (.map (some b)) (.pointer (some ⟨k,0,none⟩)) (w.eval y)).run P z.w = .ok () { z.w with heap:=z.w.heap.setIfInBounds b (.map (es++[m0]).toArray (es++[m0]).length) }:=by
   unfold Instr.mapUpdate
   simp only [Sem.run_bind,run_underlying ht,Result.andThen_ok,MapKept.run_getObj_map h3,hck,hfk,hrun]
   rw [run_setObj_map _ h3]
   simp [← hm0]
  simp only [h2,hiw,Sem.run_bind,hrunU,Result.andThen_ok,Sem.run_pure]
  exact hK undef _ hup.1 hup.2 (by simp only [hH]; exact CS _ _ _) hn (.any _)
 ·have hjs:j∈js:=by
   rw [List.getElem?_map,Option.map_eq_some_iff] at hq1
   obtain ⟨q0,hq4,hq5⟩:=hq1
   have hm:=List.mem_of_getElem? hq4
   rw [← inj q0 j (hall q0 (List.mem_cons_of_mem _ hm)) (hall j (by simp)) (hq5.trans hk.symm)]
   exact hm
  rw [if_pos hjs] at hK
  have hup:=hup (es.modify q fun e=>{ e with key:=.pointer (some ⟨k,0,none⟩),val:=w.eval y }) (js.map fun j=>At co j.toNat) (by rw [List.length_modify]; exact h4) (fun p b hp2=>by
   obtain ⟨m',e1,e2⟩:=h5 p b hp2
   by_cases hpq:q=p
   ·subst hpq
    rw [hq1] at hp2; cases hp2
    exact ⟨_,by rw [List.getElem?_modify_eq,e1]; rfl,rfl⟩
   ·exact ⟨m',by rw [List.getElem?_modify,e1]; simp [hpq],e2⟩)
  have hrunU:(Instr.mapUpdate t (.map (some b)) (.pointer (some ⟨k,0,none⟩)) (w.eval y)).run P z.w = .ok () { z.w with heap:=z.w.heap.setIfInBounds b (.map (es.modify q fun e=>{ e with key:=.pointer (some ⟨k,0,none⟩),val:=w.eval y }).toArray (es.modify q fun e=>{ e with key:=.pointer (some ⟨k,0,none⟩),val:=w.eval y }).length) }:=by
   unfold Instr.mapUpdate
   simp only [Sem.run_bind,run_underlying ht,Result.andThen_ok,MapKept.run_getObj_map h3,hck,hfk,hrun]
   have hm:es.toArray[0+q]? = some m:=by simpa using hq2
   simp only [hm,Option.map_some,Option.getD_some,hq3]
   simp [Instr.keyThatStays,Instr.sameBits]
   rw [run_setObj_map _ h3]
  simp only [h2,hiw,Sem.run_bind,hrunU,Result.andThen_ok,Sem.run_pure]
  exact hK undef _ hup.1 hup.2 (by simp only [hH]; exact CS _ _ _) hn (.any _)
end
end Go.Proofs.YtioekebmplhlmaaGreatDoor.Al

namespace Go.Proofs.YtioekebmplhlmaaGreatDoor.Al
open Go.Shelf Go.Proofs
def SY:Go.Shelf.Ren:=⟨fun | 196=>117 | 259=>119 | n=>n,fun | 9=>9 | 4=>4 | 3=>3 | 5=>5 | 12=>12 | 119=>139 | 0=>0 | 46=>135 | 139=>142 | 138=>141 | 53=>143 | n=>n,fun | 3=>0 | 4=>1 | n=>n⟩
theorem V4:Go.Proofs.Lays.n196 Tryz.prog SY:={
 mixed:=by kernel_rfl
 f196:=Tryz.func117.trans (congrArg some (by kernel_rfl))
 f259:=Tryz.func119.trans (congrArg some (by kernel_rfl))
 t0:=Tryz.underlying0
 a0:=Tryz.isAgg0
 z0:=Tryz.sizeOf0
 v0:=Tryz.zeroValue0
 t3:=Tryz.underlying3
 a3:=Tryz.isAgg3
 z3:=Tryz.sizeOf3
 v3:=Tryz.zeroValue3
 t4:=Tryz.underlying4
 a4:=Tryz.isAgg4
 z4:=Tryz.sizeOf4
 v4:=Tryz.zeroValue4
 t5:=Tryz.underlying5
 a5:=Tryz.isAgg5
 z5:=Tryz.sizeOf5
 v5:=Tryz.zeroValue5
 t9:=Tryz.underlying9
 a9:=Tryz.isAgg9
 z9:=Tryz.sizeOf9
 v9:=Tryz.zeroValue9
 t12:=Tryz.underlying12
 a12:=Tryz.isAgg12
 z12:=Tryz.sizeOf12
 v12:=Tryz.zeroValue12
 t46:=Tryz.underlying135
 a46:=Tryz.isAgg135
 z46:=Tryz.sizeOf135
 v46:=Tryz.zeroValue135
 t53:=Tryz.underlying143
 a53:=Tryz.isAgg143
 z53:=Tryz.sizeOf143
 v53:=Tryz.zeroValue143
 t119:=Tryz.underlying139
 a119:=Tryz.isAgg139
 z119:=Tryz.sizeOf139
 t138:=Tryz.underlying141
 a138:=Tryz.isAgg141
 z138:=Tryz.sizeOf141
 v138:=Tryz.zeroValue141
 t139:=Tryz.underlying142
 a139:=Tryz.isAgg142
 z139:=Tryz.sizeOf142
 v139:=Tryz.zeroValue142
 g3:=by kernel_rfl
 g4:=by kernel_rfl }
end Go.Proofs.YtioekebmplhlmaaGreatDoor.Al

namespace Go.Proofs.YtioekebmplhlmaaGreatDoor.Al
section
variable {P:Program} {c:Bool} {o:Oper} {R:AU} {h:AN} {n:Nat}
theorem Xn {x:Cx} (hok:x.ok) (id:Nat) (s:List UInt8) :
  ∃ y:Cx,x.le y∧y.ok∧y.w=x.w.alloc (.stringIter ⟨s.toArray⟩ 0)∧y.H=(fun i=>if id=i then some (.it x.n s 0) else x.H i)∧y.n=x.n+1 ∧
   AR y (.ptr id x.n 0 0) (.pointer (some ⟨x.w.heap.size,0,none⟩)):=by
 have:=Dz hok id (.it x.n s 0) (x.w.alloc (.stringIter ⟨s.toArray⟩ 0)) (some (x.w.heap.size,1)) (x.n+1) (by simp) rfl rfl rfl
  (fun b hb _=>heap_alloc_old _ _ hb) (fun b k hb=>by cases hb; simp) (by omega) (by simp [AT.gen]) (fun hg=>absurd hg (by simp [AT.gen]))
  (fun hle=>⟨x.w.heap.size,rfl,heap_alloc_new _ _⟩)
 refine ⟨_,this.1,this.2,rfl,rfl,rfl,.ptr (by simp) rfl fun o' ho' _=>?_⟩
 simp only [if_pos] at ho'
 cases ho'
 exact ⟨x.w.heap.size,1,by simp,by simp⟩
theorem W7 {t:TypeId} {x:Operand} {s:List UInt8} (id:Nat) (ho:o.op = .range t x) (ht:P.underlying t=some .string) (hx:Ev c R x (.r (.str s))) :
  BC P c o R h n (.ptr id n 0 0) ((id,some (.it n s 0)) :: h) (n+1):=by
 intro hc z w hok hH hn he K Q hK
 obtain ⟨y,k1,k2,k3,k4,k5,k6⟩:=Xn hok id s
 have hv:=hx.rep he hc
 generalize hw:w.eval x=v at hv
 cases hv with
 | r hv=>
  cases hv with
  | str s=>
   unfold Oper.wp execOp
   rw [ho]
   simp only [hw,Sem.run_bind,run_range_string _ _ _ ht,Result.andThen_ok,Sem.run_pure]
   have:=hK (.pointer (some ⟨z.w.heap.size,0,none⟩)) y k1 k2 (by rw [k4,hH,hn,CS]) (by rw [k5,hn]) (by rw [← hn]; exact k6)
   rw [k3] at this
   exact this
theorem Ow {x:Cx} (hok:x.ok) {id g pos:Nat} {s:List UInt8} {v:Value} (hH:x.H id=some (.it g s pos)) (hv:AR x (.ptr id g 0 0) v) :
  ∃ b,x.β id=some (b,1)∧v = .pointer (some ⟨b,0,none⟩)∧x.w.heap[b]? = some (.stringIter ⟨s.toArray⟩ pos):=by
 obtain ⟨_,b,h1,h2⟩:=hok.obj _ _ hH
 cases hv with
 | ptr _ _ hv=>
  obtain ⟨b',cap,h5,h6⟩:=hv _ hH rfl
  rw [h1] at h5
  simp only [Option.some.injEq,Prod.mk.injEq] at h5
  obtain ⟨rfl,rfl⟩:=h5
  exact ⟨b,h1,by rw [h6,Nat.zero_mul],h2⟩
theorem Wc {x:Operand} {id g pos:Nat} {s:List UInt8} (ho:o.op = .next x true) (hx:Ev c R x (.ptr id g 0 0)) (hh:hget h id=some (.it g s pos)) (hp:c=true→decide (pos<s.length)=false) :
  BC P c o R h n (.tup [.r (.bool false)]) h n:=by
 intro hc z w hok hH hn he K Q hK
 obtain ⟨b,h1,h2,h3⟩:=Ow hok (by rw [hH]; exact hh) (hx.rep he hc)
 have hlt : ¬ pos<(⟨s.toArray⟩:ByteArray).size:=by
  have:=of_decide_eq_false (hp hc)
  simpa [ByteArray.size] using this
 unfold Oper.wp execOp
 rw [ho]
 have hrun:(Instr.next (.pointer (some ⟨b,0,none⟩)) true o.type).run P z.w = .ok (.tuple #[.bool false]) z.w:=by
  simp [Instr.next,getObj,Sem.run,h3,hlt]
 simp only [h2,Sem.run_bind,hrun,Result.andThen_ok,Sem.run_pure]
 refine hK (.tuple #[.bool false]) z (Cx.le.refl z) hok hH hn (.tup rfl fun i a u ha hu=>?_)
 rcases i with _ | i
 ·simp at ha hu; subst ha; subst hu; exact .r (.bool false)
 ·simp at ha
theorem UN {x:Operand} {id g pos:Nat} {s:List UInt8} (ho:o.op = .next x true) (hx:Ev c R x (.ptr id g 0 0)) (hh:hget h id=some (.it g s pos)) (hp:c=true→decide (pos<s.length)=true) :
  BC P c o R h n (.tup [.r (.bool true),.r (.int .i64 (pos:Int)),.r (.int .i32 ((D4 s pos).1:Int))]) ((id,some (.it g s (pos+(D4 s pos).2))) :: h) n:=by
 intro hc z w hok hH hn he K Q hK
 have hHid:z.H id=some (.it g s pos):=by rw [hH]; exact hh
 obtain ⟨b,h1,h2,h3⟩:=Ow hok hHid (hx.rep he hc)
 have hlt:pos<(⟨s.toArray⟩:ByteArray).size:=by
  have:=of_decide_eq_true (hp hc)
  simpa [ByteArray.size] using this
 have hb:=(hok.own id _ b 1 hHid h1).1
 have hup:=Dz hok id (.it g s (pos+(D4 s pos).2)) { z.w with heap:=z.w.heap.setIfInBounds b (.stringIter ⟨s.toArray⟩ (pos+(D4 s pos).2)) } (some (b,1)) z.n (by simp) rfl rfl rfl
  (fun b' _ hne=>by
   have:b≠b':=fun e=>hne _ 1 hHid (by rw [← e]; exact h1)
   simp [this])
  (fun b' k' hb'=>by cases hb'; exact ⟨by simpa using hb,.inr ⟨_,_,hHid,h1⟩⟩) (Nat.le_refl _) (hok.obj _ _ hHid).1 (fun _=>⟨_,hHid,rfl,rfl,h1.symm⟩)
  (fun hle=>⟨b,rfl,by simp [hb]⟩)
 unfold Oper.wp execOp
 rw [ho]
 have hrun:(Instr.next (.pointer (some ⟨b,0,none⟩)) true o.type).run P z.w = .ok (.tuple #[.bool true,.int .i64 (pos:Int),.int .i32 ((D4 s pos).1:Int)]) { z.w with heap:=z.w.heap.setIfInBounds b (.stringIter ⟨s.toArray⟩ (pos+(D4 s pos).2)) }:=by
  simp only [Instr.next,getObj,setObj,Sem.run_bind,Sem.run,h3,Result.andThen,hlt,if_true]
  simp [goInt,Sem.run,h3,D4]
 simp only [h2,Sem.run_bind,hrun,Result.andThen_ok,Sem.run_pure]
 refine hK _ _ hup.1 hup.2 (by simp only [hH]; exact CS _ _ _) hn (.tup rfl fun i a u ha hu=>?_)
 rcases i with _ | _ | _ | i
 ·simp at ha hu; subst ha; subst hu; exact .r (.bool true)
 ·simp at ha hu; subst ha; subst hu; exact .r (.int _ _)
 ·simp at ha hu; subst ha; subst hu; exact .r (.int _ _)
 ·simp at ha
theorem AW.split {Q:Exit→St→Prop} {s:St} {x:Code} (b:Bool) (h1:b=true→AW P x Q s) (h2:b=false→AW P x Q s):AW P x Q s:=by
 cases b
 ·exact h2 rfl
 ·exact h1 rfl
end
section
variable {P:Program} {c:Bool} {o:Oper} {R:AU} {h:AN}
end
open Go.Shelf Go.RowKit Go.Lib
theorem YY {P:Program} {f:FuncId} {args:List AV} {r:AV} (hc:KB P f) (hcl:r.closed=true)
  (h : ∀ (x:Cx) (vs:Array Value),x.ok→G7 x args vs.toList→Calls P f vs x.w fun e w'=>∃ u,e = .returned u∧Below x.w.heap.size x.w w' ∧ ∀ y:Cx,AR y r u):AX P f args r:=by
 refine ⟨hc,hcl,fun x vs hok hH ha=>(h x vs hok ha).mono fun e w' ⟨u,he,hb,hr⟩=>?_⟩
 have hle:x.le { x with w:=w' }:=by
  refine ⟨hb.size,hb.os,hb.tape,hb.output,fun b hbb=>hb.block b (hbb.elim (hok.S_lt b) (hok.F_lt b)),fun _ h=>h,rfl,Nat.le_refl _,fun id o ho _=>⟨o,ho,rfl,rfl,rfl⟩,fun id o ho hf _ _=>⟨o,ho,hf,rfl,rfl,rfl,rfl⟩⟩
 refine ⟨u,{ x with w:=w' },he,rfl,hle,⟨fun b hb2=>Nat.lt_of_lt_of_le (hok.S_lt b hb2) hb.size,fun b hb2=>Nat.lt_of_lt_of_le (hok.F_lt b hb2) hb.size,hok.SF,fun id o ho=>?_,fun id o b k ho=>?_,fun id id' o o' b k k' ho=>?_,fun id o j b c ho=>?_,hok.tabs.le hle⟩,hr _⟩
 ·exact absurd (show x.H id=some o from ho) (by rw [hH]; simp)
 ·exact absurd (show x.H id=some o from ho) (by rw [hH]; simp)
 ·exact absurd (show x.H id=some o from ho) (by rw [hH]; simp)
 ·exact absurd (show x.H id=some o from ho) (by rw [hH]; simp)
theorem My {x:Cx} (ht:EK x) {g:Nat} {row:List RV} (hg:Ez g=some row) {j:Nat} {k:IntKind} {z:Int} (hj:row[j]? = some (.int k z)):x.w.cell? ⟨g,j,none⟩=some (.int k z):=by
 have h:=ht.tab g row hg
 generalize hv:(Value.pointer (some ⟨g,0,none⟩))=v at h
 cases h with
 | rop u h1 h2 h3=>
  rename_i b off
  simp only [Value.pointer.injEq,Option.some.injEq,Addr.mk.injEq,and_true,Nat.add_zero] at hv
  obtain ⟨rfl,rfl⟩:=hv
  have h4:=h2 j _ hj
  have h5:=h3 j _ hj
  rw [Nat.zero_add] at h4
  rw [h4]
  generalize u j=w at h5
  cases h5; rfl
theorem TR : ∀ c,c<256→(D7.flatMap fun z=>[RV.int .u8 z])[c]? = some (.int .u8 (Lib.firstT c:Int)):=by
 have h : ∀ c:Fin 256,D7[c.val]? = some (Lib.firstT c.val:Int):=by decide +kernel
 intro c hc
 have h1 : ∀ (l:List Int) (j:Nat),(l.flatMap fun z=>[RV.int .u8 z])[j]? = (l[j]?).map (RV.int .u8):=by
  intro l
  induction l with
  | nil=>intro j; simp
  | cons a l ih=>intro j; cases j with
   | zero=>simp
   | succ j=>simpa using ih j
 rw [h1,h ⟨c,hc⟩]; rfl
theorem RS : ∀ i,i<16→(GB.flatMap fun p=>[RV.int .u8 p.1,RV.int .u8 p.2])[2 * i]? = some (.int .u8 (Lib.accLo i:Int))∧(GB.flatMap fun p=>[RV.int .u8 p.1,RV.int .u8 p.2])[2 * i+1]? = some (.int .u8 (Lib.accHi i:Int)):=by
 have h : ∀ c:Fin 16,GB[c.val]? = some ((Lib.accLo c.val:Int),(Lib.accHi c.val:Int)):=by decide +kernel
 intro i hi
 have h1 : ∀ (l:List (Int × Int)) (j:Nat),(l.flatMap fun p=>[RV.int .u8 p.1,RV.int .u8 p.2])[2 * j]? = (l[j]?).map (fun p=>RV.int .u8 p.1)∧(l.flatMap fun p=>[RV.int .u8 p.1,RV.int .u8 p.2])[2 * j+1]? = (l[j]?).map (fun p=>RV.int .u8 p.2):=by
  intro l
  induction l with
  | nil=>intro j; simp
  | cons a l ih=>intro j; cases j with
   | zero=>simp
   | succ j=>
    have:=ih j
    rw [show 2 * (j+1)=2 * j+1+1 by omega]
    simpa using this
 rw [(h1 _ _).1,(h1 _ _).2,h ⟨i,hi⟩]
 exact ⟨rfl,rfl⟩
theorem Wg {x:Cx} (hok:x.ok) (hne:FM≠Fb):Lib.Utf8Tabs FM Fb x.w:=by
 have hF:Ez FM=some (D7.flatMap fun z=>[.int .u8 z]):=by unfold Ez; rw [if_pos rfl]
 have hA:Ez Fb=some (GB.flatMap fun p=>[.int .u8 p.1,.int .u8 p.2]):=by unfold Ez; rw [if_neg (fun e=>hne e.symm),if_pos rfl]
 exact ⟨fun c hc=>My hok.tabs hF (TR c hc),fun i hi=>⟨My hok.tabs hA (RS i hi).1,My hok.tabs hA (RS i hi).2⟩⟩
theorem YG {P:Program} {ρ:Ren} {f:FuncId} (L:Go.Proofs.Lays.n196 P ρ) (hf:ρ.f 196=f) (h3:ρ.g 3=FM) (h4:ρ.g 4=Fb) (hc:KB P f) {s:List UInt8} {r:Bool} (h:MK s=some r) :
  AX P f [.r (.str s)] (.r (.bool r)):=by
 subst hf
 refine YY hc rfl fun x vs hok ha=>?_
 unfold MK at h
 split at h
 ·rename_i hl
  cases h
  have h1:=ha
  obtain ⟨v,hv⟩ : ∃ v,vs = #[v]:=by
   have:=ha.1
   match vs,this with
   | ⟨[v]⟩,_=>exact ⟨v,rfl⟩
  subst hv
  have h2:=ha.2 0 (.r (.str s)) v rfl rfl
  cases h2 with
  | r h2=>
   cases h2 with
   | str s=>
    refine (Any.utf8_ValidString L s x.w (by rw [Lib.size_eq]; exact hl) (by rw [h3,h4]; exact Wg hok (by decide))).mono fun e w' ⟨he,hb⟩=>?_
    exact ⟨_,he,hb,fun y=>.r (.bool _)⟩
 ·cases h
end Go.Proofs.YtioekebmplhlmaaGreatDoor.Al

namespace Go.Proofs.YtioekebmplhlmaaGreatDoor.Al
noncomputable def dG (m:Nat):Nat→Nat:=At m
theorem XR {k:Nat} {i:Nat→Nat} {q:Nat} (h:q<k):dG (Ca ((List.range k).map i)) q=i q:=by
 unfold dG At
 rw [Lv,List.getD_eq_getElem?_getD,List.getElem?_map,List.getElem?_range h]; rfl
theorem WQ {P:Program} {o:Oper} {R:AU} {h:AN} {n:Nat} {f:FuncId} {fo:Operand} {xs:Array Operand} {ats:Array TypeId} {caps bs:List AV} (L:List Nat) (k:Nat) {hc:AN} {r:(Nat→Nat)→AV} {h0:(Nat→Nat)→AN}
  (ho:o.op = .call { callee:=.value fo,args:=xs,argTypes:=ats }) (hfo:Ev true R fo (.fn f (Cv L caps))) (hcc:ED L.length caps=true) (hx:GD R L xs.toList bs) (hsh:EM h L hc) (hnd:L.Nodup)
  (hcon:A1 P f L.length (bs++caps) hc (fun rr h'=>∃ i:Nat→Nat,rr=r i∧h'=h0 i)) (hloc : ∀ i j:Nat→Nat,(∀ q,q<k→i q=j q)→r i=r j∧h0 i=h0 j) :
  G0 P o R h n (fun m=>ren L (r (dG m))) (fun m=>DM L (h0 (dG m)) 1000 L++h):=by
 intro x a hok hH _ he K Q hK
 refine Ny ho hfo hcc hx hsh hnd hcon hok hH he K Q fun u y rr h' k1 k2 k3 k4 ⟨i,k5,k6⟩=>?_
 obtain ⟨e1,e2⟩:=hloc (dG (Ca ((List.range k).map i))) i fun q hq=>XR hq
 subst k5; subst k6
 exact hK u y (Ca ((List.range k).map i)) k1 k2 (by dsimp only; rw [e2]; exact k3) (by dsimp only; rw [e1]; exact k4)
theorem XP {a b c:Nat} {A B C C':Option AT} {r:AN} (hac:Nat.beq a c=false) (hbc:Nat.beq b c=false) (j:Nat):hget ((a,A) :: (b,B) :: (c,C') :: (a,A) :: (b,B) :: (c,C) :: r) j=hget ((c,C') :: (a,A) :: (b,B) :: (c,C) :: r) j:=by
 have h1:=Nat.ne_of_beq_eq_false hac
 have h2:=Nat.ne_of_beq_eq_false hbc
 simp only [Bb]
 grind
theorem Wx {P:Program} {t sz by_:Nat} {z:Option Value} (h:(P.info? t).map (fun i=>(i.zero,i.size,i.bytes))=some (z,sz+1,by_)) : ∃ j0,P.info? t=some j0∧j0.size≠0:=by
 rw [Option.map_eq_some_iff] at h
 obtain ⟨i,h1,h2⟩:=h
 exact ⟨i,h1,by simp at h2; omega⟩
theorem TD {P:Program} {c:Bool} {o:Oper} {R:AU} {h:AN} {t t' te:TypeId} {x y:Operand} {id g i k:Nat} {ob:AT} (ho:o.op = .binOp .eql t x y t') (ht:P.underlying t=some (.pointer te)) (hx:Ev c R x (.ptr id g i k)) (hy:Ev c R y (.cst (.pointer none)))
  (hh:hget h id=some ob) (hg:ob.gen=g):AY P c o R h (.r (.bool false)):=by
 intro hc z w hok hH he
 have hHid:z.H id=some ob:=by rw [hH]; exact hh
 refine ⟨.bool false,fun w2 hag=>?_,.r (.bool _)⟩
 have hxv:=hx.rep he hc
 have hyv:=hy.rep he hc
 generalize hx1:w.eval x=v at hxv
 generalize hy1:w.eval y=u at hyv
 cases hyv with
 | cst=>
 cases hxv with
 | ptr _ _ hv=>
  obtain ⟨b,cap,_,k2⟩:=hv ob hHid hg
  have ht':P.underlying t=some (.pointer (P.pointee t)):=by unfold Program.pointee; rw [ht]
  unfold execOp
  rw [ho]
  simp only [hx1,hy1,k2,Sem.run_bind]
  rw [show (eqGuard .eql t x y (.pointer (some ⟨b,i * ob.shape.2.1+k,none⟩)) (.pointer none)).run P w2 = .ok () w2 from by simp [eqGuard]]
  simp only [Result.andThen_ok,run_eql_pointer_nil _ _ _ ht']
  rfl
theorem XS {P:Program} {c:Bool} {o:Oper} {R:AU} {h:AN} {t kt et:TypeId} {x:Operand} {id g co:Nat} {js:List Int} (ho:o.op = .call { callee:=.builtin .len,args:=#[x],argTypes:=#[t] }) (ht:P.underlying t=some (.map kt et)) (hx:Ev c R x (.mref id g)) (hh:hget h id=some (.ml g (js.map fun j=>At co j.toNat))) :
  AY P c o R h (.r (.int .i64 js.length)):=by
 have:=Ti ho ht hx hh
 rwa [List.length_map] at this
theorem YP {P:Program} {ops:Array Oper} {rest:List Oper} {s:St} {K:St→Prop} {o:Oper} {d:Nat} {t t' e:TypeId} {x:Operand} {xs:List (List RV)} (hg:o.guard=none) (hd:o.dst=some d) (hN:Nat.blt d s.N=true)
  (ho:o.op = .binOp .eql t x (.const (.slice none 0 0)) t') (ht:P.underlying t=some (.slice e)) (hx:Av s.e x = .r (.sl xs))
  (hT:xs=[]→AK P ops rest { e:=(d,.r (.bool true)) :: s.e,h:=s.h,n:=s.n,N:=s.N } K) (hF:AK P ops rest { e:=(d,.r (.bool false)) :: s.e,h:=s.h,n:=s.n,N:=s.N } K):AK P ops (o :: rest) s K:=by
 intro c0 a w ⟨_,hdef,hsz,z,hyw,hle,hok,hH,hn,he⟩ Q hQ
 subst hyw
 have hxv:=he.eval x
 rw [hx] at hxv
 obtain ⟨b,hb,hrun⟩ : ∃ b:Bool,(b=true→xs=[])∧(binOp .eql t (a.eval x) (.slice none 0 0)).run P z.w = .ok (.bool b) z.w∧(eqGuard .eql t x (.const (.slice none 0 0)) (a.eval x) (.slice none 0 0)).run P z.w = .ok () z.w:=by
  generalize a.eval x=v at hxv
  have hq : ∀ (v:Value) (b:Bool),(∀ k:Nat,(Op.equalIn (k+1) t v (.slice none 0 0)).run P z.w = .ok b z.w)→(binOp .eql t v (.slice none 0 0)).run P z.w = .ok (.bool b) z.w:=fun v b h=>by
   simp only [binOp]
   simp [Op.equal,Op.maxDepth,h 9999]
  cases hxv with
  | r h=>
   cases h with
   | snil=>exact ⟨true,fun _=>rfl,hq _ _ fun k=>by simp [Op.equalIn,run_underlying ht],by simp [eqGuard]⟩
   | sl0=>exact ⟨false,fun h=>(by cases h),hq _ _ fun k=>by simp [Op.equalIn,run_underlying ht],by simp [eqGuard]⟩
   | sl=>exact ⟨false,fun h=>(by cases h),hq _ _ fun k=>by simp [Op.equalIn,run_underlying ht],by simp [eqGuard]⟩
 refine wpList_plain hg fun K' hK'=>?_
 have hstep:K' (a.put o.dst (.bool b)) z.w:=by
  refine hK' _ _ ?_
  have hN':d<a.tmps.size:=by simp_all
  rw [hd]
  have hs:Bz c0 { e:=(d,.r (.bool b)) :: s.e,h:=s.h,n:=s.n,N:=s.N } (a.put (some d) (.bool b)) z.w:=⟨_,hdef,by simpa [Act.put] using hsz,z,rfl,hle,hok,hH,hn,he.put hN' (.r (.bool b))⟩
  cases b with
  | true=>exact hT (hb rfl) c0 _ z.w hs Q hQ
  | false=>exact hF c0 _ z.w hs Q hQ
 unfold Oper.wp execOp
 rw [ho]
 have hev:a.eval (.const (.slice none 0 0)) = .slice none 0 0:=rfl
 simp only [hev,Sem.run_bind,hrun.1,hrun.2,Result.andThen_ok]
 exact hstep
theorem Rx {α:Type} {row:α→List RV} {s:St} {l:List α} {x:α} (F b k:Nat) {gF vF co gb:Nat} {e:TypeId} (h2:Nat.beq F b=false)
  (hF:hget s.h F=some (.fam gF vF co e (l.map row))) (hb:hget s.h b=some (.box gb e ((row x).map .r))) (hk:get s.e k = .ptr b gb 0 0) :
  ∀ c0 a w,Bz c0 s a w → ∃ d,Bz c0 ⟨(k,.r (.ptr (At (A0 l.length co d) (l.length:Int).toNat))) :: s.e,(b,none) :: (F,some (.fam gF s.n (A0 l.length co d) e ((l++[x]).map row))) :: s.h,s.n+1,s.N⟩ a w:=by
 have:=TU F b k h2 hF hb hk
 rw [List.length_map] at this
 rw [List.map_append]
 exact this
section
variable {P:Program} {ops:Array Oper}
theorem Pw (q0:Nat) {c0:Cx} {s:St} {L:List PO} {n g:Nat} {l:List Oper} {Q:Exit→Act→World→Prop} (hl:l.toArray=ops) (hn:n≤ops.size) (htw : ∀ listed,HeadInv .any ops n listed → ∀ i0,i0<n→listed.getD i0 false=false → ∀ i∈Region.ready .any ops listed,i<n) (hLn:L.length=n) (hback:GN ops n=true)
  (hD:F3 ops L=true) (hE:EZ L=true) (hH:Fj ops L=true) (hLoc:Dt L) (hOb : ∀ (i:Nat) (p:PO) (o:Oper),q0≤i→L[i]? = some p→l[i]? = some o→Ob P ops s L i p o)
  (hend : ∀ listed a w,HeadInv .any ops n listed→(∀ j,j<n→listed.getD j false=true)→Dc c0 s L listed a w→wpAny P .any ops Q g listed a w) :
  ∀ (f:Nat) (listed:Array Bool) (a:Act) (w:World),B4 listed n=f→(∀ j,j<q0→listed.getD j false=true)→HeadInv .any ops n listed→Dc c0 s L listed a w→wpAny P .any ops Q (f+g) listed a w:=by
 intro f
 induction f with
 | zero=>
  grind [Mw]
 | succ f ih=>
  intro listed a w hcnt hq0 inv hinv
  rw [show f+1+g=(f+g)+1 by omega]
  obtain ⟨i0,hi0,hun0,hbefore⟩:=OC (listed:=listed) (n:=n) (by omega)
  have hs0:i0<listed.size:=by rw [inv.size]; omega
  have hready0:i0∈Region.ready .any ops listed:=by
   refine mem_ready.2 ⟨getD_in hs0 hun0,?_⟩
   have hio : ∃ o,ops[i0]? = some o:=⟨ops[i0]'(by omega),by simp [Array.getElem?_eq_getElem (show i0<ops.size by omega)]⟩
   obtain ⟨o,ho⟩:=hio
   refine ⟨o,ho,fun e he hb=>?_⟩
   have h1:=List.all_eq_true.1 hback i0 (List.mem_range.2 hi0)
   simp only [ho] at h1
   have h2:=(Array.all_eq_true_iff_forall_mem.1 h1) e he
   grind
  refine ⟨fun h=>(by rw [h] at hready0; cases hready0),fun i hi=>?_⟩
  have hin:i<n:=htw listed inv i0 hi0 hun0 i hi
  obtain ⟨hun,o,ho,hall⟩:=mem_ready.1 hi
  have hunf:=getD_both hun
  have his:i<listed.size:=by grind
  obtain ⟨p,hp⟩ : ∃ p,L[i]? = some p:=⟨L[i]'(by omega),by simp [List.getElem?_eq_getElem (show i<L.length by omega)]⟩
  have hol:l[i]? = some o:=by grind
  have hqi:q0≤i:=by
   rcases Nat.lt_or_ge i q0 with h | h
   ·have:=hq0 i h; rw [hunf] at this; cases this
   ·exact h
  have hob:=hOb i p o hqi hp hol
  have hrd:A9 ops (fun k=>listed.getD k false) i:=by
   refine ⟨fun j k hj hk=>?_,fun k hk=>?_,hunf⟩
   ·obtain ⟨oj,hoj,e,he,hb,hon⟩:=Region.waitsFor_spec hk
    rw [← hon]; exact inv.closed j oj hoj hj e he hb
   ·obtain ⟨oi,hoi,e,he,hb,hon⟩:=Region.waitsFor_spec hk
    grind
  have step:=Dc.step (Q:=Q) hp ho hob hE hH hD hLoc his hrd hinv
  refine wpOp_mono (fun a' w' h'=>ih _ a' w' (by grind [Nt]) (fun j hj=>by rw [getD_set_ne false (by omega)]; exact hq0 j hj) (inv.set hi hin) h') step
def N1 (ops:Array Oper) (n:Nat):Bool:=(List.range n).all (fun i=>wt ops 40 n i) && (List.range ops.size).all fun t=>Nat.ble t n || (List.range t).any fun u=>Nat.ble n u && Region.waitsFor .any ops t u
theorem Rr {n:Nat} (hB:N1 ops n=true) {listed:Array Bool} (inv:HeadInv .any ops n listed) {i0:Nat} (hi0:i0<n) (hun:listed.getD i0 false=false) : ∀ i∈Region.ready .any ops listed,i<n:=by
 intro i hi
 rcases Nat.lt_or_ge i n with h | h
 ·exact h
 exfalso
 obtain ⟨_,o,ho,hall⟩:=mem_ready.1 hi
 have hw : ∀ k,Region.waitsFor .any ops i k=true→listed.getD k false=true:=fun k hk=>by
  obtain ⟨oi,hoi,e,he,hb,hon⟩:=Region.waitsFor_spec hk
  rw [ho] at hoi; cases hoi
  rw [← hon]; exact hall e he hb
 have hcl:Cl ops (fun k=>listed.getD k false):=fun j k hj hk=>by
  obtain ⟨oj,hoj,e,he,hb,hon⟩:=Region.waitsFor_spec hk
  rw [← hon]; exact inv.closed j oj hoj hj e he hb
 unfold N1 at hB
 rw [Bool.and_eq_true] at hB
 have hlt:i<ops.size:=(Array.getElem?_eq_some_iff.1 ho).1
 by_cases hin:i=n
 ·subst hin
  have h1:=List.all_eq_true.1 hB.1 i0 (List.mem_range.2 hi0)
  unfold wt at h1
  rw [Bool.or_eq_true] at h1
  rcases h1 with h1 | h1
  ·have:=hw i0 h1; rw [hun] at this; cases this
  ·obtain ⟨m,_,h3⟩:=List.any_eq_true.1 h1
   rw [Bool.and_eq_true] at h3
   have:=hcl.wt 39 m i0 h3.2 (hw m h3.1)
   rw [hun] at this; cases this
 ·have h1:=List.all_eq_true.1 hB.2 i (List.mem_range.2 hlt)
  rw [Bool.or_eq_true] at h1
  rcases h1 with h1 | h1
  ·have:=Nat.le_of_ble_eq_true h1; omega
  ·obtain ⟨u,hu,h3⟩:=List.any_eq_true.1 h1
   rw [Bool.and_eq_true] at h3
   have h4:=hw u h3.2
   have h5:=List.mem_range.1 hu
   have h6:=getD_both (inv.tail u (Nat.le_of_ble_eq_true h3.1) (by omega))
   rw [h4] at h6; cases h6
theorem Ws {o:Oper} {a:Act} {K:Act→World→Prop} {Q Q':Exit→Act→World→Prop} (hQ : ∀ e a w,e ≠ .normal→Q e a w→Q' e a w) {r:Result Next} (h:o.upon P a K Q r):o.upon P a K Q' r:=by
 have hL:LetsOut Q→LetsOut Q':=fun ⟨a,w,h⟩=>⟨a,w,hQ _ a w (by simp) h⟩
 cases r with
 | ok n w'=>
  cases n with
  | enter f args=>
   simp only [Oper.upon] at h ⊢
   refine h.mono fun e w2 h2=>?_
   cases e with
   | returned v=>exact h2
   | panicked chain=>exact hQ _ _ _ (by simp) h2
   | outgrown=>exact hL h2
  | _=>exact h
 | halt s w'=>
  cases s with
  | panic v=>exact hQ _ _ _ (by simp) h
  | _=>exact h
theorem SI {i:Nat} {o:Oper} {rest:List Oper} {a:Act} {w:World} {Q Q':Exit→Act→World→Prop} (hQ : ∀ e a w,e ≠ .normal→Q e a w→Q' e a w) (ho:ops[i]? = some o) (h:wpList P ops Q (o :: rest) a w):wpOp P ops Q' i (wpList P ops Q rest) a w:=by
 unfold wpOp
 simp only [ho]
 unfold wpList at h
 split
 ·rename_i hw
  rw [if_pos hw] at h
  exact h.imp (Ws hQ) fun ⟨h1,a,w,h2⟩=>⟨h1,a,w,hQ _ a w (by simp) h2⟩
 ·rename_i hw
  rw [if_neg hw] at h
  exact h
def NL (ops:Array Oper) (q:Nat) (L:List PO):Bool:=decide (L.length=ops.size) && F3 ops L && EZ L && Fj ops L && (L.take q).all fun p=>p.d.isNone && p.hp.isNone
def IZ (P:Program) (l:List Oper) (q:Nat) (K:St→Prop) (s:St):Prop:=
 ∃ L:List PO,NL l.toArray q L=true∧Dt L∧E0 P l.toArray s L q (L.drop q) (l.drop q) ∧
  ∀ (G:Nat→Nat) (n':Nat),∃ s',Ac ⟨BU (fun _=>true) G s.e L,Bo (fun _=>true) G s.h L,n',s.N⟩ s'∧K s'
theorem IZ.mk {l:List Oper} {q:Nat} {K:St→Prop} {s:St} (L:List PO) {L2:List PO} {l2:List Oper} (hB:NL l.toArray q L=true) (hLoc:Dt L) (e1:L.drop q=L2) (e2:l.drop q=l2) (hOb:E0 P l.toArray s L q L2 l2)
  (h : ∀ (G:Nat→Nat) (n':Nat),∃ s',Ac ⟨BU (fun _=>true) G s.e L,Bo (fun _=>true) G s.h L,n',s.N⟩ s'∧K s'):IZ P l q K s:=⟨L,hB,hLoc,by subst e1; subst e2; exact hOb,h⟩
def Tu:PO:=⟨none,fun _=>.any,none,[]⟩
theorem O5 {listed:Array Bool} {q:Nat} (h : ∀ j,listed.getD j false=decide (j<q)) : ∀ m,B4 listed m=m-q
 | 0=>by simp [B4]
 | m+1=>by
  unfold B4
  rw [O5 h m,h m]
  by_cases hm:m<q <;> simp [hm] <;> omega
theorem VR {l:List Oper} {q:Nat} {K:St→Prop} {s:St} {c0:Cx} {Q':Exit→Act→World→Prop} (_hq:q≤l.toArray.size) (hback:GN l.toArray l.toArray.size=true) {listed:Array Bool} (hsz:listed.size=l.toArray.size) (hlq : ∀ j,listed.getD j false=decide (j<q)) {a:Act} {w:World}
  (hT:IZ P l q K s) (hs:Bz c0 s a w) (hQ : ∀ s' a' w',K s'→Bz c0 s' a' w'→Q' .normal a' w'):wpAny P .any l.toArray Q' (l.toArray.size-q) listed a w:=by
 obtain ⟨L,hB,hLoc,hOb,h⟩:=hT
 simp only [NL,Bool.and_eq_true,decide_eq_true_eq] at hB
 obtain ⟨⟨⟨⟨b1,b2⟩,b3⟩,b4⟩,b5⟩:=hB
 have hno : ∀ j p,j<q→L[j]? = some p→p.d=none∧p.hp=none:=fun j p hj hp=>by
  have:=List.all_eq_true.1 b5 p (by rw [List.mem_iff_getElem?]; exact ⟨j,by rw [List.getElem?_take,if_pos hj]; exact hp⟩)
  simpa using this
 obtain ⟨ds,f1,f2,y,f3,f4,f5,f6,f7,f8⟩:=hs
 have key:=Pw q (P:=P) (c0:=c0) (s:=s) (L:=L) (n:=l.toArray.size) (g:=0) (l:=l) (Q:=Q') rfl (Nat.le_refl _) (fun lst inv i0 hi0 hun i hi=>by
   obtain ⟨_,o,ho,_⟩:=mem_ready.1 hi
   exact (Array.getElem?_eq_some_iff.1 ho).1) b1 hback b2 b3 b4 hLoc (fun i p o hi hp ho=>by
   have:=hOb.at (j:=i-q) (p:=p) (o:=o) (by rw [List.getElem?_drop,show q+(i-q)=i by omega]; exact hp) (by rw [List.getElem?_drop,show q+(i-q)=i by omega]; exact ho)
   rwa [show q+(i-q)=i by omega] at this)
  (fun listed a' w' inv hall hinv=>by
   obtain ⟨_,i1,i2,z',G,i3,i4,i5,i6,i7⟩:=hinv
   subst i3
   have hD : ∀ j,0≤j→j<0+L.length→(fun _=>true) j=(fun k=>listed.getD k false) j:=fun j _ hj=>(hall j (by omega)).symm
   obtain ⟨s',hw,hk⟩:=h G z'.n
   refine ⟨List.eq_nil_iff_forall_not_mem.2 fun i hi=>?_,hQ _ a' z'.w hk (hw _ _ _ ⟨_,i1,i2,z',rfl,i4,i5,funext fun id=>?_,rfl,fun t=>?_⟩)⟩
   ·obtain ⟨hun,o,ho,_⟩:=mem_ready.1 hi
    have hlt:=(Array.getElem?_eq_some_iff.1 ho).1
    have:=getD_both hun
    rw [hall i hlt] at this; cases this
   ·rw [i6]; exact congrArg (fun e=>hget e id) (Gv L _ 0 hD).symm
   ·rw [show BU (fun _=>true) G s.e L=BU (fun k=>listed.getD k false) G s.e L from Gv L _ 0 hD]; exact i7 t)
  (B4 listed l.toArray.size) listed a w rfl (fun j hj=>by rw [hlq]; simp [hj])
  ⟨hsz,fun j oj hoj hj e he hb=>by
   rw [hlq] at hj
   have hj:j<q:=by simpa using hj
   have h1:=List.all_eq_true.1 hback j (List.mem_range.2 (Array.getElem?_eq_some_iff.1 hoj).1)
   simp only [hoj] at h1
   have h2:=(Array.all_eq_true_iff_forall_mem.1 h1) e he
   rw [hb] at h2
   have h3:e.on<j:=by simpa using h2
   rw [hlq]; simp; omega,fun t h1 h2=>by omega⟩
  ⟨ds,f1,f2,y,fun _=>0,f3,f4,f5,fun id=>by
   rw [f6]; exact (Di Bb L _ 0 fun j p v h1 h2 h3=>by
    rw [Nat.zero_add,hlq] at h2
    have:=(hno j p (by simpa using h2) h1).2
    obtain ⟨ob,h4,_⟩:=Ka h3
    rw [this] at h4; cases h4).symm,fun t=>by
   have e1:get (BU (fun k=>listed.getD k false) (fun _=>0) s.e L) t=get s.e t:=Di C3 L _ 0 fun j p v h1 h2 h3=>by
    rw [Nat.zero_add,hlq] at h2
    have:=(hno j p (by simpa using h2) h1).1
    have h4:=(OO h3).1
    rw [this] at h4; cases h4
   rw [e1]; exact f8 t⟩
 rwa [O5 hlq,Nat.add_zero] at key
def Ld (ops:Array Oper):Nat→Nat→Array Bool→Bool
 | 0,_,_=>true
 | m+1,k,listed=>Region.ready .any ops listed == [k] && Ld ops m (k+1) (listed.setIfInBounds k true)
theorem Pg {l0:List Oper} {c0:Cx} {Q':Exit→Act→World→Prop} {K:St→Prop} {q:Nat} (hq:q≤l0.toArray.size) (hback:GN l0.toArray l0.toArray.size=true) (hQ : ∀ s' a' w',K s'→Bz c0 s' a' w'→Q' .normal a' w') :
  ∀ (l:List Oper) (k:Nat) (listed:Array Bool) (a:Act) (w:World),(∀ j,j<l.length→l[j]? = l0.toArray[k+j]?)→k+l.length=q→listed.size=l0.toArray.size→(∀ j,listed.getD j false=decide (j<k))→Ld l0.toArray l.length k listed=true →
  wpList P l0.toArray (fun e a w=>match e with | .normal=>∃ s,IZ P l0 q K s∧Bz c0 s a w | e=>Q' e a w) l a w→wpAny P .any l0.toArray Q' (l.length+(l0.toArray.size-q)) listed a w
 | [],k,listed,a,w,_,hk,hsz,hlq,_,h=>by
  obtain rfl:k=q:=by simpa using hk
  obtain ⟨s,h3,h4⟩:=h
  rw [List.length_nil,Nat.zero_add]
  exact VR hq hback hsz hlq h3 h4 hQ
 | o :: l,k,listed,a,w,hl,hk,hsz,hlq,hB,h=>by
  have h0:l0.toArray[k]? = some o:=by simpa using (hl 0 (by simp)).symm
  have hlen:(o :: l).length+(l0.toArray.size-q)=(l.length+(l0.toArray.size-q))+1:=by simp; omega
  rw [hlen]
  rw [List.length_cons] at hB
  unfold Ld at hB
  simp only [Bool.and_eq_true,beq_iff_eq] at hB
  have hks:k<listed.size:=by rw [hsz]; exact (Array.getElem?_eq_some_iff.1 h0).1
  refine ⟨fun h3=>(by rw [hB.1] at h3; cases h3),fun i hi=>?_⟩
  rw [hB.1] at hi
  obtain rfl:i=k:=by simpa using hi
  refine wpOp_mono (fun a' w' h'=>?_) (SI (Q':=Q') (fun e a w he h=>by cases e <;> first | exact absurd rfl he | exact h) h0 h)
  refine Pg hq hback hQ l (i+1) (listed.setIfInBounds i true) a' w' (fun j hj=>by have:=hl (j+1) (by simp; omega); simpa [Nat.add_assoc,Nat.add_comm 1 j] using this) (by simp at hk; omega) (by simpa using hsz) (fun j=>?_) hB.2 h'
  by_cases hj:i=j
  ·subst hj; simp [hks]
  ·rw [getD_set_ne false hj,hlq]; grind
def PU (ops:Array Oper) (n q:Nat) (L:List PO):Bool:=
 decide (n<ops.size) && N1 ops n && decide (L.length=n) && GN ops n && F3 ops L && EZ L && Fj ops L && Ld ops (q-n) n (Bs (Array.replicate ops.size false) (List.range n)) && decide (q≤ops.size) && GN ops ops.size
theorem YF {id:Nat} {l:List Oper} {s:St} {Q:Exit→St→Prop} (n q:Nat) (L:List PO) {lt:List Oper} (hm:P.follows .mixedOrders=true) (hB:PU l.toArray n q L=true) (hLoc:Dt L)
  (e4:(l.drop n).take (q-n)=lt) (hnq:Nat.ble n q=true) (hOb:E0 P l.toArray s L 0 L l)
  (h : ∀ (G:Nat→Nat) (n':Nat),AK P l.toArray lt ⟨BU (fun _=>true) G s.e L,Bo (fun _=>true) G s.h L,n',s.N⟩ (IZ P l q (Q .normal))):AW P (.region id l.toArray true) Q s:=by
 intro z0 hz0 c0 a w ⟨_,hdef,hsz,y,hyw,hle,hok,hH,hn,he⟩
 subst hyw
 obtain ⟨r1,r2⟩:=OU hok
 simp only [PU,Bool.and_eq_true,decide_eq_true_eq] at hB
 obtain ⟨⟨⟨⟨⟨⟨⟨⟨⟨b0,b1⟩,b2⟩,b3⟩,b6⟩,b7⟩,b8⟩,b9⟩,b10⟩,b11⟩:=hB
 have hnq:=Nat.le_of_ble_eq_true hnq
 have hnle:n≤l.toArray.size:=by grind
 have hltl:lt.length=q-n:=by
  rw [← e4]; simp at b10 ⊢; omega
 refine K1 Mk hm hz0 ?_
 generalize hz:({ y with w:={ y.w with drawn:=y.w.drawn+1 } } : Cx)=z at r1 r2
 have hzw:z.w = { y.w with drawn:=y.w.drawn+1 }:=by rw [← hz]
 have hzH:z.H=hget s.h:=by grind
 rw [← hzw]
 have hrep : ∀ j,(Array.replicate l.toArray.size false).getD j false=false:=getD_replicate_false _
 have key:=Pw 0 (P:=P) (c0:=c0) (s:=s) (L:=L) (n:=n) (g:=l.toArray.size-n) (l:=l) (Q:=Dj c0 Q) rfl hnle (fun listed inv i0 hi0 hun=>Rr b1 inv hi0 hun) b2 b3 b6 b7 b8 hLoc (fun i p o _ h1 h2=>by have:=hOb.at h1 h2; rwa [Nat.zero_add] at this)
  (fun listed a' w' inv hall hinv=>by
   have hlq : ∀ j,listed.getD j false=decide (j<n):=fun j=>by
    by_cases hj:j<n
    ·simp [hj,hall j hj]
    ·by_cases hjs:j<l.toArray.size
     ·rw [getD_both (inv.tail j (by omega) hjs)]; simp [hj]
     ·rw [Array.getD_eq_getD_getElem?,Array.getElem?_eq_none (by rw [inv.size]; omega)]; simp [hj]
   obtain ⟨_,i1,i2,z',G,i3,i4,i5,i6,i7⟩:=hinv
   subst i3
   have hD : ∀ j,0≤j→j<0+L.length→(fun _=>true) j=(fun k=>listed.getD k false) j:=fun j _ hj=>(hall j (by omega)).symm
   have hg:l.toArray.size-n=lt.length+(l.toArray.size-q):=by omega
   rw [hg]
   refine Pg (P:=P) (c0:=c0) (K:=Q .normal) (q:=q) b10 b11 (fun s'' a'' w'' j1 j2=>⟨by simp,s'',j1,j2⟩) lt n listed a' z'.w (fun j hj=>by
    rw [← e4,List.getElem?_take,if_pos (by omega)]; simp) (by omega) inv.size hlq ?_ ?_
   ·have h3:listed=Bs (Array.replicate l.toArray.size false) (List.range n):=by
     have hsz1:listed.size=(Bs (Array.replicate l.toArray.size false) (List.range n)).size:=by rw [inv.size,NH]; simp
     refine Array.ext hsz1 fun j h1 h2=>?_
     have h3:=N2 (List.range n) (Array.replicate l.toArray.size false) j (fun i hi=>by have:=List.mem_range.1 hi; rw [Array.size_replicate]; omega)
     rw [hrep] at h3
     have e1:listed[j]=listed.getD j false:=by simp_all
     have e2:(Bs (Array.replicate l.toArray.size false) (List.range n))[j]=(Bs (Array.replicate l.toArray.size false) (List.range n)).getD j false:=by unfold Array.getD; rw [dif_pos h2]; rfl
     rw [e1,e2,h3,hlq]
     by_cases hj:j<n <;> simp [hj]
    rw [h3,hltl]; exact b9
   ·refine h G z'.n c0 a' z'.w ⟨_,i1,i2,z',rfl,i4,i5,funext fun id=>?_,rfl,fun t=>?_⟩ _ fun s'' a'' w'' j1 j2=>⟨s'',j1,j2⟩
    ·grind [hget,CJ,Gv]
    ·grind [get,CJ,Gv])
  n (Array.replicate l.toArray.size false) a z.w (Nd hrep n) (fun j hj=>by omega)
  ⟨by simp,fun j oj _ hl=>(by rw [hrep] at hl; cases hl),fun t _ ht=>getD_in (by simpa using ht) (hrep _)⟩
  ⟨_,hdef,hsz,z,fun _=>0,rfl,hle.trans r1,r2,fun id=>by rw [hzH]; exact (Di Bb L _ 0 fun j p _ _ h1=>by rw [hrep] at h1; cases h1).symm,fun t=>by
   have e1:get (BU (fun k=>(Array.replicate l.toArray.size false).getD k false) (fun _=>0) s.e L) t=get s.e t:=Di C3 L _ 0 fun j p _ _ h1=>by rw [hrep] at h1; cases h1
   rw [e1]
   exact (he t).mono r1⟩
 grind
end
theorem iL {α:Sort _} {x:α} {p:Prop} : x=x∨p:=.inl rfl
section
variable {P:Program} {ops:Array Oper} {rest:List Oper} {s:St} {K:St→Prop} {o:Oper}
theorem sQ {d:Nat} {v:AV} (hg:(o.guard,o.dst,Nat.blt d s.N)=(none,some d,true)) (hs:AY P true o s.e s.h v)
  (hr:AK P ops rest { e:=(d,v) :: s.e,h:=s.h,n:=s.n,N:=s.N } K):AK P ops (o :: rest) s K:=
 AK.step (Prod.mk.inj hg).1 (Prod.mk.inj (Prod.mk.inj hg).2).1 (Prod.mk.inj (Prod.mk.inj hg).2).2 (B2 hs _) hr
theorem sM {d:Nat} {x:Operand} (hg:(o.guard,o.dst,Nat.blt d s.N)=(none,some d,true)) (ho:o.op = .move x)
  (hr:AK P ops rest { e:=(d,Av s.e x) :: s.e,h:=s.h,n:=s.n,N:=s.N } K):AK P ops (o :: rest) s K:=sQ hg (Lt ho (.inl rfl)) hr
end
theorem jL {α:Sort _} {x:α} {p q:Prop} : (x=x∨p)∨q:=.inl (.inl rfl)
theorem iR {c:Bool} {R:AU} {x:Operand} {v:AV} (h:Av R x = .whn c v):Ev c R x v:=.inr ⟨c,id,h⟩
theorem nL {n:Nat} : n≤n:=Nat.le_refl n
theorem fR {α β:Sort _} {x:β} (_:α):x=x:=rfl
section
variable {P:Program} {ops:Array Oper} {rest:List Oper} {s:St} {K:St→Prop} {o:Oper}
theorem sA {d:Nat} {x:Operand} (hg:(o.guard,o.dst,Nat.blt d s.N)=(none,some d,true)) (ho:o.op = .assign x)
  (hr:AK P ops rest { e:=(d,Av s.e x) :: s.e,h:=s.h,n:=s.n,N:=s.N } K):AK P ops (o :: rest) s K:=sQ hg (Co ho (.inl rfl)) hr
theorem aZ (h:K s):AK P ops [] s K:=AK.nil h
end
section
variable {P:Program} {Q:Exit→St→Prop} {s:St} {x y:Code}
theorem aS (h : ∀ K:St→Prop,(∀ s,AW P y Q s→K s)→(∀ s s',Ac s s'→K s'→K s)→AW P x (EF K Q) s):AW P (.seq x y) Q s:=Yb h
theorem aR {id:Nat} {l:List Oper} (h:AK P l.toArray l s (Q .normal)):AW P (.region id l.toArray false) Q s:=AW.region h
theorem aC {c:Operand} {b:Bool} (hc:Av s.e c = .r (.bool b)) (ht:b=true→AW P x Q s) (hf:b=false→AW P y Q s):AW P (.cond c x y) Q s:=AW.cond hc ht hf
end
theorem fB {P:Program} {c:Bool} {o:Oper} {R:AU} {h:AN} {t:TypeId} {x:Operand} {f off:Nat} {id g g' i k:Nat} {e:TypeId} {cs:List AV} (ho:o.op = .fieldAddr t x f) (ht:Ai P t f off) (hx:Ev c R x (.ptr id g i k)) (hh:c=true→hget h id=some (.box g' e cs))
  (hg:g'=g):AY P c o R h (.ptr id g i (k+off)):=Ft (ob:=.box g' e cs) ho ht hx hh hg
@[reducible] def rI (k:Int):AV:=.r (.int .i64 k)
@[reducible] def rB (b:Bool):AV:=.r (.bool b)
theorem oQ {P:Program} {ops:Array Oper} {s:St} {L:List PO} {i:Nat} {p:PO} {o:Oper} (ie:(Nat→Nat)→AU) (ih:(Nat→Nat)→AN)
  (hE : ∀ D G,A9 ops D i→DR (BU D G s.e L) (ie G)) (hH : ∀ D G,A9 ops D i→DN (Bo D G s.h L) (ih G)) (h : ∀ G e h',AY P true o (ie G++e) (ih G++h') (p.v G))
  (hg:o.guard=none:=by rfl) (hd:o.dst=p.d:=by rfl) (hN : ∀ d,p.d=some d→Nat.blt d s.N=true:=by intro d h; cases h; rfl) (hp:p.hp=none:=by rfl) (hv : ∀ G n,p.v (BW G i n)=p.v G:=by intros; rfl):Ob P ops s L i p o:=
 Mj (n1:=fun n=>n) hg hd hN hp ie ih hE hH hv fun G e h' _=>B2 (h G e h') _
@[reducible] def cZ:AV:=.cst (.slice none 0 0)
inductive A5 (e:AU):List Nat→AU→Prop
 | nil:A5 e [] []
 | cons {k:Nat} {ks:List Nat} {v:AV} {r:AU} (h:get e k=v) (t:A5 e ks r):A5 e (k :: ks) ((k,v) :: r)
inductive DI (e:AN):List Nat→AN→Prop
 | nil:DI e [] []
 | cons {k:Nat} {ks:List Nat} {v:AT} {r:AN} (h:hget e k=some v) (t:DI e ks r):DI e (k :: ks) ((k,some v) :: r)
theorem A5.cv {e:AU} {ks:List Nat} {e':AU} (h:A5 e ks e'):Kl e' e:=by
 induction h with
 | nil=>trivial
 | cons h _ ih=>exact ⟨.inl (.inl h),ih⟩
theorem DI.cv {e:AN} {ks:List Nat} {e':AN} (h:DI e ks e'):Jp e' e:=by
 induction h with
 | nil=>trivial
 | cons h _ ih=>exact ⟨.inl h,ih⟩
section
variable {e:AU} {k:Nat} {ks:List Nat} {r:AU}
theorem kR {d:RV} (t:A5 e ks r) (h:get e k = .r d):A5 e (k :: ks) ((k,.r d) :: r):=.cons h t
theorem kP {a b c d:Nat} (t:A5 e ks r) (h:get e k = .ptr a b c d):A5 e (k :: ks) ((k,.ptr a b c d) :: r):=.cons h t
theorem kO {a b:Nat} (t:A5 e ks r) (h:get e k = .own a b):A5 e (k :: ks) ((k,.own a b) :: r):=.cons h t
theorem kA {d:List AV} (t:A5 e ks r) (h:get e k = .agg d):A5 e (k :: ks) ((k,.agg d) :: r):=.cons h t
theorem kC {d:Value} (t:A5 e ks r) (h:get e k = .cst d):A5 e (k :: ks) ((k,.cst d) :: r):=.cons h t
theorem kT {d:List AV} (t:A5 e ks r) (h:get e k = .tup d):A5 e (k :: ks) ((k,.tup d) :: r):=.cons h t
theorem kF {f:FuncId} {d:List AV} (t:A5 e ks r) (h:get e k = .fn f d):A5 e (k :: ks) ((k,.fn f d) :: r):=.cons h t
theorem kQ {d:List RV} {i:Nat} (t:A5 e ks r) (h:get e k = .rop d i):A5 e (k :: ks) ((k,.rop d i) :: r):=.cons h t
theorem kM {a b:Nat} (t:A5 e ks r) (h:get e k = .mref a b):A5 e (k :: ks) ((k,.mref a b) :: r):=.cons h t
theorem kW {b:Bool} {v:AV} (t:A5 e ks r) (h:get e k = .whn b v):A5 e (k :: ks) ((k,.whn b v) :: r):=.cons h t
theorem kK {a b c d f:Nat} (t:A5 e ks r) (h:get e k = .pk a b c d f):A5 e (k :: ks) ((k,.pk a b c d f) :: r):=.cons h t
theorem kU {a b c:Nat} {d:Int} (t:A5 e ks r) (h:get e k = .fo a b c d):A5 e (k :: ks) ((k,.fo a b c d) :: r):=.cons h t
theorem kI {b:Bool} (t:A5 e ks r) (h:get e k = .ifc b):A5 e (k :: ks) ((k,.ifc b) :: r):=.cons h t
theorem kV {a b c:Nat} (t:A5 e ks r) (h:get e k = .pre a b c):A5 e (k :: ks) ((k,.pre a b c) :: r):=.cons h t
theorem kY {a b:Nat} (t:A5 e ks r) (h:get e k = .yld a b):A5 e (k :: ks) ((k,.yld a b) :: r):=.cons h t
theorem kL {xs:List (List RV)} (t:A5 e ks r) (h:get e k = .full xs):A5 e (k :: ks) ((k,.full xs) :: r):=.cons h t
end
section
variable {e:AN} {k:Nat} {ks:List Nat} {r:AN}
theorem hB {g:Nat} {t:TypeId} {cs:List AV} (t1:DI e ks r) (h:hget e k=some (.box g t cs)):DI e (k :: ks) ((k,some (.box g t cs)) :: r):=.cons h t1
theorem hA {g:Nat} {t:TypeId} {sz:Nat} {xs:List (List RV)} (t1:DI e ks r) (h:hget e k=some (.arr g t sz xs)):DI e (k :: ks) ((k,some (.arr g t sz xs)) :: r):=.cons h t1
theorem hC {o:AT} (t1:DI e ks r) (h:hget e k=some o):DI e (k :: ks) ((k,some o) :: r):=.cons h t1
end
section
variable {P:Program} {Q:Exit→St→Prop} {x y:Code}
theorem aF {e:AU} {h:AN} {n N:Nat} (ks:List Nat) {e':AU} (hr:AW P x Q ⟨e',[],n,N⟩)
  (he:A5 e ks e':=by repeat' first | exact A5.nil | apply kR _ rfl | apply kP _ rfl | apply kA _ rfl | apply kO _ rfl | apply kC _ rfl | apply kT _ rfl | apply kF _ rfl | apply kQ _ rfl | apply kM _ rfl | apply kW _ rfl | apply kL _ rfl | apply kK _ rfl | apply kU _ rfl | apply kI _ rfl | apply kV _ rfl | apply kY _ rfl):AW P x Q ⟨e,h,n,N⟩:=
 AW.weak (Ac.cv (h':=[]) he.cv trivial (Nat.le_refl _)) hr
theorem aG {e:AU} {h:AN} {n N:Nat} (ks js:List Nat) {e':AU} {h':AN} (hr:AW P x Q ⟨e',h',n,N⟩)
  (he:A5 e ks e':=by repeat' first | exact A5.nil | apply kR _ rfl | apply kP _ rfl | apply kA _ rfl | apply kO _ rfl | apply kC _ rfl | apply kT _ rfl | apply kF _ rfl | apply kQ _ rfl | apply kM _ rfl | apply kW _ rfl | apply kL _ rfl | apply kK _ rfl | apply kU _ rfl | apply kI _ rfl | apply kV _ rfl | apply kY _ rfl)
  (hh:DI h js h':=by repeat' first | exact DI.nil | apply hB _ rfl | apply hA _ rfl | apply hC _ rfl):AW P x Q ⟨e,h,n,N⟩:=
 AW.weak (Ac.cv he.cv hh.cv (Nat.le_refl _)) hr
end
section
variable {P:Program} {ops:Array Oper} {rest:List Oper} {K:St→Prop} {o o2:Oper} {e:AU} {h:AN} {n N:Nat}
theorem BJ (ks js:List Nat) {e':AU} {h':AN} (hr:AK P ops rest ⟨e',h',n,N⟩ K)
  (he:A5 e ks e':=by repeat' first | exact A5.nil | apply kR _ rfl | apply kP _ rfl | apply kA _ rfl | apply kO _ rfl | apply kC _ rfl | apply kT _ rfl | apply kF _ rfl | apply kQ _ rfl | apply kM _ rfl | apply kW _ rfl | apply kL _ rfl | apply kK _ rfl | apply kU _ rfl | apply kI _ rfl | apply kV _ rfl | apply kY _ rfl)
  (hh:DI h js h':=by repeat' first | exact DI.nil | apply hB _ rfl | apply hA _ rfl | apply hC _ rfl):AK P ops rest ⟨e,h,n,N⟩ K:=
 AK.weak (Ac.cv he.cv hh.cv (Nat.le_refl _)) hr
end
section
variable {P:Program} {ops:Array Oper} {rest:List Oper} {K:St→Prop} {o o2:Oper} {s:St}
theorem vQ {d j dj:Nat} {want b:Bool} {v:AV} (hg:(o.guard,o.dst,Nat.blt d s.N,(ops[j]?).bind (·.dst),Av s.e (.tmp dj))=(some (j,want),some d,true,some dj,.r (.bool b))) (hs:AY P (b == want) o s.e s.h v)
  (hr:AK P ops rest { e:=(d,.whn (b == want) v) :: s.e,h:=s.h,n:=s.n,N:=s.N } K):AK P ops (o :: rest) s K:=by
 simp only [Prod.mk.injEq] at hg
 obtain ⟨h1,h2,h3,h4,h5⟩:=hg
 exact AK.stepW (.one h1 h4 h5) h2 h3 (B2 hs _) hr
theorem wQ {d j dj:Nat} {want b c1:Bool} {v:AV} (hg:(o.guard,o.dst,Nat.blt d s.N,(ops[j]?).bind (·.dst),Av s.e (.tmp dj))=(some (j,want),some d,true,some dj,.whn c1 (.r (.bool b)))) (hs:AY P (c1 && (b == want)) o s.e s.h v)
  (hr:AK P ops rest { e:=(d,.whn (c1 && (b == want)) v) :: s.e,h:=s.h,n:=s.n,N:=s.N } K):AK P ops (o :: rest) s K:=by
 simp only [Prod.mk.injEq] at hg
 obtain ⟨h1,h2,h3,h4,h5⟩:=hg
 exact AK.stepW (.two h1 h4 h5) h2 h3 (B2 hs _) hr
theorem qP {d:Nat} {v:AV} (hg:(o.guard,o.dst,Nat.blt d s.N)=(none,some d,true)) (hs:AY P true o s.e s.h v)
  (hr:AQ P ops rest { e:=(d,v) :: s.e,h:=s.h,n:=s.n,N:=s.N } K):AQ P ops (o :: rest) s K:=by grind [AQ.step]
theorem qO {d j dj:Nat} {want b:Bool} {v:AV} (hg:(o.guard,o.dst,Nat.blt d s.N,(ops[j]?).bind (·.dst),Av s.e (.tmp dj))=(some (j,want),some d,true,some dj,.r (.bool b))) (hs:AY P (b == want) o s.e s.h v)
  (hr:AQ P ops rest { e:=(d,.whn (b == want) v) :: s.e,h:=s.h,n:=s.n,N:=s.N } K):AQ P ops (o :: rest) s K:=by
 simp only [Prod.mk.injEq] at hg
 obtain ⟨h1,h2,h3,h4,h5⟩:=hg
 exact AQ.stepW (.one h1 h4 h5) h2 h3 hs hr
theorem qT {d j dj:Nat} {want b c1:Bool} {v:AV} (hg:(o.guard,o.dst,Nat.blt d s.N,(ops[j]?).bind (·.dst),Av s.e (.tmp dj))=(some (j,want),some d,true,some dj,.whn c1 (.r (.bool b)))) (hs:AY P (c1 && (b == want)) o s.e s.h v)
  (hr:AQ P ops rest { e:=(d,.whn (c1 && (b == want)) v) :: s.e,h:=s.h,n:=s.n,N:=s.N } K):AQ P ops (o :: rest) s K:=by
 simp only [Prod.mk.injEq] at hg
 obtain ⟨h1,h2,h3,h4,h5⟩:=hg
 exact AQ.stepW (.two h1 h4 h5) h2 h3 hs hr
theorem sS {d:Nat} {v:AV} {h':AN} {n':Nat} (hg:(o.guard,o.dst,Nat.blt d s.N)=(none,some d,true)) (hs:BC P true o s.e s.h s.n v h' n')
  (hr:AK P ops rest { e:=(d,v) :: s.e,h:=h',n:=n',N:=s.N } K):AK P ops (o :: rest) s K:=by grind [AK.step]
theorem lF {t t2:TypeId} {x y:Operand} {f off id g i k d1 d2 id' g' k':Nat} {e1 e2:TypeId} {cs cs':List AV} {a:AV} (h1:Ai P t f off) (h2:A8 P t2)
  (q1:(o.guard,o.dst,Nat.blt d1 s.N,o.op,Av s.e x,hget s.h id)=(none,some d1,true,.fieldAddr t x f,.ptr id g i k,some (.box g e1 cs)))
  (q2:(o2.guard,o2.dst,Nat.blt d2 s.N,o2.op,Av ((d1,.ptr id g i (k+off)) :: s.e) y,hget s.h id',cs'[k']?)=(none,some d2,true,.load t2 y,.ptr id' g' 0 k',some (.box g' e2 cs'),some a))
  (hr:AK P ops rest { e:=(d2,a) :: (d1,.ptr id g i (k+off)) :: s.e,h:=s.h,n:=s.n,N:=s.N } K):AK P ops (o :: o2 :: rest) s K:=by
 simp only [Prod.mk.injEq] at q1 q2
 obtain ⟨a1,a2,a3,a4,a5,a6⟩:=q1
 obtain ⟨b1,b2,b3,b4,b5,b6,b7⟩:=q2
 exact AK.step a1 a2 a3 (B2 (Ft (ob:=.box g e1 cs) a4 h1 (.inl a5) (fun _=>a6) rfl) _) (AK.step b1 b2 b3 (B2 (M9 b4 h2 (.inl b5) b6 b7) _) hr)
theorem vF {t t2:TypeId} {x y:Operand} {f off id g i k d1 d2 id' g' k' j dj j2 dj2:Nat} {w b w2 b2:Bool} {e1 e2:TypeId} {cs cs':List AV} {a:AV} (h1:Ai P t f off) (h2:A8 P t2)
  (q1:(o.guard,o.dst,Nat.blt d1 s.N,(ops[j]?).bind (·.dst),Av s.e (.tmp dj),o.op,Av s.e x,hget s.h id)=(some (j,w),some d1,true,some dj,.r (.bool b),.fieldAddr t x f,.ptr id g i k,some (.box g e1 cs)))
  (q2:(o2.guard,o2.dst,Nat.blt d2 s.N,(ops[j2]?).bind (·.dst),Av ((d1,.whn (b == w) (.ptr id g i (k+off))) :: s.e) (.tmp dj2),o2.op,Av ((d1,.whn (b == w) (.ptr id g i (k+off))) :: s.e) y,hget s.h id',cs'[k']?)=(some (j2,w2),some d2,true,some dj2,.r (.bool b2),.load t2 y,.whn (b2 == w2) (.ptr id' g' 0 k'),some (.box g' e2 cs'),some a))
  (hr:AK P ops rest { e:=(d2,.whn (b2 == w2) a) :: (d1,.whn (b == w) (.ptr id g i (k+off))) :: s.e,h:=s.h,n:=s.n,N:=s.N } K):AK P ops (o :: o2 :: rest) s K:=by
 simp only [Prod.mk.injEq] at q1 q2
 obtain ⟨a1,a2,a3,a4,a5,a6,a7,a8⟩:=q1
 obtain ⟨b1,b2,b3,b4,b5,b6,b7,b8,b9⟩:=q2
 exact AK.stepW (.one a1 a4 a5) a2 a3 (B2 (Ft (ob:=.box g e1 cs) a6 h1 (.inl a7) (fun _=>a8) rfl) _) (AK.stepW (.one b1 b4 b5) b2 b3 (B2 (M9 b6 h2 (iR b7) b8 b9) _) hr)
end
def RW:AV→Bool
 | .r _=>true
 | _=>false
theorem U5 {l:List AV} (h:l.all RW=true) : ∃ cs:List RV,l=cs.map .r:=by
 induction l with
 | nil=>exact ⟨[],rfl⟩
 | cons a l ih=>
  rw [List.all_cons,Bool.and_eq_true] at h
  obtain ⟨cs,rfl⟩:=ih h.2
  cases a with
  | r d=>exact ⟨d :: cs,rfl⟩
  | _=>exact Bool.noConfusion h.1
theorem Fz.g2 {h:AN} {a:AV} {ds:List AV} (e:a = .agg ds) (e2:ds.all RW=true):Fz h a (.agg ds):=by
 obtain ⟨cs,hc⟩:=U5 e2
 exact .g e hc
section
variable {P:Program} {ops:Array Oper} {rest:List Oper} {K:St→Prop} {o:Oper} {s:St}
theorem cL {d:Nat} {f:FuncId} {fo:Operand} {xs:Array Operand} {ats:Array TypeId} {bs:List AV} {r:AV} (hq:AX P f bs r)
  (hg:(o.guard,o.dst,Nat.blt d s.N,o.op,Av s.e fo,r.flat)=(none,some d,true,.call { callee:=.value fo,args:=xs,argTypes:=ats },.fn f [],true))
  (hr:AK P ops rest { e:=(d,r) :: s.e,h:=s.h,n:=s.n,N:=s.N } K)
  (hx:FR true s.e s.h xs.toList bs:=by repeat' first | exact trivial | refine ⟨⟨_,iL,.d rfl⟩,?_⟩ | refine ⟨⟨_,iL,.g2 rfl rfl⟩,?_⟩ | refine ⟨⟨_,iL,.one (.own rfl)⟩,?_⟩ | refine ⟨⟨_,iR rfl,.d rfl⟩,?_⟩ | refine ⟨⟨_,iR rfl,.g2 rfl rfl⟩,?_⟩):AK P ops (o :: rest) s K:=by
 simp only [Prod.mk.injEq] at hg
 obtain ⟨h1,h2,h3,h4,h5,h6⟩:=hg
 exact AK.step h1 h2 h3 (DY (caps:=[]) h4 (.inl h5) rfl hx (fun _=>by rw [List.append_nil]; exact hq) h6) hr
theorem vL {d j dj:Nat} {want b:Bool} {f:FuncId} {fo:Operand} {xs:Array Operand} {ats:Array TypeId} {bs:List AV} {r:AV} (hq:(b == want)=true→AX P f bs r)
  (hg:(o.guard,o.dst,Nat.blt d s.N,(ops[j]?).bind (·.dst),Av s.e (.tmp dj),o.op,Av s.e fo,r.flat)=(some (j,want),some d,true,some dj,.r (.bool b),.call { callee:=.value fo,args:=xs,argTypes:=ats },.fn f [],true))
  (hr:AK P ops rest { e:=(d,.whn (b == want) r) :: s.e,h:=s.h,n:=s.n,N:=s.N } K)
  (hx:FR (b == want) s.e s.h xs.toList bs:=by repeat' first | exact trivial | refine ⟨⟨_,iL,.d rfl⟩,?_⟩ | refine ⟨⟨_,iL,.g2 rfl rfl⟩,?_⟩ | refine ⟨⟨_,iL,.one (.own rfl)⟩,?_⟩ | refine ⟨⟨_,iR rfl,.d rfl⟩,?_⟩ | refine ⟨⟨_,iR rfl,.g2 rfl rfl⟩,?_⟩):AK P ops (o :: rest) s K:=by
 simp only [Prod.mk.injEq] at hg
 obtain ⟨h1,h2,h3,h4,h5,h6,h7,h8⟩:=hg
 exact AK.stepW (.one h1 h4 h5) h2 h3 (DY (caps:=[]) h6 (.inl h7) rfl hx (fun hc=>by rw [List.append_nil]; exact hq hc) h8) hr
end
section
variable {P:Program} {Q:Exit→St→Prop} {s:St} {x y:Code}
theorem aU {id:Nat} {l:List Oper} (h:AK P l.toArray l s fun s'=>AW P y Q s'):AW P (.seq (.region id l.toArray false) y) Q s:=.seq (.region h)
theorem aT (h : ∀ {K:St→Prop},(∀ s,AW P y Q s→K s)→AW P x (EF K Q) s):AW P (.seq x y) Q s:=YO fun _ h1=>h h1
theorem cI {α:Type} {b:Bool} {c:Operand} {X Y Z:α} (hc:Av s.e c = .r (.bool b)) (h:(if b=true then X else Y)=Z) (ht:X=Z→AW P x Q s) (hf:Y=Z→AW P y Q s):AW P (.cond c x y) Q s:=
 AW.cond hc (fun e=>ht (C8 e h)) (fun e=>hf (Cw e h))
end
theorem mF {P:Program} {f:FuncId} {fn:Func} {code:Code} {args:List AV} {r:AV} {N:Nat} (hf:P.funcs[f]? = some fn) (hN:fn.ntmps=N)
  (hq : (fn.body, fn.name == "runtime.NumGoroutine", r.closed, Nat.ble args.length N) = (some code, false, true, true)) (hw : ∀ n0, AW P code (GG P fn.results.toList r) ⟨E4 0 args, [], n0, N⟩) : AX P f args r := by simp_all [YW]
theorem oZ {P:Program} {ops:Array Oper} {s:St} {K:St→Prop} {y:Code} {Q:Exit→St→Prop} (hK : ∀ s,AW P y Q s→K s) (h:AW P y Q s):AK P ops [] s K:=AK.nil (hK _ h)
def Pj (t i:Nat):List PO→Nat→Option Nat→Option Nat
 | [],_,r=>r
 | p :: L,k,r=>match Nat.blt k i with
  | true=>Pj t i L (k+1) (match p.d with
   | some d=>(match Nat.beq d t with
    | true=>some k
    | false=>r)
   | none=>r)
  | false=>r
def O4 (t i:Nat):List PO→Nat→Option Nat→Option Nat
 | [],_,r=>r
 | p :: L,k,r=>match Nat.blt k i with
  | true=>O4 t i L (k+1) (match p.hp with
   | some (d,_)=>(match Nat.beq d t with
    | true=>some k
    | false=>r)
   | none=>r)
  | false=>r
section
variable {P:Program} {ops:Array Oper} {s:St} {L:List PO} {i:Nat} {p:PO} {o:Oper}
theorem IR {D:Nat→Bool} {G:Nat→Nat} {e:AU} {t j:Nat} (hr:A9 ops D i) (_:Pj t i L 0 none=some j) {p:PO} {a:AV} (hj:L[j]? = some p) (hd:p.d=some t) (hw:wt ops 40 i j=true) (hB:Gn (L.drop (j+1)) t=true) (ha:p.v G=a):get (BU D G e L) t=a:=EI hr j hj hd hw hB ha
theorem IW {D:Nat→Bool} {G:Nat→Nat} {h:AN} {t j:Nat} (hr:A9 ops D i) (_:O4 t i L 0 none=some j) {p:PO} {ob:(Nat→Nat)→Option AT} {a:Option AT} (hj:L[j]? = some p) (hd:p.hp=some (t,ob)) (hw:wt ops 40 i j=true) (hB:IK ops i t (L.drop (j+1)) (j+1)=true) (ha:ob G=a):hget (Bo D G h L) t=a:=Ue hr j hj hd hw hB ha
theorem oB (ie:AU) (ih:AN) (h : ∀ {G e h'},AY P true o (ie++e) (ih++h') (p.v G))
  (hg:o.guard=none:=by rfl) (hd:o.dst=p.d:=by rfl) (hN : ∀ d,p.d=some d→Nat.blt d s.N=true:=by intro d h; cases h <;> rfl) (hp:p.hp=none:=by rfl) (hv : ∀ G n,p.v (BW G i n)=p.v G:=by intros; rfl)
  (hE : ∀ D G,A9 ops D i→DR (BU D G s.e L) ie:=by intro _ _ hr; repeat' first | exact trivial | refine ⟨Da rfl rfl,?_⟩ | refine ⟨IR hr rfl rfl rfl (by kernel_rfl) rfl rfl,?_⟩ | refine ⟨inE_baseL hr (by kernel_rfl) rfl,?_⟩)
  (hH : ∀ D G,A9 ops D i→DN (Bo D G s.h L) ih:=by intro _ _ hr; repeat' first | exact trivial | refine ⟨FO rfl rfl,?_⟩ | refine ⟨IW hr rfl rfl rfl (by kernel_rfl) (by kernel_rfl) rfl,?_⟩ | refine ⟨Gi hr (by kernel_rfl) rfl,?_⟩):Ob P ops s L i p o:=
 Mj (n1:=fun n=>n) hg hd hN hp (fun _=>ie) (fun _=>ih) hE hH hv fun _ _ _ _=>B2 h _
theorem oC (ie:(Nat→Nat)→AU) (ih:(Nat→Nat)→AN) (h : ∀ G e h',AY P true o (ie G++e) (ih G++h') (p.v G))
  (hg:o.guard=none:=by rfl) (hd:o.dst=p.d:=by rfl) (hN : ∀ d,p.d=some d→Nat.blt d s.N=true:=by intro d h; cases h <;> rfl) (hp:p.hp=none:=by rfl) (hv : ∀ G n,p.v (BW G i n)=p.v G:=by intros; rfl)
  (hE : ∀ D G,A9 ops D i→DR (BU D G s.e L) (ie G):=by intro _ _ hr; repeat' first | exact trivial | refine ⟨Da rfl rfl,?_⟩ | refine ⟨IR hr rfl rfl rfl (by kernel_rfl) rfl rfl,?_⟩ | refine ⟨inE_baseL hr (by kernel_rfl) rfl,?_⟩)
  (hH : ∀ D G,A9 ops D i→DN (Bo D G s.h L) (ih G):=by intro _ _ hr; repeat' first | exact trivial | refine ⟨FO rfl rfl,?_⟩ | refine ⟨IW hr rfl rfl rfl (by kernel_rfl) (by kernel_rfl) rfl,?_⟩ | refine ⟨Gi hr (by kernel_rfl) rfl,?_⟩):Ob P ops s L i p o:=
 Mj (n1:=fun n=>n) hg hd hN hp ie ih hE hH hv fun G e h' _=>B2 (h G e h') _
theorem oD (ie:(Nat→Nat)→AU) (ih:(Nat→Nat)→AN) {n1:Nat→Nat} (h : ∀ G e h' n,BC P true o (ie G++e) (ih G++h') n (p.v G) (ih G++h') (n1 n))
  (hg:o.guard=none:=by rfl) (hd:o.dst=p.d:=by rfl) (hN : ∀ d,p.d=some d→Nat.blt d s.N=true:=by intro d h; cases h <;> rfl) (hp:p.hp=none:=by rfl) (hv : ∀ G n,p.v (BW G i n)=p.v G:=by intros; rfl)
  (hE : ∀ D G,A9 ops D i→DR (BU D G s.e L) (ie G):=by intro _ _ hr; repeat' first | exact trivial | refine ⟨Da rfl rfl,?_⟩ | refine ⟨IR hr rfl rfl rfl (by kernel_rfl) rfl rfl,?_⟩ | refine ⟨inE_baseL hr (by kernel_rfl) rfl,?_⟩)
  (hH : ∀ D G,A9 ops D i→DN (Bo D G s.h L) (ih G):=by intro _ _ hr; repeat' first | exact trivial | refine ⟨FO rfl rfl,?_⟩ | refine ⟨IW hr rfl rfl rfl (by kernel_rfl) (by kernel_rfl) rfl,?_⟩ | refine ⟨Gi hr (by kernel_rfl) rfl,?_⟩):Ob P ops s L i p o:=
 Mj hg hd hN hp ie ih hE hH hv h
theorem oG {c:Bool} {v0:(Nat→Nat)→AV} (ie:AU) (ih:AN) (hv : ∀ G n,p.v (BW G i n) = .whn c (v0 G)) (h : ∀ {G e h'},AY P c o (ie++e) (ih++h') (v0 G))
  (hd:o.dst=p.d:=by rfl) (hN : ∀ d,p.d=some d→Nat.blt d s.N=true:=by intro d h; cases h <;> rfl) (hp:p.hp=none:=by rfl)
  (hE : ∀ D G,A9 ops D i→DR (BU D G s.e L) ie:=by intro _ _ hr; repeat' first | exact trivial | refine ⟨Da rfl rfl,?_⟩ | refine ⟨IR hr rfl rfl rfl (by kernel_rfl) rfl rfl,?_⟩ | refine ⟨inE_baseL hr (by kernel_rfl) rfl,?_⟩)
  (hH : ∀ D G,A9 ops D i→DN (Bo D G s.h L) ih:=by intro _ _ hr; repeat' first | exact trivial | refine ⟨FO rfl rfl,?_⟩ | refine ⟨IW hr rfl rfl rfl (by kernel_rfl) (by kernel_rfl) rfl,?_⟩ | refine ⟨Gi hr (by kernel_rfl) rfl,?_⟩)
  (hg : ∀ e,CW (ie++e) ops o c:=by intros; first | exact .one rfl rfl rfl | exact .two rfl rfl rfl):Ob P ops s L i p o:=
 Rb (n1:=fun n=>n) (c:=c) (v0:=v0) hd hN hp (fun _=>ie) (fun _=>ih) hE hH hv (fun _ e=>hg e) fun _ _ _ _=>B2 h _
theorem oH {c:Bool} {v0:(Nat→Nat)→AV} (ie:(Nat→Nat)→AU) (ih:(Nat→Nat)→AN) (hv : ∀ G n,p.v (BW G i n) = .whn c (v0 G)) {n1:Nat→Nat} (h : ∀ G e h' n,BC P c o (ie G++e) (ih G++h') n (v0 G) (ih G++h') (n1 n))
  (hd:o.dst=p.d:=by rfl) (hN : ∀ d,p.d=some d→Nat.blt d s.N=true:=by intro d h; cases h <;> rfl) (hp:p.hp=none:=by rfl)
  (hE : ∀ D G,A9 ops D i→DR (BU D G s.e L) (ie G):=by intro _ _ hr; repeat' first | exact trivial | refine ⟨Da rfl rfl,?_⟩ | refine ⟨IR hr rfl rfl rfl (by kernel_rfl) rfl rfl,?_⟩ | refine ⟨inE_baseL hr (by kernel_rfl) rfl,?_⟩)
  (hH : ∀ D G,A9 ops D i→DN (Bo D G s.h L) (ih G):=by intro _ _ hr; repeat' first | exact trivial | refine ⟨FO rfl rfl,?_⟩ | refine ⟨IW hr rfl rfl rfl (by kernel_rfl) (by kernel_rfl) rfl,?_⟩ | refine ⟨Gi hr (by kernel_rfl) rfl,?_⟩)
  (hg : ∀ G e,CW (ie G++e) ops o c:=by intros; first | exact .one rfl rfl rfl | exact .two rfl rfl rfl):Ob P ops s L i p o:=
 Rb (c:=c) (v0:=v0) hd hN hp ie ih hE hH hv hg h
theorem oM {id:Nat} {ob:(Nat→Nat)→Option AT} {n1:Nat→Nat} (ie:(Nat→Nat)→AU) (ih:(Nat→Nat)→AN) (hp:p.hp=some (id,ob)) (h : ∀ (G:Nat→Nat) e h' n,BC P true o (ie G++e) (ih G++h') n (p.v (BW G i n)) ((id,ob (BW G i n)) :: (ih G++h')) (n1 n))
  (hg:o.guard=none:=by rfl) (hd:o.dst=p.d:=by rfl) (hN : ∀ d,p.d=some d→Nat.blt d s.N=true:=by intro d h; cases h <;> rfl)
  (hE : ∀ D G,A9 ops D i→DR (BU D G s.e L) (ie G):=by intro _ _ hr; repeat' first | exact trivial | refine ⟨Da rfl rfl,?_⟩ | refine ⟨IR hr rfl rfl rfl (by kernel_rfl) rfl rfl,?_⟩ | refine ⟨inE_baseL hr (by kernel_rfl) rfl,?_⟩)
  (hH : ∀ D G,A9 ops D i→DN (Bo D G s.h L) (ih G):=by intro _ _ hr; repeat' first | exact trivial | refine ⟨FO rfl rfl,?_⟩ | refine ⟨IW hr rfl rfl rfl (by kernel_rfl) (by kernel_rfl) rfl,?_⟩ | refine ⟨Gi hr (by kernel_rfl) rfl,?_⟩):Ob P ops s L i p o:=
 YN hg hd hN hp ie ih hE hH h
end
@[reducible] def pO (d:Nat) (v:AV):PO:=⟨some d,fun _=>v,none,[]⟩
theorem rP {P:Program} {id:Nat} {l:List Oper} {s:St} {Q:Exit→St→Prop} (n:Nat) (L:List PO) {lt:List Oper} (hm:P.follows .mixedOrders=true) (e4:l.drop n=lt) (hOb:E0 P l.toArray s L 0 L l)
  (h : ∀ (G:Nat→Nat) (n':Nat),AK P l.toArray lt ⟨BU (fun _=>true) G s.e L,Bo (fun _=>true) G s.h L,n',s.N⟩ (Q .normal)) (hB:NW l.toArray n L=true:=by kernel_rfl)
  (hLoc:Dt L:=by repeat' first | exact trivial | refine ⟨fun _ _ _=>⟨rfl,fun _ _ e=>by cases e <;> rfl⟩,?_⟩):AW P (.region id l.toArray true) Q s:=HJ n L hm hB hLoc e4 hOb h
theorem wk {s s':St} (h:Ac s s':=by refine Ac.cv ?_ ?_ nL <;> repeat (first | exact trivial | refine ⟨jL,?_⟩ | refine ⟨.inl rfl,?_⟩)):Ac s s':=h
section
variable {P:Program} {ops:Array Oper} {rest:List Oper} {K:St→Prop} {o:Oper} {s:St}
theorem mM {d:Nat} {x:Operand} (hg:(o.guard,o.dst,Nat.blt d s.N,o.op)=(none,some d,true,.move x)) (hr:AK P ops rest { e:=(d,Av s.e x) :: s.e,h:=s.h,n:=s.n,N:=s.N } K):AK P ops (o :: rest) s K:=by
 simp only [Prod.mk.injEq] at hg
 obtain ⟨h1,h2,h3,h4⟩:=hg
 exact AK.step h1 h2 h3 (B2 (Lt h4 (.inl rfl)) _) hr
theorem mA {d:Nat} {x:Operand} (hg:(o.guard,o.dst,Nat.blt d s.N,o.op)=(none,some d,true,.assign x)) (hr:AK P ops rest { e:=(d,Av s.e x) :: s.e,h:=s.h,n:=s.n,N:=s.N } K):AK P ops (o :: rest) s K:=by
 simp only [Prod.mk.injEq] at hg
 obtain ⟨h1,h2,h3,h4⟩:=hg
 exact AK.step h1 h2 h3 (B2 (Co h4 (.inl rfl)) _) hr
theorem vM {d j dj:Nat} {want b:Bool} {x:Operand} (hg:(o.guard,o.dst,Nat.blt d s.N,(ops[j]?).bind (·.dst),Av s.e (.tmp dj),o.op)=(some (j,want),some d,true,some dj,.r (.bool b),.move x))
  (hr:AK P ops rest { e:=(d,.whn (b == want) (Av s.e x)) :: s.e,h:=s.h,n:=s.n,N:=s.N } K):AK P ops (o :: rest) s K:=by
 simp only [Prod.mk.injEq] at hg
 obtain ⟨h1,h2,h3,h4,h5,h6⟩:=hg
 exact AK.stepW (.one h1 h4 h5) h2 h3 (B2 (Lt h6 (.inl rfl)) _) hr
end
section
variable {P:Program} {ops:Array Oper} {rest:List Oper} {K:St→Prop} {o:Oper} {s:St} {d:Nat} {x y:Operand}
theorem one {v:AV} (hg:o.guard=none) (hd:o.dst=some d) (hN:Nat.blt d s.N=true) (hs:AY P true o s.e s.h v) (hr:AK P ops rest { e:=(d,v) :: s.e,h:=s.h,n:=s.n,N:=s.N } K):AK P ops (o :: rest) s K:=AK.step hg hd hN (B2 hs _) hr
theorem xI {α:Type} {f:α→List RV} {t e:TypeId} {sz b:Nat} {l:List α} {k:IntKind} {z:Int} {a:α} (ht:A7 P t e sz b) (hg:(o.guard,o.dst,Nat.blt d s.N,o.op,Av s.e x,Av s.e y)=(none,some d,true,.indexAddr t x y,.r (.sl (l.map f)),.r (.int k z)))
  (hi:AM l z=some a) (hr:AK P ops rest { e:=(d,.rop (f a) 0) :: s.e,h:=s.h,n:=s.n,N:=s.N } K) (hlen : ∀ a,(f a).length=sz:=by intro _; rfl):AK P ops (o :: rest) s K:=by
 simp only [Prod.mk.injEq] at hg
 exact one hg.1 hg.2.1 hg.2.2.1 (Qj hg.2.2.2.1 ht.slice (.inl hg.2.2.2.2.1) (.inl hg.2.2.2.2.2) hlen fun _=>hi) hr
theorem xL {α:Type} {f:α→List RV} {t e:TypeId} {sz b:Nat} {l:List α} (ht:A7 P t e sz b) (hg:(o.guard,o.dst,Nat.blt d s.N,o.op,Av s.e x)=(none,some d,true,.call { callee:=.builtin .len,args:=#[x],argTypes:=#[t] },.r (.sl (l.map f))))
  (hr:AK P ops rest { e:=(d,.r (.int .i64 l.length)) :: s.e,h:=s.h,n:=s.n,N:=s.N } K):AK P ops (o :: rest) s K:=by
 simp only [Prod.mk.injEq] at hg
 exact one hg.1 hg.2.1 hg.2.2.1 (Cs hg.2.2.2.1 ht.slice (.inl hg.2.2.2.2)) hr
theorem xA {t t':TypeId} {k:IntKind} {a b r:Int} (hg:(o.guard,o.dst,Nat.blt d s.N,o.op,Av s.e x,Av s.e y)=(none,some d,true,.binOp .add t x y t',.r (.int k a),.r (.int k b)))
  (hi:AS k (a+b)=some r) (hr:AK P ops rest { e:=(d,.r (.int k r)) :: s.e,h:=s.h,n:=s.n,N:=s.N } K):AK P ops (o :: rest) s K:=by
 simp only [Prod.mk.injEq] at hg
 exact one hg.1 hg.2.1 hg.2.2.1 (Hk hg.2.2.2.1 (.inl hg.2.2.2.2.1) (.inl hg.2.2.2.2.2) fun _=>hi) hr
theorem xN {a b:Bool} (hg:(o.guard,o.dst,Nat.blt d s.N,o.op,Av s.e x,Av s.e y)=(none,some d,true,.pick x y (.const (.bool false)),.r (.bool a),.whn (a == true) (.r (.bool b))))
  (hr:AK P ops rest { e:=(d,.r (.bool (a && b))) :: s.e,h:=s.h,n:=s.n,N:=s.N } K):AK P ops (o :: rest) s K:=by
 simp only [Prod.mk.injEq] at hg
 exact one hg.1 hg.2.1 hg.2.2.1 (A6 hg.2.2.2.1 (.inl hg.2.2.2.2.1) (iR hg.2.2.2.2.2)) hr
theorem xO {a b:Bool} (hg:(o.guard,o.dst,Nat.blt d s.N,o.op,Av s.e x,Av s.e y)=(none,some d,true,.pick x (.const (.bool true)) y,.r (.bool a),.whn (a == false) (.r (.bool b))))
  (hr:AK P ops rest { e:=(d,.r (.bool (a || b))) :: s.e,h:=s.h,n:=s.n,N:=s.N } K):AK P ops (o :: rest) s K:=by
 simp only [Prod.mk.injEq] at hg
 exact one hg.1 hg.2.1 hg.2.2.1 (Bp hg.2.2.2.1 (.inl hg.2.2.2.2.1) (iR hg.2.2.2.2.2)) hr
theorem xB {t:TypeId} {row:List RV} {sz:Nat} (cs:List AV) (ht:BH P t sz) (hg:(o.guard,o.dst,Nat.blt d s.N,o.op,Av s.e x,row.length,row.map AV.r)=(none,some d,true,.load t x,.rop row 0,sz,cs))
  (hr:AK P ops rest { e:=(d,.agg cs) :: s.e,h:=s.h,n:=s.n,N:=s.N } K):AK P ops (o :: rest) s K:=by
 simp only [Prod.mk.injEq] at hg
 exact one hg.1 hg.2.1 hg.2.2.1 (BV hg.2.2.2.1 ht (.inl hg.2.2.2.2.1) hg.2.2.2.2.2.1 hg.2.2.2.2.2.2) hr
theorem xC {t:TypeId} {id g:Nat} {e:TypeId} {sz:Nat} {cs:List AV} (ht:BH P t sz) (hg:(o.guard,o.dst,Nat.blt d s.N,o.op,Av s.e x,hget s.h id,cs.length)=(none,some d,true,.load t x,.ptr id g 0 0,some (.box g e cs),sz))
  (hr:AK P ops rest { e:=(d,.agg cs) :: s.e,h:=s.h,n:=s.n,N:=s.N } K):AK P ops (o :: rest) s K:=by
 simp only [Prod.mk.injEq] at hg
 exact one hg.1 hg.2.1 hg.2.2.1 (Cn hg.2.2.2.1 ht (.inl hg.2.2.2.2.1) hg.2.2.2.2.2.1 hg.2.2.2.2.2.2) hr
theorem xV {t:TypeId} {row:List RV} {k:Nat} (r:RV) (ht:A8 P t) (hg:(o.guard,o.dst,Nat.blt d s.N,o.op,Av s.e x,row[k]?)=(none,some d,true,.load t x,.rop row k,some r))
  (hr:AK P ops rest { e:=(d,.r r) :: s.e,h:=s.h,n:=s.n,N:=s.N } K):AK P ops (o :: rest) s K:=by
 simp only [Prod.mk.injEq] at hg
 exact one hg.1 hg.2.1 hg.2.2.1 (BR hg.2.2.2.1 ht (.inl hg.2.2.2.2.1) hg.2.2.2.2.2) hr
theorem xX {vs:List AV} {i:Nat} {a:AV} (hg:(o.guard,o.dst,Nat.blt d s.N,o.op,Av s.e x,vs[i]?)=(none,some d,true,.extract x i,.tup vs,some a))
  (hr:AK P ops rest { e:=(d,a) :: s.e,h:=s.h,n:=s.n,N:=s.N } K):AK P ops (o :: rest) s K:=by
 simp only [Prod.mk.injEq] at hg
 exact one hg.1 hg.2.1 hg.2.2.1 (M6 hg.2.2.2.1 (.inl hg.2.2.2.2.1) hg.2.2.2.2.2) hr
theorem xS {t t':TypeId} {k:IntKind} {a b:Int} (hg:(o.guard,o.dst,Nat.blt d s.N,o.op,Av s.e x,Av s.e y)=(none,some d,true,.binOp .lss t x y t',.r (.int k a),.r (.int k b)))
  (hr:AK P ops rest { e:=(d,.r (.bool (decide (a<b)))) :: s.e,h:=s.h,n:=s.n,N:=s.N } K):AK P ops (o :: rest) s K:=by
 simp only [Prod.mk.injEq] at hg
 exact one hg.1 hg.2.1 hg.2.2.1 (Bn hg.2.2.2.1 (.inl hg.2.2.2.2.1) (.inl hg.2.2.2.2.2)) hr
theorem xQ {t t':TypeId} {k:IntKind} {a b:Int} (hg:(o.guard,o.dst,Nat.blt d s.N,o.op,Av s.e x,Av s.e y)=(none,some d,true,.binOp .eql t x y t',.r (.int k a),.r (.int k b)))
  (hr:AK P ops rest { e:=(d,.r (.bool (decide (a=b)))) :: s.e,h:=s.h,n:=s.n,N:=s.N } K):AK P ops (o :: rest) s K:=by
 simp only [Prod.mk.injEq] at hg
 exact one hg.1 hg.2.1 hg.2.2.1 (Qk hg.2.2.2.1 (.inl hg.2.2.2.2.1) (.inl hg.2.2.2.2.2)) hr
theorem xU {t t':TypeId} {k:IntKind} {a b:Int} (hg:(o.guard,o.dst,Nat.blt d s.N,o.op,Av s.e x,Av s.e y)=(none,some d,true,.binOp .neq t x y t',.r (.int k a),.r (.int k b)))
  (hr:AK P ops rest { e:=(d,.r (.bool (!decide (a=b)))) :: s.e,h:=s.h,n:=s.n,N:=s.N } K):AK P ops (o :: rest) s K:=by
 simp only [Prod.mk.injEq] at hg
 exact one hg.1 hg.2.1 hg.2.2.1 (Ba hg.2.2.2.1 (.inl hg.2.2.2.2.1) (.inl hg.2.2.2.2.2)) hr
end
theorem xH {ρ α:Type} {o:ρ} {v:α ⊕ ρ} {q:ρ} (hx : ∀ q,v = .inr q→o=q) (h:some (.inr q)=some v):o=q:=hx _ (Option.some.inj h).symm
theorem Pk {P:Program} {T r:Int} {s:St} {t:Nat} (e:some T=some r) (h:get s.e t=rI T):GG P [.tmp t] (rI r) .ret s:=Db (fun r=>rI r) e (.inl rfl) (.t (.d h))
theorem Q7 {P:Program} {T r:Bool} {s:St} {t:Nat} (e:some T=some r) (h:get s.e t=rB T):GG P [.tmp t] (rB r) .ret s:=Db (fun r=>rB r) e (.inl rfl) (.t (.d h))
theorem zI {P:Program} {T r:Int} {s:St} {t id:Nat} {x:Operand} {o:Oper} {Q:Exit→St→Prop} (e:some T=some r) (h:(o.guard,o.dst,Nat.blt t s.N,o.op,Av s.e x)=(none,some t,true,.assign x,rI T))
  (k:GG P [.tmp t] (rI r) .ret { e:=(t,Av s.e x) :: s.e,h:=s.h,n:=s.n,N:=s.N } → Q .ret { e:=(t,Av s.e x) :: s.e,h:=s.h,n:=s.n,N:=s.N }):AW P (.seq (.region id [o].toArray false) .ret) Q s:=by
 simp only [Prod.mk.injEq] at h
 refine aU (AK.step h.1 h.2.1 h.2.2.1 (B2 (Co h.2.2.2.1 (.inl rfl)) _) (AK.nil (AW.ret (k (Pk e ?_)))))
 show get (_ :: _) t=_
 unfold get
 rw [Nat.beq_refl]
 exact h.2.2.2.2
theorem zB {P:Program} {T r:Bool} {s:St} {t id:Nat} {x:Operand} {o:Oper} {Q:Exit→St→Prop} (e:some T=some r) (h:(o.guard,o.dst,Nat.blt t s.N,o.op,Av s.e x)=(none,some t,true,.assign x,rB T))
  (k:GG P [.tmp t] (rB r) .ret { e:=(t,Av s.e x) :: s.e,h:=s.h,n:=s.n,N:=s.N } → Q .ret { e:=(t,Av s.e x) :: s.e,h:=s.h,n:=s.n,N:=s.N }):AW P (.seq (.region id [o].toArray false) .ret) Q s:=by
 simp only [Prod.mk.injEq] at h
 refine aU (AK.step h.1 h.2.1 h.2.2.1 (B2 (Co h.2.2.2.1 (.inl rfl)) _) (AK.nil (AW.ret (k (Q7 e ?_)))))
 show get (_ :: _) t=_
 unfold get
 rw [Nat.beq_refl]
 exact h.2.2.2.2
@[reducible] def rL {α:Type} (l:List α):AV:=rI (l.length:Int)
@[reducible] def rS (l:List UInt8):AV:=.r (.str l)
abbrev NN:=Nat→Nat
open Go.Lib
theorem Q1 {W:World} {g:Nat} {row:List RV} (h : ∀ j d,row[j]? = some d → ∃ v,W.cell? ⟨g,j,none⟩=some v∧Ar W (· < W.heap.size) d v):AR (Eh W) (.rop row 0) (.pointer (some ⟨g,0,none⟩)):=by
 have hlt:row≠[]→g<W.heap.size:=by
  intro hne
  obtain ⟨d,hd⟩ : ∃ d,row[0]? = some d:=by
   cases row with
   | nil=>exact absurd rfl hne
   | cons d r=>exact ⟨d,rfl⟩
  obtain ⟨v,h1,_⟩:=h 0 d hd
  unfold World.cell? at h1
  rcases Nat.lt_or_ge g W.heap.size with h2 | h2
  ·exact h2
  ·rw [Array.getElem?_eq_none h2] at h1; cases h1
 exact AR.rop (x:=Eh W) (row:=row) (k:=0) (b:=g) (off:=0) (fun j=>(W.cell? ⟨g,j,none⟩).getD undef) hlt
  (fun j d hj=>by obtain ⟨v,h1,_⟩:=h j d hj; rw [Nat.zero_add]; show W.cell? _=_; rw [h1]; rfl)
  (fun j d hj=>by obtain ⟨v,h1,h2⟩:=h j d hj; rw [h1]; exact h2)
theorem PJ {α β:Type} (f:α→β) : ∀ (l:List α) (j:Nat),(l.flatMap fun z=>[f z])[j]? = (l[j]?).map f
 | [],j=>by simp
 | x :: l,0=>by simp
 | x :: l,j+1=>by
  have:=PJ f l j
  rw [List.flatMap_cons,List.singleton_append,List.getElem?_cons_succ,this,List.getElem?_cons_succ]
theorem Qf {α β:Type} (f g:α→β) : ∀ (l:List α) (j:Nat) (d:β),(l.flatMap fun z=>[f z,g z])[j]? = some d → ∃ i a,l[i]? = some a∧((j=2 * i∧d=f a)∨(j=2 * i+1∧d=g a))
 | [],j,d,h=>by simp at h
 | x :: l,0,d,h=>by
  have:f x=d:=by simpa using h
  exact ⟨0,x,rfl,.inl ⟨rfl,this.symm⟩⟩
 | x :: l,1,d,h=>by
  have:g x=d:=by simpa using h
  exact ⟨0,x,rfl,.inr ⟨rfl,this.symm⟩⟩
 | x :: l,j+2,d,h=>by
  rw [List.flatMap_cons] at h
  have h':(l.flatMap fun z=>[f z,g z])[j]? = some d:=by simpa using h
  obtain ⟨i,a,h1,h2⟩:=Qf f g l j d h'
  refine ⟨i+1,a,by simpa using h1,?_⟩
  rcases h2 with ⟨h2,h3⟩ | ⟨h2,h3⟩
  ·exact .inl ⟨by omega,h3⟩
  ·exact .inr ⟨by omega,h3⟩
theorem Vd {P : Program} {W : World} {d1 d2 : DataW Unit} {t1 t2 e1 e2 : TypeId} {fs : Array Field} (h1 : VarReads P W "unicode/utf8.first" d1) (hd1 : d1 = tabData .u8 D7) (n1 : P.globalNamed "unicode/utf8.first" = some FM)
  (y1:(P.globals[FM]?).map (·.type)=some t1) (u1:P.underlying t1=some (.array 256 e1)) (ue:P.underlying e1=some (.int .u8)) (ce:P.cellsOf e1=1) (ct:P.cellsOf t1=256)
  (h2 : VarReads P W "unicode/utf8.acceptRanges" d2) (hd2 : d2 = .agg (GB.map fun p => .agg ([p.1, p.2].map fun z => .lit (.int .u8 z)))) (n2 : P.globalNamed "unicode/utf8.acceptRanges" = some Fb)
  (y2:(P.globals[Fb]?).map (·.type)=some t2) (u2:P.underlying t2=some (.array 16 e2)) (us:P.underlying e2=some (.struct fs)) (hfs : ∀ (i:Nat) (f:Field),fs[i]? = some f→P.underlying f.type=some (.int .u8)∧f.offset=i∧P.cellsOf f.type=1)
  (hsz:fs.size=2) (c2:P.cellsOf e2=2)
  (hw : ∀ g cs,Ou g=some cs→0<cs.size ∧ ∃ t p,W.heap[g]? = some (.cells cs t p):=by intro _ _ h; cases h) (hF:ND W:=by trivial):EK (Eh W):=by
 refine ⟨fun g row hg=>?_,fun g cs hg=>⟨?_,hw g cs hg⟩,W,hF,Go.RowKit.Below.refl _ _,fun _ h=>h⟩
 rotate_left
 ·obtain ⟨_,t,p,h⟩:=hw g cs hg
  show g<W.heap.size
  exact (Array.getElem?_eq_some_iff.1 h).1
 unfold Ez at hg
 by_cases hF:g=FM
 ·rw [if_pos hF] at hg
  cases hg
  subst hF
  obtain ⟨g,t,cs,fuel,p,hg,hty,hvar,hd⟩:=h1
  obtain rfl:=Option.some.inj (n1.symm.trans hg)
  obtain rfl:=Option.some.inj (y1.symm.trans hty)
  subst hd1
  have hcs:=cells_of_tab u1 ue ce ct hd
  refine Q1 fun j d hj=>?_
  rw [PJ,Option.map_eq_some_iff] at hj
  obtain ⟨z,hz,rfl⟩:=hj
  refine ⟨.int .u8 z,?_,.int _ _⟩
  rw [World.var?_cell hg hvar j,← Array.getElem?_toList,hcs,List.getElem?_map,hz]; rfl
 ·rw [if_neg hF] at hg
  by_cases hA:g=Fb
  ·rw [if_pos hA] at hg
   cases hg
   subst hA
   obtain ⟨g,t,cs,fuel,p,hg,hty,hvar,hd⟩:=h2
   obtain rfl:=Option.some.inj (n2.symm.trans hg)
   obtain rfl:=Option.some.inj (y2.symm.trans hty)
   subst hd2
   refine Q1 fun j d hj=>?_
   obtain ⟨i,a,hi,hja⟩:=Qf _ _ _ _ _ hj
   have hil:i<16:=(List.getElem?_eq_some_iff.1 hi).1
   obtain ⟨fuel',d',q,hdi,he⟩:=array_elem u2 hd i hil
   rw [List.getElem?_map,hi] at hdi
   cases hdi
   rw [c2] at he
   have hcs:=ints_of_struct us hfs (by rw [c2,hsz]) he
   have e0:=congrArg (·[0]?) hcs
   have e1:=congrArg (·[1]?) hcs
   simp only [List.getElem?_take,List.getElem?_drop] at e0 e1
   rcases hja with ⟨rfl,rfl⟩ | ⟨rfl,rfl⟩
   ·refine ⟨.int .u8 a.1,?_,.int _ _⟩
    rw [World.var?_cell hg hvar (2 * i),← Array.getElem?_toList]
    simpa [Nat.mul_comm] using e0
   ·refine ⟨.int .u8 a.2,?_,.int _ _⟩
    rw [World.var?_cell hg hvar (2 * i+1),← Array.getElem?_toList]
    simpa [Nat.mul_comm] using e1
  ·rw [if_neg hA] at hg; cases hg
end Go.Proofs.YtioekebmplhlmaaGreatDoor.Al
