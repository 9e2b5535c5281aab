/- Plain laws over the models, a part of them. -/
import Derived.Test.YtojmbndlghbpjaaGreatDoorPL1
set_option linter.all false
set_option linter.unusedVariables false
set_option linter.unusedSimpArgs false
namespace Go.Proofs.YtojmbndlghbpjaaGreatDoor.Al
open Go
theorem Tq {l:List AC} (h:SC l):Gg l:=by
 intro k hk
 rw [SC,List.pairwise_iff_getElem] at h
 have:=h k (k+1) (by omega) hk (by omega)
 rw [getElem!_pos l k (by omega),getElem!_pos l (k+1) hk]
 exact (Gw _ _).2 this
def By (s:List AD) (l:List AD):List AD:=l.filter fun r=>!decide (r∈s)
theorem VX (b g:AJ) (hb:b.Merges.length≤1048576) (hg:g.Merges.length≤1048576) (ra ca:List AG) (cs:List AC) :
  iter (fun (a:Int × AK)=>Fu b g a.1 a.2) (0,(⟨ra,ca,cs,[],[]⟩:AK))=some ⟨ra,ca,cs,By g.Merges b.Merges,[]⟩:=by
 have:=CY (f:=fun (a:Int × AK)=>Fu b g a.1 a.2) b.Merges (fun (c:List AD) i=>((i:Int),(⟨ra,ca,cs,c,[]⟩:AK))) (fun l c=>(⟨ra,ca,cs,c++By g.Merges l,[]⟩:AK)) (fun i c=>c.length≤i)
  (fun i c hi hI=>by
   left
   show ∃ c',Fu b g (i:Int) ⟨ra,ca,cs,c,[]⟩=_∧_
   unfold Fu
   rw [if_pos (by simpa using hi),Af hi,AE,Nt _ _ hg,AE,An (by omega)]
   cases hd:decide (b.Merges[i]! ∈ g.Merges) with
   | true=>
    rw [if_neg (by decide)]
    refine ⟨c,rfl,by omega,?_⟩
    unfold By; rw [List.filter_cons,hd]; rfl
   | false=>
    rw [if_pos (by decide)]
    dsimp only
    rw [FU (by omega)]
    refine ⟨_,rfl,by rw [List.length_append,List.length_singleton]; omega,?_⟩
    unfold By; rw [List.filter_cons,hd,List.append_assoc]; rfl)
  (fun c _=>by
   show Fu b g (b.Merges.length:Int) ⟨ra,ca,cs,c,[]⟩=_
   unfold Fu
   rw [if_neg (by simp)]
   simp [By]) [] (by simp) ((0:Int),⟨ra,ca,cs,[],[]⟩) rfl
 rw [List.nil_append] at this
 exact this
theorem au (b g:AJ) (hb:b.Merges.length≤1048576) (hg:g.Merges.length≤1048576) (ra ca:List AG) (cs:List AC) (sp:List AD) :
  iter (fun (a:Int × AK)=>Fv b g a.1 a.2) (0,(⟨ra,ca,cs,sp,[]⟩:AK))=some ⟨ra,ca,cs,sp,By b.Merges g.Merges⟩:=by
 have:=CY (f:=fun (a:Int × AK)=>Fv b g a.1 a.2) g.Merges (fun (c:List AD) i=>((i:Int),(⟨ra,ca,cs,sp,c⟩:AK))) (fun l c=>(⟨ra,ca,cs,sp,c++By b.Merges l⟩:AK)) (fun i c=>c.length≤i)
  (fun i c hi hI=>by
   left
   show ∃ c',Fv b g (i:Int) ⟨ra,ca,cs,sp,c⟩=_∧_
   unfold Fv
   rw [if_pos (by simpa using hi),Af hi,AE,Nt _ _ hb,AE,An (by omega)]
   cases hd:decide (g.Merges[i]! ∈ b.Merges) with
   | true=>
    rw [if_neg (by decide)]
    refine ⟨c,rfl,by omega,?_⟩
    unfold By; rw [List.filter_cons,hd]; rfl
   | false=>
    rw [if_pos (by decide)]
    dsimp only
    rw [FU (by omega)]
    refine ⟨_,rfl,by rw [List.length_append,List.length_singleton]; omega,?_⟩
    unfold By; rw [List.filter_cons,hd,List.append_assoc]; rfl)
  (fun c _=>by
   show Fv b g (g.Merges.length:Int) ⟨ra,ca,cs,sp,c⟩=_
   unfold Fv
   rw [if_neg (by simp)]
   simp [By]) [] (by simp) ((0:Int),⟨ra,ca,cs,sp,[]⟩) rfl
 rw [List.nil_append] at this
 exact this
def OK (b g:AJ) (ra ca:List AG):AK:=⟨ra,ca,Df b.Cells g.Cells,By g.Merges b.Merges,By b.Merges g.Merges⟩
theorem bn (b g:AJ) (hb:b.Merges.length≤1048576) (hg:g.Merges.length≤1048576) (hbc:b.Cells.length≤1048576) (hgc:g.Cells.length≤1048576) (ob : ∀ c∈b.Cells,CQ c) (og : ∀ c∈g.Cells,CQ c) (ra ca:List AG) :
  Kd b g ra ca=some (OK b g ra ca):=by
 unfold Kd
 rw [bo _ _ hbc hgc ob og,AE,VX b g hb hg,AE]
 dsimp only
 rw [au b g hb hg,AE]
 rfl
def Ma (l:List AD) (row col:Int):AD:=(l.find? fun r=>Ez r row col).getD ⟨row,col,1,1⟩
theorem RZ (g:AJ) (row col:Int) (hR:B2 g.Rows g.Cols) (hi : ∀ q∈g.Merges,As g.Rows g.Cols q) (hm:g.Merges.length≤1048576):I9 g row col=some (Ma g.Merges row col):=by
 have h:=Cq (f:=fun (a:Int)=>H6 g row col a) (n:=g.Merges.length) (M8 g.Merges row col) (fun k hk=>by
  obtain ⟨i1,i2,i3,i4,i5,i6,i7,i8⟩:=hi _ (Bx hk)
  unfold H6 M8 Ez
  rw [if_pos (by simpa using hk),Af hk,AE]
  generalize g.Merges[k]! = r at i1 i2 i3 i4 i5 i6 i7 i8
  obtain ⟨R1,R2,R3,R4⟩:=hR
  rw [Be (by omega) (by omega),AE,Be (by omega) (by omega),AE,EO,AE]
  by_cases h1:r.Row≤row∧row≤r.Row+r.H-1
  ·rw [decide_eq_true h1]
   simp only [beq_self_eq_true,Ap,Bool.true_and]
   rw [Be (by omega) (by omega),AE,Be (by omega) (by omega),AE,EO,AE]
   by_cases h2:r.Col≤col∧col≤r.Col+r.W-1
   ·rw [if_pos (decide_eq_true h2),if_pos (by rw [decide_eq_true_eq]; omega)]; rfl
   ·rw [if_neg (by rw [decide_eq_true_eq]; exact h2),if_neg (by rw [decide_eq_true_eq]; omega),An (by omega),AE]; rfl
  ·rw [decide_eq_false h1]
   simp only [show (false == true)=false from rfl,EH,AE,Bool.false_and]
   rw [if_neg (by decide),if_neg (by rw [decide_eq_true_eq]; omega),An (by omega),AE]; rfl) (by
  show H6 g row col (g.Merges.length:Int)=_
  unfold H6
  rw [if_neg (by simp)])
 have key : ∀ l:List AD,(List.range l.length).findSome? (M8 l row col)=l.find? fun r=>Ez r row col:=by
  intro l
  induction l with
  | nil=>rfl
  | cons x t ih=>
   rw [List.length_cons,List.range_succ_eq_map,List.findSome?_cons,List.find?_cons,List.findSome?_map]
   have e0:M8 (x :: t) row col 0=if Ez x row col=true then some x else none:=rfl
   rw [e0]
   cases hx:Ez x row col with
   | true=>rfl
   | false=>
    rw [← ih]
    rfl
 unfold I9
 rw [h,key,Dx]
 unfold Ma
 cases l:g.Merges.find? fun r=>Ez r row col <;> rfl
theorem RU {R C:Int} {l:List AD} (h:Cn R C l) {r:AD} (hr:As R C r) (hk:CL r):Ma l r.Row r.Col=r↔r∈l:=by
 unfold Ma
 unfold CL at hk
 constructor
 ·intro e
  cases hf:l.find? fun q=>Ez q r.Row r.Col with
  | none=>
   rw [hf] at e
   have e':(⟨r.Row,r.Col,1,1⟩:AD)=r:=e
   rw [← e'] at hk
   dsimp only at hk; omega
  | some q=>
   rw [hf] at e
   have e':q=r:=e
   rw [← e']; exact List.mem_of_find?_eq_some hf
 ·intro hm
  have hcov:Ez r r.Row r.Col=true:=by
   unfold Ez; rw [decide_eq_true_eq]; unfold As at hr; omega
  cases hf:l.find? fun q=>Ez q r.Row r.Col with
  | none=>
   have:=List.find?_eq_none.1 hf r hm
   exact absurd hcov this
  | some q=>
   show q=r
   have h1:=List.mem_of_find?_eq_some hf
   have h2:=List.find?_some hf
   unfold Ez at h2
   rw [decide_eq_true_eq] at h2
   obtain ⟨i,hi,rfl⟩:=List.getElem_of_mem h1
   obtain ⟨j,hj,rfl⟩:=List.getElem_of_mem hm
   have hp:=h.2
   have hq:=h.1 _ h1
   unfold As at hq hr
   rw [List.pairwise_iff_getElem] at hp
   rcases Nat.lt_trichotomy i j with g | g | g
   ·have:=(KU _ _).1 (hp i j hi hj g)
    exact absurd ⟨by omega,by omega,by omega,by omega⟩ this
   ·subst g; rfl
   ·have:=(KU _ _).1 (hp j i hj hi g)
    exact absurd ⟨by omega,by omega,by omega,by omega⟩ this
theorem bF (g b:AJ) (hR:B2 g.Rows g.Cols) (hG:Cn g.Rows g.Cols g.Merges) (hg:g.Merges.length≤1048576) (hb:b.Merges.length≤1048576) (hbi : ∀ q∈b.Merges,As g.Rows g.Cols q∧CL q) (ra ca:List AG) (cs:List AC) :
  iter (fun (a:Int × AK)=>Gl g b a.1 a.2) (0,(⟨ra,ca,cs,[],[]⟩:AK))=some ⟨ra,ca,cs,By g.Merges b.Merges,[]⟩:=by
 have:=CY (f:=fun (a:Int × AK)=>Gl g b a.1 a.2) b.Merges (fun (c:List AD) i=>((i:Int),(⟨ra,ca,cs,c,[]⟩:AK))) (fun l c=>(⟨ra,ca,cs,c++By g.Merges l,[]⟩:AK)) (fun i c=>c.length≤i)
  (fun i c hi hI=>by
   left
   show ∃ c',Gl g b (i:Int) ⟨ra,ca,cs,c,[]⟩=_∧_
   obtain ⟨k1,k2⟩:=hbi _ (Bx hi)
   have hiff:=RU hG k1 k2
   unfold Gl
   rw [if_pos (by simpa using hi),Af hi,AE,RZ g _ _ hR hG.1 hg,AE,MI,decide_eq_decide.2 hiff,An (by omega)]
   cases hd:decide (b.Merges[i]! ∈ g.Merges) with
   | true=>
    rw [if_neg (by decide)]
    refine ⟨c,rfl,by omega,?_⟩
    unfold By; rw [List.filter_cons,hd]; rfl
   | false=>
    rw [if_pos (by decide)]
    dsimp only
    rw [FU (by omega)]
    refine ⟨_,rfl,by rw [List.length_append,List.length_singleton]; omega,?_⟩
    unfold By; rw [List.filter_cons,hd,List.append_assoc]; rfl)
  (fun c _=>by
   show Gl g b (b.Merges.length:Int) ⟨ra,ca,cs,c,[]⟩=_
   unfold Gl
   rw [if_neg (by simp)]
   simp [By]) [] (by simp) ((0:Int),⟨ra,ca,cs,[],[]⟩) rfl
 rw [List.nil_append] at this
 exact this
theorem UP (g b:AJ) (hR:B2 b.Rows b.Cols) (hG:Cn b.Rows b.Cols b.Merges) (hg:g.Merges.length≤1048576) (hb:b.Merges.length≤1048576) (hbi : ∀ q∈g.Merges,As b.Rows b.Cols q∧CL q) (ra ca:List AG) (cs:List AC) (sp:List AD) :
  iter (fun (a:Int × AK)=>GV g b a.1 a.2) (0,(⟨ra,ca,cs,sp,[]⟩:AK))=some ⟨ra,ca,cs,sp,By b.Merges g.Merges⟩:=by
 have:=CY (f:=fun (a:Int × AK)=>GV g b a.1 a.2) g.Merges (fun (c:List AD) i=>((i:Int),(⟨ra,ca,cs,sp,c⟩:AK))) (fun l c=>(⟨ra,ca,cs,sp,c++By b.Merges l⟩:AK)) (fun i c=>c.length≤i)
  (fun i c hi hI=>by
   left
   show ∃ c',GV g b (i:Int) ⟨ra,ca,cs,sp,c⟩=_∧_
   obtain ⟨k1,k2⟩:=hbi _ (Bx hi)
   have hiff:=RU hG k1 k2
   unfold GV
   rw [if_pos (by simpa using hi),Af hi,AE,RZ b _ _ hR hG.1 hb,AE,MI,decide_eq_decide.2 hiff,An (by omega)]
   cases hd:decide (g.Merges[i]! ∈ b.Merges) with
   | true=>
    rw [if_neg (by decide)]
    refine ⟨c,rfl,by omega,?_⟩
    unfold By; rw [List.filter_cons,hd]; rfl
   | false=>
    rw [if_pos (by decide)]
    dsimp only
    rw [FU (by omega)]
    refine ⟨_,rfl,by rw [List.length_append,List.length_singleton]; omega,?_⟩
    unfold By; rw [List.filter_cons,hd,List.append_assoc]; rfl)
  (fun c _=>by
   show GV g b (g.Merges.length:Int) ⟨ra,ca,cs,sp,c⟩=_
   unfold GV
   rw [if_neg (by simp)]
   simp [By]) [] (by simp) ((0:Int),⟨ra,ca,cs,sp,[]⟩) rfl
 rw [List.nil_append] at this
 exact this
end Go.Proofs.YtojmbndlghbpjaaGreatDoor.Al

set_option linter.unusedVariables false
set_option linter.unusedSimpArgs false
namespace Go.Proofs.YtojmbndlghbpjaaGreatDoor.Al
open Go
def GZ (f t:List AC) (r c:Nat):List AC:=if Bs f (r:Int) (c:Int)=Bs t (r:Int) (c:Int) then [] else [Bs t (r:Int) (c:Int)]
def EI (f t:List AC) (r m:Nat):List AC:=(List.range m).flatMap fun (c:Nat)=>GZ f t r c
def Dq (f t:List AC) (m n:Nat):List AC:=(List.range m).flatMap fun (r:Nat)=>EI f t r n
theorem Rg (f t:List AC) (r m:Nat):EI f t r (m+1)=EI f t r m++GZ f t r m:=by
 unfold EI; rw [List.range_succ,List.flatMap_append]; simp
theorem Pg (f t:List AC) (m n:Nat):Dq f t (m+1) n=Dq f t m n++EI f t m n:=by
 unfold Dq; rw [List.range_succ,List.flatMap_append]; simp
theorem Yo (f t:List AC) (r c:Nat):(GZ f t r c).length≤1:=by unfold GZ; split <;> simp
theorem Pn (f t:List AC) (r m:Nat):(EI f t r m).length≤m:=by
 induction m with
 | zero=>simp [EI]
 | succ m ih=>rw [Rg,List.length_append]; have:=Yo f t r m; omega
theorem RW (f t:List AC) (m n:Nat):(Dq f t m n).length≤m * n:=by
 induction m with
 | zero=>simp [Dq]
 | succ m ih=>rw [Pg,List.length_append,Nat.succ_mul]; have:=Pn f t m n; omega
theorem ST (l:List AC) (row col:Int):(Bs l row col).Row=row∧(Bs l row col).Col=col:=by
 rcases Hx (l:=l) (row:=row) (col:=col) with e | ⟨_,e⟩
 ·rw [e]; exact ⟨rfl,rfl⟩
 ·exact e
theorem aP {l:List AC} (h : ∀ c∈l,CQ c) (row col:Int):CQ (Bs l row col):=by
 rcases Hx (l:=l) (row:=row) (col:=col) with e | ⟨e,_⟩
 ·rw [e]; exact ⟨Tr,by simp⟩
 ·exact h _ e
theorem bZ (g b:AJ) (sg:SC g.Cells) (sb:SC b.Cells) (og : ∀ c∈g.Cells,CQ c) (ob : ∀ c∈b.Cells,CQ c) (lg:g.Cells.length≤1048576) (lb:b.Cells.length≤1048576) (hc0:0≤g.Cols) (hc:g.Cols≤30) (r:Nat) (ra ca:List AG) (o:List AC) (ho:o.length≤1000000) :
  iter (fun (a:Int × AK)=>IA g b (r:Int) a.1 a.2) (0,(⟨ra,ca,o,[],[]⟩:AK))=some ⟨ra,ca,o++EI b.Cells g.Cells r g.Cols.toNat,[],[]⟩:=by
 obtain ⟨q,hq,hQ⟩:=DY (f:=fun (a:Int × AK)=>IA g b (r:Int) a.1 a.2) g.Cols.toNat
  (fun k st=>st=((k:Int),(⟨ra,ca,o++EI b.Cells g.Cells r k,[],[]⟩:AK))) (fun q=>q=(⟨ra,ca,o++EI b.Cells g.Cells r g.Cols.toNat,[],[]⟩:AK))
  (fun k st hk hst=>by
   subst hst
   left
   have h1:=Pn b.Cells g.Cells r k
   unfold IA
   dsimp only
   rw [if_pos (by simp; omega),QE b _ _ (Tq sb) lb ob,AE,QE g _ _ (Tq sg) lg og,AE,P0 _ _ (aP ob _ _).1.1,AE,An (by omega),Rg]
   unfold GZ
   by_cases he:Bs b.Cells (r:Int) (k:Int)=Bs g.Cells (r:Int) (k:Int)
   ·rw [decide_eq_true he,if_neg (by decide),if_pos he,List.append_nil]
    exact ⟨_,rfl,rfl⟩
   ·rw [decide_eq_false he,if_pos (by decide),if_neg he,Fb (by rw [List.length_append]; omega),List.append_assoc]
    exact ⟨_,rfl,rfl⟩)
  (fun st hst=>by
   subst hst
   unfold IA
   dsimp only
   rw [if_neg (by simp; omega)]
   exact ⟨_,rfl,rfl⟩)
  (s:=((0:Int),(⟨ra,ca,o,[],[]⟩:AK))) (by simp [EI])
 rw [hq,hQ]
theorem T9 (g b:AJ) (sg:SC g.Cells) (sb:SC b.Cells) (og : ∀ c∈g.Cells,CQ c) (ob : ∀ c∈b.Cells,CQ c) (lg:g.Cells.length≤1048576) (lb:b.Cells.length≤1048576) (hr0:0≤g.Rows) (hr:g.Rows≤30) (hc0:0≤g.Cols) (hc:g.Cols≤30) (ra ca:List AG) :
  iter (fun (a:Int × AK)=>Ho g b a.1 a.2) (0,(⟨ra,ca,[],[],[]⟩:AK))=some ⟨ra,ca,Dq b.Cells g.Cells g.Rows.toNat g.Cols.toNat,[],[]⟩:=by
 obtain ⟨q,hq,hQ⟩:=DY (f:=fun (a:Int × AK)=>Ho g b a.1 a.2) g.Rows.toNat
  (fun k st=>st=((k:Int),(⟨ra,ca,Dq b.Cells g.Cells k g.Cols.toNat,[],[]⟩:AK))) (fun q=>q=(⟨ra,ca,Dq b.Cells g.Cells g.Rows.toNat g.Cols.toNat,[],[]⟩:AK))
  (fun k st hk hst=>by
   subst hst
   left
   have h1:=RW b.Cells g.Cells k g.Cols.toNat
   have h2:k * g.Cols.toNat≤30 * 30:=Nat.mul_le_mul (by omega) (by omega)
   unfold Ho
   dsimp only
   rw [if_pos (by simp; omega),bZ g b sg sb og ob lg lb hc0 hc k ra ca _ (by omega),AE,An (by omega),AE]
   exact ⟨_,rfl,by rw [Pg]⟩)
  (fun st hst=>by
   subst hst
   unfold Ho
   dsimp only
   rw [if_neg (by simp; omega)]
   exact ⟨_,rfl,rfl⟩)
  (s:=((0:Int),(⟨ra,ca,[],[],[]⟩:AK))) (by simp [Dq])
 rw [hq,hQ]
theorem Yc (f t:List AC) (m n:Nat) (x:AC):x∈Dq f t m n ↔ ∃ r c:Nat,r<m∧c<n∧x=Bs t (r:Int) (c:Int) ∧ ¬ Bs f (r:Int) (c:Int)=x:=by
 unfold Dq EI GZ
 simp only [List.mem_flatMap,List.mem_range]
 constructor
 ·rintro ⟨r,hr,c,hc,h⟩
  split at h
  ·cases h
  ·rename_i hne
   have:x=Bs t (r:Int) (c:Int):=by simpa using h
   exact ⟨r,c,hr,hc,this,by rw [this]; exact hne⟩
 ·rintro ⟨r,c,hr,hc,rfl,h⟩
  exact ⟨r,hr,c,hc,by rw [if_neg h]; simp⟩
theorem YX (f t:List AC) (m n:Nat):SC (Dq f t m n):=by
 have key : ∀ (r c:Nat) (x:AC),x∈GZ f t r c→x.Row=(r:Int)∧x.Col=(c:Int):=fun r c x hx=>by
  unfold GZ at hx
  split at hx
  ·cases hx
  ·have:x=Bs t (r:Int) (c:Int):=by simpa using hx
   rw [this]; exact ST ..
 unfold Dq
 rw [SC,List.pairwise_flatMap]
 refine ⟨fun r _=>?_,List.pairwise_lt_range.imp fun {a b} hab x hx y hy=>?_⟩
 ·unfold EI
  rw [List.pairwise_flatMap]
  refine ⟨fun c _=>by unfold GZ; split <;> simp,List.pairwise_lt_range.imp fun {a b} hab x hx y hy=>?_⟩
  have h1:=key r a x hx
  have h2:=key r b y hy
  right
  omega
 ·unfold EI at hx hy
  obtain ⟨c,_,hx⟩:=List.mem_flatMap.1 hx
  obtain ⟨c',_,hy⟩:=List.mem_flatMap.1 hy
  have h1:=key a c x hx
  have h2:=key b c' y hy
  left
  omega
theorem XK {f t:List AC} {R C:Int} (hf:SC f) (ht:SC t) (fi : ∀ c∈f,(0≤c.Row∧c.Row<R∧0≤c.Col∧c.Col<C)∧BY c=false) (ti : ∀ c∈t,(0≤c.Row∧c.Row<R∧0≤c.Col∧c.Col<C)∧BY c=false) :
  Dq f t R.toNat C.toNat=Df f t:=by
 obtain ⟨p1,p2⟩:=P2 t f hf ht
 refine Qy (YX ..) p1 fun x=>?_
 rw [Yc,p2]
 have blank_e : ∀ a b:Int,BY ⟨a,b,[],0,[]⟩=true:=fun a b=>by simp [BY]
 constructor
 ·rintro ⟨r,c,h1,h2,rfl,h3⟩
  have hat:=ST t (r:Int) (c:Int)
  rcases Hx (l:=t) (row:=(r:Int)) (col:=(c:Int)) with e | ⟨e1,e2⟩
  ·right
   rcases Hx (l:=f) (row:=(r:Int)) (col:=(c:Int)) with e' | ⟨f1,f2⟩
   ·exact absurd (e'.trans e.symm) h3
   ·refine ⟨_,f1,?_,fun y hy hA=>?_⟩
    ·rw [e]; unfold Cz; rw [f2.1,f2.2]
    ·have:=KQ ht hy
     rw [← hA.1,← hA.2,f2.1,f2.2,e] at this
     have h5:=(ti y hy).2
     rw [← this,blank_e] at h5; cases h5
  ·left
   refine ⟨e1,fun hm=>h3 ?_⟩
   have:=KQ hf hm
   rw [hat.1,hat.2] at this
   exact this
 ·rintro (⟨h1,h2⟩ | ⟨y,hy,rfl,hno⟩)
  ·obtain ⟨⟨a1,a2,a3,a4⟩,a5⟩:=ti x h1
   refine ⟨x.Row.toNat,x.Col.toNat,by omega,by omega,?_,fun e=>?_⟩
   ·rw [show ((x.Row.toNat:Nat):Int)=x.Row by omega,show ((x.Col.toNat:Nat):Int)=x.Col by omega]
    exact (KQ ht h1).symm
   ·rcases Hx (l:=f) (row:=((x.Row.toNat:Nat):Int)) (col:=((x.Col.toNat:Nat):Int)) with e' | ⟨f1,_⟩
    ·rw [← e,e',blank_e] at a5; cases a5
    ·rw [e] at f1; exact h2 f1
  ·obtain ⟨⟨a1,a2,a3,a4⟩,a5⟩:=fi y hy
   have r1:((y.Row.toNat:Nat):Int)=y.Row:=by omega
   have r2:((y.Col.toNat:Nat):Int)=y.Col:=by omega
   refine ⟨y.Row.toNat,y.Col.toNat,by omega,by omega,?_,fun e=>?_⟩
   ·rw [r1,r2]
    rcases Hx (l:=t) (row:=y.Row) (col:=y.Col) with e | ⟨e1,e2⟩
    ·rw [e]; rfl
    ·exact absurd ⟨e2.1.symm,e2.2.symm⟩ (hno _ e1)
   ·rw [r1,r2,KQ hf hy] at e
    rw [e] at a5
    unfold Cz at a5
    rw [blank_e] at a5; cases a5
end Go.Proofs.YtojmbndlghbpjaaGreatDoor.Al

set_option linter.unusedVariables false
set_option linter.unusedSimpArgs false
namespace Go.Proofs.YtojmbndlghbpjaaGreatDoor.Al
open Go
theorem UC {g:AJ} (h:Dk g=0) : ∀ q∈g.Merges,CL q:=by
 obtain ⟨h1,h2,h3⟩:=Nj h
 obtain ⟨_,hce⟩:=QU h
 intro q hq
 obtain ⟨k,hk,e⟩:=List.getElem_of_mem hq
 have hin:=h3 k hk
 unfold Dk at h
 rw [if_neg (by simpa using h1),if_neg (by simpa using hce)] at h
 have hn:=Li (G:=D7 g.Rows g.Cols g.Merges) h (fun k _ he=>by
  unfold D7 at he
  split at he
  ·cases he
  ·split at he
   ·cases he
   ·split at he
    ·cases he
    ·split at he
     ·cases he
     ·cases he) k hk
 have hv:g.Merges[k]! = q:=by rw [getElem!_pos g.Merges k hk,e]
 rw [hv] at hin
 unfold D7 at hn
 rw [hv] at hn
 split at hn
 ·cases hn
 ·split at hn
  ·cases hn
  ·rename_i hh
   unfold As at hin
   unfold CL
   omega
theorem aL {g:AJ} {e:AK} (h:GB g e) (he:e.Merge=[]) : ∀ q∈(DD g e).Merges,CL q:=by
 have hG:=PM e.Merge _ (M0 h.ar h.ac e.Split h.gm) h.em
 intro q hq
 have hm:q∈H7 g e:=(Ok hG q).1 hq
 unfold H7 at hm
 rw [he] at hm
 obtain ⟨a,ha,hb⟩:=List.mem_filterMap.1 (show q∈g.Merges.filterMap (mR e.Rows e.Cols e.Split) from hm)
 unfold mR at hb
 split at hb
 ·rename_i hk; cases hb; exact hk.1
 ·cases hb
theorem Uu {g:AJ} {e:AK} (a1:Av e.Rows=0) (a2:Av e.Cols=0) : ∃ b,Ly g e=some b∧(b=true→g.Rows≤30∧g.Cols≤30∧IZ e.Rows g.Rows∧IZ e.Cols g.Cols):=by
 have g1:=CX a1
 have g2:=CX a2
 unfold Ly
 by_cases h:g.Rows≤30∧g.Cols≤30
 ·rw [show ((decide (g.Rows≤30)) && (decide (g.Cols≤30)))=true by simp [h]]
  simp only [show (true == true)=true from rfl,Ap,Bool.true_and]
  rw [TH _ g1.stp g1.len,AE]
  by_cases h1:A8 e.Rows≤60
  ·rw [decide_eq_true h1]
   simp only [show (true == true)=true from rfl,Ap,Bool.true_and]
   rw [TH _ g2.stp g2.len,AE]
   refine ⟨_,rfl,fun h2=>?_⟩
   have h2:=of_decide_eq_true h2
   unfold IZ
   exact ⟨h.1,h.2,by split <;> omega,by split <;> omega⟩
  ·rw [decide_eq_false h1]
   simp only [show (false == true)=false from rfl,EH,AE,Bool.false_and]
   exact ⟨false,rfl,fun h=>by cases h⟩
 ·rw [show ((decide (g.Rows≤30)) && (decide (g.Cols≤30)))=false by
   rw [Bool.and_eq_false_iff,decide_eq_false_iff_not,decide_eq_false_iff_not]; omega]
  simp only [show (false == true)=false from rfl,EH,AE,Bool.false_and]
  exact ⟨false,rfl,fun h=>by cases h⟩
theorem Sb (x:AK) (h1:x.Rows.length≤9223372036854775806) (h2:x.Cols.length≤9223372036854775806) (h3:x.Cells.length≤9223372036854775806) (h4:x.Split.length≤9223372036854775806) (h5:x.Merge.length≤9223372036854775806) (h6 : ∀ c∈x.Cells,c.Attrs.length≤1073741824):GQ x x=some true:=by
 unfold GQ
 rw [Ph _ _ h1,Ph _ _ h2,Tp _ _ h4,Tp _ _ h5,YG _ _ h3 h6]
 simp [gd,AE]
theorem Z0 (g:AJ) (e:AK) (hg:H3 g) (he:GH e) (hsum:g.Cells.length+e.Cells.length≤1048576) (hsum2:g.Merges.length+e.Merge.length≤1048576):Nc g e=some true:=by
 have hz:GQ ⟨[],[],[],[],[]⟩ ⟨[],[],[],[],[]⟩=some true:=Sb _ (by simp) (by simp) (by simp) (by simp) (by simp) (fun c hc=>by cases hc)
 have bad : ∀ p:Int,p≠0→(AB (
    if ((decide (p=p)) == true) then (
     AB (GQ (⟨[],[],[],[],[]⟩:AK) (AK.mk [] [] [] [] [])) fun (r4:Bool)=>
     some ((decide (p=p)) && r4)
    ) else (
     some ((decide (p=p)) && false)
    )
   ) fun (x1:Bool)=>some x1)=some true:=fun p hp=>by
  rw [decide_eq_true rfl,if_pos (show (true == true)=true from rfl),hz]; rfl
 unfold Nc
 rw [UF,AE,if_neg (by decide)]
 unfold MY
 rw [WZ g hg]
 by_cases g0:Dk g=0
 ·by_cases e0:E3 e=0
  ·obtain ⟨a1,a2,a3⟩:=RX e0
   have hok:=(Nj g0).1
   rw [Wj hg he hok g0 e0 a1 a2,SY e he,Ug he hok a1 a2,g0,e0]
   by_cases f0:HU g e=0
   ·have hF:=YL hg he g0 e0 f0
    have hB:=SB hF hsum hsum2
    have hB2:=SB hB (by show (DD g e).Cells.length+0≤_; have:=hB.gl; omega) (by show (DD g e).Merges.length+0≤_; have:=hB.gml; omega)
    obtain ⟨_,er⟩:=Ms hF.ar
    obtain ⟨_,ec⟩:=Ms hF.ac
    have hbr:(DD (DD g e) (GR e)).Rows=g.Rows:=er
    have hbc:(DD (DD g e) (GR e)).Cols=g.Cols:=ec
    have hbok:=aL hB rfl
    have hraw:FS (DD g e) (AK.mk (CJ e.Rows) (CJ e.Cols) [] [] [])=some (DD (DD g e) (GR e)):=QF hB
    have hed2 : ∀ (s1:DX (CJ e.Rows) (Ab e.Rows g.Rows)) (s2:DX (CJ e.Cols) (Ab e.Cols g.Cols)),IT (DD g e) (AK.mk (CJ e.Rows) (CJ e.Cols) [] [] [])=some (DD (DD g e) (GR e)):=fun s1 s2=>SQ hB s1 s2
    generalize DD (DD g e) (GR e)=b at hB2 hbr hbc hbok hraw hed2
    have hgm:Cn b.Rows b.Cols b.Merges:=hB2.gm
    rw [f0,if_pos rfl,Hj,if_neg (by decide),SU a1,BD,SU a2,BD,QF hF,AE,hraw,AE,bn b g hB2.gml hF.gml hB2.gl hF.gl hB2.go hF.go,AE,BD,AE,if_pos (by decide),AE,AE,if_pos (by decide),AE,if_neg (by decide)]
    obtain ⟨q,hq,hq2⟩:=Uu (g:=g) a1 a2
    rw [hq,AE]
    cases q with
    | false=>rfl
    | true=>
     obtain ⟨s1,s2,s3,s4⟩:=hq2 rfl
     have hbi : ∀ c∈b.Cells,(0≤c.Row∧c.Row<g.Rows∧0≤c.Col∧c.Col<g.Cols)∧BY c=false:=fun c hc=>by
      have:=hB2.gi c hc
      rw [hbr,hbc] at this; exact this
     have hdif:=XK hB2.gc hF.gc hbi hF.gi
     have hlen:=RW b.Cells g.Cells g.Rows.toNat g.Cols.toNat
     have hlen2:g.Rows.toNat * g.Cols.toNat≤30 * 30:=Nat.mul_le_mul (by omega) (by omega)
     rw [if_neg (by decide),BD,BD,SQ hF (Pv s3) (Pv s4),AE,hed2 (Qw hF.ar s3) (Qw hF.ac s4),AE,
      T9 g b hF.gc hB2.gc hF.go hB2.go hF.gl hB2.gl hF.ar.n0 s1 hF.ac.n0 s2,AE]
     dsimp only
     rw [bF g b hok hF.gm hF.gml hB2.gml (fun q hq=>⟨by have:=hgm.1 q hq; rw [hbr,hbc] at this; exact this,hbok q hq⟩),AE]
     dsimp only
     rw [UP g b (by rw [hbr,hbc]; exact hok) hgm hF.gml hB2.gml (fun q hq=>⟨by rw [hbr,hbc]; exact hF.gm.1 q hq,UC g0 q hq⟩),AE,show ((decide ((0:Int)=0)) == true)=true from rfl,Ap]
     have hsame:GQ (OK b g (CJ e.Rows) (CJ e.Cols)) ⟨CJ e.Rows,CJ e.Cols,Dq b.Cells g.Cells g.Rows.toNat g.Cols.toNat,By g.Merges b.Merges,By b.Merges g.Merges⟩=some true:=by
      rw [hdif]
      refine Sb (OK b g (CJ e.Rows) (CJ e.Cols)) ?_ ?_ ?_ ?_ ?_ ?_
      ·have:=Ke (MF a1).1
       show (CJ e.Rows).length≤_
       omega
      ·have:=Ke (MF a2).1
       show (CJ e.Cols).length≤_
       omega
      ·show (Df b.Cells g.Cells).length≤_
       rw [← hdif]; omega
      ·have h1:(By g.Merges b.Merges).length≤b.Merges.length:=List.length_filter_le ..
       have:=hB2.gml
       show (By g.Merges b.Merges).length≤_
       omega
      ·have h1:(By b.Merges g.Merges).length≤g.Merges.length:=List.length_filter_le ..
       have:=hF.gml
       show (By b.Merges g.Merges).length≤_
       omega
      ·intro c hc
       rcases ((P2 g.Cells b.Cells hB2.gc hF.gc).2 c).1 hc with ⟨h1,_⟩ | ⟨f,_,rfl,_⟩
       ·exact (hF.go c h1).1.1
       ·show ([]:List Ak).length≤_
        simp
     rw [hsame,AE]
     rfl
   ·rw [if_neg f0,Hj,if_pos (by simpa using f0),BD,AE,if_pos (by decide),AE,AE,if_pos (by decide),AE,AE,if_pos (by simpa using f0)]
    exact bad _ f0
  ·have hf:Ea g e=some (0,0,E3 e):=by
    unfold Ea
    rw [NJ g hg,AE,g0,if_neg (by decide),O4 e he,AE,if_pos (by simpa using e0)]
   rw [hf,Hj,if_pos (by simpa using e0),BD,AE,g0,if_pos (by decide),SY e he,AE,AE,if_neg (by simpa using e0),AE,if_pos (by simpa using e0)]
   exact bad _ e0
 ·have hf:Ea g e=some (0,0,Dk g):=by
   unfold Ea
   rw [NJ g hg,AE,if_pos (by simpa using g0)]
  rw [hf,Hj,if_pos (by simpa using g0),BD,AE,if_neg (by simpa using g0),AE,if_neg (by simpa using g0),AE,if_pos (by simpa using g0)]
  exact bad _ g0
theorem Uh {γ:AJ→Nat} {ψ:AC→Nat} {ρ:AD→Nat} {η:AK→Nat} {σ:AG→Nat} {κ:Ak→Nat}
  (hg : ∀ g,(g.Cells.map ψ).sum+(g.Merges.map ρ).sum+1≤γ g) (he : ∀ e,(e.Rows.map σ).sum+(e.Cols.map σ).sum+(e.Cells.map ψ).sum+(e.Split.map ρ).sum+(e.Merge.map ρ).sum+1≤η e) (hc : ∀ c,c.Text.length+(c.Attrs.map κ).sum+1≤ψ c) (hr : ∀ r,1≤ρ r)
  {g:AJ} {e:AK} (hb:γ g+η e≤1048576):g.Cells.length+e.Cells.length≤1048576∧g.Merges.length+e.Merge.length≤1048576:=by
 have h1:=hg g
 have h2:=he e
 have h6:=Ew (μ:=ψ) (fun c=>by have:=hc c; omega) g.Cells
 have h7:=Ew (μ:=ρ) hr g.Merges
 have h8:=Ew (μ:=ψ) (fun c=>by have:=hc c; omega) e.Cells
 have h9:=Ew (μ:=ρ) hr e.Merge
 exact ⟨by omega,by omega⟩
end Go.Proofs.YtojmbndlghbpjaaGreatDoor.Al
