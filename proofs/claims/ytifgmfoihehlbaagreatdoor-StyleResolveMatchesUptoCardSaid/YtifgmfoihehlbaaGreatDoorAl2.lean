/- The program logic, a part of it. -/
import Derived.Test.YtifgmfoihehlbaaGreatDoorAl1
import Derived.ArgAppend
import Derived.Below
import Derived.Calls
import Derived.LaidLaws
import Derived.Laws.BytesString
import Derived.Laws.RangeString
import Derived.Lib.LaidU8
import Derived.MapKept
import Derived.Maps.RangeRun
import Derived.OrdersIn
import Derived.Shelf.SlSortCmp.NoneTotal
import Derived.Shelf.Slices.In.SortNone
import Derived.Shelf.Sort.Plain
import Derived.Shelf.Strconv.AtoiAll
import Derived.Shelf.Strconv.Itoa3
import Derived.Shelf.Unicode.ValidAny
import Derived.WideLaws
set_option linter.all false
namespace Go.Proofs.YtifgmfoihehlbaaGreatDoor.Al
structure PO where
 d:Option Nat
 v:(Nat→Nat)→AV
 hp:Option (Nat × ((Nat→Nat)→Option Ab))
 dep:List Nat
def PO.wE(p:PO):Option (Nat × ((Nat→Nat)→AV)):=match p.d with | some d=>some (d,p.v) | none=>none
def PO.wH(p:PO):Option (Nat × ((Nat→Nat)→Option Ab)):=p.hp
section
variable{α:Type}(wr:PO→Option (Nat × ((Nat→Nat)→α)))(D:Nat→Bool)(G:Nat→Nat)
def EU:List (Nat × α)→List PO→Nat→List (Nat × α)
 | e,[],_=>e
 | e,p::L,k=>match D k with
  | true=>match wr p with
   | some (d,v)=>EU ((d,v G)::e) L (k+1)
   | none=>EU e L (k+1)
  | false=>EU e L (k+1)
def HN(t:Nat)(L:List PO)(k:Nat):Prop:=∀(j:Nat) (p:PO) v,L[j]?=some p→D (k+j)=true→wr p≠some (t,v)
end
theorem HN.tail{α:Type}{wr:PO→Option (Nat × ((Nat→Nat)→α))}{D:Nat→Bool}{t:Nat}{p:PO}{L:List PO}{k:Nat}(h:HN wr D t (p::L) k):HN wr D t L (k+1):=
 λj q v l m=>h (j+1) q v (by simpa using l) (by rwa [show k+(j+1)=k+1+j by omega])
section
variable{α:Type}{wr:PO→Option (Nat × ((Nat→Nat)→α))}{D:Nat→Bool}{G:Nat→Nat}{lk:List (Nat × α)→Nat→α}(hlk:∀d v R t,lk ((d,v)::R) t=if d=t then v else lk R t)
include hlk
theorem H1{t:Nat} : ∀(L:List PO) (e:List (Nat × α)) (k:Nat),HN wr D t L k→lk (EU wr D G e L k) t=lk e t
 | [],_,_,_=>rfl
 | p::L,e,k,h=>by
  unfold EU
  cases l:D k with
  | false=>exact H1 L e (k+1) h.tail
  | true=>
   cases m:wr p with
   | none=>exact H1 L e (k+1) h.tail
   | some q=>
    obtain⟨d,v⟩:=q
    have j:d≠t:=λe=>h 0 p v rfl l (by rw[m,e])
    exact(H1 L _ (k+1) h.tail).trans (by rw[hlk,rN j])
theorem Kn{t}{p}{v}(hw:wr p=some (t,v)):∀(L:List PO) (e:List (Nat × α)) (k j:Nat),L[j]?=some p→D (k+j)=true→HN wr D t (L.drop (j+1)) (k+j+1)→lk (EU wr D G e L k) t=v G
 | [],_,_,_,h,_,_=>by simp at h
 | q::L,e,k,0,A,C,B=>by
  cases A
  unfold EU
  rw[show D k=true from C,hw]
  exact(H1 hlk L _ (k+1) (by simpa using B)).trans (by rw[hlk,rO rfl])
 | q::L,e,k,j+1,A,C,B=>by
  have l:L[j]?=some p:=by simpa using A
  have m:D (k+1+j)=true:=by rwa [show k+1+j=k+(j+1) by omega]
  have w:HN wr D t (L.drop (j+1)) (k+1+j+1):=by rw[show k+1+j+1=k+(j+1)+1 by omega];simpa using B
  unfold EU
  cases D k with
  | false=>exact Kn hw L e (k+1) j l m w
  | true=>
   cases wr q with
   | none=>exact Kn hw L e (k+1) j l m w
   | some r=>exact Kn hw L _ (k+1) j l m w
theorem It{t}{w}{A} : ∀(L:List PO) (e e':List (Nat × α)) (k:Nat),lk e' t=lk e t →
  (∀(j:Nat) (p:PO) v,L[j]?=some p→wr p=some (t,v)→w (k+j)=D (k+j)∧(D (k+j)=true→v A=v G))→lk (EU wr w A e' L k) t=lk (EU wr D G e L k) t
 | [],_,_,_,h,_=>h
 | p::L,e,e',k,h,E=>by
  have l:∀(j:Nat) (q:PO) v,L[j]?=some q→wr q=some (t,v)→w (k+1+j)=D (k+1+j)∧(D (k+1+j)=true→v A=v G):=λj q v B C=>by
   have:=E (j+1) q v (by simpa using B) C
   rwa [show k+(j+1)=k+1+j by omega] at this
  unfold EU
  cases hp:wr p with
  | none=>
   have J:=It L e e' (k+1) h l
   cases w k<;>cases D k<;>exact J
  | some q=>
   obtain⟨d,v⟩:=q
   by_cases m:d=t
   ·subst m
    obtain⟨B,C⟩:=E 0 p v rfl hp
    rw[si] at B C
    rw[B]
    cases M:D k with
    | false=>exact It L e e' (k+1) h l
    | true=>exact It L _ _ (k+1) (by rw[hlk,hlk,rO rfl,rO rfl,C M]) l
   ·have F:lk ((d,v A)::e') t=lk e' t:=by rw[hlk,rN m]
    have I:lk ((d,v G)::e) t=lk e t:=by rw[hlk,rN m]
    cases w k<;>cases D k
    ·exact It L _ _ (k+1) h l
    ·exact It L _ _ (k+1) (by rw[I];exact h) l
    ·exact It L _ _ (k+1) (by rw[F];exact h) l
    ·exact It L _ _ (k+1) (by rw[F,I];exact h) l
end
abbrev D5(D:Nat→Bool)(G:Nat→Nat)(e:Am)(L:List PO):Am:=EU PO.wE D G e L 0
abbrev D0(D:Nat→Bool)(G:Nat→Nat)(h:Ag)(L:List PO):Ag:=EU PO.wH D G h L 0
def DV(G:Nat→Nat)(i n:Nat):Nat→Nat:=λk=>if k=i then n else G k
section
variable{P:Program}{ops:Array Oper}
def wt(ops:Array Oper):Nat→Nat→Nat→Bool
 | 0,_,_=>false
 | f+1,j,i=>Region.waitsFor .any ops j i||(List.range j).any λm=>Region.waitsFor .any ops j m&&wt ops f m i
def Cl(ops:Array Oper)(D:Nat→Bool):Prop:=∀j k,D j=true→Region.waitsFor .any ops j k=true→D k=true
theorem Cl.wt{D}(h:Cl ops D):∀(f j i:Nat),Al.wt ops f j i=true→D j=true→D i=true
 | 0,_,_,l,_=>by cases l
 | f+1,j,i,l,w=>by
  unfold Al.wt at l
  rw[re] at l
  rcases l with l | l
  ·exact h j i w l
  ·obtain⟨m,_,q⟩:=sw.1 l
   rw[rZ] at q
   exact h.wt f m i q.2 (h j m w q.1)
structure Cj(ops:Array Oper)(D:Nat→Bool)(i:Nat):Prop where
 cl:Cl ops D
 hw:∀k,Region.waitsFor .any ops i k=true→D k=true
 un:D i=false
theorem Cj.yes{D}{i}(h:Cj ops D i){k}(j:Al.wt ops 40 i k=true):D k=true:=by
 unfold Al.wt at j
 rw[re] at j
 rcases j with j | j
 ·exact h.hw k j
 ·obtain⟨m,_,l⟩:=sw.1 j
  rw[rZ] at l
  exact h.cl.wt 39 m k l.2 (h.hw m l.1)
theorem Cj.no{D}{i}(h:Cj ops D i){k}(j:Al.wt ops 40 k i=true):D k=false:=by
 cases l:D k with
 | false=>rfl
 | true=>have:=h.cl.wt 40 k i j l;rw[h.un] at this;cases this
def HJ(c0:Cx)(s:St)(L:List PO)(listed:Array Bool)(a:Act)(w:World):Prop:=
 ∃j,a.defers=j∧a.tmps.size=s.N∧∃(y:Cx) (G:Nat→Nat),y.w=w∧c0.leM j y∧y.ok∧(∀id,y.H id=hget (D0 (λk=>listed.getD k false) G s.h L) id) ∧
  (∀t,AO y (get (D5 (λk=>listed.getD k false) G s.e L) t) (a.tmps.getD t undef))
def Gb(P:Program)(o:Oper)(R:Am)(h:Ag)(n:Nat)(v:AV)(h':Ag):Prop:=
 ∀(x:Cx) (a:Act),x.ok→x.H=hget h→x.n=n→B3 x R a→∀(K:Act→World→Prop) (Q:Exit→Act→World→Prop),
  (∀(u:Value) (y:Cx),x.le y→y.ok→y.H=hget h'→AO y v u→K (a.put o.dst u) y.w)→o.wp P a x.w K Q
theorem BQ.toN{o}{R}{h}{n}{v}{h'}{n'}(j:BQ P true o R h n v h' n'):Gb P o R h n v h':=
 λx a l m q w K Q A=>j rfl x a l m q w K Q λu y B C E _ F=>A u y B C E F
def Ob(P:Program)(ops:Array Oper)(s:St)(L:List PO)(i:Nat)(p:PO)(o:Oper):Prop:=
 o.dst=p.d∧(∀d,p.d=some d→Nat.blt d s.N=true)∧∀(D:Nat→Bool) (G:Nat→Nat) (e:Am) (h:Ag) (n:Nat),Cj ops D i →
  (∀t,get e t=get (D5 D G s.e L) t)→(∀id,hget h id=hget (D0 D G s.h L) id) →
  (o.guard=none∧∃l,Gb P o e h n (p.v (DV G i n)) l∧(∀id,hget l id=match p.hp with | some (j,q)=>if j=id then q (DV G i n) else hget h id | none=>hget h id)) ∨
  (p.hp=none∧∃c v0,p.v (DV G i n)=.whn c v0∧Gc e ops o c∧(c=true→∃m,Gb P o e h n v0 m∧∀id,hget m id=hget h id))
def LA(L:List PO)(t:Nat):Bool:=L.all λp=>match p.d with | some d=>!Nat.beq d t | none=>true
def TJ(L:List PO)(t:Nat):Bool:=L.all λp=>match p.hp with | some (d,_)=>!Nat.beq d t | none=>true
def Jn:List PO→Bool
 | []=>true
 | p::L=>(match p.d with | some d=>LA L d | none=>true)&&Jn L
def N4(ops:Array Oper)(L:List PO):Bool:=(List.range L.length).all λj=>(List.range j).all λi=>match L[i]?.bind (·.hp),L[j]?.bind (·.hp) with
 | some (a,_),some (b,_)=>!Nat.beq a b||wt ops 40 j i
 | _,_=>true
theorem lP{L:List PO}{t:Nat}(h:LA L t=true){j:Nat}{p:PO}(l:L[j]?=some p):p.d≠some t:=λhd=>by
 have:=ry.1 h p (rq l)
 rw[hd] at this
 simp at this
theorem pc{L:List PO}{t:Nat}(h:TJ L t=true){j:Nat}{p:PO}(l:L[j]?=some p):∀ob,p.hp≠some (t,ob):=λob hd=>by
 have:=ry.1 h p (rq l)
 rw[hd] at this
 simp at this
theorem ZU{p:PO}{t}{v}(h:p.wE=some (t,v)):p.d=some t∧v=p.v:=by
 unfold PO.wE at h
 split at h
 ·rename_i d hd;simp only[rY,rf] at h;rw[hd,h.1];exact⟨rfl,h.2.symm⟩
 ·cases h
theorem Vs{p:PO}{t}(h:p.d=some t):p.wE=some (t,p.v):=by unfold PO.wE;rw[h]
theorem Rj{p:PO}{t}{v}(h:p.wH=some (t,v)):∃ob,p.hp=some (t,ob)∧v=ob:=⟨v,h,rfl⟩
theorem Wx{p:PO}{t}{ob}(h:p.hp=some (t,ob)):p.wH=some (t,ob):=h
theorem VR:∀ {L:List PO},Jn L=true→∀ {j:Nat} {p:PO} {t:Nat},L[j]?=some p→p.d=some t→LA (L.drop (j+1)) t=true
 | [],_,_,_,_,h,_=>by simp at h
 | q::L,h,0,p,t,l,m=>by
  cases l
  simp only[Jn,rZ,m] at h
  simpa using h.1
 | q::L,h,j+1,p,t,l,m=>by
  simp only[Jn,rZ] at h
  simpa using VR h.2 (j:=j) (by simpa using l) m
theorem Tf{L}{t}(h:LA L t=true){D}{k} : HN PO.wE D t L k:=λ_ _ _ j _ l=>lP h j (ZU l).1
theorem ny{L}{t}(h:TJ L t=true){D}{k} : HN PO.wH D t L k:=λ_ _ _ j _ l=>by obtain⟨m,q,_⟩:=Rj l;exact pc h j m q
theorem p8{L:List PO}(hB:N4 ops L=true){D}(l:Cl ops D){i}{p:PO}{t}{ob}(hp:L[i]?=some p)(C:p.hp=some (t,ob))(m:D i=false):HN PO.wH D t (L.drop (i+1)) (i+1):=by
 intro j q v w E F
 obtain⟨dh,I,_⟩:=Rj F
 rw[sT] at w
 have A:i+1+j<L.length:=(rW.1 w).1
 have:=ry.1 (ry.1 hB (i+1+j) (sA.2 A)) i (sA.2 (by omega))
 simp only[hp,w,sJ,C,I,re,sU] at this
 rcases this with B | B
 ·simp at B
 ·have:=l.wt 40 _ _ B E
  rw[m] at this;cases this
def Oh(ops:Array Oper)(L:List PO):Bool:=(List.range L.length).all λj=>match L[j]? with
 | some p=>p.dep.all λk=>Nat.beq k j||wt ops 40 j k
 | none=>true
def IK:List PO→Prop
 | []=>True
 | p::L=>(∀G j:Nat→Nat,(∀k,p.dep.contains k=true→G k=j k)→p.v j=p.v G∧∀id l,p.hp=some (id,l)→l j=l G)∧IK L
theorem IK.at:∀ {L:List PO},IK L→∀ {j:Nat} {p:PO},L[j]?=some p→∀G l:Nat→Nat,(∀k,p.dep.contains k=true→G k=l k)→p.v l=p.v G∧∀id ob,p.hp=some (id,ob)→ob l=ob G
 | _::_,h,0,_,m=>by cases m;exact h.1
 | _::_,h,j+1,_,m=>IK.at h.2 (j:=j) (by simpa using m)
theorem eN{L:List PO}(hB:Oh ops L=true){D}(m:Cl ops D){j}{p:PO}(hp:L[j]?=some p)(w:D j=true){k}(B:p.dep.contains k=true):D k=true:=by
 have q:j<L.length:=(rW.1 hp).1
 have A:=ry.1 hB j (sA.2 q)
 simp only[hp] at A
 have l:=ry.1 A k (by simpa using B)
 simp only[re] at l
 rcases l with l | l
 ·rw[tA l];exact w
 ·exact m.wt 40 _ _ l w
theorem HJ.put{c0:Cx}{s:St}{L}{listed:Array Bool}{a:Act}{i}{p:PO}{y z:Cx}{G}{u}(hp:L[i]?=some p)(hN:∀d, p.d=some d→Nat.blt d s.N=true)(hE:Jn L=true)(hH:N4 ops L=true)
 (hD:Oh ops L=true) (U:IK L) (hi:i<listed.size) (hr:Cj ops (λk => listed.getD k false) i) {ds} (V:a.defers=ds) (hsz:a.tmps.size=s.N) (a2:c0.leM ds y)
 (he:∀t, AO y (get (D5 (λk => listed.getD k false) G s.e L) t) (a.tmps.getD t undef)) (X:y.le z) (Z:z.ok)
 (a6:∀id, z.H id=match p.hp with | some (j, B) => if j=id then B (DV G i y.n) else hget (D0 (λk => listed.getD k false) G s.h L) id | none => hget (D0 (λk => listed.getD k false) G s.h L) id)
 (hv:AO z (p.v (DV G i y.n)) u):HJ c0 s L (listed.setIfInBounds i true) (a.put p.d u) z.w := by
  have a0:∀k, (listed.setIfInBounds i true).getD k false=(listed.getD k false||(k=i)) := λk => by
    by_cases J:i=k
    · subst J;simp[hi]
    · rw[getD_set_ne false J];simp[uR J]
  have l:∀k, k≠i→(listed.setIfInBounds i true).getD k false=listed.getD k false := λk J => by rw[a0];simp[J]
  have I:∀(j:Nat) (q:PO), L[j]?=some q→listed.getD j false=true→q.v (DV G i y.n)=q.v G∧∀id B, q.hp=some (id, B)→B (DV G i y.n)=B G := λj q T hl => by
    refine U.at T G _ λk J => ?_
    have hlk := eN hD hr.cl T hl J
    have:k≠i := λe => by subst e;rw[hr.un] at hlk;cases hlk
    simp[DV, this]
  have a1:(λk => (listed.setIfInBounds i true).getD k false) (0+i)=true := by show(listed.setIfInBounds i true).getD (0+i) false=true;rw[sF, a0];simp
  refine⟨ds, by cases w:p.d<;>simpa[Act.put, w] using V, ?_, z, DV G i y.n, rfl, a2.trans X, Z, λid => ?_, λt => ?_⟩
  · cases w:p.d<;>simpa[Act.put, w] using hsz
  · rw[a6]
    have rest:(∀B, p.hp≠some (id, B))→hget (D0 (λk => listed.getD k false) G s.h L) id=hget (D0 (λk => (listed.setIfInBounds i true).getD k false) (DV G i y.n) s.h L) id := λa7 => by
      refine(It BI L _ _ 0 rfl λj q v C h2 => ?_).symm
      obtain⟨B, h4, h5⟩ := Rj h2
      have M:j≠i := λe => by subst e;rw[hp] at C;cases C;exact a7 B h4
      rw[sF]
      exact⟨l j M, λhl => by rw[h5];exact(I j q C hl).2 id B h4⟩
    cases E:p.hp with
    | none => exact rest λB => by rw[E];simp
    | some r =>
      obtain⟨j, B⟩ := r
      by_cases T:j=id
      · subst T
        simp only[uQ]
        have F := p8 hH hr.cl hp E hr.un
        refine(Kn BI (Wx E) L _ 0 i hp a1 ?_).symm
        rw[sF]
        intro m q v C h2 h3
        exact F m q v C ((l _ (by omega)).symm.trans h2) h3
      · simp only[rN T]
        exact rest λaa => by rw[E];intro e;cases e;exact T rfl
  · by_cases A:p.d=some t
    · have e1:get (D5 (λk => (listed.setIfInBounds i true).getD k false) (DV G i y.n) s.e L) t=p.v (DV G i y.n) :=
        Kn DD (Vs A) L _ 0 i hp a1 (Tf (VR hE hp A))
      have O:t<a.tmps.size := by rw[hsz];exact Cn (hN t A)
      rw[e1, A]
      simp only[Act.put, R3 O, uQ]
      exact hv
    · have e1:get (D5 (λk => (listed.setIfInBounds i true).getD k false) (DV G i y.n) s.e L) t=get (D5 (λk => listed.getD k false) G s.e L) t := by
        refine It DD L _ _ 0 rfl λj q v C h2 => ?_
        obtain⟨h4, h5⟩ := ZU h2
        have M:j≠i := λe => by subst e;rw[hp] at C;cases C;exact A h4
        rw[sF]
        exact⟨l j M, λhl => by rw[h5];exact(I j q C hl).1⟩
      rw[e1]
      have h0 := (he t).mono X
      cases w:p.d with
      | none => exact h0
      | some d =>
        have a8:d≠t := λe => A (by rw[w, e])
        have O:d<a.tmps.size := by rw[hsz];exact Cn (hN d w)
        simp only[Act.put, R3 O, rN a8]
        exact h0
theorem HJ.step{c0}{s}{L}{listed:Array Bool}{a:Act}{w}{i}{p}{o}{Q}(hp:L[i]?=some p)(ho:ops[i]?=some o)(U:Ob P ops s L i p o)(V:Jn L=true)(X:N4 ops L=true)
 (Z:Oh ops L=true) (l:IK L) (hi:i<listed.size) (T:Cj ops (λk => listed.getD k false) i) (J:HJ c0 s L listed a w) :
    wpOp P ops Q i (HJ c0 s L (listed.setIfInBounds i true)) a w := by
  obtain⟨_, m, hsz, y, G, a0, A, B, C, I⟩ := J
  subst a0
  obtain⟨hd, hN, a1⟩ := U
  unfold wpOp
  simp only[ho]
  rcases a1 (λk => listed.getD k false) G _ _ y.n T (λt => rfl) (λid => rfl) with ⟨hg, h', j, a2⟩ | ⟨M, c, v0, O, hG, j⟩
  · rw[rO (by simp[Region.wanted, hg])]
    refine .inl (j y a B (funext λid => C id) rfl (λt => I t) _ Q λu z E q F hv => ?_)
    rw[hd]
    exact HJ.put hp hN V X Z l hi T m hsz A I E q (λid => by rw[F];exact a2 id) hv
  · have hw:Region.wanted o (yielded ops a.tmps)=c := Gc.wanted (s := ⟨_, [], 0, 0⟩) hG (λt => I t)
    rw[hw]
    cases c with
    | true =>
      obtain⟨h2, a6, a7⟩ := j rfl
      rw[rO rfl]
      refine .inl (a6 y a B (funext λid => C id) rfl (λt => I t) _ Q λu z E q F hv => ?_)
      rw[hd]
      refine HJ.put hp hN V X Z l hi T m hsz A I E q (λid => by rw[F, M];exact a7 id) ?_
      rw[O];exact .whn (λ_ => hv) (λh => by cases h)
    | false =>
      rw[rN (by decide), hd]
      refine HJ.put hp hN V X Z l hi T m hsz A I (.refl y) B (λid => by rw[M];exact C id) ?_
      rw[O];exact .whn (λh => by cases h) (λ_ => rfl)
def Hr(e:Am):Am→Prop
 | []=>True
 | (t,a)::r=>get e t=a∧Hr e r
def Hl(e:Ag):Ag→Prop
 | []=>True
 | (t,a)::r=>hget e t=a∧Hl e r
theorem U0{e0 e}(j:∀t,get e t=get e0 t):∀(r:Am),Hr e0 r→∀t,get (r++e) t=get e0 t
 | [],_,t=>j t
 | (t0,a)::r,⟨l,m⟩,t=>by
  rw[sv,DD]
  split
  ·rename_i q;subst q;exact l.symm
  ·exact U0 j r m t
theorem S3{e0 e}(j:∀t,hget e t=hget e0 t):∀(r:Ag),Hl e0 r→∀t,hget (r++e) t=hget e0 t
 | [],_,t=>j t
 | (t0,a)::r,⟨l,m⟩,t=>by
  rw[sv,BI]
  split
  ·rename_i q;subst q;exact l.symm
  ·exact S3 j r m t
theorem Gb.same{o}{R l}{h h'}{n}{v}{m}(q:Gb P o R h n v m)(w:∀t,get l t=get R t)(A:∀id,hget h' id=hget h id):Gb P o l h' n v m:=by
 intro x a j B C E K Q F
 exact q x a j (by rw[B];exact funext A) C (λt=>by rw[← w];exact E t) K Q F
theorem qM{s:St}{L}{i}{p:PO}{o:Oper}(hg:o.guard=none)(hd:o.dst=p.d)(C:∀d, p.d=some d→Nat.blt d s.N=true)(hp:p.hp=none)(w:(Nat→Nat)→Am)(m:(Nat→Nat)→Ag)
 (E:∀D G, Cj ops D i→Hr (D5 D G s.e L) (w G)) (F:∀D G, Cj ops D i→Hl (D0 D G s.h L) (m G))
 (I:∀G n, p.v (DV G i n)=p.v G) (h:∀G e j n, ∃l, Gb P o (w G++e) (m G++j) n (p.v G) l∧∀id, hget l id=hget (m G++j) id):Ob P ops s L i p o := by
  refine⟨hd, C, λD G e j n A B q => .inl ⟨hg, ?_⟩⟩
  have J := U0 B _ (E D G A)
  have g2 := S3 q _ (F D G A)
  obtain⟨l, M, O⟩ := h G e j n
  refine⟨l, ?_, λid => by rw[hp, O, g2, q]⟩
  rw[I]
  exact M.same (λt => by rw[J, B]) (λid => by rw[g2, q])
theorem VO{s:St}{L:List PO}{i:Nat}{p:PO}{o:Oper}{n1:Nat→Nat}(hg:o.guard=none)(hd:o.dst=p.d)(q:∀d,p.d=some d→Nat.blt d s.N=true)(hp:p.hp=none)(m:(Nat→Nat)→Am)(j:(Nat→Nat)→Ag)
  (w:∀D G,Cj ops D i→Hr (D5 D G s.e L) (m G)) (A:∀D G,Cj ops D i→Hl (D0 D G s.h L) (j G))
  (B:∀G n,p.v (DV G i n)=p.v G) (h:∀G e l n,BQ P true o (m G++e) (j G++l) n (p.v G) (j G++l) (n1 n)):Ob P ops s L i p o:=
 qM hg hd q hp m j w A B λG e l n=>⟨_,(h G e l n).toN,λ_=>rfl⟩
theorem ZZ{s:St}{L}{i}{p:PO}{o:Oper}{id}{ob}(hg:o.guard=none)(hd:o.dst=p.d)(C:∀d, p.d=some d→Nat.blt d s.N=true)(hp:p.hp=some (id, ob))(w:(Nat→Nat)→Am)(m:(Nat→Nat)→Ag)
 (E:∀D G, Cj ops D i→Hr (D5 D G s.e L) (w G)) (F:∀D G, Cj ops D i→Hl (D0 D G s.h L) (m G))
 (h:∀(G:Nat→Nat) e l n, Gb P o (w G++e) (m G++l) n (p.v (DV G i n)) ((id, ob (DV G i n))::(m G++l))):Ob P ops s L i p o := by
  refine⟨hd, C, λD G e l n A B q => .inl ⟨hg, ?_⟩⟩
  have I := U0 B _ (E D G A)
  have g2 := S3 q _ (F D G A)
  refine⟨_, (h G e l n).same (λt => by rw[I, B]) (λj => by rw[g2, q]), λj => ?_⟩
  rw[hp, BI]
  simp only
  split
  · rfl
  · rw[g2, q]
theorem qu{s:St}{L:List PO}{i:Nat}{p:PO}{o:Oper}{id:Nat}{ob:(Nat→Nat)→Option Ab}{n1:Nat→Nat}(hg:o.guard=none)(hd:o.dst=p.d)(q:∀d,p.d=some d→Nat.blt d s.N=true)(hp:p.hp=some (id,ob))(m:(Nat→Nat)→Am)(j:(Nat→Nat)→Ag)
  (w:∀D G,Cj ops D i→Hr (D5 D G s.e L) (m G)) (A:∀D G,Cj ops D i→Hl (D0 D G s.h L) (j G))
  (h:∀(G:Nat→Nat) e l n,BQ P true o (m G++e) (j G++l) n (p.v (DV G i n)) ((id,ob (DV G i n))::(j G++l)) (n1 n)):Ob P ops s L i p o:=
 ZZ hg hd q hp m j w A λG e l n=>(h G e l n).toN
theorem Gb.frz{o}{R}{h}{n id g}{e:TypeId}{sz}{xs}(X:Gb P o R h n (.own id g) ((id,some (.arr g e sz xs))::h)):Gb P o R h n (.r (.sl xs)) ((id,none)::h):=by
 intro x a J Z hn he K Q hK
 refine X x a J Z hn he K Q λu y k1 w V k4=>?_
 have q:y.H id=some (.arr g e sz xs):=by rw[V,BI,rO rfl]
 let B:Cx:={ y with S:=λb=>y.S b∨∃k,y.β id=some (b,k),H:=hget ((id,none)::h) }
 have j:∀i o,B.H i=some o→i≠id∧y.H i=some o:=by
  intro i o l
  simp only[B,BI] at l
  split at l
  ·cases l
  ·rename_i C
   refine⟨λe=>C e.symm,?_⟩
   rw[V,BI,rN C];exact l
 have A:y.le B:=⟨rV _,rfl,rfl,rfl,λ_ _=>rfl,λ_ h=>.inl h,rfl,rV _,λi o l _=>⟨o,(j i o l).2,rfl,rfl,rfl⟩,λi o l hf _ _=>⟨o,(j i o l).2,hf,rfl,rfl,rfl,rfl⟩⟩
 have E:B.ok:=by
  refine⟨λb m=>?_,w.F_lt,λb m=>?_,λi o l=>?_,λi o b k l m=>?_,λi i' o o' b k F l M=>w.inj i i' o o' b k F (j _ _ l).2 (j _ _ M).2,w.extOf (λi o l=>⟨o,(j i o l).2⟩) rfl rfl (rV _) (λi o b k l I hS=>hS.elim (w.own' i o b k (j i o l).2 I).2.1 λ⟨F,m⟩=>(j i o l).1 (w.inj' (j i o l).2 q I (.inl m))) (λi o b k l I=>(w.own' i o b k (j i o l).2 I).2.2),w.tabs.le A⟩
  ·rcases m with m | ⟨k,m⟩
   ·exact w.S_lt b m
   ·exact(w.own id _ b k q m).1
  ·rcases m with m | ⟨k,m⟩
   ·exact w.SF b m
   ·exact(w.own id _ b k q m).2.2
  ·obtain⟨O,T⟩:=w.obj i o (j _ _ l).2
   exact⟨O,T.mono A (λ_ _ _=>rfl) λ_ _ _ _=>rfl⟩
  ·obtain⟨O,T,j3⟩:=w.own i o b k (j _ _ l).2 m
   refine⟨O,?_,j3⟩
   rintro(U | ⟨F,U⟩)
   ·exact T U
   ·exact(j _ _ l).1 (w.inj i id o _ b k F (j _ _ l).2 q m U)
 exact hK u B (k1.trans A) E rfl (.r (OZ w q k4 (λ_ h=>.inl h) (λb k m=>.inr ⟨k,m⟩)))
end
section
variable{ops:Array Oper}{D:Nat→Bool}{G:Nat→Nat}{e:Am}{h:Ag}{L:List PO}{t:Nat}
theorem Qr(hB:LA L t=true){a}(j:get e t=a):get (D5 D G e L) t=a:=(H1 DD L e 0 (Tf hB)).trans j
theorem Vq{i}(l:Cj ops D i) j{p:PO}{a}(m:L[j]?=some p)(hd:p.d=some t)(hw:wt ops 40 i j=true)(hB:LA (L.drop (j+1)) t=true)(q:p.v G=a):get (D5 D G e L) t=a:=
 (Kn DD (Vs hd) L e 0 j m (by rw[sF];exact l.yes hw) (Tf hB)).trans q
theorem P7(hB:TJ L t=true){a}(j:hget h t=a):hget (D0 D G h L) t=a:=(H1 BI L h 0 (ny hB)).trans j
def Mm(ops:Array Oper)(i t:Nat):List PO→Nat→Bool
 | [],_=>true
 | p::L,k=>(match p.hp with | some (d,_)=>!Nat.beq d t||Nat.beq k i||wt ops 40 k i | none=>true)&&Mm ops i t L (k+1)
theorem Up{i}(w:Cj ops D i):∀ {L:List PO} {k:Nat},Mm ops i t L k=true→HN PO.wH D t L k
 | [],_,_=>λj _ _ h=>by simp at h
 | q::L,k,hB=>by
  simp only[Mm,rZ] at hB
  intro j p v A m B
  match j with
  | 0=>
   cases A
   obtain⟨E,C,_⟩:=Rj B
   rw[C] at hB
   simp only[re,sU] at hB
   rcases hB.1 with (l | l) | l
   ·simp at l
   ·rw[si,tA l,w.un] at m;cases m
   ·rw[si,w.no l] at m;cases m
  | j+1=>exact Up w hB.2 j p v (by simpa using A) (by rwa [show k+1+j=k+(j+1) by omega]) B
theorem Qx{i}(j:Cj ops D i)(hB:Mm ops i t L 0=true){a}(l:hget h t=a):hget (D0 D G h L) t=a:=(H1 BI L h 0 (Up j hB)).trans l
theorem lS{i}(l:Cj ops D i) j{p:PO}{ob}{a}(m:L[j]?=some p)(hd:p.hp=some (t,ob))(hw:wt ops 40 i j=true)(hB:Mm ops i t (L.drop (j+1)) (j+1)=true)(q:ob G=a):hget (D0 D G h L) t=a:=
 (Kn BI (Wx hd) L h 0 j m (by rw[sF];exact l.yes hw) (by rw[sF];exact Up l hB)).trans q
end
section
variable{P:Program}{ops:Array Oper}
def Wr(ops:Array Oper)(n:Nat):Bool:=(List.range n).all λi=>match ops[i]? with | some o=>o.after.all λe=>!Region.binds .any e||(e.on<i) | none=>false
def KG(P:Program)(ops:Array Oper)(s:St)(j:List PO):Nat→List PO→List Oper→Prop
 | _,[],_=>True
 | _,_::_,[]=>False
 | i,p::L,o::l=>Ob P ops s j i p o∧KG P ops s j (i+1) L l
theorem KG.at{s}{A} : ∀ {L:List PO} {l:List Oper} {m:Nat},KG P ops s A m L l→∀ {j:Nat} {p:PO} {o:Oper},L[j]?=some p→l[j]?=some o→Ob P ops s A (m+j) p o
 | _::_,_::_,m,h,0,_,_,q,w=>by cases q;cases w;exact h.1
 | _::L,_::l,m,h,j+1,p,o,q,w=>by
  have:=KG.at (j:=j) h.2 (p:=p) (o:=o) (by simpa using q) (by simpa using w)
  rwa [show m+(j+1)=m+1+j by omega]
 | _::_,[],_,h,_,_,_,_,_=>h.elim
 | [],_,_,_,_,_,_,q,_=>by simp at q
def EW(listed:Array Bool):Nat→Nat
 | 0=>0
 | n+1=>EW listed n+(if listed.getD n false then 0 else 1)
theorem Wy{listed:Array Bool}{i}(m:i<listed.size)(j:listed.getD i false=false):∀n,EW (listed.setIfInBounds i true) n+(if i<n then 1 else 0)=EW listed n
 | 0=>by simp[EW]
 | n+1=>by
  have q:=Wy m j n
  unfold EW
  by_cases l:i=n
  ·subst l
   rw[j]
   have:(listed.setIfInBounds i true).getD i false=true:=by simp[m]
   rw[this]
   simp at q ⊢
   exact q
  ·rw[getD_set_ne false l]
   have:(i<n+1)↔(i<n):=by omega
   simp only[this]
   omega
theorem Yc{listed:Array Bool} : ∀ {n:Nat}, 0<EW listed n→∃i, i<n∧listed.getD i false=false∧∀j, j<i→listed.getD j false=true
  | 0, h => by simp[EW] at h
  | n+1, h => by
    by_cases A:0<EW listed n
    · obtain⟨i, F, B, C⟩ := Yc A
      exact⟨i, by omega, B, C⟩
    · have l:∀m, m≤n→EW listed m=0 := by
        intro m I
        have:EW listed m≤EW listed n := by
          clear h A
          induction n with
          | zero => have:m=0 := by omega
                    subst this;exact rV _
          | succ n E =>
            by_cases q:m=n+1
            · subst q;exact rV _
            · exact rh (E (by omega)) (Nat.le_add_right ..)
        omega
      unfold EW at h
      refine⟨n, by omega, ?_, λj J => ?_⟩
      · cases w:listed.getD n false with
        | false => rfl
        | true => rw[w] at h;simp at h;omega
      · have := l (j+1) (by omega)
        unfold EW at this
        cases w:listed.getD j false with
        | true => rfl
        | false => rw[w] at this;simp at this
theorem Xv{listed:Array Bool} : ∀ {n:Nat},EW listed n=0→∀j,j<n→listed.getD j false=true
 | 0,_,j,m=>by omega
 | n+1,h,j,m=>by
  unfold EW at h
  by_cases l:j=n
  ·subst l
   cases q:listed.getD j false with
   | true=>rfl
   | false=>rw[q] at h;simp at h
  ·exact Xv (n:=n) (by omega) j (by omega)
theorem V1{listed:Array Bool}(h:∀j,listed.getD j false=false):∀n,EW listed n=n
 | 0=>rfl
 | n+1=>by unfold EW;rw[V1 h n,h n];simp
theorem jY{c0}{s}{L:List PO}{n g}{l:List Oper}{Q}(hl:l.toArray=ops)(T:n=ops.size∨(n<ops.size∧Region.sinkB .any ops n=true∧Region.chainB .any ops n=true))(ag:L.length=n)(J:Wr ops n=true)
 (hD:Oh ops L=true) (hE:Jn L=true) (hH:N4 ops L=true) (U:IK L) (a7:KG P ops s L 0 L l)
 (V:∀listed a w, HeadInv .any ops n listed→(∀j, j<n→listed.getD j false=true)→HJ c0 s L listed a w→wpAny P .any ops Q g listed a w) :
    ∀(f:Nat) (listed:Array Bool) (a:Act) (w:World), EW listed n=f→HeadInv .any ops n listed→HJ c0 s L listed a w→wpAny P .any ops Q (f+g) listed a w := by
  have hn:n≤ops.size := by rcases T with h | h<;>omega
  intro f
  induction f with
  | zero =>
    intro listed a w C q A
    rw[sF]
    exact V listed a w q (Xv C) A
  | succ f ih =>
    intro listed a w C q A
    rw[show f+1+g=(f+g)+1 by omega]
    obtain⟨M, X, E, B⟩ := Yc (listed := listed) (n := n) (by omega)
    have Z:M<listed.size := by rw[q.size];omega
    have m:M ∈ Region.ready .any ops listed := by
      refine mem_ready.2 ⟨getD_in Z E, ?_⟩
      have a8:∃o, ops[M]?=some o := ⟨ops[M]'(by omega), by simp[rz (show M<ops.size by omega)]⟩
      obtain⟨o, F⟩ := a8
      refine⟨o, F, λe he hb => ?_⟩
      have h1 := ry.1 J M (sA.2 X)
      simp only[F] at h1
      have h2 := (Array.all_eq_true_iff_forall_mem.1 h1) e he
      simp only[hb, tQ, sb, rT] at h2
      exact B _ h2
    refine⟨λh => (by rw[h] at m;cases m), λi hi => ?_⟩
    have a0:i<n := by
      rcases tr i n with h | h
      · exact h
      · rcases T with e | ⟨aa, hs, hc⟩
        · obtain⟨_, o, F, _⟩ := mem_ready.1 hi
          have := (sW.1 F).1
          omega
        · exact absurd hi (tail_waits hs hc aa q _ M rfl X (getD_in Z E) i h)
    obtain⟨ab, o, F, a1⟩ := mem_ready.1 hi
    have I := getD_both ab
    have a2:i<listed.size := by rw[q.size];omega
    obtain⟨p, hp⟩:∃p, L[i]?=some p := ⟨L[i]'(by omega), by simp[rU (show i<L.length by omega)]⟩
    have ac:l[i]?=some o := by rw[← F, ← hl];simp
    have a6 := a7.at hp ac
    rw[sF] at a6
    have ad:Cj ops (λk => listed.getD k false) i := by
      refine⟨λj k hj hk => ?_, λk hk => ?_, I⟩
      · obtain⟨oj, ae, e, he, hb, O⟩ := Region.waitsFor_spec hk
        rw[← O];exact q.closed j oj ae hj e he hb
      · obtain⟨oi, af, e, he, hb, O⟩ := Region.waitsFor_spec hk
        have:oi=o := rx (af.symm.trans F)
        subst this
        rw[← O];exact a1 e he hb
    have step := HJ.step (Q := Q) hp F a6 hE hH hD U a2 ad A
    refine wpOp_mono (λa' w' h' => ih _ a' w' ?_ (q.set hi a0) h') step
    have := Wy a2 I n
    rw[rO a0] at this
    omega
def US(ops:Array Oper)(n:Nat)(L:List PO):Bool:=
 (Nat.beq n ops.size||((n<ops.size)&&Region.sinkB .any ops n&&Region.chainB .any ops n))&&(L.length=n)&&Wr ops n&&Oh ops L&&Jn L&&N4 ops L
  && Region.seqB .any ops (ops.size-n) n (Dl (Array.replicate ops.size false) (List.range n))
theorem Yp:∀(q:List Nat) (l:Array Bool) (j:Nat),(∀i∈q,i<l.size)→(Dl l q).getD j false=(l.getD j false||q.contains j)
 | [],l,j,_=>by simp[Dl]
 | i::q,l,j,h=>by
  show(Dl (l.setIfInBounds i true) q).getD j false=_
  rw[Yp q _ j (λk w=>by simp;exact h k (rj _ w))]
  by_cases m:i=j
  ·subst m
   have:=h i (rn ..)
   simp[this]
  ·rw[getD_set_ne false m]
   simp[uR m]
theorem Ta{α:Type}{wr}{D l}{G} : ∀(L:List PO) (e:List (Nat × α)) (k:Nat),(∀j,k≤j→j<k+L.length→D j=l j)→EU wr D G e L k=EU wr l G e L k
 | [],_,_,_=>rfl
 | p::L,e,k,h=>by
  have m:=h k (rV _) (by simp)
  have q:=λe=>Ta (wr:=wr) (G:=G) L e (k+1) (λj w A=>h j (by omega) (by simp;omega))
  unfold EU
  rw[m]
  simp only[q]
theorem Iw{id}{l:List Oper}{s:St}{Q}(n:Nat)(L:List PO){lt}(hm:P.follows .mixedOrders=true)(hB:US l.toArray n L=true)(F:IK L)(e4:l.drop n=lt)
 (V:KG P l.toArray s L 0 L l)
 (h:∀(G:Nat→Nat) (n':Nat), AX P l.toArray lt ⟨D5 (λ_ => true) G s.e L, D0 (λ_ => true) G s.h L, n', s.N⟩ (Q .normal)):AW P (.region id l.toArray true) Q s := by
  intro z0 X c0 a w ⟨_, I, hsz, y, Z, a0, a1, hH, hn, he⟩
  subst Z
  obtain⟨r1, r2⟩ := VJ a1
  simp only[US, rZ, rT] at hB
  obtain⟨⟨⟨⟨⟨⟨b0, b2⟩, b3⟩, b6⟩, b7⟩, b8⟩, b9⟩ := hB
  have b1:n=l.toArray.size∨(n<l.toArray.size∧Region.sinkB .any l.toArray n=true∧Region.chainB .any l.toArray n=true) := by
    rw[re] at b0
    rcases b0 with h | h
    · exact .inl (tA h)
    · simp only[rZ, rT] at h
      exact .inr ⟨h.1.1, h.1.2, h.2⟩
  have aa:n≤l.toArray.size := by rcases b1 with h | h<;>omega
  refine QY P4 hm X ?_
  generalize hz:({ y with w := { y.w with drawn := y.w.drawn+1 } } : Cx)=z at r1 r2
  have a2:z.w = { y.w with drawn := y.w.drawn+1 } := by rw[← hz]
  have a6:z.H=hget s.h := by rw[← hz];exact hH
  rw[← a2]
  have q:∀j, (Array.replicate l.toArray.size false).getD j false=false := getD_replicate_false _
  have key := jY (P := P) (c0 := c0) (s := s) (L := L) (n := n) (g := l.toArray.size - n) (l := l) (Q := Fe c0 Q) rfl b1 b2 b3 b6 b7 b8 F V
    (λm a' w' E C J => by
      have A:m=Dl (Array.replicate l.toArray.size false) (List.range n) := by
        have M:m.size=(Dl (Array.replicate l.toArray.size false) (List.range n)).size := by rw[E.size, Xc];simp
        refine Array.ext M λj B h2 => ?_
        have h3 := Yp (List.range n) (Array.replicate l.toArray.size false) j (λi hi => by have := sA.1 hi;rw[Array.size_replicate];omega)
        rw[q] at h3
        have e1:m[j]=m.getD j false := by unfold Array.getD;rw[uB B];rfl
        have e2:(Dl (Array.replicate l.toArray.size false) (List.range n))[j]=(Dl (Array.replicate l.toArray.size false) (List.range n)).getD j false := by unfold Array.getD;rw[uB h2];rfl
        rw[e1, e2, h3]
        by_cases U:j<n
        · rw[C j U];simp[U]
        · have a7:j<l.toArray.size := by rw[E.size] at B;exact B
          rw[getD_both (E.tail j (by omega) a7)];simp[U]
      obtain⟨_, i1, i2, O, G, i3, i4, i5, i6, i7⟩ := J
      subst i3
      have T:(l.drop n).length=l.toArray.size - n := by simp
      have hD:∀j, 0≤j→j<0+L.length→(λ_ => true) j=(λk => m.getD k false) j := λj _ U => (C j (by omega)).symm
      have := wpAny_of_seq (P := P) (md := .any) (ops := l.toArray) (Q' := Fe c0 Q) (l.drop n) n m a' O.w (λj => by simp[sT]) (by rw[T, A];exact b9) ?_
      · rwa [T] at this
      · rw[e4]
        refine h G O.n c0 a' O.w ⟨_, i1, i2, O, rfl, i4, i5, funext λid => ?_, rfl, λt => ?_⟩ _ λa8 ab ac j1 j2 => ⟨by simp, a8, j1, j2⟩
        · rw[i6];show _=hget (EU _ _ _ _ _ _) _;rw[Ta L _ 0 hD]
        · show AO O (get (EU _ _ _ _ _ _) t) _
          rw[Ta L _ 0 hD];exact i7 t)
    n (Array.replicate l.toArray.size false) a z.w (V1 q n)
    ⟨by simp, λj oj _ hl => (by rw[q] at hl;cases hl), λt _ ht => getD_in (by simpa using ht) (q _)⟩
    ⟨_, I, hsz, z, λ_ => 0, rfl, a0.trans r1, r2, λid => by rw[a6];exact(H1 BI L _ 0 λj p _ _ B => by rw[q] at B;cases B).symm, λt => by
      have e1:get (D5 (λk => (Array.replicate l.toArray.size false).getD k false) (λ_ => 0) s.e L) t=get s.e t := H1 DD L _ 0 λj p _ _ B => by rw[q] at B;cases B
      rw[e1]
      exact(he t).mono r1⟩
  have e:n+(l.toArray.size - n)=l.toArray.size := by omega
  rw[e] at key
  exact key
end
section
variable{P:Program}{c:Bool}{o:Oper}{R:Am}{h:Ag}
end
section
variable{P:Program}{c:Bool}{o:Oper}{R:Am}{h:Ag}{n:Nat}
def Mt(cs:List RV)(k:Nat)(vs:List RV):List RV:=cs.take k++vs++cs.drop (k+vs.length)
theorem mf{t}{x y}{id g i k m:Nat}{e}{sz}{xs:List (List RV)}{row ds:List RV}{a}(ho:o.op=.store t x y)(ht:∃i, P.info? t=some i∧i.size=m)
 (hx:Ev c R x (.ptr id g i k)) (hh:hget h id=some (.arr g e sz xs)) (M:xs[i]?=some row) (hy:Ev c R y a) (hd:LQ a=some ds) (hm:ds.length=m) (hk:k+ds.length≤row.length) :
    BQ P c o R h n .any ((id, some (.arr g e sz (xs.set i (Mt row k ds))))::h) n := by
  intro hc z w O hH hn he K Q hK
  obtain⟨ii, hi, ag⟩ := ht
  have A:z.H id=some (.arr g e sz xs) := by rw[hH];exact hh
  have aa:i<xs.length := (rW.1 M).1
  obtain⟨b, cap, us, hβ, ax, ah, E, Z⟩ := Sa O A aa (hx.rep he hc)
  have ay := (O.obj _ _ A).1
  obtain⟨ba, ab⟩ := ah
  rcases ab with ⟨hv, _⟩ | ⟨b', b7, F, hv, _, a0, ai, az, aj, ac⟩
  · cases hv
  simp only[Value.slice.injEq, rY, Addr.mk.injEq, uu, ud] at hv
  obtain⟨rfl, rfl⟩ := hv
  have hsz:0<sz := (O.obj _ _ A).2.1
  have ak := E row (rq M)
  obtain⟨I, al⟩ := XM hd
  have ad:∀b ∈ B6 a, b.one=true := λb hb => by
    obtain⟨j, hj, rfl⟩ := sN.1 hb
    obtain⟨a', h1, h2⟩ := al j (ds[j]'(by omega)) (by simp[rU (show j<ds.length by omega)])
    rw[rU hj] at h1
    cases h1
    exact Sw h2
  have b0 := hy.rep he hc
  obtain⟨T, b1, b2⟩ := NG b0 ad
  replace I:ds.length=(B6 a).length := I
  have an:(w.eval y).cells.toList.length=ds.length := by rw[sZ (xs := (w.eval y).cells), T, I]
  have b3:i * sz+sz≤xs.length * sz := by
    have:(i+1) * sz≤xs.length * sz := sD _ aa
    rwa [s4, tT] at this
  have b8:xs.length * sz≤F.size := by rw[aj];exact sD _ ai
  have a1 := Qu (P := P) (k := i * sz+k) hi a0 (v := w.eval y) (by rw[T, ag, ← I, hm]) b2 (by rw[T, ← I];omega)
  rw[show(w.eval y).cells.size=ds.length by rw[T, I]] at a1
  have a2 := λj => Ks F.toList (w.eval y).cells.toList (i * sz+k) j (by have := sZ (xs := F);rw[an];omega)
  rw[an] at a2
  let l:Array Value := (F.toList.take (i * sz+k)++(w.eval y).cells.toList++F.toList.drop (i * sz+k+ds.length)).toArray
  have J:l.size=F.size := by
    have ao:(w.eval y).cells.size=ds.length := by rw[T, I]
    simp[l, ao];omega
  have a6:(Mt row k ds).length=row.length := by simp[Mt];omega
  have a7:∀j, (Mt row k ds)[j]?=if k≤j∧j<k+ds.length then ds[j - k]? else row[j]? := λj => Ks row ds k j hk
  have aq := Dj O id (.arr g e sz (xs.set i (Mt row k ds))) (z.w.setRow b l) (some (b, cap)) z.n (by simp[World.setRow]) rfl rfl rfl
    (λb' _ b4 => setRow_other _ _ _ _ (λe => b4 _ cap A (by rw[e];exact hβ))) (λb' k' hb => by
      cases hb
      exact⟨by simpa[World.setRow] using(O.own id _ b cap A hβ).1, .inr ⟨_, _, A, hβ⟩⟩) (rV _) ay
    (λ_ => ⟨_, A, rfl, by simp[Ab.shape], hβ.symm⟩)
    (λb5 => by
      have ar:∀b', z.S b'→(z.w.setRow b l).heap[b']?=z.w.heap[b']? := λb' hb => b5.blk b' (.inl hb)
      refine⟨hsz, λr hr => ?_, .slice (some ⟨b, 0, none⟩) xs.length cap, l.toList.take (xs.length * sz), by simp[Cr], ⟨by simp[J];omega, .inr ⟨b, cap, l, by simp, s6 _, setRow_heap _ _ _ _ _ _ a0, by simpa using ai, az, by rw[J, aj], by simp⟩⟩, λB a8 C d' U k2 => ?_⟩
      · rcases uK hr with hr | rfl
        · exact E r hr
        · rw[a6];exact ak
      · have au:B<xs.length := by simpa using(rW.1 U).1
        have b9:C<sz := by
          have := (rW.1 k2).1
          rw[sq] at U
          split at U
          · cases U;rw[a6, ak] at this;exact this
          · rw[← E a8 (rq U)];exact this
        have av:B * sz+C<xs.length * sz := by
          calc B * sz+C<B * sz+sz := by omega
            _=(B+1) * sz := by rw[s4, tT]
            _≤xs.length * sz := sD _ au
        have hget:(l.toList.take (xs.length * sz))[B * sz+C]?=if i * sz+k≤B * sz+C∧B * sz+C<i * sz+k+ds.length then(w.eval y).cells.toList[B * sz+C - (i * sz+k)]? else F.toList[B * sz+C]? := by
          rw[sV, rO av]
          simp only[l]
          exact a2 _
        have ae:i * sz+k≤B * sz+C→B * sz+C<i * sz+k+ds.length→i=B := by
          intro h1 h2
          have e2:(B * sz+C) / sz=B := by rw[tZ, uJ hsz, uG (by omega), si]
          obtain⟨q, hq⟩:∃q, B * sz+C=i * sz+q := ⟨B * sz+C - i * sz, by omega⟩
          have b6:q<sz := by omega
          have e1:(i * sz+q) / sz=i := by rw[tZ, uJ hsz, uG b6, si]
          rw[← e1, ← hq, e2]
        by_cases V:i * sz+k≤B * sz+C∧B * sz+C<i * sz+k+ds.length
        · have af := ae V.1 V.2
          subst af
          rw[sq, rO rfl, rO aa] at U
          cases U
          rw[a7, rO (by omega)] at k2
          obtain⟨a', h1, h2⟩ := al _ _ k2
          obtain⟨u, h3, _, h5⟩ := b1 _ _ h1
          refine⟨u, ?_, (Sg h2 h5).mono ar (λ_ h => h)⟩
          rw[hget, rO V, show i * sz+C - (i * sz+k)=C - k by omega, sX]
          exact h3
        · have aw:∃X, xs[B]?=some X∧X[C]?=some d' := by
            rw[sq] at U
            split at U
            · rename_i af;subst af
              cases U
              rw[a7] at k2
              split at k2
              · exact absurd (by omega) V
              · exact⟨row, M, k2⟩
            · exact⟨a8, U, k2⟩
          obtain⟨X, k3, k4⟩ := aw
          obtain⟨u, k5, k6⟩ := Z _ _ _ _ k3 k4
          refine⟨u, ?_, k6.mono ar (λ_ h => h)⟩
          rw[hget, rN V]
          rw[← k5, ← ac, sV, rO av])
  unfold Oper.wp execOp
  rw[ho]
  simp only[ax, Sem.run_bind, a1, Result.andThen_ok, Sem.run_pure]
  exact hK undef _ aq.1 aq.2 (by simp only[hH];exact Co _ _ _) hn (.any _)
theorem S9{α:Type}{f}{t}{x y}{id g k m}{e}{sz}{l:List α}{z:Int}{a v}{b}{ds:List RV}(j:o.op=.store t x y)(q:∃i, P.info? t=some i∧i.size=m)
 (w:Ev true R x (.ptr id g z.toNat k)) (A:hget h id=some (.arr g e sz (l.map f))) (B:AM l z=some a) (C:Ev true R y b) (hd:LQ b=some ds) (E:ds.length=m) (F:Nat.ble (k+ds.length) (f a).length=true) (I:Mt (f a) k ds=f v) :
    BQ P true o R h n .any ((id, some (.arr g e sz ((l.set z.toNat v).map f)))::h) n := by
  have := mf (n := n) j q w A (row := f a) (by rw[rc, (ER B).2.1];rfl) C hd E (sx F)
  rwa [I, ← uC] at this
end
def Qw(c:Bool):Am→Am→Prop
 | [],_=>True
 | (t,v)::r,e=>(get e t=v∨get e t=.whn c v∨(∃b v0,get e t=.whn (c&&b) v0∧v=.whn b v0)∨∃j l v0,get e t=.whn ((c&&j)&&l) v0∧v=.whn (j&&l) v0)∧Qw c r e
theorem Qw.get{c}{e' e}(h:Qw c e' e)(t:Nat):Al.get e' t=.any∨Al.get e t=Al.get e' t∨Al.get e t=.whn c (Al.get e' t) ∨
  (∃b v0,Al.get e t=.whn (c&&b) v0∧Al.get e' t=.whn b v0)∨∃j l v0,Al.get e t=.whn ((c&&j)&&l) v0∧Al.get e' t=.whn (j&&l) v0:=by
 induction e' with
 | nil=>exact .inl rfl
 | cons p r m=>
  obtain⟨d,v⟩:=p
  rw[DD]
  split
  ·rename_i hd;subst hd;exact .inr h.1
  ·exact m h.2
theorem Ht{c}{e' e}{h}{n N}(hc:c=true)(I:Qw c e' e):AZ ⟨e,h,n,N⟩ ⟨e',h,n,N⟩:=by
 intro U a w ⟨_,m,hsz,y,A,B,C,J,E,q⟩
 refine⟨_,m,hsz,y,A,B,C,J,E,λt=>?_⟩
 subst hc
 have j:=q t
 rcases I.get t with l | l | l | ⟨b,v0,l,F⟩ | ⟨M,O,v0,l,F⟩
 ·rw[l];exact .any _
 ·rwa [show Al.get (St.mk e h n N).e t=Al.get e' t from l] at j
 ·rw[show Al.get (St.mk e h n N).e t=.whn true (Al.get e' t) from l] at j
  cases j with
  | whn T _=>exact T rfl
 ·rw[show Al.get (St.mk e h n N).e t=.whn (true&&b) v0 from l] at j
  rw[sE] at j
  rw[F];exact j
 ·rw[show Al.get (St.mk e h n N).e t=.whn ((true&&M)&&O) v0 from l] at j
  rw[sE] at j
  rw[F];exact j
theorem GU{a b}(h:a=false):(a&&b)=false:=by rw[h];rfl
section
variable{P:Program}{c:Bool}{o:Oper}{R:Am}{h:Ag}{n:Nat}
variable{α:Type}{f:α→List RV}
end
section
variable{P:Program}{c:Bool}{o:Oper}{R:Am}{h:Ag}{n:Nat}
theorem Gh{t j}{x y}{k}{m n}(l:o.op=.binOp .and t x y j)(q:Ev c R x (.r (.int k m)))(A:Ev c R y (.r (.int k n))):AY P c o R h (.r (.int k (Cg k m n))):=
 Fm l q A (λw=>by simp[binOp,Op.intBits,Cg]) (λ_ _=>.int _ _)
theorem KF{t j}{x y}{k}{m n}(l:o.op=.binOp .or t x y j)(q:Ev c R x (.r (.int k m)))(A:Ev c R y (.r (.int k n))):AY P c o R h (.r (.int k (EX k m n))):=
 Fm l q A (λw=>by simp[binOp,Op.intBits,EX]) (λ_ _=>.int _ _)
theorem qD{t j}{x y}{k}{m n}(l:o.op=.binOp .andNot t x y j)(q:Ev c R x (.r (.int k m)))(A:Ev c R y (.r (.int k n))):AY P c o R h (.r (.int k (QV k m n))):=
 Fm l q A (λw=>by simp[binOp,Op.intBits,QV]) (λ_ _=>.int _ _)
theorem Kp{t q:TypeId}{x y:Operand}{k w:IntKind}{m:Int}{b:Nat}(A:o.op=.binOp .shl t x y q)(B:Ev c R x (.r (.int k m)))(C:Ev c R y (.r (.int w b))):AY P c o R h (.r (.int k (Dq k m b))):=by
 intro j z a _ _ l
 refine⟨.int k (Dq k m b),λF E=>?_,.r (.int _ _)⟩
 unfold execOp
 rw[A]
 simp[Cu (B.rep l j),Cu (C.rep l j),eqGuard,binOp,Op.shift,Dq]
 intro I;omega
theorem Ti{t q:TypeId}{x y:Operand}{k w:IntKind}{m:Int}{b:Nat}(A:o.op=.binOp .shr t x y q)(B:Ev c R x (.r (.int k m)))(C:Ev c R y (.r (.int w b))):AY P c o R h (.r (.int k (F2 k m b))):=by
 intro j z a _ _ l
 refine⟨.int k (F2 k m b),λF E=>?_,.r (.int _ _)⟩
 unfold execOp
 rw[A]
 simp[Cu (B.rep l j),Cu (C.rep l j),eqGuard,binOp,Op.shift,F2]
 intro I;omega
def UX(P:Program)(t:TypeId)(n:Nat)(e:TypeId)(sz:Nat):Prop:=P.underlying t=some (.array n e)∧∃i,P.info? e=some i∧i.size=sz
theorem RB{α:Type}{f}{sz}(m:∀a,(f a).length=sz):∀(l:List α) (i j:Nat) (a:α) (d:RV),l[i]?=some a→(f a)[j]?=some d→(l.flatMap f)[i * sz+j]?=some d
 | [],i,_,_,_,h,_=>by simp at h
 | x::l,0,j,a,d,h,hd=>by
  have q:x=a:=by simpa using h
  subst q
  have w:j<(f x).length:=(rW.1 hd).1
  rw[ss,uo,sF,rm w]
  exact hd
 | x::l,i+1,j,a,d,h,hd=>by
  have A:=RB m l i j a d (by simpa using h) hd
  rw[ss,rl (by rw[m,s4];omega),m]
  rw[show(i+1) * sz+j-sz=i * sz+j by rw[s4];omega]
  exact A
theorem VZ{α:Type}{f}{t e}{sz F g}{y}{l:List α}{k}{z:Int}{a}(ho:o.op=.indexAddr t (.global g) y)(ht:UX P t F e sz)(hT:Hh g=some (l.flatMap f))(hn:l.length=F)
 (hy:Ev c R y (.r (.int k z))) (m:∀a, (f a).length=sz) (h0:0<sz) (hi:c=true→AM l z=some a):AY P c o R h (.rop (f a) 0) := by
  intro hc x w I hH he
  obtain⟨J, ii, M, O⟩ := ht
  obtain⟨z0, T, U⟩ := ER (hi hc)
  have q := I.tabs.tab g _ hT
  generalize hv:(Value.pointer (some ⟨g, 0, none⟩))=v at q
  cases q with
  | @rop _ _ b off u hS A V =>
    simp only[Value.pointer.injEq, rY, Addr.mk.injEq, ud, si] at hv
    obtain⟨rfl, B⟩ := hv
    subst B
    have X:(l.flatMap f)≠[] := by
      intro e0
      have C:0<(f a).length := by rw[m];exact h0
      have := RB m l z.toNat 0 a _ T (rU C)
      rw[e0] at this;simp at this
    refine⟨.pointer (some ⟨g, z.toNat * sz+0, none⟩), λw2 a0 => ?_, .rop (λj => u (z.toNat * sz+j)) (λ_ => hS X) (λj d C => ?_) (λj d C => ?_)⟩
    · unfold execOp
      rw[ho]
      have E:z<(F:Int) := by rw[← hn];exact U
      have hg:w.eval (.global g)=.pointer (some ⟨g, 0, none⟩) := rfl
      simp[hg, Cu (hy.rep he hc), Instr.indexAt, Instr.sureAddr, asIntOf, run_underlying J, z0, E, Dw M, O, Addr.add_lit]
    · have Z := RB m l z.toNat j a d T C
      have := A _ _ Z
      simpa using this
    · have Z := RB m l z.toNat j a d T C
      exact V _ _ Z
end
section
variable{P:Program}{c:Bool}{o:Oper}{R:Am}{h:Ag}{n:Nat}
theorem aK(s:List UInt8) l m:(⟨s.toArray⟩:ByteArray).extract l m=⟨((s.drop l).take (m-l)).toArray⟩:=by
 apply ByteArray.ext
 rw[ByteArray.data_extract]
 simp[List.extract_toArray]
theorem JZ{t}{x}{A F:Option Operand}{s r:List UInt8}{l m:Int}(U:o.op=.slice t x A F none)(V:P.underlying t=some .string)(X:Ev c R x (.r (.str s)))
 (j:IF c R 0 A l) (q:IF c R s.length F m) (Z:c=true→CB s l m=some r):AY P c o R h (.r (.str r)) := by
  intro B z w _ _ I
  obtain⟨T, h2, h3, rfl⟩ := Rr (Z B)
  have hsz:(⟨s.toArray⟩:ByteArray).size=s.length := rfl
  refine⟨.string ⟨((s.drop l.toNat).take (m.toNat - l.toNat)).toArray⟩, λw2 a0 => ?_, by have := A5.str (w := z.w) (S := z.S) ⟨((s.drop l.toNat).take (m.toNat - l.toNat)).toArray⟩;exact .r this⟩
  have C:∀W, (Instr.sliceBounds false s.length s.length (A.map w.eval) (F.map w.eval) none).run P W=.ok (l.toNat, m.toNat, s.length) W := by
    intro W
    cases F with
    | none =>
      simp only[IF] at q
      subst q
      cases A with
      | none => simp only[IF] at j;subst j;simp[Instr.sliceBounds]
      | some v =>
        obtain⟨k, J⟩ := j
        have M:∀W, (Instr.sliceBound (w.eval v) s.length .sliceB).run P W=.ok l.toNat W := λW => by rw[Cu (J.rep I B), MV T (by omega)]
        simp[Instr.sliceBounds, M]
    | some v2 =>
      obtain⟨k2, O⟩ := q
      have E:∀W, (Instr.sliceBound (w.eval v2) s.length .sliceAlen).run P W=.ok m.toNat W := λW => by rw[Cu (O.rep I B), MV (by omega) (by omega)]
      cases A with
      | none => simp only[IF] at j;subst j;simp[Instr.sliceBounds, E]
      | some v =>
        obtain⟨k, J⟩ := j
        have M:∀W, (Instr.sliceBound (w.eval v) m.toNat .sliceB).run P W=.ok l.toNat W := λW => by rw[Cu (J.rep I B), MV T (by omega)]
        simp[Instr.sliceBounds, M, E]
  unfold execOp
  rw[U]
  simp[Im (X.rep I B), Instr.sliceAt, Instr.slice, run_underlying V, hsz, C, aK]
end
section
variable{P:Program}{c:Bool}{o:Oper}{R:Am}{h:Ag}
theorem fO{t}{x}{id g k}{e}{sz}{cs ds:List AV}(U:o.op=.load t x)(V:Bo P t sz)(X:Ev c R x (.ptr id g 0 k))(Z:c=true→hget h id=some (.box g e cs))
 (hd:(cs.drop k).take sz=ds) (M:ds.length=sz):AY P c o R h (.agg ds) := by
  intro O z w C hH he
  have m:z.H id=some (.box g e cs) := by rw[hH];exact Z O
  obtain⟨b, l, h1, h2, h3, h4, T⟩ := In C m (X.rep he O)
  have B:∀j a, ds[j]?=some a→cs[k+j]?=some a := by
    intro j a q
    have E:j<sz := by rw[← M];exact(rW.1 q).1
    rw[← hd, sV, rO E, sT] at q
    exact q
  have A:∀j, j<sz→z.w.cell? ⟨b, k+j, none⟩=some ((λj => l.getD (k+j) undef) j) := by
    intro j q
    obtain⟨u, F, _, _⟩ := T _ _ (B j _ (rU (by omega:j<ds.length)))
    have I:k+j<l.size := (sW.1 F).1
    rw[cell_of_row _ b (k+j) l e _ h3]
    simp[I]
  refine⟨.agg ((List.range sz).map λj => l.getD (k+j) undef).toArray, λw2 J => ?_, I5 M _ λj a q => ?_⟩
  · unfold execOp
    rw[U]
    simp[h2, I6 V _ (λj q => (J.cellO m h1).trans (A j q))]
  · obtain⟨u, F, _, h7⟩ := T _ _ (B j a q)
    simpa[F] using h7
theorem IO{t}{x}{id g k}{e}{sz}{cs ds:List AV}(j:o.op=.load t x)(l:Bo P t sz)(m:Ev c R x (.ptr id g 0 k))(q:hget h id=some (.box g e cs))
 (hd:(cs.drop k).take sz=ds) (w:ds.length=sz):AY P c o R h (.agg ds) :=
  fO j l m (λ_ => q) hd w
end
theorem AZ.ren{s:St} t i j{g}{e}{sz}{xs}(a0:(i==j)=false)(ht:get s.e t=.own i g)(hh:hget s.h i=some (.arr g e sz xs)) :
  AZ s ⟨(t,.own j s.n)::s.e,(j,some (.arr s.n e sz xs))::(i,none)::s.h,s.n+1,s.N⟩:=by
 have a7:i≠j:=by simpa using a0
 intro c0 a w ⟨_,X,hsz,y,a1,a2,B,hH,O,U⟩
 have F:y.H i=some (.arr g e sz xs):=by rw[hH];exact hh
 let z:Cx:={ y with H:=λd=>if j=d then some (.arr s.n e sz xs) else if i=d then none else y.H d,β:=λd=>if j=d then y.β i else y.β d,K:=λd=>if j=d then λ_=>none else y.K d,n:=y.n+1 }
 have J:y.le z:=by
  refine⟨rV _,rfl,rfl,rfl,λ_ _=>rfl,λ_ h=>h,rfl,uW _,λd V l hg=>?_,λd V l hf hg hv=>?_⟩
  ·dsimp only [z] at l ⊢
   split at l
   ·cases l
    exact absurd hg (by simp[Ab.gen,Ab.isCal,O])
   ·rename_i I
    split at l
    ·cases l
    ·exact⟨V,l,rfl,rfl,by rw[rN I]⟩
  ·dsimp only [z] at l ⊢
   split at l
   ·cases l;cases hf
   ·rename_i I
    split at l
    ·cases l
    ·exact⟨V,l,hf,rfl,rfl,rfl,by rw[rN I]⟩
 have Z:z.ok:=by
  refine⟨B.S_lt,B.F_lt,B.SF,λd o A=>?_,λd o b k A C=>?_,λd T o V b k k' A l C m=>?_,λd o q b c A C=>?_,B.tabs.le J⟩
  ·dsimp only [z] at A ⊢
   split at A
   ·rename_i I
    cases A
    rw[rO I,rO I]
    refine⟨by simp[Ab.gen,O],?_⟩
    have E:=(B.obj i _ F).2
    exact(show Cb y (y.β i) (λ_=>none) (.arr s.n e sz xs) from E).mono J (λb k _=>rfl) λ_ _ _ _=>rfl
   ·rename_i I
    split at A
    ·cases A
    ·rw[rN I,rN I]
     obtain⟨M,E⟩:=B.obj d o A
     exact⟨vA M,E.mono J (λb k _=>rfl) λ_ _ _ _=>rfl⟩
  ·dsimp only [z] at A C ⊢
   split at C
   ·exact B.own i _ b k F C
   ·rename_i I
    rw[rN I] at A
    split at A
    ·cases A
    ·exact B.own d o b k A C
  ·dsimp only [z] at A l C m
   by_cases M:j=d<;>by_cases E:j=T
   ·rw[← M,← E]
   ·rw[rO M] at C
    rw[rN E] at l m
    split at l
    ·cases l
    ·rename_i h3
     exact absurd (B.inj i T _ _ b k k' F l C m) h3
   ·rw[rN M] at A C
    rw[rO E] at m
    split at A
    ·cases A
    ·rename_i h3
     exact absurd (B.inj d i _ _ b k k' A F C m).symm h3
   ·rw[rN M] at A C
    rw[rN E] at l m
    split at A
    ·cases A
    ·split at l
     ·cases l
     ·exact B.inj d T _ _ b k k' A l C m
  ·dsimp only [z] at A C ⊢
   split at C
   ·cases C
   ·rename_i I
    rw[rN I] at A
    split at A
    ·cases A
    ·obtain⟨e1,e2,e3,e4,e5⟩:=B.ext d o q b c A C
     refine⟨e1,e2,e3,λT V k l m=>?_,λT V q' c' l m=>?_⟩
     ·by_cases E:j=T
      ·rw[rO E] at m
       exact e4 i _ k F m
      ·rw[rN E] at l m
       split at l
       ·cases l
       ·exact e4 T V k l m
     ·by_cases E:j=T
      ·rw[rO E] at m
       cases m
      ·rw[rN E] at l m
       split at l
       ·cases l
       ·exact e5 T V q' c' l m
 refine⟨_,X,hsz,z,a1,a2.trans J,Z,?_,by simp[z,O],λt'=>?_⟩
 ·funext d
  show(if j=d then _ else if i=d then _ else y.H d)=_
  rw[BI,BI,hH]
 ·rw[DD]
  split
  ·rename_i a6
   have M:=U t
   rw[ht,a6] at M
   generalize a.tmps.getD t' undef=u at M ⊢
   cases M with
   | own M E h3=>
    refine .own (by simp[z,O]) E λo A _=>?_
    dsimp only [z] at A ⊢
    rw[rO rfl] at A ⊢
    cases A
    have h5:=h3 _ F rfl
    exact h5
  ·exact(U t').mono J
section
variable{P:Program}{c:Bool}{o:Oper}{R:Am}{h:Ag}{n:Nat}
theorem oU{x:Cx}(l:x.ok) id(s:List UInt8) :
  ∃y:Cx,x.le y∧y.ok∧y.w=x.w.alloc (.stringIter ⟨s.toArray⟩ 0)∧y.H=(λi=>if id=i then some (.it x.n s 0) else x.H i)∧y.n=x.n+1 ∧
   AO y (.ptr id x.n 0 0) (.pointer (some ⟨x.w.heap.size,0,none⟩)):=by
 have:=Dj l id (.it x.n s 0) (x.w.alloc (.stringIter ⟨s.toArray⟩ 0)) (some (x.w.heap.size,1)) (x.n+1) (by simp) rfl rfl rfl
  (λb m _=>heap_alloc_old _ _ m) (λb k m=>by cases m;simp) (by omega) (by simp[Ab.gen]) (λhg=>absurd hg (by simp[Ab.gen]))
  (λq=>⟨x.w.heap.size,rfl,heap_alloc_new _ _⟩)
 refine⟨_,this.1,this.2,rfl,rfl,rfl,.ptr (by simp) rfl λw j _=>?_⟩
 simp only[rO] at j
 cases j
 exact⟨x.w.heap.size,1,by simp,by simp⟩
theorem my{t}{x}{s} id(q:o.op=.range t x)(A:P.underlying t=some .string)(B:Ev c R x (.r (.str s))) :
  BQ P c o R h n (.ptr id n 0 0) ((id,some (.it n s 0))::h) (n+1):=by
 intro C z w l E m F K Q I
 obtain⟨y,J,M,O,T,U,V⟩:=oU l id s
 have j:=B.rep F C
 generalize X:w.eval x=v at j
 cases j with
 | r j=>
  cases j with
  | str s=>
   unfold Oper.wp execOp
   rw[q]
   simp only[X,Sem.run_bind,run_range_string _ _ _ A,Result.andThen_ok,Sem.run_pure]
   have:=I (.pointer (some ⟨z.w.heap.size,0,none⟩)) y J M (by rw[T,E,m,Co]) (by rw[U,m]) (by rw[← m];exact V)
   rw[O] at this
   exact this
theorem Vh{x:Cx}(j:x.ok){id g pos}{s:List UInt8}{v}(q:x.H id=some (.it g s pos))(l:AO x (.ptr id g 0 0) v) :
  ∃b,x.β id=some (b,1)∧v=.pointer (some ⟨b,0,none⟩)∧x.w.heap[b]?=some (.stringIter ⟨s.toArray⟩ pos):=by
 obtain⟨_,b,w,A⟩:=j.obj _ _ q
 cases l with
 | ptr _ _ l=>
  obtain⟨C,cap,m,B⟩:=l _ q rfl
  rw[w] at m
  simp only[rY,rf] at m
  obtain⟨rfl,rfl⟩:=m
  exact⟨b,w,by rw[B,uo],A⟩
theorem lb{x}{id g pos}{s:List UInt8}(E:o.op=.next x true)(F:Ev c R x (.ptr id g 0 0))(I:hget h id=some (.it g s pos))(hp:c=true→decide (pos<s.length)=false) :
  BQ P c o R h n (.tup [.r (.bool false)]) h n:=by
 intro A z w j B J M K Q O
 obtain⟨b,V,T,U⟩:=Vh j (by rw[B];exact I) (F.rep M A)
 have m:¬ pos<(⟨s.toArray⟩:ByteArray).size:=by
  have:=of_decide_eq_false (hp A)
  simpa[ByteArray.size] using this
 unfold Oper.wp execOp
 rw[E]
 have l:(Instr.next (.pointer (some ⟨b,0,none⟩)) true o.type).run P z.w=.ok (.tuple #[.bool false]) z.w:=by
  simp[Instr.next,getObj,Sem.run,U,m]
 simp only[T,Sem.run_bind,l,Result.andThen_ok,Sem.run_pure]
 refine O (.tuple #[.bool false]) z (Cx.le.refl z) j B J (.tup rfl λi a u q C=>?_)
 rcases i with _ | i
 ·simp at q C;subst q;subst C;exact .r (.bool false)
 ·simp at q
theorem fA{x}{id g pos}{s:List UInt8}(V:o.op=.next x true)(X:Ev c R x (.ptr id g 0 0))(Z:hget h id=some (.it g s pos))(hp:c=true→decide (pos<s.length)=true) :
  BQ P c o R h n (.tup [.r (.bool true),.r (.int .i64 (pos:Int)),.r (.int .i32 ((GI s pos).1:Int))]) ((id,some (.it g s (pos+(GI s pos).2)))::h) n:=by
 intro J z w l M hn he K Q hK
 have j:z.H id=some (.it g s pos):=by rw[M];exact Z
 obtain⟨b,C,h2,O⟩:=Vh l j (X.rep he J)
 have E:pos<(⟨s.toArray⟩:ByteArray).size:=by
  have:=tR (hp J)
  simpa[ByteArray.size] using this
 have T:=(l.own id _ b 1 j C).1
 have A:=Dj l id (.it g s (pos+(GI s pos).2)) { z.w with heap:=z.w.heap.setIfInBounds b (.stringIter ⟨s.toArray⟩ (pos+(GI s pos).2)) } (some (b,1)) z.n (by simp) rfl rfl rfl
  (λU _ F=>by
   have:b≠U:=λe=>F _ 1 j (by rw[← e];exact C)
   simp[this])
  (λU k' I=>by cases I;exact⟨by simpa using T,.inr ⟨_,_,j,C⟩⟩) (rV _) (l.obj _ _ j).1 (λ_=>⟨_,j,rfl,rfl,C.symm⟩)
  (λa0=>⟨b,rfl,by simp[T]⟩)
 unfold Oper.wp execOp
 rw[V]
 have B:(Instr.next (.pointer (some ⟨b,0,none⟩)) true o.type).run P z.w=.ok (.tuple #[.bool true,.int .i64 (pos:Int),.int .i32 ((GI s pos).1:Int)]) { z.w with heap:=z.w.heap.setIfInBounds b (.stringIter ⟨s.toArray⟩ (pos+(GI s pos).2)) }:=by
  simp only[Instr.next,getObj,setObj,Sem.run_bind,Sem.run,O,Result.andThen,E,uQ]
  simp[goInt,Sem.run,O,GI]
 simp only[h2,Sem.run_bind,B,Result.andThen_ok,Sem.run_pure]
 refine hK _ _ A.1 A.2 (by simp only[M];exact Co _ _ _) hn (.tup rfl λi a u m q=>?_)
 rcases i with _ | _ | _ | i
 ·simp at m q;subst m;subst q;exact .r (.bool true)
 ·simp at m q;subst m;subst q;exact .r (.int _ _)
 ·simp at m q;subst m;subst q;exact .r (.int _ _)
 ·simp at m
theorem AW.split{Q}{s}{x} b(j:b=true→AW P x Q s)(l:b=false→AW P x Q s):AW P x Q s:=by
 cases b
 ·exact l rfl
 ·exact j rfl
end
section
variable{P:Program}{c:Bool}{o:Oper}{R:Am}{h:Ag}
end
open Go.Shelf Go.RowKit Go.Lib
theorem VM{P}{f}{args}{r:AV}(hc:HE P f)(E:r.closed=true)
 (h:∀(x:Cx) (B:Array Value), x.ok→Fh x args B.toList→Calls P f B x.w λe w' => ∃u, e=.returned u∧Below x.w.heap.size x.w w'∧∀y:Cx, AO y r u):AR P f args r := by
  refine⟨hc, E, λx B l C I => (h x B l I).mono λe w' ⟨u, J, q, M⟩ => ?_⟩
  have A:x.le { x with w := w' } := by
    refine⟨q.size, q.os, q.tape, q.output, λb F => q.block b (F.elim (l.S_lt b) (l.F_lt b)), λ_ h => h, rfl, rV _, λid o m _ => ⟨o, m, rfl, rfl, rfl⟩, λid o m O _ _ => ⟨o, m, O, rfl, rfl, rfl, rfl⟩⟩
  refine⟨u, { x with w := w' }, J, rfl, A, ⟨λb w => rX (l.S_lt b w) q.size, λb w => rX (l.F_lt b w) q.size, l.SF, λid o m => ?_, λid o b k m => ?_, λid T o U b k V m => ?_, λid o j b c m => ?_, l.tabs.le A⟩, M _⟩
  · exact absurd (show x.H id=some o from m) (by rw[C];simp)
  · exact absurd (show x.H id=some o from m) (by rw[C];simp)
  · exact absurd (show x.H id=some o from m) (by rw[C];simp)
  · exact absurd (show x.H id=some o from m) (by rw[C];simp)
theorem S1{x:Cx}(B:Eh x){g}{row}(hg:Hh g=some row){j}{k}{z}(l:row[j]?=some (.int k z)):x.w.cell? ⟨g,j,none⟩=some (.int k z):=by
 have h:=B.tab g row hg
 generalize m:(Value.pointer (some ⟨g,0,none⟩))=v at h
 cases h with
 | rop u F C E=>
  rename_i b off
  simp only[Value.pointer.injEq,rY,Addr.mk.injEq,ud,si] at m
  obtain⟨rfl,rfl⟩:=m
  have q:=C j _ l
  have A:=E j _ l
  rw[sF] at q
  rw[q]
  generalize u j=w at A
  cases A;rfl
theorem mn:∀c,c<256→(GP.flatMap λz=>[RV.int .u8 z])[c]?=some (.int .u8 (Lib.firstT c:Int)):=by
 have h:∀c:Fin 256,GP[c.val]?=some (Lib.firstT c.val:Int):=by decide +kernel
 intro c hc
 have h1:∀(l:List Int) (j:Nat),(l.flatMap λz=>[RV.int .u8 z])[j]?=(l[j]?).map (RV.int .u8):=by
  intro l
  induction l with
  | nil=>intro j;simp
  | cons a l ih=>intro j;cases j with
   | zero=>simp
   | succ j=>simpa using ih j
 rw[h1,h ⟨c,hc⟩];rfl
theorem YZ:∀i,i<16→(I0.flatMap λp=>[RV.int .u8 p.1,RV.int .u8 p.2])[2 * i]?=some (.int .u8 (Lib.accLo i:Int))∧(I0.flatMap λp=>[RV.int .u8 p.1,RV.int .u8 p.2])[2 * i+1]?=some (.int .u8 (Lib.accHi i:Int)):=by
 have h:∀c:Fin 16,I0[c.val]?=some ((Lib.accLo c.val:Int),(Lib.accHi c.val:Int)):=by decide +kernel
 intro i hi
 have h1:∀(l:List (Int × Int)) (j:Nat),(l.flatMap λp=>[RV.int .u8 p.1,RV.int .u8 p.2])[2 * j]?=(l[j]?).map (λp=>RV.int .u8 p.1)∧(l.flatMap λp=>[RV.int .u8 p.1,RV.int .u8 p.2])[2 * j+1]?=(l[j]?).map (λp=>RV.int .u8 p.2):=by
  intro l
  induction l with
  | nil=>intro j;simp
  | cons a l ih=>intro j;cases j with
   | zero=>simp
   | succ j=>
    have:=ih j
    rw[show 2 * (j+1)=2 * j+1+1 by omega]
    simpa using this
 rw[(h1 _ _).1,(h1 _ _).2,h ⟨i,hi⟩]
 exact⟨rfl,rfl⟩
theorem mZ{x:Cx}(j:x.ok)(l:H7≠Il):Lib.Utf8Tabs H7 Il x.w:=by
 have q:Hh H7=some (GP.flatMap λz=>[.int .u8 z]):=by unfold Hh;rw[rO rfl]
 have hA:Hh Il=some (I0.flatMap λp=>[.int .u8 p.1,.int .u8 p.2]):=by unfold Hh;rw[rN (λe=>l e.symm),rO rfl]
 exact⟨λc w=>S1 j.tabs q (mn c w),λi m=>⟨S1 j.tabs hA (YZ i m).1,S1 j.tabs hA (YZ i m).2⟩⟩
theorem ql{P}{ρ:Ren}{f}(L:Go.Proofs.Lays.n196 P ρ)(w:ρ.f 196=f)(A:ρ.g 3=H7)(B:ρ.g 4=Il)(hc:HE P f){s}{r}(h:SN s=some r) :
  AR P f [.r (.str s)] (.r (.bool r)):=by
 subst w
 refine VM hc rfl λx q j l=>?_
 unfold SN at h
 split at h
 ·rename_i C
  cases h
  have J:=l
  obtain⟨v,E⟩:∃v,q = #[v]:=by
   have:=l.1
   match q,this with
   | ⟨[v]⟩,_=>exact⟨v,rfl⟩
  subst E
  have m:=l.2 0 (.r (.str s)) v rfl rfl
  cases m with
  | r m=>
   cases m with
   | str s=>
    refine(Any.utf8_ValidString L s x.w (by rw[Lib.size_eq];exact C) (by rw[A,B];exact mZ j (by decide))).mono λe w' ⟨F,I⟩=>?_
    exact⟨_,F,I,λy=>.r (.bool _)⟩
 ·cases h
end Go.Proofs.YtifgmfoihehlbaaGreatDoor.Al

namespace Go.Proofs.YtifgmfoihehlbaaGreatDoor.Al
open Go.Shelf Go.RowKit Go.Lib
theorem fI{x}{b}{v}(h:AO x (.ifc b) v):(b=true∧v=.nilIface)∨(b=false∧∃t u,v=.iface t u):=by
 cases h with
 | ifc l h j=>
  cases b
  ·exact .inr ⟨rfl,j rfl⟩
  ·exact .inl ⟨rfl,h rfl⟩
theorem dg{P}{op}{t}{x}{a}{w}(h:a=.nilIface∨∃t u,a=.iface t u):(eqGuard op t x (.const .nilIface) a .nilIface).run P w=.ok () w:=by
 unfold eqGuard
 rcases h with rfl | ⟨t,u,rfl⟩
 ·cases op<;>simp[go_sem]
 ·cases op<;>simp[go_sem]
theorem pm{P}{c}{o:Oper}{R}{h}{op}{t q}{x}{b r}(A:o.op=.binOp op t x (.const .nilIface) q)(B:Ev c R x (.ifc b))
 (C:∀w a, (b=true∧a=.nilIface)∨(b=false∧∃t u, a=.iface t u)→(binOp op t a .nilIface).run P w=.ok (.bool r) w):AY P c o R h (.r (.bool r)) := by
  intro E z a _ _ F
  have l := fI (B.rep F E)
  refine⟨.bool r, λm I => ?_, .r (.bool _)⟩
  unfold execOp
  rw[A]
  have hg:(eqGuard op t x (.const .nilIface) (a.eval x) .nilIface).run P m=.ok () m := dg (l.imp (λh => h.2) (λh => h.2))
  have j:a.eval (.const .nilIface)=.nilIface := rfl
  simp only[j, Sem.run_bind, hg, Result.andThen_ok, C _ _ l]
  simp[go_sem]
theorem mJ{P:Program}{c}{o:Oper}{R}{h}{t l}{x}{b}(m:o.op=.binOp .neq t x (.const .nilIface) l)(j:P.underlying t=some (.interface (P.methodsAt t)))(q:Ev c R x (.ifc b)):AY P c o R h (.r (.bool (!b))):=by
 refine pm m q λw a A=>?_
 rcases A with ⟨rfl,rfl⟩ | ⟨rfl,B,u,rfl⟩
 ·simp[binOp,run_equal_nil_nil w t j]
 ·simp[binOp,run_equal_held_nil w t B u j]
theorem YH{P:Program}{W:World}{w name}{g}{t}{C}{A d}(E:VarReads P W w A)(hd:A=.iface name d)(n1:P.globalNamed w=some g)
 (F:(P.globals[g]?).map (·.type)=some t) (I:P.underlying t=some (.interface C)):∃t p, W.cell? ⟨g, 0, none⟩=some (.iface t p) := by
  obtain⟨O, T, J, B, p, hg, m, j, q⟩ := E
  obtain rfl := rx (n1.symm.trans hg)
  obtain rfl := rx (F.symm.trans m)
  subst hd
  obtain⟨l⟩ := J
  obtain⟨_, u, v, e, _⟩ := Go.iface_of_trod I q
  have e:l=[.iface u v] := e
  subst e
  have M := World.var?_cell n1 j 0
  exact⟨u, v, by simpa using M⟩
noncomputable def atoiS(s:List UInt8):Option (Int × Bool):=
 if s.length≤281474976710656 then some (match Lib.atoiAll s with | .ok v=>(v,true) | .range=>(Lib.atoiSat s,false) | _=>(0,false)) else none
theorem AR.atoiS{P}{ρ:Ren}{f}(L:Go.Proofs.LaysC.n172 P ρ)(U:ρ.f 172=f)(w:ρ.g 15=WH)(A:ρ.g 16=Yv)(hc:HE P f){s:List UInt8}{r}(h:Al.atoiS s=some r) :
  AR P f [.r (.str s)] (.tup [.r (.int .i64 r.1),.ifc r.2]):=by
 subst U
 refine VM hc rfl λx E B F=>?_
 unfold Al.atoiS at h
 split at h
 ·rename_i I
  obtain⟨v,V⟩:∃v,E = #[v]:=by
   have:=F.1
   match E,this with
   | ⟨[v]⟩,_=>exact⟨v,rfl⟩
  subst V
  obtain rfl:=Im (F.2 0 (.r (.str s)) v rfl rfl)
  obtain⟨W0,⟨⟨X,Z,J⟩,⟨t2,p2,M⟩⟩,O,_⟩:=B.tabs.fact
  have e1:x.w.cell? ⟨ρ.g 15,0,none⟩=some (.iface X Z):=by rw[w];exact(O.cell (World.block_lt_of_cell? _ _ J)).trans J
  have e2:x.w.cell? ⟨ρ.g 16,0,none⟩=some (.iface t2 p2):=by rw[A];exact(O.cell (World.block_lt_of_cell? _ _ M)).trans M
  have hsz:(⟨s.toArray⟩:ByteArray).size=s.length:=by show s.toArray.size=_;simp
  have l:(⟨s.toArray⟩:ByteArray).data.toList=s:=by simp
  have j:∀(y:Cx) (k:Int) (b:Bool) (u:Value),AO y (.ifc b) u→AO y (.tup [.r (.int .i64 k),.ifc b]) (.tuple #[.int .i64 k,u]):=λy k b u hu=>by
   refine .tup rfl λi c v C T=>?_
   rcases i with _ | _ | i
   ·cases C;cases T;exact .r (.int _ _)
   ·cases C;cases T;exact hu
   ·cases C
  rcases hA:Lib.atoiAll s with v | _ | _
  ·rw[hA] at h;cases h
   refine(Any.strconv_Atoi_ok L ⟨s.toArray⟩ (by rw[hsz];omega) v (by rw[l];exact hA) x.w).mono λe w' ⟨m,q⟩=>⟨_,m,?_,λy=>j y _ _ _ (.ifc rfl (λ_=>rfl) (λe=>by cases e))⟩
   rcases q with rfl | ⟨t,rfl⟩
   ·exact Below.refl _ _
   ·exact Lib.bytesWorld_below _ _ _
  ·rw[hA] at h;cases h
   refine(Any.strconv_Atoi_syntax L ⟨s.toArray⟩ (by rw[hsz];exact I) (by rw[l];exact hA) _ x.w e1 (.inr ⟨_,_,rfl⟩)).mono λe w' ⟨N,m,_,_,q⟩=>⟨_,m,q,λy=>j y _ _ _ (.ifc rfl (λe=>by cases e) (λ_=>⟨_,_,rfl⟩))⟩
  ·rw[hA] at h;cases h
   refine(Any.strconv_Atoi_range L ⟨s.toArray⟩ (by rw[hsz];exact I) (by rw[l];exact hA) _ x.w e2 (.inr ⟨_,_,rfl⟩)).mono λe w' ⟨N,m,_,_,q⟩=>⟨_,by rw[l] at m;exact m,q,λy=>j y _ _ _ (.ifc rfl (λe=>by cases e) (λ_=>⟨_,_,rfl⟩))⟩
 ·cases h
end Go.Proofs.YtifgmfoihehlbaaGreatDoor.Al

namespace Go.Proofs.YtifgmfoihehlbaaGreatDoor.Al
open Go.Shelf Go.RowKit Go.Lib Go.Sort
noncomputable def itoaS(n:Int):Option (List UInt8):=if -9223372036854775808≤n∧n≤9223372036854775807 then some (Lib.itoa n) else none
theorem gK(w:World)(k:Nat)(l:Array Obj):Below w.heap.size w (grow (w.drewN k) l):=by
 refine⟨rfl,rfl,rfl,?_,λj m=>?_⟩
 ·show w.heap.size≤(w.heap++l).size
  simp
 ·show(w.heap++l)[j]?=w.heap[j]?
  rw[tj m]
theorem AR.itoaS {P : Program} {ρ : Ren} {f} {g} (L : Go.Proofs.LaysM.n171 P ρ) (C : ρ.f 171 = f) (hg : P.globalNamed "internal/strconv.uint64pow10" = some g) (hw : SP g = some ((Lib.pow10Tab.map fun z => Value.int .u64 z).toArray)) (hc : HE P f) {n} {r} (h : Al.itoaS n = some r) :
  AR P f [.r (.int .i64 n)] (.r (.str r)):=by
 subst C
 refine VM hc rfl λx w l A=>?_
 unfold Al.itoaS at h
 split at h
 ·rename_i B
  cases h
  obtain⟨v1,E⟩:∃v1,w = #[v1]:=by
   have:=A.1
   match w,this with
   | ⟨[v1]⟩,_=>exact⟨v1,rfl⟩
  subst E
  have m:=A.2 0 _ v1 rfl rfl
  cases m with
  | r m=>
  cases m with
  | int _ _=>
   have j : Lib.TabIs P x.w "internal/strconv.uint64pow10" .u64 Lib.pow10Tab := by
    obtain⟨_,_,t,p,F⟩:=l.tabs.whole g _ hw
    unfold Lib.TabIs World.var?
    rw[hg]
    simp only[sJ,F]
   exact(Any.strconv_Itoa L n B.1 B.2 x.w j).mono λe w' ⟨I,k,J,q⟩=>⟨_,I,q ▸ gK _ _ _,λy=>.r (.str ⟨(Lib.itoa n).toArray⟩)⟩
 ·cases h
end Go.Proofs.YtifgmfoihehlbaaGreatDoor.Al

namespace Go.Proofs.YtifgmfoihehlbaaGreatDoor.Al
open Go.ChangeMaps (setBlock)
open Go.MapKept Go.RowKit
section
variable{P:Program}{c:Bool}{o:Oper}{R:Am}{h:Ag}{n:Nat}
end
end Go.Proofs.YtifgmfoihehlbaaGreatDoor.Al

namespace Go.Proofs.YtifgmfoihehlbaaGreatDoor.Al
open Go.ChangeMaps (setBlock)
open Go.MapKept Go.RowKit
set_option linter.unusedVariables false
section
variable{P:Program}{ops:Array Oper}{rest:List Oper}{s:St}{K:St→Prop}{o:Oper}
def OB(P:Program)(j:List ResultVar)(K:AV→Ag→Nat→Prop):Exit→St→Prop
 | .normal,s | .ret,s=>∃r,Lz P j s r∧K r s.h s.n
 | _,_=>False
theorem jo{f}{fn:Func}{code}{args:List AV}{vs:Array Value}{h}{n N}{z:Cx}{K}(hf:P.funcs[f]?=some fn)(hb:fn.body=some code)(hN:fn.ntmps=N)
 (X:args.length≤N) (F:z.ok) (hH:z.H=hget h) (hn:z.n=n) (q:Fh z args vs.toList) (hw:AW P code (OB P fn.results.toList K) ⟨Fq 0 args, h, n, N⟩) :
    Calls P f vs z.w λe w' => ∃u y r h' n', e=.returned u∧y.w=w'∧z.le y∧y.ok∧y.H=hget h'∧y.n=n'∧AO y r u∧K r h' n' := by
  have V:vs.size=args.length := by simpa using q.1
  have I:EM z ⟨Fq 0 args, h, n, N⟩ { tmps := vs++Array.replicate (fn.ntmps - vs.size) undef, defers := [] } z.w := by
    refine⟨_, rfl, by simp;omega, z, rfl, .refl z, F, hH, hn, λt => ?_⟩
    rcases S8 args 0 t with O | ⟨j, a, O, T, h3⟩
    · rw[O];exact .any _
    · rw[h3]
      have Z:j<vs.size := by rw[V];exact(rW.1 T).1
      have ht:t=j := by omega
      subst ht
      have:(vs++Array.replicate (fn.ntmps - vs.size) undef).getD t undef=vs[t] := by
        simp[Array.getD, Z]
        omega
      rw[this]
      exact q.2 t a vs[t] T (by simp[Z])
  have J:∀ {e:Exit} {a:Act} {y:Cx} {s:St}, (∃r, Lz P fn.results.toList s r∧K r s.h s.n)→z.le y→y.ok→y.H=hget s.h→y.n=s.n→B3 y s.e a →
      ∃u, (results fn a.tmps).run P y.w=.ok u y.w∧∃u' C r h' n', Ending.returned u=.returned u'∧C.w=y.w∧z.le C∧C.ok∧C.H=hget h'∧C.n=n'∧AO C r u'∧K r h' n' := by
    intro e a y s ⟨r, O, T⟩ A m w B U
    obtain⟨u, M, hu⟩ := Wt (P := P) m w U O
    exact⟨u, M, u, y, r, s.h, s.n, rfl, rfl, A, m, w, B, hu, T⟩
  refine VF hf hb F I (hw) λe s a y E A m w B U => ?_
  cases e with
  | normal => exact⟨.inl rfl, J (e := .normal) E A m w B U⟩
  | ret => exact⟨.inr rfl, J (e := .ret) E A m w B U⟩
  | exit id => exact E.elim
  | goto l => exact E.elim
  | panic ch => exact E.elim
  | outgrown => exact E.elim
section
variable{c:Bool}{R:Am}{h:Ag}{n:Nat}
end
end
end Go.Proofs.YtifgmfoihehlbaaGreatDoor.Al

namespace Go.Proofs.YtifgmfoihehlbaaGreatDoor.Al
section
variable{P:Program}{ops:Array Oper}{rest:List Oper}{s:St}{K:St→Prop}{o:Oper}
theorem qv{j}{K}{s:St}(r:AV)(l:Lz P j s r)(m:K r s.h s.n):OB P j K .normal s:=⟨r,l,m⟩
end
section
variable{P:Program}{ops:Array Oper}{rest:List Oper}{s:St}{K:St→Prop}{o:Oper}
def B1(P:Program)(ops:Array Oper)(rest:List Oper)(s:St)(K:St→Prop):Prop:=
 ∀(j:Cx) (a:Act) (w:World),EM j s a w→∀Q:Exit→Act→World→Prop,¬ LetsOut Q→(∀l m w',K l→EM j l m w'→Q .normal m w')→wpListIn (zF none) 0 P ops Q rest a w
theorem B1.nil(h:K s):B1 P ops [] s K:=λ_ a w j _ _ l=>l s a w h j
theorem B1.weak{s'}(hw:AZ s s')(h:B1 P ops rest s' K):B1 P ops rest s K:=λj a w l=>h j a w (hw _ _ _ l)
theorem B1.cons{O}(h:AX P ops [o] s O)(X:∀T,O T→B1 P ops rest T K):B1 P ops (o::rest) s K:=by
 intro U a w Z Q j hQ
 have q:=h U a w Z (λe F w'=>match e with | .normal=>wpListIn (zF none) 0 P ops Q rest F w' | e=>Q e F w') λs' F w' hk I=>X s' hk U F w' I Q j hQ
 unfold wpList at q
 unfold wpListIn
 split
 ·rename_i J
  rw[rO J] at q
  rcases q with q | q
  ·have V:=YC (z:=none) (.inl rfl) q
   refine⟨V.1,?_⟩
   have m:=V.2
   generalize (o.semAt (zF none).round a.eval).run P w=r at m ⊢
   cases r with
   | ok x w'=>
    cases x with
    | enter f args=>
     refine⟨m.1,m.2.mono λe M A=>?_⟩
     cases e with
     | returned v=>exact A
     | panicked ch=>exact A
     | outgrown=>exact absurd (by obtain⟨B,C,E⟩:=A;exact⟨B,C,E⟩) j
    | row a1 args=>exact⟨m.1,m.2⟩
    | round l f t a2 b=>
     refine⟨m.1,m.2.mono λe M A=>?_⟩
     cases e with
     | returned v=>exact A
     | panicked ch=>exact A
     | outgrown=>exact absurd (by obtain⟨B,C,E⟩:=A;exact⟨B,C,E⟩) j
    | value v=>exact m
    | skip=>exact m
    | defer d=>exact m
    | _=>exact m.elim
   | halt x w'=>cases x<;>first | exact m | exact m.elim
  ·exact absurd (by obtain⟨_,B,C,E⟩:=q;exact⟨B,C,E⟩) j
 ·rename_i J
  rw[rN J] at q
  exact⟨λ_ _=>trivial,q⟩
theorem mH{Q}{K}{a:Act}{w}{z}(l:z=none∨H6 o=true)(h:o.wpIn (zF none) 0 P a w K Q):o.wpIn (zF z) 0 P a w K Q:=by
 refine⟨λ_ _=>trivial,?_⟩
 have j:=h.2
 rw[show(zF z).round=z from rfl,UP l]
 rw[show(zF none).round=none from rfl,UP (.inl rfl)] at j
 generalize (execOp a.eval o).run P w=r at j ⊢
 cases r with
 | ok x w'=>cases x<;>exact j
 | halt x w'=>cases x<;>exact j
theorem Uh{Q}{z} : ∀(l:List Oper) (a:Act) (w:World),(z=none∨l.all H6=true)→wpListIn (zF none) 0 P ops Q l a w→wpListIn (zF z) 0 P ops Q l a w
 | [],_,_,_,h=>h
 | o::l,a,w,A,h=>by
  have m:z=none∨H6 o=true:=A.imp id λh=>by simp only[uX,rZ] at h;exact h.1
  have j:z=none∨l.all H6=true:=A.imp id λh=>by simp only[uX,rZ] at h;exact h.2
  unfold wpListIn at h ⊢
  split
  ·rename_i q
   rw[rO q] at h
   exact mH m (Oper.wpIn_mono (λa w h=>Uh l a w j h) h)
  ·rename_i q
   rw[rN q] at h
   exact⟨λ_ _=>trivial,Uh l _ w j h.2⟩
theorem ZY{id}{l:List Oper}{Q}(h:B1 P l.toArray l s (Q .normal)):AW P (.region id l.toArray false) Q s:=by
 intro z m q a w A
 exact wpIn_region_lit (Uh l a w (m.imp _root_.id λh=>by simpa[B5] using h) (h q a w A _ P4 λB E w' C j=>⟨by simp,B,C,j⟩))
end
theorem nt{x:Cx}(j:x.ok){id g N}{e0}{ps:List Nat}{asg bd}{q}{pd}{v}(w:x.H id=some (.lp g e0 N ps asg bd q pd))(l:AO x (.yld id g) v) :
  ∃(b:Nat) (r:Loop),x.β id=some (b,1)∧v=.func (.yield b) #[] #[]∧x.w.heap[b]?=some (.loop r)∧r.params=ps.toArray∧r.assign=asg∧r.body=bd∧r.state=q∧r.pending=pd∧r.tmps.size=N∧∀t,AO x (get e0 t) (r.tmps.getD t undef):=by
 obtain⟨_,b,r,A,B,C⟩:=j.obj _ _ w
 cases l with
 | yld _ _ l=>
  obtain⟨F,cap,m,E⟩:=l _ w rfl
  rw[A] at m
  simp only[rY,rf] at m
  obtain⟨rfl,rfl⟩:=m
  exact⟨b,r,A,E,B,C⟩
theorem RL{x:Cx}(j:x.ok){id g N b}{e0}{ps}{asg bd}{I st'}{pd pd'}{r}(m:x.H id=some (.lp g e0 N ps asg bd I pd))(l:x.β id=some (b,1))(J:x.w.heap[b]?=some (.loop r)) :
  x.le { x with w:=x.w.putObj b (.loop { r with state:=st',pending:=pd' }),H:=λi=>if id=i then some (.lp g e0 N ps asg bd st' pd') else x.H i,K:=λi=>if id=i then λ_=>none else x.K i } ∧
  ({ x with w:=x.w.putObj b (.loop { r with state:=st',pending:=pd' }),H:=λi=>if id=i then some (.lp g e0 N ps asg bd st' pd') else x.H i,K:=λi=>if id=i then λ_=>none else x.K i } : Cx).ok:=by
 obtain⟨hg,X,Z,A,F,M,O,T,k6,k7,U,V⟩:=j.obj _ _ m
 rw[l] at A
 simp only[rY,rf] at A
 obtain⟨rfl,_⟩:=A
 rw[J] at F;cases F
 have q:=(j.own id _ b 1 m l).1
 have w:=Dj j id (.lp g e0 N ps asg bd st' pd') (x.w.putObj b (.loop { r with state:=st',pending:=pd' })) (some (b,1)) x.n (by rw[World.putObj_size];exact rV _) rfl rfl rfl
  (λc B C=>World.putObj_heap_other λe=>C _ 1 m (by rw[e];exact l)) (λc k B=>by
   simp only[rY,rf] at B
   obtain⟨rfl,rfl⟩:=B
   exact⟨by rw[World.putObj_size];exact q,.inr ⟨_,1,m,l⟩⟩) (rV _) hg (λ_=>⟨_,m,rfl,rfl,l.symm⟩)
  (λE=>⟨b,{ r with state:=st',pending:=pd' },rfl,World.putObj_heap_same q,M,O,T,rfl,rfl,U,λt=>(V t).mono E⟩)
 have e:(λi=>if id=i then some (b,1) else x.β i)=x.β:=by
  funext i
  split
  ·rename_i h;subst h;exact l.symm
  ·rfl
 rw[e] at w
 exact w
def JT:List Nat→List AV→Am→Am
 | p::j,b::l,e=>JT j l ((p,b)::e)
 | _,_,e=>e
theorem TC{x} : ∀(ps:List Nat) (bs:List AV) (us:List Value) (e:Am) (t:Array Value),bs.length=ps.length→us.length=ps.length→(∀(i:Nat) (b:AV) (u:Value),bs[i]?=some b→us[i]?=some u→AO x b u)→(∀p∈ps,p<t.size)→(∀j,AO x (get e j) (t.getD j undef)) →
  ((ps.zip us).foldl (λt (p:Nat × Value)=>t.setIfInBounds p.1 p.2) t).size=t.size∧∀j,AO x (get (JT ps bs e) j) (((ps.zip us).foldl (λt (p:Nat × Value)=>t.setIfInBounds p.1 p.2) t).getD j undef)
 | [],bs,us,e,t,_,_,_,_,l=>by
  cases bs<;>cases us<;>exact⟨rfl,l⟩
 | p::ps,[],us,e,t,h,_,_,_,l=>by cases h
 | p::ps,b::bs,[],e,t,_,h,_,_,l=>by cases h
 | p::ps,b::bs,u::us,e,t,A,B,m,w,l=>by
  have hp:=w p (rn ..)
  obtain⟨C,E⟩:=TC (x:=x) ps bs us ((p,b)::e) (t.setIfInBounds p u) (by simpa using A) (by simpa using B) (λi b u F I=>m (i+1) b u (by simpa using F) (by simpa using I))
   (λq J=>by rw[Array.size_setIfInBounds];exact w q (rj _ J)) (λj=>by
    rw[DD,R3 hp]
    split
    ·exact m 0 b u rfl rfl
    ·exact l j)
  exact⟨by simpa using C,E⟩
def Hn(id g:Nat)(C:Bool→Ag→Nat→Prop):Exit→St→Prop
 | .normal,s=>∃e0 N l j m,hget s.h id=some (.lp g e0 N l j m .busy none)∧C true ((id,some (.lp g e0 N l j m .ready none))::s.h) s.n
 | .ret,s=>∃e0 N l j m,hget s.h id=some (.lp g e0 N l j m .busy none)∧C false ((id,some (.lp g e0 N l j m .done (some .ret)))::s.h) s.n
 | .exit i,s=>∃e0 N l j m,hget s.h id=some (.lp g e0 N l j m .busy none)∧C false ((id,some (.lp g e0 N l j m .done (some (.exit i))))::s.h) s.n
 | _,_=>False
def FN(P:Program)(id g:Nat)(bd:Code)(C:Bool→Ag→Nat→Prop):Exit→St→Prop
 | .normal,s=>∃e0 N m j l,hget s.h id=some (.lp g e0 N m j l .ready none)∧AW P bd (Hn id g C) ⟨s.e,(id,some (.lp g e0 N m j l .busy none))::s.h,s.n,s.N⟩
 | _,_=>False
section
variable{P:Program}{ops:Array Oper}{rest:List Oper}{s:St}{K:St→Prop}{o:Oper}
theorem WO{z:Cx}{id g N b f}{e0 e1}{ps:List Nat}{asg bd}{r:Loop}{h}{n}{C}{tmps:Array Value}(Z:z.ok)(hH:z.H=hget h)(hn:z.n=n)(hh:hget h id=some (.lp g e0 N ps asg bd .ready none))(hβ:z.β id=some (b, 1))
 (hb:z.w.heap[b]?=some (.loop r)) (hr:r.params=ps.toArray∧r.assign=asg∧r.body=bd∧r.state=.ready∧r.pending=none) (hsz:tmps.size=N) (he:∀t, AO z (get e1 t) (tmps.getD t undef)) (a0:B5 asg=true∧B5 bd=true)
 (hw:AW P asg (FN P id g bd C) ⟨e1, h, n, N⟩):RoundIn (zF none) (0 - 1) P b f tmps asg bd z.w λe w' => ∃(x:Bool) (y:Cx) (h':Ag) (n':Nat), e=.returned (.bool x)∧y.w=w'∧z.le y∧y.ok∧y.H=hget h'∧y.n=n'∧C x h' n' := by
  have ah:g<z.n := (Z.obj id (.lp g e0 N ps asg bd .ready none) (by rw[hH];exact hh)).1
  have A:∀ {y:Cx} {e0:Am} {N:Nat} {ps:List Nat} {asg bd:Code} {U:LoopState} {V:Option Code}, z.le y→y.H id=some (.lp g e0 N ps asg bd U V)→y.β id=some (b, 1) := by
    intro y e0 N ps asg bd U V ai hy
    obtain⟨o', B, E, h3, h4⟩ := ai.H id _ hy (.inl ah)
    rw[h4, hβ]
  have F:∀ {y:Cx} {e0:Am} {N:Nat} {ps:List Nat} {asg bd:Code} {U:LoopState} {V:Option Code}, y.ok→y.H id=some (.lp g e0 N ps asg bd U V)→y.β id=some (b, 1)→∃r:Loop, y.w.heap[b]?=some (.loop r)∧r.state=U∧r.pending=V := by
    intro y e0 N ps asg bd U V hy B E
    obtain⟨_, b', r', k1, k2, k3, k4, k5, k6, k7, _⟩ := hy.obj _ _ B
    rw[E] at k1
    simp only[rY, rf] at k1
    obtain⟨rfl, _⟩ := k1
    exact⟨r', k2, k6, k7⟩
  refine roundIn_of_wpIn (F := zF none) trivial (wpIn_mono (hw (some b) (.inr a0.1) z { tmps := tmps, defers := [] } z.w ⟨_, rfl, hsz, z, rfl, .refl z, Z, hH, hn, he⟩) λe a1 w1 ⟨ho, s1, X, aj⟩ => ?_)
  obtain⟨ak, al, an, y1, ao, I, J, a6, aq, ar⟩ := aj
  subst ao
  cases e with
  | normal =>
    obtain⟨e0, N, ps, asg, au, av, aw⟩ := X
    have q:y1.H id=some (.lp g e0 N ps asg au .ready none) := by rw[a6];exact av
    have a7 := A I.le q
    obtain⟨r1, a8, aa, ab⟩ := F J q a7
    obtain⟨t1, t2⟩ := RL (st' := .busy) (pd' := none) J q a7 a8
    have ac := run_beginRound (P := P) a8 aa
    have ad:({ r1 with state := .busy } : Loop) = { r1 with state := .busy, pending := none } := by rw[← ab]
    rw[ad] at ac
    refine⟨_, ac, ?_⟩
    refine wpIn_mono (aw (some b) (.inr a0.2) z a1 _ ⟨ak, al, an, _, rfl, I.trans t1, t2, by rw[a6];funext i;simp only[BI], aq, λt => (ar t).mono t1⟩) λe a2 w2 ⟨b3, s2, m, ax⟩ => ?_
    obtain⟨b4, b5, b6, y2, ay, M, O, ae, az, b7⟩ := ax
    subst ay
    have T:∀(j:Option Code) (e0:Am) (N:Nat) (ps:List Nat) (asg bd:Code), hget s2.h id=some (.lp g e0 N ps asg bd .busy none)→C j.isNone ((id, some (.lp g e0 N ps asg bd (if j.isNone then .ready else .done) j))::s2.h) s2.n →
        ∃v w', (Instr.endRound b j).run P y2.w=.ok v w'∧∃(x:Bool) (y:Cx) (h':Ag) (n':Nat), (Ending.returned v)=.returned (.bool x)∧y.w=w'∧z.le y∧y.ok∧y.H=hget h'∧y.n=n'∧C x h' n' := by
      intro j e0 N ps asg bd b0 hc
      have w:y2.H id=some (.lp g e0 N ps asg bd .busy none) := by rw[ae];exact b0
      have af := A M.le w
      obtain⟨r2, ag, b1, b2⟩ := F O w af
      obtain⟨u1, u2⟩ := RL (st' := if j.isNone then .ready else .done) (pd' := j) O w af ag
      exact⟨_, _, run_endRound j ag, j.isNone, _, _, _, rfl, rfl, M.le.trans u1, u2, by rw[ae];funext i;simp only[BI], az, hc⟩
    cases e with
    | normal => obtain⟨e0, N, ps, asg, bd, B, E⟩ := m;exact T none e0 N ps asg bd B E
    | ret => obtain⟨e0, N, ps, asg, bd, B, E⟩ := m;exact T (some .ret) e0 N ps asg bd B E
    | exit i => obtain⟨e0, N, ps, asg, bd, B, E⟩ := m;exact T (some (.exit i)) e0 N ps asg bd B E
    | goto l => exact m.elim
    | panic ch => exact m.elim
    | outgrown => exact m.elim
  | exit i => exact X.elim
  | goto l => exact X.elim
  | ret => exact X.elim
  | panic ch => exact X.elim
  | outgrown => exact X.elim
theorem YI{o:Oper}{fo}{xs:Array Operand}{j}{a:Act}{l}{w}(q:o.op=.call { callee:=.value fo,args:=xs,argTypes:=j })(m:a.eval fo=.func (.yield l) #[] #[]):(execOp a.eval o).run P w=(Instr.yield l (xs.map a.eval)).run P w:=by
 unfold execOp
 rw[q]
 simp only[resolve,m,Deferred.ofValue,Sem.run_bind,Sem.run_pure,Result.andThen_ok,invoke]
 simp
end
open Go.RowKit
section
variable{P:Program}{ops:Array Oper}{rest:List Oper}{s:St}{K:St→Prop}{o:Oper}
theorem q7{id g N}{e0}{ps:List Nat}{asg bd}{fo}{xs:Array Operand}{M}(bs:List AV)(hg:o.guard=none)(hd:∀d, o.dst=some d→Nat.blt d s.N=true)
 (ho:o.op=.call { callee := .value fo, args := xs, argTypes := M }) (O:Ev true s.e fo (.yld id g)) (hx:KY true s.e xs.toList bs) (hh:hget s.h id=some (.lp g e0 N ps asg bd .ready none))
 (T:Nat.beq bs.length ps.length=true) (U:(ps.all λp => Nat.blt p N)=true) (V:(B5 asg&&B5 bd)=true)
 (hw:AW P asg (FN P id g bd λb h' n' => B1 P ops rest { e := (match o.dst with | some d => (d, .r (.bool b))::s.e | none => s.e), h := h', n := n', N := s.N } K) ⟨JT ps bs e0, s.h, s.n, N⟩):B1 P ops (o::rest) s K := by
  intro c0 a w ⟨ds, q, hsz, y, X, Z, A, hH, hn, I⟩ Q B hQ
  subst X
  refine wpListIn_plain hg λK' a0 => ?_
  obtain⟨C, a1⟩ := hx.rep rfl I
  obtain⟨b, r, hβ, hv, hb, r1, r2, r3, r4, r5, r6, r7⟩ := nt A (by rw[hH];exact hh) (O.rep I rfl)
  refine⟨λ_ _ => trivial, ?_⟩
  rw[show(zF none).round=none from rfl, Oper.semAt_none, YI ho hv]
  have a2:(xs.map a.eval).size=r.params.size := by
    rw[r1]
    have := tA T
    simp only[Array.size_map, tn]
    rw[← this]
    simpa using C.symm
  rw[run_yield hb a2]
  have j:((r.params.zip (xs.map a.eval)).foldl (λtmps (x:Nat × Value) => tmps.setIfInBounds x.1 x.2) r.tmps)=(ps.zip (xs.toList.map a.eval)).foldl (λt (p:Nat × Value) => t.setIfInBounds p.1 p.2) r.tmps := by
    rw[r1, ← uw]
    simp
  obtain⟨k1, k2⟩ := TC (x := y) ps bs (xs.toList.map a.eval) e0 r.tmps (tA T) (by have := tA T;rw[← this];simpa using C.symm) a1 (λp hp => by rw[r6];exact Cn (ry.1 U p hp)) r7
  have E:B5 asg=true∧B5 bd=true := by simpa using V
  refine⟨λe => (by cases e), ?_⟩
  have hR := WO (f := r.fn) (b := b) (tmps := (ps.zip (xs.toList.map a.eval)).foldl (λt (p:Nat × Value) => t.setIfInBounds p.1 p.2) r.tmps) A hH hn hh hβ hb ⟨r1, r2, r3, r4, r5⟩ (by rw[k1];exact r6) k2 E hw
  have J := j
  rw[r2, r3]
  rw[show(r.params.zip (xs.map a.eval)).foldl (λtmps (x:Tmp × Value) => match x with | (t, a) => tmps.setIfInBounds t a) r.tmps=(ps.zip (xs.toList.map a.eval)).foldl (λt (p:Nat × Value) => t.setIfInBounds p.1 p.2) r.tmps from j]
  refine hR.mono λe w' ⟨x, z, h', n', he', a6, m, F, a7, a8, hc⟩ => ?_
  subst he'
  subst a6
  refine a0 _ _ ?_
  refine hc c0 (a.put o.dst (.bool x)) z.w ⟨ds, ?_, ?_, z, rfl, Z.trans m, F, a7, a8, ?_⟩ Q B hQ
  · cases l:o.dst<;>simpa[Act.put, l] using q
  · cases l:o.dst<;>simpa[Act.put, l] using hsz
  · cases l:o.dst with
    | none => exact I.mono m
    | some d =>
      have aa:d<a.tmps.size := by rw[hsz];exact Cn (hd d l)
      exact(I.mono m).put aa (.r (.bool x))
end
theorem Zg{y:Cx}(l:y.ok) o:y.le { y with w:=y.w.alloc o,S:=λb=>y.S b∨b=y.w.heap.size } ∧ ({ y with w:=y.w.alloc o,S:=λb=>y.S b∨b=y.w.heap.size } : Cx).ok:=by
 have q:y.le { y with w:=y.w.alloc o,S:=λb=>y.S b∨b=y.w.heap.size }:=
  ⟨by simp,rfl,rfl,rfl,λb m=>Below.heap_alloc _ _ _ (m.elim (l.S_lt b) (l.F_lt b)),λb h=>.inl h,rfl,rV _,λid C h _=>⟨C,h,rfl,rfl,rfl⟩,λid C h A _ _=>⟨C,h,A,rfl,rfl,rfl,rfl⟩⟩
 have hsz:∀o:Obj,(y.w.alloc o).heap.size=y.w.heap.size+1:=λo=>World.size_alloc _ _
 refine⟨q,λb m=>?_,λb m=>?_,λb m A=>?_,λid w h=>?_,λid w b k E F=>?_,l.inj,l.extOf (y:={ y with w:=y.w.alloc o,S:=λb=>y.S b∨b=y.w.heap.size }) (λid o h=>⟨o,h⟩) rfl rfl (by show _≤(y.w.alloc o).heap.size;rw[hsz];omega) (λid o b k h B I=>I.elim (l.own' id o b k h B).2.1 λe=>by have:=(l.own' id o b k h B).1;omega) (λid o b k h B=>(l.own' id o b k h B).2.2),l.tabs.le q⟩
 ·show b<(y.w.alloc o).heap.size
  rw[hsz]
  rcases m with m | m
  ·have:=l.S_lt b m;omega
  ·omega
 ·show b<(y.w.alloc o).heap.size
  rw[hsz];have:=l.F_lt b m;omega
 ·rcases m with m | m
  ·exact l.SF b m A
  ·have:=l.F_lt b A;omega
 ·obtain⟨E,F⟩:=l.obj id w h
  exact⟨E,F.mono q (λb k m=>Below.heap_alloc _ _ _ (l.own id w b k h m).1) λj b k m=>Below.heap_alloc _ _ _ (l.own' id w b k h (.inr ⟨j,m⟩)).1⟩
 ·have:=l.own id w b k E F
  refine⟨by show b<(y.w.alloc o).heap.size;rw[hsz];omega,λm=>?_,this.2.2⟩
  rcases m with m | m
  ·exact this.2.1 m
  ·omega
section
variable{P:Program}{s:St}
def JS:Ag→Bool
 | []=>true
 | (_,some o)::r=>!o.isCal&&JS r
 | (_,none)::r=>JS r
theorem Ym{h}(l:JS h=true){id}{o:Ab}(j:hget h id=some o):o.isCal=false := by
  induction h with
  | nil => cases j
  | cons p r m =>
    obtain⟨d, v⟩ := p
    rw[BI] at j
    cases v with
    | none => split at j
              · cases j
              · exact m l j
    | some q =>
      simp only[JS, rZ, sU] at l
      split at j
      · cases j;exact l.1
      · exact m l.2 j
def dF(P:Program)(Q:Exit→St→Prop)(s:St)(id:Nat)(_:AV)(h':Ag)(n':Nat):Prop:=
 ∃e0 N q j w l m,hget h' id=some (.lp s.n e0 N q j w l m)∧l≠.busy∧match m with
  | none=>Q .normal ⟨s.e,(id,none)::h',n',s.N⟩
  | some c=>AW P c Q ⟨s.e,(id,none)::h',n',s.N⟩
theorem qY {g} {ps : Array Tmp} {asg bd} {Q} {f} {fn : Func} {code} {caps : List AV} {N} id (hg : BP s.e g = .fn f caps) (hf : P.funcs[f]? = some fn) (hb : fn.body = some code) (B : (fn.name == "runtime.NumGoroutine") = false)
 (hN:fn.ntmps=N) (X:Nat.blt caps.length N=true) (an:JS s.h=true) (hw:AW P code (OB P fn.results.toList (dF P Q s id)) ⟨Fq 0 (.yld id s.n::caps), (id, some (.lp s.n s.e s.N ps.toList asg bd .ready none))::s.h, s.n+1, N⟩) :
    AW P (.rangeFunc g ps asg bd) Q s := by
  intro z hz c0 a w ⟨ds, Z, hsz, y, ao, j, a0, hH, hn, he⟩
  have aq:z=none := hz.resolve_right (by simp[B5])
  subst aq
  subst ao
  have C := he.eval g
  rw[hg] at C
  generalize a1:a.eval g=gv at C
  cases C with
  | @fn _ _ U ar au =>
  refine wpIn_rangeFunc λa2 _ => ?_
  obtain⟨q1, q2⟩ := Zg a0 (.deferred (some []))
  have a6:∀r:Loop, r.params=ps→r.assign=asg→r.body=bd→r.state=.ready→r.pending=none→r.tmps=a.tmps →
      ∃z:Cx, z.w=(y.w.alloc (.deferred (some []))).alloc (.loop r)∧y.le z∧z.ok∧z.H=hget ((id, some (.lp s.n s.e s.N ps.toList asg bd .ready none))::s.h)∧z.n=s.n+1∧z.S y.w.heap.size∧z.β id=some (y.w.heap.size+1, 1) := by
    intro r e1 e2 e3 e4 e5 e6
    have a7 := Dj q2 id (.lp s.n s.e s.N ps.toList asg bd .ready none) ((y.w.alloc (.deferred (some []))).alloc (.loop r)) (some (y.w.heap.size+1, 1)) (s.n+1) (by simp) rfl rfl rfl
      (λc hc _ => Below.heap_alloc _ _ _ hc) (λc k hc => by
        simp only[rY, rf] at hc
        obtain⟨rfl, rfl⟩ := hc
        exact⟨by simp, .inl (by simp)⟩) (by show y.n≤s.n+1;omega) (s8 _) (λav => by
          have:s.n<y.n := av
          omega)
      (λa8 => ⟨y.w.heap.size+1, r, rfl, by
        have := World.alloc_heap_new (y.w.alloc (.deferred (some []))) (.loop r)
        rwa [World.size_alloc] at this, by simp[e1], e2, e3, e4, e5, by rw[e6];exact hsz, λt => by rw[e6];exact((he t).mono q1).mono a8⟩)
    refine⟨_, rfl, q1.trans a7.1, a7.2, ?_, rfl, .inr rfl, by simp⟩
    funext i
    simp only[BI]
    rw[hH]
  obtain⟨r, E⟩:∃r:Loop, r = { state := .ready, pending := none, fn := a2, tmps := a.tmps, params := ps, assign := asg, body := bd, defers := y.w.heap.size } := ⟨_, rfl⟩
  obtain⟨x, aa, ab, ac, ad, F, ae, af⟩ := a6 r (by rw[E]) (by rw[E]) (by rw[E]) (by rw[E]) (by rw[E]) (by rw[E])
  have b6:x.H id=some (.lp s.n s.e s.N ps.toList asg bd .ready none) := by rw[ad, BI, rO rfl]
  have aw:x.w.heap[y.w.heap.size]?=some (.deferred (some [])) := by
    rw[aa];exact(Below.heap_alloc _ _ _ (by simp)).trans (World.alloc_heap_new _ _)
  have ax:AO x (.yld id s.n) (.func (.yield (y.w.heap.size+1)) #[] #[]) := .yld (by rw[F];omega) rfl λo ho _ => ⟨_, _, af, rfl⟩
  have I:Fh x (.yld id s.n::caps) (#[Value.func (.yield (y.w.heap.size+1)) #[] #[]]++U).toList := by
    refine⟨by simp[ar], λi c u J h2 => ?_⟩
    cases i with
    | zero =>
      simp only[List.getElem?_cons_zero, rY] at J
      have M:some (Value.func (.yield (y.w.heap.size+1)) #[] #[])=some u := by simpa using h2
      cases M;subst J;exact ax
    | succ i =>
      have M:U[i]?=some u := by simpa[Array.getElem?_append] using h2
      exact(au i c u (by simpa using J) M).mono ab
  have m:∀(args:Array Value) (w:World), (callFunc f args).run P w=.ok (.enter f args) w := λargs w => by
    simp only[callFunc, Sem.run_bind, run_program, Result.andThen_ok, hf, B, hb]
    simp[Sem.run_pure]
  refine⟨y.w.heap.size+1, [{ target := .collected y.w.heap.size, args := #[] }], x.w, { target := .fn (.func f) U, args := #[.func (.yield (y.w.heap.size+1)) #[] #[]] }, x.w, f,
    #[.func (.yield (y.w.heap.size+1)) #[] #[]]++U, x.w, ?_, ?_, λ_ _ => trivial, ?_, λe => (by cases e), ?_⟩
  · rw[aa, E];exact run_enterLoop_outer _ _ _ _ _
  · simp only[resolve, a1, Deferred.ofValue]
    simp[Act.eval, go_sem]
  · simp[invoke, m]
  · have ay := jo (vs := #[.func (.yield (y.w.heap.size+1)) #[] #[]]++U) hf hb hN (show(AV.yld id s.n::caps).length≤N from Cn X) ac ad F I hw
    have az:CallsIn (zF none) (0 - 1) P f (#[.func (.yield (y.w.heap.size+1)) #[] #[]]++U) x.w _ := callsIn_wide.2 ay
    refine az.mono λe w' ⟨u, v, rv, h', n', he', b0, O, q, ag, b7, _, e0, N1, b1, b2, b3, st, pd, k1, k2, k3⟩ => ?_
    subst he'
    subst b0
    have T:v.H id=some (.lp s.n e0 N1 b1 b2 b3 st pd) := by rw[ag];exact k1
    have ah:v.β id=some (y.w.heap.size+1, 1) := by
      obtain⟨o', _, _, _, h4⟩ := O.H id _ T (.inl (show s.n<x.n by rw[F];omega))
      rw[h4];exact af
    obtain⟨_, b', V, m1, m2, _, _, _, m6, m7, _⟩ := q.obj _ _ T
    rw[ah] at m1
    simp only[rY, rf] at m1
    obtain⟨rfl, _⟩ := m1
    have ai := run_endLoop (P := P) m2 (by rw[m6];exact k2)
    obtain⟨t1, t2⟩ := RL (st' := .exhausted) (pd' := V.pending) q T ah m2
    have b4:({ V with state := .exhausted, pending := V.pending } : Loop) = { V with state := .exhausted } := rfl
    rw[b4] at t1 t2
    obtain⟨f1, f2⟩ := LR t2 (hget ((id, none)::h')) (λi o ho => by
      rw[BI] at ho
      split at ho
      · cases ho
      · rename_i b5
        show(if id=i then _ else v.H i)=_
        rw[rN b5, ag];exact ho) n' (by show v.n≤n';omega)
    have l := ((ab.trans O).trans t1).trans f1
    have A:EM c0 ⟨s.e, (id, none)::h', n', s.N⟩ { a with defers := [{ target := .collected y.w.heap.size, args := #[] }]++a.defers } (v.w.putObj (y.w.heap.size+1) (.loop { V with state := .exhausted })) := by
      refine⟨{ target := .collected y.w.heap.size, args := #[] } :: ds, by rw[← Z];rfl, hsz, _, rfl, ⟨j.le.trans l, ⟨um.2 ⟨λaj => ?_, j.marks.1.1⟩, λ_ i oi hi => ?_⟩, λd hd => ?_⟩, f2, rfl, rfl, he.mono l⟩
      · obtain⟨D, J, _, h3, _⟩ := j.marks.2 _ aj
        have := a0.S_lt D h3
        simp only[Deferred.mk.injEq, Target.collected.injEq] at J
        omega
      · cases ak:oi.isCal with
        | false => rfl
        | true =>
          obtain⟨o1, e1, _, e2, _⟩ := l.H i oi hi (.inr ak)
          rw[hH] at e1
          have := Ym an e1
          rw[P3 e2, ak] at this
          cases this
      · have al := (O.trans t1).trans f1
        rcases sB.1 hd with rfl | hd
        · exact⟨_, rfl, j.le.size, al.S _ ae, (al.blk _ (.inl ae)).trans aw⟩
        · obtain⟨D, J, h2, h3, h4⟩ := j.marks.2 d hd
          exact⟨D, J, h2, l.S D h3, (l.blk D (.inl h3)).trans h4⟩
    refine⟨V.pending, _, ai, ?_⟩
    split
    · rename_i hp
      rw[m7] at hp
      subst hp
      exact⟨by simp, _, k3, A⟩
    · rename_i c hp
      rw[m7] at hp
      subst hp
      exact k3 none (.inl rfl) c0 _ _ A
end
section
variable{P:Program}{ops:Array Oper}{Q:Exit→Act→World→Prop}{md:Region.Mode}
end
end Go.Proofs.YtifgmfoihehlbaaGreatDoor.Al

namespace Go.Proofs.YtifgmfoihehlbaaGreatDoor.Al
open Go.RowKit
def RV.scal:RV→Bool
 | .int _ _=>true
 | .bool _=>true
 | .str _=>true
 | _=>false
theorem iK{w w'}{S S'}{d:RV}{v}(h:d.scal=true)(j:A5 w S d v):A5 w' S' d v:=by
 cases j with
 | int k n=>exact .int k n
 | bool b=>exact .bool b
 | str s=>exact .str s
 | _=>simp[RV.scal] at h
theorem OX.mono{P}{b}{us}{w}{Q Q'}(h:OX P b us w Q)(l:∀e w',Q e w'→Q' e w'):OX P b us w Q':=
 let ⟨f,t,j,m,q,A⟩:=h
 ⟨f,t,j,m,q,A.mono l⟩
open Classical in
theorem dJ{x:Cx}(w:x.ok){id g}{W:Et}{ys}{y:List RV}{c}(m:x.H id=some (.cal g W ys))(hA:W.A (ys++[y])=some c){us:Array Value}(X:us.size=y.length)
 (Z:∀(i:Nat) (d:RV) (u:Value), y[i]?=some d→us[i]?=some u→A5 x.w (λ_ => False) d u) {v} (F:AO x (.yld id g) v) :
    ∃b, v=.func (.yield b) #[] #[]∧OX W.P b us x.w λe w' => e=.returned (.bool c)∧∃z:Cx, z.w=w'∧x.le z∧z.ok∧z.H=(λi => if id=i then some (.cal g W (ys++[y])) else x.H i)∧z.n=x.n := by
  obtain⟨hg, κs, A, O, h3, T, h5⟩ := w.obj id _ m
  cases F with
  | yld _ _ F =>
    obtain⟨b', cap, I, k2⟩ := F _ m rfl
    rw[A] at I
    simp only[rY, rf] at I
    obtain⟨rfl, rfl⟩ := I
    refine⟨W.b, k2, (O.round ys y c x.w κs us hA h3 X Z).mono λe w' ⟨he, U, hJ, V, J, ht, ho, M, hκ⟩ => ⟨he, ?_⟩⟩
    have B := J7 w id (.cal g W (ys++[y])) w' (x.β id) (λj => if U j then some (j, 0) else none) x.n V J ht ho
      (λd hd C => M d hd (λe => C _ m (.inl ⟨1, by rw[e];exact A⟩)) λhk => C _ m (.inr (T d hk)))
      (λd k q => by
        rw[A] at q
        simp only[rY, rf] at q
        obtain⟨rfl, rfl⟩ := q
        exact⟨rX (w.own id _ W.b 1 m A).1 V, .inr ⟨_, m, .inl ⟨1, A⟩⟩⟩)
      (λj d k q => by
        split at q
        · rename_i hj
          simp only[rY, rf] at q
          obtain⟨rfl, rfl⟩ := q
          obtain⟨E, e2, e3⟩ := hκ j hj
          refine⟨⟨e2, ?_⟩, λk' l => ?_, λj' k' l => ?_⟩
          · rcases E with E | E
            · exact .inr ⟨_, m, .inr (T j E)⟩
            · exact .inl E
          · rw[A] at l
            simp only[rY, rf] at l
            exact e3 l.1.symm
          · split at l
            · simp only[rY, rf] at l
              exact l.1
            · cases l
        · cases q)
      (rV _) hg (λ_ => ⟨_, m, rfl, rfl, rfl⟩) (λhf => by cases hf)
      (λa0 => ⟨U, A, O, hJ, λd hd => ⟨d, 0, rO hd⟩, h5⟩)
    exact⟨_, rfl, B.1, B.2, rfl, rfl⟩
section
variable{P:Program}{ops:Array Oper}{rest:List Oper}{s:St}{K:St→Prop}{o:Oper}
theorem B1.stepC{d}{id g}{W:Et}{ys}{y:List RV}{c}{fo}{xs:Array Operand}{C}(hP:W.P=P)(hg:o.guard=none)(hd:o.dst=some d)(E:Nat.blt d s.N=true)
 (ho:o.op=.call { callee := .value fo, args := xs, argTypes := C }) (F:Ev true s.e fo (.yld id g)) (hx:KY true s.e xs.toList (y.map .r)) (I:y.all RV.scal=true) (hh:hget s.h id=some (.cal g W ys)) (hA:W.A (ys++[y])=some c)
 (hw:B1 P ops rest { e := (d, .r (.bool c))::s.e, h := (id, some (.cal g W (ys++[y])))::s.h, n := s.n, N := s.N } K):B1 P ops (o::rest) s K := by
  intro c0 a w ⟨ds, l, hsz, x, J, M, O, hH, hn, T⟩ Q m hQ
  subst J
  refine wpListIn_plain hg λK' U => ?_
  obtain⟨V, X⟩ := hx.rep rfl T
  have Z:(xs.map a.eval).size=y.length := by
    simp only[Array.size_map]
    simpa using V.symm
  obtain⟨b, hv, f, t, a7, bd, q, j⟩ := dJ O (by rw[hH];exact hh) hA Z (λi d u h1 h2 => by
    have h3 := X i (.r d) u (by rw[rc, h1];rfl) (by simpa using h2)
    cases h3 with
    | r h3 => exact iK (ry.1 I d (rq h1)) h3) (F.rep T rfl)
  subst hP
  refine⟨λ_ _ => trivial, ?_⟩
  rw[show(zF none).round=none from rfl, Oper.semAt_none, YI ho hv, q]
  refine⟨λe => (by cases e), j.mono λe w' ⟨he', z, a0, A, B, a1, a2⟩ => ?_⟩
  subst he'
  subst a0
  refine U _ _ ?_
  rw[hd]
  have a6:d<a.tmps.size := by rw[hsz];exact Cn E
  refine hw c0 (a.put (some d) (.bool c)) z.w ⟨ds, by simpa[Act.put] using l, by simpa[Act.put] using hsz, z, rfl, M.trans A, B, ?_, by rw[a2, hn], (T.mono A).put a6 (.r (.bool c))⟩ Q m hQ
  rw[a1]
  funext i
  rw[BI, hH]
end
end Go.Proofs.YtifgmfoihehlbaaGreatDoor.Al

namespace Go.Proofs.YtifgmfoihehlbaaGreatDoor.Al
open Go.RowKit
theorem AO.fence{x}(B:Nat→Prop){a}{v}(h:AO x a v):AO { x with F:=B } a v:=by
 induction h with
 | r h=>exact .r h
 | agg q _ m=>exact .agg q m
 | tup q _ m=>exact .tup q m
 | own hg j l=>exact .own hg j l
 | pre hg j l=>exact .pre hg j l
 | ptr hg j l=>exact .ptr hg j l
 | mref hg j l=>exact .mref hg j l
 | yld hg j l=>exact .yld hg j l
 | pk hg w j l=>exact .pk hg w j l
 | fo hg w j l=>exact .fo hg w j l
 | full h C=>exact .full h C
 | rop u E F I=>exact .rop u E F I
 | fn q _ m=>exact .fn q m
 | cst v=>exact .cst v
 | whn _ A m=>exact .whn m A
 | ifc j h A=>exact .ifc j h A
 | any v=>exact .any v
theorem Cb.fence{x}(B:Nat→Prop){β}{κ}{o}(h:Cb x β κ o):Cb { x with F:=B } β κ o:=by
 cases o with
 | box g e cs=>
  obtain⟨b,F,q,w,A,C⟩:=h
  exact⟨b,F,q,w,A,λj c X=>let ⟨u,I,J,Z⟩:=C j c X;⟨u,I,J,Z.fence B⟩⟩
 | hot g e xs k id g'=>
  obtain⟨h0,q,M,O,w,A,C,u,E,T⟩:=h
  exact⟨h0,q,M,O,w,A,C,u,E,T.fence B⟩
 | mp g ks vs clock=>
  obtain⟨b,O,q,w,A,C,E⟩:=h
  exact⟨b,O,q,w,A,C,λj c u I J=>(E j c u I J).fence B⟩
 | mi g U mg V seen last=>obtain⟨b,m,q,w,A⟩:=h;exact⟨b,m,q,w,A.fence B⟩
 | mj g U mg len seen=>obtain⟨b,m,q,w,A⟩:=h;exact⟨b,m,q,w,A.fence B⟩
 | lp g e N ps a b st p=>
  obtain⟨b,r,q,w,A,C,E,T,h7,h8,h9⟩:=h
  exact⟨b,r,q,w,A,C,E,T,h7,h8,λt=>(h9 t).fence B⟩
 | arr g e sz xs=>exact h
 | it g s pos=>exact h
 | md g l=>exact h
 | mb g v e l=>exact h
 | mr g v e sz hole l=>exact h
 | cal g W ys=>exact h
theorem Eh.fence{x} j(h:Eh x):Eh { x with F:=j }:=h.same rfl λ_ h=>h
theorem Cx.ok.fence{x:Cx}(l:x.ok)(m:Nat→Prop)(C:∀b,m b→b<x.w.heap.size)(E:∀b,x.S b→¬ m b)(B:∀id o b k,x.H id=some o→x.atk id b k→¬ m b):({ x with F:=m } : Cx).ok:=
 ⟨l.S_lt,C,E,λid o h=>let ⟨q,w⟩:=l.obj id o h;⟨q,w.fence m⟩,λid o b k h A=>let ⟨q,w,_⟩:=l.own id o b k h A;⟨q,w,B id o b k h (.inl A)⟩,l.inj,
  λid o j b c h A=>let ⟨q,w,_,F,I⟩:=l.ext id o j b c h A;⟨q,w,B id o b c h (.inr ⟨j,A⟩),F,I⟩,l.tabs.fence m⟩
theorem Cx.ok.turn{x:Cx}(l:x.ok){w':World}(A:x.w.heap.size≤w'.heap.size)(F:w'.os=x.w.os)(I:w'.tape=x.w.tape)(hp:w'.output=x.w.output)
  (h:∀d,(x.S d∨x.F d∨∃id o k,x.H id=some o∧x.atk id d k)→w'.heap[d]?=x.w.heap[d]?):x.le { x with w:=w' } ∧ ({ x with w:=w' } : Cx).ok:=by
 have q:x.le { x with w:=w' }:=⟨A,F,I,hp,λb m=>h b (m.imp _root_.id .inl),λ_ h=>h,rfl,rV _,λid o h _=>⟨o,h,rfl,rfl,rfl⟩,λid o h J _ _=>⟨o,h,J,rfl,rfl,rfl,rfl⟩⟩
 refine⟨q,λb m=>rX (l.S_lt b m) A,λb m=>rX (l.F_lt b m) A,l.SF,λid o w=>?_,λid o b k M O=>?_,l.inj,l.extOf (y:={ x with w:=w' }) (λid o h=>⟨o,h⟩) rfl rfl A (λid o b k h B=>(l.own' id o b k h B).2.1) (λid o b k h B=>(l.own' id o b k h B).2.2),l.tabs.le q⟩
 ·obtain⟨C,E⟩:=l.obj id o w
  exact⟨C,E.mono q (λb k m=>h b (.inr (.inr ⟨id,o,k,w,.inl m⟩))) λj b k m=>h b (.inr (.inr ⟨id,o,k,w,.inr ⟨j,m⟩⟩))⟩
 ·obtain⟨C,E,T⟩:=l.own id o b k M O
  exact⟨rX C A,E,T⟩
def EN{σ:Type}(F:σ→List RV→Option σ):List (List RV)→σ→Option σ
 | [],j=>some j
 | y::l,j=>(F j y).bind (EN F l)
theorem Wg{σ:Type}(F:σ→List RV→Option σ) ys y(j:σ):EN F (ys++[y]) j=(EN F ys j).bind λs=>F s y:=by
 induction ys generalizing j with
 | nil=>simp[EN]
 | cons a l m=>
  simp only[sv,EN]
  cases F j a with
  | none=>rfl
  | some s=>simpa using m s
def Ig{σ:Type}(F:σ→List RV→Option σ)(j:σ)(ys:List (List RV)):Option Bool:=(EN F ys j).map λ_=>true
def QX{σ:Type}(pd:σ→Option Code)(F:σ→List RV→Option σ)(j:σ)(ys:List (List RV)):Option Bool:=(EN F ys j).map λs=>(pd s).isNone
def Ic(p:Option Code):LoopState:=if p.isNone then .ready else .done
def Vw{σ:Type}(x:Cx)(lid b:Nat)(lp:σ→Ab)(F:σ→List RV→Option σ)(st0:σ)(Hf:σ→(Nat→Nat)→Ag)(nf:(Nat→Nat)→Nat)(ys:List (List RV))(w:World)(κ:Nat→Prop):Prop:=
 ∃(z:Cx) (j:σ) (i:Nat→Nat),EN F ys st0=some j∧z.w=w∧z.ok∧x.le z∧z.H=hget ((lid,some (lp j))::Hf j i)∧z.n=nf i∧z.β lid=some (b,1) ∧
  (∀id o d k,z.H id=some o→z.atk id d k→d=b∨κ d)∧∀d,z.S d→(x.S d∨x.F d)∨κ d
def UB{σ:Type}(P:Program)(x:Cx)(lid b:Nat)(lp:σ→Ab)(pd:σ→Option Code)(F:σ→List RV→Option σ)(st0:σ)(Hf:σ→(Nat→Nat)→Ag)(nf:(Nat→Nat)→Nat):Et:=
 ⟨P,QX pd F st0,b,λd=>x.S d∨x.F d,Vw x lid b lp F st0 Hf nf⟩
theorem dV{P:Program}{σ:Type}{x:Cx}{lid b g N:Nat}{e:Am}{ps:List Nat}{asg bd:Code}{F:σ→List RV→Option σ}{st0:σ}{pd:σ→Option Code}{Hf:σ→(Nat→Nat)→Ag}{nf:(Nat→Nat)→Nat}(b1:∀d,x.F d→¬ x.S d)
  (hg:∀i,g<nf i) (aj:(ps.all λp=>Nat.blt p N)=true) (ak:(B5 asg&&B5 bd)=true)
  (V:∀st y l i,F st y=some l→pd st=none∧y.length=ps.length∧AW P asg (FN P lid g bd λc h' n'=>c=(pd l).isNone∧∃i',(∀id o,hget ((lid,some (.lp g e N ps asg bd (Ic (pd l)) (pd l)))::Hf l i') id=some o→hget h' id=some o)∧n'≤nf i')
   ⟨JT ps (y.map .r) e,(lid,some (.lp g e N ps asg bd .ready none))::Hf st i,nf i,N⟩) :
  WQ (UB P x lid b (λs=>.lp g e N ps asg bd (Ic (pd s)) (pd s)) pd F st0 Hf nf):=by
 let S:Nat→Prop:=λd=>x.S d∨x.F d
 have h9:∀d,S d↔x.S d∨x.F d:=λd=>Iff.rfl
 constructor
 ·rintro ys w w' κ ⟨z,st,i,X,rfl,U,h3,h4,h5,h6,h7,h8⟩ B J ht hp a6
  obtain⟨k1,k2⟩:=U.turn B J ht hp (λd hd=>by
   refine a6 d ?_
   rcases hd with hd | hd | ⟨id,o,k,E,M⟩
   ·exact(h8 d hd).elim (λh=>.inr (.inr h)) λh=>.inr (.inl h)
   ·rw[h3.F] at hd
    exact .inr (.inr ((h9 d).2 (.inr hd)))
   ·exact(h7 id o d k E M).imp _root_.id .inl)
  exact⟨{ z with w:=w' },st,i,X,rfl,k2,h3.trans k1,h4,h5,h6,h7,h8⟩
 ·rintro ys y c w κ Z hA ⟨z,st,i,X,rfl,U,h3,h4,h5,h6,h7,h8⟩ hl hr
  have h8:∀d,z.S d→S d∨κ d:=h8
  simp only[UB,QX,Wg,X,sJ,rg] at hA
  obtain⟨l,ad,rfl⟩:=hA
  obtain⟨al,a7,hw⟩:=V st y l i ad
  simp only[al] at h4
  have h4:z.H=hget ((lid,some (.lp g e N ps asg bd .ready none))::Hf st i):=h4
  let own:Nat→Prop:=λd=>∃id o k,z.H id=some o∧z.atk id d k
  let z2:Cx:={ z with F:=λd=>d<z.w.heap.size∧¬ z.S d∧¬ own d }
  have an:z2.ok:=U.fence _ (λb hb=>hb.1) (λb hb I=>I.2.1 hb) λid o b k h ha I=>I.2.2 ⟨id,o,k,h,ha⟩
  have ao:z.H lid=some (.lp g e N ps asg bd .ready none):=by rw[h4,BI,rO rfl]
  obtain⟨_,b',r,m1,m2,m3,m4,m5,m6,m7,m8,m9⟩:=U.obj lid _ ao
  rw[h6] at m1
  simp only[rY,rf,ud] at m1
  obtain⟨rfl⟩:=m1
  have aq:Z.size=r.params.size:=by rw[m3,hl,a7];simp
  have a8:((r.params.zip Z).foldl (λtmps (x:Nat × Value)=>tmps.setIfInBounds x.1 x.2) r.tmps)=(ps.zip Z.toList).foldl (λt (p:Nat × Value)=>t.setIfInBounds p.1 p.2) r.tmps:=by
   rw[m3,← uw]
   simp
  have ar:∀(j:Nat) (a:AV) (u:Value),(y.map AV.r)[j]?=some a→Z.toList[j]?=some u→AO z2 a u:=by
   intro j a u X U
   rw[rc,rg] at X
   obtain⟨d,X,rfl⟩:=X
   exact .r ((hr j d u X (by simpa using U)).mono (λb hb=>hb.elim) λb hb=>hb.elim)
  obtain⟨k1,k2⟩:=TC (x:=z2) ps (y.map .r) Z.toList e r.tmps (by simpa using a7) (by simpa using hl.trans a7) ar (λp hp=>by rw[m8];exact Cn (ry.1 aj p hp)) (λt=>(m9 t).fence _)
  have ae:B5 asg=true∧B5 bd=true:=by simpa using ak
  have hR:=WO (z:=z2) (f:=r.fn) (b:=b) (tmps:=(ps.zip Z.toList).foldl (λt (p:Nat × Value)=>t.setIfInBounds p.1 p.2) r.tmps) an h4 h5 (by rw[BI,rO rfl]) h6 m2 ⟨m3,m4,m5,m6,m7⟩ (by rw[k1];exact m8) k2 ae hw
  have af:=run_yield (P:=P) (args:=Z) m2 aq
  refine⟨_,_,_,_,af,?_⟩
  rw[m4,m5]
  have a0:(r.params.zip Z).foldl (λtmps (x:Tmp × Value)=>match x with | (t,a)=>tmps.setIfInBounds t a) r.tmps=(ps.zip Z.toList).foldl (λt (p:Nat × Value)=>t.setIfInBounds p.1 p.2) r.tmps:=a8
  rw[a0]
  refine hR.mono λe' w' ⟨c,y',h',n',he',au,m,O,av,aw,ax,i',ag,ay⟩=>⟨by rw[he',ax],?_⟩
  subst au
  obtain⟨f1,f2⟩:=LR O (hget ((lid,some (.lp g e N ps asg bd (Ic (pd l)) (pd l)))::Hf l i')) (λid o J=>by rw[av];exact ag id o J) (nf i') (by rw[aw];exact ay)
  have a1:y'.F=z2.F:=m.F
  have aa:∀d,z.F d→z2.F d:=λd hd=>⟨U.F_lt d hd,λB=>U.SF d B hd,λ⟨id,o,k,E,M⟩=>(U.own' id o d k E M).2.2 hd⟩
  let z':Cx:={ y' with F:=z.F,H:=hget ((lid,some (.lp g e N ps asg bd (Ic (pd l)) (pd l)))::Hf l i'),n:=nf i' }
  have ab:z'.ok:=f2.fence z.F (λd hd=>rX (U.F_lt d hd) m.size) (λd hd I=>O.SF d hd (by rw[a1];exact aa d I)) λid o d k h ha I=>(f2.own' id o d k h ha).2.2 (by show y'.F d;rw[a1];exact aa d I)
  have ah:z.le z':=by
   have A:=m.trans f1
   exact⟨A.size,A.os,A.tape,A.output,λd hd=>A.blk d (hd.imp _root_.id (aa d)),A.S,rfl,A.n,A.H,A.K⟩
  have ai:z'.β lid=some (b,1):=by
   obtain⟨o1,_,_,_,q⟩:=ah.H lid (.lp g e N ps asg bd (Ic (pd l)) (pd l)) (show hget _ lid=_ by rw[BI,rO rfl]) (.inl (by show g<z.n;rw[h5];exact hg i))
   rw[q,h6]
  have az:z'.H lid=some (.lp g e N ps asg bd (Ic (pd l)) (pd l)):=(show hget _ lid=_ by rw[BI,rO rfl])
  have a2:∀d,d<z.w.heap.size→¬ z2.F d→z.S d∨own d:=λd hd I=>by
   by_cases B:z.S d
   ·exact .inl B
   ·by_cases J:own d
    ·exact .inr J
    ·exact absurd ⟨hd,B,J⟩ I
  have C:∀d,own d→d=b∨κ d:=λd ⟨id,o,k,E,M⟩=>h7 id o d k E M
  refine⟨λd=>(∃id o k,z'.H id=some o∧z'.atk id d k∧d≠b)∨(z'.S d∧¬ S d),⟨z',l,i',by rw[Wg,X];exact ad,rfl,ab,h3.trans ah,rfl,rfl,ai,λid o d k E M=>?_,λd hd=>?_⟩,m.size,m.os,m.tape,m.output,λd hd b0 hk=>?_,λd hd=>?_⟩
  ·by_cases T:d=b
   ·exact .inl T
   ·exact .inr (.inl ⟨id,o,k,E,M,T⟩)
  ·by_cases B:S d
   ·exact .inl B
   ·exact .inr (.inr ⟨hd,B⟩)
  ·refine m.blk d ?_
   by_cases B:z.S d
   ·exact .inl B
   ·refine .inr ⟨hd,B,λJ=>?_⟩
    exact(C d J).elim b0 hk
  ·rcases hd with ⟨id,o,k,E,M,e3⟩ | ⟨E,M⟩
   ·obtain⟨q1,q2,q3⟩:=f2.own' id o d k E M
    refine⟨?_,q1,e3⟩
    by_cases ac:d<z.w.heap.size
    ·left
     rcases a2 d ac (λI=>q3 (by show y'.F d;rw[a1];exact I)) with B | J
     ·exact absurd (m.S d B) q2
     ·exact(C d J).resolve_left e3
    ·right;omega
   ·have T:d≠b:=λe=>(ab.own lid _ b 1 az ai).2.1 (by rw[← e];exact E)
    refine⟨?_,ab.S_lt d E,T⟩
    by_cases ac:d<z.w.heap.size
    ·left
     rcases a2 d ac (λI=>O.SF d E (by rw[a1];exact I)) with B | J
     ·exact(h8 d B).resolve_left M
     ·exact(C d J).resolve_left T
    ·right;omega
end Go.Proofs.YtifgmfoihehlbaaGreatDoor.Al

namespace Go.Proofs.YtifgmfoihehlbaaGreatDoor.Al
open Go.RowKit
section
variable{x:Cx}(id0:Nat)(o0:Ab)(β0:Option (Nat × Nat))(κ0:Nat→Option (Nat × Nat))(n':Nat)
def Cx.add(x:Cx):Cx:={ x with H:=λi=>if id0=i then some o0 else x.H i,β:=λi=>if id0=i then β0 else x.β i,K:=λi=>if id0=i then κ0 else x.K i,n:=n' }
theorem AO.add(hg:x.n≤o0.gen)(E:x.n≤n')(J:o0.isFam=false){a}{v}(h:AO x a v):AO (x.add id0 o0 β0 κ0 n') a v:=by
 induction h with
 | r h=>exact .r h
 | agg I _ F=>exact .agg I F
 | tup I _ F=>exact .tup I F
 | own l A B=>
  refine .own (rX l E) A λo j w=>?_
  dsimp only [Cx.add] at j ⊢
  split at j
  ·cases j;omega
  ·rename_i C;rw[rN C];exact B o j w
 | pre l A B=>
  refine .pre (rX l E) A λo j w=>?_
  dsimp only [Cx.add] at j ⊢
  split at j
  ·cases j;omega
  ·rename_i C;rw[rN C];exact B o j w
 | ptr l A B=>
  refine .ptr (rX l E) A λo j w=>?_
  dsimp only [Cx.add] at j ⊢
  split at j
  ·cases j;omega
  ·rename_i C;rw[rN C];exact B o j w
 | mref l A B=>
  refine .mref (rX l E) A λo j w=>?_
  dsimp only [Cx.add] at j ⊢
  split at j
  ·cases j;omega
  ·rename_i C;rw[rN C];exact B o j w
 | yld l A B=>
  refine .yld (rX l E) A λo j w=>?_
  dsimp only [Cx.add] at j ⊢
  split at j
  ·cases j;omega
  ·rename_i C;rw[rN C];exact B o j w
 | pk l M A B=>
  refine .pk (rX l E) (rX M E) A λo b c q m j w O T V U=>?_
  dsimp only [Cx.add] at j U
  split at j
  ·cases j;rw[J] at w;cases w
  ·rename_i C;rw[rN C] at U;exact B o b c q m j w O T V U
 | fo l M A B=>
  refine .fo (rX l E) (rX M E) A λo j w O T=>?_
  dsimp only [Cx.add] at j ⊢
  split at j
  ·cases j;rw[J] at w;cases w
  ·rename_i C;rw[rN C];exact B o j w O T
 | full h J=>exact .full h J
 | rop u X Z hr=>exact .rop u X Z hr
 | fn I _ F=>exact .fn I F
 | cst v=>exact .cst v
 | whn _ j F=>exact .whn F j
 | ifc A h j=>exact .ifc A h j
 | any v=>exact .any v
theorem Cb.add(hg:x.n≤o0.gen)(E:x.n≤n')(X:o0.isFam=false){β}{κ}{o}(h:Cb x β κ o):Cb (x.add id0 o0 β0 κ0 n') β κ o:=by
 have hA:∀ {a:AV} {v:Value},AO x a v→AO (x.add id0 o0 β0 κ0 n') a v:=λh=>h.add id0 o0 β0 κ0 n' hg E X
 cases o with
 | box g e cs=>
  obtain⟨b,F,q,w,A,B⟩:=h
  exact⟨b,F,q,w,A,λj c Z=>let ⟨u,I,J,k3⟩:=B j c Z;⟨u,I,J,hA k3⟩⟩
 | hot g e xs k id g'=>
  obtain⟨h0,q,M,O,w,A,B,u,C,T⟩:=h
  exact⟨h0,q,M,O,w,A,B,u,C,hA T⟩
 | mp g ks vs clock=>
  obtain⟨b,O,q,w,A,B,C⟩:=h
  exact⟨b,O,q,w,A,B,λj c u I J=>hA (C j c u I J)⟩
 | mi g U mg V seen last=>obtain⟨b,m,q,w,A⟩:=h;exact⟨b,m,q,w,hA A⟩
 | mj g U mg len seen=>obtain⟨b,m,q,w,A⟩:=h;exact⟨b,m,q,w,hA A⟩
 | lp g e N ps a b st p=>
  obtain⟨b,r,q,w,A,B,C,T,h7,h8,h9⟩:=h
  exact⟨b,r,q,w,A,B,C,T,h7,h8,λt=>hA (h9 t)⟩
 | arr g e sz xs=>exact h
 | it g s pos=>exact h
 | md g l=>exact h
 | mb g v e l=>exact⟨rX h.1 E,h.2⟩
 | mr g v e sz hole l=>exact⟨h.1,rX h.2.1 E,h.2.2⟩
 | cal g W ys=>exact h
theorem Cx.ok.add(C:x.ok)(hg:x.n≤o0.gen)(a0:o0.gen<n')(hf:o0.isFam=false)(hβ:∀b k,β0=some (b,k)→b<x.w.heap.size∧¬ x.S b∧¬ x.F b∧∀id o I,x.H id=some o→x.atk id b I→False)
  (hκ:∀j b k,κ0 j=some (b,k)→(b<x.w.heap.size∧¬ x.S b∧¬ x.F b∧∀id o I,x.H id=some o→x.atk id b I→False)∧(∀I,β0=some (b,I)→False)∧∀U I,κ0 U=some (b,I)→U=j)
  (Z:Cb (x.add id0 o0 β0 κ0 n') β0 κ0 o0):(x.add id0 o0 β0 κ0 n').ok:=by
 have hn:x.n≤n':=by omega
 have q:∀ {i:Nat} {o:Ab},(x.add id0 o0 β0 κ0 n').H i=some o→id0≠i→x.H i=some o:=λh w=>by dsimp only [Cx.add] at h;rwa [rN w] at h
 have E:∀i,id0≠i→(x.add id0 o0 β0 κ0 n').β i=x.β i:=λi w=>rN w
 have O:∀i,id0≠i→(x.add id0 o0 β0 κ0 n').K i=x.K i:=λi w=>rN w
 have F:(x.add id0 o0 β0 κ0 n').β id0=β0:=rO rfl
 have T:(x.add id0 o0 β0 κ0 n').K id0=κ0:=rO rfl
 refine⟨C.S_lt,C.F_lt,C.SF,λi o h=>?_,λi o b k h B=>?_,λi A o J b k I h M B l=>?_,λi o j b c h B=>?_,C.tabs.same rfl λ_ h=>h⟩
 ·by_cases w:id0=i
  ·subst w
   have:(x.add id0 o0 β0 κ0 n').H id0=some o0:=rO rfl
   rw[this] at h;cases h
   rw[F,T]
   exact⟨a0,Z⟩
  ·obtain⟨V,X⟩:=C.obj i o (q h w)
   rw[E i w,O i w]
   exact⟨rX V hn,X.add id0 o0 β0 κ0 n' hg hn hf⟩
 ·by_cases w:id0=i
  ·subst w
   rw[F] at B
   obtain⟨V,X,k3,_⟩:=hβ b k B
   exact⟨V,X,k3⟩
  ·rw[E i w] at B
   exact C.own i o b k (q h w) B
 ·by_cases w:id0=i<;>by_cases m:id0=A
  ·rw[← w,← m]
  ·subst w
   rw[F] at B;rw[E A m] at l
   exact((hβ b k B).2.2.2 A J I (q M m) (.inl l)).elim
  ·subst m
   rw[F] at l;rw[E i w] at B
   exact((hβ b I l).2.2.2 i o k (q h w) (.inl B)).elim
  ·rw[E i w] at B;rw[E A m] at l
   exact C.inj i A o J b k I (q h w) (q M m) B l
 ·by_cases w:id0=i
  ·subst w
   rw[T] at B
   obtain⟨⟨V,X,k3,k4⟩,k5,k6⟩:=hκ j b c B
   refine⟨V,X,k3,λA J k M l=>?_,λA J U c' M l=>?_⟩
   ·by_cases m:id0=A
    ·subst m;rw[F] at l;exact k5 k l
    ·rw[E A m] at l;exact k4 A J k (q M m) (.inl l)
   ·by_cases m:id0=A
    ·subst m;rw[T] at l;exact⟨rfl,k6 U c' l⟩
    ·rw[O A m] at l;exact(k4 A J c' (q M m) (.inr ⟨U,l⟩)).elim
  ·rw[O i w] at B
   obtain⟨V,X,k3,k4,k5⟩:=C.ext i o j b c (q h w) B
   refine⟨V,X,k3,λA J k M l=>?_,λA J U c' M l=>?_⟩
   ·by_cases m:id0=A
    ·subst m;rw[F] at l;exact(hβ b k l).2.2.2 i o c (q h w) (.inr ⟨j,B⟩)
    ·rw[E A m] at l;exact k4 A J k (q M m) l
   ·by_cases m:id0=A
    ·subst m;rw[T] at l;exact((hκ U b c' l).1.2.2.2 i o c (q h w) (.inr ⟨j,B⟩)).elim
    ·rw[O A m] at l;exact k5 A J U c' (q M m) l
end
end Go.Proofs.YtifgmfoihehlbaaGreatDoor.Al

namespace Go.Proofs.YtifgmfoihehlbaaGreatDoor.Al
open Go.RowKit
section
variable{P:Program}{s:St}
open Classical in
theorem qw{σ:Type}{g:Operand}{ps:Array Tmp}{asg bd:Code}{Q:Exit→St→Prop}{f:FuncId}{caps:List AV}{L:List Nat}{hB:Ag}{Post:Et→AV→Ag→Prop}(lid:Nat)(pd:σ→Option Code)(F:σ→List RV→Option σ)(st0:σ)(Hf:σ→(Nat→Nat)→Ag)(nf:(Nat→Nat)→Nat)(U:Nat→Nat)
  (bp:BP s.e g=.fn f (EI (lid::L) caps)) (bq:FK (L.length+1) caps=true) (a8:FV s.h (lid::L) hB) (cn:hget hB 1000=none) (br:(lid::L).Nodup) (bs:JS s.h=true)
  (ao:Jt (Hf st0 U) s.h) (aq:∀j∈lid::L,hget (Hf st0 U) j=none) (ae:∀st i,hget (Hf st i) lid=none) (bt:s.n+1≤nf U) (hg:∀i,s.n<nf i) (bu:(ps.toList.all λp=>Nat.blt p s.N)=true) (ar:(B5 asg&&B5 bd)=true)
  (au:∀W:Et,W.P=P→W.A=QX pd F st0→BC P f (L.length+1) (.yld 1000 s.n::caps) ((1000,some (.cal s.n W []))::hB) (Post W))
  (av:pd st0=none)
  (aa:∀st y st' i,F st y=some st'→pd st=none∧y.length=ps.toList.length∧AW P asg (FN P lid s.n bd λc h' n'=>c=(pd st').isNone∧∃i',(∀id o,hget ((lid,some (.lp s.n s.e s.N ps.toList asg bd (Ic (pd st')) (pd st')))::Hf st' i') id=some o→hget h' id=some o)∧n'≤nf i')
   ⟨JT ps.toList (y.map .r) s.e,(lid,some (.lp s.n s.e s.N ps.toList asg bd .ready none))::Hf st i,nf i,s.N⟩)
  (bv : ∃ fn, P.funcs[f]? = some fn ∧ fn.body.isNone = false ∧ (fn.name == "runtime.NumGoroutine") = false)
  (af:∀W r h',W.A=QX pd F st0→Post W r h'→∃ys C,hget h' 1000=some (.cal s.n W ys)∧EN F ys st0=some C∧∀i,match pd C with
   | none=>Q .normal ⟨s.e,Hf C i,nf i,s.N⟩
   | some c=>AW P c Q ⟨s.e,Hf C i,nf i,s.N⟩) :
  AW P (.rangeFunc g ps asg bd) Q s:=by
 intro z hz c0 a w ⟨ds,aw,hsz,y,bw,V,ax,hH,hn,he⟩
 have bx:z=none:=hz.resolve_right (by simp[B5])
 subst bx
 subst bw
 obtain⟨fn,hf,ac,ag⟩:=bv
 obtain⟨code,bz⟩:∃code,fn.body=some code:=by
  cases h:fn.body with
  | none=>rw[h] at ac;cases ac
  | some c=>exact⟨c,rfl⟩
 have X:=he.eval g
 rw[bp] at X
 generalize ay:a.eval g=gv at X
 cases X with
 | @fn _ _ us az c1=>
 refine wpIn_rangeFunc λb0 _=>?_
 obtain⟨q1,q2⟩:=Zg ax (.deferred (some []))
 let lp:Ab:=.lp s.n s.e s.N ps.toList asg bd .ready none
 have b1:∀r:Loop,r.params=ps→r.assign=asg→r.body=bd→r.state=.ready→r.pending=none→r.tmps=a.tmps →
   ∃z:Cx,z.w=(y.w.alloc (.deferred (some []))).alloc (.loop r)∧y.le z∧z.ok∧z.H=hget ((lid,some lp)::s.h)∧z.n=s.n+1∧z.S y.w.heap.size∧z.β lid=some (y.w.heap.size+1,1) ∧
    (∀d,z.S d↔y.S d∨d=y.w.heap.size)∧z.F=y.F∧(∀i,i≠lid→z.β i=y.β i∧z.K i=y.K i)∧∀j,z.K lid j=none:=by
  intro r T e2 e3 e4 e5 e6
  have b3:=Dj q2 lid lp ((y.w.alloc (.deferred (some []))).alloc (.loop r)) (some (y.w.heap.size+1,1)) (s.n+1) (by simp) rfl rfl rfl
   (λc hc _=>Below.heap_alloc _ _ _ hc) (λc k hc=>by
    simp only[rY,rf] at hc
    obtain⟨rfl,rfl⟩:=hc
    exact⟨by simp,.inl (by simp)⟩) (by show y.n≤s.n+1;omega) (s8 _) (λah=>by
     have:s.n<y.n:=ah
     omega)
   (λb4=>⟨y.w.heap.size+1,r,rfl,by
    have:=World.alloc_heap_new (y.w.alloc (.deferred (some []))) (.loop r)
    rwa [World.size_alloc] at this,by simp[T],e2,e3,e4,e5,by rw[e6];exact hsz,λt=>by rw[e6];exact((he t).mono q1).mono b4⟩)
  refine⟨_,rfl,q1.trans b3.1,b3.2,?_,rfl,.inr rfl,by simp,λd=>Iff.rfl,rfl,λi E=>⟨rN λe=>E e.symm,rN λe=>E e.symm⟩,λj=>by simp⟩
  funext i
  simp only[BI]
  rw[hH]
 obtain⟨r,hr⟩:∃r:Loop,r = { state:=.ready,pending:=none,fn:=b0,tmps:=a.tmps,params:=ps,assign:=asg,body:=bd,defers:=y.w.heap.size }:=⟨_,rfl⟩
 obtain⟨x,A,c2,ad,ai,c3,b5,b6,b7,c4,c5,c6⟩:=b1 r (by rw[hr]) (by rw[hr]) (by rw[hr]) (by rw[hr]) (by rw[hr]) (by rw[hr])
 have cp:x.H lid=some lp:=by rw[ai,BI,rO rfl]
 have c7:x.w.heap[y.w.heap.size]?=some (.deferred (some [])):=by
  rw[A];exact(Below.heap_alloc _ _ _ (by simp)).trans (World.alloc_heap_new _ _)
 let q:Cx:={ y with w:=y.w.alloc (.deferred (some [])),S:=λb=>y.S b∨b=y.w.heap.size }
 obtain⟨t1,t2⟩:=Cx.ok.turn (x:=q) q2 (w':=x.w) (by rw[A];simp[q]) (by rw[A];rfl) (by rw[A];rfl) (by rw[A];rfl) (λd hd=>by
  have ah:d<q.w.heap.size:=by
   rcases hd with hd | hd | ⟨id,o,k,T,e2⟩
   ·exact q2.S_lt d hd
   ·exact q2.F_lt d hd
   ·exact(q2.own' id o d k T e2).1
  rw[A];exact Below.heap_alloc _ _ _ ah)
 let m:Cx:={ q with w:=x.w }
 have c8:y.le m:=q1.trans t1
 have cl:q.w.heap.size=y.w.heap.size+1:=World.size_alloc _ _
 have cm:x.w.heap.size=y.w.heap.size+2:=by rw[A];simp
 have b8:(m.view (lid::L) hB).ok:=Uk (z:=m) t2 hH a8 br
 have c9:=b8.fence (λ_=>False) (λb h=>h.elim) (λb _ h=>h.elim) (λid o b k _ _ h=>h.elim)
 have ca:∀id o b k,(m.view (lid::L) hB).H id=some o→(m.view (lid::L) hB).atk id b k→¬ (m.S b∨m.F b):=λid o b k h l hs=>by
  obtain⟨_,k2,k3⟩:=b8.own' id o b k h l
  exact hs.elim k2 λh=>k3 (.inl h)
 obtain⟨r1,r2⟩:=VP c9 (λb=>m.S b∨m.F b) (hget hB) m.n (rV _) (λb h=>.inl h) (λb h=>h.elim (t2.S_lt b) (t2.F_lt b)) (λb _ h=>h) (λid o h=>⟨o,h,rfl,rfl,λb k l=>ca id o b k h l,λ_=>rfl,λ_ h=>h⟩)
 let v3:Cx:={ m.view (lid::L) hB with F:=λ_=>False,S:=λb=>m.S b∨m.F b,H:=hget hB,n:=m.n }
 have r2:v3.ok:=r2
 let κ0:Nat→Prop:=λd=>∃id o k,id ∉ lid::L∧m.H id=some o∧m.atk id d k
 let S0:Nat→Prop:=λd=>x.S d∨x.F d
 let Z:σ→Ab:=λs1=>.lp s.n s.e s.N ps.toList asg bd (Ic (pd s1)) (pd s1)
 have b9:Z st0=lp:=by simp only[Z,av];rfl
 let W:Et:=UB P x lid (y.w.heap.size+1) Z pd F st0 Hf nf
 have cb:∀d,S0 d↔v3.S d:=λd=>by
  show x.S d∨x.F d↔(y.S d∨d=y.w.heap.size)∨y.F d
  rw[b7,c4]
 have aj:y.w.heap.size+1<x.w.heap.size∧¬ v3.S (y.w.heap.size+1)∧¬ v3.F (y.w.heap.size+1)∧∀id o k',v3.H id=some o→v3.atk id (y.w.heap.size+1) k'→False:=by
  have ba:∀d,m.S d∨m.F d→d<y.w.heap.size+1:=λd hd=>by
   have:d<q.w.heap.size:=hd.elim (q2.S_lt d) (q2.F_lt d)
   omega
  refine⟨by omega,λh=>by have:=ba _ h;omega,λh=>h,λid o k' h l=>?_⟩
  obtain⟨_,_,h3,_⟩:=a8.get h
  have:y.w.heap.size+1<q.w.heap.size:=(q2.own' (CA (lid::L) id) _ _ k' (show y.H _=_ by rw[hH];exact h3) l).1
  omega
 have bb:=dV (P:=P) (x:=x) (lid:=lid) (b:=y.w.heap.size+1) (g:=s.n) (N:=s.N) (e:=s.e) (ps:=ps.toList) (asg:=asg) (bd:=bd) (F:=F) (st0:=st0) (pd:=pd) (Hf:=Hf) (nf:=nf) (λd I h2=>ad.SF d h2 I) hg bu ar aa
 have cc:Vw x lid (y.w.heap.size+1) Z F st0 Hf nf [] x.w κ0:=by
  have a0:∀id o,hget ((lid,some lp)::Hf st0 U) id=some o→x.H id=some o:=λid o B=>by
   rw[BI] at B
   rw[ai,BI]
   split at B
   ·rename_i E;rw[rO E];exact B
   ·rename_i E;rw[rN E]
    rcases ao.get id with T | T
    ·rw[T] at B;cases B
    ·rw[← T];exact B
  obtain⟨f1,f2⟩:=LR ad (hget ((lid,some lp)::Hf st0 U)) a0 (nf U) (by rw[c3];exact bt)
  refine⟨{ x with H:=hget ((lid,some lp)::Hf st0 U),n:=nf U },st0,U,rfl,rfl,f2,f1,by rw[b9],rfl,b6,λid o d k B l=>?_,λd hd=>.inl (.inl hd)⟩
  by_cases E:id=lid
  ·subst E
   left
   rcases l with l | ⟨j,l⟩
   ·have l:x.β id=some (d,k):=l
    rw[b6] at l
    simp only[rY,rf] at l
    exact l.1.symm
   ·have l:x.K id j=some (d,k):=l
    rw[c6] at l;cases l
  ·right
   have hx:=a0 id o B
   have cd:y.H id=some o:=by rw[ai,BI,rN λe=>E e.symm] at hx;rw[hH];exact hx
   refine⟨id,o,k,λhm=>?_,cd,?_⟩
   ·have:=aq id hm
    have bc:hget (Hf st0 U) id=some o:=by have B:hget ((lid,some lp)::Hf st0 U) id=some o:=B;rwa [BI,rN λe=>E e.symm] at B
    rw[this] at bc;cases bc
   ·have I:=c5 id E
    rcases l with l | ⟨j,l⟩
    ·exact .inl (by have l:x.β id=some (d,k):=l;rwa [I.1] at l)
    ·exact .inr ⟨j,by have l:x.K id j=some (d,k):=l;rwa [I.2] at l⟩
 have be:∀d,κ0 d→d<y.w.heap.size+1∧¬ v3.S d∧¬ v3.F d∧∀id o k',v3.H id=some o→v3.atk id d k'→False:=λd ⟨id,o,k,T,e2,e3⟩=>by
  obtain⟨k1,k2,k3⟩:=q2.own' id o d k e2 e3
  have k1:d<q.w.heap.size:=k1
  refine⟨by omega,λh=>h.elim k2 k3,λh=>h,λid' o' k' h' cf=>?_⟩
  obtain⟨I,h2,h3,_⟩:=a8.get h'
  have:=q2.inj' (id:=id) (id':=CA (lid::L) id') e2 (show y.H _=_ by rw[hH];exact h3) e3 cf
  exact T (this ▸ Qt I h2)
 have hv:=r2.add 1000 (.cal s.n W []) (some (y.w.heap.size+1,1)) (λj=>if κ0 j then some (j,0) else none) (s.n+1) (by show y.n≤s.n;omega) (s8 _) rfl
  (λb k hb=>by
   simp only[rY,rf] at hb
   obtain⟨rfl,rfl⟩:=hb
   exact aj)
  (λj d k hb=>by
   split at hb
   ·rename_i hj
    simp only[rY,rf] at hb
    obtain⟨rfl,rfl⟩:=hb
    obtain⟨k1,k2,k3,k4⟩:=be j hj
    refine⟨⟨by show j<x.w.heap.size;omega,k2,k3,k4⟩,λk' J=>?_,λj' k' J=>?_⟩
    ·simp only[rY,rf] at J
     omega
    ·split at J
     ·simp only[rY,rf] at J
      exact J.1
     ·cases J
   ·cases hb)
  ⟨κ0,rfl,bb,cc,λd hd=>⟨d,0,rO hd⟩,λd hd=>(cb d).1 hd⟩
 obtain⟨v,M⟩:∃v:Cx,v=v3.add 1000 (.cal s.n W []) (some (y.w.heap.size+1,1)) (λj=>if κ0 j then some (j,0) else none) (s.n+1):=⟨_,rfl⟩
 rw[← M] at hv
 have cg:v.H=hget ((1000,some (.cal s.n W []))::hB):=by
  rw[M];funext i;rw[BI];rfl
 have ch:v.w=x.w:=by rw[M];rfl
 have ak:Fh v (.yld 1000 s.n::caps) (#[Value.func (.yield (y.w.heap.size+1)) #[] #[]]++us).toList:=by
  refine⟨by rw[GG] at az;simp[az],λi c u I h2=>?_⟩
  cases i with
  | zero=>
   simp only[List.getElem?_cons_zero,rY] at I
   have al:some (Value.func (.yield (y.w.heap.size+1)) #[] #[])=some u:=by simpa using h2
   cases al;subst I
   exact .yld (by rw[M];exact s8 _) rfl λo B _=>⟨y.w.heap.size+1,1,by rw[M];simp[Cx.add],rfl⟩
  | succ i=>
   have al:us[i]?=some u:=by simpa[Array.getElem?_append] using h2
   have bf:caps[i]?=some c:=by simpa using I
   have h3:=(c1 i (ren (lid::L) c) u (by rw[Gp,bf];rfl) al).mono c8
   have h4:AO (m.view (lid::L) hB) c u:=RN (x:=m) (y:=m.view (lid::L) hB) (L:=lid::L) (k:=(lid::L).length) rfl (λ_ h=>h) (rV _) (Q3 hH a8) h3 c rfl (Gl bq bf)
   have h5:AO v3 c u:=(h4.fence λ_=>False).mono r1
   rw[M]
   exact h5.add 1000 _ _ _ _ (by show y.n≤s.n;omega) (by show y.n≤s.n+1;omega) rfl
 have ab:∀(args:Array Value) (w:World),(callFunc f args).run P w=.ok (.enter f args) w:=λargs w=>by
  simp only[callFunc,Sem.run_bind,run_program,Result.andThen_ok,hf,ag,bz]
  simp[Sem.run_pure]
 refine⟨y.w.heap.size+1,[{ target:=.collected y.w.heap.size,args:=#[] }],x.w,{ target:=.fn (.func f) us,args:=#[.func (.yield (y.w.heap.size+1)) #[] #[]] },x.w,f,
  #[.func (.yield (y.w.heap.size+1)) #[] #[]]++us,x.w,?_,?_,λ_ _=>trivial,?_,λe=>(by cases e),?_⟩
 ·rw[A,hr];exact run_enterLoop_outer _ _ _ _ _
 ·simp only[resolve,ay,Deferred.ofValue]
  simp[Act.eval,go_sem]
 ·simp[invoke,ab]
 ·have bg:=(au W rfl rfl).2 v _ hv cg ak
  rw[ch] at bg
  have cj:CallsIn (zF none) (0-1) P f (#[.func (.yield (y.w.heap.size+1)) #[] #[]]++us) x.w _:=callsIn_wide.2 bg
  refine cj.mono λe w' ⟨u,v',rv,h',he',bh,cq,bi,bj,_,_,_,hp⟩=>?_
  subst he'
  subst bh
  obtain⟨ys,C,an,a1,hQ⟩:=af _ _ _ rfl hp
  obtain⟨_,κ',m1,m2,⟨z,st,i,k1,k2,k3,k4,k5,k6,k7,k8,k9⟩,m4,m5⟩:=bi.obj 1000 _ (by rw[bj];exact an)
  have cr:v'.β 1000=some (y.w.heap.size+1,1):=m1
  have bk:z.H lid=some (Z st):=by rw[k5,BI,rO rfl]
  obtain⟨_,b2,O,n1,n2,_,_,_,n6,n7,_⟩:=k3.obj lid _ bk
  rw[k7] at n1
  simp only[rY,rf,ud] at n1
  subst n1
  rw[k1] at a1
  cases a1
  rw[k2] at n2
  have bl:=run_endLoop (P:=P) n2 (by rw[n6];unfold Ic;split<;>exact λh=>by cases h)
  rw[← k2] at n2
  obtain⟨u1,u2⟩:=RL (st':=.exhausted) (pd':=O.pending) k3 bk k7 n2
  have ck:({ O with state:=.exhausted,pending:=O.pending } : Loop) = { O with state:=.exhausted }:=rfl
  rw[ck] at u1 u2
  obtain⟨f1,f2⟩:=LR u2 (hget (Hf C i)) (λid o B=>by
   show(if lid=id then _ else z.H id)=_
   by_cases E:lid=id
   ·subst E;rw[ae] at B;cases B
   ·rw[rN E,k5,BI,rN E];exact B) (nf i) (by show z.n≤nf i;rw[k6];exact rV _)
  have a2:=((c2.trans k4).trans u1).trans f1
  have a6:EM c0 ⟨s.e,Hf C i,nf i,s.N⟩ { a with defers:=[{ target:=.collected y.w.heap.size,args:=#[] }]++a.defers } (z.w.putObj (y.w.heap.size+1) (.loop { O with state:=.exhausted })):=by
   refine⟨{ target:=.collected y.w.heap.size,args:=#[] } :: ds,by rw[← aw];rfl,hsz,_,rfl,⟨V.le.trans a2,⟨um.2 ⟨λbm=>?_,V.marks.1.1⟩,λ_ j oj hj=>?_⟩,λd hd=>?_⟩,f2,rfl,rfl,he.mono a2⟩
   ·obtain⟨D,I,_,h3,_⟩:=V.marks.2 _ bm
    have:=ax.S_lt D h3
    simp only[Deferred.mk.injEq,Target.collected.injEq] at I
    omega
   ·cases bn:oj.isCal with
    | false=>rfl
    | true=>
     obtain⟨o1,T,_,e2,_⟩:=a2.H j oj hj (.inr bn)
     rw[hH] at T
     have:=Ym bs T
     rw[P3 e2,bn] at this
     cases this
   ·have bo:=(k4.trans u1).trans f1
    rcases sB.1 hd with rfl | hd
    ·exact⟨_,rfl,V.le.size,bo.S _ b5,(bo.blk _ (.inl b5)).trans c7⟩
    ·obtain⟨D,I,h2,h3,h4⟩:=V.marks.2 d hd
     exact⟨D,I,h2,a2.S D h3,(a2.blk D (.inl h3)).trans h4⟩
  rw[k2] at a6
  refine⟨O.pending,_,bl,?_⟩
  have a7:=hQ i
  rw[← n7] at a7
  split
  ·rename_i hp
   rw[hp] at a7
   exact⟨by simp,_,a7,a6⟩
  ·rename_i c hp
   rw[hp] at a7
   exact a7 none (.inl rfl) c0 _ _ a6
end
end Go.Proofs.YtifgmfoihehlbaaGreatDoor.Al

namespace Go.Proofs.YtifgmfoihehlbaaGreatDoor.Al
def m2{σ:Type}(f:Int→Int→Option σ):List RV→Option σ
 | [.int .i64 a,.int .i64 b]=>f a b
 | _=>none
theorem nv{σ:Type}{f:Int→Int→Option σ}{y:List RV}{r:σ}(h:m2 f y=some r):∃a b,y=[.int .i64 a,.int .i64 b]∧f a b=some r:=by
 unfold m2 at h
 split at h
 ·exact⟨_,_,rfl,h⟩
 ·cases h
def rng2{σ:Type}(it:(List (List RV)→Option Bool)→Option (List (List RV)))(F:σ→Int→Int→Option σ)(st0:σ):Option σ:=
 (it (Ig (λs=>m2 (F s)) st0)).bind λj=>EN (λs=>m2 (F s)) j st0
section
variable{P:Program}{s:St}
theorem Sb{c}{Q}(h:AW P c (λe s=>∃j,AZ s j∧Q e j) s):AW P c Q s:=
 λz l m a w q=>wpIn_mono (h z l m a w q) λ_ _ _ ⟨A,I,⟨B,C,E⟩,F⟩=>⟨A,B,E,C _ _ _ F⟩
def SI{σ:Type}(lid:Nat)(lp:Ab)(Hf:σ→(Nat→Nat)→Ag)(nf:(Nat→Nat)→Nat)(st':σ)(c:Bool)(h':Ag)(n':Nat):Prop:=
 c=true∧∃j,(∀id o,hget ((lid,some lp)::Hf st' j) id=some o→hget h' id=some o)∧n'≤nf j
theorem AW.rng2{σ:Type}{g:Operand}{ps:Array Tmp}{asg bd:Code}{Q:Exit→St→Prop}{f:FuncId}{caps:List AV}{L:List Nat}{hB:Ag}{it:(List (List RV)→Option Bool)→Option (List (List RV))}{F:σ→Int→Int→Option σ}{st0 w:σ}(lid:Nat)(Hf:σ→(Nat→Nat)→Ag)(nf:(Nat→Nat)→Nat)(i0:Nat→Nat)
  (hit:rng2 it F st0=some w)
  (a0:BP s.e g=.fn f (EI (lid::L) caps)) (a1:FK (L.length+1) caps=true) (a2:FV s.h (lid::L) hB) (a6:hget hB 1000=none) (a7:(lid::L).Nodup) (a8:JS s.h=true)
  (U:Jt (Hf st0 i0) s.h) (V:((lid::L).all λj=>(hget (Hf st0 i0) j).isNone)=true) (C:∀O i,hget (Hf O i) lid=none) (aa:s.n+1≤nf i0) (hg:∀i,s.n<nf i) (I:(ps.toList.length==2&&ps.toList.all λp=>Nat.blt p s.N)=true) (X:(B5 asg&&B5 bd)=true)
  (ab : ∃ fn, P.funcs[f]? = some fn ∧ fn.body.isNone = false ∧ (fn.name == "runtime.NumGoroutine") = false)
  (Z:∀(W:Et) T,W.P=P→it W.A=some T→∃Post,BC P f (L.length+1) (.yld 1000 s.n::caps) ((1000,some (.cal s.n W []))::hB) Post∧∀r q,Post r q→hget q 1000=some (.cal s.n W T))
  (l:∀(E:Am) (A B:Code),A=asg→B=bd→∀O a b m i,F O a b=some m→AW P asg (FN P lid s.n bd (SI lid (.lp s.n E s.N ps.toList A B .ready none) Hf nf m))
   ⟨JT ps.toList [.r (.int .i64 a),.r (.int .i64 b)] s.e,(lid,some (.lp s.n E s.N ps.toList A B .ready none))::Hf O i,nf i,s.N⟩)
  (J:∀i,Q .normal ⟨s.e,Hf w i,nf i,s.N⟩):AW P (.rangeFunc g ps asg bd) Q s:=by
 unfold Al.rng2 at hit
 rw[tv] at hit
 obtain⟨T,ac,M⟩:=hit
 simp only[rZ,beq_iff_eq] at I
 refine qw (Post:=λW r q=>W.A=Ig (λs=>m2 (F s)) st0→hget q 1000=some (.cal s.n W T)) lid (λ_=>none) (λs=>m2 (F s)) st0 Hf nf i0 a0 a1 a2 a6 a7 a8 U (λj hj=>by
   have:=ry.1 V j hj
   simpa using this) C aa hg I.2 X (λW hP (hA:W.A=Ig (λs=>m2 (F s)) st0)=>?_) rfl (λO y m i ad=>?_) ab (λW r q hA hp=>⟨T,w,hp hA,M,J⟩)
 ·obtain⟨Post,h1,h2⟩:=Z W T hP (by rw[hA];exact ac)
  refine⟨h1.1,λx vs ae hH ha=>(h1.2 x vs ae hH ha).mono λe w' ⟨u,y,r,q,k1,k2,k3,k4,k5,k6,k7,k8,k9⟩=>⟨u,y,r,q,k1,k2,k3,k4,k5,k6,k7,k8,λ_=>h2 r q k9⟩⟩
 ·obtain⟨a,b,rfl,hF⟩:=nv ad
  exact⟨rfl,by simp[I.1],l s.e asg bd rfl rfl O a b m i hF⟩
theorem VH{σ:Type}{lid g N:Nat}{E:Am}{ps:List Nat}{A B:Code}{Hf:σ→(Nat→Nat)→Ag}{nf:(Nat→Nat)→Nat}{t st':σ}(e:some t=some st')(m:Nat→Nat)(q:s.h=(lid,some (.lp g E N ps A B .busy none))::Hf t m)(w:s.n≤nf m) :
  Hn lid g (SI lid (.lp g E N ps A B .ready none) Hf nf st') .normal s:=by
 cases e
 refine⟨E,N,ps,A,B,by rw[q,BI,rO rfl],rfl,m,λid o j=>?_,w⟩
 rw[BI] at j ⊢
 split
 ·rename_i l;rw[rO l] at j;exact j
 ·rename_i l
  rw[rN l] at j
  rw[q,BI,rN l]
  exact j
theorem Zj{id g}{bd}{C}{e0}{N}{ps}{asg j}(l:hget s.h id=some (.lp g e0 N ps asg j .ready none))(hw:AW P bd (Hn id g C) ⟨s.e,(id,some (.lp g e0 N ps asg j .busy none))::s.h,s.n,s.N⟩):FN P id g bd C .normal s:=
 ⟨e0,N,ps,asg,j,l,hw⟩
end
section
variable{P:Program}{ops:Array Oper}{rest:List Oper}{s:St}{K:St→Prop}{o:Oper}
theorem B1.step{d}{v}{h'}{n'}(hg:o.guard=none)(hd:o.dst=some d)(j:Nat.blt d s.N=true)(l:BQ P true o s.e s.h s.n v h' n')
 (m:B1 P ops rest { e := (d, v)::s.e, h := h', n := n', N := s.N } K):B1 P ops (o::rest) s K :=
  B1.cons (AX.step (K := λt => t = { e := (d, v)::s.e, h := h', n := n', N := s.N }) hg hd j l (AX.nil rfl)) λq e => e ▸ m
end
open Go.ChangeMaps (setBlock)
open Go.MapKept Go.RowKit
def AU{α:Type} : List (Int × α)→Int→Option α
 | [],_=>none
 | p::r,k=>if k=p.1 then some p.2 else AU r k
def An{α:Type} : List (Int × α)→Int→α→List (Int × α)
 | [],k,v=>[(k,v)]
 | p::r,k,v=>if k=p.1 then(k,v)::r else p::An r k v
def AN{α β:Type}(rd:α→β)(m:List (Int × α)):List (Int × β):=m.map λp=>(p.1,rd p.2)
theorem KU{α β:Type}(rd:α→β) m k:AU (AN rd m) k=(AU m k).map rd:=by
 induction m with
 | nil=>rfl
 | cons p r j=>
  show(if k=p.1 then some (rd p.2) else AU (AN rd r) k)=(if k=p.1 then some p.2 else AU r k).map rd
  split
  ·rfl
  ·exact j
theorem RW{α β:Type}(rd:α→β) m k(v:α):An (AN rd m) k (rd v)=AN rd (An m k v):=by
 induction m with
 | nil=>rfl
 | cons p r j=>
  show(if k=p.1 then(k,rd v)::AN rd r else(p.1,rd p.2)::An (AN rd r) k (rd v))=AN rd (if k=p.1 then(k,v)::r else p::An r k v)
  split
  ·rfl
  ·rw[j];rfl
theorem Ew{α:Type}{l:List (Int × α)}{k:Int}(h:Ah l k=none):AU l k=none∧∀v,An l k v=l++[(k,v)]:=by
 induction l with
 | nil=>exact⟨rfl,λ_=>rfl⟩
 | cons p r q=>
  unfold Ah at h
  split at h
  ·cases h
  ·rename_i m
   have w:Ah r k=none:=by cases A:Ah r k with | none=>rfl | some j=>rw[A] at h;cases h
   obtain⟨B,C⟩:=q w
   exact⟨by unfold AU;rw[rN m,B],λv=>by unfold An;rw[rN m,C];rfl⟩
theorem Df{α:Type}{l:List (Int × α)}{k}{j}(h:Ah l k=some j):∃v,l[j]?=some (k,v)∧AU l k=some v∧∀w,An l k w=l.set j (k,w):=by
 induction l generalizing j with
 | nil=>cases h
 | cons p r q=>
  unfold Ah at h
  split at h
  ·rename_i m
   cases h
   subst m
   exact⟨p.2,rfl,by unfold AU;rw[rO rfl],λw=>by unfold An;rw[rO rfl];rfl⟩
  ·rename_i m
   rw[rg] at h
   obtain⟨F,A,rfl⟩:=h
   obtain⟨v,B,C,E⟩:=q A
   exact⟨v,B,by unfold AU;rw[rN m,C],λw=>by unfold An;rw[rN m,E];rfl⟩
theorem Wb{α:Type}{l:List (Int × α)}{k}{j}(h:Ah l k=some j):j<l.length:=by
 obtain⟨v,m,_⟩:=Df h
 exact(rW.1 m).1
theorem TX{α β:Type}(f:Int × α→Int × β)(j:∀p,(f p).1=p.1)(m:List (Int × α))(k:Int):Ah (m.map f) k=Ah m k:=by
 induction m with
 | nil=>rfl
 | cons p r l=>
  show(if k=(f p).1 then some 0 else(Ah (r.map f) k).map (· + 1))=(if k=p.1 then some 0 else(Ah r k).map (· + 1))
  rw[j,l]
def Fk{α:Type}(l:List (Int × α))(q:List MapEntry):Prop:=q.length=l.length∧∀(j:Nat) (k:Int) (d:α),l[j]?=some (k,d)→∃m,q[j]?=some m∧m.key=.int .i64 k∧m.born=j
theorem WT{α:Type} k:∀(l:List (Int × α)) (w:List MapEntry) (i:Nat),w.length=l.length→(∀(j:Nat) (A:Int) (d:α),l[j]?=some (A,d)→∃m,w[j]?=some m∧m.key=.int .i64 A) →
  Instr.findNow (.int .i64) (.int .i64 k) w i=some ((Ah l k).map λj=>(i+j,((w[j]?).map (·.val)).getD undef))
 | [],[],i,_,_=>rfl
 | [],_::_,i,h,_=>by simp at h
 | _::_,[],i,h,_=>by simp at h
 | p::l,e::w,i,h,B=>by
  obtain⟨m,C,E⟩:=B 0 p.1 p.2 rfl
  cases C
  have F:=WT k l w (i+1) (by simpa using h) λj A d I=>B (j+1) A d I
  simp only[Instr.findNow,E,Instr.sameNow,uQ,Ah]
  by_cases q:k=p.1
  ·rw[rO q,show(k==p.1)=true by simpa using q];simp
  ·rw[rN q,show(k==p.1)=false by simpa using q]
   simp only[F]
   cases Ah l k with
   | none=>rfl
   | some j=>simp[tw,Nat.add_comm 1 j]
theorem Fk.find{α:Type}{l:List (Int × α)}{q:List MapEntry}(h:Fk l q)(k:Int):Instr.findNow (.int .i64) (.int .i64 k) q.toArray.toList 0=some ((Ah l k).map λj=>(j,((q[j]?).map (·.val)).getD undef)):=by
 have:=WT k l q 0 h.1 λj w d A=>by obtain⟨m,B,C,_⟩:=h.2 j w d A;exact⟨m,B,C⟩
 simpa using this
section
variable{P:Program}
theorem MN{α:Type}{l:List (Int × α)}{m:List MapEntry}(q:Fk l m){t B C:TypeId}(F:P.underlying t=some (.map B C))(E:P.underlying B=some (.int .i64)){w:World}{b clock:Nat}
  (I:w.heap[b]?=some (.map m.toArray clock)) (k:Int) (A:Value) (J:(zeroValue C).run P w=.ok A w) (ok:Bool) :
  (Instr.lookup t (.map (some b)) (.int .i64 k) ok).run P w=.ok (match Ah l k with
   | some j=>if ok then .tuple #[((m[j]?).map (·.val)).getD undef,.bool true] else((m[j]?).map (·.val)).getD undef
   | none=>if ok then .tuple #[A,.bool false] else A) w:=by
 have M:=run_findKey (P:=P) (w:=w) E (q.find k)
 unfold Instr.lookup
 simp only[Sem.run_bind,run_underlying F,Result.andThen_ok,MapKept.run_getObj_map I,Sem.run_pure,run_checkKey E (k:=.int .i64 k) (by simp[IsKey]),M]
 cases Ah l k with
 | none=>cases ok<;>simp[J]
 | some j=>cases ok<;>simp
def En(l:List MapEntry)(k:Int)(j:Option Nat)(y:Value):List MapEntry:=match j with
 | none=>l++[{ key:=.int .i64 k,val:=y,born:=l.length }]
 | some j=>l.modify j λe=>{ e with key:=.int .i64 k,val:=y }
theorem Q9{α:Type}{l:List (Int × α)}{A:List MapEntry}(q:Fk l A){t C F:TypeId}(I:P.underlying t=some (.map C F))(E:P.underlying C=some (.int .i64)){w:World}{b:Nat}
  (B:w.heap[b]?=some (.map A.toArray l.length)) (k:Int) (y:Value) :
  (Instr.mapUpdate t (.map (some b)) (.int .i64 k) y).run P w=.ok () { w with heap:=w.heap.setIfInBounds b (.map (En A k (Ah l k) y).toArray (En A k (Ah l k) y).length) }:=by
 have J:=run_findKey (P:=P) (w:=w) E (q.find k)
 unfold Instr.mapUpdate
 simp only[Sem.run_bind,run_underlying I,Result.andThen_ok,MapKept.run_getObj_map B,run_checkKey E (k:=.int .i64 k) (by simp[IsKey]),J]
 cases M:Ah l k with
 | none=>
  simp only[uL]
  rw[run_setObj_map _ B]
  simp[En,q.1]
 | some j=>
  obtain⟨v,O,_⟩:=Df M
  obtain⟨m,T,U,X⟩:=q.2 j k v O
  have V:A.toArray[j]?=some m:=by simpa using T
  simp only[sY,V,sf,U]
  simp[Instr.keyThatStays,Instr.sameBits]
  rw[run_setObj_map _ B]
  simp[En,q.1]
theorem Yh{α:Type}{l:List (Int × α)}{A:List MapEntry}(q:Fk l A)(k:Int)(y:Value)(v:α):Fk (An l k v) (En A k (Ah l k) y)∧(En A k (Ah l k) y).length=(An l k v).length ∧
  ∀(j:Nat) (w:Int) (d:α),(An l k v)[j]?=some (w,d)→∃m,(En A k (Ah l k) y)[j]?=some m∧m.key=.int .i64 w∧m.born=j ∧
   ((Ah l k=some j∨(Ah l k=none∧j=l.length))∧w=k∧d=v∧m.val=y∨Ah l k≠some j∧j<l.length∧l[j]?=some (w,d)∧A[j]?=some m):=by
 have key:(En A k (Ah l k) y).length=(An l k v).length ∧
  ∀(j:Nat) (w:Int) (d:α),(An l k v)[j]?=some (w,d)→∃m,(En A k (Ah l k) y)[j]?=some m∧m.key=.int .i64 w∧m.born=j ∧
   ((Ah l k=some j∨(Ah l k=none∧j=l.length))∧w=k∧d=v∧m.val=y∨Ah l k≠some j∧j<l.length∧l[j]?=some (w,d)∧A[j]?=some m):=by
  cases O:Ah l k with
  | none=>
   rw[(Ew O).2]
   refine⟨by simp[En,q.1],λj w d h=>?_⟩
   by_cases C:j<l.length
   ·rw[rm C] at h
    obtain⟨m,E,T,F⟩:=q.2 j w d h
    exact⟨m,by show(A++_)[j]?=_;rw[rm (by rw[q.1];exact C)];exact E,T,F,.inr ⟨(by simp),C,h,E⟩⟩
   ·have U:j=l.length:=by have:=(rW.1 h).1;simp at this;omega
    subst U
    rw[rl (rV _)] at h
    simp at h
    obtain⟨rfl,rfl⟩:=h
    exact⟨_,by show(A++_)[l.length]?=_;rw[← q.1,rl (rV _)];simp;rfl,rfl,q.1,.inl ⟨.inr ⟨rfl,rfl⟩,rfl,rfl,rfl⟩⟩
  | some I=>
   obtain⟨v0,E,_,F⟩:=Df O
   rw[F]
   have J:=Wb O
   refine⟨by simp[En,q.1],λj w d h=>?_⟩
   by_cases B:I=j
   ·subst B
    rw[tU J] at h
    cases h
    obtain⟨m,M,X,V⟩:=q.2 I k v0 E
    exact⟨{ m with key:=.int .i64 k,val:=y },by show(A.modify I _)[I]?=_;rw[List.getElem?_modify_eq,M];rfl,rfl,V,.inl ⟨.inl rfl,rfl,rfl,rfl⟩⟩
   ·rw[tb B] at h
    obtain⟨m,M,X,V⟩:=q.2 j w d h
    exact⟨m,by show(A.modify I _)[j]?=_;rw[List.getElem?_modify_ne (h:=B)];exact M,X,V,.inr ⟨(λe=>B (rx e)),(rW.1 h).1,h,M⟩⟩
 exact⟨⟨key.1,λj w d h=>by obtain⟨m,E,T,F,_⟩:=key.2 j w d h;exact⟨m,E,T,F⟩⟩,key⟩
variable{c:Bool}{o:Oper}{R:Am}{h:Ag}{n:Nat}
theorem Vv{x:Cx}(A:x.ok){id g}{l:List (Int × RV)}{v}(F:x.H id=some (.md g l))(B:AO x (.mref id g) v) :
  ∃(b:Nat) (q:List MapEntry),x.β id=some (b,1)∧v=.map (some b)∧Fk l q∧x.w.heap[b]?=some (.map q.toArray l.length)∧∀(j:Nat) (k:Int) (d:RV) (m:MapEntry),l[j]?=some (k,d)→q[j]?=some m→A5 x.w x.S d m.val:=by
 obtain⟨_,b,q,I,M,O,J⟩:=A.obj _ _ F
 cases B with
 | mref _ _ B=>
  obtain⟨b',cap,C,T⟩:=B _ F rfl
  rw[I] at C
  simp only[rY,rf] at C
  obtain⟨rfl,rfl⟩:=C
  exact⟨b,q,I,T,⟨O,λj k d E=>by obtain⟨m,w,U,V,_⟩:=J j k d E;exact⟨m,w,U,V⟩⟩,M,λj k d m E X=>by
   obtain⟨m',w,_,_,Z⟩:=J j k d E
   rw[X] at w;cases w;exact Z⟩
theorem l9{t} id(B:o.op=.makeMap t none):BQ P c o R h n (.mref id n) ((id,some (.md n []))::h) (n+1):=by
 intro M z w m C q O K Q E
 have l:=Dj m id (.md z.n []) (z.w.alloc (.map #[] 0)) (some (z.w.heap.size,1)) (z.n+1) (by simp) rfl rfl rfl
  (λb A _=>heap_alloc_old _ _ A) (λb k A=>by cases A;simp) (by omega) (by simp[Ab.gen]) (λhg=>absurd hg (by simp[Ab.gen]))
  (λF=>⟨z.w.heap.size,[],rfl,heap_alloc_new _ _,rfl,λj k d I=>by simp at I⟩)
 unfold Oper.wp execOp
 rw[B]
 simp only[uL,Sem.run_bind,run_makeMap,Result.andThen_ok,Sem.run_pure]
 refine E (.map (some z.w.heap.size)) _ l.1 l.2 (by simp only[C,q];exact Co _ _ _) (by simp[q]) (.mref (by simp[q]) rfl λT J _=>?_)
 exact⟨z.w.heap.size,1,by simp,rfl⟩
theorem NQ{α:Type}{rd:α→RV}{t X Z:TypeId}{x i:Operand}{id g:Nat}{m:List (Int × α)}{k:Int}(ok:Bool)(F:Value)(z:α)(ho:o.op=.lookup t x i ok)(ht:P.underlying t=some (.map X Z))
  (hk:P.underlying X=some (.int .i64)) (hz:∀w,(zeroValue Z).run P w=.ok F w) (I:∀w S,A5 w S (rd z) F) (hx:Ev c R x (.mref id g)) (hi:Ev c R i (.r (.int .i64 k))) (hh:hget h id=some (.md g (AN rd m))) :
  AY P c o R h (match ok with | true=>.tup [.r (rd ((AU m k).getD z)),.r (.bool (AU m k).isSome)] | false=>.r (rd ((AU m k).getD z))):=by
 intro hc y w T hH he
 obtain⟨b,es,h1,h2,U,h4,h5⟩:=Vv T (by rw[hH];exact hh) (hx.rep he hc)
 have C:=hi.rep he hc
 generalize J:w.eval i=iv at C
 cases C with
 | r C=>
  cases C with
  | int=>
   have M:∀E:World,Dc y E→E.heap[b]?=some (.map es.toArray (AN rd m).length):=λE B=>by rw[B b (.inr ⟨id,_,1,by rw[hH];exact hh,.inl h1⟩)];exact h4
   cases O:Ah (AN rd m) k with
   | none=>
    have hg:AU m k=none:=by
     have:=(Ew O).1
     rw[KU] at this
     simpa using this
    rw[hg]
    refine⟨match ok with | true=>.tuple #[F,.bool false] | false=>F,λE B=>?_,?_⟩
    ·simp only[execOp,ho,h2,J,Sem.run_bind,MN U ht hk (M E B) k F (hz E) ok,O,Result.andThen_ok,Sem.run_pure]
     cases ok<;>simp
    ·cases ok
     ·exact .r (I _ _)
     ·refine .tup rfl λq a' u' l A=>?_
      rcases q with _ | _ | q
      ·simp at l A;subst l;subst A;exact .r (I _ _)
      ·simp at l A;subst l;subst A;exact .r (.bool _)
      ·simp at l
   | some j=>
    obtain⟨v,l,A,_⟩:=Df O
    obtain⟨V,e3,_⟩:=U.2 j k v l
    have hr:=h5 j k v V l e3
    have hg:∃a,AU m k=some a∧rd a=v:=by
     rw[KU] at A
     rw[rg] at A
     exact A
    obtain⟨a,hg,rfl⟩:=hg
    rw[hg]
    refine⟨match ok with | true=>.tuple #[V.val,.bool true] | false=>V.val,λE B=>?_,?_⟩
    ·simp only[execOp,ho,h2,J,Sem.run_bind,MN U ht hk (M E B) k F (hz E) ok,O,e3,Result.andThen_ok,Sem.run_pure]
     cases ok<;>simp
    ·cases ok
     ·exact .r hr
     ·refine .tup rfl λq a' u' l A=>?_
      rcases q with _ | _ | q
      ·simp at l A;subst l;subst A;exact .r hr
      ·simp at l A;subst l;subst A;exact .r (.bool _)
      ·simp at l
theorem Nk{α:Type}{rd:α→RV}{t kt et:TypeId}{x i y:Operand}{id g:Nat}{m:List (Int × α)}{k:Int}{a:α}(J:o.op=.mapUpdate t x i y∨o.op=.insert t x i y)(ht:P.underlying t=some (.map kt et))(hk:P.underlying kt=some (.int .i64))
  (hx:Ev c R x (.mref id g)) (hi:Ev c R i (.r (.int .i64 k))) (hy:Ev c R y (.r (rd a))) (hh:hget h id=some (.md g (AN rd m))) :
  BQ P c o R h n .any ((id,some (.md g (AN rd (An m k a))))::h) n:=by
 intro O z w q hH hn T K Q hK
 have l:z.H id=some (.md g (AN rd m)):=by rw[hH];exact hh
 obtain⟨b,U,M,h2,h3,h4,h5⟩:=Vv q l (hx.rep T O)
 have C:=hy.rep T O
 have A:=hi.rep T O
 generalize V:w.eval i=iv at A
 cases A with
 | r A=>
  cases A with
  | int=>
   cases C with
   | r C=>
   have E:=(q.own id _ b 1 l M).1
   obtain⟨q1,X,q3⟩:=Yh h3 k (w.eval y) (rd a)
   rw[RW] at q1 X q3
   have F:=Dj q id (.md g (AN rd (An m k a))) { z.w with heap:=z.w.heap.setIfInBounds b (.map (En U k (Ah (AN rd m) k) (w.eval y)).toArray (En U k (Ah (AN rd m) k) (w.eval y)).length) } (some (b,1)) z.n (by simp) rfl rfl rfl
    (λb' _ Z=>by
     have:b≠b':=λe=>Z _ 1 l (by rw[← e];exact M)
     simp[this])
    (λb' k' a0=>by cases a0;exact⟨by simpa using E,.inr ⟨_,_,l,M⟩⟩) (rV _) (q.obj _ _ l).1 (λ_=>⟨_,l,rfl,rfl,M.symm⟩)
    (λB=>⟨b,En U k (Ah (AN rd m) k) (w.eval y),rfl,by simp[E,X],X,λj k' d hj=>by
     obtain⟨mm,e1,e2,e3,e4⟩:=q3 j k' d hj
     refine⟨mm,e1,e2,e3,?_⟩
     rcases e4 with ⟨_,rfl,rfl,e⟩ | ⟨_,_,f1,f2⟩
     ·rw[e];exact C.mono (λb E=>B.blk b (.inl E)) B.S
     ·exact(h5 j k' d mm f1 f2).mono (λb E=>B.blk b (.inl E)) B.S⟩)
   have I:=Q9 h3 ht hk h4 k (w.eval y)
   unfold Oper.wp execOp
   rcases J with J | J<;>
   ·rw[J]
    simp only[h2,V,Sem.run_bind,I,Result.andThen_ok,Sem.run_pure]
    exact hK undef _ F.1 F.2 (by simp only[hH];exact Co _ _ _) hn (.any _)
end
end Go.Proofs.YtifgmfoihehlbaaGreatDoor.Al

namespace Go.Proofs.YtifgmfoihehlbaaGreatDoor.Al
open Go.ChangeMaps (setBlock)
open Go.MapKept Go.RowKit
def Cx.tk(x:Cx)(id id':Nat)(o:Ab)(w':World)(j:Option (Nat × Nat))(l:Nat→Option (Nat × Nat))(n':Nat):Cx:=
 { x with w:=w',H:=λi=>if id=i then some o else if id'=i then none else x.H i,β:=λi=>if id=i then j else x.β i,K:=λi=>if id=i then l else x.K i,n:=n' }
theorem HM{x:Cx}{id id'}{o}{w'}{j}{l}{n' i}{q}(h:(x.tk id id' o w' j l n').H i=some q) :
  (id=i∧q=o∧(x.tk id id' o w' j l n').β i=j∧(x.tk id id' o w' j l n').K i=l)∨(i≠id∧i≠id'∧x.H i=some q∧(x.tk id id' o w' j l n').β i=x.β i∧(x.tk id id' o w' j l n').K i=x.K i):=by
 unfold Cx.tk at h ⊢
 dsimp only at h ⊢
 by_cases m:id=i
 ·rw[rO m] at h ⊢
  cases h
  exact .inl ⟨m,rfl,rfl,by rw[rO m]⟩
 ·rw[rN m] at h ⊢
  split at h
  ·cases h
  ·rename_i w
   exact .inr ⟨λe=>m e.symm,λe=>w e.symm,h,rfl,by rw[rN m]⟩
theorem qy{x:Cx}(q:x.ok) id id'(o:Ab)(w':World) β' κ' n' 
 (F:x.w.heap.size≤w'.heap.size) (ac:w'.os=x.w.os) (a2:w'.tape=x.w.tape) (a6:w'.output=x.w.output)
 (a7:∀b, b<x.w.heap.size→(∀i o0, i=id∨i=id'→x.H i=some o0→x.at i b→False)→w'.heap[b]?=x.w.heap[b]?)
 (hβ:∀b k, β'=some (b, k)→b<w'.heap.size∧(x.w.heap.size≤b∨∃i o0, (i=id∨i=id')∧x.H i=some o0∧x.at i b))
 (hκ:∀j b k, κ' j=some (b, k)→(b<w'.heap.size∧(x.w.heap.size≤b∨∃i o0, (i=id∨i=id')∧x.H i=some o0∧x.at i b))∧(∀k', β'=some (b, k')→False)∧∀j' k', κ' j'=some (b, k')→j'=j)
 (hn:x.n≤n') (a8:o.gen<n') (aa:o.gen<x.n∨o.isCal=true→∃o0, x.H id=some o0∧o0.gen=o.gen∧o0.shape=o.shape∧β'=x.β id)
 (ad:o.isFam=true→o.gen<x.n→o.ver<x.n→∃o0, x.H id=some o0∧o0.isFam=true∧o0.gen=o.gen∧o0.ver=o.ver∧o0.kshape=o.kshape∧κ'=x.K id)
 (ab:x.le (x.tk id id' o w' β' κ' n')→Cb (x.tk id id' o w' β' κ' n') β' κ' o) :
    x.le (x.tk id id' o w' β' κ' n')∧(x.tk id id' o w' β' κ' n').ok := by
  have A:∀b, (x.w.heap.size≤b∨∃i o0, (i=id∨i=id')∧x.H i=some o0∧x.at i b)→(¬ x.S b∧¬ x.F b)∧∀i J, i≠id→i≠id'→x.H i=some J→x.at i b→False := by
    intro b w
    rcases w with w | ⟨i0, o0, h0, B, C⟩
    · exact⟨⟨λh => by have := q.S_lt b h;omega, λh => by have := q.F_lt b h;omega⟩, λi J _ _ hi ha => by have := (q.at_lt hi ha).1;omega⟩
    · exact⟨(q.at_lt B C).2, λi J E m hi ha => by
        have := q.at_inj hi B ha C
        subst this
        exact h0.elim E m⟩
  have a1:x.le (x.tk id id' o w' β' κ' n') := by
    refine⟨F, ac, a2, a6, λb w => ?_, λ_ h => h, rfl, hn, λi J M hg => ?_, λi J M hf hg hv => ?_⟩
    · refine a7 b (w.elim (q.S_lt b) (q.F_lt b)) λi o0 _ B C => ?_
      have := q.at_lt B C
      exact w.elim this.2.1 this.2.2
    · rcases HM M with ⟨rfl, rfl, B, C⟩ | ⟨_, _, B, C, h3⟩
      · obtain⟨o0, V, X, e3, e4⟩ := aa hg
        exact⟨o0, V, X, e3, by rw[B];exact e4⟩
      · exact⟨J, B, rfl, rfl, C⟩
    · rcases HM M with ⟨rfl, rfl, B, C⟩ | ⟨_, _, B, C, h3⟩
      · obtain⟨o0, V, e0, X, e3, e4, e5⟩ := ad hf hg hv
        exact⟨o0, V, e0, X, e3, e4, by rw[C];exact e5⟩
      · exact⟨J, B, hf, rfl, rfl, rfl, h3⟩
  have a0:∀i J, i≠id→i≠id'→x.H i=some J→∀b, x.at i b→w'.heap[b]?=x.w.heap[b]? := by
    intro i J E m hi b w
    refine a7 b (q.at_lt hi w).1 λi0 o0 h0 B C => ?_
    have := q.at_inj hi B w C
    subst this
    exact h0.elim E m
  refine⟨a1, λb w => rX (q.S_lt b w) F, λb w => rX (q.F_lt b w) F, q.SF, λi J M => ?_, λi J b k M w => ?_, λi i' o1 o2 b k k' B C w l => ?_, λi J j b c M w => ?_, q.tabs.le a1⟩
  · rcases HM M with ⟨rfl, rfl, B, C⟩ | ⟨E, m, B, C, h3⟩
    · rw[B, C];exact⟨a8, ab a1⟩
    · rw[C, h3]
      obtain⟨V, X⟩ := q.obj i J B
      exact⟨rX V hn, X.mono a1 (λb k w => a0 i J E m B b (.inl ⟨k, w⟩)) λj b k w => a0 i J E m B b (.inr ⟨j, k, w⟩)⟩
  · rcases HM M with ⟨rfl, rfl, B, C⟩ | ⟨E, m, B, C, h3⟩
    · rw[B] at w
      obtain⟨V, X⟩ := hβ b k w
      exact⟨V, (A b X).1⟩
    · rw[C] at w
      have := q.own i J b k B w
      exact⟨rX this.1 F, this.2⟩
  · rcases HM B with ⟨rfl, rfl, V, X⟩ | ⟨E, m, e0, V, X⟩<;>rcases HM C with ⟨rfl, rfl, O, Z⟩ | ⟨T, I, f0, O, Z⟩
    · rfl
    · rw[V] at w;rw[O] at l
      exact((A b (hβ b k w).2).2 i' o2 T I f0 (.inl ⟨k', l⟩)).elim
    · rw[V] at w;rw[O] at l
      exact((A b (hβ b k' l).2).2 i o1 E m e0 (.inl ⟨k, w⟩)).elim
    · rw[V] at w;rw[O] at l
      exact q.inj i i' o1 o2 b k k' e0 f0 w l
  · rcases HM M with ⟨rfl, rfl, V, X⟩ | ⟨E, m, e0, V, X⟩
    · rw[X] at w
      obtain⟨⟨B, C⟩, h3, h4⟩ := hκ j b c w
      refine⟨B, (A b C).1.1, (A b C).1.2, λi' o2 k U l => ?_, λi' o2 j' c' U l => ?_⟩
      · rcases HM U with ⟨rfl, rfl, O, Z⟩ | ⟨T, I, f0, O, Z⟩
        · rw[O] at l;exact h3 k l
        · rw[O] at l
          exact(A b C).2 i' o2 T I f0 (.inl ⟨k, l⟩)
      · rcases HM U with ⟨rfl, rfl, O, Z⟩ | ⟨T, I, f0, O, Z⟩
        · rw[Z] at l;exact⟨rfl, h4 j' c' l⟩
        · rw[Z] at l
          exact((A b C).2 i' o2 T I f0 (.inr ⟨j', c', l⟩)).elim
    · rw[X] at w
      obtain⟨B, C, h3, h4, h5⟩ := q.ext i J j b c e0 w
      refine⟨rX B F, C, h3, λi' o2 k U l => ?_, λi' o2 j' c' U l => ?_⟩
      · rcases HM U with ⟨rfl, rfl, O, Z⟩ | ⟨T, I, f0, O, Z⟩
        · rw[O] at l
          exact(A b (hβ b k l).2).2 i J E m e0 (.inr ⟨j, c, w⟩)
        · rw[O] at l
          exact h4 i' o2 k f0 l
      · rcases HM U with ⟨rfl, rfl, O, Z⟩ | ⟨T, I, f0, O, Z⟩
        · rw[Z] at l
          exact((A b (hκ j' b c' l).1.2).2 i J E m e0 (.inr ⟨j, c, w⟩)).elim
        · rw[Z] at l
          exact h5 i' o2 j' c' f0 l
theorem dv id id' ob h:(λi=>if id=i then some ob else if id'=i then none else hget h i)=hget ((id,some ob)::(id',none)::h):=by
 funext i
 rw[BI,BI]
end Go.Proofs.YtifgmfoihehlbaaGreatDoor.Al

namespace Go.Proofs.YtifgmfoihehlbaaGreatDoor.Al
open Go.ChangeMaps (setBlock)
open Go.MapKept Go.RowKit
def Av{α:Type}(l:List (Int × α))(k:Int):Nat:=(Ah l k).getD l.length
theorem UG{α β:Type}(rd:α→β)(m:List (Int × α))(j:Nat):(AN rd m)[j]?=(m[j]?).map λp=>(p.1,rd p.2):=by simp[AN]
theorem RY{α β:Type}(rd:α→β)(m:List (Int × α)):(AN rd m).length=m.length:=by simp[AN]
theorem Lc{α β:Type}(rd:α→β) m k:Ah (AN rd m) k=Ah m k:=TX (λp=>(p.1,rd p.2)) (λ_=>rfl) m k
theorem SG{α β:Type}(rd:α→β) m k:Av (AN rd m) k=Av m k:=by unfold Av;rw[Lc,RY]
theorem KL{α:Type}{m:List (Int × α)}{k:Int}{v:α}(h:AU m k=some v):Ah m k=some (Av m k)∧m[Av m k]?=some (k,v):=by
 cases l:Ah m k with
 | none=>rw[(Ew l).1] at h;cases h
 | some j=>
  obtain⟨w,A,q,_⟩:=Df l
  rw[h] at q;cases q
  unfold Av
  rw[l]
  exact⟨rfl,A⟩
theorem V2{α:Type}{m:List (Int × α)}{k:Int}{v w:α}(h:AU m k=some v)(q:Int):Ah (An m k w) q=Ah m q:=by
 induction m with
 | nil=>cases h
 | cons p r l=>
  unfold AU at h
  unfold An
  split at h
  ·rename_i j
   rw[rO j]
   subst j
   rfl
  ·rename_i j
   rw[rN j]
   show(if q=p.1 then some 0 else(Ah (An r k w) q).map (· + 1))=(if q=p.1 then some 0 else(Ah r q).map (· + 1))
   rw[l h]
theorem Xq{α:Type}{m:List (Int × α)}{k:Int}{v w:α}(h:AU m k=some v):(An m k w).length=m.length:=by
 obtain⟨j,_⟩:=KL h
 obtain⟨_,_,_,l⟩:=Df j
 rw[l,th]
theorem Hc{α:Type}{m:List (Int × α)}{k:Int}{v w:α}(h:AU m k=some v)(q:Int):Av (An m k w) q=Av m q:=by
 unfold Av;rw[V2 h,Xq h]
section
variable{P:Program}{c:Bool}{o:Oper}{R:Am}{h:Ag}{n:Nat}
theorem X1{x:Cx}(C:x.ok){id g J}{e}{l:List (Int × List RV)}{v}(M:x.H id=some (.mb g J e l))(E:AO x (.mref id g) v) :
  ∃(b:Nat) (w:List MapEntry),x.β id=some (b,1)∧v=.map (some b)∧Fk l w∧x.w.heap[b]?=some (.map w.toArray l.length)∧J<x.n∧∀(j:Nat) (k:Int) (cs:List RV) (m:MapEntry),l[j]?=some (k,cs)→w[j]?=some m →
   ∃A q,x.K id j=some (A,1)∧m.val=.pointer (some ⟨A,0,none⟩)∧x.w.heap[A]?=some (.cells q e (0,0))∧q.size=cs.length∧∀(i:Nat) (c:RV),cs[i]?=some c→∃u:Value,q[i]?=some u∧u.oneCell'=true∧A5 x.w x.S c u:=by
 obtain⟨_,U,b,w,O,V,X,T⟩:=C.obj _ _ M
 cases E with
 | mref _ _ E=>
  obtain⟨b',cap,F,Z⟩:=E _ M rfl
  rw[O] at F
  simp only[rY,rf] at F
  obtain⟨rfl,rfl⟩:=F
  exact⟨b,w,O,Z,⟨X,λj k d I=>by obtain⟨m,_,_,B,e2,e3,_⟩:=T j k d I;exact⟨m,B,e2,e3⟩⟩,V,U,λj k d m I hm=>by
   obtain⟨m',A,q,B,_,_,e4⟩:=T j k d I
   rw[hm] at B;cases B;exact⟨A,q,e4⟩⟩
theorem aQ{t} id e(B:o.op=.makeMap t none):BQ P c o R h n (.mref id n) ((id,some (.mb n n e []))::h) (n+1):=by
 intro M z w q C A O K Q E
 have l:=J7 q id (.mb z.n z.n e []) (z.w.alloc (.map #[] 0)) (some (z.w.heap.size,1)) (λ_=>none) (z.n+1) (by simp) rfl rfl rfl
  (λb m _=>heap_alloc_old _ _ m) (λb k m=>by cases m;simp) (λj b k m=>by cases m) (by omega) (by simp[Ab.gen]) (λhg=>absurd hg (by simp[Ab.gen,Ab.isCal])) (λ_ hg=>absurd hg (by simp[Ab.gen]))
  (λF=>⟨s8 _,z.w.heap.size,[],rfl,heap_alloc_new _ _,rfl,λj k d I=>by simp at I⟩)
 unfold Oper.wp execOp
 rw[B]
 simp only[uL,Sem.run_bind,run_makeMap,Result.andThen_ok,Sem.run_pure]
 refine E (.map (some z.w.heap.size)) _ l.1 l.2 (by simp only[C,A];exact Co _ _ _) (by simp[A]) (.mref (by simp[A]) rfl λT J _=>?_)
 exact⟨z.w.heap.size,1,by simp,rfl⟩
theorem VG{x:Cx}(w:x.ok){id g A j}{e}{l}{v:Value}(C:x.H id=some (.mb g A e l))(B:A<x.n)(I:v.oneCell'=true)
 (h:∀q J b c, l[j]?=some (q, J)→x.K id j=some (b, c)→v=.pointer (some ⟨b, 0, none⟩)):AO x (.pk id g A j 0) v := by
  refine .pk (w.obj _ _ C).1 B I λo b c q m E _ hg M F O => ?_
  rw[C] at E;cases E
  simp only[Ab.kshape, rc, rg, rf] at F
  obtain⟨p, T, rfl, _⟩ := F
  exact h _ _ b c T O
theorem bC{α:Type}{row:α→List RV}{t kt et:TypeId}{x i:Operand}{id g M:Nat}{e:TypeId}{m:List (Int × α)}{k:Int}(ok:Bool)(ho:o.op=.lookup t x i ok)(ht:P.underlying t=some (.map kt et))
  (hk:P.underlying kt=some (.int .i64)) (hz:∀w,(zeroValue et).run P w=.ok (.pointer none) w) (hx:Ev c R x (.mref id g)) (hi:Ev c R i (.r (.int .i64 k))) (hh:hget h id=some (.mb g M e (AN row m))) :
  AY P c o R h (match ok with | true=>.tup [.pk id g M (Av m k) 0,.r (.bool (AU m k).isSome)] | false=>.pk id g M (Av m k) 0):=by
 intro hc y w J hH he
 have l:y.H id=some (.mb g M e (AN row m)):=by rw[hH];exact hh
 obtain⟨b,es,h1,h2,h3,h4,h0,h5⟩:=X1 J l (hx.rep he hc)
 have F:=hi.rep he hc
 generalize O:w.eval i=iv at F
 cases F with
 | r F=>
  cases F with
  | int=>
   have T:∀I:World,Dc y I→I.heap[b]?=some (.map es.toArray (AN row m).length):=λI B=>by rw[B b (.inr ⟨id,_,1,l,.inl h1⟩)];exact h4
   cases X:Ah (AN row m) k with
   | none=>
    have C:Ah m k=none:=by rw[← Lc row];exact X
    rw[(Ew C).1]
    have U:AO y (.pk id g M (Av m k) 0) (.pointer none):=VG J l h0 rfl λq cs b c Z _=>by
     unfold Av at Z
     rw[C] at Z
     have:=(rW.1 Z).1
     simp[RY] at this
    refine⟨match ok with | true=>.tuple #[.pointer none,.bool false] | false=>.pointer none,λI B=>?_,?_⟩
    ·simp only[execOp,ho,h2,O,Sem.run_bind,MN h3 ht hk (T I B) k _ (hz I) ok,X,Result.andThen_ok,Sem.run_pure]
     cases ok<;>simp
    ·cases ok
     ·exact U
     ·refine .tup rfl λq a' u' A E=>?_
      rcases q with _ | _ | q
      ·simp at A E;subst A;subst E;exact U
      ·simp at A E;subst A;subst E;exact .r (.bool _)
      ·simp at A
   | some j=>
    have C:Ah m k=some j:=by rw[← Lc row];exact X
    obtain⟨v,A,E,_⟩:=Df C
    have V:(AN row m)[j]?=some (k,row v):=by rw[UG,A];rfl
    obtain⟨mm,e3,_⟩:=h3.2 j k _ V
    obtain⟨bb,a0,f1,f2,_⟩:=h5 j k _ mm V e3
    have hD:Av m k=j:=by unfold Av;rw[C];rfl
    rw[E,hD]
    have U:AO y (.pk id g M j 0) mm.val:=VG J l h0 (by rw[f2];rfl) λq cs b c Z hK=>by
     rw[f1] at hK;cases hK;exact f2
    refine⟨match ok with | true=>.tuple #[mm.val,.bool true] | false=>mm.val,λI B=>?_,?_⟩
    ·simp only[execOp,ho,h2,O,Sem.run_bind,MN h3 ht hk (T I B) k _ (hz I) ok,X,e3,Result.andThen_ok,Sem.run_pure]
     cases ok<;>simp
    ·cases ok
     ·exact U
     ·refine .tup rfl λq a' u' A E=>?_
      rcases q with _ | _ | q
      ·simp at A E;subst A;subst E;exact U
      ·simp at A E;subst A;subst E;exact .r (.bool _)
      ·simp at A
theorem PV{x:Cx}(B:x.ok){id g C j k}{e}{l}{q}{cs:List RV}{v}(E:x.H id=some (.mb g C e l))(J:AO x (.pk id g C j k) v)(F:l[j]?=some (q,cs)) :
  ∃A w,x.K id j=some (A,1)∧v=.pointer (some ⟨A,k,none⟩)∧x.w.heap[A]?=some (.cells w e (0,0))∧w.size=cs.length∧∀(i:Nat) (c:RV),cs[i]?=some c→∃u:Value,w[i]?=some u∧u.oneCell'=true∧A5 x.w x.S c u:=by
 obtain⟨_,V,b,X,Z,h2,h3,M⟩:=B.obj _ _ E
 obtain⟨m,A,w,e1,e2,e3,I,e5,O,T,U⟩:=M j q cs F
 cases J with
 | pk _ _ _ hp=>
  exact⟨A,w,I,hp _ A 1 q cs.length E rfl rfl rfl (by simp[Ab.kshape,F]) I,O,T,U⟩
theorem jq{t}{x}{f off}{id g B j k}{e}{l}(I:o.op=.fieldAddr t x f)(T:Aq P t f off)(U:Ev c R x (.pk id g B j k))(V:hget h id=some (.mb g B e l))(X:c=true→(l[j]?).isSome=true) :
  AY P c o R h (.pk id g B j (k+off)):=by
 intro J z w C Z he
 obtain⟨fs,fl,ii,h1,h2,h3,h4,h5⟩:=T
 have A:z.H id=some (.mb g B e l):=by rw[Z];exact V
 obtain⟨⟨q,cs⟩,E⟩:=Option.isSome_iff_exists.1 (X J)
 have M:=U.rep he J
 obtain⟨bb,a0,k1,k2,k3,_⟩:=PV C A M E
 have F:B<z.n:=by cases M;assumption
 refine⟨.pointer (some ⟨bb,k+off,none⟩),λw2 a1=>?_,.pk (C.obj _ _ A).1 F rfl λo b c q m I _ hg a2 hs O=>?_⟩
 ·unfold execOp
  rw[I]
  simp[k2,Instr.fieldAt,run_underlying h1,h2,Instr.sureAddr,fieldPlace,Dw h4,h5,h3,Addr.add_lit]
 ·rw[k1] at O;cases O;rfl
theorem Yk{x:Cx}{q:World}(w:Dc x q){id j m}{o}(A:x.H id=some o)(B:x.K id j=some (m,1)){l}{e}(C:x.w.heap[m]?=some (.cells l e (0,0)))(k:Nat):q.cell? ⟨m,k,none⟩=l[k]?:=by
 have:q.heap[m]?=some (.cells l e (0,0)):=by rw[w m (.inr ⟨id,_,1,A,.inr ⟨j,B⟩⟩)];exact C
 exact cell_of_row _ m k l e _ this
theorem fq{t}{x}{id g A j k}{e}{l}{q}{cs}{d}(F:o.op=.load t x)(I:BY P t)(J:Ev c R x (.pk id g A j k))(M:hget h id=some (.mb g A e l))
 (O:c=true→l[j]?=some (q, cs)) (hd:cs[k]?=some d):AY P c o R h (.r d) := by
  intro E z w B T U
  have m:z.H id=some (.mb g A e l) := by rw[T];exact M
  obtain⟨bb, V, X, Z, k3, k4, k5⟩ := PV B m (J.rep U E) (O E)
  obtain⟨u, e1, e2, e3⟩ := k5 k d hd
  refine⟨u, λw2 C => ?_, .r e3⟩
  unfold execOp
  rw[F]
  simp[Z, Q8 I ((Yk C m X k3 k).trans e1)]
theorem jk{t}{x}{id g C j sz}{e}{l}{q}{cs:List RV}(J:o.op=.load t x)(M:Bo P t sz)(O:Ev c R x (.pk id g C j 0))(T:hget h id=some (.mb g C e l))
 (B:c=true→l[j]?=some (q, cs)) (U:cs.length=sz):AY P c o R h (.agg (cs.map .r)) := by
  intro I z w E V X
  have m:z.H id=some (.mb g C e l) := by rw[V];exact T
  obtain⟨bb, A, Z, k2, k3, k4, k5⟩ := PV E m (O.rep X I) (B I)
  refine⟨.agg ((List.range sz).map λj => A.getD j undef).toArray, λw2 F => ?_, I5 (by simpa using U) _ λj a B => ?_⟩
  · unfold execOp
    rw[J]
    simp[k2, I6 M (λj => A.getD j undef) (λj B => by
      rw[sF, Yk F m Z k3 j]
      have:j<A.size := by omega
      simp[this])]
  · rw[rc, rg] at B
    obtain⟨d, hd, rfl⟩ := B
    obtain⟨u, e1, _, e3⟩ := k5 j d hd
    simpa[e1] using(AO.r e3:AO z (.r d) u)
theorem nS{t}{x y}{id g ve j k}{e:TypeId}{l:List (Int × List RV)}{q}{cs:List RV}{d}(ho:o.op=.store t x y)(ht:∃i, P.info? t=some i∧i.size=1)(hx:Ev c R x (.pk id g ve j k))(hh:hget h id=some (.mb g ve e l))
 (hj:l[j]?=some (q, cs)) (hk:Nat.blt k cs.length=true) (hy:Ev c R y (.r d)):BQ P c o R h n .any ((id, some (.mb g ve e (l.set j (q, cs.set k d))))::h) n := by
  intro hc z w B hH hn he K Q hK
  obtain⟨ii, X, ab⟩ := ht
  have A:z.H id=some (.mb g ve e l) := by rw[hH];exact hh
  have ag := hx.rep he hc
  obtain⟨V, O, k1, k2, k3, k4, k5⟩ := PV B A ag hj
  have ah := Cn hk
  have ac := hy.rep he hc
  generalize ai:w.eval y=v at ac
  cases ac with
  | r ad =>
  have T := ad.one
  have E:v.cells = #[v] := by cases v<;>first | rfl | (simp[Value.oneCell'] at T)
  have a0 := Qu (P := P) (k := k) X k3 (v := v) (by rw[E];exact ab.symm) (by rw[E];intro u hu;simp at hu;subst hu;exact T) (by rw[E];show k+1≤_;omega)
  obtain⟨aj, ak, b, es, h1, h2, h3, h4⟩ := B.obj _ _ A
  have an:V<z.w.heap.size := (B.ext id _ j V 1 A k1).1
  have ae:j<l.length := (rW.1 hj).1
  generalize a1:(O.toList.take k++v.cells.toList++O.toList.drop (k+v.cells.size)).toArray=C at a0
  have a7:∀i, C[i]?=if k=i then some v else O[i]? := by
    intro i
    rw[← a1, List.getElem?_toArray]
    have a2 := Ks O.toList v.cells.toList k i (by rw[E];simp;omega)
    rw[sZ] at a2
    rw[a2, E]
    by_cases F:k=i
    · subst F;simp
    · rw[rN (by simp;omega), rN F];simp
  have Z:C.size=O.size := by rw[← a1, E];simp;omega
  have af := J7 B id (.mb g ve e (l.set j (q, cs.set k d))) (z.w.setRow V C) (some (b, 1)) (z.K id) z.n (by simp[World.setRow]) rfl rfl rfl
    (λb' _ U => setRow_other _ _ _ _ (λe => U _ A (.inr ⟨j, 1, by rw[e];exact k1⟩)))
    (λb' k' M => by cases M;exact⟨by simpa[World.setRow] using(B.own id _ b 1 A h1).1, .inr ⟨_, A, .inl ⟨1, h1⟩⟩⟩)
    (λj' b' k' M => ⟨⟨by simpa[World.setRow] using(B.ext id _ j' b' k' A M).1, .inr ⟨_, A, .inr ⟨j', k', M⟩⟩⟩, λk2 a8 => by cases a8;exact(B.ext id _ j' b k' A M).2.2.2.1 id _ 1 A h1, λj2 k2 a8 => ((B.ext id _ j' b' k' A M).2.2.2.2 id _ j2 k2 A a8).2⟩)
    (rV _) aj (λ_ => ⟨_, A, rfl, rfl, h1.symm⟩)
    (λ_ _ _ => ⟨_, A, rfl, rfl, rfl, by
      simp only[Ab.kshape]
      rw[uC]
      refine(tK λi => ?_)
      by_cases X:j=i
      · subst X;rw[tU (by simpa using ae)];simp[hj]
      · rw[tb X], rfl⟩)
    (λI => ⟨ak, b, es, rfl, by
      have U:V≠b := λe => (B.ext id _ j V 1 A k1).2.2.2.1 id _ 1 A (by rw[e];exact h1)
      exact(show(z.w.setRow V C).heap[b]?=z.w.heap[b]? from setRow_other _ _ _ _ (λe => U e.symm)).trans (by rw[h2, th]), by rw[h3, th], λi k' al X => by
      by_cases aa:j=i
      · subst aa
        rw[tU ae] at X
        cases X
        obtain⟨m, b2, a6, e1, e2, e3, e4, e5, e6, e7, e8⟩ := h4 j q cs hj
        rw[k1] at e4;cases e4
        refine⟨m, V, C, e1, e2, e3, k1, e5, setRow_heap _ _ _ _ _ _ k3, by rw[Z, k4, th], λi c J => ?_⟩
        rw[a7]
        by_cases F:k=i
        · subst F
          rw[tU ah] at J
          cases J
          exact⟨v, rO rfl, T, ad.mono (λb M => I.blk b (.inl M)) I.S⟩
        · rw[tb F] at J
          obtain⟨u, f1, f2, f3⟩ := k5 i c J
          exact⟨u, by rw[rN F];exact f1, f2, f3.mono (λb M => I.blk b (.inl M)) I.S⟩
      · rw[tb aa] at X
        obtain⟨m, b2, a6, e1, e2, e3, e4, e5, e6, e7, e8⟩ := h4 i k' al X
        refine⟨m, b2, a6, e1, e2, e3, e4, e5, ?_, e7, λi' c J => by
          obtain⟨u, f1, f2, f3⟩ := e8 i' c J
          exact⟨u, f1, f2, f3.mono (λb M => I.blk b (.inl M)) I.S⟩⟩
        have U:V≠b2 := λe => aa (((B.ext id _ j V 1 A k1).2.2.2.2 id _ i 1 A (by rw[e];exact e4)).2).symm
        exact(show(z.w.setRow V C).heap[b2]?=z.w.heap[b2]? from setRow_other _ _ _ _ (λe => U e.symm)).trans e6⟩)
  unfold Oper.wp execOp
  rw[ho]
  simp only[k2, ai, Sem.run_bind, a0, Result.andThen_ok, Sem.run_pure]
  exact hK undef _ af.1 af.2 (by simp only[hH];exact Co _ _ _) hn (.any _)
theorem oy{α:Type}{row:α→List RV}{t kt et:TypeId}{x i y:Operand}{id g ve id' g':Nat}{e:TypeId}{m:List (Int × α)}{k:Int}{a:α}(ho:o.op=.mapUpdate t x i y∨o.op=.insert t x i y)(ht:P.underlying t=some (.map kt et))(hk:P.underlying kt=some (.int .i64))
  (hx:Ev c R x (.mref id g)) (hi:Ev c R i (.r (.int .i64 k))) (hy:Ev c R y (.ptr id' g' 0 0)) (hh:hget h id=some (.mb g ve e (AN row m))) (hb:hget h id'=some (.box g' e ((row a).map .r))) :
  BQ P c o R h n .any ((id,some (.mb g n e (AN row (An m k a))))::(id',none)::h) (n+1):=by
 intro hc z w A hH hn he K Q hK
 have l:z.H id=some (.mb g ve e (AN row m)):=by rw[hH];exact hh
 have q:z.H id'=some (.box g' e ((row a).map .r)):=by rw[hH];exact hb
 have ac:id≠id':=λe=>by rw[e] at l;rw[l] at q;cases q
 obtain⟨b,es,h1,h2,h3,h4,h0,h5⟩:=X1 A l (hx.rep he hc)
 obtain⟨bb,ad,p1,p2,p3,p4,p5⟩:=In A q (hy.rep he hc)
 have I:=hi.rep he hc
 generalize ae:w.eval i=iv at I
 cases I with
 | r I=>
  cases I with
  | int=>
   have O:=(A.own id _ b 1 l h1).1
   have a0:=(A.own id' _ bb 1 q p1).1
   have T:b≠bb:=λe=>ac (A.inj id id' _ _ b 1 1 l q h1 (by rw[e];exact p1))
   obtain⟨q1,q2,q3⟩:=Yh h3 k (w.eval y) (row a)
   rw[RW] at q1 q2 q3
   rw[Lc] at q1 q2 q3
   generalize af:En es k (Ah m k) (w.eval y)=F at q1 q2 q3
   have U:∀j J c,z.K id j=some (J,c)→J≠bb:=λj J c ag e=>(A.ext id _ j J c l ag).2.2.2.1 id' _ 1 q (by rw[e];exact p1)
   have a7:=qy A id id' (.mb g z.n e (AN row (An m k a))) { z.w with heap:=z.w.heap.setIfInBounds b (.map F.toArray F.length) } (some (b,1)) (λj=>if j=Av m k then some (bb,1) else z.K id j) (z.n+1) (by simp) rfl rfl rfl
    (λJ _ ah=>by
     have:b≠J:=λe=>ah id _ (.inl rfl) l (.inl ⟨1,by rw[← e];exact h1⟩)
     simp[this])
    (λJ V E=>by cases E;exact⟨by simpa using O,.inr ⟨id,_,.inl rfl,l,.inl ⟨1,h1⟩⟩⟩)
    (λj J V E=>by
     split at E
     ·rename_i hj
      cases E
      refine⟨⟨by simpa using a0,.inr ⟨id',_,.inr rfl,q,.inl ⟨1,p1⟩⟩⟩,λk2 B=>by cases B;exact T rfl,λj2 k2 B=>?_⟩
      split at B
      ·rename_i ai;rw[ai,hj]
      ·exact absurd rfl (U j2 _ k2 B)
     ·rename_i hj
      have a1:=A.ext id _ j J V l E
      refine⟨⟨by simpa using a1.1,.inr ⟨id,_,.inl rfl,l,.inr ⟨j,V,E⟩⟩⟩,λk2 B=>by cases B;exact a1.2.2.2.1 id _ 1 l h1,λj2 k2 B=>?_⟩
      split at B
      ·cases B;exact absurd rfl (U j _ V E)
      ·exact(a1.2.2.2.2 id _ j2 k2 l B).2)
    (uW _) (vA (A.obj _ _ l).1) (λ_=>⟨_,l,rfl,rfl,h1.symm⟩) (λ_ _ hv=>absurd hv (by simp[Ab.ver]))
    (λM=>⟨s8 _,b,F,rfl,by simp[Cx.tk,O,q2],q2,λj V a8 hj=>by
     obtain⟨mm,e1,e2,e3,e4⟩:=q3 j V a8 hj
     have aa:∀X,X≠b→(z.tk id id' (.mb g z.n e (AN row (An m k a))) { z.w with heap:=z.w.heap.setIfInBounds b (.map F.toArray F.length) } (some (b,1)) (λj=>if j=Av m k then some (bb,1) else z.K id j) (z.n+1)).w.heap[X]?=z.w.heap[X]?:=λX aj=>by simp[Cx.tk,(uR aj)]
     rcases e4 with ⟨C,rfl,rfl,e⟩ | ⟨C,ak,f1,f2⟩
     ·have a2:j=Av m V:=by
       unfold Av
       rcases C with C | ⟨C,rfl⟩
       ·rw[C];rfl
       ·rw[C];simp[RY]
      refine⟨mm,bb,ad,e1,e2,e3,rO a2,by rw[e];exact p2,(aa bb (uR T)).trans p3,by rw[p4];simp,λi c a6=>?_⟩
      obtain⟨u,g1,g2,g3⟩:=p5 i (.r c) (by rw[rc,a6];rfl)
      cases g3 with
      | r g3=>exact⟨u,g1,g2,g3.mono (λb hb=>M.blk b (.inl hb)) M.S⟩
     ·obtain⟨X,ab,g1,g2,g3,g4,g5⟩:=h5 j V a8 mm f1 f2
      have a2:j≠Av m k:=λe=>by
       unfold Av at e
       cases hq:Ah m k with
       | none=>rw[hq] at e;simp at e;rw[RY] at ak;omega
       | some j0=>rw[hq] at e C;simp at e;exact C (by rw[e])
      refine⟨mm,X,ab,e1,e2,e3,(rN a2).trans g1,g2,(aa X λe=>(A.ext id _ j X 1 l g1).2.2.2.1 id _ 1 l (by rw[e];exact h1)).trans g3,g4,λi c a6=>?_⟩
      obtain⟨u,k1,k2,k3⟩:=g5 i c a6
      exact⟨u,k1,k2,k3.mono (λb hb=>M.blk b (.inl hb)) M.S⟩⟩)
   have Z:=Q9 h3 ht hk h4 k (w.eval y)
   rw[Lc,af] at Z
   unfold Oper.wp execOp
   rcases ho with ho | ho<;>
   ·rw[ho]
    simp only[h2,ae,Sem.run_bind,Z,Result.andThen_ok,Sem.run_pure]
    exact hK undef _ a7.1 a7.2 (by rw[← dv,← hH,← hn];rfl) (by show z.n+1=n+1;rw[hn]) (.any _)
end
end Go.Proofs.YtifgmfoihehlbaaGreatDoor.Al

namespace Go.Proofs.YtifgmfoihehlbaaGreatDoor.Al
open Go.ChangeMaps (setBlock)
open Go.MapKept Go.RowKit
theorem SR{α:Type} m k(v:α):Ah (An m k v) k=some (Av m k):=by
 unfold Av
 cases h:Ah m k with
 | none=>
  rw[(Ew h).2]
  have:∀(l:List (Int × α)),Ah l k=none→Ah (l++[(k,v)]) k=some l.length:=by
   intro l
   induction l with
   | nil=>intro _;simp[Ah]
   | cons p r A=>
    intro h
    unfold Ah at h
    split at h
    ·cases h
    ·rename_i B
     have q:Ah r k=none:=by cases C:Ah r k with | none=>rfl | some j=>rw[C] at h;cases h
     show(if k=p.1 then some 0 else(Ah (r++[(k,v)]) k).map (· + 1))=_
     rw[rN B,A q];simp
  rw[this m h];rfl
 | some j=>
  obtain⟨w,E,q,F⟩:=Df h
  have:=V2 (w:=v) q k
  rw[this,h];rfl
theorem Gj{α:Type} m k(v:α):AU (An m k v) k=some v:=by
 induction m with
 | nil=>simp[An,AU]
 | cons p r j=>
  unfold An
  split
  ·simp[AU]
  ·rename_i l
   show(if k=p.1 then some p.2 else AU (An r k v) k)=_
   rw[rN l,j]
theorem mP{α:Type}{l:List (Int × α)}{k}{j}(h:Ah l k=some j):Ah (l.take j) k=none:=by
 induction l generalizing j with
 | nil=>cases h
 | cons p r m=>
  unfold Ah at h
  split at h
  ·cases h;rfl
  ·rename_i q
   rw[rg] at h
   obtain⟨A,w,rfl⟩:=h
   rw[List.take_succ_cons]
   unfold Ah
   rw[rN q,m w];rfl
section
variable{P:Program}{c:Bool}{o:Oper}{R:Am}{h:Ag}{n:Nat}
def WK(hole:Option (Nat × Bool))(a b:Nat):Prop:=match hole with
 | some (j,true)=>a=b+1∧j=b
 | _=>a=b
def Jh(x:Cx)(id j:Nat)(e:TypeId)(sz:Nat)(xs:List (List RV))(l cap:Nat)(us:List Value):Prop:=
 (∀row∈xs,row.length=sz)∧x.K id j=some (l,cap)∧x.w.ownsRow 0 e sz (.slice (some ⟨l,0,none⟩) xs.length cap) xs.length us∧∀i row c d,xs[i]?=some row→row[c]?=some d→∃u,us[i * sz+c]?=some u∧A5 x.w x.S d u
theorem JE{x:Cx}(A:x.ok){id g B}{e}{sz}{hole}{l:List (Int × List (List RV))}(C:x.H id=some (.mr g B e sz hole l)) :
  0<sz∧B<x.n∧∃(b:Nat) (q:List MapEntry),x.β id=some (b,1)∧x.w.heap[b]?=some (.map q.toArray q.length)∧WK hole l.length q.length ∧
   ∀(j:Nat) (k:Int) (xs:List (List RV)),l[j]?=some (k,xs)→∃w cap us,Jh x id j e sz xs w cap us∧(hole=some (j,true)∨∃m,q[j]?=some m∧m.key=.int .i64 k∧m.born=j∧(hole=some (j,false)∨m.val=.slice (some ⟨w,0,none⟩) xs.length cap)):=by
 obtain⟨_,E,F,b,q,I,J,M,O⟩:=A.obj _ _ C
 exact⟨E,F,b,q,I,J,M,λj k xs T=>by
  obtain⟨U,w,cap,us,V,X,Z,e5⟩:=O j k xs T
  exact⟨w,cap,us,⟨U,V,X,Z⟩,e5⟩⟩
theorem XY{x:Cx}{id g q b}{e}{sz}{hole}{l}{v}(w:x.H id=some (.mr g q e sz hole l))(j:AO x (.mref id g) v)(A:x.β id=some (b,1)):v=.map (some b):=by
 cases j with
 | mref _ _ j=>
  obtain⟨C,cap,m,B⟩:=j _ w rfl
  rw[A] at m
  simp only[rY,rf] at m
  obtain⟨rfl,rfl⟩:=m
  exact B
theorem Wq{g v}{e}{sz}{hole}{l} k:Ah (Ab.mr g v e sz hole l).kshape k=Ah l k:=TX (λp:Int × List (List RV)=>(p.1,some p.2.length)) (λ_=>rfl) l k
theorem U7{x:Cx}(w:x.ok){id g C}{e}{sz}{hole}{l}{k}{v:Value}(B:x.H id=some (.mr g C e sz hole l))(M:v.oneCell'=true)
 (O:Ah l k=none→v=.slice none 0 0) (T:∀j A b c, Ah l k=some j→l[j]?=some (k, A)→x.K id j=some (b, c)→v=.slice (some ⟨b, 0, none⟩) A.length c):AO x (.fo id g C k) v := by
  obtain⟨Z, U, _⟩ := JE w B
  refine .fo (w.obj _ _ B).1 U M λo E _ hg V => ?_
  rw[B] at E;cases E
  rw[Wq]
  refine⟨O, λj q m b c F I X => ?_⟩
  obtain⟨A, J, _⟩ := Df F
  simp only[Ab.kshape, rc, J, sY, rY, rf] at I
  rw[← I.2]
  exact T j A b c F J X
theorem NI{x:Cx}(w:x.ok){id g B}{e}{sz}{hole}{l}{k}{v}(C:x.H id=some (.mr g B e sz hole l))(J:AO x (.fo id g B k) v) :
  (Ah l k=none∧v=.slice none 0 0∧AU l k=none)∨∃j xs m cap us,Ah l k=some j∧AU l k=some xs∧l[j]?=some (k,xs)∧Jh x id j e sz xs m cap us∧v=.slice (some ⟨m,0,none⟩) xs.length cap:=by
 obtain⟨T,_,b,U,V,X,Z,M⟩:=JE w C
 cases J with
 | fo _ _ _ hp=>
  obtain⟨E,F⟩:=hp _ C rfl rfl rfl
  rw[Wq] at E F
  cases q:Ah l k with
  | none=>exact .inl ⟨rfl,E q,(Ew q).1⟩
  | some j=>
   obtain⟨xs,A,O,_⟩:=Df q
   obtain⟨m,cap,us,I,_⟩:=M j k xs A
   exact .inr ⟨j,xs,m,cap,us,rfl,O,A,I,F j k xs.length m cap q (by simp[Ab.kshape,A]) I.2.1⟩
theorem dp{t} id e sz(B:o.op=.makeMap t none)(hsz:Nat.blt 0 sz=true):BQ P c o R h n (.mref id n) ((id,some (.mr n n e sz none []))::h) (n+1):=by
 intro M z w q C A O K Q E
 have l:=J7 q id (.mr z.n z.n e sz none []) (z.w.alloc (.map #[] 0)) (some (z.w.heap.size,1)) (λ_=>none) (z.n+1) (by simp) rfl rfl rfl
  (λb m _=>heap_alloc_old _ _ m) (λb k m=>by cases m;simp) (λj b k m=>by cases m) (by omega) (by simp[Ab.gen]) (λhg=>absurd hg (by simp[Ab.gen,Ab.isCal])) (λ_ hg=>absurd hg (by simp[Ab.gen]))
  (λF=>⟨Cn hsz,s8 _,z.w.heap.size,[],rfl,heap_alloc_new _ _,rfl,λj k d I=>by simp at I⟩)
 unfold Oper.wp execOp
 rw[B]
 simp only[uL,Sem.run_bind,run_makeMap,Result.andThen_ok,Sem.run_pure]
 refine E (.map (some z.w.heap.size)) _ l.1 l.2 (by simp only[C,A];exact Co _ _ _) (by simp[A]) (.mref (by simp[A]) rfl λT J _=>?_)
 exact⟨z.w.heap.size,1,by simp,rfl⟩
theorem qZ{x}{id}{e}{sz}{l:List (Int × List (List RV))}{w:List MapEntry}(B:l.length=w.length)
 (C:∀(j:Nat) (k:Int) (q:List (List RV)), l[j]?=some (k, q)→∃A cap E, Jh x id j e sz q A cap E∧(none=some (j, true)∨∃m, w[j]?=some m∧m.key=.int .i64 k∧m.born=j∧(none=some (j, false)∨m.val=.slice (some ⟨A, 0, none⟩) q.length cap))):Fk l w :=
  ⟨B.symm, λj k q F => by
    obtain⟨_, _, _, _, e | ⟨m, I, J, M, _⟩⟩ := C j k q F
    · cases e
    · exact⟨m, I, J, M⟩⟩
theorem oe{t kt et}{x i}{id g ve}{e}{sz}{l}{k}(ho:o.op=.lookup t x i false)(ht:P.underlying t=some (.map kt et))
 (hk:P.underlying kt=some (.int .i64)) (hz:∀w, (zeroValue et).run P w=.ok (.slice none 0 0) w) (hx:Ev c R x (.mref id g)) (hi:Ev c R i (.r (.int .i64 k))) (hh:hget h id=some (.mr g ve e sz none l)) :
    AY P c o R h (.fo id g ve k) := by
  intro hc y w F hH he
  have q:y.H id=some (.mr g ve e sz none l) := by rw[hH];exact hh
  obtain⟨h0, hv, b, es, h1, h2, h3, h4⟩ := JE F q
  have J := XY q (hx.rep he hc) h1
  have M := qZ h3 h4
  have C := hi.rep he hc
  generalize O:w.eval i=iv at C
  cases C with
  | r C =>
    cases C with
    | int =>
      have T:∀E:World, Dc y E→E.heap[b]?=some (.map es.toArray es.length) := λE A => by rw[A b (.inr ⟨id, _, 1, q, .inl h1⟩)];exact h2
      cases I:Ah l k with
      | none =>
        refine⟨.slice none 0 0, λE A => ?_, U7 F q rfl (λ_ => rfl) λj xs b c B => by rw[I] at B;cases B⟩
        simp only[execOp, ho, J, O, Sem.run_bind, MN M ht hk (T E A) k _ (hz E) false, I, Result.andThen_ok, Sem.run_pure]
        simp
      | some j =>
        obtain⟨xs, e1, _⟩ := Df I
        obtain⟨bb, cap, us, k1, U⟩ := h4 j k xs e1
        rcases U with U | ⟨m, U, k3, k4, Z | Z⟩
        · cases U
        · cases Z
        · refine⟨m.val, λE A => ?_, U7 F q (by rw[Z];rfl) (λhn => by rw[I] at hn;cases hn) λj2 a0 b2 c2 B V X => ?_⟩
          · simp only[execOp, ho, J, O, Sem.run_bind, MN M ht hk (T E A) k _ (hz E) false, I, U, Result.andThen_ok, Sem.run_pure]
            simp
          · rw[I] at B;cases B
            rw[e1] at V;cases V
            rw[k1.2.1] at X;cases X
            exact Z
theorem nZ{t}{e e'}{sz m}{x}{id g C}{hole}{l}{k}(F:o.op=.call { callee := .builtin .len, args := #[x], argTypes := #[t] })(E:EQ P t e sz)
 (I:Ev c R x (.fo id g C k)) (J:hget h id=some (.mr g C e' m hole l)):AY P c o R h (.r (.int .i64 ((AU l k).getD []).length)) := by
  intro M z w q O T
  refine⟨.int .i64 ((AU l k).getD []).length, λV U => ?_, .r (.int _ _)⟩
  unfold execOp
  rw[F]
  rcases NI q (by rw[O];exact J) (I.rep T M) with ⟨_, A, B⟩ | ⟨j, X, Z, cap, us, _, B, _, _, A⟩
  · rw[B];simp[resolve, invoke, builtin, A, Builtin.len_, run_underlying E.1, goInt]
  · rw[B];simp[resolve, invoke, builtin, A, Builtin.len_, run_underlying E.1, goInt]
theorem oR{t e e'}{sz}{x y}{id g B}{hole}{l}{k}{kd}{z:Int}{row}(ho:o.op=.indexAddr t x y)(ht:EQ P t e sz)(hx:Ev c R x (.fo id g B k))
 (hh:hget h id=some (.mr g B e' sz hole l)) (hy:Ev c R y (.r (.int kd z))) (hi:c=true→AM ((AU l k).getD []) z=some row):AY P c o R h (.pk id g B (Av l k) (z.toNat * sz)) := by
  intro I q w J hH he
  obtain⟨M, ii, O, T⟩ := ht
  have C:q.H id=some (.mr g B e' sz hole l) := by rw[hH];exact hh
  have A := ER (hi I)
  have hv := hx.rep he I
  have E:g<q.n∧B<q.n := by cases hv with | fo U V _ _ => exact⟨U, V⟩
  rcases NI J C hv with ⟨_, _, X⟩ | ⟨j, xs, bb, cap, us, U, X, h4, h5, V⟩
  · rw[X] at A;simp at A
  · rw[X] at A
    have hD:Av l k=j := by unfold Av;rw[U];rfl
    have Z := A.1
    have F:z<xs.length := A.2.2
    refine⟨.pointer (some ⟨bb, z.toNat * sz, none⟩), λw2 a0 => ?_, .pk E.1 E.2 rfl λo' b c q' m a1 _ _ _ hs hK => ?_⟩
    · unfold execOp
      rw[ho]
      simp[V, Cu (hy.rep he I), Instr.indexAt, asIntOf, run_underlying M, Z, F, Dw O, T, Addr.add_lit]
    · rw[hD, h5.2.1] at hK;cases hK;rfl
theorem ky{x:Cx}{q:World}(m:Dc x q){id j l cap}{o}(B:x.H id=some o){e}{sz}{xs}{us:List Value}(w:Jh x id j e sz xs l cap us){i}(A:i<us.length):q.cell? ⟨l,i,none⟩=us[i]?:=by
 have C:x.w.cell? ⟨l,i,none⟩=us[i]?:=by
  have:=w.2.2.1.cells (by rfl) i us[i] (rU A)
  rw[Addr.add_lit,sF] at this
  rw[this,rU A]
 rw[← C]
 exact World.cell?_of_block (m l (.inr ⟨id,_,cap,B,.inr ⟨j,w.2.1⟩⟩))
theorem ly{t}{x}{id g M}{e}{sz}{hole}{l}{k z:Int}{row:List RV}(ho:o.op=.load t x)(ht:Bo P t sz)(hx:Ev c R x (.pk id g M (Av l k) (z.toNat * sz)))(hh:hget h id=some (.mr g M e sz hole l))
 (hi:c=true→AM ((AU l k).getD []) z=some row):AY P c o R h (.agg (row.map .r)) := by
  intro hc q w O hH he
  have m:q.H id=some (.mr g M e sz hole l) := by rw[hH];exact hh
  have C := ER (hi hc)
  have hv := hx.rep he hc
  have hg:∃B, AU l k=some B := by
    cases hg:AU l k with
    | none => rw[hg] at C;simp at C
    | some B => exact⟨B, rfl⟩
  obtain⟨B, hg⟩ := hg
  rw[hg] at C
  obtain⟨J, E⟩ := KL hg
  obtain⟨h0, _, b, es, h1, h2, h3, h4⟩ := JE O m
  obtain⟨bb, cap, F, I, _⟩ := h4 _ k B E
  have A:B[z.toNat]?=some row := C.2.1
  have T:row.length=sz := I.1 row (rq A)
  have U:w.eval x=.pointer (some ⟨bb, z.toNat * sz, none⟩) := by
    generalize w.eval x=v at hv
    cases hv with
    | pk _ _ _ hp => exact hp _ bb cap k B.length m rfl rfl rfl (by simp[Ab.kshape, E]) I.2.1
  have V:F.length=B.length * sz := I.2.2.1.1
  have X:z.toNat<B.length := (rW.1 A).1
  have a0:z.toNat * sz+sz≤F.length := by
    rw[V]
    have := sD sz (show z.toNat+1≤B.length from X)
    rwa [s4, tT] at this
  refine⟨.agg ((List.range sz).map λj => F.getD (z.toNat * sz+j) undef).toArray, λw2 Z => ?_, I5 (by simpa using T) _ λj a J => ?_⟩
  · unfold execOp
    rw[ho]
    simp[U, I6 ht (λj => F.getD (z.toNat * sz+j) undef) (λj J => by
      have:z.toNat * sz+j<F.length := by omega
      rw[ky Z m I this]
      simp[this])]
  · rw[rc, rg] at J
    obtain⟨d, hd, rfl⟩ := J
    obtain⟨u, e1, e2⟩ := I.2.2.2 _ row j d A hd
    simpa[e1] using(AO.r e2:AO q (.r d) u)
end
end Go.Proofs.YtifgmfoihehlbaaGreatDoor.Al

namespace Go.Proofs.YtifgmfoihehlbaaGreatDoor.Al
open Go.ChangeMaps (setBlock)
open Go.MapKept Go.RowKit
section
variable{P:Program}{c:Bool}{o:Oper}{R:Am}{h:Ag}{n:Nat}
theorem eo{x:Cx}{t e}{sz q}(X:Br P t e sz q){xs ys:List (List RV)}{us}{v u:Value}(l:x.w.ownsRow 0 e sz v xs.length us)
 (B:OL x u sz ys) (Z:xs.length+ys.length≤maxLen) (hb:(xs.length+ys.length) * q≤140737488355328) (U:TypeId) :
    ∃(A:Value) (w':World) (j:List Value), (Builtin.append_ #[t, t] U #[v, u]).run P x.w=.ok A w'∧w'.ownsRow 0 e sz A (xs.length+ys.length) (us++j)∧x.w.grownBy w' v.ownBlock ∧
      (A.ownBlock=v.ownBlock∨A.ownBlock=some x.w.heap.size)∧j.length=ys.length * sz∧∀i row k d, ys[i]?=some row→row[k]?=some d→∃u, j[i * sz+k]?=some u∧A5 x.w x.S d u := by
  obtain⟨w, ii, z, M, C, E, hz, O, _, h0⟩ := X
  rcases B with ⟨hy, cc, rfl⟩ | ⟨a, cap, j, rfl, V, m, F, I⟩
  · subst hy
    refine⟨v, x.w, [], ?_, by simpa using l, ⟨rfl, rfl, rfl, rV _, λ_ _ _ => rfl⟩, .inl rfl, by simp, by simp⟩
    rcases l.2 with ⟨rfl, h1⟩ | ⟨g, cap, a0, rfl, _, _, T, _⟩
    · simp[Builtin.append_, run_underlying w, sizeOf, typeInfo, M, Builtin.lenOf, Builtin.firstCells]
    · simp[Builtin.append_, run_underlying w, sizeOf, typeInfo, M, Builtin.lenOf, Builtin.firstCells, T, storeCells]
  · obtain⟨A, w', J, k1, k2, _, k4⟩ := run_append_own_at (P := P) x.w 0 t U e ii z sz q w M hz C E O h0 v xs.length us l a ys.length cap j V m F Z hb (s6 _)
    exact⟨A, w', j, J, k1, k2, k4, V, I⟩
theorem er{w w':World}{e}{sz q len cap m}{us}(h:w.ownsRow 0 e sz (.slice (some ⟨q,0,none⟩) len cap) m us)(C:w'.heap[q]?=w.heap[q]?):w'.ownsRow 0 e sz (.slice (some ⟨q,0,none⟩) len cap) m us:=by
 obtain⟨E,A⟩:=h
 refine⟨E,?_⟩
 rcases A with A | ⟨F,l,B,j,I,J,M,O,T,U⟩
 ·exact .inl A
 ·refine .inr ⟨F,l,B,j,I,?_,M,O,T,U⟩
  rw[← J]
  simp only[Value.slice.injEq,rY,Addr.mk.injEq] at j
  rw[← j.1.1]
  exact C
theorem Jh.keep{x y:Cx}(l:x.le y){id j}{e}{sz}{xs}{m cap}{us}(h:Jh x id j e sz xs m cap us)(w:y.K id j=x.K id j)(q:y.w.heap[m]?=x.w.heap[m]?):Jh y id j e sz xs m cap us:=
 ⟨h.1,w.trans h.2.1,er h.2.2.1 q,λi row c d A B=>by
  obtain⟨u,C,E⟩:=h.2.2.2 i row c d A B
  exact⟨u,C,E.mono (λb q=>l.blk b (.inl q)) l.S⟩⟩
theorem Cb.mr{y:Cx}{id g C}{κ}(E:∀j, y.K id j=κ j){e}{sz}{hole}{l:List (Int × List (List RV))}{b}{q:List MapEntry}(F:0<sz)(I:C<y.n)(J:y.w.heap[b]?=some (.map q.toArray q.length))(M:WK hole l.length q.length)
 (O:∀(j:Nat) (k:Int) (w:List (List RV)), l[j]?=some (k, w)→∃A cap B, Jh y id j e sz w A cap B∧(hole=some (j, true)∨∃m, q[j]?=some m∧m.key=.int .i64 k∧m.born=j∧(hole=some (j, false)∨m.val=.slice (some ⟨A, 0, none⟩) w.length cap))) :
    Cb y (some (b, 1)) κ (.mr g C e sz hole l) :=
  ⟨F, I, b, q, rfl, J, M, λj k w T => by
    obtain⟨A, cap, B, ⟨U, V, X, Z⟩, e5⟩ := O j k w T
    exact⟨U, A, cap, B, (E j).symm.trans V, X, Z, e5⟩⟩
theorem pg{t e}{sz ak}{s x}{id g ve}{l:List (Int × List (List RV))}{k}{ys:List (List RV)}(ho:o.op=.call { callee := .builtin .append, args := #[s, x], argTypes := #[t, t] })(ht:Br P t e sz ak)
 (hs:Ev c R s (.fo id g ve k)) (hh:hget h id=some (.mr g ve e sz none l)) (hx:JA c R h x sz ys) (aw:ys.isEmpty=false) (hm:(((AU l k).getD []).length+ys.length) * ak≤140737488355328) (ax:((AU l k).getD []).length+ys.length≤9223372036854775807) :
    BQ P c o R h n (.fo id g n k) ((id, some (.mr g n e sz (some (Av l k, (AU l k).isNone)) (An l k ((AU l k).getD []++ys))))::h) (n+1) := by
  intro hc z w C hH hn he K Q hK
  have A:z.H id=some (.mr g ve e sz none l) := by rw[hH];exact hh
  have ay := hs.rep he hc
  obtain⟨h0, hv, b, es, h1, h2, h3, h4⟩ := JE C A
  obtain⟨al, ac⟩ := hx.src h0 hc C hH he
  have az := (C.obj _ _ A).1
  obtain⟨T, us, b0, ad, b1, a7, a8⟩:∃(T:List (List RV)) (us:List Value), (AU l k).getD []=T∧(∀row ∈ T, row.length=sz)∧(∀i row c d, T[i]?=some row→row[c]?=some d→∃u, us[i * sz+c]?=some u∧A5 z.w z.S d u) ∧
      z.w.ownsRow 0 e sz (w.eval s) T.length us∧∀bb, (w.eval s).ownBlock=some bb→∃cap, z.K id (Av l k)=some (bb, cap) := by
    rcases NI C A ay with ⟨k1, k2, k3⟩ | ⟨j, T, bb, cap, us, k1, k2, k3, k4, k5⟩
    · refine⟨[], [], by rw[k3];rfl, by simp, by simp, by rw[k2];exact World.ownsRow_nil _ _ _ _, λbb hb => by rw[k2] at hb;cases hb⟩
    · refine⟨T, us, by rw[k2];rfl, k4.1, k4.2.2.2, by rw[k5];exact k4.2.2.1, λM hb => ?_⟩
      rw[k5] at hb
      simp only[Value.ownBlock, rY] at hb
      subst hb
      exact⟨cap, by unfold Av;rw[k1];exact k4.2.1⟩
  rw[b0] at hm ax hK
  obtain⟨v', w', an, ao, U, V, ae, be, af⟩ := eo (P := P) ht a7 al (by unfold maxLen;omega) hm o.type
  have bf:0<ys.length := by cases ys with | nil => cases aw | cons _ _ => simp
  obtain⟨E, Z, ag⟩:∃E Z, v'=.slice (some ⟨E, 0, none⟩) (T.length+ys.length) Z := by
    rcases U.2 with ⟨_, hr⟩ | ⟨gg, cap, bg, ag, _⟩
    · omega
    · exact⟨gg, cap, ag⟩
  subst ag
  have aq:E<w'.heap.size := (U.lt E rfl).2
  have O:z.w.heap.size≤E∨∃cap, z.K id (Av l k)=some (E, cap) := by
    rcases ae with B | B
    · have b3:(w.eval s).ownBlock=some E := B.symm
      exact .inr (a8 E b3)
    · simp only[Value.ownBlock, rY] at B
      exact .inl (by omega)
  have X:∀M, M<z.w.heap.size→(∀cap, z.K id (Av l k)≠some (M, cap))→w'.heap[M]?=z.w.heap[M]? := λM F b4 => V.block M F λB => by
    obtain⟨cap, e2⟩ := a8 M B.symm
    exact b4 cap e2
  have aa:∀cap, z.K id (Av l k)≠some (b, cap) := λcap B => (C.ext id _ _ b cap A B).2.2.2.1 id _ 1 A h1
  have ab := (C.own id _ b 1 A h1).1
  have ah := J7 C id (.mr g z.n e sz (some (Av l k, (AU l k).isNone)) (An l k (T++ys))) w' (some (b, 1)) (λj => if j=Av l k then some (E, Z) else z.K id j) (z.n+1) V.size V.os V.tape V.output
    (λM F b5 => X M F λcap B => b5 _ A (.inr ⟨_, cap, B⟩))
    (λM k2 F => by cases F;exact⟨rX ab V.size, .inr ⟨_, A, .inl ⟨1, h1⟩⟩⟩)
    (λj M k2 F => by
      split at F
      · rename_i J
        cases F
        refine⟨⟨aq, O.imp _root_.id λ⟨cap, B⟩ => ⟨_, A, .inr ⟨_, cap, B⟩⟩⟩, λk3 I => ?_, λj3 k3 I => ?_⟩
        · cases I
          rcases O with B | ⟨cap, B⟩
          · omega
          · exact aa cap B
        · split at I
          · rename_i a6;rw[a6, J]
          · rename_i a6
            have b6 := C.ext id _ j3 _ k3 A I
            rcases O with B | ⟨cap, B⟩
            · omega
            · exact absurd (b6.2.2.2.2 id _ _ cap A B).2.symm a6
      · rename_i J
        have a0 := C.ext id _ j M k2 A F
        refine⟨⟨rX a0.1 V.size, .inr ⟨_, A, .inr ⟨j, k2, F⟩⟩⟩, λk3 I => by cases I;exact a0.2.2.2.1 id _ 1 A h1, λj3 k3 I => ?_⟩
        split at I
        · rename_i a6
          cases I
          rcases O with B | ⟨cap, B⟩
          · have := a0.1;omega
          · exact absurd (a0.2.2.2.2 id _ _ cap A B).2.symm J
        · exact(a0.2.2.2.2 id _ j3 k3 A I).2)
    (uW _) (vA az) (λ_ => ⟨_, A, rfl, rfl, h1.symm⟩) (λ_ _ hv => absurd hv (by simp[Ab.ver]))
    (λa1 => by
      refine Cb.mr (id := id) (λj => by simp) h0 (s8 _) ((X b ab aa).trans h2) ?_ λj q rs J => ?_
      · cases hg:AU l k with
        | none =>
          have ar:Ah l k=none := by cases hq:Ah l k with | none => rfl | some j => obtain⟨_, _, e2, _⟩ := Df hq;rw[hg] at e2;cases e2
          rw[(Ew ar).2]
          refine⟨by rw[sI, tO, show l.length=es.length from h3], ?_⟩
          unfold Av;rw[ar];exact h3
        | some r =>
          rw[Xq hg];exact h3
      ·
        have ai:(j=Av l k∧q=k∧rs=T++ys)∨(j≠Av l k∧l[j]?=some (q, rs)) := by
          cases hq:Ah l k with
          | none =>
            rw[(Ew hq).2] at J
            have hD:Av l k=l.length := by unfold Av;rw[hq];rfl
            by_cases b7:j<l.length
            · rw[rm b7] at J
              exact .inr ⟨by omega, J⟩
            · have b8:j=l.length := by have := (rW.1 J).1;simp at this;omega
              rw[b8, rl (rV _)] at J
              simp at J
              exact .inl ⟨by omega, J.1.symm, J.2.symm⟩
          | some j0 =>
            obtain⟨v0, f1, f2, f3⟩ := Df hq
            have hD:Av l k=j0 := by unfold Av;rw[hq];rfl
            rw[f3] at J
            by_cases au:j0=j
            · rw[← au, tU (Wb hq)] at J
              cases J
              exact .inl ⟨by omega, rfl, rfl⟩
            · rw[tb au] at J
              exact .inr ⟨by omega, J⟩
        rcases ai with ⟨rfl, rfl, rfl⟩ | ⟨av, b9⟩
        · refine⟨E, Z, us++an, ⟨λrow hr => (sk.1 hr).elim (ad row) (ac row), by simp, by rw[sI];exact U, λi row c d q1 q2 => ?_⟩, ?_⟩
          · have ba:us.length=T.length * sz := a7.1
            by_cases bc:i<T.length
            · rw[rm bc] at q1
              obtain⟨u, q3, q4⟩ := b1 i row c d q1 q2
              exact⟨u, by rw[rm ((rW.1 q3).1)];exact q3, q4.mono (λb hb => a1.blk b (.inl hb)) a1.S⟩
            · rw[rl (by omega)] at q1
              obtain⟨u, q3, q4⟩ := af _ row c d q1 q2
              refine⟨u, ?_, q4.mono (λb hb => a1.blk b (.inl hb)) a1.S⟩
              have B:i * sz+c=us.length+((i - T.length) * sz+c) := by
                rw[ba, Nat.sub_mul]
                have:T.length * sz≤i * sz := sD _ (by omega)
                omega
              rw[B, rl (by omega), uT]
              exact q3
          · cases hg:AU l q with
            | none => exact .inl rfl
            | some r =>
              right
              obtain⟨g1, g2⟩ := KL hg
              obtain⟨_, _, _, _, k5⟩ := h4 _ q r g2
              rcases k5 with k5 | ⟨m, k6, k7, k8, _⟩
              · cases k5
              · exact⟨m, k6, k7, k8, .inl rfl⟩
        · obtain⟨M, a2, bd, k3, k5⟩ := h4 j q rs b9
          refine⟨M, a2, bd, k3.keep a1 (by simp[av]) (X M (C.ext id _ j M a2 A k3.2.1).1 λcap B => av ((C.ext id _ _ M cap A B).2.2.2.2 id _ j a2 A k3.2.1).2), ?_⟩
          rcases k5 with k5 | ⟨m, k6, k7, k8, k9 | k9⟩
          · cases k5
          · cases k9
          · exact .inr ⟨m, k6, k7, k8, .inr k9⟩)
  unfold Oper.wp execOp
  simp only[ho, resolve, invoke, builtin, Sem.run_bind, Sem.run_pure, Result.andThen_ok, ub, ru, tB, ao]
  refine hK _ _ ah.1 ah.2 (by simp only[hH, hn];exact Co _ _ _) (by simp[hn]) ?_
  rw[← hn]
  refine U7 ah.2 (rO rfl) rfl (λhq => by rw[SR] at hq;cases hq) λj rs M c2 J hl aj => ?_
  rw[SR] at J
  cases J
  have := (KL (Gj l k (T++ys)))
  rw[SR] at this
  rw[← (rx this.1)] at this
  rw[this.2] at hl
  cases hl
  simp at aj
  rw[← aj.1, ← aj.2, sI]
theorem cQ{t kt et}{x i y}{id g ve}{e:TypeId}{sz}{l:List (Int × List (List RV))}{k}{j}{nw}(ho:o.op=.mapUpdate t x i y∨o.op=.insert t x i y)(ht:P.underlying t=some (.map kt et))(hk:P.underlying kt=some (.int .i64))
 (hx:Ev c R x (.mref id g)) (hi:Ev c R i (.r (.int .i64 k))) (hy:Ev c R y (.fo id g ve k)) (hh:hget h id=some (.mr g ve e sz (some (j, nw)) l)) (hj:Ah l k=some j) :
    BQ P c o R h n .any ((id, some (.mr g ve e sz none l))::h) n := by
  intro hc z w C hH hn he K Q hK
  have A:z.H id=some (.mr g ve e sz (some (j, nw)) l) := by rw[hH];exact hh
  obtain⟨h0, hv, b, M, h1, h2, h3, h4⟩ := JE C A
  have a8 := XY A (hx.rep he hc) h1
  have a0 := (C.own id _ b 1 A h1).1
  rcases NI C A (hy.rep he hc) with ⟨k1, _⟩ | ⟨j', xs, bb, cap, us, k1, k2, k3, k4, k5⟩
  · rw[hj] at k1;cases k1
  rw[hj] at k1;cases k1
  have X := hi.rep he hc
  generalize aa:w.eval i=iv at X
  cases X with
  | r X =>
    cases X with
    | int =>
      obtain⟨I, B, a2, a6⟩:∃I:List MapEntry, (Instr.mapUpdate t (.map (some b)) (.int .i64 k) (w.eval y)).run P z.w=.ok () { z.w with heap := z.w.heap.setIfInBounds b (.map I.toArray I.length) } ∧ l.length=I.length ∧
          ∀(q:Nat) (E:Int) (rs:List (List RV)), l[q]?=some (E, rs)→∃m, I[q]?=some m∧m.key=.int .i64 E∧m.born=q∧(q=j∧m.val=w.eval y∨q≠j∧M[q]?=some m) := by
        cases nw with
        | true =>
          have T:l.length=M.length+1∧j=M.length := h3
          have Z:Fk (l.take j) M := ⟨by rw[sp];omega, λq E d F => by
            have ab:q<j := by have := (rW.1 F).1;rw[sp] at this;omega
            rw[sV, rO ab] at F
            obtain⟨_, _, _, _, e | ⟨m, O, e2, V, _⟩⟩ := h4 q E d F
            · simp only[rY, rf] at e;omega
            · exact⟨m, O, e2, V⟩⟩
          have B := Q9 Z ht hk (b := b) (w := z.w) (by rw[h2, sp, show min j l.length=M.length by omega]) k (w.eval y)
          rw[mP hj] at B
          refine⟨_, B, by simp[En];omega, λq E rs F => ?_⟩
          by_cases J:q=j
          · subst J
            rw[k3] at F;cases F
            exact⟨{ key := .int .i64 k, val := w.eval y, born := M.length }, by show(M++_)[q]?=_;rw[T.2, rl (rV _)];simp, rfl, T.2.symm, .inl ⟨rfl, rfl⟩⟩
          · have ag := (rW.1 F).1
            obtain⟨_, _, _, _, e | ⟨m, O, e2, V, _⟩⟩ := h4 q E rs F
            · simp only[rY, rf] at e;omega
            · exact⟨m, by show(M++_)[q]?=_;rw[rm (by omega)];exact O, e2, V, .inr ⟨J, O⟩⟩
        | false =>
          have T:l.length=M.length := h3
          have Z:Fk l M := ⟨T.symm, λq E d F => by
            obtain⟨_, _, _, _, e | ⟨m, O, e2, V, _⟩⟩ := h4 q E d F
            · simp at e
            · exact⟨m, O, e2, V⟩⟩
          have B := Q9 Z ht hk (b := b) (w := z.w) (by rw[h2, T]) k (w.eval y)
          rw[hj] at B
          refine⟨_, B, by simp[En];omega, λq E rs F => ?_⟩
          obtain⟨m, O, e2, V⟩ := Z.2 q E rs F
          by_cases J:q=j
          · subst J
            rw[k3] at F;cases F
            exact⟨{ m with key := .int .i64 k, val := w.eval y }, by show(M.modify q _)[q]?=_;rw[List.getElem?_modify_eq, O];rfl, rfl, V, .inl ⟨rfl, rfl⟩⟩
          · exact⟨m, by show(M.modify j _)[q]?=_;rw[List.getElem?_modify_ne (h := λe => J e.symm)];exact O, e2, V, .inr ⟨J, O⟩⟩
      have a7 := J7 C id (.mr g ve e sz none l) { z.w with heap := z.w.heap.setIfInBounds b (.map I.toArray I.length) } (some (b, 1)) (z.K id) z.n (by simp) rfl rfl rfl
        (λb' _ ac => by
          have:b≠b' := λe => ac _ A (.inl ⟨1, by rw[← e];exact h1⟩)
          simp[this])
        (λb' E ad => by cases ad;exact⟨by simpa using a0, .inr ⟨_, A, .inl ⟨1, h1⟩⟩⟩)
        (λj' b' E hb => ⟨⟨by simpa using(C.ext id _ j' b' E A hb).1, .inr ⟨_, A, .inr ⟨j', E, hb⟩⟩⟩, λk2 U => by cases U;exact(C.ext id _ j' b E A hb).2.2.2.1 id _ 1 A h1, λj2 k2 U => ((C.ext id _ j' b' E A hb).2.2.2.2 id _ j2 k2 A U).2⟩)
        (rV _) (C.obj _ _ A).1 (λ_ => ⟨_, A, rfl, rfl, h1.symm⟩)
        (λ_ _ _ => ⟨_, A, rfl, rfl, rfl, rfl, rfl⟩)
        (λae => Cb.mr (id := id) (λj => by simp) h0 hv (by simp[a0]) (show l.length=I.length from a2) λq E rs F => by
          obtain⟨b2, a1, af, q3, q5⟩ := h4 q E rs F
          obtain⟨m, O, e2, V, e4⟩ := a6 q E rs F
          have U:b2≠b := λe => (C.ext id _ q b2 a1 A q3.2.1).2.2.2.1 id _ 1 A (by rw[e];exact h1)
          refine⟨b2, a1, af, q3.keep ae (by simp) (by simp[uR U]), .inr ⟨m, O, e2, V, .inr ?_⟩⟩
          rcases e4 with ⟨rfl, e4⟩ | ⟨J, e4⟩
          · rw[e4, k5]
            rw[k3] at F;cases F
            have e5 := q3.2.1
            rw[k4.2.1] at e5
            cases e5;rfl
          · rcases q5 with q5 | ⟨m', e5, _, _, q6 | q6⟩
            · simp only[rY, rf] at q5;omega
            · simp only[rY, rf] at q6;omega
            · rw[e4] at e5;cases e5;exact q6)
      unfold Oper.wp execOp
      rcases ho with ho | ho<;>
      · rw[ho]
        simp only[a8, aa, Sem.run_bind, B, Result.andThen_ok, Sem.run_pure]
        exact hK undef _ a7.1 a7.2 (by simp only[hH];exact Co _ _ _) hn (.any _)
end
end Go.Proofs.YtifgmfoihehlbaaGreatDoor.Al

namespace Go.Proofs.YtifgmfoihehlbaaGreatDoor.Al
open Go.ChangeMaps (setBlock)
open Go.MapKept Go.RowKit
def Kt{σ:Type}(key:σ→List Int)(ks:List Int)(F:σ→Int→Option σ)(l:σ)(k:Int):Option σ:=(F l k).bind λj=>if key j=ks then some j else none
def FI{σ:Type}(G:σ→Int→Option σ):List Int→σ→Option σ
 | [],j=>some j
 | k::ks,j=>(G j k).bind (FI G ks)
theorem YB{σ:Type}(G:σ→Int→Option σ) l m(j:σ):FI G (l++m) j=(FI G l j).bind (FI G m):=by
 induction l generalizing j with
 | nil=>simp[FI]
 | cons a l q=>
  simp only[sv,FI]
  cases G j a with
  | none=>rfl
  | some s=>simpa using q s
def Rm{σ ρ:Type}(key:σ→List Int)(F:σ→Int→Option σ)(st0:σ)(rest:σ→Option ρ)(r:ρ):Prop:=
 (key st0).Nodup∧∀l:List Int,l.Perm (key st0)→(FI (Kt key (key st0) F) l st0).bind rest=some r
open Classical in
noncomputable def MM{σ ρ:Type}(key:σ→List Int)(F:σ→Int→Option σ)(st0:σ)(rest:σ→Option ρ):Option ρ:=if h:∃r,Rm key F st0 rest r then some h.choose else none
theorem aX{σ ρ:Type}{key:σ→List Int}{F:σ→Int→Option σ}{st0:σ}{rest:σ→Option ρ}{r:ρ}(h:MM key F st0 rest=some r):Rm key F st0 rest r:=by
 unfold MM at h
 split at h
 ·rename_i j
  cases h
  exact j.choose_spec
 ·cases h
theorem pQ{σ ρ:Type}{key:σ→List Int}{F:σ→Int→Option σ}{st0:σ}{rest:σ→Option ρ}{r:ρ}(h:Rm key F st0 rest r):MM key F st0 rest=some r:=by
 have j:∃r,Rm key F st0 rest r:=⟨r,h⟩
 unfold MM
 rw[uB j]
 have m:=j.choose_spec.2 (key st0) (List.Perm.refl _)
 have l:=h.2 (key st0) (List.Perm.refl _)
 rw[m] at l
 exact l
def Ab.mkeys:Ab→Option (List Int)
 | .md _ l=>some (l.map (·.1))
 | .mb _ _ _ l=>some (l.map (·.1))
 | .mr _ _ _ _ none l=>some (l.map (·.1))
 | _=>none
theorem Z6{α β:Type}(rd:α→β)(m:List (Int × α)):(AN rd m).map (·.1)=m.map (·.1):=by simp[AN]
theorem TO{α:Type} g v e(row:α→List RV)(m:List (Int × α)):(Ab.mb g v e (AN row m)).mkeys=some (m.map (·.1)):=by simp[Ab.mkeys,Z6]
theorem Tv{x:Cx}(B:x.ok){id}{ob:Ab}{ks:List Int}{v}(V:x.H id=some ob)(E:ob.mkeys=some ks)(X:AO x (.mref id ob.gen) v) :
  ∃(b:Nat) (q:List MapEntry),x.β id=some (b,1)∧v=.map (some b)∧x.w.heap[b]?=some (.map q.toArray ks.length)∧q.length=ks.length∧∀(j:Nat) (k:Int),ks[j]?=some k→∃m,q[j]?=some m∧m.key=.int .i64 k∧m.born=j:=by
 have C:∀b,x.β id=some (b,1)→v=.map (some b):=by
  intro b w
  cases X with
  | mref _ _ X=>
   obtain⟨b',cap,Z,k2⟩:=X _ V rfl
   rw[w] at Z
   simp only[rY,rf] at Z
   obtain⟨rfl,rfl⟩:=Z
   exact k2
 cases ob with
 | md g l=>
  cases E
  obtain⟨_,b,q,w,F,I,J⟩:=B.obj _ _ V
  refine⟨b,q,w,C b w,by simpa using F,by simpa using I,λj k A=>?_⟩
  rw[rc,rg] at A
  obtain⟨p,hp,rfl⟩:=A
  obtain⟨m,M,O,T,_⟩:=J j p.1 p.2 hp
  exact⟨m,M,O,T⟩
 | mb g ve e l=>
  cases E
  obtain⟨_,_,b,q,w,F,I,J⟩:=B.obj _ _ V
  refine⟨b,q,w,C b w,by simpa using F,by simpa using I,λj k A=>?_⟩
  rw[rc,rg] at A
  obtain⟨p,hp,rfl⟩:=A
  obtain⟨m,_,_,M,O,T,_⟩:=J j p.1 p.2 hp
  exact⟨m,M,O,T⟩
 | mr g ve e sz hole l=>
  cases hole with
  | some _=>cases E
  | none=>
   cases E
   obtain⟨h0,a0,b,q,w,F,I,J⟩:=JE B V
   have U:l.length=q.length:=I
   refine⟨b,q,w,C b w,by rw[F,rt,U],by simp[U],λj k A=>?_⟩
   rw[rc,rg] at A
   obtain⟨p,hp,rfl⟩:=A
   obtain⟨_,_,_,_,e | ⟨m,M,O,T,_⟩⟩:=J j p.1 p.2 hp
   ·cases e
   ·exact⟨m,M,O,T⟩
 | _=>cases E
theorem W4{x:Cx}(j:x.ok){id g mid mg len}{seen:List Nat}{v}(w:x.H id=some (.mj g mid mg len seen))(l:AO x (.ptr id g 0 0) v) :
  ∃b m:Nat,x.β id=some (b,1)∧v=.pointer (some ⟨b,0,none⟩)∧x.w.heap[b]?=some (.mapIter (some m) len seen.toArray len)∧AO x (.mref mid mg) (.map (some m)):=by
 obtain⟨_,b,m,A,B,C⟩:=j.obj _ _ w
 cases l with
 | ptr _ _ l=>
  obtain⟨F,cap,q,E⟩:=l _ w rfl
  rw[A] at q
  simp only[rY,rf] at q
  obtain⟨rfl,rfl⟩:=q
  exact⟨b,m,A,by rw[E,uo],B,C⟩
section
variable{P:Program}{c:Bool}{o:Oper}{R:Am}{h:Ag}{n:Nat}
theorem Z2{t I J}{x}{id}{ob:Ab}{ks:List Int}(id':Nat)(M:o.op=.range t x)(O:P.underlying t=some (.map I J))(T:Ev c R x (.mref id ob.gen))(U:hget h id=some ob)(V:ob.mkeys=some ks)(BT:(id'==id)=false) :
  BQ P c o R h n (.ptr id' n 0 0) ((id',some (.mj n id ob.gen ks.length []))::h) (n+1):=by
 intro X z w l E A Z K Q hK
 have j:=T.rep Z X
 obtain⟨b,es,h1,F,h3,h4,h5⟩:=Tv l (by rw[E];exact U) V j
 have m:=Dj l id' (.mj z.n id ob.gen ks.length []) (z.w.alloc (.mapIter (some b) ks.length #[] ks.length)) (some (z.w.heap.size,1)) (z.n+1) (by simp) rfl rfl rfl
  (λb B _=>heap_alloc_old _ _ B) (λb k B=>by cases B;simp) (by omega) (by simp[Ab.gen]) (λhg=>absurd hg (by simp[Ab.gen]))
  (λC=>⟨z.w.heap.size,b,rfl,heap_alloc_new _ _,by rw[F] at j;exact j.mono C⟩)
 unfold Oper.wp execOp
 rw[M]
 simp only[F,Sem.run_bind,run_range_map _ _ _ _ _ _ _ O h3,Result.andThen_ok,Sem.run_pure]
 refine hK (.pointer (some ⟨z.w.heap.size,0,none⟩)) _ m.1 m.2 (by simp only[E,A];exact Co _ _ _) (by simp[A]) (.ptr (by simp[A]) rfl λo' q _=>?_)
 simp only[rO] at q
 cases q
 exact⟨z.w.heap.size,1,by simp,by simp⟩
end
end Go.Proofs.YtifgmfoihehlbaaGreatDoor.Al

namespace Go.Proofs.YtifgmfoihehlbaaGreatDoor.Al
open Go.ChangeMaps (setBlock)
open Go.MapKept Go.RowKit
theorem ZW{e' e}{h' h}{n' n N}(J:∀t,get e' t=.any∨get e' t=get e t)(M:∀id,hget h' id=none∨hget h' id=hget h id)(O:n≤n'):AZ ⟨e,h,n,N⟩ ⟨e',h',n',N⟩:=by
 intro V a w ⟨_,l,hsz,y,A,B,C,T,E,m⟩
 have q:∀id o,hget h' id=some o→y.H id=some o:=by
  intro id o F
  rw[T]
  rcases M id with j | j
  ·rw[j] at F;cases F
  ·rw[← j];exact F
 obtain⟨I,U⟩:=LR C (hget h') q n' (by rw[E];exact O)
 refine⟨_,l,hsz,{ y with H:=hget h',n:=n' },A,B.trans I,U,rfl,rfl,λt=>?_⟩
 rcases J t with j | j
 ·rw[j];exact .any _
 ·rw[j];exact(m t).mono I
section
variable{P:Program}{ops:Array Oper}{rest:List Oper}{s:St}{K:St→Prop}{o:Oper}
theorem qV{d}{x}{id g mid len}{ob:Ab}{ks:List Int}{seen:List Nat}(hg:o.guard=none)(hd:o.dst=some d)(hN:d<s.N)(ho:o.op=.next x false)(hx:Ev true s.e x (.ptr id g 0 0))
 (hh:hget s.h id=some (.mj g mid ob.gen len seen)) (hm:hget s.h mid=some ob) (hk:ob.mkeys=some ks) (hl:len=ks.length)
 (hf:(∀j, j<len→j ∈ seen)→AX P ops rest { e := (d, .tup [.r (.bool false)])::s.e, h := s.h, n := s.n, N := s.N } K)
 (ht:∀j, j<len→j ∉ seen→AX P ops rest { e := (d, .tup [.r (.bool true), .any, .any])::s.e, h := (id, some (.mj g mid ob.gen len (seen++[j])))::s.h, n := s.n, N := s.N } K):AX P ops (o::rest) s K := by
  subst hl
  intro c0 a w ⟨_, M, hsz, z, a8, F, A, hH, hn, he⟩ Q hQ
  subst a8
  refine wpList_plain hg λK' a0 => ?_
  have l:z.H id=some (.mj g mid ob.gen ks.length seen) := by rw[hH];exact hh
  obtain⟨b, m, h1, h2, h3, h4⟩ := W4 A l (hx.rep he rfl)
  obtain⟨bm, O, k1, k2, k3, k4, k5⟩ := Tv A (by rw[hH];exact hm) hk h4
  cases k2
  have hb := (A.own id _ b 1 l h1).1
  have B:∀e ∈ O, ∃j, j<ks.length∧O[j]?=some e∧e.born=j := by
    intro e he'
    obtain⟨j, hj⟩ := sj.1 he'
    have a1:j<ks.length := by have := (rW.1 hj).1;omega
    obtain⟨m', e1, e2, e3⟩ := k5 j ks[j] (rU a1)
    rw[hj] at e1;cases e1
    exact⟨j, a1, hj, e3⟩
  have a2:∀e ∈ O.toArray.toList, e.born<ks.length := λe he' => by
    obtain⟨j, h1, _, h3⟩ := B e (by simpa using he')
    omega
  have a6:d<a.tmps.size := by rw[hsz];exact hN
  unfold Oper.wp execOp
  rw[ho]
  rcases run_next_at (P := P) z.w o.type b m ks.length ks.length seen.toArray O.toArray ks.length h3 k3 a2 (rV _) with ⟨aa, C⟩ | ⟨e, he', X, I, C⟩
  · simp only[h2, Sem.run_bind, C, Result.andThen_ok, Sem.run_pure]
    refine a0 _ _ ?_
    rw[hd]
    refine hf (λj hj => ?_) c0 (a.put (some d) (.tuple #[.bool false])) z.w ⟨_, M, by simpa[Act.put] using hsz, z, rfl, F, A, hH, hn, he.put a6 (.tup rfl λi a u E hu => ?_)⟩ Q hQ
    · obtain⟨m', e1, _, e3⟩ := k5 j ks[j] (rU hj)
      have q:m' ∈ O.toArray := by simpa using rq e1
      have T:¬ m' ∈ leftOf O.toArray seen.toArray := λhx => by
        have := Array.size_pos_of_mem hx
        omega
      unfold leftOf at T
      rw[Array.mem_filter] at T
      have:seen.contains m'.born=true := by
        have Z := λh => T ⟨q, h⟩
        simpa using Z
      rw[e3] at this
      simpa using this
    · rcases i with _ | i
      · simp at E hu;subst E;subst hu;exact .r (.bool false)
      · simp at E
  · have q:e ∈ O∧seen.contains e.born=false := by
      have Z:e ∈ leftOf O.toArray seen.toArray := by simpa using he'
      unfold leftOf at Z
      rw[Array.mem_filter] at Z
      exact⟨by simpa using Z.1, by simpa using Z.2⟩
    obtain⟨j, ab, ai, a7⟩ := B e q.1
    have ac:j ∉ seen := by
      have := q.2
      rw[a7] at this
      simpa using this
    have J:X.heap=z.w.heap := by rcases I with rfl | rfl<;>rfl
    have ad:X.os=z.w.os := by rcases I with rfl | rfl<;>rfl
    have ae:X.tape=z.w.tape := by rcases I with rfl | rfl<;>rfl
    have af:X.output=z.w.output := by rcases I with rfl | rfl<;>rfl
    have U := Dj A id (.mj g mid ob.gen ks.length (seen++[j])) (setBlock X b (.mapIter (some m) ks.length (seen++[j]).toArray ks.length)) (some (b, 1)) z.n (by simp[setBlock, J]) ad ae af
      (λb' _ ag => by
        have:b≠b' := λe => ag _ 1 l (by rw[← e];exact h1)
        simp[setBlock, J, this])
      (λb' k' ah => by cases ah;exact⟨by simpa[setBlock, J] using hb, .inr ⟨_, _, l, h1⟩⟩) (rV _) (A.obj _ _ l).1 (λ_ => ⟨_, l, rfl, rfl, h1.symm⟩)
      (λF => ⟨b, m, rfl, by simp[setBlock, J, hb], h4.mono F⟩)
    have V:(Instr.next (.pointer (some ⟨b, 0, none⟩)) false o.type).run P z.w=.ok (.tuple #[.bool true, e.key, e.val]) (setBlock X b (.mapIter (some m) ks.length (seen++[j]).toArray ks.length)) := by
      rw[C, a7];simp
    simp only[h2, Sem.run_bind, V, Result.andThen_ok, Sem.run_pure]
    refine a0 _ _ ?_
    rw[hd]
    refine ht j ab ac c0 (a.put (some d) _) _ ⟨_, M, by simpa[Act.put] using hsz, _, rfl, F.trans U.1, U.2, by simp only[hH];exact Co _ _ _, hn, (he.mono U.1).put a6 (.tup rfl λi a u E hu => ?_)⟩ Q hQ
    rcases i with _ | _ | _ | i
    · simp at E hu;subst E;subst hu;exact .r (.bool true)
    · simp at E;subst E;exact .any _
    · simp at E;subst E;exact .any _
    · simp at E
end
section
variable{P:Program}{c:Bool}{o:Oper}{R:Am}{h:Ag}{n:Nat}
theorem bD{y:Cx}{a:Act}(A:y.ok)(O:y.H=hget h){x}{id g mid len j}{ob:Ab}{ks:List Int}{ys:List Nat}{k}(ho:o.op=.entry x)(hv:AO y (.ptr id g 0 0) (a.eval x))(hh:hget h id=some (.mj g mid ob.gen len (ys++[j])))(hm:hget h mid=some ob)
 (hk:ob.mkeys=some ks) (hl:len=ks.length) (hj:ks[j]?=some k):∃F m, y.β mid=some (F, 1)∧m.key=.int .i64 k∧m.born=j∧(∀w, Dc y w→(execOp a.eval o).run P w=.ok (.value (.tuple #[.int .i64 k, m.val])) w) ∧
      ∃l:List MapEntry, l[j]?=some m∧y.w.heap[F]?=some (.map l.toArray ks.length) := by
  subst hl
  have q:y.H id=some (.mj g mid ob.gen ks.length (ys++[j])) := by rw[O];exact hh
  have B:y.H mid=some ob := by rw[O];exact hm
  obtain⟨b, m, h1, h2, h3, h4⟩ := W4 A q hv
  obtain⟨F, l, T, k2, U, k4, V⟩ := Tv A B hk h4
  cases k2
  obtain⟨e, X, Z, e3⟩ := V j k hj
  refine⟨m, e, T, Z, e3, λw C => ?_, l, X, U⟩
  have I:w.heap[b]?=some (.mapIter (some m) ks.length (ys.toArray.push e.born) ks.length) := by
    rw[C b (.inr ⟨id, _, 1, q, .inl h1⟩), h3, e3];simp
  have J:w.heap[m]?=some (.map l.toArray ks.length) := by rw[C m (.inr ⟨mid, _, 1, B, .inl T⟩)];exact U
  have M:(l.toArray.toList.map (·.born)).Nodup := by
    have:l.map (·.born)=List.range l.length := by
      refine tK λi => ?_
      rw[rc]
      by_cases hi:i<l.length
      · obtain⟨m', f1, _, f3⟩ := V i (ks[i]'(by omega)) (rU (by omega))
        rw[f1, uI hi]
        simp[f3]
      · rw[sy (by omega), sy (by simpa using hi)];rfl
    rw[this];exact uf
  have E := run_entry_at (P := P) w b m ks.length ys.toArray l.toArray ks.length e I J (by simpa using rq X) M
  simp only[execOp, ho, h2, Sem.run_bind, E, Result.andThen_ok, Sem.run_pure, Z]
theorem nu{α:Type}{row}{x}{id g mid mg J len j}{e}{m:List (Int × α)}{ys}{k}{a}(ho:o.op=.entry x)(hx:Ev c R x (.ptr id g 0 0))(hh:hget h id=some (.mj g mid mg len (ys++[j])))(hm:hget h mid=some (.mb mg J e (AN row m)))
 (hl:m.length=len) (M:m[j]?=some (k, a)) (T:(m.map (·.1)).Nodup):AY P c o R h (.tup [.r (.int .i64 k), .pk mid mg J (Av m k) 0]) := by
  intro hc y w A hH he
  have B:y.H mid=some (.mb mg J e (AN row m)) := by rw[hH];exact hm
  obtain⟨bm, en, k1, k2, k3, C, es, k4, k5⟩ := bD A hH (P := P) ho (hx.rep he hc) hh hm (TO mg J e row m) (by simp[hl]) (k := k) (by rw[rc, M];rfl)
  refine⟨_, C, .tup rfl λi a' u' E O => ?_⟩
  rcases i with _ | _ | i
  · simp at E O;subst E;subst O;exact .r (.int _ _)
  · simp at E O;subst E;subst O
    obtain⟨_, h0, b, U, F, I, h3, h4⟩ := A.obj _ _ B
    rw[k1] at F;cases F
    rw[k5] at I
    simp only[rY, Obj.map.injEq] at I
    have V:es=U := by simpa using ro Array.toList I.1
    obtain⟨m', bb, a0, f1, _, _, f4, f5, _⟩ := h4 j k (row a) (by rw[UG, M];rfl)
    rw[← V, k4] at f1;cases f1
    have hD:Av m k=j := by
      have hg:∃v, AU m k=some v := by
        cases X:Ah m k with
        | none =>
          exfalso
          have:∀(l:List (Int × α)) (j:Nat), l[j]?=some (k, a)→Ah l k≠none := by
            intro l
            induction l with
            | nil => intro j h;simp at h
            | cons p r ih =>
              intro j h
              unfold Ah
              split
              · simp
              · rename_i hk
                cases j with
                | zero => simp at h;exact absurd (by rw[h]) hk
                | succ j => simpa using ih j (by simpa using h)
          exact this m j M X
        | some j' => obtain⟨v, _, Z, _⟩ := Df X;exact⟨v, Z⟩
      obtain⟨v, hg⟩ := hg
      obtain⟨_, Z⟩ := KL hg
      have F:(m.map (·.1))[Av m k]?=some k := by rw[rc, Z];rfl
      have I:(m.map (·.1))[j]?=some k := by rw[rc, M];rfl
      exact(List.getElem?_inj (rW.1 F).1 T).1 (F.trans I.symm)
    rw[hD]
    exact VG A B h0 (by rw[f5];rfl) λq cs b c X hK => by rw[f4] at hK;cases hK;exact f5
  · simp at E
end
theorem ga{α:Type}{m:List (Int × α)}{j:Nat}{k:Int}(l:(m.map (·.1))[j]?=some k):∃a,m[j]?=some (k,a):=by
 rw[rc,rg] at l
 obtain⟨p,q,rfl⟩:=l
 exact⟨p.2,q⟩
section
variable{P:Program}{c:Bool}{o:Oper}{R:Am}{h:Ag}{n:Nat}
theorem jR{α:Type}{row:α→List RV}{x:Operand}{id g mid mg q len j:Nat}{e:TypeId}{m:List (Int × α)}{ys:List Nat}{k:Int}(w:o.op=.entry x)(A:Ev c R x (.ptr id g 0 0))(B:hget h id=some (.mj g mid mg len (ys++[j])))(C:hget h mid=some (.mb mg q e (AN row m)))
  (E:(m.map (·.1)).length=len) (F:(m.map (·.1))[j]?=some k) (l:(m.map (·.1)).Nodup):AY P c o R h (.tup [.r (.int .i64 k),.pk mid mg q (Av m k) 0]):=by
 obtain⟨b,I⟩:=ga F
 exact nu w A B C (by simpa using E) I l
end
section
variable{P:Program}{s:St}
theorem UO{L}{ys:List Nat}(m:ys.Nodup)(q:∀j∈ys,j<L){j}(E:j<L)(w:j ∉ ys):(ys++[j]).Nodup∧(ys++[j]++(List.range L).filter λi=>!(ys++[j]).contains i).Perm (List.range L):=by
 have B:(ys++[j]).Nodup:=by
  rw[vB]
  exact⟨m,by simp,λa A b l e=>by simp at l;subst l;subst e;exact w A⟩
 refine⟨B,(List.perm_ext_iff_of_nodup ?_ uf).2 λi=>?_⟩
 ·rw[vB]
  refine⟨B,(uf).filter _,λa A b l e=>?_⟩
  subst e
  rw[tS] at l
  have:=l.2
  simp only[sU,List.contains_eq_mem,sd] at this
  exact this A
 ·simp only[sk,tS,sA,sU,List.contains_eq_mem,sd,s7]
  constructor
  ·rintro((h | rfl) | h)
   ·exact q i h
   ·exact E
   ·exact h.1
  ·intro h
   by_cases C:i∈ys∨i=j
   ·exact .inl C
   ·exact .inr ⟨h,C⟩
theorem fb{σ ρ:Type}{G:σ→Int→Option σ}{ks:List Int}{st0 w:σ}{rest:σ→Option ρ}{r:ρ}(I:∀l:List Int,l.Perm ks→(FI G l st0).bind rest=some r){ys:List Nat}(A:ys.Nodup)(B:∀j∈ys,j<ks.length)
  (C:FI G (ys.map λj=>ks.getD j 0) st0=some w) {j:Nat} (J:j<ks.length) (E:j ∉ ys):∃st',G w (ks.getD j 0)=some st':=by
 have m:=(UO A B J E).2
 have q:((List.range ks.length).map λj=>ks.getD j 0)=ks:=by
  refine tK λi=>?_
  rw[rc]
  by_cases F:i<ks.length
  ·rw[uI F];simp[F]
  ·rw[sy (by simpa using F),sy (by omega)];rfl
 have h:=I _ (q ▸ m.map λj=>ks.getD j 0)
 rw[tC,tC,sg,YB,C] at h
 simp only[sJ,ru,tB,sv,se,FI] at h
 cases M:G w (ks.getD j 0) with
 | none=>rw[M] at h;cases h
 | some st'=>exact⟨st',rfl⟩
theorem gx{σ ρ:Type}{G:σ→Int→Option σ}{ks:List Int}{st0 F:σ}{rest:σ→Option ρ}{r:ρ}(I:∀l:List Int,l.Perm ks→(FI G l st0).bind rest=some r){ys:List Nat}(A:ys.Nodup)(B:∀j∈ys,j<ks.length)
  (C:FI G (ys.map λj=>ks.getD j 0) st0=some F) (q:∀j,j<ks.length→j∈ys):rest F=some r:=by
 have m:ys.Perm (List.range ks.length):=(List.perm_ext_iff_of_nodup A uf).2 λi=>⟨λh=>by simpa using B i h,λh=>q i (by simpa using h)⟩
 have w:((List.range ks.length).map λj=>ks.getD j 0)=ks:=by
  refine tK λi=>?_
  rw[rc]
  by_cases E:i<ks.length
  ·rw[uI E];simp[E]
  ·rw[sy (by simpa using E),sy (by omega)];rfl
 have h:=I _ (w ▸ m.map λj=>ks.getD j 0)
 rw[C] at h
 exact h
theorem q8{σ ρ:Type}{bid CA d1 d2:Nat}{o1 o2:Oper}{x:Operand}{body:Code}{Q:Exit→St→Prop}{key:σ→List Int}{F:σ→Int→Option σ}{st0:σ}{rest:σ→Option ρ}{r:ρ}
  (it:Nat) {g mid mg:Nat} (J:σ→(Nat→Nat)→Am) (Hf:σ→(Nat→Nat)→Ag) (nf:(Nat→Nat)→Nat) (hr:MM key F st0 rest=some r)
  (hw:∃i,AZ s ⟨J st0 i,(it,some (.mj g mid mg (key st0).length []))::Hf st0 i,nf i,s.N⟩)
  (ae:o1.guard=none) (af:o1.dst=some d1) (ag:Nat.blt d1 s.N=true) (ah:o1.op=.next x false) (a2:o2.guard=none) (a6:o2.dst=some d2) (a7:Nat.blt d2 s.N=true) (a8:o2.op=.extract (.tmp d1) 0)
  (hx:∀l i,Ev true (J l i) x (.ptr it g 0 0)) (aa:∀l i,get (J l i) d1=.any) (ai:∀l i,get (J l i) d2=.any) (hm:∀l i,∃ob,hget (Hf l i) mid=some ob∧ob.gen=mg∧ob.mkeys=some (key l)) (aj:(it==mid)=false) (ab:∀l i,hget (Hf l i) it=none)
  (V:∀l k j A w i,F l k=some w→(key l)[j]?=some k→(key l).Nodup→(key l).length=(key st0).length→AW P body (λe s'=>e=.normal∧∃i',AZ s' ⟨J w i',(it,some (.mj g mid mg (key st0).length (A++[j])))::Hf w i',nf i',s.N⟩)
   ⟨(d2,.r (.bool true))::J l i,(it,some (.mj g mid mg (key st0).length (A++[j])))::Hf l i,nf i,s.N⟩)
  (X:∀Z i,rest Z=some r→Q .normal ⟨J Z i,Hf Z i,nf i,s.N⟩) :
  AW P (.block bid (.loop (.seq (.region CA #[o1,o2] false) (.seq (.cond (.tmp d2) .skip (.exit bid)) body)))) Q s:=by
 obtain⟨ak,T⟩:=aX hr
 have ac:it≠mid:=by simpa using aj
 refine AW.block ?_
 let L:=(key st0).length
 refine AW.loop (λm s'=>∃(A:List Nat) (l:σ) (i:Nat→Nat),A.Nodup∧(∀j∈A,j<L)∧m=L-A.length∧key l=key st0∧FI (Kt key (key st0) F) (A.map λj=>(key st0).getD j 0) st0=some l∧s'=⟨J l i,(it,some (.mj g mid mg L A))::Hf l i,nf i,s.N⟩) L
  (by obtain⟨i,hw⟩:=hw;exact⟨_,hw,[],st0,i,by simp,by simp,by simp,rfl,rfl,rfl⟩) ?_
 rintro m s' ⟨A,l,i,M,E,rfl,O,B,rfl⟩
 obtain⟨ob,al,U,ad⟩:=hm l i
 refine AW.seq (AW.region (l:=[o1,o2]) ?_)
 refine qV (ob:=ob) (ks:=key l) (id:=it) (g:=g) (mid:=mid) (len:=L) (seen:=A) ae af (Cn ag) ah (hx l i) (by rw[BI,rO rfl,U]) (by rw[BI,rN ac];exact al) ad (by rw[O]) (λa0=>?_) (λj hj a1=>?_)
 ·
  refine AX.step a2 a6 a7 (B2 (Sj a8 (vs:=[.r (.bool false)]) (by exact .inl (by rw[show ∀e,BP e (.tmp d1)=get e d1 from λ_=>rfl,DD,rO rfl])) rfl) _) (AX.nil ?_)
  refine AW.seq (AW.cond (b:=false) (by rw[show ∀e,BP e (.tmp d2)=get e d2 from λ_=>rfl,DD,rO rfl]) (λh=>by cases h) λ_=>Sb (AW.exit ⟨⟨J l i,Hf l i,nf i,s.N⟩,ZW (λt=>?_) (λid=>?_) (rV _),?_⟩))
  ·rw[DD,DD]
   by_cases I:d2=t
   ·subst I;exact .inl (ai l i)
   ·rw[rN I]
    by_cases q:d1=t
    ·subst q;exact .inl (aa l i)
    ·rw[rN q];exact .inr rfl
  ·rw[BI]
   by_cases q:it=id
   ·subst q;exact .inl (ab l i)
   ·rw[rN q];exact .inr rfl
  ·show Tx bid Q (.exit bid) _
   show(if bid=bid then Q .normal _ else _)
   rw[rO rfl]
   exact X l i (gx T M E B a0)
 ·
  obtain⟨w,C⟩:=fb T M E B hj a1
  have hk:(key l)[j]?=some ((key st0).getD j 0):=by rw[O];simp[List.getD,rU hj]
  have hF:F l ((key st0).getD j 0)=some w∧key w=key st0:=by
   unfold Kt at C
   rw[tv] at C
   obtain⟨aq,q,I⟩:=C
   split at I
   ·rename_i h3;cases I;exact⟨q,h3⟩
   ·cases I
  refine AX.step a2 a6 a7 (B2 (Sj a8 (vs:=[.r (.bool true),.any,.any]) (by exact .inl (by rw[show ∀e,BP e (.tmp d1)=get e d1 from λ_=>rfl,DD,rO rfl])) rfl) _) (AX.nil ?_)
  refine AW.seq (AW.cond (b:=true) (by rw[show ∀e,BP e (.tmp d2)=get e d2 from λ_=>rfl,DD,rO rfl]) (λ_=>AW.skip ?_) λh=>by cases h)
  show AW P body _ _
  refine AW.weak (s':=⟨(d2,.r (.bool true))::J l i,(it,some (.mj g mid mg L (A++[j])))::Hf l i,nf i,s.N⟩) (ZW (λt=>?_) (λid=>?_) (rV _)) ?_
  ·rw[DD,DD,DD]
   by_cases I:d2=t
   ·rw[rO I,rO I];exact .inr rfl
   ·rw[rN I,rN I]
    by_cases q:d1=t
    ·subst q;exact .inl (aa l i)
    ·rw[rN q];exact .inr rfl
  ·rw[BI,BI,BI]
   by_cases q:it=id
   ·rw[rO q,rO q,U];exact .inr rfl
   ·rw[rN q,rN q,rN q];exact .inr rfl
  ·refine(V l _ j A w i hF.1 hk (by rw[O];exact ak) (by rw[O])).mono λe s2 ⟨he,i',an⟩=>?_
   subst he
   refine⟨L-(A++[j]).length,?_,_,an,A++[j],w,i',?_,?_,rfl,hF.2,?_,rfl⟩
   ·have ao:A.length<L:=by
     have q:=(UO M E hj a1).2.length_eq
     simp only[sI,tO,u7] at q
     omega
    simp;omega
   ·exact(UO M E hj a1).1
   ·intro a ha
    simp only[sk,s7] at ha
    rcases ha with ha | rfl
    ·exact E a ha
    ·exact hj
   ·rw[tC,YB,B]
    simp only[sJ,ru,tB,FI,C]
end
end Go.Proofs.YtifgmfoihehlbaaGreatDoor.Al

namespace Go.Proofs.YtifgmfoihehlbaaGreatDoor.Al
open Go.MapKept Go.RowKit
section
variable{P:Program}{c:Bool}{o:Oper}{R:Am}{h:Ag}{n:Nat}
theorem IE{t}{z}(h:DS P t z)(w:World):(zeroValue t).run P w=.ok z w:=by
 obtain⟨i,j,l⟩:=h
 simp[zeroValue,typeInfo,j,l]
theorem R1{α:Type}(rd:α→RV){t} id(j:o.op=.makeMap t none):BQ P c o R h n (.mref id n) ((id,some (.md n (AN rd ([]:List (Int × α)))))::h) (n+1):=l9 id j
theorem eI{α:Type}(row:α→List RV){t} id e(j:o.op=.makeMap t none):BQ P c o R h n (.mref id n) ((id,some (.mb n n e (AN row ([]:List (Int × α)))))::h) (n+1):=aQ id e j
theorem ft{α:Type}(f:α→List RV){t} id e sz(j:o.op=.makeMap t none)(hsz:Nat.blt 0 sz=true) :
  BQ P c o R h n (.mref id n) ((id,some (.mr n n e sz none (AN (λ(l:List α)=>l.map f) [])))::h) (n+1):=dp id e sz j hsz
theorem PP{α:Type}{row:α→List RV}{m j:List (Int × α)}{k:Int}{a:α}(l:Av j k=Av m k)(q:AU m k=some a):(AN row m)[Av j k]?=some (k,row a):=by
 rw[l,UG,(KL q).2];rfl
theorem RR{α:Type}{row:α→List RV}{t:TypeId}{x:Operand}{f off:Nat}{id g j q:Nat}{e:TypeId}{m l:List (Int × α)}{k:Int}{a:α}(w:o.op=.fieldAddr t x f)(A:Aq P t f off)(B:Ev c R x (.pk id g j (Av l k) q))(C:hget h id=some (.mb g j e (AN row m)))
  (E:Av l k=Av m k) (F:c=true→AU m k=some a):AY P c o R h (.pk id g j (Av l k) (q+off)):=
 jq w A B C λI=>by rw[PP E (F I)];rfl
theorem Th{α:Type}{row:α→List RV}{t:TypeId}{x:Operand}{id g j q:Nat}{e:TypeId}{m l:List (Int × α)}{k:Int}{a:α}{d:RV}(w:o.op=.load t x)(A:BY P t)(B:Ev c R x (.pk id g j (Av l k) q))(C:hget h id=some (.mb g j e (AN row m)))
  (E:Av l k=Av m k) (F:c=true→AU m k=some a) (hd:(row a)[q]?=some d):AY P c o R h (.r d):=
 fq w A B C (λI=>PP E (F I)) hd
theorem YN{α:Type}{row:α→List RV}{t:TypeId}{x:Operand}{id g l sz:Nat}{e:TypeId}{m q:List (Int × α)}{k:Int}{a:α}{cs:List AV}(w:o.op=.load t x)(A:Bo P t sz)(B:Ev c R x (.pk id g l (Av q k) 0))(C:hget h id=some (.mb g l e (AN row m)))
  (E:Av q k=Av m k) (F:c=true→AU m k=some a) (I:(row a).length=sz) (j:(row a).map .r=cs):AY P c o R h (.agg cs):=by
 subst j
 exact jk w A B C (λJ=>PP E (F J)) I
theorem bY{α β:Type}{row:α→β}{m:List (Int × α)}{k:Int}{a a':α}(j:AU m k=some a):(AN row m).set (Av m k) (k,row a')=AN row (An m k a'):=by
 have l:AU (AN row m) k=some (row a):=by rw[KU,j];rfl
 rw[← RW]
 obtain⟨q,_⟩:=KL l
 obtain⟨_,_,_,w⟩:=Df q
 rw[w,SG]
theorem o7{α:Type}{row:α→List RV}{t:TypeId}{x y:Operand}{id g j q:Nat}{e:TypeId}{m l:List (Int × α)}{k:Int}{a a':α}{d:RV}(B:o.op=.store t x y)(C:∃i,P.info? t=some i∧i.size=1)(E:Ev c R x (.pk id g j (Av l k) q))(F:hget h id=some (.mb g j e (AN row m)))
  (w:Av l k=Av m k) (A:AU m k=some a) (I:Ev c R y (.r d)) (J:Nat.blt q (row a).length=true) (M:(row a).set q d=row a'):BQ P c o R h n .any ((id,some (.mb g j e (AN row (An m k a'))))::h) n:=by
 have:=nS (n:=n) B C E F (PP w A) J I
 rwa [M,w,bY A] at this
theorem L4{α:Type}{row:α→List RV}{x:Operand}{id g l q:Nat}{e:TypeId}{m A:List (Int × α)}{k:Int}{a:α}(F:o.op=.nilCheck x)(I:Ev c R x (.pk id g l (Av A k) q))(J:hget h id=some (.mb g l e (AN row m)))
  (M:Av A k=Av m k) (O:c=true→AU m k=some a):AY P c o R h (.pk id g l (Av A k) q):=by
 intro C z w B T U
 have j:z.H id=some (.mb g l e (AN row m)):=by rw[T];exact J
 have E:=I.rep U C
 obtain⟨bb,V,k1,X,_⟩:=PV B j E (PP M (O C))
 refine⟨w.eval x,λw2 Z=>?_,E⟩
 unfold execOp
 rw[F]
 simp[X]
theorem UK{α:Type}{f}{t j q}{x i}{id g A}{e}{sz}{m}{k}(B:o.op=.lookup t x i false)(C:P.underlying t=some (.map j q))
 (E:P.underlying j=some (.int .i64)) (F:∀w, (zeroValue q).run P w=.ok (.slice none 0 0) w) (I:Ev c R x (.mref id g)) (J:Ev c R i (.r (.int .i64 k))) (M:hget h id=some (.mr g A e sz none (AN (λ(l:List α) => l.map f) m))) :
    AY P c o R h (.fo id g A k) := oe B C E F I J M
theorem MO{α:Type}{f:α→List RV}{m:List (Int × List α)}{k:Int} : (AU (AN (λ(l:List α)=>l.map f) m) k).getD []=((AU m k).getD []).map f:=by
 rw[KU]
 cases AU m k<;>rfl
theorem pU{α:Type}{f:α→List RV}{t:TypeId}{e e':TypeId}{sz j:Nat}{x:Operand}{id g q:Nat}{hole:Option (Nat × Bool)}{m:List (Int × List α)}{k:Int}(w:o.op=.call { callee:=.builtin .len,args:=#[x],argTypes:=#[t] })(A:EQ P t e sz)
  (B:Ev c R x (.fo id g q k)) (C:hget h id=some (.mr g q e' j hole (AN (λ(l:List α)=>l.map f) m))):AY P c o R h (.r (.int .i64 ((AU m k).getD []).length)):=by
 have:=nZ w A B C
 rwa [MO,rt] at this
theorem gi{α:Type}{f:α→List RV}{t e e':TypeId}{sz:Nat}{x y:Operand}{id g j:Nat}{hole:Option (Nat × Bool)}{m:List (Int × List α)}{k:Int}{w:IntKind}{z:Int}{a:α}(A:o.op=.indexAddr t x y)(B:EQ P t e sz)(C:Ev c R x (.fo id g j k))
  (E:hget h id=some (.mr g j e' sz hole (AN (λ(l:List α)=>l.map f) m))) (F:Ev c R y (.r (.int w z))) (I:c=true→AM ((AU m k).getD []) z=some a):AY P c o R h (.pk id g j (Av m k) (z.toNat * sz)):=by
 have:=oR (row:=f a) A B C E F λJ=>by
  rw[MO]
  have q:=ER (I J)
  unfold AM
  rw[rO q.1,rc,q.2.1];rfl
 rwa [SG] at this
theorem cJ{α:Type}{f:α→List RV}{t:TypeId}{x:Operand}{id g q:Nat}{e:TypeId}{sz:Nat}{hole:Option (Nat × Bool)}{m:List (Int × List α)}{k z:Int}{a:α}{cs:List AV}(B:o.op=.load t x)(C:Bo P t sz)(w:Ev c R x (.pk id g q (Av m k) (z.toNat * sz)))(E:hget h id=some (.mr g q e sz hole (AN (λ(l:List α)=>l.map f) m)))
  (F:c=true→AM ((AU m k).getD []) z=some a) (j:(f a).map .r=cs):AY P c o R h (.agg cs):=by
 subst j
 rw[← SG (λ(l:List α)=>l.map f)] at w
 exact ly B C w E λI=>by
  rw[MO]
  have A:=ER (F I)
  unfold AM
  rw[rO A.1,rc,A.2.1];rfl
theorem eC{α:Type}{f:α→List RV}{t e:TypeId}{sz j:Nat}{s x:Operand}{id g w:Nat}{m:List (Int × List α)}{k:Int}{ys r:List α}(A:o.op=.call { callee:=.builtin .append,args:=#[s,x],argTypes:=#[t,t] })(B:Br P t e sz j)
  (C:Ev c R s (.fo id g w k)) (E:hget h id=some (.mr g w e sz none (AN (λ(l:List α)=>l.map f) m))) (F:JA c R h x sz (ys.map f)) (q:ys.isEmpty=false) (I:app j ((AU m k).getD []) ys=some r) :
  BQ P c o R h n (.fo id g n k) ((id,some (.mr g n e sz (some (Av m k,(AU m k).isNone)) (AN (λ(l:List α)=>l.map f) (An m k r))))::h) (n+1):=by
 obtain⟨J,M,rfl⟩:=R5 I
 have:=pg (n:=n) A B C E F (by cases ys with | nil=>cases q | cons _ _=>rfl) (by rw[MO];simpa using J) (by rw[MO];simpa using M)
 rw[MO,SG,KU,Option.isNone_map,← tC,RW (λ(l:List α)=>l.map f)] at this
 exact this
theorem nK{α:Type}{f}{t q w}{x i y}{id g j}{e}{sz}{m}{k}{A}{r}(B:o.op=.mapUpdate t x i y∨o.op=.insert t x i y)(C:P.underlying t=some (.map q w))(E:P.underlying q=some (.int .i64))
 (F:Ev c R x (.mref id g)) (I:Ev c R i (.r (.int .i64 k))) (J:Ev c R y (.fo id g j k)) (M:hget h id=some (.mr g j e sz (some (Av m k, A)) (AN (λ(l:List α) => l.map f) (An m k r)))) :
    BQ P c o R h n .any ((id, some (.mr g j e sz none (AN (λ(l:List α) => l.map f) (An m k r))))::h) n :=
  cQ B C E F I J M (by rw[Lc, SR])
end
theorem pK{a b c α:Type}{x:a}{y:b}{z:c}{f:a→b→c→Option α}{r:α}(h:EC (some (x,y,z)) f=some r):f x y z=some r:=h
end Go.Proofs.YtifgmfoihehlbaaGreatDoor.Al

namespace Go.Proofs.YtifgmfoihehlbaaGreatDoor.Al
section
variable{P:Program}{c:Bool}{o:Oper}{R:Am}{h:Ag}{n:Nat}
theorem p6{x}{xs:List (List RV)}{v}(j:AO x (.full xs) v):AO x (.r (.sl xs)) v∧∃a,v=.slice a xs.length xs.length:=by
 cases j with
 | full h l=>exact⟨.r h,l⟩
theorem bM{x:Cx}(Z:x.ok){e}{sz} id{xs ys:List (List RV)}{us m:List Value}{B:Value}{w':World}(h0:0<sz)(j:w'.ownsRow x.w.heap.size e sz B (xs.length+ys.length) (us++m))
 (A:x.w.grownBy w' none) (a0:us.length=xs.length * sz) (O:∀row ∈ xs, row.length=sz) (E:∀row ∈ ys, row.length=sz)
 (hc:∀i row k d, xs[i]?=some row→row[k]?=some d→∃u, us[i * sz+k]?=some u∧A5 x.w x.S d u)
 (F:∀i row k d, ys[i]?=some row→row[k]?=some d→∃u, m[i * sz+k]?=some u∧A5 x.w x.S d u) :
    ∃y:Cx, y.w=w'∧x.le y∧y.ok∧y.H=(λi => if id=i then some (.arr x.n e sz (xs++ys)) else x.H i)∧y.n=x.n+1∧AO y (.own id x.n) B := by
  have I:w'.ownsRow 0 e sz B (xs.length+ys.length) (us++m) := by
    refine⟨j.1, ?_⟩
    rcases j.2 with q | ⟨g, cap, J, q, h2, M⟩
    · exact .inl q
    · exact .inr ⟨g, cap, J, q, s6 _, M⟩
  have T := j.lt
  have C:Cr (HP B) (xs++ys).length B := by
    rcases j.2 with ⟨rfl, q⟩ | ⟨g, cap, J, rfl, _⟩
    · exact⟨by rw[sI];exact q, rfl⟩
    · simp[Cr, HP]
  have a1:∀b k, HP B=some (b, k)→B.ownBlock=some b := by
    intro b k w
    cases B with
    | slice a l cp =>
      cases a with
      | none => cases w
      | some a => simp only[HP, rY, rf] at w;simp[Value.ownBlock, w.1]
    | _ => cases w
  have U := Dj Z id (.arr x.n e sz (xs++ys)) w' (HP B) (x.n+1) A.size A.os A.tape A.output
    (λb a2 a8 => A.block b a2 (λheq => by cases heq))
    (λb k w => by
      have q := a1 b k w
      exact⟨(T b q).2, .inl (T b q).1⟩)
    (by omega) (by simp[Ab.gen]) (λhg => absurd hg (by simp[Ab.gen]))
    (λa6 => by
      have V:∀b, x.S b→w'.heap[b]?=x.w.heap[b]? := λb hb => a6.blk b (.inl hb)
      refine⟨h0, λrow hr => (sk.1 hr).elim (O row) (E row), B, us++m, C, by rw[sI];exact I, λi row k d q h2 => ?_⟩
      by_cases a7:i<xs.length
      · rw[rm a7] at q
        obtain⟨u, M, h4⟩ := hc i row k d q h2
        refine⟨u, ?_, h4.mono V (λ_ h => h)⟩
        rw[rm ((rW.1 M).1)]
        exact M
      · rw[rl (by omega)] at q
        obtain⟨u, M, h4⟩ := F _ row k d q h2
        refine⟨u, ?_, h4.mono V (λ_ h => h)⟩
        have e1:i * sz+k=us.length+((i - xs.length) * sz+k) := by
          rw[a0, Nat.sub_mul]
          have:xs.length * sz≤i * sz := sD _ (by omega)
          omega
        rw[e1, rl (by omega), uT]
        exact M)
  refine⟨_, rfl, U.1, U.2, rfl, rfl, .own (by simp) ?_ λo' X _ => ?_⟩
  · rcases j.2 with ⟨rfl, _⟩ | ⟨g, cap, J, rfl, _⟩<;>rfl
  · simp only[rO] at X ⊢
    cases X
    simpa[Ab.shape] using C
theorem l8{t e}{sz E}{s x}(id:Nat){xs ys:List (List RV)}(ho:o.op=.call { callee := .builtin .append, args := #[s, x], argTypes := #[t, t] })(ht:Br P t e sz E)
 (hs:Ev c R s (.full xs)) (hx:JA c R h x sz ys) (B:∀row ∈ xs, row.length=sz) (M:ys≠[]) (hm:(xs.length+ys.length) * E≤140737488355328) (a8:xs.length+ys.length≤9223372036854775807) :
    BQ P c o R h n (.own id n) ((id, some (.arr n e sz (xs++ys)))::h) (n+1) := by
  intro hc z w F hH hn he K Q hK
  have aa := ht
  obtain⟨ab, ii, zz, hi, O, T, hz, ac, _, h0⟩ := aa
  obtain⟨C, l⟩ := hx.src h0 hc F hH he
  obtain⟨hr, a0, hv⟩ := p6 (hs.rep he hc)
  have U:∃J y, (Builtin.append_ #[t, t] o.type #[w.eval s, w.eval x]).run P z.w=.ok J y.w∧z.le y∧y.ok∧y.H=(λi => if id=i then some (.arr z.n e sz (xs++ys)) else z.H i)∧y.n=z.n+1∧AO y (.own id z.n) J := by
    rcases XK hr B h0 with ⟨rfl, cc, j⟩ | ⟨a, cap, V, j, X, q, _, I⟩
    · rw[hv] at j
      simp only[tx, Value.slice.injEq] at j
      obtain⟨rfl, _, _⟩ := j
      rw[hv]
      exact TD (xs := []) F ht id (World.ownsRow_nil z.w 0 e sz) (λb hb => by cases hb) (by simp) (by simp) C l (by unfold maxLen;simpa using a8) (by simpa using hm) o.type
    · rw[hv] at j
      simp only[Value.slice.injEq] at j
      obtain⟨rfl, _, rfl⟩ := j
      rcases C with ⟨hy, _⟩ | ⟨a2, Z, a1, ad, hl, A, ag, a6⟩
      · exact absurd hy M
      · have ah:0<ys.length := tL.2 M
        obtain⟨J, w', m, a7, ae⟩ := run_append_arg_grows (P := P) z.w t o.type e ii zz sz E ab hi hz O T ac h0 a xs.length xs.length V X q a2 ys.length Z a1 hl A (by omega) (by unfold maxLen;omega) hm
        obtain⟨y, af, k1, k2, k3, k4, k5⟩ := bM F id h0 a7 ae X B l I a6
        refine⟨J, y, ?_, k1, k2, k3, k4, k5⟩
        rw[hv, ad, af]
        exact m
  obtain⟨J, y, m, k1, k2, k3, k4, k5⟩ := U
  unfold Oper.wp execOp
  simp only[ho, resolve, invoke, builtin, Sem.run_bind, Sem.run_pure, Result.andThen_ok, ub, ru, tB, m]
  exact hK J y k1 k2 (by rw[k3, hH, hn, Co]) (by rw[k4, hn]) (by rw[← hn];exact k5)
def Re{α:Type}(j:Nat)(xs ys:List α):Option (List α):=match ys with
 | []=>none
 | _=>app j xs ys
theorem oF{α:Type}{b:Nat}{xs ys j:List α}(h:Re b xs ys=some j):app b xs ys=some j∧ys≠[]:=by
 cases ys with
 | nil=>cases h
 | cons y ys=>exact⟨h,by simp⟩
variable{α:Type}{f:α→List RV}
theorem pu{t e:TypeId}{sz j:Nat}{s x:Operand}(id:Nat){xs ys q:List α}(w:o.op=.call { callee:=.builtin .append,args:=#[s,x],argTypes:=#[t,t] })(A:Br P t e sz j)
  (B:Ev true R s (.full (xs.map f))) (C:Nw R h x e sz f ys) (E:∀a,(f a).length=sz) (l:Re j xs ys=some q):BQ P true o R h n (.own id n) ((id,some (.arr n e sz (q.map f)))::h) (n+1):=by
 obtain⟨l,m⟩:=oF l
 obtain⟨F,I,rfl⟩:=R5 l
 rw[tC]
 exact l8 id w A B C.src (λrow J=>by obtain⟨a,_,rfl⟩:=sK.1 J;exact E a) (by simpa using m) (by simpa using F) (by simpa using I)
end
end Go.Proofs.YtifgmfoihehlbaaGreatDoor.Al

set_option linter.all false
set_option maxHeartbeats 4000000
set_option maxRecDepth 20000
namespace Go.Proofs.YtifgmfoihehlbaaGreatDoor.Al
open Go
def R7{α:Type} : Result α→World
 | .ok _ w=>w
 | .halt _ w=>w
def Do:Go.GStep→Nat
 | .go _ w _=>w.drawn
 | .comm _ _ _ _ w _=>w.drawn
 | .spawn _ _ w _=>w.drawn
 | .count _ w _=>w.drawn
 | .timer _ _ w _=>w.drawn
 | .alone _ _ w _=>w.drawn
 | .newcoro _ _ _ w _=>w.drawn
 | .coroswitch _ _ _ w _=>w.drawn
 | .collect _ w _=>w.drawn
 | .watch _ w _=>w.drawn
 | .ended _ w _=>w.drawn
@[simp] theorem Jd j s:(Do (Go.GStep.after j s))=(Do s):=by cases s<;>rfl
theorem fd{α:Type}(a:Ask α):∀w:World,w.drawn≤(w.ask a).2.drawn:=by
 induction a with
 | done a=>intro w;exact rV _
 | ask j range k l=>
  intro w
  unfold World.ask
  simp only
  split
  ·exact l _ w
  ·exact rh (uW _) (l _ { w with drawn:=w.drawn+1 })
theorem UY(w:World)(c:Sys):w.drawn≤(w.sys c).2.drawn:=by
 unfold World.sys
 have h:=fd (Kernel.perform c w.os) w
 split
 ·exact rV _
 ·rename_i r l w' _ j
  rw[j] at h
  exact h
theorem Wk(w:World) a v:(w.setCell a v).drawn=w.drawn:=rfl
theorem WL(w:World) a n:(w.freeze a n).drawn=w.drawn:=by unfold World.freeze;split<;>rfl
theorem jx{p:Program}{w w':World}{at_:Addr}{u:TypeId}{k:Addr}{v:Value}{b:Bool}{l:List Addr}(h:w.viewStore p at_ u k v b=.ok (w',l)):w'.drawn=w.drawn:=by
 unfold World.viewStore at h
 simp only[bind,Except.bind,pure,Except.pure] at h
 repeat' split at h
 all_goals first | (cases h;done) | skip
 all_goals (try (simp only[Except.ok.injEq,rf] at h;rw[← h.1]))
theorem ZH{p}{w w':World}{a}{v}{b}{l}(h:w.farStore p a v b=.ok (w',l)):w'.drawn=w.drawn:=by
 unfold World.farStore at h
 split at h
 ·split at h
  ·rename_i j
   cases h
   exact jx j
  ·cases h
 ·cases h
theorem Sz{α:Type} p(s:Sem α):∀w:World,w.drawn≤(R7 (s.run p w)).drawn:=by
 induction s with
 | pure a=>intro w;exact rV _
 | load m a k j=>
  intro w;unfold Sem.run
  split
  ·exact j _ w
  ·split
   ·exact j _ w
   ·exact rV _
 | store m a v k j=>
  intro w;unfold Sem.run
  split<;>first | exact rV _ | (rename_i l;cases l;done) | skip
  rename_i l;cases l
  all_goals (split<;>first | exact rV _ | skip)
  all_goals (try (split<;>first | exact rV _ | skip))
  all_goals first | exact rh (uE (Wk _ _ _).symm) (j _) | (rename_i l;exact rh (uE (ZH l).symm) (j _)) | skip
 | new o k j=>intro w;unfold Sem.run;exact j _ { w with heap:=w.heap.push o }
 | shape r k j=>intro w;unfold Sem.run;exact j _ w
 | freeze a n k j=>intro w;unfold Sem.run;exact rh (uE (WL w a n).symm) (j _)
 | frozen a k j=>intro w;unfold Sem.run;exact j _ w
 | getObj r k j=>
  intro w;unfold Sem.run
  split<;>first | exact rV _ | exact j _ w
 | setObj r o k j=>
  intro w;unfold Sem.run
  split<;>first | exact rV _ | exact j { w with heap:=w.heap.setIfInBounds r o }
 | choose q k j=>
  intro w;unfold Sem.run
  split
  ·exact j _ w
  ·exact rh (uW _) (j _ { w with drawn:=w.drawn+1 })
 | sys c k j=>intro w;unfold Sem.run;exact rh (UY w c) (j _ _)
 | program k j=>intro w;unfold Sem.run;exact j _ w
 | mark m k j=>intro w;unfold Sem.run;exact j w
 | halt h=>intro w;exact rV _
theorem Ib{α:Type} p(s:Sem α):∀(w:World) (l:Array Event),w.drawn≤(R7 ((s.runT p w l).1)).drawn:=by
 induction s with
 | pure a=>intro w l;exact rV _
 | load m a k j=>
  intro w l;unfold Sem.runT
  split
  ·exact j _ w _
  ·split
   ·exact j _ w _
   ·exact rV _
 | store m a v k j=>
  intro w l;unfold Sem.runT
  split<;>first | exact rV _ | (rename_i A;cases A;done) | skip
  rename_i A;cases A
  all_goals (split<;>first | exact rV _ | skip)
  all_goals (try (split<;>first | exact rV _ | skip))
  all_goals first | exact rh (uE (Wk _ _ _).symm) (j _ _) | (rename_i A;exact rh (uE (ZH A).symm) (j _ _)) | skip
 | new o k j=>intro w l;unfold Sem.runT;exact j _ { w with heap:=w.heap.push o } _
 | shape r k j=>intro w l;unfold Sem.runT;exact j _ w _
 | freeze a n k j=>intro w l;unfold Sem.runT;exact rh (uE (WL w a n).symm) (j _ _)
 | frozen a k j=>intro w l;unfold Sem.runT;exact j _ w _
 | getObj r k j=>
  intro w l;unfold Sem.runT
  split<;>first | exact rV _ | exact j _ w _
 | setObj r o k j=>
  intro w l;unfold Sem.runT
  split<;>first | exact rV _ | exact j { w with heap:=w.heap.setIfInBounds r o } _
 | choose q k j=>
  intro w l;unfold Sem.runT
  split
  ·exact j _ w _
  ·exact rh (uW _) (j _ { w with drawn:=w.drawn+1 } _)
 | sys c k j=>intro w l;unfold Sem.runT;exact rh (UY w c) (j _ _ _)
 | program k j=>intro w l;unfold Sem.runT;exact j _ w _
 | mark m k j=>intro w l;unfold Sem.runT;exact j w _
 | halt h=>intro w l;exact rV _
theorem Ep{α:Type}{p}{s:Sem α}{w w':World}{a}(h:s.run p w=.ok a w'):w.drawn≤w'.drawn:=by
 have:=Sz p s w;rw[h] at this;exact this
theorem Je{α:Type}{p}{s:Sem α}{w w':World}{a}(h:s.run p w=.halt a w'):w.drawn≤w'.drawn:=by
 have:=Sz p s w;rw[h] at this;exact this
theorem T3 j m(w:World):(Do (endThrow j m w))=w.drawn:=rfl
theorem f9(w:World) j t o:w.drawn≤(Do (endWith w j t o)):=by
 unfold endWith
 have h:=UY w (.write j t)
 generalize w.sys (.write j t)=r at h
 obtain⟨r,w'⟩:=r
 cases r<;>first | exact h | (simp only;split<;>exact h)
theorem YR p j v(w:World):(Do (endPrinting p j v w))=w.drawn:=by
 unfold endPrinting
 simp only
 split<;>rfl
theorem Yd p l cs d m(w:World):w.drawn≤(Do (endFatal p l cs d m w)):=by
 unfold endFatal
 simp only
 split
 ·rename_i j;exact Ep j
 ·rename_i j;exact Je j
 ·rename_i j;exact Je j
theorem pq p j d f(w:World):w.drawn≤(Do (writeOn p j d f w)):=by
 unfold writeOn
 simp only
 split
 ·exact rV _
 ·generalize l:Sem.runT p _ w #[]=r
  have h:w.drawn≤(R7 r.1).drawn:=by rw[← l];exact Ib p _ w _
  obtain⟨r,q⟩:=r
  split<;>(rename_i m;cases m;exact h)
theorem jQ p l d(w:World):w.drawn≤(Do (die p l d w)):=by
 unfold die
 split
 ·exact pq _ _ _ _ _
 ·split
  ·split
   ·exact rV _
   ·exact f9 _ _ _ _
  ·simp only
   split
   ·exact rV _
   ·split
    ·rename_i j;exact Ep j
    ·rename_i j;exact Je j
   ·rename_i t recv name _
    have h:=Ib p (invoke (.fn (.method name) #[]) #[.iface t recv]) w #[]
    generalize Sem.runT p _ w #[]=r at h ⊢
    obtain⟨r,m⟩:=r
    simp only[Jd]
    split<;>first | exact h | (rw[YR];exact h) | skip
    all_goals exact rV _
   ·exact rV _
theorem Tr p j l cs d v(w:World):(Do (doReturn p j l cs d v w))=w.drawn:=by
 unfold doReturn
 split
 ·split<;>rfl
 ·split<;>first | rfl | skip
  split
  ·rfl
  ·split<;>rfl
theorem Nc{c}[Decidable c]{a b}{n}(j:n≤(Do a))(l:n≤(Do b)):n≤(Do (if c then a else b)):=by split<;>assumption
theorem eG p l cs d(j:Deferred)(w:World):w.drawn≤(Do (callDeferred p l cs d j w)):=by
 unfold callDeferred
 refine Nc (rV _) ?_
 ·have h:=Ib p (invoke j.target j.args) w #[]
  generalize Sem.runT p (invoke j.target j.args) w #[]=r at h ⊢
  obtain⟨r,m⟩:=r
  simp only[Jd]
  split<;>first | exact h | (rw[T3];exact h) | exact rh h (Yd _ _ _ _ _ _) | (split<;>exact h)
theorem ma p j(m:Frame) cs d(w:World):w.drawn≤(Do (unwind p j m cs d w)):=by
 unfold unwind
 split
 ·rename_i block _ A _
  have h:=Ib p (Instr.takeDeferred block) w #[]
  generalize Sem.runT p (Instr.takeDeferred block) w #[]=r at h ⊢
  obtain⟨r,q⟩:=r
  simp only[Jd]
  split<;>exact h
 ·exact eG _ _ _ _ _ _
 ·split
  ·exact rV _
  ·split
   ·exact rV _
   ·split
    ·exact rV _
    ·split
     ·split
      ·exact rV _
      ·split
       ·rename_i l;exact Ep l
       ·rename_i l;exact Je l
       ·rename_i l;exact Je l
     ·split
      ·rw[YR];exact rV _
      ·exact rV _
  ·split
   ·rw[Tr];exact rV _
   ·rename_i fn _
    have h:=Ib p (results fn m.tmps) w #[]
    generalize Sem.runT p (results fn m.tmps) w #[]=r at h ⊢
    obtain⟨r,q⟩:=r
    simp only[Jd]
    split<;>first | exact h | (rw[Tr];exact h)
theorem lw p(q:Frame) cs d g(w:World):w.drawn≤(Do (early p q cs d g w)):=by
 have j:∀l:World,w.drawn≤l.drawn→w.drawn≤(Do (match l.heap[g]? with
  | some (.pending c elem)=>Go.GStep.go { frame:=q,callers:=cs,status:=.running,dying:=d } { l with heap:=l.heap.setIfInBounds g (.cells c elem) }
  | _ => .ended (.stuck "early: the variable does not wait" (q.pos p)) l)) := by
  intro l A
  split<;>exact A
 unfold early
 simp only
 split
 ·exact j w (rV _)
 ·split
  ·exact rV _
  ·split
   ·exact j w (rV _)
   ·split
    ·exact j w (rV _)
    ·split
     ·exact rV _
     ·exact rV _
     ·exact rV _
     ·exact j w (rV _)
     ·split
      ·exact rV _
      ·split
       ·exact j w (rV _)
       ·split
        ·rename_i m;exact j _ (Ep m)
        ·rename_i m;exact Ep m
        ·rename_i m;exact Je m
theorem Pi p listen j cs d(s:Sem Next)(w:World):w.drawn≤(Do (stepG.apply p listen j cs d s w)):=by
 unfold stepG.apply
 have h:w.drawn≤(R7 ((if listen then s.runT p w #[] else(s.run p w,#[])).1)).drawn:=by
  split
  ·exact Ib p s w #[]
  ·exact Sz p s w
 generalize (if listen then s.runT p w #[] else(s.run p w,#[]))=r at h ⊢
 obtain⟨r,l⟩:=r
 simp only[Jd]
 split<;>first | exact h | (rw[T3];exact h) | exact rh h (Yd _ _ _ _ _ _) | exact rh h (lw _ _ _ _ _ _) | skip
 all_goals first | (split<;>exact h) | exact Nc h h | exact Nc (by rw[T3];exact h) h
theorem g9 p listen j cs d(w:World):w.drawn≤(Do (stepG.oper p listen j cs d w)):=by
 unfold stepG.oper
 split
 ·exact rV _
 ·split<;>exact Pi _ _ _ _ _ _ _
theorem mV(p:Program)(main:Bool)(listen:Bool)(fr:Frame)(cs:List Frame)(d:Option Dying)(w:World):w.drawn≤(Do (stepG.exec p main listen fr cs d w)):=by
 have hl:∀jump:Option Code,w.drawn≤(Do (match fr.roundOf with
   | none => if jump matches none | some .ret then Go.GStep.go { frame := { fr with mode := .returning }, callers := cs, status := .running, dying := d } w else .ended (.stuck "exit, goto: no such block or label" (fr.pos p)) w
   | some l=>
    let (r,es):=(Instr.endRound l jump).runT p w #[]
    Go.GStep.after (seen p fr.fn es) <| match r with
    | .ok v w=>doReturn p main fr cs d v w
    | .halt _ w => .ended (.stuck "range over a function: no such loop" (fr.pos p)) w)) := by
  intro jump
  split
  ·exact Nc (rV _) (rV _)
  ·rename_i l _
   have h:=Ib p (Instr.endRound l jump) w #[]
   generalize Sem.runT p (Instr.endRound l jump) w #[]=r at h ⊢
   obtain⟨r,es⟩:=r
   simp only[Jd]
   split
   ·rw[Tr];exact h
   ·exact h
 unfold stepG.exec
 simp only
 split
 ·exact hl none
 ·exact hl (some .ret)
 all_goals first | exact rV _ | skip
 ·split<;>exact rV _
 ·rename_i id k _
  cases exitTo id k with
  | none=>exact hl (some (.exit id))
  | some t=>exact rV _
 ·rename_i l k _
  cases gotoIn l k with
  | none=>exact hl (some (.goto l))
  | some t=>exact rV _
 ·rename_i f params assign body k _
  have h:=Ib p (Instr.enterLoop fr.fn fr.tmps params assign body fr.roundOf) w #[]
  generalize Sem.runT p (Instr.enterLoop fr.fn fr.tmps params assign body fr.roundOf) w #[]=r at h ⊢
  obtain⟨r,es⟩:=r
  simp only[Jd]
  split
  ·exact rh h (Pi _ _ _ _ _ _ _)
  ·exact h
 ·exact Pi _ _ _ _ _ _ _
 ·rename_i l k _
  have h:=Ib p (Instr.endLoop l) w #[]
  generalize Sem.runT p (Instr.endLoop l) w #[]=r at h ⊢
  obtain⟨r,es⟩:=r
  simp only[Jd]
  split<;>exact h
 ·exact Pi _ _ _ _ _ _ _
 ·rename_i row args _ _
  cases Extern.next row with
  | none=>exact rV _
  | some e=>exact Pi _ _ _ _ _ _ _
 ·split
  ·exact rV _
  ·split
   ·rename_i hh;exact Ep hh
   ·rename_i hh;exact Je hh
 ·exact Nc (g9 _ _ _ _ _ _) (rV _)
theorem oX p j g(w:World) listen:w.drawn≤(Do (stepG p j g w listen)):=by
 unfold stepG
 simp only
 split
 ·exact jQ _ _ _ _
 ·exact mV _ _ _ _ _ _ _
 ·exact ma _ _ _ _ _ _
def FU(n:Nat):Stepped→Prop
 | .next m=>n≤m.world.drawn
 | .ended _ _=>True
theorem M6{s}{a b}(h:FU a s)(j:b≤a):FU b s:=by
 cases s with
 | next m=>exact rh j h
 | ended _ _=>trivial
theorem Yr{c}[Decidable c]{a b}{n}(j:FU n a)(l:FU n b):FU n (if c then a else b):=by split<;>assumption
theorem Tc{β:Type}{c:Prop}[Decidable c]{a b:Stepped × β}{n:Nat}(j:FU n a.1)(l:FU n b.1):FU n ((if c then a else b).1):=by split<;>assumption
theorem ic(p:Program)(rest:Rest)(q:Array Goroutine)(i:Nat)(g:Goroutine)(cases:Array CommCase)(j:Bool)(shape:CommShape)(w:World):FU w.drawn ((communicate p rest q i g cases j shape w).1):=by
 unfold communicate
 simp only
 refine Tc trivial (Tc (Tc ?_ (rV _)) ?_)
 ·split
  ·rename_i l
   unfold waitingAt at l
   split at l
   ·split at l
    ·cases l;exact rV _
    ·cases l
   ·cases l;exact rV _
  ·trivial
 ·split
  ·trivial
  ·rename_i k c A w' l
   have h:=Ep l
   split
   ·split
    ·rename_i m;exact rh h (Je m)
    ·trivial
   ·exact h
   ·exact h
   ·split
    ·exact h
    ·split
     ·rename_i m;have B:=Ep m;exact rh h B
     ·trivial
   ·exact h
   ·exact h
   ·trivial
theorem Xj p j rest(w:World):FU w.drawn (look p j rest w):=by
 unfold look
 split
 ·simp only
  refine Yr trivial ?_
  split
  ·trivial
  ·split
   ·rename_i l;have m:=Ep l;exact m
   ·trivial
   ·trivial
 ·trivial
theorem iT(w:World) c:(drain w c).2.drawn=w.drawn:=by
 unfold drain;split<;>rfl
theorem Wl(m:Machine) k(t:Timer) a b:(retime m k t a b).2.world.drawn=m.world.drawn:=by
 unfold retime
 cases t.chan with
 | none=>rfl
 | some c=>exact iT _ _
theorem oK(m:Machine) op{v}{l:Machine}(h:timerOp m op=.ok (v,l)):l.world.drawn=m.world.drawn:=by
 unfold timerOp at h
 split at h
 ·split at h
  ·cases h;rfl
  ·split at h
   ·split at h
    ·cases h
    ·cases h;rfl
   ·cases h
 ·unfold timerOp.named at h
  split at h
  ·simp only[Except.ok.injEq] at h
   have:=ro (λq=>q.2.world.drawn) h
   simp only at this
   rw[← this];exact Wl _ _ _ _ _
  ·cases h
 ·split at h
  ·rename_i m2 j
   unfold timerOp.named at h
   split at h
   ·simp only[Except.ok.injEq] at h
    have:=ro (λq=>q.2.world.drawn) h
    simp only at this
    rw[← this,Wl]
    unfold timerOp.opened at j
    split at j
    ·split at j
     ·cases j;rfl
     ·cases j
    ·cases j;rfl
   ·cases h
  ·cases h
 ·cases h;rfl
theorem qE p(m:Machine) k:FU m.world.drawn (serve p m k):=by
 unfold serve
 split
 ·trivial
 ·exact rV _
 ·split
  all_goals (simp only;split)
  all_goals first | trivial | exact rV _
theorem jf p(m:Machine) i listen:FU m.world.drawn ((runT p m i listen).1):=by
 unfold runT
 simp only
 have h:=oX p (i==0) (m.gs.swapAt! i { (default:Goroutine) with status:=.finished }).1 m.world listen
 generalize stepG p (i==0) (m.gs.swapAt! i { (default:Goroutine) with status:=.finished }).1 m.world listen=s at h ⊢
 cases s with
 | ended o w j=>trivial
 | comm g cases l shape w j=>exact M6 (ic _ _ _ _ _ _ _ _ _) h
 | go g w j=>exact h
 | spawn g q w j=>exact h
 | count g w j=>exact Yr trivial h
 | alone g B w j=>exact h
 | collect g w j=>exact M6 (Xj _ _ _ _) h
 | watch g w j=>exact h
 | newcoro g c d w j=>exact h
 | coroswitch g c exit w j=>
  simp only
  split
  ·exact h
  ·exact h
  ·trivial
 | timer g op w j=>
  simp only
  split
  ·rename_i A
   have:=oK _ _ A
   exact rh h (uE this.symm)
  ·exact h
  ·trivial
  ·trivial
def Mk(n:Nat):Move→Prop
 | .goroutine m _=>n≤m.world.drawn
 | .machine s _=>FU n s
theorem TG p(m:Machine):Mk m.world.drawn (askOn p m):=by
 have hp:∀(l:List Nat) (q:Machine),m.world.drawn≤q.world.drawn→Mk m.world.drawn (match (choose (.sched l.length)).run p q.world with
   | .halt _ w => Move.machine (.ended (.stuck "sched" "") w)
   | .ok k world=>
    if l.length≤1 then .goroutine { q with world } (l.getD k 0) else
    match (choose (.extern "sched.slice" 65536)).run p world with
    | .halt _ w => .machine (.ended (.stuck "sched.slice" "") w)
    | .ok n world=>.goroutine { q with world,rest:={ q.rest with slice:=if n=0 then none else some (l.getD k 0,n) } } (l.getD k 0)):=by
  intro l q C
  split
  ·trivial
  ·rename_i B
   have j:=rh C (Ep B)
   split
   ·exact j
   ·split
    ·trivial
    ·rename_i A;exact rh j (Ep A)
 unfold askOn
 simp only
 split
 ·trivial
 ·rename_i k world B
  have h:=Ep B
  split
  ·have j:=qE p { m with world } ((due m.rest.timers m.world.os.mono).getD k 0)
   generalize serve p { m with world } ((due m.rest.timers m.world.os.mono).getD k 0)=s at j
   cases s with
   | next F=>exact rh h j
   | ended _ _=>trivial
  ·split
   ·split
    ·exact h
    ·split
     ·exact h
     ·split<;>trivial
   ·split
    ·exact hp _ { m with world } h
    ·split
     ·trivial
     ·rename_i j;exact hp _ { m with world:=_ } (rh h (Ep j))
     ·rename_i j;have A:=Ep j;exact rh h A
     ·rename_i t _ _ E w' j;have A:=Ep j;exact hp _ (Machine.advanceTo { m with world:=w' } (t-(E+1))) (rh h A)
theorem Ws{s}{a b}(h:Mk a s)(j:b≤a):Mk b s:=by
 cases s with
 | goroutine m i=>exact rh j h
 | machine s o=>exact M6 (s:=s) h j
theorem Vx p(m:Machine):Mk m.world.drawn (ask p m):=by
 unfold ask
 split
 ·split
  ·trivial
  ·rename_i q j
   have h:=Ep j
   have l:=Xj p m.gs m.rest q
   split
   ·rename_i w
    rw[w] at l
    exact Ws (TG p _) (rh h l)
   ·exact M6 l h
  ·rename_i j
   exact Ws (TG p _) (Ep j)
 ·exact TG p m
theorem gz p(m:Machine):Mk m.world.drawn (move p m):=by
 unfold move
 split
 ·split
  ·exact rV _
  ·trivial
 ·split
  ·split
   ·exact rV _
   ·exact Vx p { m with rest:=_ }
  ·exact Vx p m
theorem jr p(m:Machine):FU m.world.drawn (step p m):=by
 unfold step stepT
 have h:=gz p m
 split
 ·rename_i j;rw[j] at h
  exact M6 (jf p _ _ _) h
 ·rename_i j;rw[j] at h
  exact h
theorem ld p:∀(n:Nat) (m j:Machine),runN p n m=.next j→m.world.drawn≤j.world.drawn:=by
 intro n
 induction n with
 | zero=>intro m j h;cases h;exact rV _
 | succ n w=>
  intro m j h
  unfold runN at h
  have l:=jr p m
  split at h
  ·rename_i A;rw[A] at l
   exact rh l (w _ _ h)
  ·rename_i e q
   rw[h] at q
   exact absurd rfl (q _)
theorem WY{p}{m j:Machine}(h:Steps p m j):m.world.drawn≤j.world.drawn:=by
 obtain⟨n,l⟩:=h
 exact ld p n m j l
theorem dm{P}{f}{args}{w:World}{R}(h:Calls P f args w R):Calls P f args w λe w'=>R e w'∧(e≠.outgrown→w.drawn≤w'.drawn):=by
 intro l
 obtain⟨e,w',m,q,j,A,B⟩:=h l
 refine⟨e,w',m,⟨q,λC=>?_⟩,j,A,B⟩
 cases e with
 | outgrown=>exact absurd rfl C
 | returned v=>exact WY (show Steps P _ _ from j)
 | panicked c=>exact WY (show Steps P _ _ from j)
end Go.Proofs.YtifgmfoihehlbaaGreatDoor.Al

set_option maxHeartbeats 1000000
namespace Go.Proofs.YtifgmfoihehlbaaGreatDoor.Al
open Go.Shelf Go.RowKit Go.Lib Go.Sort
def Qh{τ:Type}(cmp:τ→τ→Option Int)(xs l:List τ):Prop:=
 xs.length<4611686018427387904∧∃j:τ→τ→Int,(∀a b,cmp a b=some (j a b))∧SWO (ltOf j)∧(∀a∈xs,∀b∈xs,ltOf j a b=false→ltOf j b a=false→a=b) ∧
  l.Perm xs∧l.Pairwise λa b=>ltOf j b a=false
open Classical in
noncomputable def HU{τ:Type}(cmp:τ→τ→Option Int)(xs:List τ):Option (List τ):=if h:∃l,Qh cmp xs l then some h.choose else none
theorem NJ{τ:Type}{cmp:τ→τ→Option Int}{xs l:List τ}(h:HU cmp xs=some l):Qh cmp xs l:=by
 unfold HU at h
 split at h
 ·rename_i j;cases h;exact j.choose_spec
 ·cases h
theorem T8{τ:Type}{lt}(O:SWO lt):∀(l j:List τ),l.Perm j→(∀a∈l,∀b∈l,lt a b=false→lt b a=false→a=b)→l.Pairwise (λa b=>lt b a=false)→j.Pairwise (λa b=>lt b a=false)→l=j:=by
 intro l
 induction l with
 | nil=>intro j hp _ _ _;exact(List.nil_perm.1 hp).symm
 | cons a r I=>
  intro j hp E m q
  cases j with
  | nil=>exact absurd hp (by simp)
  | cons b s=>
   rw[uA] at m q
   have w:a=b:=by
    have A:b∈a::r:=hp.symm.subset (rn ..)
    have B:a∈b::s:=hp.subset (rn ..)
    rcases sB.1 A with e | F
    ·exact e.symm
    ·rcases sB.1 B with e | C
     ·exact e
     ·exact E a (rn ..) b (rj _ F) (q.1 a C) (m.1 b F)
   subst w
   rw[I s (List.Perm.cons_inv hp) (λx J y M=>E x (rj _ J) y (rj _ M)) m.2 q.2]
theorem eL{τ:Type}{cmp:τ→τ→Option Int}{xs l:List τ}(h:Qh cmp xs l):HU cmp xs=some l:=by
 have q:∃l,Qh cmp xs l:=⟨l,h⟩
 unfold HU
 rw[uB q]
 obtain⟨U,w,A,B,C,E,F⟩:=h
 obtain⟨_,j,I,_,_,m,J⟩:=q.choose_spec
 have M:j=w:=by
  funext a b
  have:=(I a b).symm.trans (A a b)
  simpa using this
 subst M
 rw[T8 B _ l (m.trans E.symm) (λa O b T=>C a (m.subset O) b (m.subset T)) J F]
theorem aN{τ:Type}{cmp:τ→τ→Option Int}{xs l j:List τ}{m:τ→τ→Int}(h:HU cmp xs=some l)(hc:∀a b,cmp a b=some (m a b))(hp:j.Perm xs)(A:j.Pairwise λa b=>ltOf m b a=false):j=l:=by
 obtain⟨O,q,B,C,E,F,I⟩:=NJ h
 have w:q=m:=by
  funext a b
  have:=(B a b).symm.trans (hc a b)
  simpa using this
 subst w
 exact T8 C _ _ (hp.trans F.symm) (λa J b M=>E a (hp.subset J) b (hp.subset M)) A I
theorem AR.exact{P}{g}{args}{r}(h:AR P g args r){z:Cx}(m:z.ok){W:World}(J:z.w.heap.size≤W.heap.size)(X:W.os=z.w.os)(Z:W.tape=z.w.tape)(hp:W.output=z.w.output)
 (hb:∀b, z.S b→W.heap[b]?=z.w.heap[b]?) {vs:Array Value} (ha:∀y:Cx, y.w=W→y.S=z.S→Fh y args vs.toList) :
    Calls P g vs W λe w' => ∃u, e=.returned u∧(∃y:Cx, AO y r u)∧∃q E, w'=grow (W.drewN q) E := by
  have t1:Eh { z with F := λ_ => False, H := λ_ => none } := m.tabs.same rfl λ_ h => h
  have t2:Eh { w := W, S := z.S, F := λ_ => False, H := λ_ => none, β := z.β, K := z.K, n := z.n } :=
    t1.le ⟨J, X, Z, hp, (λb F => F.elim (hb b) False.elim), (λ_ h => h), rfl, rV _, (λ_ _ h => by cases h), (λ_ _ h => by cases h)⟩
  have t3:Eh { w := W, S := z.S, F := λb => b<W.heap.size∧¬ z.S b, H := λ_ => none, β := λ_ => none, K := λ_ _ => none, n := 0 } := t2.same rfl λ_ h => h
  have hx:({ w := W, S := z.S, F := λb => b<W.heap.size∧¬ z.S b, H := λ_ => none, β := λ_ => none, K := λ_ _ => none, n := 0 } : Cx).ok :=
    ⟨(λb B => rX (m.S_lt b B) J), (λb h => h.1), (λb C w => w.2 C), (λ_ _ h => by cases h), (λ_ _ _ _ h => by cases h), (λ_ _ _ _ _ _ _ h => by cases h), (λ_ _ _ _ _ h => by cases h), t3⟩
  refine(dm (h.2.2 _ vs hx rfl (ha _ rfl rfl))).mono λe w' ⟨⟨u, y, M, hw, j, O, A⟩, hd⟩ => ?_
  subst hw
  have a0 := hd (by rw[M];intro h;cases h)
  refine⟨u, M, ⟨y, A⟩, y.w.drawn - W.drawn, y.w.heap.extract W.heap.size y.w.heap.size, ?_⟩
  have hsz:W.heap.size≤y.w.heap.size := j.size
  have l:y.w.heap=W.heap++y.w.heap.extract W.heap.size y.w.heap.size := by
    apply Array.ext_getElem?
    intro i
    by_cases T:i<W.heap.size
    · rw[tj T]
      refine j.blk i ?_
      by_cases B:z.S i
      · exact .inl B
      · exact .inr ⟨T, B⟩
    · rw[Array.getElem?_append_right (by omega), Array.getElem?_extract]
      by_cases w:i<y.w.heap.size
      · rw[rO (by omega)];congr 1;omega
      · rw[rN (by omega), tV (by omega)]
  have C := j.os;have w := j.tape;have U := j.output
  simp only at C w U
  generalize y.w=w' at *
  obtain⟨V, tape, I, os, output⟩ := w'
  simp only at *
  subst C w U
  unfold grow World.drewN
  simp only
  rw[← l]
  congr 1
  omega
structure El{τ:Type}(x:Cx)(row:τ→List RV)(k:Nat) where
 t:τ
 us:List Value
 hl:us.length=k
 hrl:(row t).length=k
 hr:∀(i:Nat) (d:RV) (u:Value),(row t)[i]?=some d→us[i]?=some u→A5 x.w x.S d u
theorem El.one{τ:Type}{x:Cx}{row:τ→List RV}{k:Nat}(a:El x row k):∀v∈a.us,v.oneCell'=true:=by
 intro v l
 obtain⟨i,j,rfl⟩:=sN.1 l
 have m:i<(row a.t).length:=by rw[a.hrl,← a.hl];exact j
 exact(a.hr i _ _ (rU m) (rU j)).one
theorem El.agg{τ:Type}{x y:Cx}{row:τ→List RV}{k:Nat}(a:El x row k)(l:∀b,x.S b→y.w.heap[b]?=x.w.heap[b]?)(m:y.S=x.S):AO y (.agg ((row a.t).map .r)) (.agg a.us.toArray):=by
 refine .agg (by simp[a.hl,a.hrl]) λi c u j q=>?_
 rw[rc,rg] at j
 obtain⟨d,hd,rfl⟩:=j
 exact .r ((a.hr i d u hd (by simpa using q)).mono l λb h=>by rw[m];exact h)
theorem oh{τ:Type}{x:Cx}{row:τ→List RV}{k:Nat}{j:τ→τ→Int}(h:SWO (ltOf j)):SWO (ltOf λa b:El x row k=>j a.t b.t):=
 ⟨λa=>h.irrefl a.t,λa b c=>h.trans a.t b.t c.t,λa b c=>h.ntrans a.t b.t c.t⟩
theorem Vb{α:Type}[Inhabited α](enc:α→List Value) k(w:World) blk n d l :
  w.heap.size≤(sortWorldK enc k w blk 0 n d l).heap.size∧(sortWorldK enc k w blk 0 n d l).os=w.os∧(sortWorldK enc k w blk 0 n d l).tape=w.tape∧(sortWorldK enc k w blk 0 n d l).output=w.output ∧
   (∀b,b<w.heap.size→b≠blk→(sortWorldK enc k w blk 0 n d l).heap[b]?=w.heap[b]?) ∧
   ∀j e m,w.heap[blk]?=some (.cells j e m)→(sortWorldK enc k w blk 0 n d l).heap[blk]?=some (.cells (putCells id 0 (flatK enc k d) j) e m):=by
 refine⟨?_,rfl,rfl,rfl,λb q A=>?_,λj e m h=>?_⟩
 ·simp[sortWorldK,grow,putRowK,putRow,mapBlock,Sort.ahead]
 ·simp only[sortWorldK,grow,putRowK,putRow,mapBlock,Sort.ahead]
  rw[tj (by simpa using q),Array.getElem?_modify,rN (λe=>A e.symm)]
 ·have q:blk<w.heap.size:=(sW.1 h).1
  simp only[sortWorldK,grow,putRowK,putRow,mapBlock,Sort.ahead]
  rw[tj (by simpa using q),Array.getElem?_modify,rO rfl,h]
  rfl
section
variable{P:Program}{ρ:Ren}{τ:Type}{row:τ→List RV}{k:Nat}{cmp:τ→τ→Option Int}{g:FuncId}
theorem dP{x:Cx}(w:x.ok){n}(a b:El x row k)(hc:AR P g [.agg ((row a.t).map .r), .agg ((row b.t).map .r)] (.r (.int .i64 n))){W:World}(M:x.w.heap.size≤W.heap.size)(O:W.os=x.w.os)(T:W.tape=x.w.tape)(hp:W.output=x.w.output)
 (F:∀b, x.S b→W.heap[b]?=x.w.heap[b]?):Calls P g #[.agg a.us.toArray, .agg b.us.toArray] W λe w' => e=.returned (.int .i64 n)∧∃q j, w'=grow (W.drewN q) j := by
  have U:∀y:Cx, y.w=W→y.S=x.S→Fh y [.agg ((row a.t).map .r), .agg ((row b.t).map .r)] (#[.agg a.us.toArray, .agg b.us.toArray]:Array Value).toList := by
    intro y A I
    have l:∀c, x.S c→y.w.heap[c]?=x.w.heap[c]? := λc hc => by rw[A];exact F c hc
    have V := a.agg l I
    have X := b.agg l I
    refine⟨rfl, λi v u B J => ?_⟩
    rcases i with _ | _ | i
    · have C:AV.agg ((row a.t).map .r)=v := by simpa using B
      have E:Value.agg a.us.toArray=u := by simpa using J
      rw[← C, ← E];exact V
    · have C:AV.agg ((row b.t).map .r)=v := by simpa using B
      have E:Value.agg b.us.toArray=u := by simpa using J
      rw[← C, ← E];exact X
    · simp at B
  refine(hc.exact w M O T hp F U).mono ?_
  rintro e w' ⟨u, Z, ⟨y, m⟩, q, j, A⟩
  refine⟨?_, q, j, A⟩
  rw[Z]
  generalize hd:RV.int .i64 n=d at m
  cases m with
  | r m => subst hd;cases m;rfl
theorem pJ{x:Cx}(j:x.ok){A:τ→τ→Int}[Inhabited (El x row k)](hc:∀a b,AR P g [.agg ((row a).map .r),.agg ((row b).map .r)] (.r (.int .i64 (A a b)))){blk:Nat}(l:¬ x.S blk)(size:Nat) :
  CmpLays P g #[] (λa:El x row k=>a.us) k (λa b=>A a.t b.t) blk 0 size x.w:=by
 intro m q w _ a b
 obtain⟨C,E,F,I,J,_⟩:=Vb (λa:El x row k=>a.us) k x.w blk m w q
 have M:∀c,x.S c→(sortWorldK (λa:El x row k=>a.us) k x.w blk 0 m w q).heap[c]?=x.w.heap[c]?:=λc B=>J c (j.S_lt c B) λe=>l (by rw[← e];exact B)
 generalize sortWorldK (λa:El x row k=>a.us) k x.w blk 0 m w q=W at *
 rw[Array.append_empty]
 exact dP j a b (hc a.t b.t) C E F I M
theorem Xl{α:Type}[Inhabited α](enc:α→List Value)(d:Array α){i c}(w:∀x,(enc x).length=k)(j:i<d.size)(hc:c<k):(flatK enc k d)[i * k+c]?=(enc d[i])[c]?:=by
 have lt:i * k+c<d.size * k:=by
  have:=sD k (show i+1≤d.size from j);rw[s4,tT] at this;omega
 have h:=get_flatK enc k d _ lt
 have l:(i * k+c) / k=i:=(blk_iff k i _ (by omega)).1 ⟨by omega,by omega⟩
 have A:(i * k+c) % k=c:=by rw[Nat.mod_eq_sub_div_mul,l];omega
 rw[l,A] at h
 have m:i * k+c<(flatK enc k d).size:=by rw[size_flatK];exact lt
 have q:c<(enc d[i]).length:=by rw[w];exact hc
 rw[rz m,rU q]
 rw[ri (flatK enc k d) _ m,ri d i j,ri (enc d[i]) c q] at h
 rw[h]
theorem ZT(L:SlLaysF0.n6 P ρ)(aE:∀w,(isAgg (ρ.t 24)).run P w=.ok true w)(zE:∀w,(Go.sizeOf (ρ.t 24)).run P w=.ok k w)(eg:∀args w,(callFunc g args).run P w=.ok (.enter g args) w)
  {x:Cx} (hok:x.ok) (hc:∀a b r,cmp a b=some r→AR P g [.agg ((row a).map .r),.agg ((row b).map .r)] (.r (.int .i64 r))) {xs l:List τ} (hs:HU cmp xs=some l) {e:TypeId} {blk cap:Nat} {us:List Value}
  (hlt:blk<x.w.heap.size) (hblk:¬ x.S blk) (hk:0<k) (hrow:∀a∈xs,(row a).length=k) (hown:x.w.ownsRow 0 e k (.slice (some ⟨blk,0,none⟩) xs.length cap) xs.length us)
  (hcell:∀i a c d,xs[i]?=some a→(row a)[c]?=some d→∃u,us[i * k+c]?=some u∧A5 x.w x.S d u) :
  Calls P (ρ.f 6) #[.slice (some ⟨blk,0,none⟩) xs.length cap,.func (.func g) #[] #[]] x.w λe' w'=>e'=.returned (.tuple #[]) ∧
   x.w.heap.size≤w'.heap.size∧w'.os=x.w.os∧w'.tape=x.w.tape∧w'.output=x.w.output∧(∀b,b<x.w.heap.size→b≠blk→w'.heap[b]?=x.w.heap[b]?) ∧
   ∃us',w'.ownsRow 0 e k (.slice (some ⟨blk,0,none⟩) xs.length cap) xs.length us'∧∀i a c d,l[i]?=some a→(row a)[c]?=some d→∃u,us'[i * k+c]?=some u∧A5 x.w x.S d u:=by
 obtain⟨h0,cf,h1,h2,h3,h4,h5⟩:=NJ hs
 obtain⟨hul,hown'⟩:=hown
 obtain⟨hv,_⟩ | ⟨gg,cap',cur,hv,_,hh,hcap,hm,hcur,htake⟩:=hown'
 ·cases hv
 simp only[Value.slice.injEq,rY,Addr.mk.injEq,ud] at hv
 obtain⟨rfl,_,rfl⟩:=hv
 rcases uy xs.length with hz | hpos
 ·
  have hx:xs=[]:=tF.1 hz
  subst hx
  have hl:l=[]:=List.perm_nil.1 h4
  subst hl
  refine(AnyF.slices_SortFunc_none L (some ⟨blk,0,none⟩) cap (.func (.func g) #[] #[]) x.w).mono λe' w' ⟨he,hw⟩=>?_
  subst hw
  exact⟨he,rV _,rfl,rfl,rfl,λ_ _ _=>rfl,us,⟨hul,.inr ⟨blk,cap,cur,rfl,s6 _,hh,hcap,hm,hcur,htake⟩⟩,λi a c d h=>by simp at h⟩
 ·have hfit:∀i,i<xs.length→i * k+k≤us.length:=λi hi=>by
   rw[hul]
   have:=sD k (show i+1≤xs.length from hi);rwa [s4,tT] at this
  have p1:∀i:Fin xs.length,((us.drop (i.val * k)).take k).length=k:=λi=>by
   have:=hfit i.val i.isLt
   rw[sp,te];omega
  have p3:∀(i:Fin xs.length) (c:Nat) (dd:RV) (u:Value),(row xs[i])[c]?=some dd→((us.drop (i.val * k)).take k)[c]?=some u→A5 x.w x.S dd u:=λi c dd u hd hu=>by
   obtain⟨u',e1,e2⟩:=hcell i.val xs[i] c dd (rU i.isLt) hd
   rw[sV,sT] at hu
   split at hu
   ·rw[e1] at hu;cases hu;exact e2
   ·cases hu
  let d:Array (El x row k):=Array.ofFn (n:=xs.length) λi=>(⟨xs[i],(us.drop (i.val * k)).take k,p1 i,hrow _ (sG i.isLt),p3 i⟩:El x row k)
  have hds:d.size=xs.length:=by simp[d]
  have hdt:∀i (hi:i<d.size),d[i].t=xs[i]'(by rw[← hds];exact hi):=λi hi=>by simp[d]
  have hdu:∀i (hi:i<d.size),d[i].us=(us.drop (i * k)).take k:=λi hi=>by simp[d]
  haveI:Inhabited (El x row k):=⟨d[0]'(by rw[hds];exact hpos)⟩
  have hek:∀a:El x row k,a.us.length=k:=λa=>a.hl
  have hH:HoldsK (λa:El x row k=>a.us) k x.w blk 0 d:=by
   intro j hj
   rw[size_flatK,hds] at hj
   have e1:j / k<xs.length:=(ui hk).2 hj
   have e2:j % k<k:=Nat.mod_lt _ hk
   have e3:j=j / k * k+j % k:=by rw[tZ];exact(Nat.div_add_mod j k).symm
   have hg:(flatK (λa:El x row k=>a.us) k d)[j]?=us[j]?:=by
    rw[e3,Xl (k:=k) (λa:El x row k=>a.us) d hek (by rw[hds];exact e1) e2]
    rw[hdu,sV,rO e2,sT]
   have hj2:j<us.length:=by rw[hul];exact hj
   have hj3:j<(flatK (λa:El x row k=>a.us) k d).size:=by rw[size_flatK,hds];exact hj
   have hval:(flatK (λa:El x row k=>a.us) k d)[j]! = us[j]:=by
    rw[ri _ j hj3]
    rw[rz hj3,rU hj2] at hg
    exact rx hg
   refine⟨?_,?_⟩
   ·rw[hval]
    unfold World.cell?
    simp only[hh,sF,Option.isSome_none,tE,ti]
    have:us[j]?=cur[j]?:=by
     rw[← htake,sV,rO hj,sX]
    rw[← this,rU hj2];rfl
   ·unfold World.frozen?
    simp[hh]
  have hcon:=AnyQ.slices_SortFunc L k aE zE (λa:El x row k=>a.us) hek (λa=>a.one) (λa b=>cf a.t b.t) (oh h2) g #[] blk 0 cap d x.w eg (pJ hok (λa b=>hc a b _ (h1 a b)) hblk d.size) hH hlt (by rw[hds];exact h0)
  rw[hds] at hcon
  refine hcon.mono λe' w' ⟨he,d',n,os,hp,hso,hw⟩=>?_
  subst hw
  obtain⟨f1,f2,f3,f4,f5,f6⟩:=Vb (λa:El x row k=>a.us) k x.w blk n d' os
  obtain⟨hps,_,hpp⟩:=hp
  have hdl:d'.toList.map (·.t)=l:=by
   have e1:d'.extract 0 xs.length=d':=by rw[← hds,← hps];exact Array.extract_size
   have e2:d.extract 0 xs.length=d:=by rw[← hds];exact Array.extract_size
   rw[e1,e2] at hpp
   refine aN hs h1 ((hpp.map _).trans ?_) ?_
   ·have:d.toList.map (·.t)=xs:=by
     apply tK
     intro i
     rw[rc,sX]
     by_cases hi:i<d.size
     ·rw[rz hi,sY,hdt i hi,rU]
     ·rw[tV (by omega),sy (by omega)];rfl
    rw[this]
   ·rw[tq,tM]
    intro i j hi hj hij
    have hj':j<d'.size:=by simpa using hj
    have hi':i<d'.size:=by simpa using hi
    have:=hso i j (s6 _) hij (by rw[← hds,← hps];exact hj')
    rw[ri d' i hi',ri d' j hj'] at this
    simpa[ltOf] using this
  have hll:l.length=xs.length:=h4.length_eq
  have hcs:xs.length * k≤cur.size:=by rw[hcur];exact sD k hcap
  have hflat:(putCells id 0 (flatK (λa:El x row k=>a.us) k d') cur).toList.take (xs.length * k)=(flatK (λa:El x row k=>a.us) k d').toList:=by
   have hsf:(flatK (λa:El x row k=>a.us) k d').size=xs.length * k:=by rw[size_flatK,hps,hds]
   apply tK
   intro j
   rw[sV,sX,sX]
   split
   ·rename_i hj
    unfold putCells
    have hjc:j<cur.size:=by omega
    have hjf:j<(flatK (λa:El x row k=>a.us) k d').size:=by omega
    rw[Array.getElem?_mapIdx,rz hjc,rz hjf,sY,rO ⟨s6 _,by omega⟩]
    simp only[Nat.sub_zero,id]
    rw[ri _ j hjf]
   ·rename_i hj
    rw[tV (by omega)]
  refine⟨he,f1,f2,f3,f4,f5,(flatK (λa:El x row k=>a.us) k d').toList,⟨?_,.inr ⟨blk,cap,putCells id 0 (flatK (λa:El x row k=>a.us) k d') cur,rfl,s6 _,f6 cur e (0,0) hh,hcap,hm,?_,hflat⟩⟩,λi a c dd hi hd=>?_⟩
  ·simp[hps,hds]
  ·rw[← hcur];simp[putCells]
  ·rw[← hdl,rc,sX,rg] at hi
   obtain⟨el,hel,rfl⟩:=hi
   obtain⟨hi',rfl⟩:=sW.1 hel
   have hcl:c<k:=by
    have:=(rW.1 hd).1
    rw[(d'[i]).hrl] at this;exact this
   have hcu:c<(d'[i]).us.length:=by rw[(d'[i]).hl];exact hcl
   refine⟨(d'[i]).us[c],?_,(d'[i]).hr c dd _ hd (rU hcu)⟩
   rw[sX,Xl (k:=k) (λa:El x row k=>a.us) d' hek hi' hcl,rU hcu]
structure Sf(P:Program)(f:FuncId)(k:Nat):Prop where
 call:HE P f
 ex:∃ρ:Ren,ρ.f 6=f∧SlLaysF0.n6 P ρ∧(∀w,(isAgg (ρ.t 24)).run P w=.ok true w)∧∀w,(Go.sizeOf (ρ.t 24)).run P w=.ok k w
theorem Yx{g}(h:HE P g):∀args w,(callFunc g args).run P w=.ok (.enter g args) w:=by
 obtain⟨fn,j,l,m⟩:=h
 intro args w
 simp only[callFunc,Sem.run_bind,run_program,Result.andThen_ok,j,m,l]
 rfl
theorem qn{f}(L:Sf P f k)(hk:0<k)(A:∀a,(row a).length=k)(hg:HE P g)(hc:∀a b r,cmp a b=some r→AR P g [.agg ((row a).map .r),.agg ((row b).map .r)] (.r (.int .i64 r))){B}{e}{xs l:List τ}(Z:HU cmp xs=some l) :
  BC P f 1 [.own 1000 B,.fn g []] [(1000,some (.arr B e k (xs.map row)))] (λr h'=>∃i:Nat→Nat,r=.tup []∧h'=[(1000,some (.arr B e k (l.map row)))]):=by
 obtain⟨M,ρ,hf,hL,aE,zE⟩:=L
 refine⟨M,λx vs m hH ha=>?_⟩
 subst hf
 have j:x.H 1000=some (.arr B e k (xs.map row)):=by rw[hH];rfl
 obtain⟨a0,h0,aa,ab,V,O,C,E⟩:=m.obj _ _ j
 obtain⟨v1,X,rfl⟩:∃v1 X,vs = #[v1,X]:=by
  have:=ha.1
  match vs,this with
  | ⟨[a,b]⟩,_=>exact⟨a,b,rfl⟩
 have a1:=ha.2 0 _ v1 rfl rfl
 have a2:=ha.2 1 _ X rfl rfl
 have e2:X=.func (.func g) #[] #[]:=by
  generalize a6:([]:List AV)=cs at a2
  cases a2 with
  | fn hl _=>
   subst a6
   have:∀V:Array Value,[].length (α:=AV)=V.size→V = #[]:=λV h=>ur h.symm
   rw[this _ hl]
 have T:Cr (x.β 1000) (xs.map row).length v1:=by
  cases a1 with
  | own _ _ h=>exact h _ j rfl
 subst e2
 rw[rt] at O C T
 cases I:x.β 1000 with
 | none=>
  rw[I] at O T
  obtain⟨hz,_⟩:=O
  obtain⟨_,rfl⟩:=T
  have hx:xs=[]:=tF.1 hz
  subst hx
  have hl:l=[]:=List.perm_nil.1 (NJ Z).2.choose_spec.2.2.2.1
  subst hl
  refine(AnyF.slices_SortFunc_none hL none 0 (.func (.func g) #[] #[]) x.w).mono λe' w' ⟨he,hw⟩=>?_
  subst hw
  exact⟨_,x,.tup [],_,he,rfl,Cx.le.refl x,m,hH,.tup rfl (λi c u h=>by simp at h),rfl,rfl,λ_=>B,rfl,rfl⟩
 | some p=>
  obtain⟨blk,cap⟩:=p
  rw[I] at O T
  cases O;cases T
  have w:=m.own 1000 _ blk cap j I
  have F:l.length=xs.length:=(NJ Z).2.choose_spec.2.2.2.1.length_eq
  refine(ZT hL aE zE (Yx hg) m hc Z w.1 w.2.1 hk (λa _=>A a) C λi a c d q hd=>E i (row a) c d (by rw[rc,q];rfl) hd).mono λe' w' ⟨he,f1,f2,f3,f4,f5,a7,f6,f7⟩=>?_
  have U:=Dj m 1000 (.arr B e k (l.map row)) w' (some (blk,cap)) x.n f1 f2 f3 f4
   (λb J a8=>f5 b J λe=>a8 _ cap j (by rw[e];exact I))
   (λb k' J=>by cases J;exact⟨rX w.1 f1,.inr ⟨_,cap,j,I⟩⟩)
   (rV _) a0 (λ_=>⟨_,j,rfl,by simp[Ab.shape,F],I.symm⟩)
   (λac=>⟨hk,λr hr=>by obtain⟨a,_,rfl⟩:=sK.1 hr;exact A a,.slice (some ⟨blk,0,none⟩) xs.length cap,a7,by rw[rt,F];rfl,by rw[rt,F];exact f6,
    λi r c d q hd=>by
     rw[rc,rg] at q
     obtain⟨a,q,rfl⟩:=q
     obtain⟨u,k1,k2⟩:=f7 i a c d q hd
     exact⟨u,k1,k2.mono (λb J=>f5 b (m.S_lt b J) λe=>w.2.1 (by rw[← e];exact J)) λ_ h=>h⟩⟩)
  refine⟨_,_,.tup [],[(1000,some (.arr B e k (l.map row)))],he,rfl,U.1,U.2,?_,.tup rfl (λi c u h=>by simp at h),rfl,rfl,λ_=>B,rfl,rfl⟩
  simp only[hH]
  funext i
  by_cases q:1000=i
  ·subst q;rfl
  ·rw[rN q,BI,rN q,BI,rN q]
noncomputable def Kj(cmp:τ→τ→Option Int)(m:List (Int × List τ))(q:Int):Option (List (Int × List τ)):=
 match AU m q with
 | none=>some m
 | some j=>(HU cmp j).map λl=>An m q l
theorem qq{f}(L:Sf P f k)(hk:0<k)(T:∀a,(row a).length=k)(hg:HE P g)(hc:∀a b r,cmp a b=some r→AR P g [.agg ((row a).map .r),.agg ((row b).map .r)] (.r (.int .i64 r))){U ve}{e:TypeId}{m m':List (Int × List τ)}{q}(J:Kj cmp m q=some m') :
  BC P f 1 [.fo 1000 U ve q,.fn g []] [(1000,some (.mr U ve e k none (AN (λ(l:List τ)=>l.map row) m)))] (λr h'=>∃i:Nat→Nat,r=.tup []∧h'=[(1000,some (.mr U ve e k none (AN (λ(l:List τ)=>l.map row) m')))]):=by
 obtain⟨a7,ρ,hf,hL,aE,zE⟩:=L
 refine⟨a7,λx vs A hH ha=>?_⟩
 subst hf
 have w:x.H 1000=some (.mr U ve e k none (AN (λ(l:List τ)=>l.map row) m)):=by rw[hH];rfl
 obtain⟨v1,v2,rfl⟩:∃v1 v2,vs = #[v1,v2]:=by
  have:=ha.1
  match vs,this with
  | ⟨[a,b]⟩,_=>exact⟨a,b,rfl⟩
 have a1:=ha.2 0 _ v1 rfl rfl
 have a2:=ha.2 1 _ v2 rfl rfl
 have e2:v2=.func (.func g) #[] #[]:=by
  generalize ai:([]:List AV)=cs at a2
  cases a2 with
  | fn hl _=>
   subst ai
   have:∀us:Array Value,[].length (α:=AV)=us.size→us = #[]:=λus h=>ur h.symm
   rw[this _ hl]
 subst e2
 rcases NI A w a1 with ⟨_,rfl,hn⟩ | ⟨j,rs,blk,cap,us,hj,a8,av,hR,rfl⟩
 ·rw[KU,Option.map_eq_none_iff] at hn
  unfold Kj at J
  rw[hn] at J
  cases J
  refine(AnyF.slices_SortFunc_none hL none 0 (.func (.func g) #[] #[]) x.w).mono λe' w' ⟨he,hw⟩=>?_
  subst hw
  exact⟨_,x,.tup [],_,he,rfl,Cx.le.refl x,A,hH,.tup rfl (λi c u h=>by simp at h),rfl,rfl,λ_=>U,rfl,rfl⟩
 ·rw[KU,rg] at a8
  obtain⟨xs,aa,rfl⟩:=a8
  unfold Kj at J
  rw[aa] at J
  simp only[rg] at J
  obtain⟨l,J,rfl⟩:=J
  obtain⟨r1,r2,r3,r4⟩:=hR
  rw[rt] at r3
  have C:=A.ext 1000 _ j blk cap w r2
  obtain⟨aj,_⟩:=A.obj _ _ w
  obtain⟨h0,hv,b,es,h1,h2,h3,h4⟩:=JE A w
  have V:l.length=xs.length:=(NJ J).2.choose_spec.2.2.2.1.length_eq
  have ab:b≠blk:=λe=>C.2.2.2.1 1000 _ 1 w (by rw[h1,e])
  rw[rt]
  refine(ZT hL aE zE (Yx hg) A hc J C.1 C.2.1 hk (λa _=>T a) r3 λi a c d F hd=>r4 i (row a) c d (by rw[rc,F];rfl) hd).mono λe' w' ⟨he,f1,f2,f3,f4,f5,ak,f6,f7⟩=>?_
  have al:Ah m q=some j:=by
   have:=TX (λp:Int × List τ=>(p.1,p.2.map row)) (λ_=>rfl) m q
   rw[← this];exact hj
  obtain⟨aw,X,ac,ad⟩:=Df al
  rw[aa] at ac;cases ac
  have ae:(An m q l).length=m.length:=by rw[ad,th]
  have hget:∀i:Nat,(An m q l)[i]?=if i=j then some (q,l) else m[i]?:=λi=>by
   rw[ad,sq]
   by_cases B:j=i
   ·subst B
    have:j<m.length:=(rW.1 X).1
    simp[this]
   ·rw[rN B,rN (λe=>B e.symm)]
  have af:=J7 A 1000 (.mr U ve e k none (AN (λ(l:List τ)=>l.map row) (An m q l))) w' (some (b,1)) (x.K 1000) x.n f1 f2 f3 f4
   (λb2 I an=>f5 b2 I λe=>an _ w (.inr ⟨j,cap,by rw[e];exact r2⟩))
   (λb2 Z I=>by cases I;exact⟨rX (A.own 1000 _ b 1 w h1).1 f1,.inr ⟨_,w,.inl ⟨1,h1⟩⟩⟩)
   (λM b2 Z I=>by
    have hx:=A.ext 1000 _ M b2 Z w I
    exact⟨⟨rX hx.1 f1,.inr ⟨_,w,.inr ⟨M,Z,I⟩⟩⟩,λk3 a0=>by cases a0;exact hx.2.2.2.1 1000 _ 1 w h1,λj3 k3 a0=>(hx.2.2.2.2 1000 _ j3 k3 w a0).2⟩)
   (rV _) aj (λ_=>⟨_,w,rfl,rfl,h1.symm⟩)
   (λ_ _ _=>⟨_,w,rfl,rfl,rfl,by
    apply tK
    intro i
    simp only[Ab.kshape,AN,rc,hget]
    by_cases B:i=j
    ·subst B;rw[rO rfl,X];simp[V]
    ·rw[rN B],rfl⟩)
   (λax=>by
    refine Cb.mr (id:=1000) (λM=>by simp) h0 hv ((f5 b (A.own 1000 _ b 1 w h1).1 ab).trans h2) (by rw[show(AN (λ(l:List τ)=>l.map row) (An m q l)).length=(AN (λ(l:List τ)=>l.map row) m).length by simp[AN,ae]];exact h3) λM q2 ao ag=>?_
    simp only[AN,rc,hget,rg] at ag
    obtain⟨p2,O,a6⟩:=ag
    by_cases B:M=j
    ·subst B
     rw[rO rfl] at O
     cases O
     simp only[rf] at a6
     obtain⟨rfl,rfl⟩:=a6
     obtain⟨bb,E,ah,⟨_,g2,_,_⟩,g5⟩:=h4 M q (xs.map row) (by simp[AN,rc,X])
     rw[r2] at g2;cases g2
     refine⟨blk,cap,ak,⟨λr hr=>by obtain⟨a,_,rfl⟩:=sK.1 hr;exact T a,by simpa using r2,by rw[rt,V];exact f6,λi r c d F hd=>?_⟩,?_⟩
     ·rw[rc,rg] at F
      obtain⟨a,F,rfl⟩:=F
      obtain⟨u,k1,Z⟩:=f7 i a c d F hd
      exact⟨u,k1,Z.mono (λb hb=>f5 b (A.S_lt b hb) λe=>C.2.1 (by rw[← e];exact hb)) λ_ h=>h⟩
     ·rw[rt] at g5 ⊢
      rw[V];exact g5
    ·rw[rN B] at O
     obtain⟨bb,E,ah,⟨g1,g2,g3,g4⟩,g5⟩:=h4 M q2 ao (by simp only[AN,rc,O,sY,a6])
     have aq:bb≠blk:=λe=>B (A.ext 1000 _ j blk cap w r2 |>.2.2.2.2 1000 _ M E w (by rw[← e];exact g2)).2
     have ar:=A.ext 1000 _ M bb E w g2
     refine⟨bb,E,ah,⟨g1,by simpa using g2,?_,λi r c d F hd=>?_⟩,g5⟩
     ·obtain⟨o1,o2⟩:=g3
      refine⟨o1,?_⟩
      rcases o2 with o2 | ⟨g',c',au,p1,p2,p3,p4⟩
      ·exact .inl o2
      ·simp only[Value.slice.injEq,rY,Addr.mk.injEq,ud] at p1
       obtain⟨rfl,_,rfl⟩:=p1
       exact .inr ⟨bb,E,au,rfl,p2,(f5 bb ar.1 aq).trans p3,p4⟩
     ·obtain⟨u,k1,Z⟩:=g4 i r c d F hd
      exact⟨u,k1,Z.mono (λb hb=>f5 b (A.S_lt b hb) λe=>C.2.1 (by rw[← e];exact hb)) λ_ h=>h⟩)
  refine⟨_,_,.tup [],[(1000,some (.mr U ve e k none (AN (λ(l:List τ)=>l.map row) (An m q l))))],he,rfl,af.1,af.2,?_,.tup rfl (λi c u h=>by simp at h),rfl,rfl,λ_=>U,rfl,rfl⟩
  simp only[hH]
  funext i
  by_cases F:1000=i
  ·subst F;rfl
  ·rw[rN F,BI,rN F,BI,rN F]
end
end Go.Proofs.YtifgmfoihehlbaaGreatDoor.Al

set_option linter.unusedVariables false
namespace Go.Proofs.YtifgmfoihehlbaaGreatDoor.Al
open Go.Shelf Go.RowKit Go.Lib Go.Sort
section
variable{P:Program}
end
end Go.Proofs.YtifgmfoihehlbaaGreatDoor.Al

namespace Go.Proofs.YtifgmfoihehlbaaGreatDoor.Al
section
variable{P:Program}{s:St}
end
def Gt{α σ:Type}(l:List α)(F:σ→Int→α→Option σ):Nat→σ→Option σ
 | 0,s=>some s
 | k+1,s=>(l[k]?).bind λx=>(F s (k:Int) x).bind (Gt l F k)
def L5{α σ:Type}(l:List α)(F:σ→Int→α→Option σ)(s:σ):Option σ:=if l.length≤9223372036854775807 then Gt l F l.length s else none
theorem jD{α σ:Type}{l:List α}{F:σ→Int→α→Option σ}{s r:σ}(h:L5 l F s=some r):l.length≤9223372036854775807∧Gt l F l.length s=some r:=by
 unfold L5 at h
 split at h
 ·rename_i j;exact⟨j,h⟩
 ·cases h
theorem pp{α σ:Type}{l:List α}{F:σ→Int→α→Option σ}{k:Nat}{s r:σ}(h:Gt l F (k+1) s=some r):∃x s',l[k]?=some x∧F s (k:Int) x=some s'∧Gt l F k s'=some r:=by
 unfold Gt at h
 rw[tv] at h
 obtain⟨x,j,h⟩:=h
 rw[tv] at h
 obtain⟨s',m,q⟩:=h
 exact⟨x,s',j,m,q⟩
theorem AZ.sub{e' e}{h' h}{n' n N}(F:∀t,get e' t=.any∨get e' t=get e t)(I:∀id o,hget h' id=some o→hget h id=some o)(J:n≤n'):AZ ⟨e,h,n,N⟩ ⟨e',h',n',N⟩:=by
 intro U a w ⟨_,j,hsz,y,m,q,A,M,B,l⟩
 obtain⟨E,O⟩:=LR A (hget h') (λid o T=>by rw[M];exact I id o T) n' (by rw[B];exact J)
 refine⟨_,j,hsz,{ y with H:=hget h',n:=n' },m,q.trans E,O,rfl,rfl,λt=>?_⟩
 rcases F t with C | C
 ·rw[C];exact .any _
 ·rw[C];exact(l t).mono E
section
variable{P:Program}{ops:Array Oper}{rest:List Oper}{s:St}{K:St→Prop}{o:Oper}
theorem Hn.mono{id g}{C B}(hC:∀c h n,C c h n→B c h n){e}{s}(h:Hn id g C e s):Hn id g B e s:=by
 cases e with
 | normal=>obtain⟨e0,N,m,j,q,w,A⟩:=h;exact⟨e0,N,m,j,q,w,hC _ _ _ A⟩
 | ret=>obtain⟨e0,N,m,j,q,w,A⟩:=h;exact⟨e0,N,m,j,q,w,hC _ _ _ A⟩
 | exit i=>obtain⟨e0,N,m,j,q,w,A⟩:=h;exact⟨e0,N,m,j,q,w,hC _ _ _ A⟩
 | goto l=>exact h
 | panic E=>exact h
 | outgrown=>exact h
theorem FN.mono{id g}{bd}{C q}(hC:∀c h n,C c h n→q c h n){e}{s}(h:FN P id g bd C e s):FN P id g bd q e s:=by
 cases e with
 | normal=>obtain⟨e0,N,w,j,m,A,B⟩:=h;exact⟨e0,N,w,j,m,A,B.mono λ_ _ h=>h.mono hC⟩
 | ret=>exact h
 | exit i=>exact h
 | goto l=>exact h
 | panic E=>exact h
 | outgrown=>exact h
theorem qS{σ:Type}{id g N d:Nat}{e0:Am}{ps:List Nat}{asg bd:Code}{fo:Operand}{xs:Array Operand}{l:Array TypeId}{Hf:σ→(Nat→Nat)→Ag}{nf:(Nat→Nat)→Nat}{st':σ}(bs:List AV)(hg:o.guard=none)(hd:o.dst=some d)(m:Nat.blt d s.N=true)
  (B:o.op=.call { callee:=.value fo,args:=xs,argTypes:=l }) (q:Ev true s.e fo (.yld id g)) (C:KY true s.e xs.toList bs) (E:hget s.h id=some (.lp g e0 N ps asg bd .ready none))
  (F:Nat.beq bs.length ps.length=true) (w:(ps.all λp=>Nat.blt p N)=true) (A:(B5 asg&&B5 bd)=true)
  (hw:AW P asg (FN P id g bd (SI id (.lp g e0 N ps asg bd .ready none) Hf nf st')) ⟨JT ps bs e0,s.h,s.n,N⟩)
  (I:∀j,B1 P ops rest { e:=(d,.r (.bool true))::s.e,h:=(id,some (.lp g e0 N ps asg bd .ready none))::Hf st' j,n:=nf j,N:=s.N } K):B1 P ops (o::rest) s K:=by
 refine q7 bs hg (λU h=>by rw[hd] at h;cases h;exact m) B q C E F w A (hw.mono λe V J=>J.mono λc h' n' M=>?_)
 obtain⟨rfl,j,O,T⟩:=M
 rw[hd]
 refine B1.weak (AZ.sub (e':=(d,.r (.bool true))::s.e) (h':=(id,some (.lp g e0 N ps asg bd .ready none))::Hf st' j) (n':=nf j) (λt=>.inr rfl) O T) (I j)
end
end Go.Proofs.YtifgmfoihehlbaaGreatDoor.Al
