/- The program logic, a part of it. -/
import Derived.Test.YtifgmfoihehlbaaGreatDoorAl1
import Derived.ArgAppend
import Derived.Below
import Derived.Calls
import Derived.LaidLaws
import Derived.Laws.BytesString
import Derived.Laws.RangeString
import Derived.Lib.LaidU8
import Derived.MapKept
import Derived.Maps.RangeRun
import Derived.OrdersIn
import Derived.Shelf.SlGeneric
import Derived.Shelf.SlSortCmp.NoneTotal
import Derived.Shelf.Slices.In.SortNone
import Derived.Shelf.Sort.Plain
import Derived.Shelf.Strconv.AtoiAll
import Derived.Shelf.Strconv.Itoa3
import Derived.Shelf.Unicode.ValidAny
import Derived.Test.YtifgmfoihehlbaaGreatDoorProg
import Derived.WideLaws
set_option linter.all false
namespace Go.Proofs.YtifgmfoihehlbaaGreatDoor.Al
structure PO where
 d:Option Nat
 v:(Nat→Nat)→AV
 hp:Option (Nat × ((Nat→Nat)→Option Af))
 dep:List Nat
def PO.wE(p:PO):Option (Nat × ((Nat→Nat)→AV)):=match p.d with | some d=>some (d,p.v) | none=>none
def PO.wH(p:PO):Option (Nat × ((Nat→Nat)→Option Af)):=p.hp
section
variable{α:Type}(wr:PO→Option (Nat × ((Nat→Nat)→α)))(D:Nat→Bool)(G:Nat→Nat)
def Ef:List (Nat × α)→List PO→Nat→List (Nat × α)
 | e,[],_=>e
 | e,p::L,k=>match D k with
  | true=>match wr p with
   | some (d,v)=>Ef ((d,v G)::e) L (k+1)
   | none=>Ef e L (k+1)
  | false=>Ef e L (k+1)
def Hx(t:Nat)(L:List PO)(k:Nat):Prop:=∀(j:Nat) (p:PO) v,L[j]?=some p→D (k+j)=true→wr p≠some (t,v)
end
theorem Hx.tail{α:Type}{wr:PO→Option (Nat × ((Nat→Nat)→α))}{D:Nat→Bool}{t:Nat}{p:PO}{L:List PO}{k:Nat}(h:Hx wr D t (p::L) k):Hx wr D t L (k+1):=
 λj q v l m=>h (j+1) q v (by simpa using l) (by rwa [show k+(j+1)=k+1+j by omega])
section
variable{α:Type}{wr:PO→Option (Nat × ((Nat→Nat)→α))}{D:Nat→Bool}{G:Nat→Nat}{lk:List (Nat × α)→Nat→α}(hlk:∀d v R t,lk ((d,v)::R) t=if d=t then v else lk R t)
include hlk
theorem If{t:Nat} : ∀(L:List PO) (e:List (Nat × α)) (k:Nat),Hx wr D t L k→lk (Ef wr D G e L k) t=lk e t
 | [],_,_,_=>rfl
 | p::L,e,k,h=>by
  unfold Ef
  cases l:D k with
  | false=>exact If L e (k+1) h.tail
  | true=>
   cases m:wr p with
   | none=>exact If L e (k+1) h.tail
   | some q=>
    obtain⟨d,v⟩:=q
    have j:d≠t:=λe=>h 0 p v rfl l (by rw[m,e])
    exact(If L _ (k+1) h.tail).trans (by rw[hlk,qx j])
theorem Jy{t}{p}{v}(hw:wr p=some (t,v)):∀(L:List PO) (e:List (Nat × α)) (k j:Nat),L[j]?=some p→D (k+j)=true→Hx wr D t (L.drop (j+1)) (k+j+1)→lk (Ef wr D G e L k) t=v G
 | [],_,_,_,h,_,_=>by simp at h
 | q::L,e,k,0,A,C,B=>by
  cases A
  unfold Ef
  rw[show D k=true from C,hw]
  exact(If hlk L _ (k+1) (by simpa using B)).trans (by rw[hlk,qy rfl])
 | q::L,e,k,j+1,A,C,B=>by
  have l:L[j]?=some p:=by simpa using A
  have m:D (k+1+j)=true:=by rwa [show k+1+j=k+(j+1) by omega]
  have w:Hx wr D t (L.drop (j+1)) (k+1+j+1):=by rw[show k+1+j+1=k+(j+1)+1 by omega];simpa using B
  unfold Ef
  cases D k with
  | false=>exact Jy hw L e (k+1) j l m w
  | true=>
   cases wr q with
   | none=>exact Jy hw L e (k+1) j l m w
   | some r=>exact Jy hw L _ (k+1) j l m w
theorem Io{t}{w}{A} : ∀(L:List PO) (e e':List (Nat × α)) (k:Nat),lk e' t=lk e t →
  (∀(j:Nat) (p:PO) v,L[j]?=some p→wr p=some (t,v)→w (k+j)=D (k+j)∧(D (k+j)=true→v A=v G))→lk (Ef wr w A e' L k) t=lk (Ef wr D G e L k) t
 | [],_,_,_,h,_=>h
 | p::L,e,e',k,h,E=>by
  have l:∀(j:Nat) (q:PO) v,L[j]?=some q→wr q=some (t,v)→w (k+1+j)=D (k+1+j)∧(D (k+1+j)=true→v A=v G):=λj q v B C=>by
   have:=E (j+1) q v (by simpa using B) C
   rwa [show k+(j+1)=k+1+j by omega] at this
  unfold Ef
  cases hp:wr p with
  | none=>
   have J:=Io L e e' (k+1) h l
   cases w k<;>cases D k<;>exact J
  | some q=>
   obtain⟨d,v⟩:=q
   by_cases m:d=t
   ·subst m
    obtain⟨B,C⟩:=E 0 p v rfl hp
    rw[sT] at B C
    rw[B]
    cases M:D k with
    | false=>exact Io L e e' (k+1) h l
    | true=>exact Io L _ _ (k+1) (by rw[hlk,hlk,qy rfl,qy rfl,C M]) l
   ·have F:lk ((d,v A)::e') t=lk e' t:=by rw[hlk,qx m]
    have I:lk ((d,v G)::e) t=lk e t:=by rw[hlk,qx m]
    cases w k<;>cases D k
    ·exact Io L _ _ (k+1) h l
    ·exact Io L _ _ (k+1) (by rw[I];exact h) l
    ·exact Io L _ _ (k+1) (by rw[F];exact h) l
    ·exact Io L _ _ (k+1) (by rw[F,I];exact h) l
end
abbrev EA(D:Nat→Bool)(G:Nat→Nat)(e:As)(L:List PO):As:=Ef PO.wE D G e L 0
abbrev ED(D:Nat→Bool)(G:Nat→Nat)(h:Aj)(L:List PO):Aj:=Ef PO.wH D G h L 0
def DZ(G:Nat→Nat)(i n:Nat):Nat→Nat:=λk=>if k=i then n else G k
section
variable{P:Program}{ops:Array Oper}
def wt(ops:Array Oper):Nat→Nat→Nat→Bool
 | 0,_,_=>false
 | f+1,j,i=>Region.waitsFor .any ops j i||(List.range j).any λm=>Region.waitsFor .any ops j m&&wt ops f m i
def Cl(ops:Array Oper)(D:Nat→Bool):Prop:=∀j k,D j=true→Region.waitsFor .any ops j k=true→D k=true
theorem Cl.wt{D}(h:Cl ops D):∀(f j i:Nat),Al.wt ops f j i=true→D j=true→D i=true
 | 0,_,_,l,_=>by cases l
 | f+1,j,i,l,w=>by
  unfold Al.wt at l
  rw[rH] at l
  rcases l with l | l
  ·exact h j i w l
  ·obtain⟨m,_,q⟩:=sj.1 l
   rw[rF] at q
   exact h.wt f m i q.2 (h j m w q.1)
structure Cq(ops:Array Oper)(D:Nat→Bool)(i:Nat):Prop where
 cl:Cl ops D
 hw:∀k,Region.waitsFor .any ops i k=true→D k=true
 un:D i=false
theorem Cq.yes{D}{i}(h:Cq ops D i){k}(j:Al.wt ops 40 i k=true):D k=true:=by
 unfold Al.wt at j
 rw[rH] at j
 rcases j with j | j
 ·exact h.hw k j
 ·obtain⟨m,_,l⟩:=sj.1 j
  rw[rF] at l
  exact h.cl.wt 39 m k l.2 (h.hw m l.1)
theorem Cq.no{D}{i}(h:Cq ops D i){k}(j:Al.wt ops 40 k i=true):D k=false:=by
 cases l:D k with
 | false=>rfl
 | true=>have:=h.cl.wt 40 k i j l;rw[h.un] at this;cases this
def HW(c0:Cx)(s:St)(L:List PO)(listed:Array Bool)(a:Act)(w:World):Prop:=
 ∃j,a.defers=j∧a.tmps.size=s.N∧∃(y:Cx) (G:Nat→Nat),y.w=w∧c0.leM j y∧y.ok∧(∀id,y.H id=hget (ED (λk=>listed.getD k false) G s.h L) id) ∧
  (∀t,AX y (get (EA (λk=>listed.getD k false) G s.e L) t) (a.tmps.getD t undef))
def Fy(P:Program)(o:Oper)(R:As)(h:Aj)(n:Nat)(v:AV)(h':Aj):Prop:=
 ∀(x:Cx) (a:Act),x.ok→x.H=hget h→x.n=n→CH x R a→∀(K:Act→World→Prop) (Q:Exit→Act→World→Prop),
  (∀(u:Value) (y:Cx),x.le y→y.ok→y.H=hget h'→AX y v u→K (a.put o.dst u) y.w)→o.wp P a x.w K Q
theorem Bc.toN{o}{R}{h}{n}{v}{h'}{n'}(j:Bc P true o R h n v h' n'):Fy P o R h n v h':=
 λx a l m q w K Q A=>j rfl x a l m q w K Q λu y B C E _ F=>A u y B C E F
def Ob(P:Program)(ops:Array Oper)(s:St)(L:List PO)(i:Nat)(p:PO)(o:Oper):Prop:=
 o.dst=p.d∧(∀d,p.d=some d→Nat.blt d s.N=true)∧∀(D:Nat→Bool) (G:Nat→Nat) (e:As) (h:Aj) (n:Nat),Cq ops D i →
  (∀t,get e t=get (EA D G s.e L) t)→(∀id,hget h id=hget (ED D G s.h L) id) →
  (o.guard=none∧∃l,Fy P o e h n (p.v (DZ G i n)) l∧(∀id,hget l id=match p.hp with | some (j,q)=>if j=id then q (DZ G i n) else hget h id | none=>hget h id)) ∨
  (p.hp=none∧∃c v0,p.v (DZ G i n)=.whn c v0∧GP e ops o c∧(c=true→∃m,Fy P o e h n v0 m∧∀id,hget m id=hget h id))
def LG(L:List PO)(t:Nat):Bool:=L.all λp=>match p.d with | some d=>!Nat.beq d t | none=>true
def Ti(L:List PO)(t:Nat):Bool:=L.all λp=>match p.hp with | some (d,_)=>!Nat.beq d t | none=>true
def I1:List PO→Bool
 | []=>true
 | p::L=>(match p.d with | some d=>LG L d | none=>true)&&I1 L
def O2(ops:Array Oper)(L:List PO):Bool:=(List.range L.length).all λj=>(List.range j).all λi=>match L[i]?.bind (·.hp),L[j]?.bind (·.hp) with
 | some (a,_),some (b,_)=>!Nat.beq a b||wt ops 40 j i
 | _,_=>true
theorem bL{L:List PO}{t:Nat}(h:LG L t=true){j:Nat}{p:PO}(l:L[j]?=some p):p.d≠some t:=λhd=>by
 have:=rZ.1 h p (rX l)
 rw[hd] at this
 simp at this
theorem lP{L:List PO}{t:Nat}(h:Ti L t=true){j:Nat}{p:PO}(l:L[j]?=some p):∀ob,p.hp≠some (t,ob):=λob hd=>by
 have:=rZ.1 h p (rX l)
 rw[hd] at this
 simp at this
theorem VI{p:PO}{t}{v}(h:p.wE=some (t,v)):p.d=some t∧v=p.v:=by
 unfold PO.wE at h
 split at h
 ·rename_i d hd;simp only[rE,rJ] at h;rw[hd,h.1];exact⟨rfl,h.2.symm⟩
 ·cases h
theorem Ux{p:PO}{t}(h:p.d=some t):p.wE=some (t,p.v):=by unfold PO.wE;rw[h]
theorem Re{p:PO}{t}{v}(h:p.wH=some (t,v)):∃ob,p.hp=some (t,ob)∧v=ob:=⟨v,h,rfl⟩
theorem Vz{p:PO}{t}{ob}(h:p.hp=some (t,ob)):p.wH=some (t,ob):=h
theorem Xt:∀ {L:List PO},I1 L=true→∀ {j:Nat} {p:PO} {t:Nat},L[j]?=some p→p.d=some t→LG (L.drop (j+1)) t=true
 | [],_,_,_,_,h,_=>by simp at h
 | q::L,h,0,p,t,l,m=>by
  cases l
  simp only[I1,rF,m] at h
  simpa using h.1
 | q::L,h,j+1,p,t,l,m=>by
  simp only[I1,rF] at h
  simpa using Xt h.2 (j:=j) (by simpa using l) m
theorem TW{L}{t}(h:LG L t=true){D}{k} : Hx PO.wE D t L k:=λ_ _ _ j _ l=>bL h j (VI l).1
theorem jH{L}{t}(h:Ti L t=true){D}{k} : Hx PO.wH D t L k:=λ_ _ _ j _ l=>by obtain⟨m,q,_⟩:=Re l;exact lP h j m q
theorem cC{L:List PO}(hB:O2 ops L=true){D}(l:Cl ops D){i}{p:PO}{t}{ob}(hp:L[i]?=some p)(C:p.hp=some (t,ob))(m:D i=false):Hx PO.wH D t (L.drop (i+1)) (i+1):=by
 intro j q v w E F
 obtain⟨l4,I,_⟩:=Re F
 rw[ry] at w
 have A:i+1+j<L.length:=(rC.1 w).1
 have:=rZ.1 (rZ.1 hB (i+1+j) (rV.2 A)) i (rV.2 (by omega))
 simp only[hp,w,rt,C,I,rH,sB] at this
 rcases this with B | B
 ·simp at B
 ·have:=l.wt 40 _ _ B E
  rw[m] at this;cases this
def NO(ops:Array Oper)(L:List PO):Bool:=(List.range L.length).all λj=>match L[j]? with
 | some p=>p.dep.all λk=>Nat.beq k j||wt ops 40 j k
 | none=>true
def Ij:List PO→Prop
 | []=>True
 | p::L=>(∀G j:Nat→Nat,(∀k,p.dep.contains k=true→G k=j k)→p.v j=p.v G∧∀id l,p.hp=some (id,l)→l j=l G)∧Ij L
theorem Ij.at:∀ {L:List PO},Ij L→∀ {j:Nat} {p:PO},L[j]?=some p→∀G l:Nat→Nat,(∀k,p.dep.contains k=true→G k=l k)→p.v l=p.v G∧∀id ob,p.hp=some (id,ob)→ob l=ob G
 | _::_,h,0,_,m=>by cases m;exact h.1
 | _::_,h,j+1,_,m=>Ij.at h.2 (j:=j) (by simpa using m)
theorem eR{L:List PO}(hB:NO ops L=true){D}(m:Cl ops D){j}{p:PO}(hp:L[j]?=some p)(w:D j=true){k}(B:p.dep.contains k=true):D k=true:=by
 have q:j<L.length:=(rC.1 hp).1
 have A:=rZ.1 hB j (rV.2 q)
 simp only[hp] at A
 have l:=rZ.1 A k (by simpa using B)
 simp only[rH] at l
 rcases l with l | l
 ·rw[tQ l];exact w
 ·exact m.wt 40 _ _ l w
theorem HW.put{c0:Cx}{s:St}{L}{listed:Array Bool}{a:Act}{i}{p:PO}{y z:Cx}{G}{u}(hp:L[i]?=some p)(hN:∀d, p.d=some d→Nat.blt d s.N=true)(hE:I1 L=true)(hH:O2 ops L=true)
 (hD:NO ops L=true) (U:Ij L) (hi:i<listed.size) (hr:Cq ops (λk => listed.getD k false) i) {ds} (V:a.defers=ds) (hsz:a.tmps.size=s.N) (a2:c0.leM ds y)
 (he:∀t, AX y (get (EA (λk => listed.getD k false) G s.e L) t) (a.tmps.getD t undef)) (X:y.le z) (Z:z.ok)
 (a6:∀id, z.H id=match p.hp with | some (j, B) => if j=id then B (DZ G i y.n) else hget (ED (λk => listed.getD k false) G s.h L) id | none => hget (ED (λk => listed.getD k false) G s.h L) id)
 (hv:AX z (p.v (DZ G i y.n)) u):HW c0 s L (listed.setIfInBounds i true) (a.put p.d u) z.w := by
  have a0:∀k, (listed.setIfInBounds i true).getD k false=(listed.getD k false||(k=i)) := λk => by
    by_cases J:i=k
    · subst J;simp[hi]
    · rw[getD_set_ne false J];simp[uN J]
  have l:∀k, k≠i→(listed.setIfInBounds i true).getD k false=listed.getD k false := λk J => by rw[a0];simp[J]
  have I:∀(j:Nat) (q:PO), L[j]?=some q→listed.getD j false=true→q.v (DZ G i y.n)=q.v G∧∀id B, q.hp=some (id, B)→B (DZ G i y.n)=B G := λj q T hl => by
    refine U.at T G _ λk J => ?_
    have hlk := eR hD hr.cl T hl J
    have:k≠i := λe => by subst e;rw[hr.un] at hlk;cases hlk
    simp[DZ, this]
  have a1:(λk => (listed.setIfInBounds i true).getD k false) (0+i)=true := by show(listed.setIfInBounds i true).getD (0+i) false=true;rw[rl, a0];simp
  refine⟨ds, by cases w:p.d<;>simpa[Act.put, w] using V, ?_, z, DZ G i y.n, rfl, a2.trans X, Z, λid => ?_, λt => ?_⟩
  · cases w:p.d<;>simpa[Act.put, w] using hsz
  · rw[a6]
    have rest:(∀B, p.hp≠some (id, B))→hget (ED (λk => listed.getD k false) G s.h L) id=hget (ED (λk => (listed.setIfInBounds i true).getD k false) (DZ G i y.n) s.h L) id := λa7 => by
      refine(Io BY L _ _ 0 rfl λj q v C h2 => ?_).symm
      obtain⟨B, h4, h5⟩ := Re h2
      have M:j≠i := λe => by subst e;rw[hp] at C;cases C;exact a7 B h4
      rw[rl]
      exact⟨l j M, λhl => by rw[h5];exact(I j q C hl).2 id B h4⟩
    cases E:p.hp with
    | none => exact rest λB => by rw[E];simp
    | some r =>
      obtain⟨j, B⟩ := r
      by_cases T:j=id
      · subst T
        simp only[uA]
        have F := cC hH hr.cl hp E hr.un
        refine(Jy BY (Vz E) L _ 0 i hp a1 ?_).symm
        rw[rl]
        intro m q v C h2 h3
        exact F m q v C ((l _ (by omega)).symm.trans h2) h3
      · simp only[qx T]
        exact rest λaa => by rw[E];intro e;cases e;exact T rfl
  · by_cases A:p.d=some t
    · have e1:get (EA (λk => (listed.setIfInBounds i true).getD k false) (DZ G i y.n) s.e L) t=p.v (DZ G i y.n) :=
        Jy Di (Ux A) L _ 0 i hp a1 (TW (Xt hE hp A))
      have O:t<a.tmps.size := by rw[hsz];exact DL (hN t A)
      rw[e1, A]
      simp only[Act.put, QL O, uA]
      exact hv
    · have e1:get (EA (λk => (listed.setIfInBounds i true).getD k false) (DZ G i y.n) s.e L) t=get (EA (λk => listed.getD k false) G s.e L) t := by
        refine Io Di L _ _ 0 rfl λj q v C h2 => ?_
        obtain⟨h4, h5⟩ := VI h2
        have M:j≠i := λe => by subst e;rw[hp] at C;cases C;exact A h4
        rw[rl]
        exact⟨l j M, λhl => by rw[h5];exact(I j q C hl).1⟩
      rw[e1]
      have h0 := (he t).mono X
      cases w:p.d with
      | none => exact h0
      | some d =>
        have a8:d≠t := λe => A (by rw[w, e])
        have O:d<a.tmps.size := by rw[hsz];exact DL (hN d w)
        simp only[Act.put, QL O, qx a8]
        exact h0
theorem HW.step{c0}{s}{L}{listed:Array Bool}{a:Act}{w}{i}{p}{o}{Q}(hp:L[i]?=some p)(ho:ops[i]?=some o)(U:Ob P ops s L i p o)(V:I1 L=true)(X:O2 ops L=true)
 (Z:NO ops L=true) (l:Ij L) (hi:i<listed.size) (T:Cq ops (λk => listed.getD k false) i) (J:HW c0 s L listed a w) :
    wpOp P ops Q i (HW c0 s L (listed.setIfInBounds i true)) a w := by
  obtain⟨_, m, hsz, y, G, a0, A, B, C, I⟩ := J
  subst a0
  obtain⟨hd, hN, a1⟩ := U
  unfold wpOp
  simp only[ho]
  rcases a1 (λk => listed.getD k false) G _ _ y.n T (λt => rfl) (λid => rfl) with ⟨hg, h', j, a2⟩ | ⟨M, c, v0, O, hG, j⟩
  · rw[qy (by simp[Region.wanted, hg])]
    refine .inl (j y a B (funext λid => C id) rfl (λt => I t) _ Q λu z E q F hv => ?_)
    rw[hd]
    exact HW.put hp hN V X Z l hi T m hsz A I E q (λid => by rw[F];exact a2 id) hv
  · have hw:Region.wanted o (yielded ops a.tmps)=c := GP.wanted (s := ⟨_, [], 0, 0⟩) hG (λt => I t)
    rw[hw]
    cases c with
    | true =>
      obtain⟨h2, a6, a7⟩ := j rfl
      rw[qy rfl]
      refine .inl (a6 y a B (funext λid => C id) rfl (λt => I t) _ Q λu z E q F hv => ?_)
      rw[hd]
      refine HW.put hp hN V X Z l hi T m hsz A I E q (λid => by rw[F, M];exact a7 id) ?_
      rw[O];exact .whn (λ_ => hv) (λh => by cases h)
    | false =>
      rw[qx (by decide), hd]
      refine HW.put hp hN V X Z l hi T m hsz A I (.refl y) B (λid => by rw[M];exact C id) ?_
      rw[O];exact .whn (λh => by cases h) (λ_ => rfl)
def Hc(e:As):As→Prop
 | []=>True
 | (t,a)::r=>get e t=a∧Hc e r
def Hy(e:Aj):Aj→Prop
 | []=>True
 | (t,a)::r=>hget e t=a∧Hy e r
theorem Sy{e0 e}(j:∀t,get e t=get e0 t):∀(r:As),Hc e0 r→∀t,get (r++e) t=get e0 t
 | [],_,t=>j t
 | (t0,a)::r,⟨l,m⟩,t=>by
  rw[sc,Di]
  split
  ·rename_i q;subst q;exact l.symm
  ·exact Sy j r m t
theorem UJ{e0 e}(j:∀t,hget e t=hget e0 t):∀(r:Aj),Hy e0 r→∀t,hget (r++e) t=hget e0 t
 | [],_,t=>j t
 | (t0,a)::r,⟨l,m⟩,t=>by
  rw[sc,BY]
  split
  ·rename_i q;subst q;exact l.symm
  ·exact UJ j r m t
theorem Fy.same{o}{R l}{h h'}{n}{v}{m}(q:Fy P o R h n v m)(w:∀t,get l t=get R t)(A:∀id,hget h' id=hget h id):Fy P o l h' n v m:=by
 intro x a j B C E K Q F
 exact q x a j (by rw[B];exact funext A) C (λt=>by rw[← w];exact E t) K Q F
theorem qN{s:St}{L}{i}{p:PO}{o:Oper}(hg:o.guard=none)(hd:o.dst=p.d)(C:∀d, p.d=some d→Nat.blt d s.N=true)(hp:p.hp=none)(w:(Nat→Nat)→As)(m:(Nat→Nat)→Aj)
 (E:∀D G, Cq ops D i→Hc (EA D G s.e L) (w G)) (F:∀D G, Cq ops D i→Hy (ED D G s.h L) (m G))
 (I:∀G n, p.v (DZ G i n)=p.v G) (h:∀G e j n, ∃l, Fy P o (w G++e) (m G++j) n (p.v G) l∧∀id, hget l id=hget (m G++j) id):Ob P ops s L i p o := by
  refine⟨hd, C, λD G e j n A B q => .inl ⟨hg, ?_⟩⟩
  have J := Sy B _ (E D G A)
  have g2 := UJ q _ (F D G A)
  obtain⟨l, M, O⟩ := h G e j n
  refine⟨l, ?_, λid => by rw[hp, O, g2, q]⟩
  rw[I]
  exact M.same (λt => by rw[J, B]) (λid => by rw[g2, q])
theorem Uc{s:St}{L:List PO}{i:Nat}{p:PO}{o:Oper}{n1:Nat→Nat}(hg:o.guard=none)(hd:o.dst=p.d)(q:∀d,p.d=some d→Nat.blt d s.N=true)(hp:p.hp=none)(m:(Nat→Nat)→As)(j:(Nat→Nat)→Aj)
  (w:∀D G,Cq ops D i→Hc (EA D G s.e L) (m G)) (A:∀D G,Cq ops D i→Hy (ED D G s.h L) (j G))
  (B:∀G n,p.v (DZ G i n)=p.v G) (h:∀G e l n,Bc P true o (m G++e) (j G++l) n (p.v G) (j G++l) (n1 n)):Ob P ops s L i p o:=
 qN hg hd q hp m j w A B λG e l n=>⟨_,(h G e l n).toN,λ_=>rfl⟩
theorem Uj{s:St}{L}{i}{p:PO}{o:Oper}{id}{ob}(hg:o.guard=none)(hd:o.dst=p.d)(C:∀d, p.d=some d→Nat.blt d s.N=true)(hp:p.hp=some (id, ob))(w:(Nat→Nat)→As)(m:(Nat→Nat)→Aj)
 (E:∀D G, Cq ops D i→Hc (EA D G s.e L) (w G)) (F:∀D G, Cq ops D i→Hy (ED D G s.h L) (m G))
 (h:∀(G:Nat→Nat) e l n, Fy P o (w G++e) (m G++l) n (p.v (DZ G i n)) ((id, ob (DZ G i n))::(m G++l))):Ob P ops s L i p o := by
  refine⟨hd, C, λD G e l n A B q => .inl ⟨hg, ?_⟩⟩
  have I := Sy B _ (E D G A)
  have g2 := UJ q _ (F D G A)
  refine⟨_, (h G e l n).same (λt => by rw[I, B]) (λj => by rw[g2, q]), λj => ?_⟩
  rw[hp, BY]
  simp only
  split
  · rfl
  · rw[g2, q]
theorem qF{s:St}{L:List PO}{i:Nat}{p:PO}{o:Oper}{id:Nat}{ob:(Nat→Nat)→Option Af}{n1:Nat→Nat}(hg:o.guard=none)(hd:o.dst=p.d)(q:∀d,p.d=some d→Nat.blt d s.N=true)(hp:p.hp=some (id,ob))(m:(Nat→Nat)→As)(j:(Nat→Nat)→Aj)
  (w:∀D G,Cq ops D i→Hc (EA D G s.e L) (m G)) (A:∀D G,Cq ops D i→Hy (ED D G s.h L) (j G))
  (h:∀(G:Nat→Nat) e l n,Bc P true o (m G++e) (j G++l) n (p.v (DZ G i n)) ((id,ob (DZ G i n))::(j G++l)) (n1 n)):Ob P ops s L i p o:=
 Uj hg hd q hp m j w A λG e l n=>(h G e l n).toN
theorem Fy.frz{o}{R}{h}{n id g}{e:TypeId}{sz}{xs}(X:Fy P o R h n (.own id g) ((id,some (.arr g e sz xs))::h)):Fy P o R h n (.r (.sl xs)) ((id,none)::h):=by
 intro x a J Z hn he K Q hK
 refine X x a J Z hn he K Q λu y k1 w V k4=>?_
 have q:y.H id=some (.arr g e sz xs):=by rw[V,BY,qy rfl]
 let B:Cx:={ y with S:=λb=>y.S b∨∃k,y.β id=some (b,k),H:=hget ((id,none)::h) }
 have j:∀i o,B.H i=some o→i≠id∧y.H i=some o:=by
  intro i o l
  simp only[B,BY] at l
  split at l
  ·cases l
  ·rename_i C
   refine⟨λe=>C e.symm,?_⟩
   rw[V,BY,qx C];exact l
 have A:y.le B:=⟨q9 _,rfl,rfl,rfl,λ_ _=>rfl,λ_ h=>.inl h,rfl,q9 _,λi o l _=>⟨o,(j i o l).2,rfl,rfl,rfl⟩,λi o l hf _ _=>⟨o,(j i o l).2,hf,rfl,rfl,rfl,rfl⟩⟩
 have E:B.ok:=by
  refine⟨λb m=>?_,w.F_lt,λb m=>?_,λi o l=>?_,λi o b k l m=>?_,λi i' o o' b k F l M=>w.inj i i' o o' b k F (j _ _ l).2 (j _ _ M).2,w.extOf (λi o l=>⟨o,(j i o l).2⟩) rfl rfl (q9 _) (λi o b k l I hS=>hS.elim (w.own' i o b k (j i o l).2 I).2.1 λ⟨F,m⟩=>(j i o l).1 (w.inj' (j i o l).2 q I (.inl m))) (λi o b k l I=>(w.own' i o b k (j i o l).2 I).2.2),w.tabs.le A⟩
  ·rcases m with m | ⟨k,m⟩
   ·exact w.S_lt b m
   ·exact(w.own id _ b k q m).1
  ·rcases m with m | ⟨k,m⟩
   ·exact w.SF b m
   ·exact(w.own id _ b k q m).2.2
  ·obtain⟨O,T⟩:=w.obj i o (j _ _ l).2
   exact⟨O,T.mono A (λ_ _ _=>rfl) λ_ _ _ _=>rfl⟩
  ·obtain⟨O,T,j3⟩:=w.own i o b k (j _ _ l).2 m
   refine⟨O,?_,j3⟩
   rintro(U | ⟨F,U⟩)
   ·exact T U
   ·exact(j _ _ l).1 (w.inj i id o _ b k F (j _ _ l).2 q m U)
 exact hK u B (k1.trans A) E rfl (.r (Pq w q k4 (λ_ h=>.inl h) (λb k m=>.inr ⟨k,m⟩)))
end
section
variable{ops:Array Oper}{D:Nat→Bool}{G:Nat→Nat}{e:As}{h:Aj}{L:List PO}{t:Nat}
theorem QH(hB:LG L t=true){a}(j:get e t=a):get (EA D G e L) t=a:=(If Di L e 0 (TW hB)).trans j
theorem Tq{i}(l:Cq ops D i) j{p:PO}{a}(m:L[j]?=some p)(hd:p.d=some t)(hw:wt ops 40 i j=true)(hB:LG (L.drop (j+1)) t=true)(q:p.v G=a):get (EA D G e L) t=a:=
 (Jy Di (Ux hd) L e 0 j m (by rw[rl];exact l.yes hw) (TW hB)).trans q
theorem P9(hB:Ti L t=true){a}(j:hget h t=a):hget (ED D G h L) t=a:=(If BY L h 0 (jH hB)).trans j
def Li(ops:Array Oper)(i t:Nat):List PO→Nat→Bool
 | [],_=>true
 | p::L,k=>(match p.hp with | some (d,_)=>!Nat.beq d t||Nat.beq k i||wt ops 40 k i | none=>true)&&Li ops i t L (k+1)
theorem Sk{i}(w:Cq ops D i):∀ {L:List PO} {k:Nat},Li ops i t L k=true→Hx PO.wH D t L k
 | [],_,_=>λj _ _ h=>by simp at h
 | q::L,k,hB=>by
  simp only[Li,rF] at hB
  intro j p v A m B
  match j with
  | 0=>
   cases A
   obtain⟨E,C,_⟩:=Re B
   rw[C] at hB
   simp only[rH,sB] at hB
   rcases hB.1 with (l | l) | l
   ·simp at l
   ·rw[sT,tQ l,w.un] at m;cases m
   ·rw[sT,w.no l] at m;cases m
  | j+1=>exact Sk w hB.2 j p v (by simpa using A) (by rwa [show k+1+j=k+(j+1) by omega]) B
theorem Rp{i}(j:Cq ops D i)(hB:Li ops i t L 0=true){a}(l:hget h t=a):hget (ED D G h L) t=a:=(If BY L h 0 (Sk j hB)).trans l
theorem oV{i}(l:Cq ops D i) j{p:PO}{ob}{a}(m:L[j]?=some p)(hd:p.hp=some (t,ob))(hw:wt ops 40 i j=true)(hB:Li ops i t (L.drop (j+1)) (j+1)=true)(q:ob G=a):hget (ED D G h L) t=a:=
 (Jy BY (Vz hd) L h 0 j m (by rw[rl];exact l.yes hw) (by rw[rl];exact Sk l hB)).trans q
end
section
variable{P:Program}{ops:Array Oper}
def V5(ops:Array Oper)(n:Nat):Bool:=(List.range n).all λi=>match ops[i]? with | some o=>o.after.all λe=>!Region.binds .any e||(e.on<i) | none=>false
def LD(P:Program)(ops:Array Oper)(s:St)(j:List PO):Nat→List PO→List Oper→Prop
 | _,[],_=>True
 | _,_::_,[]=>False
 | i,p::L,o::l=>Ob P ops s j i p o∧LD P ops s j (i+1) L l
theorem LD.at{s}{A} : ∀ {L:List PO} {l:List Oper} {m:Nat},LD P ops s A m L l→∀ {j:Nat} {p:PO} {o:Oper},L[j]?=some p→l[j]?=some o→Ob P ops s A (m+j) p o
 | _::_,_::_,m,h,0,_,_,q,w=>by cases q;cases w;exact h.1
 | _::L,_::l,m,h,j+1,p,o,q,w=>by
  have:=LD.at (j:=j) h.2 (p:=p) (o:=o) (by simpa using q) (by simpa using w)
  rwa [show m+(j+1)=m+1+j by omega]
 | _::_,[],_,h,_,_,_,_,_=>h.elim
 | [],_,_,_,_,_,_,q,_=>by simp at q
def Ee(listed:Array Bool):Nat→Nat
 | 0=>0
 | n+1=>Ee listed n+(if listed.getD n false then 0 else 1)
theorem V7{listed:Array Bool}{i}(m:i<listed.size)(j:listed.getD i false=false):∀n,Ee (listed.setIfInBounds i true) n+(if i<n then 1 else 0)=Ee listed n
 | 0=>by simp[Ee]
 | n+1=>by
  have q:=V7 m j n
  unfold Ee
  by_cases l:i=n
  ·subst l
   rw[j]
   have:(listed.setIfInBounds i true).getD i false=true:=by simp[m]
   rw[this]
   simp at q ⊢
   exact q
  ·rw[getD_set_ne false l]
   have:(i<n+1)↔(i<n):=by omega
   simp only[this]
   omega
theorem V2{listed:Array Bool} : ∀ {n:Nat}, 0<Ee listed n→∃i, i<n∧listed.getD i false=false∧∀j, j<i→listed.getD j false=true
  | 0, h => by simp[Ee] at h
  | n+1, h => by
    by_cases A:0<Ee listed n
    · obtain⟨i, F, B, C⟩ := V2 A
      exact⟨i, by omega, B, C⟩
    · have l:∀m, m≤n→Ee listed m=0 := by
        intro m I
        have:Ee listed m≤Ee listed n := by
          clear h A
          induction n with
          | zero => have:m=0 := by omega
                    subst this;exact q9 _
          | succ n E =>
            by_cases q:m=n+1
            · subst q;exact q9 _
            · exact rM (E (by omega)) (Nat.le_add_right ..)
        omega
      unfold Ee at h
      refine⟨n, by omega, ?_, λj J => ?_⟩
      · cases w:listed.getD n false with
        | false => rfl
        | true => rw[w] at h;simp at h;omega
      · have := l (j+1) (by omega)
        unfold Ee at this
        cases w:listed.getD j false with
        | true => rfl
        | false => rw[w] at this;simp at this
theorem WK{listed:Array Bool} : ∀ {n:Nat},Ee listed n=0→∀j,j<n→listed.getD j false=true
 | 0,_,j,m=>by omega
 | n+1,h,j,m=>by
  unfold Ee at h
  by_cases l:j=n
  ·subst l
   cases q:listed.getD j false with
   | true=>rfl
   | false=>rw[q] at h;simp at h
  ·exact WK (n:=n) (by omega) j (by omega)
theorem U3{listed:Array Bool}(h:∀j,listed.getD j false=false):∀n,Ee listed n=n
 | 0=>rfl
 | n+1=>by unfold Ee;rw[U3 h n,h n];simp
theorem jw{c0}{s}{L:List PO}{n g}{l:List Oper}{Q}(hl:l.toArray=ops)(T:n=ops.size∨(n<ops.size∧Region.sinkB .any ops n=true∧Region.chainB .any ops n=true))(ag:L.length=n)(J:V5 ops n=true)
 (hD:NO ops L=true) (hE:I1 L=true) (hH:O2 ops L=true) (U:Ij L) (a7:LD P ops s L 0 L l)
 (V:∀listed a w, HeadInv .any ops n listed→(∀j, j<n→listed.getD j false=true)→HW c0 s L listed a w→wpAny P .any ops Q g listed a w) :
    ∀(f:Nat) (listed:Array Bool) (a:Act) (w:World), Ee listed n=f→HeadInv .any ops n listed→HW c0 s L listed a w→wpAny P .any ops Q (f+g) listed a w := by
  have hn:n≤ops.size := by rcases T with h | h<;>omega
  intro f
  induction f with
  | zero =>
    intro listed a w C q A
    rw[rl]
    exact V listed a w q (WK C) A
  | succ f ih =>
    intro listed a w C q A
    rw[show f+1+g=(f+g)+1 by omega]
    obtain⟨M, X, E, B⟩ := V2 (listed := listed) (n := n) (by omega)
    have Z:M<listed.size := by rw[q.size];omega
    have m:M ∈ Region.ready .any ops listed := by
      refine mem_ready.2 ⟨getD_in Z E, ?_⟩
      have a8:∃o, ops[M]?=some o := ⟨ops[M]'(by omega), by simp[re (show M<ops.size by omega)]⟩
      obtain⟨o, F⟩ := a8
      refine⟨o, F, λe he hb => ?_⟩
      have h1 := rZ.1 J M (rV.2 X)
      simp only[F] at h1
      have h2 := (Array.all_eq_true_iff_forall_mem.1 h1) e he
      simp only[hb, tL, sN, q8] at h2
      exact B _ h2
    refine⟨λh => (by rw[h] at m;cases m), λi hi => ?_⟩
    have a0:i<n := by
      rcases tY i n with h | h
      · exact h
      · rcases T with e | ⟨aa, hs, hc⟩
        · obtain⟨_, o, F, _⟩ := mem_ready.1 hi
          have := (sG.1 F).1
          omega
        · exact absurd hi (tail_waits hs hc aa q _ M rfl X (getD_in Z E) i h)
    obtain⟨ab, o, F, a1⟩ := mem_ready.1 hi
    have I := getD_both ab
    have a2:i<listed.size := by rw[q.size];omega
    obtain⟨p, hp⟩:∃p, L[i]?=some p := ⟨L[i]'(by omega), by simp[rA (show i<L.length by omega)]⟩
    have ac:l[i]?=some o := by rw[← F, ← hl];simp
    have a6 := a7.at hp ac
    rw[rl] at a6
    have ad:Cq ops (λk => listed.getD k false) i := by
      refine⟨λj k hj hk => ?_, λk hk => ?_, I⟩
      · obtain⟨oj, ae, e, he, hb, O⟩ := Region.waitsFor_spec hk
        rw[← O];exact q.closed j oj ae hj e he hb
      · obtain⟨oi, af, e, he, hb, O⟩ := Region.waitsFor_spec hk
        have:oi=o := rW (af.symm.trans F)
        subst this
        rw[← O];exact a1 e he hb
    have step := HW.step (Q := Q) hp F a6 hE hH hD U a2 ad A
    refine wpOp_mono (λa' w' h' => ih _ a' w' ?_ (q.set hi a0) h') step
    have := V7 a2 I n
    rw[qy a0] at this
    omega
def So(ops:Array Oper)(n:Nat)(L:List PO):Bool:=
 (Nat.beq n ops.size||((n<ops.size)&&Region.sinkB .any ops n&&Region.chainB .any ops n))&&(L.length=n)&&V5 ops n&&NO ops L&&I1 L&&O2 ops L
  && Region.seqB .any ops (ops.size-n) n (Dw (Array.replicate ops.size false) (List.range n))
theorem X8:∀(q:List Nat) (l:Array Bool) (j:Nat),(∀i∈q,i<l.size)→(Dw l q).getD j false=(l.getD j false||q.contains j)
 | [],l,j,_=>by simp[Dw]
 | i::q,l,j,h=>by
  show(Dw (l.setIfInBounds i true) q).getD j false=_
  rw[X8 q _ j (λk w=>by simp;exact h k (rO _ w))]
  by_cases m:i=j
  ·subst m
   have:=h i (rT ..)
   simp[this]
  ·rw[getD_set_ne false m]
   simp[uN m]
theorem Ts{α:Type}{wr}{D l}{G} : ∀(L:List PO) (e:List (Nat × α)) (k:Nat),(∀j,k≤j→j<k+L.length→D j=l j)→Ef wr D G e L k=Ef wr l G e L k
 | [],_,_,_=>rfl
 | p::L,e,k,h=>by
  have m:=h k (q9 _) (by simp)
  have q:=λe=>Ts (wr:=wr) (G:=G) L e (k+1) (λj w A=>h j (by omega) (by simp;omega))
  unfold Ef
  rw[m]
  simp only[q]
theorem GJ{id}{l:List Oper}{s:St}{Q}(n:Nat)(L:List PO){lt}(hm:P.follows .mixedOrders=true)(hB:So l.toArray n L=true)(F:Ij L)(e4:l.drop n=lt)
 (V:LD P l.toArray s L 0 L l)
 (h:∀(G:Nat→Nat) (n':Nat), AS P l.toArray lt ⟨EA (λ_ => true) G s.e L, ED (λ_ => true) G s.h L, n', s.N⟩ (Q .normal)):AW P (.region id l.toArray true) Q s := by
  intro z0 X c0 a w ⟨_, I, hsz, y, Z, a0, a1, hH, hn, he⟩
  subst Z
  obtain⟨r1, r2⟩ := Uf a1
  simp only[So, rF, q8] at hB
  obtain⟨⟨⟨⟨⟨⟨b0, b2⟩, b3⟩, b6⟩, b7⟩, b8⟩, b9⟩ := hB
  have b1:n=l.toArray.size∨(n<l.toArray.size∧Region.sinkB .any l.toArray n=true∧Region.chainB .any l.toArray n=true) := by
    rw[rH] at b0
    rcases b0 with h | h
    · exact .inl (tQ h)
    · simp only[rF, q8] at h
      exact .inr ⟨h.1.1, h.1.2, h.2⟩
  have aa:n≤l.toArray.size := by rcases b1 with h | h<;>omega
  refine QW Pg hm X ?_
  generalize hz:({ y with w := { y.w with drawn := y.w.drawn+1 } } : Cx)=z at r1 r2
  have a2:z.w = { y.w with drawn := y.w.drawn+1 } := by rw[← hz]
  have a6:z.H=hget s.h := by rw[← hz];exact hH
  rw[← a2]
  have q:∀j, (Array.replicate l.toArray.size false).getD j false=false := getD_replicate_false _
  have key := jw (P := P) (c0 := c0) (s := s) (L := L) (n := n) (g := l.toArray.size - n) (l := l) (Q := GE c0 Q) rfl b1 b2 b3 b6 b7 b8 F V
    (λm a' w' E C J => by
      have A:m=Dw (Array.replicate l.toArray.size false) (List.range n) := by
        have M:m.size=(Dw (Array.replicate l.toArray.size false) (List.range n)).size := by rw[E.size, Us];simp
        refine Array.ext M λj B h2 => ?_
        have h3 := X8 (List.range n) (Array.replicate l.toArray.size false) j (λi hi => by have := rV.1 hi;rw[Array.size_replicate];omega)
        rw[q] at h3
        have e1:m[j]=m.getD j false := by unfold Array.getD;rw[tW B];rfl
        have e2:(Dw (Array.replicate l.toArray.size false) (List.range n))[j]=(Dw (Array.replicate l.toArray.size false) (List.range n)).getD j false := by unfold Array.getD;rw[tW h2];rfl
        rw[e1, e2, h3]
        by_cases U:j<n
        · rw[C j U];simp[U]
        · have a7:j<l.toArray.size := by rw[E.size] at B;exact B
          rw[getD_both (E.tail j (by omega) a7)];simp[U]
      obtain⟨_, i1, i2, O, G, i3, i4, i5, i6, i7⟩ := J
      subst i3
      have T:(l.drop n).length=l.toArray.size - n := by simp
      have hD:∀j, 0≤j→j<0+L.length→(λ_ => true) j=(λk => m.getD k false) j := λj _ U => (C j (by omega)).symm
      have := wpAny_of_seq (P := P) (md := .any) (ops := l.toArray) (Q' := GE c0 Q) (l.drop n) n m a' O.w (λj => by simp[ry]) (by rw[T, A];exact b9) ?_
      · rwa [T] at this
      · rw[e4]
        refine h G O.n c0 a' O.w ⟨_, i1, i2, O, rfl, i4, i5, funext λid => ?_, rfl, λt => ?_⟩ _ λa8 ab ac j1 j2 => ⟨by simp, a8, j1, j2⟩
        · rw[i6];show _=hget (Ef _ _ _ _ _ _) _;rw[Ts L _ 0 hD]
        · show AX O (get (Ef _ _ _ _ _ _) t) _
          rw[Ts L _ 0 hD];exact i7 t)
    n (Array.replicate l.toArray.size false) a z.w (U3 q n)
    ⟨by simp, λj oj _ hl => (by rw[q] at hl;cases hl), λt _ ht => getD_in (by simpa using ht) (q _)⟩
    ⟨_, I, hsz, z, λ_ => 0, rfl, a0.trans r1, r2, λid => by rw[a6];exact(If BY L _ 0 λj p _ _ B => by rw[q] at B;cases B).symm, λt => by
      have e1:get (EA (λk => (Array.replicate l.toArray.size false).getD k false) (λ_ => 0) s.e L) t=get s.e t := If Di L _ 0 λj p _ _ B => by rw[q] at B;cases B
      rw[e1]
      exact(he t).mono r1⟩
  have e:n+(l.toArray.size - n)=l.toArray.size := by omega
  rw[e] at key
  exact key
end
section
variable{P:Program}{c:Bool}{o:Oper}{R:As}{h:Aj}
end
section
variable{P:Program}{c:Bool}{o:Oper}{R:As}{h:Aj}{n:Nat}
def Lf(cs:List RV)(k:Nat)(vs:List RV):List RV:=cs.take k++vs++cs.drop (k+vs.length)
theorem ZW{t}{x y}{id g i k m:Nat}{e}{sz}{xs:List (List RV)}{row ds:List RV}{a}(ho:o.op=.store t x y)(ht:∃i, P.info? t=some i∧i.size=m)
 (hx:Ev c R x (.ptr id g i k)) (hh:hget h id=some (.arr g e sz xs)) (M:xs[i]?=some row) (hy:Ev c R y a) (hd:LH a=some ds) (hm:ds.length=m) (hk:k+ds.length≤row.length) :
    Bc P c o R h n .any ((id, some (.arr g e sz (xs.set i (Lf row k ds))))::h) n := by
  intro hc z w O hH hn he K Q hK
  obtain⟨ii, hi, ag⟩ := ht
  have A:z.H id=some (.arr g e sz xs) := by rw[hH];exact hh
  have aa:i<xs.length := (rC.1 M).1
  obtain⟨b, cap, us, hβ, ax, ah, E, Z⟩ := RK O A aa (hx.rep he hc)
  have ay := (O.obj _ _ A).1
  obtain⟨bd, ab⟩ := ah
  rcases ab with ⟨hv, _⟩ | ⟨b', ba, F, hv, _, a0, ai, az, aj, ac⟩
  · cases hv
  simp only[Value.slice.injEq, rE, Addr.mk.injEq, uV, uH] at hv
  obtain⟨rfl, rfl⟩ := hv
  have hsz:0<sz := (O.obj _ _ A).2.1
  have ak := E row (rX M)
  obtain⟨I, al⟩ := Xh hd
  have ad:∀b ∈ B9 a, b.one=true := λb hb => by
    obtain⟨j, hj, rfl⟩ := sA.1 hb
    obtain⟨a', h1, h2⟩ := al j (ds[j]'(by omega)) (by simp[rA (show j<ds.length by omega)])
    rw[rA hj] at h1
    cases h1
    exact SD h2
  have b0 := hy.rep he hc
  obtain⟨T, b4, b5⟩ := PX b0 ad
  replace I:ds.length=(B9 a).length := I
  have an:(w.eval y).cells.toList.length=ds.length := by rw[sL (xs := (w.eval y).cells), T, I]
  have b6:i * sz+sz≤xs.length * sz := by
    have:(i+1) * sz≤xs.length * sz := rz _ aa
    rwa [so, tO] at this
  have bb:xs.length * sz≤F.size := by rw[aj];exact rz _ ai
  have a1 := Rf (P := P) (k := i * sz+k) hi a0 (v := w.eval y) (by rw[T, ag, ← I, hm]) b5 (by rw[T, ← I];omega)
  rw[show(w.eval y).cells.size=ds.length by rw[T, I]] at a1
  have a2 := λj => J0 F.toList (w.eval y).cells.toList (i * sz+k) j (by have := sL (xs := F);rw[an];omega)
  rw[an] at a2
  let l:Array Value := (F.toList.take (i * sz+k)++(w.eval y).cells.toList++F.toList.drop (i * sz+k+ds.length)).toArray
  have J:l.size=F.size := by
    have ao:(w.eval y).cells.size=ds.length := by rw[T, I]
    simp[l, ao];omega
  have a6:(Lf row k ds).length=row.length := by simp[Lf];omega
  have a7:∀j, (Lf row k ds)[j]?=if k≤j∧j<k+ds.length then ds[j - k]? else row[j]? := λj => J0 row ds k j hk
  have aq := EY O id (.arr g e sz (xs.set i (Lf row k ds))) (z.w.setRow b l) (some (b, cap)) z.n (by simp[World.setRow]) rfl rfl rfl
    (λb' _ b7 => setRow_other _ _ _ _ (λe => b7 _ cap A (by rw[e];exact hβ))) (λb' k' hb => by
      cases hb
      exact⟨by simpa[World.setRow] using(O.own id _ b cap A hβ).1, .inr ⟨_, _, A, hβ⟩⟩) (q9 _) ay
    (λ_ => ⟨_, A, rfl, by simp[Af.shape], hβ.symm⟩)
    (λb8 => by
      have ar:∀b', z.S b'→(z.w.setRow b l).heap[b']?=z.w.heap[b']? := λb' hb => b8.blk b' (.inl hb)
      refine⟨hsz, λr hr => ?_, .slice (some ⟨b, 0, none⟩) xs.length cap, l.toList.take (xs.length * sz), by simp[DP], ⟨by simp[J];omega, .inr ⟨b, cap, l, by simp, si _, setRow_heap _ _ _ _ _ _ a0, by simpa using ai, az, by rw[J, aj], by simp⟩⟩, λB a8 C d' U k2 => ?_⟩
      · rcases tu hr with hr | rfl
        · exact E r hr
        · rw[a6];exact ak
      · have au:B<xs.length := by simpa using(rC.1 U).1
        have bc:C<sz := by
          have := (rC.1 k2).1
          rw[sY] at U
          split at U
          · cases U;rw[a6, ak] at this;exact this
          · rw[← E a8 (rX U)];exact this
        have av:B * sz+C<xs.length * sz := by
          calc B * sz+C<B * sz+sz := by omega
            _=(B+1) * sz := by rw[so, tO]
            _≤xs.length * sz := rz _ au
        have hget:(l.toList.take (xs.length * sz))[B * sz+C]?=if i * sz+k≤B * sz+C∧B * sz+C<i * sz+k+ds.length then(w.eval y).cells.toList[B * sz+C - (i * sz+k)]? else F.toList[B * sz+C]? := by
          rw[sD, qy av]
          simp only[l]
          exact a2 _
        have ae:i * sz+k≤B * sz+C→B * sz+C<i * sz+k+ds.length→i=B := by
          intro h1 h2
          have e2:(B * sz+C) / sz=B := by rw[tI, tt hsz, tq (by omega), sT]
          obtain⟨q, hq⟩:∃q, B * sz+C=i * sz+q := ⟨B * sz+C - i * sz, by omega⟩
          have b9:q<sz := by omega
          have e1:(i * sz+q) / sz=i := by rw[tI, tt hsz, tq b9, sT]
          rw[← e1, ← hq, e2]
        by_cases V:i * sz+k≤B * sz+C∧B * sz+C<i * sz+k+ds.length
        · have af := ae V.1 V.2
          subst af
          rw[sY, qy rfl, qy aa] at U
          cases U
          rw[a7, qy (by omega)] at k2
          obtain⟨a', h1, h2⟩ := al _ _ k2
          obtain⟨u, h3, _, h5⟩ := b4 _ _ h1
          refine⟨u, ?_, (R0 h2 h5).mono ar (λ_ h => h)⟩
          rw[hget, qy V, show i * sz+C - (i * sz+k)=C - k by omega, sI]
          exact h3
        · have aw:∃X, xs[B]?=some X∧X[C]?=some d' := by
            rw[sY] at U
            split at U
            · rename_i af;subst af
              cases U
              rw[a7] at k2
              split at k2
              · exact absurd (by omega) V
              · exact⟨row, M, k2⟩
            · exact⟨a8, U, k2⟩
          obtain⟨X, k3, k4⟩ := aw
          obtain⟨u, k5, k6⟩ := Z _ _ _ _ k3 k4
          refine⟨u, ?_, k6.mono ar (λ_ h => h)⟩
          rw[hget, qx V]
          rw[← k5, ← ac, sD, qy av])
  unfold Oper.wp execOp
  rw[ho]
  simp only[ax, Sem.run_bind, a1, Result.andThen_ok, Sem.run_pure]
  exact hK undef _ aq.1 aq.2 (by simp only[hH];exact DG _ _ _) hn (.any _)
theorem UM{α:Type}{f}{t}{x y}{id g k m}{e}{sz}{l:List α}{z:Int}{a v}{b}{ds:List RV}(j:o.op=.store t x y)(q:∃i, P.info? t=some i∧i.size=m)
 (w:Ev true R x (.ptr id g z.toNat k)) (A:hget h id=some (.arr g e sz (l.map f))) (B:AL l z=some a) (C:Ev true R y b) (hd:LH b=some ds) (E:ds.length=m) (F:Nat.ble (k+ds.length) (f a).length=true) (I:Lf (f a) k ds=f v) :
    Bc P true o R h n .any ((id, some (.arr g e sz ((l.set z.toNat v).map f)))::h) n := by
  have := ZW (n := n) j q w A (row := f a) (by rw[rG, (FA B).2.1];rfl) C hd E (sm F)
  rwa [I, ← tl] at this
end
def RQ(c:Bool):As→As→Prop
 | [],_=>True
 | (t,v)::r,e=>(get e t=v∨get e t=.whn c v∨(∃b v0,get e t=.whn (c&&b) v0∧v=.whn b v0)∨∃b1 b2 v0,get e t=.whn ((c&&b1)&&b2) v0∧v=.whn (b1&&b2) v0)∧RQ c r e
theorem RQ.get{c}{e' e}(h:RQ c e' e)(t:Nat):Al.get e' t=.any∨Al.get e t=Al.get e' t∨Al.get e t=.whn c (Al.get e' t) ∨
  (∃b v0,Al.get e t=.whn (c&&b) v0∧Al.get e' t=.whn b v0)∨∃b1 b2 v0,Al.get e t=.whn ((c&&b1)&&b2) v0∧Al.get e' t=.whn (b1&&b2) v0:=by
 induction e' with
 | nil=>exact .inl rfl
 | cons p r j=>
  obtain⟨d,v⟩:=p
  rw[Di]
  split
  ·rename_i hd;subst hd;exact .inr h.1
  ·exact j h.2
theorem Rz{c}{e' e}{h}{n N}(hc:c=true)(I:RQ c e' e):Am ⟨e,h,n,N⟩ ⟨e',h,n,N⟩:=by
 intro O a w ⟨_,m,hsz,y,A,B,C,J,E,q⟩
 refine⟨_,m,hsz,y,A,B,C,J,E,λt=>?_⟩
 subst hc
 have j:=q t
 rcases I.get t with l | l | l | ⟨b,v0,l,F⟩ | ⟨b1,b2,v0,l,F⟩
 ·rw[l];exact .any _
 ·rwa [show Al.get (St.mk e h n N).e t=Al.get e' t from l] at j
 ·rw[show Al.get (St.mk e h n N).e t=.whn true (Al.get e' t) from l] at j
  cases j with
  | whn M _=>exact M rfl
 ·rw[show Al.get (St.mk e h n N).e t=.whn (true&&b) v0 from l] at j
  rw[rq] at j
  rw[F];exact j
 ·rw[show Al.get (St.mk e h n N).e t=.whn ((true&&b1)&&b2) v0 from l] at j
  rw[rq] at j
  rw[F];exact j
theorem Wc{a b}(h:a=false):(a&&b)=false:=by rw[h];rfl
section
variable{P:Program}{c:Bool}{o:Oper}{R:As}{h:Aj}{n:Nat}
variable{α:Type}{f:α→List RV}
end
section
variable{P:Program}{c:Bool}{o:Oper}{R:As}{h:Aj}{n:Nat}
theorem HF{t j}{x y}{k}{m n}(l:o.op=.binOp .and t x y j)(q:Ev c R x (.r (.int k m)))(A:Ev c R y (.r (.int k n))):Ad P c o R h (.r (.int k (Cr k m n))):=
 Fx l q A (λw=>by simp[binOp,Op.intBits,Cr]) (λ_ _=>.int _ _)
theorem LB{t j}{x y}{k}{m n}(l:o.op=.binOp .or t x y j)(q:Ev c R x (.r (.int k m)))(A:Ev c R y (.r (.int k n))):Ad P c o R h (.r (.int k (Ea k m n))):=
 Fx l q A (λw=>by simp[binOp,Op.intBits,Ea]) (λ_ _=>.int _ _)
theorem ij{t j}{x y}{k}{m n}(l:o.op=.binOp .andNot t x y j)(q:Ev c R x (.r (.int k m)))(A:Ev c R y (.r (.int k n))):Ad P c o R h (.r (.int k (RE k m n))):=
 Fx l q A (λw=>by simp[binOp,Op.intBits,RE]) (λ_ _=>.int _ _)
theorem KE{t q:TypeId}{x y:Operand}{k w:IntKind}{m:Int}{b:Nat}(A:o.op=.binOp .shl t x y q)(B:Ev c R x (.r (.int k m)))(C:Ev c R y (.r (.int w b))):Ad P c o R h (.r (.int k (D2 k m b))):=by
 intro j z a _ _ l
 refine⟨.int k (D2 k m b),λF E=>?_,.r (.int _ _)⟩
 unfold execOp
 rw[A]
 simp[Cy (B.rep l j),Cy (C.rep l j),eqGuard,binOp,Op.shift,D2]
 intro I;omega
theorem Ty{t q:TypeId}{x y:Operand}{k w:IntKind}{m:Int}{b:Nat}(A:o.op=.binOp .shr t x y q)(B:Ev c R x (.r (.int k m)))(C:Ev c R y (.r (.int w b))):Ad P c o R h (.r (.int k (GD k m b))):=by
 intro j z a _ _ l
 refine⟨.int k (GD k m b),λF E=>?_,.r (.int _ _)⟩
 unfold execOp
 rw[A]
 simp[Cy (B.rep l j),Cy (C.rep l j),eqGuard,binOp,Op.shift,GD]
 intro I;omega
def Lc(P:Program)(t:TypeId)(n:Nat)(e:TypeId)(sz:Nat):Prop:=P.underlying t=some (.array n e)∧∃i,P.info? e=some i∧i.size=sz
theorem Qu{α:Type}{f}{sz}(m:∀a,(f a).length=sz):∀(l:List α) (i j:Nat) (a:α) (d:RV),l[i]?=some a→(f a)[j]?=some d→(l.flatMap f)[i * sz+j]?=some d
 | [],i,_,_,_,h,_=>by simp at h
 | x::l,0,j,a,d,h,hd=>by
  have q:x=a:=by simpa using h
  subst q
  have w:j<(f x).length:=(rC.1 hd).1
  rw[sC,uR,rl,rQ w]
  exact hd
 | x::l,i+1,j,a,d,h,hd=>by
  have A:=Qu m l i j a d (by simpa using h) hd
  rw[sC,rR (by rw[m,so];omega),m]
  rw[show(i+1) * sz+j-sz=i * sz+j by rw[so];omega]
  exact A
theorem Xc{α:Type}{f}{t e}{sz F g}{y}{l:List α}{k}{z:Int}{a}(ho:o.op=.indexAddr t (.global g) y)(ht:Lc P t F e sz)(hT:Hn g=some (l.flatMap f))(hn:l.length=F)
 (hy:Ev c R y (.r (.int k z))) (m:∀a, (f a).length=sz) (h0:0<sz) (hi:c=true→AL l z=some a):Ad P c o R h (.rop (f a) 0) := by
  intro hc x w I hH he
  obtain⟨J, ii, M, O⟩ := ht
  obtain⟨z0, T, U⟩ := FA (hi hc)
  have q := I.tabs.tab g _ hT
  generalize hv:(Value.pointer (some ⟨g, 0, none⟩))=v at q
  cases q with
  | @rop _ _ b off u hS A V =>
    simp only[Value.pointer.injEq, rE, Addr.mk.injEq, uH, sT] at hv
    obtain⟨rfl, B⟩ := hv
    subst B
    have X:(l.flatMap f)≠[] := by
      intro e0
      have C:0<(f a).length := by rw[m];exact h0
      have := Qu m l z.toNat 0 a _ T (rA C)
      rw[e0] at this;simp at this
    refine⟨.pointer (some ⟨g, z.toNat * sz+0, none⟩), λw2 a0 => ?_, .rop (λj => u (z.toNat * sz+j)) (λ_ => hS X) (λj d C => ?_) (λj d C => ?_)⟩
    · unfold execOp
      rw[ho]
      have E:z<(F:Int) := by rw[← hn];exact U
      have hg:w.eval (.global g)=.pointer (some ⟨g, 0, none⟩) := rfl
      simp[hg, Cy (hy.rep he hc), Instr.indexAt, Instr.sureAddr, asIntOf, run_underlying J, z0, E, D8 M, O, Addr.add_lit]
    · have Z := Qu m l z.toNat j a d T C
      have := A _ _ Z
      simpa using this
    · have Z := Qu m l z.toNat j a d T C
      exact V _ _ Z
end
section
variable{P:Program}{c:Bool}{o:Oper}{R:As}{h:Aj}{n:Nat}
theorem gT(s:List UInt8) l m:(⟨s.toArray⟩:ByteArray).extract l m=⟨((s.drop l).take (m-l)).toArray⟩:=by
 apply ByteArray.ext
 rw[ByteArray.data_extract]
 simp[List.extract_toArray]
theorem ls{t}{x}{A F:Option Operand}{s r:List UInt8}{l m:Int}(U:o.op=.slice t x A F none)(V:P.underlying t=some .string)(X:Ev c R x (.r (.str s)))
 (j:IX c R 0 A l) (q:IX c R s.length F m) (Z:c=true→DY s l m=some r):Ad P c o R h (.r (.str r)) := by
  intro B z w _ _ I
  obtain⟨T, h2, h3, rfl⟩ := QP (Z B)
  have hsz:(⟨s.toArray⟩:ByteArray).size=s.length := rfl
  refine⟨.string ⟨((s.drop l.toNat).take (m.toNat - l.toNat)).toArray⟩, λw2 a0 => ?_, by have := BG.str (w := z.w) (S := z.S) ⟨((s.drop l.toNat).take (m.toNat - l.toNat)).toArray⟩;exact .r this⟩
  have C:∀W, (Instr.sliceBounds false s.length s.length (A.map w.eval) (F.map w.eval) none).run P W=.ok (l.toNat, m.toNat, s.length) W := by
    intro W
    cases F with
    | none =>
      simp only[IX] at q
      subst q
      cases A with
      | none => simp only[IX] at j;subst j;simp[Instr.sliceBounds]
      | some v =>
        obtain⟨k, J⟩ := j
        have M:∀W, (Instr.sliceBound (w.eval v) s.length .sliceB).run P W=.ok l.toNat W := λW => by rw[Cy (J.rep I B), Mg T (by omega)]
        simp[Instr.sliceBounds, M]
    | some v2 =>
      obtain⟨k2, O⟩ := q
      have E:∀W, (Instr.sliceBound (w.eval v2) s.length .sliceAlen).run P W=.ok m.toNat W := λW => by rw[Cy (O.rep I B), Mg (by omega) (by omega)]
      cases A with
      | none => simp only[IX] at j;subst j;simp[Instr.sliceBounds, E]
      | some v =>
        obtain⟨k, J⟩ := j
        have M:∀W, (Instr.sliceBound (w.eval v) m.toNat .sliceB).run P W=.ok l.toNat W := λW => by rw[Cy (J.rep I B), Mg T (by omega)]
        simp[Instr.sliceBounds, M, E]
  unfold execOp
  rw[U]
  simp[H3 (X.rep I B), Instr.sliceAt, Instr.slice, run_underlying V, hsz, C, gT]
end
section
variable{P:Program}{c:Bool}{o:Oper}{R:As}{h:Aj}
theorem iS{t}{x}{id g k}{e}{sz}{cs ds:List AV}(U:o.op=.load t x)(V:Bq P t sz)(X:Ev c R x (.ptr id g 0 k))(Z:c=true→hget h id=some (.box g e cs))
 (hd:(cs.drop k).take sz=ds) (M:ds.length=sz):Ad P c o R h (.agg ds) := by
  intro O z w C hH he
  have m:z.H id=some (.box g e cs) := by rw[hH];exact Z O
  obtain⟨b, l, h1, h2, h3, h4, T⟩ := Hb C m (X.rep he O)
  have B:∀j a, ds[j]?=some a→cs[k+j]?=some a := by
    intro j a q
    have E:j<sz := by rw[← M];exact(rC.1 q).1
    rw[← hd, sD, qy E, ry] at q
    exact q
  have A:∀j, j<sz→z.w.cell? ⟨b, k+j, none⟩=some ((λj => l.getD (k+j) undef) j) := by
    intro j q
    obtain⟨u, F, _, _⟩ := T _ _ (B j _ (rA (by omega:j<ds.length)))
    have I:k+j<l.size := (sG.1 F).1
    rw[cell_of_row _ b (k+j) l e _ h3]
    simp[I]
  refine⟨.agg ((List.range sz).map λj => l.getD (k+j) undef).toArray, λw2 J => ?_, Jk M _ λj a q => ?_⟩
  · unfold execOp
    rw[U]
    simp[h2, Jg V _ (λj q => (J.cellO m h1).trans (A j q))]
  · obtain⟨u, F, _, h7⟩ := T _ _ (B j a q)
    simpa[F] using h7
theorem GH{t}{x}{id g k}{e}{sz}{cs ds:List AV}(j:o.op=.load t x)(l:Bq P t sz)(m:Ev c R x (.ptr id g 0 k))(q:hget h id=some (.box g e cs))
 (hd:(cs.drop k).take sz=ds) (w:ds.length=sz):Ad P c o R h (.agg ds) :=
  iS j l m (λ_ => q) hd w
end
theorem Am.ren{s:St} t i j{g}{e}{sz}{xs}(a0:(i==j)=false)(ht:get s.e t=.own i g)(hh:hget s.h i=some (.arr g e sz xs)) :
  Am s ⟨(t,.own j s.n)::s.e,(j,some (.arr s.n e sz xs))::(i,none)::s.h,s.n+1,s.N⟩:=by
 have a7:i≠j:=by simpa using a0
 intro c0 a w ⟨_,X,hsz,y,a1,a2,B,hH,O,U⟩
 have F:y.H i=some (.arr g e sz xs):=by rw[hH];exact hh
 let z:Cx:={ y with H:=λd=>if j=d then some (.arr s.n e sz xs) else if i=d then none else y.H d,β:=λd=>if j=d then y.β i else y.β d,K:=λd=>if j=d then λ_=>none else y.K d,n:=y.n+1 }
 have J:y.le z:=by
  refine⟨q9 _,rfl,rfl,rfl,λ_ _=>rfl,λ_ h=>h,rfl,uD _,λd V l hg=>?_,λd V l hf hg hv=>?_⟩
  ·dsimp only [z] at l ⊢
   split at l
   ·cases l
    exact absurd hg (by simp[Af.gen,Af.isCal,O])
   ·rename_i I
    split at l
    ·cases l
    ·exact⟨V,l,rfl,rfl,by rw[qx I]⟩
  ·dsimp only [z] at l ⊢
   split at l
   ·cases l;cases hf
   ·rename_i I
    split at l
    ·cases l
    ·exact⟨V,l,hf,rfl,rfl,rfl,by rw[qx I]⟩
 have Z:z.ok:=by
  refine⟨B.S_lt,B.F_lt,B.SF,λd o A=>?_,λd o b k A C=>?_,λd T o V b k k' A l C m=>?_,λd o q b c A C=>?_,B.tabs.le J⟩
  ·dsimp only [z] at A ⊢
   split at A
   ·rename_i I
    cases A
    rw[qy I,qy I]
    refine⟨by simp[Af.gen,O],?_⟩
    have E:=(B.obj i _ F).2
    exact(show Ci y (y.β i) (λ_=>none) (.arr s.n e sz xs) from E).mono J (λb k _=>rfl) λ_ _ _ _=>rfl
   ·rename_i I
    split at A
    ·cases A
    ·rw[qx I,qx I]
     obtain⟨M,E⟩:=B.obj d o A
     exact⟨uh M,E.mono J (λb k _=>rfl) λ_ _ _ _=>rfl⟩
  ·dsimp only [z] at A C ⊢
   split at C
   ·exact B.own i _ b k F C
   ·rename_i I
    rw[qx I] at A
    split at A
    ·cases A
    ·exact B.own d o b k A C
  ·dsimp only [z] at A l C m
   by_cases M:j=d<;>by_cases E:j=T
   ·rw[← M,← E]
   ·rw[qy M] at C
    rw[qx E] at l m
    split at l
    ·cases l
    ·rename_i h3
     exact absurd (B.inj i T _ _ b k k' F l C m) h3
   ·rw[qx M] at A C
    rw[qy E] at m
    split at A
    ·cases A
    ·rename_i h3
     exact absurd (B.inj d i _ _ b k k' A F C m).symm h3
   ·rw[qx M] at A C
    rw[qx E] at l m
    split at A
    ·cases A
    ·split at l
     ·cases l
     ·exact B.inj d T _ _ b k k' A l C m
  ·dsimp only [z] at A C ⊢
   split at C
   ·cases C
   ·rename_i I
    rw[qx I] at A
    split at A
    ·cases A
    ·obtain⟨e1,e2,e3,e4,e5⟩:=B.ext d o q b c A C
     refine⟨e1,e2,e3,λT V k l m=>?_,λT V q' c' l m=>?_⟩
     ·by_cases E:j=T
      ·rw[qy E] at m
       exact e4 i _ k F m
      ·rw[qx E] at l m
       split at l
       ·cases l
       ·exact e4 T V k l m
     ·by_cases E:j=T
      ·rw[qy E] at m
       cases m
      ·rw[qx E] at l m
       split at l
       ·cases l
       ·exact e5 T V q' c' l m
 refine⟨_,X,hsz,z,a1,a2.trans J,Z,?_,by simp[z,O],λt'=>?_⟩
 ·funext d
  show(if j=d then _ else if i=d then _ else y.H d)=_
  rw[BY,BY,hH]
 ·rw[Di]
  split
  ·rename_i a6
   have M:=U t
   rw[ht,a6] at M
   generalize a.tmps.getD t' undef=u at M ⊢
   cases M with
   | own M E h3=>
    refine .own (by simp[z,O]) E λo A _=>?_
    dsimp only [z] at A ⊢
    rw[qy rfl] at A ⊢
    cases A
    have h5:=h3 _ F rfl
    exact h5
  ·exact(U t').mono J
section
variable{P:Program}{c:Bool}{o:Oper}{R:As}{h:Aj}{n:Nat}
theorem jF{x:Cx}(l:x.ok) id(s:List UInt8) :
  ∃y:Cx,x.le y∧y.ok∧y.w=x.w.alloc (.stringIter ⟨s.toArray⟩ 0)∧y.H=(λi=>if id=i then some (.it x.n s 0) else x.H i)∧y.n=x.n+1 ∧
   AX y (.ptr id x.n 0 0) (.pointer (some ⟨x.w.heap.size,0,none⟩)):=by
 have:=EY l id (.it x.n s 0) (x.w.alloc (.stringIter ⟨s.toArray⟩ 0)) (some (x.w.heap.size,1)) (x.n+1) (by simp) rfl rfl rfl
  (λb m _=>heap_alloc_old _ _ m) (λb k m=>by cases m;simp) (by omega) (by simp[Af.gen]) (λhg=>absurd hg (by simp[Af.gen]))
  (λq=>⟨x.w.heap.size,rfl,heap_alloc_new _ _⟩)
 refine⟨_,this.1,this.2,rfl,rfl,rfl,.ptr (by simp) rfl λw j _=>?_⟩
 simp only[qy] at j
 cases j
 exact⟨x.w.heap.size,1,by simp,by simp⟩
theorem Y0{t}{x}{s} id(q:o.op=.range t x)(A:P.underlying t=some .string)(B:Ev c R x (.r (.str s))) :
  Bc P c o R h n (.ptr id n 0 0) ((id,some (.it n s 0))::h) (n+1):=by
 intro C z w l E m F K Q I
 obtain⟨y,J,M,O,T,U,V⟩:=jF l id s
 have j:=B.rep F C
 generalize X:w.eval x=v at j
 cases j with
 | r j=>
  cases j with
  | str s=>
   unfold Oper.wp execOp
   rw[q]
   simp only[X,Sem.run_bind,run_range_string _ _ _ A,Result.andThen_ok,Sem.run_pure]
   have:=I (.pointer (some ⟨z.w.heap.size,0,none⟩)) y J M (by rw[T,E,m,DG]) (by rw[U,m]) (by rw[← m];exact V)
   rw[O] at this
   exact this
theorem WQ{x:Cx}(j:x.ok){id g pos}{s:List UInt8}{v}(q:x.H id=some (.it g s pos))(l:AX x (.ptr id g 0 0) v) :
  ∃b,x.β id=some (b,1)∧v=.pointer (some ⟨b,0,none⟩)∧x.w.heap[b]?=some (.stringIter ⟨s.toArray⟩ pos):=by
 obtain⟨_,b,w,A⟩:=j.obj _ _ q
 cases l with
 | ptr _ _ l=>
  obtain⟨C,cap,m,B⟩:=l _ q rfl
  rw[w] at m
  simp only[rE,rJ] at m
  obtain⟨rfl,rfl⟩:=m
  exact⟨b,w,by rw[B,uR],A⟩
theorem fi{x}{id g pos}{s:List UInt8}(E:o.op=.next x true)(F:Ev c R x (.ptr id g 0 0))(I:hget h id=some (.it g s pos))(hp:c=true→decide (pos<s.length)=false) :
  Bc P c o R h n (.tup [.r (.bool false)]) h n:=by
 intro A z w j B J M K Q O
 obtain⟨b,V,T,U⟩:=WQ j (by rw[B];exact I) (F.rep M A)
 have m:¬ pos<(⟨s.toArray⟩:ByteArray).size:=by
  have:=of_decide_eq_false (hp A)
  simpa[ByteArray.size] using this
 unfold Oper.wp execOp
 rw[E]
 have l:(Instr.next (.pointer (some ⟨b,0,none⟩)) true o.type).run P z.w=.ok (.tuple #[.bool false]) z.w:=by
  simp[Instr.next,getObj,Sem.run,U,m]
 simp only[T,Sem.run_bind,l,Result.andThen_ok,Sem.run_pure]
 refine O (.tuple #[.bool false]) z (Cx.le.refl z) j B J (.tup rfl λi a u q C=>?_)
 rcases i with _ | i
 ·simp at q C;subst q;subst C;exact .r (.bool false)
 ·simp at q
theorem pp{x}{id g pos}{s:List UInt8}(V:o.op=.next x true)(X:Ev c R x (.ptr id g 0 0))(Z:hget h id=some (.it g s pos))(hp:c=true→decide (pos<s.length)=true) :
  Bc P c o R h n (.tup [.r (.bool true),.r (.int .i64 (pos:Int)),.r (.int .i32 ((GU s pos).1:Int))]) ((id,some (.it g s (pos+(GU s pos).2)))::h) n:=by
 intro J z w l M hn he K Q hK
 have j:z.H id=some (.it g s pos):=by rw[M];exact Z
 obtain⟨b,C,h2,O⟩:=WQ l j (X.rep he J)
 have E:pos<(⟨s.toArray⟩:ByteArray).size:=by
  have:=tV (hp J)
  simpa[ByteArray.size] using this
 have T:=(l.own id _ b 1 j C).1
 have A:=EY l id (.it g s (pos+(GU s pos).2)) { z.w with heap:=z.w.heap.setIfInBounds b (.stringIter ⟨s.toArray⟩ (pos+(GU s pos).2)) } (some (b,1)) z.n (by simp) rfl rfl rfl
  (λU _ F=>by
   have:b≠U:=λe=>F _ 1 j (by rw[← e];exact C)
   simp[this])
  (λU k' I=>by cases I;exact⟨by simpa using T,.inr ⟨_,_,j,C⟩⟩) (q9 _) (l.obj _ _ j).1 (λ_=>⟨_,j,rfl,rfl,C.symm⟩)
  (λa0=>⟨b,rfl,by simp[T]⟩)
 unfold Oper.wp execOp
 rw[V]
 have B:(Instr.next (.pointer (some ⟨b,0,none⟩)) true o.type).run P z.w=.ok (.tuple #[.bool true,.int .i64 (pos:Int),.int .i32 ((GU s pos).1:Int)]) { z.w with heap:=z.w.heap.setIfInBounds b (.stringIter ⟨s.toArray⟩ (pos+(GU s pos).2)) }:=by
  simp only[Instr.next,getObj,setObj,Sem.run_bind,Sem.run,O,Result.andThen,E,uA]
  simp[goInt,Sem.run,O,GU]
 simp only[h2,Sem.run_bind,B,Result.andThen_ok,Sem.run_pure]
 refine hK _ _ A.1 A.2 (by simp only[M];exact DG _ _ _) hn (.tup rfl λi a u m q=>?_)
 rcases i with _ | _ | _ | i
 ·simp at m q;subst m;subst q;exact .r (.bool true)
 ·simp at m q;subst m;subst q;exact .r (.int _ _)
 ·simp at m q;subst m;subst q;exact .r (.int _ _)
 ·simp at m
theorem AW.split{Q}{s}{x} b(j:b=true→AW P x Q s)(l:b=false→AW P x Q s):AW P x Q s:=by
 cases b
 ·exact l rfl
 ·exact j rfl
end
section
variable{P:Program}{c:Bool}{o:Oper}{R:As}{h:Aj}
theorem kx{t e e'}{F id g}{x y}{cs}{k}{z:Int}(T:o.op=.indexAddr t x y)(U:Lc P t F e 1)(V:Ev c R x (.ptr id g 0 0))(X:hget h id=some (.box g e' cs))
 (Z:Ev c R y (.r (.int k z))) {l:List Bool} {v} (hi:c=true→AL l z=some v) (hl:l.length=F):Ad P c o R h (.ptr id g 0 z.toNat) := by
  intro q w a A hH I
  obtain⟨B, ii, C, E⟩ := U
  have j:w.H id=some (.box g e' cs) := by rw[hH];exact X
  have J := V.rep I q
  obtain⟨z0, _, M⟩ := FA (hi q)
  rw[hl] at M
  have hg:g<w.n := by cases J with | ptr hg _ _ => exact hg
  obtain⟨b, a0, h1, h2, h3, h4, h5⟩ := Hb A j J
  refine⟨.pointer (some ⟨b, z.toNat, none⟩), λw2 a1 => ?_, .ptr hg rfl λo' m O => ?_⟩
  · unfold execOp
    rw[T]
    simp[h2, Cy (Z.rep I q), Instr.indexAt, Instr.sureAddr, asIntOf, run_underlying B, z0, M, D8 C, E, Addr.add_lit]
  · rw[j] at m;cases m
    exact⟨b, _, h1, by simp⟩
end
open Go.Shelf Go.RowKit Go.Lib
theorem Ui{P}{f}{args}{r:AV}(hc:Gt P f)(E:r.closed=true)
 (h:∀(x:Cx) (B:Array Value), x.ok→G4 x args B.toList→Calls P f B x.w λe w' => ∃u, e=.returned u∧Below x.w.heap.size x.w w'∧∀y:Cx, AX y r u):Aa P f args r := by
  refine⟨hc, E, λx B l C I => (h x B l I).mono λe w' ⟨u, J, q, M⟩ => ?_⟩
  have A:x.le { x with w := w' } := by
    refine⟨q.size, q.os, q.tape, q.output, λb F => q.block b (F.elim (l.S_lt b) (l.F_lt b)), λ_ h => h, rfl, q9 _, λid o m _ => ⟨o, m, rfl, rfl, rfl⟩, λid o m O _ _ => ⟨o, m, O, rfl, rfl, rfl, rfl⟩⟩
  refine⟨u, { x with w := w' }, J, rfl, A, ⟨λb w => rD (l.S_lt b w) q.size, λb w => rD (l.F_lt b w) q.size, l.SF, λid o m => ?_, λid o b k m => ?_, λid T o U b k V m => ?_, λid o j b c m => ?_, l.tabs.le A⟩, M _⟩
  · exact absurd (show x.H id=some o from m) (by rw[C];simp)
  · exact absurd (show x.H id=some o from m) (by rw[C];simp)
  · exact absurd (show x.H id=some o from m) (by rw[C];simp)
  · exact absurd (show x.H id=some o from m) (by rw[C];simp)
theorem S9{x:Cx}(B:Es x){g}{row}(hg:Hn g=some row){j}{k}{z}(l:row[j]?=some (.int k z)):x.w.cell? ⟨g,j,none⟩=some (.int k z):=by
 have h:=B.tab g row hg
 generalize m:(Value.pointer (some ⟨g,0,none⟩))=v at h
 cases h with
 | rop u F C E=>
  rename_i b off
  simp only[Value.pointer.injEq,rE,Addr.mk.injEq,uH,sT] at m
  obtain⟨rfl,rfl⟩:=m
  have q:=C j _ l
  have A:=E j _ l
  rw[rl] at q
  rw[q]
  generalize u j=w at A
  cases A;rfl
theorem ni:∀c,c<256→(GW.flatMap λz=>[RV.int .u8 z])[c]?=some (.int .u8 (Lib.firstT c:Int)):=by
 have h:∀c:Fin 256,GW[c.val]?=some (Lib.firstT c.val:Int):=by decide +kernel
 intro c hc
 have h1:∀(l:List Int) (j:Nat),(l.flatMap λz=>[RV.int .u8 z])[j]?=(l[j]?).map (RV.int .u8):=by
  intro l
  induction l with
  | nil=>intro j;simp
  | cons a l ih=>intro j;cases j with
   | zero=>simp
   | succ j=>simpa using ih j
 rw[h1,h ⟨c,hc⟩];rfl
theorem WR:∀i,i<16→(Jc.flatMap λp=>[RV.int .u8 p.1,RV.int .u8 p.2])[2 * i]?=some (.int .u8 (Lib.accLo i:Int))∧(Jc.flatMap λp=>[RV.int .u8 p.1,RV.int .u8 p.2])[2 * i+1]?=some (.int .u8 (Lib.accHi i:Int)):=by
 have h:∀c:Fin 16,Jc[c.val]?=some ((Lib.accLo c.val:Int),(Lib.accHi c.val:Int)):=by decide +kernel
 intro i hi
 have h1:∀(l:List (Int × Int)) (j:Nat),(l.flatMap λp=>[RV.int .u8 p.1,RV.int .u8 p.2])[2 * j]?=(l[j]?).map (λp=>RV.int .u8 p.1)∧(l.flatMap λp=>[RV.int .u8 p.1,RV.int .u8 p.2])[2 * j+1]?=(l[j]?).map (λp=>RV.int .u8 p.2):=by
  intro l
  induction l with
  | nil=>intro j;simp
  | cons a l ih=>intro j;cases j with
   | zero=>simp
   | succ j=>
    have:=ih j
    rw[show 2 * (j+1)=2 * j+1+1 by omega]
    simpa using this
 rw[(h1 _ _).1,(h1 _ _).2,h ⟨i,hi⟩]
 exact⟨rfl,rfl⟩
theorem oX{x:Cx}(j:x.ok)(l:Ia≠Ip):Lib.Utf8Tabs Ia Ip x.w:=by
 have q:Hn Ia=some (GW.flatMap λz=>[.int .u8 z]):=by unfold Hn;rw[qy rfl]
 have hA:Hn Ip=some (Jc.flatMap λp=>[.int .u8 p.1,.int .u8 p.2]):=by unfold Hn;rw[qx (λe=>l e.symm),qy rfl]
 exact⟨λc w=>S9 j.tabs q (ni c w),λi m=>⟨S9 j.tabs hA (WR i m).1,S9 j.tabs hA (WR i m).2⟩⟩
theorem qS{P}{ρ:Ren}{f}(L:Go.Proofs.Lays.n196 P ρ)(w:ρ.f 196=f)(A:ρ.g 3=Ia)(B:ρ.g 4=Ip)(hc:Gt P f){s}{r}(h:RW s=some r) :
  Aa P f [.r (.str s)] (.r (.bool r)):=by
 subst w
 refine Ui hc rfl λx q j l=>?_
 unfold RW at h
 split at h
 ·rename_i C
  cases h
  have J:=l
  obtain⟨v,E⟩:∃v,q = #[v]:=by
   have:=l.1
   match q,this with
   | ⟨[v]⟩,_=>exact⟨v,rfl⟩
  subst E
  have m:=l.2 0 (.r (.str s)) v rfl rfl
  cases m with
  | r m=>
   cases m with
   | str s=>
    refine(Any.utf8_ValidString L s x.w (by rw[Lib.size_eq];exact C) (by rw[A,B];exact oX j (by decide))).mono λe w' ⟨F,I⟩=>?_
    exact⟨_,F,I,λy=>.r (.bool _)⟩
 ·cases h
end Go.Proofs.YtifgmfoihehlbaaGreatDoor.Al

namespace Go.Proofs.YtifgmfoihehlbaaGreatDoor.Al
open Go.Shelf Go.RowKit Go.Lib
theorem jI{x}{b}{v}(h:AX x (.ifc b) v):(b=true∧v=.nilIface)∨(b=false∧∃t u,v=.iface t u):=by
 cases h with
 | ifc l h j=>
  cases b
  ·exact .inr ⟨rfl,j rfl⟩
  ·exact .inl ⟨rfl,h rfl⟩
theorem eB{P}{op}{t}{x}{a}{w}(h:a=.nilIface∨∃t u,a=.iface t u):(eqGuard op t x (.const .nilIface) a .nilIface).run P w=.ok () w:=by
 unfold eqGuard
 rcases h with rfl | ⟨t,u,rfl⟩
 ·cases op<;>simp[go_sem]
 ·cases op<;>simp[go_sem]
theorem eU{P}{c}{o:Oper}{R}{h}{op}{t q}{x}{b r}(A:o.op=.binOp op t x (.const .nilIface) q)(B:Ev c R x (.ifc b))
 (C:∀w a, (b=true∧a=.nilIface)∨(b=false∧∃t u, a=.iface t u)→(binOp op t a .nilIface).run P w=.ok (.bool r) w):Ad P c o R h (.r (.bool r)) := by
  intro E z a _ _ F
  have l := jI (B.rep F E)
  refine⟨.bool r, λm I => ?_, .r (.bool _)⟩
  unfold execOp
  rw[A]
  have hg:(eqGuard op t x (.const .nilIface) (a.eval x) .nilIface).run P m=.ok () m := eB (l.imp (λh => h.2) (λh => h.2))
  have j:a.eval (.const .nilIface)=.nilIface := rfl
  simp only[j, Sem.run_bind, hg, Result.andThen_ok, C _ _ l]
  simp[go_sem]
theorem p6{P:Program}{c}{o:Oper}{R}{h}{t l}{x}{b}(m:o.op=.binOp .neq t x (.const .nilIface) l)(j:P.underlying t=some (.interface (P.methodsAt t)))(q:Ev c R x (.ifc b)):Ad P c o R h (.r (.bool (!b))):=by
 refine eU m q λw a A=>?_
 rcases A with ⟨rfl,rfl⟩ | ⟨rfl,B,u,rfl⟩
 ·simp[binOp,run_equal_nil_nil w t j]
 ·simp[binOp,run_equal_held_nil w t B u j]
theorem Uw{P:Program}{W:World}{w name}{g}{t}{C}{A d}(E:VarReads P W w A)(hd:A=.iface name d)(n1:P.globalNamed w=some g)
 (F:(P.globals[g]?).map (·.type)=some t) (I:P.underlying t=some (.interface C)):∃t p, W.cell? ⟨g, 0, none⟩=some (.iface t p) := by
  obtain⟨O, T, J, B, p, hg, m, j, q⟩ := E
  obtain rfl := rW (n1.symm.trans hg)
  obtain rfl := rW (F.symm.trans m)
  subst hd
  obtain⟨l⟩ := J
  obtain⟨_, u, v, e, _⟩ := Go.iface_of_trod I q
  have e:l=[.iface u v] := e
  subst e
  have M := World.var?_cell n1 j 0
  exact⟨u, v, by simpa using M⟩
noncomputable def atoiS(s:List UInt8):Option (Int × Bool):=
 if s.length≤281474976710656 then some (match Lib.atoiAll s with | .ok v=>(v,true) | .range=>(Lib.atoiSat s,false) | _=>(0,false)) else none
theorem Aa.atoiS{P}{ρ:Ren}{f}(L:Go.Proofs.LaysC.n172 P ρ)(T:ρ.f 172=f)(w:ρ.g 15=VT)(A:ρ.g 16=Yf)(hc:Gt P f){s:List UInt8}{r}(h:Al.atoiS s=some r) :
  Aa P f [.r (.str s)] (.tup [.r (.int .i64 r.1),.ifc r.2]):=by
 subst T
 refine Ui hc rfl λx E B F=>?_
 unfold Al.atoiS at h
 split at h
 ·rename_i I
  obtain⟨v,U⟩:∃v,E = #[v]:=by
   have:=F.1
   match E,this with
   | ⟨[v]⟩,_=>exact⟨v,rfl⟩
  subst U
  obtain rfl:=H3 (F.2 0 (.r (.str s)) v rfl rfl)
  obtain⟨W0,⟨⟨V,X,c1⟩,⟨Z,p2,J⟩⟩,M,_⟩:=B.tabs.fact
  have e1:x.w.cell? ⟨ρ.g 15,0,none⟩=some (.iface V X):=by rw[w];exact(M.cell (World.block_lt_of_cell? _ _ c1)).trans c1
  have e2:x.w.cell? ⟨ρ.g 16,0,none⟩=some (.iface Z p2):=by rw[A];exact(M.cell (World.block_lt_of_cell? _ _ J)).trans J
  have hsz:(⟨s.toArray⟩:ByteArray).size=s.length:=by show s.toArray.size=_;simp
  have l:(⟨s.toArray⟩:ByteArray).data.toList=s:=by simp
  have j:∀(y:Cx) (k:Int) (b:Bool) (u:Value),AX y (.ifc b) u→AX y (.tup [.r (.int .i64 k),.ifc b]) (.tuple #[.int .i64 k,u]):=λy k b u hu=>by
   refine .tup rfl λi c v C O=>?_
   rcases i with _ | _ | i
   ·cases C;cases O;exact .r (.int _ _)
   ·cases C;cases O;exact hu
   ·cases C
  rcases hA:Lib.atoiAll s with v | _ | _
  ·rw[hA] at h;cases h
   refine(Any.strconv_Atoi_ok L ⟨s.toArray⟩ (by rw[hsz];omega) v (by rw[l];exact hA) x.w).mono λe w' ⟨m,q⟩=>⟨_,m,?_,λy=>j y _ _ _ (.ifc rfl (λ_=>rfl) (λe=>by cases e))⟩
   rcases q with rfl | ⟨t,rfl⟩
   ·exact Below.refl _ _
   ·exact Lib.bytesWorld_below _ _ _
  ·rw[hA] at h;cases h
   refine(Any.strconv_Atoi_syntax L ⟨s.toArray⟩ (by rw[hsz];exact I) (by rw[l];exact hA) _ x.w e1 (.inr ⟨_,_,rfl⟩)).mono λe w' ⟨N,m,_,_,q⟩=>⟨_,m,q,λy=>j y _ _ _ (.ifc rfl (λe=>by cases e) (λ_=>⟨_,_,rfl⟩))⟩
  ·rw[hA] at h;cases h
   refine(Any.strconv_Atoi_range L ⟨s.toArray⟩ (by rw[hsz];exact I) (by rw[l];exact hA) _ x.w e2 (.inr ⟨_,_,rfl⟩)).mono λe w' ⟨N,m,_,_,q⟩=>⟨_,by rw[l] at m;exact m,q,λy=>j y _ _ _ (.ifc rfl (λe=>by cases e) (λ_=>⟨_,_,rfl⟩))⟩
 ·cases h
end Go.Proofs.YtifgmfoihehlbaaGreatDoor.Al

namespace Go.Proofs.YtifgmfoihehlbaaGreatDoor.Al
open Go.Shelf Go.RowKit Go.Lib Go.Sort
noncomputable def itoaS(n:Int):Option (List UInt8):=if -9223372036854775808≤n∧n≤9223372036854775807 then some (Lib.itoa n) else none
theorem bV(w:World)(k:Nat)(l:Array Obj):Below w.heap.size w (grow (w.drewN k) l):=by
 refine⟨rfl,rfl,rfl,?_,λj m=>?_⟩
 ·show w.heap.size≤(w.heap++l).size
  simp
 ·show(w.heap++l)[j]?=w.heap[j]?
  rw[tS m]
theorem Aa.itoaS {P : Program} {ρ : Ren} {f} {g} (L : Go.Proofs.LaysM.n171 P ρ) (C : ρ.f 171 = f) (hg : P.globalNamed "internal/strconv.uint64pow10" = some g) (hw : QG g = some ((Lib.pow10Tab.map fun z => Value.int .u64 z).toArray)) (hc : Gt P f) {n} {r} (h : Al.itoaS n = some r) :
  Aa P f [.r (.int .i64 n)] (.r (.str r)):=by
 subst C
 refine Ui hc rfl λx w l A=>?_
 unfold Al.itoaS at h
 split at h
 ·rename_i B
  cases h
  obtain⟨v1,E⟩:∃v1,w = #[v1]:=by
   have:=A.1
   match w,this with
   | ⟨[v1]⟩,_=>exact⟨v1,rfl⟩
  subst E
  have m:=A.2 0 _ v1 rfl rfl
  cases m with
  | r m=>
  cases m with
  | int _ _=>
   have j : Lib.TabIs P x.w "internal/strconv.uint64pow10" .u64 Lib.pow10Tab := by
    obtain⟨_,_,t,p,F⟩:=l.tabs.whole g _ hw
    unfold Lib.TabIs World.var?
    rw[hg]
    simp only[rt,F]
   exact(Any.strconv_Itoa L n B.1 B.2 x.w j).mono λe w' ⟨I,k,J,q⟩=>⟨_,I,q ▸ bV _ _ _,λy=>.r (.str ⟨(Lib.itoa n).toArray⟩)⟩
 ·cases h
end Go.Proofs.YtifgmfoihehlbaaGreatDoor.Al

namespace Go.Proofs.YtifgmfoihehlbaaGreatDoor.Al
open Go.ChangeMaps (setBlock)
open Go.MapKept Go.RowKit
section
variable{P:Program}{c:Bool}{o:Oper}{R:As}{h:Aj}{n:Nat}
end
end Go.Proofs.YtifgmfoihehlbaaGreatDoor.Al

namespace Go.Proofs.YtifgmfoihehlbaaGreatDoor.Al
open Go.ChangeMaps (setBlock)
open Go.MapKept Go.RowKit
set_option linter.unusedVariables false
section
variable{P:Program}{ops:Array Oper}{rest:List Oper}{s:St}{K:St→Prop}{o:Oper}
section
variable{c:Bool}{R:As}{h:Aj}{n:Nat}
end
end
end Go.Proofs.YtifgmfoihehlbaaGreatDoor.Al

namespace Go.Proofs.YtifgmfoihehlbaaGreatDoor.Al
section
variable{P:Program}{ops:Array Oper}{rest:List Oper}{s:St}{K:St→Prop}{o:Oper}
end
section
variable{P:Program}{ops:Array Oper}{rest:List Oper}{s:St}{K:St→Prop}{o:Oper}
def D4(P:Program)(ops:Array Oper)(rest:List Oper)(s:St)(K:St→Prop):Prop:=
 ∀(j:Cx) (a:Act) (w:World),E7 j s a w→∀Q:Exit→Act→World→Prop,¬ LetsOut Q→(∀l m w',K l→E7 j l m w'→Q .normal m w')→wpListIn (zF none) 0 P ops Q rest a w
theorem D4.nil(h:K s):D4 P ops [] s K:=λ_ a w j _ _ l=>l s a w h j
theorem D4.cons{O}(h:AS P ops [o] s O)(X:∀T,O T→D4 P ops rest T K):D4 P ops (o::rest) s K:=by
 intro U a w Z Q j hQ
 have q:=h U a w Z (λe F w'=>match e with | .normal=>wpListIn (zF none) 0 P ops Q rest F w' | e=>Q e F w') λs' F w' hk I=>X s' hk U F w' I Q j hQ
 unfold wpList at q
 unfold wpListIn
 split
 ·rename_i J
  rw[qy J] at q
  rcases q with q | q
  ·have V:=YZ (z:=none) (.inl rfl) q
   refine⟨V.1,?_⟩
   have m:=V.2
   generalize (o.semAt (zF none).round a.eval).run P w=r at m ⊢
   cases r with
   | ok x w'=>
    cases x with
    | enter f args=>
     refine⟨m.1,m.2.mono λe M A=>?_⟩
     cases e with
     | returned v=>exact A
     | panicked ch=>exact A
     | outgrown=>exact absurd (by obtain⟨B,C,E⟩:=A;exact⟨B,C,E⟩) j
    | row a1 args=>exact⟨m.1,m.2⟩
    | round l f t a2 b=>
     refine⟨m.1,m.2.mono λe M A=>?_⟩
     cases e with
     | returned v=>exact A
     | panicked ch=>exact A
     | outgrown=>exact absurd (by obtain⟨B,C,E⟩:=A;exact⟨B,C,E⟩) j
    | value v=>exact m
    | skip=>exact m
    | defer d=>exact m
    | _=>exact m.elim
   | halt x w'=>cases x<;>first | exact m | exact m.elim
  ·exact absurd (by obtain⟨_,B,C,E⟩:=q;exact⟨B,C,E⟩) j
 ·rename_i J
  rw[qx J] at q
  exact⟨λ_ _=>trivial,q⟩
theorem ja{Q}{K}{a:Act}{w}{z}(l:z=none∨IY o=true)(h:o.wpIn (zF none) 0 P a w K Q):o.wpIn (zF z) 0 P a w K Q:=by
 refine⟨λ_ _=>trivial,?_⟩
 have j:=h.2
 rw[show(zF z).round=z from rfl,S3 l]
 rw[show(zF none).round=none from rfl,S3 (.inl rfl)] at j
 generalize (execOp a.eval o).run P w=r at j ⊢
 cases r with
 | ok x w'=>cases x<;>exact j
 | halt x w'=>cases x<;>exact j
theorem SQ{Q}{z} : ∀(l:List Oper) (a:Act) (w:World),(z=none∨l.all IY=true)→wpListIn (zF none) 0 P ops Q l a w→wpListIn (zF z) 0 P ops Q l a w
 | [],_,_,_,h=>h
 | o::l,a,w,A,h=>by
  have m:z=none∨IY o=true:=A.imp id λh=>by simp only[te,rF] at h;exact h.1
  have j:z=none∨l.all IY=true:=A.imp id λh=>by simp only[te,rF] at h;exact h.2
  unfold wpListIn at h ⊢
  split
  ·rename_i q
   rw[qy q] at h
   exact ja m (Oper.wpIn_mono (λa w h=>SQ l a w j h) h)
  ·rename_i q
   rw[qx q] at h
   exact⟨λ_ _=>trivial,SQ l _ w j h.2⟩
theorem qM{id}{l:List Oper}{Q}(h:D4 P l.toArray l s (Q .normal)):AW P (.region id l.toArray false) Q s:=by
 intro z m q a w A
 exact wpIn_region_lit (SQ l a w (m.imp _root_.id λh=>by simpa[Ck] using h) (h q a w A _ Pg λB E w' C j=>⟨by simp,B,C,j⟩))
end
theorem TC{x:Cx}(j:x.ok){id g N b}{e0}{ps}{asg bd}{I st'}{pd pd'}{r}(m:x.H id=some (.lp g e0 N ps asg bd I pd))(l:x.β id=some (b,1))(J:x.w.heap[b]?=some (.loop r)) :
  x.le { x with w:=x.w.putObj b (.loop { r with state:=st',pending:=pd' }),H:=λi=>if id=i then some (.lp g e0 N ps asg bd st' pd') else x.H i,K:=λi=>if id=i then λ_=>none else x.K i } ∧
  ({ x with w:=x.w.putObj b (.loop { r with state:=st',pending:=pd' }),H:=λi=>if id=i then some (.lp g e0 N ps asg bd st' pd') else x.H i,K:=λi=>if id=i then λ_=>none else x.K i } : Cx).ok:=by
 obtain⟨hg,X,Z,A,F,M,O,T,k6,k7,U,V⟩:=j.obj _ _ m
 rw[l] at A
 simp only[rE,rJ] at A
 obtain⟨rfl,_⟩:=A
 rw[J] at F;cases F
 have q:=(j.own id _ b 1 m l).1
 have w:=EY j id (.lp g e0 N ps asg bd st' pd') (x.w.putObj b (.loop { r with state:=st',pending:=pd' })) (some (b,1)) x.n (by rw[World.putObj_size];exact q9 _) rfl rfl rfl
  (λc B C=>World.putObj_heap_other λe=>C _ 1 m (by rw[e];exact l)) (λc k B=>by
   simp only[rE,rJ] at B
   obtain⟨rfl,rfl⟩:=B
   exact⟨by rw[World.putObj_size];exact q,.inr ⟨_,1,m,l⟩⟩) (q9 _) hg (λ_=>⟨_,m,rfl,rfl,l.symm⟩)
  (λE=>⟨b,{ r with state:=st',pending:=pd' },rfl,World.putObj_heap_same q,M,O,T,rfl,rfl,U,λt=>(V t).mono E⟩)
 have e:(λi=>if id=i then some (b,1) else x.β i)=x.β:=by
  funext i
  split
  ·rename_i h;subst h;exact l.symm
  ·rfl
 rw[e] at w
 exact w
def NH:List Nat→List AV→As→As
 | p::j,b::l,e=>NH j l ((p,b)::e)
 | _,_,e=>e
theorem Xk{x} : ∀(ps:List Nat) (bs:List AV) (us:List Value) (e:As) (t:Array Value),bs.length=ps.length→us.length=ps.length→(∀(i:Nat) (b:AV) (u:Value),bs[i]?=some b→us[i]?=some u→AX x b u)→(∀p∈ps,p<t.size)→(∀j,AX x (get e j) (t.getD j undef)) →
  ((ps.zip us).foldl (λt (p:Nat × Value)=>t.setIfInBounds p.1 p.2) t).size=t.size∧∀j,AX x (get (NH ps bs e) j) (((ps.zip us).foldl (λt (p:Nat × Value)=>t.setIfInBounds p.1 p.2) t).getD j undef)
 | [],bs,us,e,t,_,_,_,_,l=>by
  cases bs<;>cases us<;>exact⟨rfl,l⟩
 | p::ps,[],us,e,t,h,_,_,_,l=>by cases h
 | p::ps,b::bs,[],e,t,_,h,_,_,l=>by cases h
 | p::ps,b::bs,u::us,e,t,A,B,m,w,l=>by
  have hp:=w p (rT ..)
  obtain⟨C,E⟩:=Xk (x:=x) ps bs us ((p,b)::e) (t.setIfInBounds p u) (by simpa using A) (by simpa using B) (λi b u F I=>m (i+1) b u (by simpa using F) (by simpa using I))
   (λq J=>by rw[Array.size_setIfInBounds];exact w q (rO _ J)) (λj=>by
    rw[Di,QL hp]
    split
    ·exact m 0 b u rfl rfl
    ·exact l j)
  exact⟨by simpa using C,E⟩
def PE(id g:Nat)(C:Bool→Aj→Nat→Prop):Exit→St→Prop
 | .normal,s=>∃e0 N l j m,hget s.h id=some (.lp g e0 N l j m .busy none)∧C true ((id,some (.lp g e0 N l j m .ready none))::s.h) s.n
 | .ret,s=>∃e0 N l j m,hget s.h id=some (.lp g e0 N l j m .busy none)∧C false ((id,some (.lp g e0 N l j m .done (some .ret)))::s.h) s.n
 | .exit i,s=>∃e0 N l j m,hget s.h id=some (.lp g e0 N l j m .busy none)∧C false ((id,some (.lp g e0 N l j m .done (some (.exit i))))::s.h) s.n
 | _,_=>False
def Jq(P:Program)(id g:Nat)(bd:Code)(C:Bool→Aj→Nat→Prop):Exit→St→Prop
 | .normal,s=>∃e0 N m j l,hget s.h id=some (.lp g e0 N m j l .ready none)∧AW P bd (PE id g C) ⟨s.e,(id,some (.lp g e0 N m j l .busy none))::s.h,s.n,s.N⟩
 | _,_=>False
section
variable{P:Program}{ops:Array Oper}{rest:List Oper}{s:St}{K:St→Prop}{o:Oper}
theorem ff{z:Cx}{id g N b f}{e0 e1}{ps:List Nat}{asg bd}{r:Loop}{h}{n}{C}{tmps:Array Value}(Z:z.ok)(hH:z.H=hget h)(hn:z.n=n)(hh:hget h id=some (.lp g e0 N ps asg bd .ready none))(hβ:z.β id=some (b, 1))
 (hb:z.w.heap[b]?=some (.loop r)) (hr:r.params=ps.toArray∧r.assign=asg∧r.body=bd∧r.state=.ready∧r.pending=none) (hsz:tmps.size=N) (he:∀t, AX z (get e1 t) (tmps.getD t undef)) (a0:Ck asg=true∧Ck bd=true)
 (hw:AW P asg (Jq P id g bd C) ⟨e1, h, n, N⟩):RoundIn (zF none) (0 - 1) P b f tmps asg bd z.w λe w' => ∃(x:Bool) (y:Cx) (h':Aj) (n':Nat), e=.returned (.bool x)∧y.w=w'∧z.le y∧y.ok∧y.H=hget h'∧y.n=n'∧C x h' n' := by
  have ah:g<z.n := (Z.obj id (.lp g e0 N ps asg bd .ready none) (by rw[hH];exact hh)).1
  have A:∀ {y:Cx} {e0:As} {N:Nat} {ps:List Nat} {asg bd:Code} {U:LoopState} {V:Option Code}, z.le y→y.H id=some (.lp g e0 N ps asg bd U V)→y.β id=some (b, 1) := by
    intro y e0 N ps asg bd U V ai hy
    obtain⟨o', B, E, h3, h4⟩ := ai.H id _ hy (.inl ah)
    rw[h4, hβ]
  have F:∀ {y:Cx} {e0:As} {N:Nat} {ps:List Nat} {asg bd:Code} {U:LoopState} {V:Option Code}, y.ok→y.H id=some (.lp g e0 N ps asg bd U V)→y.β id=some (b, 1)→∃r:Loop, y.w.heap[b]?=some (.loop r)∧r.state=U∧r.pending=V := by
    intro y e0 N ps asg bd U V hy B E
    obtain⟨_, b', r', k1, k2, k3, k4, k5, k6, k7, _⟩ := hy.obj _ _ B
    rw[E] at k1
    simp only[rE, rJ] at k1
    obtain⟨rfl, _⟩ := k1
    exact⟨r', k2, k6, k7⟩
  refine roundIn_of_wpIn (F := zF none) trivial (wpIn_mono (hw (some b) (.inr a0.1) z { tmps := tmps, defers := [] } z.w ⟨_, rfl, hsz, z, rfl, .refl z, Z, hH, hn, he⟩) λe a1 w1 ⟨ho, s1, X, aj⟩ => ?_)
  obtain⟨ak, al, an, y1, ao, I, J, a6, aq, ar⟩ := aj
  subst ao
  cases e with
  | normal =>
    obtain⟨e0, N, ps, asg, au, av, aw⟩ := X
    have q:y1.H id=some (.lp g e0 N ps asg au .ready none) := by rw[a6];exact av
    have a7 := A I.le q
    obtain⟨r1, a8, aa, ab⟩ := F J q a7
    obtain⟨t1, t2⟩ := TC (st' := .busy) (pd' := none) J q a7 a8
    have ac := run_beginRound (P := P) a8 aa
    have ad:({ r1 with state := .busy } : Loop) = { r1 with state := .busy, pending := none } := by rw[← ab]
    rw[ad] at ac
    refine⟨_, ac, ?_⟩
    refine wpIn_mono (aw (some b) (.inr a0.2) z a1 _ ⟨ak, al, an, _, rfl, I.trans t1, t2, by rw[a6];funext i;simp only[BY], aq, λt => (ar t).mono t1⟩) λe a2 w2 ⟨b6, s2, m, ax⟩ => ?_
    obtain⟨b7, b8, b9, y2, ay, M, O, ae, az, ba⟩ := ax
    subst ay
    have T:∀(j:Option Code) (e0:As) (N:Nat) (ps:List Nat) (asg bd:Code), hget s2.h id=some (.lp g e0 N ps asg bd .busy none)→C j.isNone ((id, some (.lp g e0 N ps asg bd (if j.isNone then .ready else .done) j))::s2.h) s2.n →
        ∃v w', (Instr.endRound b j).run P y2.w=.ok v w'∧∃(x:Bool) (y:Cx) (h':Aj) (n':Nat), (Ending.returned v)=.returned (.bool x)∧y.w=w'∧z.le y∧y.ok∧y.H=hget h'∧y.n=n'∧C x h' n' := by
      intro j e0 N ps asg bd b0 hc
      have w:y2.H id=some (.lp g e0 N ps asg bd .busy none) := by rw[ae];exact b0
      have af := A M.le w
      obtain⟨r2, ag, b4, b5⟩ := F O w af
      obtain⟨u1, u2⟩ := TC (st' := if j.isNone then .ready else .done) (pd' := j) O w af ag
      exact⟨_, _, run_endRound j ag, j.isNone, _, _, _, rfl, rfl, M.le.trans u1, u2, by rw[ae];funext i;simp only[BY], az, hc⟩
    cases e with
    | normal => obtain⟨e0, N, ps, asg, bd, B, E⟩ := m;exact T none e0 N ps asg bd B E
    | ret => obtain⟨e0, N, ps, asg, bd, B, E⟩ := m;exact T (some .ret) e0 N ps asg bd B E
    | exit i => obtain⟨e0, N, ps, asg, bd, B, E⟩ := m;exact T (some (.exit i)) e0 N ps asg bd B E
    | goto l => exact m.elim
    | panic ch => exact m.elim
    | outgrown => exact m.elim
  | exit i => exact X.elim
  | goto l => exact X.elim
  | ret => exact X.elim
  | panic ch => exact X.elim
  | outgrown => exact X.elim
theorem eh{o:Oper}{fo}{xs:Array Operand}{j}{a:Act}{l}{w}(q:o.op=.call { callee:=.value fo,args:=xs,argTypes:=j })(m:a.eval fo=.func (.yield l) #[] #[]):(execOp a.eval o).run P w=(Instr.yield l (xs.map a.eval)).run P w:=by
 unfold execOp
 rw[q]
 simp only[resolve,m,Deferred.ofValue,Sem.run_bind,Sem.run_pure,Result.andThen_ok,invoke]
 simp
end
open Go.RowKit
section
variable{P:Program}{ops:Array Oper}{rest:List Oper}{s:St}{K:St→Prop}{o:Oper}
end
theorem qI{y:Cx}(l:y.ok) o:y.le { y with w:=y.w.alloc o,S:=λb=>y.S b∨b=y.w.heap.size } ∧ ({ y with w:=y.w.alloc o,S:=λb=>y.S b∨b=y.w.heap.size } : Cx).ok:=by
 have q:y.le { y with w:=y.w.alloc o,S:=λb=>y.S b∨b=y.w.heap.size }:=
  ⟨by simp,rfl,rfl,rfl,λb m=>Below.heap_alloc _ _ _ (m.elim (l.S_lt b) (l.F_lt b)),λb h=>.inl h,rfl,q9 _,λid C h _=>⟨C,h,rfl,rfl,rfl⟩,λid C h A _ _=>⟨C,h,A,rfl,rfl,rfl,rfl⟩⟩
 have hsz:∀o:Obj,(y.w.alloc o).heap.size=y.w.heap.size+1:=λo=>World.size_alloc _ _
 refine⟨q,λb m=>?_,λb m=>?_,λb m A=>?_,λid w h=>?_,λid w b k E F=>?_,l.inj,l.extOf (y:={ y with w:=y.w.alloc o,S:=λb=>y.S b∨b=y.w.heap.size }) (λid o h=>⟨o,h⟩) rfl rfl (by show _≤(y.w.alloc o).heap.size;rw[hsz];omega) (λid o b k h B I=>I.elim (l.own' id o b k h B).2.1 λe=>by have:=(l.own' id o b k h B).1;omega) (λid o b k h B=>(l.own' id o b k h B).2.2),l.tabs.le q⟩
 ·show b<(y.w.alloc o).heap.size
  rw[hsz]
  rcases m with m | m
  ·have:=l.S_lt b m;omega
  ·omega
 ·show b<(y.w.alloc o).heap.size
  rw[hsz];have:=l.F_lt b m;omega
 ·rcases m with m | m
  ·exact l.SF b m A
  ·have:=l.F_lt b A;omega
 ·obtain⟨E,F⟩:=l.obj id w h
  exact⟨E,F.mono q (λb k m=>Below.heap_alloc _ _ _ (l.own id w b k h m).1) λj b k m=>Below.heap_alloc _ _ _ (l.own' id w b k h (.inr ⟨j,m⟩)).1⟩
 ·have:=l.own id w b k E F
  refine⟨by show b<(y.w.alloc o).heap.size;rw[hsz];omega,λm=>?_,this.2.2⟩
  rcases m with m | m
  ·exact this.2.1 m
  ·omega
section
variable{P:Program}{s:St}
def MW:Aj→Bool
 | []=>true
 | (_,some o)::r=>!o.isCal&&MW r
 | (_,none)::r=>MW r
theorem pu{h}(l:MW h=true){id}{o:Af}(j:hget h id=some o):o.isCal=false := by
  induction h with
  | nil => cases j
  | cons p r m =>
    obtain⟨d, v⟩ := p
    rw[BY] at j
    cases v with
    | none => split at j
              · cases j
              · exact m l j
    | some q =>
      simp only[MW, rF, sB] at l
      split at j
      · cases j;exact l.1
      · exact m l.2 j
end
section
variable{P:Program}{ops:Array Oper}{Q:Exit→Act→World→Prop}{md:Region.Mode}
end
end Go.Proofs.YtifgmfoihehlbaaGreatDoor.Al

namespace Go.Proofs.YtifgmfoihehlbaaGreatDoor.Al
open Go.RowKit
def RV.scal:RV→Bool
 | .int _ _=>true
 | .bool _=>true
 | .str _=>true
 | _=>false
theorem kS{w w'}{S S'}{d:RV}{v}(h:d.scal=true)(j:BG w S d v):BG w' S' d v:=by
 cases j with
 | int k n=>exact .int k n
 | bool b=>exact .bool b
 | str s=>exact .str s
 | _=>simp[RV.scal] at h
theorem PN.mono{P}{b}{us}{w}{Q Q'}(h:PN P b us w Q)(l:∀e w',Q e w'→Q' e w'):PN P b us w Q':=
 let ⟨f,t,j,m,q,A⟩:=h
 ⟨f,t,j,m,q,A.mono l⟩
open Classical in
theorem ZO{x:Cx}(w:x.ok){id g}{W:E8}{ys}{y:List RV}{c}(m:x.H id=some (.cal g W ys))(hA:W.A (ys++[y])=some c){us:Array Value}(X:us.size=y.length)
 (Z:∀(i:Nat) (d:RV) (u:Value), y[i]?=some d→us[i]?=some u→BG x.w (λ_ => False) d u) {v} (F:AX x (.yld id g) v) :
    ∃b, v=.func (.yield b) #[] #[]∧PN W.P b us x.w λe w' => e=.returned (.bool c)∧∃z:Cx, z.w=w'∧x.le z∧z.ok∧z.H=(λi => if id=i then some (.cal g W (ys++[y])) else x.H i)∧z.n=x.n := by
  obtain⟨hg, κs, A, O, h3, T, h5⟩ := w.obj id _ m
  cases F with
  | yld _ _ F =>
    obtain⟨b', cap, I, k2⟩ := F _ m rfl
    rw[A] at I
    simp only[rE, rJ] at I
    obtain⟨rfl, rfl⟩ := I
    refine⟨W.b, k2, (O.round ys y c x.w κs us hA h3 X Z).mono λe w' ⟨he, U, hJ, V, J, ht, ho, M, hκ⟩ => ⟨he, ?_⟩⟩
    have B := Jo w id (.cal g W (ys++[y])) w' (x.β id) (λj => if U j then some (j, 0) else none) x.n V J ht ho
      (λd hd C => M d hd (λe => C _ m (.inl ⟨1, by rw[e];exact A⟩)) λhk => C _ m (.inr (T d hk)))
      (λd k q => by
        rw[A] at q
        simp only[rE, rJ] at q
        obtain⟨rfl, rfl⟩ := q
        exact⟨rD (w.own id _ W.b 1 m A).1 V, .inr ⟨_, m, .inl ⟨1, A⟩⟩⟩)
      (λj d k q => by
        split at q
        · rename_i hj
          simp only[rE, rJ] at q
          obtain⟨rfl, rfl⟩ := q
          obtain⟨E, e2, e3⟩ := hκ j hj
          refine⟨⟨e2, ?_⟩, λk' l => ?_, λj' k' l => ?_⟩
          · rcases E with E | E
            · exact .inr ⟨_, m, .inr (T j E)⟩
            · exact .inl E
          · rw[A] at l
            simp only[rE, rJ] at l
            exact e3 l.1.symm
          · split at l
            · simp only[rE, rJ] at l
              exact l.1
            · cases l
        · cases q)
      (q9 _) hg (λ_ => ⟨_, m, rfl, rfl, rfl⟩) (λhf => by cases hf)
      (λa0 => ⟨U, A, O, hJ, λd hd => ⟨d, 0, qy hd⟩, h5⟩)
    exact⟨_, rfl, B.1, B.2, rfl, rfl⟩
section
variable{P:Program}{ops:Array Oper}{rest:List Oper}{s:St}{K:St→Prop}{o:Oper}
theorem D4.stepC{d}{id g}{W:E8}{ys}{y:List RV}{c}{fo}{xs:Array Operand}{C}(hP:W.P=P)(hg:o.guard=none)(hd:o.dst=some d)(E:Nat.blt d s.N=true)
 (ho:o.op=.call { callee := .value fo, args := xs, argTypes := C }) (F:Ev true s.e fo (.yld id g)) (hx:OP true s.e xs.toList (y.map .r)) (I:y.all RV.scal=true) (hh:hget s.h id=some (.cal g W ys)) (hA:W.A (ys++[y])=some c)
 (hw:D4 P ops rest { e := (d, .r (.bool c))::s.e, h := (id, some (.cal g W (ys++[y])))::s.h, n := s.n, N := s.N } K):D4 P ops (o::rest) s K := by
  intro c0 a w ⟨ds, l, hsz, x, J, M, O, hH, hn, T⟩ Q m hQ
  subst J
  refine wpListIn_plain hg λK' U => ?_
  obtain⟨V, X⟩ := hx.rep rfl T
  have Z:(xs.map a.eval).size=y.length := by
    simp only[Array.size_map]
    simpa using V.symm
  obtain⟨b, hv, f, t, a7, bd, q, j⟩ := ZO O (by rw[hH];exact hh) hA Z (λi d u h1 h2 => by
    have h3 := X i (.r d) u (by rw[rG, h1];rfl) (by simpa using h2)
    cases h3 with
    | r h3 => exact kS (rZ.1 I d (rX h1)) h3) (F.rep T rfl)
  subst hP
  refine⟨λ_ _ => trivial, ?_⟩
  rw[show(zF none).round=none from rfl, Oper.semAt_none, eh ho hv, q]
  refine⟨λe => (by cases e), j.mono λe w' ⟨he', z, a0, A, B, a1, a2⟩ => ?_⟩
  subst he'
  subst a0
  refine U _ _ ?_
  rw[hd]
  have a6:d<a.tmps.size := by rw[hsz];exact DL E
  refine hw c0 (a.put (some d) (.bool c)) z.w ⟨ds, by simpa[Act.put] using l, by simpa[Act.put] using hsz, z, rfl, M.trans A, B, ?_, by rw[a2, hn], (T.mono A).put a6 (.r (.bool c))⟩ Q m hQ
  rw[a1]
  funext i
  rw[BY, hH]
end
end Go.Proofs.YtifgmfoihehlbaaGreatDoor.Al

namespace Go.Proofs.YtifgmfoihehlbaaGreatDoor.Al
open Go.RowKit
theorem AX.fence{x}(B:Nat→Prop){a}{v}(h:AX x a v):AX { x with F:=B } a v:=by
 induction h with
 | r h=>exact .r h
 | agg q _ m=>exact .agg q m
 | tup q _ m=>exact .tup q m
 | own hg j l=>exact .own hg j l
 | pre hg j l=>exact .pre hg j l
 | ptr hg j l=>exact .ptr hg j l
 | mref hg j l=>exact .mref hg j l
 | yld hg j l=>exact .yld hg j l
 | pk hg w j l=>exact .pk hg w j l
 | fo hg w j l=>exact .fo hg w j l
 | full h C=>exact .full h C
 | rop u E F I=>exact .rop u E F I
 | fn q _ m=>exact .fn q m
 | cst v=>exact .cst v
 | whn _ A m=>exact .whn m A
 | ifc j h A=>exact .ifc j h A
 | any v=>exact .any v
theorem Ci.fence{x}(B:Nat→Prop){β}{κ}{o}(h:Ci x β κ o):Ci { x with F:=B } β κ o:=by
 cases o with
 | box g e cs=>
  obtain⟨b,F,q,w,A,C⟩:=h
  exact⟨b,F,q,w,A,λj c X=>let ⟨u,I,J,Z⟩:=C j c X;⟨u,I,J,Z.fence B⟩⟩
 | hot g e xs k id g'=>
  obtain⟨h0,q,M,O,w,A,C,u,E,T⟩:=h
  exact⟨h0,q,M,O,w,A,C,u,E,T.fence B⟩
 | mp g ks vs clock=>
  obtain⟨b,O,q,w,A,C,E⟩:=h
  exact⟨b,O,q,w,A,C,λj c u I J=>(E j c u I J).fence B⟩
 | mi g U mg V seen last=>obtain⟨b,m,q,w,A⟩:=h;exact⟨b,m,q,w,A.fence B⟩
 | mj g U mg len seen=>obtain⟨b,m,q,w,A⟩:=h;exact⟨b,m,q,w,A.fence B⟩
 | lp g e N ps a b st p=>
  obtain⟨b,r,q,w,A,C,E,T,h7,h8,h9⟩:=h
  exact⟨b,r,q,w,A,C,E,T,h7,h8,λt=>(h9 t).fence B⟩
 | arr g e sz xs=>exact h
 | it g s pos=>exact h
 | md g l=>exact h
 | mb g v e l=>exact h
 | mr g v e sz hole l=>exact h
 | cal g W ys=>exact h
theorem Es.fence{x} j(h:Es x):Es { x with F:=j }:=h.same rfl λ_ h=>h
theorem Cx.ok.fence{x:Cx}(l:x.ok)(m:Nat→Prop)(C:∀b,m b→b<x.w.heap.size)(E:∀b,x.S b→¬ m b)(B:∀id o b k,x.H id=some o→x.atk id b k→¬ m b):({ x with F:=m } : Cx).ok:=
 ⟨l.S_lt,C,E,λid o h=>let ⟨q,w⟩:=l.obj id o h;⟨q,w.fence m⟩,λid o b k h A=>let ⟨q,w,_⟩:=l.own id o b k h A;⟨q,w,B id o b k h (.inl A)⟩,l.inj,
  λid o j b c h A=>let ⟨q,w,_,F,I⟩:=l.ext id o j b c h A;⟨q,w,B id o b c h (.inr ⟨j,A⟩),F,I⟩,l.tabs.fence m⟩
theorem Cx.ok.turn{x:Cx}(l:x.ok){w':World}(A:x.w.heap.size≤w'.heap.size)(F:w'.os=x.w.os)(I:w'.tape=x.w.tape)(hp:w'.output=x.w.output)
  (h:∀d,(x.S d∨x.F d∨∃id o k,x.H id=some o∧x.atk id d k)→w'.heap[d]?=x.w.heap[d]?):x.le { x with w:=w' } ∧ ({ x with w:=w' } : Cx).ok:=by
 have q:x.le { x with w:=w' }:=⟨A,F,I,hp,λb m=>h b (m.imp _root_.id .inl),λ_ h=>h,rfl,q9 _,λid o h _=>⟨o,h,rfl,rfl,rfl⟩,λid o h J _ _=>⟨o,h,J,rfl,rfl,rfl,rfl⟩⟩
 refine⟨q,λb m=>rD (l.S_lt b m) A,λb m=>rD (l.F_lt b m) A,l.SF,λid o w=>?_,λid o b k M O=>?_,l.inj,l.extOf (y:={ x with w:=w' }) (λid o h=>⟨o,h⟩) rfl rfl A (λid o b k h B=>(l.own' id o b k h B).2.1) (λid o b k h B=>(l.own' id o b k h B).2.2),l.tabs.le q⟩
 ·obtain⟨C,E⟩:=l.obj id o w
  exact⟨C,E.mono q (λb k m=>h b (.inr (.inr ⟨id,o,k,w,.inl m⟩))) λj b k m=>h b (.inr (.inr ⟨id,o,k,w,.inr ⟨j,m⟩⟩))⟩
 ·obtain⟨C,E,T⟩:=l.own id o b k M O
  exact⟨rD C A,E,T⟩
def Ed{σ:Type}(F:σ→List RV→Option σ):List (List RV)→σ→Option σ
 | [],j=>some j
 | y::l,j=>(F j y).bind (Ed F l)
theorem XK{σ:Type}(F:σ→List RV→Option σ) ys y(j:σ):Ed F (ys++[y]) j=(Ed F ys j).bind λs=>F s y:=by
 induction ys generalizing j with
 | nil=>simp[Ed]
 | cons a l m=>
  simp only[sc,Ed]
  cases F j a with
  | none=>rfl
  | some s=>simpa using m s
def Ie{σ:Type}(F:σ→List RV→Option σ)(j:σ)(ys:List (List RV)):Option Bool:=(Ed F ys j).map λ_=>true
def Qv{σ:Type}(pd:σ→Option Code)(F:σ→List RV→Option σ)(j:σ)(ys:List (List RV)):Option Bool:=(Ed F ys j).map λs=>(pd s).isNone
def IL(p:Option Code):LoopState:=if p.isNone then .ready else .done
def U4{σ:Type}(x:Cx)(lid b:Nat)(lp:σ→Af)(F:σ→List RV→Option σ)(st0:σ)(Hf:σ→(Nat→Nat)→Aj)(nf:(Nat→Nat)→Nat)(ys:List (List RV))(w:World)(κ:Nat→Prop):Prop:=
 ∃(z:Cx) (j:σ) (i:Nat→Nat),Ed F ys st0=some j∧z.w=w∧z.ok∧x.le z∧z.H=hget ((lid,some (lp j))::Hf j i)∧z.n=nf i∧z.β lid=some (b,1) ∧
  (∀id o d k,z.H id=some o→z.atk id d k→d=b∨κ d)∧∀d,z.S d→(x.S d∨x.F d)∨κ d
def UL{σ:Type}(P:Program)(x:Cx)(lid b:Nat)(lp:σ→Af)(pd:σ→Option Code)(F:σ→List RV→Option σ)(st0:σ)(Hf:σ→(Nat→Nat)→Aj)(nf:(Nat→Nat)→Nat):E8:=
 ⟨P,Qv pd F st0,b,λd=>x.S d∨x.F d,U4 x lid b lp F st0 Hf nf⟩
theorem dU{P:Program}{σ:Type}{x:Cx}{lid b g N:Nat}{e:As}{ps:List Nat}{asg bd:Code}{F:σ→List RV→Option σ}{st0:σ}{pd:σ→Option Code}{Hf:σ→(Nat→Nat)→Aj}{nf:(Nat→Nat)→Nat}(b4:∀d,x.F d→¬ x.S d)
  (hg:∀i,g<nf i) (aj:(ps.all λp=>Nat.blt p N)=true) (ak:(Ck asg&&Ck bd)=true)
  (V:∀st y l i,F st y=some l→pd st=none∧y.length=ps.length∧AW P asg (Jq P lid g bd λc h' n'=>c=(pd l).isNone∧∃i',(∀id o,hget ((lid,some (.lp g e N ps asg bd (IL (pd l)) (pd l)))::Hf l i') id=some o→hget h' id=some o)∧n'≤nf i')
   ⟨NH ps (y.map .r) e,(lid,some (.lp g e N ps asg bd .ready none))::Hf st i,nf i,N⟩) :
  W5 (UL P x lid b (λs=>.lp g e N ps asg bd (IL (pd s)) (pd s)) pd F st0 Hf nf):=by
 let S:Nat→Prop:=λd=>x.S d∨x.F d
 have h9:∀d,S d↔x.S d∨x.F d:=λd=>Iff.rfl
 constructor
 ·rintro ys w w' κ ⟨z,st,i,X,rfl,U,h3,h4,h5,h6,h7,h8⟩ B J ht hp a6
  obtain⟨k1,k2⟩:=U.turn B J ht hp (λd hd=>by
   refine a6 d ?_
   rcases hd with hd | hd | ⟨id,o,k,E,M⟩
   ·exact(h8 d hd).elim (λh=>.inr (.inr h)) λh=>.inr (.inl h)
   ·rw[h3.F] at hd
    exact .inr (.inr ((h9 d).2 (.inr hd)))
   ·exact(h7 id o d k E M).imp _root_.id .inl)
  exact⟨{ z with w:=w' },st,i,X,rfl,k2,h3.trans k1,h4,h5,h6,h7,h8⟩
 ·rintro ys y c w κ Z hA ⟨z,st,i,X,rfl,U,h3,h4,h5,h6,h7,h8⟩ hl hr
  have h8:∀d,z.S d→S d∨κ d:=h8
  simp only[UL,Qv,XK,X,rt,rK] at hA
  obtain⟨l,ad,rfl⟩:=hA
  obtain⟨al,a7,hw⟩:=V st y l i ad
  simp only[al] at h4
  have h4:z.H=hget ((lid,some (.lp g e N ps asg bd .ready none))::Hf st i):=h4
  let own:Nat→Prop:=λd=>∃id o k,z.H id=some o∧z.atk id d k
  let z2:Cx:={ z with F:=λd=>d<z.w.heap.size∧¬ z.S d∧¬ own d }
  have an:z2.ok:=U.fence _ (λb hb=>hb.1) (λb hb I=>I.2.1 hb) λid o b k h ha I=>I.2.2 ⟨id,o,k,h,ha⟩
  have ao:z.H lid=some (.lp g e N ps asg bd .ready none):=by rw[h4,BY,qy rfl]
  obtain⟨_,b',r,m1,m2,m3,m4,m5,m6,m7,m8,m9⟩:=U.obj lid _ ao
  rw[h6] at m1
  simp only[rE,rJ,uH] at m1
  obtain⟨rfl⟩:=m1
  have aq:Z.size=r.params.size:=by rw[m3,hl,a7];simp
  have a8:((r.params.zip Z).foldl (λtmps (x:Nat × Value)=>tmps.setIfInBounds x.1 x.2) r.tmps)=(ps.zip Z.toList).foldl (λt (p:Nat × Value)=>t.setIfInBounds p.1 p.2) r.tmps:=by
   rw[m3,← Array.foldl_toList]
   simp
  have ar:∀(j:Nat) (a:AV) (u:Value),(y.map AV.r)[j]?=some a→Z.toList[j]?=some u→AX z2 a u:=by
   intro j a u X U
   rw[rG,rK] at X
   obtain⟨d,X,rfl⟩:=X
   exact .r ((hr j d u X (by simpa using U)).mono (λb hb=>hb.elim) λb hb=>hb.elim)
  obtain⟨k1,k2⟩:=Xk (x:=z2) ps (y.map .r) Z.toList e r.tmps (by simpa using a7) (by simpa using hl.trans a7) ar (λp hp=>by rw[m8];exact DL (rZ.1 aj p hp)) (λt=>(m9 t).fence _)
  have ae:Ck asg=true∧Ck bd=true:=by simpa using ak
  have hR:=ff (z:=z2) (f:=r.fn) (b:=b) (tmps:=(ps.zip Z.toList).foldl (λt (p:Nat × Value)=>t.setIfInBounds p.1 p.2) r.tmps) an h4 h5 (by rw[BY,qy rfl]) h6 m2 ⟨m3,m4,m5,m6,m7⟩ (by rw[k1];exact m8) k2 ae hw
  have af:=run_yield (P:=P) (args:=Z) m2 aq
  refine⟨_,_,_,_,af,?_⟩
  rw[m4,m5]
  have a0:(r.params.zip Z).foldl (λtmps (x:Tmp × Value)=>match x with | (t,a)=>tmps.setIfInBounds t a) r.tmps=(ps.zip Z.toList).foldl (λt (p:Nat × Value)=>t.setIfInBounds p.1 p.2) r.tmps:=a8
  rw[a0]
  refine hR.mono λe' w' ⟨c,y',h',n',he',au,m,O,av,aw,ax,i',ag,ay⟩=>⟨by rw[he',ax],?_⟩
  subst au
  obtain⟨f1,f2⟩:=Pi O (hget ((lid,some (.lp g e N ps asg bd (IL (pd l)) (pd l)))::Hf l i')) (λid o J=>by rw[av];exact ag id o J) (nf i') (by rw[aw];exact ay)
  have a1:y'.F=z2.F:=m.F
  have aa:∀d,z.F d→z2.F d:=λd hd=>⟨U.F_lt d hd,λB=>U.SF d B hd,λ⟨id,o,k,E,M⟩=>(U.own' id o d k E M).2.2 hd⟩
  let z':Cx:={ y' with F:=z.F,H:=hget ((lid,some (.lp g e N ps asg bd (IL (pd l)) (pd l)))::Hf l i'),n:=nf i' }
  have ab:z'.ok:=f2.fence z.F (λd hd=>rD (U.F_lt d hd) m.size) (λd hd I=>O.SF d hd (by rw[a1];exact aa d I)) λid o d k h ha I=>(f2.own' id o d k h ha).2.2 (by show y'.F d;rw[a1];exact aa d I)
  have ah:z.le z':=by
   have A:=m.trans f1
   exact⟨A.size,A.os,A.tape,A.output,λd hd=>A.blk d (hd.imp _root_.id (aa d)),A.S,rfl,A.n,A.H,A.K⟩
  have ai:z'.β lid=some (b,1):=by
   obtain⟨o1,_,_,_,q⟩:=ah.H lid (.lp g e N ps asg bd (IL (pd l)) (pd l)) (show hget _ lid=_ by rw[BY,qy rfl]) (.inl (by show g<z.n;rw[h5];exact hg i))
   rw[q,h6]
  have az:z'.H lid=some (.lp g e N ps asg bd (IL (pd l)) (pd l)):=(show hget _ lid=_ by rw[BY,qy rfl])
  have a2:∀d,d<z.w.heap.size→¬ z2.F d→z.S d∨own d:=λd hd I=>by
   by_cases B:z.S d
   ·exact .inl B
   ·by_cases J:own d
    ·exact .inr J
    ·exact absurd ⟨hd,B,J⟩ I
  have C:∀d,own d→d=b∨κ d:=λd ⟨id,o,k,E,M⟩=>h7 id o d k E M
  refine⟨λd=>(∃id o k,z'.H id=some o∧z'.atk id d k∧d≠b)∨(z'.S d∧¬ S d),⟨z',l,i',by rw[XK,X];exact ad,rfl,ab,h3.trans ah,rfl,rfl,ai,λid o d k E M=>?_,λd hd=>?_⟩,m.size,m.os,m.tape,m.output,λd hd b0 hk=>?_,λd hd=>?_⟩
  ·by_cases T:d=b
   ·exact .inl T
   ·exact .inr (.inl ⟨id,o,k,E,M,T⟩)
  ·by_cases B:S d
   ·exact .inl B
   ·exact .inr (.inr ⟨hd,B⟩)
  ·refine m.blk d ?_
   by_cases B:z.S d
   ·exact .inl B
   ·refine .inr ⟨hd,B,λJ=>?_⟩
    exact(C d J).elim b0 hk
  ·rcases hd with ⟨id,o,k,E,M,e3⟩ | ⟨E,M⟩
   ·obtain⟨q1,q2,q3⟩:=f2.own' id o d k E M
    refine⟨?_,q1,e3⟩
    by_cases ac:d<z.w.heap.size
    ·left
     rcases a2 d ac (λI=>q3 (by show y'.F d;rw[a1];exact I)) with B | J
     ·exact absurd (m.S d B) q2
     ·exact(C d J).resolve_left e3
    ·right;omega
   ·have T:d≠b:=λe=>(ab.own lid _ b 1 az ai).2.1 (by rw[← e];exact E)
    refine⟨?_,ab.S_lt d E,T⟩
    by_cases ac:d<z.w.heap.size
    ·left
     rcases a2 d ac (λI=>O.SF d E (by rw[a1];exact I)) with B | J
     ·exact(h8 d B).resolve_left M
     ·exact(C d J).resolve_left T
    ·right;omega
end Go.Proofs.YtifgmfoihehlbaaGreatDoor.Al

namespace Go.Proofs.YtifgmfoihehlbaaGreatDoor.Al
open Go.RowKit
section
variable{x:Cx}(id0:Nat)(o0:Af)(β0:Option (Nat × Nat))(κ0:Nat→Option (Nat × Nat))(n':Nat)
def Cx.add(x:Cx):Cx:={ x with H:=λi=>if id0=i then some o0 else x.H i,β:=λi=>if id0=i then β0 else x.β i,K:=λi=>if id0=i then κ0 else x.K i,n:=n' }
theorem AX.add(hg:x.n≤o0.gen)(E:x.n≤n')(J:o0.isFam=false){a}{v}(h:AX x a v):AX (x.add id0 o0 β0 κ0 n') a v:=by
 induction h with
 | r h=>exact .r h
 | agg I _ F=>exact .agg I F
 | tup I _ F=>exact .tup I F
 | own l A B=>
  refine .own (rD l E) A λo j w=>?_
  dsimp only [Cx.add] at j ⊢
  split at j
  ·cases j;omega
  ·rename_i C;rw[qx C];exact B o j w
 | pre l A B=>
  refine .pre (rD l E) A λo j w=>?_
  dsimp only [Cx.add] at j ⊢
  split at j
  ·cases j;omega
  ·rename_i C;rw[qx C];exact B o j w
 | ptr l A B=>
  refine .ptr (rD l E) A λo j w=>?_
  dsimp only [Cx.add] at j ⊢
  split at j
  ·cases j;omega
  ·rename_i C;rw[qx C];exact B o j w
 | mref l A B=>
  refine .mref (rD l E) A λo j w=>?_
  dsimp only [Cx.add] at j ⊢
  split at j
  ·cases j;omega
  ·rename_i C;rw[qx C];exact B o j w
 | yld l A B=>
  refine .yld (rD l E) A λo j w=>?_
  dsimp only [Cx.add] at j ⊢
  split at j
  ·cases j;omega
  ·rename_i C;rw[qx C];exact B o j w
 | pk l M A B=>
  refine .pk (rD l E) (rD M E) A λo b c q m j w O T V U=>?_
  dsimp only [Cx.add] at j U
  split at j
  ·cases j;rw[J] at w;cases w
  ·rename_i C;rw[qx C] at U;exact B o b c q m j w O T V U
 | fo l M A B=>
  refine .fo (rD l E) (rD M E) A λo j w O T=>?_
  dsimp only [Cx.add] at j ⊢
  split at j
  ·cases j;rw[J] at w;cases w
  ·rename_i C;rw[qx C];exact B o j w O T
 | full h J=>exact .full h J
 | rop u X Z hr=>exact .rop u X Z hr
 | fn I _ F=>exact .fn I F
 | cst v=>exact .cst v
 | whn _ j F=>exact .whn F j
 | ifc A h j=>exact .ifc A h j
 | any v=>exact .any v
theorem Ci.add(hg:x.n≤o0.gen)(E:x.n≤n')(X:o0.isFam=false){β}{κ}{o}(h:Ci x β κ o):Ci (x.add id0 o0 β0 κ0 n') β κ o:=by
 have hA:∀ {a:AV} {v:Value},AX x a v→AX (x.add id0 o0 β0 κ0 n') a v:=λh=>h.add id0 o0 β0 κ0 n' hg E X
 cases o with
 | box g e cs=>
  obtain⟨b,F,q,w,A,B⟩:=h
  exact⟨b,F,q,w,A,λj c Z=>let ⟨u,I,J,k3⟩:=B j c Z;⟨u,I,J,hA k3⟩⟩
 | hot g e xs k id g'=>
  obtain⟨h0,q,M,O,w,A,B,u,C,T⟩:=h
  exact⟨h0,q,M,O,w,A,B,u,C,hA T⟩
 | mp g ks vs clock=>
  obtain⟨b,O,q,w,A,B,C⟩:=h
  exact⟨b,O,q,w,A,B,λj c u I J=>hA (C j c u I J)⟩
 | mi g U mg V seen last=>obtain⟨b,m,q,w,A⟩:=h;exact⟨b,m,q,w,hA A⟩
 | mj g U mg len seen=>obtain⟨b,m,q,w,A⟩:=h;exact⟨b,m,q,w,hA A⟩
 | lp g e N ps a b st p=>
  obtain⟨b,r,q,w,A,B,C,T,h7,h8,h9⟩:=h
  exact⟨b,r,q,w,A,B,C,T,h7,h8,λt=>hA (h9 t)⟩
 | arr g e sz xs=>exact h
 | it g s pos=>exact h
 | md g l=>exact h
 | mb g v e l=>exact⟨rD h.1 E,h.2⟩
 | mr g v e sz hole l=>exact⟨h.1,rD h.2.1 E,h.2.2⟩
 | cal g W ys=>exact h
theorem Cx.ok.add(C:x.ok)(hg:x.n≤o0.gen)(a0:o0.gen<n')(hf:o0.isFam=false)(hβ:∀b k,β0=some (b,k)→b<x.w.heap.size∧¬ x.S b∧¬ x.F b∧∀id o I,x.H id=some o→x.atk id b I→False)
  (hκ:∀j b k,κ0 j=some (b,k)→(b<x.w.heap.size∧¬ x.S b∧¬ x.F b∧∀id o I,x.H id=some o→x.atk id b I→False)∧(∀I,β0=some (b,I)→False)∧∀U I,κ0 U=some (b,I)→U=j)
  (Z:Ci (x.add id0 o0 β0 κ0 n') β0 κ0 o0):(x.add id0 o0 β0 κ0 n').ok:=by
 have hn:x.n≤n':=by omega
 have q:∀ {i:Nat} {o:Af},(x.add id0 o0 β0 κ0 n').H i=some o→id0≠i→x.H i=some o:=λh w=>by dsimp only [Cx.add] at h;rwa [qx w] at h
 have E:∀i,id0≠i→(x.add id0 o0 β0 κ0 n').β i=x.β i:=λi w=>qx w
 have O:∀i,id0≠i→(x.add id0 o0 β0 κ0 n').K i=x.K i:=λi w=>qx w
 have F:(x.add id0 o0 β0 κ0 n').β id0=β0:=qy rfl
 have T:(x.add id0 o0 β0 κ0 n').K id0=κ0:=qy rfl
 refine⟨C.S_lt,C.F_lt,C.SF,λi o h=>?_,λi o b k h B=>?_,λi A o J b k I h M B l=>?_,λi o j b c h B=>?_,C.tabs.same rfl λ_ h=>h⟩
 ·by_cases w:id0=i
  ·subst w
   have:(x.add id0 o0 β0 κ0 n').H id0=some o0:=qy rfl
   rw[this] at h;cases h
   rw[F,T]
   exact⟨a0,Z⟩
  ·obtain⟨V,X⟩:=C.obj i o (q h w)
   rw[E i w,O i w]
   exact⟨rD V hn,X.add id0 o0 β0 κ0 n' hg hn hf⟩
 ·by_cases w:id0=i
  ·subst w
   rw[F] at B
   obtain⟨V,X,k3,_⟩:=hβ b k B
   exact⟨V,X,k3⟩
  ·rw[E i w] at B
   exact C.own i o b k (q h w) B
 ·by_cases w:id0=i<;>by_cases m:id0=A
  ·rw[← w,← m]
  ·subst w
   rw[F] at B;rw[E A m] at l
   exact((hβ b k B).2.2.2 A J I (q M m) (.inl l)).elim
  ·subst m
   rw[F] at l;rw[E i w] at B
   exact((hβ b I l).2.2.2 i o k (q h w) (.inl B)).elim
  ·rw[E i w] at B;rw[E A m] at l
   exact C.inj i A o J b k I (q h w) (q M m) B l
 ·by_cases w:id0=i
  ·subst w
   rw[T] at B
   obtain⟨⟨V,X,k3,k4⟩,k5,k6⟩:=hκ j b c B
   refine⟨V,X,k3,λA J k M l=>?_,λA J U c' M l=>?_⟩
   ·by_cases m:id0=A
    ·subst m;rw[F] at l;exact k5 k l
    ·rw[E A m] at l;exact k4 A J k (q M m) (.inl l)
   ·by_cases m:id0=A
    ·subst m;rw[T] at l;exact⟨rfl,k6 U c' l⟩
    ·rw[O A m] at l;exact(k4 A J c' (q M m) (.inr ⟨U,l⟩)).elim
  ·rw[O i w] at B
   obtain⟨V,X,k3,k4,k5⟩:=C.ext i o j b c (q h w) B
   refine⟨V,X,k3,λA J k M l=>?_,λA J U c' M l=>?_⟩
   ·by_cases m:id0=A
    ·subst m;rw[F] at l;exact(hβ b k l).2.2.2 i o c (q h w) (.inr ⟨j,B⟩)
    ·rw[E A m] at l;exact k4 A J k (q M m) l
   ·by_cases m:id0=A
    ·subst m;rw[T] at l;exact((hκ U b c' l).1.2.2.2 i o c (q h w) (.inr ⟨j,B⟩)).elim
    ·rw[O A m] at l;exact k5 A J U c' (q M m) l
end
end Go.Proofs.YtifgmfoihehlbaaGreatDoor.Al

namespace Go.Proofs.YtifgmfoihehlbaaGreatDoor.Al
open Go.RowKit
section
variable{P:Program}{s:St}
open Classical in
theorem qR{σ:Type}{g:Operand}{ps:Array Tmp}{asg bd:Code}{Q:Exit→St→Prop}{f:FuncId}{caps:List AV}{L:List Nat}{hB:Aj}{Post:E8→AV→Aj→Prop}(lid:Nat)(pd:σ→Option Code)(F:σ→List RV→Option σ)(st0:σ)(Hf:σ→(Nat→Nat)→Aj)(nf:(Nat→Nat)→Nat)(U:Nat→Nat)
  (br:BT s.e g=.fn f (EN (lid::L) caps)) (bs:FH (L.length+1) caps=true) (a8:FY s.h (lid::L) hB) (cr:hget hB 1000=none) (bt:(lid::L).Nodup) (bu:MW s.h=true)
  (ao:KC (Hf st0 U) s.h) (aq:∀j∈lid::L,hget (Hf st0 U) j=none) (ae:∀st i,hget (Hf st i) lid=none) (bv:s.n+1≤nf U) (hg:∀i,s.n<nf i) (bw:(ps.toList.all λp=>Nat.blt p s.N)=true) (ar:(Ck asg&&Ck bd)=true)
  (au:∀W:E8,W.P=P→W.A=Qv pd F st0→BC P f (L.length+1) (.yld 1000 s.n::caps) ((1000,some (.cal s.n W []))::hB) (Post W))
  (av:pd st0=none)
  (aa:∀st y st' i,F st y=some st'→pd st=none∧y.length=ps.toList.length∧AW P asg (Jq P lid s.n bd λc h' n'=>c=(pd st').isNone∧∃i',(∀id o,hget ((lid,some (.lp s.n s.e s.N ps.toList asg bd (IL (pd st')) (pd st')))::Hf st' i') id=some o→hget h' id=some o)∧n'≤nf i')
   ⟨NH ps.toList (y.map .r) s.e,(lid,some (.lp s.n s.e s.N ps.toList asg bd .ready none))::Hf st i,nf i,s.N⟩)
  (bx : ∃ fn, P.funcs[f]? = some fn ∧ fn.body.isNone = false ∧ (fn.name == "runtime.NumGoroutine") = false)
  (af:∀W r h',W.A=Qv pd F st0→Post W r h'→∃ys C,hget h' 1000=some (.cal s.n W ys)∧Ed F ys st0=some C∧∀i,match pd C with
   | none=>Q .normal ⟨s.e,Hf C i,nf i,s.N⟩
   | some c=>AW P c Q ⟨s.e,Hf C i,nf i,s.N⟩) :
  AW P (.rangeFunc g ps asg bd) Q s:=by
 intro z hz c0 a w ⟨ds,aw,hsz,y,bz,V,ax,hH,hn,he⟩
 have c2:z=none:=hz.resolve_right (by simp[Ck])
 subst c2
 subst bz
 obtain⟨fn,hf,ac,ag⟩:=bx
 obtain⟨code,c3⟩:∃code,fn.body=some code:=by
  cases h:fn.body with
  | none=>rw[h] at ac;cases ac
  | some c=>exact⟨c,rfl⟩
 have X:=he.eval g
 rw[br] at X
 generalize ay:a.eval g=gv at X
 cases X with
 | @fn _ _ us az c4=>
 refine wpIn_rangeFunc λb0 _=>?_
 obtain⟨q1,q2⟩:=qI ax (.deferred (some []))
 let lp:Af:=.lp s.n s.e s.N ps.toList asg bd .ready none
 have b4:∀r:Loop,r.params=ps→r.assign=asg→r.body=bd→r.state=.ready→r.pending=none→r.tmps=a.tmps →
   ∃z:Cx,z.w=(y.w.alloc (.deferred (some []))).alloc (.loop r)∧y.le z∧z.ok∧z.H=hget ((lid,some lp)::s.h)∧z.n=s.n+1∧z.S y.w.heap.size∧z.β lid=some (y.w.heap.size+1,1) ∧
    (∀d,z.S d↔y.S d∨d=y.w.heap.size)∧z.F=y.F∧(∀i,i≠lid→z.β i=y.β i∧z.K i=y.K i)∧∀j,z.K lid j=none:=by
  intro r T e2 e3 e4 e5 e6
  have b5:=EY q2 lid lp ((y.w.alloc (.deferred (some []))).alloc (.loop r)) (some (y.w.heap.size+1,1)) (s.n+1) (by simp) rfl rfl rfl
   (λc hc _=>Below.heap_alloc _ _ _ hc) (λc k hc=>by
    simp only[rE,rJ] at hc
    obtain⟨rfl,rfl⟩:=hc
    exact⟨by simp,.inl (by simp)⟩) (by show y.n≤s.n+1;omega) (tA _) (λah=>by
     have:s.n<y.n:=ah
     omega)
   (λb6=>⟨y.w.heap.size+1,r,rfl,by
    have:=World.alloc_heap_new (y.w.alloc (.deferred (some []))) (.loop r)
    rwa [World.size_alloc] at this,by simp[T],e2,e3,e4,e5,by rw[e6];exact hsz,λt=>by rw[e6];exact((he t).mono q1).mono b6⟩)
  refine⟨_,rfl,q1.trans b5.1,b5.2,?_,rfl,.inr rfl,by simp,λd=>Iff.rfl,rfl,λi E=>⟨qx λe=>E e.symm,qx λe=>E e.symm⟩,λj=>by simp⟩
  funext i
  simp only[BY]
  rw[hH]
 obtain⟨r,hr⟩:∃r:Loop,r = { state:=.ready,pending:=none,fn:=b0,tmps:=a.tmps,params:=ps,assign:=asg,body:=bd,defers:=y.w.heap.size }:=⟨_,rfl⟩
 obtain⟨x,A,c5,ad,ai,c6,b7,b8,b9,c7,c8,c9⟩:=b4 r (by rw[hr]) (by rw[hr]) (by rw[hr]) (by rw[hr]) (by rw[hr]) (by rw[hr])
 have cs:x.H lid=some lp:=by rw[ai,BY,qy rfl]
 have ca:x.w.heap[y.w.heap.size]?=some (.deferred (some [])):=by
  rw[A];exact(Below.heap_alloc _ _ _ (by simp)).trans (World.alloc_heap_new _ _)
 let q:Cx:={ y with w:=y.w.alloc (.deferred (some [])),S:=λb=>y.S b∨b=y.w.heap.size }
 obtain⟨t1,t2⟩:=Cx.ok.turn (x:=q) q2 (w':=x.w) (by rw[A];simp[q]) (by rw[A];rfl) (by rw[A];rfl) (by rw[A];rfl) (λd hd=>by
  have ah:d<q.w.heap.size:=by
   rcases hd with hd | hd | ⟨id,o,k,T,e2⟩
   ·exact q2.S_lt d hd
   ·exact q2.F_lt d hd
   ·exact(q2.own' id o d k T e2).1
  rw[A];exact Below.heap_alloc _ _ _ ah)
 let m:Cx:={ q with w:=x.w }
 have cb:y.le m:=q1.trans t1
 have cp:q.w.heap.size=y.w.heap.size+1:=World.size_alloc _ _
 have cq:x.w.heap.size=y.w.heap.size+2:=by rw[A];simp
 have ba:(m.view (lid::L) hB).ok:=Sn (z:=m) t2 hH a8 bt
 have cc:=ba.fence (λ_=>False) (λb h=>h.elim) (λb _ h=>h.elim) (λid o b k _ _ h=>h.elim)
 have cd:∀id o b k,(m.view (lid::L) hB).H id=some o→(m.view (lid::L) hB).atk id b k→¬ (m.S b∨m.F b):=λid o b k h l hs=>by
  obtain⟨_,k2,k3⟩:=ba.own' id o b k h l
  exact hs.elim k2 λh=>k3 (.inl h)
 obtain⟨r1,r2⟩:=Ud cc (λb=>m.S b∨m.F b) (hget hB) m.n (q9 _) (λb h=>.inl h) (λb h=>h.elim (t2.S_lt b) (t2.F_lt b)) (λb _ h=>h) (λid o h=>⟨o,h,rfl,rfl,λb k l=>cd id o b k h l,λ_=>rfl,λ_ h=>h⟩)
 let v3:Cx:={ m.view (lid::L) hB with F:=λ_=>False,S:=λb=>m.S b∨m.F b,H:=hget hB,n:=m.n }
 have r2:v3.ok:=r2
 let κ0:Nat→Prop:=λd=>∃id o k,id ∉ lid::L∧m.H id=some o∧m.atk id d k
 let S0:Nat→Prop:=λd=>x.S d∨x.F d
 let Z:σ→Af:=λs1=>.lp s.n s.e s.N ps.toList asg bd (IL (pd s1)) (pd s1)
 have bb:Z st0=lp:=by simp only[Z,av];rfl
 let W:E8:=UL P x lid (y.w.heap.size+1) Z pd F st0 Hf nf
 have cf:∀d,S0 d↔v3.S d:=λd=>by
  show x.S d∨x.F d↔(y.S d∨d=y.w.heap.size)∨y.F d
  rw[b9,c7]
 have aj:y.w.heap.size+1<x.w.heap.size∧¬ v3.S (y.w.heap.size+1)∧¬ v3.F (y.w.heap.size+1)∧∀id o k',v3.H id=some o→v3.atk id (y.w.heap.size+1) k'→False:=by
  have bc:∀d,m.S d∨m.F d→d<y.w.heap.size+1:=λd hd=>by
   have:d<q.w.heap.size:=hd.elim (q2.S_lt d) (q2.F_lt d)
   omega
  refine⟨by omega,λh=>by have:=bc _ h;omega,λh=>h,λid o k' h l=>?_⟩
  obtain⟨_,_,h3,_⟩:=a8.get h
  have:y.w.heap.size+1<q.w.heap.size:=(q2.own' (CF (lid::L) id) _ _ k' (show y.H _=_ by rw[hH];exact h3) l).1
  omega
 have be:=dU (P:=P) (x:=x) (lid:=lid) (b:=y.w.heap.size+1) (g:=s.n) (N:=s.N) (e:=s.e) (ps:=ps.toList) (asg:=asg) (bd:=bd) (F:=F) (st0:=st0) (pd:=pd) (Hf:=Hf) (nf:=nf) (λd I h2=>ad.SF d h2 I) hg bw ar aa
 have cg:U4 x lid (y.w.heap.size+1) Z F st0 Hf nf [] x.w κ0:=by
  have a0:∀id o,hget ((lid,some lp)::Hf st0 U) id=some o→x.H id=some o:=λid o B=>by
   rw[BY] at B
   rw[ai,BY]
   split at B
   ·rename_i E;rw[qy E];exact B
   ·rename_i E;rw[qx E]
    rcases ao.get id with T | T
    ·rw[T] at B;cases B
    ·rw[← T];exact B
  obtain⟨f1,f2⟩:=Pi ad (hget ((lid,some lp)::Hf st0 U)) a0 (nf U) (by rw[c6];exact bv)
  refine⟨{ x with H:=hget ((lid,some lp)::Hf st0 U),n:=nf U },st0,U,rfl,rfl,f2,f1,by rw[bb],rfl,b8,λid o d k B l=>?_,λd hd=>.inl (.inl hd)⟩
  by_cases E:id=lid
  ·subst E
   left
   rcases l with l | ⟨j,l⟩
   ·have l:x.β id=some (d,k):=l
    rw[b8] at l
    simp only[rE,rJ] at l
    exact l.1.symm
   ·have l:x.K id j=some (d,k):=l
    rw[c9] at l;cases l
  ·right
   have hx:=a0 id o B
   have ch:y.H id=some o:=by rw[ai,BY,qx λe=>E e.symm] at hx;rw[hH];exact hx
   refine⟨id,o,k,λhm=>?_,ch,?_⟩
   ·have:=aq id hm
    have bf:hget (Hf st0 U) id=some o:=by have B:hget ((lid,some lp)::Hf st0 U) id=some o:=B;rwa [BY,qx λe=>E e.symm] at B
    rw[this] at bf;cases bf
   ·have I:=c8 id E
    rcases l with l | ⟨j,l⟩
    ·exact .inl (by have l:x.β id=some (d,k):=l;rwa [I.1] at l)
    ·exact .inr ⟨j,by have l:x.K id j=some (d,k):=l;rwa [I.2] at l⟩
 have bg:∀d,κ0 d→d<y.w.heap.size+1∧¬ v3.S d∧¬ v3.F d∧∀id o k',v3.H id=some o→v3.atk id d k'→False:=λd ⟨id,o,k,T,e2,e3⟩=>by
  obtain⟨k1,k2,k3⟩:=q2.own' id o d k e2 e3
  have k1:d<q.w.heap.size:=k1
  refine⟨by omega,λh=>h.elim k2 k3,λh=>h,λid' o' k' h' cj=>?_⟩
  obtain⟨I,h2,h3,_⟩:=a8.get h'
  have:=q2.inj' (id:=id) (id':=CF (lid::L) id') e2 (show y.H _=_ by rw[hH];exact h3) e3 cj
  exact T (this ▸ Qw I h2)
 have hv:=r2.add 1000 (.cal s.n W []) (some (y.w.heap.size+1,1)) (λj=>if κ0 j then some (j,0) else none) (s.n+1) (by show y.n≤s.n;omega) (tA _) rfl
  (λb k hb=>by
   simp only[rE,rJ] at hb
   obtain⟨rfl,rfl⟩:=hb
   exact aj)
  (λj d k hb=>by
   split at hb
   ·rename_i hj
    simp only[rE,rJ] at hb
    obtain⟨rfl,rfl⟩:=hb
    obtain⟨k1,k2,k3,k4⟩:=bg j hj
    refine⟨⟨by show j<x.w.heap.size;omega,k2,k3,k4⟩,λk' J=>?_,λj' k' J=>?_⟩
    ·simp only[rE,rJ] at J
     omega
    ·split at J
     ·simp only[rE,rJ] at J
      exact J.1
     ·cases J
   ·cases hb)
  ⟨κ0,rfl,be,cg,λd hd=>⟨d,0,qy hd⟩,λd hd=>(cf d).1 hd⟩
 obtain⟨v,M⟩:∃v:Cx,v=v3.add 1000 (.cal s.n W []) (some (y.w.heap.size+1,1)) (λj=>if κ0 j then some (j,0) else none) (s.n+1):=⟨_,rfl⟩
 rw[← M] at hv
 have ck:v.H=hget ((1000,some (.cal s.n W []))::hB):=by
  rw[M];funext i;rw[BY];rfl
 have cl:v.w=x.w:=by rw[M];rfl
 have ak:G4 v (.yld 1000 s.n::caps) (#[Value.func (.yield (y.w.heap.size+1)) #[] #[]]++us).toList:=by
  refine⟨by rw[GO] at az;simp[az],λi c u I h2=>?_⟩
  cases i with
  | zero=>
   simp only[List.getElem?_cons_zero,rE] at I
   have al:some (Value.func (.yield (y.w.heap.size+1)) #[] #[])=some u:=by simpa using h2
   cases al;subst I
   exact .yld (by rw[M];exact tA _) rfl λo B _=>⟨y.w.heap.size+1,1,by rw[M];simp[Cx.add],rfl⟩
  | succ i=>
   have al:us[i]?=some u:=by simpa[Array.getElem?_append] using h2
   have bh:caps[i]?=some c:=by simpa using I
   have h3:=(c4 i (ren (lid::L) c) u (by rw[G5,bh];rfl) al).mono cb
   have h4:AX (m.view (lid::L) hB) c u:=P4 (x:=m) (y:=m.view (lid::L) hB) (L:=lid::L) (k:=(lid::L).length) rfl (λ_ h=>h) (q9 _) (Pz hH a8) h3 c rfl (Gm bs bh)
   have h5:AX v3 c u:=(h4.fence λ_=>False).mono r1
   rw[M]
   exact h5.add 1000 _ _ _ _ (by show y.n≤s.n;omega) (by show y.n≤s.n+1;omega) rfl
 have ab:∀(args:Array Value) (w:World),(callFunc f args).run P w=.ok (.enter f args) w:=λargs w=>by
  simp only[callFunc,Sem.run_bind,run_program,Result.andThen_ok,hf,ag,c3]
  simp[Sem.run_pure]
 refine⟨y.w.heap.size+1,[{ target:=.collected y.w.heap.size,args:=#[] }],x.w,{ target:=.fn (.func f) us,args:=#[.func (.yield (y.w.heap.size+1)) #[] #[]] },x.w,f,
  #[.func (.yield (y.w.heap.size+1)) #[] #[]]++us,x.w,?_,?_,λ_ _=>trivial,?_,λe=>(by cases e),?_⟩
 ·rw[A,hr];exact run_enterLoop_outer _ _ _ _ _
 ·simp only[resolve,ay,Deferred.ofValue]
  simp[Act.eval,go_sem]
 ·simp[invoke,ab]
 ·have bi:=(au W rfl rfl).2 v _ hv ck ak
  rw[cl] at bi
  have cm:CallsIn (zF none) (0-1) P f (#[.func (.yield (y.w.heap.size+1)) #[] #[]]++us) x.w _:=callsIn_wide.2 bi
  refine cm.mono λe w' ⟨u,v',rv,h',he',bj,ct,bk,bl,_,_,_,hp⟩=>?_
  subst he'
  subst bj
  obtain⟨ys,C,an,a1,hQ⟩:=af _ _ _ rfl hp
  obtain⟨_,κ',m1,m2,⟨z,st,i,k1,k2,k3,k4,k5,k6,k7,k8,k9⟩,m4,m5⟩:=bk.obj 1000 _ (by rw[bl];exact an)
  have cu:v'.β 1000=some (y.w.heap.size+1,1):=m1
  have bm:z.H lid=some (Z st):=by rw[k5,BY,qy rfl]
  obtain⟨_,b2,O,n1,n2,_,_,_,n6,n7,_⟩:=k3.obj lid _ bm
  rw[k7] at n1
  simp only[rE,rJ,uH] at n1
  subst n1
  rw[k1] at a1
  cases a1
  rw[k2] at n2
  have bn:=run_endLoop (P:=P) n2 (by rw[n6];unfold IL;split<;>exact λh=>by cases h)
  rw[← k2] at n2
  obtain⟨u1,u2⟩:=TC (st':=.exhausted) (pd':=O.pending) k3 bm k7 n2
  have cn:({ O with state:=.exhausted,pending:=O.pending } : Loop) = { O with state:=.exhausted }:=rfl
  rw[cn] at u1 u2
  obtain⟨f1,f2⟩:=Pi u2 (hget (Hf C i)) (λid o B=>by
   show(if lid=id then _ else z.H id)=_
   by_cases E:lid=id
   ·subst E;rw[ae] at B;cases B
   ·rw[qx E,k5,BY,qx E];exact B) (nf i) (by show z.n≤nf i;rw[k6];exact q9 _)
  have a2:=((c5.trans k4).trans u1).trans f1
  have a6:E7 c0 ⟨s.e,Hf C i,nf i,s.N⟩ { a with defers:=[{ target:=.collected y.w.heap.size,args:=#[] }]++a.defers } (z.w.putObj (y.w.heap.size+1) (.loop { O with state:=.exhausted })):=by
   refine⟨{ target:=.collected y.w.heap.size,args:=#[] } :: ds,by rw[← aw];rfl,hsz,_,rfl,⟨V.le.trans a2,⟨List.nodup_cons.2 ⟨λbo=>?_,V.marks.1.1⟩,λ_ j oj hj=>?_⟩,λd hd=>?_⟩,f2,rfl,rfl,he.mono a2⟩
   ·obtain⟨D,I,_,h3,_⟩:=V.marks.2 _ bo
    have:=ax.S_lt D h3
    simp only[Deferred.mk.injEq,Target.collected.injEq] at I
    omega
   ·cases bp:oj.isCal with
    | false=>rfl
    | true=>
     obtain⟨o1,T,_,e2,_⟩:=a2.H j oj hj (.inr bp)
     rw[hH] at T
     have:=pu bu T
     rw[Rw e2,bp] at this
     cases this
   ·have bq:=(k4.trans u1).trans f1
    rcases ri.1 hd with rfl | hd
    ·exact⟨_,rfl,V.le.size,bq.S _ b7,(bq.blk _ (.inl b7)).trans ca⟩
    ·obtain⟨D,I,h2,h3,h4⟩:=V.marks.2 d hd
     exact⟨D,I,h2,a2.S D h3,(a2.blk D (.inl h3)).trans h4⟩
  rw[k2] at a6
  refine⟨O.pending,_,bn,?_⟩
  have a7:=hQ i
  rw[← n7] at a7
  split
  ·rename_i hp
   rw[hp] at a7
   exact⟨by simp,_,a7,a6⟩
  ·rename_i c hp
   rw[hp] at a7
   exact a7 none (.inl rfl) c0 _ _ a6
end
end Go.Proofs.YtifgmfoihehlbaaGreatDoor.Al

namespace Go.Proofs.YtifgmfoihehlbaaGreatDoor.Al
def m2{σ:Type}(f:Int→Int→Option σ):List RV→Option σ
 | [.int .i64 a,.int .i64 b]=>f a b
 | _=>none
theorem fy{σ:Type}{f:Int→Int→Option σ}{y:List RV}{r:σ}(h:m2 f y=some r):∃a b,y=[.int .i64 a,.int .i64 b]∧f a b=some r:=by
 unfold m2 at h
 split at h
 ·exact⟨_,_,rfl,h⟩
 ·cases h
def rng2{σ:Type}(it:(List (List RV)→Option Bool)→Option (List (List RV)))(F:σ→Int→Int→Option σ)(st0:σ):Option σ:=
 (it (Ie (λs=>m2 (F s)) st0)).bind λj=>Ed (λs=>m2 (F s)) j st0
section
variable{P:Program}{s:St}
theorem Yv{c}{Q}(h:AW P c (λe s=>∃j,Am s j∧Q e j) s):AW P c Q s:=
 λz l m a w q=>wpIn_mono (h z l m a w q) λ_ _ _ ⟨A,I,⟨B,C,E⟩,F⟩=>⟨A,B,E,C _ _ _ F⟩
def WL{σ:Type}(lid:Nat)(lp:Af)(Hf:σ→(Nat→Nat)→Aj)(nf:(Nat→Nat)→Nat)(st':σ)(c:Bool)(h':Aj)(n':Nat):Prop:=
 c=true∧∃j,(∀id o,hget ((lid,some lp)::Hf st' j) id=some o→hget h' id=some o)∧n'≤nf j
theorem AW.rng2{σ:Type}{g:Operand}{ps:Array Tmp}{asg bd:Code}{Q:Exit→St→Prop}{f:FuncId}{caps:List AV}{L:List Nat}{hB:Aj}{it:(List (List RV)→Option Bool)→Option (List (List RV))}{F:σ→Int→Int→Option σ}{st0 w:σ}(lid:Nat)(Hf:σ→(Nat→Nat)→Aj)(nf:(Nat→Nat)→Nat)(i0:Nat→Nat)
  (hit:rng2 it F st0=some w)
  (a0:BT s.e g=.fn f (EN (lid::L) caps)) (a1:FH (L.length+1) caps=true) (a2:FY s.h (lid::L) hB) (a6:hget hB 1000=none) (a7:(lid::L).Nodup) (a8:MW s.h=true)
  (U:KC (Hf st0 i0) s.h) (V:((lid::L).all λj=>(hget (Hf st0 i0) j).isNone)=true) (C:∀O i,hget (Hf O i) lid=none) (aa:s.n+1≤nf i0) (hg:∀i,s.n<nf i) (I:(ps.toList.length==2&&ps.toList.all λp=>Nat.blt p s.N)=true) (X:(Ck asg&&Ck bd)=true)
  (ab : ∃ fn, P.funcs[f]? = some fn ∧ fn.body.isNone = false ∧ (fn.name == "runtime.NumGoroutine") = false)
  (Z:∀(W:E8) T,W.P=P→it W.A=some T→∃Post,BC P f (L.length+1) (.yld 1000 s.n::caps) ((1000,some (.cal s.n W []))::hB) Post∧∀r q,Post r q→hget q 1000=some (.cal s.n W T))
  (l:∀(E:As) (A B:Code),A=asg→B=bd→∀O a b m i,F O a b=some m→AW P asg (Jq P lid s.n bd (WL lid (.lp s.n E s.N ps.toList A B .ready none) Hf nf m))
   ⟨NH ps.toList [.r (.int .i64 a),.r (.int .i64 b)] s.e,(lid,some (.lp s.n E s.N ps.toList A B .ready none))::Hf O i,nf i,s.N⟩)
  (J:∀i,Q .normal ⟨s.e,Hf w i,nf i,s.N⟩):AW P (.rangeFunc g ps asg bd) Q s:=by
 unfold Al.rng2 at hit
 rw[Option.bind_eq_some_iff] at hit
 obtain⟨T,ac,M⟩:=hit
 simp only[rF,beq_iff_eq] at I
 refine qR (Post:=λW r q=>W.A=Ie (λs=>m2 (F s)) st0→hget q 1000=some (.cal s.n W T)) lid (λ_=>none) (λs=>m2 (F s)) st0 Hf nf i0 a0 a1 a2 a6 a7 a8 U (λj hj=>by
   have:=rZ.1 V j hj
   simpa using this) C aa hg I.2 X (λW hP (hA:W.A=Ie (λs=>m2 (F s)) st0)=>?_) rfl (λO y m i ad=>?_) ab (λW r q hA hp=>⟨T,w,hp hA,M,J⟩)
 ·obtain⟨Post,h1,h2⟩:=Z W T hP (by rw[hA];exact ac)
  refine⟨h1.1,λx vs ae hH ha=>(h1.2 x vs ae hH ha).mono λe w' ⟨u,y,r,q,k1,k2,k3,k4,k5,k6,k7,k8,k9⟩=>⟨u,y,r,q,k1,k2,k3,k4,k5,k6,k7,k8,λ_=>h2 r q k9⟩⟩
 ·obtain⟨a,b,rfl,hF⟩:=fy ad
  exact⟨rfl,by simp[I.1],l s.e asg bd rfl rfl O a b m i hF⟩
theorem qE{σ:Type}{lid g N:Nat}{E:As}{ps:List Nat}{A B:Code}{Hf:σ→(Nat→Nat)→Aj}{nf:(Nat→Nat)→Nat}{t st':σ}(e:some t=some st')(m:Nat→Nat)(q:s.h=(lid,some (.lp g E N ps A B .busy none))::Hf t m)(w:s.n≤nf m) :
  PE lid g (WL lid (.lp g E N ps A B .ready none) Hf nf st') .normal s:=by
 cases e
 refine⟨E,N,ps,A,B,by rw[q,BY,qy rfl],rfl,m,λid o j=>?_,w⟩
 rw[BY] at j ⊢
 split
 ·rename_i l;rw[qy l] at j;exact j
 ·rename_i l
  rw[qx l] at j
  rw[q,BY,qx l]
  exact j
theorem qC{id g}{bd}{C}{e0}{N}{ps}{asg j}(l:hget s.h id=some (.lp g e0 N ps asg j .ready none))(hw:AW P bd (PE id g C) ⟨s.e,(id,some (.lp g e0 N ps asg j .busy none))::s.h,s.n,s.N⟩):Jq P id g bd C .normal s:=
 ⟨e0,N,ps,asg,j,l,hw⟩
end
section
variable{P:Program}{ops:Array Oper}{rest:List Oper}{s:St}{K:St→Prop}{o:Oper}
theorem D4.step{d}{v}{h'}{n'}(hg:o.guard=none)(hd:o.dst=some d)(j:Nat.blt d s.N=true)(l:Bc P true o s.e s.h s.n v h' n')
 (m:D4 P ops rest { e := (d, v)::s.e, h := h', n := n', N := s.N } K):D4 P ops (o::rest) s K :=
  D4.cons (AS.step (K := λt => t = { e := (d, v)::s.e, h := h', n := n', N := s.N }) hg hd j l (AS.nil rfl)) λq e => e ▸ m
end
open Go.ChangeMaps (setBlock)
open Go.MapKept Go.RowKit
def AU{α:Type} : List (Int × α)→Int→Option α
 | [],_=>none
 | p::r,k=>if k=p.1 then some p.2 else AU r k
def Ah{α:Type} : List (Int × α)→Int→α→List (Int × α)
 | [],k,v=>[(k,v)]
 | p::r,k,v=>if k=p.1 then(k,v)::r else p::Ah r k v
def AK{α β:Type}(rd:α→β)(m:List (Int × α)):List (Int × β):=m.map λp=>(p.1,rd p.2)
theorem KO{α β:Type}(rd:α→β) m k:AU (AK rd m) k=(AU m k).map rd:=by
 induction m with
 | nil=>rfl
 | cons p r j=>
  show(if k=p.1 then some (rd p.2) else AU (AK rd r) k)=(if k=p.1 then some p.2 else AU r k).map rd
  split
  ·rfl
  ·exact j
theorem P1{α β:Type}(rd:α→β) m k(v:α):Ah (AK rd m) k (rd v)=AK rd (Ah m k v):=by
 induction m with
 | nil=>rfl
 | cons p r j=>
  show(if k=p.1 then(k,rd v)::AK rd r else(p.1,rd p.2)::Ah (AK rd r) k (rd v))=AK rd (if k=p.1 then(k,v)::r else p::Ah r k v)
  split
  ·rfl
  ·rw[j];rfl
theorem Eu{α:Type}{l:List (Int × α)}{k:Int}(h:Ak l k=none):AU l k=none∧∀v,Ah l k v=l++[(k,v)]:=by
 induction l with
 | nil=>exact⟨rfl,λ_=>rfl⟩
 | cons p r q=>
  unfold Ak at h
  split at h
  ·cases h
  ·rename_i m
   have w:Ak r k=none:=by cases A:Ak r k with | none=>rfl | some j=>rw[A] at h;cases h
   obtain⟨B,C⟩:=q w
   exact⟨by unfold AU;rw[qx m,B],λv=>by unfold Ah;rw[qx m,C];rfl⟩
theorem Dd{α:Type}{l:List (Int × α)}{k}{j}(h:Ak l k=some j):∃v,l[j]?=some (k,v)∧AU l k=some v∧∀w,Ah l k w=l.set j (k,w):=by
 induction l generalizing j with
 | nil=>cases h
 | cons p r q=>
  unfold Ak at h
  split at h
  ·rename_i m
   cases h
   subst m
   exact⟨p.2,rfl,by unfold AU;rw[qy rfl],λw=>by unfold Ah;rw[qy rfl];rfl⟩
  ·rename_i m
   rw[rK] at h
   obtain⟨F,A,rfl⟩:=h
   obtain⟨v,B,C,E⟩:=q A
   exact⟨v,B,by unfold AU;rw[qx m,C],λw=>by unfold Ah;rw[qx m,E];rfl⟩
theorem YN{α:Type}{l:List (Int × α)}{k}{j}(h:Ak l k=some j):j<l.length:=by
 obtain⟨v,m,_⟩:=Dd h
 exact(rC.1 m).1
theorem T3{α β:Type}(f:Int × α→Int × β)(j:∀p,(f p).1=p.1)(m:List (Int × α))(k:Int):Ak (m.map f) k=Ak m k:=by
 induction m with
 | nil=>rfl
 | cons p r l=>
  show(if k=(f p).1 then some 0 else(Ak (r.map f) k).map (· + 1))=(if k=p.1 then some 0 else(Ak r k).map (· + 1))
  rw[j,l]
def Fm{α:Type}(l:List (Int × α))(q:List MapEntry):Prop:=q.length=l.length∧∀(j:Nat) (k:Int) (d:α),l[j]?=some (k,d)→∃m,q[j]?=some m∧m.key=.int .i64 k∧m.born=j
theorem YH{α:Type} k:∀(l:List (Int × α)) (w:List MapEntry) (i:Nat),w.length=l.length→(∀(j:Nat) (k':Int) (d:α),l[j]?=some (k',d)→∃m,w[j]?=some m∧m.key=.int .i64 k') →
  Instr.findNow (.int .i64) (.int .i64 k) w i=some ((Ak l k).map λj=>(i+j,((w[j]?).map (·.val)).getD undef))
 | [],[],i,_,_=>rfl
 | [],_::_,i,h,_=>by simp at h
 | _::_,[],i,h,_=>by simp at h
 | p::l,e::w,i,h,A=>by
  obtain⟨m,B,C⟩:=A 0 p.1 p.2 rfl
  cases B
  have E:=YH k l w (i+1) (by simpa using h) λj k' d F=>A (j+1) k' d F
  simp only[Instr.findNow,C,Instr.sameNow,uA,Ak]
  by_cases q:k=p.1
  ·rw[qy q,show(k==p.1)=true by simpa using q];simp
  ·rw[qx q,show(k==p.1)=false by simpa using q]
   simp only[E]
   cases Ak l k with
   | none=>rfl
   | some j=>simp[td,Nat.add_comm 1 j]
theorem Fm.find{α:Type}{l:List (Int × α)}{q:List MapEntry}(h:Fm l q)(k:Int):Instr.findNow (.int .i64) (.int .i64 k) q.toArray.toList 0=some ((Ak l k).map λj=>(j,((q[j]?).map (·.val)).getD undef)):=by
 have:=YH k l q 0 h.1 λj w d A=>by obtain⟨m,B,C,_⟩:=h.2 j w d A;exact⟨m,B,C⟩
 simpa using this
section
variable{P:Program}
theorem Ml{α:Type}{l:List (Int × α)}{m:List MapEntry}(q:Fm l m){t B C:TypeId}(F:P.underlying t=some (.map B C))(E:P.underlying B=some (.int .i64)){w:World}{b clock:Nat}
  (I:w.heap[b]?=some (.map m.toArray clock)) (k:Int) (A:Value) (J:(zeroValue C).run P w=.ok A w) (ok:Bool) :
  (Instr.lookup t (.map (some b)) (.int .i64 k) ok).run P w=.ok (match Ak l k with
   | some j=>if ok then .tuple #[((m[j]?).map (·.val)).getD undef,.bool true] else((m[j]?).map (·.val)).getD undef
   | none=>if ok then .tuple #[A,.bool false] else A) w:=by
 have M:=run_findKey (P:=P) (w:=w) E (q.find k)
 unfold Instr.lookup
 simp only[Sem.run_bind,run_underlying F,Result.andThen_ok,MapKept.run_getObj_map I,Sem.run_pure,run_checkKey E (k:=.int .i64 k) (by simp[IsKey]),M]
 cases Ak l k with
 | none=>cases ok<;>simp[J]
 | some j=>cases ok<;>simp
def Er(l:List MapEntry)(k:Int)(j:Option Nat)(y:Value):List MapEntry:=match j with
 | none=>l++[{ key:=.int .i64 k,val:=y,born:=l.length }]
 | some j=>l.modify j λe=>{ e with key:=.int .i64 k,val:=y }
theorem RC{α:Type}{l:List (Int × α)}{A:List MapEntry}(q:Fm l A){t C F:TypeId}(I:P.underlying t=some (.map C F))(E:P.underlying C=some (.int .i64)){w:World}{b:Nat}
  (B:w.heap[b]?=some (.map A.toArray l.length)) (k:Int) (y:Value) :
  (Instr.mapUpdate t (.map (some b)) (.int .i64 k) y).run P w=.ok () { w with heap:=w.heap.setIfInBounds b (.map (Er A k (Ak l k) y).toArray (Er A k (Ak l k) y).length) }:=by
 have J:=run_findKey (P:=P) (w:=w) E (q.find k)
 unfold Instr.mapUpdate
 simp only[Sem.run_bind,run_underlying I,Result.andThen_ok,MapKept.run_getObj_map B,run_checkKey E (k:=.int .i64 k) (by simp[IsKey]),J]
 cases M:Ak l k with
 | none=>
  simp only[tv]
  rw[run_setObj_map _ B]
  simp[Er,q.1]
 | some j=>
  obtain⟨v,O,_⟩:=Dd M
  obtain⟨m,T,U,X⟩:=q.2 j k v O
  have V:A.toArray[j]?=some m:=by simpa using T
  simp only[sK,V,sW,U]
  simp[Instr.keyThatStays,Instr.sameBits]
  rw[run_setObj_map _ B]
  simp[Er,q.1]
theorem XO{α:Type}{l:List (Int × α)}{w:List MapEntry}(q:Fm l w)(k:Int)(y:Value)(v:α):Fm (Ah l k v) (Er w k (Ak l k) y)∧(Er w k (Ak l k) y).length=(Ah l k v).length ∧
  ∀(j:Nat) (k':Int) (d:α),(Ah l k v)[j]?=some (k',d)→∃m,(Er w k (Ak l k) y)[j]?=some m∧m.key=.int .i64 k'∧m.born=j ∧
   ((Ak l k=some j∨(Ak l k=none∧j=l.length))∧k'=k∧d=v∧m.val=y∨Ak l k≠some j∧j<l.length∧l[j]?=some (k',d)∧w[j]?=some m):=by
 have key:(Er w k (Ak l k) y).length=(Ah l k v).length ∧
  ∀(j:Nat) (k':Int) (d:α),(Ah l k v)[j]?=some (k',d)→∃m,(Er w k (Ak l k) y)[j]?=some m∧m.key=.int .i64 k'∧m.born=j ∧
   ((Ak l k=some j∨(Ak l k=none∧j=l.length))∧k'=k∧d=v∧m.val=y∨Ak l k≠some j∧j<l.length∧l[j]?=some (k',d)∧w[j]?=some m):=by
  cases M:Ak l k with
  | none=>
   rw[(Eu M).2]
   refine⟨by simp[Er,q.1],λj k' d h=>?_⟩
   by_cases B:j<l.length
   ·rw[rQ B] at h
    obtain⟨m,C,O,E⟩:=q.2 j k' d h
    exact⟨m,by show(w++_)[j]?=_;rw[rQ (by rw[q.1];exact B)];exact C,O,E,.inr ⟨(by simp),B,h,C⟩⟩
   ·have T:j=l.length:=by have:=(rC.1 h).1;simp at this;omega
    subst T
    rw[rR (q9 _)] at h
    simp at h
    obtain⟨rfl,rfl⟩:=h
    exact⟨_,by show(w++_)[l.length]?=_;rw[← q.1,rR (q9 _)];simp;rfl,rfl,q.1,.inl ⟨.inr ⟨rfl,rfl⟩,rfl,rfl,rfl⟩⟩
  | some F=>
   obtain⟨v0,C,_,E⟩:=Dd M
   rw[E]
   have I:=YN M
   refine⟨by simp[Er,q.1],λj k' d h=>?_⟩
   by_cases A:F=j
   ·subst A
    rw[tB I] at h
    cases h
    obtain⟨m,J,V,U⟩:=q.2 F k v0 C
    exact⟨{ m with key:=.int .i64 k,val:=y },by show(w.modify F _)[F]?=_;rw[List.getElem?_modify_eq,J];rfl,rfl,U,.inl ⟨.inl rfl,rfl,rfl,rfl⟩⟩
   ·rw[tJ A] at h
    obtain⟨m,J,V,U⟩:=q.2 j k' d h
    exact⟨m,by show(w.modify F _)[j]?=_;rw[List.getElem?_modify_ne (h:=A)];exact J,V,U,.inr ⟨(λe=>A (rW e)),(rC.1 h).1,h,J⟩⟩
 exact⟨⟨key.1,λj k' d h=>by obtain⟨m,C,O,E,_⟩:=key.2 j k' d h;exact⟨m,C,O,E⟩⟩,key⟩
variable{c:Bool}{o:Oper}{R:As}{h:Aj}{n:Nat}
theorem WI{x:Cx}(A:x.ok){id g}{l:List (Int × RV)}{v}(F:x.H id=some (.md g l))(B:AX x (.mref id g) v) :
  ∃(b:Nat) (q:List MapEntry),x.β id=some (b,1)∧v=.map (some b)∧Fm l q∧x.w.heap[b]?=some (.map q.toArray l.length)∧∀(j:Nat) (k:Int) (d:RV) (m:MapEntry),l[j]?=some (k,d)→q[j]?=some m→BG x.w x.S d m.val:=by
 obtain⟨_,b,q,I,M,O,J⟩:=A.obj _ _ F
 cases B with
 | mref _ _ B=>
  obtain⟨b',cap,C,T⟩:=B _ F rfl
  rw[I] at C
  simp only[rE,rJ] at C
  obtain⟨rfl,rfl⟩:=C
  exact⟨b,q,I,T,⟨O,λj k d E=>by obtain⟨m,w,U,V,_⟩:=J j k d E;exact⟨m,w,U,V⟩⟩,M,λj k d m E X=>by
   obtain⟨m',w,_,_,Z⟩:=J j k d E
   rw[X] at w;cases w;exact Z⟩
theorem lz{t} id(B:o.op=.makeMap t none):Bc P c o R h n (.mref id n) ((id,some (.md n []))::h) (n+1):=by
 intro M z w m C q O K Q E
 have l:=EY m id (.md z.n []) (z.w.alloc (.map #[] 0)) (some (z.w.heap.size,1)) (z.n+1) (by simp) rfl rfl rfl
  (λb A _=>heap_alloc_old _ _ A) (λb k A=>by cases A;simp) (by omega) (by simp[Af.gen]) (λhg=>absurd hg (by simp[Af.gen]))
  (λF=>⟨z.w.heap.size,[],rfl,heap_alloc_new _ _,rfl,λj k d I=>by simp at I⟩)
 unfold Oper.wp execOp
 rw[B]
 simp only[tv,Sem.run_bind,run_makeMap,Result.andThen_ok,Sem.run_pure]
 refine E (.map (some z.w.heap.size)) _ l.1 l.2 (by simp only[C,q];exact DG _ _ _) (by simp[q]) (.mref (by simp[q]) rfl λT J _=>?_)
 exact⟨z.w.heap.size,1,by simp,rfl⟩
theorem IT{α:Type}{rd:α→RV}{t X Z:TypeId}{x i:Operand}{id g:Nat}{m:List (Int × α)}{k:Int}(ok:Bool)(F:Value)(z:α)(ho:o.op=.lookup t x i ok)(ht:P.underlying t=some (.map X Z))
  (hk:P.underlying X=some (.int .i64)) (hz:∀w,(zeroValue Z).run P w=.ok F w) (I:∀w S,BG w S (rd z) F) (hx:Ev c R x (.mref id g)) (hi:Ev c R i (.r (.int .i64 k))) (hh:hget h id=some (.md g (AK rd m))) :
  Ad P c o R h (match ok with | true=>.tup [.r (rd ((AU m k).getD z)),.r (.bool (AU m k).isSome)] | false=>.r (rd ((AU m k).getD z))):=by
 intro hc y w T hH he
 obtain⟨b,es,h1,h2,U,h4,h5⟩:=WI T (by rw[hH];exact hh) (hx.rep he hc)
 have C:=hi.rep he hc
 generalize J:w.eval i=iv at C
 cases C with
 | r C=>
  cases C with
  | int=>
   have M:∀E:World,Dj y E→E.heap[b]?=some (.map es.toArray (AK rd m).length):=λE B=>by rw[B b (.inr ⟨id,_,1,by rw[hH];exact hh,.inl h1⟩)];exact h4
   cases O:Ak (AK rd m) k with
   | none=>
    have hg:AU m k=none:=by
     have:=(Eu O).1
     rw[KO] at this
     simpa using this
    rw[hg]
    refine⟨match ok with | true=>.tuple #[F,.bool false] | false=>F,λE B=>?_,?_⟩
    ·simp only[execOp,ho,h2,J,Sem.run_bind,Ml U ht hk (M E B) k F (hz E) ok,O,Result.andThen_ok,Sem.run_pure]
     cases ok<;>simp
    ·cases ok
     ·exact .r (I _ _)
     ·refine .tup rfl λq a' u' l A=>?_
      rcases q with _ | _ | q
      ·simp at l A;subst l;subst A;exact .r (I _ _)
      ·simp at l A;subst l;subst A;exact .r (.bool _)
      ·simp at l
   | some j=>
    obtain⟨v,l,A,_⟩:=Dd O
    obtain⟨V,e3,_⟩:=U.2 j k v l
    have hr:=h5 j k v V l e3
    have hg:∃a,AU m k=some a∧rd a=v:=by
     rw[KO] at A
     rw[rK] at A
     exact A
    obtain⟨a,hg,rfl⟩:=hg
    rw[hg]
    refine⟨match ok with | true=>.tuple #[V.val,.bool true] | false=>V.val,λE B=>?_,?_⟩
    ·simp only[execOp,ho,h2,J,Sem.run_bind,Ml U ht hk (M E B) k F (hz E) ok,O,e3,Result.andThen_ok,Sem.run_pure]
     cases ok<;>simp
    ·cases ok
     ·exact .r hr
     ·refine .tup rfl λq a' u' l A=>?_
      rcases q with _ | _ | q
      ·simp at l A;subst l;subst A;exact .r hr
      ·simp at l A;subst l;subst A;exact .r (.bool _)
      ·simp at l
theorem Je{α:Type}{rd:α→RV}{t kt et:TypeId}{x i y:Operand}{id g:Nat}{m:List (Int × α)}{k:Int}{a:α}(J:o.op=.mapUpdate t x i y∨o.op=.insert t x i y)(ht:P.underlying t=some (.map kt et))(hk:P.underlying kt=some (.int .i64))
  (hx:Ev c R x (.mref id g)) (hi:Ev c R i (.r (.int .i64 k))) (hy:Ev c R y (.r (rd a))) (hh:hget h id=some (.md g (AK rd m))) :
  Bc P c o R h n .any ((id,some (.md g (AK rd (Ah m k a))))::h) n:=by
 intro O z w q hH hn T K Q hK
 have l:z.H id=some (.md g (AK rd m)):=by rw[hH];exact hh
 obtain⟨b,U,M,h2,h3,h4,h5⟩:=WI q l (hx.rep T O)
 have C:=hy.rep T O
 have A:=hi.rep T O
 generalize V:w.eval i=iv at A
 cases A with
 | r A=>
  cases A with
  | int=>
   cases C with
   | r C=>
   have E:=(q.own id _ b 1 l M).1
   obtain⟨q1,X,q3⟩:=XO h3 k (w.eval y) (rd a)
   rw[P1] at q1 X q3
   have F:=EY q id (.md g (AK rd (Ah m k a))) { z.w with heap:=z.w.heap.setIfInBounds b (.map (Er U k (Ak (AK rd m) k) (w.eval y)).toArray (Er U k (Ak (AK rd m) k) (w.eval y)).length) } (some (b,1)) z.n (by simp) rfl rfl rfl
    (λb' _ Z=>by
     have:b≠b':=λe=>Z _ 1 l (by rw[← e];exact M)
     simp[this])
    (λb' k' a0=>by cases a0;exact⟨by simpa using E,.inr ⟨_,_,l,M⟩⟩) (q9 _) (q.obj _ _ l).1 (λ_=>⟨_,l,rfl,rfl,M.symm⟩)
    (λB=>⟨b,Er U k (Ak (AK rd m) k) (w.eval y),rfl,by simp[E,X],X,λj k' d hj=>by
     obtain⟨mm,e1,e2,e3,e4⟩:=q3 j k' d hj
     refine⟨mm,e1,e2,e3,?_⟩
     rcases e4 with ⟨_,rfl,rfl,e⟩ | ⟨_,_,f1,f2⟩
     ·rw[e];exact C.mono (λb E=>B.blk b (.inl E)) B.S
     ·exact(h5 j k' d mm f1 f2).mono (λb E=>B.blk b (.inl E)) B.S⟩)
   have I:=RC h3 ht hk h4 k (w.eval y)
   unfold Oper.wp execOp
   rcases J with J | J<;>
   ·rw[J]
    simp only[h2,V,Sem.run_bind,I,Result.andThen_ok,Sem.run_pure]
    exact hK undef _ F.1 F.2 (by simp only[hH];exact DG _ _ _) hn (.any _)
end
end Go.Proofs.YtifgmfoihehlbaaGreatDoor.Al

namespace Go.Proofs.YtifgmfoihehlbaaGreatDoor.Al
open Go.ChangeMaps (setBlock)
open Go.MapKept Go.RowKit
def Cx.tk(x:Cx)(id id':Nat)(o:Af)(w':World)(j:Option (Nat × Nat))(l:Nat→Option (Nat × Nat))(n':Nat):Cx:=
 { x with w:=w',H:=λi=>if id=i then some o else if id'=i then none else x.H i,β:=λi=>if id=i then j else x.β i,K:=λi=>if id=i then l else x.K i,n:=n' }
theorem HX{x:Cx}{id id'}{o}{w'}{j}{l}{n' i}{q}(h:(x.tk id id' o w' j l n').H i=some q) :
  (id=i∧q=o∧(x.tk id id' o w' j l n').β i=j∧(x.tk id id' o w' j l n').K i=l)∨(i≠id∧i≠id'∧x.H i=some q∧(x.tk id id' o w' j l n').β i=x.β i∧(x.tk id id' o w' j l n').K i=x.K i):=by
 unfold Cx.tk at h ⊢
 dsimp only at h ⊢
 by_cases m:id=i
 ·rw[qy m] at h ⊢
  cases h
  exact .inl ⟨m,rfl,rfl,by rw[qy m]⟩
 ·rw[qx m] at h ⊢
  split at h
  ·cases h
  ·rename_i w
   exact .inr ⟨λe=>m e.symm,λe=>w e.symm,h,rfl,by rw[qx m]⟩
theorem qH{x:Cx}(q:x.ok) id id'(o:Af)(w':World) β' κ' n' 
 (F:x.w.heap.size≤w'.heap.size) (ac:w'.os=x.w.os) (a2:w'.tape=x.w.tape) (a6:w'.output=x.w.output)
 (a7:∀b, b<x.w.heap.size→(∀i o0, i=id∨i=id'→x.H i=some o0→x.at i b→False)→w'.heap[b]?=x.w.heap[b]?)
 (hβ:∀b k, β'=some (b, k)→b<w'.heap.size∧(x.w.heap.size≤b∨∃i o0, (i=id∨i=id')∧x.H i=some o0∧x.at i b))
 (hκ:∀j b k, κ' j=some (b, k)→(b<w'.heap.size∧(x.w.heap.size≤b∨∃i o0, (i=id∨i=id')∧x.H i=some o0∧x.at i b))∧(∀k', β'=some (b, k')→False)∧∀j' k', κ' j'=some (b, k')→j'=j)
 (hn:x.n≤n') (a8:o.gen<n') (aa:o.gen<x.n∨o.isCal=true→∃o0, x.H id=some o0∧o0.gen=o.gen∧o0.shape=o.shape∧β'=x.β id)
 (ad:o.isFam=true→o.gen<x.n→o.ver<x.n→∃o0, x.H id=some o0∧o0.isFam=true∧o0.gen=o.gen∧o0.ver=o.ver∧o0.kshape=o.kshape∧κ'=x.K id)
 (ab:x.le (x.tk id id' o w' β' κ' n')→Ci (x.tk id id' o w' β' κ' n') β' κ' o) :
    x.le (x.tk id id' o w' β' κ' n')∧(x.tk id id' o w' β' κ' n').ok := by
  have A:∀b, (x.w.heap.size≤b∨∃i o0, (i=id∨i=id')∧x.H i=some o0∧x.at i b)→(¬ x.S b∧¬ x.F b)∧∀i J, i≠id→i≠id'→x.H i=some J→x.at i b→False := by
    intro b w
    rcases w with w | ⟨i0, o0, h0, B, C⟩
    · exact⟨⟨λh => by have := q.S_lt b h;omega, λh => by have := q.F_lt b h;omega⟩, λi J _ _ hi ha => by have := (q.at_lt hi ha).1;omega⟩
    · exact⟨(q.at_lt B C).2, λi J E m hi ha => by
        have := q.at_inj hi B ha C
        subst this
        exact h0.elim E m⟩
  have a1:x.le (x.tk id id' o w' β' κ' n') := by
    refine⟨F, ac, a2, a6, λb w => ?_, λ_ h => h, rfl, hn, λi J M hg => ?_, λi J M hf hg hv => ?_⟩
    · refine a7 b (w.elim (q.S_lt b) (q.F_lt b)) λi o0 _ B C => ?_
      have := q.at_lt B C
      exact w.elim this.2.1 this.2.2
    · rcases HX M with ⟨rfl, rfl, B, C⟩ | ⟨_, _, B, C, h3⟩
      · obtain⟨o0, V, X, e3, e4⟩ := aa hg
        exact⟨o0, V, X, e3, by rw[B];exact e4⟩
      · exact⟨J, B, rfl, rfl, C⟩
    · rcases HX M with ⟨rfl, rfl, B, C⟩ | ⟨_, _, B, C, h3⟩
      · obtain⟨o0, V, e0, X, e3, e4, e5⟩ := ad hf hg hv
        exact⟨o0, V, e0, X, e3, e4, by rw[C];exact e5⟩
      · exact⟨J, B, hf, rfl, rfl, rfl, h3⟩
  have a0:∀i J, i≠id→i≠id'→x.H i=some J→∀b, x.at i b→w'.heap[b]?=x.w.heap[b]? := by
    intro i J E m hi b w
    refine a7 b (q.at_lt hi w).1 λi0 o0 h0 B C => ?_
    have := q.at_inj hi B w C
    subst this
    exact h0.elim E m
  refine⟨a1, λb w => rD (q.S_lt b w) F, λb w => rD (q.F_lt b w) F, q.SF, λi J M => ?_, λi J b k M w => ?_, λi i' o1 o2 b k k' B C w l => ?_, λi J j b c M w => ?_, q.tabs.le a1⟩
  · rcases HX M with ⟨rfl, rfl, B, C⟩ | ⟨E, m, B, C, h3⟩
    · rw[B, C];exact⟨a8, ab a1⟩
    · rw[C, h3]
      obtain⟨V, X⟩ := q.obj i J B
      exact⟨rD V hn, X.mono a1 (λb k w => a0 i J E m B b (.inl ⟨k, w⟩)) λj b k w => a0 i J E m B b (.inr ⟨j, k, w⟩)⟩
  · rcases HX M with ⟨rfl, rfl, B, C⟩ | ⟨E, m, B, C, h3⟩
    · rw[B] at w
      obtain⟨V, X⟩ := hβ b k w
      exact⟨V, (A b X).1⟩
    · rw[C] at w
      have := q.own i J b k B w
      exact⟨rD this.1 F, this.2⟩
  · rcases HX B with ⟨rfl, rfl, V, X⟩ | ⟨E, m, e0, V, X⟩<;>rcases HX C with ⟨rfl, rfl, O, Z⟩ | ⟨T, I, f0, O, Z⟩
    · rfl
    · rw[V] at w;rw[O] at l
      exact((A b (hβ b k w).2).2 i' o2 T I f0 (.inl ⟨k', l⟩)).elim
    · rw[V] at w;rw[O] at l
      exact((A b (hβ b k' l).2).2 i o1 E m e0 (.inl ⟨k, w⟩)).elim
    · rw[V] at w;rw[O] at l
      exact q.inj i i' o1 o2 b k k' e0 f0 w l
  · rcases HX M with ⟨rfl, rfl, V, X⟩ | ⟨E, m, e0, V, X⟩
    · rw[X] at w
      obtain⟨⟨B, C⟩, h3, h4⟩ := hκ j b c w
      refine⟨B, (A b C).1.1, (A b C).1.2, λi' o2 k U l => ?_, λi' o2 j' c' U l => ?_⟩
      · rcases HX U with ⟨rfl, rfl, O, Z⟩ | ⟨T, I, f0, O, Z⟩
        · rw[O] at l;exact h3 k l
        · rw[O] at l
          exact(A b C).2 i' o2 T I f0 (.inl ⟨k, l⟩)
      · rcases HX U with ⟨rfl, rfl, O, Z⟩ | ⟨T, I, f0, O, Z⟩
        · rw[Z] at l;exact⟨rfl, h4 j' c' l⟩
        · rw[Z] at l
          exact((A b C).2 i' o2 T I f0 (.inr ⟨j', c', l⟩)).elim
    · rw[X] at w
      obtain⟨B, C, h3, h4, h5⟩ := q.ext i J j b c e0 w
      refine⟨rD B F, C, h3, λi' o2 k U l => ?_, λi' o2 j' c' U l => ?_⟩
      · rcases HX U with ⟨rfl, rfl, O, Z⟩ | ⟨T, I, f0, O, Z⟩
        · rw[O] at l
          exact(A b (hβ b k l).2).2 i J E m e0 (.inr ⟨j, c, w⟩)
        · rw[O] at l
          exact h4 i' o2 k f0 l
      · rcases HX U with ⟨rfl, rfl, O, Z⟩ | ⟨T, I, f0, O, Z⟩
        · rw[Z] at l
          exact((A b (hκ j' b c' l).1.2).2 i J E m e0 (.inr ⟨j, c, w⟩)).elim
        · rw[Z] at l
          exact h5 i' o2 j' c' f0 l
theorem gh id id' ob h:(λi=>if id=i then some ob else if id'=i then none else hget h i)=hget ((id,some ob)::(id',none)::h):=by
 funext i
 rw[BY,BY]
end Go.Proofs.YtifgmfoihehlbaaGreatDoor.Al

namespace Go.Proofs.YtifgmfoihehlbaaGreatDoor.Al
open Go.ChangeMaps (setBlock)
open Go.MapKept Go.RowKit
def Au{α:Type}(l:List (Int × α))(k:Int):Nat:=(Ak l k).getD l.length
theorem S2{α β:Type}(rd:α→β)(m:List (Int × α))(j:Nat):(AK rd m)[j]?=(m[j]?).map λp=>(p.1,rd p.2):=by simp[AK]
theorem RP{α β:Type}(rd:α→β)(m:List (Int × α)):(AK rd m).length=m.length:=by simp[AK]
theorem Le{α β:Type}(rd:α→β) m k:Ak (AK rd m) k=Ak m k:=T3 (λp=>(p.1,rd p.2)) (λ_=>rfl) m k
theorem Py{α β:Type}(rd:α→β) m k:Au (AK rd m) k=Au m k:=by unfold Au;rw[Le,RP]
theorem KY{α:Type}{m:List (Int × α)}{k:Int}{v:α}(h:AU m k=some v):Ak m k=some (Au m k)∧m[Au m k]?=some (k,v):=by
 cases l:Ak m k with
 | none=>rw[(Eu l).1] at h;cases h
 | some j=>
  obtain⟨w,A,q,_⟩:=Dd l
  rw[h] at q;cases q
  unfold Au
  rw[l]
  exact⟨rfl,A⟩
theorem Vk{α:Type}{m:List (Int × α)}{k:Int}{v w:α}(h:AU m k=some v)(q:Int):Ak (Ah m k w) q=Ak m q:=by
 induction m with
 | nil=>cases h
 | cons p r l=>
  unfold AU at h
  unfold Ah
  split at h
  ·rename_i j
   rw[qy j]
   subst j
   rfl
  ·rename_i j
   rw[qx j]
   show(if q=p.1 then some 0 else(Ak (Ah r k w) q).map (· + 1))=(if q=p.1 then some 0 else(Ak r q).map (· + 1))
   rw[l h]
theorem Vv{α:Type}{m:List (Int × α)}{k:Int}{v w:α}(h:AU m k=some v):(Ah m k w).length=m.length:=by
 obtain⟨j,_⟩:=KY h
 obtain⟨_,_,_,l⟩:=Dd j
 rw[l,tR]
theorem HY{α:Type}{m:List (Int × α)}{k:Int}{v w:α}(h:AU m k=some v)(q:Int):Au (Ah m k w) q=Au m q:=by
 unfold Au;rw[Vk h,Vv h]
section
variable{P:Program}{c:Bool}{o:Oper}{R:As}{h:Aj}{n:Nat}
theorem WZ{x:Cx}(C:x.ok){id g J}{e}{l:List (Int × List RV)}{v}(M:x.H id=some (.mb g J e l))(E:AX x (.mref id g) v) :
  ∃(b:Nat) (w:List MapEntry),x.β id=some (b,1)∧v=.map (some b)∧Fm l w∧x.w.heap[b]?=some (.map w.toArray l.length)∧J<x.n∧∀(j:Nat) (k:Int) (cs:List RV) (m:MapEntry),l[j]?=some (k,cs)→w[j]?=some m →
   ∃A q,x.K id j=some (A,1)∧m.val=.pointer (some ⟨A,0,none⟩)∧x.w.heap[A]?=some (.cells q e (0,0))∧q.size=cs.length∧∀(i:Nat) (c:RV),cs[i]?=some c→∃u:Value,q[i]?=some u∧u.oneCell'=true∧BG x.w x.S c u:=by
 obtain⟨_,U,b,w,O,V,X,T⟩:=C.obj _ _ M
 cases E with
 | mref _ _ E=>
  obtain⟨b',cap,F,Z⟩:=E _ M rfl
  rw[O] at F
  simp only[rE,rJ] at F
  obtain⟨rfl,rfl⟩:=F
  exact⟨b,w,O,Z,⟨X,λj k d I=>by obtain⟨m,_,_,B,e2,e3,_⟩:=T j k d I;exact⟨m,B,e2,e3⟩⟩,V,U,λj k d m I hm=>by
   obtain⟨m',A,q,B,_,_,e4⟩:=T j k d I
   rw[hm] at B;cases B;exact⟨A,q,e4⟩⟩
theorem Ze{t} id e(B:o.op=.makeMap t none):Bc P c o R h n (.mref id n) ((id,some (.mb n n e []))::h) (n+1):=by
 intro M z w q C A O K Q E
 have l:=Jo q id (.mb z.n z.n e []) (z.w.alloc (.map #[] 0)) (some (z.w.heap.size,1)) (λ_=>none) (z.n+1) (by simp) rfl rfl rfl
  (λb m _=>heap_alloc_old _ _ m) (λb k m=>by cases m;simp) (λj b k m=>by cases m) (by omega) (by simp[Af.gen]) (λhg=>absurd hg (by simp[Af.gen,Af.isCal])) (λ_ hg=>absurd hg (by simp[Af.gen]))
  (λF=>⟨tA _,z.w.heap.size,[],rfl,heap_alloc_new _ _,rfl,λj k d I=>by simp at I⟩)
 unfold Oper.wp execOp
 rw[B]
 simp only[tv,Sem.run_bind,run_makeMap,Result.andThen_ok,Sem.run_pure]
 refine E (.map (some z.w.heap.size)) _ l.1 l.2 (by simp only[C,A];exact DG _ _ _) (by simp[A]) (.mref (by simp[A]) rfl λT J _=>?_)
 exact⟨z.w.heap.size,1,by simp,rfl⟩
theorem SS{x:Cx}(w:x.ok){id g A j}{e}{l}{v:Value}(C:x.H id=some (.mb g A e l))(B:A<x.n)(I:v.oneCell'=true)
 (h:∀q J b c, l[j]?=some (q, J)→x.K id j=some (b, c)→v=.pointer (some ⟨b, 0, none⟩)):AX x (.pk id g A j 0) v := by
  refine .pk (w.obj _ _ C).1 B I λo b c q m E _ hg M F O => ?_
  rw[C] at E;cases E
  simp only[Af.kshape, rG, rK, rJ] at F
  obtain⟨p, T, rfl, _⟩ := F
  exact h _ _ b c T O
theorem dP{α:Type}{row:α→List RV}{t kt et:TypeId}{x i:Operand}{id g M:Nat}{e:TypeId}{m:List (Int × α)}{k:Int}(ok:Bool)(ho:o.op=.lookup t x i ok)(ht:P.underlying t=some (.map kt et))
  (hk:P.underlying kt=some (.int .i64)) (hz:∀w,(zeroValue et).run P w=.ok (.pointer none) w) (hx:Ev c R x (.mref id g)) (hi:Ev c R i (.r (.int .i64 k))) (hh:hget h id=some (.mb g M e (AK row m))) :
  Ad P c o R h (match ok with | true=>.tup [.pk id g M (Au m k) 0,.r (.bool (AU m k).isSome)] | false=>.pk id g M (Au m k) 0):=by
 intro hc y w J hH he
 have l:y.H id=some (.mb g M e (AK row m)):=by rw[hH];exact hh
 obtain⟨b,es,h1,h2,h3,h4,h0,h5⟩:=WZ J l (hx.rep he hc)
 have F:=hi.rep he hc
 generalize O:w.eval i=iv at F
 cases F with
 | r F=>
  cases F with
  | int=>
   have T:∀I:World,Dj y I→I.heap[b]?=some (.map es.toArray (AK row m).length):=λI B=>by rw[B b (.inr ⟨id,_,1,l,.inl h1⟩)];exact h4
   cases X:Ak (AK row m) k with
   | none=>
    have C:Ak m k=none:=by rw[← Le row];exact X
    rw[(Eu C).1]
    have U:AX y (.pk id g M (Au m k) 0) (.pointer none):=SS J l h0 rfl λq cs b c Z _=>by
     unfold Au at Z
     rw[C] at Z
     have:=(rC.1 Z).1
     simp[RP] at this
    refine⟨match ok with | true=>.tuple #[.pointer none,.bool false] | false=>.pointer none,λI B=>?_,?_⟩
    ·simp only[execOp,ho,h2,O,Sem.run_bind,Ml h3 ht hk (T I B) k _ (hz I) ok,X,Result.andThen_ok,Sem.run_pure]
     cases ok<;>simp
    ·cases ok
     ·exact U
     ·refine .tup rfl λq a' u' A E=>?_
      rcases q with _ | _ | q
      ·simp at A E;subst A;subst E;exact U
      ·simp at A E;subst A;subst E;exact .r (.bool _)
      ·simp at A
   | some j=>
    have C:Ak m k=some j:=by rw[← Le row];exact X
    obtain⟨v,A,E,_⟩:=Dd C
    have V:(AK row m)[j]?=some (k,row v):=by rw[S2,A];rfl
    obtain⟨mm,e3,_⟩:=h3.2 j k _ V
    obtain⟨bb,a0,f1,f2,_⟩:=h5 j k _ mm V e3
    have hD:Au m k=j:=by unfold Au;rw[C];rfl
    rw[E,hD]
    have U:AX y (.pk id g M j 0) mm.val:=SS J l h0 (by rw[f2];rfl) λq cs b c Z hK=>by
     rw[f1] at hK;cases hK;exact f2
    refine⟨match ok with | true=>.tuple #[mm.val,.bool true] | false=>mm.val,λI B=>?_,?_⟩
    ·simp only[execOp,ho,h2,O,Sem.run_bind,Ml h3 ht hk (T I B) k _ (hz I) ok,X,e3,Result.andThen_ok,Sem.run_pure]
     cases ok<;>simp
    ·cases ok
     ·exact U
     ·refine .tup rfl λq a' u' A E=>?_
      rcases q with _ | _ | q
      ·simp at A E;subst A;subst E;exact U
      ·simp at A E;subst A;subst E;exact .r (.bool _)
      ·simp at A
theorem My{x:Cx}(B:x.ok){id g C j k}{e}{l}{q}{cs:List RV}{v}(E:x.H id=some (.mb g C e l))(J:AX x (.pk id g C j k) v)(F:l[j]?=some (q,cs)) :
  ∃A w,x.K id j=some (A,1)∧v=.pointer (some ⟨A,k,none⟩)∧x.w.heap[A]?=some (.cells w e (0,0))∧w.size=cs.length∧∀(i:Nat) (c:RV),cs[i]?=some c→∃u:Value,w[i]?=some u∧u.oneCell'=true∧BG x.w x.S c u:=by
 obtain⟨_,V,b,X,Z,h2,h3,M⟩:=B.obj _ _ E
 obtain⟨m,A,w,e1,e2,e3,I,e5,O,T,U⟩:=M j q cs F
 cases J with
 | pk _ _ _ hp=>
  exact⟨A,w,I,hp _ A 1 q cs.length E rfl rfl rfl (by simp[Af.kshape,F]) I,O,T,U⟩
theorem ke{t}{x}{f off}{id g B j k}{e}{l}(I:o.op=.fieldAddr t x f)(T:Ao P t f off)(U:Ev c R x (.pk id g B j k))(V:hget h id=some (.mb g B e l))(X:c=true→(l[j]?).isSome=true) :
  Ad P c o R h (.pk id g B j (k+off)):=by
 intro J z w C Z he
 obtain⟨fs,fl,ii,h1,h2,h3,h4,h5⟩:=T
 have A:z.H id=some (.mb g B e l):=by rw[Z];exact V
 obtain⟨⟨q,cs⟩,E⟩:=Option.isSome_iff_exists.1 (X J)
 have M:=U.rep he J
 obtain⟨bb,a0,k1,k2,k3,_⟩:=My C A M E
 have F:B<z.n:=by cases M;assumption
 refine⟨.pointer (some ⟨bb,k+off,none⟩),λw2 a1=>?_,.pk (C.obj _ _ A).1 F rfl λo b c q m I _ hg a2 hs O=>?_⟩
 ·unfold execOp
  rw[I]
  simp[k2,Instr.fieldAt,run_underlying h1,h2,Instr.sureAddr,fieldPlace,D8 h4,h5,h3,Addr.add_lit]
 ·rw[k1] at O;cases O;rfl
theorem Ww{x:Cx}{q:World}(w:Dj x q){id j m}{o}(A:x.H id=some o)(B:x.K id j=some (m,1)){l}{e}(C:x.w.heap[m]?=some (.cells l e (0,0)))(k:Nat):q.cell? ⟨m,k,none⟩=l[k]?:=by
 have:q.heap[m]?=some (.cells l e (0,0)):=by rw[w m (.inr ⟨id,_,1,A,.inr ⟨j,B⟩⟩)];exact C
 exact cell_of_row _ m k l e _ this
theorem Zb{t}{x}{id g A j k}{e}{l}{q}{cs}{d}(F:o.op=.load t x)(I:BR P t)(J:Ev c R x (.pk id g A j k))(M:hget h id=some (.mb g A e l))
 (O:c=true→l[j]?=some (q, cs)) (hd:cs[k]?=some d):Ad P c o R h (.r d) := by
  intro E z w B T U
  have m:z.H id=some (.mb g A e l) := by rw[T];exact M
  obtain⟨bb, V, X, Z, k3, k4, k5⟩ := My B m (J.rep U E) (O E)
  obtain⟨u, e1, e2, e3⟩ := k5 k d hd
  refine⟨u, λw2 C => ?_, .r e3⟩
  unfold execOp
  rw[F]
  simp[Z, Rr I ((Ww C m X k3 k).trans e1)]
theorem iE{t}{x}{id g C j sz}{e}{l}{q}{cs:List RV}(J:o.op=.load t x)(M:Bq P t sz)(O:Ev c R x (.pk id g C j 0))(T:hget h id=some (.mb g C e l))
 (B:c=true→l[j]?=some (q, cs)) (U:cs.length=sz):Ad P c o R h (.agg (cs.map .r)) := by
  intro I z w E V X
  have m:z.H id=some (.mb g C e l) := by rw[V];exact T
  obtain⟨bb, A, Z, k2, k3, k4, k5⟩ := My E m (O.rep X I) (B I)
  refine⟨.agg ((List.range sz).map λj => A.getD j undef).toArray, λw2 F => ?_, Jk (by simpa using U) _ λj a B => ?_⟩
  · unfold execOp
    rw[J]
    simp[k2, Jg M (λj => A.getD j undef) (λj B => by
      rw[rl, Ww F m Z k3 j]
      have:j<A.size := by omega
      simp[this])]
  · rw[rG, rK] at B
    obtain⟨d, hd, rfl⟩ := B
    obtain⟨u, e1, _, e3⟩ := k5 j d hd
    simpa[e1] using(AX.r e3:AX z (.r d) u)
theorem jq{t}{x y}{id g ve j k}{e:TypeId}{l:List (Int × List RV)}{q}{cs:List RV}{d}(ho:o.op=.store t x y)(ht:∃i, P.info? t=some i∧i.size=1)(hx:Ev c R x (.pk id g ve j k))(hh:hget h id=some (.mb g ve e l))
 (hj:l[j]?=some (q, cs)) (hk:Nat.blt k cs.length=true) (hy:Ev c R y (.r d)):Bc P c o R h n .any ((id, some (.mb g ve e (l.set j (q, cs.set k d))))::h) n := by
  intro hc z w B hH hn he K Q hK
  obtain⟨ii, X, ab⟩ := ht
  have A:z.H id=some (.mb g ve e l) := by rw[hH];exact hh
  have ag := hx.rep he hc
  obtain⟨V, O, k1, k2, k3, k4, k5⟩ := My B A ag hj
  have ah := DL hk
  have ac := hy.rep he hc
  generalize ai:w.eval y=v at ac
  cases ac with
  | r ad =>
  have T := ad.one
  have E:v.cells = #[v] := by cases v<;>first | rfl | (simp[Value.oneCell'] at T)
  have a0 := Rf (P := P) (k := k) X k3 (v := v) (by rw[E];exact ab.symm) (by rw[E];intro u hu;simp at hu;subst hu;exact T) (by rw[E];show k+1≤_;omega)
  obtain⟨aj, ak, b, es, h1, h2, h3, h4⟩ := B.obj _ _ A
  have an:V<z.w.heap.size := (B.ext id _ j V 1 A k1).1
  have ae:j<l.length := (rC.1 hj).1
  generalize a1:(O.toList.take k++v.cells.toList++O.toList.drop (k+v.cells.size)).toArray=C at a0
  have a7:∀i, C[i]?=if k=i then some v else O[i]? := by
    intro i
    rw[← a1, List.getElem?_toArray]
    have a2 := J0 O.toList v.cells.toList k i (by rw[E];simp;omega)
    rw[sL] at a2
    rw[a2, E]
    by_cases F:k=i
    · subst F;simp
    · rw[qx (by simp;omega), qx F];simp
  have Z:C.size=O.size := by rw[← a1, E];simp;omega
  have af := Jo B id (.mb g ve e (l.set j (q, cs.set k d))) (z.w.setRow V C) (some (b, 1)) (z.K id) z.n (by simp[World.setRow]) rfl rfl rfl
    (λb' _ U => setRow_other _ _ _ _ (λe => U _ A (.inr ⟨j, 1, by rw[e];exact k1⟩)))
    (λb' k' M => by cases M;exact⟨by simpa[World.setRow] using(B.own id _ b 1 A h1).1, .inr ⟨_, A, .inl ⟨1, h1⟩⟩⟩)
    (λj' b' k' M => ⟨⟨by simpa[World.setRow] using(B.ext id _ j' b' k' A M).1, .inr ⟨_, A, .inr ⟨j', k', M⟩⟩⟩, λk2 a8 => by cases a8;exact(B.ext id _ j' b k' A M).2.2.2.1 id _ 1 A h1, λj2 k2 a8 => ((B.ext id _ j' b' k' A M).2.2.2.2 id _ j2 k2 A a8).2⟩)
    (q9 _) aj (λ_ => ⟨_, A, rfl, rfl, h1.symm⟩)
    (λ_ _ _ => ⟨_, A, rfl, rfl, rfl, by
      simp only[Af.kshape]
      rw[tl]
      refine(sy λi => ?_)
      by_cases X:j=i
      · subst X;rw[tB (by simpa using ae)];simp[hj]
      · rw[tJ X], rfl⟩)
    (λI => ⟨ak, b, es, rfl, by
      have U:V≠b := λe => (B.ext id _ j V 1 A k1).2.2.2.1 id _ 1 A (by rw[e];exact h1)
      exact(show(z.w.setRow V C).heap[b]?=z.w.heap[b]? from setRow_other _ _ _ _ (λe => U e.symm)).trans (by rw[h2, tR]), by rw[h3, tR], λi k' al X => by
      by_cases aa:j=i
      · subst aa
        rw[tB ae] at X
        cases X
        obtain⟨m, b2, a6, e1, e2, e3, e4, e5, e6, e7, e8⟩ := h4 j q cs hj
        rw[k1] at e4;cases e4
        refine⟨m, V, C, e1, e2, e3, k1, e5, setRow_heap _ _ _ _ _ _ k3, by rw[Z, k4, tR], λi c J => ?_⟩
        rw[a7]
        by_cases F:k=i
        · subst F
          rw[tB ah] at J
          cases J
          exact⟨v, qy rfl, T, ad.mono (λb M => I.blk b (.inl M)) I.S⟩
        · rw[tJ F] at J
          obtain⟨u, f1, f2, f3⟩ := k5 i c J
          exact⟨u, by rw[qx F];exact f1, f2, f3.mono (λb M => I.blk b (.inl M)) I.S⟩
      · rw[tJ aa] at X
        obtain⟨m, b2, a6, e1, e2, e3, e4, e5, e6, e7, e8⟩ := h4 i k' al X
        refine⟨m, b2, a6, e1, e2, e3, e4, e5, ?_, e7, λi' c J => by
          obtain⟨u, f1, f2, f3⟩ := e8 i' c J
          exact⟨u, f1, f2, f3.mono (λb M => I.blk b (.inl M)) I.S⟩⟩
        have U:V≠b2 := λe => aa (((B.ext id _ j V 1 A k1).2.2.2.2 id _ i 1 A (by rw[e];exact e4)).2).symm
        exact(show(z.w.setRow V C).heap[b2]?=z.w.heap[b2]? from setRow_other _ _ _ _ (λe => U e.symm)).trans e6⟩)
  unfold Oper.wp execOp
  rw[ho]
  simp only[k2, ai, Sem.run_bind, a0, Result.andThen_ok, Sem.run_pure]
  exact hK undef _ af.1 af.2 (by simp only[hH];exact DG _ _ _) hn (.any _)
theorem iu{α:Type}{row:α→List RV}{t kt et:TypeId}{x i y:Operand}{id g ve id' g':Nat}{e:TypeId}{m:List (Int × α)}{k:Int}{a:α}(ho:o.op=.mapUpdate t x i y∨o.op=.insert t x i y)(ht:P.underlying t=some (.map kt et))(hk:P.underlying kt=some (.int .i64))
  (hx:Ev c R x (.mref id g)) (hi:Ev c R i (.r (.int .i64 k))) (hy:Ev c R y (.ptr id' g' 0 0)) (hh:hget h id=some (.mb g ve e (AK row m))) (hb:hget h id'=some (.box g' e ((row a).map .r))) :
  Bc P c o R h n .any ((id,some (.mb g n e (AK row (Ah m k a))))::(id',none)::h) (n+1):=by
 intro hc z w A hH hn he K Q hK
 have l:z.H id=some (.mb g ve e (AK row m)):=by rw[hH];exact hh
 have q:z.H id'=some (.box g' e ((row a).map .r)):=by rw[hH];exact hb
 have ac:id≠id':=λe=>by rw[e] at l;rw[l] at q;cases q
 obtain⟨b,es,Z,h2,h3,h4,h0,h5⟩:=WZ A l (hx.rep he hc)
 obtain⟨bb,ad,p1,p2,p3,p4,p5⟩:=Hb A q (hy.rep he hc)
 have I:=hi.rep he hc
 generalize ae:w.eval i=iv at I
 cases I with
 | r I=>
  cases I with
  | int=>
   have O:=(A.own id _ b 1 l Z).1
   have a0:=(A.own id' _ bb 1 q p1).1
   have T:b≠bb:=λe=>ac (A.inj id id' _ _ b 1 1 l q Z (by rw[e];exact p1))
   obtain⟨q1,q2,q3⟩:=XO h3 k (w.eval y) (row a)
   rw[P1] at q1 q2 q3
   rw[Le] at q1 q2 q3
   generalize af:Er es k (Ak m k) (w.eval y)=F at q1 q2 q3
   have U:∀j J c,z.K id j=some (J,c)→J≠bb:=λj J c ag e=>(A.ext id _ j J c l ag).2.2.2.1 id' _ 1 q (by rw[e];exact p1)
   have a7:=qH A id id' (.mb g z.n e (AK row (Ah m k a))) { z.w with heap:=z.w.heap.setIfInBounds b (.map F.toArray F.length) } (some (b,1)) (λj=>if j=Au m k then some (bb,1) else z.K id j) (z.n+1) (by simp) rfl rfl rfl
    (λJ _ ah=>by
     have:b≠J:=λe=>ah id _ (.inl rfl) l (.inl ⟨1,by rw[← e];exact Z⟩)
     simp[this])
    (λJ V E=>by cases E;exact⟨by simpa using O,.inr ⟨id,_,.inl rfl,l,.inl ⟨1,Z⟩⟩⟩)
    (λj J V E=>by
     split at E
     ·rename_i hj
      cases E
      refine⟨⟨by simpa using a0,.inr ⟨id',_,.inr rfl,q,.inl ⟨1,p1⟩⟩⟩,λk2 B=>by cases B;exact T rfl,λj2 k2 B=>?_⟩
      split at B
      ·rename_i ai;rw[ai,hj]
      ·exact absurd rfl (U j2 _ k2 B)
     ·rename_i hj
      have a1:=A.ext id _ j J V l E
      refine⟨⟨by simpa using a1.1,.inr ⟨id,_,.inl rfl,l,.inr ⟨j,V,E⟩⟩⟩,λk2 B=>by cases B;exact a1.2.2.2.1 id _ 1 l Z,λj2 k2 B=>?_⟩
      split at B
      ·cases B;exact absurd rfl (U j _ V E)
      ·exact(a1.2.2.2.2 id _ j2 k2 l B).2)
    (uD _) (uh (A.obj _ _ l).1) (λ_=>⟨_,l,rfl,rfl,Z.symm⟩) (λ_ _ hv=>absurd hv (by simp[Af.ver]))
    (λM=>⟨tA _,b,F,rfl,by simp[Cx.tk,O,q2],q2,λj V a8 hj=>by
     obtain⟨mm,e1,e2,e3,e4⟩:=q3 j V a8 hj
     have aa:∀b2,b2≠b→(z.tk id id' (.mb g z.n e (AK row (Ah m k a))) { z.w with heap:=z.w.heap.setIfInBounds b (.map F.toArray F.length) } (some (b,1)) (λj=>if j=Au m k then some (bb,1) else z.K id j) (z.n+1)).w.heap[b2]?=z.w.heap[b2]?:=λb2 aj=>by simp[Cx.tk,(uN aj)]
     rcases e4 with ⟨C,rfl,rfl,e⟩ | ⟨C,ak,f1,f2⟩
     ·have a2:j=Au m V:=by
       unfold Au
       rcases C with C | ⟨C,rfl⟩
       ·rw[C];rfl
       ·rw[C];simp[RP]
      refine⟨mm,bb,ad,e1,e2,e3,qy a2,by rw[e];exact p2,(aa bb (uN T)).trans p3,by rw[p4];simp,λi c a6=>?_⟩
      obtain⟨u,g1,g2,g3⟩:=p5 i (.r c) (by rw[rG,a6];rfl)
      cases g3 with
      | r g3=>exact⟨u,g1,g2,g3.mono (λb hb=>M.blk b (.inl hb)) M.S⟩
     ·obtain⟨b2,ab,g1,g2,g3,g4,g5⟩:=h5 j V a8 mm f1 f2
      have a2:j≠Au m k:=λe=>by
       unfold Au at e
       cases hq:Ak m k with
       | none=>rw[hq] at e;simp at e;rw[RP] at ak;omega
       | some j0=>rw[hq] at e C;simp at e;exact C (by rw[e])
      refine⟨mm,b2,ab,e1,e2,e3,(qx a2).trans g1,g2,(aa b2 λe=>(A.ext id _ j b2 1 l g1).2.2.2.1 id _ 1 l (by rw[e];exact Z)).trans g3,g4,λi c a6=>?_⟩
      obtain⟨u,k1,k2,k3⟩:=g5 i c a6
      exact⟨u,k1,k2,k3.mono (λb hb=>M.blk b (.inl hb)) M.S⟩⟩)
   have X:=RC h3 ht hk h4 k (w.eval y)
   rw[Le,af] at X
   unfold Oper.wp execOp
   rcases ho with ho | ho<;>
   ·rw[ho]
    simp only[h2,ae,Sem.run_bind,X,Result.andThen_ok,Sem.run_pure]
    exact hK undef _ a7.1 a7.2 (by rw[← gh,← hH,← hn];rfl) (by show z.n+1=n+1;rw[hn]) (.any _)
end
end Go.Proofs.YtifgmfoihehlbaaGreatDoor.Al

namespace Go.Proofs.YtifgmfoihehlbaaGreatDoor.Al
open Go.ChangeMaps (setBlock)
open Go.MapKept Go.RowKit
theorem Qg{α:Type} m k(v:α):Ak (Ah m k v) k=some (Au m k):=by
 unfold Au
 cases h:Ak m k with
 | none=>
  rw[(Eu h).2]
  have:∀(l:List (Int × α)),Ak l k=none→Ak (l++[(k,v)]) k=some l.length:=by
   intro l
   induction l with
   | nil=>intro _;simp[Ak]
   | cons p r A=>
    intro h
    unfold Ak at h
    split at h
    ·cases h
    ·rename_i B
     have q:Ak r k=none:=by cases C:Ak r k with | none=>rfl | some j=>rw[C] at h;cases h
     show(if k=p.1 then some 0 else(Ak (r++[(k,v)]) k).map (· + 1))=_
     rw[qx B,A q];simp
  rw[this m h];rfl
 | some j=>
  obtain⟨w,E,q,F⟩:=Dd h
  have:=Vk (w:=v) q k
  rw[this,h];rfl
theorem HT{α:Type} m k(v:α):AU (Ah m k v) k=some v:=by
 induction m with
 | nil=>simp[Ah,AU]
 | cons p r j=>
  unfold Ah
  split
  ·simp[AU]
  ·rename_i l
   show(if k=p.1 then some p.2 else AU (Ah r k v) k)=_
   rw[qx l,j]
theorem nq{α:Type}{l:List (Int × α)}{k}{j}(h:Ak l k=some j):Ak (l.take j) k=none:=by
 induction l generalizing j with
 | nil=>cases h
 | cons p r m=>
  unfold Ak at h
  split at h
  ·cases h;rfl
  ·rename_i q
   rw[rK] at h
   obtain⟨A,w,rfl⟩:=h
   rw[List.take_succ_cons]
   unfold Ak
   rw[qx q,m w];rfl
section
variable{P:Program}{c:Bool}{o:Oper}{R:As}{h:Aj}{n:Nat}
def WJ(hole:Option (Nat × Bool))(a b:Nat):Prop:=match hole with
 | some (j,true)=>a=b+1∧j=b
 | _=>a=b
def JM(x:Cx)(id j:Nat)(e:TypeId)(sz:Nat)(xs:List (List RV))(l cap:Nat)(us:List Value):Prop:=
 (∀row∈xs,row.length=sz)∧x.K id j=some (l,cap)∧x.w.ownsRow 0 e sz (.slice (some ⟨l,0,none⟩) xs.length cap) xs.length us∧∀i row c d,xs[i]?=some row→row[c]?=some d→∃u,us[i * sz+c]?=some u∧BG x.w x.S d u
theorem Iw{x:Cx}(A:x.ok){id g B}{e}{sz}{hole}{l:List (Int × List (List RV))}(C:x.H id=some (.mr g B e sz hole l)) :
  0<sz∧B<x.n∧∃(b:Nat) (q:List MapEntry),x.β id=some (b,1)∧x.w.heap[b]?=some (.map q.toArray q.length)∧WJ hole l.length q.length ∧
   ∀(j:Nat) (k:Int) (xs:List (List RV)),l[j]?=some (k,xs)→∃w cap us,JM x id j e sz xs w cap us∧(hole=some (j,true)∨∃m,q[j]?=some m∧m.key=.int .i64 k∧m.born=j∧(hole=some (j,false)∨m.val=.slice (some ⟨w,0,none⟩) xs.length cap)):=by
 obtain⟨_,E,F,b,q,I,J,M,O⟩:=A.obj _ _ C
 exact⟨E,F,b,q,I,J,M,λj k xs T=>by
  obtain⟨U,w,cap,us,V,X,Z,e5⟩:=O j k xs T
  exact⟨w,cap,us,⟨U,V,X,Z⟩,e5⟩⟩
theorem VU{x:Cx}{id g q b}{e}{sz}{hole}{l}{v}(w:x.H id=some (.mr g q e sz hole l))(j:AX x (.mref id g) v)(A:x.β id=some (b,1)):v=.map (some b):=by
 cases j with
 | mref _ _ j=>
  obtain⟨C,cap,m,B⟩:=j _ w rfl
  rw[A] at m
  simp only[rE,rJ] at m
  obtain⟨rfl,rfl⟩:=m
  exact B
theorem YF{g v}{e}{sz}{hole}{l} k:Ak (Af.mr g v e sz hole l).kshape k=Ak l k:=T3 (λp:Int × List (List RV)=>(p.1,some p.2.length)) (λ_=>rfl) l k
theorem UU{x:Cx}(w:x.ok){id g C}{e}{sz}{hole}{l}{k}{v:Value}(B:x.H id=some (.mr g C e sz hole l))(M:v.oneCell'=true)
 (O:Ak l k=none→v=.slice none 0 0) (T:∀j A b c, Ak l k=some j→l[j]?=some (k, A)→x.K id j=some (b, c)→v=.slice (some ⟨b, 0, none⟩) A.length c):AX x (.fo id g C k) v := by
  obtain⟨Z, U, _⟩ := Iw w B
  refine .fo (w.obj _ _ B).1 U M λo E _ hg V => ?_
  rw[B] at E;cases E
  rw[YF]
  refine⟨O, λj q m b c F I X => ?_⟩
  obtain⟨A, J, _⟩ := Dd F
  simp only[Af.kshape, rG, J, sK, rE, rJ] at I
  rw[← I.2]
  exact T j A b c F J X
theorem NS{x:Cx}(w:x.ok){id g B}{e}{sz}{hole}{l}{k}{v}(C:x.H id=some (.mr g B e sz hole l))(J:AX x (.fo id g B k) v) :
  (Ak l k=none∧v=.slice none 0 0∧AU l k=none)∨∃j xs m cap us,Ak l k=some j∧AU l k=some xs∧l[j]?=some (k,xs)∧JM x id j e sz xs m cap us∧v=.slice (some ⟨m,0,none⟩) xs.length cap:=by
 obtain⟨T,_,b,U,V,X,Z,M⟩:=Iw w C
 cases J with
 | fo _ _ _ hp=>
  obtain⟨E,F⟩:=hp _ C rfl rfl rfl
  rw[YF] at E F
  cases q:Ak l k with
  | none=>exact .inl ⟨rfl,E q,(Eu q).1⟩
  | some j=>
   obtain⟨xs,A,O,_⟩:=Dd q
   obtain⟨m,cap,us,I,_⟩:=M j k xs A
   exact .inr ⟨j,xs,m,cap,us,rfl,O,A,I,F j k xs.length m cap q (by simp[Af.kshape,A]) I.2.1⟩
theorem kG{t} id e sz(B:o.op=.makeMap t none)(hsz:Nat.blt 0 sz=true):Bc P c o R h n (.mref id n) ((id,some (.mr n n e sz none []))::h) (n+1):=by
 intro M z w q C A O K Q E
 have l:=Jo q id (.mr z.n z.n e sz none []) (z.w.alloc (.map #[] 0)) (some (z.w.heap.size,1)) (λ_=>none) (z.n+1) (by simp) rfl rfl rfl
  (λb m _=>heap_alloc_old _ _ m) (λb k m=>by cases m;simp) (λj b k m=>by cases m) (by omega) (by simp[Af.gen]) (λhg=>absurd hg (by simp[Af.gen,Af.isCal])) (λ_ hg=>absurd hg (by simp[Af.gen]))
  (λF=>⟨DL hsz,tA _,z.w.heap.size,[],rfl,heap_alloc_new _ _,rfl,λj k d I=>by simp at I⟩)
 unfold Oper.wp execOp
 rw[B]
 simp only[tv,Sem.run_bind,run_makeMap,Result.andThen_ok,Sem.run_pure]
 refine E (.map (some z.w.heap.size)) _ l.1 l.2 (by simp only[C,A];exact DG _ _ _) (by simp[A]) (.mref (by simp[A]) rfl λT J _=>?_)
 exact⟨z.w.heap.size,1,by simp,rfl⟩
theorem qk{x}{id}{e}{sz}{l:List (Int × List (List RV))}{w:List MapEntry}(B:l.length=w.length)
 (C:∀(j:Nat) (k:Int) (q:List (List RV)), l[j]?=some (k, q)→∃A cap E, JM x id j e sz q A cap E∧(none=some (j, true)∨∃m, w[j]?=some m∧m.key=.int .i64 k∧m.born=j∧(none=some (j, false)∨m.val=.slice (some ⟨A, 0, none⟩) q.length cap))):Fm l w :=
  ⟨B.symm, λj k q F => by
    obtain⟨_, _, _, _, e | ⟨m, I, J, M, _⟩⟩ := C j k q F
    · cases e
    · exact⟨m, I, J, M⟩⟩
theorem pD{t kt et}{x i}{id g ve}{e}{sz}{l}{k}(ho:o.op=.lookup t x i false)(ht:P.underlying t=some (.map kt et))
 (hk:P.underlying kt=some (.int .i64)) (hz:∀w, (zeroValue et).run P w=.ok (.slice none 0 0) w) (hx:Ev c R x (.mref id g)) (hi:Ev c R i (.r (.int .i64 k))) (hh:hget h id=some (.mr g ve e sz none l)) :
    Ad P c o R h (.fo id g ve k) := by
  intro hc y w F hH he
  have q:y.H id=some (.mr g ve e sz none l) := by rw[hH];exact hh
  obtain⟨h0, hv, b, es, h1, h2, h3, h4⟩ := Iw F q
  have J := VU q (hx.rep he hc) h1
  have M := qk h3 h4
  have C := hi.rep he hc
  generalize O:w.eval i=iv at C
  cases C with
  | r C =>
    cases C with
    | int =>
      have T:∀E:World, Dj y E→E.heap[b]?=some (.map es.toArray es.length) := λE A => by rw[A b (.inr ⟨id, _, 1, q, .inl h1⟩)];exact h2
      cases I:Ak l k with
      | none =>
        refine⟨.slice none 0 0, λE A => ?_, UU F q rfl (λ_ => rfl) λj xs b c B => by rw[I] at B;cases B⟩
        simp only[execOp, ho, J, O, Sem.run_bind, Ml M ht hk (T E A) k _ (hz E) false, I, Result.andThen_ok, Sem.run_pure]
        simp
      | some j =>
        obtain⟨xs, e1, _⟩ := Dd I
        obtain⟨bb, cap, us, k1, U⟩ := h4 j k xs e1
        rcases U with U | ⟨m, U, k3, k4, Z | Z⟩
        · cases U
        · cases Z
        · refine⟨m.val, λE A => ?_, UU F q (by rw[Z];rfl) (λhn => by rw[I] at hn;cases hn) λj2 a0 b2 c2 B V X => ?_⟩
          · simp only[execOp, ho, J, O, Sem.run_bind, Ml M ht hk (T E A) k _ (hz E) false, I, U, Result.andThen_ok, Sem.run_pure]
            simp
          · rw[I] at B;cases B
            rw[e1] at V;cases V
            rw[k1.2.1] at X;cases X
            exact Z
theorem eK{t}{e e'}{sz m}{x}{id g C}{hole}{l}{k}(F:o.op=.call { callee := .builtin .len, args := #[x], argTypes := #[t] })(E:Ej P t e sz)
 (I:Ev c R x (.fo id g C k)) (J:hget h id=some (.mr g C e' m hole l)):Ad P c o R h (.r (.int .i64 ((AU l k).getD []).length)) := by
  intro M z w q O T
  refine⟨.int .i64 ((AU l k).getD []).length, λV U => ?_, .r (.int _ _)⟩
  unfold execOp
  rw[F]
  rcases NS q (by rw[O];exact J) (I.rep T M) with ⟨_, A, B⟩ | ⟨j, X, Z, cap, us, _, B, _, _, A⟩
  · rw[B];simp[resolve, invoke, builtin, A, Builtin.len_, run_underlying E.1, goInt]
  · rw[B];simp[resolve, invoke, builtin, A, Builtin.len_, run_underlying E.1, goInt]
theorem Zt{t e e'}{sz}{x y}{id g B}{hole}{l}{k}{kd}{z:Int}{row}(ho:o.op=.indexAddr t x y)(ht:Ej P t e sz)(hx:Ev c R x (.fo id g B k))
 (hh:hget h id=some (.mr g B e' sz hole l)) (hy:Ev c R y (.r (.int kd z))) (hi:c=true→AL ((AU l k).getD []) z=some row):Ad P c o R h (.pk id g B (Au l k) (z.toNat * sz)) := by
  intro I q w J hH he
  obtain⟨M, ii, O, T⟩ := ht
  have C:q.H id=some (.mr g B e' sz hole l) := by rw[hH];exact hh
  have A := FA (hi I)
  have hv := hx.rep he I
  have E:g<q.n∧B<q.n := by cases hv with | fo U V _ _ => exact⟨U, V⟩
  rcases NS J C hv with ⟨_, _, X⟩ | ⟨j, xs, bb, cap, us, U, X, h4, h5, V⟩
  · rw[X] at A;simp at A
  · rw[X] at A
    have hD:Au l k=j := by unfold Au;rw[U];rfl
    have Z := A.1
    have F:z<xs.length := A.2.2
    refine⟨.pointer (some ⟨bb, z.toNat * sz, none⟩), λw2 a0 => ?_, .pk E.1 E.2 rfl λo' b c q' m a1 _ _ _ hs hK => ?_⟩
    · unfold execOp
      rw[ho]
      simp[V, Cy (hy.rep he I), Instr.indexAt, asIntOf, run_underlying M, Z, F, D8 O, T, Addr.add_lit]
    · rw[hD, h5.2.1] at hK;cases hK;rfl
theorem Z6{x:Cx}{q:World}(m:Dj x q){id j l cap}{o}(B:x.H id=some o){e}{sz}{xs}{us:List Value}(w:JM x id j e sz xs l cap us){i}(A:i<us.length):q.cell? ⟨l,i,none⟩=us[i]?:=by
 have C:x.w.cell? ⟨l,i,none⟩=us[i]?:=by
  have:=w.2.2.1.cells (by rfl) i us[i] (rA A)
  rw[Addr.add_lit,rl] at this
  rw[this,rA A]
 rw[← C]
 exact World.cell?_of_block (m l (.inr ⟨id,_,cap,B,.inr ⟨j,w.2.1⟩⟩))
theorem ly{t}{x}{id g M}{e}{sz}{hole}{l}{k z:Int}{row:List RV}(ho:o.op=.load t x)(ht:Bq P t sz)(hx:Ev c R x (.pk id g M (Au l k) (z.toNat * sz)))(hh:hget h id=some (.mr g M e sz hole l))
 (hi:c=true→AL ((AU l k).getD []) z=some row):Ad P c o R h (.agg (row.map .r)) := by
  intro hc q w O hH he
  have m:q.H id=some (.mr g M e sz hole l) := by rw[hH];exact hh
  have C := FA (hi hc)
  have hv := hx.rep he hc
  have hg:∃B, AU l k=some B := by
    cases hg:AU l k with
    | none => rw[hg] at C;simp at C
    | some B => exact⟨B, rfl⟩
  obtain⟨B, hg⟩ := hg
  rw[hg] at C
  obtain⟨J, E⟩ := KY hg
  obtain⟨h0, _, b, es, h1, h2, h3, h4⟩ := Iw O m
  obtain⟨bb, cap, F, I, _⟩ := h4 _ k B E
  have A:B[z.toNat]?=some row := C.2.1
  have T:row.length=sz := I.1 row (rX A)
  have U:w.eval x=.pointer (some ⟨bb, z.toNat * sz, none⟩) := by
    generalize w.eval x=v at hv
    cases hv with
    | pk _ _ _ hp => exact hp _ bb cap k B.length m rfl rfl rfl (by simp[Af.kshape, E]) I.2.1
  have V:F.length=B.length * sz := I.2.2.1.1
  have X:z.toNat<B.length := (rC.1 A).1
  have a0:z.toNat * sz+sz≤F.length := by
    rw[V]
    have := rz sz (show z.toNat+1≤B.length from X)
    rwa [so, tO] at this
  refine⟨.agg ((List.range sz).map λj => F.getD (z.toNat * sz+j) undef).toArray, λw2 Z => ?_, Jk (by simpa using T) _ λj a J => ?_⟩
  · unfold execOp
    rw[ho]
    simp[U, Jg ht (λj => F.getD (z.toNat * sz+j) undef) (λj J => by
      have:z.toNat * sz+j<F.length := by omega
      rw[Z6 Z m I this]
      simp[this])]
  · rw[rG, rK] at J
    obtain⟨d, hd, rfl⟩ := J
    obtain⟨u, e1, e2⟩ := I.2.2.2 _ row j d A hd
    simpa[e1] using(AX.r e2:AX q (.r d) u)
end
end Go.Proofs.YtifgmfoihehlbaaGreatDoor.Al

namespace Go.Proofs.YtifgmfoihehlbaaGreatDoor.Al
open Go.ChangeMaps (setBlock)
open Go.MapKept Go.RowKit
section
variable{P:Program}{c:Bool}{o:Oper}{R:As}{h:Aj}{n:Nat}
theorem ed{x:Cx}{t e}{sz q}(X:B4 P t e sz q){xs ys:List (List RV)}{us}{v u:Value}(l:x.w.ownsRow 0 e sz v xs.length us)
 (B:OA x u sz ys) (Z:xs.length+ys.length≤maxLen) (hb:(xs.length+ys.length) * q≤140737488355328) (U:TypeId) :
    ∃(A:Value) (w':World) (j:List Value), (Builtin.append_ #[t, t] U #[v, u]).run P x.w=.ok A w'∧w'.ownsRow 0 e sz A (xs.length+ys.length) (us++j)∧x.w.grownBy w' v.ownBlock ∧
      (A.ownBlock=v.ownBlock∨A.ownBlock=some x.w.heap.size)∧j.length=ys.length * sz∧∀i row k d, ys[i]?=some row→row[k]?=some d→∃u, j[i * sz+k]?=some u∧BG x.w x.S d u := by
  obtain⟨w, ii, z, M, C, E, hz, O, _, h0⟩ := X
  rcases B with ⟨hy, cc, rfl⟩ | ⟨a, cap, j, rfl, V, m, F, I⟩
  · subst hy
    refine⟨v, x.w, [], ?_, by simpa using l, ⟨rfl, rfl, rfl, q9 _, λ_ _ _ => rfl⟩, .inl rfl, by simp, by simp⟩
    rcases l.2 with ⟨rfl, h1⟩ | ⟨g, cap, a0, rfl, _, _, T, _⟩
    · simp[Builtin.append_, run_underlying w, sizeOf, typeInfo, M, Builtin.lenOf, Builtin.firstCells]
    · simp[Builtin.append_, run_underlying w, sizeOf, typeInfo, M, Builtin.lenOf, Builtin.firstCells, T, storeCells]
  · obtain⟨A, w', J, k1, k2, _, k4⟩ := run_append_own_at (P := P) x.w 0 t U e ii z sz q w M hz C E O h0 v xs.length us l a ys.length cap j V m F Z hb (si _)
    exact⟨A, w', j, J, k1, k2, k4, V, I⟩
theorem im{w w':World}{e}{sz q len cap m}{us}(h:w.ownsRow 0 e sz (.slice (some ⟨q,0,none⟩) len cap) m us)(C:w'.heap[q]?=w.heap[q]?):w'.ownsRow 0 e sz (.slice (some ⟨q,0,none⟩) len cap) m us:=by
 obtain⟨E,A⟩:=h
 refine⟨E,?_⟩
 rcases A with A | ⟨F,l,B,j,I,J,M,O,T,U⟩
 ·exact .inl A
 ·refine .inr ⟨F,l,B,j,I,?_,M,O,T,U⟩
  rw[← J]
  simp only[Value.slice.injEq,rE,Addr.mk.injEq] at j
  rw[← j.1.1]
  exact C
theorem JM.keep{x y:Cx}(l:x.le y){id j}{e}{sz}{xs}{m cap}{us}(h:JM x id j e sz xs m cap us)(w:y.K id j=x.K id j)(q:y.w.heap[m]?=x.w.heap[m]?):JM y id j e sz xs m cap us:=
 ⟨h.1,w.trans h.2.1,im h.2.2.1 q,λi row c d A B=>by
  obtain⟨u,C,E⟩:=h.2.2.2 i row c d A B
  exact⟨u,C,E.mono (λb q=>l.blk b (.inl q)) l.S⟩⟩
theorem Ci.mr{y:Cx}{id g C}{κ}(E:∀j, y.K id j=κ j){e}{sz}{hole}{l:List (Int × List (List RV))}{b}{q:List MapEntry}(F:0<sz)(I:C<y.n)(J:y.w.heap[b]?=some (.map q.toArray q.length))(M:WJ hole l.length q.length)
 (O:∀(j:Nat) (k:Int) (w:List (List RV)), l[j]?=some (k, w)→∃A cap B, JM y id j e sz w A cap B∧(hole=some (j, true)∨∃m, q[j]?=some m∧m.key=.int .i64 k∧m.born=j∧(hole=some (j, false)∨m.val=.slice (some ⟨A, 0, none⟩) w.length cap))) :
    Ci y (some (b, 1)) κ (.mr g C e sz hole l) :=
  ⟨F, I, b, q, rfl, J, M, λj k w T => by
    obtain⟨A, cap, B, ⟨U, V, X, Z⟩, e5⟩ := O j k w T
    exact⟨U, A, cap, B, (E j).symm.trans V, X, Z, e5⟩⟩
theorem nk{t e}{sz ak}{s x}{id g ve}{l:List (Int × List (List RV))}{k}{ys:List (List RV)}(ho:o.op=.call { callee := .builtin .append, args := #[s, x], argTypes := #[t, t] })(ht:B4 P t e sz ak)
 (hs:Ev c R s (.fo id g ve k)) (hh:hget h id=some (.mr g ve e sz none l)) (hx:KW c R h x sz ys) (aw:ys.isEmpty=false) (hm:(((AU l k).getD []).length+ys.length) * ak≤140737488355328) (ax:((AU l k).getD []).length+ys.length≤9223372036854775807) :
    Bc P c o R h n (.fo id g n k) ((id, some (.mr g n e sz (some (Au l k, (AU l k).isNone)) (Ah l k ((AU l k).getD []++ys))))::h) (n+1) := by
  intro hc z w C hH hn he K Q hK
  have A:z.H id=some (.mr g ve e sz none l) := by rw[hH];exact hh
  have ay := hs.rep he hc
  obtain⟨h0, hv, b, es, h1, h2, h3, h4⟩ := Iw C A
  obtain⟨al, ac⟩ := hx.src h0 hc C hH he
  have az := (C.obj _ _ A).1
  obtain⟨O, us, b0, ad, b4, a7, a8⟩:∃(O:List (List RV)) (us:List Value), (AU l k).getD []=O∧(∀row ∈ O, row.length=sz)∧(∀i row c d, O[i]?=some row→row[c]?=some d→∃u, us[i * sz+c]?=some u∧BG z.w z.S d u) ∧
      z.w.ownsRow 0 e sz (w.eval s) O.length us∧∀bb, (w.eval s).ownBlock=some bb→∃cap, z.K id (Au l k)=some (bb, cap) := by
    rcases NS C A ay with ⟨k1, k2, Z⟩ | ⟨j, O, bb, cap, us, k1, k2, Z, k4, k5⟩
    · refine⟨[], [], by rw[Z];rfl, by simp, by simp, by rw[k2];exact World.ownsRow_nil _ _ _ _, λbb hb => by rw[k2] at hb;cases hb⟩
    · refine⟨O, us, by rw[k2];rfl, k4.1, k4.2.2.2, by rw[k5];exact k4.2.2.1, λb2 hb => ?_⟩
      rw[k5] at hb
      simp only[Value.ownBlock, rE] at hb
      subst hb
      exact⟨cap, by unfold Au;rw[k1];exact k4.2.1⟩
  rw[b0] at hm ax hK
  obtain⟨v', w', an, ao, T, U, ae, bg, af⟩ := ed (P := P) ht a7 al (by unfold maxLen;omega) hm o.type
  have bh:0<ys.length := by cases ys with | nil => cases aw | cons _ _ => simp
  obtain⟨E, X, ag⟩:∃E X, v'=.slice (some ⟨E, 0, none⟩) (O.length+ys.length) X := by
    rcases T.2 with ⟨_, hr⟩ | ⟨gg, cap, bi, ag, _⟩
    · omega
    · exact⟨gg, cap, ag⟩
  subst ag
  have aq:E<w'.heap.size := (T.lt E rfl).2
  have M:z.w.heap.size≤E∨∃cap, z.K id (Au l k)=some (E, cap) := by
    rcases ae with B | B
    · have b5:(w.eval s).ownBlock=some E := B.symm
      exact .inr (a8 E b5)
    · simp only[Value.ownBlock, rE] at B
      exact .inl (by omega)
  have V:∀b2, b2<z.w.heap.size→(∀cap, z.K id (Au l k)≠some (b2, cap))→w'.heap[b2]?=z.w.heap[b2]? := λb2 F b6 => U.block b2 F λB => by
    obtain⟨cap, e2⟩ := a8 b2 B.symm
    exact b6 cap e2
  have aa:∀cap, z.K id (Au l k)≠some (b, cap) := λcap B => (C.ext id _ _ b cap A B).2.2.2.1 id _ 1 A h1
  have ab := (C.own id _ b 1 A h1).1
  have ah := Jo C id (.mr g z.n e sz (some (Au l k, (AU l k).isNone)) (Ah l k (O++ys))) w' (some (b, 1)) (λj => if j=Au l k then some (E, X) else z.K id j) (z.n+1) U.size U.os U.tape U.output
    (λb2 F b7 => V b2 F λcap B => b7 _ A (.inr ⟨_, cap, B⟩))
    (λb2 k2 F => by cases F;exact⟨rD ab U.size, .inr ⟨_, A, .inl ⟨1, h1⟩⟩⟩)
    (λj b2 k2 F => by
      split at F
      · rename_i J
        cases F
        refine⟨⟨aq, M.imp _root_.id λ⟨cap, B⟩ => ⟨_, A, .inr ⟨_, cap, B⟩⟩⟩, λZ I => ?_, λj3 Z I => ?_⟩
        · cases I
          rcases M with B | ⟨cap, B⟩
          · omega
          · exact aa cap B
        · split at I
          · rename_i a6;rw[a6, J]
          · rename_i a6
            have b8 := C.ext id _ j3 _ Z A I
            rcases M with B | ⟨cap, B⟩
            · omega
            · exact absurd (b8.2.2.2.2 id _ _ cap A B).2.symm a6
      · rename_i J
        have a0 := C.ext id _ j b2 k2 A F
        refine⟨⟨rD a0.1 U.size, .inr ⟨_, A, .inr ⟨j, k2, F⟩⟩⟩, λZ I => by cases I;exact a0.2.2.2.1 id _ 1 A h1, λj3 Z I => ?_⟩
        split at I
        · rename_i a6
          cases I
          rcases M with B | ⟨cap, B⟩
          · have := a0.1;omega
          · exact absurd (a0.2.2.2.2 id _ _ cap A B).2.symm J
        · exact(a0.2.2.2.2 id _ j3 Z A I).2)
    (uD _) (uh az) (λ_ => ⟨_, A, rfl, rfl, h1.symm⟩) (λ_ _ hv => absurd hv (by simp[Af.ver]))
    (λa1 => by
      refine Ci.mr (id := id) (λj => by simp) h0 (tA _) ((V b ab aa).trans h2) ?_ λj q rs J => ?_
      · cases hg:AU l k with
        | none =>
          have ar:Ak l k=none := by cases hq:Ak l k with | none => rfl | some j => obtain⟨_, _, e2, _⟩ := Dd hq;rw[hg] at e2;cases e2
          rw[(Eu ar).2]
          refine⟨by rw[rj, tD, show l.length=es.length from h3], ?_⟩
          unfold Au;rw[ar];exact h3
        | some r =>
          rw[Vv hg];exact h3
      ·
        have ai:(j=Au l k∧q=k∧rs=O++ys)∨(j≠Au l k∧l[j]?=some (q, rs)) := by
          cases hq:Ak l k with
          | none =>
            rw[(Eu hq).2] at J
            have hD:Au l k=l.length := by unfold Au;rw[hq];rfl
            by_cases b9:j<l.length
            · rw[rQ b9] at J
              exact .inr ⟨by omega, J⟩
            · have ba:j=l.length := by have := (rC.1 J).1;simp at this;omega
              rw[ba, rR (q9 _)] at J
              simp at J
              exact .inl ⟨by omega, J.1.symm, J.2.symm⟩
          | some j0 =>
            obtain⟨v0, f1, f2, f3⟩ := Dd hq
            have hD:Au l k=j0 := by unfold Au;rw[hq];rfl
            rw[f3] at J
            by_cases au:j0=j
            · rw[← au, tB (YN hq)] at J
              cases J
              exact .inl ⟨by omega, rfl, rfl⟩
            · rw[tJ au] at J
              exact .inr ⟨by omega, J⟩
        rcases ai with ⟨rfl, rfl, rfl⟩ | ⟨av, bc⟩
        · refine⟨E, X, us++an, ⟨λrow hr => (sU.1 hr).elim (ad row) (ac row), by simp, by rw[rj];exact T, λi row c d q1 q2 => ?_⟩, ?_⟩
          · have bd:us.length=O.length * sz := a7.1
            by_cases be:i<O.length
            · rw[rQ be] at q1
              obtain⟨u, q3, q4⟩ := b4 i row c d q1 q2
              exact⟨u, by rw[rQ ((rC.1 q3).1)];exact q3, q4.mono (λb hb => a1.blk b (.inl hb)) a1.S⟩
            · rw[rR (by omega)] at q1
              obtain⟨u, q3, q4⟩ := af _ row c d q1 q2
              refine⟨u, ?_, q4.mono (λb hb => a1.blk b (.inl hb)) a1.S⟩
              have B:i * sz+c=us.length+((i - O.length) * sz+c) := by
                rw[bd, Nat.sub_mul]
                have:O.length * sz≤i * sz := rz _ (by omega)
                omega
              rw[B, rR (by omega), Nat.add_sub_cancel_left]
              exact q3
          · cases hg:AU l q with
            | none => exact .inl rfl
            | some r =>
              right
              obtain⟨g1, g2⟩ := KY hg
              obtain⟨_, _, _, _, k5⟩ := h4 _ q r g2
              rcases k5 with k5 | ⟨m, k6, k7, k8, _⟩
              · cases k5
              · exact⟨m, k6, k7, k8, .inl rfl⟩
        · obtain⟨b2, a2, bf, Z, k5⟩ := h4 j q rs bc
          refine⟨b2, a2, bf, Z.keep a1 (by simp[av]) (V b2 (C.ext id _ j b2 a2 A Z.2.1).1 λcap B => av ((C.ext id _ _ b2 cap A B).2.2.2.2 id _ j a2 A Z.2.1).2), ?_⟩
          rcases k5 with k5 | ⟨m, k6, k7, k8, k9 | k9⟩
          · cases k5
          · cases k9
          · exact .inr ⟨m, k6, k7, k8, .inr k9⟩)
  unfold Oper.wp execOp
  simp only[ho, resolve, invoke, builtin, Sem.run_bind, Sem.run_pure, Result.andThen_ok, uk, rc, sx, ao]
  refine hK _ _ ah.1 ah.2 (by simp only[hH, hn];exact DG _ _ _) (by simp[hn]) ?_
  rw[← hn]
  refine UU ah.2 (qy rfl) rfl (λhq => by rw[Qg] at hq;cases hq) λj rs b2 c2 J hl aj => ?_
  rw[Qg] at J
  cases J
  have := (KY (HT l k (O++ys)))
  rw[Qg] at this
  rw[← (rW this.1)] at this
  rw[this.2] at hl
  cases hl
  simp at aj
  rw[← aj.1, ← aj.2, rj]
theorem lH{t kt et}{x i y}{id g ve}{e:TypeId}{sz}{l:List (Int × List (List RV))}{k}{j}{nw}(ho:o.op=.mapUpdate t x i y∨o.op=.insert t x i y)(ht:P.underlying t=some (.map kt et))(hk:P.underlying kt=some (.int .i64))
 (hx:Ev c R x (.mref id g)) (hi:Ev c R i (.r (.int .i64 k))) (hy:Ev c R y (.fo id g ve k)) (hh:hget h id=some (.mr g ve e sz (some (j, nw)) l)) (hj:Ak l k=some j) :
    Bc P c o R h n .any ((id, some (.mr g ve e sz none l))::h) n := by
  intro hc z w C hH hn he K Q hK
  have A:z.H id=some (.mr g ve e sz (some (j, nw)) l) := by rw[hH];exact hh
  obtain⟨h0, hv, b, M, h1, h2, h3, h4⟩ := Iw C A
  have a8 := VU A (hx.rep he hc) h1
  have a0 := (C.own id _ b 1 A h1).1
  rcases NS C A (hy.rep he hc) with ⟨k1, _⟩ | ⟨j', xs, bb, cap, us, k1, k2, k3, k4, k5⟩
  · rw[hj] at k1;cases k1
  rw[hj] at k1;cases k1
  have X := hi.rep he hc
  generalize aa:w.eval i=iv at X
  cases X with
  | r X =>
    cases X with
    | int =>
      obtain⟨I, B, a2, a6⟩:∃I:List MapEntry, (Instr.mapUpdate t (.map (some b)) (.int .i64 k) (w.eval y)).run P z.w=.ok () { z.w with heap := z.w.heap.setIfInBounds b (.map I.toArray I.length) } ∧ l.length=I.length ∧
          ∀(q:Nat) (E:Int) (rs:List (List RV)), l[q]?=some (E, rs)→∃m, I[q]?=some m∧m.key=.int .i64 E∧m.born=q∧(q=j∧m.val=w.eval y∨q≠j∧M[q]?=some m) := by
        cases nw with
        | true =>
          have T:l.length=M.length+1∧j=M.length := h3
          have Z:Fm (l.take j) M := ⟨by rw[sb];omega, λq E d F => by
            have ab:q<j := by have := (rC.1 F).1;rw[sb] at this;omega
            rw[sD, qy ab] at F
            obtain⟨_, _, _, _, e | ⟨m, O, e2, V, _⟩⟩ := h4 q E d F
            · simp only[rE, rJ] at e;omega
            · exact⟨m, O, e2, V⟩⟩
          have B := RC Z ht hk (b := b) (w := z.w) (by rw[h2, sb, show min j l.length=M.length by omega]) k (w.eval y)
          rw[nq hj] at B
          refine⟨_, B, by simp[Er];omega, λq E rs F => ?_⟩
          by_cases J:q=j
          · subst J
            rw[k3] at F;cases F
            exact⟨{ key := .int .i64 k, val := w.eval y, born := M.length }, by show(M++_)[q]?=_;rw[T.2, rR (q9 _)];simp, rfl, T.2.symm, .inl ⟨rfl, rfl⟩⟩
          · have ag := (rC.1 F).1
            obtain⟨_, _, _, _, e | ⟨m, O, e2, V, _⟩⟩ := h4 q E rs F
            · simp only[rE, rJ] at e;omega
            · exact⟨m, by show(M++_)[q]?=_;rw[rQ (by omega)];exact O, e2, V, .inr ⟨J, O⟩⟩
        | false =>
          have T:l.length=M.length := h3
          have Z:Fm l M := ⟨T.symm, λq E d F => by
            obtain⟨_, _, _, _, e | ⟨m, O, e2, V, _⟩⟩ := h4 q E d F
            · simp at e
            · exact⟨m, O, e2, V⟩⟩
          have B := RC Z ht hk (b := b) (w := z.w) (by rw[h2, T]) k (w.eval y)
          rw[hj] at B
          refine⟨_, B, by simp[Er];omega, λq E rs F => ?_⟩
          obtain⟨m, O, e2, V⟩ := Z.2 q E rs F
          by_cases J:q=j
          · subst J
            rw[k3] at F;cases F
            exact⟨{ m with key := .int .i64 k, val := w.eval y }, by show(M.modify q _)[q]?=_;rw[List.getElem?_modify_eq, O];rfl, rfl, V, .inl ⟨rfl, rfl⟩⟩
          · exact⟨m, by show(M.modify j _)[q]?=_;rw[List.getElem?_modify_ne (h := λe => J e.symm)];exact O, e2, V, .inr ⟨J, O⟩⟩
      have a7 := Jo C id (.mr g ve e sz none l) { z.w with heap := z.w.heap.setIfInBounds b (.map I.toArray I.length) } (some (b, 1)) (z.K id) z.n (by simp) rfl rfl rfl
        (λb' _ ac => by
          have:b≠b' := λe => ac _ A (.inl ⟨1, by rw[← e];exact h1⟩)
          simp[this])
        (λb' E ad => by cases ad;exact⟨by simpa using a0, .inr ⟨_, A, .inl ⟨1, h1⟩⟩⟩)
        (λj' b' E hb => ⟨⟨by simpa using(C.ext id _ j' b' E A hb).1, .inr ⟨_, A, .inr ⟨j', E, hb⟩⟩⟩, λk2 U => by cases U;exact(C.ext id _ j' b E A hb).2.2.2.1 id _ 1 A h1, λj2 k2 U => ((C.ext id _ j' b' E A hb).2.2.2.2 id _ j2 k2 A U).2⟩)
        (q9 _) (C.obj _ _ A).1 (λ_ => ⟨_, A, rfl, rfl, h1.symm⟩)
        (λ_ _ _ => ⟨_, A, rfl, rfl, rfl, rfl, rfl⟩)
        (λae => Ci.mr (id := id) (λj => by simp) h0 hv (by simp[a0]) (show l.length=I.length from a2) λq E rs F => by
          obtain⟨b2, a1, af, q3, q5⟩ := h4 q E rs F
          obtain⟨m, O, e2, V, e4⟩ := a6 q E rs F
          have U:b2≠b := λe => (C.ext id _ q b2 a1 A q3.2.1).2.2.2.1 id _ 1 A (by rw[e];exact h1)
          refine⟨b2, a1, af, q3.keep ae (by simp) (by simp[uN U]), .inr ⟨m, O, e2, V, .inr ?_⟩⟩
          rcases e4 with ⟨rfl, e4⟩ | ⟨J, e4⟩
          · rw[e4, k5]
            rw[k3] at F;cases F
            have e5 := q3.2.1
            rw[k4.2.1] at e5
            cases e5;rfl
          · rcases q5 with q5 | ⟨m', e5, _, _, q6 | q6⟩
            · simp only[rE, rJ] at q5;omega
            · simp only[rE, rJ] at q6;omega
            · rw[e4] at e5;cases e5;exact q6)
      unfold Oper.wp execOp
      rcases ho with ho | ho<;>
      · rw[ho]
        simp only[a8, aa, Sem.run_bind, B, Result.andThen_ok, Sem.run_pure]
        exact hK undef _ a7.1 a7.2 (by simp only[hH];exact DG _ _ _) hn (.any _)
end
end Go.Proofs.YtifgmfoihehlbaaGreatDoor.Al

namespace Go.Proofs.YtifgmfoihehlbaaGreatDoor.Al
open Go.ChangeMaps (setBlock)
open Go.MapKept Go.RowKit
def Ku{σ:Type}(key:σ→List Int)(ks:List Int)(F:σ→Int→Option σ)(l:σ)(k:Int):Option σ:=(F l k).bind λj=>if key j=ks then some j else none
def FO{σ:Type}(G:σ→Int→Option σ):List Int→σ→Option σ
 | [],j=>some j
 | k::ks,j=>(G j k).bind (FO G ks)
theorem Xu{σ:Type}(G:σ→Int→Option σ) l m(j:σ):FO G (l++m) j=(FO G l j).bind (FO G m):=by
 induction l generalizing j with
 | nil=>simp[FO]
 | cons a l q=>
  simp only[sc,FO]
  cases G j a with
  | none=>rfl
  | some s=>simpa using q s
def RT{σ ρ:Type}(key:σ→List Int)(F:σ→Int→Option σ)(st0:σ)(rest:σ→Option ρ)(r:ρ):Prop:=
 (key st0).Nodup∧∀l:List Int,l.Perm (key st0)→(FO (Ku key (key st0) F) l st0).bind rest=some r
open Classical in
noncomputable def MR{σ ρ:Type}(key:σ→List Int)(F:σ→Int→Option σ)(st0:σ)(rest:σ→Option ρ):Option ρ:=if h:∃r,RT key F st0 rest r then some h.choose else none
theorem lj{σ ρ:Type}{key:σ→List Int}{F:σ→Int→Option σ}{st0:σ}{rest:σ→Option ρ}{r:ρ}(h:MR key F st0 rest=some r):RT key F st0 rest r:=by
 unfold MR at h
 split at h
 ·rename_i j
  cases h
  exact j.choose_spec
 ·cases h
theorem mO{σ ρ:Type}{key:σ→List Int}{F:σ→Int→Option σ}{st0:σ}{rest:σ→Option ρ}{r:ρ}(h:RT key F st0 rest r):MR key F st0 rest=some r:=by
 have j:∃r,RT key F st0 rest r:=⟨r,h⟩
 unfold MR
 rw[tW j]
 have m:=j.choose_spec.2 (key st0) (List.Perm.refl _)
 have l:=h.2 (key st0) (List.Perm.refl _)
 rw[m] at l
 exact l
def Af.mkeys:Af→Option (List Int)
 | .md _ l=>some (l.map (·.1))
 | .mb _ _ _ l=>some (l.map (·.1))
 | .mr _ _ _ _ none l=>some (l.map (·.1))
 | _=>none
theorem n9{α β:Type}(rd:α→β)(m:List (Int × α)):(AK rd m).map (·.1)=m.map (·.1):=by simp[AK]
theorem TY{α:Type} g v e(row:α→List RV)(m:List (Int × α)):(Af.mb g v e (AK row m)).mkeys=some (m.map (·.1)):=by simp[Af.mkeys,n9]
theorem SG{x:Cx}(B:x.ok){id}{ob:Af}{ks:List Int}{v}(V:x.H id=some ob)(E:ob.mkeys=some ks)(X:AX x (.mref id ob.gen) v) :
  ∃(b:Nat) (q:List MapEntry),x.β id=some (b,1)∧v=.map (some b)∧x.w.heap[b]?=some (.map q.toArray ks.length)∧q.length=ks.length∧∀(j:Nat) (k:Int),ks[j]?=some k→∃m,q[j]?=some m∧m.key=.int .i64 k∧m.born=j:=by
 have C:∀b,x.β id=some (b,1)→v=.map (some b):=by
  intro b w
  cases X with
  | mref _ _ X=>
   obtain⟨b',cap,Z,k2⟩:=X _ V rfl
   rw[w] at Z
   simp only[rE,rJ] at Z
   obtain⟨rfl,rfl⟩:=Z
   exact k2
 cases ob with
 | md g l=>
  cases E
  obtain⟨_,b,q,w,F,I,J⟩:=B.obj _ _ V
  refine⟨b,q,w,C b w,by simpa using F,by simpa using I,λj k A=>?_⟩
  rw[rG,rK] at A
  obtain⟨p,hp,rfl⟩:=A
  obtain⟨m,M,O,T,_⟩:=J j p.1 p.2 hp
  exact⟨m,M,O,T⟩
 | mb g ve e l=>
  cases E
  obtain⟨_,_,b,q,w,F,I,J⟩:=B.obj _ _ V
  refine⟨b,q,w,C b w,by simpa using F,by simpa using I,λj k A=>?_⟩
  rw[rG,rK] at A
  obtain⟨p,hp,rfl⟩:=A
  obtain⟨m,_,_,M,O,T,_⟩:=J j p.1 p.2 hp
  exact⟨m,M,O,T⟩
 | mr g ve e sz hole l=>
  cases hole with
  | some _=>cases E
  | none=>
   cases E
   obtain⟨h0,a0,b,q,w,F,I,J⟩:=Iw B V
   have U:l.length=q.length:=I
   refine⟨b,q,w,C b w,by rw[F,rh,U],by simp[U],λj k A=>?_⟩
   rw[rG,rK] at A
   obtain⟨p,hp,rfl⟩:=A
   obtain⟨_,_,_,_,e | ⟨m,M,O,T,_⟩⟩:=J j p.1 p.2 hp
   ·cases e
   ·exact⟨m,M,O,T⟩
 | _=>cases E
theorem WE{x:Cx}(j:x.ok){id g mid mg len}{seen:List Nat}{v}(w:x.H id=some (.mj g mid mg len seen))(l:AX x (.ptr id g 0 0) v) :
  ∃b m:Nat,x.β id=some (b,1)∧v=.pointer (some ⟨b,0,none⟩)∧x.w.heap[b]?=some (.mapIter (some m) len seen.toArray len)∧AX x (.mref mid mg) (.map (some m)):=by
 obtain⟨_,b,m,A,B,C⟩:=j.obj _ _ w
 cases l with
 | ptr _ _ l=>
  obtain⟨F,cap,q,E⟩:=l _ w rfl
  rw[A] at q
  simp only[rE,rJ] at q
  obtain⟨rfl,rfl⟩:=q
  exact⟨b,m,A,by rw[E,uR],B,C⟩
section
variable{P:Program}{c:Bool}{o:Oper}{R:As}{h:Aj}{n:Nat}
theorem Zi{t I J}{x}{id}{ob:Af}{ks:List Int}(id':Nat)(M:o.op=.range t x)(O:P.underlying t=some (.map I J))(T:Ev c R x (.mref id ob.gen))(U:hget h id=some ob)(V:ob.mkeys=some ks)(A3:(id'==id)=false) :
  Bc P c o R h n (.ptr id' n 0 0) ((id',some (.mj n id ob.gen ks.length []))::h) (n+1):=by
 intro X z w l E A Z K Q hK
 have j:=T.rep Z X
 obtain⟨b,es,h1,F,h3,h4,h5⟩:=SG l (by rw[E];exact U) V j
 have m:=EY l id' (.mj z.n id ob.gen ks.length []) (z.w.alloc (.mapIter (some b) ks.length #[] ks.length)) (some (z.w.heap.size,1)) (z.n+1) (by simp) rfl rfl rfl
  (λb B _=>heap_alloc_old _ _ B) (λb k B=>by cases B;simp) (by omega) (by simp[Af.gen]) (λhg=>absurd hg (by simp[Af.gen]))
  (λC=>⟨z.w.heap.size,b,rfl,heap_alloc_new _ _,by rw[F] at j;exact j.mono C⟩)
 unfold Oper.wp execOp
 rw[M]
 simp only[F,Sem.run_bind,run_range_map _ _ _ _ _ _ _ O h3,Result.andThen_ok,Sem.run_pure]
 refine hK (.pointer (some ⟨z.w.heap.size,0,none⟩)) _ m.1 m.2 (by simp only[E,A];exact DG _ _ _) (by simp[A]) (.ptr (by simp[A]) rfl λo' q _=>?_)
 simp only[qy] at q
 cases q
 exact⟨z.w.heap.size,1,by simp,by simp⟩
end
end Go.Proofs.YtifgmfoihehlbaaGreatDoor.Al

namespace Go.Proofs.YtifgmfoihehlbaaGreatDoor.Al
open Go.ChangeMaps (setBlock)
open Go.MapKept Go.RowKit
theorem Yw{e' e}{h' h}{n' n N}(J:∀t,get e' t=.any∨get e' t=get e t)(M:∀id,hget h' id=none∨hget h' id=hget h id)(O:n≤n'):Am ⟨e,h,n,N⟩ ⟨e',h',n',N⟩:=by
 intro V a w ⟨_,l,hsz,y,A,B,C,T,E,m⟩
 have q:∀id o,hget h' id=some o→y.H id=some o:=by
  intro id o F
  rw[T]
  rcases M id with j | j
  ·rw[j] at F;cases F
  ·rw[← j];exact F
 obtain⟨I,U⟩:=Pi C (hget h') q n' (by rw[E];exact O)
 refine⟨_,l,hsz,{ y with H:=hget h',n:=n' },A,B.trans I,U,rfl,rfl,λt=>?_⟩
 rcases J t with j | j
 ·rw[j];exact .any _
 ·rw[j];exact(m t).mono I
section
variable{P:Program}{ops:Array Oper}{rest:List Oper}{s:St}{K:St→Prop}{o:Oper}
theorem qL{d}{x}{id g mid len}{ob:Af}{ks:List Int}{seen:List Nat}(hg:o.guard=none)(hd:o.dst=some d)(hN:d<s.N)(ho:o.op=.next x false)(hx:Ev true s.e x (.ptr id g 0 0))
 (hh:hget s.h id=some (.mj g mid ob.gen len seen)) (hm:hget s.h mid=some ob) (hk:ob.mkeys=some ks) (hl:len=ks.length)
 (hf:(∀j, j<len→j ∈ seen)→AS P ops rest { e := (d, .tup [.r (.bool false)])::s.e, h := s.h, n := s.n, N := s.N } K)
 (ht:∀j, j<len→j ∉ seen→AS P ops rest { e := (d, .tup [.r (.bool true), .any, .any])::s.e, h := (id, some (.mj g mid ob.gen len (seen++[j])))::s.h, n := s.n, N := s.N } K):AS P ops (o::rest) s K := by
  subst hl
  intro c0 a w ⟨_, M, hsz, z, a8, F, A, hH, hn, he⟩ Q hQ
  subst a8
  refine wpList_plain hg λK' a0 => ?_
  have l:z.H id=some (.mj g mid ob.gen ks.length seen) := by rw[hH];exact hh
  obtain⟨b, m, h1, h2, h3, h4⟩ := WE A l (hx.rep he rfl)
  obtain⟨bm, O, k1, k2, k3, k4, k5⟩ := SG A (by rw[hH];exact hm) hk h4
  cases k2
  have hb := (A.own id _ b 1 l h1).1
  have B:∀e ∈ O, ∃j, j<ks.length∧O[j]?=some e∧e.born=j := by
    intro e he'
    obtain⟨j, hj⟩ := sX.1 he'
    have a1:j<ks.length := by have := (rC.1 hj).1;omega
    obtain⟨m', e1, e2, e3⟩ := k5 j ks[j] (rA a1)
    rw[hj] at e1;cases e1
    exact⟨j, a1, hj, e3⟩
  have a2:∀e ∈ O.toArray.toList, e.born<ks.length := λe he' => by
    obtain⟨j, h1, _, h3⟩ := B e (by simpa using he')
    omega
  have a6:d<a.tmps.size := by rw[hsz];exact hN
  unfold Oper.wp execOp
  rw[ho]
  rcases run_next_at (P := P) z.w o.type b m ks.length ks.length seen.toArray O.toArray ks.length h3 k3 a2 (q9 _) with ⟨aa, C⟩ | ⟨e, he', X, I, C⟩
  · simp only[h2, Sem.run_bind, C, Result.andThen_ok, Sem.run_pure]
    refine a0 _ _ ?_
    rw[hd]
    refine hf (λj hj => ?_) c0 (a.put (some d) (.tuple #[.bool false])) z.w ⟨_, M, by simpa[Act.put] using hsz, z, rfl, F, A, hH, hn, he.put a6 (.tup rfl λi a u E hu => ?_)⟩ Q hQ
    · obtain⟨m', e1, _, e3⟩ := k5 j ks[j] (rA hj)
      have q:m' ∈ O.toArray := by simpa using rX e1
      have T:¬ m' ∈ leftOf O.toArray seen.toArray := λhx => by
        have := Array.size_pos_of_mem hx
        omega
      unfold leftOf at T
      rw[Array.mem_filter] at T
      have:seen.contains m'.born=true := by
        have Z := λh => T ⟨q, h⟩
        simpa using Z
      rw[e3] at this
      simpa using this
    · rcases i with _ | i
      · simp at E hu;subst E;subst hu;exact .r (.bool false)
      · simp at E
  · have q:e ∈ O∧seen.contains e.born=false := by
      have Z:e ∈ leftOf O.toArray seen.toArray := by simpa using he'
      unfold leftOf at Z
      rw[Array.mem_filter] at Z
      exact⟨by simpa using Z.1, by simpa using Z.2⟩
    obtain⟨j, ab, ai, a7⟩ := B e q.1
    have ac:j ∉ seen := by
      have := q.2
      rw[a7] at this
      simpa using this
    have J:X.heap=z.w.heap := by rcases I with rfl | rfl<;>rfl
    have ad:X.os=z.w.os := by rcases I with rfl | rfl<;>rfl
    have ae:X.tape=z.w.tape := by rcases I with rfl | rfl<;>rfl
    have af:X.output=z.w.output := by rcases I with rfl | rfl<;>rfl
    have U := EY A id (.mj g mid ob.gen ks.length (seen++[j])) (setBlock X b (.mapIter (some m) ks.length (seen++[j]).toArray ks.length)) (some (b, 1)) z.n (by simp[setBlock, J]) ad ae af
      (λb' _ ag => by
        have:b≠b' := λe => ag _ 1 l (by rw[← e];exact h1)
        simp[setBlock, J, this])
      (λb' k' ah => by cases ah;exact⟨by simpa[setBlock, J] using hb, .inr ⟨_, _, l, h1⟩⟩) (q9 _) (A.obj _ _ l).1 (λ_ => ⟨_, l, rfl, rfl, h1.symm⟩)
      (λF => ⟨b, m, rfl, by simp[setBlock, J, hb], h4.mono F⟩)
    have V:(Instr.next (.pointer (some ⟨b, 0, none⟩)) false o.type).run P z.w=.ok (.tuple #[.bool true, e.key, e.val]) (setBlock X b (.mapIter (some m) ks.length (seen++[j]).toArray ks.length)) := by
      rw[C, a7];simp
    simp only[h2, Sem.run_bind, V, Result.andThen_ok, Sem.run_pure]
    refine a0 _ _ ?_
    rw[hd]
    refine ht j ab ac c0 (a.put (some d) _) _ ⟨_, M, by simpa[Act.put] using hsz, _, rfl, F.trans U.1, U.2, by simp only[hH];exact DG _ _ _, hn, (he.mono U.1).put a6 (.tup rfl λi a u E hu => ?_)⟩ Q hQ
    rcases i with _ | _ | _ | i
    · simp at E hu;subst E;subst hu;exact .r (.bool true)
    · simp at E;subst E;exact .any _
    · simp at E;subst E;exact .any _
    · simp at E
end
section
variable{P:Program}{c:Bool}{o:Oper}{R:As}{h:Aj}{n:Nat}
theorem oK{y:Cx}{a:Act}(A:y.ok)(O:y.H=hget h){x}{id g mid len j}{ob:Af}{ks:List Int}{ys:List Nat}{k}(ho:o.op=.entry x)(hv:AX y (.ptr id g 0 0) (a.eval x))(hh:hget h id=some (.mj g mid ob.gen len (ys++[j])))(hm:hget h mid=some ob)
 (hk:ob.mkeys=some ks) (hl:len=ks.length) (hj:ks[j]?=some k):∃F m, y.β mid=some (F, 1)∧m.key=.int .i64 k∧m.born=j∧(∀w, Dj y w→(execOp a.eval o).run P w=.ok (.value (.tuple #[.int .i64 k, m.val])) w) ∧
      ∃l:List MapEntry, l[j]?=some m∧y.w.heap[F]?=some (.map l.toArray ks.length) := by
  subst hl
  have q:y.H id=some (.mj g mid ob.gen ks.length (ys++[j])) := by rw[O];exact hh
  have B:y.H mid=some ob := by rw[O];exact hm
  obtain⟨b, m, h1, h2, h3, h4⟩ := WE A q hv
  obtain⟨F, l, T, k2, U, k4, V⟩ := SG A B hk h4
  cases k2
  obtain⟨e, X, Z, e3⟩ := V j k hj
  refine⟨m, e, T, Z, e3, λw C => ?_, l, X, U⟩
  have I:w.heap[b]?=some (.mapIter (some m) ks.length (ys.toArray.push e.born) ks.length) := by
    rw[C b (.inr ⟨id, _, 1, q, .inl h1⟩), h3, e3];simp
  have J:w.heap[m]?=some (.map l.toArray ks.length) := by rw[C m (.inr ⟨mid, _, 1, B, .inl T⟩)];exact U
  have M:(l.toArray.toList.map (·.born)).Nodup := by
    have:l.map (·.born)=List.range l.length := by
      refine sy λi => ?_
      rw[rG]
      by_cases hi:i<l.length
      · obtain⟨m', f1, _, f3⟩ := V i (ks[i]'(by omega)) (rA (by omega))
        rw[f1, tN hi]
        simp[f3]
      · rw[se (by omega), se (by simpa using hi)];rfl
    rw[this];exact uJ
  have E := run_entry_at (P := P) w b m ks.length ys.toArray l.toArray ks.length e I J (by simpa using rX X) M
  simp only[execOp, ho, h2, Sem.run_bind, E, Result.andThen_ok, Sem.run_pure, Z]
theorem bH{α:Type}{row}{x}{id g mid mg J len j}{e}{m:List (Int × α)}{ys}{k}{a}(ho:o.op=.entry x)(hx:Ev c R x (.ptr id g 0 0))(hh:hget h id=some (.mj g mid mg len (ys++[j])))(hm:hget h mid=some (.mb mg J e (AK row m)))
 (hl:m.length=len) (M:m[j]?=some (k, a)) (T:(m.map (·.1)).Nodup):Ad P c o R h (.tup [.r (.int .i64 k), .pk mid mg J (Au m k) 0]) := by
  intro hc y w A hH he
  have B:y.H mid=some (.mb mg J e (AK row m)) := by rw[hH];exact hm
  obtain⟨bm, en, k1, k2, k3, C, es, k4, k5⟩ := oK A hH (P := P) ho (hx.rep he hc) hh hm (TY mg J e row m) (by simp[hl]) (k := k) (by rw[rG, M];rfl)
  refine⟨_, C, .tup rfl λi a' u' E O => ?_⟩
  rcases i with _ | _ | i
  · simp at E O;subst E;subst O;exact .r (.int _ _)
  · simp at E O;subst E;subst O
    obtain⟨_, h0, b, U, F, I, h3, h4⟩ := A.obj _ _ B
    rw[k1] at F;cases F
    rw[k5] at I
    simp only[rE, Obj.map.injEq] at I
    have V:es=U := by simpa using rU Array.toList I.1
    obtain⟨m', bb, a0, f1, _, _, f4, f5, _⟩ := h4 j k (row a) (by rw[S2, M];rfl)
    rw[← V, k4] at f1;cases f1
    have hD:Au m k=j := by
      have hg:∃v, AU m k=some v := by
        cases X:Ak m k with
        | none =>
          exfalso
          have:∀(l:List (Int × α)) (j:Nat), l[j]?=some (k, a)→Ak l k≠none := by
            intro l
            induction l with
            | nil => intro j h;simp at h
            | cons p r ih =>
              intro j h
              unfold Ak
              split
              · simp
              · rename_i hk
                cases j with
                | zero => simp at h;exact absurd (by rw[h]) hk
                | succ j => simpa using ih j (by simpa using h)
          exact this m j M X
        | some j' => obtain⟨v, _, Z, _⟩ := Dd X;exact⟨v, Z⟩
      obtain⟨v, hg⟩ := hg
      obtain⟨_, Z⟩ := KY hg
      have F:(m.map (·.1))[Au m k]?=some k := by rw[rG, Z];rfl
      have I:(m.map (·.1))[j]?=some k := by rw[rG, M];rfl
      exact(List.getElem?_inj (rC.1 F).1 T).1 (F.trans I.symm)
    rw[hD]
    exact SS A B h0 (by rw[f5];rfl) λq cs b c X hK => by rw[f4] at hK;cases hK;exact f5
  · simp at E
end
theorem dK{α:Type}{m:List (Int × α)}{j:Nat}{k:Int}(l:(m.map (·.1))[j]?=some k):∃a,m[j]?=some (k,a):=by
 rw[rG,rK] at l
 obtain⟨p,q,rfl⟩:=l
 exact⟨p.2,q⟩
section
variable{P:Program}{c:Bool}{o:Oper}{R:As}{h:Aj}{n:Nat}
theorem mE{α:Type}{row:α→List RV}{x:Operand}{id g mid mg q len j:Nat}{e:TypeId}{m:List (Int × α)}{ys:List Nat}{k:Int}(w:o.op=.entry x)(A:Ev c R x (.ptr id g 0 0))(B:hget h id=some (.mj g mid mg len (ys++[j])))(C:hget h mid=some (.mb mg q e (AK row m)))
  (E:(m.map (·.1)).length=len) (F:(m.map (·.1))[j]?=some k) (l:(m.map (·.1)).Nodup):Ad P c o R h (.tup [.r (.int .i64 k),.pk mid mg q (Au m k) 0]):=by
 obtain⟨b,I⟩:=dK F
 exact bH w A B C (by simpa using E) I l
end
section
variable{P:Program}{s:St}
theorem TG{L}{ys:List Nat}(m:ys.Nodup)(q:∀j∈ys,j<L){j}(E:j<L)(w:j ∉ ys):(ys++[j]).Nodup∧(ys++[j]++(List.range L).filter λi=>!(ys++[j]).contains i).Perm (List.range L):=by
 have B:(ys++[j]).Nodup:=by
  rw[ui]
  exact⟨m,by simp,λa A b l e=>by simp at l;subst l;subst e;exact w A⟩
 refine⟨B,(List.perm_ext_iff_of_nodup ?_ uJ).2 λi=>?_⟩
 ·rw[ui]
  refine⟨B,(uJ).filter _,λa A b l e=>?_⟩
  subst e
  rw[sV] at l
  have:=l.2
  simp only[sB,List.contains_eq_mem,sP] at this
  exact this A
 ·simp only[sU,sV,rV,sB,List.contains_eq_mem,sP,tH]
  constructor
  ·rintro((h | rfl) | h)
   ·exact q i h
   ·exact E
   ·exact h.1
  ·intro h
   by_cases C:i∈ys∨i=j
   ·exact .inl C
   ·exact .inr ⟨h,C⟩
theorem iQ{σ ρ:Type}{G:σ→Int→Option σ}{ks:List Int}{st0 w:σ}{rest:σ→Option ρ}{r:ρ}(I:∀l:List Int,l.Perm ks→(FO G l st0).bind rest=some r){ys:List Nat}(A:ys.Nodup)(B:∀j∈ys,j<ks.length)
  (C:FO G (ys.map λj=>ks.getD j 0) st0=some w) {j:Nat} (J:j<ks.length) (E:j ∉ ys):∃st',G w (ks.getD j 0)=some st':=by
 have m:=(TG A B J E).2
 have q:((List.range ks.length).map λj=>ks.getD j 0)=ks:=by
  refine sy λi=>?_
  rw[rG]
  by_cases F:i<ks.length
  ·rw[tN F];simp[F]
  ·rw[se (by simpa using F),se (by omega)];rfl
 have h:=I _ (q ▸ m.map λj=>ks.getD j 0)
 rw[s6,s6,sJ,Xu,C] at h
 simp only[rt,rc,sx,sc,sO,FO] at h
 cases M:G w (ks.getD j 0) with
 | none=>rw[M] at h;cases h
 | some st'=>exact⟨st',rfl⟩
theorem pP{σ ρ:Type}{G:σ→Int→Option σ}{ks:List Int}{st0 F:σ}{rest:σ→Option ρ}{r:ρ}(I:∀l:List Int,l.Perm ks→(FO G l st0).bind rest=some r){ys:List Nat}(A:ys.Nodup)(B:∀j∈ys,j<ks.length)
  (C:FO G (ys.map λj=>ks.getD j 0) st0=some F) (q:∀j,j<ks.length→j∈ys):rest F=some r:=by
 have m:ys.Perm (List.range ks.length):=(List.perm_ext_iff_of_nodup A uJ).2 λi=>⟨λh=>by simpa using B i h,λh=>q i (by simpa using h)⟩
 have w:((List.range ks.length).map λj=>ks.getD j 0)=ks:=by
  refine sy λi=>?_
  rw[rG]
  by_cases E:i<ks.length
  ·rw[tN E];simp[E]
  ·rw[se (by simpa using E),se (by omega)];rfl
 have h:=I _ (w ▸ m.map λj=>ks.getD j 0)
 rw[C] at h
 exact h
theorem qB{σ ρ:Type}{E CF d1 d2:Nat}{o1 o2:Oper}{x:Operand}{body:Code}{Q:Exit→St→Prop}{key:σ→List Int}{F:σ→Int→Option σ}{st0:σ}{rest:σ→Option ρ}{r:ρ}
  (it:Nat) {g mid mg:Nat} (M:σ→(Nat→Nat)→As) (Hf:σ→(Nat→Nat)→Aj) (nf:(Nat→Nat)→Nat) (hr:MR key F st0 rest=some r)
  (hw:∃i,Am s ⟨M st0 i,(it,some (.mj g mid mg (key st0).length []))::Hf st0 i,nf i,s.N⟩)
  (af:o1.guard=none) (ag:o1.dst=some d1) (ah:Nat.blt d1 s.N=true) (ai:o1.op=.next x false) (a6:o2.guard=none) (a7:o2.dst=some d2) (a8:Nat.blt d2 s.N=true) (aa:o2.op=.extract (.tmp d1) 0)
  (hx:∀l i,Ev true (M l i) x (.ptr it g 0 0)) (ab:∀l i,get (M l i) d1=.any) (aj:∀l i,get (M l i) d2=.any) (hm:∀l i,∃ob,hget (Hf l i) mid=some ob∧ob.gen=mg∧ob.mkeys=some (key l)) (ak:(it==mid)=false) (ac:∀l i,hget (Hf l i) it=none)
  (X:∀l k j A w i,F l k=some w→(key l)[j]?=some k→(key l).Nodup→(key l).length=(key st0).length→AW P body (λe s'=>e=.normal∧∃i',Am s' ⟨M w i',(it,some (.mj g mid mg (key st0).length (A++[j])))::Hf w i',nf i',s.N⟩)
   ⟨(d2,.r (.bool true))::M l i,(it,some (.mj g mid mg (key st0).length (A++[j])))::Hf l i,nf i,s.N⟩)
  (Z:∀a0 i,rest a0=some r→Q .normal ⟨M a0 i,Hf a0 i,nf i,s.N⟩) :
  AW P (.block E (.loop (.seq (.region CF #[o1,o2] false) (.seq (.cond (.tmp d2) .skip (.exit E)) body)))) Q s:=by
 obtain⟨al,U⟩:=lj hr
 have ad:it≠mid:=by simpa using ak
 refine AW.block ?_
 let L:=(key st0).length
 refine AW.loop (λm s'=>∃(A:List Nat) (l:σ) (i:Nat→Nat),A.Nodup∧(∀j∈A,j<L)∧m=L-A.length∧key l=key st0∧FO (Ku key (key st0) F) (A.map λj=>(key st0).getD j 0) st0=some l∧s'=⟨M l i,(it,some (.mj g mid mg L A))::Hf l i,nf i,s.N⟩) L
  (by obtain⟨i,hw⟩:=hw;exact⟨_,hw,[],st0,i,by simp,by simp,by simp,rfl,rfl,rfl⟩) ?_
 rintro m s' ⟨A,l,i,O,I,rfl,T,B,rfl⟩
 obtain⟨ob,an,V,ae⟩:=hm l i
 refine AW.seq (AW.region (l:=[o1,o2]) ?_)
 refine qL (ob:=ob) (ks:=key l) (id:=it) (g:=g) (mid:=mid) (len:=L) (seen:=A) af ag (DL ah) ai (hx l i) (by rw[BY,qy rfl,V]) (by rw[BY,qx ad];exact an) ae (by rw[T]) (λa1=>?_) (λj hj a2=>?_)
 ·
  refine AS.step a6 a7 a8 (DD (Tt aa (vs:=[.r (.bool false)]) (by exact .inl (by rw[show ∀e,BT e (.tmp d1)=get e d1 from λ_=>rfl,Di,qy rfl])) rfl) _) (AS.nil ?_)
  refine AW.seq (AW.cond (b:=false) (by rw[show ∀e,BT e (.tmp d2)=get e d2 from λ_=>rfl,Di,qy rfl]) (λh=>by cases h) λ_=>Yv (AW.exit ⟨⟨M l i,Hf l i,nf i,s.N⟩,Yw (λt=>?_) (λid=>?_) (q9 _),?_⟩))
  ·rw[Di,Di]
   by_cases J:d2=t
   ·subst J;exact .inl (aj l i)
   ·rw[qx J]
    by_cases q:d1=t
    ·subst q;exact .inl (ab l i)
    ·rw[qx q];exact .inr rfl
  ·rw[BY]
   by_cases q:it=id
   ·subst q;exact .inl (ac l i)
   ·rw[qx q];exact .inr rfl
  ·show S5 E Q (.exit E) _
   show(if E=E then Q .normal _ else _)
   rw[qy rfl]
   exact Z l i (pP U O I B a1)
 ·
  obtain⟨w,C⟩:=iQ U O I B hj a2
  have hk:(key l)[j]?=some ((key st0).getD j 0):=by rw[T];simp[List.getD,rA hj]
  have hF:F l ((key st0).getD j 0)=some w∧key w=key st0:=by
   unfold Ku at C
   rw[Option.bind_eq_some_iff] at C
   obtain⟨ar,q,J⟩:=C
   split at J
   ·rename_i h3;cases J;exact⟨q,h3⟩
   ·cases J
  refine AS.step a6 a7 a8 (DD (Tt aa (vs:=[.r (.bool true),.any,.any]) (by exact .inl (by rw[show ∀e,BT e (.tmp d1)=get e d1 from λ_=>rfl,Di,qy rfl])) rfl) _) (AS.nil ?_)
  refine AW.seq (AW.cond (b:=true) (by rw[show ∀e,BT e (.tmp d2)=get e d2 from λ_=>rfl,Di,qy rfl]) (λ_=>AW.skip ?_) λh=>by cases h)
  show AW P body _ _
  refine AW.weak (s':=⟨(d2,.r (.bool true))::M l i,(it,some (.mj g mid mg L (A++[j])))::Hf l i,nf i,s.N⟩) (Yw (λt=>?_) (λid=>?_) (q9 _)) ?_
  ·rw[Di,Di,Di]
   by_cases J:d2=t
   ·rw[qy J,qy J];exact .inr rfl
   ·rw[qx J,qx J]
    by_cases q:d1=t
    ·subst q;exact .inl (ab l i)
    ·rw[qx q];exact .inr rfl
  ·rw[BY,BY,BY]
   by_cases q:it=id
   ·rw[qy q,qy q,V];exact .inr rfl
   ·rw[qx q,qx q,qx q];exact .inr rfl
  ·refine(X l _ j A w i hF.1 hk (by rw[T];exact al) (by rw[T])).mono λe s2 ⟨he,i',ao⟩=>?_
   subst he
   refine⟨L-(A++[j]).length,?_,_,ao,A++[j],w,i',?_,?_,rfl,hF.2,?_,rfl⟩
   ·have aq:A.length<L:=by
     have q:=(TG O I hj a2).2.length_eq
     simp only[rj,tD,uf] at q
     omega
    simp;omega
   ·exact(TG O I hj a2).1
   ·intro a ha
    simp only[sU,tH] at ha
    rcases ha with ha | rfl
    ·exact I a ha
    ·exact hj
   ·rw[s6,Xu,B]
    simp only[rt,rc,sx,FO,C]
end
end Go.Proofs.YtifgmfoihehlbaaGreatDoor.Al

namespace Go.Proofs.YtifgmfoihehlbaaGreatDoor.Al
open Go.MapKept Go.RowKit
section
variable{P:Program}{c:Bool}{o:Oper}{R:As}{h:Aj}{n:Nat}
theorem GC{t}{z}(h:DB P t z)(w:World):(zeroValue t).run P w=.ok z w:=by
 obtain⟨i,j,l⟩:=h
 simp[zeroValue,typeInfo,j,l]
theorem Ld{α:Type}(rd:α→RV){t} id(j:o.op=.makeMap t none):Bc P c o R h n (.mref id n) ((id,some (.md n (AK rd ([]:List (Int × α)))))::h) (n+1):=lz id j
theorem dI{α:Type}(row:α→List RV){t} id e(j:o.op=.makeMap t none):Bc P c o R h n (.mref id n) ((id,some (.mb n n e (AK row ([]:List (Int × α)))))::h) (n+1):=Ze id e j
theorem nI{α:Type}(f:α→List RV){t} id e sz(j:o.op=.makeMap t none)(hsz:Nat.blt 0 sz=true) :
  Bc P c o R h n (.mref id n) ((id,some (.mr n n e sz none (AK (λ(l:List α)=>l.map f) [])))::h) (n+1):=kG id e sz j hsz
theorem Oe{α:Type}{row:α→List RV}{m j:List (Int × α)}{k:Int}{a:α}(l:Au j k=Au m k)(q:AU m k=some a):(AK row m)[Au j k]?=some (k,row a):=by
 rw[l,S2,(KY q).2];rfl
theorem Q5{α:Type}{row:α→List RV}{t:TypeId}{x:Operand}{f off:Nat}{id g j q:Nat}{e:TypeId}{m l:List (Int × α)}{k:Int}{a:α}(w:o.op=.fieldAddr t x f)(A:Ao P t f off)(B:Ev c R x (.pk id g j (Au l k) q))(C:hget h id=some (.mb g j e (AK row m)))
  (E:Au l k=Au m k) (F:c=true→AU m k=some a):Ad P c o R h (.pk id g j (Au l k) (q+off)):=
 ke w A B C λI=>by rw[Oe E (F I)];rfl
theorem TT{α:Type}{row:α→List RV}{t:TypeId}{x:Operand}{id g j q:Nat}{e:TypeId}{m l:List (Int × α)}{k:Int}{a:α}{d:RV}(w:o.op=.load t x)(A:BR P t)(B:Ev c R x (.pk id g j (Au l k) q))(C:hget h id=some (.mb g j e (AK row m)))
  (E:Au l k=Au m k) (F:c=true→AU m k=some a) (hd:(row a)[q]?=some d):Ad P c o R h (.r d):=
 Zb w A B C (λI=>Oe E (F I)) hd
theorem U7{α:Type}{row:α→List RV}{t:TypeId}{x:Operand}{id g l sz:Nat}{e:TypeId}{m q:List (Int × α)}{k:Int}{a:α}{cs:List AV}(w:o.op=.load t x)(A:Bq P t sz)(B:Ev c R x (.pk id g l (Au q k) 0))(C:hget h id=some (.mb g l e (AK row m)))
  (E:Au q k=Au m k) (F:c=true→AU m k=some a) (I:(row a).length=sz) (j:(row a).map .r=cs):Ad P c o R h (.agg cs):=by
 subst j
 exact iE w A B C (λJ=>Oe E (F J)) I
theorem Z9{α β:Type}{row:α→β}{m:List (Int × α)}{k:Int}{a a':α}(j:AU m k=some a):(AK row m).set (Au m k) (k,row a')=AK row (Ah m k a'):=by
 have l:AU (AK row m) k=some (row a):=by rw[KO,j];rfl
 rw[← P1]
 obtain⟨q,_⟩:=KY l
 obtain⟨_,_,_,w⟩:=Dd q
 rw[w,Py]
theorem Z5{α:Type}{row:α→List RV}{t:TypeId}{x y:Operand}{id g j q:Nat}{e:TypeId}{m l:List (Int × α)}{k:Int}{a a':α}{d:RV}(B:o.op=.store t x y)(C:∃i,P.info? t=some i∧i.size=1)(E:Ev c R x (.pk id g j (Au l k) q))(F:hget h id=some (.mb g j e (AK row m)))
  (w:Au l k=Au m k) (A:AU m k=some a) (I:Ev c R y (.r d)) (J:Nat.blt q (row a).length=true) (M:(row a).set q d=row a'):Bc P c o R h n .any ((id,some (.mb g j e (AK row (Ah m k a'))))::h) n:=by
 have:=jq (n:=n) B C E F (Oe w A) J I
 rwa [M,w,Z9 A] at this
theorem Md{α:Type}{row:α→List RV}{x:Operand}{id g l q:Nat}{e:TypeId}{m A:List (Int × α)}{k:Int}{a:α}(F:o.op=.nilCheck x)(I:Ev c R x (.pk id g l (Au A k) q))(J:hget h id=some (.mb g l e (AK row m)))
  (M:Au A k=Au m k) (O:c=true→AU m k=some a):Ad P c o R h (.pk id g l (Au A k) q):=by
 intro C z w B T U
 have j:z.H id=some (.mb g l e (AK row m)):=by rw[T];exact J
 have E:=I.rep U C
 obtain⟨bb,V,k1,X,_⟩:=My B j E (Oe M (O C))
 refine⟨w.eval x,λw2 Z=>?_,E⟩
 unfold execOp
 rw[F]
 simp[X]
theorem SR{α:Type}{f}{t j q}{x i}{id g A}{e}{sz}{m}{k}(B:o.op=.lookup t x i false)(C:P.underlying t=some (.map j q))
 (E:P.underlying j=some (.int .i64)) (F:∀w, (zeroValue q).run P w=.ok (.slice none 0 0) w) (I:Ev c R x (.mref id g)) (J:Ev c R i (.r (.int .i64 k))) (M:hget h id=some (.mr g A e sz none (AK (λ(l:List α) => l.map f) m))) :
    Ad P c o R h (.fo id g A k) := pD B C E F I J M
theorem Ly{α:Type}{f:α→List RV}{m:List (Int × List α)}{k:Int} : (AU (AK (λ(l:List α)=>l.map f) m) k).getD []=((AU m k).getD []).map f:=by
 rw[KO]
 cases AU m k<;>rfl
theorem ZH{α:Type}{f:α→List RV}{t:TypeId}{e e':TypeId}{sz j:Nat}{x:Operand}{id g q:Nat}{hole:Option (Nat × Bool)}{m:List (Int × List α)}{k:Int}(w:o.op=.call { callee:=.builtin .len,args:=#[x],argTypes:=#[t] })(A:Ej P t e sz)
  (B:Ev c R x (.fo id g q k)) (C:hget h id=some (.mr g q e' j hole (AK (λ(l:List α)=>l.map f) m))):Ad P c o R h (.r (.int .i64 ((AU m k).getD []).length)):=by
 have:=eK w A B C
 rwa [Ly,rh] at this
theorem gV{α:Type}{f:α→List RV}{t e e':TypeId}{sz:Nat}{x y:Operand}{id g j:Nat}{hole:Option (Nat × Bool)}{m:List (Int × List α)}{k:Int}{w:IntKind}{z:Int}{a:α}(A:o.op=.indexAddr t x y)(B:Ej P t e sz)(C:Ev c R x (.fo id g j k))
  (E:hget h id=some (.mr g j e' sz hole (AK (λ(l:List α)=>l.map f) m))) (F:Ev c R y (.r (.int w z))) (I:c=true→AL ((AU m k).getD []) z=some a):Ad P c o R h (.pk id g j (Au m k) (z.toNat * sz)):=by
 have:=Zt (row:=f a) A B C E F λJ=>by
  rw[Ly]
  have q:=FA (I J)
  unfold AL
  rw[qy q.1,rG,q.2.1];rfl
 rwa [Py] at this
theorem iP{α:Type}{f:α→List RV}{t:TypeId}{x:Operand}{id g q:Nat}{e:TypeId}{sz:Nat}{hole:Option (Nat × Bool)}{m:List (Int × List α)}{k z:Int}{a:α}{cs:List AV}(B:o.op=.load t x)(C:Bq P t sz)(w:Ev c R x (.pk id g q (Au m k) (z.toNat * sz)))(E:hget h id=some (.mr g q e sz hole (AK (λ(l:List α)=>l.map f) m)))
  (F:c=true→AL ((AU m k).getD []) z=some a) (j:(f a).map .r=cs):Ad P c o R h (.agg cs):=by
 subst j
 rw[← Py (λ(l:List α)=>l.map f)] at w
 exact ly B C w E λI=>by
  rw[Ly]
  have A:=FA (F I)
  unfold AL
  rw[qy A.1,rG,A.2.1];rfl
theorem ZN{α:Type}{f:α→List RV}{t e:TypeId}{sz j:Nat}{s x:Operand}{id g w:Nat}{m:List (Int × List α)}{k:Int}{ys r:List α}(A:o.op=.call { callee:=.builtin .append,args:=#[s,x],argTypes:=#[t,t] })(B:B4 P t e sz j)
  (C:Ev c R s (.fo id g w k)) (E:hget h id=some (.mr g w e sz none (AK (λ(l:List α)=>l.map f) m))) (F:KW c R h x sz (ys.map f)) (q:ys.isEmpty=false) (I:app j ((AU m k).getD []) ys=some r) :
  Bc P c o R h n (.fo id g n k) ((id,some (.mr g n e sz (some (Au m k,(AU m k).isNone)) (AK (λ(l:List α)=>l.map f) (Ah m k r))))::h) (n+1):=by
 obtain⟨J,M,rfl⟩:=Sa I
 have:=nk (n:=n) A B C E F (by cases ys with | nil=>cases q | cons _ _=>rfl) (by rw[Ly];simpa using J) (by rw[Ly];simpa using M)
 rw[Ly,Py,KO,Option.isNone_map,← s6,P1 (λ(l:List α)=>l.map f)] at this
 exact this
theorem kh{α:Type}{f}{t q w}{x i y}{id g j}{e}{sz}{m}{k}{A}{r}(B:o.op=.mapUpdate t x i y∨o.op=.insert t x i y)(C:P.underlying t=some (.map q w))(E:P.underlying q=some (.int .i64))
 (F:Ev c R x (.mref id g)) (I:Ev c R i (.r (.int .i64 k))) (J:Ev c R y (.fo id g j k)) (M:hget h id=some (.mr g j e sz (some (Au m k, A)) (AK (λ(l:List α) => l.map f) (Ah m k r)))) :
    Bc P c o R h n .any ((id, some (.mr g j e sz none (AK (λ(l:List α) => l.map f) (Ah m k r))))::h) n :=
  lH B C E F I J M (by rw[Le, Qg])
end
theorem iz{a b c α:Type}{x:a}{y:b}{z:c}{f:a→b→c→Option α}{r:α}(h:CK (some (x,y,z)) f=some r):f x y z=some r:=h
end Go.Proofs.YtifgmfoihehlbaaGreatDoor.Al

namespace Go.Proofs.YtifgmfoihehlbaaGreatDoor.Al
section
variable{P:Program}{c:Bool}{o:Oper}{R:As}{h:Aj}{n:Nat}
variable{α:Type}{f:α→List RV}
end
end Go.Proofs.YtifgmfoihehlbaaGreatDoor.Al

set_option linter.all false
set_option maxHeartbeats 4000000
set_option maxRecDepth 20000
namespace Go.Proofs.YtifgmfoihehlbaaGreatDoor.Al
open Go
def Qr{α:Type} : Result α→World
 | .ok _ w=>w
 | .halt _ w=>w
def Dy:Go.GStep→Nat
 | .go _ w _=>w.drawn
 | .comm _ _ _ _ w _=>w.drawn
 | .spawn _ _ w _=>w.drawn
 | .count _ w _=>w.drawn
 | .timer _ _ w _=>w.drawn
 | .alone _ _ w _=>w.drawn
 | .newcoro _ _ _ w _=>w.drawn
 | .coroswitch _ _ _ w _=>w.drawn
 | .collect _ w _=>w.drawn
 | .watch _ w _=>w.drawn
 | .ended _ w _=>w.drawn
@[simp] theorem JN j s:(Dy (Go.GStep.after j s))=(Dy s):=by cases s<;>rfl
theorem j9{α:Type}(a:Ask α):∀w:World,w.drawn≤(w.ask a).2.drawn:=by
 induction a with
 | done a=>intro w;exact q9 _
 | ask j range k l=>
  intro w
  unfold World.ask
  simp only
  split
  ·exact l _ w
  ·exact rM (uD _) (l _ { w with drawn:=w.drawn+1 })
theorem TM(w:World)(c:Sys):w.drawn≤(w.sys c).2.drawn:=by
 unfold World.sys
 have h:=j9 (Kernel.perform c w.os) w
 split
 ·exact q9 _
 ·rename_i r l w' _ j
  rw[j] at h
  exact h
theorem Xa(w:World) a v:(w.setCell a v).drawn=w.drawn:=rfl
theorem Wt(w:World) a n:(w.freeze a n).drawn=w.drawn:=by unfold World.freeze;split<;>rfl
theorem ec{p:Program}{w w':World}{at_:Addr}{u:TypeId}{k:Addr}{v:Value}{b:Bool}{l:List Addr}(h:w.viewStore p at_ u k v b=.ok (w',l)):w'.drawn=w.drawn:=by
 unfold World.viewStore at h
 simp only[bind,Except.bind,pure,Except.pure] at h
 repeat' split at h
 all_goals first | (cases h;done) | skip
 all_goals (try (simp only[Except.ok.injEq,rJ] at h;rw[← h.1]))
theorem VS{p}{w w':World}{a}{v}{b}{l}(h:w.farStore p a v b=.ok (w',l)):w'.drawn=w.drawn:=by
 unfold World.farStore at h
 split at h
 ·split at h
  ·rename_i j
   cases h
   exact ec j
  ·cases h
 ·cases h
theorem SN{α:Type} p(s:Sem α):∀w:World,w.drawn≤(Qr (s.run p w)).drawn:=by
 induction s with
 | pure a=>intro w;exact q9 _
 | load m a k j=>
  intro w;unfold Sem.run
  split
  ·exact j _ w
  ·split
   ·exact j _ w
   ·exact q9 _
 | store m a v k j=>
  intro w;unfold Sem.run
  split<;>first | exact q9 _ | (rename_i l;cases l;done) | skip
  rename_i l;cases l
  all_goals (split<;>first | exact q9 _ | skip)
  all_goals (try (split<;>first | exact q9 _ | skip))
  all_goals first | exact rM (tn (Xa _ _ _).symm) (j _) | (rename_i l;exact rM (tn (VS l).symm) (j _)) | skip
 | new o k j=>intro w;unfold Sem.run;exact j _ { w with heap:=w.heap.push o }
 | shape r k j=>intro w;unfold Sem.run;exact j _ w
 | freeze a n k j=>intro w;unfold Sem.run;exact rM (tn (Wt w a n).symm) (j _)
 | frozen a k j=>intro w;unfold Sem.run;exact j _ w
 | getObj r k j=>
  intro w;unfold Sem.run
  split<;>first | exact q9 _ | exact j _ w
 | setObj r o k j=>
  intro w;unfold Sem.run
  split<;>first | exact q9 _ | exact j { w with heap:=w.heap.setIfInBounds r o }
 | choose q k j=>
  intro w;unfold Sem.run
  split
  ·exact j _ w
  ·exact rM (uD _) (j _ { w with drawn:=w.drawn+1 })
 | sys c k j=>intro w;unfold Sem.run;exact rM (TM w c) (j _ _)
 | program k j=>intro w;unfold Sem.run;exact j _ w
 | mark m k j=>intro w;unfold Sem.run;exact j w
 | halt h=>intro w;exact q9 _
theorem Is{α:Type} p(s:Sem α):∀(w:World) (l:Array Event),w.drawn≤(Qr ((s.runT p w l).1)).drawn:=by
 induction s with
 | pure a=>intro w l;exact q9 _
 | load m a k j=>
  intro w l;unfold Sem.runT
  split
  ·exact j _ w _
  ·split
   ·exact j _ w _
   ·exact q9 _
 | store m a v k j=>
  intro w l;unfold Sem.runT
  split<;>first | exact q9 _ | (rename_i A;cases A;done) | skip
  rename_i A;cases A
  all_goals (split<;>first | exact q9 _ | skip)
  all_goals (try (split<;>first | exact q9 _ | skip))
  all_goals first | exact rM (tn (Xa _ _ _).symm) (j _ _) | (rename_i A;exact rM (tn (VS A).symm) (j _ _)) | skip
 | new o k j=>intro w l;unfold Sem.runT;exact j _ { w with heap:=w.heap.push o } _
 | shape r k j=>intro w l;unfold Sem.runT;exact j _ w _
 | freeze a n k j=>intro w l;unfold Sem.runT;exact rM (tn (Wt w a n).symm) (j _ _)
 | frozen a k j=>intro w l;unfold Sem.runT;exact j _ w _
 | getObj r k j=>
  intro w l;unfold Sem.runT
  split<;>first | exact q9 _ | exact j _ w _
 | setObj r o k j=>
  intro w l;unfold Sem.runT
  split<;>first | exact q9 _ | exact j { w with heap:=w.heap.setIfInBounds r o } _
 | choose q k j=>
  intro w l;unfold Sem.runT
  split
  ·exact j _ w _
  ·exact rM (uD _) (j _ { w with drawn:=w.drawn+1 } _)
 | sys c k j=>intro w l;unfold Sem.runT;exact rM (TM w c) (j _ _ _)
 | program k j=>intro w l;unfold Sem.runT;exact j _ w _
 | mark m k j=>intro w l;unfold Sem.runT;exact j w _
 | halt h=>intro w l;exact q9 _
theorem E3{α:Type}{p}{s:Sem α}{w w':World}{a}(h:s.run p w=.ok a w'):w.drawn≤w'.drawn:=by
 have:=SN p s w;rw[h] at this;exact this
theorem I0{α:Type}{p}{s:Sem α}{w w':World}{a}(h:s.run p w=.halt a w'):w.drawn≤w'.drawn:=by
 have:=SN p s w;rw[h] at this;exact this
theorem UR j m(w:World):(Dy (endThrow j m w))=w.drawn:=rfl
theorem bJ(w:World) j t o:w.drawn≤(Dy (endWith w j t o)):=by
 unfold endWith
 have h:=TM w (.write j t)
 generalize w.sys (.write j t)=r at h
 obtain⟨r,w'⟩:=r
 cases r<;>first | exact h | (simp only;split<;>exact h)
theorem Wn p j v(w:World):(Dy (endPrinting p j v w))=w.drawn:=by
 unfold endPrinting
 simp only
 split<;>rfl
theorem WY p l cs d m(w:World):w.drawn≤(Dy (endFatal p l cs d m w)):=by
 unfold endFatal
 simp only
 split
 ·rename_i j;exact E3 j
 ·rename_i j;exact I0 j
 ·rename_i j;exact I0 j
theorem lh p j d f(w:World):w.drawn≤(Dy (writeOn p j d f w)):=by
 unfold writeOn
 simp only
 split
 ·exact q9 _
 ·generalize l:Sem.runT p _ w #[]=r
  have h:w.drawn≤(Qr r.1).drawn:=by rw[← l];exact Is p _ w _
  obtain⟨r,q⟩:=r
  split<;>(rename_i m;cases m;exact h)
theorem mV p l d(w:World):w.drawn≤(Dy (die p l d w)):=by
 unfold die
 split
 ·exact lh _ _ _ _ _
 ·split
  ·split
   ·exact q9 _
   ·exact bJ _ _ _ _
  ·simp only
   split
   ·exact q9 _
   ·split
    ·rename_i j;exact E3 j
    ·rename_i j;exact I0 j
   ·rename_i t recv name _
    have h:=Is p (invoke (.fn (.method name) #[]) #[.iface t recv]) w #[]
    generalize Sem.runT p _ w #[]=r at h ⊢
    obtain⟨r,m⟩:=r
    simp only[JN]
    split<;>first | exact h | (rw[Wn];exact h) | skip
    all_goals exact q9 _
   ·exact q9 _
theorem Sz p j l cs d v(w:World):(Dy (doReturn p j l cs d v w))=w.drawn:=by
 unfold doReturn
 split
 ·split<;>rfl
 ·split<;>first | rfl | skip
  split
  ·rfl
  ·split<;>rfl
theorem Nf{c}[Decidable c]{a b}{n}(j:n≤(Dy a))(l:n≤(Dy b)):n≤(Dy (if c then a else b)):=by split<;>assumption
theorem lg p l cs d(j:Deferred)(w:World):w.drawn≤(Dy (callDeferred p l cs d j w)):=by
 unfold callDeferred
 refine Nf (q9 _) ?_
 ·have h:=Is p (invoke j.target j.args) w #[]
  generalize Sem.runT p (invoke j.target j.args) w #[]=r at h ⊢
  obtain⟨r,m⟩:=r
  simp only[JN]
  split<;>first | exact h | (rw[UR];exact h) | exact rM h (WY _ _ _ _ _ _) | (split<;>exact h)
theorem fO p j(m:Frame) cs d(w:World):w.drawn≤(Dy (unwind p j m cs d w)):=by
 unfold unwind
 split
 ·rename_i block _ A _
  have h:=Is p (Instr.takeDeferred block) w #[]
  generalize Sem.runT p (Instr.takeDeferred block) w #[]=r at h ⊢
  obtain⟨r,q⟩:=r
  simp only[JN]
  split<;>exact h
 ·exact lg _ _ _ _ _ _
 ·split
  ·exact q9 _
  ·split
   ·exact q9 _
   ·split
    ·exact q9 _
    ·split
     ·split
      ·exact q9 _
      ·split
       ·rename_i l;exact E3 l
       ·rename_i l;exact I0 l
       ·rename_i l;exact I0 l
     ·split
      ·rw[Wn];exact q9 _
      ·exact q9 _
  ·split
   ·rw[Sz];exact q9 _
   ·rename_i fn _
    have h:=Is p (results fn m.tmps) w #[]
    generalize Sem.runT p (results fn m.tmps) w #[]=r at h ⊢
    obtain⟨r,q⟩:=r
    simp only[JN]
    split<;>first | exact h | (rw[Sz];exact h)
theorem gM p(q:Frame) cs d g(w:World):w.drawn≤(Dy (early p q cs d g w)):=by
 have j:∀l:World,w.drawn≤l.drawn→w.drawn≤(Dy (match l.heap[g]? with
  | some (.pending c elem)=>Go.GStep.go { frame:=q,callers:=cs,status:=.running,dying:=d } { l with heap:=l.heap.setIfInBounds g (.cells c elem) }
  | _ => .ended (.stuck "early: the variable does not wait" (q.pos p)) l)) := by
  intro l A
  split<;>exact A
 unfold early
 simp only
 split
 ·exact j w (q9 _)
 ·split
  ·exact q9 _
  ·split
   ·exact j w (q9 _)
   ·split
    ·exact j w (q9 _)
    ·split
     ·exact q9 _
     ·exact q9 _
     ·exact q9 _
     ·exact j w (q9 _)
     ·split
      ·exact q9 _
      ·split
       ·exact j w (q9 _)
       ·split
        ·rename_i m;exact j _ (E3 m)
        ·rename_i m;exact E3 m
        ·rename_i m;exact I0 m
theorem NB p listen j cs d(s:Sem Next)(w:World):w.drawn≤(Dy (stepG.apply p listen j cs d s w)):=by
 unfold stepG.apply
 have h:w.drawn≤(Qr ((if listen then s.runT p w #[] else(s.run p w,#[])).1)).drawn:=by
  split
  ·exact Is p s w #[]
  ·exact SN p s w
 generalize (if listen then s.runT p w #[] else(s.run p w,#[]))=r at h ⊢
 obtain⟨r,l⟩:=r
 simp only[JN]
 split<;>first | exact h | (rw[UR];exact h) | exact rM h (WY _ _ _ _ _ _) | exact rM h (gM _ _ _ _ _ _) | skip
 all_goals first | (split<;>exact h) | exact Nf h h | exact Nf (by rw[UR];exact h) h
theorem lD p listen j cs d(w:World):w.drawn≤(Dy (stepG.oper p listen j cs d w)):=by
 unfold stepG.oper
 split
 ·exact q9 _
 ·split<;>exact NB _ _ _ _ _ _ _
theorem eN(p:Program)(main:Bool)(listen:Bool)(fr:Frame)(cs:List Frame)(d:Option Dying)(w:World):w.drawn≤(Dy (stepG.exec p main listen fr cs d w)):=by
 have hl:∀jump:Option Code,w.drawn≤(Dy (match fr.roundOf with
   | none => if jump matches none | some .ret then Go.GStep.go { frame := { fr with mode := .returning }, callers := cs, status := .running, dying := d } w else .ended (.stuck "exit, goto: no such block or label" (fr.pos p)) w
   | some l=>
    let (r,es):=(Instr.endRound l jump).runT p w #[]
    Go.GStep.after (seen p fr.fn es) <| match r with
    | .ok v w=>doReturn p main fr cs d v w
    | .halt _ w => .ended (.stuck "range over a function: no such loop" (fr.pos p)) w)) := by
  intro jump
  split
  ·exact Nf (q9 _) (q9 _)
  ·rename_i l _
   have h:=Is p (Instr.endRound l jump) w #[]
   generalize Sem.runT p (Instr.endRound l jump) w #[]=r at h ⊢
   obtain⟨r,es⟩:=r
   simp only[JN]
   split
   ·rw[Sz];exact h
   ·exact h
 unfold stepG.exec
 simp only
 split
 ·exact hl none
 ·exact hl (some .ret)
 all_goals first | exact q9 _ | skip
 ·split<;>exact q9 _
 ·rename_i id k _
  cases exitTo id k with
  | none=>exact hl (some (.exit id))
  | some t=>exact q9 _
 ·rename_i l k _
  cases gotoIn l k with
  | none=>exact hl (some (.goto l))
  | some t=>exact q9 _
 ·rename_i f params assign body k _
  have h:=Is p (Instr.enterLoop fr.fn fr.tmps params assign body fr.roundOf) w #[]
  generalize Sem.runT p (Instr.enterLoop fr.fn fr.tmps params assign body fr.roundOf) w #[]=r at h ⊢
  obtain⟨r,es⟩:=r
  simp only[JN]
  split
  ·exact rM h (NB _ _ _ _ _ _ _)
  ·exact h
 ·exact NB _ _ _ _ _ _ _
 ·rename_i l k _
  have h:=Is p (Instr.endLoop l) w #[]
  generalize Sem.runT p (Instr.endLoop l) w #[]=r at h ⊢
  obtain⟨r,es⟩:=r
  simp only[JN]
  split<;>exact h
 ·exact NB _ _ _ _ _ _ _
 ·rename_i row args _ _
  cases Extern.next row with
  | none=>exact q9 _
  | some e=>exact NB _ _ _ _ _ _ _
 ·split
  ·exact q9 _
  ·split
   ·rename_i hh;exact E3 hh
   ·rename_i hh;exact I0 hh
 ·exact Nf (lD _ _ _ _ _ _) (q9 _)
theorem iB p j g(w:World) listen:w.drawn≤(Dy (stepG p j g w listen)):=by
 unfold stepG
 simp only
 split
 ·exact mV _ _ _ _
 ·exact eN _ _ _ _ _ _ _
 ·exact fO _ _ _ _ _ _
def Fg(n:Nat):Stepped→Prop
 | .next m=>n≤m.world.drawn
 | .ended _ _=>True
theorem Nd{s}{a b}(h:Fg a s)(j:b≤a):Fg b s:=by
 cases s with
 | next m=>exact rM j h
 | ended _ _=>trivial
theorem Ym{c}[Decidable c]{a b}{n}(j:Fg n a)(l:Fg n b):Fg n (if c then a else b):=by split<;>assumption
theorem UK{β:Type}{c:Prop}[Decidable c]{a b:Stepped × β}{n:Nat}(j:Fg n a.1)(l:Fg n b.1):Fg n ((if c then a else b).1):=by split<;>assumption
theorem oy(p:Program)(rest:Rest)(q:Array Goroutine)(i:Nat)(g:Goroutine)(cases:Array CommCase)(j:Bool)(shape:CommShape)(w:World):Fg w.drawn ((communicate p rest q i g cases j shape w).1):=by
 unfold communicate
 simp only
 refine UK trivial (UK (UK ?_ (q9 _)) ?_)
 ·split
  ·rename_i l
   unfold waitingAt at l
   split at l
   ·split at l
    ·cases l;exact q9 _
    ·cases l
   ·cases l;exact q9 _
  ·trivial
 ·split
  ·trivial
  ·rename_i k c A w' l
   have h:=E3 l
   split
   ·split
    ·rename_i m;exact rM h (I0 m)
    ·trivial
   ·exact h
   ·exact h
   ·split
    ·exact h
    ·split
     ·rename_i m;have B:=E3 m;exact rM h B
     ·trivial
   ·exact h
   ·exact h
   ·trivial
theorem Wy p j rest(w:World):Fg w.drawn (look p j rest w):=by
 unfold look
 split
 ·simp only
  refine Ym trivial ?_
  split
  ·trivial
  ·split
   ·rename_i l;have m:=E3 l;exact m
   ·trivial
   ·trivial
 ·trivial
theorem aM(w:World) c:(drain w c).2.drawn=w.drawn:=by
 unfold drain;split<;>rfl
theorem Xv(m:Machine) k(t:Timer) a b:(retime m k t a b).2.world.drawn=m.world.drawn:=by
 unfold retime
 cases t.chan with
 | none=>rfl
 | some c=>exact aM _ _
theorem mC(m:Machine) op{v}{l:Machine}(h:timerOp m op=.ok (v,l)):l.world.drawn=m.world.drawn:=by
 unfold timerOp at h
 split at h
 ·split at h
  ·cases h;rfl
  ·split at h
   ·split at h
    ·cases h
    ·cases h;rfl
   ·cases h
 ·unfold timerOp.named at h
  split at h
  ·simp only[Except.ok.injEq] at h
   have:=rU (λq=>q.2.world.drawn) h
   simp only at this
   rw[← this];exact Xv _ _ _ _ _
  ·cases h
 ·split at h
  ·rename_i m2 j
   unfold timerOp.named at h
   split at h
   ·simp only[Except.ok.injEq] at h
    have:=rU (λq=>q.2.world.drawn) h
    simp only at this
    rw[← this,Xv]
    unfold timerOp.opened at j
    split at j
    ·split at j
     ·cases j;rfl
     ·cases j
    ·cases j;rfl
   ·cases h
  ·cases h
 ·cases h;rfl
theorem f9 p(m:Machine) k:Fg m.world.drawn (serve p m k):=by
 unfold serve
 split
 ·trivial
 ·exact q9 _
 ·split
  all_goals (simp only;split)
  all_goals first | trivial | exact q9 _
theorem jC p(m:Machine) i listen:Fg m.world.drawn ((runT p m i listen).1):=by
 unfold runT
 simp only
 have h:=iB p (i==0) (m.gs.swapAt! i { (default:Goroutine) with status:=.finished }).1 m.world listen
 generalize stepG p (i==0) (m.gs.swapAt! i { (default:Goroutine) with status:=.finished }).1 m.world listen=s at h ⊢
 cases s with
 | ended o w j=>trivial
 | comm g cases l shape w j=>exact Nd (oy _ _ _ _ _ _ _ _ _) h
 | go g w j=>exact h
 | spawn g q w j=>exact h
 | count g w j=>exact Ym trivial h
 | alone g B w j=>exact h
 | collect g w j=>exact Nd (Wy _ _ _ _) h
 | watch g w j=>exact h
 | newcoro g c d w j=>exact h
 | coroswitch g c exit w j=>
  simp only
  split
  ·exact h
  ·exact h
  ·trivial
 | timer g op w j=>
  simp only
  split
  ·rename_i A
   have:=mC _ _ A
   exact rM h (tn this.symm)
  ·exact h
  ·trivial
  ·trivial
def Lp(n:Nat):Move→Prop
 | .goroutine m _=>n≤m.world.drawn
 | .machine s _=>Fg n s
theorem Tj p(m:Machine):Lp m.world.drawn (askOn p m):=by
 have hp:∀(l:List Nat) (q:Machine),m.world.drawn≤q.world.drawn→Lp m.world.drawn (match (choose (.sched l.length)).run p q.world with
   | .halt _ w => Move.machine (.ended (.stuck "sched" "") w)
   | .ok k world=>
    if l.length≤1 then .goroutine { q with world } (l.getD k 0) else
    match (choose (.extern "sched.slice" 65536)).run p world with
    | .halt _ w => .machine (.ended (.stuck "sched.slice" "") w)
    | .ok n world=>.goroutine { q with world,rest:={ q.rest with slice:=if n=0 then none else some (l.getD k 0,n) } } (l.getD k 0)):=by
  intro l q C
  split
  ·trivial
  ·rename_i B
   have j:=rM C (E3 B)
   split
   ·exact j
   ·split
    ·trivial
    ·rename_i A;exact rM j (E3 A)
 unfold askOn
 simp only
 split
 ·trivial
 ·rename_i k world B
  have h:=E3 B
  split
  ·have j:=f9 p { m with world } ((due m.rest.timers m.world.os.mono).getD k 0)
   generalize serve p { m with world } ((due m.rest.timers m.world.os.mono).getD k 0)=s at j
   cases s with
   | next F=>exact rM h j
   | ended _ _=>trivial
  ·split
   ·split
    ·exact h
    ·split
     ·exact h
     ·split<;>trivial
   ·split
    ·exact hp _ { m with world } h
    ·split
     ·trivial
     ·rename_i j;exact hp _ { m with world:=_ } (rM h (E3 j))
     ·rename_i j;have A:=E3 j;exact rM h A
     ·rename_i t _ _ E w' j;have A:=E3 j;exact hp _ (Machine.advanceTo { m with world:=w' } (t-(E+1))) (rM h A)
theorem Vt{s}{a b}(h:Lp a s)(j:b≤a):Lp b s:=by
 cases s with
 | goroutine m i=>exact rM j h
 | machine s o=>exact Nd (s:=s) h j
theorem Vn p(m:Machine):Lp m.world.drawn (ask p m):=by
 unfold ask
 split
 ·split
  ·trivial
  ·rename_i q j
   have h:=E3 j
   have l:=Wy p m.gs m.rest q
   split
   ·rename_i w
    rw[w] at l
    exact Vt (Tj p _) (rM h l)
   ·exact Nd l h
  ·rename_i j
   exact Vt (Tj p _) (E3 j)
 ·exact Tj p m
theorem jo p(m:Machine):Lp m.world.drawn (move p m):=by
 unfold move
 split
 ·split
  ·exact q9 _
  ·trivial
 ·split
  ·split
   ·exact q9 _
   ·exact Vn p { m with rest:=_ }
  ·exact Vn p m
theorem il p(m:Machine):Fg m.world.drawn (step p m):=by
 unfold step stepT
 have h:=jo p m
 split
 ·rename_i j;rw[j] at h
  exact Nd (jC p _ _ _) h
 ·rename_i j;rw[j] at h
  exact h
theorem Zn p:∀(n:Nat) (m j:Machine),runN p n m=.next j→m.world.drawn≤j.world.drawn:=by
 intro n
 induction n with
 | zero=>intro m j h;cases h;exact q9 _
 | succ n w=>
  intro m j h
  unfold runN at h
  have l:=il p m
  split at h
  ·rename_i A;rw[A] at l
   exact rM l (w _ _ h)
  ·rename_i e q
   rw[h] at q
   exact absurd rfl (q _)
theorem Uu{p}{m j:Machine}(h:Steps p m j):m.world.drawn≤j.world.drawn:=by
 obtain⟨n,l⟩:=h
 exact Zn p n m j l
theorem jA{P}{f}{args}{w:World}{R}(h:Calls P f args w R):Calls P f args w λe w'=>R e w'∧(e≠.outgrown→w.drawn≤w'.drawn):=by
 intro l
 obtain⟨e,w',m,q,j,A,B⟩:=h l
 refine⟨e,w',m,⟨q,λC=>?_⟩,j,A,B⟩
 cases e with
 | outgrown=>exact absurd rfl C
 | returned v=>exact Uu (show Steps P _ _ from j)
 | panicked c=>exact Uu (show Steps P _ _ from j)
end Go.Proofs.YtifgmfoihehlbaaGreatDoor.Al

set_option maxHeartbeats 1000000
namespace Go.Proofs.YtifgmfoihehlbaaGreatDoor.Al
open Go.Shelf Go.RowKit Go.Lib Go.Sort
def Ro{τ:Type}(cmp:τ→τ→Option Int)(xs l:List τ):Prop:=
 xs.length<4611686018427387904∧∃j:τ→τ→Int,(∀a b,cmp a b=some (j a b))∧SWO (ltOf j)∧(∀a∈xs,∀b∈xs,ltOf j a b=false→ltOf j b a=false→a=b) ∧
  l.Perm xs∧l.Pairwise λa b=>ltOf j b a=false
open Classical in
noncomputable def Hv{τ:Type}(cmp:τ→τ→Option Int)(xs:List τ):Option (List τ):=if h:∃l,Ro cmp xs l then some h.choose else none
theorem PA{τ:Type}{cmp:τ→τ→Option Int}{xs l:List τ}(h:Hv cmp xs=some l):Ro cmp xs l:=by
 unfold Hv at h
 split at h
 ·rename_i j;cases h;exact j.choose_spec
 ·cases h
theorem TL{τ:Type}{lt}(O:SWO lt):∀(l j:List τ),l.Perm j→(∀a∈l,∀b∈l,lt a b=false→lt b a=false→a=b)→l.Pairwise (λa b=>lt b a=false)→j.Pairwise (λa b=>lt b a=false)→l=j:=by
 intro l
 induction l with
 | nil=>intro j hp _ _ _;exact(List.nil_perm.1 hp).symm
 | cons a r I=>
  intro j hp E m q
  cases j with
  | nil=>exact absurd hp (by simp)
  | cons b s=>
   rw[tP] at m q
   have w:a=b:=by
    have A:b∈a::r:=hp.symm.subset (rT ..)
    have B:a∈b::s:=hp.subset (rT ..)
    rcases ri.1 A with e | F
    ·exact e.symm
    ·rcases ri.1 B with e | C
     ·exact e
     ·exact E a (rT ..) b (rO _ F) (q.1 a C) (m.1 b F)
   subst w
   rw[I s (List.Perm.cons_inv hp) (λx J y M=>E x (rO _ J) y (rO _ M)) m.2 q.2]
theorem nW{τ:Type}{cmp:τ→τ→Option Int}{xs l:List τ}(h:Ro cmp xs l):Hv cmp xs=some l:=by
 have q:∃l,Ro cmp xs l:=⟨l,h⟩
 unfold Hv
 rw[tW q]
 obtain⟨U,w,A,B,C,E,F⟩:=h
 obtain⟨_,j,I,_,_,m,J⟩:=q.choose_spec
 have M:j=w:=by
  funext a b
  have:=(I a b).symm.trans (A a b)
  simpa using this
 subst M
 rw[TL B _ l (m.trans E.symm) (λa O b T=>C a (m.subset O) b (m.subset T)) J F]
theorem kB{τ:Type}{cmp:τ→τ→Option Int}{xs l j:List τ}{m:τ→τ→Int}(h:Hv cmp xs=some l)(hc:∀a b,cmp a b=some (m a b))(hp:j.Perm xs)(A:j.Pairwise λa b=>ltOf m b a=false):j=l:=by
 obtain⟨O,q,B,C,E,F,I⟩:=PA h
 have w:q=m:=by
  funext a b
  have:=(B a b).symm.trans (hc a b)
  simpa using this
 subst w
 exact TL C _ _ (hp.trans F.symm) (λa J b M=>E a (hp.subset J) b (hp.subset M)) A I
theorem Aa.exact{P}{g}{args}{r}(h:Aa P g args r){z:Cx}(m:z.ok){W:World}(J:z.w.heap.size≤W.heap.size)(X:W.os=z.w.os)(Z:W.tape=z.w.tape)(hp:W.output=z.w.output)
 (hb:∀b, z.S b→W.heap[b]?=z.w.heap[b]?) {vs:Array Value} (ha:∀y:Cx, y.w=W→y.S=z.S→G4 y args vs.toList) :
    Calls P g vs W λe w' => ∃u, e=.returned u∧(∃y:Cx, AX y r u)∧∃q E, w'=grow (W.drewN q) E := by
  have t1:Es { z with F := λ_ => False, H := λ_ => none } := m.tabs.same rfl λ_ h => h
  have t2:Es { w := W, S := z.S, F := λ_ => False, H := λ_ => none, β := z.β, K := z.K, n := z.n } :=
    t1.le ⟨J, X, Z, hp, (λb F => F.elim (hb b) False.elim), (λ_ h => h), rfl, q9 _, (λ_ _ h => by cases h), (λ_ _ h => by cases h)⟩
  have t3:Es { w := W, S := z.S, F := λb => b<W.heap.size∧¬ z.S b, H := λ_ => none, β := λ_ => none, K := λ_ _ => none, n := 0 } := t2.same rfl λ_ h => h
  have hx:({ w := W, S := z.S, F := λb => b<W.heap.size∧¬ z.S b, H := λ_ => none, β := λ_ => none, K := λ_ _ => none, n := 0 } : Cx).ok :=
    ⟨(λb B => rD (m.S_lt b B) J), (λb h => h.1), (λb C w => w.2 C), (λ_ _ h => by cases h), (λ_ _ _ _ h => by cases h), (λ_ _ _ _ _ _ _ h => by cases h), (λ_ _ _ _ _ h => by cases h), t3⟩
  refine(jA (h.2.2 _ vs hx rfl (ha _ rfl rfl))).mono λe w' ⟨⟨u, y, M, hw, j, O, A⟩, hd⟩ => ?_
  subst hw
  have a0 := hd (by rw[M];intro h;cases h)
  refine⟨u, M, ⟨y, A⟩, y.w.drawn - W.drawn, y.w.heap.extract W.heap.size y.w.heap.size, ?_⟩
  have hsz:W.heap.size≤y.w.heap.size := j.size
  have l:y.w.heap=W.heap++y.w.heap.extract W.heap.size y.w.heap.size := by
    apply Array.ext_getElem?
    intro i
    by_cases T:i<W.heap.size
    · rw[tS T]
      refine j.blk i ?_
      by_cases B:z.S i
      · exact .inl B
      · exact .inr ⟨T, B⟩
    · rw[Array.getElem?_append_right (by omega), Array.getElem?_extract]
      by_cases w:i<y.w.heap.size
      · rw[qy (by omega)];congr 1;omega
      · rw[qx (by omega), tC (by omega)]
  have C := j.os;have w := j.tape;have U := j.output
  simp only at C w U
  generalize y.w=w' at *
  obtain⟨V, tape, I, os, output⟩ := w'
  simp only at *
  subst C w U
  unfold grow World.drewN
  simp only
  rw[← l]
  congr 1
  omega
structure El{τ:Type}(x:Cx)(row:τ→List RV)(k:Nat) where
 t:τ
 us:List Value
 hl:us.length=k
 hrl:(row t).length=k
 hr:∀(i:Nat) (d:RV) (u:Value),(row t)[i]?=some d→us[i]?=some u→BG x.w x.S d u
theorem El.one{τ:Type}{x:Cx}{row:τ→List RV}{k:Nat}(a:El x row k):∀v∈a.us,v.oneCell'=true:=by
 intro v l
 obtain⟨i,j,rfl⟩:=sA.1 l
 have m:i<(row a.t).length:=by rw[a.hrl,← a.hl];exact j
 exact(a.hr i _ _ (rA m) (rA j)).one
theorem El.agg{τ:Type}{x y:Cx}{row:τ→List RV}{k:Nat}(a:El x row k)(l:∀b,x.S b→y.w.heap[b]?=x.w.heap[b]?)(m:y.S=x.S):AX y (.agg ((row a.t).map .r)) (.agg a.us.toArray):=by
 refine .agg (by simp[a.hl,a.hrl]) λi c u j q=>?_
 rw[rG,rK] at j
 obtain⟨d,hd,rfl⟩:=j
 exact .r ((a.hr i d u hd (by simpa using q)).mono l λb h=>by rw[m];exact h)
theorem nh{τ:Type}{x:Cx}{row:τ→List RV}{k:Nat}{j:τ→τ→Int}(h:SWO (ltOf j)):SWO (ltOf λa b:El x row k=>j a.t b.t):=
 ⟨λa=>h.irrefl a.t,λa b c=>h.trans a.t b.t c.t,λa b c=>h.ntrans a.t b.t c.t⟩
theorem Xl{α:Type}[Inhabited α](enc:α→List Value) k(w:World) blk n d l :
  w.heap.size≤(sortWorldK enc k w blk 0 n d l).heap.size∧(sortWorldK enc k w blk 0 n d l).os=w.os∧(sortWorldK enc k w blk 0 n d l).tape=w.tape∧(sortWorldK enc k w blk 0 n d l).output=w.output ∧
   (∀b,b<w.heap.size→b≠blk→(sortWorldK enc k w blk 0 n d l).heap[b]?=w.heap[b]?) ∧
   ∀j e m,w.heap[blk]?=some (.cells j e m)→(sortWorldK enc k w blk 0 n d l).heap[blk]?=some (.cells (putCells id 0 (flatK enc k d) j) e m):=by
 refine⟨?_,rfl,rfl,rfl,λb q A=>?_,λj e m h=>?_⟩
 ·simp[sortWorldK,grow,putRowK,putRow,mapBlock,Sort.ahead]
 ·simp only[sortWorldK,grow,putRowK,putRow,mapBlock,Sort.ahead]
  rw[tS (by simpa using q),Array.getElem?_modify,qx (λe=>A e.symm)]
 ·have q:blk<w.heap.size:=(sG.1 h).1
  simp only[sortWorldK,grow,putRowK,putRow,mapBlock,Sort.ahead]
  rw[tS (by simpa using q),Array.getElem?_modify,qy rfl,h]
  rfl
section
variable{P:Program}{ρ:Ren}{τ:Type}{row:τ→List RV}{k:Nat}{cmp:τ→τ→Option Int}{g:FuncId}
theorem cA{x:Cx}(w:x.ok){n}(a b:El x row k)(hc:Aa P g [.agg ((row a.t).map .r), .agg ((row b.t).map .r)] (.r (.int .i64 n))){W:World}(M:x.w.heap.size≤W.heap.size)(O:W.os=x.w.os)(T:W.tape=x.w.tape)(hp:W.output=x.w.output)
 (F:∀b, x.S b→W.heap[b]?=x.w.heap[b]?):Calls P g #[.agg a.us.toArray, .agg b.us.toArray] W λe w' => e=.returned (.int .i64 n)∧∃q j, w'=grow (W.drewN q) j := by
  have U:∀y:Cx, y.w=W→y.S=x.S→G4 y [.agg ((row a.t).map .r), .agg ((row b.t).map .r)] (#[.agg a.us.toArray, .agg b.us.toArray]:Array Value).toList := by
    intro y A I
    have l:∀c, x.S c→y.w.heap[c]?=x.w.heap[c]? := λc hc => by rw[A];exact F c hc
    have V := a.agg l I
    have X := b.agg l I
    refine⟨rfl, λi v u B J => ?_⟩
    rcases i with _ | _ | i
    · have C:AV.agg ((row a.t).map .r)=v := by simpa using B
      have E:Value.agg a.us.toArray=u := by simpa using J
      rw[← C, ← E];exact V
    · have C:AV.agg ((row b.t).map .r)=v := by simpa using B
      have E:Value.agg b.us.toArray=u := by simpa using J
      rw[← C, ← E];exact X
    · simp at B
  refine(hc.exact w M O T hp F U).mono ?_
  rintro e w' ⟨u, Z, ⟨y, m⟩, q, j, A⟩
  refine⟨?_, q, j, A⟩
  rw[Z]
  generalize hd:RV.int .i64 n=d at m
  cases m with
  | r m => subst hd;cases m;rfl
theorem kH{x:Cx}(j:x.ok){A:τ→τ→Int}[Inhabited (El x row k)](hc:∀a b,Aa P g [.agg ((row a).map .r),.agg ((row b).map .r)] (.r (.int .i64 (A a b)))){blk:Nat}(l:¬ x.S blk)(size:Nat) :
  CmpLays P g #[] (λa:El x row k=>a.us) k (λa b=>A a.t b.t) blk 0 size x.w:=by
 intro m q w _ a b
 obtain⟨C,E,F,I,J,_⟩:=Xl (λa:El x row k=>a.us) k x.w blk m w q
 have M:∀c,x.S c→(sortWorldK (λa:El x row k=>a.us) k x.w blk 0 m w q).heap[c]?=x.w.heap[c]?:=λc B=>J c (j.S_lt c B) λe=>l (by rw[← e];exact B)
 generalize sortWorldK (λa:El x row k=>a.us) k x.w blk 0 m w q=W at *
 rw[Array.append_empty]
 exact cA j a b (hc a.t b.t) C E F I M
theorem WA{α:Type}[Inhabited α](enc:α→List Value)(d:Array α){i c}(w:∀x,(enc x).length=k)(j:i<d.size)(hc:c<k):(flatK enc k d)[i * k+c]?=(enc d[i])[c]?:=by
 have lt:i * k+c<d.size * k:=by
  have:=rz k (show i+1≤d.size from j);rw[so,tO] at this;omega
 have h:=get_flatK enc k d _ lt
 have l:(i * k+c) / k=i:=(blk_iff k i _ (by omega)).1 ⟨by omega,by omega⟩
 have A:(i * k+c) % k=c:=by rw[Nat.mod_eq_sub_div_mul,l];omega
 rw[l,A] at h
 have m:i * k+c<(flatK enc k d).size:=by rw[size_flatK];exact lt
 have q:c<(enc d[i]).length:=by rw[w];exact hc
 rw[re m,rA q]
 rw[rN (flatK enc k d) _ m,rN d i j,rN (enc d[i]) c q] at h
 rw[h]
theorem Wl(L:SlLaysF0.n6 P ρ)(aE:∀w,(isAgg (ρ.t 24)).run P w=.ok true w)(zE:∀w,(Go.sizeOf (ρ.t 24)).run P w=.ok k w)(eg:∀args w,(callFunc g args).run P w=.ok (.enter g args) w)
  {x:Cx} (hok:x.ok) (hc:∀a b r,cmp a b=some r→Aa P g [.agg ((row a).map .r),.agg ((row b).map .r)] (.r (.int .i64 r))) {xs l:List τ} (hs:Hv cmp xs=some l) {e:TypeId} {blk cap:Nat} {us:List Value}
  (hlt:blk<x.w.heap.size) (hblk:¬ x.S blk) (hk:0<k) (hrow:∀a∈xs,(row a).length=k) (hown:x.w.ownsRow 0 e k (.slice (some ⟨blk,0,none⟩) xs.length cap) xs.length us)
  (hcell:∀i a c d,xs[i]?=some a→(row a)[c]?=some d→∃u,us[i * k+c]?=some u∧BG x.w x.S d u) :
  Calls P (ρ.f 6) #[.slice (some ⟨blk,0,none⟩) xs.length cap,.func (.func g) #[] #[]] x.w λe' w'=>e'=.returned (.tuple #[]) ∧
   x.w.heap.size≤w'.heap.size∧w'.os=x.w.os∧w'.tape=x.w.tape∧w'.output=x.w.output∧(∀b,b<x.w.heap.size→b≠blk→w'.heap[b]?=x.w.heap[b]?) ∧
   ∃us',w'.ownsRow 0 e k (.slice (some ⟨blk,0,none⟩) xs.length cap) xs.length us'∧∀i a c d,l[i]?=some a→(row a)[c]?=some d→∃u,us'[i * k+c]?=some u∧BG x.w x.S d u:=by
 obtain⟨h0,cf,h1,h2,h3,h4,h5⟩:=PA hs
 obtain⟨hul,hown'⟩:=hown
 obtain⟨hv,_⟩ | ⟨gg,cap',cur,hv,_,hh,hcap,hm,hcur,htake⟩:=hown'
 ·cases hv
 simp only[Value.slice.injEq,rE,Addr.mk.injEq,uH] at hv
 obtain⟨rfl,_,rfl⟩:=hv
 rcases uZ xs.length with hz | hpos
 ·
  have hx:xs=[]:=ss.1 hz
  subst hx
  have hl:l=[]:=List.perm_nil.1 h4
  subst hl
  refine(AnyF.slices_SortFunc_none L (some ⟨blk,0,none⟩) cap (.func (.func g) #[] #[]) x.w).mono λe' w' ⟨he,hw⟩=>?_
  subst hw
  exact⟨he,q9 _,rfl,rfl,rfl,λ_ _ _=>rfl,us,⟨hul,.inr ⟨blk,cap,cur,rfl,si _,hh,hcap,hm,hcur,htake⟩⟩,λi a c d h=>by simp at h⟩
 ·have hfit:∀i,i<xs.length→i * k+k≤us.length:=λi hi=>by
   rw[hul]
   have:=rz k (show i+1≤xs.length from hi);rwa [so,tO] at this
  have p1:∀i:Fin xs.length,((us.drop (i.val * k)).take k).length=k:=λi=>by
   have:=hfit i.val i.isLt
   rw[sb,uI];omega
  have p3:∀(i:Fin xs.length) (c:Nat) (dd:RV) (u:Value),(row xs[i])[c]?=some dd→((us.drop (i.val * k)).take k)[c]?=some u→BG x.w x.S dd u:=λi c dd u hd hu=>by
   obtain⟨u',e1,e2⟩:=hcell i.val xs[i] c dd (rA i.isLt) hd
   rw[sD,ry] at hu
   split at hu
   ·rw[e1] at hu;cases hu;exact e2
   ·cases hu
  let d:Array (El x row k):=Array.ofFn (n:=xs.length) λi=>(⟨xs[i],(us.drop (i.val * k)).take k,p1 i,hrow _ (rm i.isLt),p3 i⟩:El x row k)
  have hds:d.size=xs.length:=by simp[d]
  have hdt:∀i (hi:i<d.size),d[i].t=xs[i]'(by rw[← hds];exact hi):=λi hi=>by simp[d]
  have hdu:∀i (hi:i<d.size),d[i].us=(us.drop (i * k)).take k:=λi hi=>by simp[d]
  haveI:Inhabited (El x row k):=⟨d[0]'(by rw[hds];exact hpos)⟩
  have hek:∀a:El x row k,a.us.length=k:=λa=>a.hl
  have hH:HoldsK (λa:El x row k=>a.us) k x.w blk 0 d:=by
   intro j hj
   rw[size_flatK,hds] at hj
   have e1:j / k<xs.length:=(uL hk).2 hj
   have e2:j % k<k:=Nat.mod_lt _ hk
   have e3:j=j / k * k+j % k:=by rw[tI];exact(Nat.div_add_mod j k).symm
   have hg:(flatK (λa:El x row k=>a.us) k d)[j]?=us[j]?:=by
    rw[e3,WA (k:=k) (λa:El x row k=>a.us) d hek (by rw[hds];exact e1) e2]
    rw[hdu,sD,qy e2,ry]
   have hj2:j<us.length:=by rw[hul];exact hj
   have hj3:j<(flatK (λa:El x row k=>a.us) k d).size:=by rw[size_flatK,hds];exact hj
   have hval:(flatK (λa:El x row k=>a.us) k d)[j]! = us[j]:=by
    rw[rN _ j hj3]
    rw[re hj3,rA hj2] at hg
    exact rW hg
   refine⟨?_,?_⟩
   ·rw[hval]
    unfold World.cell?
    simp only[hh,rl,Option.isSome_none,sq,tX]
    have:us[j]?=cur[j]?:=by
     rw[← htake,sD,qy hj,sI]
    rw[← this,rA hj2];rfl
   ·unfold World.frozen?
    simp[hh]
  have hcon:=AnyQ.slices_SortFunc L k aE zE (λa:El x row k=>a.us) hek (λa=>a.one) (λa b=>cf a.t b.t) (nh h2) g #[] blk 0 cap d x.w eg (kH hok (λa b=>hc a b _ (h1 a b)) hblk d.size) hH hlt (by rw[hds];exact h0)
  rw[hds] at hcon
  refine hcon.mono λe' w' ⟨he,d',n,os,hp,hso,hw⟩=>?_
  subst hw
  obtain⟨f1,f2,f3,f4,f5,f6⟩:=Xl (λa:El x row k=>a.us) k x.w blk n d' os
  obtain⟨hps,_,hpp⟩:=hp
  have hdl:d'.toList.map (·.t)=l:=by
   have e1:d'.extract 0 xs.length=d':=by rw[← hds,← hps];exact Array.extract_size
   have e2:d.extract 0 xs.length=d:=by rw[← hds];exact Array.extract_size
   rw[e1,e2] at hpp
   refine kB hs h1 ((hpp.map _).trans ?_) ?_
   ·have:d.toList.map (·.t)=xs:=by
     apply sy
     intro i
     rw[rG,sI]
     by_cases hi:i<d.size
     ·rw[re hi,sK,hdt i hi,rA]
     ·rw[tC (by omega),se (by omega)];rfl
    rw[this]
   ·rw[tj,s7]
    intro i j hi hj hij
    have hj':j<d'.size:=by simpa using hj
    have hi':i<d'.size:=by simpa using hi
    have:=hso i j (si _) hij (by rw[← hds,← hps];exact hj')
    rw[rN d' i hi',rN d' j hj'] at this
    simpa[ltOf] using this
  have hll:l.length=xs.length:=h4.length_eq
  have hcs:xs.length * k≤cur.size:=by rw[hcur];exact rz k hcap
  have hflat:(putCells id 0 (flatK (λa:El x row k=>a.us) k d') cur).toList.take (xs.length * k)=(flatK (λa:El x row k=>a.us) k d').toList:=by
   have hsf:(flatK (λa:El x row k=>a.us) k d').size=xs.length * k:=by rw[size_flatK,hps,hds]
   apply sy
   intro j
   rw[sD,sI,sI]
   split
   ·rename_i hj
    unfold putCells
    have hjc:j<cur.size:=by omega
    have hjf:j<(flatK (λa:El x row k=>a.us) k d').size:=by omega
    rw[Array.getElem?_mapIdx,re hjc,re hjf,sK,qy ⟨si _,by omega⟩]
    simp only[Nat.sub_zero,id]
    rw[rN _ j hjf]
   ·rename_i hj
    rw[tC (by omega)]
  refine⟨he,f1,f2,f3,f4,f5,(flatK (λa:El x row k=>a.us) k d').toList,⟨?_,.inr ⟨blk,cap,putCells id 0 (flatK (λa:El x row k=>a.us) k d') cur,rfl,si _,f6 cur e (0,0) hh,hcap,hm,?_,hflat⟩⟩,λi a c dd hi hd=>?_⟩
  ·simp[hps,hds]
  ·rw[← hcur];simp[putCells]
  ·rw[← hdl,rG,sI,rK] at hi
   obtain⟨el,hel,rfl⟩:=hi
   obtain⟨hi',rfl⟩:=sG.1 hel
   have hcl:c<k:=by
    have:=(rC.1 hd).1
    rw[(d'[i]).hrl] at this;exact this
   have hcu:c<(d'[i]).us.length:=by rw[(d'[i]).hl];exact hcl
   refine⟨(d'[i]).us[c],?_,(d'[i]).hr c dd _ hd (rA hcu)⟩
   rw[sI,WA (k:=k) (λa:El x row k=>a.us) d' hek hi' hcl,rA hcu]
structure Tc(P:Program)(f:FuncId)(k:Nat):Prop where
 call:Gt P f
 ex:∃ρ:Ren,ρ.f 6=f∧SlLaysF0.n6 P ρ∧(∀w,(isAgg (ρ.t 24)).run P w=.ok true w)∧∀w,(Go.sizeOf (ρ.t 24)).run P w=.ok k w
theorem Wb{g}(h:Gt P g):∀args w,(callFunc g args).run P w=.ok (.enter g args) w:=by
 obtain⟨fn,j,l,m⟩:=h
 intro args w
 simp only[callFunc,Sem.run_bind,run_program,Result.andThen_ok,j,m,l]
 rfl
theorem qj{f}(L:Tc P f k)(hk:0<k)(A:∀a,(row a).length=k)(hg:Gt P g)(hc:∀a b r,cmp a b=some r→Aa P g [.agg ((row a).map .r),.agg ((row b).map .r)] (.r (.int .i64 r))){B}{e}{xs l:List τ}(Z:Hv cmp xs=some l) :
  BC P f 1 [.own 1000 B,.fn g []] [(1000,some (.arr B e k (xs.map row)))] (λr h'=>∃i:Nat→Nat,r=.tup []∧h'=[(1000,some (.arr B e k (l.map row)))]):=by
 obtain⟨M,ρ,hf,hL,aE,zE⟩:=L
 refine⟨M,λx vs m hH ha=>?_⟩
 subst hf
 have j:x.H 1000=some (.arr B e k (xs.map row)):=by rw[hH];rfl
 obtain⟨a0,h0,aa,ab,V,O,C,E⟩:=m.obj _ _ j
 obtain⟨v1,X,rfl⟩:∃v1 X,vs = #[v1,X]:=by
  have:=ha.1
  match vs,this with
  | ⟨[a,b]⟩,_=>exact⟨a,b,rfl⟩
 have a1:=ha.2 0 _ v1 rfl rfl
 have a2:=ha.2 1 _ X rfl rfl
 have e2:X=.func (.func g) #[] #[]:=by
  generalize a6:([]:List AV)=cs at a2
  cases a2 with
  | fn hl _=>
   subst a6
   have:∀V:Array Value,[].length (α:=AV)=V.size→V = #[]:=λV h=>uT h.symm
   rw[this _ hl]
 have T:DP (x.β 1000) (xs.map row).length v1:=by
  cases a1 with
  | own _ _ h=>exact h _ j rfl
 subst e2
 rw[rh] at O C T
 cases I:x.β 1000 with
 | none=>
  rw[I] at O T
  obtain⟨hz,_⟩:=O
  obtain⟨_,rfl⟩:=T
  have hx:xs=[]:=ss.1 hz
  subst hx
  have hl:l=[]:=List.perm_nil.1 (PA Z).2.choose_spec.2.2.2.1
  subst hl
  refine(AnyF.slices_SortFunc_none hL none 0 (.func (.func g) #[] #[]) x.w).mono λe' w' ⟨he,hw⟩=>?_
  subst hw
  exact⟨_,x,.tup [],_,he,rfl,Cx.le.refl x,m,hH,.tup rfl (λi c u h=>by simp at h),rfl,rfl,λ_=>B,rfl,rfl⟩
 | some p=>
  obtain⟨blk,cap⟩:=p
  rw[I] at O T
  cases O;cases T
  have w:=m.own 1000 _ blk cap j I
  have F:l.length=xs.length:=(PA Z).2.choose_spec.2.2.2.1.length_eq
  refine(Wl hL aE zE (Wb hg) m hc Z w.1 w.2.1 hk (λa _=>A a) C λi a c d q hd=>E i (row a) c d (by rw[rG,q];rfl) hd).mono λe' w' ⟨he,f1,f2,f3,f4,f5,a7,f6,f7⟩=>?_
  have U:=EY m 1000 (.arr B e k (l.map row)) w' (some (blk,cap)) x.n f1 f2 f3 f4
   (λb J a8=>f5 b J λe=>a8 _ cap j (by rw[e];exact I))
   (λb k' J=>by cases J;exact⟨rD w.1 f1,.inr ⟨_,cap,j,I⟩⟩)
   (q9 _) a0 (λ_=>⟨_,j,rfl,by simp[Af.shape,F],I.symm⟩)
   (λac=>⟨hk,λr hr=>by obtain⟨a,_,rfl⟩:=rn.1 hr;exact A a,.slice (some ⟨blk,0,none⟩) xs.length cap,a7,by rw[rh,F];rfl,by rw[rh,F];exact f6,
    λi r c d q hd=>by
     rw[rG,rK] at q
     obtain⟨a,q,rfl⟩:=q
     obtain⟨u,k1,k2⟩:=f7 i a c d q hd
     exact⟨u,k1,k2.mono (λb J=>f5 b (m.S_lt b J) λe=>w.2.1 (by rw[← e];exact J)) λ_ h=>h⟩⟩)
  refine⟨_,_,.tup [],[(1000,some (.arr B e k (l.map row)))],he,rfl,U.1,U.2,?_,.tup rfl (λi c u h=>by simp at h),rfl,rfl,λ_=>B,rfl,rfl⟩
  simp only[hH]
  funext i
  by_cases q:1000=i
  ·subst q;rfl
  ·rw[qx q,BY,qx q,BY,qx q]
noncomputable def Js(cmp:τ→τ→Option Int)(m:List (Int × List τ))(q:Int):Option (List (Int × List τ)):=
 match AU m q with
 | none=>some m
 | some j=>(Hv cmp j).map λl=>Ah m q l
theorem qX{f}(L:Tc P f k)(hk:0<k)(T:∀a,(row a).length=k)(hg:Gt P g)(hc:∀a b r,cmp a b=some r→Aa P g [.agg ((row a).map .r),.agg ((row b).map .r)] (.r (.int .i64 r))){U ve}{e:TypeId}{m m':List (Int × List τ)}{q}(J:Js cmp m q=some m') :
  BC P f 1 [.fo 1000 U ve q,.fn g []] [(1000,some (.mr U ve e k none (AK (λ(l:List τ)=>l.map row) m)))] (λr h'=>∃i:Nat→Nat,r=.tup []∧h'=[(1000,some (.mr U ve e k none (AK (λ(l:List τ)=>l.map row) m')))]):=by
 obtain⟨a7,ρ,hf,hL,aE,zE⟩:=L
 refine⟨a7,λx vs A hH ha=>?_⟩
 subst hf
 have w:x.H 1000=some (.mr U ve e k none (AK (λ(l:List τ)=>l.map row) m)):=by rw[hH];rfl
 obtain⟨v1,v2,rfl⟩:∃v1 v2,vs = #[v1,v2]:=by
  have:=ha.1
  match vs,this with
  | ⟨[a,b]⟩,_=>exact⟨a,b,rfl⟩
 have a1:=ha.2 0 _ v1 rfl rfl
 have a2:=ha.2 1 _ v2 rfl rfl
 have e2:v2=.func (.func g) #[] #[]:=by
  generalize ai:([]:List AV)=cs at a2
  cases a2 with
  | fn hl _=>
   subst ai
   have:∀us:Array Value,[].length (α:=AV)=us.size→us = #[]:=λus h=>uT h.symm
   rw[this _ hl]
 subst e2
 rcases NS A w a1 with ⟨_,rfl,hn⟩ | ⟨j,rs,blk,cap,us,hj,a8,av,hR,rfl⟩
 ·rw[KO,Option.map_eq_none_iff] at hn
  unfold Js at J
  rw[hn] at J
  cases J
  refine(AnyF.slices_SortFunc_none hL none 0 (.func (.func g) #[] #[]) x.w).mono λe' w' ⟨he,hw⟩=>?_
  subst hw
  exact⟨_,x,.tup [],_,he,rfl,Cx.le.refl x,A,hH,.tup rfl (λi c u h=>by simp at h),rfl,rfl,λ_=>U,rfl,rfl⟩
 ·rw[KO,rK] at a8
  obtain⟨xs,aa,rfl⟩:=a8
  unfold Js at J
  rw[aa] at J
  simp only[rK] at J
  obtain⟨l,J,rfl⟩:=J
  obtain⟨r1,r2,r3,r4⟩:=hR
  rw[rh] at r3
  have C:=A.ext 1000 _ j blk cap w r2
  obtain⟨aj,_⟩:=A.obj _ _ w
  obtain⟨h0,hv,b,es,h1,h2,h3,h4⟩:=Iw A w
  have V:l.length=xs.length:=(PA J).2.choose_spec.2.2.2.1.length_eq
  have ab:b≠blk:=λe=>C.2.2.2.1 1000 _ 1 w (by rw[h1,e])
  rw[rh]
  refine(Wl hL aE zE (Wb hg) A hc J C.1 C.2.1 hk (λa _=>T a) r3 λi a c d F hd=>r4 i (row a) c d (by rw[rG,F];rfl) hd).mono λe' w' ⟨he,f1,f2,f3,f4,f5,ak,f6,f7⟩=>?_
  have al:Ak m q=some j:=by
   have:=T3 (λp:Int × List τ=>(p.1,p.2.map row)) (λ_=>rfl) m q
   rw[← this];exact hj
  obtain⟨aw,X,ac,ad⟩:=Dd al
  rw[aa] at ac;cases ac
  have ae:(Ah m q l).length=m.length:=by rw[ad,tR]
  have hget:∀i:Nat,(Ah m q l)[i]?=if i=j then some (q,l) else m[i]?:=λi=>by
   rw[ad,sY]
   by_cases B:j=i
   ·subst B
    have:j<m.length:=(rC.1 X).1
    simp[this]
   ·rw[qx B,qx (λe=>B e.symm)]
  have af:=Jo A 1000 (.mr U ve e k none (AK (λ(l:List τ)=>l.map row) (Ah m q l))) w' (some (b,1)) (x.K 1000) x.n f1 f2 f3 f4
   (λb2 I an=>f5 b2 I λe=>an _ w (.inr ⟨j,cap,by rw[e];exact r2⟩))
   (λb2 Z I=>by cases I;exact⟨rD (A.own 1000 _ b 1 w h1).1 f1,.inr ⟨_,w,.inl ⟨1,h1⟩⟩⟩)
   (λM b2 Z I=>by
    have hx:=A.ext 1000 _ M b2 Z w I
    exact⟨⟨rD hx.1 f1,.inr ⟨_,w,.inr ⟨M,Z,I⟩⟩⟩,λk3 a0=>by cases a0;exact hx.2.2.2.1 1000 _ 1 w h1,λj3 k3 a0=>(hx.2.2.2.2 1000 _ j3 k3 w a0).2⟩)
   (q9 _) aj (λ_=>⟨_,w,rfl,rfl,h1.symm⟩)
   (λ_ _ _=>⟨_,w,rfl,rfl,rfl,by
    apply sy
    intro i
    simp only[Af.kshape,AK,rG,hget]
    by_cases B:i=j
    ·subst B;rw[qy rfl,X];simp[V]
    ·rw[qx B],rfl⟩)
   (λax=>by
    refine Ci.mr (id:=1000) (λM=>by simp) h0 hv ((f5 b (A.own 1000 _ b 1 w h1).1 ab).trans h2) (by rw[show(AK (λ(l:List τ)=>l.map row) (Ah m q l)).length=(AK (λ(l:List τ)=>l.map row) m).length by simp[AK,ae]];exact h3) λM q2 ao ag=>?_
    simp only[AK,rG,hget,rK] at ag
    obtain⟨p2,O,a6⟩:=ag
    by_cases B:M=j
    ·subst B
     rw[qy rfl] at O
     cases O
     simp only[rJ] at a6
     obtain⟨rfl,rfl⟩:=a6
     obtain⟨bb,E,ah,⟨_,g2,_,_⟩,g5⟩:=h4 M q (xs.map row) (by simp[AK,rG,X])
     rw[r2] at g2;cases g2
     refine⟨blk,cap,ak,⟨λr hr=>by obtain⟨a,_,rfl⟩:=rn.1 hr;exact T a,by simpa using r2,by rw[rh,V];exact f6,λi r c d F hd=>?_⟩,?_⟩
     ·rw[rG,rK] at F
      obtain⟨a,F,rfl⟩:=F
      obtain⟨u,k1,Z⟩:=f7 i a c d F hd
      exact⟨u,k1,Z.mono (λb hb=>f5 b (A.S_lt b hb) λe=>C.2.1 (by rw[← e];exact hb)) λ_ h=>h⟩
     ·rw[rh] at g5 ⊢
      rw[V];exact g5
    ·rw[qx B] at O
     obtain⟨bb,E,ah,⟨g1,g2,g3,g4⟩,g5⟩:=h4 M q2 ao (by simp only[AK,rG,O,sK,a6])
     have aq:bb≠blk:=λe=>B (A.ext 1000 _ j blk cap w r2 |>.2.2.2.2 1000 _ M E w (by rw[← e];exact g2)).2
     have ar:=A.ext 1000 _ M bb E w g2
     refine⟨bb,E,ah,⟨g1,by simpa using g2,?_,λi r c d F hd=>?_⟩,g5⟩
     ·obtain⟨o1,o2⟩:=g3
      refine⟨o1,?_⟩
      rcases o2 with o2 | ⟨g',c',au,p1,p2,p3,p4⟩
      ·exact .inl o2
      ·simp only[Value.slice.injEq,rE,Addr.mk.injEq,uH] at p1
       obtain⟨rfl,_,rfl⟩:=p1
       exact .inr ⟨bb,E,au,rfl,p2,(f5 bb ar.1 aq).trans p3,p4⟩
     ·obtain⟨u,k1,Z⟩:=g4 i r c d F hd
      exact⟨u,k1,Z.mono (λb hb=>f5 b (A.S_lt b hb) λe=>C.2.1 (by rw[← e];exact hb)) λ_ h=>h⟩)
  refine⟨_,_,.tup [],[(1000,some (.mr U ve e k none (AK (λ(l:List τ)=>l.map row) (Ah m q l))))],he,rfl,af.1,af.2,?_,.tup rfl (λi c u h=>by simp at h),rfl,rfl,λ_=>U,rfl,rfl⟩
  simp only[hH]
  funext i
  by_cases F:1000=i
  ·subst F;rfl
  ·rw[qx F,BY,qx F,BY,qx F]
end
end Go.Proofs.YtifgmfoihehlbaaGreatDoor.Al

set_option linter.unusedVariables false
namespace Go.Proofs.YtifgmfoihehlbaaGreatDoor.Al
open Go.Shelf Go.RowKit Go.Lib Go.Sort
section
variable{P:Program}
end
end Go.Proofs.YtifgmfoihehlbaaGreatDoor.Al

namespace Go.Proofs.YtifgmfoihehlbaaGreatDoor.Al
open Go.Shelf Go.Proofs
def Z3:Go.Shelf.Ren:=⟨fun | 196=>160 | 259=>174 | n=>n,fun | 9=>9 | 4=>4 | 3=>3 | 5=>5 | 12=>12 | 119=>206 | 0=>0 | 46=>158 | 139=>209 | 138=>208 | 53=>220 | n=>n,fun | 3=>0 | 4=>1 | n=>n⟩
theorem nF:Go.Proofs.Lays.n196 Tryz.prog Z3:={
 mixed:=by kernel_rfl
 f196:=Tryz.func160.trans (rU some (by kernel_rfl))
 f259:=Tryz.func174.trans (rU some (by kernel_rfl))
 t0:=Tryz.underlying0
 a0:=Tryz.isAgg0
 z0:=Tryz.sizeOf0
 v0:=Tryz.zeroValue0
 t3:=Tryz.underlying3
 a3:=Tryz.isAgg3
 z3:=Tryz.sizeOf3
 v3:=Tryz.zeroValue3
 t4:=Tryz.underlying4
 a4:=Tryz.isAgg4
 z4:=Tryz.sizeOf4
 v4:=Tryz.zeroValue4
 t5:=Tryz.underlying5
 a5:=Tryz.isAgg5
 z5:=Tryz.sizeOf5
 v5:=Tryz.zeroValue5
 t9:=Tryz.underlying9
 a9:=Tryz.isAgg9
 z9:=Tryz.sizeOf9
 v9:=Tryz.zeroValue9
 t12:=Tryz.underlying12
 a12:=Tryz.isAgg12
 z12:=Tryz.sizeOf12
 v12:=Tryz.zeroValue12
 t46:=Tryz.underlying158
 a46:=Tryz.isAgg158
 z46:=Tryz.sizeOf158
 v46:=Tryz.zeroValue158
 t53:=Tryz.underlying220
 a53:=Tryz.isAgg220
 z53:=Tryz.sizeOf220
 v53:=Tryz.zeroValue220
 t119:=Tryz.underlying206
 a119:=Tryz.isAgg206
 z119:=Tryz.sizeOf206
 t138:=Tryz.underlying208
 a138:=Tryz.isAgg208
 z138:=Tryz.sizeOf208
 v138:=Tryz.zeroValue208
 t139:=Tryz.underlying209
 a139:=Tryz.isAgg209
 z139:=Tryz.sizeOf209
 v139:=Tryz.zeroValue209
 g3:=by kernel_rfl
 g4:=by kernel_rfl }
def iD:Go.Shelf.Ren:=⟨fun | 171=>156 | 243=>172 | 246=>185 | 283=>199 | 284=>200 | 285=>201 | 286=>202 | 129=>195 | 317=>210 | 318=>211 | 319=>212 | 320=>213 | 337=>215 | 338=>216 | n=>n,fun | 3=>3 | 9=>9 | 2=>2 | 4=>4 | 171=>238 | 0=>0 | 53=>220 | 37=>213 | 5=>5 | 173=>240 | 212=>255 | 51=>230 | 20=>20 | 213=>256 | 46=>158 | 232=>260 | 233=>261 | n=>n,fun | 17=>4 | 18=>5 | 19=>6 | n=>n⟩
theorem io:Go.Proofs.LaysM.n171 Tryz.prog iD:={
 mixed:=by kernel_rfl
 f129:=Tryz.func195.trans (rU some (by kernel_rfl))
 f171:=Tryz.func156.trans (rU some (by kernel_rfl))
 f243:=Tryz.func172.trans (rU some (by kernel_rfl))
 f246:=Tryz.func185.trans (rU some (by kernel_rfl))
 f283:=Tryz.func199.trans (rU some (by kernel_rfl))
 f284:=Tryz.func200.trans (rU some (by kernel_rfl))
 f285:=Tryz.func201.trans (rU some (by kernel_rfl))
 f286:=Tryz.func202.trans (rU some (by kernel_rfl))
 f317:=Tryz.func210.trans (rU some (by kernel_rfl))
 f318:=Tryz.func211.trans (rU some (by kernel_rfl))
 f319:=Tryz.func212.trans (rU some (by kernel_rfl))
 f320:=Tryz.func213.trans (rU some (by kernel_rfl))
 f337:=Tryz.func215.trans (rU some (by kernel_rfl))
 f338:=Tryz.func216.trans (rU some (by kernel_rfl))
 t0:=Tryz.underlying0
 a0:=Tryz.isAgg0
 z0:=Tryz.sizeOf0
 v0:=Tryz.zeroValue0
 t2:=Tryz.underlying2
 a2:=Tryz.isAgg2
 z2:=Tryz.sizeOf2
 v2:=Tryz.zeroValue2
 t3:=Tryz.underlying3
 a3:=Tryz.isAgg3
 z3:=Tryz.sizeOf3
 v3:=Tryz.zeroValue3
 t4:=Tryz.underlying4
 a4:=Tryz.isAgg4
 z4:=Tryz.sizeOf4
 v4:=Tryz.zeroValue4
 t5:=Tryz.underlying5
 a5:=Tryz.isAgg5
 z5:=Tryz.sizeOf5
 v5:=Tryz.zeroValue5
 t9:=Tryz.underlying9
 a9:=Tryz.isAgg9
 z9:=Tryz.sizeOf9
 v9:=Tryz.zeroValue9
 t20:=Tryz.underlying20
 a20:=Tryz.isAgg20
 z20:=Tryz.sizeOf20
 v20:=Tryz.zeroValue20
 t37:=Tryz.underlying213
 a37:=Tryz.isAgg213
 z37:=Tryz.sizeOf213
 v37:=Tryz.zeroValue213
 t46:=Tryz.underlying158
 a46:=Tryz.isAgg158
 z46:=Tryz.sizeOf158
 v46:=Tryz.zeroValue158
 t51:=Tryz.underlying230
 a51:=Tryz.isAgg230
 z51:=Tryz.sizeOf230
 v51:=Tryz.zeroValue230
 t53:=Tryz.underlying220
 a53:=Tryz.isAgg220
 z53:=Tryz.sizeOf220
 v53:=Tryz.zeroValue220
 t171:=Tryz.underlying238
 a171:=Tryz.isAgg238
 z171:=Tryz.sizeOf238
 v171:=Tryz.zeroValue238
 t173:=Tryz.underlying240
 a173:=Tryz.isAgg240
 z173:=Tryz.sizeOf240
 v173:=Tryz.zeroValue240
 t212:=Tryz.underlying255
 a212:=Tryz.isAgg255
 z212:=Tryz.sizeOf255
 v212:=Tryz.zeroValue255
 t213:=Tryz.underlying256
 a213:=Tryz.isAgg256
 z213:=Tryz.sizeOf256
 t232:=Tryz.underlying260
 a232:=Tryz.isAgg260
 z232:=Tryz.sizeOf260
 v232:=Tryz.zeroValue260
 t233:=Tryz.underlying261
 a233:=Tryz.isAgg261
 z233:=Tryz.sizeOf261
 v233:=Tryz.zeroValue261
 g17:=by kernel_rfl
 g18:=by kernel_rfl
 g19:=by kernel_rfl
 i0:=by kernel_rfl
 i2:=by kernel_rfl
 i3:=by kernel_rfl
 i4:=by kernel_rfl
 i5:=by kernel_rfl
 i9:=by kernel_rfl
 i20:=by kernel_rfl
 i37:=by kernel_rfl
 i46:=by kernel_rfl
 i51:=by kernel_rfl
 i53:=by kernel_rfl
 i171:=by kernel_rfl
 i173:=by kernel_rfl
 i212:=by kernel_rfl
 i232:=by kernel_rfl
 i233:=by kernel_rfl
 m17:=by kernel_rfl
 m18:=by kernel_rfl
 m19:=by kernel_rfl }
def fL:Go.Shelf.Ren:=⟨fun | 172=>155 | 244=>170 | 245=>171 | 247=>180 | 279=>181 | 280=>182 | 281=>183 | 282=>184 | 287=>196 | 316=>197 | 171=>156 | 205=>198 | 321=>208 | 322=>209 | 243=>172 | 246=>185 | 283=>199 | 284=>200 | 285=>201 | 286=>202 | 129=>195 | 317=>210 | 318=>211 | 319=>212 | 320=>213 | 337=>215 | 338=>216 | n=>n,fun | 9=>9 | 3=>3 | 75=>181 | 76=>182 | 4=>4 | 5=>5 | 167=>212 | 37=>213 | 0=>0 | 85=>214 | 2=>2 | 168=>216 | 53=>220 | 175=>232 | 46=>158 | 210=>236 | 127=>249 | 145=>252 | 143=>250 | 21=>21 | 171=>238 | 173=>240 | 212=>255 | 51=>230 | 20=>20 | 213=>256 | 232=>260 | 233=>261 | 80=>262 | n=>n,fun | 15=>2 | 16=>3 | 17=>4 | 18=>5 | 19=>6 | n=>n⟩
theorem nM:Go.Proofs.LaysC.n172 Tryz.prog fL:={
 mixed:=by kernel_rfl
 f129:=Tryz.func195.trans (rU some (by kernel_rfl))
 f171:=Tryz.func156.trans (rU some (by kernel_rfl))
 f172:=Tryz.func155.trans (rU some (by kernel_rfl))
 f205:=Tryz.func198.trans (rU some (by kernel_rfl))
 f243:=Tryz.func172.trans (rU some (by kernel_rfl))
 f244:=Tryz.func170.trans (rU some (by kernel_rfl))
 f245:=Tryz.func171.trans (rU some (by kernel_rfl))
 f246:=Tryz.func185.trans (rU some (by kernel_rfl))
 f247:=Tryz.func180.trans (rU some (by kernel_rfl))
 f279:=Tryz.func181.trans (rU some (by kernel_rfl))
 f280:=Tryz.func182.trans (rU some (by kernel_rfl))
 f281:=Tryz.func183.trans (rU some (by kernel_rfl))
 f282:=Tryz.func184.trans (rU some (by kernel_rfl))
 f283:=Tryz.func199.trans (rU some (by kernel_rfl))
 f284:=Tryz.func200.trans (rU some (by kernel_rfl))
 f285:=Tryz.func201.trans (rU some (by kernel_rfl))
 f286:=Tryz.func202.trans (rU some (by kernel_rfl))
 f287:=Tryz.func196.trans (rU some (by kernel_rfl))
 f316:=Tryz.func197.trans (rU some (by kernel_rfl))
 f317:=Tryz.func210.trans (rU some (by kernel_rfl))
 f318:=Tryz.func211.trans (rU some (by kernel_rfl))
 f319:=Tryz.func212.trans (rU some (by kernel_rfl))
 f320:=Tryz.func213.trans (rU some (by kernel_rfl))
 f321:=Tryz.func208.trans (rU some (by kernel_rfl))
 f322:=Tryz.func209.trans (rU some (by kernel_rfl))
 f337:=Tryz.func215.trans (rU some (by kernel_rfl))
 f338:=Tryz.func216.trans (rU some (by kernel_rfl))
 t0:=Tryz.underlying0
 a0:=Tryz.isAgg0
 z0:=Tryz.sizeOf0
 v0:=Tryz.zeroValue0
 t2:=Tryz.underlying2
 a2:=Tryz.isAgg2
 z2:=Tryz.sizeOf2
 v2:=Tryz.zeroValue2
 t3:=Tryz.underlying3
 a3:=Tryz.isAgg3
 z3:=Tryz.sizeOf3
 v3:=Tryz.zeroValue3
 t4:=Tryz.underlying4
 a4:=Tryz.isAgg4
 z4:=Tryz.sizeOf4
 v4:=Tryz.zeroValue4
 t5:=Tryz.underlying5
 a5:=Tryz.isAgg5
 z5:=Tryz.sizeOf5
 v5:=Tryz.zeroValue5
 t9:=Tryz.underlying9
 a9:=Tryz.isAgg9
 z9:=Tryz.sizeOf9
 v9:=Tryz.zeroValue9
 t20:=Tryz.underlying20
 a20:=Tryz.isAgg20
 z20:=Tryz.sizeOf20
 v20:=Tryz.zeroValue20
 t21:=Tryz.underlying21
 a21:=Tryz.isAgg21
 z21:=Tryz.sizeOf21
 v21:=Tryz.zeroValue21
 t37:=Tryz.underlying213
 a37:=Tryz.isAgg213
 z37:=Tryz.sizeOf213
 v37:=Tryz.zeroValue213
 t46:=Tryz.underlying158
 a46:=Tryz.isAgg158
 z46:=Tryz.sizeOf158
 v46:=Tryz.zeroValue158
 t51:=Tryz.underlying230
 a51:=Tryz.isAgg230
 z51:=Tryz.sizeOf230
 v51:=Tryz.zeroValue230
 t53:=Tryz.underlying220
 a53:=Tryz.isAgg220
 z53:=Tryz.sizeOf220
 v53:=Tryz.zeroValue220
 t75:=Tryz.underlying181
 a75:=Tryz.isAgg181
 z75:=Tryz.sizeOf181
 v75:=Tryz.zeroValue181
 t76:=Tryz.underlying182
 a76:=Tryz.isAgg182
 z76:=Tryz.sizeOf182
 v76:=Tryz.zeroValue182
 t85:=Tryz.underlying214
 a85:=Tryz.isAgg214
 z85:=Tryz.sizeOf214
 v85:=Tryz.zeroValue214
 t127:=Tryz.underlying249
 a127:=Tryz.isAgg249
 z127:=Tryz.sizeOf249
 v127:=Tryz.zeroValue249
 t143:=Tryz.underlying250
 a143:=Tryz.isAgg250
 z143:=Tryz.sizeOf250
 v143:=Tryz.zeroValue250
 t145:=Tryz.underlying252
 a145:=Tryz.isAgg252
 z145:=Tryz.sizeOf252
 v145:=Tryz.zeroValue252
 t167:=Tryz.underlying212
 a167:=Tryz.isAgg212
 z167:=Tryz.sizeOf212
 v167:=Tryz.zeroValue212
 t168:=Tryz.underlying216
 a168:=Tryz.isAgg216
 z168:=Tryz.sizeOf216
 v168:=Tryz.zeroValue216
 t171:=Tryz.underlying238
 a171:=Tryz.isAgg238
 z171:=Tryz.sizeOf238
 v171:=Tryz.zeroValue238
 t173:=Tryz.underlying240
 a173:=Tryz.isAgg240
 z173:=Tryz.sizeOf240
 v173:=Tryz.zeroValue240
 t175:=Tryz.underlying232
 a175:=Tryz.isAgg232
 z175:=Tryz.sizeOf232
 v175:=Tryz.zeroValue232
 t210:=Tryz.underlying236
 a210:=Tryz.isAgg236
 z210:=Tryz.sizeOf236
 v210:=Tryz.zeroValue236
 t212:=Tryz.underlying255
 a212:=Tryz.isAgg255
 z212:=Tryz.sizeOf255
 v212:=Tryz.zeroValue255
 t213:=Tryz.underlying256
 a213:=Tryz.isAgg256
 z213:=Tryz.sizeOf256
 t232:=Tryz.underlying260
 a232:=Tryz.isAgg260
 z232:=Tryz.sizeOf260
 v232:=Tryz.zeroValue260
 t233:=Tryz.underlying261
 a233:=Tryz.isAgg261
 z233:=Tryz.sizeOf261
 v233:=Tryz.zeroValue261
 g15:=by kernel_rfl
 g16:=by kernel_rfl
 g17:=by kernel_rfl
 g18:=by kernel_rfl
 g19:=by kernel_rfl
 t80:=Tryz.underlying262
 a80:=Tryz.isAgg262
 z80:=Tryz.sizeOf262
 v80:=Tryz.zeroValue262
 i0:=by kernel_rfl
 i2:=by kernel_rfl
 i3:=by kernel_rfl
 i4:=by kernel_rfl
 i5:=by kernel_rfl
 i9:=by kernel_rfl
 i20:=by kernel_rfl
 i21:=by kernel_rfl
 i37:=by kernel_rfl
 i46:=by kernel_rfl
 i51:=by kernel_rfl
 i53:=by kernel_rfl
 i75:=by kernel_rfl
 i76:=by kernel_rfl
 i80:=by kernel_rfl
 i85:=by kernel_rfl
 i127:=by kernel_rfl
 i143:=by kernel_rfl
 i145:=by kernel_rfl
 i167:=by kernel_rfl
 i168:=by kernel_rfl
 i171:=by kernel_rfl
 i173:=by kernel_rfl
 i175:=by kernel_rfl
 i210:=by kernel_rfl
 i212:=by kernel_rfl
 i232:=by kernel_rfl
 i233:=by kernel_rfl
 m15:=by kernel_rfl
 m16:=by kernel_rfl
 m17:=by kernel_rfl
 m18:=by kernel_rfl
 m19:=by kernel_rfl
 c0:=by kernel_rfl
 c2:=by kernel_rfl
 c3:=by kernel_rfl
 c4:=by kernel_rfl
 c5:=by kernel_rfl
 c9:=by kernel_rfl
 c20:=by kernel_rfl
 c21:=by kernel_rfl
 c37:=by kernel_rfl
 c46:=by kernel_rfl
 c51:=by kernel_rfl
 c53:=by kernel_rfl
 c75:=by kernel_rfl
 c76:=by kernel_rfl
 c80:=by kernel_rfl
 c85:=by kernel_rfl
 c127:=by kernel_rfl
 c143:=by kernel_rfl
 c145:=by kernel_rfl
 c167:=by kernel_rfl
 c168:=by kernel_rfl
 c171:=by kernel_rfl
 c173:=by kernel_rfl
 c175:=by kernel_rfl
 c210:=by kernel_rfl
 c212:=by kernel_rfl
 c213:=by kernel_rfl
 c232:=by kernel_rfl
 c233:=by kernel_rfl }
def jb:Go.Shelf.Ren:=⟨fun | 6=>166 | 15=>178 | 14=>177 | 28=>194 | 29=>195 | 20=>186 | 21=>187 | 22=>188 | 23=>189 | 24=>190 | 25=>191 | 26=>192 | 27=>193 | 46=>203 | 47=>204 | 48=>205 | 49=>206 | 50=>207 | 57=>214 | n=>n,fun | 22=>162 | 24=>167 | 25=>202 | 3=>3 | 39=>158 | 0=>0 | 53=>230 | 55=>220 | 4=>4 | 46=>224 | 45=>223 | 50=>90 | 5=>5 | 9=>9 | 66=>242 | 70=>246 | 76=>257 | 77=>258 | n=>n,fun | n=>n⟩
theorem nS:Go.Proofs.SlLaysF0.n6 Tryz.prog jb:={
 mixed:=by kernel_rfl
 f6:=⟨Tryz.f166.name,by decide,Tryz.func166.trans (rU some (by kernel_rfl))⟩
 f14:=⟨Tryz.f177.name,by decide,Tryz.func177.trans (rU some (by kernel_rfl))⟩
 f15:=Tryz.func178.trans (rU some (by kernel_rfl))
 f20:=⟨Tryz.f186.name,by decide,Tryz.func186.trans (rU some (by kernel_rfl))⟩
 f21:=⟨Tryz.f187.name,by decide,Tryz.func187.trans (rU some (by kernel_rfl))⟩
 f22:=⟨Tryz.f188.name,by decide,Tryz.func188.trans (rU some (by kernel_rfl))⟩
 f23:=⟨Tryz.f189.name,by decide,Tryz.func189.trans (rU some (by kernel_rfl))⟩
 f24:=⟨Tryz.f190.name,by decide,Tryz.func190.trans (rU some (by kernel_rfl))⟩
 f25:=⟨Tryz.f191.name,by decide,Tryz.func191.trans (rU some (by kernel_rfl))⟩
 f26:=⟨Tryz.f192.name,by decide,Tryz.func192.trans (rU some (by kernel_rfl))⟩
 f27:=⟨Tryz.f193.name,by decide,Tryz.func193.trans (rU some (by kernel_rfl))⟩
 f28:=Tryz.func194.trans (rU some (by kernel_rfl))
 f29:=Tryz.func195.trans (rU some (by kernel_rfl))
 f46:=⟨Tryz.f203.name,by decide,Tryz.func203.trans (rU some (by kernel_rfl))⟩
 f47:=Tryz.func204.trans (rU some (by kernel_rfl))
 f48:=Tryz.func205.trans (rU some (by kernel_rfl))
 f49:=⟨Tryz.f206.name,by decide,Tryz.func206.trans (rU some (by kernel_rfl))⟩
 f50:=⟨Tryz.f207.name,by decide,Tryz.func207.trans (rU some (by kernel_rfl))⟩
 f57:=⟨Tryz.f214.name,by decide,Tryz.func214.trans (rU some (by kernel_rfl))⟩
 t0:=Tryz.underlying0
 a0:=Tryz.isAgg0
 z0:=Tryz.sizeOf0
 v0:=Tryz.zeroValue0
 t3:=Tryz.underlying3
 a3:=Tryz.isAgg3
 z3:=Tryz.sizeOf3
 v3:=Tryz.zeroValue3
 t4:=Tryz.underlying4
 a4:=Tryz.isAgg4
 z4:=Tryz.sizeOf4
 v4:=Tryz.zeroValue4
 t5:=Tryz.underlying5
 a5:=Tryz.isAgg5
 z5:=Tryz.sizeOf5
 v5:=Tryz.zeroValue5
 t9:=Tryz.underlying9
 a9:=Tryz.isAgg9
 z9:=Tryz.sizeOf9
 v9:=Tryz.zeroValue9
 t22:=Tryz.underlying162
 a22:=Tryz.isAgg162
 z22:=Tryz.sizeOf162
 v22:=Tryz.zeroValue162
 t25:=Tryz.underlying202
 a25:=Tryz.isAgg202
 z25:=Tryz.sizeOf202
 v25:=Tryz.zeroValue202
 t39:=Tryz.underlying158
 a39:=Tryz.isAgg158
 z39:=Tryz.sizeOf158
 v39:=Tryz.zeroValue158
 t45:=Tryz.underlying223
 a45:=Tryz.isAgg223
 z45:=Tryz.sizeOf223
 v45:=Tryz.zeroValue223
 t46:=Tryz.underlying224
 a46:=Tryz.isAgg224
 z46:=Tryz.sizeOf224
 v46:=Tryz.zeroValue224
 t50:=Tryz.underlying90
 a50:=Tryz.isAgg90
 z50:=Tryz.sizeOf90
 v50:=Tryz.zeroValue90
 t53:=Tryz.underlying230
 a53:=Tryz.isAgg230
 z53:=Tryz.sizeOf230
 v53:=Tryz.zeroValue230
 t55:=Tryz.underlying220
 a55:=Tryz.isAgg220
 z55:=Tryz.sizeOf220
 v55:=Tryz.zeroValue220
 t66:=Tryz.underlying242
 a66:=Tryz.isAgg242
 z66:=Tryz.sizeOf242
 v66:=Tryz.zeroValue242
 t70:=Tryz.underlying246
 a70:=Tryz.isAgg246
 z70:=Tryz.sizeOf246
 v70:=Tryz.zeroValue246
 t76:=Tryz.underlying257
 a76:=Tryz.isAgg257
 z76:=Tryz.sizeOf257
 v76:=Tryz.zeroValue257
 t77:=Tryz.underlying258
 a77:=Tryz.isAgg258
 z77:=Tryz.sizeOf258
 v77:=Tryz.zeroValue258 }
end Go.Proofs.YtifgmfoihehlbaaGreatDoor.Al

namespace Go.Proofs.YtifgmfoihehlbaaGreatDoor.Al
section
variable{P:Program}{ops:Array Oper}{rest:List Oper}{s:St}{K:St→Prop}{o:Oper}
def Ov(R:As)(L:List Nat)(id n:Nat):List Operand→List AV→Prop
 | [],[]=>True
 | x::j,b::l=>(((Ev true R x (ren L b)∧b.canon L.length=true)∨(Ev true R x (.cst (.slice none 0 0))∧b=.r (.sl [])))∨(Ev true R x (.cst (.slice none 0 0))∧ren L b=.own id n∧b.canon L.length=true))∧Ov R L id n j l
 | _,_=>False
theorem Ov.get{R}{L:List Nat}{id n}{xs:List Operand}{bs:List AV}(j:Ov R L id n xs bs) :
  xs.length=bs.length∧∀(i:Nat) (b:AV),bs[i]?=some b→∃x,xs[i]?=some x∧(((Ev true R x (ren L b)∧b.canon L.length=true)∨(Ev true R x (.cst (.slice none 0 0))∧b=.r (.sl [])))∨(Ev true R x (.cst (.slice none 0 0))∧ren L b=.own id n∧b.canon L.length=true)):=by
 induction xs generalizing bs with
 | nil=>cases bs with | nil=>exact⟨rfl,by simp⟩ | cons _ _=>exact j.elim
 | cons x l w=>
  cases bs with
  | nil=>exact j.elim
  | cons b m=>
   obtain⟨A,B⟩:=w j.2
   refine⟨by simp[A],λi c q=>?_⟩
   cases i with
   | zero=>simp at q;subst q;exact⟨x,rfl,j.1⟩
   | succ i=>simpa using B i c (by simpa using q)
theorem fm{f}{fo}{xs:Array Operand}{ac}{caps bs:List AV}{L:List Nat}{hc}{Post}{R}{h}{a:Act}{z:Cx}(id:Nat)(e:TypeId)(sz:Nat)(ad:Nat.blt 0 sz=true)
 (ho:o.op=.call { callee := .value fo, args := xs, argTypes := ac }) (ae:Ev true R fo (.fn f (EN L caps))) (af:FH L.length caps=true) (hx:Ov R L id z.n xs.toList bs) (F:FY ((id, some (.arr z.n e sz []))::h) L hc) (I:L.Nodup)
 (w:BC P f L.length (bs++caps) hc Post) (ag:z.ok) (hH:z.H=hget h) (he:CH z R a) (K:Act→World→Prop) (Q:Exit→Act→World→Prop)
 (hK:∀(u:Value) (y:Cx) (r:AV) (X:Aj), z.le y→y.ok→y.H=hget (FD L X 1000 L++((id, some (.arr z.n e sz []))::h))→AX y (ren L r) u→Post r X→K (a.put o.dst u) y.w):o.wp P a z.w K Q := by
  have A := EY ag id (.arr z.n e sz []) z.w none (z.n+1) (q9 _) rfl rfl rfl (λ_ _ _ => rfl) (λb k hb => by cases hb) (by omega) (by simp[Af.gen]) (λhg => absurd hg (by simp[Af.gen]))
    (λZ => ⟨DL ad, by simp, .slice none 0 0, [], ⟨rfl, rfl⟩, World.ownsRow_nil _ _ _ _, by simp⟩)
  generalize B:({ z with H := λi => if id=i then some (.arr z.n e sz []) else z.H i, β := λi => if id=i then none else z.β i, K := λi => if id=i then λ_ => none else z.K i, n := z.n+1 } : Cx)=m at A
  have j:m.H=hget ((id, some (.arr z.n e sz []))::h) := by rw[← B];simp only[hH];exact DG _ _ _
  have A3:m.H id=some (.arr z.n e sz []) := by rw[j, BY, qy rfl]
  have a0:m.β id=none := by rw[← B];simp
  have a1:m.n=z.n+1 := by rw[← B]
  have a2:m.w=z.w := by rw[← B]
  have C := he.mono A.1
  obtain⟨J, w⟩ := w
  obtain⟨l, M⟩ := hx.get
  have hv := ae.rep C rfl
  generalize ah:a.eval fo=v at hv
  cases hv with
  | @fn _ _ us hl a6 =>
    have a7 := NT J ho ah z.w
    rw[GO] at hl
    have O:∀ {b:AV} {u:Value}, AX m (ren L b) u→b.canon L.length=true→AX (m.view L hc) b u := λ{b u} T h2 => P4 (x := m) (y := m.view L hc) (L := L) (k := L.length) rfl (λ_ h => h) (q9 _) (Pz j F) T b rfl h2
    have U:G4 (m.view L hc) (bs++caps) (xs.map a.eval++us).toList := by
      refine⟨by simp[hl];simpa using l, λi b u T h2 => ?_⟩
      have q:((xs.toList.map a.eval)++us.toList)[i]?=some u := by simpa using h2
      by_cases hi:i<bs.length
      · rw[rQ hi] at T
        obtain⟨x, k1, E⟩ := M i b T
        rw[rQ (by simp at l ⊢;omega), rG, k1] at q
        simp only[sK, rE] at q
        subst q
        rcases E with (⟨E, k3⟩ | ⟨E, rfl⟩) | ⟨E, k3, k4⟩
        · exact O (E.rep C rfl) k3
        · have := E.rep C rfl
          generalize a.eval x=v at this ⊢
          cases this;exact .r .snil
        · refine O ?_ k4
          rw[k3]
          have := E.rep C rfl
          generalize a.eval x=v at this ⊢
          cases this
          refine .own (by rw[a1];omega) rfl λo' a8 _ => ?_
          rw[A3] at a8;cases a8
          rw[a0];exact⟨rfl, rfl⟩
      · rw[rR (by omega)] at T
        rw[rR (by simp at l ⊢;omega)] at q
        have ai:(xs.toList.map a.eval).length=bs.length := by simpa using l
        rw[ai] at q
        exact O (a6 _ (ren L b) u (by rw[G5, T];rfl) (by simpa using q)) (Gm af T)
    unfold Oper.wp
    rw[a7, ← a2]
    refine(w (m.view L hc) _ (Sn A.2 j F I) rfl U).mono λe' w' ⟨u, y, r, X, he', aj, Z, aa, ab, ak, al, an, V⟩ => ?_
    subst he'
    subst aj
    obtain⟨k1, E⟩ := WG A.2 j F I Z aa ab an
    exact hK u (m.back y L X _) r X (A.1.trans k1) E rfl (Su (x := y) (y := m.back y L X _) (L := L) (k := L.length) rfl (λ_ h => h) (q9 _) (R8 I ab) ak al) V
theorem Yz{d:Nat}{f:FuncId}{fo:Operand}{xs:Array Operand}{C:Array TypeId}{caps bs:List AV}(id:Nat)(e:TypeId)(sz:Nat)(E:Nat.blt 0 sz=true)(L:List Nat){hc:Aj}{F:(Nat→Nat)→AV}{G:(Nat→Nat)→Aj}(hg:o.guard=none)(hd:o.dst=some d)(hN:Nat.blt d s.N=true)
  (ho:o.op=.call { callee:=.value fo,args:=xs,argTypes:=C }) (I:Ev true s.e fo (.fn f (EN L caps))) (J:FH L.length caps=true) (hx:Ov s.e L id s.n xs.toList bs) (l:FY ((id,some (.arr s.n e sz []))::s.h) L hc) (M:L.Nodup)
  (m:BC P f L.length (bs++caps) hc (λr h'=>∃i,r=F i∧h'=G i))
  (hr:∀i n',AS P ops rest { e:=(d,ren L (F i))::s.e,h:=FD L (G i) 1000 L++((id,some (.arr s.n e sz []))::s.h),n:=n',N:=s.N } K):AS P ops (o::rest) s K:=by
 intro c0 a w ⟨_,q,hsz,y,O,T,U,hH,hn,he⟩ Q hQ
 subst O
 rw[← hn] at hx l hr
 refine wpList_plain hg λK' V=>?_
 refine fm id e sz E ho I J hx l M m U hH he K' Q λu z r h' A B X Z j=>?_
 refine V _ _ ?_
 have a0:d<a.tmps.size:=by rw[hsz];exact DL hN
 obtain⟨i,rfl,rfl⟩:=j
 rw[hd]
 exact hr i z.n c0 (a.put (some d) u) z.w ⟨_,q,by simpa[Act.put] using hsz,z,rfl,T.trans A,B,X,rfl,(he.mono A).put a0 Z⟩ Q hQ
end
theorem jr{α:Type}{l j:List α}{z:Int}(h:DY l 0 z=some j):j=l.take z.toNat:=by
 obtain⟨_,_,_,rfl⟩:=QP h
 simp
section
variable{P:Program}{c:Bool}{o:Oper}{R:As}{h:Aj}{n:Nat}
theorem pf{α:Type}{f}{t e e'}{sz C}{x y}{id g}{l l':List α}{q:Int}(ho:o.op=.slice t x none (some y) none)(ht:Ej P t e sz)(hx:Ev c R x (.own id g))
 (hh:hget h id=some (.arr g e' C (l.map f))) (X:∃k, Ev c R y (.r (.int k q))) (hs:c=true→DY l 0 q=some l'):Ad P c o R h (.pre id g q.toNat) := by
  intro Z z w E hH he
  obtain⟨F, ii, I, a0⟩ := ht
  obtain⟨J, h2, h3, rfl⟩ := QP (hs Z)
  have j:z.H id=some (.arr g e' C (l.map f)) := by rw[hH];exact hh
  obtain⟨h0, a2, us, hd, A, a7⟩ := LU E j (hx.rep he Z)
  have M := (E.obj _ _ j).1
  obtain⟨k, hk⟩ := X
  have hy := Cy (hk.rep he Z)
  have B:∀(len cap:Nat), q≤cap→∀W, (Instr.sliceBounds true len cap none (some (w.eval y)) none).run P W=.ok (0, q.toNat, cap) W := by
    intro len cap O W
    have hH:(Instr.sliceBound (w.eval y) cap .sliceAcap).run P W=.ok q.toNat W := by rw[hy, Mg h2 O]
    simp[Instr.sliceBounds, hH]
  rw[rh] at hd
  generalize T:w.eval x=xv at hd A
  unfold DP at hd
  split at hd
  · rename_i heq
    obtain⟨hz, rfl⟩ := hd
    have U:q.toNat=0 := by omega
    refine⟨.slice none 0 0, λw2 a1 => ?_, .pre M rfl λo' m _ => ?_⟩
    · unfold execOp
      rw[ho]
      have V := B 0 0 (by omega) w2
      rw[U] at V
      simp[T, Instr.sliceAt, Instr.slice, run_underlying F, D8 I, V]
    · rw[j] at m;cases m
      rw[heq, U]
      exact⟨si _, rfl, rfl⟩
  · rename_i b cap heq
    subst hd
    have a8:l.length≤cap := by
      rcases A.2 with ⟨J, _⟩ | ⟨g', a6, aa, J, _, _, h2, h3, _⟩
      · cases J
      · simp only[Value.slice.injEq] at J;rw[J.2.2];simpa using h2
    refine⟨.slice (some ⟨b, 0, none⟩) q.toNat cap, λw2 a1 => ?_, .pre M rfl λo' m _ => ?_⟩
    · unfold execOp
      rw[ho]
      simp[T, Instr.sliceAt, Instr.slice, run_underlying F, D8 I, a0, B _ cap (by omega), Addr.add_lit]
    · rw[j] at m;cases m
      rw[heq]
      exact⟨by simp[Af.shape];omega, rfl⟩
end
section
variable{P:Program}{c:Bool}{o:Oper}{R:As}{h:Aj}
theorem Ln{k'}{t e e'}{j id g}{x y}{cs}{k}{z:Int}(m:o.op=.indexAddr t x y)(q:Lc P t j e 1)(w:Ev c R x (.ptr id g 0 0))(A:hget h id=some (.box g e' cs))
 (B:Ev c R y (.r (.int k z))) (C:z.toNat=k') (l:((0≤z)&&(z.toNat<j))=true):Ad P c o R h (.ptr id g 0 k') := by
  subst C
  simp only[rF, q8] at l
  refine kx m q w A B (l := List.replicate j false) (v := false) (λ_ => ?_) (by simp)
  unfold AL
  rw[qy l.1, List.getElem?_replicate, qy l.2]
end
open Go.Shelf Go.Proofs
theorem XY:Tc Tryz.prog 166 4:=⟨⟨Tryz.f166,Tryz.func166,rfl,rfl⟩,_,rfl,nS,Tryz.isAgg167,Tryz.sizeOf167⟩
end Go.Proofs.YtifgmfoihehlbaaGreatDoor.Al

namespace Go.Proofs.YtifgmfoihehlbaaGreatDoor.Al
theorem iL{α:Sort _}{x:α}{p:Prop} : x=x∨p:=.inl rfl
section
variable{P:Program}{ops:Array Oper}{rest:List Oper}{s:St}{K:St→Prop}{o:Oper}
theorem sQ{d}{v}(hg:(o.guard, o.dst, Nat.blt d s.N)=(none, some d, true))(j:Ad P true o s.e s.h v)
 (l:AS P ops rest { e := (d, v)::s.e, h := s.h, n := s.n, N := s.N } K):AS P ops (o::rest) s K :=
  AS.step (sp hg).1 (sp (sp hg).2).1 (sp (sp hg).2).2 (DD j _) l
theorem sM{d}{x}(hg:(o.guard, o.dst, Nat.blt d s.N)=(none, some d, true))(j:o.op=.move x)
 (l:AS P ops rest { e := (d, BT s.e x)::s.e, h := s.h, n := s.n, N := s.N } K):AS P ops (o::rest) s K := sQ hg (AM j (.inl rfl)) l
end
theorem jL{α:Sort _}{x:α}{p q:Prop} : (x=x∨p)∨q:=.inl (.inl rfl)
theorem iR{c}{R}{x}{v}(h:BT R x=.whn c v):Ev c R x v:=.inr ⟨c,id,h⟩
theorem nL{n:Nat} : n≤n:=q9 n
theorem fR{α β:Sort _}{x:β}(_:α):x=x:=rfl
section
variable{P:Program}{ops:Array Oper}{rest:List Oper}{s:St}{K:St→Prop}{o:Oper}
theorem aZ(h:K s):AS P ops [] s K:=AS.nil h
end
section
variable{P:Program}{Q:Exit→St→Prop}{s:St}{x y:Code}
theorem aS(h:∀K:St→Prop,(∀s,AW P y Q s→K s)→(∀s j,Am s j→K j→K s)→AW P x (HK K Q) s):AW P (.seq x y) Q s:=qJ h
theorem aR{id}{l:List Oper}(h:AS P l.toArray l s (Q .normal)):AW P (.region id l.toArray false) Q s:=AW.region h
theorem aC{c}{b}(hc:BT s.e c=.r (.bool b))(j:b=true→AW P x Q s)(l:b=false→AW P y Q s):AW P (.cond c x y) Q s:=AW.cond hc j l
end
theorem fB{P}{c}{o:Oper}{R}{h}{t}{x}{f off}{id g j i k}{e}{cs}(l:o.op=.fieldAddr t x f)(m:Ao P t f off)(q:Ev c R x (.ptr id g i k))(w:c=true→hget h id=some (.box j e cs))
 (hg:j=g):Ad P c o R h (.ptr id g i (k+off)) := IJ (ob := .box j e cs) l m q w hg
@[reducible] def rI(k:Int):AV:=.r (.int .i64 k)
@[reducible] def rB(b:Bool):AV:=.r (.bool b)
@[reducible] def cZ:AV:=.cst (.slice none 0 0)
end Go.Proofs.YtifgmfoihehlbaaGreatDoor.Al
