/- The program logic, a part of it. -/
import Derived.Test.YtgcalnmhoifpoaaGreatDoorAl1
import Derived.ArgAppend
import Derived.Below
import Derived.Laws.BytesString
import Derived.Laws.RangeString
import Derived.Lib.Bytealg
import Derived.MapKept
import Derived.Maps.RangeRun
import Derived.OrdersIn
import Derived.Shelf.Unicode.ValidAny
set_option linter.all false
namespace Go.Proofs.YtgcalnmhoifpoaaGreatDoor.Al
section
variable{P:Program}{ops:Array Oper}{rest:List Oper}{s:St}{K:St→Prop}{o:Oper}
def G9(P:Program)(ops:Array Oper)(rest:List Oper)(s:St)(K:St→Prop):Prop:=
 ∀(y:Cx) (a:Act),y.ok→y.H=hget s.h→y.n=s.n→a.tmps.size=s.N→B6 y s.e a→∀q:Act→Prop,
  (∀j l,K j→j.h=s.h→j.n=s.n→j.N=s.N→l.tmps.size=s.N→l.defers=a.defers→B6 y j.e l→q l)→QU P ops (λ_=>True) q rest a
theorem G9.nil(h:K s):G9 P ops [] s K:=λ_ a _ _ _ j l _ q=>q s a h rfl rfl rfl j rfl l
theorem G9.move{d}{x}(hg:o.guard=none)(u:o.op=.move x)(hd:o.dst=some d)(A:Nat.blt d s.N=true)
 (B:G9 P ops rest { e := (d, BK s.e x)::s.e, h := s.h, n := s.n, N := s.N } K):G9 P ops (o::rest) s K := by
  intro y a j C E hsz q F I
  have l:d<a.tmps.size := by rw[hsz];exact Cn A
  refine⟨a.eval x, .inl ⟨by simp[Region.wanted, hg], λw _ => by unfold execOp;simp only[u];rfl⟩, ?_⟩
  rw[hd]
  exact B y (a.put (some d) (a.eval x)) j C E (by simpa[Act.put] using hsz) (q.put l (q.eval x)) F λJ M O T U V X Y Z => I J M O T U V X Y Z
def AF(P:Program)(ops:Array Oper)(rest:List Oper)(s:St)(K:St→Prop):Prop:=
 ∀(y:Cx) (a:Act),y.ok→y.H=hget s.h→y.n=s.n→a.tmps.size=s.N→B6 y s.e a→∀q:Act→Prop,
  (∀j l,K j→j.h=s.h→j.n=s.n→j.N=s.N→l.tmps.size=s.N→l.defers=a.defers→B6 y j.e l→q l)→QU P ops (Em y) q rest a
theorem AF.nil(h:K s):AF P ops [] s K:=λ_ a _ _ _ j l _ q=>q s a h rfl rfl rfl j rfl l
theorem AF.step{d}{v}(hg:o.guard=none)(hd:o.dst=some d)(B:Nat.blt d s.N=true)(C:AR P true o s.e s.h v)
 (E:AF P ops rest { e := (d, v)::s.e, h := s.h, n := s.n, N := s.N } K):AF P ops (o::rest) s K := by
  intro y a j w F hsz A I J
  obtain⟨u, l, M⟩ := C rfl y a j w A
  have q:d<a.tmps.size := by rw[hsz];exact Cn B
  refine⟨u, .inl ⟨by simp[Region.wanted, hg], l⟩, ?_⟩
  rw[hd]
  exact E y (a.put (some d) u) j w F (by simpa[Act.put] using hsz) (A.put q M) I λO T U V X Y Z k6 k7 => J O T U V X Y Z k6 k7
def U4(P:Program)(o:Oper)(R:AX)(h:AO)(n:Nat)(v:AV)(h':AO)(n':Nat):Prop:=
 ∀(x:Cx) (a:Act),x.ok→x.H=hget h→x.n=n→B6 x R a→∀(K:Act→World→Prop) (Q:Exit→Act→World→Prop),
  (∀(u:Value) (y:Cx),x.le y→y.ok→y.H=hget h'→y.n=n'→AP y v u→(∀b,b<x.w.heap.size→y.w.heap[b]?=x.w.heap[b]?)→K (a.put o.dst u) y.w)→o.wp P a x.w K Q
def AA(P:Program)(ops:Array Oper)(rest:List Oper)(s:St)(K:St→Prop):Prop:=
 ∀(l y:Cx) (a:Act),l.ok→l.le y→Em l y.w→y.ok→y.H=hget s.h→y.n=s.n→a.tmps.size=s.N→B6 y s.e a→∀(Q:Exit→Act→World→Prop) (w:Act→World→Prop),
  (∀q u j,K q→l.le j→j.ok→j.H=hget q.h→j.n=q.n→q.N=s.N→u.tmps.size=s.N→u.defers=a.defers→B6 j q.e u→w u j.w)→XL P ops Q (Em l) w rest a y.w
theorem AA.nil(h:K s):AA P ops [] s K:=λ_ y a _ j _ l q u w A _ _ B=>B s a y h j l q u rfl w rfl A
theorem AA.step{d}{v}{h'}{n'}(hg:o.guard=none)(hd:o.dst=some d)(O:Nat.blt d s.N=true)(T:U4 P o s.e s.h s.n v h' n')
 (U:AA P ops rest { e := (d, v)::s.e, h := h', n := n', N := s.N } K):AA P ops (o::rest) s K := by
  intro B y a j q C E V X hsz J Q Y Z
  have F:d<a.tmps.size := by rw[hsz];exact Cn O
  refine⟨hg, T y a E V X J _ _ λu w M k2 k3 k4 k5 k6 => ?_⟩
  have l:Em B w.w := by
    intro b A
    have I:b<B.w.heap.size := by
      rcases A with A | ⟨id, o, k, h1, h2⟩
      · exact j.S_lt b A
      · exact(j.own' id o b k h1 h2).1
    rw[k6 b (vq I q.size)]
    exact C b A
  refine⟨l, ?_⟩
  rw[hd]
  exact U B w (a.put (some d) u) j (q.trans M) l k2 k3 k4 (by simpa[Act.put] using hsz) ((J.mono M).put F k5) Q Y λs' a' w j1 j2 j3 j4 j5 j6 j7 j8 => Z s' a' w j1 j2 j3 j4 j5 j6 j7 j8
def XQ(ops:Array Oper)(q j u:List Nat)(n:Nat):Bool:=
 let w:=Array.replicate ops.size false
 let l:=D6 w q
 let A:=D6 l j
 let B:=D6 A u
 Region.noSelect ops&&(n<ops.size)&&Rm .any ops n l&&Region.chainB .any ops n&&KY .any ops q w&&KY .any ops j l&&Rq .any ops u A
  && Region.seqB .any ops (ops.size-n) n B&&(q.length+j.length+u.length=n)&&(j.all λi=>decide (i<n))&&((List.range ops.size).all λt=>(t<n)||!l.getD t true)
theorem eZ j(l:Array Bool):(D6 l j).size=l.size:=by
 induction j generalizing l with
 | nil=>rfl
 | cons i j q=>show(D6 (l.setIfInBounds i true) j).size=_;rw[q];simp
theorem gt(y:Cx):Em y y.w:=λ_ _=>rfl
theorem vC{id}{l:List Oper}{Q}(C A B:List Nat) n{V X Y lt:List Oper}(hm:P.follows .mixedOrders=true)(hB:XQ l.toArray C A B n=true)
 (e1:C.map (λi => l.toArray[i]?)=V.map some) (e2:A.map (λi => l.toArray[i]?)=X.map some) (e3:B.map (λi => l.toArray[i]?)=Y.map some) (e4:l.drop n=lt)
 (h:G9 P l.toArray V s λs1 => AF P l.toArray X s1 λs2 => AA P l.toArray Y s2 λs3 => AL P l.toArray lt s3 (Q .normal)):AW P (.region id l.toArray true) Q s := by
  intro z0 Z T a w ⟨_, J, hsz, y, a0, a6, a7, hH, hn, he⟩
  subst a0
  obtain⟨r1, M⟩ := Q1 a7
  simp only[XQ, vm, vi] at hB
  obtain⟨⟨⟨⟨⟨⟨⟨⟨⟨⟨b1, b2⟩, b3⟩, b4⟩, b5⟩, b6⟩, b7⟩, b8⟩, b9⟩, a8⟩, aa⟩ := hB
  refine wpIn_mono (Q := λe u w' => e=.normal∧∃E, Q .normal E∧EU T E u w') ?_ λe u w' ⟨k1, U⟩ => by subst k1;exact⟨by simp, U⟩
  refine Pb (λab => by obtain⟨_, _, h1, _⟩ := ab;cases h1) hm Z ?_
  have hQ:U7 (λ(e:Exit) (u:Act) (w':World) => e=.normal∧∃E, Q .normal E∧EU T E u w') := λc a w h => by cases h.1
  generalize hz:({ y with w := { y.w with drawn := y.w.drawn+1 } } : Cx)=z at r1 M
  have ac:z.w = { y.w with drawn := y.w.drawn+1 } := by rw[← hz]
  have F:z.H=hget s.h := by rw[← hz];exact hH
  have I:z.n=s.n := by rw[← hz];exact hn
  rw[← ac]
  have ad:l.toArray.size=(l.toArray.size - n)+B.length+A.length+C.length := by omega
  have goal := Y9 (P := P) (md := .any) (f := (l.toArray.size - n)+B.length+A.length) b1 hQ C V (Array.replicate l.toArray.size false) a z.w e1 b5
    (h z a M F I hsz (he.mono r1) _ λs1 a1 k1 U k3 k4 k5 k6 k7 => by
      rw[show l.toArray.size - n+B.length+A.length=(B.length+A.length)+(l.toArray.size - n) by omega]
      refine eH (S := Em z) (L := λq u w' => q=D6 (D6 (D6 (Array.replicate l.toArray.size false) C) A) B∧wpList P l.toArray (λe u w' => e=.normal∧∃E, Q .normal E∧EU T E u w') lt u w') (λq u w' ⟨q1, q2⟩ => ?_) _ _ _ _ ?_
      · subst q1;subst e4
        have O:(l.drop n).length=l.toArray.size - n := by simp
        have := wpAny_of_seq (md := .any) (l.drop n) n _ u w' (λj => by simp[xJ]) (by rw[O];exact b8) q2
        rwa [O] at this
      · refine gu (n := n) (l0 := D6 (Array.replicate l.toArray.size false) C) b1 hQ b3 b4 b2 (λq u w' ⟨q1, _⟩ j hj => by subst q1;exact seqB_ready b8 j hj) (gt z) A X _ a1 e2 b6
          (λi hi => by simpa using(wI.1 a8 i hi)) ⟨by rw[eZ];simp, λj oj _ hl => .inl hl, λt ht ae => ?_, λ_ h => h⟩ ?_
        · have := wI.1 aa t (wU.2 ae)
          simp only[vt, vi, wl] at this
          rcases this with h | h
          · omega
          · exact h
        · refine k1 z a1 M (by rw[U];exact F) (by rw[k3];exact I) (by rw[k4, k5]) k7 _ λs2 a2 m1 m2 m3 m4 m5 m6 m7 => ?_
          refine eT (n := n) (l0 := D6 (Array.replicate l.toArray.size false) C) B Y _ a2 z.w e3 b7 ?_
          refine m1 z z a2 M (.refl z) (gt z) M (by rw[m2, U];exact F) (by rw[m3, k3];exact I) (by rw[m4, m5]) m7 _ _ λs3 a3 y3 t1 t2 t3 t4 t5 t6 t7 t8 t9 => ⟨rfl, ?_⟩
          exact t1 T a3 y3.w ⟨_, t8.trans (m6.trans (k6.trans J)), by rw[t7, t6], y3, rfl, (a6.trans r1).trans t2, t3, t4, t5, t9⟩ _ λaf ag ah j1 j2 => ⟨rfl, af, j1, j2⟩)
  have e:l.toArray.size - n+B.length+A.length+C.length=l.toArray.size := by omega
  rw[e] at goal
  exact goal
end
section
variable{P:Program}{o:Oper}{R:AX}{h:AO}{n:Nat}
theorem tU{t e}{sz a0 len}{parts:Array (Nat × Operand)}(id:Nat){l:List (List RV)}(ho:o.op=.buildSlice t len parts)(ht:Bj P t e sz a0)
 (hp:I6 true R 0 parts.toList l) (B:l.length=len) (C:∀row ∈ l, row.length=sz) (E:Nat.ble (len * sz) 16777216=true) :
    U4 P o R h n (.own id n) ((id, some (.arr n e sz l))::h) (n+1) := by
  intro z w a1 hH hn he K Q hK
  have hc:true=true := rfl
  obtain⟨J, ii, zv, hi, F, _, hz, a7, _, h0⟩ := ht
  have a8:len * sz≤16777216 := wj E
  have aa:len≤len * sz := Nat.le_mul_of_pos_right _ h0
  obtain⟨M, O⟩ := hp.get
  have I:∃init:Array Value, init.size=len * sz∧∀W, (Instr.buildSlice t len (parts.map λ(i, x) => (i, w.eval x))).run P W =
      match Instr.fill (λi => some (i * sz, sz)) init (parts.toList.map λ(i, x) => (i, w.eval x)) with
      | some cells => .ok (.slice (some ⟨W.heap.size, 0, none⟩) len len) (W.alloc (.cells cells e))
      | none => .halt (.stuck "buildSlice: a part of the wrong size") W := by
    refine⟨(Array.range (len * sz)).map (λi => (if len * sz=0 then #[] else zv.cells)[i % (if len * sz=0 then #[] else zv.cells).size]!), by simp, λW => ?_⟩
    have T:¬ 2 ^ 24<len * sz := by omega
    by_cases U:len * sz=0
    · simp only[Instr.buildSlice, Sem.run_bind, run_underlying J, Result.andThen_ok, Dn hi, F, U]
      simp
      split<;>simp_all [newRow, Instr.fill]
    · simp only[Instr.buildSlice, Sem.run_bind, run_underlying J, Result.andThen_ok, Dn hi, F]
      simp only[T, U, zeroValue, typeInfo, yP, Sem.run_bind, run_program, Result.andThen_ok, hi, hz, Sem.run_pure, yo]
      generalize Instr.fill _ _ _=r
      cases r<;>simp[newRow]
  obtain⟨init, A, V⟩ := I
  obtain⟨a2, f1, f2, _, f4⟩ := Vc sz (parts.toList.map λ(i, x) => (i, w.eval x)) 0 init (λj p hj => by
    simp only[wD, v8] at hj
    obtain⟨q, hq, rfl⟩ := hj
    obtain⟨X, row, a, Z, h3, h4⟩ := O j q hq
    refine⟨by simpa using X, ?_⟩
    rw[(LT h4 (h3.rep he hc)).1]
    exact C row (wJ Z)) (by rw[A];simp only[v7, M, B, wK];exact vu _)
  obtain⟨y, k1, k2, k3, k4, k5, k6⟩ := W8 a1 id e sz l a2 h0 C (by rw[f2, A, B]) (by unfold maxLen;omega) (λi row k d X Z => by
    have Y:i<parts.toList.length := by rw[M];exact(vl.1 X).1
    obtain⟨_, a6, a, h3, h4, h5⟩ := O i _ (vo Y)
    rw[X] at h3;cases h3
    obtain⟨u, h6, h7⟩ := (LT h5 (h4.rep he hc)).2 k d Z
    refine⟨u, ?_, h7⟩
    have hk:k<sz := by rw[← C row (wJ X)];exact(vl.1 Z).1
    have := f4 i (parts.toList[i].1, w.eval parts.toList[i].2) k (by simp[wD, vo Y]) hk
    rw[wK] at this
    rw[this];exact h6)
  unfold Oper.wp execOp
  simp only[ho, Sem.run_bind, V, f1, Result.andThen_ok, Sem.run_pure]
  have := hK _ y k1 k2 (by rw[k4, hH, hn, D3]) (by rw[k5, hn]) (by rw[← hn];exact k6) (λb hb => by rw[k3];exact heap_alloc_old _ _ hb)
  rw[k3, B] at this
  exact this
theorem YX{α:Type}{f}{t e}{sz w len}{parts:Array (Nat × Operand)}(id:Nat){l:List α}(A:o.op=.buildSlice t len parts)(B:Bj P t e sz w)
 (hp:I6 true R 0 parts.toList (l.map f)) (q:l.length=len) (u:∀a, (f a).length=sz) (j:Nat.ble (len * sz) 16777216=true) :
    U4 P o R h n (.own id n) ((id, some (.arr n e sz (l.map f)))::h) (n+1) :=
  tU id A B hp (by rw[v7];exact q) (λrow C => by obtain⟨a, _, rfl⟩ := wu.1 C;exact u a) j
end
end Go.Proofs.YtgcalnmhoifpoaaGreatDoor.Al
namespace Go.Proofs.YtgcalnmhoifpoaaGreatDoor.Al
def pick(l:List Oper):List Nat→List Oper
 | []=>[]
 | i::j=>match l[i]? with
  | some o=>o::pick l j
  | none=>pick l j
theorem Xc{l:List Oper}{j:List Nat}(h:(j.all λi=>Nat.blt i l.length)=true):j.map (λi=>l.toArray[i]?)=(pick l j).map some:=by
 induction j with
 | nil=>rfl
 | cons i j u=>
  simp only[zE,vm] at h
  have q:=Cn h.1
  rw[wB,u h.2,pick,vo q]
  simp[q]
theorem g8{P:Program}{s}{id}{l:List Oper}{Q} j q u n{A B C lt}(E:P.follows .mixedOrders=true)(hB:XQ l.toArray j q u n=true)
 (w:((j++q++u).all λi => Nat.blt i l.length)=true) (e1:pick l j=A) (e2:pick l q=B) (F:pick l u=C) (I:l.drop n=lt)
 (h:G9 P l.toArray A s λJ => AF P l.toArray B J λM => AA P l.toArray C M λO => AL P l.toArray lt O (Q .normal)):AW P (.region id l.toArray true) Q s := by
  subst e1;subst e2;subst F
  simp only[List.all_append, vm] at w
  exact vC j q u n E hB (Xc w.1.1) (Xc w.1.2) (Xc w.2) I h
theorem iB{P:Program}{ops:Array Oper}{rest:List Oper}{s:St}{K:St→Prop}{o:Oper}{d:Nat}{c:Bool}{f:FuncId}{fo:Operand}{xs:Array Operand}{C:Array TypeId}{caps bs:List AV}(hG:CS s.e ops o c)(E:c=true)(L:List Nat){hc:AO}{F:(Nat→Nat)→AV}{G:(Nat→Nat)→AO}(hd:o.dst=some d)(hN:Nat.blt d s.N=true)
  (ho:o.op=.call { callee:=.value fo,args:=xs,argTypes:=C }) (I:Ev true s.e fo (.fn f (FF L caps))) (J:GL L.length caps=true) (hx:Jw s.e L xs.toList bs) (M:Gu s.h L hc) (O:L.Nodup)
  (l:Bb P f L.length (bs++caps) hc (λr h'=>∃i,r=F i∧h'=G i))
  (hr:∀i n',AL P ops rest { e:=(d,ren L (F i))::s.e,h:=FN L (G i) 1000 L++s.h,n:=n',N:=s.N } K):AL P ops (o::rest) s K:=by
 intro c0 a w ⟨_,q,hsz,y,T,U,V,hH,hn,X⟩ Q hQ
 subst T
 refine wpList_step λK' Y=>?_
 rw[hG.wanted X,vh E]
 refine Wh ho I J hx M O l V hH X K' Q λu z r h' A B Z a0 j=>?_
 obtain⟨i,rfl,rfl⟩:=j
 refine Y _ _ ?_
 have a1:d<a.tmps.size:=by rw[hsz];exact Cn hN
 rw[hd]
 exact hr i z.n c0 (a.put (some d) u) z.w ⟨_,q,by simpa[Act.put] using hsz,z,rfl,U.trans A,B,Z,rfl,(X.mono A).put a1 a0⟩ Q hQ
end Go.Proofs.YtgcalnmhoifpoaaGreatDoor.Al
namespace Go.Proofs.YtgcalnmhoifpoaaGreatDoor.Al
section
variable{P:Program}{o:Oper}{R:AX}{h:AO}{n:Nat}
end
structure PO where
 d:Option Nat
 v:(Nat→Nat)→AV
 hp:Option (Nat × ((Nat→Nat)→Option Ab))
 dep:List Nat
def PO.wE(p:PO):Option (Nat × ((Nat→Nat)→AV)):=match p.d with | some d=>some (d,p.v) | none=>none
def PO.wH(p:PO):Option (Nat × ((Nat→Nat)→Option Ab)):=p.hp
section
variable{α:Type}(wr:PO→Option (Nat × ((Nat→Nat)→α)))(D:Nat→Bool)(G:Nat→Nat)
def EN:List (Nat × α)→List PO→Nat→List (Nat × α)
 | e,[],_=>e
 | e,p::L,k=>match D k with
  | true=>match wr p with
   | some (d,v)=>EN ((d,v G)::e) L (k+1)
   | none=>EN e L (k+1)
  | false=>EN e L (k+1)
def Gj(t:Nat)(L:List PO)(k:Nat):Prop:=∀(j:Nat) (p:PO) v,L[j]?=some p→D (k+j)=true→wr p≠some (t,v)
end
theorem Gj.tail{α:Type}{wr:PO→Option (Nat × ((Nat→Nat)→α))}{D:Nat→Bool}{t:Nat}{p:PO}{L:List PO}{k:Nat}(h:Gj wr D t (p::L) k):Gj wr D t L (k+1):=
 λj q v l u=>h (j+1) q v (by simpa using l) (by rwa [show k+(j+1)=k+1+j by omega])
section
variable{α:Type}{wr:PO→Option (Nat × ((Nat→Nat)→α))}{D:Nat→Bool}{G:Nat→Nat}{lk:List (Nat × α)→Nat→α}(hlk:∀d v R t,lk ((d,v)::R) t=if d=t then v else lk R t)
include hlk
theorem GU{t:Nat} : ∀(L:List PO) (e:List (Nat × α)) (k:Nat),Gj wr D t L k→lk (EN wr D G e L k) t=lk e t
 | [],_,_,_=>rfl
 | p::L,e,k,h=>by
  unfold EN
  cases l:D k with
  | false=>exact GU L e (k+1) h.tail
  | true=>
   cases u:wr p with
   | none=>exact GU L e (k+1) h.tail
   | some q=>
    obtain⟨d,v⟩:=q
    have j:d≠t:=λe=>h 0 p v rfl l (by rw[u,e])
    exact(GU L _ (k+1) h.tail).trans (by rw[hlk,vg j])
theorem Ic{t}{p}{v}(A:wr p=some (t,v)):∀(L:List PO) (e:List (Nat × α)) (k j:Nat),L[j]?=some p→D (k+j)=true→Gj wr D t (L.drop (j+1)) (k+j+1)→lk (EN wr D G e L k) t=v G
 | [],_,_,_,h,_,_=>by simp at h
 | q::L,e,k,0,B,E,C=>by
  cases B
  unfold EN
  rw[show D k=true from E,A]
  exact(GU hlk L _ (k+1) (by simpa using C)).trans (by rw[hlk,vh rfl])
 | q::L,e,k,j+1,B,E,C=>by
  have l:L[j]?=some p:=by simpa using B
  have u:D (k+1+j)=true:=by rwa [show k+1+j=k+(j+1) by omega]
  have w:Gj wr D t (L.drop (j+1)) (k+1+j+1):=by rw[show k+1+j+1=k+(j+1)+1 by omega];simpa using C
  unfold EN
  cases D k with
  | false=>exact Ic A L e (k+1) j l u w
  | true=>
   cases wr q with
   | none=>exact Ic A L e (k+1) j l u w
   | some r=>exact Ic A L _ (k+1) j l u w
theorem HY{t}{D'}{w} : ∀(L:List PO) (e e':List (Nat × α)) (k:Nat),lk e' t=lk e t →
  (∀(j:Nat) (p:PO) v,L[j]?=some p→wr p=some (t,v)→D' (k+j)=D (k+j)∧(D (k+j)=true→v w=v G))→lk (EN wr D' w e' L k) t=lk (EN wr D G e L k) t
 | [],_,_,_,h,_=>h
 | p::L,e,e',k,h,C=>by
  have l:∀(j:Nat) (q:PO) v,L[j]?=some q→wr q=some (t,v)→D' (k+1+j)=D (k+1+j)∧(D (k+1+j)=true→v w=v G):=λj q v A B=>by
   have:=C (j+1) q v (by simpa using A) B
   rwa [show k+(j+1)=k+1+j by omega] at this
  unfold EN
  cases hp:wr p with
  | none=>
   have F:=HY L e e' (k+1) h l
   cases D' k<;>cases D k<;>exact F
  | some q=>
   obtain⟨d,v⟩:=q
   by_cases u:d=t
   ·subst u
    obtain⟨A,B⟩:=C 0 p v rfl hp
    rw[ws] at A B
    rw[A]
    cases I:D k with
    | false=>exact HY L e e' (k+1) h l
    | true=>exact HY L _ _ (k+1) (by rw[hlk,hlk,vh rfl,vh rfl,B I]) l
   ·have E:lk ((d,v w)::e') t=lk e' t:=by rw[hlk,vg u]
    have e2:lk ((d,v G)::e) t=lk e t:=by rw[hlk,vg u]
    cases D' k<;>cases D k
    ·exact HY L _ _ (k+1) h l
    ·exact HY L _ _ (k+1) (by rw[e2];exact h) l
    ·exact HY L _ _ (k+1) (by rw[E];exact h) l
    ·exact HY L _ _ (k+1) (by rw[E,e2];exact h) l
end
abbrev CI(D:Nat→Bool)(G:Nat→Nat)(e:AX)(L:List PO):AX:=EN PO.wE D G e L 0
abbrev Dm(D:Nat→Bool)(G:Nat→Nat)(h:AO)(L:List PO):AO:=EN PO.wH D G h L 0
def DC(G:Nat→Nat)(i n:Nat):Nat→Nat:=λk=>if k=i then n else G k
section
variable{P:Program}{ops:Array Oper}
def wt(ops:Array Oper):Nat→Nat→Nat→Bool
 | 0,_,_=>false
 | f+1,j,i=>Region.waitsFor .any ops j i||(List.range j).any λm=>Region.waitsFor .any ops j m&&wt ops f m i
def Cl(ops:Array Oper)(D:Nat→Bool):Prop:=∀j k,D j=true→Region.waitsFor .any ops j k=true→D k=true
theorem Cl.wt{D}(h:Cl ops D):∀(f j i:Nat),Al.wt ops f j i=true→D j=true→D i=true
 | 0,_,_,l,_=>by cases l
 | f+1,j,i,l,u=>by
  unfold Al.wt at l
  rw[vt] at l
  rcases l with l | l
  ·exact h j i u l
  ·obtain⟨m,_,q⟩:=yt.1 l
   rw[vm] at q
   exact h.wt f m i q.2 (h j m u q.1)
structure Bg(ops:Array Oper)(D:Nat→Bool)(i:Nat):Prop where
 cl:Cl ops D
 hw:∀k,Region.waitsFor .any ops i k=true→D k=true
 un:D i=false
theorem Bg.yes{D}{i}(h:Bg ops D i){k}(j:Al.wt ops 40 i k=true):D k=true:=by
 unfold Al.wt at j
 rw[vt] at j
 rcases j with j | j
 ·exact h.hw k j
 ·obtain⟨m,_,l⟩:=yt.1 j
  rw[vm] at l
  exact h.cl.wt 39 m k l.2 (h.hw m l.1)
theorem Bg.no{D}{i}(h:Bg ops D i){k}(j:Al.wt ops 40 k i=true):D k=false:=by
 cases l:D k with
 | false=>rfl
 | true=>have:=h.cl.wt 40 k i j l;rw[h.un] at this;cases this
def Gr(c0:Cx)(s:St)(L:List PO)(listed:Array Bool)(a:Act)(w:World):Prop:=
 ∃j,a.defers=j∧a.tmps.size=s.N∧∃(y:Cx) (G:Nat→Nat),y.w=w∧c0.leM j y∧y.ok∧(∀id,y.H id=hget (Dm (λk=>listed.getD k false) G s.h L) id) ∧
  (∀t,AP y (get (CI (λk=>listed.getD k false) G s.e L) t) (a.tmps.getD t undef))
def Fx(P:Program)(o:Oper)(R:AX)(h:AO)(n:Nat)(v:AV)(h':AO):Prop:=
 ∀(x:Cx) (a:Act),x.ok→x.H=hget h→x.n=n→B6 x R a→∀(K:Act→World→Prop) (Q:Exit→Act→World→Prop),
  (∀(u:Value) (y:Cx),x.le y→y.ok→y.H=hget h'→AP y v u→K (a.put o.dst u) y.w)→o.wp P a x.w K Q
theorem A7.toN{o}{R}{h}{n}{v}{h'}{n'}(j:A7 P true o R h n v h' n'):Fx P o R h n v h':=
 λx a l q w A K Q B=>j rfl x a l q w A K Q λu y C E F _ I=>B u y C E F I
theorem CS.same{R q}{o}{c}(h:CS R ops o c)(u:∀t,get q t=get R t):CS q ops o c:=by
 cases h with
 | one hg j l=>exact .one hg j ((u _).trans l)
 | two hg j l=>exact .two hg j ((u _).trans l)
def Ob(P:Program)(ops:Array Oper)(s:St)(L:List PO)(i:Nat)(p:PO)(o:Oper):Prop:=
 o.dst=p.d∧(∀d,p.d=some d→Nat.blt d s.N=true)∧∀(D:Nat→Bool) (G:Nat→Nat) (e:AX) (h:AO) (n:Nat),Bg ops D i →
  (∀t,get e t=get (CI D G s.e L) t)→(∀id,hget h id=hget (Dm D G s.h L) id) →
  (o.guard=none∧∃l,Fx P o e h n (p.v (DC G i n)) l∧(∀id,hget l id=match p.hp with | some (j,u)=>if j=id then u (DC G i n) else hget h id | none=>hget h id)) ∨
  (p.hp=none∧∃c v0,p.v (DC G i n)=.whn c v0∧CS e ops o c∧(c=true→∃q,Fx P o e h n v0 q∧∀id,hget q id=hget h id))
def JG(L:List PO)(t:Nat):Bool:=L.all λp=>match p.d with | some d=>!Nat.beq d t | none=>true
def VV(L:List PO)(t:Nat):Bool:=L.all λp=>match p.hp with | some (d,_)=>!Nat.beq d t | none=>true
def HG:List PO→Bool
 | []=>true
 | p::L=>(match p.d with | some d=>JG L d | none=>true)&&HG L
def Oq(ops:Array Oper)(L:List PO):Bool:=(List.range L.length).all λj=>(List.range j).all λi=>match L[i]?.bind (·.hp),L[j]?.bind (·.hp) with
 | some (a,_),some (b,_)=>!Nat.beq a b||wt ops 40 j i
 | _,_=>true
theorem tp{L:List PO}{t:Nat}(h:JG L t=true){j:Nat}{p:PO}(l:L[j]?=some p):p.d≠some t:=λhd=>by
 have:=wI.1 h p (wJ l)
 rw[hd] at this
 simp at this
theorem mT{L:List PO}{t:Nat}(h:VV L t=true){j:Nat}{p:PO}(l:L[j]?=some p):∀ob,p.hp≠some (t,ob):=λob hd=>by
 have:=wI.1 h p (wJ l)
 rw[hd] at this
 simp at this
theorem QT{p:PO}{t}{v}(h:p.wE=some (t,v)):p.d=some t∧v=p.v:=by
 unfold PO.wE at h
 split at h
 ·rename_i d hd;simp only[vz,wA] at h;rw[hd,h.1];exact⟨rfl,h.2.symm⟩
 ·cases h
theorem SH{p:PO}{t}(h:p.d=some t):p.wE=some (t,p.v):=by unfold PO.wE;rw[h]
theorem Ti{p:PO}{t}{v}(h:p.wH=some (t,v)):∃ob,p.hp=some (t,ob)∧v=ob:=⟨v,h,rfl⟩
theorem X4{p:PO}{t}{ob}(h:p.hp=some (t,ob)):p.wH=some (t,ob):=h
theorem Wk:∀ {L:List PO},HG L=true→∀ {j:Nat} {p:PO} {t:Nat},L[j]?=some p→p.d=some t→JG (L.drop (j+1)) t=true
 | [],_,_,_,_,h,_=>by simp at h
 | q::L,h,0,p,t,l,u=>by
  cases l
  simp only[HG,vm,u] at h
  simpa using h.1
 | q::L,h,j+1,p,t,l,u=>by
  simp only[HG,vm] at h
  simpa using Wk h.2 (j:=j) (by simpa using l) u
theorem Qg{L}{t}(h:JG L t=true){D}{k} : Gj PO.wE D t L k:=λ_ _ _ j _ l=>tp h j (QT l).1
theorem rU{L}{t}(h:VV L t=true){D}{k} : Gj PO.wH D t L k:=λ_ _ _ j _ l=>by obtain⟨q,u,_⟩:=Ti l;exact mT h j q u
theorem nC{L:List PO}(hB:Oq ops L=true){D}(l:Cl ops D){i}{p:PO}{t}{ob}(hp:L[i]?=some p)(C:p.hp=some (t,ob))(u:D i=false):Gj PO.wH D t (L.drop (i+1)) (i+1):=by
 intro j q v w E F
 obtain⟨ri,I,_⟩:=Ti F
 rw[xJ] at w
 have A:i+1+j<L.length:=(vl.1 w).1
 have:=wI.1 (wI.1 hB (i+1+j) (wU.2 A)) i (wU.2 (by omega))
 simp only[hp,w,zJ,C,I,vt,wl] at this
 rcases this with B | B
 ·simp at B
 ·have:=l.wt 40 _ _ B E
  rw[u] at this;cases this
def Qb(ops:Array Oper)(L:List PO):Bool:=(List.range L.length).all λj=>match L[j]? with
 | some p=>p.dep.all λk=>Nat.beq k j||wt ops 40 j k
 | none=>true
def IZ:List PO→Prop
 | []=>True
 | p::L=>(∀G j:Nat→Nat,(∀k,p.dep.contains k=true→G k=j k)→p.v j=p.v G∧∀id l,p.hp=some (id,l)→l j=l G)∧IZ L
theorem IZ.at:∀ {L:List PO},IZ L→∀ {j:Nat} {p:PO},L[j]?=some p→∀G l:Nat→Nat,(∀k,p.dep.contains k=true→G k=l k)→p.v l=p.v G∧∀id ob,p.hp=some (id,ob)→ob l=ob G
 | _::_,h,0,_,q=>by cases q;exact h.1
 | _::_,h,j+1,_,q=>IZ.at h.2 (j:=j) (by simpa using q)
theorem pn{L:List PO}(hB:Qb ops L=true){D}(q:Cl ops D){j}{p:PO}(hp:L[j]?=some p)(w:D j=true){k}(B:p.dep.contains k=true):D k=true:=by
 have u:j<L.length:=(vl.1 hp).1
 have A:=wI.1 hB j (wU.2 u)
 simp only[hp] at A
 have l:=wI.1 A k (by simpa using B)
 simp only[vt] at l
 rcases l with l | l
 ·rw[vx l];exact w
 ·exact q.wt 40 _ _ l w
theorem Gr.put{c0:Cx}{s:St}{L}{listed:Array Bool}{a:Act}{i}{p:PO}{y z:Cx}{G}{u}(hp:L[i]?=some p)(hN:∀d, p.d=some d→Nat.blt d s.N=true)(hE:HG L=true)(hH:Oq ops L=true)
 (hD:Qb ops L=true) (U:IZ L) (hi:i<listed.size) (hr:Bg ops (λk => listed.getD k false) i) {ds} (V:a.defers=ds) (hsz:a.tmps.size=s.N) (a1:c0.leM ds y)
 (he:∀t, AP y (get (CI (λk => listed.getD k false) G s.e L) t) (a.tmps.getD t undef)) (X:y.le z) (Y:z.ok)
 (a2:∀id, z.H id=match p.hp with | some (j, B) => if j=id then B (DC G i y.n) else hget (Dm (λk => listed.getD k false) G s.h L) id | none => hget (Dm (λk => listed.getD k false) G s.h L) id)
 (hv:AP z (p.v (DC G i y.n)) u):Gr c0 s L (listed.setIfInBounds i true) (a.put p.d u) z.w := by
  have Z:∀k, (listed.setIfInBounds i true).getD k false=(listed.getD k false||(k=i)) := λk => by
    by_cases J:i=k
    · subst J;simp[hi]
    · rw[getD_set_ne false J];simp[Ne.symm J]
  have l:∀k, k≠i→(listed.setIfInBounds i true).getD k false=listed.getD k false := λk J => by rw[Z];simp[J]
  have I:∀(j:Nat) (q:PO), L[j]?=some q→listed.getD j false=true→q.v (DC G i y.n)=q.v G∧∀id B, q.hp=some (id, B)→B (DC G i y.n)=B G := λj q T hl => by
    refine U.at T G _ λk J => ?_
    have hlk := pn hD hr.cl T hl J
    have:k≠i := λe => by subst e;rw[hr.un] at hlk;cases hlk
    simp[DC, this]
  have a0:(λk => (listed.setIfInBounds i true).getD k false) (0+i)=true := by show(listed.setIfInBounds i true).getD (0+i) false=true;rw[wK, Z];simp
  refine⟨ds, by cases w:p.d<;>simpa[Act.put, w] using V, ?_, z, DC G i y.n, rfl, a1.trans X, Y, λid => ?_, λt => ?_⟩
  · cases w:p.d<;>simpa[Act.put, w] using hsz
  · rw[a2]
    have rest:(∀B, p.hp≠some (id, B))→hget (Dm (λk => listed.getD k false) G s.h L) id=hget (Dm (λk => (listed.setIfInBounds i true).getD k false) (DC G i y.n) s.h L) id := λa6 => by
      refine(HY Bv L _ _ 0 rfl λj q v C h2 => ?_).symm
      obtain⟨B, h4, h5⟩ := Ti h2
      have M:j≠i := λe => by subst e;rw[hp] at C;cases C;exact a6 B h4
      rw[wK]
      exact⟨l j M, λhl => by rw[h5];exact(I j q C hl).2 id B h4⟩
    cases E:p.hp with
    | none => exact rest λB => by rw[E];simp
    | some r =>
      obtain⟨j, B⟩ := r
      by_cases T:j=id
      · subst T
        simp only[xZ]
        have F := nC hH hr.cl hp E hr.un
        refine(Ic Bv (X4 E) L _ 0 i hp a0 ?_).symm
        rw[wK]
        intro m q v C h2 h3
        exact F m q v C ((l _ (by omega)).symm.trans h2) h3
      · simp only[vg T]
        exact rest λa8 => by rw[E];intro e;cases e;exact T rfl
  · by_cases A:p.d=some t
    · have e1:get (CI (λk => (listed.setIfInBounds i true).getD k false) (DC G i y.n) s.e L) t=p.v (DC G i y.n) :=
        Ic DQ (SH A) L _ 0 i hp a0 (Qg (Wk hE hp A))
      have O:t<a.tmps.size := by rw[hsz];exact Cn (hN t A)
      rw[e1, A]
      simp only[Act.put, Lj O, xZ]
      exact hv
    · have e1:get (CI (λk => (listed.setIfInBounds i true).getD k false) (DC G i y.n) s.e L) t=get (CI (λk => listed.getD k false) G s.e L) t := by
        refine HY DQ L _ _ 0 rfl λj q v C h2 => ?_
        obtain⟨h4, h5⟩ := QT h2
        have M:j≠i := λe => by subst e;rw[hp] at C;cases C;exact A h4
        rw[wK]
        exact⟨l j M, λhl => by rw[h5];exact(I j q C hl).1⟩
      rw[e1]
      have h0 := (he t).mono X
      cases w:p.d with
      | none => exact h0
      | some d =>
        have a7:d≠t := λe => A (by rw[w, e])
        have O:d<a.tmps.size := by rw[hsz];exact Cn (hN d w)
        simp only[Act.put, Lj O, vg a7]
        exact h0
theorem Gr.step{c0}{s}{L}{listed:Array Bool}{a:Act}{w}{i}{p}{o}{Q}(hp:L[i]?=some p)(ho:ops[i]?=some o)(V:Ob P ops s L i p o)(X:HG L=true)(Y:Oq ops L=true)
 (Z:Qb ops L=true) (l:IZ L) (hi:i<listed.size) (U:Bg ops (λk => listed.getD k false) i) (M:Gr c0 s L listed a w) :
    wpOp P ops Q i (Gr c0 s L (listed.setIfInBounds i true)) a w := by
  obtain⟨_, q, hsz, y, G, a0, B, C, E, J⟩ := M
  subst a0
  obtain⟨hd, hN, a1⟩ := V
  unfold wpOp
  simp only[ho]
  rcases a1 (λk => listed.getD k false) G _ _ y.n U (λt => rfl) (λid => rfl) with ⟨hg, h', j, a2⟩ | ⟨O, c, v0, T, hG, j⟩
  · rw[vh (by simp[Region.wanted, hg])]
    refine .inl (j y a C (funext λid => E id) rfl (λt => J t) _ Q λu z F A I hv => ?_)
    rw[hd]
    exact Gr.put hp hN X Y Z l hi U q hsz B J F A (λid => by rw[I];exact a2 id) hv
  · have hw:Region.wanted o (yielded ops a.tmps)=c := CS.wanted (s := ⟨_, [], 0, 0⟩) hG (λt => J t)
    rw[hw]
    cases c with
    | true =>
      obtain⟨h2, a6, a7⟩ := j rfl
      rw[vh rfl]
      refine .inl (a6 y a C (funext λid => E id) rfl (λt => J t) _ Q λu z F A I hv => ?_)
      rw[hd]
      refine Gr.put hp hN X Y Z l hi U q hsz B J F A (λid => by rw[I, O];exact a7 id) ?_
      rw[T];exact .whn (λ_ => hv) (λh => by cases h)
    | false =>
      rw[vg (by decide), hd]
      refine Gr.put hp hN X Y Z l hi U q hsz B J (.refl y) C (λid => by rw[O];exact E id) ?_
      rw[T];exact .whn (λh => by cases h) (λ_ => rfl)
def Fp(e:AX):AX→Prop
 | []=>True
 | (t,a)::r=>get e t=a∧Fp e r
def Fs(e:AO):AO→Prop
 | []=>True
 | (t,a)::r=>hget e t=a∧Fs e r
theorem Pm{j e}(l:∀t,get e t=get j t):∀(r:AX),Fp j r→∀t,get (r++e) t=get j t
 | [],_,t=>l t
 | (t0,a)::r,⟨q,u⟩,t=>by
  rw[wF,DQ]
  split
  ·rename_i w;subst w;exact q.symm
  ·exact Pm l r u t
theorem S0{j e}(l:∀t,hget e t=hget j t):∀(r:AO),Fs j r→∀t,hget (r++e) t=hget j t
 | [],_,t=>l t
 | (t0,a)::r,⟨q,u⟩,t=>by
  rw[wF,Bv]
  split
  ·rename_i w;subst w;exact q.symm
  ·exact S0 l r u t
theorem Fx.same{o}{R l}{h h'}{n}{v}{q}(u:Fx P o R h n v q)(w:∀t,get l t=get R t)(A:∀id,hget h' id=hget h id):Fx P o l h' n v q:=by
 intro x a j B C E K Q F
 exact u x a j (by rw[B];exact funext A) C (λt=>by rw[← w];exact E t) K Q F
theorem iA{s:St}{L}{i}{p:PO}{o:Oper}(hg:o.guard=none)(hd:o.dst=p.d)(C:∀d, p.d=some d→Nat.blt d s.N=true)(hp:p.hp=none)(w:(Nat→Nat)→AX)(q:(Nat→Nat)→AO)
 (E:∀D G, Bg ops D i→Fp (CI D G s.e L) (w G)) (F:∀D G, Bg ops D i→Fs (Dm D G s.h L) (q G))
 (I:∀G n, p.v (DC G i n)=p.v G) (h:∀G e j n, ∃l, Fx P o (w G++e) (q G++j) n (p.v G) l∧∀id, hget l id=hget (q G++j) id):Ob P ops s L i p o := by
  refine⟨hd, C, λD G e j n A B u => .inl ⟨hg, ?_⟩⟩
  have J := Pm B _ (E D G A)
  have g2 := S0 u _ (F D G A)
  obtain⟨l, M, O⟩ := h G e j n
  refine⟨l, ?_, λid => by rw[hp, O, g2, u]⟩
  rw[I]
  exact M.same (λt => by rw[J, B]) (λid => by rw[g2, u])
theorem T8{s:St}{L:List PO}{i:Nat}{p:PO}{o:Oper}{n1:Nat→Nat}(hg:o.guard=none)(hd:o.dst=p.d)(u:∀d,p.d=some d→Nat.blt d s.N=true)(hp:p.hp=none)(q:(Nat→Nat)→AX)(j:(Nat→Nat)→AO)
  (w:∀D G,Bg ops D i→Fp (CI D G s.e L) (q G)) (A:∀D G,Bg ops D i→Fs (Dm D G s.h L) (j G))
  (B:∀G n,p.v (DC G i n)=p.v G) (h:∀G e l n,A7 P true o (q G++e) (j G++l) n (p.v G) (j G++l) (n1 n)):Ob P ops s L i p o:=
 iA hg hd u hp q j w A B λG e l n=>⟨_,(h G e l n).toN,λ_=>rfl⟩
theorem g9{s:St}{L:List PO}{i:Nat}{p:PO}{o:Oper}{c:Bool}{v0:(Nat→Nat)→AV}{n1:Nat→Nat}(hd:o.dst=p.d)(C:∀d,p.d=some d→Nat.blt d s.N=true)(hp:p.hp=none)(q:(Nat→Nat)→AX)(u:(Nat→Nat)→AO)
  (B:∀D G,Bg ops D i→Fp (CI D G s.e L) (q G)) (E:∀D G,Bg ops D i→Fs (Dm D G s.h L) (u G))
  (F:∀G n,p.v (DC G i n)=.whn c (v0 G)) (hg:∀G e,CS (q G++e) ops o c) (h:∀G e j n,A7 P c o (q G++e) (u G++j) n (v0 G) (u G++j) (n1 n)):Ob P ops s L i p o:=by
 refine⟨hd,C,λD G e j n w l A=>.inr ⟨hp,c,v0 G,F G n,?_,λI=>?_⟩⟩
 ·exact(hg G e).same λt=>by rw[Pm l _ (B D G w),l]
 ·have J:=Pm l _ (B D G w)
  have g2:=S0 A _ (E D G w)
  subst I
  exact⟨_,(h G e j n).toN.same (λt=>by rw[J,l]) (λid=>by rw[g2,A]),λid=>by rw[g2,A]⟩
theorem Xn{s:St}{L}{i}{p:PO}{o:Oper}{id}{ob}(hg:o.guard=none)(hd:o.dst=p.d)(C:∀d, p.d=some d→Nat.blt d s.N=true)(hp:p.hp=some (id, ob))(w:(Nat→Nat)→AX)(q:(Nat→Nat)→AO)
 (E:∀D G, Bg ops D i→Fp (CI D G s.e L) (w G)) (F:∀D G, Bg ops D i→Fs (Dm D G s.h L) (q G))
 (h:∀(G:Nat→Nat) e l n, Fx P o (w G++e) (q G++l) n (p.v (DC G i n)) ((id, ob (DC G i n))::(q G++l))):Ob P ops s L i p o := by
  refine⟨hd, C, λD G e l n A B u => .inl ⟨hg, ?_⟩⟩
  have I := Pm B _ (E D G A)
  have g2 := S0 u _ (F D G A)
  refine⟨_, (h G e l n).same (λt => by rw[I, B]) (λj => by rw[g2, u]), λj => ?_⟩
  rw[hp, Bv]
  simp only
  split
  · rfl
  · rw[g2, u]
theorem uv{s:St}{L:List PO}{i:Nat}{p:PO}{o:Oper}{id:Nat}{ob:(Nat→Nat)→Option Ab}{n1:Nat→Nat}(hg:o.guard=none)(hd:o.dst=p.d)(u:∀d,p.d=some d→Nat.blt d s.N=true)(hp:p.hp=some (id,ob))(q:(Nat→Nat)→AX)(j:(Nat→Nat)→AO)
  (w:∀D G,Bg ops D i→Fp (CI D G s.e L) (q G)) (A:∀D G,Bg ops D i→Fs (Dm D G s.h L) (j G))
  (h:∀(G:Nat→Nat) e l n,A7 P true o (q G++e) (j G++l) n (p.v (DC G i n)) ((id,ob (DC G i n))::(j G++l)) (n1 n)):Ob P ops s L i p o:=
 Xn hg hd u hp q j w A λG e l n=>(h G e l n).toN
theorem Fx.frz{o}{R}{h}{n id g}{e:TypeId}{sz}{xs}(Y:Fx P o R h n (.own id g) ((id,some (.arr g e sz xs))::h)):Fx P o R h n (.r (.sl xs)) ((id,none)::h):=by
 intro x a M Z hn he K Q hK
 refine Y x a M Z hn he K Q λu y k1 A X k4=>?_
 have w:y.H id=some (.arr g e sz xs):=by rw[X,Bv,vh rfl]
 let C:Cx:={ y with S:=λb=>y.S b∨∃k,y.β id=some (b,k),H:=hget ((id,none)::h) }
 have j:∀i o,C.H i=some o→i≠id∧y.H i=some o:=by
  intro i o l
  simp only[C,Bv] at l
  split at l
  ·cases l
  ·rename_i E
   refine⟨λe=>E e.symm,?_⟩
   rw[X,Bv,vg E];exact l
 have B:y.le C:=⟨vu _,rfl,rfl,rfl,λ_ _=>rfl,λ_ h=>.inl h,rfl,vu _,λi o l _=>⟨o,(j i o l).2,rfl,rfl,rfl⟩,λi o l hf _ _=>⟨o,(j i o l).2,hf,rfl,rfl,rfl,rfl⟩⟩
 have F:C.ok:=by
  refine⟨λb q=>?_,A.F_lt,λb q=>?_,λi o l=>?_,λi o b k l q=>?_,λi i' o o' b k I l O=>A.inj i i' o o' b k I (j _ _ l).2 (j _ _ O).2,A.extOf (λi o l=>⟨o,(j i o l).2⟩) rfl rfl (vu _) (λi o b k l J hS=>hS.elim (A.own' i o b k (j i o l).2 J).2.1 λ⟨I,q⟩=>(j i o l).1 (A.inj' (j i o l).2 w J (.inl q))) (λi o b k l J=>(A.own' i o b k (j i o l).2 J).2.2),A.tabs.le B⟩
  ·rcases q with q | ⟨k,q⟩
   ·exact A.S_lt b q
   ·exact(A.own id _ b k w q).1
  ·rcases q with q | ⟨k,q⟩
   ·exact A.SF b q
   ·exact(A.own id _ b k w q).2.2
  ·obtain⟨T,U⟩:=A.obj i o (j _ _ l).2
   exact⟨T,U.mono B (λ_ _ _=>rfl) λ_ _ _ _=>rfl⟩
  ·obtain⟨T,U,j3⟩:=A.own i o b k (j _ _ l).2 q
   refine⟨T,?_,j3⟩
   rintro(V | ⟨I,V⟩)
   ·exact U V
   ·exact(j _ _ l).1 (A.inj i id o _ b k I (j _ _ l).2 w q V)
 exact hK u C (k1.trans B) F rfl (.r (N8 A w k4 (λ_ h=>.inl h) (λb k q=>.inr ⟨k,q⟩)))
theorem mQ{j}{o}{H}(h:hget H j=o):∀id,hget ((j,o)::H) id=hget H id:=λid=>by
 rw[Bv]
 split
 ·rename_i e;subst e;exact h.symm
 ·rfl
theorem gM{o:Oper}{R}{h}{n}{f}{fo}{xs:Array Operand}{l}{caps bs}(L:List Nat){hc}{r}{E}
 (I:o.op=.call { callee := .value fo, args := xs, argTypes := l }) (q:Ev true R fo (.fn f (FF L caps))) (w:GL L.length caps=true) (J:Jw R L xs.toList bs) (A:Gu h L hc) (B:L.Nodup)
 (j:Bb P f L.length (bs++caps) hc (λrr F => ∃_:Nat→Nat, rr=r∧F=E)):Fx P o R h n (ren L r) (FN L E 1000 L++h) := by
  intro x a C M _ O K Q T
  refine Wh I q w J A B j C M O K Q λu y rr F U V X Y ⟨_, Z, k6⟩ => ?_
  subst Z;subst k6
  exact T u y U V X Y
end
section
variable{ops:Array Oper}{D:Nat→Bool}{G:Nat→Nat}{e:AX}{h:AO}{L:List PO}{t:Nat}
theorem MM(hB:JG L t=true){a}(j:get e t=a):get (CI D G e L) t=a:=(GU DQ L e 0 (Qg hB)).trans j
theorem O8{i}(l:Bg ops D i) j{p:PO}{a}(q:L[j]?=some p)(hd:p.d=some t)(u:wt ops 40 i j=true)(hB:JG (L.drop (j+1)) t=true)(w:p.v G=a):get (CI D G e L) t=a:=
 (Ic DQ (SH hd) L e 0 j q (by rw[wK];exact l.yes u) (Qg hB)).trans w
theorem NR(hB:VV L t=true){a}(j:hget h t=a):hget (Dm D G h L) t=a:=(GU Bv L h 0 (rU hB)).trans j
def NE(ops:Array Oper)(i t:Nat):List PO→Nat→Bool
 | [],_=>true
 | p::L,k=>(match p.hp with | some (d,_)=>!Nat.beq d t||Nat.beq k i||wt ops 40 k i | none=>true)&&NE ops i t L (k+1)
theorem XU{i}(w:Bg ops D i):∀ {L:List PO} {k:Nat},NE ops i t L k=true→Gj PO.wH D t L k
 | [],_,_=>λj _ _ h=>by simp at h
 | q::L,k,hB=>by
  simp only[NE,vm] at hB
  intro j p v A u B
  match j with
  | 0=>
   cases A
   obtain⟨E,C,_⟩:=Ti B
   rw[C] at hB
   simp only[vt,wl] at hB
   rcases hB.1 with (l | l) | l
   ·simp at l
   ·rw[ws,vx l,w.un] at u;cases u
   ·rw[ws,w.no l] at u;cases u
  | j+1=>exact XU w hB.2 j p v (by simpa using A) (by rwa [show k+1+j=k+(j+1) by omega]) B
theorem Jr{i}(j:Bg ops D i)(hB:NE ops i t L 0=true){a}(l:hget h t=a):hget (Dm D G h L) t=a:=(GU Bv L h 0 (XU j hB)).trans l
theorem kb{i}(l:Bg ops D i) j{p:PO}{ob}{a}(q:L[j]?=some p)(hd:p.hp=some (t,ob))(u:wt ops 40 i j=true)(hB:NE ops i t (L.drop (j+1)) (j+1)=true)(w:ob G=a):hget (Dm D G h L) t=a:=
 (Ic Bv (X4 hd) L h 0 j q (by rw[wK];exact l.yes u) (by rw[wK];exact XU l hB)).trans w
end
section
variable{P:Program}{ops:Array Oper}
def VL(ops:Array Oper)(n:Nat):Bool:=(List.range n).all λi=>match ops[i]? with | some o=>o.after.all λe=>!Region.binds .any e||(e.on<i) | none=>false
def Kd(P:Program)(ops:Array Oper)(s:St)(j:List PO):Nat→List PO→List Oper→Prop
 | _,[],_=>True
 | _,_::_,[]=>False
 | i,p::L,o::l=>Ob P ops s j i p o∧Kd P ops s j (i+1) L l
theorem Kd.at{s}{A} : ∀ {L:List PO} {l:List Oper} {q:Nat},Kd P ops s A q L l→∀ {j:Nat} {p:PO} {o:Oper},L[j]?=some p→l[j]?=some o→Ob P ops s A (q+j) p o
 | _::_,_::_,q,h,0,_,_,u,w=>by cases u;cases w;exact h.1
 | _::L,_::l,q,h,j+1,p,o,u,w=>by
  have:=Kd.at (j:=j) h.2 (p:=p) (o:=o) (by simpa using u) (by simpa using w)
  rwa [show q+(j+1)=q+1+j by omega]
 | _::_,[],_,h,_,_,_,_,_=>h.elim
 | [],_,_,_,_,_,_,u,_=>by simp at u
def EF(listed:Array Bool):Nat→Nat
 | 0=>0
 | n+1=>EF listed n+(if listed.getD n false then 0 else 1)
theorem Wd{listed:Array Bool}{i}(q:i<listed.size)(j:listed.getD i false=false):∀n,EF (listed.setIfInBounds i true) n+(if i<n then 1 else 0)=EF listed n
 | 0=>by simp[EF]
 | n+1=>by
  have u:=Wd q j n
  unfold EF
  by_cases l:i=n
  ·subst l
   rw[j]
   have:(listed.setIfInBounds i true).getD i false=true:=by simp[q]
   rw[this]
   simp at u ⊢
   exact u
  ·rw[getD_set_ne false l]
   have:(i<n+1)↔(i<n):=by omega
   simp only[this]
   omega
theorem Wn{listed:Array Bool} : ∀ {n:Nat}, 0<EF listed n→∃i, i<n∧listed.getD i false=false∧∀j, j<i→listed.getD j false=true
  | 0, h => by simp[EF] at h
  | n+1, h => by
    by_cases w:0<EF listed n
    · obtain⟨i, E, A, B⟩ := Wn w
      exact⟨i, by omega, A, B⟩
    · have l:∀m, m≤n→EF listed m=0 := by
        intro m F
        have:EF listed m≤EF listed n := by
          clear h w
          induction n with
          | zero => have:m=0 := by omega
                    subst this;exact vu _
          | succ n C =>
            by_cases q:m=n+1
            · subst q;exact vu _
            · exact wq (C (by omega)) (Nat.le_add_right ..)
        omega
      unfold EF at h
      refine⟨n, by omega, ?_, λj I => ?_⟩
      · cases u:listed.getD n false with
        | false => rfl
        | true => rw[u] at h;simp at h;omega
      · have := l (j+1) (by omega)
        unfold EF at this
        cases u:listed.getD j false with
        | true => rfl
        | false => rw[u] at this;simp at this
theorem XX{listed:Array Bool} : ∀ {n:Nat},EF listed n=0→∀j,j<n→listed.getD j false=true
 | 0,_,j,q=>by omega
 | n+1,h,j,q=>by
  unfold EF at h
  by_cases l:j=n
  ·subst l
   cases u:listed.getD j false with
   | true=>rfl
   | false=>rw[u] at h;simp at h
  ·exact XX (n:=n) (by omega) j (by omega)
theorem WC{listed:Array Bool}(h:∀j,listed.getD j false=false):∀n,EF listed n=n
 | 0=>rfl
 | n+1=>by unfold EF;rw[WC h n,h n];simp
theorem uY{c0}{s}{L:List PO}{n g}{l:List Oper}{Q}(hl:l.toArray=ops)(T:n=ops.size∨(n<ops.size∧Region.sinkB .any ops n=true∧Region.chainB .any ops n=true))(ag:L.length=n)(J:VL ops n=true)
 (hD:Qb ops L=true) (hE:HG L=true) (hH:Oq ops L=true) (U:IZ L) (a7:Kd P ops s L 0 L l)
 (V:∀listed a w, HeadInv .any ops n listed→(∀j, j<n→listed.getD j false=true)→Gr c0 s L listed a w→wpAny P .any ops Q g listed a w) :
    ∀(f:Nat) (listed:Array Bool) (a:Act) (w:World), EF listed n=f→HeadInv .any ops n listed→Gr c0 s L listed a w→wpAny P .any ops Q (f+g) listed a w := by
  have hn:n≤ops.size := by rcases T with h | h<;>omega
  intro f
  induction f with
  | zero =>
    intro listed a w C u A
    rw[wK]
    exact V listed a w u (XX C) A
  | succ f ih =>
    intro listed a w C u A
    rw[show f+1+g=(f+g)+1 by omega]
    obtain⟨M, X, E, B⟩ := Wn (listed := listed) (n := n) (by omega)
    have Y:M<listed.size := by rw[u.size];omega
    have q:M ∈ Region.ready .any ops listed := by
      refine mem_ready.2 ⟨getD_in Y E, ?_⟩
      have a8:∃o, ops[M]?=some o := ⟨ops[M]'(by omega), by simp[wS (show M<ops.size by omega)]⟩
      obtain⟨o, F⟩ := a8
      refine⟨o, F, λe Z hb => ?_⟩
      have h1 := wI.1 J M (wU.2 X)
      simp only[F] at h1
      have h2 := (zM.1 h1) e Z
      simp only[hb, zG, xW, vi] at h2
      exact B _ h2
    refine⟨λh => (by rw[h] at q;cases q), λi hi => ?_⟩
    have a0:i<n := by
      rcases yQ i n with h | h
      · exact h
      · rcases T with e | ⟨aa, hs, hc⟩
        · obtain⟨_, o, F, _⟩ := mem_ready.1 hi
          have := (wm.1 F).1
          omega
        · exact absurd hi (tail_waits hs hc aa u _ M rfl X (getD_in Y E) i h)
    obtain⟨ab, o, F, a1⟩ := mem_ready.1 hi
    have I := getD_both ab
    have a2:i<listed.size := by rw[u.size];omega
    obtain⟨p, hp⟩:∃p, L[i]?=some p := ⟨L[i]'(by omega), by simp[vo (show i<L.length by omega)]⟩
    have ac:l[i]?=some o := by rw[← F, ← hl];simp
    have a6 := a7.at hp ac
    rw[wK] at a6
    have ad:Bg ops (λk => listed.getD k false) i := by
      refine⟨λj k hj hk => ?_, λk hk => ?_, I⟩
      · obtain⟨oj, ae, e, Z, hb, O⟩ := Region.waitsFor_spec hk
        rw[← O];exact u.closed j oj ae hj e Z hb
      · obtain⟨oi, af, e, Z, hb, O⟩ := Region.waitsFor_spec hk
        have:oi=o := wY (af.symm.trans F)
        subst this
        rw[← O];exact a1 e Z hb
    have step := Gr.step (Q := Q) hp F a6 hE hH hD U a2 ad A
    refine wpOp_mono (λa' w' h' => ih _ a' w' ?_ (u.set hi a0) h') step
    have := Wd a2 I n
    rw[vh a0] at this
    omega
def V7(ops:Array Oper)(n:Nat)(L:List PO):Bool:=
 (Nat.beq n ops.size||((n<ops.size)&&Region.sinkB .any ops n&&Region.chainB .any ops n))&&(L.length=n)&&VL ops n&&Qb ops L&&HG L&&Oq ops L
  && Region.seqB .any ops (ops.size-n) n (D6 (Array.replicate ops.size false) (List.range n))
theorem eW:∀(u:List Nat) (l:Array Bool) (j:Nat),(∀i∈u,i<l.size)→(D6 l u).getD j false=(l.getD j false||u.contains j)
 | [],l,j,_=>by simp[D6]
 | i::u,l,j,h=>by
  show(D6 (l.setIfInBounds i true) u).getD j false=_
  rw[eW u _ j (λk w=>by simp;exact h k (vp _ w))]
  by_cases q:i=j
  ·subst q
   have:=h i (vn ..)
   simp[this]
  ·rw[getD_set_ne false q]
   simp[Ne.symm q]
theorem RY{α:Type}{wr}{D D'}{G} : ∀(L:List PO) (e:List (Nat × α)) (k:Nat),(∀j,k≤j→j<k+L.length→D j=D' j)→EN wr D G e L k=EN wr D' G e L k
 | [],_,_,_=>rfl
 | p::L,e,k,h=>by
  have l:=h k (vu _) (by simp)
  have q:=λe=>RY (wr:=wr) (G:=G) L e (k+1) (λj u w=>h j (by omega) (by simp;omega))
  unfold EN
  rw[l]
  simp only[q]
theorem IA{id}{l:List Oper}{s:St}{Q}(n:Nat)(L:List PO){lt}(hm:P.follows .mixedOrders=true)(hB:V7 l.toArray n L=true)(F:IZ L)(e4:l.drop n=lt)
 (V:Kd P l.toArray s L 0 L l)
 (h:∀(G:Nat→Nat) (n':Nat), AL P l.toArray lt ⟨CI (λ_ => true) G s.e L, Dm (λ_ => true) G s.h L, n', s.N⟩ (Q .normal)):AW P (.region id l.toArray true) Q s := by
  intro z0 X c0 a w ⟨_, I, hsz, y, Y, Z, a0, hH, hn, he⟩
  subst Y
  obtain⟨r1, r2⟩ := Q1 a0
  simp only[V7, vm, vi] at hB
  obtain⟨⟨⟨⟨⟨⟨b0, b2⟩, b3⟩, b6⟩, b7⟩, b8⟩, b9⟩ := hB
  have b1:n=l.toArray.size∨(n<l.toArray.size∧Region.sinkB .any l.toArray n=true∧Region.chainB .any l.toArray n=true) := by
    rw[vt] at b0
    rcases b0 with h | h
    · exact .inl (vx h)
    · simp only[vm, vi] at h
      exact .inr ⟨h.1.1, h.1.2, h.2⟩
  have a8:n≤l.toArray.size := by rcases b1 with h | h<;>omega
  refine Pb Jz hm X ?_
  generalize hz:({ y with w := { y.w with drawn := y.w.drawn+1 } } : Cx)=z at r1 r2
  have a1:z.w = { y.w with drawn := y.w.drawn+1 } := by rw[← hz]
  have a2:z.H=hget s.h := by rw[← hz];exact hH
  rw[← a1]
  have u:∀j, (Array.replicate l.toArray.size false).getD j false=false := getD_replicate_false _
  have key := uY (P := P) (c0 := c0) (s := s) (L := L) (n := n) (g := l.toArray.size - n) (l := l) (Q := ED c0 Q) rfl b1 b2 b3 b6 b7 b8 F V
    (λq a' w' E C J => by
      have A:q=D6 (Array.replicate l.toArray.size false) (List.range n) := by
        have M:q.size=(D6 (Array.replicate l.toArray.size false) (List.range n)).size := by rw[E.size, eZ];simp
        refine Array.ext M λj B h2 => ?_
        have h3 := eW (List.range n) (Array.replicate l.toArray.size false) j (λi hi => by have := wU.1 hi;rw[Array.size_replicate];omega)
        rw[u] at h3
        have e1:q[j]=q.getD j false := by unfold Array.getD;rw[dif_pos B];rfl
        have e2:(D6 (Array.replicate l.toArray.size false) (List.range n))[j]=(D6 (Array.replicate l.toArray.size false) (List.range n)).getD j false := by unfold Array.getD;rw[dif_pos h2];rfl
        rw[e1, e2, h3]
        by_cases U:j<n
        · rw[C j U];simp[U]
        · have a6:j<l.toArray.size := by rw[E.size] at B;exact B
          rw[getD_both (E.tail j (by omega) a6)];simp[U]
      obtain⟨_, i1, i2, O, G, i3, i4, i5, i6, i7⟩ := J
      subst i3
      have T:(l.drop n).length=l.toArray.size - n := by simp
      have hD:∀j, 0≤j→j<0+L.length→(λ_ => true) j=(λk => q.getD k false) j := λj _ U => (C j (by omega)).symm
      have := wpAny_of_seq (P := P) (md := .any) (ops := l.toArray) (Q' := ED c0 Q) (l.drop n) n q a' O.w (λj => by simp[xJ]) (by rw[T, A];exact b9) ?_
      · rwa [T] at this
      · rw[e4]
        refine h G O.n c0 a' O.w ⟨_, i1, i2, O, rfl, i4, i5, funext λid => ?_, rfl, λt => ?_⟩ _ λa7 aa ab j1 j2 => ⟨by simp, a7, j1, j2⟩
        · rw[i6];show _=hget (EN _ _ _ _ _ _) _;rw[RY L _ 0 hD]
        · show AP O (get (EN _ _ _ _ _ _) t) _
          rw[RY L _ 0 hD];exact i7 t)
    n (Array.replicate l.toArray.size false) a z.w (WC u n)
    ⟨by simp, λj oj _ hl => (by rw[u] at hl;cases hl), λt _ ht => getD_in (by simpa using ht) (u _)⟩
    ⟨_, I, hsz, z, λ_ => 0, rfl, Z.trans r1, r2, λid => by rw[a2];exact(GU Bv L _ 0 λj p _ _ B => by rw[u] at B;cases B).symm, λt => by
      have e1:get (CI (λk => (Array.replicate l.toArray.size false).getD k false) (λ_ => 0) s.e L) t=get s.e t := GU DQ L _ 0 λj p _ _ B => by rw[u] at B;cases B
      rw[e1]
      exact(he t).mono r1⟩
  have e:n+(l.toArray.size - n)=l.toArray.size := by omega
  rw[e] at key
  exact key
end
section
variable{P:Program}{c:Bool}{o:Oper}{R:AX}{h:AO}
theorem fQ{f g}(l:∀i p,f i=some p→g i=some p):∀(q:List (Nat × Value)) (us j:Array Value),Instr.fill f us q=some j→Instr.fill g us q=some j
 | [],_,_,h=>h
 | (i,v)::q,us,j,h=>by
  unfold Instr.fill at h ⊢
  cases u:f i with
  | none=>rw[u] at h;cases h
  | some p=>
   obtain⟨off,sz⟩:=p
   rw[u] at h
   rw[l i _ u]
   simp only at h ⊢
   split at h
   ·cases h
   ·rename_i w
    rw[vg w]
    exact fQ l q _ _ h
def QZ(P:Program)(t:TypeId)(j:List (Nat × Nat))(z:List Value):Prop:=
 ∃n e sz,P.underlying t=some (.array n e)∧(∃i,P.info? e=some i∧i.size=sz)∧(∀i p,j[i]?=some p→p=(i * sz,sz))∧∃i,P.info? t=some i∧i.zero=some (.agg z.toArray)
theorem m8{t}{parts:Array (Nat × Operand)}{l}{z:List Value}{q}{cs}(I:o.op=.build t parts)(J:QZ P t l z)
 (hp:Om c R l z.length parts.toList q) (A:LZ (z.map HC) q=cs):AR P c o R h (.agg cs) := by
  intro M y a _ _ O
  subst A
  obtain⟨n, e, sz, T, ⟨ie, U, V⟩, X, i, Y, Z⟩ := J
  obtain⟨B, f1, f2, f3⟩ := Wv M O parts.toList q z.toArray (z.map HC) (by simp) (λj b u w C => by
    have E:z[j]?=some u := by simpa using C
    rw[wD, E] at w
    simp only[xD, vz] at w
    subst w;exact NP y u) (by rw[v7];exact hp)
  refine⟨.agg B, λw2 _ => ?_, .agg f2.symm λj b u w C => f3 j b u w C⟩
  have F := fQ (g := λi => some (i * sz, sz)) (λi p hp => by rw[X i p hp]) _ _ _ f1
  unfold execOp
  rw[I]
  simp only[Instr.build, zeroValue, typeInfo, Sem.run_bind, run_program, Result.andThen_ok, Y, Sem.run_pure, Z, run_underlying T, Dn U, V, Value.cells, yo]
  rw[F]
  rfl
theorem QZ.of{t}{n}{e}{sz b q}{A}{B}{j}{w:List Value}(C:P.underlying t=some (.array n e))
 (E:(P.info? e).map (λi => (i.zero, i.size, i.bytes))=some (some A, sz, B)) (F:∀i p, j[i]?=some p→p=(i * sz, sz)) (l:(P.info? t).map (λi => (i.zero, i.size, i.bytes))=some (some (.agg w.toArray), q, b)):QZ P t j w := by
  cases u:P.info? t with
  | none => rw[u] at l;cases l
  | some i =>
    rw[u] at l
    simp only[xD, vz, wA] at l
    exact⟨n, e, sz, C, DE E, F, i, u, l.1⟩
theorem ky{j:List (Nat × Nat)}{sz}(h:(List.range j.length).all (λi=>match j[i]? with | some p=>p.1==i * sz&&p.2==sz | none=>false)=true):∀i p,j[i]?=some p→p=(i * sz,sz):=by
 intro i p hp
 have:=wI.1 h i (wU.2 (vl.1 hp).1)
 simp only[hp,vm,zg] at this
 obtain⟨l,q⟩:=p
 simp only at this
 rw[this.1,this.2]
end
section
variable{P:Program}{c:Bool}{o:Oper}{R:AX}{h:AO}{n:Nat}
def Kb(cs:List RV)(k:Nat)(vs:List RV):List RV:=cs.take k++vs++cs.drop (k+vs.length)
theorem Yg{t}{x y}{id g i k m:Nat}{e}{sz}{xs:List (List RV)}{row ds:List RV}{a}(ho:o.op=.store t x y)(ht:∃i, P.info? t=some i∧i.size=m)
 (hx:Ev c R x (.ptr id g i k)) (hh:hget h id=some (.arr g e sz xs)) (M:xs[i]?=some row) (hy:Ev c R y a) (hd:Gd a=some ds) (hm:ds.length=m) (hk:k+ds.length≤row.length) :
    A7 P c o R h n .any ((id, some (.arr g e sz (xs.set i (Kb row k ds))))::h) n := by
  intro hc z w O hH hn he K Q hK
  obtain⟨ii, hi, ag⟩ := ht
  have A:z.H id=some (.arr g e sz xs) := by rw[hH];exact hh
  have aa:i<xs.length := (vl.1 M).1
  obtain⟨b, cap, us, hβ, ay, ah, E, Y⟩ := SQ O A aa (hx.rep he hc)
  have az := (O.obj _ _ A).1
  obtain⟨bb, ab⟩ := ah
  rcases ab with ⟨hv, _⟩ | ⟨Z, b8, F, hv, _, a0, ai, b0, aj, ac⟩
  · cases hv
  simp only[Value.slice.injEq, vz, Addr.mk.injEq, zH, and_true] at hv
  obtain⟨rfl, rfl⟩ := hv
  have hsz:0<sz := (O.obj _ _ A).2.1
  have ak := E row (wJ M)
  obtain⟨I, al⟩ := Xa hd
  have ad:∀b ∈ BV a, b.one=true := λb hb => by
    obtain⟨j, hj, rfl⟩ := ww.1 hb
    obtain⟨a', h1, h2⟩ := al j (ds[j]'(by omega)) (by simp[vo (show j<ds.length by omega)])
    rw[vo hj] at h1
    cases h1
    exact Rn h2
  have b1 := hy.rep he hc
  obtain⟨T, b2, b3⟩ := M1 b1 ad
  replace I:ds.length=(BV a).length := I
  have an:(w.eval y).cells.toList.length=ds.length := by rw[wV (xs := (w.eval y).cells), T, I]
  have b4:i * sz+sz≤xs.length * sz := by
    have:(i+1) * sz≤xs.length * sz := wR _ aa
    rwa [wo, xc] at this
  have b9:xs.length * sz≤F.size := by rw[aj];exact wR _ ai
  have a1 := R2 (P := P) (k := i * sz+k) hi a0 (v := w.eval y) (by rw[T, ag, ← I, hm]) b3 (by rw[T, ← I];omega)
  rw[show(w.eval y).cells.size=ds.length by rw[T, I]] at a1
  have a2 := λj => Jt F.toList (w.eval y).cells.toList (i * sz+k) j (by have := wV (xs := F);rw[an];omega)
  rw[an] at a2
  let l:Array Value := (F.toList.take (i * sz+k)++(w.eval y).cells.toList++F.toList.drop (i * sz+k+ds.length)).toArray
  have J:l.size=F.size := by
    have ao:(w.eval y).cells.size=ds.length := by rw[T, I]
    simp[l, ao];omega
  have a6:(Kb row k ds).length=row.length := by simp[Kb];omega
  have a7:∀j, (Kb row k ds)[j]?=if k≤j∧j<k+ds.length then ds[j - k]? else row[j]? := λj => Jt row ds k j hk
  have aq := EV O id (.arr g e sz (xs.set i (Kb row k ds))) (z.w.setRow b l) (some (b, cap)) z.n (by simp[World.setRow]) rfl rfl rfl
    (λZ _ b5 => setRow_other _ _ _ _ (λe => b5 _ cap A (by rw[e];exact hβ))) (λZ k' hb => by
      cases hb
      exact⟨by simpa[World.setRow] using(O.own id _ b cap A hβ).1, .inr ⟨_, _, A, hβ⟩⟩) (vu _) az
    (λ_ => ⟨_, A, rfl, by simp[Ab.shape], hβ.symm⟩)
    (λb6 => by
      have ar:∀Z, z.S Z→(z.w.setRow b l).heap[Z]?=z.w.heap[Z]? := λZ hb => b6.blk Z (.inl hb)
      refine⟨hsz, λr hr => ?_, .slice (some ⟨b, 0, none⟩) xs.length cap, l.toList.take (xs.length * sz), by simp[Bm], ⟨by simp[J];omega, .inr ⟨b, cap, l, by simp, xd _, setRow_heap _ _ _ _ _ _ a0, by simpa using ai, b0, by rw[J, aj], by simp⟩⟩, λB a8 C d' U k2 => ?_⟩
      · rcases xi hr with hr | rfl
        · exact E r hr
        · rw[a6];exact ak
      · have av:B<xs.length := by simpa using(vl.1 U).1
        have ba:C<sz := by
          have := (vl.1 k2).1
          rw[wh] at U
          split at U
          · cases U;rw[a6, ak] at this;exact this
          · rw[← E a8 (wJ U)];exact this
        have aw:B * sz+C<xs.length * sz := by
          calc B * sz+C<B * sz+sz := by omega
            _=(B+1) * sz := by rw[wo, xc]
            _≤xs.length * sz := wR _ av
        have hget:(l.toList.take (xs.length * sz))[B * sz+C]?=if i * sz+k≤B * sz+C∧B * sz+C<i * sz+k+ds.length then(w.eval y).cells.toList[B * sz+C - (i * sz+k)]? else F.toList[B * sz+C]? := by
          rw[wW, vh aw]
          simp only[l]
          exact a2 _
        have ae:i * sz+k≤B * sz+C→B * sz+C<i * sz+k+ds.length→i=B := by
          intro h1 h2
          have e2:(B * sz+C) / sz=B := by rw[yH, yu hsz, ym (by omega), ws]
          obtain⟨q, hq⟩:∃q, B * sz+C=i * sz+q := ⟨B * sz+C - i * sz, by omega⟩
          have b7:q<sz := by omega
          have e1:(i * sz+q) / sz=i := by rw[yH, yu hsz, ym b7, ws]
          rw[← e1, ← hq, e2]
        by_cases V:i * sz+k≤B * sz+C∧B * sz+C<i * sz+k+ds.length
        · have af := ae V.1 V.2
          subst af
          rw[wh, vh rfl, vh aa] at U
          cases U
          rw[a7, vh (by omega)] at k2
          obtain⟨a', h1, h2⟩ := al _ _ k2
          obtain⟨u, h3, _, h5⟩ := b2 _ _ h1
          refine⟨u, ?_, (Sz h2 h5).mono ar (λ_ h => h)⟩
          rw[hget, vh V, show i * sz+C - (i * sz+k)=C - k by omega, w0]
          exact h3
        · have ax:∃X, xs[B]?=some X∧X[C]?=some d' := by
            rw[wh] at U
            split at U
            · rename_i af;subst af
              cases U
              rw[a7] at k2
              split at k2
              · exact absurd (by omega) V
              · exact⟨row, M, k2⟩
            · exact⟨a8, U, k2⟩
          obtain⟨X, k3, k4⟩ := ax
          obtain⟨u, k5, k6⟩ := Y _ _ _ _ k3 k4
          refine⟨u, ?_, k6.mono ar (λ_ h => h)⟩
          rw[hget, vg V]
          rw[← k5, ← ac, wW, vh aw])
  unfold Oper.wp execOp
  rw[ho]
  simp only[ay, Sem.run_bind, a1, Result.andThen_ok, Sem.run_pure]
  exact hK undef _ aq.1 aq.2 (by simp only[hH];exact D3 _ _ _) hn (.any _)
theorem SC{α:Type}{f}{t}{x y}{id g k m}{e}{sz}{l:List α}{z:Int}{a v}{b}{ds:List RV}(j:o.op=.store t x y)(q:∃i, P.info? t=some i∧i.size=m)
 (u:Ev true R x (.ptr id g z.toNat k)) (w:hget h id=some (.arr g e sz (l.map f))) (A:AM l z=some a) (B:Ev true R y b) (hd:Gd b=some ds) (C:ds.length=m) (E:Nat.ble (k+ds.length) (f a).length=true) (F:Kb (f a) k ds=f v) :
    A7 P true o R h n .any ((id, some (.arr g e sz ((l.set z.toNat v).map f)))::h) n := by
  have := Yg (n := n) j q u w (row := f a) (by rw[wD, (Ej A).2.1];rfl) B hd C (wj E)
  rwa [F, ← zh] at this
end
def SW(c:Bool):AX→AX→Prop
 | [],_=>True
 | (t,v)::r,e=>(get e t=v∨get e t=.whn c v∨(∃b v0,get e t=.whn (c&&b) v0∧v=.whn b v0)∨∃j l v0,get e t=.whn ((c&&j)&&l) v0∧v=.whn (j&&l) v0)∧SW c r e
theorem SW.get{c}{e' e}(h:SW c e' e)(t:Nat):Al.get e' t=.any∨Al.get e t=Al.get e' t∨Al.get e t=.whn c (Al.get e' t) ∨
  (∃b v0,Al.get e t=.whn (c&&b) v0∧Al.get e' t=.whn b v0)∨∃j l v0,Al.get e t=.whn ((c&&j)&&l) v0∧Al.get e' t=.whn (j&&l) v0:=by
 induction e' with
 | nil=>exact .inl rfl
 | cons p r q=>
  obtain⟨d,v⟩:=p
  rw[DQ]
  split
  ·rename_i hd;subst hd;exact .inr h.1
  ·exact q h.2
theorem Q3{c}{e' e}{h}{n N}(hc:c=true)(I:SW c e' e):Ae ⟨e,h,n,N⟩ ⟨e',h,n,N⟩:=by
 intro U a w ⟨_,q,hsz,y,A,B,C,J,E,u⟩
 refine⟨_,q,hsz,y,A,B,C,J,E,λt=>?_⟩
 subst hc
 have j:=u t
 rcases I.get t with l | l | l | ⟨b,v0,l,F⟩ | ⟨M,O,v0,l,F⟩
 ·rw[l];exact .any _
 ·rwa [show Al.get (St.mk e h n N).e t=Al.get e' t from l] at j
 ·rw[show Al.get (St.mk e h n N).e t=.whn true (Al.get e' t) from l] at j
  cases j with
  | whn T _=>exact T rfl
 ·rw[show Al.get (St.mk e h n N).e t=.whn (true&&b) v0 from l] at j
  rw[wy] at j
  rw[F];exact j
 ·rw[show Al.get (St.mk e h n N).e t=.whn ((true&&M)&&O) v0 from l] at j
  rw[wy] at j
  rw[F];exact j
theorem ZP{a b}(h:a=false):(a&&b)=false:=by rw[h];rfl
section
variable{P:Program}{c:Bool}{o:Oper}{R:AX}{h:AO}{n:Nat}
variable{α:Type}{f:α→List RV}
end
section
variable{P:Program}{c:Bool}{o:Oper}{R:AX}{h:AO}{n:Nat}
theorem Gg{t j}{x y}{k}{m n}(l:o.op=.binOp .and t x y j)(q:Ev c R x (.r (.int k m)))(u:Ev c R y (.r (.int k n))):AR P c o R h (.r (.int k (Ch k m n))):=
 Et l q u (λw=>by simp[binOp,Op.intBits,Ch]) (λ_ _=>.int _ _)
theorem JN{t j}{x y}{k}{m n}(l:o.op=.binOp .or t x y j)(q:Ev c R x (.r (.int k m)))(u:Ev c R y (.r (.int k n))):AR P c o R h (.r (.int k (ET k m n))):=
 Et l q u (λw=>by simp[binOp,Op.intBits,ET]) (λ_ _=>.int _ _)
theorem oy{t j}{x y}{k}{m n}(l:o.op=.binOp .xor t x y j)(q:Ev c R x (.r (.int k m)))(u:Ev c R y (.r (.int k n))):AR P c o R h (.r (.int k (Uo k m n))):=
 Et l q u (λw=>by simp[binOp,Op.intBits,Uo]) (λ_ _=>.int _ _)
theorem Xx{t j}{x y}{k}{m n}(l:o.op=.binOp .andNot t x y j)(q:Ev c R x (.r (.int k m)))(u:Ev c R y (.r (.int k n))):AR P c o R h (.r (.int k (PT k m n))):=
 Et l q u (λw=>by simp[binOp,Op.intBits,PT]) (λ_ _=>.int _ _)
theorem Jv{t q:TypeId}{x y:Operand}{k u:IntKind}{m:Int}{b:Nat}(w:o.op=.binOp .shl t x y q)(A:Ev c R x (.r (.int k m)))(B:Ev c R y (.r (.int u b))):AR P c o R h (.r (.int k (Dv k m b))):=by
 intro j z a _ _ l
 refine⟨.int k (Dv k m b),λE C=>?_,.r (.int _ _)⟩
 unfold execOp
 rw[w]
 simp[CZ (A.rep l j),CZ (B.rep l j),eqGuard,binOp,Op.shift,Dv]
 intro F;omega
theorem SA{t q:TypeId}{x y:Operand}{k u:IntKind}{m:Int}{b:Nat}(w:o.op=.binOp .shr t x y q)(A:Ev c R x (.r (.int k m)))(B:Ev c R y (.r (.int u b))):AR P c o R h (.r (.int k (Fo k m b))):=by
 intro j z a _ _ l
 refine⟨.int k (Fo k m b),λE C=>?_,.r (.int _ _)⟩
 unfold execOp
 rw[w]
 simp[CZ (A.rep l j),CZ (B.rep l j),eqGuard,binOp,Op.shift,Fo]
 intro F;omega
def Pg(P:Program)(t:TypeId)(n:Nat)(e:TypeId)(sz:Nat):Prop:=P.underlying t=some (.array n e)∧∃i,P.info? e=some i∧i.size=sz
theorem T2{α:Type}{f}{sz}(q:∀a,(f a).length=sz):∀(l:List α) (i j:Nat) (a:α) (d:RV),l[i]?=some a→(f a)[j]?=some d→(l.flatMap f)[i * sz+j]?=some d
 | [],i,_,_,_,h,_=>by simp at h
 | x::l,0,j,a,d,h,hd=>by
  have u:x=a:=by simpa using h
  subst u
  have w:j<(f x).length:=(vl.1 hd).1
  rw[y8,zR,wK,wO w]
  exact hd
 | x::l,i+1,j,a,d,h,hd=>by
  have A:=T2 q l i j a d (by simpa using h) hd
  rw[y8,wN (by rw[q,wo];omega),q]
  rw[show(i+1) * sz+j-sz=i * sz+j by rw[wo];omega]
  exact A
theorem fm{α:Type}{f}{t e}{sz I g}{y}{l:List α}{k}{z:Int}{a}(ho:o.op=.indexAddr t (.global g) y)(ht:Pg P t I e sz)(hT:H8 g=some (l.flatMap f))(hn:l.length=I)
 (hy:Ev c R y (.r (.int k z))) (q:∀a, (f a).length=sz) (h0:0<sz) (hi:c=true→AM l z=some a):AR P c o R h (.rop (f a) 0) := by
  intro hc x w J hH he
  obtain⟨M, ii, O, T⟩ := ht
  obtain⟨z0, U, V⟩ := Ej (hi hc)
  have A := J.tabs.tab g _ hT
  generalize hv:(Value.pointer (some ⟨g, 0, none⟩))=v at A
  cases A with
  | @rop _ _ b off u hS B X =>
    simp only[Value.pointer.injEq, vz, Addr.mk.injEq, and_true, ws] at hv
    obtain⟨rfl, C⟩ := hv
    subst C
    have Y:(l.flatMap f)≠[] := by
      intro e0
      have E:0<(f a).length := by rw[q];exact h0
      have := T2 q l z.toNat 0 a _ U (vo E)
      rw[e0] at this;simp at this
    refine⟨.pointer (some ⟨g, z.toNat * sz+0, none⟩), λw2 a0 => ?_, .rop (λj => u (z.toNat * sz+j)) (λ_ => hS Y) (λj d E => ?_) (λj d E => ?_)⟩
    · unfold execOp
      rw[ho]
      have F:z<(I:Int) := by rw[← hn];exact V
      have hg:w.eval (.global g)=.pointer (some ⟨g, 0, none⟩) := rfl
      simp[hg, CZ (hy.rep he hc), Instr.indexAt, Instr.sureAddr, asIntOf, run_underlying M, z0, F, Dn O, T, Addr.add_lit]
    · have Z := T2 q l z.toNat j a d U E
      have := B _ _ Z
      simpa using this
    · have Z := T2 q l z.toNat j a d U E
      exact X _ _ Z
end
section
variable{P:Program}{c:Bool}{o:Oper}{R:AX}{h:AO}{n:Nat}
theorem od(s:List UInt8) l m:(⟨s.toArray⟩:ByteArray).extract l m=⟨((s.drop l).take (m-l)).toArray⟩:=by
 apply ByteArray.ext
 rw[ByteArray.data_extract]
 simp[List.extract_toArray]
theorem Mi{t}{x}{A F:Option Operand}{s r:List UInt8}{l q:Int}(U:o.op=.slice t x A F none)(V:P.underlying t=some .string)(X:Ev c R x (.r (.str s)))
 (j:Hh c R 0 A l) (u:Hh c R s.length F q) (Y:c=true→Bx s l q=some r):AR P c o R h (.r (.str r)) := by
  intro B z w _ _ I
  obtain⟨T, h2, h3, rfl⟩ := Oy (Y B)
  have hsz:(⟨s.toArray⟩:ByteArray).size=s.length := rfl
  refine⟨.string ⟨((s.drop l.toNat).take (q.toNat - l.toNat)).toArray⟩, λw2 Z => ?_, by have := BE.str (w := z.w) (S := z.S) ⟨((s.drop l.toNat).take (q.toNat - l.toNat)).toArray⟩;exact .r this⟩
  have C:∀W, (Instr.sliceBounds false s.length s.length (A.map w.eval) (F.map w.eval) none).run P W=.ok (l.toNat, q.toNat, s.length) W := by
    intro W
    cases F with
    | none =>
      simp only[Hh] at u
      subst u
      cases A with
      | none => simp only[Hh] at j;subst j;simp[Instr.sliceBounds]
      | some v =>
        obtain⟨k, J⟩ := j
        have M:∀W, (Instr.sliceBound (w.eval v) s.length .sliceB).run P W=.ok l.toNat W := λW => by rw[CZ (J.rep I B), LW T (by omega)]
        simp[Instr.sliceBounds, M]
    | some v2 =>
      obtain⟨k2, O⟩ := u
      have E:∀W, (Instr.sliceBound (w.eval v2) s.length .sliceAlen).run P W=.ok q.toNat W := λW => by rw[CZ (O.rep I B), LW (by omega) (by omega)]
      cases A with
      | none => simp only[Hh] at j;subst j;simp[Instr.sliceBounds, E]
      | some v =>
        obtain⟨k, J⟩ := j
        have M:∀W, (Instr.sliceBound (w.eval v) q.toNat .sliceB).run P W=.ok l.toNat W := λW => by rw[CZ (J.rep I B), LW T (by omega)]
        simp[Instr.sliceBounds, M, E]
  unfold execOp
  rw[U]
  simp[Hg (X.rep I B), Instr.sliceAt, Instr.slice, run_underlying V, hsz, C, od]
end
section
variable{P:Program}{c:Bool}{o:Oper}{R:AX}{h:AO}
theorem Xy{t}{x}{id g k}{e}{sz}{cs ds:List AV}(V:o.op=.load t x)(X:Bf P t sz)(Y:Ev c R x (.ptr id g 0 k))(Z:c=true→hget h id=some (.box g e cs))
 (hd:(cs.drop k).take sz=ds) (O:ds.length=sz):AR P c o R h (.agg ds) := by
  intro T z w E hH he
  have q:z.H id=some (.box g e cs) := by rw[hH];exact Z T
  obtain⟨b, l, h1, h2, h3, h4, U⟩ := IQ E q (Y.rep he T)
  have C:∀j a, ds[j]?=some a→cs[k+j]?=some a := by
    intro j a A
    have F:j<sz := by rw[← O];exact(vl.1 A).1
    rw[← hd, wW, vh F, xJ] at A
    exact A
  have B:∀j, j<sz→z.w.cell? ⟨b, k+j, none⟩=some ((λj => l.getD (k+j) undef) j) := by
    intro j A
    obtain⟨u, I, _, _⟩ := U _ _ (C j _ (vo (by omega:j<ds.length)))
    have J:k+j<l.size := (wm.1 I).1
    rw[cell_of_row _ b (k+j) l e _ h3]
    simp[J]
  refine⟨.agg ((List.range sz).map λj => l.getD (k+j) undef).toArray, λw2 M => ?_, LV O _ λj a A => ?_⟩
  · unfold execOp
    rw[V]
    simp[h2, Kq X _ (λj A => (M.cellO q h1).trans (B j A))]
  · obtain⟨u, I, _, h7⟩ := U _ _ (C j a A)
    simpa[I] using h7
theorem HQ{t}{x}{id g k}{e}{sz}{cs ds:List AV}(j:o.op=.load t x)(l:Bf P t sz)(q:Ev c R x (.ptr id g 0 k))(u:hget h id=some (.box g e cs))
 (hd:(cs.drop k).take sz=ds) (w:ds.length=sz):AR P c o R h (.agg ds) :=
  Xy j l q (λ_ => u) hd w
end
theorem Ae.ren{s:St} t i j{g}{e}{sz}{xs}(a0:(i==j)=false)(ht:get s.e t=.own i g)(hh:hget s.h i=some (.arr g e sz xs)) :
  Ae s ⟨(t,.own j s.n)::s.e,(j,some (.arr s.n e sz xs))::(i,none)::s.h,s.n+1,s.N⟩:=by
 have a7:i≠j:=by simpa using a0
 intro c0 a w ⟨_,Y,hsz,y,a1,a2,C,hH,T,V⟩
 have I:y.H i=some (.arr g e sz xs):=by rw[hH];exact hh
 let z:Cx:={ y with H:=λd=>if j=d then some (.arr s.n e sz xs) else if i=d then none else y.H d,β:=λd=>if j=d then y.β i else y.β d,K:=λd=>if j=d then λ_=>none else y.K d,n:=y.n+1 }
 have M:y.le z:=by
  refine⟨vu _,rfl,rfl,rfl,λ_ _=>rfl,λ_ h=>h,rfl,Nat.le_succ _,λd X l hg=>?_,λd X l hf hg hv=>?_⟩
  ·dsimp only [z] at l ⊢
   split at l
   ·cases l
    exact absurd hg (by simp[Ab.gen,Ab.isCal,T])
   ·rename_i J
    split at l
    ·cases l
    ·exact⟨X,l,rfl,rfl,by rw[vg J]⟩
  ·dsimp only [z] at l ⊢
   split at l
   ·cases l;cases hf
   ·rename_i J
    split at l
    ·cases l
    ·exact⟨X,l,hf,rfl,rfl,rfl,by rw[vg J]⟩
 have Z:z.ok:=by
  refine⟨C.S_lt,C.F_lt,C.SF,λd o B=>?_,λd o b k B E=>?_,λd U o X b k k' B l E A=>?_,λd o q b c B E=>?_,C.tabs.le M⟩
  ·dsimp only [z] at B ⊢
   split at B
   ·rename_i J
    cases B
    rw[vh J,vh J]
    refine⟨by simp[Ab.gen,T],?_⟩
    have F:=(C.obj i _ I).2
    exact(show EQ y (y.β i) (λ_=>none) (.arr s.n e sz xs) from F).mono M (λb k _=>rfl) λ_ _ _ _=>rfl
   ·rename_i J
    split at B
    ·cases B
    ·rw[vg J,vg J]
     obtain⟨O,F⟩:=C.obj d o B
     exact⟨Nat.lt_succ_of_lt O,F.mono M (λb k _=>rfl) λ_ _ _ _=>rfl⟩
  ·dsimp only [z] at B E ⊢
   split at E
   ·exact C.own i _ b k I E
   ·rename_i J
    rw[vg J] at B
    split at B
    ·cases B
    ·exact C.own d o b k B E
  ·dsimp only [z] at B l E A
   by_cases O:j=d<;>by_cases F:j=U
   ·rw[← O,← F]
   ·rw[vh O] at E
    rw[vg F] at l A
    split at l
    ·cases l
    ·rename_i h3
     exact absurd (C.inj i U _ _ b k k' I l E A) h3
   ·rw[vg O] at B E
    rw[vh F] at A
    split at B
    ·cases B
    ·rename_i h3
     exact absurd (C.inj d i _ _ b k k' B I E A).symm h3
   ·rw[vg O] at B E
    rw[vg F] at l A
    split at B
    ·cases B
    ·split at l
     ·cases l
     ·exact C.inj d U _ _ b k k' B l E A
  ·dsimp only [z] at B E ⊢
   split at E
   ·cases E
   ·rename_i J
    rw[vg J] at B
    split at B
    ·cases B
    ·obtain⟨e1,e2,e3,e4,e5⟩:=C.ext d o q b c B E
     refine⟨e1,e2,e3,λU X k l A=>?_,λU X q' c' l A=>?_⟩
     ·by_cases F:j=U
      ·rw[vh F] at A
       exact e4 i _ k I A
      ·rw[vg F] at l A
       split at l
       ·cases l
       ·exact e4 U X k l A
     ·by_cases F:j=U
      ·rw[vh F] at A
       cases A
      ·rw[vg F] at l A
       split at l
       ·cases l
       ·exact e5 U X q' c' l A
 refine⟨_,Y,hsz,z,a1,a2.trans M,Z,?_,by simp[z,T],λt'=>?_⟩
 ·funext d
  show(if j=d then _ else if i=d then _ else y.H d)=_
  rw[Bv,Bv,hH]
 ·rw[DQ]
  split
  ·rename_i a6
   have O:=V t
   rw[ht,a6] at O
   generalize a.tmps.getD t' undef=u at O ⊢
   cases O with
   | own O F h3=>
    refine .own (by simp[z,T]) F λo B _=>?_
    dsimp only [z] at B ⊢
    rw[vh rfl] at B ⊢
    cases B
    have h5:=h3 _ I rfl
    exact h5
  ·exact(V t').mono M
section
variable{P:Program}{c:Bool}{o:Oper}{R:AX}{h:AO}{n:Nat}
theorem kX{x:Cx}(l:x.ok) id(s:List UInt8) :
  ∃y:Cx,x.le y∧y.ok∧y.w=x.w.alloc (.stringIter ⟨s.toArray⟩ 0)∧y.H=(λi=>if id=i then some (.it x.n s 0) else x.H i)∧y.n=x.n+1 ∧
   AP y (.ptr id x.n 0 0) (.pointer (some ⟨x.w.heap.size,0,none⟩)):=by
 have:=EV l id (.it x.n s 0) (x.w.alloc (.stringIter ⟨s.toArray⟩ 0)) (some (x.w.heap.size,1)) (x.n+1) (by simp) rfl rfl rfl
  (λb q _=>heap_alloc_old _ _ q) (λb k q=>by cases q;simp) (by omega) (by simp[Ab.gen]) (λhg=>absurd hg (by simp[Ab.gen]))
  (λu=>⟨x.w.heap.size,rfl,heap_alloc_new _ _⟩)
 refine⟨_,this.1,this.2,rfl,rfl,rfl,.ptr (by simp) rfl λw j _=>?_⟩
 simp only[vh] at j
 cases j
 exact⟨x.w.heap.size,1,by simp,by simp⟩
theorem ny{t}{x}{s} id(u:o.op=.range t x)(A:P.underlying t=some .string)(B:Ev c R x (.r (.str s))) :
  A7 P c o R h n (.ptr id n 0 0) ((id,some (.it n s 0))::h) (n+1):=by
 intro C z w l E q F K Q I
 obtain⟨y,J,M,O,T,U,V⟩:=kX l id s
 have j:=B.rep F C
 generalize X:w.eval x=v at j
 cases j with
 | r j=>
  cases j with
  | str s=>
   unfold Oper.wp execOp
   rw[u]
   simp only[X,Sem.run_bind,run_range_string _ _ _ A,Result.andThen_ok,Sem.run_pure]
   have:=I (.pointer (some ⟨z.w.heap.size,0,none⟩)) y J M (by rw[T,E,q,D3]) (by rw[U,q]) (by rw[← q];exact V)
   rw[O] at this
   exact this
theorem ZR{x:Cx}(j:x.ok){id g pos}{s:List UInt8}{v}(u:x.H id=some (.it g s pos))(l:AP x (.ptr id g 0 0) v) :
  ∃b,x.β id=some (b,1)∧v=.pointer (some ⟨b,0,none⟩)∧x.w.heap[b]?=some (.stringIter ⟨s.toArray⟩ pos):=by
 obtain⟨_,b,w,A⟩:=j.obj _ _ u
 cases l with
 | ptr _ _ l=>
  obtain⟨C,cap,q,B⟩:=l _ u rfl
  rw[w] at q
  simp only[vz,wA] at q
  obtain⟨rfl,rfl⟩:=q
  exact⟨b,w,by rw[B,zR],A⟩
theorem qq{x}{id g pos}{s:List UInt8}(F:o.op=.next x true)(I:Ev c R x (.ptr id g 0 0))(J:hget h id=some (.it g s pos))(hp:c=true→decide (pos<s.length)=false) :
  A7 P c o R h n (.tup [.r (.bool false)]) h n:=by
 intro B z w j C M O K Q T
 obtain⟨b,X,U,V⟩:=ZR j (by rw[C];exact J) (I.rep O B)
 have q:¬ pos<(⟨s.toArray⟩:ByteArray).size:=by
  have:=of_decide_eq_false (hp B)
  simpa[ByteArray.size] using this
 unfold Oper.wp execOp
 rw[F]
 have l:(Instr.next (.pointer (some ⟨b,0,none⟩)) true o.type).run P z.w=.ok (.tuple #[.bool false]) z.w:=by
  simp[Instr.next,getObj,Sem.run,V,q]
 simp only[U,Sem.run_bind,l,Result.andThen_ok,Sem.run_pure]
 refine T (.tuple #[.bool false]) z (Cx.le.refl z) j C M (.tup rfl λi a u A E=>?_)
 rcases i with _ | i
 ·simp at A E;subst A;subst E;exact .r (.bool false)
 ·simp at A
theorem tB{x}{id g pos}{s:List UInt8}(X:o.op=.next x true)(Y:Ev c R x (.ptr id g 0 0))(Z:hget h id=some (.it g s pos))(hp:c=true→decide (pos<s.length)=true) :
  A7 P c o R h n (.tup [.r (.bool true),.r (.int .i64 (pos:Int)),.r (.int .i32 ((GN s pos).1:Int))]) ((id,some (.it g s (pos+(GN s pos).2)))::h) n:=by
 intro M z w l O hn he K Q hK
 have j:z.H id=some (.it g s pos):=by rw[O];exact Z
 obtain⟨b,E,h2,T⟩:=ZR l j (Y.rep he M)
 have F:pos<(⟨s.toArray⟩:ByteArray).size:=by
  have:=yE (hp M)
  simpa[ByteArray.size] using this
 have U:=(l.own id _ b 1 j E).1
 have B:=EV l id (.it g s (pos+(GN s pos).2)) { z.w with heap:=z.w.heap.setIfInBounds b (.stringIter ⟨s.toArray⟩ (pos+(GN s pos).2)) } (some (b,1)) z.n (by simp) rfl rfl rfl
  (λV _ I=>by
   have:b≠V:=λe=>I _ 1 j (by rw[← e];exact E)
   simp[this])
  (λV k' J=>by cases J;exact⟨by simpa using U,.inr ⟨_,_,j,E⟩⟩) (vu _) (l.obj _ _ j).1 (λ_=>⟨_,j,rfl,rfl,E.symm⟩)
  (λa0=>⟨b,rfl,by simp[U]⟩)
 unfold Oper.wp execOp
 rw[X]
 have C:(Instr.next (.pointer (some ⟨b,0,none⟩)) true o.type).run P z.w=.ok (.tuple #[.bool true,.int .i64 (pos:Int),.int .i32 ((GN s pos).1:Int)]) { z.w with heap:=z.w.heap.setIfInBounds b (.stringIter ⟨s.toArray⟩ (pos+(GN s pos).2)) }:=by
  simp only[Instr.next,getObj,setObj,Sem.run_bind,Sem.run,T,Result.andThen,F,xZ]
  simp[goInt,Sem.run,T,GN]
 simp only[h2,Sem.run_bind,C,Result.andThen_ok,Sem.run_pure]
 refine hK _ _ B.1 B.2 (by simp only[O];exact D3 _ _ _) hn (.tup rfl λi a u q A=>?_)
 rcases i with _ | _ | _ | i
 ·simp at q A;subst q;subst A;exact .r (.bool true)
 ·simp at q A;subst q;subst A;exact .r (.int _ _)
 ·simp at q A;subst q;subst A;exact .r (.int _ _)
 ·simp at q
theorem AW.split{Q}{s}{x} b(j:b=true→AW P x Q s)(l:b=false→AW P x Q s):AW P x Q s:=by
 cases b
 ·exact l rfl
 ·exact j rfl
end
section
variable{P:Program}{c:Bool}{o:Oper}{R:AX}{h:AO}
theorem lm{t e e'}{F id g}{x y}{cs}{k}{z:Int}(T:o.op=.indexAddr t x y)(U:Pg P t F e 1)(V:Ev c R x (.ptr id g 0 0))(X:hget h id=some (.box g e' cs))
 (Y:Ev c R y (.r (.int k z))) {l:List Bool} {v} (Z:c=true→AM l z=some v) (hl:l.length=F):AR P c o R h (.ptr id g 0 z.toNat) := by
  intro u w a A hH I
  obtain⟨B, ii, C, E⟩ := U
  have j:w.H id=some (.box g e' cs) := by rw[hH];exact X
  have J := V.rep I u
  obtain⟨z0, _, M⟩ := Ej (Z u)
  rw[hl] at M
  have hg:g<w.n := by cases J with | ptr hg _ _ => exact hg
  obtain⟨b, a0, h1, h2, h3, h4, h5⟩ := IQ A j J
  refine⟨.pointer (some ⟨b, z.toNat, none⟩), λw2 a1 => ?_, .ptr hg rfl λo' q O => ?_⟩
  · unfold execOp
    rw[T]
    simp[h2, CZ (Y.rep I u), Instr.indexAt, Instr.sureAddr, asIntOf, run_underlying B, z0, M, Dn C, E, Addr.add_lit]
  · rw[j] at q;cases q
    exact⟨b, _, h1, by simp⟩
theorem tA{t}{x}{id g}{e}{cs}{l:List Bool}{z:Int}{a}(q:o.op=.load t x)(u:Bd P t)(w:Ev c R x (.ptr id g 0 z.toNat))(A:hget h id=some (.box g e cs))(j:cs=l.map λb => .r (.bool b))
 (B:c=true→AM l z=some a):AR P c o R h (.r (.bool a)) :=
  Ug q u w (λ_ => A) (λC => by rw[j, wD, (Ej (B C)).2.1];rfl)
end
open Go.Shelf Go.RowKit Go.Lib
theorem vA{P}{f}{args}{r:AV}(hc:QF P f)(F:r.closed=true)
 (h:∀(x:Cx) (C:Array Value), x.ok→H9 x args C.toList→Calls P f C x.w λe w' => ∃u, e=.returned u∧Below x.w.heap.size x.w w'∧∀y:Cx, AP y r u):AS P f args r := by
  refine⟨hc, F, λx C l E J => (h x C l J).mono λe w' ⟨u, M, w, O⟩ => ?_⟩
  have B:x.le { x with w := w' } := by
    refine⟨w.size, w.os, w.tape, w.output, λb I => w.block b (I.elim (l.S_lt b) (l.F_lt b)), λ_ h => h, rfl, vu _, λid o q _ => ⟨o, q, rfl, rfl, rfl⟩, λid o q T _ _ => ⟨o, q, T, rfl, rfl, rfl, rfl⟩⟩
  refine⟨u, { x with w := w' }, M, rfl, B, ⟨λb A => vq (l.S_lt b A) w.size, λb A => vq (l.F_lt b A) w.size, l.SF, λid o q => ?_, λid o b k q => ?_, λid U o V b k X q => ?_, λid o j b c q => ?_, l.tabs.le B⟩, O _⟩
  · exact absurd (show x.H id=some o from q) (by rw[E];simp)
  · exact absurd (show x.H id=some o from q) (by rw[E];simp)
  · exact absurd (show x.H id=some o from q) (by rw[E];simp)
  · exact absurd (show x.H id=some o from q) (by rw[E];simp)
theorem VY{x:Cx}(C:F6 x){g}{row}(hg:H8 g=some row){j}{k}{z}(l:row[j]?=some (.int k z)):x.w.cell? ⟨g,j,none⟩=some (.int k z):=by
 have h:=C.tab g row hg
 generalize q:(Value.pointer (some ⟨g,0,none⟩))=v at h
 cases h with
 | rop u I E F=>
  rename_i b off
  simp only[Value.pointer.injEq,vz,Addr.mk.injEq,and_true,ws] at q
  obtain⟨rfl,rfl⟩:=q
  have A:=E j _ l
  have B:=F j _ l
  rw[wK] at A
  rw[A]
  generalize u j=w at B
  cases B;rfl
theorem rX:∀c,c<256→(GK.flatMap λz=>[RV.int .u8 z])[c]?=some (.int .u8 (Lib.firstT c:Int)):=by
 have h:∀c:Fin 256,GK[c.val]?=some (Lib.firstT c.val:Int):=by decide +kernel
 intro c hc
 have h1:∀(l:List Int) (j:Nat),(l.flatMap λz=>[RV.int .u8 z])[j]?=(l[j]?).map (RV.int .u8):=by
  intro l
  induction l with
  | nil=>intro j;simp
  | cons a l ih=>intro j;cases j with
   | zero=>simp
   | succ j=>simpa using ih j
 rw[h1,h ⟨c,hc⟩];rfl
theorem bU:∀i,i<16→(JJ.flatMap λp=>[RV.int .u8 p.1,RV.int .u8 p.2])[2 * i]?=some (.int .u8 (Lib.accLo i:Int))∧(JJ.flatMap λp=>[RV.int .u8 p.1,RV.int .u8 p.2])[2 * i+1]?=some (.int .u8 (Lib.accHi i:Int)):=by
 have h:∀c:Fin 16,JJ[c.val]?=some ((Lib.accLo c.val:Int),(Lib.accHi c.val:Int)):=by decide +kernel
 intro i hi
 have h1:∀(l:List (Int × Int)) (j:Nat),(l.flatMap λp=>[RV.int .u8 p.1,RV.int .u8 p.2])[2 * j]?=(l[j]?).map (λp=>RV.int .u8 p.1)∧(l.flatMap λp=>[RV.int .u8 p.1,RV.int .u8 p.2])[2 * j+1]?=(l[j]?).map (λp=>RV.int .u8 p.2):=by
  intro l
  induction l with
  | nil=>intro j;simp
  | cons a l ih=>intro j;cases j with
   | zero=>simp
   | succ j=>
    have:=ih j
    rw[show 2 * (j+1)=2 * j+1+1 by omega]
    simpa using this
 rw[(h1 _ _).1,(h1 _ _).2,h ⟨i,hi⟩]
 exact⟨rfl,rfl⟩
theorem lM{x:Cx}(j:x.ok)(l:Ii≠IP):Lib.Utf8Tabs Ii IP x.w:=by
 have u:H8 Ii=some (GK.flatMap λz=>[.int .u8 z]):=by unfold H8;rw[vh rfl]
 have hA:H8 IP=some (JJ.flatMap λp=>[.int .u8 p.1,.int .u8 p.2]):=by unfold H8;rw[vg (λe=>l e.symm),vh rfl]
 exact⟨λc w=>VY j.tabs u (rX c w),λi q=>⟨VY j.tabs hA (bU i q).1,VY j.tabs hA (bU i q).2⟩⟩
theorem uo{P}{ρ:Ren}{f}(L:Go.Proofs.Lays.n196 P ρ)(w:ρ.f 196=f)(A:ρ.g 3=Ii)(B:ρ.g 4=IP)(hc:QF P f){s}{r}(h:Rl s=some r) :
  AS P f [.r (.str s)] (.r (.bool r)):=by
 subst w
 refine vA hc rfl λx u j l=>?_
 unfold Rl at h
 split at h
 ·rename_i C
  cases h
  have J:=l
  obtain⟨v,E⟩:∃v,u = #[v]:=by
   have:=l.1
   match u,this with
   | ⟨[v]⟩,_=>exact⟨v,rfl⟩
  subst E
  have q:=l.2 0 (.r (.str s)) v rfl rfl
  cases q with
  | r q=>
   cases q with
   | str s=>
    refine(Any.utf8_ValidString L s x.w (by rw[Lib.size_eq];exact C) (by rw[A,B];exact lM j (by decide))).mono λe w' ⟨F,I⟩=>?_
    exact⟨_,F,I,λy=>.r (.bool _)⟩
 ·cases h
end Go.Proofs.YtgcalnmhoifpoaaGreatDoor.Al

namespace Go.Proofs.YtgcalnmhoifpoaaGreatDoor.Al
theorem qt{α:Type}{l j:List α}{z:Int}(h:Bx l 0 z=some j):j=l.take z.toNat:=by
 obtain⟨_,_,_,rfl⟩:=Oy h
 simp
section
variable{P:Program}{c:Bool}{o:Oper}{R:AX}{h:AO}{n:Nat}
theorem tC{α:Type}{f}{t e e'}{sz C}{x y}{id g}{l l':List α}{u:Int}(ho:o.op=.slice t x none (some y) none)(ht:EO P t e sz)(hx:Ev c R x (.own id g))
 (hh:hget h id=some (.arr g e' C (l.map f))) (X:∃k, Ev c R y (.r (.int k u))) (hs:c=true→Bx l 0 u=some l'):AR P c o R h (.pre id g u.toNat) := by
  intro Y z w E Z he
  obtain⟨F, ii, I, a0⟩ := ht
  obtain⟨J, h2, h3, rfl⟩ := Oy (hs Y)
  have j:z.H id=some (.arr g e' C (l.map f)) := by rw[Z];exact hh
  obtain⟨h0, a2, us, hd, A, a7⟩ := Kt E j (hx.rep he Y)
  have M := (E.obj _ _ j).1
  obtain⟨k, hk⟩ := X
  have hy := CZ (hk.rep he Y)
  have B:∀(len cap:Nat), u≤cap→∀W, (Instr.sliceBounds true len cap none (some (w.eval y)) none).run P W=.ok (0, u.toNat, cap) W := by
    intro len cap O W
    have Z:(Instr.sliceBound (w.eval y) cap .sliceAcap).run P W=.ok u.toNat W := by rw[hy, LW h2 O]
    simp[Instr.sliceBounds, Z]
  rw[v7] at hd
  generalize T:w.eval x=xv at hd A
  unfold Bm at hd
  split at hd
  · rename_i heq
    obtain⟨hz, rfl⟩ := hd
    have U:u.toNat=0 := by omega
    refine⟨.slice none 0 0, λw2 a1 => ?_, .pre M rfl λo' q _ => ?_⟩
    · unfold execOp
      rw[ho]
      have V := B 0 0 (by omega) w2
      rw[U] at V
      simp[T, Instr.sliceAt, Instr.slice, run_underlying F, Dn I, V]
    · rw[j] at q;cases q
      rw[heq, U]
      exact⟨xd _, rfl, rfl⟩
  · rename_i b cap heq
    subst hd
    have a8:l.length≤cap := by
      rcases A.2 with ⟨J, _⟩ | ⟨g', a6, aa, J, _, _, h2, h3, _⟩
      · cases J
      · simp only[Value.slice.injEq] at J;rw[J.2.2];simpa using h2
    refine⟨.slice (some ⟨b, 0, none⟩) u.toNat cap, λw2 a1 => ?_, .pre M rfl λo' q _ => ?_⟩
    · unfold execOp
      rw[ho]
      simp[T, Instr.sliceAt, Instr.slice, run_underlying F, Dn I, a0, B _ cap (by omega), Addr.add_lit]
    · rw[j] at q;cases q
      rw[heq]
      exact⟨by simp[Ab.shape];omega, rfl⟩
end
open Go
section
variable{P:Program}{ops:Array Oper}{rest:List Oper}{s:St}{K:St→Prop}
theorem fd(z:Array Value) n:(Builtin.zeroCells z n).size=n * z.size:=by simp[Builtin.zeroCells]
theorem uy{o1 o2:Oper}{t e:TypeId}{sz:Nat}{x y:Operand}{id g d:Nat}{k:IntKind}{z:Nat}{xs:List (List RV)}{zr:List RV}{ty:TypeId}
  (bc:o1.guard=none) (bd:o1.dst=some d) (hN:Nat.blt d s.N=true) (aq:o1.op=.slice t x (some y) none none)
  (be:o2.guard=none) (ae:o2.dst=none) (af:o2.op=.call { callee:=.builtin .clear,args:=#[.tmp d],argTypes:=#[t] })
  (ht:Bj P t e sz ty) (bf:GX P e zr) (hx:Ev true s.e x (.own id g)) (hh:hget s.h id=some (.arr g e sz xs)) (hy:Ev true s.e y (.r (.int k (z:Int)))) (hz:z≤xs.length)
  (hr:AL P ops rest ⟨(d,.any)::s.e,(id,some (.arr g e sz (xs.take z++List.replicate (xs.length-z) zr)))::s.h,s.n,s.N⟩ K):AL P ops (o1::o2::rest) s K:=by
 intro c0 a w ⟨ds,X,hsz,M,bg,Y,U,hH,hn,he⟩ Q hQ
 subst bg
 obtain⟨V,ii,J,hi,a8,_,Z,a0,bh,ar⟩:=ht
 obtain⟨i2,c2,av,aw,ag⟩:=bf
 rw[hi] at av;cases av
 rw[Z] at aw;cases aw
 obtain⟨bi,bj⟩:=LT ag (RT M J)
 have ax:zr.length=sz:=by rw[← bi,a0]
 have B:M.H id=some (.arr g e sz xs):=by rw[hH];exact hh
 obtain⟨h0,aa,us,hd,a1,bk⟩:=Kt U B (hx.rep he rfl)
 have bl:=(U.obj _ _ B).1
 have bm:=CZ (hy.rep he rfl)
 have a2:∀(len cap:Nat),z≤len→len≤cap→∀W,(Instr.sliceBounds true len cap (some (a.eval y)) none none).run P W=.ok (z,len,cap) W:=by
  intro len cap h1 h2 W
  have bn:(Instr.sliceBound (a.eval y) len .sliceB).run P W=.ok z W:=by
   rw[bm,LW (by omega) (by omega)];simp
  simp[Instr.sliceBounds,bn]
 have a7:d<a.tmps.size:=by rw[hsz];exact Cn hN
 have l:(xs.take z++List.replicate (xs.length-z) zr).length=xs.length:=by simp;omega
 obtain⟨u,bo,bp⟩:∃u,(∀w2,(execOp a.eval o1).run P w2=.ok (.value u) w2)∧((u=.slice none 0 0∧xs.length=0)∨∃b cap off,M.β id=some (b,cap)∧(xs.length-z≠0→off=z * sz)∧u=.slice (some ⟨b,off,none⟩) (xs.length-z) (cap-z)):=by
  generalize ah:a.eval x=xv at hd a1
  unfold Bm at hd
  split at hd
  ·rename_i heq
   obtain⟨bq,rfl⟩:=hd
   refine⟨.slice none 0 0,λw2=>?_,.inl ⟨rfl,bq⟩⟩
   unfold execOp
   rw[aq]
   have ay:=a2 0 0 (by omega) (vu _) w2
   have az:z=0:=by omega
   rw[az] at ay
   simp[ah,Instr.sliceAt,Instr.slice,run_underlying V,Dn hi,ay]
  ·rename_i b cap heq
   subst hd
   have a6:xs.length≤cap:=by
    rcases a1.2 with ⟨h1,_⟩ | ⟨g',b0,C,h1,_,_,h2,h3,_⟩
    ·cases h1
    ·simp only[Value.slice.injEq] at h1;rw[h1.2.2];simpa using h2
   refine⟨.slice (some ⟨b,if cap=z then 0 else z * sz,none⟩) (xs.length-z) (cap-z),λw2=>?_,.inr ⟨b,cap,_,heq,λb1=>vg (by omega),rfl⟩⟩
   unfold execOp
   rw[aq]
   simp only[ah,Instr.sliceAt,Instr.slice]
   by_cases b2:cap=z
   ·subst b2
    simp[run_underlying V,Dn hi,a8,a2 _ cap hz a6,Addr.add_lit]
   ·simp[ah,run_underlying V,Dn hi,a8,a2 _ cap hz a6,Addr.add_lit,b2]
 refine wpList_plain bc λK1 br=>?_
 unfold Oper.wp
 rw[bo]
 refine br _ _ ?_
 rw[bd]
 refine wpList_plain be λK2 ai=>?_
 have E:(a.put (some d) u).eval (.tmp d)=u:=by simp[Act.put,Act.eval,a7]
 have b3:B6 M ((d,.any)::s.e) (a.put (some d) u):=he.put a7 (.any _)
 have b4:(a.put (some d) u).tmps.size=s.N:=by simpa[Act.put] using hsz
 rcases bp with ⟨rfl,bs⟩ | ⟨b,cap,off,hβ,b5,rfl⟩
 ·have b6:xs=[]:=yy.1 bs
  subst b6
  unfold Oper.wp execOp
  rw[af]
  simp only[yn,wB,xm,E]
  simp[resolve,invoke,builtin,Builtin.clear_,run_underlying V,E]
  refine ai _ _ ?_
  rw[ae]
  refine hr c0 (a.put (some d) (.slice none 0 0)) _ ⟨ds,X,b4,M,rfl,Y,U,?_,hn,b3⟩ Q hQ
  rw[hH]
  funext i
  rw[Bv]
  split
  ·rename_i e;subst e;rw[hh];simp
  ·rfl
 ·obtain⟨c3,aj⟩:=a1
  have F:=hd
  unfold Bm at F
  rw[hβ] at F
  simp only at F
  rcases aj with ⟨hv,_⟩ | ⟨b',b0,C,hv,_,ab,a6,bt,b7,ak⟩
  ·rw[F] at hv;cases hv
  rw[F] at hv
  simp only[Value.slice.injEq,vz,Addr.mk.injEq,zH,and_true] at hv
  obtain⟨rfl,rfl⟩:=hv
  have bx:xs.length * sz≤C.size:=by rw[b7];exact wR _ a6
  by_cases hl:xs.length-z=0
  ·
   have al:xs.take z++List.replicate (xs.length-z) zr=xs:=by rw[hl,xx (by omega)];simp
   simp only[hl] at E ⊢
   unfold Oper.wp execOp
   rw[af]
   simp only[yn,wB,xm,E]
   simp[resolve,invoke,builtin,Builtin.clear_,run_underlying V,E]
   refine ai _ _ ?_
   rw[ae]
   refine hr c0 (a.put (some d) _) _ ⟨ds,X,by simpa[Act.put] using hsz,M,rfl,Y,U,?_,hn,he.put a7 (.any _)⟩ Q hQ
   rw[hH]
   funext i
   rw[Bv,al]
   split
   ·rename_i e;subst e;rw[hh]
   ·rfl
  ·have an:=b5 hl
   subst an
   have O:(Builtin.zeroCells J.cells (xs.length-z)).toList.length=(xs.length-z) * sz:=by rw[wV,fd,a0]
   have bz:z * sz+(xs.length-z) * sz=xs.length * sz:=by rw[← wo];congr 1;omega
   have b8:∀v∈(Builtin.zeroCells J.cells (xs.length-z)).toList,v.oneCell'=true:=λv hv=>by
    simp only[Builtin.zeroCells,yo,wu] at hv
    obtain⟨i,_,rfl⟩:=hv
    have:i % J.cells.size<J.cells.size:=Nat.mod_lt _ (by omega)
    rw[vr J.cells _ this]
    exact bh _ (by simp)
   have bu:=run_storeCells_at (P:=P) b (z * sz) _ (Builtin.zeroCells J.cells (xs.length-z)).toList 0 C M.w ab (by rw[O];omega) b8
   obtain⟨m,hm⟩:∃m,xs.length-z=m+1:=⟨xs.length-z-1,by omega⟩
   let A:Array Value:=(C.toList.take (z * sz)++(Builtin.zeroCells J.cells (xs.length-z)).toList++C.toList.drop (z * sz+(xs.length-z) * sz)).toArray
   have b9:=λj=>Jt C.toList (Builtin.zeroCells J.cells (xs.length-z)).toList (z * sz) j (by have:=wV (xs:=C);rw[O];omega)
   rw[O] at b9
   have T:A.size=C.size:=by
    have:(Builtin.zeroCells J.cells (xs.length-z)).size=(xs.length-z) * sz:=by rw[fd,a0]
    simp[A,this];omega
   have ac:(storeCells ⟨b,z * sz,none⟩ (Builtin.zeroCells J.cells (xs.length-z)).toList 0).run P M.w=.ok () (M.w.setRow b A):=by
    rw[bu,O];rfl
   have ao:=EV U id (.arr g e sz (xs.take z++List.replicate (xs.length-z) zr)) (M.w.setRow b A) (some (b,cap)) M.n (by simp[World.setRow]) rfl rfl rfl
    (λb' _ b1=>setRow_other _ _ _ _ (λe=>b1 _ cap B (by rw[e];exact hβ))) (λb' k' hb=>by
     cases hb
     exact⟨by simpa[World.setRow] using(U.own id _ b cap B hβ).1,.inr ⟨_,_,B,hβ⟩⟩) (vu _) bl
    (λ_=>⟨_,B,rfl,by simp[Ab.shape,l],hβ.symm⟩)
    (λY=>by
     have ba:∀b',M.S b'→(M.w.setRow b A).heap[b']?=M.w.heap[b']?:=λb' hb=>Y.blk b' (.inl hb)
     refine⟨ar,λr hr=>?_,.slice (some ⟨b,0,none⟩) xs.length cap,A.toList.take (xs.length * sz),by simp[Bm,l],⟨by simp[T,l];omega,.inr ⟨b,cap,A,by rw[l],xd _,setRow_heap _ _ _ _ _ _ ab,by rw[l];exact a6,bt,by rw[T,b7],by rw[l]⟩⟩,λi row c d k1 k2=>?_⟩
     ·rcases wX.1 hr with hr | hr
      ·exact aa r (xG hr)
      ·rw[(List.mem_replicate.1 hr).2];exact ax
     ·have bv:i<xs.length:=by rw[← l];exact(vl.1 k1).1
      have ad:∀q,q<sz→i * sz+q<xs.length * sz:=λq hq=>by
       calc i * sz+q<i * sz+sz:=by omega
        _=(i+1) * sz:=by rw[wo,xc]
        _≤xs.length * sz:=wR _ bv
      have hget:∀q,q<sz→(A.toList.take (xs.length * sz))[i * sz+q]?=if z * sz≤i * sz+q∧i * sz+q<z * sz+(xs.length-z) * sz then(Builtin.zeroCells J.cells (xs.length-z)).toList[i * sz+q-z * sz]? else C.toList[i * sz+q]?:=λq hq=>by
       rw[wW,vh (ad q hq)]
       exact b9 _
      by_cases Z:i<z
      ·rw[wO (by simp;omega),wW,vh Z] at k1
       have I:c<sz:=by rw[← aa row (wJ k1)];exact(vl.1 k2).1
       have c1:i * sz+sz≤z * sz:=by
        have:(i+1) * sz≤z * sz:=wR _ Z
        rwa [wo,xc] at this
       obtain⟨u,h3,h4⟩:=bk i row c d k1 k2
       refine⟨u,?_,h4.mono ba λ_ h=>h⟩
       rw[hget c I,vg (by omega),← h3,← ak,wW,vh (ad c I)]
      ·rw[wN (by simp;omega),List.getElem?_replicate] at k1
       split at k1
       ·cases k1
        have I:c<sz:=by rw[← ax];exact(vl.1 k2).1
        obtain⟨u,h3,h4⟩:=bj c d k2
        refine⟨u,?_,h4.mono ba λ_ h=>h⟩
        have e1:i * sz+c=z * sz+((i-z) * sz+c):=by
         rw[← xl,← wo];congr 2;omega
        have e2:(i-z) * sz+c<(xs.length-z) * sz:=by
         calc (i-z) * sz+c<(i-z) * sz+sz:=by omega
          _=(i-z+1) * sz:=by rw[wo,xc]
          _≤(xs.length-z) * sz:=wR _ (by omega)
        rw[hget c I,vh (by omega),show i * sz+c-z * sz=(i-z) * sz+c by omega,w0]
        simp only[Builtin.zeroCells]
        rw[zY,zT,vh (by rw[a0];exact e2)]
        have bb:((i-z) * sz+c) % J.cells.size=c:=by rw[a0,yH,zS,yY I]
        simp only[xD,bb]
        rw[← h3,vr J.cells c (by omega),wS (by omega)]
       ·cases k1)
   unfold Oper.wp execOp
   rw[af]
   simp only[yn,wB,xm,E]
   simp only[hm] at ac E ⊢
   have bw:∀w2,(zeroValue e).run P w2=.ok J w2:=λw2=>by
    simp only[zeroValue,typeInfo,Sem.run_bind,run_program,Result.andThen_ok,hi,Sem.run_pure,Z]
   simp[resolve,invoke,builtin,Builtin.clear_,run_underlying V,bw,E,ac]
   refine ai _ _ ?_
   rw[ae]
   refine hr c0 (a.put (some d) _) _ ⟨ds,X,by simpa[Act.put] using hsz,_,rfl,Y.trans ao.1,ao.2,?_,hn,(he.put a7 (.any _)).mono ao.1⟩ Q hQ
   simp only[hH]
   exact D3 _ _ _
theorem uu{α:Type}{f}{q o2:Oper}{t e}{sz}{x y}{id g d}{j:Int}{l J:List α}{z0}{O}
 (w:q.guard=none) (A:q.dst=some d) (T:Nat.blt d s.N=true) (B:q.op=.slice t x (some y) none none)
 (C:o2.guard=none) (E:o2.dst=none) (F:o2.op=.call { callee := .builtin .clear, args := #[.tmp d], argTypes := #[t] })
 (U:Bj P t e sz O) (I:GX P e (f z0)) (V:Ev true s.e x (.own id g)) (X:hget s.h id=some (.arr g e sz (l.map f))) (Y:∃k, Ev true s.e y (.r (.int k j))) (u:Nn l j z0=some J)
 (M:AL P ops rest ⟨(d, .any)::s.e, (id, some (.arr g e sz (J.map f)))::s.h, s.n, s.N⟩ K):AL P ops (q::o2::rest) s K := by
  unfold Nn at u
  split at u
  · rename_i hb
    cases u
    obtain⟨k, Z⟩ := Y
    refine uy (z := j.toNat) w A T B C E F U I V X (k := k) (by rw[show((j.toNat:Nat):Int)=j by omega];exact Z) (by simp;omega) ?_
    rw[yF, ya, zZ] at M
    rw[v7]
    exact M
  · cases u
end
end Go.Proofs.YtgcalnmhoifpoaaGreatDoor.Al

namespace Go.Proofs.YtgcalnmhoifpoaaGreatDoor.Al
open Go
theorem qw{w:World}{e}{sz n m}{b cap}{us:List Value}(h:w.ownsRow 0 e sz (.slice (some ⟨b,0,none⟩) n cap) n us)(u:m≤n) :
  w.ownsRow 0 e sz (.slice (some ⟨b,0,none⟩) m cap) m (us.take (m * sz)):=by
 obtain⟨I,j⟩:=h
 have l:m * sz≤n * sz:=wR _ u
 refine⟨by rw[wi];omega,.inr ?_⟩
 rcases j with ⟨j,_⟩ | ⟨g,c,q,j,A,B,J,C,E,F⟩
 ·cases j
 ·simp only[Value.slice.injEq,vz,Addr.mk.injEq] at j
  obtain⟨⟨rfl,_⟩,_,rfl⟩:=j
  refine⟨b,cap,q,rfl,A,B,by omega,C,E,?_⟩
  rw[← F,List.take_take,Nat.min_eq_left l]
theorem uj{α:Type}{f}{l B:List α}{z:Int}{s:St} t id{g}{e}{sz}(hl:Bx l 0 z=some B)(ht:get s.e t=.pre id g z.toNat)(hh:hget s.h id=some (.arr g e sz (l.map f))) :
  Ae s ⟨(t,.own id s.n)::s.e,(id,some (.arr s.n e sz (B.map f)))::s.h,s.n+1,s.N⟩:=by
 intro c0 a w ⟨_,O,hsz,y,U,V,I,hH,J,C⟩
 have j:y.H id=some (.arr g e sz (l.map f)):=by rw[hH];exact hh
 have M:=qt hl
 obtain⟨a2,_,a6,_⟩:=Oy hl
 have X:z.toNat≤l.length:=by omega
 have q:B.length=z.toNat:=by rw[M,wi];omega
 obtain⟨a7,h0,E,a8,us,hd,F,hc⟩:=I.obj _ _ j
 have Y:=C t
 rw[ht] at Y
 generalize hv:a.tmps.getD t undef=v at Y
 have hp:Bm (y.β id) z.toNat v∧v.oneCell'=true:=by
  cases Y with
  | pre _ h2 h=>exact⟨(h _ j rfl).2,h2⟩
 obtain⟨hp,Z⟩:=hp
 have A:=EV I id (.arr y.n e sz (B.map f)) y.w (y.β id) (y.n+1) (vu _) rfl rfl rfl (λ_ _ _=>rfl)
  (λb k hb=>⟨(I.own id _ b k j hb).1,.inr ⟨_,k,j,hb⟩⟩) (Nat.le_succ _) (yp _) (λh=>absurd h (Nat.lt_irrefl _))
  (λa1=>by
   refine⟨h0,λrow hr=>E row (by rw[M,ya] at hr;exact xG hr),v,us.take (z.toNat * sz),by rw[v7,q];exact hp,?_,λi row c d T k2=>?_⟩
   ·show y.w.ownsRow 0 e sz v (B.map f).length _
    rw[v7,q]
    unfold Bm at hd hp
    split at hd
    ·rename_i heq
     rw[heq] at hp
     obtain⟨hz,rfl⟩:=hp
     rw[hz]
     simpa using World.ownsRow_nil y.w 0 e sz
    ·rename_i b cap heq
     rw[heq] at hp
     subst hp
     rw[hd] at F
     exact qw F (by simpa using X)
   ·rw[M,ya,wW] at T
    split at T
    ·rename_i hi
     obtain⟨u,e1,e2⟩:=hc i row c d T k2
     have aa:c<sz:=by
      have:=E row (wJ T)
      rw[← this]
      exact(vl.1 k2).1
     refine⟨u,?_,e2⟩
     rw[wW,vh]
     ·exact e1
     ·have:(i+1) * sz≤z.toNat * sz:=wR _ hi
      rw[Nat.succ_mul] at this;omega
    ·cases T)
 refine⟨_,O,hsz,_,(show({ y with H:=λi=>if id=i then some (.arr y.n e sz (B.map f)) else y.H i,β:=λi=>if id=i then y.β id else y.β i,K:=λi=>if id=i then λ_=>none else y.K i,n:=y.n+1 } : Cx).w=w from U),V.trans A.1,A.2,?_,by rw[← J],λt'=>?_⟩
 ·funext i
  show(if id=i then some (.arr y.n e sz (B.map f)) else y.H i)=hget ((id,some (.arr s.n e sz (B.map f)))::s.h) i
  rw[Bv,hH,J]
 ·rw[DQ]
  split
  ·rename_i a0;subst a0
   rw[hv,← J]
   refine .own (yp _) Z λo ho hg=>?_
   simp only[vh] at ho
   cases ho
   show Bm (if id=id then y.β id else y.β id) (B.map f).length v
   rw[vh rfl,v7,q]
   exact hp
  ·exact(C t').mono A.1
end Go.Proofs.YtgcalnmhoifpoaaGreatDoor.Al

namespace Go.Proofs.YtgcalnmhoifpoaaGreatDoor.Al
theorem hY{x y:Cx}(C:x.ok)(M:Nat→Prop)(T:y.w=x.w)(hS:y.S=x.S)(hF:y.F=x.F)(hn:x.n≤y.n)
  (B:∀i,¬ M i→y.H i=x.H i∧y.β i=x.β i∧y.K i=x.K i) (a1:∀i o,M i→y.H i=some o→o.gen<y.n)
  (a2:∀i q,M i→y.H i=some q→q.gen<x.n∨q.isCal=true→∃o,x.H i=some o∧o.gen=q.gen∧o.shape=q.shape∧y.β i=x.β i)
  (a6:∀i q,M i→y.H i=some q→q.isFam=false) (X:∀i o b k,M i→y.H i=some o→y.atk i b k→∃l q I,M l∧x.H l=some q∧x.atk l b I)
  (hβ:∀i l o q b k I,M i→M l→y.H i=some o→y.H l=some q→y.β i=some (b,k)→y.β l=some (b,I)→i=l)
  (hK:∀i o j b c,M i→y.H i=some o→y.K i j=some (b,c)→(∀l q k,M l→y.H l=some q→y.β l=some (b,k)→False)∧∀l q Z c',M l→y.H l=some q→y.K l Z=some (b,c')→l=i∧Z=j)
  (a7:x.le y→∀i o,M i→y.H i=some o→EQ y (y.β i) (y.K i) o):x.le y∧y.ok:=by
 have V:x.le y:=by
  refine⟨by rw[T];exact vu _,by rw[T],by rw[T],by rw[T],λ_ _=>by rw[T],λ_ h=>by rw[hS];exact h,hF,hn,λi q h hg=>?_,λi q h hf _ _=>?_⟩
  ·by_cases w:M i
   ·exact a2 i q w h hg
   ·obtain⟨J,U,_⟩:=B i w
    exact⟨q,by rw[← J];exact h,rfl,rfl,U⟩
  ·by_cases w:M i
   ·rw[a6 i q w h] at hf;cases hf
   ·obtain⟨J,_,h3⟩:=B i w
    exact⟨q,by rw[← J];exact h,hf,rfl,rfl,rfl,h3⟩
 have O:∀i o b k,¬ M i→y.H i=some o→y.atk i b k→x.H i=some o∧x.atk i b k:=by
  intro i o b k w h ha
  obtain⟨J,U,h3⟩:=B i w
  unfold Cx.atk at ha ⊢
  rw[← J,← U,← h3]
  exact⟨h,ha⟩
 have Y:∀i o b k,y.H i=some o→y.atk i b k→b<x.w.heap.size∧¬ x.S b∧¬ x.F b:=by
  intro i o b k h ha
  by_cases w:M i
  ·obtain⟨l,q,I,_,J,U⟩:=X i o b k w h ha
   exact C.own' l q b I J U
  ·obtain⟨J,U⟩:=O i o b k w h ha
   exact C.own' i o b k J U
 have BA:∀i l o q b k I,M i→¬ M l→y.H i=some o→y.H l=some q→y.atk i b k→y.atk l b I→False:=by
  intro i l o q b k I w u h E ha a8
  obtain⟨i2,o2,k2,aa,J,U⟩:=X i o b k w h ha
  obtain⟨h3,h4⟩:=O l q b I u E a8
  exact u (C.inj' J h3 U h4 ▸ aa)
 refine⟨V,by rw[hS,T];exact C.S_lt,by rw[hF,T];exact C.F_lt,by rw[hS,hF];exact C.SF,λi o h=>?_,λi o b k h F=>?_,λi l o q b k I h E F A=>?_,λi o j b c h F=>?_,C.tabs.le V⟩
 ·by_cases w:M i
  ·exact⟨a1 i o w h,a7 V i o w h⟩
  ·obtain⟨J,U,h3⟩:=B i w
   obtain⟨k1,k2⟩:=C.obj i o (by rw[← J];exact h)
   rw[U,h3]
   exact⟨vq k1 hn,k2.mono V (λ_ _ _=>by rw[T]) λ_ _ _ _=>by rw[T]⟩
 ·rw[T,hS,hF];exact Y i o b k h (.inl F)
 ·by_cases w:M i<;>by_cases u:M l
  ·exact hβ i l o q b k I w u h E F A
  ·exact(BA i l o q b k I w u h E (.inl F) (.inl A)).elim
  ·exact(BA l i q o b I k u w E h (.inl A) (.inl F)).elim
  ·exact C.inj' (O i o b k w h (.inl F)).1 (O l q b I u E (.inl A)).1 (O i o b k w h (.inl F)).2 (O l q b I u E (.inl A)).2
 ·rw[T,hS,hF]
  obtain⟨k1,k2,k3⟩:=Y i o b c h (.inr ⟨j,F⟩)
  refine⟨k1,k2,k3,λl q k E A=>?_,λl q Z c' E A=>?_⟩
  ·by_cases w:M i<;>by_cases u:M l
   ·exact(hK i o j b c w h F).1 l q k u E A
   ·exact BA i l o q b c k w u h E (.inr ⟨j,F⟩) (.inl A)
   ·exact BA l i q o b k c u w E h (.inl A) (.inr ⟨j,F⟩)
   ·obtain⟨e1,_,e3⟩:=B i w
    obtain⟨a0,ab,_⟩:=B l u
    exact(C.ext i o j b c (by rw[← e1];exact h) (by rw[← e3];exact F)).2.2.2.1 l q k (by rw[← a0];exact E) (by rw[← ab];exact A)
  ·by_cases w:M i<;>by_cases u:M l
   ·exact(hK i o j b c w h F).2 l q Z c' u E A
   ·exact(BA i l o q b c c' w u h E (.inr ⟨j,F⟩) (.inr ⟨Z,A⟩)).elim
   ·exact(BA l i q o b c' c u w E h (.inr ⟨Z,A⟩) (.inr ⟨j,F⟩)).elim
   ·obtain⟨e1,_,e3⟩:=B i w
    obtain⟨a0,_,ac⟩:=B l u
    exact(C.ext i o j b c (by rw[← e1];exact h) (by rw[← e3];exact F)).2.2.2.2 l q Z c' (by rw[← a0];exact E) (by rw[← ac];exact A)
section
variable{g:Nat}{e:TypeId}{sz col:Nat}{e2:TypeId}{sz2:Nat}{hole:Option (Nat × Nat × Nat)}{xs:List (List RV)}
theorem uw{s:St}(id r k:Nat){row}{ys}(X:id≠r)(hh:hget s.h id=some (.rr g e sz col e2 sz2 none xs))(hr:hget s.h r=none)(hi:xs[k]?=some row)(hc:row[col]?=some (.sl ys)) :
  Ae s ⟨s.e,(r,some (.arr s.n e2 sz2 ys))::(id,some (.rr g e sz col e2 sz2 (some (k,r,s.n)) xs))::s.h,s.n+1,s.N⟩:=by
 intro c0 a w ⟨_,a0,hsz,y,a6,a7,F,hH,a8,a1⟩
 have l:y.H id=some (.rr g e sz col e2 sz2 none xs):=by rw[hH];exact hh
 have ae:y.H r=none:=by rw[hH];exact hr
 obtain⟨hg,⟨p1,p2,p3,p4⟩,aa,us,h1,h2,h3,h4⟩:=F.obj _ _ l
 obtain⟨uk,k1,⟨_,_,k2,_⟩ | ⟨_,af,k3,q1,q2,ab,q3,q4⟩⟩:=h4 k row hi
 ·cases k2
 rw[hc] at k3;cases k3
 have hn:=X.symm
 generalize C:({ y with H:=hget ((r,some (.arr s.n e2 sz2 ys))::(id,some (.rr g e sz col e2 sz2 (some (k,r,s.n)) xs))::s.h),β:=λi=>if i=r then y.K id k else y.β i,K:=λi=>if i=r then λ_=>none else if i=id then λj=>if j=k then none else y.K id j else y.K i,n:=y.n+1 } : Cx)=z
 have V:z.w=y.w:=by rw[← C]
 have z2:z.S=y.S:=by rw[← C]
 have z3:z.F=y.F:=by rw[← C]
 have z4:z.n=y.n+1:=by rw[← C]
 have I:z.H r=some (.arr s.n e2 sz2 ys):=by rw[← C];simp only[Bv,vh]
 have T:z.H id=some (.rr g e sz col e2 sz2 (some (k,r,s.n)) xs):=by rw[← C];simp only[Bv,vg hn,vh]
 have A:z.β r=y.K id k:=by rw[← C];simp
 have B:z.β id=y.β id:=by rw[← C];simp[X]
 have Y:z.K r=λ_=>none:=by rw[← C];simp
 have U:z.K id=λj=>if j=k then none else y.K id j:=by rw[← C];simp[X]
 have zo:∀i,¬ (i=id∨i=r)→z.H i=y.H i∧z.β i=y.β i∧z.K i=y.K i:=by
  intro i hm
  have e1:¬ i=id:=λh=>hm (.inl h)
  have e2:¬ i=r:=λh=>hm (.inr h)
  rw[← C]
  exact⟨by simp only[Bv,vg (λh=>e2 (Eq.symm h)),vg (λh=>e1 (Eq.symm h))];rw[hH],by simp[e2],by simp[e1,e2]⟩
 have J:=hY (x:=y) (y:=z) F (λi=>i=id∨i=r) V z2 z3 (by omega) zo ?_ ?_ ?_ ?_ ?_ ?_ ?_
 ·refine⟨‹_›,a0,hsz,z,V.trans a6,a7.trans J.1,J.2,?_,by rw[z4,a8],λt=>(a1 t).mono J.1⟩
  rw[← C]
 ·rintro i o (rfl | rfl) h
  ·rw[T] at h;cases h;simp only[Ab.gen] at hg ⊢;omega
  ·rw[I] at h;cases h;simp only[Ab.gen];omega
 ·rintro i o (rfl | rfl) h M
  ·rw[T] at h;cases h
   exact⟨_,l,rfl,rfl,B⟩
  ·rw[I] at h;cases h
   simp only[Ab.gen,Ab.isCal] at M
   rcases M with M | M
   ·omega
   ·cases M
 ·rintro i o (rfl | rfl) h
  ·rw[T] at h;cases h;rfl
  ·rw[I] at h;cases h;rfl
 ·rintro i o b kk (rfl | rfl) h Z
  ·refine⟨i,_,kk,.inl rfl,l,Z.imp (λh=>by rw[← B];exact h) λ⟨j,h⟩=>⟨j,?_⟩⟩
   rw[U] at h
   dsimp only at h
   split at h
   ·cases h
   ·exact h
  ·refine⟨id,_,kk,.inl rfl,l,.inr ⟨k,?_⟩⟩
   rcases Z with Z | ⟨j,Z⟩
   ·rw[← A];exact Z
   ·rw[Y] at Z;cases Z
 ·rintro i i' o o' b kk ag (rfl | rfl) (rfl | rfl) h h' E q
  ·rfl
  ·rw[B] at E;rw[A] at q
   exact((F.ext _ _ _ _ _ l q).2.2.2.1 _ _ _ l E).elim
  ·rw[B] at q;rw[A] at E
   exact((F.ext _ _ _ _ _ l E).2.2.2.1 _ _ _ l q).elim
  ·rfl
 ·rintro i o j b c (rfl | rfl) h E
  ·rw[U] at E
   dsimp only at E
   split at E
   ·cases E
   rename_i O
   obtain⟨_,_,_,e4,e5⟩:=F.ext _ _ _ _ _ l E
   refine⟨λi' o' kk hm h' q=>?_,λi' o' j' c' hm h' q=>?_⟩
   ·rcases hm with rfl | rfl
    ·rw[B] at q;exact e4 _ _ _ l q
    ·rw[A] at q;exact O (e5 _ _ _ _ l q).2.symm
   ·rcases hm with rfl | rfl
    ·rw[U] at q
     dsimp only at q
     split at q
     ·cases q
     ·exact e5 _ _ _ _ l q
    ·rw[Y] at q;cases q
  ·rw[Y] at E;cases E
 ·rintro ad i o (rfl | rfl) h
  ·rw[T] at h;cases h
   rw[B,U]
   refine⟨⟨p1,p2,p3,p4⟩,aa,us,h1,by rw[V];exact h2,λi row c d hc k1 k2=>let ⟨u,k3,k4⟩:=h3 i row c d hc k1 k2;⟨u,k3,k4.mono (λ_ _=>by rw[V]) λb h=>by rw[z2];exact h⟩,λj a2 hj=>?_⟩
   by_cases O:j=k
   ·subst O
    rw[hi] at hj;cases hj
    refine⟨uk,k1,.inl ⟨r,s.n,rfl,.own (by omega) ?_ λo ho ah=>?_⟩⟩
    ·unfold Bm at q2
     split at q2
     ·rw[q2.2];rfl
     ·rw[q2];rfl
    ·rw[I] at ho;cases ho
     rw[A];exact q2
   ·obtain⟨u,e1,⟨_,_,e2,_⟩ | ⟨_,ac,e3,e4⟩⟩:=h4 j a2 hj
    ·cases e2
    ·refine⟨u,e1,.inr ⟨λr' g' h=>O (by cases h;rfl),ac,e3,?_⟩⟩
     dsimp only
     rw[vg O]
     exact e4.mono (λ_ _=>by rw[V]) (λb h=>by rw[z2];exact h) λ_ _ _=>by rw[V]
  ·rw[I] at h;cases h
   rw[A]
   exact⟨p3,q1,uk,ab,q2,by rw[V];exact q3,λi row c d k1 k2=>let ⟨u,k3,k4⟩:=q4 i row c d k1 k2;⟨u,k3,k4.mono (λ_ _=>by rw[V]) λb h=>by rw[z2];exact h⟩⟩
theorem hO{s:St}(id r k:Nat){g'}{row row':List RV}{V:List (List RV)}(a0:id≠r)(hh:hget s.h id=some (.rr g e sz col e2 sz2 (some (k,r,g')) xs))(hr:hget s.h r=some (.arr g' e2 sz2 V))(hi:xs[k]?=some row)(hv:row.set col (.sl V)=row') :
  Ae s ⟨s.e,(r,none)::(id,some (.rr g e sz col e2 sz2 none (xs.set k row')))::s.h,s.n,s.N⟩:=by
 subst hv
 intro c0 a w ⟨_,a1,hsz,y,ab,ac,A,hH,ad,a2⟩
 have l:y.H id=some (.rr g e sz col e2 sz2 (some (k,r,g')) xs):=by rw[hH];exact hh
 have E:y.H r=some (.arr g' e2 sz2 V):=by rw[hH];exact hr
 obtain⟨hg,⟨p1,p2,p3,p4⟩,ae,us,h1,h2,h3,h4⟩:=A.obj _ _ l
 obtain⟨al,q0,q1,a6,af,q2,q3,q4⟩:=A.obj _ _ E
 obtain⟨uk,k1,ag⟩:=h4 k row hi
 have X:AP y (.own r g') uk:=by
  rcases ag with ⟨r',an,k2,X⟩ | ⟨k2,_⟩
  ·cases k2;exact X
  ·exact absurd rfl (k2 _ _)
 have a7:=(vl.1 hi).1
 have ah:=p4 row (wJ hi)
 have a8:Bm (y.β r) V.length uk:=by cases X with | own _ _ hv=>exact hv _ E rfl
 have ai:uk=a6:=by
  unfold Bm at a8 q2
  split at a8<;>simp_all
 subst ai
 have hn:=a0.symm
 generalize M:({ y with H:=hget ((r,none)::(id,some (.rr g e sz col e2 sz2 none (xs.set k (row.set col (.sl V)))))::s.h),K:=λi=>if i=id then λj=>if j=k then y.β r else y.K id j else y.K i } : Cx)=z
 have z1:z.w=y.w:=by rw[← M]
 have z2:z.S=y.S:=by rw[← M]
 have z3:z.F=y.F:=by rw[← M]
 have z4:z.n=y.n:=by rw[← M]
 have q:z.H r=none:=by rw[← M];simp only[Bv,vh]
 have O:z.H id=some (.rr g e sz col e2 sz2 none (xs.set k (row.set col (.sl V)))):=by rw[← M];simp only[Bv,vg hn,vh]
 have zβ:z.β=y.β:=by rw[← M]
 have Y:z.K id=λj=>if j=k then y.β r else y.K id j:=by rw[← M];simp
 have zo:∀i,¬ (i=id∨i=r)→z.H i=y.H i∧z.β i=y.β i∧z.K i=y.K i:=by
  intro i hm
  have e1:¬ i=id:=λh=>hm (.inl h)
  have e2:¬ i=r:=λh=>hm (.inr h)
  rw[← M]
  exact⟨by simp only[Bv,vg (λh=>e2 (Eq.symm h)),vg (λh=>e1 (Eq.symm h))];rw[hH],rfl,by simp[e1]⟩
 have I:=hY (x:=y) (y:=z) A (λi=>i=id∨i=r) z1 z2 z3 (by omega) zo ?_ ?_ ?_ ?_ ?_ ?_ ?_
 ·refine⟨‹_›,a1,hsz,z,z1.trans ab,ac.trans I.1,I.2,?_,by rw[z4,ad],λt=>(a2 t).mono I.1⟩
  rw[← M]
 ·rintro i o (rfl | rfl) h
  ·rw[O] at h;cases h;simp only[Ab.gen] at hg ⊢;omega
  ·rw[q] at h;cases h
 ·rintro i o (rfl | rfl) h ao
  ·rw[O] at h;cases h
   exact⟨_,l,rfl,by simp[Ab.shape],by rw[zβ]⟩
  ·rw[q] at h;cases h
 ·rintro i o (rfl | rfl) h
  ·rw[O] at h;cases h;rfl
  ·rw[q] at h;cases h
 ·rintro i o b kk (rfl | rfl) h T
  ·rcases T with T | ⟨j,T⟩
   ·exact⟨i,_,kk,.inl rfl,l,.inl (by rw[← zβ];exact T)⟩
   ·rw[Y] at T
    dsimp only at T
    split at T
    ·exact⟨r,_,kk,.inr rfl,E,.inl T⟩
    ·exact⟨i,_,kk,.inl rfl,l,.inr ⟨j,T⟩⟩
  ·rw[q] at h;cases h
 ·rintro i i' o o' b kk aq (rfl | rfl) (rfl | rfl) h U C F
  ·rfl
  ·rw[q] at U;cases U
  ·rw[q] at h;cases h
  ·rfl
 ·rintro i o j b c (rfl | rfl) h C
  ·have Z:∀j b c,z.K i j=some (b,c)→(j=k∧y.β r=some (b,c))∨(j≠k∧y.K i j=some (b,c)):=by
    intro j b c C
    rw[Y] at C
    dsimp only at C
    split at C
    ·exact .inl ⟨‹_›,C⟩
    ·exact .inr ⟨‹_›,C⟩
   refine⟨λi' o' kk hm U F=>?_,λi' o' j' c' hm U F=>?_⟩
   ·rcases hm with rfl | rfl
    ·rw[zβ] at F
     rcases Z j b c C with ⟨_,e⟩ | ⟨_,e⟩
     ·exact a0 (A.inj _ _ _ _ _ _ _ l E F e)
     ·exact(A.ext _ _ _ _ _ l e).2.2.2.1 _ _ _ l F
    ·rw[q] at U;cases U
   ·rcases hm with rfl | rfl
    ·rcases Z j b c C with ⟨e0,e⟩ | ⟨e0,e⟩<;>rcases Z j' b c' F with ⟨aa,e'⟩ | ⟨aa,e'⟩
     ·exact⟨rfl,aa.trans e0.symm⟩
     ·exact((A.ext _ _ _ _ _ l e').2.2.2.1 _ _ _ E e).elim
     ·exact((A.ext _ _ _ _ _ l e).2.2.2.1 _ _ _ E e').elim
     ·exact(A.ext _ _ _ _ _ l e).2.2.2.2 _ _ _ _ l e'
    ·rw[q] at U;cases U
  ·rw[q] at h;cases h
 ·rintro ak i o (rfl | rfl) h
  ·rw[O] at h;cases h
   rw[zβ,Y]
   have C:∀b,y.S b→z.w.heap[b]?=y.w.heap[b]?:=λ_ _=>by rw[z1]
   have hS:∀b,y.S b→z.S b:=λb h=>by rw[z2];exact h
   refine⟨⟨p1,p2,p3,λr hr=>?_⟩,ae,us,by rw[xM];exact h1,by rw[z1,xM];exact h2,λj row' c d hc J hd=>?_,λj row' J=>?_⟩
   ·rcases xi hr with hr | rfl
    ·exact p4 r hr
    ·rw[xM];exact ah
   ·rw[wh] at J
    by_cases B:k=j
    ·subst B
     rw[vh rfl,vh a7] at J;cases J
     rw[yT (λh=>hc h.symm)] at hd
     obtain⟨u,X,k4⟩:=h3 _ row c d hc hi hd
     exact⟨u,X,k4.mono C hS⟩
    ·rw[vg B] at J
     obtain⟨u,X,k4⟩:=h3 _ row' c d hc J hd
     exact⟨u,X,k4.mono C hS⟩
   ·rw[wh] at J
    by_cases B:k=j
    ·subst B
     rw[vh rfl,vh a7] at J;cases J
     refine⟨uk,k1,.inr ⟨(λ_ _ h=>by cases h),V,by rw[wh,vh rfl,vh (by omega)],?_⟩⟩
     dsimp only
     rw[vh rfl]
     exact Jg.mono (w:=y.w) (S:=y.S) C hS (λ_ _ _=>by rw[z1]) ⟨q1,q2,af,q3,q4⟩
    ·rw[vg B] at J
     obtain⟨u,e1,⟨_,_,e2,_⟩ | ⟨_,aj,e3,e4⟩⟩:=h4 j row' J
     ·cases e2;exact absurd rfl B
     ·refine⟨u,e1,.inr ⟨(λ_ _ h=>by cases h),aj,e3,?_⟩⟩
      dsimp only
      rw[vg (λh=>B h.symm)]
      exact e4.mono C hS λ_ _ _=>by rw[z1]
  ·rw[q] at h;cases h
end
section
variable{P:Program}{c:Bool}{o:Oper}{R:AX}{h:AO}{n:Nat}
theorem tP{t e}{sz}{x}{id g}{ob:Ab}(A:o.op=.call { callee := .builtin .len, args := #[x], argTypes := #[t] })(q:EO P t e sz)(B:Ev c R x (.own id g))
 (C:hget h id=some ob) (hg:ob.gen=g):AR P c o R h (.r (.int .i64 ob.shape.2.2)) := by
  intro E z w F I J
  refine⟨.int .i64 ob.shape.2.2, λO M => ?_, .r (.int _ _)⟩
  unfold execOp
  rw[A]
  have l := B.rep J E
  generalize u:w.eval x=v at l
  cases l with
  | own _ _ l =>
    have j := l _ (by rw[I];exact C) hg
    unfold Bm at j
    split at j
    · simp[resolve, invoke, builtin, u, j.1, j.2, Builtin.len_, run_underlying q.1, goInt]
    · simp[resolve, invoke, builtin, u, j, Builtin.len_, run_underlying q.1, goInt]
theorem lW{t e}{sz}{x y}{id g}{ob:Ab}{k}{z:Int}(U:o.op=.indexAddr t x y)(V:EO P t e sz)(X:Ev c R x (.own id g))
 (Y:hget h id=some ob) (hg:ob.gen=g) (Z:ob.shape.2.1=sz) (hy:Ev c R y (.r (.int k z))) (h0:c=true→0≤z) (h1:c=true→z<ob.shape.2.2):AR P c o R h (.ptr id g z.toNat 0) := by
  intro A q w a0 hH O
  obtain⟨C, ii, E, F⟩ := V
  have I := h0 A
  have l := h1 A
  have j:q.H id=some ob := by rw[hH];exact Y
  have B := X.rep O A
  generalize hw:w.eval x=v at B
  cases B with
  | own J _ B =>
    have hd := B _ j hg
    cases M:q.β id with
    | none => rw[M] at hd;have := hd.1;omega
    | some p =>
      obtain⟨b, cap⟩ := p
      rw[M] at hd
      simp only[Bm] at hd
      refine⟨.pointer (some ⟨b, z.toNat * sz+0, none⟩), λw2 a1 => ?_, .ptr J rfl λo' u T => ?_⟩
      · unfold execOp
        rw[U]
        simp[hw, hd, CZ (hy.rep O A), Instr.indexAt, asIntOf, run_underlying C, I, l, Dn E, F, Addr.add_lit]
      · rw[j] at u;cases u
        exact⟨b, cap, M, by rw[Z]⟩
variable{g:Nat}{e:TypeId}{sz col:Nat}{e2:TypeId}{sz2:Nat}{hole:Option (Nat × Nat × Nat)}{xs:List (List RV)}
theorem UN{x:Cx}(j:x.ok){id i k}{v}(w:x.H id=some (.rr g e sz col e2 sz2 hole xs))(l:AP x (.ptr id g i k) v) :
  ∃b cap us,x.β id=some (b,cap)∧v=.pointer (some ⟨b,i * sz+k,none⟩)∧(0<sz∧col<sz∧0<sz2∧∀row∈xs,row.length=sz)∧x.w.ownsRow 0 e sz (.slice (some ⟨b,0,none⟩) xs.length cap) xs.length us ∧
   (∀i row c d,c≠col→xs[i]?=some row→row[c]?=some d→∃u,us[i * sz+c]?=some u∧BE x.w x.S d u) ∧
   ∀i row,xs[i]?=some row→∃u,us[i * sz+col]?=some u∧((∃r g',hole=some (i,r,g')∧AP x (.own r g') u)∨((∀r g',hole≠some (i,r,g'))∧∃A,row[col]?=some (.sl A)∧Jg x.w x.S (x.K id i) e2 sz2 A u)):=by
 obtain⟨_,C,E,us,q,F,I,J⟩:=j.obj _ _ w
 cases l with
 | ptr _ _ l=>
  obtain⟨b,cap,B,M⟩:=l _ w rfl
  rw[B] at q
  simp only[Bm] at q
  subst q
  exact⟨b,cap,us,B,M,C,F,I,J⟩
theorem pw{t}{x}{id i r g'}{row}(E:o.op=.load t x)(F:Bd P t)(I:Ev c R x (.ptr id g i col))(J:hget h id=some (.rr g e sz col e2 sz2 (some (i,r,g')) xs))(l:c=true→xs[i]?=some row) :
  AR P c o R h (.own r g'):=by
 intro C z w q M O
 have j:z.H id=some (.rr g e sz col e2 sz2 (some (i,r,g')) xs):=by rw[M];exact J
 obtain⟨b,cap,us,T,U,_,V,_,X⟩:=UN q j (I.rep O C)
 obtain⟨u,Y,Z⟩:=X i row (l C)
 have h8:AP z (.own r g') u:=by
  rcases Z with ⟨_,_,A,k2⟩ | ⟨A,_⟩
  ·cases A;exact k2
  ·exact absurd rfl (A _ _)
 refine⟨u,λw2 B=>?_,h8⟩
 unfold execOp
 rw[E]
 simp[U,Ro F ((B.cellO j T).trans (Iw V Y))]
theorem sB{t}{x}{id i}{row:List RV}(Y:o.op=.load t x)(Z:Bf P t sz)(hx:Ev c R x (.ptr id g i 0))(hh:hget h id=some (.rr g e sz col e2 sz2 hole xs))
 (l:c=true→xs[i]?=some row):AR P c o R h (.agg ((row.map .r).set col (.r .any))) := by
  intro F z w J hH he
  have A:z.H id=some (.rr g e sz col e2 sz2 hole xs) := by rw[hH];exact hh
  obtain⟨b, cap, I, h1, h2, ⟨p1, p2, p3, p4⟩, V, h5, h6⟩ := UN J A (hx.rep he F)
  have hl := p4 row (wJ (l F))
  have M:I.length=xs.length * sz := V.1
  have O := (vl.1 (l F)).1
  have X:i * sz+sz≤I.length := by
    rw[M]
    have:(i+1) * sz≤xs.length * sz := wR _ O
    rwa [wo, xc] at this
  have B:∀j, j<sz→z.w.cell? ⟨b, i * sz+0+j, none⟩=some ((λj => I.getD (i * sz+j) undef) j) := by
    intro j C
    have:i * sz+j<I.length := by omega
    rw[ws, Iw V (vo this)]
    simp[List.getD, this]
  refine⟨.agg ((List.range sz).map λj => I.getD (i * sz+j) undef).toArray, λw2 T => ?_, LV (by simp[hl]) _ λj a C => ?_⟩
  · unfold execOp
    rw[Y]
    simp only[h2, Kq Z _ (λj C => (T.cellO A h1).trans (B j C)), Sem.run_bind, Result.andThen_ok, Sem.run_pure]
  · by_cases E:j=col
    · subst E
      rw[wh, vh rfl, vh (by simp;omega)] at C
      cases C
      obtain⟨u, U, q⟩ := h6 i row (l F)
      refine .r (.any _ ?_)
      simp only[List.getD, U, xg]
      rcases q with ⟨_, _, _, q⟩ | ⟨_, _, _, _, q, _⟩
      · exact q.one rfl
      · unfold Bm at q
        split at q
        · rw[q.2];rfl
        · rw[q];rfl
    · rw[yT (λh => E h.symm), wD, v8] at C
      obtain⟨d, U, rfl⟩ := C
      obtain⟨u, q, h9⟩ := h5 i row j d E (l F) U
      simpa[List.getD, q] using AP.r h9
theorem bW{t}{x y}{id i k m r g' r0 g0:Nat}{row row':List RV}{a}(ho:o.op=.store t x y)(ht:∃i, P.info? t=some i∧i.size=m)(hx:Ev c R x (.ptr id g i k))
 (hh:hget h id=some (.rr g e sz col e2 sz2 (some (i, r0, g0)) xs)) (V:xs[i]?=some row) (hy:Ev c R y a) (hm:(BV a).length=m) (hk:k+m≤row.length) (hl:row'.length=row.length) (az:k≤col) (a2:(BV a)[col - k]?=some (.own r g'))
 (ah:∀b ∈ BV a, b.one=true) (a0:∀j d, j≠col→row'[j]?=some d→(k≤j∧j<k+m∧∃b, (BV a)[j - k]?=some b∧Hz b=some d)∨((j<k∨k+m≤j)∧row[j]?=some d)) :
    A7 P c o R h n .any ((id, some (.rr g e sz col e2 sz2 (some (i, r, g')) (xs.set i row')))::h) n := by
  intro hc z w T hH hn he K Q hK
  obtain⟨ii, hi, ai⟩ := ht
  have l:z.H id=some (.rr g e sz col e2 sz2 (some (i, r0, g0)) xs) := by rw[hH];exact hh
  have aj:i<xs.length := (vl.1 V).1
  obtain⟨b, cap, us, hβ, b0, ⟨hsz, a6, ak, I⟩, ad, J, al⟩ := UN T l (hx.rep he hc)
  have b1 := (T.obj _ _ l).1
  obtain⟨bc, ae⟩ := ad
  rcases ae with ⟨hv, _⟩ | ⟨M, b9, U, hv, _, a7, an, b2, ao, X⟩
  · cases hv
  simp only[Value.slice.injEq, vz, Addr.mk.injEq, zH, and_true] at hv
  obtain⟨rfl, rfl⟩ := hv
  have b3 := I row (wJ V)
  have b4 := hy.rep he hc
  obtain⟨Y, aq, b5⟩ := M1 b4 ah
  have ar:(w.eval y).cells.toList.length=m := by rw[wV (xs := (w.eval y).cells), Y, hm]
  have b6:i * sz+sz≤xs.length * sz := by
    have:(i+1) * sz≤xs.length * sz := wR _ aj
    rwa [wo, xc] at this
  have ba:xs.length * sz≤U.size := by rw[ao];exact wR _ an
  have a8 := R2 (P := P) (k := i * sz+k) hi a7 (v := w.eval y) (by rw[Y, ai, hm]) b5 (by rw[Y, hm];omega)
  rw[show(w.eval y).cells.size=m by rw[Y, hm]] at a8
  have aa := λj => Jt U.toList (w.eval y).cells.toList (i * sz+k) j (by have := wV (xs := U);rw[ar];omega)
  rw[ar] at aa
  let q:Array Value := (U.toList.take (i * sz+k)++(w.eval y).cells.toList++U.toList.drop (i * sz+k+m)).toArray
  have O:q.size=U.size := by
    have av:(w.eval y).cells.size=m := by rw[Y, hm]
    simp[q, av];omega
  have hget:∀B C, B<xs.length→C<sz→(q.toList.take (xs.length * sz))[B * sz+C]?=if B=i∧k≤C∧C<k+m then(w.eval y).cells[C - k]? else us[B * sz+C]? := by
    intro B C E ab
    have af:B * sz+C<xs.length * sz := by
      calc B * sz+C<B * sz+sz := by omega
        _=(B+1) * sz := by rw[wo, xc]
        _≤xs.length * sz := wR _ E
    rw[wW, vh af]
    simp only[q]
    rw[aa]
    by_cases A:B=i
    · subst A
      by_cases a0:k≤C∧C<k+m
      · rw[vh (by omega), vh ⟨rfl, a0⟩, w0, show B * sz+C - (B * sz+k)=C - k by omega]
      · rw[vg (by omega), vg (λh => a0 h.2), ← X, wW, vh af]
    · rw[vg (c := B=i∧_) (λh => A h.1), vg, ← X, wW, vh af]
      intro h
      rcases Nat.lt_or_gt_of_ne A with Z | Z
      · have := wR sz (show B+1≤i from Z)
        rw[wo, xc] at this
        omega
      · have := wR sz (show i+1≤B from Z)
        rw[wo, xc] at this
        omega
  have aw:col<k+m := by have := (vl.1 a2).1;omega
  have ax := Xo T id (.rr g e sz col e2 sz2 (some (i, r, g')) (xs.set i row')) (z.w.setRow b q) (some (b, cap)) (z.K id) z.n (by simp[World.setRow]) rfl rfl rfl
    (λM _ b7 => setRow_other _ _ _ _ (λe => b7 _ l (.inl ⟨cap, by rw[e];exact hβ⟩))) (λM k' hb => by
      cases hb
      exact⟨by simpa[World.setRow] using(T.own id _ b cap l hβ).1, .inr ⟨_, l, .inl ⟨_, hβ⟩⟩⟩)
    (λj M C hb => by
      obtain⟨F, _, _, k4, k5⟩ := T.ext _ _ _ _ _ l hb
      exact⟨⟨by simpa[World.setRow] using F, .inr ⟨_, l, .inr ⟨j, C, hb⟩⟩⟩, λk' h => by cases h;exact k4 _ _ _ l hβ, λj' k' h => (k5 _ _ _ _ l h).2⟩)
    (vu _) b1 (λ_ => ⟨_, l, rfl, by simp[Ab.shape], hβ.symm⟩) (λh => by cases h)
    (λay => by
      have a1:∀M, z.S M→(z.w.setRow b q).heap[M]?=z.w.heap[M]? := λM hb => ay.blk M (.inl hb)
      have b8:∀j M C, z.K id j=some (M, C)→(z.w.setRow b q).heap[M]?=z.w.heap[M]? := λj M C hb => setRow_other _ _ _ _ (λe => (T.ext _ _ _ _ _ l hb).2.2.2.1 _ _ _ l (e ▸ hβ))
      refine⟨⟨hsz, a6, ak, λr hr => ?_⟩, .slice (some ⟨b, 0, none⟩) xs.length cap, q.toList.take (xs.length * sz), by simp[Bm], ⟨by simp[O];omega, .inr ⟨b, cap, q, by simp, xd _, setRow_heap _ _ _ _ _ _ a7, by simpa using an, b2, by rw[O, ao], by simp⟩⟩, λB ac C d' ag F k2 => ?_, λB ac F => ?_⟩
      · rcases xi hr with hr | rfl
        · exact I r hr
        · rw[hl];exact b3
      · have E:B<xs.length := by simpa using(vl.1 F).1
        have ab:C<sz := by
          have := (vl.1 k2).1
          rw[wh] at F
          split at F
          · cases F;omega
          · rw[← I ac (wJ F)];exact this
        rw[hget B C E ab]
        rw[wh] at F
        by_cases A:i=B
        · subst A
          rw[vh rfl, vh aj] at F
          cases F
          rcases a0 C d' ag k2 with ⟨q1, q2, bb, q3, q4⟩ | ⟨q1, q2⟩
          · obtain⟨u, h3, _, h5⟩ := aq _ _ q3
            exact⟨u, by rw[vh ⟨rfl, q1, q2⟩];exact h3, (Sz q4 h5).mono a1 (λ_ h => h)⟩
          · obtain⟨u, k5, k6⟩ := J _ _ _ _ ag V q2
            exact⟨u, by rw[vg (by omega)];exact k5, k6.mono a1 (λ_ h => h)⟩
        · rw[vg A] at F
          obtain⟨u, k5, k6⟩ := J _ _ _ _ ag F k2
          exact⟨u, by rw[vg (λh => A h.1.symm)];exact k5, k6.mono a1 (λ_ h => h)⟩
      · have E:B<xs.length := by simpa using(vl.1 F).1
        rw[hget B col E a6]
        rw[wh] at F
        by_cases A:i=B
        · subst A
          obtain⟨u, h3, _, h5⟩ := aq _ _ a2
          exact⟨u, by rw[vh ⟨rfl, az, aw⟩];exact h3, .inl ⟨r, g', rfl, h5.mono ay⟩⟩
        · rw[vg A] at F
          obtain⟨u, q1, ⟨r1, g1, q2, _⟩ | ⟨_, ys, q3, q4⟩⟩ := al _ _ F
          · cases q2;exact absurd rfl A
          · exact⟨u, by rw[vg (λh => A h.1.symm)];exact q1, .inr ⟨λ_ _ h => A (by cases h;rfl), ys, q3, q4.mono a1 (λ_ h => h) (b8 B)⟩⟩)
  unfold Oper.wp execOp
  rw[ho]
  simp only[b0, Sem.run_bind, a8, Result.andThen_ok, Sem.run_pure]
  exact hK undef _ ax.1 ax.2 (by simp only[hH];exact D3 _ _ _) hn (.any _)
end
theorem Jg.frozen{w}{S S'}{β}{e}{sz}{A:List (List RV)}{u}(h:Jg w S β e sz A u)(O:∀b,S b→S' b)(I:∀b k,β=some (b,k)→S' b):BE w S' (.sl A) u:=by
 obtain⟨B,hd,F,l,T⟩:=h
 unfold Bm at hd
 split at hd
 ·have:A=[]:=wn hd.1
  subst this
  rw[hd.2];exact .snil
 ·rename_i b cap
  subst hd
  have C:A.length≤cap∧cap≤maxLen:=by
   rcases l.2 with ⟨j,_⟩ | ⟨X,M,U,j,_,_,q,J,_⟩
   ·cases j
   ·simp only[Value.slice.injEq] at j;rw[j.2.2];exact⟨q,J⟩
  have E:∀i row k d,A[i]?=some row→row[k]?=some d→F[i * sz+k]?=some (F.getD (i * sz+k) undef)∧BE w S d (F.getD (i * sz+k) undef):=by
   intro i row k d j q
   obtain⟨u,J,V⟩:=T i row k d j q
   simp only[List.getD,J,xg]
   exact⟨trivial,V⟩
  refine .sl b 0 A cap sz (λi k=>F.getD (i * sz+k) undef) (λ_=>I b cap rfl) C.1 C.2 B (λi row k d j q=>?_) (λi row k d j q=>(E i row k d j q).2.mono (λ_ _=>rfl) O)
  rw[wK]
  exact Iw l (E i row k d j q).1
section
variable{g:Nat}{e:TypeId}{sz col:Nat}{e2:TypeId}{sz2:Nat}{hole:Option (Nat × Nat × Nat)}{xs:List (List RV)}
theorem uD{y:Cx}(M:y.ok){id}{v}(X:y.H id=some (.rr g e sz col e2 sz2 none xs))(O:AP y (.own id g) v){S'}(Y:∀b,y.S b→S' b)(w:∀b k,y.atk id b k→S' b):BE y.w S' (.sl xs) v:=by
 obtain⟨_,⟨p1,p2,p3,A⟩,T,J,U,l,hc,B⟩:=M.obj _ _ X
 have hd:Bm (y.β id) xs.length v:=by cases O with | own _ _ O=>exact O _ X rfl
 have:v=T:=by
  unfold Bm at hd U
  split at hd<;>simp_all
 subst this
 unfold Bm at hd
 split at hd
 ·have:xs=[]:=wn hd.1
  subst this
  rw[hd.2];exact .snil
 ·rename_i b cap heq
  subst hd
  have C:xs.length≤cap∧cap≤maxLen:=by
   rcases l.2 with ⟨j,_⟩ | ⟨g',Z,a0,j,_,_,q,E,_⟩
   ·cases j
   ·simp only[Value.slice.injEq] at j;rw[j.2.2];exact⟨q,E⟩
  have F:∀i row k d,xs[i]?=some row→row[k]?=some d→J[i * sz+k]?=some (J.getD (i * sz+k) undef)∧BE y.w S' d (J.getD (i * sz+k) undef):=by
   intro i row k d j q
   by_cases I:k=col
   ·subst I
    obtain⟨u,E,⟨_,_,V,_⟩ | ⟨_,ys,h5,h6⟩⟩:=B i row j
    ·cases V
    ·rw[q] at h5;cases h5
     simp only[List.getD,E,xg]
     exact⟨trivial,h6.frozen Y λb k hb=>w b k (.inr ⟨i,hb⟩)⟩
   ·obtain⟨u,E,V⟩:=hc i row k d I j q
    simp only[List.getD,E,xg]
    exact⟨trivial,V.mono (λ_ _=>rfl) Y⟩
  refine .sl b 0 xs cap sz (λi k=>J.getD (i * sz+k) undef) (λ_=>w b cap (.inl heq)) C.1 C.2 A (λi row k d j q=>?_) (λi row k d j q=>(F i row k d j q).2)
  rw[wK]
  exact Iw l (F i row k d j q).1
theorem vR{s:St} t id(ht:get s.e t=.own id g)(hh:hget s.h id=some (.rr g e sz col e2 sz2 none xs)) :
  Ae s ⟨(t,.r (.sl xs))::s.e,(id,none)::s.h,s.n,s.N⟩:=by
 intro c0 a w ⟨_,F,hsz,y,O,T,l,hH,U,C⟩
 have A:y.H id=some (.rr g e sz col e2 sz2 none xs):=by rw[hH];exact hh
 let E:Cx:={ y with S:=λb=>y.S b∨∃k,y.atk id b k,H:=hget ((id,none)::s.h) }
 have j:∀i o,E.H i=some o→i≠id∧y.H i=some o:=by
  intro i o q
  simp only[E,Bv] at q
  split at q
  ·cases q
  ·rename_i V;rw[hH];exact⟨λe=>V e.symm,q⟩
 have B:y.le E:=⟨vu _,rfl,rfl,rfl,λ_ _=>rfl,λ_ h=>.inl h,rfl,vu _,λi o q _=>⟨o,(j i o q).2,rfl,rfl,rfl⟩,λi o q hf _ _=>⟨o,(j i o q).2,hf,rfl,rfl,rfl,rfl⟩⟩
 have I:E.ok:=by
  have J:∀i o b k,E.H i=some o→y.atk i b k→¬ E.S b:=λi o b k q M hS=>hS.elim (l.own' i o b k (j i o q).2 M).2.1 λ⟨k',u⟩=>(j i o q).1 (l.inj' (j i o q).2 A M u)
  refine⟨λb u=>?_,l.F_lt,λb u=>?_,λi o q=>?_,λi o b k q u=>?_,λi i' o o' b k k' q X=>l.inj i i' o o' b k k' (j _ _ q).2 (j _ _ X).2,l.extOf (λi o q=>⟨o,(j i o q).2⟩) rfl rfl (vu _) J (λi o b k q M=>(l.own' i o b k (j i o q).2 M).2.2),l.tabs.le B⟩
  ·rcases u with u | ⟨k,u⟩
   ·exact l.S_lt b u
   ·exact(l.own' id _ b k A u).1
  ·rcases u with u | ⟨k,u⟩
   ·exact l.SF b u
   ·exact(l.own' id _ b k A u).2.2
  ·obtain⟨Y,k2⟩:=l.obj i o (j _ _ q).2
   exact⟨Y,k2.mono B (λ_ _ _=>rfl) λ_ _ _ _=>rfl⟩
  ·obtain⟨Y,k2,k3⟩:=l.own i o b k (j _ _ q).2 u
   exact⟨Y,J i o b k q (.inl u),k3⟩
 refine⟨_,F,hsz,E,O,T.trans B,I,rfl,U,λt'=>?_⟩
 rw[DQ]
 split
 ·rename_i Z;subst Z
  have h1:=C t
  rw[ht] at h1
  exact .r (uD l A h1 (λ_ h=>.inl h) (λb k u=>.inr ⟨k,u⟩))
 ·exact(C t').mono B
end
section
variable{P:Program}{c:Bool}{o:Oper}{R:AX}{h:AO}{n:Nat}{α γ:Type}{f:α→List RV}{f2:γ→List RV}{g:Nat}{e:TypeId}{sz col:Nat}{e2:TypeId}{sz2:Nat}{hole:Option (Nat × Nat × Nat)}
def Oh(P:Program)(e:TypeId)(col:Nat)(j:List RV):Prop:=∃i l,P.info? e=some i∧i.zero=some l∧Gd (F1 l)=some j∧l.cells[col]?=some (.slice none 0 0)∧j[col]?=some (.sl [])
theorem Oh.of{t s b}{z:Value}{j}(h:(P.info? t).map (λi=>(i.zero,i.size,i.bytes))=some (some z,s,b))(q:Gd (F1 z)=some j)(u:z.cells[col]?=some (.slice none 0 0))(w:j[col]?=some (.sl [])):Oh P t col j:=by
 obtain⟨i,A,l⟩:=v8.1 h
 simp only[wA] at l
 exact⟨i,z,A,l.1,q,u,w⟩
theorem lI{t}{Y}{l k}(id col:Nat)(e2:TypeId)(sz2:Nat){m:Int}{z0}{r:List α}(ho:o.op=.makeSlice t l k)(ht:Bj P t e sz Y)(hz:Oh P e col (f z0))(Z:Nat.blt 0 sz2=true)
 (hl:Ev true R l (.r (.int .i64 m))) (hk:Ev true R k (.r (.int .i64 m))) (X:mk Y m z0=some r):A7 P true o R h n (.own id n) ((id, some (.rr n e sz col e2 sz2 none (r.map f)))::h) (n+1) := by
  unfold mk at X
  split at X
  case isFalse => cases X
  rename_i T
  cases X
  intro hc z w a0 hH hn he K Q hK
  obtain⟨ah, ii, I, hi, J, a1, a2, a6, an, a7⟩ := ht
  obtain⟨i2, ao, a8, aa, ai, aj, E⟩ := hz
  rw[hi] at a8;cases a8
  rw[a2] at aa;cases aa
  have ab := run_make (P := P) z.w t e ii I ah hi a2 .i64 .i64 m m T.1 (y9 _) (by rw[a1, Int.mul_comm];exact T.2.1) T.2.2
  obtain⟨k1, k2⟩ := LT ai (RT z I)
  have U:(f z0).length=sz := by rw[← k1, a6]
  have ac:col<sz := by rw[← U];exact(vl.1 E).1
  have A:∀i row, ((List.replicate m.toNat z0).map f)[i]?=some row→i<m.toNat∧row=f z0 := by
    intro i row M
    rw[zZ] at M
    obtain⟨q, O⟩ := vl.1 M
    simp only[wZ] at q
    rw[List.getElem_replicate] at O
    exact⟨q, O.symm⟩
  have F:∀i k u, i<m.toNat→k<sz→I.cells[k]?=some u→(madeCells I.cells (m.toNat * ii.size)).toList[i * sz+k]?=some u := by
    intro i k u q ak h3
    have al:i * sz+k<m.toNat * sz := by
      calc i * sz+k<i * sz+sz := by omega
        _=(i+1) * sz := by rw[wo, xc]
        _≤m.toNat * sz := wR _ q
    have ad:(i * sz+k) % I.cells.size=k := by rw[a6, yH, zS, yY ak]
    rw[w0]
    simp only[madeCells, J]
    rw[zY, zT, vh al]
    simp only[xD, ad]
    rw[← h3]
    have ae:k<I.cells.size := by omega
    rw[vr I.cells k ae, wS ae]
  have C:((List.replicate m.toNat z0).map f).length=m.toNat := by simp
  have B:(madeCells I.cells (m.toNat * ii.size)).size=m.toNat * sz := by rw[size_madeCells, J]
  have af := Xo a0 id (.rr z.n e sz col e2 sz2 none ((List.replicate m.toNat z0).map f)) (z.w.alloc (.cells (madeCells I.cells (m.toNat * ii.size)) e)) (some (z.w.heap.size, m.toNat)) (λ_ => none) (z.n+1) (by simp) rfl rfl rfl
    (λb V _ => heap_alloc_old _ _ V) (λb k V => by cases V;simp) (λj b k V => by cases V) (by omega) (by simp[Ab.gen]) (λhg => absurd hg (by simp[Ab.gen, Ab.isCal])) (λhf => by cases hf)
    (λaq => ⟨⟨a7, ac, Cn Z, λrow X => by
        obtain⟨i, M⟩ := yK.1 X
        rw[(A i row M).2];exact U⟩, _, (madeCells I.cells (m.toNat * ii.size)).toList, by rw[C];rfl,
      ⟨by rw[C, wV];exact B, .inr ⟨z.w.heap.size, m.toNat, _, rfl, xd _, heap_alloc_new _ _, by rw[C];exact vu _, by unfold maxLen;omega, B, by rw[C, ← B, ← wV];exact xf⟩⟩,
      λi row k d ar M h2 => by
        obtain⟨q, rfl⟩ := A i row M
        obtain⟨u, h3, h4⟩ := k2 k d h2
        exact⟨u, F i k u q (by rw[← U];exact(vl.1 h2).1) h3, h4.mono (λb V => heap_alloc_old _ _ (a0.S_lt b V)) (λ_ h => h)⟩,
      λi row M => by
        obtain⟨q, rfl⟩ := A i row M
        exact⟨_, F i col _ q ac aj, .inr ⟨(λ_ _ h => by cases h), [], E, (λ_ h => by cases h), ⟨rfl, rfl⟩, [], ⟨by simp, .inl ⟨rfl, rfl⟩⟩, (λi row c d h => by cases h)⟩⟩⟩)
  unfold Oper.wp execOp
  simp only[ho, CZ (hl.rep he hc), CZ (hk.rep he hc), Sem.run_bind, ab, Result.andThen_ok, Sem.run_pure]
  refine hK _ _ af.1 af.2 (by simp only[hH, hn];exact D3 _ _ _) (by simp[hn]) (.own (by simp[hn]) rfl λo' ag _ => ?_)
  simp only[vh] at ag ⊢
  cases ag
  simp[Bm, Ab.shape]
theorem pQ{t e'}{j}{x}{id}{l:List α}(q:o.op=.call { callee:=.builtin .len,args:=#[x],argTypes:=#[t] })(u:EO P t e sz)(w:Ev c R x (.own id g))(A:hget h id=some (.rr g e' j col e2 sz2 hole (l.map f))) :
  AR P c o R h (.r (.int .i64 l.length)):=by
 have:=tP q u w A rfl
 simpa[Ab.shape] using this
theorem RJ{t e'}{x y}{id}{l:List α}{k}{z:Int}{a}(u:o.op=.indexAddr t x y)(w:EO P t e sz)(A:Ev c R x (.own id g))(B:hget h id=some (.rr g e' sz col e2 sz2 hole (l.map f)))
 (C:Ev c R y (.r (.int k z))) (q:c=true→AM l z=some a):AR P c o R h (.ptr id g z.toNat 0) :=
  lW u w A B rfl rfl C (λj => (Ej (q j)).1) λj => by simpa[Ab.shape] using(Ej (q j)).2.2
theorem dH{β:Type}{l:List β}{k}{b}(h:l[k]?=some b):l.set k b=l:=by
 apply List.ext_getElem?
 intro j
 rw[wh]
 split
 ·rename_i e;subst e;rw[vh (vl.1 h).1,h]
 ·rfl
theorem Ln{l:List α}{z:Int}{a}(j:AM l z=some a):(l.map f)[z.toNat]?=some (f a):=by rw[wD,(Ej j).2.1];rfl
theorem iP{t}{x}{id r g'}{l:List α}{z:Int}{a}(j:o.op=.load t x)(q:Bd P t)(u:Ev c R x (.ptr id g z.toNat col))(w:hget h id=some (.rr g e sz col e2 sz2 (some (z.toNat,r,g')) (l.map f)))(A:c=true→AM l z=some a) :
  AR P c o R h (.own r g'):=pw j q u w λB=>Ln (A B)
theorem jq{t}{x}{id}{l:List α}{z:Int}{a}{cs}(j:o.op=.load t x)(q:Bf P t sz)(u:Ev c R x (.ptr id g z.toNat 0))(w:hget h id=some (.rr g e sz col e2 sz2 hole (l.map f)))(A:c=true→AM l z=some a)(hd:((f a).map AV.r).set col (.r .any)=cs) :
  AR P c o R h (.agg cs):=by
 subst hd;exact sB j q u w λB=>Ln (A B)
theorem nj{t}{x y}{id r g' w A}{l:List α}{z:Int}{a}(B:o.op=.store t x y)(C:∃i,P.info? t=some i∧i.size=1)(E:Ev true R x (.ptr id g z.toNat col))(F:hget h id=some (.rr g e sz col e2 sz2 (some (z.toNat,w,A)) (l.map f)))(I:AM l z=some a)(J:Ev true R y (.own r g'))(M:Nat.blt col (f a).length=true) :
  A7 P true o R h n .any ((id,some (.rr g e sz col e2 sz2 (some (z.toNat,r,g')) (l.map f)))::h) n:=by
 have q:=Ln (f:=f) I
 have:=bW (n:=n) (r:=r) (g':=g') (row':=f a) B C E F q J rfl (by have:=Cn M;omega) rfl (vu _) (by simp[BV]) (λb u=>by simp[BV] at u;subst u;rfl) (λj d O hd=>.inr ⟨by omega,hd⟩)
 rwa [dH q] at this
theorem oE{t}{x y}{id r g' C E m}{l:List α}{z:Int}{a v}{b}(F:o.op=.store t x y)(I:∃i, P.info? t=some i∧i.size=m)(J:Ev true R x (.ptr id g z.toNat 0))(M:hget h id=some (.rr g e sz col e2 sz2 (some (z.toNat, C, E)) (l.map f)))(O:AM l z=some a)(T:Ev true R y b)
 (u:(BV b)[col]?=some (.own r g')) (hd:Mh ((BV b).set col (.r .any))=some ((f v).set col .any)) (U:(f v).length=(f a).length) (hm:(f a).length=m) :
    A7 P true o R h n .any ((id, some (.rr g e sz col e2 sz2 (some (z.toNat, r, g')) ((l.set z.toNat v).map f)))::h) n := by
  obtain⟨V, X⟩ := Xa hd
  rw[xM, xM] at V
  have hg:∀j d, j≠col→(f v)[j]?=some d→∃w, (BV b)[j]?=some w∧Hz w=some d := by
    intro j d q Y
    obtain⟨w, A, e2⟩ := X j d (by rw[yT (λh => q h.symm)];exact Y)
    rw[yT (λh => q h.symm)] at A
    exact⟨w, A, e2⟩
  have := bW (n := n) (r := r) (g' := g') (row' := f v) F I J M (Ln (f := f) O) T (by omega) (by omega) U (xd _) u (λw Z => by
    obtain⟨j, q⟩ := yK.1 Z
    by_cases B:j=col
    · subst B;rw[u] at q;cases q;rfl
    · have a0 := (vl.1 q).1
      obtain⟨b2, A, e2⟩ := hg j ((f v)[j]'(by omega)) B (vo _)
      rw[q] at A;cases A
      exact Rn e2) (λj d q hd => .inl ⟨xd _, by have := (vl.1 hd).1;omega, hg j d q hd⟩)
  rwa [← zh] at this
theorem iD{s:St} id r(z:Int){l:List α}{a}{q:List γ}(j:Nat.beq id r=false)(u:hget s.h id=some (.rr g e sz col e2 sz2 none (l.map f)))(w:hget s.h r=none)(A:AM l z=some a)(hc:(f a)[col]?=some (.sl (q.map f2))) :
  Ae s ⟨s.e,(r,some (.arr s.n e2 sz2 (q.map f2)))::(id,some (.rr g e sz col e2 sz2 (some (z.toNat,r,s.n)) (l.map f)))::s.h,s.n+1,s.N⟩:=
 uw id r z.toNat (yG j) u w (Ln A) hc
theorem vT{s:St} id r(z:Int){g'}{l:List α}{a v}{q:List γ}(j:Nat.beq id r=false)(u:hget s.h id=some (.rr g e sz col e2 sz2 (some (z.toNat,r,g')) (l.map f)))(w:hget s.h r=some (.arr g' e2 sz2 (q.map f2)))(A:AM l z=some a)(B:(f a).set col (.sl (q.map f2))=f v) :
  Ae s ⟨s.e,(r,none)::(id,some (.rr g e sz col e2 sz2 none ((l.set z.toNat v).map f)))::s.h,s.n,s.N⟩:=by
 have:=hO id r z.toNat (yG j) u w (Ln A) B
 rwa [← zh] at this
theorem u9{s:St} id r(z:Int){g'}{l:List α}{a v}{q:List γ}(j:Nat.beq id r=false)(w:hget s.h id=some (.rr g e sz col e2 sz2 (some (z.toNat,r,g')) ((l.set z.toNat v).map f)))(A:hget s.h r=some (.arr g' e2 sz2 (q.map f2)))(B:AM l z=some a)(C:(f v).set col (.sl (q.map f2))=f v) :
  Ae s ⟨s.e,(r,none)::(id,some (.rr g e sz col e2 sz2 none ((l.set z.toNat v).map f)))::s.h,s.n,s.N⟩:=by
 have E:=Ej B
 have u:((l.set z.toNat v).map f)[z.toNat]?=some (f v):=by
  rw[wD,wh,vh rfl,vh (by omega)];rfl
 have:=hO id r z.toNat (yG j) w A u C
 rwa [dH u] at this
end
open Go.ChangeMaps (setBlock)
open Go.MapKept Go.RowKit
def FZ:List (Int × Nat)→Int→Option Nat
 | [],_=>none
 | p::r,k=>if k==p.1 then some 0 else(FZ r k).map (· + 1)
def Ep(ks:List (Int × Nat))(us:List Value):List MapEntry:=(ks.zip us).map λp=>{ key:=.int .i64 p.1.1,val:=p.2,born:=p.1.2 }
theorem VK k:∀(ks:List (Int × Nat)) (us:List Value) (i:Nat),us.length=ks.length →
  Instr.findNow (.int .i64) (.int .i64 k) (Ep ks us) i=some ((FZ ks k).map λj=>(i+j,us.getD j undef))
 | [],us,i,_=>by simp[Ep,Instr.findNow,FZ]
 | p::ks,[],i,h=>by simp at h
 | p::ks,u::us,i,h=>by
  have q:=VK k ks us (i+1) (by simpa using h)
  simp only[Ep] at q
  simp only[Ep,List.zip_cons_cons,wB,Instr.findNow,Instr.sameNow,xZ,FZ]
  by_cases w:(k==p.1)=true
  ·simp[w]
  ·have l:(k==p.1)=false:=by simpa using w
   simp only[l,q,xT,yP]
   cases FZ ks k with
   | none=>rfl
   | some j=>simp[xl,yf 1 j]
theorem uM{ks:List (Int × Nat)}{k}{j}(h:FZ ks k=some j):j<ks.length:=by
 induction ks generalizing j with
 | nil=>cases h
 | cons p r l=>
  simp only[FZ] at h
  split at h
  ·cases h;simp
  ·rw[v8] at h
   obtain⟨u,q,rfl⟩:=h
   have:=l q
   simp;omega
section
variable{P:Program}{c:Bool}{o:Oper}{R:AX}{h:AO}{n:Nat}
theorem PU{x:Cx}(l:x.ok){id g clock}{ks:List (Int × Nat)}{vs:List AV}{v}(A:x.H id=some (.mp g ks vs clock))(q:AP x (.mref id g) v) :
  ∃(b:Nat) (us:List Value),x.β id=some (b,1)∧v=.map (some b)∧us.length=ks.length∧vs.length=ks.length∧x.w.heap[b]?=some (.map (Ep ks us).toArray clock) ∧
   ∀(j:Nat) (c:AV) (u:Value),vs[j]?=some c→us[j]?=some u→AP x c u:=by
 obtain⟨_,b,us,B,C,E,F,I⟩:=l.obj _ _ A
 cases q with
 | mref _ _ q=>
  obtain⟨M,cap,w,J⟩:=q _ A rfl
  rw[B] at w
  simp only[vz,wA] at w
  obtain⟨rfl,rfl⟩:=w
  exact⟨b,us,B,J,C,E,F,I⟩
theorem jU{t} id(C:o.op=.makeMap t none):A7 P c o R h n (.mref id n) ((id,some (.mp n [] [] 0))::h) (n+1):=by
 intro O z w q E A T K Q F
 have l:=EV q id (.mp z.n [] [] 0) (z.w.alloc (.map #[] 0)) (some (z.w.heap.size,1)) (z.n+1) (by simp) rfl rfl rfl
  (λb B _=>heap_alloc_old _ _ B) (λb k B=>by cases B;simp) (by omega) (by simp[Ab.gen]) (λhg=>absurd hg (by simp[Ab.gen]))
  (λI=>⟨z.w.heap.size,[],rfl,rfl,rfl,heap_alloc_new _ _,λj c u J _=>by simp at J⟩)
 unfold Oper.wp execOp
 rw[C]
 simp only[Option.map_none,Sem.run_bind,run_makeMap,Result.andThen_ok,Sem.run_pure]
 refine F (.map (some z.w.heap.size)) _ l.1 l.2 (by simp only[E,A];exact D3 _ _ _) (by simp[A]) (.mref (by simp[A]) rfl λU M _=>?_)
 exact⟨z.w.heap.size,1,by simp,rfl⟩
theorem eU{t q u}(B:P.underlying t=some (.map q u))(A:P.underlying q=some (.int .i64)){w:World}{b clock}{ks:List (Int × Nat)}{us:List Value}(C:us.length=ks.length)
 (E:w.heap[b]?=some (.map (Ep ks us).toArray clock)) k l (F:(zeroValue u).run P w=.ok l w) ok :
    (Instr.lookup t (.map (some b)) (.int .i64 k) ok).run P w=.ok (match FZ ks k with
      | some j => if ok then .tuple #[us.getD j undef, .bool true] else us.getD j undef
      | none => if ok then .tuple #[l, .bool false] else l) w := by
  have I := run_findKey (P := P) (w := w) A (VK k ks us 0 C)
  unfold Instr.lookup
  simp only[Sem.run_bind, run_underlying B, Result.andThen_ok, MapKept.run_getObj_map E, Sem.run_pure, run_checkKey A (k := .int .i64 k) (by simp[IsKey]), I]
  cases FZ ks k with
  | none => cases ok<;>simp[F]
  | some j => cases ok<;>simp
theorem uh{t M O}{x i}{id g clock}{ks}{vs}{k}{j}{a}(ok:Bool)(T:Value)(ho:o.op=.lookup t x i ok)(ht:P.underlying t=some (.map M O))
 (hk:P.underlying M=some (.int .i64)) (hz:∀w, (zeroValue O).run P w=.ok T w) (hx:Ev c R x (.mref id g)) (hi:Ev c R i (.r (.int .i64 k))) (U:hget h id=some (.mp g ks vs clock)) (V:FZ ks k=some j) (ha:vs[j]?=some a) :
    AR P c o R h (match ok with | true => .tup [a, .r (.bool true)] | false => a) := by
  intro X z w E Y Z
  obtain⟨b, A, h1, h2, h3, h4, h5, h6⟩ := PU E (by rw[Y];exact U) (hx.rep Z X)
  have l := hi.rep Z X
  generalize F:w.eval i=iv at l
  cases l with
  | r l =>
    cases l with
    | int =>
      have B:j<A.length := by have := uM V;omega
      have u := h6 j a A[j] ha (vo B)
      refine⟨match ok with | true => .tuple #[A[j], .bool true] | false => A[j], λw2 I => ?_, ?_⟩
      · have J:w2.heap[b]?=some (.map (Ep ks A).toArray clock) := by rw[I b (.inr ⟨id, _, 1, by rw[Y];exact U, .inl h1⟩)];exact h5
        simp only[execOp, ho, h2, F, Sem.run_bind, eU ht hk h3 J k T (hz w2) ok, V, Result.andThen_ok, Sem.run_pure]
        cases ok<;>simp[List.getD, vo B]
      · cases ok
        · exact u
        · refine .tup rfl λq a' u' C e2 => ?_
          rcases q with _ | _ | q
          · simp at C e2;subst C;subst e2;exact u
          · simp at C e2;subst C;subst e2;exact .r (.bool true)
          · simp at C
theorem uV{t I J}{x i}{id g clock}{ks}{vs}{k}{a}(ok:Bool)(l:Value)(X:o.op=.lookup t x i ok)(Y:P.underlying t=some (.map I J))
 (Z:P.underlying I=some (.int .i64)) (hz:∀w, (zeroValue J).run P w=.ok l w) (u:∀y:Cx, AP y a l) (hx:Ev c R x (.mref id g)) (hi:Ev c R i (.r (.int .i64 k))) (M:hget h id=some (.mp g ks vs clock)) (hj:FZ ks k=none) :
    AR P c o R h (match ok with | true => .tup [a, .r (.bool false)] | false => a) := by
  intro O z w B T U
  obtain⟨b, us, h1, h2, h3, h4, h5, h6⟩ := PU B (by rw[T];exact M) (hx.rep U O)
  have j := hi.rep U O
  generalize C:w.eval i=iv at j
  cases j with
  | r j =>
    cases j with
    | int =>
      refine⟨match ok with | true => .tuple #[l, .bool false] | false => l, λV E => ?_, ?_⟩
      · have F:V.heap[b]?=some (.map (Ep ks us).toArray clock) := by rw[E b (.inr ⟨id, _, 1, by rw[T];exact M, .inl h1⟩)];exact h5
        simp only[execOp, X, h2, C, Sem.run_bind, eU Y Z h3 F k l (hz V) ok, hj, Result.andThen_ok, Sem.run_pure]
        cases ok<;>simp
      · cases ok
        · exact u z
        · refine .tup rfl λq a' u' A e2 => ?_
          rcases q with _ | _ | q
          · simp at A e2;subst A;subst e2;exact u z
          · simp at A e2;subst A;subst e2;exact .r (.bool false)
          · simp at A
theorem pW{ks:List (Int × Nat)}{us:List Value}(j:us.length=ks.length) k u born :
  Ep (ks++[(k,born)]) (us++[u])=Ep ks us++[{ key:=.int .i64 k,val:=u,born:=born }]:=by
 simp[Ep,List.zip_append j.symm]
theorem aK{t kt et}{x i y}{id g clock}{ks}{vs:List AV}{k}{a}(I:o.op=.mapUpdate t x i y∨o.op=.insert t x i y)(ht:P.underlying t=some (.map kt et))(hk:P.underlying kt=some (.int .i64))
 (hx:Ev c R x (.mref id g)) (hi:Ev c R i (.r (.int .i64 k))) (hy:Ev c R y a) (hh:hget h id=some (.mp g ks vs clock)) (hj:FZ ks k=none) :
    A7 P c o R h n .any ((id, some (.mp g (ks++[(k, clock)]) (vs++[a]) (clock+1)))::h) n := by
  intro M z w q hH hn O K Q hK
  have l:z.H id=some (.mp g ks vs clock) := by rw[hH];exact hh
  obtain⟨b, B, J, h2, T, h4, h5, h6⟩ := PU q l (hx.rep O M)
  have U := hy.rep O M
  have u := hi.rep O M
  generalize V:w.eval i=iv at u
  cases u with
  | r u =>
    cases u with
    | int =>
      have hb := (q.own id _ b 1 l J).1
      have C := EV q id (.mp g (ks++[(k, clock)]) (vs++[a]) (clock+1)) { z.w with heap := z.w.heap.setIfInBounds b (.map (Ep (ks++[(k, clock)]) (B++[w.eval y])).toArray (clock+1)) } (some (b, 1)) z.n (by simp) rfl rfl rfl
        (λb' _ X => by
          have:b≠b' := λe => X _ 1 l (by rw[← e];exact J)
          simp[this])
        (λb' k' Y => by cases Y;exact⟨by simpa using hb, .inr ⟨_, _, l, J⟩⟩) (vu _) (q.obj _ _ l).1 (λ_ => ⟨_, l, rfl, rfl, J.symm⟩)
        (λE => ⟨b, B++[w.eval y], rfl, by simp[T], by simp[h4], by simp[hb];rfl, λj c' u' A e2 => by
          by_cases Z:j<vs.length
          · rw[wO Z] at A
            rw[wO (by omega)] at e2
            exact(h6 j c' u' A e2).mono E
          · have a0:j=vs.length := by
              have := (vl.1 A).1
              simp at this;omega
            subst a0
            rw[wN (vu _)] at A
            rw[wN (by omega)] at e2
            simp at A
            have:vs.length - B.length=0 := by omega
            rw[this] at e2
            simp at e2
            subst A;subst e2
            exact U.mono E⟩)
      have hf := run_findKey (P := P) (w := z.w) hk (VK k ks B 0 T)
      rw[hj] at hf
      have F:(Instr.mapUpdate t (.map (some b)) (.int .i64 k) (w.eval y)).run P z.w=.ok () { z.w with heap := z.w.heap.setIfInBounds b (.map (Ep (ks++[(k, clock)]) (B++[w.eval y])).toArray (clock+1)) } := by
        unfold Instr.mapUpdate
        simp only[Sem.run_bind, run_underlying ht, Result.andThen_ok, MapKept.run_getObj_map h5, run_checkKey hk (k := .int .i64 k) (by simp[IsKey]), hf, Option.map_none]
        rw[run_setObj_map _ h5, pW T]
        simp
      unfold Oper.wp execOp
      rcases I with I | I<;>
      · rw[I]
        simp only[h2, V, Sem.run_bind, F, Result.andThen_ok, Sem.run_pure]
        exact hK undef _ C.1 C.2 (by simp only[hH];exact D3 _ _ _) hn (.any _)
theorem qr{t U V}{x}{id g clock}{ks}{vs}(j:Nat)(J:o.op=.range t x)(M:P.underlying t=some (.map U V))(X:Ev c R x (.mref id g))(Y:hget h id=some (.mp g ks vs clock)) :
  A7 P c o R h n (.ptr j n 0 0) ((j,some (.mi n id g clock [] clock))::h) (n+1):=by
 intro Z z w A I E he K Q O
 have l:=X.rep he Z
 obtain⟨b,us,h1,F,h3,h4,T,h6⟩:=PU A (by rw[I];exact Y) l
 by_cases Ca:j=id
 ·subst Ca
  have q:=EV A j (.mi z.n j g clock [] clock) (z.w.alloc (.mapIter (some b) clock #[] clock)) (some (z.w.heap.size,1)) (z.n+1) (by simp) rfl rfl rfl
   (λb B _=>heap_alloc_old _ _ B) (λb k B=>by cases B;simp) (by omega) (by simp[Ab.gen]) (λhg=>absurd hg (by simp[Ab.gen]))
   (λC=>⟨z.w.heap.size,b,rfl,heap_alloc_new _ _,by rw[F] at l;exact l.mono C⟩)
  unfold Oper.wp execOp
  rw[J]
  simp only[F,Sem.run_bind,run_range_map _ _ _ _ _ _ _ M T,Result.andThen_ok,Sem.run_pure]
  refine O (.pointer (some ⟨z.w.heap.size,0,none⟩)) _ q.1 q.2 (by simp only[I,E];exact D3 _ _ _) (by simp[E]) (.ptr (by simp[E]) rfl λo' u _=>?_)
  simp only[vh] at u
  cases u
  exact⟨z.w.heap.size,1,by simp,by simp⟩
 ·have q:=EV A j (.mi z.n id g clock [] clock) (z.w.alloc (.mapIter (some b) clock #[] clock)) (some (z.w.heap.size,1)) (z.n+1) (by simp) rfl rfl rfl
   (λb B _=>heap_alloc_old _ _ B) (λb k B=>by cases B;simp) (by omega) (by simp[Ab.gen]) (λhg=>absurd hg (by simp[Ab.gen]))
   (λC=>⟨z.w.heap.size,b,rfl,heap_alloc_new _ _,by rw[F] at l;exact l.mono C⟩)
  unfold Oper.wp execOp
  rw[J]
  simp only[F,Sem.run_bind,run_range_map _ _ _ _ _ _ _ M T,Result.andThen_ok,Sem.run_pure]
  refine O (.pointer (some ⟨z.w.heap.size,0,none⟩)) _ q.1 q.2 (by simp only[I,E];exact D3 _ _ _) (by simp[E]) (.ptr (by simp[E]) rfl λo' u _=>?_)
  simp only[vh] at u
  cases u
  exact⟨z.w.heap.size,1,by simp,by simp⟩
end
end Go.Proofs.YtgcalnmhoifpoaaGreatDoor.Al

namespace Go.Proofs.YtgcalnmhoifpoaaGreatDoor.Al
open Go.ChangeMaps (setBlock)
open Go.MapKept Go.RowKit
set_option linter.unusedVariables false
section
variable{P:Program}{ops:Array Oper}{rest:List Oper}{s:St}{K:St→Prop}{o:Oper}
def G7(P:Program)(j:List ResultVar)(K:AV→AO→Nat→Prop):Exit→St→Prop
 | .normal,s | .ret,s=>∃r,Jm P j s r∧K r s.h s.n
 | _,_=>False
theorem gb{f}{fn:Func}{code}{args:List AV}{vs:Array Value}{h}{n N}{z:Cx}{K}(hf:P.funcs[f]?=some fn)(hb:fn.body=some code)(hN:fn.ntmps=N)
 (Y:args.length≤N) (I:z.ok) (hH:z.H=hget h) (hn:z.n=n) (w:H9 z args vs.toList) (hw:AW P code (G7 P fn.results.toList K) ⟨DW 0 args, h, n, N⟩) :
    Calls P f vs z.w λe w' => ∃u y r h' n', e=.returned u∧y.w=w'∧z.le y∧y.ok∧y.H=hget h'∧y.n=n'∧AP y r u∧K r h' n' := by
  have X:vs.size=args.length := by simpa using w.1
  have J:EU z ⟨DW 0 args, h, n, N⟩ { tmps := vs++Array.replicate (fn.ntmps - vs.size) undef, defers := [] } z.w := by
    refine⟨_, rfl, by simp;omega, z, rfl, .refl z, I, hH, hn, λt => ?_⟩
    rcases TP args 0 t with T | ⟨j, a, T, U, h3⟩
    · rw[T];exact .any _
    · rw[h3]
      have Z:j<vs.size := by rw[X];exact(vl.1 U).1
      have ht:t=j := by omega
      subst ht
      have:(vs++Array.replicate (fn.ntmps - vs.size) undef).getD t undef=vs[t] := by
        simp[Array.getD, Z]
        omega
      rw[this]
      exact w.2 t a vs[t] U (by simp[Z])
  have M:∀ {e:Exit} {a:Act} {y:Cx} {s:St}, (∃r, Jm P fn.results.toList s r∧K r s.h s.n)→z.le y→y.ok→y.H=hget s.h→y.n=s.n→B6 y s.e a →
      ∃u, (results fn a.tmps).run P y.w=.ok u y.w∧∃u' E r h' n', Ending.returned u=.returned u'∧E.w=y.w∧z.le E∧E.ok∧E.H=hget h'∧E.n=n'∧AP E r u'∧K r h' n' := by
    intro e a y s ⟨r, T, U⟩ B q A C V
    obtain⟨u, O, hu⟩ := Yu (P := P) q A V T
    exact⟨u, O, u, y, r, s.h, s.n, rfl, rfl, B, q, A, C, hu, U⟩
  refine RA hf hb I J (hw) λe s a y F B q A C V => ?_
  cases e with
  | normal => exact⟨.inl rfl, M (e := .normal) F B q A C V⟩
  | ret => exact⟨.inr rfl, M (e := .ret) F B q A C V⟩
  | exit id => exact F.elim
  | goto l => exact F.elim
  | panic ch => exact F.elim
  | outgrown => exact F.elim
theorem Sb{f}{fn:Func}{code}{fo}{xs:Array Operand}{O}{caps bs:List AV}{R}{h}{n N}{a:Act}{z:Cx}{K0}
 (ho : o.op = .call { callee := .value fo, args := xs, argTypes := O }) (T : Ev true R fo (.fn f caps)) (hx : H1 true R xs.toList bs) (hf : P.funcs[f]? = some fn) (hb : fn.body = some code) (q : (fn.name == "runtime.NumGoroutine") = false)
 (hN:fn.ntmps=N) (A:(bs++caps).length≤N) (U:z.ok) (hH:z.H=hget h) (hn:z.n=n) (he:B6 z R a) (hw:AW P code (G7 P fn.results.toList K0) ⟨DW 0 (bs++caps), h, n, N⟩) (K:Act→World→Prop) (Q:Exit→Act→World→Prop)
 (hK:∀(u:Value) (y:Cx) (r:AV) (I:AO) (J:Nat), z.le y→y.ok→y.H=hget I→y.n=J→AP y r u→K0 r I J→K (a.put o.dst u) y.w):o.wp P a z.w K Q := by
  obtain⟨l, V⟩ := hx.rep rfl he
  have hv := T.rep he rfl
  generalize X:a.eval fo=v at hv
  cases hv with
  | @fn _ _ us hl B =>
    have C := Nq (P := P) ⟨fn, hf, by rw[hb];rfl, q⟩ ho X z.w
    have w:H9 z (bs++caps) (xs.map a.eval++us).toList := by
      refine⟨by simp[hl];simpa using l.symm, λi b u M h2 => ?_⟩
      have j:((xs.toList.map a.eval)++us.toList)[i]?=some u := by simpa using h2
      by_cases hi:i<bs.length
      · rw[wO hi] at M
        rw[wO (by simp at l ⊢;omega)] at j
        exact V i b u M j
      · rw[wN (by omega)] at M
        rw[wN (by simp at l ⊢;omega)] at j
        have E:(xs.toList.map a.eval).length=bs.length := by simpa using l.symm
        rw[E] at j
        exact B _ b u M (by simpa using j)
    unfold Oper.wp
    rw[C]
    refine(gb hf hb hN A U hH hn w hw).mono λe w' ⟨u, y, r, I, J, he', Y, Z, F, a0, a1, a2, hk⟩ => ?_
    subst he'
    subst Y
    exact hK u y r I J Z F a0 a1 a2 hk
theorem vI{d}{f}{fn:Func}{code}{fo}{xs:Array Operand}{C}{N}(caps bs:List AV)(hg:o.guard=none)(hd:o.dst=some d)(E:Nat.blt d s.N=true)
 (ho : o.op = .call { callee := .value fo, args := xs, argTypes := C }) (F : Ev true s.e fo (.fn f caps)) (hx : H1 true s.e xs.toList bs) (hf : P.funcs[f]? = some fn) (hb : fn.body = some code) (j : (fn.name == "runtime.NumGoroutine") = false)
 (hN:fn.ntmps=N) (l:Nat.ble (bs++caps).length N=true)
 (hw:AW P code (G7 P fn.results.toList λr Y Z => AL P ops rest { e := (d, r)::s.e, h := Y, n := Z, N := s.N } K) ⟨DW 0 (bs++caps), s.h, s.n, N⟩):AL P ops (o::rest) s K := by
  intro c0 a w ⟨_, q, hsz, y, I, J, M, hH, hn, he⟩ Q hQ
  subst I
  refine wpList_plain hg λK' O => ?_
  refine Sb ho F hx hf hb j hN (wj l) M hH hn he hw K' Q λu z r Y Z A B T U V hr => ?_
  refine O _ _ ?_
  have X:d<a.tmps.size := by rw[hsz];exact Cn E
  rw[hd]
  exact hr c0 (a.put (some d) u) z.w ⟨_, q, by simpa[Act.put] using hsz, z, rfl, J.trans A, B, T, U, (he.mono A).put X V⟩ Q hQ
theorem vB{f}{fn:Func}{code}{fo}{xs:Array Operand}{C}{N}(caps bs:List AV)(hg:o.guard=none)(hd:o.dst=none)
 (Y : o.op = .call { callee := .value fo, args := xs, argTypes := C }) (E : Ev true s.e fo (.fn f caps)) (Z : H1 true s.e xs.toList bs) (hf : P.funcs[f]? = some fn) (hb : fn.body = some code) (j : (fn.name == "runtime.NumGoroutine") = false)
 (hN:fn.ntmps=N) (l:Nat.ble (bs++caps).length N=true)
 (hw:AW P code (G7 P fn.results.toList λ_ U V => AL P ops rest { e := s.e, h := U, n := V, N := s.N } K) ⟨DW 0 (bs++caps), s.h, s.n, N⟩):AL P ops (o::rest) s K := by
  intro c0 a w ⟨_, q, hsz, y, F, I, J, hH, hn, X⟩ Q hQ
  subst F
  refine wpList_plain hg λK' M => ?_
  refine Sb Y E Z hf hb j hN (wj l) J hH hn X hw K' Q λu z r U V A B O T a0 hr => ?_
  refine M _ _ ?_
  rw[hd]
  exact hr c0 _ z.w ⟨_, q, hsz, z, rfl, I.trans A, B, O, T, X.mono A⟩ Q hQ
def H7(P:Program)(x:Code)(Q:Exit→St→Prop):Nat→St→Prop
 | 0,_=>False
 | n+1,s=>AW P x (E6 (H7 P x Q n) Q) s
theorem H7.step{Q}{x}{n}(h:AW P x (E6 (H7 P x Q n) Q) s):H7 P x Q (n+1) s:=h
theorem vV{Q}{x}(n:Nat)(h:H7 P x Q n s):AW P (.loop x) Q s:=by
 refine AW.loop (λm s=>H7 P x Q m s) n ⟨s,Ae.refl s,h⟩ λm s j=>?_
 cases m with
 | zero=>exact j.elim
 | succ m=>
  refine AW.mono (show AW P x (E6 (H7 P x Q m) Q) s from j) λe l q=>?_
  cases e with
  | normal=>exact⟨m,yp m,l,Ae.refl l,q⟩
  | _=>exact q
theorem pb{x:Cx}(q:x.ok){id g l A j last}{Bi:List Nat}{v}(B:x.H id=some (.mi g l A j Bi last))(u:AP x (.ptr id g 0 0) v) :
  ∃b m:Nat,x.β id=some (b,1)∧v=.pointer (some ⟨b,0,none⟩)∧x.w.heap[b]?=some (.mapIter (some m) j Bi.toArray last)∧AP x (.mref l A) (.map (some m)):=by
 obtain⟨_,b,m,C,E,F⟩:=q.obj _ _ B
 cases u with
 | ptr _ _ u=>
  obtain⟨J,cap,w,I⟩:=u _ B rfl
  rw[C] at w
  simp only[vz,wA] at w
  obtain⟨rfl,rfl⟩:=w
  exact⟨b,m,C,by rw[I,zR],E,F⟩
section
variable{c:Bool}{R:AX}{h:AO}{n:Nat}
theorem sM{x:Operand}{id g B O j last clock k born:Nat}{ks:List (Int × Nat)}{vs:List AV}{Bi:List Nat}(V:o.op=.next x false)(X:Ev c R x (.ptr id g 0 0))(Y:hget h id=some (.mi g B O j Bi last))
  (Z:hget h B=some (.mp O ks vs clock)) (C:(ks.all λp=>decide (p.2<j))=true) (I:Nat.ble j last=true) (E:(ks.all λp=>Bi.contains p.2)=true) :
  A7 P c o R h n (.tup [.r (.bool false)]) h n:=by
 intro hc z w l J hn he K Q hK
 obtain⟨b,m,h1,h2,h3,h4⟩:=pb l (by rw[J];exact Y) (X.rep he hc)
 obtain⟨bm,T,k1,k2,k3,k4,k5,k6⟩:=PU l (by rw[J];exact Z) h4
 cases k2
 have q:∀e∈(Ep ks T).toArray.toList,e.born<j:=by
  intro e he'
  simp only[Ep,wu] at he'
  obtain⟨p,hp,rfl⟩:=he'
  have:=wI.1 C p.1 (List.of_mem_zip hp).1
  simpa using this
 have A:leftOf (Ep ks T).toArray Bi.toArray = #[]:=by
  unfold leftOf
  rw[Array.filter_eq_empty_iff]
  intro e he'
  simp only[Ep,List.mem_toArray,wu] at he'
  obtain⟨p,hp,rfl⟩:=he'
  have:=wI.1 E p.1 (List.of_mem_zip hp).1
  simpa using this
 unfold Oper.wp execOp
 rw[V]
 have F:(Instr.next (.pointer (some ⟨b,0,none⟩)) false o.type).run P z.w=.ok (.tuple #[.bool false]) z.w:=by
  rcases run_next_at (P:=P) z.w o.type b m j last Bi.toArray _ clock h3 k5 q (wj I) with ⟨_,h⟩ | ⟨e,he',_⟩
  ·exact h
  ·rw[A] at he';simp at he'
 simp only[h2,Sem.run_bind,F,Result.andThen_ok,Sem.run_pure]
 refine hK (.tuple #[.bool false]) z (Cx.le.refl z) l J hn (.tup rfl λi a u M U=>?_)
 rcases i with _ | i
 ·simp at M U;subst M;subst U;exact .r (.bool false)
 ·simp at M
end
end
end Go.Proofs.YtgcalnmhoifpoaaGreatDoor.Al

namespace Go.Proofs.YtgcalnmhoifpoaaGreatDoor.Al
section
variable{P:Program}{ops:Array Oper}{rest:List Oper}{s:St}{K:St→Prop}{o:Oper}
theorem AR.no{c}{R}{h}{v}(hc:c=false):AR P c o R h v:=λh=>by rw[hc] at h;cases h
theorem vU{c}{d}{f}{fn:Func}{code}{fo}{xs:Array Operand}{E}{N} caps bs(hG:CS s.e ops o c)(hc:c=true)(hd:o.dst=some d)(F:Nat.blt d s.N=true)
 (ho : o.op = .call { callee := .value fo, args := xs, argTypes := E }) (I : Ev true s.e fo (.fn f caps)) (hx : H1 true s.e xs.toList bs) (hf : P.funcs[f]? = some fn) (hb : fn.body = some code) (j : (fn.name == "runtime.NumGoroutine") = false)
 (hN:fn.ntmps=N) (l:Nat.ble (bs++caps).length N=true)
 (hw:∀C:AV→AO→Nat→Prop, (∀r J M, AL P ops rest { e := (d, r)::s.e, h := J, n := M, N := s.N } K→C r J M)→AW P code (G7 P fn.results.toList C) ⟨DW 0 (bs++caps), s.h, s.n, N⟩):AL P ops (o::rest) s K := by
  intro c0 a w ⟨_, q, hsz, y, O, T, U, hH, hn, V⟩ Q hQ
  subst O
  refine wpList_step λC X => ?_
  rw[hG.wanted V, vh hc]
  refine Sb ho I hx hf hb j hN (wj l) U hH hn V (hw _ λ_ _ _ h => h) C Q λu z r J M A B Y Z a0 hr => ?_
  refine X _ _ ?_
  have a1:d<a.tmps.size := by rw[hsz];exact Cn F
  rw[hd]
  exact hr c0 (a.put (some d) u) z.w ⟨_, q, by simpa[Act.put] using hsz, z, rfl, T.trans A, B, Y, Z, (V.mono A).put a1 a0⟩ Q hQ
end
end Go.Proofs.YtgcalnmhoifpoaaGreatDoor.Al

set_option linter.unusedVariables false
namespace Go.Proofs.YtgcalnmhoifpoaaGreatDoor.Al
def Hr(P:Program)(t:TypeId):Option (Option Value × Nat × Nat):=(P.info? t).map λi=>(i.zero,i.size,i.bytes)
def LK(P:Program)(t:TypeId):Bool:=match P.underlying t,Hr P t with
 | some d,some (some _,sz,_)=>GG d&&Nat.beq sz 1
 | _,_=>false
def KM(P:Program)(t:TypeId):Option Nat:=match P.underlying t,Hr P t with
 | some d,some (some _,sz,_)=>if GG d then none else some sz
 | _,_=>none
def UL(P:Program)(t:TypeId):Option Nat:=match Hr P t with
 | some (some _,sz,_)=>some sz
 | _=>none
def QD(P:Program)(t:TypeId):Option Value:=match Hr P t with
 | some (some z,_,_)=>some z
 | _=>none
def PV(P:Program)(t:TypeId):Option TypeId:=match P.underlying t with
 | some (.map j l)=>match P.underlying j with
  | some (.int .i64)=>some l
  | _=>none
 | _=>none
theorem UX{P:Program}{t l}(h:PV P t=some l):∃j,P.underlying t=some (.map j l)∧P.underlying j=some (.int .i64):=by
 unfold PV at h
 split at h
 ·rename_i j q u
  split at h
  ·rename_i w;cases h;exact⟨j,u,w⟩
  ·cases h
 ·cases h
def HS(P:Program)(t:TypeId):Option (TypeId × Nat × Nat):=match P.underlying t with
 | some (.slice e)=>match Hr P e with
  | some (some z,sz,b)=>if z.cells.size=sz∧z.cells.toList.all Value.oneCell'=true∧0<sz then some (e,sz,b) else none
  | _=>none
 | _=>none
def Vp(P:Program)(t:TypeId)(f:Nat):Option Nat:=match P.underlying t with
 | some (.struct l)=>match l[f]? with
  | some j=>match Hr P j.type with
   | some (some _,sz,_)=>if sz=0 then none else some j.offset
   | _=>none
  | none=>none
 | _=>none
def WN(P:Program)(t:TypeId)(f:Nat):Option Nat:=match P.underlying t with
 | some (.struct l)=>match l[f]? with
  | some j=>match P.underlying j.type with
   | some d=>if GG d then some j.offset else none
   | none=>none
  | none=>none
 | _=>none
section
variable{P:Program}{t:TypeId}
theorem QR(h:LK P t=true):Bd P t:=by
 unfold LK at h
 split at h
 ·rename_i d z sz b j l
  simp only[vm] at h
  have:=vx h.2
  subst this
  exact Bd.of j h.1 l
 ·cases h
theorem Ot{sz}(h:KM P t=some sz):Bf P t sz:=by
 unfold KM at h
 split at h
 ·rename_i d z j b l q
  split at h
  ·cases h
  ·rename_i u;cases h
   exact Bf.of l (by simpa using u) q
 ·cases h
theorem cF{sz}(h:UL P t=some sz):∃i,P.info? t=some i∧i.size=sz:=by
 unfold UL at h
 split at h
 ·rename_i z j b l;cases h;exact DE l
 ·cases h
theorem Us{z}(h:QD P t=some z):CO P t z:=by
 unfold QD at h
 split at h
 ·rename_i q j b l;cases h;exact CO.of l
 ·cases h
theorem Io{e}{sz b}(h:HS P t=some (e,sz,b)):Bj P t e sz b:=by
 unfold HS at h
 split at h
 ·rename_i w l
  split at h
  ·rename_i z q A u
   split at h
   ·rename_i j;cases h;exact Bj.of l u j.1 j.2.1 j.2.2
   ·cases h
  ·cases h
 ·cases h
theorem aV{f off}(h:Vp P t f=some off):AY P t f off:=by
 unfold Vp at h
 split at h
 ·rename_i w j
  split at h
  ·rename_i A l
   split at h
   ·rename_i z sz b q
    split at h
    ·cases h
    ·rename_i u;cases h;exact AY.of j l rfl q u
   ·cases h
  ·cases h
 ·cases h
theorem tu{f off}(h:WN P t f=some off):Iu P t f off:=by
 unfold WN at h
 split at h
 ·rename_i w j
  split at h
  ·rename_i A l
   split at h
   ·rename_i d q
    split at h
    ·rename_i u;cases h;exact Iu.of j l rfl q u
    ·cases h
   ·cases h
  ·cases h
 ·cases h
end
def I2:List UInt8→UInt8→Int→Int
 | [],_,_=>-1
 | b::l,c,k=>match b==c with
  | true=>k
  | false=>I2 l c (k+1)
theorem gx:∀(l:List UInt8) (c:UInt8),-1≤Lib.indexByte l c
 | [],_=>by simp[Lib.indexByte]
 | b::l,c=>by
  have:=gx l c
  simp only[Lib.indexByte]
  split
  ·omega
  ·split
   ·omega
   ·omega
theorem ZQ:∀(l:List UInt8) (c:UInt8) (k:Int),0≤k→I2 l c k=if Lib.indexByte l c = -1 then -1 else Lib.indexByte l c+k
 | [],_,_,_=>by simp[I2,Lib.indexByte]
 | b::l,c,k,w=>by
  have hg:=gx l c
  have e:Lib.indexByte (b::l) c=(if(b==c)=true then 0 else if(Lib.indexByte l c == -1)=true then -1 else Lib.indexByte l c+1):=rfl
  have e2:I2 (b::l) c k=(match b==c with | true=>k | false=>I2 l c (k+1)):=rfl
  generalize Lib.indexByte (b::l) c=z at e ⊢
  rw[e2]
  cases q:b==c
  ·rw[q] at e
   simp only[xT,yP] at e
   show I2 l c (k+1)=_
   rw[ZQ l c (k+1) (by omega),e]
   by_cases j:Lib.indexByte l c = -1
   ·rw[j];simp
   ·have u:(Lib.indexByte l c == -1)=false:=by simpa using j
    rw[vg j,u]
    simp only[xT,yP]
    rw[vg (by omega)];omega
  ·rw[q] at e
   simp only[xZ] at e
   rw[e];simp
theorem jH l c:I2 l c 0=Lib.indexByte l c:=by
 rw[ZQ l c 0 (y9 _)]
 split
 ·rename_i h;rw[h]
 ·omega
def VE (fn : Func) : Bool := fn.body.isNone && (fn.name == "internal/bytealg.IndexByteString" && fn.origin == "")
theorem oY {fn : Func} (h : fn.name = "internal/bytealg.IndexByteString") (j : fn.origin = "") : Extern.find fn = some Extern.BytealgIndexByte.indexByte ∧ Extern.findNext fn = none := by
 have l : Extern.allGenericRows.lookup "internal/bytealg.IndexByteString" = none := by kernel_rfl
 have q : Extern.allTypedRows.lookup "internal/bytealg.IndexByteString" = none := by kernel_rfl
 have u : Extern.allRows.lookup "internal/bytealg.IndexByteString" = some Extern.BytealgIndexByte.indexByte := by kernel_rfl
 have w : Extern.allNextRows.lookup "" = none := by kernel_rfl
 have A : Extern.allNextRows.lookup "internal/bytealg.IndexByteString" = none := by kernel_rfl
 constructor
 ·unfold Extern.find
  simp only[h,l,q,u]
  rfl
 ·unfold Extern.findNext
  simp only[h,j,A,w]
  rfl
section
variable{P:Program}{c:Bool}{o:Oper}{R:AX}{h:AO}
theorem tb{f}{fn:Func}{fo x y}{C}{s:List UInt8}{m:Int}(Z:o.op=.call { callee := .value fo, args := #[x, y], argTypes := C })(J:P.funcs[f]?=some fn)(u:VE fn=true)(E:Ev c R fo (.fn f []))
 (M:Ev c R x (.r (.str s))) (O:Ev c R y (.r (.int .u8 m))):AR P c o R h (.r (.int .i64 (Lib.indexByte s m.toNat.toUInt8))) := by
  intro A z w _ _ B
  refine⟨.int .i64 (Lib.indexByte s m.toNat.toUInt8), λw2 _ => ?_, .r (.int _ _)⟩
  simp only[VE, vm, zg] at u
  obtain⟨T, U⟩ := oY u.2.1 u.2.2
  have V := E.rep B A
  generalize F:w.eval fo=v at V
  cases V with
  | @fn _ _ X hl Y =>
    have I:X = #[] := by
      have:X.size=0 := hl.symm
      exact Array.eq_empty_of_size_eq_zero this
    subst I
    unfold execOp
    rw[Z]
    simp only[resolve, F, Deferred.ofValue, Sem.run_bind, Sem.run_pure, Result.andThen_ok, invoke]
    have q:(#[x, y].map w.eval ++ #[]:Array Value) = #[.string ⟨s.toArray⟩, .int .u8 m] := by
      simp[Hg (M.rep B A), CZ (O.rep B A)]
    have l:(#[] ++ #[x, y].map w.eval ++ #[]:Array Value) = #[.string ⟨s.toArray⟩, .int .u8 m] := by
      simp[Hg (M.rep B A), CZ (O.rep B A)]
    have j : (fn.name == "runtime.NumGoroutine") = false := by rw [u.2.1]; rfl
    first
      | rw[q, run_callFunc_extern J j u.1 U T, Lib.run_indexByteString];rfl
      | rw[l, run_callFunc_extern J j u.1 U T, Lib.run_indexByteString];rfl
end
def Ap(R:AX)(x:Operand):AV:=match BK R x with
 | .whn true v=>v
 | v=>v
theorem BM c R x:Ev c R x (Ap R x):=by
 unfold Ap Ev
 split
 ·rename_i v h;exact .inr ⟨true,λ_=>rfl,h⟩
 ·exact .inl rfl
section
variable{P:Program}{c:Bool}{o:Oper}{R:AX}{h:AO}
def XV(P:Program)(op:BinOp)(t:TypeId):AV→AV→Option AV
 | .r (.int k m),.r (.int j n)=>if k=j then match op with
   | .add=>some (.r (.int k (k.wrap (m+n))))
   | .sub=>some (.r (.int k (k.wrap (m-n))))
   | .mul=>if k.wrap (m * n)=m * n then some (.r (.int k (m * n))) else none
   | .quo=>if n≠0∧k.wrap (m.tdiv n)=m.tdiv n then some (.r (.int k (m.tdiv n))) else none
   | .rem=>if n≠0 then some (.r (.int k (m.tmod n))) else none
   | .eql=>some (.r (.bool (decide (m=n))))
   | .neq=>some (.r (.bool (!(m=n))))
   | .lss=>some (.r (.bool (decide (m<n))))
   | .leq=>some (.r (.bool (decide (m≤n))))
   | .gtr=>some (.r (.bool (decide (n<m))))
   | .geq=>some (.r (.bool (decide (n≤m))))
   | _=>none
  else none
 | .r (.str a),.r (.str b)=>match op with
   | .eql=>some (.r (.bool (decide (a=b))))
   | .neq=>some (.r (.bool (!(a=b))))
   | .lss=>some (.r (.bool (Ay a b)))
   | .geq=>some (.r (.bool (!Ay a b)))
   | .leq=>some (.r (.bool (Ay a b||(a=b))))
   | .gtr=>some (.r (.bool (!(Ay a b||(a=b)))))
   | .add=>if a.length+b.length≤9223372036854775807 then some (.r (.str (a++b))) else none
   | _=>none
 | .r (.bool m),.r (.bool n)=>match P.underlying t with
   | some .bool=>match op with
    | .eql=>some (.r (.bool (m==n)))
    | .neq=>some (.r (.bool (!(m==n))))
    | _=>none
   | _=>none
 | _,_=>none
theorem mm{op}{t B}{x y}{a b v}(l:o.op=.binOp op t x y B)(q:Ev c R x a)(u:Ev c R y b)(j:XV P op t a b=some v):AR P c o R h v := by
  unfold XV at j
  split at j
  · split at j
    · rename_i C;subst C
      cases op<;>dsimp only at j<;>first
        | (cases j;first | exact uc l q u | exact tY l q u | exact Am l q u | exact Ct l q u | exact B5 l q u | exact FG l q u | exact A9 l q u | exact C1 l q u)
        | (split at j
           · rename_i w;cases j;first | exact nR l q u w | exact lK l q u w.1 w.2 | exact uU l q u w
           · cases j)
        | (cases j;done)
    · cases j
  · cases op<;>dsimp only at j<;>first
      | (cases j;first | exact Cz l q u | exact DJ l q u | exact LP l q u | exact Wy l q u | exact dQ l q u | exact ku l q u)
      | (split at j
         · rename_i w;cases j;exact tT l q u w
         · cases j)
      | (cases j;done)
  · split at j
    · rename_i A
      cases op<;>dsimp only at j<;>first
        | (cases j;first | exact gU l A q u | exact X2 l A q u)
        | (cases j;done)
    · cases j
  · cases j
def Sh:Nat→List Field→Bool
 | _,[]=>true
 | i, f :: j => (!(f.name == "_") && Nat.beq f.offset i) && Sh (i + 1) j
def XG(P:Program)(t:TypeId):Option (List (Option TypeDesc)):=match P.underlying t with
 | some (.struct j)=>if(P.stoodInHeld t=false∧P.eqGuardType P.depth t=false)∧Sh 0 j.toList=true then some (j.toList.map λf=>P.underlying f.type) else none
 | _=>none
theorem gk:∀ {j:List Field} {i:Nat},Sh i j=true→PJ P i j (j.map λf=>P.underlying f.type)
 | [],_,_=>trivial
 | f::j,i,h=>by
  simp only[Sh,vm,wl] at h
  exact⟨h.1.1,vx h.1.2,rfl,gk h.2⟩
theorem aL{t}{l}(h:XG P t=some l):FS P t l:=by
 unfold XG at h
 split at h
 ·rename_i u q
  split at h
  ·rename_i j;cases h;exact FS.of q j.1.1 j.1.2 (gk j.2)
  ·cases h
 ·cases h
def Xj(P:Program)(op:BinOp)(t:TypeId):AV→AV→Option AV
 | .agg j,.agg l=>match XG P t with
  | some q=>match Hy q j l with
   | some r=>match op with
    | .eql=>some (.r (.bool r))
    | .neq=>some (.r (.bool (!r)))
    | _=>none
   | none=>none
  | none=>none
 | _,_=>none
theorem ov{op}{t B}{x y}{a b v}(l:o.op=.binOp op t x y B)(q:Ev c R x a)(u:Ev c R y b)(j:Xj P op t a b=some v):AR P c o R h v:=by
 unfold Xj at j
 split at j
 ·split at j
  ·rename_i C w
   split at j
   ·rename_i r A
    split at j
    ·cases j;exact Yk l (aL w) q u A
    ·cases j;exact L6 l (aL w) q u A
    ·cases j
   ·cases j
  ·cases j
 ·cases j
def We(op:BinOp):AV→AV→Option AV
 | .r (.int k m),.r (.int _ n)=>if 0≤n then match op with
   | .shl=>some (.r (.int k (Dv k m n.toNat)))
   | .shr=>some (.r (.int k (Fo k m n.toNat)))
   | _=>none
  else none
 | _,_=>none
def UJ(op:BinOp):AV→AV→Option AV
 | .r (.int k m),.r (.int j n)=>if k=j then match op with
   | .and=>some (.r (.int k (Ch k m n)))
   | .or=>some (.r (.int k (ET k m n)))
   | .xor=>some (.r (.int k (Uo k m n)))
   | .andNot=>some (.r (.int k (PT k m n)))
   | _=>none
  else none
 | _,_=>none
theorem qo{op}{t w}{x y}{a b v}(l:o.op=.binOp op t x y w)(q:Ev c R x a)(u:Ev c R y b)(j:UJ op a b=some v):AR P c o R h v:=by
 unfold UJ at j
 split at j
 ·split at j
  ·rename_i A;subst A
   split at j
   ·cases j;exact Gg l q u
   ·cases j;exact JN l q u
   ·cases j;exact oy l q u
   ·cases j;exact Xx l q u
   ·cases j
  ·cases j
 ·cases j
theorem mn{op}{t w}{x y}{a b v}(q:o.op=.binOp op t x y w)(u:Ev c R x a)(l:Ev c R y b)(j:We op a b=some v):AR P c o R h v:=by
 unfold We at j
 split at j
 ·split at j
  ·rename_i A
   rw[← Int.toNat_of_nonneg A] at l
   split at j
   ·cases j;exact Jv q u l
   ·cases j;exact SA q u l
   ·cases j
  ·cases j
 ·cases j
def vZ:AV→Option Bool
 | .r (.bool b)=>some b
 | .whn _ (.r (.bool b))=>some b
 | _=>none
def UA(R:AX)(x y z:Operand):Option AV:=
 match Ap R x with
 | .r (.bool a)=>
  match z with
  | .const (.bool false)=>match a,BK R y with
   | true,.r (.bool b)=>some (.r (.bool b))
   | true,.whn true (.r (.bool b))=>some (.r (.bool b))
   | false,.r (.bool _)=>some (.r (.bool false))
   | false,.whn _ (.r (.bool _))=>some (.r (.bool false))
   | _,_=>none
  | _=>match y with
   | .const (.bool true)=>match a,BK R z with
    | false,.r (.bool b)=>some (.r (.bool b))
    | false,.whn true (.r (.bool b))=>some (.r (.bool b))
    | true,.r (.bool _)=>some (.r (.bool true))
    | true,.whn _ (.r (.bool _))=>some (.r (.bool true))
    | _,_=>none
   | _=>none
 | _=>none
theorem lN{x y z}{v}(u:o.op=.pick x y z)(j:UA R x y z=some v):AR P c o R h v:=by
 unfold UA at j
 have q:=BM c R x
 split at j
 ·rename_i a A
  rw[A] at q
  split at j
  ·split at j
   ·rename_i b l;cases j;exact BI (a:=true) (b:=b) u q (.inl l)
   ·rename_i b l;cases j;exact BI (a:=true) (b:=b) u q (.inr ⟨true,λ_=>rfl,l⟩)
   ·rename_i b l;cases j;exact BI (a:=false) (b:=b) u q (.inl l)
   ·rename_i w b l;cases j;exact BI (a:=false) (b:=b) u q (.inr ⟨w,λe=>by simp at e,l⟩)
   ·cases j
  ·split at j
   ·split at j
    ·rename_i b l;cases j;exact CW (a:=false) (b:=b) u q (.inl l)
    ·rename_i b l;cases j;exact CW (a:=false) (b:=b) u q (.inr ⟨true,λ_=>rfl,l⟩)
    ·rename_i b l;cases j;exact CW (a:=true) (b:=b) u q (.inl l)
    ·rename_i w b l;cases j;exact CW (a:=true) (b:=b) u q (.inr ⟨w,λe=>by simp at e,l⟩)
    ·cases j
   ·cases j
 ·cases j
def VC(P:Program)(t:TypeId)(h:AO):AV→Option AV
 | .rop row k=>match LK P t with
  | true=>match row[k]? with
   | some d=>some (.r d)
   | none=>none
  | false=>match KM P t with
   | some sz=>if k=0∧row.length=sz then some (.agg (row.map .r)) else none
   | none=>none
 | .ptr id g i k=>match hget h id with
  | some (.box j e l)=>if g=j∧i=0 then match LK P t with
    | true=>l[k]?
    | false=>match KM P t with
     | some sz=>if((l.drop k).take sz).length=sz then some (.agg ((l.drop k).take sz)) else none
     | none=>none
   else none
  | some (.arr j e sz xs)=>if g=j then match xs[i]? with
    | some row=>match LK P t with
     | true=>match row[k]? with
      | some d=>some (.r d)
      | none=>none
     | false=>match KM P t with
      | some q=>if k=0∧q=sz then some (.agg (row.map .r)) else none
      | none=>none
    | none=>none
   else none
  | _=>none
 | _=>none
theorem jV{t}{x}{a v}(u:o.op=.load t x)(w:Ev c R x a)(j:VC P t h a=some v):AR P c o R h v:=by
 unfold VC at j
 split at j
 ·split at j
  ·rename_i l
   split at j
   ·rename_i d hd;cases j;exact fI u (QR l) w (λ_=>hd)
   ·cases j
  ·split at j
   ·rename_i sz l
    split at j
    ·rename_i A;obtain⟨rfl,B⟩:=A;cases j;exact bX u (Ot l) w B
    ·cases j
   ·cases j
 ·split at j
  ·rename_i C
   split at j
   ·rename_i A;obtain⟨rfl,rfl⟩:=A
    split at j
    ·rename_i l;exact Ug u (QR l) w (λ_=>C) (λ_=>j)
    ·split at j
     ·rename_i sz l
      split at j
      ·rename_i B;cases j;exact Xy u (Ot l) w (λ_=>C) rfl B
      ·cases j
     ·cases j
   ·cases j
  ·rename_i C
   split at j
   ·rename_i A;subst A
    split at j
    ·rename_i row q
     split at j
     ·rename_i l
      split at j
      ·rename_i d hd;cases j;exact YA u (QR l) w (λ_=>C) (λ_=>q) (λ_=>hd)
      ·cases j
     ·split at j
      ·rename_i E l
       split at j
       ·rename_i B;obtain⟨rfl,rfl⟩:=B;cases j;exact ez u (Ot l) w (λ_=>C) (λ_=>q)
       ·cases j
      ·cases j
    ·cases j
   ·cases j
  ·cases j
 ·cases j
def S9(h:AO)(id g:Nat):Bool:=match hget h id with
 | some j=>Nat.beq j.gen g
 | none=>false
theorem fA{id g}(hp:S9 h id g=true):∃ob,hget h id=some ob∧ob.gen=g:=by
 unfold S9 at hp
 split at hp
 ·rename_i ob j;exact⟨ob,j,vx hp⟩
 ·cases hp
def Vj(h:AO):AV→Option AV
 | .rop row k=>some (.rop row k)
 | .ptr id g i k=>if S9 h id g=true then some (.ptr id g i k) else none
 | _=>none
theorem pD{x}{a v}(l:o.op=.nilCheck x)(q:Ev c R x a)(j:Vj h a=some v):AR P c o R h v:=by
 unfold Vj at j
 split at j
 ·cases j;exact sp l q
 ·split at j
  ·rename_i hp;cases j
   obtain⟨A,u,w⟩:=fA hp
   exact B7 l q (λ_=>u) w
  ·cases j
 ·cases j
def Uh(P:Program)(t:TypeId)(f:Nat)(h:AO)(a:AV):Option AV:=match Vp P t f with
 | some off=>match a with
  | .rop row k=>some (.rop row (k+off))
  | .ptr id g i k=>if S9 h id g=true then some (.ptr id g i (k+off)) else none
  | _=>none
 | none=>none
theorem rG{t}{x}{f}{a v}(l:o.op=.fieldAddr t x f)(q:Ev c R x a)(j:Uh P t f h a=some v):AR P c o R h v:=by
 unfold Uh at j
 split at j
 ·rename_i off u
  split at j
  ·cases j;exact A4 l (aV u) q
  ·split at j
   ·rename_i hp;cases j
    obtain⟨B,w,A⟩:=fA hp
    exact GQ l (aV u) q (λ_=>w) A
   ·cases j
  ·cases j
 ·cases j
def UU(P:Program)(t:TypeId)(h:AO)(a i:AV):Option AV:=match HS P t with
 | some (_,sz,_)=>match i with
  | .r (.int _ n)=>if 0≤n then match a with
    | .r (.sl xs)=>match xs[n.toNat]? with
     | some row=>if row.length=sz then some (.rop row 0) else none
     | none=>none
    | .own id g=>match hget h id with
     | some (.arr l _ j xs)=>if(l=g∧j=sz)∧n<xs.length then some (.ptr id g n.toNat 0) else none
     | _=>none
    | _=>none
   else none
  | _=>none
 | none=>none
theorem qJ{t}{x i}{a b v}(q:o.op=.indexAddr t x i)(u:Ev c R x a)(w:Ev c R i b)(j:UU P t h a b=some v):AR P c o R h v:=by
 unfold UU at j
 split at j
 ·rename_i e sz C hg
  have A:=(Io hg).slice
  split at j
  ·split at j
   ·rename_i B
    split at j
    ·split at j
     ·rename_i row l
      split at j
      ·rename_i E;cases j;exact Yc q A u w (λ_=>B) (λ_=>l) E
      ·cases j
     ·cases j
    ·split at j
     ·rename_i F
      split at j
      ·rename_i I;obtain⟨⟨rfl,rfl⟩,J⟩:=I;cases j
       exact ZX q A u F w (λ_=>B) (λ_=>J)
      ·cases j
     ·cases j
    ·cases j
   ·cases j
  ·cases j
 ·cases j
def V5(P:Program)(t:TypeId)(a i:AV):Option AV:=match P.underlying t with
 | some .string=>match a,i with
  | .r (.str s),.r (.int _ n)=>if 0≤n then match s[n.toNat]? with
    | some j=>some (.r (.int .u8 j.toNat))
    | none=>none
   else none
  | _,_=>none
 | _=>none
theorem tf{t}{x i}{a b v}(l:o.op=.index t x i)(q:Ev c R x a)(u:Ev c R i b)(j:V5 P t a b=some v):AR P c o R h v:=by
 unfold V5 at j
 split at j
 ·rename_i w
  split at j
  ·split at j
   ·rename_i A
    split at j
    ·rename_i C B;cases j;exact YV l w q u (λ_=>A) (λ_=>B)
    ·cases j
   ·cases j
  ·cases j
 ·cases j
def XM(P:Program)(t:TypeId)(h:AO):AV→Option AV
 | .r (.str s)=>match P.underlying t with
  | some .string=>some (.r (.int .i64 s.length))
  | _=>none
 | .r (.sl xs)=>match HS P t with
  | some _=>some (.r (.int .i64 xs.length))
  | none=>none
 | .own id g=>match HS P t,hget h id with
  | some _,some (.arr j _ _ xs)=>if j=g then some (.r (.int .i64 xs.length)) else none
  | _,_=>none
 | .cst (.slice none 0 0)=>match HS P t with
  | some _=>some (.r (.int .i64 0))
  | none=>none
 | _=>none
theorem mG{t}{x}{a v}(l:o.op=.call { callee:=.builtin .len,args:=#[x],argTypes:=#[t] })(u:Ev c R x a)(j:XM P t h a=some v):AR P c o R h v:=by
 unfold XM at j
 split at j
 ·split at j
  ·rename_i w;cases j;exact Ds l w u
  ·cases j
 ·split at j
  ·rename_i q hg;obtain⟨e,sz,b⟩:=q;cases j;exact Zp l (Io hg).slice u
  ·cases j
 ·split at j
  ·rename_i q E F A xs hg B
   obtain⟨e,sz,b⟩:=q
   split at j
   ·rename_i C;subst C;cases j;exact Xv l (Io hg).slice u B
   ·cases j
  ·cases j
 ·split at j
  ·rename_i q hg;obtain⟨e,sz,b⟩:=q;cases j;exact rJ l (Io hg).slice u
  ·cases j
 ·cases j
def VM(P:Program)(t l:TypeId):AV→Option AV
 | .r (.int _ n)=>match P.underlying t,P.underlying l with
  | some _,some (.int j)=>some (.r (.int j (j.wrap n)))
  | _,_=>none
 | _=>none
theorem iW{t l}{x}{a v}(q:o.op=.convert t l x)(u:Ev c R x a)(j:VM P t l a=some v):AR P c o R h v:=by
 unfold VM at j
 split at j
 ·split at j
  ·rename_i d B w A;cases j;exact Ea q w A u
  ·cases j
 ·cases j
end
section
variable{P:Program}{c:Bool}{o:Oper}{R:AX}{h:AO}
def S5(R:AX)(j:Nat):Option Operand→Option Nat
 | none=>some j
 | some x=>match Ap R x with
  | .r (.int _ z)=>if 0≤z then some z.toNat else none
  | _=>none
theorem er{d m}{x}(j:S5 R d x=some m):OO c R d x m:=by
 unfold S5 at j
 split at j
 ·cases j;rfl
 ·rename_i x
  have l:=BM c R x
  split at j
  ·rename_i k z q
   rw[q] at l
   split at j
   ·rename_i u;cases j;exact⟨k,z,l,λ_=>u,rfl⟩
   ·cases j
  ·cases j
def S2(R:AX)(j:Int):Option Operand→Option Int
 | none=>some j
 | some x=>match Ap R x with
  | .r (.int _ z)=>some z
  | _=>none
theorem eV{d m}{x}(j:S2 R d x=some m):Hh c R d x m:=by
 unfold S2 at j
 split at j
 ·cases j;rfl
 ·rename_i x
  have l:=BM c R x
  split at j
  ·rename_i k z q;rw[q] at l;cases j;exact⟨k,l⟩
  ·cases j
def UH(P:Program)(R:AX)(t:TypeId)(j q:Option Operand):AV→Option AV
 | .r (.sl xs)=>match HS P t with
  | some (_,sz,_)=>match S5 R 0 j,S5 R xs.length q with
   | some l,some m=>if(l≤m∧m≤xs.length)∧(xs.all λrow=>Nat.beq row.length sz)=true then some (.r (.sl ((xs.drop l).take (m-l)))) else none
   | _,_=>none
  | none=>none
 | .r (.str s)=>match P.underlying t with
  | some .string=>match S2 R 0 j,S2 R s.length q with
   | some l,some m=>match Bx s l m with
    | some r=>some (.r (.str r))
    | none=>none
   | _,_=>none
  | _=>none
 | _=>none
theorem nv{t}{x}{B C}{a v}(E:o.op=.slice t x B C none)(F:Ev c R x a)(j:UH P R t B C a=some v):AR P c o R h v:=by
 unfold UH at j
 split at j
 ·split at j
  ·rename_i e sz b hg
   split at j
   ·rename_i l m u w
    split at j
    ·rename_i A
     cases j
     exact eM E (Io hg).slice F (er u) (er w) (λ_=>A.1.1) (λ_=>A.1.2) (λrow q=>vx (wI.1 A.2 row q))
    ·cases j
   ·cases j
  ·cases j
 ·split at j
  ·rename_i I
   split at j
   ·rename_i l m u w
    split at j
    ·rename_i r J;cases j;exact Mi E I F (eV u) (eV w) (λ_=>J)
    ·cases j
   ·cases j
  ·cases j
 ·cases j
def XO(P:Program)(t:TypeId)(f:Nat):AV→Option AV
 | .agg j=>match WN P t f with
  | some off=>j[off]?
  | none=>none
 | _=>none
theorem lg{t}{x}{f}{a v}(l:o.op=.field t x f)(q:Ev c R x a)(j:XO P t f a=some v):AR P c o R h v:=by
 unfold XO at j
 split at j
 ·split at j
  ·rename_i off u;exact Xm l (tu u) q j
  ·cases j
 ·cases j
theorem Kk c R:∀xs:List Operand,H1 c R xs (xs.map (Ap R))
 | []=>trivial
 | x::xs=>⟨BM c R x,Kk c R xs⟩
def Tm(P:Program):List Field→Option (List (Nat × Nat))
 | []=>some []
 | f::j=>match Hr P f.type,Tm P j with
  | some (_,sz,_),some r=>some ((f.offset,sz)::r)
  | _,_=>none
def XZ(P:Program)(t:TypeId):Option (List (Nat × Nat) × List Value):=match P.underlying t with
 | some (.struct j)=>match Tm P j.toList,Hr P t with
  | some pl,some (some (.agg l),_,_)=>some (pl,l.toList)
  | _,_=>none
 | _=>none
theorem Xs:∀ {q:List Field} {pl:List (Nat × Nat)},Tm P q=some pl→∀w,(q.mapM (m:=Sem) λf=>do pure (f.offset,← sizeOf f.type)).run P w=.ok pl w
 | [],pl,hp,w=>by cases hp;rfl
 | f::q,pl,hp,w=>by
  unfold Tm at hp
  split at hp
  ·rename_i C sz b r j u
   cases hp
   have A:=Xs u w
   obtain⟨i,l,B⟩:∃i,P.info? f.type=some i∧i.size=sz:=by
    unfold Hr at j
    cases l:P.info? f.type with
    | none=>rw[l] at j;cases j
    | some i=>rw[l] at j;simp only[xD,vz,wA] at j;exact⟨i,rfl,j.2.1⟩
   rw[List.mapM_cons]
   simp only[Sem.run_bind,Dn l,Result.andThen_ok,A,Sem.run_pure,B]
  ·cases hp
theorem ug{t}{pl}{l}(j:XZ P t=some (pl,l)):DY P t pl l:=by
 unfold XZ at j
 split at j
 ·rename_i E q
  split at j
  ·rename_i u A sz b B C
   cases j
   refine DY.of q (λw=>?_) (sz:=sz) (b:=b) (by simpa[Hr] using C)
   rw[Array.mapM_eq_mapM_toList]
   have:=Xs B w
   simp only[Sem.run_map,this]
   rfl
  ·cases j
 ·cases j
def RE(R:AX)(j:List (Nat × Nat))(len:Nat):List (Nat × Operand)→Option (List (Nat × AV))
 | []=>some []
 | (i,x)::r=>match j[i]?,RE R j len r with
  | some (off,sz),some q=>if(sz=(BV (Ap R x)).length∧Nat.ble (off+(BV (Ap R x)).length) len=true)∧(BV (Ap R x)).all AV.one=true then some ((off,Ap R x)::q) else none
  | _,_=>none
theorem ZU{j}{len} : ∀ {u:List (Nat × Operand)} {q:List (Nat × AV)},RE R j len u=some q→Om c R j len u q
 | [],q,hp=>by cases hp;trivial
 | (i,x)::r,q,hp=>by
  unfold RE at hp
  split at hp
  ·rename_i off sz B w A
   split at hp
   ·rename_i l;cases hp
    exact⟨by rw[w,l.1.1],l.1.2,l.2,BM c R x,ZU A⟩
   ·cases hp
  ·cases hp
def VJ(P:Program)(R:AX)(t:TypeId)(l:List (Nat × Operand)):Option AV:=match XZ P t with
 | some (pl,j)=>match RE R pl j.length l with
  | some q=>some (.agg (LZ (j.map HC) q))
  | none=>none
 | none=>none
theorem iz{t}{parts:Array (Nat × Operand)}{v}(l:o.op=.build t parts)(j:VJ P R t parts.toList=some v):AR P c o R h v:=by
 unfold VJ at j
 split at j
 ·rename_i pl A u
  split at j
  ·rename_i q w;cases j;exact Bt l (ug u) (ZU w) rfl
  ·cases j
 ·cases j
def Uy(P:Program)(R:AX)(h:AO):Call→Option AV
 | ⟨.builtin .len,⟨[x]⟩,⟨[t]⟩⟩=>XM P t h (Ap R x)
 | ⟨.builtin .min,⟨[x,y]⟩,_⟩=>match Ap R x,Ap R y with
  | .r (.int k m),.r (.int j n)=>if k=j then some (.r (.int k (min m n))) else none
  | _,_=>none
 | ⟨.builtin .max,⟨[x,y]⟩,_⟩=>match Ap R x,Ap R y with
  | .r (.int k m),.r (.int j n)=>if k=j then some (.r (.int k (max m n))) else none
  | _,_=>none
 | ⟨.value fo,⟨[x,y]⟩,_⟩=>match Ap R fo with
  | .fn f []=>match P.funcs[f]? with
   | some fn=>match VE fn with
    | true=>match Ap R x,Ap R y with
     | .r (.str s),.r (.int .u8 m)=>some (.r (.int .i64 (I2 s m.toNat.toUInt8 0)))
     | _,_=>none
    | false=>none
   | none=>none
  | _=>none
 | _=>none
theorem jJ{F}{v}(B:o.op=.call F)(j:Uy P R h F=some v):AR P c o R h v:=by
 unfold Uy at j
 split at j
 ·rename_i x t;exact mG B (BM c R x) j
 ·rename_i x y u
  have l:=BM c R x
  have q:=BM c R y
  split at j
  ·rename_i k m I n w A
   rw[w] at l;rw[A] at q
   split at j
   ·rename_i C;subst C;cases j;exact LS B l q
   ·cases j
  ·cases j
 ·rename_i x y u
  have l:=BM c R x
  have q:=BM c R y
  split at j
  ·rename_i k m I n w A
   rw[w] at l;rw[A] at q
   split at j
   ·rename_i C;subst C;cases j;exact Wz B l q
   ·cases j
  ·cases j
 ·rename_i fo x y u
  have l:=BM c R x
  have q:=BM c R y
  split at j
  ·rename_i f E
   split at j
   ·rename_i fn J
    split at j
    ·rename_i M
     split at j
     ·rename_i s m w A
      rw[w] at l;rw[A] at q
      cases j
      rw[jH]
      exact tb B J M (by rw[← E];exact BM c R fo) l q
     ·cases j
    ·cases j
   ·cases j
  ·cases j
 ·cases j
def VB(P:Program)(t:TypeId)(ok:Bool)(h:AO)(a b:AV):Option AV:=match PV P t,a,b with
 | some l,.mref id g,.r (.int .i64 k)=>match hget h id with
  | some (.mp q ks u _)=>if q=g then(match QD P l with
   | some z=>match FZ ks k with
    | some j=>match u[j]? with
     | some a=>some (match ok with | true=>.tup [a,.r (.bool true)] | false=>a)
     | none=>none
    | none=>some (match ok with | true=>.tup [HC z,.r (.bool false)] | false=>HC z)
   | none=>none) else none
  | _=>none
 | _,_,_=>none
theorem sc{t}{ok}{x i}{a b v}(E:o.op=.lookup t x i ok)(F:Ev c R x a)(I:Ev c R i b)(l:VB P t ok h a b=some v):AR P c o R h v:=by
 unfold VB at l
 split at l
 ·rename_i T id g k U
  obtain⟨Y,J,M⟩:=UX U
  split at l
  ·rename_i Z ks vs clock O
   split at l
   ·rename_i hg
    subst hg
    split at l
    ·rename_i z V
     obtain⟨ii,u,A⟩:=Us V
     have q:∀w,(zeroValue T).run P w=.ok z w:=λw=>by
      simp only[zeroValue,typeInfo,Sem.run_bind,run_program,Result.andThen_ok,u,Sem.run_pure,A]
     split at l
     ·rename_i j B
      split at l
      ·rename_i a0 X
       cases l
       have C:=uh (P:=P) (c:=c) (h:=h) ok z E J M q F I O B X
       cases ok<;>exact C
      ·cases l
     ·rename_i B
      cases l
      have C:=uV (P:=P) (c:=c) (h:=h) ok z E J M q (λy=>NP y z) F I O B
      cases ok<;>exact C
    ·cases l
   ·cases l
  ·cases l
 ·cases l
def LA(P:Program)(R:AX)(h:AO)(o:Oper):Option AV:=match o.op with
 | .move x=>some (Ap R x)
 | .assign x=>some (Ap R x)
 | .binOp op t x y _=>match We op (Ap R x) (Ap R y) with
  | some v=>some v
  | none=>match UJ op (Ap R x) (Ap R y) with
   | some v=>some v
   | none=>match Xj P op t (Ap R x) (Ap R y) with
    | some v=>some v
    | none=>XV P op t (Ap R x) (Ap R y)
 | .unOp .not _ x=>match Ap R x with
  | .r (.bool b)=>some (.r (.bool (!b)))
  | _=>none
 | .unOp .neg _ x=>match Ap R x with
  | .r (.int k m)=>if k.wrap (-m) = -m then some (.r (.int k (-m))) else none
  | _=>none
 | .pick x y z=>UA R x y z
 | .extract x i=>match Ap R x with
  | .tup j=>j[i]?
  | _=>none
 | .nilCheck x=>Vj h (Ap R x)
 | .fieldAddr t x f=>Uh P t f h (Ap R x)
 | .load t x=>VC P t h (Ap R x)
 | .indexAddr t x i=>UU P t h (Ap R x) (Ap R i)
 | .index t x i=>V5 P t (Ap R x) (Ap R i)
 | .field t x f=>XO P t f (Ap R x)
 | .convert t l x=>VM P t l (Ap R x)
 | .slice t x q u none=>UH P R t q u (Ap R x)
 | .makeFunc (.func f) ⟨[]⟩ xs=>some (.fn f (xs.toList.map (Ap R)))
 | .build t parts=>VJ P R t parts.toList
 | .call w=>Uy P R h w
 | .lookup t x i ok=>VB P t ok h (Ap R x) (Ap R i)
 | _=>none
theorem LJ{v}(l:LA P R h o=some v):AR P c o R h v:=by
 unfold LA at l
 split at l
 ·rename_i x j;cases l;exact AK j (BM c R x)
 ·rename_i x j;cases l;exact Dj j (BM c R x)
 ·rename_i op t x y B j
  split at l
  ·rename_i A u;cases l;exact mn j (BM c R x) (BM c R y) u
  ·split at l
   ·rename_i A u;cases l;exact qo j (BM c R x) (BM c R y) u
   ·split at l
    ·rename_i A u;cases l;exact ov j (BM c R x) (BM c R y) u
    ·exact mm j (BM c R x) (BM c R y) l
 ·rename_i t x j
  have q:=BM c R x
  split at l
  ·rename_i b w;rw[w] at q;cases l;exact A3 j q
  ·cases l
 ·rename_i t x j
  have q:=BM c R x
  split at l
  ·rename_i k m w
   rw[w] at q
   split at l
   ·rename_i C;cases l;exact qp j q C
   ·cases l
  ·cases l
 ·rename_i x y z j;exact lN j l
 ·rename_i x i j
  have q:=BM c R x
  split at l
  ·rename_i E w;rw[w] at q;exact aB j q l
  ·cases l
 ·rename_i x j;exact pD j (BM c R x) l
 ·rename_i t x f j;exact rG j (BM c R x) l
 ·rename_i t x j;exact jV j (BM c R x) l
 ·rename_i t x i j;exact qJ j (BM c R x) (BM c R i) l
 ·rename_i t x i j;exact tf j (BM c R x) (BM c R i) l
 ·rename_i t x f j;exact lg j (BM c R x) l
 ·rename_i t B x j;exact iW j (BM c R x) l
 ·rename_i t x F I j;exact nv j (BM c R x) l
 ·rename_i f xs j;cases l;exact Pw j (Kk c R xs.toList)
 ·rename_i t parts j;exact iz j l
 ·rename_i J j;exact jJ j l
 ·rename_i t x i ok j;exact sc j (BM c R x) (BM c R i) l
 ·cases l
end
section
variable{P:Program}{o:Oper}{R:AX}{h:AO}{n:Nat}
def TR(R:AX)(sz:Nat):Nat→List (Nat × Operand)→Option (List (List RV))
 | _,[]=>some []
 | i,(j,x)::r=>match Gd (Ap R x),TR R sz (i+1) r with
  | some row,some l=>if j=i∧row.length=sz then some (row::l) else none
  | _,_=>none
theorem aM{c}{sz} : ∀ {A:List (Nat × Operand)} {i:Nat} {l:List (List RV)},TR R sz i A=some l→I6 c R i A l∧∀row∈l,row.length=sz
 | [],i,l,hp=>by cases hp;exact⟨trivial,by simp⟩
 | (j,x)::r,i,l,hp=>by
  unfold TR at hp
  split at hp
  ·rename_i row u C E
   split at hp
   ·rename_i B;cases hp
    obtain⟨F,I⟩:=aM (c:=c) E
    refine⟨⟨B.1,⟨_,BM c R x,C⟩,F⟩,λq w=>?_⟩
    rcases wC.1 w with rfl | w
    ·exact B.2
    ·exact I q w
   ·cases hp
  ·cases hp
def WE(R:AX)(h:AO)(sz:Nat)(x:Operand):Option (List (List RV)):=match Ap R x with
 | .r (.sl j)=>if(j.all λrow=>Nat.beq row.length sz)=true then some j else none
 | .own id g=>match hget h id with
  | some (.arr q _ l j)=>if q=g∧l=sz then some j else none
  | _=>none
 | .cst (.slice none 0 0)=>some []
 | _=>none
theorem cM{c}{sz}{x}{w}(j:WE R h sz x=some w):M2 c R h x sz w:=by
 unfold WE at j
 have l:=BM c R x
 split at j
 ·rename_i A q
  rw[q] at l
  split at j
  ·rename_i u;cases j;exact .inl ⟨l,λ_ row B=>vx (wI.1 u row B)⟩
  ·cases j
 ·rename_i id g q
  rw[q] at l
  split at j
  ·rename_i C
   split at j
   ·rename_i u;obtain⟨rfl,rfl⟩:=u;cases j;exact .inr (.inl ⟨_,_,_,l,C⟩)
   ·cases j
  ·cases j
 ·rename_i q
  rw[q] at l
  cases j;exact .inr (.inr ⟨l,rfl⟩)
 ·cases j
def Sd(P:Program)(R:AX)(h:AO)(n:Nat)(s x:Operand)(t:TypeId):Option (AV × AO × Nat):=match HS P t with
 | some (e,sz,l)=>match WE R h sz x with
  | some j=>match Ap R s with
   | .own id g=>match hget h id with
    | some (.arr u w q xs)=>if((u=g∧w=e)∧q=sz)∧(xs.length+j.length) * l≤140737488355328∧xs.length+j.length≤9223372036854775807 then
      some (.own id n,(id,some (.arr n e sz (xs++j)))::h,n+1) else none
    | _=>none
   | .cst (.slice none 0 0)=>if j.length * l≤140737488355328∧j.length≤9223372036854775807 then some (.own n n,(n,some (.arr n e sz j))::h,n+1) else none
   | _=>none
  | none=>none
 | none=>none
theorem ua{s x}{t}{r}(w:o.op=.call { callee:=.builtin .append,args:=#[s,x],argTypes:=#[t,t] })(j:Sd P R h n s x t=some r):A7 P true o R h n r.1 r.2.1 r.2.2:=by
 unfold Sd at j
 have l:=BM true R s
 split at j
 ·rename_i e sz B hg
  split at j
  ·rename_i I A
   split at j
   ·rename_i id g u
    rw[u] at l
    split at j
    ·rename_i C
     split at j
     ·rename_i q;obtain⟨⟨⟨rfl,rfl⟩,rfl⟩,E,F⟩:=q
      cases j
      exact bF w (Io hg) l C (cM A) E F
     ·cases j
    ·cases j
   ·rename_i u
    rw[u] at l
    split at j
    ·rename_i q;cases j
     exact cC n w (Io hg) l (cM A) q.1 q.2
    ·cases j
   ·cases j
  ·cases j
 ·cases j
def TG(P:Program)(R:AX)(h:AO)(n:Nat)(t:TypeId)(x y:Operand):Option (AV × AO × Nat):=match Ap R x with
 | .ptr id g i k=>match UL P t with
  | some sz=>match hget h id with
   | some (.box j e u)=>if(((j=g∧i=0)∧(BV (Ap R y)).length=sz)∧(BV (Ap R y)).all AV.one=true)∧Nat.ble (k+sz) u.length=true then
     some (.any,(id,some (.box g e (GP u k (BV (Ap R y)))))::h,n) else none
   | some (.arr j e l xs)=>match Gd (Ap R y),xs[i]? with
    | some q,some row=>if(j=g∧q.length=sz)∧k+q.length≤row.length then some (.any,(id,some (.arr g e l (xs.set i (Kb row k q))))::h,n) else none
    | _,_=>none
   | _=>none
  | none=>none
 | _=>none
theorem rF{x y}{t}{r}(C:o.op=.store t x y)(j:TG P R h n t x y=some r):A7 P true o R h n r.1 r.2.1 r.2.2:=by
 unfold TG at j
 have q:=BM true R x
 have E:=BM true R y
 split at j
 ·rename_i id g i k I
  rw[I] at q
  split at j
  ·rename_i sz F
   split at j
   ·rename_i u
    split at j
    ·rename_i w;obtain⟨⟨⟨⟨rfl,rfl⟩,A⟩,B⟩,J⟩:=w
     cases j
     exact gn C (cF F) q u E A B J
    ·cases j
   ·rename_i u
    split at j
    ·rename_i M row hd l
     split at j
     ·rename_i w;obtain⟨⟨rfl,A⟩,B⟩:=w
      cases j
      exact Yg C (cF F) q u l E hd A B
     ·cases j
    ·cases j
   ·cases j
  ·cases j
 ·cases j
def JZ(P:Program)(R:AX)(h:AO)(n:Nat)(o:Oper):Option (AV × AO × Nat):=match o.op with
 | .store t x y=>TG P R h n t x y
 | .alloc t=>match QD P t with
  | some z=>if(BV (F1 z)).all AV.one=true then some (.ptr n n 0 0,(n,some (.box n t (BV (F1 z))))::h,n+1) else none
  | none=>none
 | .box t x=>if(BV (Ap R x)).all AV.one=true then some (.ptr n n 0 0,(n,some (.box n t (BV (Ap R x))))::h,n+1) else none
 | .buildSlice t len parts=>match HS P t with
  | some (e,sz,_)=>match TR R sz 0 parts.toList with
   | some q=>if q.length=len∧Nat.ble (len * sz) 16777216=true then some (.own n n,(n,some (.arr n e sz q))::h,n+1) else none
   | none=>none
  | none=>none
 | .makeSlice t l k=>match HS P t,Ap R l,Ap R k with
  | some (e,sz,b),.r (.int .i64 m),.r (.int .i64 F)=>match QD P e with
   | some z=>match Gd (F1 z) with
    | some w=>if(m=F∧0≤m)∧m * b≤281474976710656∧m≤9223372036854775807 then some (.own n n,(n,some (.arr n e sz (List.replicate m.toNat w)))::h,n+1) else none
    | none=>none
   | none=>none
  | _,_,_=>none
 | .call ⟨.builtin .append,⟨[s,x]⟩,⟨[t,I]⟩⟩=>if t=I then Sd P R h n s x t else none
 | .makeMap _ none=>some (.mref n n,(n,some (.mp n [] [] 0))::h,n+1)
 | .mapUpdate t x i y=>match PV P t,Ap R x,Ap R i with
  | some _,.mref id g,.r (.int .i64 k)=>match hget h id with
   | some (.mp u ks B clock)=>if u=g then(match FZ ks k with
    | none=>some (.any,(id,some (.mp g (ks++[(k,clock)]) (B++[Ap R y]) (clock+1)))::h,n)
    | some _=>none) else none
   | _=>none
  | _,_,_=>none
 | .insert t x i y=>match PV P t,Ap R x,Ap R i with
  | some _,.mref id g,.r (.int .i64 k)=>match hget h id with
   | some (.mp u ks B clock)=>if u=g then(match FZ ks k with
    | none=>some (.any,(id,some (.mp g (ks++[(k,clock)]) (B++[Ap R y]) (clock+1)))::h,n)
    | some _=>none) else none
   | _=>none
  | _,_,_=>none
 | .range t x=>match P.underlying t,Ap R x with
  | some (.map _ _),.mref id g=>match hget h id with
   | some (.mp u _ _ clock)=>if u=g then some (.ptr n n 0 0,(n,some (.mi n id g clock [] clock))::h,n+1) else none
   | _=>none
  | _,_=>none
 | .next x false=>match Ap R x with
  | .ptr id g 0 0=>match hget h id with
   | some (.mi u A E j Bi last)=>if u=g then(match hget h A with
    | some (.mp C ks B clock)=>if C=E∧(ks.all λp=>decide (p.2<j))=true∧Nat.ble j last=true∧(ks.all λp=>Bi.contains p.2)=true then
      some (.tup [.r (.bool false)],(id,some (.mi g A E j Bi last))::h,n) else none
    | _=>none) else none
   | _=>none
  | _=>none
 | _=>none
theorem rY{id}{ob}(j:hget h id=some ob):hget ((id,some ob)::h)=hget h:=by
 funext i
 rw[Bv]
 split
 ·rename_i e;subst e;exact j.symm
 ·rfl
theorem S6{r}(j:JZ P R h n o=some r):A7 P true o R h n r.1 r.2.1 r.2.2:=by
 unfold JZ at j
 split at j
 ·rename_i t x y q;exact rF q j
 ·rename_i t q
  split at j
  ·rename_i z O
   split at j
   ·rename_i w;cases j;exact aP n q (Us O) w
   ·cases j
  ·cases j
 ·rename_i t x q
  split at j
  ·rename_i w;cases j;exact cQ n q (BM true R x) w
  ·cases j
 ·rename_i t len parts q
  split at j
  ·rename_i e sz b hg
   split at j
   ·rename_i a2 E
    split at j
    ·rename_i w;cases j
     obtain⟨T,U⟩:=aM (c:=true) E
     exact gm n q (Io hg) T w.1 U w.2
    ·cases j
   ·cases j
  ·cases j
 ·rename_i t l k q
  split at j
  ·rename_i e sz b m m' hg hl hk
   have B:=BM true R l
   have hy:=BM true R k
   rw[hl] at B;rw[hk] at hy
   split at j
   ·rename_i z O
    split at j
    ·rename_i a6 V
     split at j
     ·rename_i w;obtain⟨⟨rfl,F⟩,X,h4⟩:=w;cases j
      obtain⟨ii,I,Y⟩:=Us O
      exact bP n q (Io hg) ⟨ii,z,I,Y,V⟩ B hy F X h4
     ·cases j
    ·cases j
   ·cases j
  ·cases j
 ·rename_i s x t t' q
  split at j
  ·rename_i Z;subst Z;exact ua q j
  ·cases j
 ·rename_i t q
  cases j
  exact jU n q
 ·rename_i t x i y q
  split at j
  ·rename_i et id g k J B I
   obtain⟨kt,w,F⟩:=UX J
   have A:=BM true R x
   have M:=BM true R i
   rw[B] at A;rw[I] at M
   split at j
   ·rename_i g' ks vs clock C
    split at j
    ·rename_i hg
     subst hg
     split at j
     ·rename_i hj
      cases j
      exact aK (.inl q) w F A M (BM true R y) C hj
     ·cases j
    ·cases j
   ·cases j
  ·cases j
 ·rename_i t x i y q
  split at j
  ·rename_i et id g k J B I
   obtain⟨kt,w,F⟩:=UX J
   have A:=BM true R x
   have M:=BM true R i
   rw[B] at A;rw[I] at M
   split at j
   ·rename_i g' ks vs clock C
    split at j
    ·rename_i hg
     subst hg
     split at j
     ·rename_i hj
      cases j
      exact aK (.inr q) w F A M (BM true R y) C hj
     ·cases j
    ·cases j
   ·cases j
  ·cases j
 ·rename_i t x q
  split at j
  ·rename_i kt et id g Z B
   have A:=BM true R x
   rw[B] at A
   split at j
   ·rename_i g' ks vs clock C
    split at j
    ·rename_i hg
     subst hg
     cases j
     exact qr n q Z A C
    ·cases j
   ·cases j
  ·cases j
 ·rename_i x q
  split at j
  ·rename_i id g B
   have A:=BM true R x
   rw[B] at A
   split at j
   ·rename_i g' a7 mg a0 Bi last C
    split at j
    ·rename_i hg
     subst hg
     split at j
     ·rename_i a8 ks vs clock J
      split at j
      ·rename_i hc
       obtain⟨rfl,w,F,X⟩:=hc
       cases j
       have hs:=sM (P:=P) (c:=true) (R:=R) (n:=n) (k:=0) (born:=0) q A C J w F X
       intro hc x a a1 hH hn he K Q hK
       exact hs hc x a a1 hH hn he K Q λu y T U k3 k4 k5=>hK u y T U (by rw[k3,rY C]) k4 k5
      ·cases j
     ·cases j
    ·cases j
   ·cases j
  ·cases j
 ·cases j
end
section
variable{P:Program}{ops:Array Oper}{rest:List Oper}{s:St}{K:St→Prop}{o:Oper}
def CQ(P:Program)(ops:Array Oper)(rest:List Oper)(s:St)(K:St→Prop):Prop:=
 ∀(j:Cx) (a:Act) (w:World),EU j s a w→∀Q:Exit→Act→World→Prop,¬ LetsOut Q→(∀l q w',K l→EU j l q w'→Q .normal q w')→wpListIn (zF none) 0 P ops Q rest a w
theorem CQ.nil(h:K s):CQ P ops [] s K:=λ_ a w j _ _ l=>l s a w h j
theorem CQ.weak{s'}(j:Ae s s')(h:CQ P ops rest s' K):CQ P ops rest s K:=λl a w q=>h l a w (j _ _ _ q)
theorem CQ.cons{K1}(h:AL P ops [o] s K1)(V:∀O,K1 O→CQ P ops rest O K):CQ P ops (o::rest) s K:=by
 intro T a w X Q j Y
 have u:=h T a w X (λe F w'=>match e with | .normal=>wpListIn (zF none) 0 P ops Q rest F w' | e=>Q e F w') λZ F w' hk I=>V Z hk T F w' I Q j Y
 unfold wpList at u
 unfold wpListIn
 split
 ·rename_i J
  rw[vh J] at u
  rcases u with u | u
  ·have U:=Wj (z:=none) (.inl rfl) u
   refine⟨U.1,?_⟩
   have q:=U.2
   generalize (o.semAt (zF none).round a.eval).run P w=r at q ⊢
   cases r with
   | ok x w'=>
    cases x with
    | enter f args=>
     refine⟨q.1,q.2.mono λe M A=>?_⟩
     cases e with
     | returned v=>exact A
     | panicked ch=>exact A
     | outgrown=>exact absurd (by obtain⟨B,C,E⟩:=A;exact⟨B,C,E⟩) j
    | row a1 args=>exact⟨q.1,q.2⟩
    | round l f t a2 b=>
     refine⟨q.1,q.2.mono λe M A=>?_⟩
     cases e with
     | returned v=>exact A
     | panicked ch=>exact A
     | outgrown=>exact absurd (by obtain⟨B,C,E⟩:=A;exact⟨B,C,E⟩) j
    | value v=>exact q
    | skip=>exact q
    | defer d=>exact q
    | _=>exact q.elim
   | halt x w'=>cases x<;>first | exact q | exact q.elim
  ·exact absurd (by obtain⟨_,B,C,E⟩:=u;exact⟨B,C,E⟩) j
 ·rename_i J
  rw[vg J] at u
  exact⟨λ_ _=>trivial,u⟩
theorem eN{Q}{K}{a:Act}{w}{z}(l:z=none∨H5 o=true)(h:o.wpIn (zF none) 0 P a w K Q):o.wpIn (zF z) 0 P a w K Q:=by
 refine⟨λ_ _=>trivial,?_⟩
 have j:=h.2
 rw[show(zF z).round=z from rfl,WF l]
 rw[show(zF none).round=none from rfl,WF (.inl rfl)] at j
 generalize (execOp a.eval o).run P w=r at j ⊢
 cases r with
 | ok x w'=>cases x<;>exact j
 | halt x w'=>cases x<;>exact j
theorem WT{Q}{z} : ∀(l:List Oper) (a:Act) (w:World),(z=none∨l.all H5=true)→wpListIn (zF none) 0 P ops Q l a w→wpListIn (zF z) 0 P ops Q l a w
 | [],_,_,_,h=>h
 | o::l,a,w,A,h=>by
  have q:z=none∨H5 o=true:=A.imp id λh=>by simp only[zE,vm] at h;exact h.1
  have j:z=none∨l.all H5=true:=A.imp id λh=>by simp only[zE,vm] at h;exact h.2
  unfold wpListIn at h ⊢
  split
  ·rename_i u
   rw[vh u] at h
   exact eN q (Oper.wpIn_mono (λa w h=>WT l a w j h) h)
  ·rename_i u
   rw[vg u] at h
   exact⟨λ_ _=>trivial,WT l _ w j h.2⟩
theorem ut{id}{l:List Oper}{Q}(h:CQ P l.toArray l s (Q .normal)):AW P (.region id l.toArray false) Q s:=by
 intro z q u a w A
 exact wpIn_region_lit (WT l a w (q.imp _root_.id λh=>by simpa[DB] using h) (h u a w A _ Jz λB E w' C j=>⟨by simp,B,C,j⟩))
end
theorem kl{x:Cx}(l:x.ok){id g N}{w}{A:List Nat}{j B}{C}{E}{v}(F:x.H id=some (.lp g w N A j B C E))(q:AP x (.yld id g) v) :
  ∃(b:Nat) (r:Loop),x.β id=some (b,1)∧v=.func (.yield b) #[] #[]∧x.w.heap[b]?=some (.loop r)∧r.params=A.toArray∧r.assign=j∧r.body=B∧r.state=C∧r.pending=E∧r.tmps.size=N∧∀t,AP x (get w t) (r.tmps.getD t undef):=by
 obtain⟨_,b,r,I,J,M⟩:=l.obj _ _ F
 cases q with
 | yld _ _ q=>
  obtain⟨T,cap,u,O⟩:=q _ F rfl
  rw[I] at u
  simp only[vz,wA] at u
  obtain⟨rfl,rfl⟩:=u
  exact⟨b,r,I,O,J,M⟩
theorem Ud{x:Cx}(l:x.ok){id g N b}{B}{C}{j E}{T st'}{U pd'}{r}(u:x.H id=some (.lp g B N C j E T U))(q:x.β id=some (b,1))(V:x.w.heap[b]?=some (.loop r)) :
  x.le { x with w:=x.w.putObj b (.loop { r with state:=st',pending:=pd' }),H:=λi=>if id=i then some (.lp g B N C j E st' pd') else x.H i,K:=λi=>if id=i then λ_=>none else x.K i } ∧
  ({ x with w:=x.w.putObj b (.loop { r with state:=st',pending:=pd' }),H:=λi=>if id=i then some (.lp g B N C j E st' pd') else x.H i,K:=λi=>if id=i then λ_=>none else x.K i } : Cx).ok:=by
 obtain⟨hg,b',r',F,O,X,Y,Z,k6,k7,k8,k9⟩:=l.obj _ _ u
 rw[q] at F
 simp only[vz,wA] at F
 obtain⟨rfl,_⟩:=F
 rw[V] at O;cases O
 have w:=(l.own id _ b 1 u q).1
 have A:=EV l id (.lp g B N C j E st' pd') (x.w.putObj b (.loop { r with state:=st',pending:=pd' })) (some (b,1)) x.n (by rw[World.putObj_size];exact vu _) rfl rfl rfl
  (λc I J=>World.putObj_heap_other λe=>J _ 1 u (by rw[e];exact q)) (λc k I=>by
   simp only[vz,wA] at I
   obtain⟨rfl,rfl⟩:=I
   exact⟨by rw[World.putObj_size];exact w,.inr ⟨_,1,u,q⟩⟩) (vu _) hg (λ_=>⟨_,u,rfl,rfl,q.symm⟩)
  (λM=>⟨b,{ r with state:=st',pending:=pd' },rfl,World.putObj_heap_same w,X,Y,Z,rfl,rfl,k8,λt=>(k9 t).mono M⟩)
 have e:(λi=>if id=i then some (b,1) else x.β i)=x.β:=by
  funext i
  split
  ·rename_i h;subst h;exact q.symm
  ·rfl
 rw[e] at A
 exact A
def Sl:List Nat→List AV→AX→AX
 | p::j,b::l,e=>Sl j l ((p,b)::e)
 | _,_,e=>e
theorem Yl{x} : ∀(l:List Nat) (bs:List AV) (us:List Value) (e:AX) (t:Array Value),bs.length=l.length→us.length=l.length→(∀(i:Nat) (b:AV) (u:Value),bs[i]?=some b→us[i]?=some u→AP x b u)→(∀p∈l,p<t.size)→(∀j,AP x (get e j) (t.getD j undef)) →
  ((l.zip us).foldl (λt (p:Nat × Value)=>t.setIfInBounds p.1 p.2) t).size=t.size∧∀j,AP x (get (Sl l bs e) j) (((l.zip us).foldl (λt (p:Nat × Value)=>t.setIfInBounds p.1 p.2) t).getD j undef)
 | [],bs,us,e,t,_,_,_,_,w=>by
  cases bs<;>cases us<;>exact⟨rfl,w⟩
 | p::l,[],us,e,t,h,_,_,_,w=>by cases h
 | p::l,b::bs,[],e,t,_,h,_,_,w=>by cases h
 | p::l,b::bs,u::us,e,t,C,E,A,B,w=>by
  have hp:=B p (vn ..)
  obtain⟨F,I⟩:=Yl (x:=x) l bs us ((p,b)::e) (t.setIfInBounds p u) (by simpa using C) (by simpa using E) (λi b u J M=>A (i+1) b u (by simpa using J) (by simpa using M))
   (λq O=>by rw[Array.size_setIfInBounds];exact B q (vp _ O)) (λj=>by
    rw[DQ,Lj hp]
    split
    ·exact A 0 b u rfl rfl
    ·exact w j)
  exact⟨by simpa using F,I⟩
def fM(id g:Nat)(C:Bool→AO→Nat→Prop):Exit→St→Prop
 | .normal,s=>∃l N q j u,hget s.h id=some (.lp g l N q j u .busy none)∧C true ((id,some (.lp g l N q j u .ready none))::s.h) s.n
 | .ret,s=>∃l N q j u,hget s.h id=some (.lp g l N q j u .busy none)∧C false ((id,some (.lp g l N q j u .done (some .ret)))::s.h) s.n
 | .exit i,s=>∃l N q j u,hget s.h id=some (.lp g l N q j u .busy none)∧C false ((id,some (.lp g l N q j u .done (some (.exit i))))::s.h) s.n
 | _,_=>False
def VR(P:Program)(id g:Nat)(w:Code)(C:Bool→AO→Nat→Prop):Exit→St→Prop
 | .normal,s=>∃q N u j l,hget s.h id=some (.lp g q N u j l .ready none)∧AW P w (fM id g C) ⟨s.e,(id,some (.lp g q N u j l .busy none))::s.h,s.n,s.N⟩
 | _,_=>False
section
variable{P:Program}{ops:Array Oper}{rest:List Oper}{s:St}{K:St→Prop}{o:Oper}
theorem tK{z:Cx}{id g N b f}{A e1}{w:List Nat}{j u}{r:Loop}{h}{n}{C}{tmps:Array Value}(a0:z.ok)(hH:z.H=hget h)(hn:z.n=n)(hh:hget h id=some (.lp g A N w j u .ready none))(hβ:z.β id=some (b, 1))
 (hb:z.w.heap[b]?=some (.loop r)) (hr:r.params=w.toArray∧r.assign=j∧r.body=u∧r.state=.ready∧r.pending=none) (hsz:tmps.size=N) (he:∀t, AP z (get e1 t) (tmps.getD t undef)) (a6:DB j=true∧DB u=true)
 (hw:AW P j (VR P id g u C) ⟨e1, h, n, N⟩):RoundIn (zF none) (0 - 1) P b f tmps j u z.w λe w' => ∃(x:Bool) (y:Cx) (h':AO) (n':Nat), e=.returned (.bool x)∧y.w=w'∧z.le y∧y.ok∧y.H=hget h'∧y.n=n'∧C x h' n' := by
  have ai:g<z.n := (a0.obj id (.lp g A N w j u .ready none) (by rw[hH];exact hh)).1
  have I:∀ {y:Cx} {A:AX} {N:Nat} {w:List Nat} {j u:Code} {Z:LoopState} {pd:Option Code}, z.le y→y.H id=some (.lp g A N w j u Z pd)→y.β id=some (b, 1) := by
    intro y A N w j u Z pd aj hy
    obtain⟨o', J, M, h3, h4⟩ := aj.H id _ hy (.inl ai)
    rw[h4, hβ]
  have O:∀ {y:Cx} {A:AX} {N:Nat} {w:List Nat} {j u:Code} {Z:LoopState} {pd:Option Code}, y.ok→y.H id=some (.lp g A N w j u Z pd)→y.β id=some (b, 1)→∃r:Loop, y.w.heap[b]?=some (.loop r)∧r.state=Z∧r.pending=pd := by
    intro y A N w j u Z pd hy J M
    obtain⟨_, b', r', k1, k2, k3, k4, k5, k6, k7, _⟩ := hy.obj _ _ J
    rw[M] at k1
    simp only[vz, wA] at k1
    obtain⟨rfl, _⟩ := k1
    exact⟨r', k2, k6, k7⟩
  refine roundIn_of_wpIn (F := zF none) trivial (wpIn_mono (hw (some b) (.inr a6.1) z { tmps := tmps, defers := [] } z.w ⟨_, rfl, hsz, z, rfl, .refl z, a0, hH, hn, he⟩) λe a1 w1 ⟨ho, s1, hq, ak⟩ => ?_)
  obtain⟨al, an, ao, y1, aq, T, U, a7, ar, av⟩ := ak
  subst aq
  cases e with
  | normal =>
    obtain⟨A, N, w, j, aw, ax, ay⟩ := hq
    have E:y1.H id=some (.lp g A N w j aw .ready none) := by rw[a7];exact ax
    have a8 := I T.le E
    obtain⟨r1, aa, ab, ac⟩ := O U E a8
    obtain⟨t1, t2⟩ := Ud (st' := .busy) (pd' := none) U E a8 aa
    have ad := run_beginRound (P := P) aa ab
    have ae:({ r1 with state := .busy } : Loop) = { r1 with state := .busy, pending := none } := by rw[← ac]
    rw[ae] at ad
    refine⟨_, ad, ?_⟩
    refine wpIn_mono (ay (some b) (.inr a6.2) z a1 _ ⟨al, an, ao, _, rfl, T.trans t1, t2, by rw[a7];funext i;simp only[Bv], ar, λt => (av t).mono t1⟩) λe a2 w2 ⟨b5, s2, B, az⟩ => ?_
    obtain⟨b6, b7, b8, y2, b0, V, X, af, b1, b9⟩ := az
    subst b0
    have Y:∀(q:Option Code) (A:AX) (N:Nat) (w:List Nat) (j u:Code), hget s2.h id=some (.lp g A N w j u .busy none)→C q.isNone ((id, some (.lp g A N w j u (if q.isNone then .ready else .done) q))::s2.h) s2.n →
        ∃v w', (Instr.endRound b q).run P y2.w=.ok v w'∧∃(x:Bool) (y:Cx) (h':AO) (n':Nat), (Ending.returned v)=.returned (.bool x)∧y.w=w'∧z.le y∧y.ok∧y.H=hget h'∧y.n=n'∧C x h' n' := by
      intro q A N w j u b2 hc
      have F:y2.H id=some (.lp g A N w j u .busy none) := by rw[af];exact b2
      have ag := I V.le F
      obtain⟨r2, ah, b3, b4⟩ := O X F ag
      obtain⟨u1, u2⟩ := Ud (st' := if q.isNone then .ready else .done) (pd' := q) X F ag ah
      exact⟨_, _, run_endRound q ah, q.isNone, _, _, _, rfl, rfl, V.le.trans u1, u2, by rw[af];funext i;simp only[Bv], b1, hc⟩
    cases e with
    | normal => obtain⟨A, N, w, j, u, J, M⟩ := B;exact Y none A N w j u J M
    | ret => obtain⟨A, N, w, j, u, J, M⟩ := B;exact Y (some .ret) A N w j u J M
    | exit i => obtain⟨A, N, w, j, u, J, M⟩ := B;exact Y (some (.exit i)) A N w j u J M
    | goto l => exact B.elim
    | panic ch => exact B.elim
    | outgrown => exact B.elim
  | exit i => exact hq.elim
  | goto l => exact hq.elim
  | ret => exact hq.elim
  | panic ch => exact hq.elim
  | outgrown => exact hq.elim
theorem nZ{o:Oper}{fo}{xs:Array Operand}{j}{a:Act}{l}{w}(u:o.op=.call { callee:=.value fo,args:=xs,argTypes:=j })(q:a.eval fo=.func (.yield l) #[] #[]):(execOp a.eval o).run P w=(Instr.yield l (xs.map a.eval)).run P w:=by
 unfold execOp
 rw[u]
 simp only[resolve,q,Deferred.ofValue,Sem.run_bind,Sem.run_pure,Result.andThen_ok,invoke]
 simp
end
open Go.RowKit
section
variable{P:Program}{ops:Array Oper}{rest:List Oper}{s:St}{K:St→Prop}{o:Oper}
theorem vH{id g N}{U}{u:List Nat}{q M}{fo}{xs:Array Operand}{V}(bs:List AV)(hg:o.guard=none)(hd:∀d, o.dst=some d→Nat.blt d s.N=true)
 (ho:o.op=.call { callee := .value fo, args := xs, argTypes := V }) (X:Ev true s.e fo (.yld id g)) (hx:H1 true s.e xs.toList bs) (hh:hget s.h id=some (.lp g U N u q M .ready none))
 (Y:Nat.beq bs.length u.length=true) (Z:(u.all λp => Nat.blt p N)=true) (a0:(DB q&&DB M)=true)
 (hw:AW P q (VR P id g M λb h' n' => CQ P ops rest { e := (match o.dst with | some d => (d, .r (.bool b))::s.e | none => s.e), h := h', n := n', N := s.N } K) ⟨Sl u bs U, s.h, s.n, N⟩):CQ P ops (o::rest) s K := by
  intro c0 a w ⟨ds, B, hsz, y, a1, a2, C, hH, hn, O⟩ Q E hQ
  subst a1
  refine wpListIn_plain hg λK' a6 => ?_
  obtain⟨F, a7⟩ := hx.rep rfl O
  obtain⟨b, r, hβ, hv, hb, r1, r2, r3, r4, r5, r6, r7⟩ := kl C (by rw[hH];exact hh) (X.rep O rfl)
  refine⟨λ_ _ => trivial, ?_⟩
  rw[show(zF none).round=none from rfl, Oper.semAt_none, nZ ho hv]
  have a8:(xs.map a.eval).size=r.params.size := by
    rw[r1]
    have := vx Y
    simp only[Array.size_map, yS]
    rw[← this]
    simpa using F.symm
  rw[run_yield hb a8]
  have j:((r.params.zip (xs.map a.eval)).foldl (λtmps (x:Nat × Value) => tmps.setIfInBounds x.1 x.2) r.tmps)=(u.zip (xs.toList.map a.eval)).foldl (λt (p:Nat × Value) => t.setIfInBounds p.1 p.2) r.tmps := by
    rw[r1, ← Array.foldl_toList]
    simp
  obtain⟨k1, k2⟩ := Yl (x := y) u bs (xs.toList.map a.eval) U r.tmps (vx Y) (by have := vx Y;rw[← this];simpa using F.symm) a7 (λp hp => by rw[r6];exact Cn (wI.1 Z p hp)) r7
  have I:DB q=true∧DB M=true := by simpa using a0
  refine⟨λe => (by cases e), ?_⟩
  have hR := tK (f := r.fn) (b := b) (tmps := (u.zip (xs.toList.map a.eval)).foldl (λt (p:Nat × Value) => t.setIfInBounds p.1 p.2) r.tmps) C hH hn hh hβ hb ⟨r1, r2, r3, r4, r5⟩ (by rw[k1];exact r6) k2 I hw
  have T := j
  rw[r2, r3]
  rw[show(r.params.zip (xs.map a.eval)).foldl (λtmps (x:Tmp × Value) => match x with | (t, a) => tmps.setIfInBounds t a) r.tmps=(u.zip (xs.toList.map a.eval)).foldl (λt (p:Nat × Value) => t.setIfInBounds p.1 p.2) r.tmps from j]
  refine hR.mono λe w' ⟨x, z, h', n', he', aa, A, J, ab, ac, hc⟩ => ?_
  subst he'
  subst aa
  refine a6 _ _ ?_
  refine hc c0 (a.put o.dst (.bool x)) z.w ⟨ds, ?_, ?_, z, rfl, a2.trans A, J, ab, ac, ?_⟩ Q E hQ
  · cases l:o.dst<;>simpa[Act.put, l] using B
  · cases l:o.dst<;>simpa[Act.put, l] using hsz
  · cases l:o.dst with
    | none => exact O.mono A
    | some d =>
      have ad:d<a.tmps.size := by rw[hsz];exact Cn (hd d l)
      exact(O.mono A).put ad (.r (.bool x))
end
theorem vK{y:Cx}(l:y.ok) o:y.le { y with w:=y.w.alloc o,S:=λb=>y.S b∨b=y.w.heap.size } ∧ ({ y with w:=y.w.alloc o,S:=λb=>y.S b∨b=y.w.heap.size } : Cx).ok:=by
 have u:y.le { y with w:=y.w.alloc o,S:=λb=>y.S b∨b=y.w.heap.size }:=
  ⟨by simp,rfl,rfl,rfl,λb q=>Below.heap_alloc _ _ _ (q.elim (l.S_lt b) (l.F_lt b)),λb h=>.inl h,rfl,vu _,λid C h _=>⟨C,h,rfl,rfl,rfl⟩,λid C h A _ _=>⟨C,h,A,rfl,rfl,rfl,rfl⟩⟩
 have hsz:∀o:Obj,(y.w.alloc o).heap.size=y.w.heap.size+1:=λo=>World.size_alloc _ _
 refine⟨u,λb q=>?_,λb q=>?_,λb q A=>?_,λid w h=>?_,λid w b k E F=>?_,l.inj,l.extOf (y:={ y with w:=y.w.alloc o,S:=λb=>y.S b∨b=y.w.heap.size }) (λid o h=>⟨o,h⟩) rfl rfl (by show _≤(y.w.alloc o).heap.size;rw[hsz];omega) (λid o b k h B I=>I.elim (l.own' id o b k h B).2.1 λe=>by have:=(l.own' id o b k h B).1;omega) (λid o b k h B=>(l.own' id o b k h B).2.2),l.tabs.le u⟩
 ·show b<(y.w.alloc o).heap.size
  rw[hsz]
  rcases q with q | q
  ·have:=l.S_lt b q;omega
  ·omega
 ·show b<(y.w.alloc o).heap.size
  rw[hsz];have:=l.F_lt b q;omega
 ·rcases q with q | q
  ·exact l.SF b q A
  ·have:=l.F_lt b A;omega
 ·obtain⟨E,F⟩:=l.obj id w h
  exact⟨E,F.mono u (λb k q=>Below.heap_alloc _ _ _ (l.own id w b k h q).1) λj b k q=>Below.heap_alloc _ _ _ (l.own' id w b k h (.inr ⟨j,q⟩)).1⟩
 ·have:=l.own id w b k E F
  refine⟨by show b<(y.w.alloc o).heap.size;rw[hsz];omega,λq=>?_,this.2.2⟩
  rcases q with q | q
  ·exact this.2.1 q
  ·omega
section
variable{P:Program}{s:St}
def NT:AO→Bool
 | []=>true
 | (_,some o)::r=>!o.isCal&&NT r
 | (_,none)::r=>NT r
theorem tD{h}(l:NT h=true){id}{o:Ab}(j:hget h id=some o):o.isCal=false := by
  induction h with
  | nil => cases j
  | cons p r q =>
    obtain⟨d, v⟩ := p
    rw[Bv] at j
    cases v with
    | none => split at j
              · cases j
              · exact q l j
    | some u =>
      simp only[NT, vm, wl] at l
      split at j
      · cases j;exact l.1
      · exact q l.2 j
def WL(P:Program)(Q:Exit→St→Prop)(s:St)(id:Nat)(_:AV)(h':AO)(n':Nat):Prop:=
 ∃u N w j A l q,hget h' id=some (.lp s.n u N w j A l q)∧l≠.busy∧match q with
  | none=>Q .normal ⟨s.e,(id,none)::h',n',s.N⟩
  | some c=>AW P c Q ⟨s.e,(id,none)::h',n',s.N⟩
theorem vJ {g} {E : Array Tmp} {j F} {Q} {f} {fn : Func} {code} {caps : List AV} {N} id (hg : BK s.e g = .fn f caps) (hf : P.funcs[f]? = some fn) (hb : fn.body = some code) (I : (fn.name == "runtime.NumGoroutine") = false)
 (hN:fn.ntmps=N) (a0:Nat.blt caps.length N=true) (aq:NT s.h=true) (hw:AW P code (G7 P fn.results.toList (WL P Q s id)) ⟨DW 0 (.yld id s.n::caps), (id, some (.lp s.n s.e s.N E.toList j F .ready none))::s.h, s.n+1, N⟩) :
    AW P (.rangeFunc g E j F) Q s := by
  intro z hz c0 a w ⟨ds, a1, hsz, y, ar, l, a2, hH, hn, he⟩
  have av:z=none := hz.resolve_right (by simp[DB])
  subst av
  subst ar
  have J := he.eval g
  rw[hg] at J
  generalize a6:a.eval g=gv at J
  cases J with
  | @fn _ _ Z aw ax =>
  refine wpIn_rangeFunc λa7 _ => ?_
  obtain⟨q1, q2⟩ := vK a2 (.deferred (some []))
  have a8:∀r:Loop, r.params=E→r.assign=j→r.body=F→r.state=.ready→r.pending=none→r.tmps=a.tmps →
      ∃z:Cx, z.w=(y.w.alloc (.deferred (some []))).alloc (.loop r)∧y.le z∧z.ok∧z.H=hget ((id, some (.lp s.n s.e s.N E.toList j F .ready none))::s.h)∧z.n=s.n+1∧z.S y.w.heap.size∧z.β id=some (y.w.heap.size+1, 1) := by
    intro r e1 e2 e3 e4 e5 e6
    have aa := EV q2 id (.lp s.n s.e s.N E.toList j F .ready none) ((y.w.alloc (.deferred (some []))).alloc (.loop r)) (some (y.w.heap.size+1, 1)) (s.n+1) (by simp) rfl rfl rfl
      (λc hc _ => Below.heap_alloc _ _ _ hc) (λc k hc => by
        simp only[vz, wA] at hc
        obtain⟨rfl, rfl⟩ := hc
        exact⟨by simp, .inl (by simp)⟩) (by show y.n≤s.n+1;omega) (yp _) (λay => by
          have:s.n<y.n := ay
          omega)
      (λab => ⟨y.w.heap.size+1, r, rfl, by
        have := World.alloc_heap_new (y.w.alloc (.deferred (some []))) (.loop r)
        rwa [World.size_alloc] at this, by simp[e1], e2, e3, e4, e5, by rw[e6];exact hsz, λt => by rw[e6];exact((he t).mono q1).mono ab⟩)
    refine⟨_, rfl, q1.trans aa.1, aa.2, ?_, rfl, .inr rfl, by simp⟩
    funext i
    simp only[Bv]
    rw[hH]
  obtain⟨r, M⟩:∃r:Loop, r = { state := .ready, pending := none, fn := a7, tmps := a.tmps, params := E, assign := j, body := F, defers := y.w.heap.size } := ⟨_, rfl⟩
  obtain⟨x, ac, ad, ae, af, O, ag, ah⟩ := a8 r (by rw[M]) (by rw[M]) (by rw[M]) (by rw[M]) (by rw[M]) (by rw[M])
  have b9:x.H id=some (.lp s.n s.e s.N E.toList j F .ready none) := by rw[af, Bv, vh rfl]
  have az:x.w.heap[y.w.heap.size]?=some (.deferred (some [])) := by
    rw[ac];exact(Below.heap_alloc _ _ _ (by simp)).trans (World.alloc_heap_new _ _)
  have b0:AP x (.yld id s.n) (.func (.yield (y.w.heap.size+1)) #[] #[]) := .yld (by rw[O];omega) rfl λo ho _ => ⟨_, _, ah, rfl⟩
  have T:H9 x (.yld id s.n::caps) (#[Value.func (.yield (y.w.heap.size+1)) #[] #[]]++Z).toList := by
    refine⟨by simp[aw], λi c u U h2 => ?_⟩
    cases i with
    | zero =>
      simp only[List.getElem?_cons_zero, vz] at U
      have V:some (Value.func (.yield (y.w.heap.size+1)) #[] #[])=some u := by simpa using h2
      cases V;subst U;exact b0
    | succ i =>
      have V:Z[i]?=some u := by simpa[Array.getElem?_append] using h2
      exact(ax i c u (by simpa using U) V).mono ad
  have A:∀(args:Array Value) (w:World), (callFunc f args).run P w=.ok (.enter f args) w := λargs w => by
    simp only[callFunc, Sem.run_bind, run_program, Result.andThen_ok, hf, I, hb]
    simp[Sem.run_pure]
  refine⟨y.w.heap.size+1, [{ target := .collected y.w.heap.size, args := #[] }], x.w, { target := .fn (.func f) Z, args := #[.func (.yield (y.w.heap.size+1)) #[] #[]] }, x.w, f,
    #[.func (.yield (y.w.heap.size+1)) #[] #[]]++Z, x.w, ?_, ?_, λ_ _ => trivial, ?_, λe => (by cases e), ?_⟩
  · rw[ac, M];exact run_enterLoop_outer _ _ _ _ _
  · simp only[resolve, a6, Deferred.ofValue]
    simp[Act.eval, go_sem]
  · simp[invoke, A]
  · have b1 := gb (vs := #[.func (.yield (y.w.heap.size+1)) #[] #[]]++Z) hf hb hN (show(AV.yld id s.n::caps).length≤N from Cn a0) ae af O T hw
    have b2:CallsIn (zF none) (0 - 1) P f (#[.func (.yield (y.w.heap.size+1)) #[] #[]]++Z) x.w _ := callsIn_wide.2 b1
    refine b2.mono λe w' ⟨u, v, rv, h', n', he', b3, X, B, ai, ba, _, e0, N1, b4, b5, b6, st, pd, k1, k2, k3⟩ => ?_
    subst he'
    subst b3
    have Y:v.H id=some (.lp s.n e0 N1 b4 b5 b6 st pd) := by rw[ai];exact k1
    have aj:v.β id=some (y.w.heap.size+1, 1) := by
      obtain⟨o', _, _, _, h4⟩ := X.H id _ Y (.inl (show s.n<x.n by rw[O];omega))
      rw[h4];exact ah
    obtain⟨_, b', r', m1, m2, _, _, _, m6, m7, _⟩ := B.obj _ _ Y
    rw[aj] at m1
    simp only[vz, wA] at m1
    obtain⟨rfl, _⟩ := m1
    have ak := run_endLoop (P := P) m2 (by rw[m6];exact k2)
    obtain⟨t1, t2⟩ := Ud (st' := .exhausted) (pd' := r'.pending) B Y aj m2
    have b7:({ r' with state := .exhausted, pending := r'.pending } : Loop) = { r' with state := .exhausted } := rfl
    rw[b7] at t1 t2
    obtain⟨f1, f2⟩ := iF t2 (hget ((id, none)::h')) (λi o ho => by
      rw[Bv] at ho
      split at ho
      · cases ho
      · rename_i b8
        show(if id=i then _ else v.H i)=_
        rw[vg b8, ai];exact ho) n' (by show v.n≤n';omega)
    have q := ((ad.trans X).trans t1).trans f1
    have C:EU c0 ⟨s.e, (id, none)::h', n', s.N⟩ { a with defers := [{ target := .collected y.w.heap.size, args := #[] }]++a.defers } (v.w.putObj (y.w.heap.size+1) (.loop { r' with state := .exhausted })) := by
      refine⟨{ target := .collected y.w.heap.size, args := #[] } :: ds, by rw[← a1];rfl, hsz, _, rfl, ⟨l.le.trans q, ⟨List.nodup_cons.2 ⟨λal => ?_, l.marks.1.1⟩, λ_ i oi hi => ?_⟩, λd hd => ?_⟩, f2, rfl, rfl, he.mono q⟩
      · obtain⟨D, U, _, h3, _⟩ := l.marks.2 _ al
        have := a2.S_lt D h3
        simp only[Deferred.mk.injEq, Target.collected.injEq] at U
        omega
      · cases an:oi.isCal with
        | false => rfl
        | true =>
          obtain⟨o1, e1, _, e2, _⟩ := q.H i oi hi (.inr an)
          rw[hH] at e1
          have := tD aq e1
          rw[T6 e2, an] at this
          cases this
      · have ao := (X.trans t1).trans f1
        rcases wC.1 hd with rfl | hd
        · exact⟨_, rfl, l.le.size, ao.S _ ag, (ao.blk _ (.inl ag)).trans az⟩
        · obtain⟨D, U, h2, h3, h4⟩ := l.marks.2 d hd
          exact⟨D, U, h2, q.S D h3, (q.blk D (.inl h3)).trans h4⟩
    refine⟨r'.pending, _, ak, ?_⟩
    split
    · rename_i hp
      rw[m7] at hp
      subst hp
      exact⟨by simp, _, k3, C⟩
    · rename_i c hp
      rw[m7] at hp
      subst hp
      exact k3 none (.inl rfl) c0 _ _ C
end
section
variable{P:Program}{ops:Array Oper}{Q:Exit→Act→World→Prop}{md:Region.Mode}
theorem sw(q:¬ LetsOut Q){i}{K}{a}{w}(h:wpOp P ops Q i K a w):wpOpIn (zF none) 0 P ops Q i K a w:=by
 unfold wpOp at h
 unfold wpOpIn
 split
 ·rename_i j;rw[j] at h;exact h
 ·rename_i o j
  rw[j] at h
  simp only at h
  split
  ·rename_i l
   rw[vh l] at h
   rcases h with h | h
   ·exact Wj (z:=none) (.inl rfl) h
   ·exact absurd h.2 q
  ·rename_i l
   rw[vg l] at h
   exact⟨λ_ _=>trivial,h⟩
theorem bG(j:¬ LetsOut Q){w}{n g}{L}(l:∀listed a,L listed a→wpAnyIn (zF none) 0 P md ops Q g listed a w) :
  ∀(f:Nat) (listed:Array Bool) (a:Act),wpAnyL P md ops w n L f listed a→wpAnyIn (zF none) 0 P md ops Q (f+g) listed a w
 | 0,listed,a,h=>by rw[wK];exact l _ _ h
 | f+1,listed,a,h=>by
  rw[show f+1+g=(f+g)+1 by omega]
  exact⟨λq=>absurd q h.1,λi u=>sw j (wpOp_of_stOp (λA B=>bG j l f _ A B) (h.2 i u).2)⟩
theorem Zb:∀(l:List Oper) (k:Nat) (listed:Array Bool) (a:Act) (w:World),(∀j,l[j]?=ops[k+j]?) →
  Region.seqB md ops l.length k listed=true→wpListIn (zF none) 0 P ops Q l a w→wpAnyIn (zF none) 0 P md ops Q l.length listed a w
 | [],_,_,_,_,_,hB,h=>⟨by simpa[Region.seqB] using hB,h⟩
 | o::l,k,listed,a,w,u,hB,h=>by
  have C:ops[k]?=some o:=by simpa using(u 0).symm
  simp only[v6,Region.seqB,vm,vi] at hB
  refine⟨λA=>(by rw[hB.1] at A;cases A),λi B=>?_⟩
  rw[hB.1] at B
  have q:i=k:=by simpa using B
  subst q
  have E:wpOpIn (zF none) 0 P ops Q i (wpListIn (zF none) 0 P ops Q l) a w:=by unfold wpOpIn;simp only[C];exact h
  exact wpOpIn_mono (λF w' I=>Zb l (i+1) _ F w' (λj=>by have:=u (j+1);simpa[xl,yf 1 j] using this) hB.2 I) E
theorem SK{z}(j:z=none∨ops.toList.all H5=true):∀(l:List Nat) (a:Act) (w:World),wpOpsIn (zF none) 0 P ops Q l a w→wpOpsIn (zF z) 0 P ops Q l a w
 | [],_,_,h=>h
 | i::rest,a,w,h=>by
  simp only[wpOpsIn] at h ⊢
  split
  ·rename_i q;rw[q] at h;exact SK j rest a w h
  ·rename_i o q
   rw[q] at h
   simp only at h
   split
   ·rename_i u
    rw[vh u] at h
    exact eN (j.imp _root_.id λA=>wI.1 A o (wJ (by rw[w0];exact q))) (Oper.wpIn_mono (λa w h=>SK j rest a w h) h)
   ·rename_i u
    rw[vg u] at h
    exact⟨λ_ _=>trivial,SK j rest _ w h.2⟩
theorem vS{s}{id}{l l1 l2:List Oper}{Q} n(hm:P.follows .mixedOrders=true)(hB:Region.lexTailB .any l.toArray n=true)(h1:l.take n=l1)(h2:l.drop n=l2)
 (h:AT P l.toArray l1 s (λs' => CQ P l.toArray l2 s' (Q .normal))):AW P (.region id l.toArray true) Q s := by
  intro z0 O M a w ⟨_, A, hsz, y, T, U, V, hH, hn, he⟩
  subst T
  subst h1;subst h2
  obtain⟨r1, r2⟩ := Q1 V
  simp only[Region.lexTailB, vm, vi] at hB
  obtain⟨⟨⟨⟨B, C⟩, hs⟩, hc⟩, E⟩ := hB
  have a0:n<l.length := by simpa using C
  have q:(l.take n).length=n := by simp;omega
  have F:(l.drop n).length=l.toArray.size - n := by simp
  have I:HeadInv .any l.toArray n (Array.replicate l.toArray.size false) :=
    ⟨by simp, λj oj _ hl => (by rw[getD_replicate_false] at hl;cases hl), λt _ ht => getD_in (by simpa using ht) (getD_replicate_false _ _)⟩
  have H := wpAnyL_lex (md := .any) (g := l.toArray.size - n) B hs hc C (l.take n) 0 _ a (λj hj => by
    have X:j<n := by rw[q] at hj;exact hj
    simp[X]) (by simpa using q) I (by rw[q];exact E)
    (h _ a r2 hH hn hsz (he.mono r1) (λJ => wpListIn (zF none) 0 P l.toArray (ED M Q) (l.drop n) J { y.w with drawn := y.w.drawn+1 }) λs' J k1 k2 k3 k4 k5 k6 k7 =>
      k1 M J _ ⟨_, k6.trans A, by rw[k5, k4], _, rfl, U.trans r1, r2, by rw[k2];exact hH, by rw[k3];exact hn, k7⟩ _ Jz λY a1 a2 k Z => ⟨by simp, Y, k, Z⟩)
  refine wpIn_region_draw λt => ?_
  simp only[Region.schedule, hm, yX, xZ]
  refine SK (O.imp _root_.id λh => h) _ a _ (wpAnyIn_sound l.toArray.size t _ a _ ?_)
  have := bG (Q := ED M Q) (g := l.toArray.size - n) Jz (λu J hL => by
    have := Zb (md := .any) (Q := ED M Q) (l.drop n) n u J { y.w with drawn := y.w.drawn+1 } (λj => by simp[xJ]) (by rw[F];exact hL.1) hL.2
    rwa [F] at this) _ _ _ H
  rw[q, show n+(l.toArray.size - n)=l.toArray.size by omega] at this
  exact this
end
end Go.Proofs.YtgcalnmhoifpoaaGreatDoor.Al

namespace Go.Proofs.YtgcalnmhoifpoaaGreatDoor.Al
inductive Fr where
 | seq (y:Code)
 | block (id:Nat)
 | loop (n:Nat) (x:Code)
 | call (ops:Array Oper) (rest:List Oper) (d:Option Nat) (e:AX) (N:Nat) (rs:List ResultVar)
 | rng (id:Nat) (s:St) (rs:List ResultVar)
 | rndA (id g:Nat) (bd:Code) (ops:Array Oper) (rest:List Oper) (d:Option Nat) (e:AX) (N:Nat)
 | rndB (id g:Nat) (ops:Array Oper) (rest:List Oper) (d:Option Nat) (e:AX) (N:Nat)
def EW(d:Option Nat)(r:AV)(e:AX):AX:=match d with
 | some t=>(t,r)::e
 | none=>e
def DM(P:Program)(Q:Exit→St→Prop):List Fr→Exit→St→Prop
 | []=>Q
 | .seq y::ks=>E6 (AW P y (DM P Q ks)) (DM P Q ks)
 | .block id::ks=>Qk id (DM P Q ks)
 | .loop n x::ks=>E6 (H7 P x (DM P Q ks) n) (DM P Q ks)
 | .call ops rest d e N q::ks=>G7 P q λr j l=>CQ P ops rest { e:=EW d r e,h:=j,n:=l,N:=N } (DM P Q ks .normal)
 | .rng id s q::ks=>G7 P q (WL P (DM P Q ks) s id)
 | .rndA id g u ops rest d e N::ks=>VR P id g u λb j l=>CQ P ops rest { e:=EW d (.r (.bool b)) e,h:=j,n:=l,N:=N } (DM P Q ks .normal)
 | .rndB id g ops rest d e N::ks=>fM id g λb j l=>CQ P ops rest { e:=EW d (.r (.bool b)) e,h:=j,n:=l,N:=N } (DM P Q ks .normal)
inductive Dk where
 | code (c:Code) (ks:List Fr) (s:St)
 | ops (ops:Array Oper) (rest:List Oper) (ks:List Fr) (s:St)
 | out (x:Exit) (ks:List Fr) (s:St)
def Da(P:Program)(Q:Exit→St→Prop):Dk→Prop
 | .code c ks s=>AW P c (DM P Q ks) s
 | .ops ops rest ks s=>CQ P ops rest s (DM P Q ks .normal)
 | .out x ks s=>DM P Q ks x s
def GV(R:AX)(ops:Array Oper)(o:Oper):Option Bool:=match o.guard with
 | none=>none
 | some (j,l)=>match (ops[j]?).bind (·.dst) with
  | some q=>match BK R (.tmp q) with
   | .r (.bool b)=>some (b==l)
   | .whn u (.r (.bool b))=>some (u&&(b==l))
   | _=>none
  | none=>none
theorem FQ{R}{ops}{o}{c}(h:GV R ops o=some c):CS R ops o c:=by
 unfold GV at h
 split at h
 ·cases h
 ·rename_i j q hg
  split at h
  ·rename_i w u
   split at h
   ·rename_i b l;cases h;exact .one hg u l
   ·rename_i A b l;cases h;exact .two hg u l
   ·cases h
  ·cases h
def RL(P:Program)(s:St):ResultVar→Option AV
 | .tmp t=>some (get s.e t)
 | .cell a t=>match get s.e a with
  | .ptr id g 0 0=>match hget s.h id with
   | some (.box l _ j)=>if l=g then match LK P t with
     | true=>match j with
      | [r]=>some r
      | _=>none
     | false=>match KM P t with
      | some sz=>if sz=j.length then some (.agg j) else none
      | none=>none
    else none
   | _=>none
  | _=>none
theorem eo{P}{s}{x}{r}(h:RL P s x=some r):IN P x s r:=by
 unfold RL at h
 split at h
 ·cases h;rfl
 ·split at h
  ·rename_i id g hp
   split at h
   ·rename_i w e A j
    split at h
    ·rename_i hg;subst hg
     split at h
     ·rename_i l
      split at h
      ·cases h;exact .inl ⟨QR l,id,_,_,hp,j⟩
      ·cases h
     ·split at h
      ·rename_i sz q
       split at h
       ·rename_i u;cases h;exact .inr ⟨_,rfl,by rw[← u];exact Ot q,id,_,_,hp,j⟩
       ·cases h
      ·cases h
    ·cases h
   ·cases h
  ·cases h
def SS(P:Program)(s:St):List ResultVar→Option (List AV)
 | []=>some []
 | x::l=>match RL P s x,SS P s l with
  | some r,some j=>some (r::j)
  | _,_=>none
theorem Yd{P}{s} : ∀ {l:List ResultVar} {j:List AV},SS P s l=some j→NZ P l s j
 | [],j,h=>by cases h;trivial
 | x::l,j,h=>by
  unfold SS at h
  split at h
  ·rename_i r q u w;cases h;exact⟨eo u,Yd w⟩
  ·cases h
def Kv(P:Program)(s:St):List ResultVar→Option AV
 | [x]=>RL P s x
 | l=>(SS P s l).map .tup
theorem P4{P}{s}{l}{r}(h:Kv P s l=some r):Jm P l s r:=by
 unfold Kv at h
 split at h
 ·exact eo h
 ·rename_i A j
  rw[v8] at h
  obtain⟨q,u,rfl⟩:=h
  have w:=Yd u
  unfold Jm
  split
  ·rename_i x;exact absurd rfl (j x)
  ·exact⟨q,rfl,w⟩
def RQ(o:Oper):Bool:=match o.op with
 | .store _ _ _ | .alloc _ | .box _ _ | .buildSlice _ _ _ | .makeSlice _ _ _ | .makeMap _ _ | .mapUpdate _ _ _ _ | .insert _ _ _ _ | .range _ _ | .next _ _=>false
 | .call ⟨.builtin .len,_,_⟩ | .call ⟨.builtin .min,_,_⟩ | .call ⟨.builtin .max,_,_⟩=>true
 | .call _=>false
 | _=>true
def II(P:Program)(ops:Array Oper):List Oper→St→Option St
 | [],s=>some s
 | o::rest,s=>match o.dst with
  | some d=>match Nat.blt d s.N with
   | true=>match o.guard with
    | none=>match LA P s.e s.h o with
     | some v=>II P ops rest { e:=(d,v)::s.e,h:=s.h,n:=s.n,N:=s.N }
     | none=>none
    | some _=>match GV s.e ops o with
     | some true=>match LA P s.e s.h o with
      | some v=>II P ops rest { e:=(d,.whn true v)::s.e,h:=s.h,n:=s.n,N:=s.N }
      | none=>none
     | some false=>II P ops rest { e:=(d,.whn false (.r (.bool false)))::s.e,h:=s.h,n:=s.n,N:=s.N }
     | none=>none
   | false=>none
  | none=>none
theorem SU{P}{ops}{K} : ∀ {l:List Oper} {s s':St},II P ops l s=some s'→K s'→AT P ops l s K
 | [],s,s',h,q=>by cases h;exact AT.nil q
 | o::rest,s,s',h,q=>by
  unfold II at h
  split at h
  ·rename_i d hd
   split at h
   ·rename_i u
    split at h
    ·rename_i hg
     split at h
     ·rename_i v w;exact AT.step hg hd u (LJ w) (SU h q)
     ·cases h
    ·split at h
     ·rename_i j
      split at h
      ·rename_i v w;exact AT.stepW (FQ j) hd u (LJ w) (SU h q)
      ·cases h
     ·rename_i j;exact AT.stepW (FQ j) hd u (AR.no rfl) (SU h q)
     ·cases h
   ·cases h
  ·cases h
theorem SL{P}{ops}{K} : ∀ {l:List Oper} {s s':St},II P ops l s=some s'→K s'→AQ P ops l s K
 | [],s,s',h,q=>by cases h;exact AQ.nil q
 | o::rest,s,s',h,q=>by
  unfold II at h
  split at h
  ·rename_i d hd
   split at h
   ·rename_i u
    split at h
    ·rename_i hg
     split at h
     ·rename_i v w;exact AQ.step hg hd u (LJ w) (SL h q)
     ·cases h
    ·split at h
     ·rename_i j
      split at h
      ·rename_i v w;exact AQ.stepW (FQ j) hd u (LJ w) (SL h q)
      ·cases h
     ·rename_i j;exact AQ.stepW (FQ j) hd u (AR.no rfl) (SL h q)
     ·cases h
   ·cases h
  ·cases h
def VD(P:Program)(ops:Array Oper)(ks:List Fr)(s:St):Option Dk:=
 match ops.toList.all RQ with
 | true=>match Region.lexB .any ops with
  | true=>(II P ops ops.toList s).map (.out .normal ks ·)
  | false=>none
 | false=>
  let n:=(ops.toList.takeWhile RQ).length
  match Region.lexTailB .any ops n with
  | true=>(II P ops (ops.toList.take n) s).map (.ops ops (ops.toList.drop n) ks ·)
  | false=>none
def Tf(P:Program)(ops:Array Oper)(o:Oper)(rest:List Oper)(ks:List Fr)(s:St)(l:Bool):Option Dk:=
 match o.dst with
 | some d=>match Nat.blt d s.N with
  | true=>match LA P s.e s.h o with
   | some v=>some (.ops ops rest ks { e:=(d,v)::s.e,h:=s.h,n:=s.n,N:=s.N })
   | none=>match JZ P s.e s.h s.n o with
    | some (v,q,u)=>some (.ops ops rest ks { e:=(d,v)::s.e,h:=q,n:=u,N:=s.N })
    | none=>match o.op with
     | .call ⟨.value fo,xs,_⟩=>match Ap s.e fo with
      | .fn f j=>match P.funcs[f]? with
       | some fn=>match fn.body with
        | some code => if (fn.name == "runtime.NumGoroutine") = false ∧ Nat.ble (xs.toList.map (Ap s.e) ++ j).length fn.ntmps = true then
          some (.code code (.call ops rest (some d) s.e s.N fn.results.toList::ks) ⟨DW 0 (xs.toList.map (Ap s.e)++j),s.h,s.n,fn.ntmps⟩) else none
        | none=>none
       | none=>none
      | _=>none
     | _=>none
  | false=>none
 | none=>match l with
  | true=>none
  | false=>match JZ P s.e s.h s.n o with
   | some (_,q,u)=>some (.ops ops rest ks { e:=s.e,h:=q,n:=u,N:=s.N })
   | none=>match o.op with
    | .call ⟨.value fo,xs,_⟩=>match Ap s.e fo with
     | .fn f j=>match P.funcs[f]? with
      | some fn=>match fn.body with
       | some code => if (fn.name == "runtime.NumGoroutine") = false ∧ Nat.ble (xs.toList.map (Ap s.e) ++ j).length fn.ntmps = true then
         some (.code code (.call ops rest none s.e s.N fn.results.toList::ks) ⟨DW 0 (xs.toList.map (Ap s.e)++j),s.h,s.n,fn.ntmps⟩) else none
       | none=>none
      | none=>none
     | _=>none
    | _=>none
def pf(N:Nat):Option Nat→Bool
 | some d=>Nat.blt d N
 | none=>true
def Wa(ops:Array Oper)(o:Oper)(rest:List Oper)(ks:List Fr)(s:St):Option Dk:=match o.op with
 | .call ⟨.value fo,xs,_⟩=>match Ap s.e fo with
  | .yld id g=>match hget s.h id with
   | some (.lp u w N l j q .ready none)=>if(u=g∧pf s.N o.dst=true)∧(Nat.beq (xs.toList.map (Ap s.e)).length l.length=true∧(l.all λp=>Nat.blt p N)=true)∧(DB j&&DB q)=true then
     some (.code j (.rndA id g q ops rest o.dst s.e s.N::ks) ⟨Sl l (xs.toList.map (Ap s.e)) w,s.h,s.n,N⟩) else none
   | _=>none
  | _=>none
 | _=>none
def Uf(P:Program)(g:Operand)(q:Array Tmp)(l u:Code)(ks:List Fr)(s:St):Option Dk:=match BK s.e g with
 | .fn f j=>match P.funcs[f]? with
  | some fn=>match fn.body with
   | some code => if (fn.name == "runtime.NumGoroutine") = false ∧ Nat.blt j.length fn.ntmps = true ∧ NT s.h = true then
     some (.code code (.rng s.n s fn.results.toList::ks) ⟨DW 0 (.yld s.n s.n::j),(s.n,some (.lp s.n s.e s.N q.toList l u .ready none))::s.h,s.n+1,fn.ntmps⟩) else none
   | none=>none
  | none=>none
 | _=>none
def TT(P:Program)(id:Nat)(j:St)(l:List ResultVar)(ks:List Fr)(s:St):Option Dk:=match Kv P s l with
 | some _=>match hget s.h id with
  | some (.lp g _ _ _ _ _ .busy _)=>none
  | some (.lp g _ _ _ _ _ _ q)=>if g=j.n then match q with
    | none=>some (.out .normal ks ⟨j.e,(id,none)::s.h,s.n,j.N⟩)
    | some c=>some (.code c ks ⟨j.e,(id,none)::s.h,s.n,j.N⟩)
   else none
  | _=>none
 | none=>none
def Vf(id g:Nat)(q:Code)(ops:Array Oper)(rest:List Oper)(d:Option Nat)(e:AX)(N:Nat)(ks:List Fr)(s:St):Option Dk:=match hget s.h id with
 | some (.lp u w A B j l .ready none)=>if u=g then some (.code q (.rndB id g ops rest d e N::ks) ⟨s.e,(id,some (.lp g w A B j l .busy none))::s.h,s.n,s.N⟩) else none
 | _=>none
def Wt(id g:Nat)(ops:Array Oper)(rest:List Oper)(d:Option Nat)(e:AX)(N:Nat)(ks:List Fr)(s:St)(x:Exit):Option Dk:=match hget s.h id with
 | some (.lp A l q u j w .busy none)=>if A=g then match x with
   | .normal=>some (.ops ops rest ks { e:=EW d (.r (.bool true)) e,h:=(id,some (.lp g l q u j w .ready none))::s.h,n:=s.n,N:=N })
   | .ret=>some (.ops ops rest ks { e:=EW d (.r (.bool false)) e,h:=(id,some (.lp g l q u j w .done (some .ret)))::s.h,n:=s.n,N:=N })
   | .exit i=>some (.ops ops rest ks { e:=EW d (.r (.bool false)) e,h:=(id,some (.lp g l q u j w .done (some (.exit i))))::s.h,n:=s.n,N:=N })
   | _=>none
  else none
 | _=>none
def step(P:Program):Dk→Option Dk
 | .code c ks s=>match c with
  | .skip=>some (.out .normal ks s)
  | .ret=>some (.out .ret ks s)
  | .exit id=>some (.out (.exit id) ks s)
  | .seq x y=>some (.code x (.seq y::ks) s)
  | .block id x=>some (.code x (.block id::ks) s)
  | .loop x=>some (.code x (.loop 1000000 x::ks) s)
  | .cond b x y=>match BK s.e b with
   | .r (.bool true)=>some (.code x ks s)
   | .r (.bool false)=>some (.code y ks s)
   | _=>none
  | .region _ ops false=>some (.ops ops ops.toList ks s)
  | .region _ ops true=>VD P ops ks s
  | .rangeFunc g w l q=>Uf P g w l q ks s
  | _=>none
 | .ops _ [] ks s=>some (.out .normal ks s)
 | .ops ops (o::rest) ks s=>match o.guard with
  | none=>match Tf P ops o rest ks s false with
   | some c=>some c
   | none=>Wa ops o rest ks s
  | some _=>match GV s.e ops o with
   | some true=>Tf P ops o rest ks s true
   | some false=>match o.dst with
    | some d=>match Nat.blt d s.N with
     | true=>some (.ops ops rest ks { e:=(d,.whn false (.r (.bool false)))::s.e,h:=s.h,n:=s.n,N:=s.N })
     | false=>none
    | none=>some (.ops ops rest ks s)
   | none=>none
 | .out x (.seq y::ks) s=>match x with
  | .normal=>some (.code y ks s)
  | .ret=>some (.out .ret ks s)
  | .exit id=>some (.out (.exit id) ks s)
  | _=>none
 | .out x (.block id::ks) s=>match x with
  | .normal=>some (.out .normal ks s)
  | .ret=>some (.out .ret ks s)
  | .exit i=>if i=id then some (.out .normal ks s) else some (.out (.exit i) ks s)
  | _=>none
 | .out x (.loop n y::ks) s=>match x with
  | .normal=>match n with
   | n+1=>some (.code y (.loop n y::ks) s)
   | 0=>none
  | .ret=>some (.out .ret ks s)
  | .exit id=>some (.out (.exit id) ks s)
  | _=>none
 | .out x (.call ops rest d e N j::ks) s=>match x with
  | .normal=>(Kv P s j).map λr=>.ops ops rest ks { e:=EW d r e,h:=s.h,n:=s.n,N:=N }
  | .ret=>(Kv P s j).map λr=>.ops ops rest ks { e:=EW d r e,h:=s.h,n:=s.n,N:=N }
  | _=>none
 | .out x (.rng id u j::ks) s=>match x with
  | .normal=>TT P id u j ks s
  | .ret=>TT P id u j ks s
  | _=>none
 | .out x (.rndA id g q ops rest d e N::ks) s=>match x with
  | .normal=>Vf id g q ops rest d e N ks s
  | _=>none
 | .out x (.rndB id g ops rest d e N::ks) s=>Wt id g ops rest d e N ks s x
 | .out _ [] _=>none
end Go.Proofs.YtgcalnmhoifpoaaGreatDoor.Al

set_option linter.unusedVariables false
namespace Go.Proofs.YtgcalnmhoifpoaaGreatDoor.Al
section
variable{P:Program}{Q:Exit→St→Prop}{ks:List Fr}{s:St}
theorem Xp{ops}{rest}{K}{o:Oper}{d}{j}{v}{h'}{n'}(hg:(j=false∧o.guard=none)∨CS s.e ops o true)(hd:o.dst=some d)(l:Nat.blt d s.N=true)
 (q:A7 P true o s.e s.h s.n v h' n') (u:AL P ops rest { e := (d, v)::s.e, h := h', n := n', N := s.N } K):AL P ops (o::rest) s K := by
  rcases hg with ⟨_, hg⟩ | hg
  · exact AL.step hg hd l q u
  · exact IB hg rfl hd l q u
theorem fT{ops}{o:Oper}{rest}{u}{Z}(hg:(u=false∧o.guard=none)∨(u=true∧CS s.e ops o true))(h:Tf P ops o rest ks s u=some Z)(hc:Da P Q Z) :
  CQ P ops (o::rest) s (DM P Q ks .normal):=by
 have one:∀ {E:St},AL P ops [o] s (λs2=>s2=E)→CQ P ops rest E (DM P Q ks .normal)→CQ P ops (o::rest) s (DM P Q ks .normal):=λC A=>CQ.cons C λs2 e=>e ▸ A
 have I:(u=false∧o.guard=none)∨CS s.e ops o true:=hg.imp id λh=>h.2
 unfold Tf at h
 split at h
 ·rename_i d hd
  split at h
  ·rename_i T
   split at h
   ·rename_i v J;cases h
    exact one (Xp I hd T ((LJ (c:=true) J).spec _) (AL.nil rfl)) hc
   ·split at h
    ·rename_i v h' n' J;cases h
     exact one (Xp I hd T (S6 J) (AL.nil rfl)) hc
    ·split at h
     ·rename_i fo xs Y U
      split at h
      ·rename_i f j F
       split at h
       ·rename_i fn V
        split at h
        ·rename_i code X
         split at h
         ·rename_i C;cases h
          have w:Ev true s.e fo (.fn f j):=by rw[← F];exact BM true s.e fo
          rcases hg with ⟨_,hg⟩ | ⟨_,hg⟩
          ·exact CQ.cons (vI (K:=λE=>CQ P ops rest E (DM P Q ks .normal)) j _ hg hd T U w (Kk true s.e xs.toList) V X C.1 rfl C.2 (AW.mono hc λe s' q=>by
            cases e with
            | normal=>obtain⟨r,A,B⟩:=q;exact⟨r,A,AL.nil B⟩
            | ret=>obtain⟨r,A,B⟩:=q;exact⟨r,A,AL.nil B⟩
            | exit id=>exact q.elim
            | goto l=>exact q.elim
            | panic c=>exact q.elim
            | outgrown=>exact q.elim)) λ_ h=>h
          ·exact CQ.cons (vU (K:=λE=>CQ P ops rest E (DM P Q ks .normal)) j _ hg rfl hd T U w (Kk true s.e xs.toList) V X C.1 rfl C.2 (λK' M=>AW.mono hc λe s' q=>by
            cases e with
            | normal=>obtain⟨r,A,B⟩:=q;exact⟨r,A,M _ _ _ (AL.nil B)⟩
            | ret=>obtain⟨r,A,B⟩:=q;exact⟨r,A,M _ _ _ (AL.nil B)⟩
            | exit id=>exact q.elim
            | goto l=>exact q.elim
            | panic c=>exact q.elim
            | outgrown=>exact q.elim)) λ_ h=>h
         ·cases h
        ·cases h
       ·cases h
      ·cases h
     ·cases h
  ·cases h
 ·rename_i hd
  split at h
  ·cases h
  ·have O:o.guard=none:=by
    rcases hg with ⟨_,hg⟩ | ⟨e,_⟩
    ·exact hg
    ·cases e
   split at h
   ·rename_i v h' n' J;cases h
    exact one (iC O hd (S6 J) (AL.nil rfl)) hc
   ·split at h
    ·rename_i fo xs Y U
     split at h
     ·rename_i f j F
      split at h
      ·rename_i fn V
       split at h
       ·rename_i code X
        split at h
        ·rename_i C;cases h
         have w:Ev true s.e fo (.fn f j):=by rw[← F];exact BM true s.e fo
         exact CQ.cons (vB (K:=λE=>CQ P ops rest E (DM P Q ks .normal)) j _ O hd U w (Kk true s.e xs.toList) V X C.1 rfl C.2 (AW.mono hc λe s' q=>by
            cases e with
            | normal=>obtain⟨r,A,B⟩:=q;exact⟨r,A,AL.nil B⟩
            | ret=>obtain⟨r,A,B⟩:=q;exact⟨r,A,AL.nil B⟩
            | exit id=>exact q.elim
            | goto l=>exact q.elim
            | panic c=>exact q.elim
            | outgrown=>exact q.elim)) λ_ h=>h
        ·cases h
       ·cases h
      ·cases h
     ·cases h
    ·cases h
theorem jo{ops}{o:Oper}{rest}{q}(hg:o.guard=none)(h:Wa ops o rest ks s=some q)(hc:Da P Q q):CQ P ops (o::rest) s (DM P Q ks .normal):=by
 unfold Wa at h
 split at h
 ·rename_i fo xs w A
  split at h
  ·rename_i id g l
   split at h
   ·rename_i B O N T C U E
    split at h
    ·rename_i F
     obtain⟨⟨rfl,u⟩,⟨I,J⟩,M⟩:=F
     cases h
     have j:Ev true s.e fo (.yld id B):=by rw[← l];exact BM true s.e fo
     exact vH _ hg (λd hd=>by rw[hd] at u;exact u) A j (Kk true s.e xs.toList) E I J M hc
    ·cases h
   ·cases h
  ·cases h
 ·cases h
theorem rd{g}{q}{j u}{w}(h:Uf P g q j u ks s=some w)(hc:Da P Q w):AW P (.rangeFunc g q j u) (DM P Q ks) s:=by
 unfold Uf at h
 split at h
 ·rename_i f A hg
  split at h
  ·rename_i fn B
   split at h
   ·rename_i code C
    split at h
    ·rename_i l;cases h
     exact vJ _ hg B C l.1 rfl l.2.1 l.2.2 hc
    ·cases h
   ·cases h
  ·cases h
 ·cases h
theorem gI{id}{q}{u}{w}(h:TT P id q u ks s=some w)(hc:Da P Q w):∃r,Jm P u s r∧WL P (DM P Q ks) q id r s.h s.n:=by
 unfold TT at h
 split at h
 ·rename_i r A
  refine⟨r,P4 A,?_⟩
  split at h
  ·cases h
  ·rename_i g B N C j E F I l J
   split at h
   ·rename_i hg;subst hg
    refine⟨B,N,C,j,E,F,I,J,λe=>?_,?_⟩
    ·exact l e
    ·split at h
     ·cases h;exact hc
     ·cases h;exact hc
   ·cases h
  ·cases h
 ·cases h
theorem nI{id g}{q}{ops}{rest}{d}{e}{N}{u}(h:Vf id g q ops rest d e N ks s=some u)(hc:Da P Q u):DM P Q (.rndA id g q ops rest d e N::ks) .normal s:=by
 unfold Vf at h
 split at h
 ·rename_i E w A B j l C
  split at h
  ·rename_i hg;subst hg;cases h
   exact⟨w,A,B,j,l,C,hc⟩
  ·cases h
 ·cases h
theorem mV{id g}{ops}{rest}{d}{e}{N}{x}{B}(h:Wt id g ops rest d e N ks s x=some B)(hc:Da P Q B):DM P Q (.rndB id g ops rest d e N::ks) x s:=by
 unfold Wt at h
 split at h
 ·rename_i C l q u j w A
  split at h
  ·rename_i hg;subst hg
   split at h
   ·cases h;exact⟨l,q,u,j,w,A,hc⟩
   ·cases h;exact⟨l,q,u,j,w,A,hc⟩
   ·cases h;exact⟨l,q,u,j,w,A,hc⟩
   ·cases h
  ·cases h
 ·cases h
theorem nm(l:P.follows .mixedOrders=true){id}{ops:Array Oper}{q}(h:VD P ops ks s=some q)(hc:Da P Q q):AW P (.region id ops true) (DM P Q ks) s:=by
 unfold VD at h
 split at h
 ·split at h
  ·rename_i hB
   rw[v8] at h
   obtain⟨u,j,rfl⟩:=h
   exact hZ (l:=ops.toList) l hB (SL j hc)
  ·cases h
 ·dsimp only at h
  split at h
  ·rename_i hB
   rw[v8] at h
   obtain⟨u,j,rfl⟩:=h
   exact vS (l:=ops.toList) _ l hB rfl rfl (SU j hc)
  ·cases h
theorem jP(B:P.follows .mixedOrders=true){c A}(h:step P c=some A)(hc:Da P Q A):Da P Q c:=by
 unfold step at h
 split at h
 ·split at h
  ·cases h;exact AW.skip hc
  ·cases h;exact AW.ret hc
  ·cases h;exact AW.exit hc
  ·cases h;exact AW.seq hc
  ·cases h;exact AW.block hc
  ·cases h;exact vV (1000000+1) (H7.step hc)
  ·split at h
   ·rename_i q;cases h;exact AW.cond q (λ_=>hc) (λe=>by cases e)
   ·rename_i q;cases h;exact AW.cond q (λe=>by cases e) (λ_=>hc)
   ·cases h
  ·rename_i id ops;cases h;exact ut (l:=ops.toList) hc
  ·exact nm B h hc
  ·exact rd h hc
  ·cases h
 ·cases h;exact CQ.nil hc
 ·rename_i ops o rest ks s
  split at h
  ·rename_i hg
   split at h
   ·rename_i c C;cases h;exact fT (.inl ⟨rfl,hg⟩) C hc
   ·exact jo hg h hc
  ·split at h
   ·rename_i j;exact fT (.inr ⟨rfl,FQ j⟩) h hc
   ·rename_i j
    split at h
    ·rename_i d hd
     split at h
     ·rename_i E;cases h;exact CQ.cons (K1:=λl=>l=_) (GC (FQ j) rfl hd E (AL.nil rfl)) λl e=>e ▸ hc
     ·cases h
    ·rename_i hd;cases h;exact CQ.cons (K1:=λl=>l=_) (u6 (FQ j) rfl hd (AL.nil rfl)) λl e=>e ▸ hc
   ·cases h
 ·split at h
  ·cases h;exact hc
  ·cases h;exact hc
  ·cases h;exact hc
  ·cases h
 ·split at h
  ·cases h;exact hc
  ·cases h;exact hc
  ·rename_i i
   split at h
   ·rename_i u;cases h;simp only[Da,DM,Qk];rw[vh u];exact hc
   ·rename_i u;cases h;simp only[Da,DM,Qk];rw[vg u];exact hc
  ·cases h
 ·split at h
  ·split at h
   ·cases h;exact H7.step hc
   ·cases h
  ·cases h;exact hc
  ·cases h;exact hc
  ·cases h
 ·split at h
  ·rw[v8] at h
   obtain⟨r,w,rfl⟩:=h
   exact⟨r,P4 w,hc⟩
  ·rw[v8] at h
   obtain⟨r,w,rfl⟩:=h
   exact⟨r,P4 w,hc⟩
  ·cases h
 ·split at h
  ·exact gI h hc
  ·exact gI h hc
  ·cases h
 ·split at h
  ·exact nI h hc
  ·cases h
 ·exact mV h hc
 ·cases h
end
theorem hJ {P : Program} {f} {fn : Func} {code} {args : List AV} {r : AV} {N} (hf : P.funcs[f]? = some fn) (Z : fn.body = some code) (O : (fn.name == "runtime.NumGoroutine") = false) (hN : fn.ntmps = N) (hr : r.closed = true)
 (C:Dr args=true) (a2:args.length≤N) (hw:AW P code (Fd P fn.results.toList r) ⟨DW 0 args, [], 0, N⟩):AS P f args r := by
  refine⟨⟨fn, hf, by rw[Z];rfl, O⟩, hr, λx I E T B => ?_⟩
  have a0:I.size=args.length := by simpa using B.1
  have J:({ x with n := 0 } : Cx).ok :=
    ⟨E.S_lt, E.F_lt, E.SF, (λid o (q:x.H id=some o) => by rw[T] at q;cases q), (λid o b k (q:x.H id=some o) => by rw[T] at q;cases q), (λid a1 o o' b k k' (q:x.H id=some o) => by rw[T] at q;cases q), (λid o j b c (q:x.H id=some o) => by rw[T] at q;cases q), F6.same E.tabs rfl λ_ h => h⟩
  have U:EU { x with n := 0 } ⟨DW 0 args, [], 0, N⟩ { tmps := I++Array.replicate (fn.ntmps - I.size) undef, defers := [] } x.w := by
    refine⟨_, rfl, by simp;omega, { x with n := 0 }, rfl, .refl _, J, by rw[T];rfl, rfl, λt => ?_⟩
    rcases TP args 0 t with h1 | ⟨j, a, h1, V, h3⟩
    · rw[h1];exact .any _
    · rw[h3]
      have hj:j<I.size := by rw[a0];exact(vl.1 V).1
      have ht:t=j := by omega
      subst ht
      have:(I++Array.replicate (fn.ntmps - I.size) undef).getD t undef=I[t] := by
        simp[Array.getD, hj]
        omega
      rw[this]
      exact JR (x := x) (y := { x with n := 0 }) rfl (λ_ h => h) (B.2 t a I[t] V (by simp[hj])) (Km C V)
  have X:∀ {e:Exit} {a:Act} {y:Cx} {s:St}, NB (Dw P s) fn.results.toList r→({ x with n := 0 } : Cx).le y→y.ok→y.H=hget s.h→y.n=s.n→B6 y s.e a→∃u, (results fn a.tmps).run P y.w=.ok u y.w∧∃u' y', Ending.returned u=.returned u'∧y'.w=y.w∧x.le y'∧y'.ok∧AP y' r u' := by
    intro e a y s M w A F _ he
    obtain⟨u, h1, V⟩ := eF (P := P) (fn := fn) (y := y) (z := y.frozen) (a := a) (Dw P s) (λx r h => Dw.rep A F he x r h) M
    have hz := T7 A
    refine⟨u, h1, u, { y.frozen with n := x.n+y.n }, rfl, rfl, ?_, ?_, JR (x := y.frozen) (y := { y.frozen with n := x.n+y.n }) rfl (λ_ h => h) V hr⟩
    · exact⟨w.size, w.os, w.tape, w.output, w.blk, λb Z => .inl (w.S b Z), w.F, Nat.le_add_right _ _, (λid o' q => by cases q), λid o' q => by cases q⟩
    · exact⟨hz.S_lt, hz.F_lt, hz.SF, (λid o q => by cases q), (λid o b k q => by cases q), (λid a1 o o' b k k' q => by cases q), (λid o j b c q => by cases q), F6.same hz.tabs rfl λ_ h => h⟩
  refine RA (c0 := { x with n := 0 }) hf Z J U (hw) λe s a y M w A F Y he => ?_
  cases e with
  | normal => exact⟨.inl rfl, X (e := .normal) M w A F Y he⟩
  | ret => exact⟨.inr rfl, X (e := .ret) M w A F Y he⟩
  | exit id => exact M.elim
  | goto l => exact M.elim
  | panic ch => exact M.elim
  | outgrown => exact M.elim
def UG(j:List ResultVar):Dk→Option Bool
 | .out .ret [] s=>match j with
  | [.tmp t]=>match get s.e t with
   | .r (.bool b)=>some b
   | _=>none
  | _=>none
 | .out .normal [] s=>match j with
  | [.tmp t]=>match get s.e t with
   | .r (.bool b)=>some b
   | _=>none
  | _=>none
 | _=>none
theorem sG{P}{j}{c}{b}(h:UG j c=some b):Da P (Fd P j (.r (.bool b))) c:=by
 unfold UG at h
 split at h
 ·split at h
  ·split at h
   ·rename_i hg;cases h
    show Fz _ (get _ _) _
    rw[hg];exact .d rfl
   ·cases h
  ·cases h
 ·split at h
  ·split at h
   ·rename_i hg;cases h
    show Fz _ (get _ _) _
    rw[hg];exact .d rfl
   ·cases h
  ·cases h
 ·cases h
def L9(id g:Nat)(xs:List (List RV)):AV→AV
 | .own j l=>if j=id∧l=g then .r (.sl xs) else .own j l
 | a=>a
def KS(id g:Nat)(xs:List (List RV)):AV→AV
 | .agg j=>.agg (j.map (L9 id g xs))
 | a=>L9 id g xs a
def T1(id g:Nat)(xs:List (List RV)):Option Ab→Option Ab
 | some (.box j e l)=>some (.box j e (l.map (L9 id g xs)))
 | some (.hot _ _ _ _ _ _)=>none
 | o=>o
theorem Z6 id g xs a:Qi id g xs a (L9 id g xs a):=by
 unfold L9
 split
 ·split
  ·rename_i h;obtain⟨rfl,rfl⟩:=h;exact .inr (.inr ⟨rfl,rfl⟩)
  ·exact .inl rfl
 ·exact .inl rfl
theorem XW id g xs:∀cs:List AV,Le id g xs cs (cs.map (L9 id g xs))
 | []=>trivial
 | a::l=>⟨Z6 id g xs a,XW id g xs l⟩
theorem sJ id g xs a:Ur id g xs a (KS id g xs a):=by
 unfold KS
 split
 ·exact .inr ⟨_,_,rfl,rfl,XW id g xs _⟩
 ·exact .inl (Z6 id g xs _)
theorem rx id g xs o:Ut id g xs o (T1 id g xs o):=by
 unfold T1
 split
 ·exact .inr (.inr (.inl ⟨_,_,_,_,rfl,rfl,XW id g xs _⟩))
 ·exact .inr (.inl rfl)
 ·exact .inl rfl
theorem cG id g xs e:∀l:List Nat,Oi id g xs (l.map λt=>(t,KS id g xs (get e t))) e
 | []=>trivial
 | t::l=>⟨sJ id g xs _,cG id g xs e l⟩
theorem dF id g xs h:∀l:List Nat,(∀i∈l,Nat.beq i id=false)→Q0 id g xs (l.map λi=>(i,T1 id g xs (hget h i))) h
 | [],_=>trivial
 | i::l,q=>⟨q i (vn ..),rx id g xs _,dF id g xs h l λj u=>q j (vp _ u)⟩
def RH:List Nat→List Nat→List Nat
 | _,[]=>[]
 | Bi,t::l=>match Bi.any (Nat.beq t) with
  | true=>RH Bi l
  | false=>t::RH (t::Bi) l
def LL(id g:Nat)(xs:List (List RV))(s:St):St:=
 { e:=(RH [] (s.e.map (·.1))).map λt=>(t,KS id g xs (get s.e t)),h:=((RH [] (s.h.map (·.1))).filter λi=>!Nat.beq i id).map λi=>(i,T1 id g xs (hget s.h i)),n:=s.n,N:=s.N }
theorem Ss{id g}{e}{sz}{xs}{s:St}(h:hget s.h id=some (.arr g e sz xs)):Ae s (LL id g xs s):=
 Ae.frz id h (cG id g xs s.e _) (dF id g xs s.h _ λi j=>by
  have:=(yd.1 j).2
  simpa using this)
def PA(h:AO):AV→Option Nat
 | .own id g=>match hget h id with
  | some (.arr j _ _ _)=>if j=g then some id else none
  | _=>none
 | .agg l=>l.findSome? λa=>match a with
  | .own id g=>match hget h id with
   | some (.arr j _ _ _)=>if j=g then some id else none
   | _=>none
  | _=>none
 | _=>none
def fc(s:St)(o:Oper):Option Nat:=match o.op with
 | .buildSlice _ _ parts=>parts.toList.findSome? λp=>PA s.h (Ap s.e p.2)
 | .store _ _ y=>PA s.h (Ap s.e y)
 | .slice _ x _ _ _=>PA s.h (Ap s.e x)
 | _=>none
def WZ(P:Program)(c:Dk):Option Dk:=match step P c with
 | some j=>some j
 | none=>match c with
  | .ops ops (o::rest) ks s=>match fc s o with
   | some id=>match hget s.h id with
    | some (.arr g _ _ xs)=>some (.ops ops (o::rest) ks (LL id g xs s))
    | _=>none
   | none=>none
  | _=>none
section
variable{P:Program}{Q:Exit→St→Prop}
theorem fx(l:P.follows .mixedOrders=true){c j}(h:WZ P c=some j)(hc:Da P Q j):Da P Q c:=by
 unfold WZ at h
 split at h
 ·rename_i w q;cases h;exact jP l q hc
 ·split at h
  ·split at h
   ·rename_i id Ca
    split at h
    ·rename_i u;cases h;exact CQ.weak (Ss u) hc
    ·cases h
   ·cases h
  ·cases h
end
section
variable{ops:Array Oper}{D:Nat→Bool}{G:Nat→Nat}{e:AX}{L:List PO}{t:Nat}
def R0(ops:Array Oper)(i t:Nat):List PO→Nat→Bool
 | [],_=>true
 | p::L,k=>(match p.d with | some d=>!Nat.beq d t||wt ops 40 k i | none=>true)&&R0 ops i t L (k+1)
theorem gF{i}(w:Bg ops D i):∀ {L:List PO} {k:Nat},R0 ops i t L k=true→Gj PO.wE D t L k
 | [],_,_=>λj p v h=>by simp at h
 | q::L,k,hB=>by
  simp only[R0,vm] at hB
  obtain⟨l,C⟩:=hB
  intro j p v A u B
  cases j with
  | zero=>
   cases A
   rw[(QT B).1] at l
   simp only[vt,wl,ws] at l u
   rcases l with l | l
   ·rw[zk] at l;cases l
   ·rw[w.no l] at u;cases u
  | succ j=>
   exact gF w C j p v (by simpa using A) (by rwa [show k+1+j=k+(j+1) by omega]) B
theorem Mz{i}(j:Bg ops D i)(hB:R0 ops i t L 0=true){a}(l:get e t=a):get (CI D G e L) t=a:=(GU DQ L e 0 (gF j hB)).trans l
end
mutual
def FW:RV→RV→Bool
 | .int k n,.int k' n'=>(k=k')&&(n=n')
 | .bool b,.bool b'=>b==b'
 | .str s,.str s'=>decide (s=s')
 | .sl xs,.sl ys=>JY xs ys
 | .slf xs,.slf ys=>JY xs ys
 | .any,.any=>true
 | _,_=>false
def KR:List RV→List RV→Bool
 | [],[]=>true
 | a::l,b::m=>FW a b&&KR l m
 | _,_=>false
def JY:List (List RV)→List (List RV)→Bool
 | [],[]=>true
 | a::l,b::m=>KR a b&&JY l m
 | _,_=>false
end
mutual
theorem cT:∀ {a b:RV},FW a b=true→a=b
 | .int k n,.int k' n',h=>by simp only[FW,vm,vi] at h;rw[h.1,h.2]
 | .bool b,.bool b',h=>by simp only[FW,zg] at h;rw[h]
 | .str s,.str s',h=>by simp only[FW,vi] at h;rw[h]
 | .sl xs,.sl ys,h=>by simp only[FW] at h;rw[R6 h]
 | .slf xs,.slf ys,h=>by simp only[FW] at h;rw[R6 h]
 | .any,.any,_=>rfl
 | .int _ _,.bool _,h | .int _ _,.str _,h | .int _ _,.sl _,h | .int _ _,.any,h=>by simp[FW] at h
 | .bool _,.int _ _,h | .bool _,.str _,h | .bool _,.sl _,h | .bool _,.any,h=>by simp[FW] at h
 | .str _,.int _ _,h | .str _,.bool _,h | .str _,.sl _,h | .str _,.any,h=>by simp[FW] at h
 | .sl _,.int _ _,h | .sl _,.bool _,h | .sl _,.str _,h | .sl _,.any,h=>by simp[FW] at h
 | .any,.int _ _,h | .any,.bool _,h | .any,.str _,h | .any,.sl _,h | .any,.slf _,h=>by simp[FW] at h
 | .int _ _,.slf _,h | .bool _,.slf _,h | .str _,.slf _,h | .sl _,.slf _,h=>by simp[FW] at h
 | .slf _,.int _ _,h | .slf _,.bool _,h | .slf _,.str _,h | .slf _,.sl _,h | .slf _,.any,h=>by simp[FW] at h
theorem Vu:∀ {a b:List RV},KR a b=true→a=b
 | [],[],_=>rfl
 | a::l,b::m,h=>by simp only[KR,vm] at h;rw[cT h.1,Vu h.2]
 | [],_::_,h=>by simp[KR] at h
 | _::_,[],h=>by simp[KR] at h
theorem R6:∀ {a b:List (List RV)},JY a b=true→a=b
 | [],[],_=>rfl
 | a::l,b::m,h=>by simp only[JY,vm] at h;rw[Vu h.1,R6 h.2]
 | [],_::_,h=>by simp[JY] at h
 | _::_,[],h=>by simp[JY] at h
end
def Xe:Value→Value→Bool
 | .slice none 0 0,.slice none 0 0=>true
 | .pointer none,.pointer none=>true
 | .map none,.map none=>true
 | .nilFunc,.nilFunc=>true
 | _,_=>false
theorem lV{a b}(h:Xe a b=true):a=b:=by
 unfold Xe at h
 split at h<;>first | rfl | cases h
mutual
def DV:AV→AV→Bool
 | .r x,.r y=>FW x y
 | .agg cs,.agg ds=>IS cs ds
 | .tup cs,.tup ds=>IS cs ds
 | .own i g,.own i' g'=>Nat.beq i i'&&Nat.beq g g'
 | .ptr i g j k,.ptr i' g' j' k'=>(Nat.beq i i'&&Nat.beq g g')&&(Nat.beq j j'&&Nat.beq k k')
 | .rop row k,.rop row' k'=>KR row row'&&Nat.beq k k'
 | .fn f cs,.fn f' ds=>Nat.beq f f'&&IS cs ds
 | .mref i g,.mref i' g'=>Nat.beq i i'&&Nat.beq g g'
 | .yld i g,.yld i' g'=>Nat.beq i i'&&Nat.beq g g'
 | .cst v,.cst v'=>Xe v v'
 | .whn b v,.whn b' v'=>(b==b')&&DV v v'
 | .any,.any=>true
 | _,_=>false
def IS:List AV→List AV→Bool
 | [],[]=>true
 | a::l,b::m=>DV a b&&IS l m
 | _,_=>false
end
mutual
theorem G3:∀ {a b:AV},DV a b=true→a=b:=by
 intro a b h
 cases a<;>cases b<;>first
  | (simp only[DV] at h;rw[cT h])
  | (simp only[DV] at h;rw[TK h])
  | (simp only[DV] at h;rw[lV h])
  | (simp only[DV,vm] at h;rw[Vu h.1,vx h.2])
  | (simp only[DV,vm] at h;rw[vx h.1.1,vx h.1.2,vx h.2.1,vx h.2.2])
  | (simp only[DV,vm] at h;rw[vx h.1,vx h.2])
  | (simp only[DV,vm] at h;rw[vx h.1,TK h.2])
  | (simp only[DV,vm,zg] at h;rw[h.1,G3 h.2])
  | rfl
  | (simp[DV] at h;done)
theorem TK:∀ {a b:List AV},IS a b=true→a=b
 | [],[],_=>rfl
 | a::l,b::m,h=>by simp only[IS,vm] at h;rw[G3 h.1,TK h.2]
 | [],_::_,h=>by simp[IS] at h
 | _::_,[],h=>by simp[IS] at h
end
def Wq:Option Ab→Option Ab→Bool
 | some (.arr g e sz xs),some (.arr j l q u)=>((Nat.beq g j&&Nat.beq e l)&&Nat.beq sz q)&&JY xs u
 | some (.box g e w),some (.box j l A)=>(Nat.beq g j&&Nat.beq e l)&&IS w A
 | none,none=>true
 | _,_=>false
theorem tm{a b}(h:Wq a b=true):a=b:=by
 unfold Wq at h
 split at h
 ·simp only[vm] at h
  rw[vx h.1.1.1,vx h.1.1.2,vx h.1.2,R6 h.2]
 ·simp only[vm] at h
  rw[vx h.1.1,vx h.1.2,TK h.2]
 ·rfl
 ·cases h
def F3:AO→AO→Bool
 | [],[]=>true
 | (i,o)::l,(j,p)::m=>(Nat.beq i j&&Wq o p)&&F3 l m
 | _,_=>false
theorem Oz:∀ {a b:AO},F3 a b=true→a=b
 | [],[],_=>rfl
 | (i,o)::l,(j,p)::m,h=>by
  simp only[F3,vm] at h
  rw[vx h.1.1,tm h.1.2,Oz h.2]
 | [],_::_,h=>by simp[F3] at h
 | _::_,[],h=>by simp[F3] at h
inductive Tw(ops:Array Oper):Nat→Nat→Prop
 | one {j i:Nat} (h:Region.waitsFor .any ops j i=true):Tw ops j i
 | more {j m i:Nat} (h:Region.waitsFor .any ops j m=true) (h2:Tw ops m i):Tw ops j i
section
variable{ops:Array Oper}
theorem Cl.tw{D}(h:Cl ops D){j i}(u:Tw ops j i):D j=true→D i=true:=by
 induction u with
 | one l=>exact λq=>h _ _ q l
 | more l _ w=>exact λq=>w (h _ _ q l)
theorem Bg.yesT{D}{i k}(h:Bg ops D i)(l:Tw ops i k):D k=true:=by
 cases l with
 | one j=>exact h.hw _ j
 | more j q=>exact h.cl.tw q (h.hw _ j)
theorem Bg.noT{D}{i k}(h:Bg ops D i)(j:Tw ops k i):D k=false:=by
 cases l:D k with
 | false=>rfl
 | true=>have:=h.cl.tw j l;rw[h.un] at this;cases this
def Re(o:Oper):List Nat:=o.after.toList.filterMap λe=>match Region.binds .any e with
 | true=>some e.on
 | false=>none
def Vk(i:Nat)(l:List Nat):List Nat:=match l.any (Nat.beq i) with
 | true=>l
 | false=>i::l
def UM:List Nat→List Nat→List Nat
 | [],l=>l
 | i::r,l=>UM r (Vk i l)
def Mq(T:List (List Nat)):List Nat→List Nat→List Nat
 | [],j=>j
 | m::l,j=>match j.any (Nat.beq m) with
  | true=>Mq T l j
  | false=>Mq T l (UM (T.getD m []) (m::j))
def WD:List Oper→List (List Nat)→List (List Nat)
 | [],T=>T
 | o::rest,T=>WD rest (T++[Mq T (Re o).reverse []])
theorem ki{i j}{l}(h:j∈Vk i l):j=i∨j∈l:=by
 unfold Vk at h
 split at h
 ·exact .inr h
 ·exact wC.1 h
theorem eA:∀ {r l:List Nat} {j:Nat},j∈UM r l→j∈r∨j∈l
 | [],l,j,h=>.inr h
 | i::r,l,j,h=>by
  rcases eA (r:=r) h with q | q
  ·exact .inl (vp _ q)
  ·rcases ki q with rfl | u
   ·exact .inl (vn ..)
   ·exact .inr u
theorem VP{T:List (List Nat)} : ∀ {l u:List Nat} {j:Nat},j∈Mq T l u→j∈u∨∃m∈l,j=m∨j∈T.getD m []
 | [],u,j,h=>.inl h
 | m::l,u,j,h=>by
  unfold Mq at h
  split at h
  ·rcases VP h with q | ⟨w,q,A⟩
   ·exact .inl q
   ·exact .inr ⟨w,vp _ q,A⟩
  ·rcases VP h with q | ⟨w,q,A⟩
   ·rcases eA q with q | q
    ·exact .inr ⟨m,vn ..,.inr q⟩
    ·rcases wC.1 q with rfl | q
     ·exact .inr ⟨_,vn ..,.inl rfl⟩
     ·exact .inl q
   ·exact .inr ⟨w,vp _ q,A⟩
theorem tc{o:Oper}{j m}(u:ops[j]?=some o)(h:m∈Re o):Region.waitsFor .any ops j m=true:=by
 unfold Re at h
 obtain⟨e,w,l⟩:=List.mem_filterMap.1 h
 split at l
 ·rename_i A
  cases l
  unfold Region.waitsFor
  rw[u]
  show(o.after.any λq=>Region.binds .any q&&q.on==e.on)=true
  rw[← Array.any_toList,yt]
  exact⟨e,w,by rw[A];simp⟩
 ·cases l
theorem cY:∀ {l:List Oper} {T:List (List Nat)},(∀j,l[j]?=ops[T.length+j]?)→(∀j i,i∈T.getD j []→Tw ops j i)→∀j i,i∈(WD l T).getD j []→Tw ops j i
 | [],T,_,h,j,i,q=>h j i q
 | o::rest,T,B,h,j,i,q=>by
  have E:ops[T.length]?=some o:=by have:=B 0;simpa using this.symm
  refine cY (l:=rest) (T:=T++[Mq T (Re o).reverse []]) (λj=>by
   have:=B (j+1)
   simp only[yA] at this
   rw[this,vw,wg]
   congr 1;omega) (λj i q=>?_) j i q
  by_cases F:j<T.length
  ·refine h j i ?_
   rw[yJ,wO F,← yJ] at q
   exact q
  ·by_cases u:j=T.length
   ·subst u
    rw[yJ,wN (vu _),zV] at q
    simp only[List.getElem?_cons_zero,xg] at q
    rcases VP q with w | ⟨m,w,A⟩
    ·simp at w
    ·have C:=tc E (List.mem_reverse.1 w)
     rcases A with rfl | A
     ·exact .one C
     ·exact .more C (h m i A)
   ·rw[yJ,zQ (by simp;omega)] at q
    simp at q
def fh(ops:Array Oper):List (List Nat):=WD ops.toList []
def tw(T:List (List Nat))(a b:Nat):Bool:=(T.getD a []).any (Nat.beq b)
theorem rj{a b}(h:tw (fh ops) a b=true):Tw ops a b:=by
 refine cY (l:=ops.toList) (T:=[]) (λj=>by simp) (λj i l=>by simp at l) a b ?_
 obtain⟨x,q,u⟩:=yt.1 h
 have:=vx u
 subst this
 exact q
end
structure PE where
 d:Option Nat
 v:AV
 eff:Bool
def PE.po(p:PE):PO:=⟨p.d,λ_=>p.v,none,[]⟩
def DD(D:Nat→Bool):List PE→Nat→Nat
 | [],_=>0
 | p::l,k=>(match p.eff&&D k with | true=>1 | false=>0)+DD D l (k+1)
theorem LQ{D D'} : ∀(l:List PE) (k:Nat),(∀j,k≤j→j<k+l.length→D j=true→D' j=true)→DD D l k≤DD D' l k
 | [],_,_=>vu _
 | p::l,k,h=>by
  have q:=LQ l (k+1) λj A B=>h j (by omega) (by simp;omega)
  have u:=h k (vu _) (by simp)
  unfold DD
  cases p.eff
  ·simpa using q
  ·cases w:D k
   ·simp only[yx];omega
   ·rw[u w];simp only[zc];omega
theorem bZ{D D'}{i}(A:D i=false)(B:D' i=true)(w:∀j,j≠i→D' j=D j):∀(l:List PE) (k:Nat) (p:PE),k≤i→l[i-k]?=some p→DD D' l k=DD D l k+(match p.eff with | true=>1 | false=>0)
 | [],k,p,_,h=>by simp at h
 | q::l,k,p,I,h=>by
  unfold DD
  by_cases u:k=i
  ·subst u
   rw[zV] at h
   cases h
   have:DD D' l (k+1)=DD D l (k+1):=Nat.le_antisymm (LQ l _ λj C _ E=>by rwa [← w j (by omega)]) (LQ l _ λj C _ E=>by rwa [w j (by omega)])
   rw[this,A,B]
   cases q.eff<;>simp<;>omega
  ·have F:=bZ A B w l (k+1) p (by omega) (by rw[show i-k=(i-(k+1))+1 by omega] at h;simpa using h)
   rw[F,w k u];omega
section
variable{P:Program}{ops:Array Oper}
def RB(T:List (List Nat))(i t:Nat):List PO→Nat→Bool
 | [],_=>true
 | p::L,k=>(match p.d with | some d=>!Nat.beq d t||tw T k i | none=>true)&&RB T i t L (k+1)
theorem ZD{T}(w:∀a b,tw T a b=true→Tw ops a b){D}{i t}(A:Bg ops D i):∀ {L:List PO} {k:Nat},RB T i t L k=true→Gj PO.wE D t L k
 | [],_,_=>λj p v h=>by simp at h
 | q::L,k,hB=>by
  simp only[RB,vm] at hB
  obtain⟨l,E⟩:=hB
  intro j p v B u C
  cases j with
  | zero=>
   cases B
   rw[(QT C).1] at l
   simp only[vt,wl,ws] at l u
   rcases l with l | l
   ·rw[zk] at l;cases l
   ·rw[A.noT (w _ _ l)] at u;cases u
  | succ j=>exact ZD w A E j p v (by simpa using B) (by rwa [show k+1+j=k+(j+1) by omega]) C
def Wc(T:List (List Nat))(e:AX)(L:List PO)(i t:Nat):Option AV:=
 match RB T i t L 0 with
 | true=>some (get e t)
 | false=>(List.range L.length).findSome? λj=>match L[j]? with
  | some p=>match p.d with
   | some l=>if(l=t∧tw T i j=true)∧JG (L.drop (j+1)) t=true then some (p.v λ_=>0) else none
   | none=>none
  | none=>none
theorem sn{T}(q:∀a b,tw T a b=true→Tw ops a b){e}{L:List PE}{i t}{a}{D}(u:Bg ops D i)(h:Wc T e (L.map PE.po) i t=some a):get (CI D (λ_=>0) e (L.map PE.po)) t=a:=by
 unfold Wc at h
 split at h
 ·rename_i hB;cases h;exact(GU DQ _ e 0 (ZD q u hB)).trans rfl
 ·obtain⟨j,_,l⟩:=xE h
  split at l
  ·rename_i p hp
   split at l
   ·rename_i C hd
    split at l
    ·rename_i w;obtain⟨⟨rfl,A⟩,B⟩:=w
     cases l
     exact(Ic DQ (SH hd) _ e 0 j hp (by rw[wK];exact u.yesT (q _ _ A)) (Qg B)).trans rfl
    ·cases l
   ·cases l
  ·cases l
def qS:Op→List Operand
 | .move x | .assign x | .range _ x | .next x _ | .unOp _ _ x | .nilCheck x | .fieldAddr _ x _ | .field _ x _ | .load _ x | .convert _ _ x | .extract x _ | .box _ x=>[x]
 | .binOp _ _ x y _ | .indexAddr _ x y | .index _ x y | .store _ x y | .makeSlice _ x y | .lookup _ x y _=>[x,y]
 | .pick x y z | .mapUpdate _ x y z | .insert _ x y z=>[x,y,z]
 | .slice _ x l q u=>x::(l.toList++q.toList++u.toList)
 | .makeFunc _ _ xs=>xs.toList
 | .build _ j=>j.toList.map (·.2)
 | .buildSlice _ _ j=>j.toList.map (·.2)
 | .call c=>(match c.callee with | .value f=>[f] | _=>[])++c.args.toList
 | _=>[]
def qF(ops:Array Oper)(o:Oper):List Nat:=
 (qS o.op).filterMap (λx=>match x with | .tmp t=>some t | _=>none)++(match o.guard with | some (j,_)=>((ops[j]?).bind (·.dst)).toList | none=>[])
def S8(T:List (List Nat))(e:AX)(L:List PO)(i:Nat):List Nat→Option AX
 | []=>some []
 | t::l=>match Wc T e L i t,S8 T e L i l with
  | some a,some r=>some ((t,a)::r)
  | _,_=>none
theorem dO{T}(j:∀a b,tw T a b=true→Tw ops a b){e}{L:List PE}{i}{D}(q:Bg ops D i):∀ {l:List Nat} {R:AX},S8 T e (L.map PE.po) i l=some R→∀t,get R t=.any∨get R t=get (CI D (λ_=>0) e (L.map PE.po)) t
 | [],R,h,t=>by cases h;exact .inl rfl
 | t0::l,R,h,t=>by
  unfold S8 at h
  split at h
  ·rename_i a r u w
   cases h
   rw[DQ]
   split
   ·rename_i A;subst A;exact .inr (sn j q u).symm
   ·exact dO j q w t
  ·cases h
theorem A7.weakE{c}{o}{R q}{h h'}{n n'}{v}(u:A7 P c o R h n v h' n')(w:∀t,get R t=.any∨get R t=get q t):A7 P c o q h n v h' n':=
 λA x a j B C E K Q F=>u A x a j B C (λt=>by
  rcases w t with l | l
  ·rw[l];exact .any _
  ·rw[l];exact E t) K Q F
theorem CS.weakE{o}{c}{R B}(h:CS R ops o c)(C:∀t,get R t=.any∨get R t=get B t):CS B ops o c:=by
 cases h with
 | @one j l w b hg A q=>
  refine .one hg A ?_
  rcases C l with u | u
  ·rw[show BK R (.tmp l)=get R l from rfl,u] at q;cases q
  ·exact u.symm.trans q
 | @two j l w b E hg A q=>
  refine .two hg A ?_
  rcases C l with u | u
  ·rw[show BK R (.tmp l)=get R l from rfl,u] at q;cases q
  ·exact u.symm.trans q
abbrev Gt:=AX→AO→Nat→Oper→Option (AV × AO × Nat)
def KH(P:Program)(S:Gt):Prop:=∀R h n o r,S R h n o=some r→A7 P true o R h n r.1 r.2.1 r.2.2
abbrev Gv:=AX→AO→Oper→Option AV
def Jd(P:Program)(j:Gv):Prop:=∀R h o v,j R h o=some v→∀n,A7 P true o R h n v h n
def Kr(P:Program)(j:Gv)(R:AX)(h:AO)(o:Oper):Option AV:=match LA P R h o with
 | some v=>some v
 | none=>j R h o
theorem SO{P}{q}(l:Jd P q){R}{h}{o}{v}(j:Kr P q R h o=some v)(n:Nat):A7 P true o R h n v h n:=by
 unfold Kr at j
 split at j
 ·rename_i w u;cases j;exact(LJ (c:=true) u).spec n
 ·exact l R h o v j n
def Ri(P:Program)(S:Gt)(A:Gv)(ops:Array Oper)(j:List (AO × Nat))(R:AX)(k:Nat)(o:Oper)(p:PE):Bool:=match p.eff with
 | false=>match j[k]? with
  | some (h,_)=>match o.guard with
   | none=>match Kr P A R h o with
    | some v=>DV v p.v
    | none=>false
   | some _=>match GV R ops o with
    | some true=>match Kr P A R h o with
     | some v=>DV v p.v
     | none=>false
    | some false=>DV (.whn false (.r (.bool false))) p.v
    | none=>false
  | none=>false
 | true=>match j[k]?,j[k+1]? with
  | some (h,n),some (l,q)=>
   match o.guard with
   | none=>match S R h n o with
    | some (v,u,w)=>(DV v p.v&&F3 u l)&&Nat.beq w q
    | none=>false
   | some _=>match GV R ops o with
    | some true=>match S R h n o with
     | some (v,u,w)=>(DV v p.v&&F3 u l)&&Nat.beq w q
     | none=>false
    | some false=>(DV (.whn false (.r (.bool false))) p.v&&F3 h l)&&Nat.beq n q
    | none=>false
  | _,_=>false
theorem sk{P}{S}{U}(Z:KH P S)(w:Jd P U){ops}{F}{R}{k}{o:Oper}{p:PE}{h}{n}(I:F[k]?=some (h,n))(j:Ri P S U ops F R k o p=true) :
  ∃(q:AO) (u:Nat),F[k+(match p.eff with | true=>1 | false=>0)]?=some (q,u) ∧
   ((o.guard=none∧A7 P true o R h n p.v q u)∨(CS R ops o true∧A7 P true o R h n p.v q u)∨(CS R ops o false∧p.v=.whn false (.r (.bool false))∧q=h∧u=n)):=by
 unfold Ri at j
 cases V:p.eff with
 | false=>
  rw[V,I] at j
  refine⟨h,n,I,?_⟩
  simp only at j
  split at j
  ·rename_i hg
   split at j
   ·rename_i v J;rw[← G3 j];exact .inl ⟨hg,SO w J n⟩
   ·cases j
  ·split at j
   ·rename_i l
    split at j
    ·rename_i v J;rw[← G3 j];exact .inr (.inl ⟨FQ l,SO w J n⟩)
    ·cases j
   ·rename_i l;exact .inr (.inr ⟨FQ l,(G3 j).symm,rfl,rfl⟩)
   ·cases j
 | true=>
  rw[V,I] at j
  simp only at j
  split at j
  ·rename_i h0 n0 q u X e2
   simp only[vz,wA] at X
   obtain⟨rfl,rfl⟩:=X
   refine⟨q,u,e2,?_⟩
   have A:∀ {v B C},S R h n o=some (v,B,C)→((DV v p.v&&F3 B q)&&Nat.beq C u)=true→A7 P true o R h n p.v q u:=by
    intro v B C E Y
    simp only[vm] at Y
    obtain⟨⟨M,O⟩,T⟩:=Y
    rw[← G3 M,← Oz O,← vx T]
    exact Z R h n o _ E
   split at j
   ·rename_i hg
    split at j
    ·rename_i v B C E;exact .inl ⟨hg,A E j⟩
    ·cases j
   ·split at j
    ·rename_i l
     split at j
     ·rename_i v B C E;exact .inr (.inl ⟨FQ l,A E j⟩)
     ·cases j
    ·rename_i l
     simp only[vm] at j
     obtain⟨⟨M,O⟩,T⟩:=j
     exact .inr (.inr ⟨FQ l,(G3 M).symm,(Oz O).symm,(vx T).symm⟩)
    ·cases j
  ·cases j
def WW(T:List (List Nat))(CK:AX→Nat→Oper→PE→Bool)(ops:Array Oper)(e:AX)(N:Nat)(L:List PE)(i:Nat)(o:Oper)(p:PE):Bool:=
 (match o.dst,p.d with | some d,some l=>Nat.beq d l&&Nat.blt d N | none,none=>true | _,_=>false) &&
 match S8 T e (L.map PE.po) i (qF ops o) with
 | some R=>(List.range (DD (λj=>!(tw T j i||Nat.beq j i)) L 0+1)).all λk=>Nat.blt k (DD (λj=>tw T i j) L 0)||CK R k o p
 | none=>false
def Rz(CK:AX→Nat→Oper→PE→Bool)(ops:Array Oper)(s:St)(L:List PE):Bool:=
 (VL ops ops.size&&HG (L.map PE.po)&&Nat.beq L.length ops.size) &&
 (List.range ops.size).all λi=>match ops[i]?,L[i]? with
  | some o,some p=>WW (fh ops) CK ops s.e s.N L i o p
  | _,_=>false
def Xl(P:Program)(S:Gt)(l:Gv)(ops:Array Oper)(s:St)(L:List PE)(j:List (AO × Nat)):Bool:=
 (match j[0]? with | some (h,n)=>F3 s.h h&&Nat.beq s.n n | none=>false)&&Rz (Ri P S l ops j) ops s L
def Vi(P:Program)(ops:Array Oper)(q:List (AO × Nat))(CK:AX→Nat→Oper→PE→Bool):Prop:=∀(R:AX) (k:Nat) (o:Oper) (p:PE) (h:AO) (n:Nat),q[k]?=some (h,n)→CK R k o p=true →
  ∃(j:AO) (l:Nat),q[k+(match p.eff with | true=>1 | false=>0)]?=some (j,l) ∧
   ((o.guard=none∧A7 P true o R h n p.v j l)∨(CS R ops o true∧A7 P true o R h n p.v j l)∨(CS R ops o false∧p.v=.whn false (.r (.bool false))∧j=h∧l=n))
def H3(c0:Cx)(s:St)(L:List PE)(l:List (AO × Nat))(listed:Array Bool)(a:Act)(w:World):Prop:=
 ∃j,a.defers=j∧a.tmps.size=s.N∧∃(y:Cx) (h:AO) (n:Nat),l[DD (λk=>listed.getD k false) L 0]?=some (h,n)∧y.w=w∧c0.leM j y∧y.ok∧y.H=hget h∧y.n=n ∧
  ∀t,AP y (get (CI (λk=>listed.getD k false) (λ_=>0) s.e (L.map PE.po)) t) (a.tmps.getD t undef)
theorem H3.put{c0:Cx}{s:St}{L:List PE}{Hs}{listed:Array Bool}{a:Act}{i}{p:PE}{y z:Cx}{u}{I}{T}(hp:L[i]?=some p)(hN:∀d, p.d=some d→Nat.blt d s.N=true)(hE:HG (L.map PE.po)=true)
 (hi:i<listed.size) (hr:Bg ops (λk => listed.getD k false) i) {ds} (J:a.defers=ds) (hsz:a.tmps.size=s.N) (U:c0.leM ds y)
 (B:Hs[DD (λk => listed.getD k false) L 0+(match p.eff with | true => 1 | false => 0)]?=some (I, T))
 (he:∀t, AP y (get (CI (λk => listed.getD k false) (λ_ => 0) s.e (L.map PE.po)) t) (a.tmps.getD t undef)) (M:y.le z) (O:z.ok) (V:z.H=hget I) (X:z.n=T)
 (hv:AP z p.v u):H3 c0 s L Hs (listed.setIfInBounds i true) (a.put p.d u) z.w := by
  have C:(L.map PE.po)[i]?=some p.po := by rw[wD, hp];rfl
  have E:∀k, (listed.setIfInBounds i true).getD k false=(listed.getD k false||(k=i)) := λk => by
    by_cases B:i=k
    · subst B;simp[hi]
    · rw[getD_set_ne false B];simp[Ne.symm B]
  have A:∀k, k≠i→(listed.setIfInBounds i true).getD k false=listed.getD k false := λk B => by rw[E];simp[B]
  have Y:(λk => (listed.setIfInBounds i true).getD k false) (0+i)=true := by show(listed.setIfInBounds i true).getD (0+i) false=true;rw[wK, E];simp
  refine⟨ds, by cases l:p.d<;>simpa[Act.put, l] using J, ?_, z, I, T, ?_, rfl, U.trans M, O, V, X, λt => ?_⟩
  · cases l:p.d<;>simpa[Act.put, l] using hsz
  · rw[bZ (D := λk => listed.getD k false) (i := i) hr.un (by show(listed.setIfInBounds i true).getD i false=true;rw[E];simp) A L 0 p (xd _) (by simpa using hp)]
    exact B
  · by_cases w:p.d=some t
    · have Z:get (CI (λk => (listed.setIfInBounds i true).getD k false) (λ_ => 0) s.e (L.map PE.po)) t=p.v :=
        Ic DQ (SH (p := p.po) w) (L.map PE.po) _ 0 i C Y (Qg (Wk hE C w))
      have F:t<a.tmps.size := by rw[hsz];exact Cn (hN t w)
      rw[Z, w]
      simp only[Act.put, Lj F, xZ]
      exact hv
    · have Z:get (CI (λk => (listed.setIfInBounds i true).getD k false) (λ_ => 0) s.e (L.map PE.po)) t=get (CI (λk => listed.getD k false) (λ_ => 0) s.e (L.map PE.po)) t := by
        refine HY DQ (L.map PE.po) _ _ 0 rfl λj q v h1 I => ?_
        obtain⟨h4, h5⟩ := QT I
        have a0:j≠i := λe => by subst e;rw[C] at h1;cases h1;exact w h4
        rw[wK]
        exact⟨A j a0, λ_ => by
          have:q ∈ L.map PE.po := wJ h1
          obtain⟨q', _, rfl⟩ := wu.1 this
          rfl⟩
      rw[Z]
      have h0 := (he t).mono M
      cases l:p.d with
      | none => exact h0
      | some d =>
        have a1:d≠t := λe => w (by rw[l, e])
        have F:d<a.tmps.size := by rw[hsz];exact Cn (hN d l)
        simp only[Act.put, Lj F, vg a1]
        exact h0
theorem H3.step{T}(hT:∀a b, tw T a b=true→Tw ops a b){CK}{c0}{s:St}{L:List PE}{Hs}(a0:Vi P ops Hs CK){listed:Array Bool}{a:Act}{w}{i}{p:PE}{o:Oper}{Q}(hp:L[i]?=some p)(ho:ops[i]?=some o)(l:WW T CK ops s.e s.N L i o p=true)
 (hE:HG (L.map PE.po)=true) (hi:i<listed.size) (J:Bg ops (λk => listed.getD k false) i) (O:H3 c0 s L Hs listed a w) :
    wpOp P ops Q i (H3 c0 s L Hs (listed.setIfInBounds i true)) a w := by
  obtain⟨_, B, hsz, y, h, n, a1, a2, U, V, X, Y, Z⟩ := O
  subst a2
  unfold WW at l
  rw[vm] at l
  obtain⟨q, l⟩ := l
  have hd:o.dst=p.d∧∀d, p.d=some d→Nat.blt d s.N=true := by
    split at q
    · rename_i d d' A C
      rw[vm] at q
      have := vx q.1
      subst this
      exact⟨A.trans C.symm, λd2 h3 => by rw[C] at h3;cases h3;exact q.2⟩
    · rename_i A C;exact⟨A.trans C.symm, λd2 h3 => by rw[C] at h3;cases h3⟩
    · cases q
  split at l
  · rename_i R hR
    have E := dO hT (D := λk => listed.getD k false) J hR
    have a7:DD (λj => tw T i j) L 0≤DD (λk => listed.getD k false) L 0 := LQ L 0 λj _ _ A => J.yesT (hT _ _ A)
    have a8:DD (λk => listed.getD k false) L 0≤DD (λj => !(tw T j i||Nat.beq j i)) L 0 := LQ L 0 λj _ _ A => by
      cases hw:tw T j i with
      | true => have := J.noT (hT _ _ hw);rw[this] at A;cases A
      | false =>
        cases a6:Nat.beq j i with
        | true => have := vx a6;subst this;exact absurd (A.symm.trans J.un) (by decide)
        | false => rfl
    have M := wI.1 l (DD (λk => listed.getD k false) L 0) (wU.2 (by omega))
    rw[vt] at M
    rcases M with M | M
    · have := Cn M;omega
    · obtain⟨C, n2, e2, F⟩ := a0 _ _ _ _ _ _ a1 M
      unfold wpOp
      simp only[ho]
      have run:A7 P true o R h n p.v C n2→o.wp P a y.w (H3 c0 s L Hs (listed.setIfInBounds i true)) Q := λhs =>
        (hs.weakE E) rfl y a V X Y Z _ Q λu z k1 k2 k3 k4 k5 => by
          rw[hd.1]
          exact H3.put hp hd.2 hE hi J B hsz U e2 Z k1 k2 k3 k4 k5
      rcases F with ⟨hg, hs⟩ | ⟨I, hs⟩ | ⟨I, hv, rfl, rfl⟩
      · rw[vh (by simp[Region.wanted, hg])]
        exact .inl (run hs)
      · have hw:Region.wanted o (yielded ops a.tmps)=true := CS.wanted (s := ⟨_, [], 0, 0⟩) (I.weakE E) Z
        rw[hw, vh rfl]
        exact .inl (run hs)
      · have hw:Region.wanted o (yielded ops a.tmps)=false := CS.wanted (s := ⟨_, [], 0, 0⟩) (I.weakE E) Z
        rw[hw, vg (by decide), hd.1]
        refine H3.put hp hd.2 hE hi J B hsz U e2 Z (.refl y) V X Y ?_
        rw[hv];exact .whn (λe => by cases e) (λ_ => rfl)
  · cases l
theorem hM{CK}{id}{s:St}{Q}(L:List PE)(Hs:List (AO × Nat))(a8:Vi P ops Hs CK){h'}{n'}(hm:P.follows .mixedOrders=true)(aa:Hs[0]?=some (s.h, s.n))(hB:Rz CK ops s L=true)(a0:Hs[DD (λ_ => true) L 0]?=some (h', n'))
 (h:Q .normal ⟨CI (λ_ => true) (λ_ => 0) s.e (L.map PE.po), h', n', s.N⟩):AW P (.region id ops true) Q s := by
  intro z0 ab c0 a w ⟨_, a1, hsz, y, ac, ad, ae, hH, hn, T⟩
  subst ac
  obtain⟨r1, r2⟩ := Q1 ae
  unfold Rz at hB
  simp only[vm] at hB
  obtain⟨⟨⟨b1, b2⟩, b3⟩, b5⟩ := hB
  have ay := vx b3
  refine Pb Jz hm ab ?_
  generalize hz:({ y with w := { y.w with drawn := y.w.drawn+1 } } : Cx)=z at r1 r2
  have af:z.w = { y.w with drawn := y.w.drawn+1 } := by rw[← hz]
  have ag:z.H=hget s.h := by rw[← hz];exact hH
  have ah:z.n=s.n := by rw[← hz];exact hn
  rw[← af]
  have B:∀j, (Array.replicate ops.size false).getD j false=false := getD_replicate_false _
  have key:∀(f:Nat) (listed:Array Bool) (a:Act) (w:World), EF listed ops.size=f→HeadInv .any ops ops.size listed→H3 c0 s L Hs listed a w→wpAny P .any ops (ED c0 Q) f listed a w := by
    intro f
    induction f with
    | zero =>
      intro listed a w M C E
      have u := XX M
      refine⟨?_, ?_⟩
      · rw[List.eq_nil_iff_forall_not_mem]
        intro j Z
        obtain⟨U, o, I, _⟩ := mem_ready.1 Z
        have ai:j<ops.size := (wm.1 I).1
        have := getD_both U
        rw[u j ai] at this;cases this
      · obtain⟨_, i1, i2, z', hh, nn, J, i3, i4, i5, i6, aj, i7⟩ := E
        subst i3
        have ak:DD (λk => listed.getD k false) L 0=DD (λ_ => true) L 0 :=
          Nat.le_antisymm (LQ L 0 λ_ _ _ _ => rfl) (LQ L 0 λj _ Z _ => u j (by omega))
        rw[ak, a0] at J
        cases J
        refine⟨by simp, _, h, _, i1, i2, z', rfl, i4, i5, i6, aj, λt => ?_⟩
        show AP z' (get (EN _ _ _ _ _ _) t) _
        rw[RY (L.map PE.po) _ 0 (D' := λk => listed.getD k false) λj _ Z => (u j (by simp at Z;omega)).symm]
        exact i7 t
    | succ f ih =>
      intro listed a w M C E
      obtain⟨J, al, a2, F⟩ := Wn (listed := listed) (n := ops.size) (by omega)
      have an:J<listed.size := by rw[C.size];omega
      have A:J ∈ Region.ready .any ops listed := by
        refine mem_ready.2 ⟨getD_in an a2, ?_⟩
        have ao:∃o, ops[J]?=some o := ⟨ops[J]'(by omega), by simp[wS (show J<ops.size by omega)]⟩
        obtain⟨o, I⟩ := ao
        refine⟨o, I, λe T hb => ?_⟩
        have U := wI.1 b1 J (wU.2 al)
        simp only[I] at U
        have h2 := (zM.1 U) e T
        simp only[hb, zG, xW, vi] at h2
        exact F _ h2
      refine⟨λh => (by rw[h] at A;cases A), λi hi => ?_⟩
      obtain⟨aq, o, I, u⟩ := mem_ready.1 hi
      have V:i<ops.size := (wm.1 I).1
      have O := getD_both aq
      have a6:i<listed.size := by rw[C.size];omega
      obtain⟨p, hp⟩:∃p, L[i]?=some p := ⟨L[i]'(by omega), by simp[vo (show i<L.length by omega)]⟩
      have a7 := wI.1 b5 i (wU.2 V)
      simp only[I, hp] at a7
      have ar:Bg ops (λk => listed.getD k false) i := by
        refine⟨λj k Z hk => ?_, λk hk => ?_, O⟩
        · obtain⟨oj, av, e, T, hb, X⟩ := Region.waitsFor_spec hk
          rw[← X];exact C.closed j oj av Z e T hb
        · obtain⟨oi, aw, e, T, hb, X⟩ := Region.waitsFor_spec hk
          have:oi=o := wY (aw.symm.trans I)
          subst this
          rw[← X];exact u e T hb
      have step := H3.step (Q := ED c0 Q) (λ_ _ => rj) a8 hp I a7 b2 a6 ar E
      refine wpOp_mono (λa' w' h' => ih _ a' w' ?_ (C.set hi V) h') step
      have := Wd a6 O ops.size
      rw[vh V] at this
      omega
  have Y:EF (Array.replicate ops.size false) ops.size=ops.size := WC B ops.size
  have ax:DD (λk => (Array.replicate ops.size false).getD k false) L 0=0 := by
    have:∀(l:List PE) (k:Nat), DD (λk => (Array.replicate ops.size false).getD k false) l k=0 := by
      intro l
      induction l with
      | nil => intro k;rfl
      | cons q l ih => intro k;unfold DD;rw[ih, B, yx]
    exact this L 0
  exact key ops.size _ a z.w Y ⟨by simp, λj oj _ hl => (by rw[B] at hl;cases hl), λt az ht => by omega⟩
    ⟨_, a1, hsz, z, s.h, s.n, by rw[ax];exact aa, rfl, ad.trans r1, r2, ag, ah, λt => by
      have e1:get (CI (λk => (Array.replicate ops.size false).getD k false) (λ_ => 0) s.e (L.map PE.po)) t=get s.e t := GU DQ (L.map PE.po) _ 0 λj p _ _ U => by rw[B] at U;cases U
      rw[e1];exact(T t).mono r1⟩
theorem uz{S:Gt}{u:Gv}(B:KH P S)(w:Jd P u){id:Nat}{s:St}{Q:Exit→St→Prop}(L:List PE)(q:List (AO × Nat)){h':AO}{n':Nat}(C:P.follows .mixedOrders=true)(hB:Xl P S u ops s L q=true)(j:q[DD (λ_=>true) L 0]?=some (h',n'))
  (h:Q .normal ⟨CI (λ_=>true) (λ_=>0) s.e (L.map PE.po),h',n',s.N⟩):AW P (.region id ops true) Q s:=by
 unfold Xl at hB
 rw[vm] at hB
 obtain⟨l,E⟩:=hB
 refine hM (CK:=Ri P S u ops q) L q (λR k o p h n F A=>sk B w F A) C ?_ E j h
 split at l
 ·rename_i J M I
  rw[vm] at l
  rw[I,Oz l.1,vx l.2]
 ·cases l
end
section
variable{P:Program}{c:Bool}{o:Oper}{R:AX}{h:AO}{n:Nat}
variable{α:Type}{f:α→List RV}
end
section
variable{P:Program}{c:Bool}{o:Oper}{R:AX}{h:AO}{n:Nat}
end
end Go.Proofs.YtgcalnmhoifpoaaGreatDoor.Al
